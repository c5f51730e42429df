/- Part of the proof; no condition. -/
import Derived.Test.YtdcpgpngdcfhhaaGreatMa
import Derived.Laws.StructEq
import Derived.Laws.BytesString
import Derived.Laws.NewFold
import Derived.Laws.IdiomCopy
import Derived.LoopN
import Derived.Orders
set_option linter.unusedVariables false
set_option linter.unusedSimpArgs false
namespace Go.Proofs.YtdcpgpngdcfhhaaGreat
open Go.RowKit
def l9:List Value→Nat→List Value→List Value
 | cs,_,[]=>cs
 | cs,off,v :: r=>l9 (cs.set off v) (off+1) r
theorem tM(vs:List Value):∀(s off:Nat) (cs:Array Value),((vs.zipIdx s).foldl (fun cs (x:Value×Nat)=>cs.setIfInBounds (off+x.2) x.1) cs).toList=l9 cs.toList (off+s) vs:=by
 induction vs with
 | nil=>intro s off cs;rfl
 | cons v r ih=>
  intro s off cs;simp only[List.zipIdx_cons,List.foldl_cons,l9];rw[ih];simp[Nat.add_assoc]
theorem Fc(vs:List Value):∀(off:Nat) (cs:List Value),(l9 cs off vs).length=cs.length:=by
 induction vs with
 | nil=>intro off cs;rfl
 | cons v r ih=>intro off cs;simp[l9,ih]
theorem Fb(vs:List Value):∀(pre suf:List Value),vs.length≤suf.length→l9 (pre++suf) pre.length vs=pre++vs++suf.drop vs.length:=by
 induction vs with
 | nil=>intro pre suf _;simp[l9]
 | cons v r ih=>
  intro pre suf h
  cases suf with
  | nil=>simp at h
  | cons u suf=>
   simp only[l9,List.set_append_right _ _ (Nat.le_refl _),Nat.sub_self,List.set_cons_zero];have:=ih (pre++[v]) suf (by simpa using h);simp only[List.length_append,List.length_singleton,List.append_assoc,List.singleton_append] at this;rw[this];simp
theorem FT{sz:Nat}:∀(l:List (Nat×Value)) (k:Nat) (pre suf:List Value),l.map (·.1)=List.range' k l.length→(∀p∈l,p.2.cells.size=sz)→pre.length=k*sz→suf.length=l.length*sz →
 Instr.fill (fun i=>some (i*sz,sz)) (pre++suf).toArray l=some (pre++l.flatMap (·.2.cells.toList)).toArray:=by
 intro l
 induction l with
 | nil=>intro k pre suf _ _ _ h;have:suf=[]:=List.eq_nil_of_length_eq_zero (by simpa using h);subst this;simp[Instr.fill]
 | cons p l ih=>
  obtain⟨i,v⟩:=p;intro k pre suf h1 h2 h3 h4;simp only[List.map_cons,List.length_cons,List.range'_succ,List.cons.injEq] at h1;obtain⟨rfl,h1⟩:=h1;have hv:v.cells.size=sz:=h2 (i,v) (by simp);simp only[Instr.fill,hv,ne_eq,not_true_eq_false,false_or]
  have hsuf:sz≤suf.length:=by rw[h4,List.length_cons,Nat.succ_mul];omega
  rw[if_neg (by simp;omega)];have hf:=tM v.cells.toList 0 (i*sz) (pre++suf).toArray
  have hz:v.cells.zipIdx.foldl (fun cs x=>cs.setIfInBounds (i*sz+x.2) x.1) (pre++suf).toArray=(pre++v.cells.toList++suf.drop sz).toArray:=by
   apply Array.ext'
   have e:v.cells.zipIdx.foldl (fun cs x=>cs.setIfInBounds (i*sz+x.2) x.1) (pre++suf).toArray=(v.cells.toList.zipIdx 0).foldl (fun cs (x:Value×Nat)=>cs.setIfInBounds (i*sz+x.2) x.1) (pre++suf).toArray:=by
    rw[← Array.foldl_toList,Array.toList_zipIdx]
   rw[e,hf,← h3,Nat.add_zero];simp only[List.toList_toArray];rw[Fb _ _ _ (by simpa [hv] using hsuf)];simp[hv]
  have hz':(v.cells.zipIdx.foldl (fun cs x=>match x with | (c,j)=>cs.setIfInBounds (i*sz+j) c) (pre++suf).toArray)=(pre++v.cells.toList++suf.drop sz).toArray:=hz;rw[hz',ih (i+1) (pre++v.cells.toList) (suf.drop sz) h1 (fun p hp=>h2 p (by simp[hp])) (by simp[h3,hv,Nat.succ_mul]) (by rw[List.length_drop,h4,List.length_cons,Nat.succ_mul];omega)];simp
theorem xC(sz:Nat):∀(n:Nat) (l:List TV),l.length=n*sz→(mn sz n l).flatten=l∧(mn sz n l).length=n∧∀i (h:i < (mn sz n l).length),(mn sz n l)[i].length=sz:=by
 intro n
 induction n with
 | zero=>intro l h;have:l=[]:=List.eq_nil_of_length_eq_zero (by simpa using h);subst this;exact⟨rfl,rfl,fun i h=>by simp[mn] at h⟩
 | succ n ih=>
  intro l h
  have hl:sz≤l.length:=by rw[h,Nat.succ_mul];omega
  obtain⟨e1,e2,e3⟩:=ih (l.drop sz) (by rw[List.length_drop,h,Nat.succ_mul];omega);refine⟨by simp[mn,e1],by simp[mn,e2],fun i hi=>?_⟩
  cases i with
  | zero=>simp[mn];omega
  | succ i=>simpa [mn] using e3 i (by simpa [mn] using hi)
section
variable {P:Program} {M:Fm} {σ σ':St} {H:List TV} {xs:List Value} {ts:Array Value} {w:World} {G:Gh} {a:Act} {o:Oper}
theorem oG{mv:Bool}:∀{parts:List (Nat×Nat×Opd)}{pv:List Operand}{l:List TV}{σ σ':St}{H:List TV}{xs:List Value}{G:Gh},Inv M σ H xs a.tmps w G→pv.map dJ=parts.map (fun p=>some p.2.2) →
 (takeParts mv parts).run σ=some (l,σ')→∃G',lT M w a.tmps σ H G σ' (H++l) (xs++pv.flatMap fun x=>(a.eval x).cells.toList) G'∧(∀j (h:j < l.length),eX l[j]=true∨mu l[j]=true) ∧
  (∀k (h:k < parts.length) (h':k < pv.length),(a.eval pv[k]).cells.size=parts[k].2.1):=by
 intro parts
 induction parts with
 | nil=>
  intro pv l σ σ' H xs G hI hp hr;simp only[takeParts,SP.run,oSJ,oPJ] at hr;obtain⟨rfl,rfl⟩:=hr
  have:pv=[]:=by cases pv<;>simp at hp ⊢
  subst this;exact⟨G,by simpa using lT.refl hI,fun j h=>by simp at h,fun k h=>by simp at h⟩
 | cons p parts ih=>
  obtain⟨off,n,x⟩:=p;intro pv l σ σ' H xs G hI hp hr
  cases pv with
  | nil=>simp at hp
  | cons y pv=>
   simp only[List.map_cons,List.cons.injEq] at hp;obtain⟨hy,hp⟩:=hp;simp only[takeParts] at hr;obtain⟨t,σ1,h1,h2⟩:=SP.run_bind_some hr
   have hopd:σ1=σ∧TmR w (G.F M.A) σ.v (ee M σ H) G t (a.eval y):=by
    cases y with
    | tmp i=>
     simp only[dJ,oSJ] at hy;subst hy;simp only[opd,SP.run,oSJ,oPJ] at h1;obtain⟨rfl,rfl⟩:=h1;exact⟨rfl,hI.tmr i⟩
    | const v=>
     simp only[dJ,oSJ] at hy;subst hy;simp only[opd,SP.run,oSJ,oPJ] at h1;obtain⟨rfl,rfl⟩:=h1;exact⟨rfl,xY v⟩
    | func f=>
     simp only[dJ,oSJ] at hy;subst hy;simp only[opd,SP.run,oSJ,oPJ] at h1;obtain⟨rfl,rfl⟩:=h1;exact⟨rfl,.fn (by simp) (by simp)⟩
    | global g=>simp[dJ] at hy
   obtain⟨rfl,ht⟩:=hopd;obtain⟨l1,σ2,h3,h4⟩:=SP.run_bind_some h2;split at h4
   case isFalse=>simp[SP.run] at h4
   rename_i hn;obtain⟨l2,σ3,h5,h6⟩:=SP.run_bind_some h4;simp only[SP.run,oSJ,oPJ] at h6;obtain⟨rfl,rfl⟩:=h6
   have hc:∃G',lT M w a.tmps σ1 H G σ2 (H++l1) (xs++(a.eval y).cells.toList) G'∧l1.length=(a.eval y).cells.size:=by
    by_cases hta:∃q,t=.agg q
    ·obtain⟨q,rfl⟩:=hta;obtain⟨zs,hz,hl,hj⟩:=F6 ht;obtain⟨e1,e2,G',hg⟩:=pK (ys:=zs.toList) hI (by simp[hl,nz]) (fun j h=>by have h':j < q.length:=h;have:=hj j h';simpa [nz] using this) h3;rw[hz];exact⟨G',by simpa [Value.cells] using hg,by rw[e1];simp[nz,Value.cells,hl]⟩
    ·have e:nz t=[t]:=by cases t<;>first | rfl | exact absurd ⟨_,rfl⟩ hta
     rw[e] at h3
     have hnx:(a.eval y).cells=#[a.eval y]:=by
      simp only[takeL] at h3;obtain⟨t',σ1,h1,h2⟩:=SP.run_bind_some h3;obtain⟨G',hg,ho⟩:=iM hI ht h1;generalize a.eval y=z at ho
      cases z<;>first | rfl | simp[Value.oneCell'] at ho
     obtain⟨e1,e2,G',hg⟩:=pK (l:=[t]) (ys:=[a.eval y]) hI (by simp) (fun j h=>by
      obtain rfl:j=0:=by simp at h;omega
      simpa using ht) h3
     rw[hnx];exact⟨G',by simpa using hg,by rw[e1];rfl⟩
   obtain⟨G1,g1,e1⟩:=hc;obtain⟨G2,g2,ok2,sz2⟩:=ih g1.1 hp h5;refine⟨G2,by simpa using g1.trans g2,fun j hj=>?_,fun k hk hk'=>?_⟩
   ·by_cases hjl:j < l1.length
    ·rw[List.getElem_append_left hjl];exact pL h3 j hjl
    ·rw[List.getElem_append_right (by omega)];exact ok2 _ _
   ·cases k with
    | zero=>simp only[List.getElem_cons_zero];rw[← e1];exact hn
    | succ k=>simpa using sz2 k (by simpa using hk) (by simpa using hk')
theorem K1(hI:Inv M σ [] [] a.tmps w G) {d sz len:Nat}{mv:Bool}(hd:o.dst=some d) (hN:d < M.N) {t e:TypeId}{parts:Array (Nat×Operand)}{ps:List Opd}{i:TypeInfo}(ho:o.op=.buildSlice t len parts) (hu:P.underlying t=some (.slice e)) (hi:P.info? e=some i) (hsz:i.size=sz)
 (hz:0 < len*sz→∃z,i.zero=some z) (hp1:parts.toList.map (·.1)=List.range len) (hp2:parts.toList.map (fun p=>dJ p.2)=ps.map some) (hmax:len*sz≤16777216) (hlm:len≤16777216) (hr:(ev1 d (.bsl sz mv len ps)).run σ=some ((),σ')):mr P M σ' a o w:=by
 simp only[ev1] at hr;obtain⟨l,σ1,h1,h2⟩:=SP.run_bind_some hr;split at h2
 case isFalse=>simp[SP.run] at h2
 rename_i hlen;obtain⟨G1,g1,hok,hsz2⟩:=oG (a:=a) (pv:=parts.toList.map (·.2)) hI (by simpa [Function.comp_def] using hp2) h1;simp only[List.nil_append] at g1
 have hplen:parts.toList.length=len:=by have:=congrArg List.length hp1;simpa using this
 have hcs:∀p∈parts.toList.map (fun p=>(p.1,a.eval p.2)),p.2.cells.size=sz:=by
  intro p hp;obtain⟨k,hk,rfl⟩:=List.getElem_of_mem hp
  have hk':k < parts.toList.length:=by simpa using hk
  have:=hsz2 k (by simp;omega) (by simpa using hk');simpa using this
 have hvals:(parts.toList.map (·.2)).flatMap (fun x=>(a.eval x).cells.toList)=(parts.toList.map (fun p=>(p.1,a.eval p.2))).flatMap (·.2.cells.toList):=by
  simp[List.flatMap_map]
 have hll:l.length=len*sz:=by
  have hh:=g1.1.hand;rw[hh,hvals]
  have key:∀(q:List (Nat×Value)),(∀p∈q,p.2.cells.size=sz)→(q.flatMap (·.2.cells.toList)).length=q.length*sz:=by
   intro q
   induction q with
   | nil=>intro _;simp
   | cons p q ih=>intro h;simp only[List.flatMap_cons,List.length_append,ih (fun p hp=>h p (by simp[hp])),List.length_cons,Nat.succ_mul];have:=h p (by simp);simp[this];omega
  rw[key _ hcs];simp[hplen]
 obtain⟨c1,c2,c3⟩:=xC sz len l hll;obtain⟨G2,hI2,_,_⟩:=g1.1.mkSlice (c:=mn sz len l) e c3 c1 (wg hok) (by rw[c2];unfold maxLen;omega);rw[c2] at hI2;refine sW hI2 hd hN (fun j hj=>?_) h2 (.inr ⟨rfl,_,rfl,rfl⟩) (w0:=w) ?_
 ·obtain rfl:j=0:=by simp at hj;omega
  exact .inr rfl
 ·
  have hfill:∀zc:List Value,zc.length=len*sz→Instr.fill (fun i=>some (i*sz,sz)) zc.toArray (parts.map fun p=>(p.1,a.eval p.2)).toList=some ((parts.toList.map (·.2)).flatMap fun x=>(a.eval x).cells.toList).toArray:=by
   intro zc hzc;have:=FT (sz:=sz) (parts.toList.map (fun p=>(p.1,a.eval p.2))) 0 [] zc (by simp[Function.comp_def,hp1,hplen,List.range_eq_range']) hcs (by simp) (by simpa [hplen] using hzc);rw[hvals];simpa using this
  have hno:¬ (16777216 < len*sz):=by omega
  have hso:(sizeOf e).run P w=.ok sz w:=by simp[sizeOf,typeInfo,hi,hsz]
  by_cases h0:len*sz=0
  ·have hf:=hfill [] (by simp[h0])
   have hr0:(Array.range (len*sz)).map (fun(x:Nat)=>(#[]:Array Value)[x % (#[]:Array Value).size]!)=([]:List Value).toArray:=by rw[h0];simp
   simp only[execOp,ho,Instr.buildSlice,Sem.run_bind,run_underlying hu,Result.andThen_ok,hso,h0,Sem.run_ite,if_true,Sem.run_pure];rw[if_neg (by omega)]
   try simp only[Result.andThen_ok]
   rw[show (Array.range 0).map (fun(x:Nat)=>(#[]:Array Value)[x % (#[]:Array Value).size]!)=([]:List Value).toArray by simp,hf];simp[newRow]
  ·obtain⟨z,hz⟩:=hz (by omega)
   have hzv:(zeroValue e).run P w=.ok z w:=by simp[zeroValue,typeInfo,hi,hz]
   have hf:=hfill ((Array.range (len*sz)).map (fun x=>z.cells[x % z.cells.size]!)).toList (by simp);simp only[Array.toArray_toList] at hf;simp only[execOp,ho,Instr.buildSlice,Sem.run_bind,run_underlying hu,Result.andThen_ok,hso,Sem.run_ite,Sem.run_pure];rw[if_neg (by omega),if_neg h0];simp only[Result.andThen_ok,hzv];rw[hf];simp[newRow]
end
theorem MY.place{R:TV→Value→Prop}:∀(l:List TV) (ys:List Value) (cells:List TV) (vals:List Value) (off:Nat),cells.length=vals.length→(∀j (h:j < cells.length) (h':j < vals.length),R cells[j] vals[j])→l.length=ys.length→(∀j (h:j < l.length) (h':j < ys.length),R l[j] ys[j]) →
 (jd cells off l).length=(l9 vals off ys).length∧∀j (h:j < (jd cells off l).length) (h':j < (l9 vals off ys).length),R (jd cells off l)[j] (l9 vals off ys)[j]:=by
 intro l
 induction l with
 | nil=>
  intro ys cells vals off h1 h2 h3 _;have:ys=[]:=List.eq_nil_of_length_eq_zero h3.symm;subst this;exact⟨h1,h2⟩
 | cons t l ih=>
  intro ys cells vals off h1 h2 h3 h4
  cases ys with
  | nil=>simp at h3
  | cons y ys=>
   simp only[jd,l9];refine ih ys _ _ _ (by simp[h1]) (fun j h h'=>?_) (by simpa using h3) (fun j h h'=>h4 (j+1) (by simpa using h) (by simpa using h'));simp only[List.getElem_set];by_cases hj:off=j
   ·simp only[hj,if_true];exact h4 0 (by simp) (by simp)
   ·simp only[if_neg hj];exact h2 j (by simpa using h) (by simpa using h')
def mj:List Value→List (Nat×Nat×Opd)→List Value→List Value
 | vals,[],_=>vals
 | vals,(off,n,_) :: r,ys=>mj (l9 vals off (ys.take n)) r (ys.drop n)
theorem MY.assemble{R:TV→Value→Prop}:∀(parts:List (Nat×Nat×Opd)) (l:List TV) (ys:List Value) (cells:List TV) (vals:List Value),cells.length=vals.length→(∀j (h:j < cells.length) (h':j < vals.length),R cells[j] vals[j])→l.length=ys.length→(∀j (h:j < l.length) (h':j < ys.length),R l[j] ys[j]) →
 (assemble cells parts l).length=(mj vals parts ys).length∧∀j (h:j < (assemble cells parts l).length) (h':j < (mj vals parts ys).length),R (assemble cells parts l)[j] (mj vals parts ys)[j]:=by
 intro parts
 induction parts with
 | nil=>intro l ys cells vals h1 h2 _ _;exact⟨h1,h2⟩
 | cons p parts ih=>
  obtain⟨off,n,x⟩:=p;intro l ys cells vals h1 h2 h3 h4;obtain⟨g1,g2⟩:=MY.place (R:=R) (l.take n) (ys.take n) cells vals off h1 h2 (by simp[h3]) (fun j h h'=>by simp only[List.getElem_take];exact h4 j _ _);exact ih (l.drop n) (ys.drop n) _ _ g1 g2 (by simp[h3]) (fun j h h'=>by simp only[List.getElem_drop];exact h4 _ _ _)
theorem vL{place:Nat→Option (Nat×Nat)}:∀(l:List (Nat×Value)) (parts:List (Nat×Nat×Opd)) (cells:Array Value),l.length=parts.length→(∀k (h:k < l.length) (h':k < parts.length),place l[k].1=some (parts[k].1,parts[k].2.1)∧l[k].2.cells.size=parts[k].2.1∧parts[k].1+parts[k].2.1≤cells.size) →
 Instr.fill place cells l=some (mj cells.toList parts (l.flatMap (·.2.cells.toList))).toArray:=by
 intro l
 induction l with
 | nil=>intro parts cells h _;have:parts=[]:=List.eq_nil_of_length_eq_zero (by simpa using h.symm);subst this;simp[Instr.fill,mj]
 | cons p l ih=>
  obtain⟨i,v⟩:=p;intro parts cells h1 h2
  cases parts with
  | nil=>simp at h1
  | cons q parts=>
   obtain⟨off,n,x⟩:=q;have h0:=h2 0 (by simp) (by simp);simp only[List.getElem_cons_zero] at h0;obtain⟨p1,p2,p3⟩:=h0;have p2':v.cells.size=n:=p2;have p3':off+n≤cells.size:=p3;have p1':place i=some (off,n):=p1;simp only[Instr.fill,p1'];rw[if_neg (by simp[p2'];omega)]
   have hz:v.cells.zipIdx.foldl (fun cs x=>cs.setIfInBounds (off+x.2) x.1) cells=(l9 cells.toList off v.cells.toList).toArray:=by
    apply Array.ext'
    have e:v.cells.zipIdx.foldl (fun cs x=>cs.setIfInBounds (off+x.2) x.1) cells=(v.cells.toList.zipIdx 0).foldl (fun cs (x:Value×Nat)=>cs.setIfInBounds (off+x.2) x.1) cells:=by
     rw[← Array.foldl_toList,Array.toList_zipIdx]
    rw[e,tM];simp
   have hz':(v.cells.zipIdx.foldl (fun cs x=>match x with | (c,j)=>cs.setIfInBounds (off+j) c) cells)=(l9 cells.toList off v.cells.toList).toArray:=hz;rw[hz',ih parts _ (by simpa using h1) (fun k h h'=>by have:=h2 (k+1) (by simpa using h) (by simpa using h');simpa [Fc] using this)]
   have hn:v.cells.toList.length=n:=by simpa using p2
   simp only[mj,List.flatMap_cons];rw[← hn,List.take_left,List.drop_left]
section
variable {P:Program} {M:Fm} {σ σ':St} {H:List TV} {xs:List Value} {ts:Array Value} {w:World} {G:Gh} {a:Act} {o:Oper}
theorem uY(fields:List Field) (sz:Field→Nat) (h:∀f∈fields,(sizeOf f.type).run P w=.ok (sz f) w):((fields.mapM fun f=>do pure (f.offset,← sizeOf f.type):Sem (List (Nat×Nat)))).run P w=.ok (fields.map fun f=>(f.offset,sz f)) w:=by
 induction fields with
 | nil=>simp
 | cons f r ih=>
  simp only[List.mapM_cons,Sem.run_bind,h f (by simp),Result.andThen_ok,ih (fun f hf=>h f (by simp[hf])),Sem.run_pure,List.map_cons]
theorem K3(hI:Inv M σ [] [] a.tmps w G) {d:Nat}{mv:Bool}(hd:o.dst=some d) (hN:d < M.N) {t:TypeId}{parts:Array (Nat×Operand)}{ps:List (Nat×Nat×Opd)}{z:List Value}{fields:Array Field}{szf:Field→Nat}(ho:o.op=.build t parts) (hu:P.underlying t=some (.struct fields))
 (hz:(P.info? t).bind (·.zero.map (·.cells.toList))=some z) (hsz:∀f∈fields.toList,(P.info? f.type).map (·.size)=some (szf f)) (hp1:parts.size=ps.length)
 (hp2:∀k (h:k < parts.size) (h':k < ps.length),dJ parts[k].2=some ps[k].2.2∧((fields[parts[k].1]?).map fun f=>(f.offset,szf f))=some (ps[k].1,ps[k].2.1)∧ps[k].1+ps[k].2.1≤z.length)
 (hr:(ev1 d (.bld z mv ps)).run σ=some ((),σ')):mr P M σ' a o w:=by
 simp only[ev1] at hr;split at hr
 case isFalse=>simp[SP.run] at hr
 rename_i hok;obtain⟨l,σ1,h1,h2⟩:=SP.run_bind_some hr;obtain⟨l',σ2,h3,h4⟩:=SP.run_bind_some h2
 obtain⟨G1,g1,hokl,hsz2⟩:=oG (a:=a) (pv:=parts.toList.map (·.2)) hI (by
  apply List.ext_getElem
  ·simp[hp1]
  ·intro k hk hk';have:=(hp2 k (by simpa using hk) (by simpa using hk')).1
   simpa using this) h1
 simp only[List.nil_append] at g1;obtain⟨G2,hI2,_,hl2,ht2⟩:=uD g1.1 hokl h3;obtain⟨ys,hys⟩:∃ys,ys=(parts.toList.map (·.2)).flatMap (fun x=>(a.eval x).cells.toList):=⟨_,rfl⟩;rw[← hys] at g1 ht2
 have hlen:l'.length=ys.length:=by rw[hl2];exact g1.1.hand
 have hzc:∀j (h:j < (z.map fk).length) (h':j < z.length),TmR w (G2.F M.A) σ2.v (ee M σ2 []) G2 (z.map fk)[j] z[j]:=fun j h h'=>by simp only[List.getElem_map];exact rx _
 obtain⟨r1,r2⟩:=MY.assemble (R:=TmR w (G2.F M.A) σ2.v (ee M σ2 []) G2) ps l' ys (z.map fk) z (by simp) hzc hlen (fun j h h'=>by have:=ht2 j h;simpa [h'] using this);refine gk hI2 hd hN (x:=.agg (mj z ps ys).toArray) (.agg (by simp[r1]) fun j hj=>by have:=r2 j hj (by omega);simpa [show j < (mj z ps ys).length by omega] using this) h4 ?_
 cases hi:P.info? t with
 | none=>simp[hi] at hz
 | some i=>
  simp only[hi,oBS] at hz
  cases hiz:i.zero with
  | none=>simp[hiz] at hz
  | some v=>
   simp only[hiz,Option.map_some,oSJ] at hz
   have hzv:(zeroValue t).run P w=.ok v w:=by simp[zeroValue,typeInfo,hi,hiz]
   have hso:∀f∈fields.toList,(sizeOf f.type).run P w=.ok (szf f) w:=by
    intro f hf;have:=hsz f hf;unfold sizeOf typeInfo
    cases hi:P.info? f.type with
    | none=>simp[hi] at this
    | some i=>simp[hi] at this;simp[hi,this]
   have hm:=uY fields.toList szf hso
   have hma:((fields.mapM fun f=>do pure (f.offset,← sizeOf f.type):Sem (Array (Nat×Nat)))).run P w=.ok (fields.map fun f=>(f.offset,szf f)) w:=by
    rw[Array.mapM_eq_mapM_toList];simp only[Sem.run_map,hm,Result.andThen_ok];congr 1;apply Array.ext';simp
   have hfill:=vL (place:=fun i=>(fields.map fun f=>(f.offset,szf f))[i]?) (parts.toList.map fun p=>(p.1,a.eval p.2)) ps v.cells (by simp[hp1]) (fun k h h'=>by
    have hk:k < parts.size:=by simpa using h
    obtain⟨q1,q2,q3⟩:=hp2 k hk h';have q4:=hsz2 k h' (by simpa using hk);refine⟨by simpa using q2,by simpa using q4,?_⟩;rw[← hz] at q3
    simpa using q3)
   have hfl:((parts.toList.map fun p=>(p.1,a.eval p.2)).flatMap (·.2.cells.toList))=ys:=by rw[hys];simp[List.flatMap_map]
   rw[hfl,hz] at hfill;simp only[execOp,ho,Instr.build,Sem.run_bind,hzv,Result.andThen_ok,run_underlying hu,hma,Array.toList_map];rw[hfill];simp
end
section
variable {P:Program} {M:Fm} {σ σ':St} {H:List TV} {xs:List Value} {ts:Array Value} {w:World} {G:Gh} {a:Act} {o:Oper}
theorem m9.window'{F:Nat→Prop}{c:List (List TV)}{a0:Option Addr}{len cap:Nat}(h:m9 w F (.sl c) (.slice a0 len cap)) (sz lo n:Nat) (hs:∀i (h:i < c.length),c[i].length=sz) (hln:lo+n≤c.length) {a:Option Addr}{cap':Nat}(hn:n≤cap')
 (hm:cap'≤maxLen) (hnil:a=none→cap'=0) (ha:∀b o,0 < n→a0=some ⟨b,o,none⟩→a=some ⟨b,o+lo*sz,none⟩):m9 w F (.sl ((c.drop lo).take n)) (.slice a n cap'):=by
 cases h with
 | sl sz' u hsz hcap hmax hnil' hcell hrec=>
  have hl:((c.drop lo).take n).length=n:=by simp;omega
  have key:=m9.sl (w:=w) (F:=F) (c:=(c.drop lo).take n) (a:=a) (cap:=cap') sz (fun i j=>u (lo+i) j) (fun i hi=>by
   have:i < n:=by omega
   simp only[List.getElem_take,List.getElem_drop];exact hs _ (by omega)) (by omega) hm hnil (fun i j hi hj=>by
   have hi':i < n:=by omega
   have hz:sz'=sz:=by rw[← hsz (lo+i) (by omega),hs (lo+i) (by omega)]
   subst hz;obtain⟨b',o',e,hF,hc⟩:=hcell (lo+i) j (by omega) hj
   exact⟨b',o'+lo*sz',ha _ _ (by omega) e,hF,by rw[show o'+lo*sz'+(i*sz'+j)=o'+((lo+i)*sz'+j) by rw[Nat.add_mul];omega];exact hc⟩) (fun i j hi hj=>by
   have hi':i < n:=by omega
   have:=hrec (lo+i) j (by omega) (by simpa [List.getElem_take,List.getElem_drop] using hj)
   simpa [List.getElem_take,List.getElem_drop] using this)
  rw[hl] at key;exact key
theorem AV{F:Nat→Prop}(hI:Inv M σ [] [] a.tmps w G) {q:Option Opd}{q':Option Operand}{L5 n:Nat}(hq:q'.map dJ=q.map some) (hr:(optNat q L5).run σ=some (n,σ')) :
 σ'=σ∧((q'=none∧n=L5)∨∃x k i,q'=some x∧a.eval x=.int k i∧0≤i∧n=i.toNat):=by
 cases q with
 | none=>
  cases q' with
  | none=>
   simp only[optNat,SP.run,oSJ,oPJ] at hr;exact⟨hr.2.symm,.inl ⟨rfl,hr.1.symm⟩⟩
  | some _=>simp at hq
 | some x=>
  cases q' with
  | none=>simp at hq
  | some x'=>
   simp only[Option.map_some,oSJ] at hq;simp only[optNat] at hr;obtain⟨t,σ1,h1,h2⟩:=SP.run_bind_some hr;obtain⟨rfl,ht⟩:=eM hI.tmr hq h1;obtain⟨k,i,rfl,h0,hn,rfl⟩:=pS h2;exact⟨rfl,.inr ⟨x',k,i,rfl,ht.v_inv.1,h0,hn⟩⟩
theorem nn{x:Value}{k:IntKind}{i:Int}{y:Nat}{code:BoundsCode}(hx:x=.int k i) (h0:0≤i) (hy:i.toNat≤y):(Instr.sliceBound x y code).run P w=.ok i.toNat w:=by
 subst hx
 have:i≤(y:Int):=by omega
 simp[Instr.sliceBound,asIntOf,h0,this]
def uO:Operand→Bool
 | .const (.int _ i)=>i==0
 | _=>false
def Gf:Option Operand→Bool
 | none=>true
 | some x=>uO x
theorem qH{x:Operand}(h:uO x=true):∃k,a.eval x=.int k 0:=by
 unfold uO at h;split at h
 ·rename_i k i
  have:i=0:=by simpa using h
  subst this;exact⟨k,rfl⟩
 ·cases h
theorem KZ(hI:Inv M σ [] [] a.tmps w G) {d sz:Nat}(hd:o.dst=some d) (hN:d < M.N) {x:Opd}{x':Operand}{lo':Option Operand}{hi' mx':Operand}{t e:TypeId}(hx:dJ x'=some x) (ho:o.op=.slice t x' lo' (some hi') (some mx'))
 (hlo:Gf lo'=true) (hhi:uO hi'=true) (hmx:uO mx'=true) (hu:P.underlying t=some (.slice e)) (hs:(P.info? e).map (·.size)=some sz) (hr:(ev1 d (.emp x)).run σ=some ((),σ')):mr P M σ' a o w:=by
 have hso:(sizeOf e).run P w=.ok sz w:=by
  unfold sizeOf typeInfo
  cases hi:P.info? e with
  | none=>simp[hi] at hs
  | some i=>simp[hi] at hs;simp[hi,hs]
 simp only[ev1] at hr;obtain⟨tx,σ1,h1,h2⟩:=SP.run_bind_some hr;obtain⟨rfl,hx1⟩:=eM hI.tmr hx h1;obtain⟨n,σ2,h3,h4⟩:=SP.run_bind_some h2;obtain⟨rfl,b,cap,hxx,hnc⟩:=vf (F:=G.F M.A) hI hx1 h3;obtain⟨k1,e1⟩:=qH (a:=a) hhi;obtain⟨k2,e2⟩:=qH (a:=a) hmx;have b1:=nn (P:=P) (w:=w) (y:=cap) (code:=.slice3Acap) e2 (Int.le_refl 0) (Nat.zero_le _);have b2:=nn (P:=P) (w:=w) (y:=0) (code:=.slice3B) e1 (Int.le_refl 0) (Nat.le_refl _)
 have hb:(Instr.sliceBounds true n cap (lo'.map a.eval) (some (a.eval hi')) (some (a.eval mx'))).run P w=.ok (0,0,0) w:=by
  unfold Instr.sliceBounds;simp only[Int.toNat_zero] at b1 b2
  cases lo' with
  | none=>simp[b1,b2]
  | some l=>
   obtain⟨k3,e3⟩:=qH (a:=a) (x:=l) hlo;have b3:=nn (P:=P) (w:=w) (y:=0) (code:=.slice3C) e3 (Int.le_refl 0) (Nat.le_refl _);simp only[Int.toNat_zero] at b3;simp[b1,b2,b3]
 refine zl (ad:=b) hI hd hN h4 ?_;simp[execOp,ho,hxx,Instr.sliceAt,run_underlying hu,Instr.slice,hb,hso]
theorem KN(hI:Inv M σ [] [] a.tmps w G) {d sz:Nat}(hd:o.dst=some d) (hN:d < M.N) {x:Opd}{x':Operand}{lo hi:Option Opd}{lo' hi':Option Operand}{t e:TypeId}(hx:dJ x'=some x) (hlo:lo'.map dJ=lo.map some) (hhi:hi'.map dJ=hi.map some) (ho:o.op=.slice t x' lo' hi' none)
 (hu:P.underlying t=some (.slice e)) (hs:(P.info? e).map (·.size)=some sz) (hr:(ev1 d (.slc sz x lo hi)).run σ=some ((),σ')):mr P M σ' a o w:=by
 have hso:(sizeOf e).run P w=.ok sz w:=by
  unfold sizeOf typeInfo
  cases hi:P.info? e with
  | none=>simp[hi] at hs
  | some i=>simp[hi] at hs;simp[hi,hs]
 simp only[ev1] at hr;obtain⟨tx,σ1,h1,h2⟩:=SP.run_bind_some hr;obtain⟨rfl,hx1⟩:=eM hI.tmr hx h1;obtain⟨n,σ2,h3,h4⟩:=SP.run_bind_some h2;obtain⟨rfl,hlen⟩:=vf (F:=G.F M.A) hI hx1 h3;obtain⟨l,σ3,h5,h6⟩:=SP.run_bind_some h4;obtain⟨rfl,hl⟩:=AV (F:=G.F M.A) hI hlo h5;obtain⟨h,σ4,h7,h8⟩:=SP.run_bind_some h6;obtain⟨rfl,hh⟩:=AV (F:=G.F M.A) hI hhi h7;split at h8
 case isFalse=>simp[SP.run] at h8
 rename_i hcond;simp only[Bool.and_eq_true,decide_eq_true_eq] at hcond;obtain⟨hlh,hhn⟩:=hcond
 have run:∀(b:Option Addr) (cap:Nat),a.eval x'=.slice b n cap→n≤cap→(execOp a.eval o).run P w=.ok (.value (.slice (if cap=l then b else b.map (·.add (l*sz))) (h - l) (cap - l))) w:=by
  intro b cap hxx hnc
  have hb:(Instr.sliceBounds true n cap (lo'.map a.eval) (hi'.map a.eval) none).run P w=.ok (l,h,cap) w:=by
   unfold Instr.sliceBounds;rcases hh with ⟨rfl,rfl⟩ | ⟨xh,kh,ih,rfl,eh,h0h,rfl⟩
   ·rcases hl with ⟨rfl,rfl⟩ | ⟨xl,kl,il,rfl,el,h0l,rfl⟩
    ·simp
    ·have:=nn (P:=P) (w:=w) (code:=.sliceB) el h0l hlh;simp[this]
   ·have hbh:=nn (P:=P) (w:=w) (y:=cap) (code:=.sliceAcap) eh h0h (by omega);rcases hl with ⟨rfl,rfl⟩ | ⟨xl,kl,il,rfl,el,h0l,rfl⟩
    ·simp[hbh]
    ·have:=nn (P:=P) (w:=w) (code:=.sliceB) el h0l hlh;simp[hbh,this]
  simp[execOp,ho,hxx,Instr.sliceAt,run_underlying hu,Instr.slice,hb,hso]
 have hcap:∀b n2 cap,a.eval x'=.slice b n2 cap→n2=n→n≤cap:=by
  intro b n2 cap e1 e2;obtain⟨aa,cap',e3,h9⟩:=hlen
  rw[e1] at e3;injection e3 with _ _ e3;omega
 cases tx with
 | sl c=>
  simp only at h8;generalize hz:a.eval x'=z at hx1 run hcap
  cases hx1 with
  | sl himm=>
   have himm':=himm
   cases himm with
   | @sl _ aa cap sz' u hsz hcap0 hmax hnil hcell hrec=>
    have hn:n=c.length:=by
     simp only[mf,SP.run,oSJ,oPJ] at h3;exact h3.1.symm
    subst hn;split at h8
    case isFalse=>simp[SP.run] at h8
    rename_i hall;simp only[List.all_eq_true,beq_iff_eq] at hall;refine gk hI hd hN (x:=.slice (if cap=l then aa else aa.map (·.add (l*sz))) (h - l) (cap - l)) (.sl ?_) h8 (run _ _ rfl hcap0);refine himm'.window' sz l (h - l) (fun i hi=>hall _ (List.getElem_mem hi)) (by omega) (by omega) (by omega) (fun hn=>?_) (fun b ob hp e1=>?_)
    ·by_cases hc:cap=l
     ·omega
     ·rw[if_neg hc] at hn
      have:aa=none:=by cases aa<;>simp at hn ⊢
      have:=hnil this;omega
    ·rw[if_neg (by omega),e1];simp[fm]
 | ow c=>
  obtain⟨rfl,ad,hxx⟩:=hx1.ow_inv
  have hn:n=0:=by
   simp only[mf,SP.run,oSJ,oPJ] at h3;exact h3.1.symm
  subst hn;simp only at h8;have:=run ad 0 hxx (Nat.le_refl _)
  have hl0:l=0:=by omega
  have hh0:h=0:=by omega
  subst hl0;subst hh0;exact zl hI hd hN h8 (by simpa using this)
 | pk p vs=>
  simp only at h8;obtain⟨tt,σ5,h9,h10⟩:=SP.run_bind_some h8;obtain⟨e3,hg⟩:=fG h9;have e3:σ5=σ4:=e3;subst e3;simp only[mf] at h3;obtain⟨_,σ6,q1,q2⟩:=SP.run_bind_some h3;have e1:σ6=σ5:=(dW q1).1;have e2:=(dW q1).2;subst e1;rw[zm] at q2;obtain⟨tt2,σ7,q3,q4⟩:=SP.run_bind_some q2;obtain⟨e4,hg2⟩:=fG q3;generalize hz:a.eval x'=z at hx1 run hcap;have ht:=hx1
  cases hx1 with
  | pk V0 h0 hv hok=>
   obtain⟨hr1,c,hhv,hgc⟩:=hok e2
   have hgc':d7 (σ6.c p.root p.off) p.hops=some (.ow c):=by rw[d9 (by exact hr1)] at hgc;exact hgc
   rw[hgc'] at hg hg2
   injection hg with hg
   injection hg2 with hg2
   subst hg;have hg2:TV.ow c=tt2:=hg2;subst hg2;simp only[TV.hd,SP.run,List.length_map,oSJ,oPJ] at q4;have hn:n=c.length:=q4.1.symm;subst hn;simp only at h10;split at h10
   case isFalse=>simp[SP.run] at h10
   rename_i hall;simp only[List.all_eq_true,beq_iff_eq] at hall;obtain⟨fp,hown⟩:=to hI hhv hgc;obtain⟨aa,cap,rfl,hle⟩:=hown.hdr;refine gk hI hd hN (x:=.slice (if cap=l then aa else aa.map (·.add (l*sz))) (h - l) (cap - l)) ?_ h10 (run _ _ rfl hle)
   have hmx:cap≤maxLen:=by
    cases hown with
    | nil=>exact Nat.zero_le _
    | ow=>assumption
   refine .pw V0 h0 hv fun _=>⟨hr1,c,_,hhv,hgc,by omega,_,_,rfl,by omega,by omega,fun hn=>?_,fun i hi=>hall _ (List.getElem_mem hi),fun hp=>?_⟩
   ·by_cases hc:cap=l
    ·omega
    ·rw[if_neg hc] at hn
     have:aa=none:=by cases aa<;>simp at hn ⊢
     subst this;cases hown;omega
   ·rw[if_neg (by omega)]
    cases hown with
    | nil=>
     have h00:h=0:=Nat.le_zero.1 hhn;rw[h00] at hp;simp at hp
    | ow=>exact⟨_,_,_,rfl,by simp[fm]⟩
 | pw p vs sz' lo0 n0=>
  simp only at h8;split at h8
  case isFalse=>simp[SP.run] at h8
  rename_i hsz;subst hsz;simp only[mf] at h3;obtain⟨_,σ6,q1,q2⟩:=SP.run_bind_some h3;have e1:σ6=σ4:=(dW q1).1;have e2:=(dW q1).2;subst e1;simp only[SP.run,oSJ,oPJ] at q2;have hn:n=n0:=q2.1.symm;subst hn;generalize hz:a.eval x'=z at hx1 run hcap
  cases hx1 with
  | pw V0 h0 hv hok=>
   obtain⟨hr1,c,hd1,hhv,hgc,hln,aa,cap,rfl,hmc,hmx,hnil,hszs,hpos0⟩:=hok e2;refine gk hI hd hN (x:=.slice (if cap=l then aa else aa.map (·.add (l*sz'))) (h - l) (cap - l)) ?_ h8 (run _ _ rfl hmc);refine .pw V0 h0 hv fun _=>⟨hr1,c,hd1,hhv,hgc,by omega,_,_,rfl,by omega,by omega,fun hn=>?_,hszs,fun hp=>?_⟩
   ·by_cases hc:cap=l
    ·omega
    ·rw[if_neg hc] at hn
     have:aa=none:=by cases aa<;>simp at hn ⊢
     have:=hnil this;omega
   ·rw[if_neg (by omega)];obtain⟨b,len,cap',rfl,rfl⟩:=hpos0 (by omega);exact⟨b,len,cap',rfl,by simp[fm,Nat.add_mul]⟩
 | _=>simp[SP.run] at h8
theorem AZ(z:List Value) (n:Nat):madeCells z.toArray (n*z.length)=((List.replicate n z).flatten).toArray:=by
 apply Array.ext';apply List.ext_getElem?;intro k;unfold madeCells;by_cases h:k < n*z.length
 ·have hz:0 < z.length:=by
   rcases Nat.eq_zero_or_pos z.length with h0 | h0
   ·rw[h0] at h;simp at h
   ·exact h0
  have h1:k / z.length < n:=Nat.div_lt_of_lt_mul (by rw[Nat.mul_comm];exact h);have h2:k % z.length < z.length:=Nat.mod_lt _ hz
  have hk:k=k / z.length*z.length+k % z.length:=by rw[Nat.mul_comm];exact (Nat.div_add_mod k z.length).symm
  have h3:=qX (c:=List.replicate n z) (sz:=z.length) (fun i hi=>by simp) (i:=k / z.length) (j:=k % z.length) (by simpa using h1) (by simpa using h2);rw[← hk] at h3
  have e:((Array.range (n*z.length)).map fun x=>z.toArray[x % z.toArray.size]!).toList[k]?=some z[k % z.length]:=by
   simp[h,h2]
  rw[e];simpa using h3.symm
 ·rw[List.getElem?_eq_none (by simp;omega),List.getElem?_eq_none (by simp;omega)]
theorem KS(hI:Inv M σ [] [] a.tmps w G) {d sz:Nat}{z:List Value}(hd:o.dst=some d) (hN:d < M.N) {l c:Opd}{l' c':Operand}{t e:TypeId}{i:TypeInfo}{zv:Value}(hl:dJ l'=some l) (hc:dJ c'=some c) (ho:o.op=.makeSlice t l' c')
 (hu:P.underlying t=some (.slice e)) (hi:P.info? e=some i) (hz:i.zero=some zv) (hzc:zv.cells.toList=z) (hsz:i.size=sz) (hby:i.bytes≤16777216*sz) (hsp:0 < sz) (hr:(ev1 d (.mks sz z l c)).run σ=some ((),σ')):mr P M σ' a o w:=by
 subst hsz;simp only[ev1] at hr;split at hr
 case isFalse=>simp[SP.run] at hr
 rename_i hcond;simp only[Bool.and_eq_true,beq_iff_eq] at hcond;obtain⟨hok,hzl⟩:=hcond;obtain⟨t1,σ1,h1,h2⟩:=SP.run_bind_some hr;obtain⟨rfl,hl1⟩:=eM hI.tmr hl h1;obtain⟨t2,σ2,h3,h4⟩:=SP.run_bind_some h2;obtain⟨rfl,hc1⟩:=eM hI.tmr hc h3;obtain⟨n,σ3,h5,h6⟩:=SP.run_bind_some h4;obtain⟨k1,i1,rfl,hn0,hn,rfl⟩:=pS h5;obtain⟨m,σ4,h7,h8⟩:=SP.run_bind_some h6;obtain⟨k2,i2,rfl,hm0,hm,rfl⟩:=pS h7;split at h8
 case isFalse=>simp[SP.run] at h8
 rename_i hcond;simp only[Bool.and_eq_true,decide_eq_true_eq] at hcond;obtain⟨hnm,hbound⟩:=hcond;obtain⟨el,_⟩:=hl1.v_inv;obtain⟨ec,_⟩:=hc1.v_inv
 have hn24:n≤16777216:=by
  calc n=n*1:=by omega
   _≤n*i.size:=Nat.mul_le_mul_left _ hsp
   _≤16777216:=hbound
 have hok2:(((List.replicate n z).flatten).map fk).all eX=true:=by
  rw[List.all_eq_true] at hok ⊢;intro x hx;simp only[List.mem_map,List.mem_flatten,List.mem_replicate] at hx;obtain⟨y,⟨q,⟨_,rfl⟩,hy⟩,rfl⟩:=hx;exact hok _ (List.mem_map_of_mem hy)
 obtain⟨G1,g1⟩:=hI.addHandL hok2;simp only[List.nil_append] at g1;have hcl:∀j (h:j < (((List.replicate n z).flatten).map fk).length),eX ((((List.replicate n z).flatten).map fk))[j]=true:=fun j h=>List.all_eq_true.1 hok2 _ (List.getElem_mem h);obtain⟨G2,hI2,_,_⟩:=g1.1.mkSlice (c:=List.replicate n (z.map fk)) (sz:=i.size) e (fun k hk=>by simp[hzl]) (by rw[List.map_flatten,List.map_replicate]) (wg fun j h=>.inl (hcl j h)) (by simp;unfold maxLen;omega);refine sW hI2 hd hN (fun j hj=>?_) h8 (.inr ⟨rfl,_,rfl,rfl⟩) (w0:=w) ?_
 ·obtain rfl:j=0:=by simp at hj;omega
  exact .inr rfl
 ·have hbb:(i.bytes:Int)*i2≤281474976710656:=by
   have h9:i.bytes*n≤16777216*i.size*n:=Nat.mul_le_mul_right _ hby
   have h10:16777216*i.size*n=16777216*(n*i.size):=by rw[Nat.mul_assoc,Nat.mul_comm i.size n]
   have h11:i.bytes*n≤281474976710656:=by rw[h10] at h9;omega
   have h12:i2=(n:Int):=by omega
   rw[h12,← Int.natCast_mul];exact Int.ofNat_le.2 h11
  have hrun:=run_make (P:=P) w t e i zv hu hi hz k1 k2 i1 i2 hn0 (by omega) hbb (by omega);have e1:i1.toNat=n:=hn.symm
  have e2:i2.toNat=n:=by omega
  have e3:zv.cells=z.toArray:=by rw[← hzc]
  rw[e1,e2,e3,← hzl,AZ] at hrun;simp[execOp,ho,el,ec,hrun]
theorem KV(hI:Inv M σ [] [] a.tmps w G) {d:Nat}(hd:o.dst=some d) (hN:d < M.N) {x i:Opd}{x' i':Operand}{t:TypeId}(hx:dJ x'=some x) (hi:dJ i'=some i) (ho:o.op=.index t x' i') (hu:P.underlying t=some .string) (hr:(ev1 d (.ixs x i)).run σ=some ((),σ')):mr P M σ' a o w:=by
 simp only[ev1] at hr;obtain⟨tx,σ1,h1,h2⟩:=SP.run_bind_some hr;obtain⟨rfl,hx1⟩:=eM hI.tmr hx h1;obtain⟨ti,σ2,h3,h4⟩:=SP.run_bind_some h2;obtain⟨rfl,hi1⟩:=eM hI.tmr hi h3;obtain⟨k,σ3,h5,h6⟩:=SP.run_bind_some h4;obtain⟨ik,n,rfl,hn0,hk,rfl⟩:=pS h5;obtain⟨ei,_⟩:=hi1.v_inv
 cases tx with
 | v y=>
  obtain⟨ex,_⟩:=hx1.v_inv
  cases y with
  | string s=>
   simp only at h6
   cases hb:s[k]? with
   | none=>simp[hb,SP.run] at h6
   | some b=>
    simp only[hb] at h6;subst hk;exact gk hI hd hN (.v rfl) h6 (by simp[execOp,ho,ex,ei,Instr.index,asIntOf,run_underlying hu,hn0,hb])
  | _=>simp[SP.run] at h6
 | _=>simp[SP.run] at h6
theorem HE{β:Type}{f:Opd→SP β}{R:β→Operand→Prop}(hf:∀x x' y σ',dJ x'=some x→(f x).run σ=some (y,σ')→σ'=σ∧R y x'):∀{l:List Opd}{l':List Operand}{r:List β}{σ':St},l'.map dJ=l.map some→(Lv f l).run σ=some (r,σ') →
 σ'=σ∧r.length=l'.length∧∀k (h:k < r.length) (h':k < l'.length),R r[k] l'[k]:=by
 intro l
 induction l with
 | nil=>
  intro l' r σ' h1 h2;simp only[Lv,SP.run,oSJ,oPJ] at h2;obtain⟨rfl,rfl⟩:=h2
  have:l'=[]:=by cases l'<;>simp at h1 ⊢
  subst this;exact⟨rfl,rfl,fun k h=>by simp at h⟩
 | cons x l ih=>
  intro l' r σ' h1 h2
  cases l' with
  | nil=>simp at h1
  | cons x' l'=>
   simp only[List.map_cons,List.cons.injEq] at h1;simp only[Lv] at h2;obtain⟨y,σ1,h3,h4⟩:=SP.run_bind_some h2;obtain⟨rfl,hy⟩:=hf x x' y σ1 h1.1 h3;obtain⟨r2,σ2,h5,h6⟩:=SP.run_bind_some h4;simp only[SP.run,oSJ,oPJ] at h6;obtain⟨rfl,rfl⟩:=h6;obtain⟨e1,e2,e3⟩:=ih h1.2 h5;refine⟨e1,by simp[e2],fun k h h'=>?_⟩
   cases k with
   | zero=>exact hy
   | succ k=>exact e3 k (by simpa using h) (by simpa using h')
theorem KT(hI:Inv M σ [] [] a.tmps w G) {d:Nat}(hd:o.dst=some d) (hN:d < M.N) {f:FuncId}{caps:List Opd}{caps':Array Operand}(hc:caps'.toList.map dJ=caps.map some) (ho:o.op=.makeFunc (.func f) #[] caps') (hr:(ev1 d (.mkf f caps)).run σ=some ((),σ')):mr P M σ' a o w:=by
 simp only[ev1] at hr;obtain⟨l,σ1,h1,h2⟩:=SP.run_bind_some hr
 obtain⟨rfl,e2,e3⟩:=HE (R:=fun y x'=>TmR w (G.F M.A) σ.v (ee M σ []) G y (a.eval x')) (fun x x' y σ' hx hy=>by
  obtain⟨t,σ2,q1,q2⟩:=SP.run_bind_some hy;obtain⟨rfl,ht⟩:=eM hI.tmr hx q1
  cases t<;>simp only[SP.run,oSJ,oPJ] at q2<;>first | (obtain⟨rfl,rfl⟩:=q2;exact⟨rfl,ht⟩) | simp at q2) hc h1
 refine gk hI hd hN (x:=.func (.func f) #[] (caps'.map a.eval)) (.fn (by simp[e2]) fun j hj=>?_) h2 (by simp[execOp,ho,Instr.makeFunc]);have:=e3 j hj (by omega)
 have hj0:j < caps'.toList.length:=by omega
 have hj':j < caps'.size:=by simpa using hj0
 simpa [hj'] using this
end
def Cc(g:TypeId→Option (List FK)):Nat→List Field→Option (List FK)
 | _,[]=>some []
 | off,f :: fs=>
  if f.name≠"_"∧f.offset=off then
   match g f.type with
   | some ks=>(Cc g (off+ks.length) fs).map (ks++·)
   | none=>none
  else none
def o8(P:Program):Nat→TypeId→Option (List FK)
 | 0,_=>none
 | d+1,t=>
  match P.underlying t with
  | some .bool=>some [.b]
  | some (.int _)=>some [.i]
  | some .string=>some [.s]
  | some (.struct fs)=>
   if P.stoodInHeld t then none
   else match Cc (o8 P d) 0 fs.toList with
    | some ks=>if (P.info? t).map (·.size)=some ks.length then some ks else none
    | none=>none
  | _=>none
theorem Fu{α β:Type}{f:α→β}{o:Option α}{b:β}(h:o.map f=some b):∃a,o=some a∧f a=b:=by
 cases o with
 | none=>simp at h
 | some a=>exact⟨a,rfl,by simpa using h⟩
theorem DD:∀{ks:List FK}{xs ys:List Value}{r:Bool},eI ks xs ys=some r→xs.length=ks.length∧ys.length=ks.length:=by
 intro ks
 induction ks with
 | nil=>
  intro xs ys r h;cases xs<;>cases ys<;>simp[eI] at h ⊢
 | cons k ks ih=>
  intro xs ys r h
  cases xs with
  | nil=>cases k<;>simp[eI] at h
  | cons x xs=>
   cases ys with
   | nil=>cases k<;>cases x<;>simp[eI] at h
   | cons y ys=>
    cases k<;>cases x<;>cases y<;>simp only[eI] at h<;>first | (simp at h;done) | skip
    ·split at h
     ·obtain⟨r',h1,_⟩:=Fu h;have:=ih h1;simp[this.1,this.2]
     ·simp at h
    ·obtain⟨r',h1,_⟩:=Fu h;have:=ih h1;simp[this.1,this.2]
    ·obtain⟨r',h1,_⟩:=Fu h;have:=ih h1;simp[this.1,this.2]
theorem xB:∀{k1 k2:List FK}{xs ys:List Value}{r:Bool},eI (k1++k2) xs ys=some r →
 ∃r1 r2,eI k1 (xs.take k1.length) (ys.take k1.length)=some r1∧eI k2 (xs.drop k1.length) (ys.drop k1.length)=some r2∧r=(r1 && r2):=by
 intro k1
 induction k1 with
 | nil=>intro k2 xs ys r h;exact⟨true,r,rfl,h,rfl⟩
 | cons k k1 ih=>
  intro k2 xs ys r h;simp only[List.cons_append] at h
  cases xs with
  | nil=>cases k<;>simp[eI] at h
  | cons x xs=>
   cases ys with
   | nil=>cases k<;>cases x<;>simp[eI] at h
   | cons y ys=>
    have fin:∀(q:Bool) (h:(eI (k1++k2) xs ys).map (q && ·)=some r) (hq:∀X Y,eI (k :: k1) (x :: X) (y :: Y)=(eI k1 X Y).map (q && ·)),∃r1 r2,eI (k :: k1) ((x :: xs).take (k :: k1).length) ((y :: ys).take (k :: k1).length)=some r1∧eI k2 ((x :: xs).drop (k :: k1).length) ((y :: ys).drop (k :: k1).length)=some r2∧r=(r1 && r2):=by
     intro q h hq;obtain⟨r',h1,h2⟩:=Fu h;obtain⟨r1,r2,a1,a2,a3⟩:=ih h1;refine⟨q && r1,r2,?_,by simpa using a2,by rw[← h2,a3,Bool.and_assoc]⟩;simp only[List.length_cons,List.take_succ_cons];rw[hq,a1];rfl
    cases k<;>cases x<;>cases y<;>simp only[eI] at h<;>first | (simp at h;done) | skip
    ·split at h
     ·rename_i e;exact fin _ h fun X Y=>by simp only[eI,if_pos e]
     ·simp at h
    ·exact fin _ h fun X Y=>rfl
    ·exact fin _ h fun X Y=>rfl
section
variable {P:Program} {w:World}
theorem vP{d D:Nat}{g:TypeId→Option (List FK)}
 (ih:∀t ks,g t=some ks→∀(xs ys:Array Value) off r,eI ks ((xs.toList.drop off).take ks.length) ((ys.toList.drop off).take ks.length)=some r→∃a b,(part t xs off).run P w=.ok a w∧(part t ys off).run P w=.ok b w∧(Op.equalIn D t a b).run P w=.ok r w) (xs ys:Array Value) :
 ∀(fs:List Field) (o:Nat) (ks:List FK) (r:Bool),Cc g o fs=some ks→eI ks (xs.toList.drop o) (ys.toList.drop o)=some r→(Op.eqFields D xs ys fs).run P w=.ok r w:=by
 intro fs
 induction fs with
 | nil=>
  intro o ks r h he;simp only[Cc,oSJ] at h;subst h
  have hr:r=true:=by
   revert he;generalize xs.toList.drop o=X;generalize ys.toList.drop o=Y;intro he;cases X<;>cases Y<;>simp[eI] at he;exact he
  subst hr;rfl
 | cons f fs ihf=>
  intro o ks r h he;simp only[Cc] at h;split at h
  case isFalse=>simp at h
  rename_i hf;split at h
  case h_2=>simp at h
  rename_i k1 hk1;obtain⟨k2,hk2,rfl⟩:=Fu h;obtain⟨r1,r2,a1,a2,rfl⟩:=xB he;obtain⟨a,b,p1,p2,p3⟩:=ih f.type k1 hk1 xs ys o r1 a1;rw[List.drop_drop,List.drop_drop] at a2;have hrest:=ihf (o+k1.length) k2 r2 hk2 a2;simp only[Op.eqFields];rw[if_pos hf.1,hf.2];simp only[Sem.run_bind,p1,p2,p3,Result.andThen_ok]
  cases r1 with
  | false=>simp
  | true=>simpa using hrest
theorem Hw:∀(d:Nat) (t:TypeId) (ks:List FK),o8 P d t=some ks→∀D,d≤D→∀(xs ys:Array Value) (off:Nat) (r:Bool),eI ks ((xs.toList.drop off).take ks.length) ((ys.toList.drop off).take ks.length)=some r →
 ∃a b,(part t xs off).run P w=.ok a w∧(part t ys off).run P w=.ok b w∧(Op.equalIn D t a b).run P w=.ok r w:=by
 intro d
 induction d with
 | zero=>intro t ks h;simp[o8] at h
 | succ d ih=>
  intro t ks h D hD xs ys off r he;obtain⟨D',rfl⟩:∃D',D=D'+1:=⟨D - 1,by omega⟩;simp only[o8] at h
  have one:∀(dsc:TypeDesc) (k:FK),P.underlying t=some dsc→(∀f,dsc≠.struct f)→(∀n e,dsc≠.array n e)→ks=[k]→∃x y,xs[off]?=some x∧ys[off]?=some y∧eI [k] [x] [y]=some r∧(part t xs off).run P w=.ok x w∧(part t ys off).run P w=.ok y w:=by
   rintro dsc k hu h1 h2 rfl;obtain⟨l1,l2⟩:=DD he
   obtain⟨x,hx⟩:∃x,xs.toList.drop off=x :: (xs.toList.drop (off+1)):=by
    have:off < xs.toList.length:=by simp at l1 ⊢;omega
    exact⟨_,List.drop_eq_getElem_cons this⟩
   obtain⟨y,hy⟩:∃y,ys.toList.drop off=y :: (ys.toList.drop (off+1)):=by
    have:off < ys.toList.length:=by simp at l2 ⊢;omega
    exact⟨_,List.drop_eq_getElem_cons this⟩
   have hx2:xs[off]?=some x:=by
    have:=congrArg (fun l=>l[0]?) hx;simpa using this
   have hy2:ys[off]?=some y:=by
    have:=congrArg (fun l=>l[0]?) hy;simpa using this
   rw[hx,hy] at he;exact⟨x,y,hx2,hy2,by simpa using he,by simp[part,nk hu h1 h2,hx2],by simp[part,nk hu h1 h2,hy2]⟩
  split at h
  ·rename_i hu
   injection h with h
   obtain⟨x,y,_,_,e,p1,p2⟩:=one _ .b hu (fun _ h=>by cases h) (fun _ _ h=>by cases h) h.symm;refine⟨x,y,p1,p2,?_⟩;cases x<;>cases y<;>simp[eI] at e;simp[Op.equalIn,run_underlying hu,e]
  ·rename_i k0 hu
   injection h with h
   obtain⟨x,y,_,_,e,p1,p2⟩:=one _ .i hu (fun _ h=>by cases h) (fun _ _ h=>by cases h) h.symm;refine⟨x,y,p1,p2,?_⟩
   cases x<;>cases y<;>simp only[eI] at e<;>first | (simp at e;done) | skip
   rename_i ka a kb b;split at e
   ·rename_i hk;subst hk;simp at e;simp[Op.equalIn,run_underlying hu,e]
   ·simp at e
  ·rename_i hu
   injection h with h
   obtain⟨x,y,_,_,e,p1,p2⟩:=one _ .s hu (fun _ h=>by cases h) (fun _ _ h=>by cases h) h.symm;refine⟨x,y,p1,p2,?_⟩;cases x<;>cases y<;>simp[eI] at e;simp[Op.equalIn,run_underlying hu,e]
  ·rename_i fs hu;split at h
   case isTrue=>simp at h
   rename_i hst;split at h
   case h_2=>simp at h
   rename_i ks' hfs;split at h
   case isFalse=>simp at h
   rename_i hsz
   injection h with h
   subst h
   have hso:(sizeOf t).run P w=.ok ks'.length w:=by
    unfold sizeOf typeInfo
    cases hi:P.info? t with
    | none=>simp[hi] at hsz
    | some i=>simp[hi] at hsz;simp[hi,hsz]
   have hpart:∀zs:Array Value,(part t zs off).run P w=.ok (.agg (zs.extract off (off+ks'.length))) w:=fun zs=>by
    simp[part,ma hu (.inl ⟨_,rfl⟩),hso]
   refine⟨_,_,hpart xs,hpart ys,?_⟩
   have hff:P.fieldsOf t=fs:=by simp[Program.fieldsOf,hu]
   rw[run_equalIn_struct w D' t _ _ (by rw[hff];exact hu) (by simpa using hst),hff];refine vP (d:=d) (g:=o8 P d) (fun t ks h xs ys off r he=>ih t ks h D' (by omega) xs ys off r he) _ _ fs.toList 0 ks' r hfs ?_
   have e:∀zs:Array Value,(zs.extract off (off+ks'.length)).toList.drop 0=(zs.toList.drop off).take ks'.length:=fun zs=>by
    simp[List.extract_eq_take_drop]
   rw[e,e];exact he
  ·simp at h
theorem Id{d D:Nat}{t:TypeId}{ks:List FK}{fs:Array Field}(h:o8 P (d+1) t=some ks) (hu:P.underlying t=some (.struct fs)) (hD:d≤D) {xs ys:Array Value}{r:Bool}(he:eI ks xs.toList ys.toList=some r):(Op.equalIn (D+1) t (.agg xs) (.agg ys)).run P w=.ok r w:=by
 simp only[o8,hu] at h;split at h
 case isTrue=>simp at h
 rename_i hst;split at h
 case h_2=>simp at h
 rename_i ks' hfs;split at h
 case isFalse=>simp at h
 injection h with h
 subst h
 have hff:P.fieldsOf t=fs:=by simp[Program.fieldsOf,hu]
 rw[run_equalIn_struct w D t _ _ (by rw[hff];exact hu) (by simpa using hst),hff];exact vP (d:=d) (g:=o8 P d) (fun t ks h xs ys off r he=>Hw d t ks h D hD xs ys off r he) _ _ fs.toList 0 ks' r hfs (by simpa using he)
variable {M:Fm} {σ σ':St} {G:Gh} {a:Act} {o:Oper}
theorem JS{F:Nat→Prop}{V:Vs}{C:Cs}:∀{l:List TV}{vs:List Value},ek l=some vs→vs.length=l.length∧∀j (h:j < l.length) (h':j < vs.length) (x:Value),TmR w F V C G l[j] x→x=vs[j]:=by
 intro l
 induction l with
 | nil=>intro vs h;simp only[ek,oSJ] at h;subst h;exact⟨rfl,fun j h=>by simp at h⟩
 | cons t l ih=>
  intro vs h
  cases t with
  | v z=>
   simp only[ek] at h;obtain⟨vs',h1,rfl⟩:=Fu h;obtain⟨e,h2⟩:=ih h1;refine⟨by simp[e],fun j hj hj' x hx=>?_⟩
   cases j with
   | zero=>exact hx.v_inv.1
   | succ j=>exact h2 j (by simpa using hj) (by simpa using hj') x hx
  | _=>simp[ek] at h
theorem Ca{F:Nat→Prop}{V:Vs}{C:Cs}{l:List TV}{vs:List Value}{x:Value}(h:ek l=some vs) (hx:TmR w F V C G (.agg l) x):x=.agg vs.toArray:=by
 obtain⟨xs,rfl,hl,hj⟩:=F6 hx;obtain⟨e,h2⟩:=JS (w:=w) (G:=G) (F:=F) (V:=V) (C:=C) h;congr 1;apply Array.ext
 ·simp[hl,e]
 ·intro j h1 h3;have:=h2 j (by omega) (by simpa using h3) _ (hj j (by omega))
  have e2:xs.getD j undef=xs[j]:=by simp[Array.getD_eq_getD_getElem?,h1]
  rw[e2] at this;simpa using this
theorem GL(hI:Inv M σ [] [] a.tmps w G) {d:Nat}(hd:o.dst=some d) (hN:d < M.N) {x y:Opd}{x' y':Operand}{op:BinOp}{neg:Bool}{t yt:TypeId}{ks:List FK}{fs:Array Field}(hx:dJ x'=some x) (hy:dJ y'=some y) (ho:o.op=.binOp op t x' y' yt) (hop:(op=.eql∧neg=false)∨(op=.neq∧neg=true))
 (hu:P.underlying t=some (.struct fs)) (hk:o8 P 50 t=some ks) (hgd:P.eqGuardType P.depth t=false) (hr:(ev1 d (.eqa ks neg x y)).run σ=some ((),σ')):mr P M σ' a o w:=by
 simp only[ev1] at hr;obtain⟨t1,σ1,h1,h2⟩:=SP.run_bind_some hr;obtain⟨rfl,hx1⟩:=eM hI.tmr hx h1;obtain⟨t2,σ2,h3,h4⟩:=SP.run_bind_some h2;obtain⟨rfl,hy1⟩:=eM hI.tmr hy h3
 cases t1 with
 | agg l1=>
  cases t2 with
  | agg l2=>
   simp only at h4;obtain⟨vs1,σ3,h5,h6⟩:=SP.run_bind_some h4;obtain⟨e1,rfl⟩:=nS h5;obtain⟨vs2,σ4,h7,h8⟩:=SP.run_bind_some h6;obtain⟨e2,rfl⟩:=nS h7;obtain⟨r,σ5,h9,h10⟩:=SP.run_bind_some h8;obtain⟨e3,rfl⟩:=nS h9;have ex:=Ca e1 hx1;have ey:=Ca e2 hy1;have hq:(Op.equalIn 10000 t (.agg vs1.toArray) (.agg vs2.toArray)).run P w=.ok r w:=Id (d:=49) (D:=9999) hk hu (by omega) (by simpa using e3);have hg:(eqGuard op t x' y' (.agg vs1.toArray) (.agg vs2.toArray)).run P w=.ok () w:=run_eqGuard_agg w op t x' y' _ _ hgd;refine gk hI hd hN (.v rfl) h10 ?_;rcases hop with ⟨rfl,rfl⟩ | ⟨rfl,rfl⟩
   ·simp[execOp,ho,ex,ey,hg,run_eql_struct,hq]
   ·simp[execOp,ho,ex,ey,hg,run_neq_struct,hq]
  | _=>simp[SP.run] at h4
 | _=>simp[SP.run] at h4
end
section
variable {P:Program} {M:Fm} {σ σ':St} {H:List TV} {xs:List Value} {ts:Array Value} {w:World} {G:Gh} {a:Act} {o:Oper}
theorem FS(mx:Bool) (k:IntKind):∀(r:List Value) (x m:Int),tN mx k x r=some m→(r.foldlM (if mx then Builtin.max2 else Builtin.min2) (.int k x)).run P w=.ok (.int k m) w:=by
 intro r
 induction r with
 | nil=>
  intro x m h;simp only[tN,oSJ] at h;subst h;rfl
 | cons y r ih=>
  intro x m h
  cases y with
  | int k' b=>
   simp only[tN] at h;split at h
   ·rename_i hk;subst hk;have:=ih _ _ h
    cases mx with
    | true=>
     simp only[if_true,List.foldlM_cons] at this ⊢;simpa [Builtin.max2,Sem.run_bind] using this
    | false=>
     simp only[Bool.false_eq_true,if_false,List.foldlM_cons] at this ⊢;simpa [Builtin.min2,Sem.run_bind] using this
   ·simp at h
  | _=>simp[tN] at h
theorem Kl(hI:Inv M σ [] [] a.tmps w G) {d:Nat}(hd:o.dst=some d) (hN:d < M.N) {mx:Bool}{l:List Opd}{args:Array Operand}{atys:Array TypeId}(hc:args.toList.map dJ=l.map some) (ho:o.op=.call { callee:=.builtin (if mx then .max else .min),args:=args,argTypes:=atys })
 (hr:(ev1 d (.mm mx l)).run σ=some ((),σ')):mr P M σ' a o w:=by
 simp only[ev1] at hr;obtain⟨r,σ1,h1,h2⟩:=SP.run_bind_some hr
 obtain⟨rfl,e2,e3⟩:=HE (R:=fun y x'=>y=a.eval x') (fun x x' y σ' hx hy=>by
  obtain⟨t,σ2,q1,q2⟩:=SP.run_bind_some hy;obtain⟨rfl,ht⟩:=eM hI.tmr hx q1;obtain⟨rfl,rfl⟩:=nD q2
  exact⟨rfl,(ht.v_inv).1.symm⟩) hc h1
 have hr2:args.toList.map a.eval=r:=by
  apply List.ext_getElem
  ·simp[e2]
  ·intro k hk hk';have:=e3 k hk' (by simpa using hk);simpa using this.symm
 split at h2
 case h_2=>simp[SP.run] at h2
 rename_i k x rest;obtain⟨m,σ2,h3,h4⟩:=SP.run_bind_some h2;obtain⟨hm,rfl⟩:=nS h3;refine gk hI hd hN (x:=.int k m) (.v rfl) h4 ?_;have hf:=FS (P:=P) (w:=w) mx k rest x m hm
 have ha:(args.map a.eval).toList=.int k x :: rest:=by rw[Array.toList_map];exact hr2
 cases mx with
 | true=>
  simp only[if_true] at hf ho;simp[execOp,ho,resolve,invoke,builtin,Builtin.max_,hr2,hf]
 | false=>
  simp only[Bool.false_eq_true,if_false] at hf ho;simp[execOp,ho,resolve,invoke,builtin,Builtin.min_,hr2,hf]
theorem I4(hI:Inv M σ [] [] a.tmps w G) {d:Nat}(hd:o.dst=some d) (hN:d < M.N) {x i:Opd}{x' i':Operand}{t e n sz:Nat}(hx:dJ x'=some x) (hi:dJ i'=some i) (ho:o.op=.indexAddr t x' i')
 (hu:P.underlying t=some (.array n e)) (hs:(P.info? e).map (·.size)=some sz) (hr:(ev1 d (.idxa n sz x i)).run σ=some ((),σ')):mr P M σ' a o w:=by
 have hso:(sizeOf e).run P w=.ok sz w:=by
  unfold sizeOf typeInfo
  cases hi:P.info? e with
  | none=>simp[hi] at hs
  | some i=>simp[hi] at hs;simp[hi,hs]
 simp only[ev1] at hr;obtain⟨tx,σ1,h1,h2⟩:=SP.run_bind_some hr;obtain⟨rfl,hx1⟩:=eM hI.tmr hx h1;obtain⟨ti,σ2,h3,h4⟩:=SP.run_bind_some h2;obtain⟨rfl,hi1⟩:=eM hI.tmr hi h3;obtain⟨k,σ3,h5,h6⟩:=SP.run_bind_some h4;obtain⟨ik,m,rfl,hn0,hk,rfl⟩:=pS h5;obtain⟨ei,_⟩:=hi1.v_inv
 cases tx with
 | ptr p vs=>
  simp only at h6;obtain⟨_,σ2,h7,h8⟩:=SP.run_bind_some h6;have e1:σ2=σ3:=(dW h7).1;have e2:=(dW h7).2;subst e1;split at h8
  case isFalse=>simp[SP.run] at h8
  rename_i hc;simp only[Bool.and_eq_true,decide_eq_true_eq] at hc;obtain⟨hkn,hfit⟩:=hc;generalize hz:a.eval x'=z at hx1
  cases hx1 with
  | ptr V0 h0 hv h=>
   obtain⟨hr1,ad,t0,ha,rfl,hg0⟩:=h e2
   have hmn:m < (n:Int):=by omega
   refine gk hI hd hN (x:=.pointer (some (ad.add (k*sz)))) ?_ h8 (by subst hk;simp[execOp,ho,hz,ei,Instr.indexAt,asIntOf,Instr.sureAddr,run_underlying hu,hn0,hmn,hso]);refine .ptr V0 h0 (by rw[DY];exact hv) fun _=>⟨by rw[dR.add_root];exact hr1,⟨ad.block,ad.off+k*sz,none⟩,?_⟩;have hsp:=kW ha
   have hadd:ad.add (k*sz)=⟨ad.block,ad.off+k*sz,none⟩:=by
    obtain⟨b,ob,sp⟩:=ad;simp only at hsp;subst hsp;exact fm b ob (k*sz)
   rcases p.add_cases (k*sz) with ⟨q1,q2⟩ | ⟨hs',i,sz',o',q1,q2⟩
   ·exact⟨ee M σ2 [] p.root (p.off+k*sz),mY _ ha,by rw[hadd],by rw[q2];rfl⟩
   ·have hlt:o'+k*sz < sz':=by
     unfold dR.fits at hfit;rw[q1] at hfit;simpa using hfit
    rw[q1] at hg0;obtain⟨t',ht'⟩:=Ev hg0 hlt;exact⟨t',mY _ ha,by rw[hadd],by rw[q2];exact ht'⟩
 | _=>simp[SP.run] at h6
theorem KO(hI:Inv M σ [] [] a.tmps w G) {d:Nat}(hd:o.dst=some d) (hN:d < M.N) {x:Opd}{x':Operand}{s t e:TypeId}(hx:dJ x'=some x) (ho:o.op=.convert s t x') (hs:P.underlying s=some .string) (ht:P.underlying t=some (.slice e)) (he:P.underlying e=some (.int .u8))
 (hr:(ev1 d (.s2b x)).run σ=some ((),σ')):mr P M σ' a o w:=by
 simp only[ev1] at hr;obtain⟨tx,σ1,h1,h2⟩:=SP.run_bind_some hr;obtain⟨rfl,hx1⟩:=eM hI.tmr hx h1
 cases tx with
 | v y=>
  obtain⟨ex,_⟩:=hx1.v_inv
  cases y with
  | string str=>
   simp only at h2;split at h2
   case isFalse=>simp[SP.run] at h2
   rename_i hsz;obtain⟨n,hn⟩:∃n,n=w.tape w.drawn (.appendCap str.size 0 e):=⟨_,rfl⟩;obtain⟨cap,hcap⟩:∃cap,cap=str.size+n % (2 ^ 63 - str.size):=⟨_,rfl⟩
   have hcap1:str.size≤cap:=by omega
   have hcap2:cap≤maxLen:=by
    have:n % (2 ^ 63 - str.size) < 2 ^ 63 - str.size:=Nat.mod_lt _ (by omega);show cap≤2 ^ 63 - 1;omega
   obtain⟨row,hrow⟩:∃row:Array Value,row=(str.data.map fun b=>Value.int .u8 b.toNat)++Array.replicate (cap - str.size) (.int .u8 0):=⟨_,rfl⟩;obtain⟨w1,hw1⟩:∃w1,w1=w.drew.alloc (.cells row e):=⟨_,rfl⟩
   have hheap:w1.heap=w.heap.push (.cells row e):=by rw[hw1];rfl
   have hsh:w1.shape? w.heap.size=some (e,row.size):=by
    unfold World.shape?;rw[hheap];simp
   have hrun:(execOp a.eval o).run P w=.ok (.value (.slice (some ⟨w.heap.size,0,none⟩) str.size cap)) (w1.freeze ⟨w.heap.size,row.size,none⟩ 1):=by
    simp only[execOp,ho,ex,convert,Sem.run_bind,run_underlying hs,run_underlying ht,run_underlying he,Result.andThen_ok,Conv.stringToBytes,run_choose_drew,Question.forced,Bool.false_eq_true,if_false,Question.cut,newRow,run_newObj_alloc,Sem.run_pure];rw[← hn,← hcap,← hrow];simp only[show w.drew.heap.size=w.heap.size from rfl,← hw1,markStringish,Sem.run_bind,run_shape,Result.andThen_ok,hsh,run_freeze,Sem.run_pure]
   have hold:∀k,k < w.heap.size→(w1.freeze ⟨w.heap.size,row.size,none⟩ 1).heap[k]?=w.heap[k]?:=by
    intro k hk;unfold World.freeze;rw[if_neg (by decide)];simp only;rw[Array.getElem?_modify];rw[if_neg (by omega),hheap];simp[Array.getElem?_push,show k≠w.heap.size by omega]
   have hnew:∃fz,(w1.freeze ⟨w.heap.size,row.size,none⟩ 1).heap[w.heap.size]?=some (.cells row e fz):=by
    unfold World.freeze;rw[if_neg (by decide)];simp only;rw[Array.getElem?_modify,if_pos rfl,hheap];exact⟨_,by simp only[Array.getElem?_push_size,Option.map_some];rfl⟩
   obtain⟨fz,hnew⟩:=hnew;obtain⟨hI2,_⟩:=hI.grow (w':=w1.freeze ⟨w.heap.size,row.size,none⟩ 1) hold (by unfold World.freeze;rw[if_neg (by decide)];simp[hheap]) (by rw[hw1];rfl) (by rw[hw1];rfl) (by rw[hw1];rfl);simp only[wr,SP.run,oSJ,oPJ,true_and] at h2;subst h2;refine⟨_,_,_,G,hrun,.inl rfl,?_⟩;rw[hd]
   have hbl:(pF str).length=str.size:=by unfold pF;rw[List.length_map,Array.length_toList];rfl
   refine hI2.wrT hN (.sl ?_)
   have him:m9 (w1.freeze ⟨w.heap.size,row.size,none⟩ 1) (G.F M.A) (.sl (pF str)) (.slice (some ⟨w.heap.size,0,none⟩) (pF str).length cap):=by
    refine .sl 1 (fun i _=>.int .u8 (str.data.getD i 0).toNat) (fun i h=>by simp[pF]) (by omega) hcap2 (fun h=>by simp at h) (fun i j hi hj=>⟨w.heap.size,0,rfl,?_,?_⟩) fun i j h h'=>?_
    ·exact⟨M.hA _ hI.fram.size,fun r o h=>Nat.lt_irrefl _ (hI.core.live h),fun r b o n hb e=>Nat.lt_irrefl _ (e ▸ hI.core.boxlt hb)⟩
    ·have hj0:j=0:=by omega
     subst hj0;rw[cell_of_row _ _ _ _ _ _ hnew]
     have hi':i < str.data.size:=by rw[hbl] at hi;exact hi
     have hg:str.data[i]?=some str.data[i]:=Array.getElem?_eq_getElem hi';rw[hrow];simp[Array.getElem?_append,show i < str.size from hi',Array.getD_eq_getD_getElem?,hg]
    ·have hj0:j=0:=by simp[pF] at h';omega
     subst hj0
     have hi':i < str.data.size:=by rw[hbl] at h;exact h
     have:(pF str)[i][0]=.v (.int .u8 (str.data.getD i 0).toNat):=by
      have hg:str.data[i]?=some str.data[i]:=Array.getElem?_eq_getElem hi';simp[pF,Array.getD_eq_getD_getElem?,hg]
     rw[this];exact .v rfl
   rw[hbl] at him;exact him
  | _=>simp[SP.run] at h2
 | _=>simp[SP.run] at h2
theorem Io{c:List (List TV)}:∀{ns:List Int},xD c=some ns→ns.length=c.length∧∀i (h:i < c.length) (h':i < ns.length),c[i]=[.v (.int .u8 ns[i])]:=by
 induction c with
 | nil=>intro ns h;simp only[xD,oSJ] at h;subst h;exact⟨rfl,fun i h=>by simp at h⟩
 | cons e c ih=>
  intro ns h;unfold xD at h;split at h
  ·rename_i h1;simp at h1
  ·rename_i n r h1
   injection h1 with h1 h2
   subst h1;subst h2
   cases hb:xD c with
   | none=>simp[hb] at h
   | some l=>
    simp only[hb,Option.map_some,oSJ] at h;subst h;obtain⟨e1,e2⟩:=ih hb;refine⟨by simp[e1],fun i hi hi'=>?_⟩
    cases i with
    | zero=>rfl
    | succ i=>exact e2 i (by simpa using hi) (by simpa using hi')
  ·simp at h
theorem K5(hI:Inv M σ [] [] a.tmps w G) {d:Nat}(hd:o.dst=some d) (hN:d < M.N) {x:Opd}{x':Operand}{s t e:TypeId}(hx:dJ x'=some x) (ho:o.op=.convert s t x') (hs:P.underlying s=some (.slice e)) (ht:P.underlying t=some .string) (he:P.underlying e=some (.int .u8))
 (hr:(ev1 d (.b2s x)).run σ=some ((),σ')):mr P M σ' a o w:=by
 simp only[ev1] at hr;obtain⟨tx,σ1,h1,h2⟩:=SP.run_bind_some hr;obtain⟨rfl,hx1⟩:=eM hI.tmr hx h1;obtain⟨t',σ2,h3,h4⟩:=SP.run_bind_some h2;obtain⟨G1,hg1,_⟩:=iM hI hx1 h3;simp only[List.nil_append] at hg1;obtain⟨G2,hg2,_⟩:=hg1.1.drop
 have fin:∀str ad len cap,a.eval x'=.slice ad len cap→(Conv.bytesToString (.slice ad len cap)).run P w=.ok (.string str) w→(wr d (.v (.string str))).run σ2=some ((),σ')→mr P M σ' a o w:=by
  intro str ad len cap ex hrun hw;refine gk hg2.1 hd hN (x:=.string str) (.v rfl) hw ?_;simp only[execOp,ho,Sem.run_bind,ex]
  have:(convert s t (.slice ad len cap)).run P w=.ok (.string str) w:=by
   unfold convert;simp only[Sem.run_bind,run_underlying hs,run_underlying ht,run_underlying he,Result.andThen_ok];exact hrun
  rw[this];rfl
 have hown:=fun h=>hg1.1.hand_own (j:=0) (by simp) h;simp only[List.getElem_cons_zero,List.getD_cons_zero] at hown;split at h4
 ·rename_i c;obtain⟨str,σ3,h5,h6⟩:=SP.run_bind_some h4;obtain⟨hb,rfl⟩:=nS h5;have hown:=hown (by simp);generalize hz:a.eval x'=z at hown
  cases hown with
  | sl hfp h=>
   cases h with
   | @sl _ ad cap sz u hsz hcap hmax hnil hcell hrec=>
    unfold bstr at hb
    cases hbn:xD c with
    | none=>simp[hbn] at hb
    | some ns=>
     simp only[hbn,Option.map_some,oSJ] at hb;obtain⟨hl,hget⟩:=Io hbn;refine fin str _ _ _ hz ?_ h6
     cases ad with
     | none=>
      have hc0:c.length=0:=by have:=hnil rfl;omega
      have hns:ns=[]:=List.eq_nil_of_length_eq_zero (by omega);subst hns;rw[← hb];rfl
     | some ad=>
      rw[← hb];refine run_bytesToString w ad c.length cap ns ?_
      have:=run_loadCells_list (P:=P) w ad (ns.map (Value.int .u8)) fun j v hj=>by
       have hjl:j < ns.length:=by
        rcases Nat.lt_or_ge j ns.length with h | h
        ·exact h
        ·rw[List.getElem?_eq_none (by simpa using h)] at hj;simp at hj
       have hjc:j < c.length:=by omega
       have e1:=hget j hjc hjl
       have hs1:sz=1:=by rw[← hsz j hjc,e1];rfl
       subst hs1;obtain⟨b,o',hab,hF,hcl⟩:=hcell j 0 hjc (by omega)
       injection hab with hab
       subst hab;have hr:=hrec j 0 hjc (by rw[e1];simp)
       have e2:c[j][0]'(by rw[e1];simp)=.v (.int .u8 ns[j]):=by simp[e1]
       rw[e2] at hr
       have hu:u j 0=.int .u8 ns[j]:=by
        generalize u j 0=y at hr;cases hr;rfl
       have hv:v=.int .u8 ns[j]:=by simpa [hjl] using hj.symm
       rw[hv,← hu,fm];simpa using hcl
      simpa [hl] using this
 ·have hown:=hown (by simp);generalize hz:a.eval x'=z at hown
  cases hown with
  | @nil _ ad hfp=>
   refine fin .empty _ _ _ hz ?_ h4
   cases ad with
   | none=>rfl
   | some ad=>
    have:=run_bytesToString (P:=P) w ad 0 0 [] (by simp[loadCells,loadCellsFrom]);simpa using this
  | @ow _ _ b cap cur e' sz' u f hfp hb hsz hcap hz0 hmax hcur hcell hrec hnb hdis=>
   refine fin .empty _ _ _ hz ?_ h4;have:=run_bytesToString (P:=P) w ⟨b,0,none⟩ 0 cap [] (by simp[loadCells,loadCellsFrom]);simpa using this
 ·simp[SP.run] at h4
theorem I7(hI:Inv M σ [] [] a.tmps w G) {d:Nat}{mv:Bool}(hd:o.dst=some d) (hN:d < M.N) {t e n sz:TypeId}{parts:Array (Nat×Operand)}{ps:List (Nat×Nat×Opd)}{z:List Value}(ho:o.op=.build t parts) (hu:P.underlying t=some (.array n e))
 (hz:(P.info? t).bind (·.zero.map (·.cells.toList))=some z) (hs:(P.info? e).map (·.size)=some sz) (hp1:parts.size=ps.length)
 (hp2:∀k (h:k < parts.size) (h':k < ps.length),dJ parts[k].2=some ps[k].2.2∧ps[k].1=parts[k].1*sz∧ps[k].2.1=sz∧ps[k].1+ps[k].2.1≤z.length)
 (hr:(ev1 d (.bld z mv ps)).run σ=some ((),σ')):mr P M σ' a o w:=by
 simp only[ev1] at hr;split at hr
 case isFalse=>simp[SP.run] at hr
 rename_i hok;obtain⟨l,σ1,h1,h2⟩:=SP.run_bind_some hr;obtain⟨l',σ2,h3,h4⟩:=SP.run_bind_some h2
 obtain⟨G1,g1,hokl,hsz2⟩:=oG (a:=a) (pv:=parts.toList.map (·.2)) hI (by
  apply List.ext_getElem
  ·simp[hp1]
  ·intro k hk hk';have:=(hp2 k (by simpa using hk) (by simpa using hk')).1
   simpa using this) h1
 simp only[List.nil_append] at g1;obtain⟨G2,hI2,_,hl2,ht2⟩:=uD g1.1 hokl h3;obtain⟨ys,hys⟩:∃ys,ys=(parts.toList.map (·.2)).flatMap (fun x=>(a.eval x).cells.toList):=⟨_,rfl⟩;rw[← hys] at g1 ht2
 have hlen:l'.length=ys.length:=by rw[hl2];exact g1.1.hand
 have hzc:∀j (h:j < (z.map fk).length) (h':j < z.length),TmR w (G2.F M.A) σ2.v (ee M σ2 []) G2 (z.map fk)[j] z[j]:=fun j h h'=>by simp only[List.getElem_map];exact rx _
 obtain⟨r1,r2⟩:=MY.assemble (R:=TmR w (G2.F M.A) σ2.v (ee M σ2 []) G2) ps l' ys (z.map fk) z (by simp) hzc hlen (fun j h h'=>by have:=ht2 j h;simpa [h'] using this);refine gk hI2 hd hN (x:=.agg (mj z ps ys).toArray) (.agg (by simp[r1]) fun j hj=>by have:=r2 j hj (by omega);simpa [show j < (mj z ps ys).length by omega] using this) h4 ?_
 cases hi:P.info? t with
 | none=>simp[hi] at hz
 | some i=>
  simp only[hi,oBS] at hz
  cases hiz:i.zero with
  | none=>simp[hiz] at hz
  | some v=>
   simp only[hiz,Option.map_some,oSJ] at hz
   have hzv:(zeroValue t).run P w=.ok v w:=by simp[zeroValue,typeInfo,hi,hiz]
   have hso:(sizeOf e).run P w=.ok sz w:=by
    unfold sizeOf typeInfo
    cases hi:P.info? e with
    | none=>simp[hi] at hs
    | some i=>simp[hi] at hs;simp[hi,hs]
   have hfill:=vL (place:=fun i=>some (i*sz,sz)) (parts.toList.map fun p=>(p.1,a.eval p.2)) ps v.cells (by simp[hp1]) (fun k h h'=>by
    have hk:k < parts.size:=by simpa using h
    obtain⟨q1,q2,q3,q5⟩:=hp2 k hk h';have q4:=hsz2 k h' (by simpa using hk);refine⟨by simp[q2,q3],by simpa using q4,?_⟩;rw[← hz] at q5
    simpa using q5)
   have hfl:((parts.toList.map fun p=>(p.1,a.eval p.2)).flatMap (·.2.cells.toList))=ys:=by rw[hys];simp[List.flatMap_map]
   rw[hfl,hz] at hfill;simp only[execOp,ho,Instr.build,Sem.run_bind,hzv,Result.andThen_ok,run_underlying hu,hso,Array.toList_map];rw[hfill];simp
end
theorem tu{α:Type}{l:List α}{i:Nat}{x:α}{f g:α→α}(h:l[i]?=some x) (e:f x=g x):l.modify i f=l.modify i g:=by
 apply List.ext_getElem?;intro k;simp only[List.getElem?_modify];by_cases hk:i=k
 ·subst hk;simp[h,e]
 ·simp[hk]
theorem Dw{hs:List Hop}{i sz j:Nat}{c:List (List TV)}{el:List TV}{t1:TV}:∀{t:TV},d7 t hs=some (.ow c)→c[i]?=some el→el.length=sz→el[j]?=some t1→d7 t (hs++[(i,sz,j)])=some t1:=by
 induction hs with
 | nil=>
  intro t h h1 h2 h3;simp only[d7,oSJ] at h;subst h;simp[d7,h1,h2,h3]
 | cons hp hs ih=>
  obtain⟨a,b,d⟩:=hp;intro t h h1 h2 h3;obtain⟨c0,el0,t0,rfl,k1,k2,k3,k4⟩:=fF h;simp only[List.cons_append,d7,k1,k2,if_true,k3];exact ih k4 h1 h2 h3
theorem CI{hs:List Hop}{i sz j:Nat}{c:List (List TV)}{x:TV}:∀{t:TV},d7 t hs=some (.ow c)→fU t (hs++[(i,sz,j)]) x=fU t hs (.ow (c.modify i fun el=>el.modify j fun _=>x)):=by
 induction hs with
 | nil=>
  intro t h;simp only[d7,oSJ] at h;subst h;simp[fU]
 | cons hp hs ih=>
  obtain⟨a,b,d⟩:=hp;intro t h;obtain⟨c0,el0,t0,rfl,k1,k2,k3,k4⟩:=fF h;simp only[List.cons_append,fU];congr 1;refine tu k1 (tu k3 (ih k4))
theorem GW{hs:List Hop}{x y:TV}:∀{t:TV},fU (fU t hs y) hs x=fU t hs x:=by
 induction hs with
 | nil=>intro t;rfl
 | cons hp hs ih=>
  obtain⟨a,b,d⟩:=hp;intro t
  cases t with
  | ow c=>
   simp only[fU];congr 1;apply List.ext_getElem?;intro k;simp only[List.getElem?_modify];by_cases hk:a=k
   ·subst hk
    cases c[a]? with
    | none=>rfl
    | some el=>
     simp only[if_true,Option.map_eq_map,Option.map_some];congr 1;apply List.ext_getElem?;intro k;simp only[List.getElem?_modify,Option.map_eq_map];by_cases hk:d=k
     ·subst hk
      cases el[d]? with
      | none=>rfl
      | some t1=>simp[ih]
     ·cases el[k]?<;>simp[hk]
   ·cases c[k]?<;>simp[hk]
  | _=>rfl
theorem ww{α:Type}(l:List (Nat×α)) (i:Nat) (x y:α):fI (fI l i x) i y=fI l i y:=by
 induction l with
 | nil=>simp[fI]
 | cons h r ih=>
  obtain⟨k,v⟩:=h;simp only[fI];by_cases hk:k=i
  ·subst hk;simp[fI]
  ·simp[hk,fI,ih]
theorem Cx{w:World}{hs:List Hop}{k sz n cap j:Nat}{ad:Addr}:∀{x:Value},hvT w x hs=some (.slice (some ad) n cap)→k < n→eE w x (hs++[(k,sz,j)])=some ⟨ad.block,ad.off+(k*sz+j),none⟩:=by
 induction hs with
 | nil=>
  intro x h hk;simp only[hvT,oSJ] at h;subst h;simp[eE,hk]
 | cons hp hs ih=>
  obtain⟨i,sz',o⟩:=hp;intro x h hk;simp only[hvT] at h
  cases x with
  | slice a l c=>
   cases a with
   | none=>cases hs<;>simp[eE] at h
   | some a=>
    obtain⟨hd,tl,hht⟩:∃hd tl,hs++[(k,sz,j)]=hd :: tl:=by cases hs<;>exact⟨_,_,rfl⟩
    cases hs with
    | nil=>
     simp only[eE] at h;split at h
     ·rename_i hi;simp only[oBS] at h;simp only[List.cons_append,List.nil_append,eE,hi,if_true,h,hk]
     ·simp at h
    | cons hp2 hs2=>
     simp only[eE] at h;split at h
     ·rename_i hi;split at h
      ·rename_i y hy;rw[List.cons_append,hht];simp only[eE,hi,if_true,hy];rw[← hht];exact ih (by simpa [hvT] using h) hk
      ·simp at h
     ·simp at h
  | _=>cases hs<;>simp[eE] at h
section
variable {P:Program} {M:Fm} {σ σ':St} {H:List TV} {xs:List Value} {ts:Array Value} {w:World} {G:Gh} {a:Act} {o:Oper}
def St.sub(σ:St) (p:dR) (l:List TV) (t:TV):St:=⟨σ.tm,fI σ.ce p.root (l.set p.off (fU (σ.c p.root p.off) p.hops t)),σ.vr⟩
theorem St.sub_c{p:dR}{l:List TV}{t:TV}(hl:p.off < l.length):(σ.sub p l t).c p.root p.off=fU (σ.c p.root p.off) p.hops t:=by
 simp only[St.c,St.sub,eH,if_true];simp[hl]
theorem Jj(hI:Inv M σ [] [] ts w G) {p:dR}{c:List (List TV)}{el:List TV}{b n cap i sz j:Nat}{old v:Value}(hr1:p.root≠1) (hhv:G.hv w p=some (.slice (some ⟨b,0,none⟩) n cap)) (hg:d7 (σ.c p.root p.off) p.hops=some (.ow c)) (hin:i < n)
 (hi:c[i]?=some el) (hl:el.length=sz) (hj:el[j]?=some (.v old)) (hv:gU v=true) {l:List TV} (hal:ef σ.ce p.root=some l) (hol:p.off < l.length) :
 ∃G',Inv M (σ.sub p l (.ow (c.modify i fun el=>el.modify j fun _=>.v v))) [] [] ts (w.setCell ⟨b,i*sz+j,none⟩ v) G'∧(w.cell? ⟨b,i*sz+j,none⟩).isSome=true∧w.frozen? ⟨b,i*sz+j,none⟩=false∧G'.hv (w.setCell ⟨b,i*sz+j,none⟩ v) p=some (.slice (some ⟨b,0,none⟩) n cap):=by
 obtain⟨G1,hg1⟩:=hI.addHand (t:=.v v) (x:=v) (.v (fun _ h=>h) hv);simp only[List.nil_append] at hg1
 have hgE:d7 (ee M σ [] p.root p.off) p.hops=some (.ow c):=by rw[d9 (by exact hr1)];exact hg
 obtain⟨c1,hhv1,_,_⟩:=hg1.2.2.1.hdr p _ c hr1 rfl hhv hgE
 obtain⟨hd,tl,hht⟩:∃hd tl,p.hops++[(i,sz,j)]=hd :: tl:=by cases p.hops<;>exact⟨_,_,rfl⟩
 have hadr:G1.addrB w ⟨p.root,p.off,p.hops++[(i,sz,j)]⟩=some ⟨b,i*sz+j,none⟩:=by
  have:=Cx (sz:=sz) (j:=j) hhv1 hin;unfold Gh.addrB;simp only[hht];rw[← hht,this];simp
 have hgq:d7 (σ.c p.root p.off) (p.hops++[(i,sz,j)])=some (.v old):=Dw hg hi hl hj
 have hgqE:d7 (ee M σ [.v v] p.root p.off) (p.hops++[(i,sz,j)])=some (.v old):=by rw[d9 (by exact hr1)];exact hgq
 have hrun:(wE ⟨p.root,p.off,p.hops++[(i,sz,j)]⟩ (.v v)).run σ=some ((),σ.sub p l (.ow (c.modify i fun el=>el.modify j fun _=>.v v))):=by
  simp only[wE,SP.run,hgq,rI,Bool.or_self,Bool.false_eq_true,if_false,hal,hol,if_true];rw[CI hg];rfl
 obtain⟨⟨u,hu⟩,hfr,G2,hI2,hm,htm,hβ⟩:=hg1.1.put (p:=⟨p.root,p.off,p.hops++[(i,sz,j)]⟩) (j:=0) hr1 hadr hgqE (by simp) (by simp) (by simpa using hrun);simp only[List.getD_cons_zero] at hI2 hm
 have hI3:=hI2.clear (by intro k hk;have:k=0:=by simp at hk;omega
                         subst this;simp)
 have hgE1:d7 (ee M σ [.v v] p.root p.off) p.hops=some (.ow c):=by rw[d9 (by exact hr1)];exact hg
 obtain⟨c2,hhv2,_,_⟩:=hm.keeps.hdr p _ c hr1 rfl hhv1 hgE1;exact⟨G2,hI3,by rw[hu];rfl,hfr,hhv2⟩
theorem ut{c:List (List TV)}{i j i' j':Nat}{x:TV}{el:List TV}{y:TV}(h:c[i']?=some el) (hy:el[j']?=some y) (hne:¬ (i'=i∧j'=j)) :
 ∃el',(c.modify i fun el=>el.modify j fun _=>x)[i']?=some el'∧el'[j']?=some y:=by
 simp only[List.getElem?_modify,h,Option.map_eq_map,Option.map_some];by_cases hi:i=i'
 ·subst hi;refine⟨_,rfl,?_⟩;have hj:¬ j=j':=fun e=>hne ⟨rfl,e.symm⟩;simp only[if_true,List.getElem?_modify,hj,if_false,Option.map_eq_map];simpa using hy
 ·refine⟨_,rfl,?_⟩;simpa [hi] using hy
theorem Jq{p:dR}{b n cap sz:Nat}(hr1:p.root≠1) (hsz:0 < sz):∀(vals:List Value) (c:List (List TV)) (o:Nat) (σ:St) (w:World) (G:Gh) (l:List TV),vals≠[]→Inv M σ [] [] ts w G→G.hv w p=some (.slice (some ⟨b,0,none⟩) n cap)→d7 (σ.c p.root p.off) p.hops=some (.ow c)→n=c.length →
 (∀el∈c,el.length=sz)→(∀v∈vals,gU v=true)→(∀t,o≤t→t < o+vals.length→∃el y,c[t / sz]?=some el∧el[t % sz]?=some (.v y))→ef σ.ce p.root=some l→p.off < l.length →
 (∃G',Inv M (σ.sub p l (.ow (nu sz c o vals))) [] [] ts (w.setCells b o vals) G')∧∀j,j < vals.length→(w.cell? ⟨b,o+j,none⟩).isSome=true∧w.frozen? ⟨b,o+j,none⟩=false:=by
 intro vals
 induction vals with
 | nil=>intro c o σ w G l h;exact absurd rfl h
 | cons v vals ih=>
  intro c o σ w G l _ hI hhv hg hn hlen hvf hfl hal hol;obtain⟨el,y,h1,h2⟩:=hfl o (Nat.le_refl _) (by simp);have hel:el.length=sz:=hlen el (List.mem_of_getElem? h1)
  have hio:o / sz < n:=by rw[hn];exact (oGS h1).1
  have ho:o / sz*sz+o % sz=o:=by rw[Nat.mul_comm];exact Nat.div_add_mod o sz
  obtain⟨G1,hI1,hs1,hf1,hhv1⟩:=Jj hI hr1 hhv hg hio h1 hel h2 (hvf v (by simp)) hal hol;rw[ho] at hI1 hs1 hf1 hhv1
  cases vals with
  | nil=>
   refine⟨⟨G1,hI1⟩,fun j hj=>?_⟩
   obtain rfl:j=0:=by simp at hj;omega
   exact⟨hs1,hf1⟩
  | cons v2 vals=>
   obtain⟨c1,hc1⟩:∃c1,c1=c.modify (o / sz) fun el=>el.modify (o % sz) fun _=>.v v:=⟨_,rfl⟩;rw[← hc1] at hI1;obtain⟨l1,hl1⟩:∃l1,l1=l.set p.off (fU (σ.c p.root p.off) p.hops (.ow c1)):=⟨_,rfl⟩;have hsc:(σ.sub p l (.ow c1)).c p.root p.off=fU (σ.c p.root p.off) p.hops (.ow c1):=St.sub_c hol
   obtain⟨⟨G2,hI2⟩,hc2⟩:=ih c1 (o+1) (σ.sub p l (.ow c1)) _ G1 l1 (by simp) hI1 hhv1 (by rw[hsc];exact xy hg) (by rw[hn,hc1];simp) (fun el' hel'=>by
    have hml:=m6 c (o / sz) (o % sz) (fun _=>.v v);have:el'.length∈c1.map List.length:=List.mem_map_of_mem hel';rw[hc1,hml] at this;obtain⟨e3,e4,e5⟩:=List.mem_map.1 this
    rw[← e5];exact hlen e3 e4) (fun x hx=>hvf x (by simp only[List.mem_cons] at hx ⊢;exact .inr hx)) (fun t ht1 ht2=>by
    obtain⟨el',y',q1,q2⟩:=hfl t (by omega) (by simp at ht2 ⊢;omega)
    obtain⟨el2,q3,q4⟩:=ut (x:=.v v) q1 q2 (i:=o / sz) (j:=o % sz) (by
     rintro⟨e1,e2⟩;have h3:=Nat.div_add_mod t sz;have h4:=Nat.div_add_mod o sz;rw[e1,e2] at h3
     omega)
    exact⟨el2,y',by rw[hc1];exact q3,q4⟩) (by simp[St.sub,eH,hl1]) (by rw[hl1];simpa using hol)
   refine⟨⟨G2,?_⟩,fun j hj=>?_⟩
   ·have e:(σ.sub p l (.ow c1)).sub p l1 (.ow (nu sz c1 (o+1) (v2 :: vals)))=σ.sub p l (.ow (nu sz c o (v :: v2 :: vals))):=by
     unfold St.sub;have hsc':(St.c ⟨σ.tm,fI σ.ce p.root (l.set p.off (fU (σ.c p.root p.off) p.hops (.ow c1))),σ.vr⟩ p.root p.off)=fU (σ.c p.root p.off) p.hops (.ow c1):=hsc;rw[hsc',GW,ww,hl1,List.set_set];simp only[nu,← hc1]
    rw[e] at hI2;exact hI2
   ·cases j with
    | zero=>exact⟨hs1,hf1⟩
    | succ j=>
     have:=hc2 j (by simpa using hj);rw[show o+1+j=o+(j+1) by omega,World.frozen?_setCell] at this;refine⟨?_,this.2⟩
     have hne:(⟨b,o,none⟩:Addr)≠⟨b,o+(j+1),none⟩:=fun e=>by have:=congrArg Addr.off e;simp at this
     rw[World.cell?_setCell_other w _ _ _ hne] at this;exact this.1
theorem B9:∀{l:List TV}{vs:List Value},ek l=some vs→vs.length=l.length∧∀j (h:j < l.length) (h':j < vs.length),l[j]=.v vs[j]:=by
 intro l
 induction l with
 | nil=>intro vs h;simp only[ek,oSJ] at h;subst h;exact⟨rfl,fun j h=>by simp at h⟩
 | cons t l ih=>
  intro vs h
  cases t with
  | v x=>
   simp only[ek] at h
   cases hl:ek l with
   | none=>simp[hl] at h
   | some r=>
    simp only[hl,Option.map_some,oSJ] at h;subst h;obtain⟨e1,e2⟩:=ih hl;refine⟨by simp[e1],fun j hj hj'=>?_⟩
    cases j with
    | zero=>rfl
    | succ j=>exact e2 j (by simpa using hj) (by simpa using hj')
  | _=>simp[ek] at h
theorem AE{c:List (List TV)}{sz m:Nat}(hs:∀i (h:i < c.length),c[i].length=sz) (hm:m≤c.length):(c.take m).flatten.length=m*sz:=by
 rw[vJ (sz:=sz) fun i h=>by simpa using hs i (by simp at h;omega)];simp[hm]
theorem sK{F fp:Nat→Prop}{t:TV}{v x:Value}{c c2:List (List TV)}{sz lo n cap:Nat}{ad:Option Addr}(h:gM w F fp t v) (ht:t=.ow c∨t=.sl c) (hs:∀i (h:i < c.length),c[i].length=sz) (hpos:0 < sz) (hc2:c2=(c.drop lo).take n) (hln:lo+n≤c.length)
 (hx:x=.slice ad n cap) (had:0 < n→∃b o len cap',v=.slice (some ⟨b,o,none⟩) len cap'∧ad=some ⟨b,o+lo*sz,none⟩) (hnone:ad=none→n=0) {m:Nat} {vs:List Value} (hm:m≤c2.length) (hf:ek (c2.take m).flatten=some vs):(Builtin.firstCells sz m x).run P w=.ok vs.toArray w:=by
 subst hx
 have hc2l:c2.length=n:=by rw[hc2];simp;omega
 have hs2:∀i (h:i < c2.length),c2[i].length=sz:=fun i h=>by
  subst hc2;simp only[List.getElem_take,List.getElem_drop];exact hs _ (by simp at h;omega)
 obtain⟨e1,e2⟩:=B9 hf;have hfl:=AE hs2 hm
 cases ad with
 | none=>
  have hn:=hnone rfl
  have hm0:m=0:=by omega
  subst hm0;have:vs=[]:=List.eq_nil_of_length_eq_zero (by rw[e1,hfl];omega);subst this;rfl
 | some ad=>
  show (loadCells ad (m*sz)).run P w=_;obtain⟨a,capX,vals,f,rfl,hvl,hcells,hrec,_⟩:=h.rows ht hs
  have hvl2:vs.length=m*sz:=by rw[e1,hfl]
  have:=run_loadCells_list (P:=P) w ad vs fun j y hj=>by
   have hjl:j < vs.length:=by
    rcases Nat.lt_or_ge j vs.length with h | h
    ·exact h
    ·rw[List.getElem?_eq_none h] at hj;simp at hj
   have hjm:j < m*sz:=by omega
   have hq:j / sz < m:=(Nat.div_lt_iff_lt_mul hpos).2 hjm;have hr:j % sz < sz:=Nat.mod_lt _ hpos
   have hqc:j / sz < c2.length:=by omega
   have hidx:lo+j / sz < c.length:=by omega
   have hrl:j % sz < (c[lo+j / sz]).length:=by rw[hs _ hidx];exact hr
   have hoff:(lo+j / sz)*sz+j % sz=lo*sz+j:=by
    rw[Nat.add_mul];have:=Nat.div_add_mod j sz;rw[Nat.mul_comm] at this;omega
   have hown:=hrec (lo+j / sz) (j % sz) hidx hrl;rw[hoff] at hown
   have hel:c[lo+j / sz][j % sz]=.v y:=by
    have h1:=e2 j (by rw[hfl];exact hjm) hjl;have h2:=qX (c:=c2.take m) (sz:=sz) (fun i h=>by simpa using hs2 i (by simp at h;omega)) (i:=j / sz) (j:=j % sz) (by simp;omega) (by rw[List.getElem_take,hs2 _ hqc];exact hr);rw[show j / sz*sz+j % sz=j by rw[Nat.mul_comm];exact Nat.div_add_mod j sz,oGE (by rw[hfl];exact hjm),h1] at h2
    injection h2 with h2
    have h3:(c2.take m)[j / sz]'(by simp;omega)=c[lo+j / sz]:=by
     subst hc2;simp
    have hy:vs[j]=y:=by simpa [hjl] using hj
    rw[← hy,h2];simp only[h3]
   rw[hel] at hown
   have hvj:vals.getD (lo*sz+j) undef=y:=by
    generalize vals.getD (lo*sz+j) undef=z at hown
    cases hown with
    | v hfp hfl=>rfl
   have hlt:lo*sz+j < vals.length:=by
    rw[hvl]
    have:(lo+j / sz)*sz+sz≤c.length*sz:=by
     have:(lo+j / sz+1)*sz≤c.length*sz:=Nat.mul_le_mul_right _ hidx;rw[Nat.add_mul,Nat.one_mul] at this;exact this
    omega
   obtain⟨b,o,hab,hcl⟩:=hcells (lo*sz+j) y (by rw[oGE hlt];rw[List.getD_eq_getElem?_getD,oGE hlt] at hvj;simpa using hvj);obtain⟨b',o',len,cap',hv',had'⟩:=had (by rw[← hc2l];exact Nat.lt_of_le_of_lt (Nat.zero_le _) hqc)
   injection hv' with hv' _ _
   rw[hv'] at hab
   injection hab with hab
   injection hab with hb ho _
   subst hb;subst ho
   injection had' with had'
   rw[had',fm,show o'+lo*sz+j=o'+(lo*sz+j) by omega];exact hcl
  rw[hvl2] at this;exact this
theorem FX(hI:Inv M σ [] [] ts w G) {u:TV}{v:Value}(hu:TmR w (G.F M.A) σ.v (ee M σ []) G u v) {c2:List (List TV)}(hr:(contentOf u).run σ=some (c2,σ')):σ'=σ∧∀sz,0 < sz→(∀i (h:i < c2.length),c2[i].length=sz) →
 ∃ad cap,v=.slice ad c2.length cap∧∀m vs,m≤c2.length→ek (c2.take m).flatten=some vs→(Builtin.firstCells sz m v).run P w=.ok vs.toArray w:=by
 cases u with
 | sl c=>
  simp only[contentOf,SP.run,oSJ,oPJ] at hr;obtain⟨rfl,rfl⟩:=hr;refine⟨rfl,fun sz hpos hs=>?_⟩
  cases hu with
  | sl h=>
   have hown:gM w (G.F M.A) (fun _=>False) (.sl c) v:=.sl (fun _ h=>h) h;obtain⟨ad,cap,hv,_⟩:=h.hdr;refine⟨ad,cap,hv,fun m vs hm hf=>sK (lo:=0) (n:=c.length) hown (.inr rfl) hs hpos (by simp) (by simp) hv (fun hn=>?_) (fun he=>?_) hm hf⟩
   ·cases h with
    | @sl _ a cap sz' u hsz hcap hmax hnil hcell hrec=>
     have e:sz'=sz:=by rw[← hsz 0 hn,hs 0 hn]
     subst e;obtain⟨b,o,ha,_,_⟩:=hcell 0 0 hn hpos
     injection hv with hv _ _
     exact⟨b,o,_,_,by rw[ha],by rw[← hv,ha];simp⟩
   ·cases h with
    | @sl _ a cap sz' u hsz hcap hmax hnil hcell hrec=>
     injection hv with hv _ _
     rw[hv] at hnil;have:=hnil he;omega
 | ow c=>
  cases hu with
  | @nil ad=>
   simp only[contentOf,SP.run,oSJ,oPJ] at hr;obtain⟨rfl,rfl⟩:=hr;refine⟨rfl,fun sz hpos hs=>⟨ad,0,rfl,fun m vs hm hf=>?_⟩⟩
   have hm0:m=0:=by simpa using hm
   subst hm0;simp only[List.take_zero,List.flatten_nil,ek,oSJ] at hf;subst hf;cases ad<;>simp[Builtin.firstCells,loadCells,loadCellsFrom]
 | pk p vs=>
  simp only[contentOf] at hr;obtain⟨_,σ1,h1,h2⟩:=SP.run_bind_some hr;have e1:σ1=σ:=(dW h1).1;have e2:=(dW h1).2;subst e1;obtain⟨tt,σ2,h3,h4⟩:=SP.run_bind_some h2;obtain⟨e3,hg⟩:=fG h3;have e3:σ2=σ1:=e3;subst e3
  cases hu with
  | pk V0 h0 hv h=>
   obtain⟨hr1,c,hhv,hgc⟩:=h e2
   have hgc':d7 (σ2.c p.root p.off) p.hops=some (.ow c):=by rw[d9 (by exact hr1)] at hgc;exact hgc
   rw[hgc'] at hg
   injection hg with hg
   subst hg;simp only[SP.run,oSJ,oPJ] at h4;obtain⟨rfl,rfl⟩:=h4;refine⟨rfl,fun sz hpos hs=>?_⟩;obtain⟨fp,hown⟩:=to hI hhv hgc;obtain⟨ad,cap,hv',_⟩:=hown.hdr;refine⟨ad,cap,hv',fun m vs hm hf=>sK (lo:=0) (n:=c.length) hown (.inl rfl) hs hpos (by simp) (by simp) hv' (fun hn=>?_) (fun he=>?_) hm hf⟩
   ·cases hown with
    | nil=>simp at hn
    | @ow _ _ b cap cur e' sz' u f hfp hb hsz hcap hz0 hmax hcur hcell hrec hnb hdis=>
     injection hv' with hv' _ _
     exact⟨b,0,_,_,rfl,by rw[← hv'];simp⟩
   ·cases hown with
    | nil=>rfl
    | @ow _ _ b cap cur e' sz' u f hfp hb hsz hcap hz0 hmax hcur hcell hrec hnb hdis=>
     injection hv' with hv' _ _
     rw[he] at hv';simp at hv'
 | pw p vs sz0 lo n=>
  simp only[contentOf] at hr;obtain⟨_,σ1,h1,h2⟩:=SP.run_bind_some hr;have e1:σ1=σ:=(dW h1).1;have e2:=(dW h1).2;subst e1;obtain⟨tt,σ2,h3,h4⟩:=SP.run_bind_some h2;obtain⟨e3,hg⟩:=fG h3;have e3:σ2=σ1:=e3;subst e3
  cases hu with
  | pw V0 h0 hv h=>
   obtain⟨hr1,c,hd,hhv,hgc,hln,a,cap,hx,hncap,hmx,hnil,hszc,had⟩:=h e2
   have hgc':d7 (σ2.c p.root p.off) p.hops=some (.ow c):=by rw[d9 (by exact hr1)] at hgc;exact hgc
   rw[hgc'] at hg
   injection hg with hg
   subst hg;simp only[SP.run,oSJ,oPJ] at h4;obtain⟨rfl,rfl⟩:=h4;refine⟨rfl,fun sz hpos hs=>?_⟩
   have hl2:((c.drop lo).take n).length=n:=by simp;omega
   obtain⟨fp,hown⟩:=to hI hhv hgc;by_cases hn:n=0
   ·subst hn;refine⟨a,cap,by rw[hl2];exact hx,fun m vs hm hf=>?_⟩
    have hm0:m=0:=by omega
    subst hm0;simp only[List.take_zero,List.flatten_nil,ek,oSJ] at hf;subst hf;rw[hx]
    cases a with
    | none=>rfl
    | some a=>simp[Builtin.firstCells,loadCells,loadCellsFrom]
   ·have hsz0:sz0=sz:=by
     rw[← hs 0 (by omega)];simp only[List.getElem_take,List.getElem_drop];exact (hszc _ (by omega)).symm
    subst hsz0;refine⟨a,cap,by rw[hl2];exact hx,fun m vs hm hf=>sK (lo:=lo) (n:=n) hown (.inl rfl) hszc hpos rfl hln hx (fun hn=>?_) (fun he=>?_) hm hf⟩
    ·obtain⟨b,len,cap',q1,q2⟩:=had hn;exact⟨b,0,len,cap',q1,by rw[q2];simp⟩
    ·obtain⟨b,len,cap',q1,q2⟩:=had (by omega);rw[he] at q2;simp at q2
 | _=>simp[contentOf,SP.run] at hr
theorem rp{t t' ty e:TypeId}{sz:Nat}(hu:P.underlying t=some (.slice e)) (hs:(P.info? e).map (·.size)=some sz) {v:Value}{ad2:Option Addr}{n2 cap2:Nat}(hv:v=.slice ad2 n2 cap2) {ad:Option Addr}{n cap:Nat}{vs:List Value}(hf:(Builtin.firstCells sz (min n2 n) v).run P w=.ok vs.toArray w)
 {w':World} (hst:match ad with | some a=>(storeCells a vs).run P w=.ok () w' | none=>w'=w) :
 (Builtin.copy_ #[t,t'] ty #[.slice ad n cap,v]).run P w=.ok (goInt ((min n2 n:Nat):Int)) w':=by
 subst hv
 cases hq:P.info? e with
 | none=>simp[hq] at hs
 | some i=>
  have hi:i.size=sz:=by simpa [hq] using hs
  have hmin:Nat.min n2 n=min n2 n:=rfl
  cases ad with
  | none=>
   simp only at hst;subst hst;simp[Builtin.copy_,run_underlying hu,Builtin.lenOf,sizeOf,typeInfo,hq,hi,hmin,hf]
  | some a=>
   simp[Builtin.copy_,run_underlying hu,Builtin.lenOf,sizeOf,typeInfo,hq,hi,hmin,hf,hst]
theorem K0(hI:Inv M σ [] [] a.tmps w G) {d:Nat}(hd:o.dst=some d) (hN:d < M.N) {x y:Opd}{x' y':Operand}{t t' e sz:TypeId}(hx:dJ x'=some x) (hy:dJ y'=some y) (ho:o.op=.call { callee:=.builtin .copy,args:=#[x',y'],argTypes:=#[t,t'] })
 (hu:P.underlying t=some (.slice e)) (hs:(P.info? e).map (·.size)=some sz) (hr:(ev1 d (.cpy sz x y)).run σ=some ((),σ')):mr P M σ' a o w:=by
 simp only[ev1] at hr;obtain⟨tx,σ1,h1,h2⟩:=SP.run_bind_some hr;obtain⟨rfl,hx1⟩:=eM hI.tmr hx h1;obtain⟨ty,σ2,h3,h4⟩:=SP.run_bind_some h2;obtain⟨rfl,hy1⟩:=eM hI.tmr hy h3;obtain⟨c2,σ3,h5,h6⟩:=SP.run_bind_some h4;obtain⟨rfl,hcont⟩:=FX hI hy1 h5
 have hexec:∀r w',(Builtin.copy_ #[t,t'] o.type #[a.eval x',a.eval y']).run P w=.ok r w'→(execOp a.eval o).run P w=.ok (.value r) w':=by
  intro r w' h;simp[execOp,ho,resolve,invoke,builtin,h]
 have fin:∀(p:dR) (c:List (List TV)) (lo n:Nat) (vd hdv:Value) (ad:Option Addr) (cap:Nat),p.root≠1→G.hv w p=some hdv→d7 (σ3.c p.root p.off) p.hops=some (.ow c)→a.eval x'=vd→vd=.slice ad n cap→lo+n≤c.length →
  (∀b0 len cap',hdv=.slice (some ⟨b0,0,none⟩) len cap'→True)→(0 < n→∃b len cap',hdv=.slice (some ⟨b,0,none⟩) len cap'∧len=c.length∧ad=some ⟨b,lo*sz,none⟩)→(Al d p (σ3.c p.root p.off) (J0 sz c c2 lo n)).run σ3=some ((),σ')→mr P M σ' a o w:=by
  intro p c lo n vd hdv ad cap hr1 hhv hg hvd hvs hln _ hbase hrun;unfold J0 at hrun;split at hrun
  ·rename_i hfl;split at hrun
   case isFalse=>simp[Al,SP.run] at hrun
   rename_i hck;simp only[Bool.and_eq_true,decide_eq_true_eq,List.all_eq_true,beq_iff_eq] at hck;obtain⟨ad2,cap2,hv2,hfirst⟩:=hcont sz hck.1 fun i h=>hck.2 _ (List.getElem_mem h);have hf:=hfirst (min c2.length n) [] (Nat.min_le_left _ _) hfl;have hcp:=rp (t':=t') (ty:=o.type) (ad:=ad) (n:=n) (cap:=cap) (w':=w) hu hs hv2 hf (by cases ad<;>rfl);simp only[Al] at hrun;refine gk hI hd hN (.v rfl) hrun (hexec _ _ ?_);rw[hvd,hvs];exact hcp
  ·rename_i v vs hfl;split at hrun
   case isFalse=>simp[Al,SP.run] at hrun
   rename_i hck;simp only[Bool.and_eq_true,decide_eq_true_eq,List.all_eq_true,beq_iff_eq] at hck;obtain⟨⟨⟨⟨⟨k1,k2⟩,k3⟩,k4⟩,k5⟩,k6⟩:=hck;have hsz2:∀i (h:i < c2.length),c2[i].length=sz:=fun i h=>k3 _ (List.getElem_mem h);obtain⟨ad2,cap2,hv2,hfirst⟩:=hcont sz k1 hsz2;have hf:=hfirst (min c2.length n) (v :: vs) (Nat.min_le_left _ _) hfl
   have hvl:(v :: vs).length=min c2.length n*sz:=by rw[(B9 hfl).1,AE hsz2 (Nat.min_le_left _ _)]
   have hn0:0 < n:=by
    rcases Nat.eq_zero_or_pos n with h | h
    ·subst h;simp at hvl
    ·exact h
   obtain⟨b,len,cap',hhd,hlen,had⟩:=hbase hn0;subst hlen;rw[hhd] at hhv;simp only[Al] at hrun;obtain⟨l,hl,hol,h7⟩:=SP.run_wrC hrun;have hmn:min c2.length n≤n:=Nat.min_le_right _ _
   obtain⟨⟨G1,hI1⟩,hcell⟩:=Jq hr1 k1 (v :: vs) c (lo*sz) σ3 w G l (by simp) hI hhv hg rfl (fun el hel=>k2 el hel) k6 (fun t ht1 ht2=>by
    rw[hvl] at ht2;have hq1:lo≤t / sz:=(Nat.le_div_iff_mul_le k1).2 ht1;have hq2:t / sz < lo+min c2.length n:=(Nat.div_lt_iff_lt_mul k1).2 (by rw[Nat.add_mul];exact ht2);have hr2:t % sz < sz:=Nat.mod_lt _ k1;have hic:t / sz < c.length:=Nat.lt_of_lt_of_le hq2 k4
    have hmem:c[t / sz]∈(c.drop lo).take (min c2.length n):=by
     obtain⟨q,hq⟩:∃q,t / sz=lo+q:=⟨t / sz - lo,by rw[Nat.add_sub_cancel' hq1]⟩;simp only[hq];rw[hq] at hq2;refine List.mem_of_getElem? (i:=q) ?_;rw[List.getElem?_take,if_pos (Nat.lt_of_add_lt_add_left hq2),List.getElem?_drop];exact oGE _
    have hlt:t % sz < c[t / sz].length:=by rw[k2 _ (List.getElem_mem hic)];exact hr2
    have hisv:=k5 _ hmem _ (List.getElem_mem hlt);refine⟨c[t / sz],?_⟩
    cases hcv:c[t / sz][t % sz] with
    | v y=>exact⟨y,oGE hic,by rw[oGE hlt,hcv]⟩
    | _=>rw[hcv] at hisv;simp[isV] at hisv) hl hol
   have hst:=run_storeCells_cells (P:=P) b (lo*sz) (v :: vs) 0 w (fun j hj=>by simpa using (hcell j hj).1) (fun j hj=>by simpa using (hcell j hj).2) (fun u hu=>re (k6 u hu));have hcp:=rp (t':=t') (ty:=o.type) (ad:=ad) (n:=n) (cap:=cap) (w':=w.setCells b (lo*sz) (v :: vs)) hu hs hv2 hf (by rw[had];simpa using hst);have hrn:=hexec _ _ (by rw[hvd,hvs];exact hcp);simp only[wr,SP.run,oSJ,oPJ,true_and] at h7;have e9:σ'={ σ3.sub p l (.ow (nu sz c (lo*sz) (v :: vs))) with tm:=fI (σ3.sub p l (.ow (nu sz c (lo*sz) (v :: vs)))).tm d (.v (.int .i64 ((min c2.length n:Nat):Int))) }:=h7.symm;rw[e9];refine⟨_,_,_,G1,hrn,.inl rfl,?_⟩;rw[hd];exact hI1.wrT hN (.v rfl)
  ·simp[Al,SP.run] at hrun
 cases tx with
 | pk p vs=>
  simp only at h6;obtain⟨_,σ4,h7,h8⟩:=SP.run_bind_some h6;have e1:σ4=σ3:=(dW h7).1;have e2:=(dW h7).2;subst e1;simp only[SP.run] at h8;generalize hz:a.eval x'=z at hx1
  cases hx1 with
  | pk V0 h0 hv h=>
   obtain⟨hr1,c,hhv,hgc⟩:=h e2
   have hgc':d7 (σ4.c p.root p.off) p.hops=some (.ow c):=by rw[d9 (by exact hr1)] at hgc;exact hgc
   rw[hgc'] at h8;simp only at h8;obtain⟨fp,hown⟩:=to hI hhv hgc;obtain⟨ad,cap,hzv,_⟩:=hown.hdr;refine fin p c 0 c.length z z ad cap hr1 hhv hgc' hz hzv (by simp) (fun _ _ _ _=>trivial) (fun hn=>?_) h8
   cases hown with
   | nil=>simp at hn
   | @ow _ _ b cap0 cur e' sz' u f hfp hb hsz hcap hz0 hmax hcur hcell hrec hnb hdis=>
    injection hzv with hzv _ _
    exact⟨b,_,_,rfl,rfl,by rw[← hzv];simp⟩
 | pw p vs sz' lo n=>
  simp only at h6;obtain⟨_,σ4,h7,h8⟩:=SP.run_bind_some h6;have e1:σ4=σ3:=(dW h7).1;have e2:=(dW h7).2;subst e1;simp only[SP.run] at h8;generalize hz:a.eval x'=z at hx1
  cases hx1 with
  | pw V0 h0 hv h=>
   obtain⟨hr1,c,hd',hhv,hgc,hln,ad,cap,hxv,hncap,hmx,hnil,hszc,had⟩:=h e2
   have hgc':d7 (σ4.c p.root p.off) p.hops=some (.ow c):=by rw[d9 (by exact hr1)] at hgc;exact hgc
   rw[hgc'] at h8;simp only at h8;split at h8
   case isFalse=>simp[SP.run] at h8
   rename_i hsz';subst hsz';obtain⟨fp,hown⟩:=to hI hhv hgc;refine fin p c lo n z hd' ad cap hr1 hhv hgc' hz hxv hln (fun _ _ _ _=>trivial) (fun hn=>?_) h8;obtain⟨b,len,cap',q1,q2⟩:=had hn;obtain⟨ad3,cap3,q3,_⟩:=hown.hdr;rw[q1] at q3
   injection q3 with _ q3 _
   exact⟨b,len,cap',q1,q3,q2⟩
 | _=>simp[SP.run] at h6
end
def xL(P:Program) (t:TypeId):Option Nat:=(P.info? t).map (·.size)
def Kg(P:Program) (t:TypeId):Option (List Value):=(P.info? t).bind (·.zero.map (·.cells.toList))
def A2(P:Program) (t:TypeId):Option (Option Nat):=
 match P.underlying t with
 | some (.struct _)=>(xL P t).map some
 | some (.array _ _)=>(xL P t).map some
 | some _=>some none
 | none=>none
def AU:Option Operand→Option (Option Opd)
 | none=>some none
 | some x=>(dJ x).map some
def oY{α β:Type}(f:α→Option β):List α→Option (List β)
 | []=>some []
 | x :: r=>match f x,oY f r with | some y,some l=>some (y :: l) | _,_=>none
def rK(b:Bool):Option Unit:=if b then some () else none
def fX(P:Program) (mv:Nat):Op→Option TOp
 | .move x=>match x with
  | .const (.agg cs)=>some (.asn true (.c (.agg cs)))
  | x=>(dJ x).map .mov
 | .assign x=>if mv=2 then (dJ x).map .mov else (dJ x).map (.asn (mv==1))
 | .pick c a b=>do some (.pick (← dJ c) (← dJ a) (← dJ b))
 | .alloc e=>(Kg P e).map .alloc
 | .box e x=>do some (.box (← xL P e) (mv==1) (← dJ x))
 | .load t a=>do some (.load (← A2 P t) (← dJ a))
 | .store t a x=>do
  let n ← xL P t
  rK (decide (0 < n))
  some (.store n (mv==1) (← dJ a) (← dJ x))
 | .nilCheck x=>(dJ x).map .nilc
 | .binOp op t x y _=>
  match P.underlying t with
  | some .bool=>match op with
   | .eql=>do some (.bnb false (← dJ x) (← dJ y))
   | .neq=>do some (.bnb true (← dJ x) (← dJ y))
   | _=>none
  | some (.int _)=>do some (.bin op (← dJ x) (← dJ y))
  | some .string=>do some (.bin op (← dJ x) (← dJ y))
  | some (.struct _)=>
   if P.eqGuardType P.depth t then none
   else match o8 P 50 t with
    | some ks=>match op with
     | .eql=>do some (.eqa ks false (← dJ x) (← dJ y))
     | .neq=>do some (.eqa ks true (← dJ x) (← dJ y))
     | _=>none
    | none=>none
  | _=>none
 | .unOp op _ x=>(dJ x).map (.un op)
 | .convert s d x=>
  match P.underlying s,P.underlying d with
  | some (.int _),some (.int k)=>(dJ x).map (.conv k)
  | some .string,some (.slice e)=>match P.underlying e with
   | some (.int .u8)=>(dJ x).map .s2b
   | _=>none
  | some (.slice e),some .string=>match P.underlying e with
   | some (.int .u8)=>(dJ x).map .b2s
   | _=>none
  | _,_=>none
 | .fieldAddr s x f=>
  match P.underlying s with
  | some (.struct fs)=>match fs[f]? with
   | some fd=>match xL P fd.type with
    | some (_+1)=>(dJ x).map (.fld fd.offset)
    | _=>none
   | none=>none
  | _=>none
 | .field s x f=>
  match P.underlying s with
  | some (.struct fs)=>match fs[f]? with
   | some fd=>do some (.fldv fd.offset (← A2 P fd.type) (← dJ x))
   | none=>none
  | _=>none
 | .indexAddr t x i=>
  match P.underlying t with
  | some (.slice e)=>do some (.idx (← xL P e) (← dJ x) (← dJ i))
  | some (.array n e)=>do some (.idxa n (← xL P e) (← dJ x) (← dJ i))
  | _=>none
 | .index t x i=>
  match P.underlying t with
  | some .string=>do some (.ixs (← dJ x) (← dJ i))
  | _=>none
 | .extract x i=>(dJ x).map fun x=>.ext x i
 | .makeSlice t l c=>
  match P.underlying t with
  | some (.slice e)=>match P.info? e with
   | some i=>match i.zero with
    | some z=>do
     rK (decide (i.bytes≤16777216*i.size) && decide (0 < i.size))
     some (.mks i.size z.cells.toList (← dJ l) (← dJ c))
    | none=>none
   | none=>none
  | _=>none
 | .slice t x lo hi mx=>
  match mx with
  | some m=>match hi,P.underlying t with
   | some h,some (.slice e)=>do
    rK (Gf lo && uO h && uO m)
    let _ ← xL P e
    some (.emp (← dJ x))
   | _,_=>none
  | none=>match P.underlying t with
   | some (.slice e)=>do some (.slc (← xL P e) (← dJ x) (← AU lo) (← AU hi))
   | _=>none
 | .makeFunc fn first caps=>
  match fn with
  | .func f=>do
   rK (first.size==0)
   some (.mkf f (← oY dJ caps.toList))
  | _=>none
 | .buildSlice t len parts=>
  match P.underlying t with
  | some (.slice e)=>match P.info? e with
   | some i=>do
    rK ((i.zero.isSome || len*i.size==0) && decide (len*i.size≤16777216) && decide (len≤16777216) && parts.toList.map (·.1)==List.range len)
    some (.bsl i.size (mv==1) len (← oY (fun p=>dJ p.2) parts.toList))
   | none=>none
  | _=>none
 | .build t parts=>
  match P.underlying t,Kg P t with
  | some (.struct fs),some z=>do
   rK (fs.toList.all fun f=>(xL P f.type).isSome)
   let ps ← oY (fun p=>match fs[p.1]? with
    | some f=>match xL P f.type,dJ p.2 with
     | some n,some x=>if f.offset+n≤z.length then some (f.offset,n,x) else none
     | _,_=>none
    | none=>none) parts.toList
   some (.bld z (mv==1) ps)
  | some (.array _ e),some z=>match xL P e with
   | some sz=>do
    let ps ← oY (fun p=>match dJ p.2 with
     | some x=>if p.1*sz+sz≤z.length then some (p.1*sz,sz,x) else none
     | none=>none) parts.toList
    some (.bld z (mv==1) ps)
   | none=>none
  | _,_=>none
 | .call c=>
  match c with
  | { callee:=.builtin .append,args,argTypes }=>match args.toList,argTypes.toList with
   | [s,x],[t,t']=>if t=t' then
    match P.underlying t with
    | some (.slice e)=>match P.info? e with
     | some i=>match i.zero with
      | some z=>do
       rK (z.cells.size==i.size && decide (0 < i.size))
       some (.app i.size i.bytes (mv==1) (z.cells.all gU) (← dJ s) (← dJ x))
      | none=>none
     | none=>none
    | _=>none
    else none
   | _,_=>none
  | { callee:=.builtin .copy,args,argTypes }=>match args.toList,argTypes.toList with
   | [x,y],[t,_]=>match P.underlying t with
    | some (.slice e)=>do some (.cpy (← xL P e) (← dJ x) (← dJ y))
    | _=>none
   | _,_=>none
  | { callee:=.builtin .min,args,argTypes:=_ }=>(oY dJ args.toList).map (.mm false)
  | { callee:=.builtin .max,args,argTypes:=_ }=>(oY dJ args.toList).map (.mm true)
  | { callee:=.builtin .len,args,argTypes }=>match args.toList,argTypes.toList with
   | [x],[t]=>match P.underlying t with
    | some (.slice _)=>(dJ x).map .len
    | some .string=>(dJ x).map .lens
    | _=>none
   | _,_=>none
  | _=>none
 | _=>none
theorem ve{P:Program}{t:TypeId}{n:Option Nat}(h:A2 P t=some n):ET P t n:=by
 unfold A2 at h;split at h
 ·rename_i f hu
  cases hs:xL P t with
  | none=>simp[hs] at h
  | some k=>simp[hs] at h;subst h;exact⟨⟨_,hu,.inl ⟨_,rfl⟩⟩,hs⟩
 ·rename_i n e hu
  cases hs:xL P t with
  | none=>simp[hs] at h
  | some k=>simp[hs] at h;subst h;exact⟨⟨_,hu,.inr ⟨_,_,rfl⟩⟩,hs⟩
 ·rename_i d hd1 hd2 hu
  injection h with h
  subst h;exact⟨d,hu,fun f e=>hd1 f (by rw[← e]),fun n e' e=>hd2 n e' (by rw[← e])⟩
 ·simp at h
theorem AT{x:Option Operand}{y:Option Opd}(h:AU x=some y):x.map dJ=y.map some:=by
 cases x with
 | none=>simp[AU] at h;subst h;rfl
 | some x=>
  simp only[AU] at h
  cases hc:dJ x with
  | none=>simp[hc] at h
  | some z=>simp[hc] at h;subst h;simp[hc]
theorem nv{α β:Type}{f:α→Option β}:∀{l:List α}{r:List β},oY f l=some r→l.map f=r.map some:=by
 intro l
 induction l with
 | nil=>intro r h;simp[oY] at h;subst h;rfl
 | cons x l ih=>
  intro r h;simp only[oY] at h
  cases hx:f x with
  | none=>simp[hx] at h
  | some y=>
   cases hl:oY f l with
   | none=>simp[hx,hl] at h
   | some q=>simp[hx,hl] at h;subst h;simp[hx,ih hl]
theorem mh{b:Bool}{u:Unit}(h:rK b=some u):b=true:=by
 unfold rK at h;split at h
 ·assumption
 ·simp at h
theorem dM{α β:Type}{x:Option α}{f:α→Option β}{y:β}(h:(x >>= f)=some y):∃a,x=some a∧f a=some y:=by
 cases x with
 | none=>exact absurd h (by simp)
 | some a=>exact⟨a,rfl,h⟩
theorem gV{α β:Type}{x:Option α}{f:α→β}{y:β}(h:x.map f=some y):∃a,x=some a∧f a=y:=by
 cases x with
 | none=>exact absurd h (by simp)
 | some a=>exact⟨a,rfl,by simpa using h⟩
section
variable {P:Program} {M:Fm} {σ σ':St} {ts:Array Value} {w:World} {G:Gh} {a:Act} {o:Oper}
theorem KQ(hI:Inv M σ [] [] a.tmps w G) {d:Nat}(hd:o.dst=some d) (hN:d < M.N) (hpr:M.pr (2*d+2)=none) {mv:Nat}{t:TOp}(hc:fX P mv o.op=some t) (hr:(ev1 d t).run σ=some ((),σ')) (hns:¬ ∃ty x y,o.op=.store ty x y):mr P M σ' a o w:=by
 cases ho:o.op with
 | move x=>
  rw[ho] at hc;simp only[fX] at hc;split at hc
  ·injection hc with hc
   subst hc;exact GR hI hd hN rfl (.inr ho) hr
  ·obtain⟨y,hy,rfl⟩:=gV hc;exact GE hI hd hN hy (.inl ho) hr
 | assign x=>
  rw[ho] at hc;simp only[fX] at hc;split at hc
  ·obtain⟨y,hy,rfl⟩:=gV hc;exact GE hI hd hN hy (.inr ho) hr
  ·obtain⟨y,hy,rfl⟩:=gV hc;exact GR hI hd hN hy (.inl ho) hr
 | pick c x y=>
  rw[ho] at hc;simp only[fX] at hc;obtain⟨c1,h1,hc⟩:=dM hc;obtain⟨x1,h2,hc⟩:=dM hc;obtain⟨y1,h3,hc⟩:=dM hc
  injection hc with hc
  subst hc;exact IY hI hd hN h1 h2 h3 ho hr
 | alloc e=>
  rw[ho] at hc;obtain⟨z,hz,rfl⟩:=gV hc;exact GS hI hd hN hpr ho hz hr
 | box e x=>
  rw[ho] at hc;simp only[fX] at hc;obtain⟨n,h1,hc⟩:=dM hc;obtain⟨y,h2,hc⟩:=dM hc
  injection hc with hc
  subst hc;exact K2 hI hd hN hpr h2 ho hr
 | load t' x=>
  rw[ho] at hc;simp only[fX] at hc;obtain⟨n,h1,hc⟩:=dM hc;obtain⟨y,h2,hc⟩:=dM hc
  injection hc with hc
  subst hc;exact I2 hI hd hN h2 ho (ve h1) hr
 | nilCheck x=>
  rw[ho] at hc;obtain⟨y,hy,rfl⟩:=gV hc;exact IZ hI hd hN hy ho hr
 | binOp op ty x y yt=>
  rw[ho] at hc;simp only[fX] at hc
  have key:(do some (TOp.bin op (← dJ x) (← dJ y)):Option TOp)=some t→mr P M σ' a o w:=by
   intro hc;obtain⟨x1,h2,hc⟩:=dM hc;obtain⟨y1,h3,hc⟩:=dM hc
   injection hc with hc
   subst hc;exact K4 hI hd hN h2 h3 ho hr
  split at hc
  ·rename_i hu;split at hc
   ·obtain⟨x1,h2,hc⟩:=dM hc;obtain⟨y1,h3,hc⟩:=dM hc
    injection hc with hc
    subst hc;exact GQ hI hd hN h2 h3 ho (.inl ⟨rfl,rfl⟩) hu hr
   ·obtain⟨x1,h2,hc⟩:=dM hc;obtain⟨y1,h3,hc⟩:=dM hc
    injection hc with hc
    subst hc;exact GQ hI hd hN h2 h3 ho (.inr ⟨rfl,rfl⟩) hu hr
   ·simp at hc
  ·exact key hc
  ·exact key hc
  ·rename_i fs hu;split at hc
   case isTrue=>simp at hc
   rename_i hgd;split at hc
   case h_2=>simp at hc
   rename_i ks hk;split at hc
   ·obtain⟨x1,h2,hc⟩:=dM hc;obtain⟨y1,h3,hc⟩:=dM hc
    injection hc with hc
    subst hc;exact GL hI hd hN h2 h3 ho (.inl ⟨rfl,rfl⟩) hu hk (by simpa using hgd) hr
   ·obtain⟨x1,h2,hc⟩:=dM hc;obtain⟨y1,h3,hc⟩:=dM hc
    injection hc with hc
    subst hc;exact GL hI hd hN h2 h3 ho (.inr ⟨rfl,rfl⟩) hu hk (by simpa using hgd) hr
   ·simp at hc
  ·simp at hc
 | unOp op ty x=>
  rw[ho] at hc;obtain⟨y,hy,rfl⟩:=gV hc;exact Mf hI hd hN hy ho hr
 | convert s dd x=>
  rw[ho] at hc;simp only[fX] at hc;split at hc
  ·rename_i ks k hs hdd;obtain⟨y,hy,rfl⟩:=gV hc;exact I6 hI hd hN hy ho hs hdd hr
  ·rename_i e hs hdd;split at hc
   ·rename_i he;obtain⟨y,hy,rfl⟩:=gV hc;exact KO hI hd hN hy ho hs hdd he hr
   ·simp at hc
  ·rename_i e hs hdd;split at hc
   ·rename_i he;obtain⟨y,hy,rfl⟩:=gV hc;exact K5 hI hd hN hy ho hs hdd he hr
   ·simp at hc
  ·simp at hc
 | fieldAddr s x f=>
  rw[ho] at hc;simp only[fX] at hc;split at hc
  ·rename_i fs hu;split at hc
   ·rename_i fd hf;split at hc
    ·rename_i n hs;obtain⟨y,hy,rfl⟩:=gV hc;exact KX hI hd hN hy ho hu hf ⟨_,hs⟩ hr
    ·simp at hc
   ·simp at hc
  ·simp at hc
 | field s x f=>
  rw[ho] at hc;simp only[fX] at hc;split at hc
  ·rename_i fs hu;split at hc
   ·rename_i fd hf;obtain⟨n,h1,hc⟩:=dM hc;obtain⟨y,h2,hc⟩:=dM hc
    injection hc with hc
    subst hc;exact I5 hI hd hN h2 ho hu hf (ve h1) hr
   ·simp at hc
  ·simp at hc
 | indexAddr ty x i=>
  rw[ho] at hc;simp only[fX] at hc;split at hc
  ·rename_i e hu;obtain⟨n,h1,hc⟩:=dM hc;obtain⟨y,h2,hc⟩:=dM hc;obtain⟨z,h3,hc⟩:=dM hc
   injection hc with hc
   subst hc;exact KW hI hd hN h2 h3 ho hu h1 hr
  ·rename_i n e hu;obtain⟨sz,h1,hc⟩:=dM hc;obtain⟨y,h2,hc⟩:=dM hc;obtain⟨z,h3,hc⟩:=dM hc
   injection hc with hc
   subst hc;exact I4 hI hd hN h2 h3 ho hu h1 hr
  ·simp at hc
 | index ty x i=>
  rw[ho] at hc;simp only[fX] at hc;split at hc
  ·rename_i hu;obtain⟨y,h2,hc⟩:=dM hc;obtain⟨z,h3,hc⟩:=dM hc
   injection hc with hc
   subst hc;exact KV hI hd hN h2 h3 ho hu hr
  ·simp at hc
 | extract x i=>
  rw[ho] at hc;obtain⟨y,hy,rfl⟩:=gV hc;exact KY hI hd hN hy ho hr
 | makeSlice ty l c=>
  rw[ho] at hc;simp only[fX] at hc;split at hc
  ·rename_i e hu;split at hc
   ·rename_i i hi;split at hc
    ·rename_i z hz;obtain⟨u,h1,hc⟩:=dM hc;obtain⟨y,h2,hc⟩:=dM hc;obtain⟨y2,h3,hc⟩:=dM hc
     injection hc with hc
     subst hc;have hg:=mh h1;simp only[Bool.and_eq_true,decide_eq_true_eq] at hg;exact KS hI hd hN h2 h3 ho hu hi hz rfl rfl hg.1 hg.2 hr
    ·simp at hc
   ·simp at hc
  ·simp at hc
 | slice ty x lo hi mx=>
  rw[ho] at hc;simp only[fX] at hc;split at hc
  ·split at hc
   ·rename_i m h e hu;obtain⟨_,hg,hc⟩:=dM hc;obtain⟨n,h1,hc⟩:=dM hc;obtain⟨y,h2,hc⟩:=dM hc
    injection hc with hc
    subst hc;have hg:=mh hg;simp only[Bool.and_eq_true] at hg;exact KZ hI hd hN h2 ho hg.1.1 hg.1.2 hg.2 hu h1 hr
   ·simp at hc
  ·split at hc
   ·rename_i e hu;obtain⟨n,h1,hc⟩:=dM hc;obtain⟨y,h2,hc⟩:=dM hc;obtain⟨l1,h3,hc⟩:=dM hc;obtain⟨h4,h5,hc⟩:=dM hc
    injection hc with hc
    subst hc;exact KN hI hd hN h2 (AT h3) (AT h5) ho hu h1 hr
   ·simp at hc
 | makeFunc fn first caps=>
  rw[ho] at hc;simp only[fX] at hc;split at hc
  ·rename_i f;obtain⟨u,h1,hc⟩:=dM hc;obtain⟨l,h2,hc⟩:=dM hc
   injection hc with hc
   subst hc;have hg:=mh h1
   have hf:first=#[]:=by simpa using hg
   subst hf;exact KT hI hd hN (nv h2) ho hr
  ·simp at hc
 | buildSlice ty len parts=>
  rw[ho] at hc;simp only[fX] at hc;split at hc
  ·rename_i e hu;split at hc
   ·rename_i i hi;obtain⟨u,h1,hc⟩:=dM hc;obtain⟨l,h2,hc⟩:=dM hc
    injection hc with hc
    subst hc;have hg:=mh h1;simp only[Bool.and_eq_true,Bool.or_eq_true,decide_eq_true_eq,beq_iff_eq] at hg;obtain⟨⟨⟨g1,g2⟩,g3⟩,g4⟩:=hg;refine K1 hI hd hN ho hu hi rfl (fun h0=>?_) g4 (nv h2) g2 g3 hr;rcases g1 with g1 | g1
    ·exact Option.isSome_iff_exists.1 g1
    ·omega
   ·simp at hc
  ·simp at hc
 | build ty parts=>
  rw[ho] at hc;simp only[fX] at hc;split at hc
  ·rename_i fs z hu hz;obtain⟨u,h1,hc⟩:=dM hc;obtain⟨ps,h2,hc⟩:=dM hc
   injection hc with hc
   subst hc;have hg:=mh h1;simp only[List.all_eq_true] at hg;have hm:=nv h2;refine K3 hI hd hN (szf:=fun f=>(xL P f.type).getD 0) ho hu hz (fun f hf=>?_) ?_ (fun k h h'=>?_) hr
   ·have:=hg f hf;obtain⟨n,hn⟩:=Option.isSome_iff_exists.1 this;rw[hn];exact hn
   ·have:=congrArg List.length hm;simpa using this
   ·have hk:(parts.toList.map (fun p=>match fs[p.1]? with
     | some f=>match xL P f.type,dJ p.2 with
      | some n,some x=>if f.offset+n≤z.length then some (f.offset,n,x) else none
      | _,_=>none
     | none=>none))[k]?=(ps.map some)[k]?:=by rw[hm]
    simp only[List.getElem?_map,oGE h',Option.map_some,Array.getElem?_toList,Array.getElem?_eq_getElem h] at hk
    cases hf:fs[parts[k].1]? with
    | none=>simp[hf] at hk
    | some f=>
     cases hs:xL P f.type with
     | none=>simp[hf,hs] at hk
     | some n=>
      cases hx:dJ parts[k].2 with
      | none=>simp[hf,hs,hx] at hk
      | some x=>
       simp only[hf,hs,hx,oSJ] at hk;split at hk
       ·rename_i hle
        injection hk with hk
        rw[← hk];exact⟨rfl,by simp[hs],hle⟩
       ·simp at hk
  ·rename_i n e z hu hz;split at hc
   ·rename_i sz hsz;obtain⟨ps,h2,hc⟩:=dM hc
    injection hc with hc
    subst hc;have hm:=nv h2;refine I7 hI hd hN ho hu hz hsz ?_ (fun k h h'=>?_) hr
    ·have:=congrArg List.length hm;simpa using this
    ·have hk:(parts.toList.map (fun p=>match dJ p.2 with
      | some x=>if p.1*sz+sz≤z.length then some (p.1*sz,sz,x) else none
      | none=>none))[k]?=(ps.map some)[k]?:=by rw[hm]
     simp only[List.getElem?_map,oGE h',Option.map_some,Array.getElem?_toList,Array.getElem?_eq_getElem h] at hk
     cases hx:dJ parts[k].2 with
     | none=>simp[hx] at hk
     | some x=>
      simp only[hx,oSJ] at hk;split at hk
      ·rename_i hle
       injection hk with hk
       rw[← hk];exact⟨rfl,rfl,rfl,hle⟩
      ·simp at hk
   ·simp at hc
  ·simp at hc
 | call c=>
  rw[ho] at hc;simp only[fX] at hc;split at hc
  ·rename_i args argTypes;split at hc
   ·rename_i s x t1 t2 ea et
    have ea:args=#[s,x]:=by rw[← Array.toArray_toList (xs:=args),ea]
    have et:argTypes=#[t1,t2]:=by rw[← Array.toArray_toList (xs:=argTypes),et]
    subst ea;subst et;split at hc
    ·rename_i hteq;subst hteq;split at hc
     ·rename_i e hu;split at hc
      ·rename_i i hi;split at hc
       ·rename_i z hz;obtain⟨u,h1,hc⟩:=dM hc;obtain⟨y,h2,hc⟩:=dM hc;obtain⟨y2,h3,hc⟩:=dM hc
        injection hc with hc
        subst hc;have hg:=mh h1;simp only[Bool.and_eq_true,decide_eq_true_eq,beq_iff_eq] at hg;exact K6 hI hd hN h2 h3 ho hu hi hz hg.1 rfl rfl hg.2 hr
       ·simp at hc
      ·simp at hc
     ·simp at hc
    ·simp at hc
   ·simp at hc
  ·rename_i args argTypes;split at hc
   ·rename_i x y t1 t2 ea et
    have ea:args=#[x,y]:=by rw[← Array.toArray_toList (xs:=args),ea]
    have et:argTypes=#[t1,t2]:=by rw[← Array.toArray_toList (xs:=argTypes),et]
    subst ea;subst et;split at hc
    ·rename_i e hu;obtain⟨sz,h1,hc⟩:=dM hc;obtain⟨y1,h2,hc⟩:=dM hc;obtain⟨y2,h3,hc⟩:=dM hc
     injection hc with hc
     subst hc;exact K0 hI hd hN h2 h3 ho hu h1 hr
    ·simp at hc
   ·simp at hc
  ·rename_i args argTypes;obtain⟨l,h1,rfl⟩:=gV hc;exact Kl (mx:=false) hI hd hN (nv h1) ho hr
  ·rename_i args argTypes;obtain⟨l,h1,rfl⟩:=gV hc;exact Kl (mx:=true) hI hd hN (nv h1) ho hr
  ·rename_i args argTypes;split at hc
   ·rename_i x t1 ea et
    have ea:args=#[x]:=by rw[← Array.toArray_toList (xs:=args),ea]
    have et:argTypes=#[t1]:=by rw[← Array.toArray_toList (xs:=argTypes),et]
    subst ea;subst et;split at hc
    ·rename_i e hu;obtain⟨y,hy,rfl⟩:=gV hc;exact KU hI hd hN hy ho hu hr
    ·rename_i hu;obtain⟨y,hy,rfl⟩:=gV hc;exact I3 hI hd hN hy ho hu hr
    ·simp at hc
   ·simp at hc
  ·simp at hc
 | store ty x y=>
  rw[ho] at hc;simp only[fX] at hc;obtain⟨n,h1,hc⟩:=dM hc;obtain⟨u,h2,hc⟩:=dM hc;obtain⟨x1,h3,hc⟩:=dM hc;obtain⟨y1,h4,hc⟩:=dM hc
  injection hc with hc
  subst hc;exact absurd hns (by simp[ho])
 | _=>rw[ho] at hc;simp[fX] at hc
end
inductive Loc where
 | t (i:Nat)
 | c (r o:Nat)
 | h (r o:Nat)
 | n (r:Nat)
 | v (q:Key)
 deriving DecidableEq
def Loc.hit:Loc→Loc→Bool
 | .t i,.t j=>i==j
 | .c r o,.c r' o'=>r==r' && o==o'
 | .n r,.n r'=>r==r'
 | .n r,.c r' _=>r==r'
 | .h r o,.h r' o'=>r==r' && o==o'
 | .n r,.h r' _=>r==r'
 | .v q,.v q'=>q==q'
 | _,_=>false
abbrev p8:=List Loc×List Loc
def hdW(r o:Nat) (t t':TV):List Loc:=if t'.hd=t.hd then [] else [.h r o]
def SP.foot{α:Type}:SP α→St→p8
 | .ret _,_=>([],[])
 | .fail,_=>([],[])
 | .rdT i k,σ=>(.t i :: ((k (σ.t i)).foot σ).1,((k (σ.t i)).foot σ).2)
 | .rdC r o k,σ=>(.c r o :: ((k (σ.c r o)).foot σ).1,((k (σ.c r o)).foot σ).2)
 | .rdH r o k,σ=>(.h r o :: ((k (σ.c r o).hd).foot σ).1,((k (σ.c r o).hd).foot σ).2)
 | .rdV q k,σ=>(.v q :: ((k (σ.v q)).foot σ).1,((k (σ.v q)).foot σ).2)
 | .wrT i t k,σ=>((k.foot { σ with tm:=fI σ.tm i t }).1,.t i :: (k.foot { σ with tm:=fI σ.tm i t }).2)
 | .wrC r o t k,σ=>
  match ef σ.ce r with
  | some l=>if o < l.length then (.n r :: .h r o :: (k.foot { σ with ce:=fI σ.ce r (l.set o t) }).1,.c r o :: (hdW r o (σ.c r o) t++(k.foot { σ with ce:=fI σ.ce r (l.set o t) }).2)) else ([],[])
  | none=>([],[])
 | .new r l k,σ=>(.v (r,0,0) :: (k.foot { σ with ce:=fI σ.ce r l,vr:=oE σ.vr (r,0,0) }).1,.n r :: .v (r,0,0) :: (k.foot { σ with ce:=fI σ.ce r l,vr:=oE σ.vr (r,0,0) }).2)
 | .bump q k,σ=>(.v q :: (k.foot { σ with vr:=oE σ.vr q }).1,.v q :: (k.foot { σ with vr:=oE σ.vr q }).2)
def ig(σ σ':St):Loc→Prop
 | .t i=>ef σ.tm i=ef σ'.tm i
 | .c r o=>σ.c r o=σ'.c r o
 | .h r o=>(σ.c r o).hd=(σ'.c r o).hd
 | .n r=>(ef σ.ce r).map List.length=(ef σ'.ce r).map List.length
 | .v q=>σ.v q=σ'.v q
def LY(σ σ':St):Prop:=∀x,ig σ σ' x
theorem ig.refl(σ:St) (x:Loc):ig σ σ x:=by cases x<;>rfl
theorem ig.symm{σ σ':St}{x:Loc}(h:ig σ σ' x):ig σ' σ x:=by cases x<;>exact Eq.symm h
theorem ig.trans{σ σ' σ'':St}{x:Loc}(h:ig σ σ' x) (h':ig σ' σ'' x):ig σ σ'' x:=by cases x<;>exact Eq.trans h h'
theorem c_wr{σ:St}{r o:Nat}{t:TV}{l:List TV}(h:ef σ.ce r=some l) (ho:o < l.length) (r' o':Nat):St.c { σ with ce:=fI σ.ce r (l.set o t) } r' o'=if r'=r∧o'=o then t else σ.c r' o':=by
 have:=congrFun (congrFun (St.c_wr (t:=t) h ho) r') o';exact this
theorem M6{σ:St}{r:Nat}{l l':List TV}(h:ef σ.ce r=some l) (hl:l'.length=l.length) (r':Nat):(ef (fI σ.ce r l') r').map List.length=(ef σ.ce r').map List.length:=by
 rw[eH];split
 ·rename_i e;subst e;rw[h];simp[hl]
 ·rfl
theorem F5{σ:St}{r:Nat}{l:List TV}{vr:List (Key×Nat)}(r' o':Nat):St.c { σ with ce:=fI σ.ce r l,vr:=vr } r' o'=if r'=r then l.getD o' .dead else σ.c r' o':=by
 unfold St.c;simp only[eH];by_cases e:r=r'
 ·subst e;simp
 ·rw[if_neg e,if_neg (Ne.symm e)]
theorem SP.run_frame{α:Type}{s:SP α}:∀{σ:St}{a:α}{τ:St},s.run σ=some (a,τ)→∀x,(∀w∈(s.foot σ).2,w.hit x=false)→ig σ τ x:=by
 induction s with
 | ret a=>intro σ b τ h x _;simp only[SP.run,oSJ,oPJ] at h;rw[h.2];exact ig.refl _ _
 | fail=>intro σ b τ h;simp[SP.run] at h
 | rdT i k ih=>intro σ b τ h x hx;exact ih _ h x hx
 | rdC r o k ih=>intro σ b τ h x hx;exact ih _ h x hx
 | rdH r o k ih=>intro σ b τ h x hx;exact ih _ h x hx
 | rdV q k ih=>intro σ b τ h x hx;exact ih _ h x hx
 | wrT i t k ih=>
  intro σ b τ h x hx;refine ig.trans ?_ (ih h x fun w hw=>hx w (by simp[SP.foot,hw]));have h1:=hx (.t i) (by simp[SP.foot])
  cases x with
  | t j=>
   simp only[Loc.hit,beq_eq_false_iff_ne,ne_eq] at h1;simp[ig,eH,h1]
  | _=>exact rfl
 | wrC r o t k ih=>
  intro σ b τ h x hx;obtain⟨l,hl,ho,h2⟩:=SP.run_wrC h;simp only[SP.foot,hl,ho,if_true] at hx;refine ig.trans ?_ (ih h2 x fun w hw=>hx w (by simp[hw]));have h1:=hx (.c r o) (by simp)
  cases x with
  | c r' o'=>
   simp only[Loc.hit,Bool.and_eq_false_imp,beq_iff_eq,beq_eq_false_iff_ne,ne_eq] at h1;show σ.c r' o'=_;rw[c_wr hl ho,if_neg];rintro⟨e1,e2⟩;exact h1 e1.symm e2.symm
  | h r' o'=>
   show (σ.c r' o').hd=TV.hd (St.c _ r' o');rw[c_wr hl ho];split
   ·rename_i e;obtain⟨e1,e2⟩:=e;subst e1;subst e2;by_cases hh:t.hd=(σ.c r' o').hd
    ·exact hh.symm
    ·have:=hx (.h r' o') (by simp[hdW,hh]);simp[Loc.hit] at this
   ·rfl
  | n r'=>exact (M6 hl (by simp) r').symm
  | _=>exact rfl
 | new r l k ih=>
  intro σ b τ h x hx;refine ig.trans ?_ (ih h x fun w hw=>hx w (by simp[SP.foot,hw]));have h1:=hx (.n r) (by simp[SP.foot]);have h2:=hx (.v (r,0,0)) (by simp[SP.foot])
  cases x with
  | t j=>exact rfl
  | c r' o'=>
   simp only[Loc.hit,beq_eq_false_iff_ne,ne_eq] at h1;show σ.c r' o'=_;rw[F5,if_neg (Ne.symm h1)]
  | h r' o'=>
   simp only[Loc.hit,beq_eq_false_iff_ne,ne_eq] at h1;show (σ.c r' o').hd=TV.hd (St.c _ r' o');rw[F5,if_neg (Ne.symm h1)]
  | n r'=>
   simp only[Loc.hit,beq_eq_false_iff_ne,ne_eq] at h1;simp[ig,eH,h1]
  | v q=>
   simp only[Loc.hit,beq_eq_false_iff_ne,ne_eq] at h2;show qI σ.vr q=qI (oE σ.vr (r,0,0)) q;rw[fY,if_neg h2];rfl
 | bump q k ih=>
  intro σ b τ h x hx;refine ig.trans ?_ (ih h x fun w hw=>hx w (by simp[SP.foot,hw]));have h2:=hx (.v q) (by simp[SP.foot])
  cases x with
  | v q'=>
   simp only[Loc.hit,beq_eq_false_iff_ne,ne_eq] at h2;show qI σ.vr q'=qI (oE σ.vr q) q';rw[fY,if_neg h2];rfl
  | _=>exact rfl
theorem SP.run_alike{α:Type}{s:SP α}:∀{σ σ':St}{a:α}{τ:St},s.run σ=some (a,τ)→(∀x∈(s.foot σ).1,ig σ σ' x) →
 s.foot σ'=s.foot σ∧∃ τ',s.run σ'=some (a,τ')∧∀x,(ig σ σ' x∨∃w∈(s.foot σ).2,w.hit x=true)→ig τ τ' x:=by
 induction s with
 | ret a=>
  intro σ σ' b τ h hr;simp only[SP.run,oSJ,oPJ] at h;obtain⟨rfl,rfl⟩:=h;exact⟨rfl,σ',rfl,fun x hx=>hx.elim id fun⟨w,hw,_⟩=>by simp[SP.foot] at hw⟩
 | fail=>intro σ σ' b τ h;simp[SP.run] at h
 | rdT i k ih=>
  intro σ σ' b τ h hr
  have h1:σ.t i=σ'.t i:=by
   have:ef σ.tm i=ef σ'.tm i:=hr (.t i) (by simp[SP.foot]);simp[St.t,this]
  obtain⟨e,τ',h2,h3⟩:=ih _ h fun x hx=>hr x (by simp[SP.foot,hx]);refine⟨by simp only[SP.foot];rw[← h1,e],τ',by simp only[SP.run];rw[← h1];exact h2,h3⟩
 | rdC r o k ih=>
  intro σ σ' b τ h hr;have h1:σ.c r o=σ'.c r o:=hr (.c r o) (by simp[SP.foot]);obtain⟨e,τ',h2,h3⟩:=ih _ h fun x hx=>hr x (by simp[SP.foot,hx]);refine⟨by simp only[SP.foot];rw[← h1,e],τ',by simp only[SP.run];rw[← h1];exact h2,h3⟩
 | rdH r o k ih=>
  intro σ σ' b τ h hr;have h1:(σ.c r o).hd=(σ'.c r o).hd:=hr (.h r o) (by simp[SP.foot]);obtain⟨e,τ',h2,h3⟩:=ih _ h fun x hx=>hr x (by simp[SP.foot,hx]);refine⟨by simp only[SP.foot];rw[← h1,e],τ',by simp only[SP.run];rw[← h1];exact h2,h3⟩
 | rdV q k ih=>
  intro σ σ' b τ h hr;have h1:σ.v q=σ'.v q:=hr (.v q) (by simp[SP.foot]);obtain⟨e,τ',h2,h3⟩:=ih _ h fun x hx=>hr x (by simp[SP.foot,hx]);refine⟨by simp only[SP.foot];rw[← h1,e],τ',by simp only[SP.run];rw[← h1];exact h2,h3⟩
 | wrT i t k ih=>
  intro σ σ' b τ h hr
  have hal:∀x,(ig σ σ' x∨x=.t i)→ig { σ with tm:=fI σ.tm i t } { σ' with tm:=fI σ'.tm i t } x:=by
   rintro x (hx | rfl)
   ·cases x with
    | t j=>
     show ef (fI σ.tm i t) j=ef (fI σ'.tm i t) j;rw[eH,eH];split
     ·rfl
     ·exact hx
    | _=>exact hx
   ·show ef (fI σ.tm i t) i=ef (fI σ'.tm i t) i;rw[eH,eH];simp
  obtain⟨e,τ',h2,h3⟩:=ih (σ':={ σ' with tm:=fI σ'.tm i t }) h fun x hx=>hal x (.inl (hr x (by simp[SP.foot,hx])));refine⟨by simp only[SP.foot];rw[e],τ',h2,fun x hx=>h3 x ?_⟩;rcases hx with hx | ⟨w,hw,hh⟩
  ·exact .inl (hal x (.inl hx))
  ·simp only[SP.foot,List.mem_cons] at hw;rcases hw with rfl | hw
   ·left;refine hal x (.inr ?_);cases x<;>simp[Loc.hit] at hh;rw[hh]
   ·exact .inr ⟨w,hw,hh⟩
 | wrC r o t k ih=>
  intro σ σ' b τ h hr;obtain⟨l,hl,ho,h0⟩:=SP.run_wrC h;simp only[SP.foot,hl,ho,if_true] at hr ⊢;have hn:(ef σ.ce r).map List.length=(ef σ'.ce r).map List.length:=hr (.n r) (by simp)
  obtain⟨l',hl',hll⟩:∃l',ef σ'.ce r=some l'∧l'.length=l.length:=by
   rw[hl] at hn
   cases ha:ef σ'.ce r with
   | none=>rw[ha] at hn;simp at hn
   | some l'=>rw[ha] at hn;exact⟨l',rfl,by simpa using hn.symm⟩
  have ho':o < l'.length:=by omega
  have hh:(σ.c r o).hd=(σ'.c r o).hd:=hr (.h r o) (by simp)
  have hW:hdW r o (σ'.c r o) t=hdW r o (σ.c r o) t:=by unfold hdW;rw[hh]
  have hal:∀x,(ig σ σ' x∨x=.c r o∨x=.h r o)→ig { σ with ce:=fI σ.ce r (l.set o t) } { σ' with ce:=fI σ'.ce r (l'.set o t) } x:=by
   rintro x (hx | rfl | rfl)
   ·cases x with
    | c r' o'=>
     show St.c _ r' o'=St.c _ r' o';rw[c_wr hl ho,c_wr hl' ho'];split
     ·rfl
     ·exact hx
    | h r' o'=>
     show TV.hd (St.c _ r' o')=TV.hd (St.c _ r' o');rw[c_wr hl ho,c_wr hl' ho'];split
     ·rfl
     ·exact hx
    | n r'=>
     show Option.map _ _=Option.map _ _;rw[M6 hl (by simp),M6 hl' (by simp)];exact hx
    | _=>exact hx
   ·show St.c _ r o=St.c _ r o;rw[c_wr hl ho,c_wr hl' ho'];simp
   ·show TV.hd (St.c _ r o)=TV.hd (St.c _ r o);rw[c_wr hl ho,c_wr hl' ho'];simp
  obtain⟨e,τ',h2,h3⟩:=ih (σ':={ σ' with ce:=fI σ'.ce r (l'.set o t) }) h0 fun x hx=>hal x (.inl (hr x (by simp[hx])));refine⟨by simp only[hl',ho',if_true];rw[e,hW],τ',by simp only[SP.run,hl',ho',if_true];exact h2,fun x hx=>h3 x ?_⟩;rcases hx with hx | ⟨w,hw,hh⟩
  ·exact .inl (hal x (.inl hx))
  ·simp only[List.mem_cons,List.mem_append] at hw;rcases hw with rfl | hw | hw
   ·left;refine hal x (.inr (.inl ?_));cases x<;>simp[Loc.hit] at hh;rw[hh.1,hh.2]
   ·left;refine hal x (.inr (.inr ?_));unfold hdW at hw;split at hw
    ·simp at hw
    ·simp only[List.mem_singleton] at hw;subst hw;cases x<;>simp[Loc.hit] at hh;rw[hh.1,hh.2]
   ·exact .inr ⟨w,hw,hh⟩
 | new r l k ih=>
  intro σ σ' b τ h hr;have hv:σ.v (r,0,0)=σ'.v (r,0,0):=hr (.v (r,0,0)) (by simp[SP.foot])
  have hal:∀x,(ig σ σ' x∨(Loc.n r).hit x=true)→ig { σ with ce:=fI σ.ce r l,vr:=oE σ.vr (r,0,0) } { σ' with ce:=fI σ'.ce r l,vr:=oE σ'.vr (r,0,0) } x:=by
   intro x hx
   cases x with
   | t j=>rcases hx with hx | hx
          ·exact hx
          ·simp[Loc.hit] at hx
   | c r' o'=>
    show St.c _ r' o'=St.c _ r' o';rw[F5,F5];split
    ·rfl
    ·rename_i e;rcases hx with hx | hx
     ·exact hx
     ·simp[Loc.hit] at hx;exact absurd hx.symm e
   | h r' o'=>
    show TV.hd (St.c _ r' o')=TV.hd (St.c _ r' o');rw[F5,F5];split
    ·rfl
    ·rename_i e;rcases hx with hx | hx
     ·exact hx
     ·simp[Loc.hit] at hx;exact absurd hx.symm e
   | n r'=>
    show Option.map _ (ef (fI _ _ _) _)=Option.map _ (ef (fI _ _ _) _);rw[eH,eH];split
    ·rfl
    ·rename_i e;rcases hx with hx | hx
     ·exact hx
     ·simp[Loc.hit] at hx;exact absurd hx e
   | v q=>
    show qI (oE _ _) q=qI (oE _ _) q;rw[fY,fY];rcases hx with hx | hx
    ·have hx:qI σ.vr q=qI σ'.vr q:=hx;rw[hx]
    ·simp[Loc.hit] at hx
  obtain⟨e,τ',h2,h3⟩:=ih (σ':={ σ' with ce:=fI σ'.ce r l,vr:=oE σ'.vr (r,0,0) }) h fun x hx=>hal x (.inl (hr x (by simp[SP.foot,hx])));refine⟨by simp only[SP.foot];rw[e],τ',h2,fun x hx=>h3 x ?_⟩;rcases hx with hx | ⟨w,hw,hh⟩
  ·exact .inl (hal x (.inl hx))
  ·simp only[SP.foot,List.mem_cons] at hw;rcases hw with rfl | rfl | hw
   ·exact .inl (hal x (.inr hh))
   ·left;refine hal x (.inl ?_);cases x<;>simp[Loc.hit] at hh;rw[← hh];exact hv
   ·exact .inr ⟨w,hw,hh⟩
 | bump q k ih=>
  intro σ σ' b τ h hr;have hv:σ.v q=σ'.v q:=hr (.v q) (by simp[SP.foot])
  have hal:∀x,ig σ σ' x→ig { σ with vr:=oE σ.vr q } { σ' with vr:=oE σ'.vr q } x:=by
   intro x hx
   cases x with
   | v q'=>
    show qI (oE _ _) q'=qI (oE _ _) q';rw[fY,fY];have hx:qI σ.vr q'=qI σ'.vr q':=hx;rw[hx]
   | _=>exact hx
  obtain⟨e,τ',h2,h3⟩:=ih (σ':={ σ' with vr:=oE σ'.vr q }) h fun x hx=>hal x (hr x (by simp[SP.foot,hx]));refine⟨by simp only[SP.foot];rw[e],τ',h2,fun x hx=>h3 x ?_⟩;rcases hx with hx | ⟨w,hw,hh⟩
  ·exact .inl (hal x hx)
  ·simp only[SP.foot,List.mem_cons] at hw;rcases hw with rfl | hw
   ·left;refine hal x ?_;cases x<;>simp[Loc.hit] at hh;rw[← hh];exact hv
   ·exact .inr ⟨w,hw,hh⟩
def CC(a b:List Loc):Bool:=a.any fun w=>b.any fun x=>w.hit x
def oa(a b:p8):Bool:=CC a.2 b.1 || CC a.2 b.2 || CC b.2 a.1 || CC b.2 a.2
theorem pT{a b:List Loc}(h:CC a b=false):∀w∈a,∀x∈b,w.hit x=false:=by
 intro w hw x hx;simp only[CC,List.any_eq_false,Bool.not_eq_true] at h;exact h w hw x hx
theorem JJ{w w' x:Loc}(h:w.hit x=true) (h':w'.hit x=true):w.hit w'=true∨w'.hit w=true:=by
 cases x<;>cases w<;>simp[Loc.hit] at h<;>cases w'<;>simp[Loc.hit] at h' ⊢<;>simp_all
theorem SP.swap{A B:SP Unit}{σ σ1 σ2:St}(hA:A.run σ=some ((),σ1)) (hB:B.run σ1=some ((),σ2)) (hc:oa (A.foot σ) (B.foot σ1)=false) :
 ∃ σ1' σ2',B.run σ=some ((),σ1')∧A.run σ1'=some ((),σ2')∧LY σ2 σ2'∧B.foot σ=B.foot σ1∧A.foot σ1'=A.foot σ:=by
 simp only[oa,Bool.or_eq_false_iff] at hc;obtain⟨⟨⟨c1,c2⟩,c3⟩,c4⟩:=hc;have hR:∀x∈(B.foot σ1).1,ig σ1 σ x:=fun x hx=>(SP.run_frame hA x fun w hw=>pT c1 w hw x hx).symm;obtain⟨e1,σ1',hB',hB2⟩:=SP.run_alike hB hR;have hfr:∀x,(∀w∈(B.foot σ1).2,w.hit x=false)→ig σ σ1' x:=fun x hx=>SP.run_frame hB' x (by rw[e1];exact hx);have hR2:∀x∈(A.foot σ).1,ig σ σ1' x:=fun x hx=>hfr x fun w hw=>pT c3 w hw x hx;obtain⟨e2,σ2',hA',hA2⟩:=SP.run_alike hA hR2;refine⟨σ1',σ2',hB',hA',fun x=>?_,e1,e2⟩;by_cases hx:∃w∈(B.foot σ1).2,w.hit x=true
 ·obtain⟨w,hw,hh⟩:=hx;refine ig.trans (hB2 x (.inr ⟨w,hw,hh⟩)) (SP.run_frame hA' x fun w' hw'=>?_);rw[e2] at hw'
  cases hh':w'.hit x with
  | false=>rfl
  | true=>
   rcases JJ hh hh' with h | h
   ·rw[pT c4 w hw w' hw'] at h;simp at h
   ·rw[pT c2 w' hw' w hw] at h;simp at h
 ·have hx':∀w∈(B.foot σ1).2,w.hit x=false:=fun w hw=>by
   cases hh:w.hit x with
   | false=>rfl
   | true=>exact absurd ⟨w,hw,hh⟩ hx
  refine ig.trans (SP.run_frame hB x hx').symm (hA2 x ?_);exact .inl (hfr x hx')
theorem SP.run_same{α:Type}{s:SP α}{σ σ':St}{a:α}{τ:St}(h:s.run σ=some (a,τ)) (hs:LY σ σ'):s.foot σ'=s.foot σ∧∃ τ',s.run σ'=some (a,τ')∧LY τ τ':=by
 obtain⟨e,τ',h1,h2⟩:=SP.run_alike h fun x _=>hs x;exact⟨e,τ',h1,fun x=>h2 x (.inl (hs x))⟩
def mz(pg:Nat→SP Unit):List Nat→St→Option (List (Nat×p8)×St)
 | [],σ=>some ([],σ)
 | i :: r,σ=>((pg i).run σ).bind fun x=>(mz pg r x.2).bind fun y=>some ((i,(pg i).foot σ) :: y.1,y.2)
theorem Ff{pg:Nat→SP Unit}:∀{L:List Nat}{σ σ':St}{fs:List (Nat×p8)}{τ:St},mz pg L σ=some (fs,τ)→LY σ σ'→∃ τ',mz pg L σ'=some (fs,τ')∧LY τ τ':=by
 intro L
 induction L with
 | nil=>
  intro σ σ' fs τ h hs;simp only[mz,oSJ,oPJ] at h;obtain⟨rfl,rfl⟩:=h;exact⟨σ',rfl,hs⟩
 | cons i L ih=>
  intro σ σ' fs τ h hs;simp only[mz] at h;obtain⟨⟨u,σ1⟩,h1,h2⟩:=dM h;obtain⟨⟨fs',τ0⟩,h3,h4⟩:=dM h2
  injection h4 with h4
  injection h4 with h4 h5
  subst h5;obtain⟨e,σ1',k1,k2⟩:=SP.run_same h1 hs;obtain⟨τ',k3,k4⟩:=ih h3 k2;exact⟨τ',by simp only[mz,k1,oBS,k3,e];rw[h4],k4⟩
theorem CL{pg:Nat→SP Unit}{i:Nat}{post:List Nat}:∀{pre:List Nat}{σ:St}{fs:List (Nat×p8)}{τ:St},mz pg (pre++i :: post) σ=some (fs,τ) →
 (∀fs1 F fs2,fs=fs1++(i,F) :: fs2→fs1.map (·.1)=pre→∀y∈fs1,oa y.2 F=false) →
 ∃ σ' τ' fs1 F fs2,fs=fs1++(i,F) :: fs2∧fs1.map (·.1)=pre∧(pg i).run σ=some ((),σ')∧(pg i).foot σ=F∧mz pg (pre++post) σ'=some (fs1++fs2,τ')∧LY τ τ':=by
 intro pre
 induction pre with
 | nil=>
  intro σ fs τ h _;simp only[List.nil_append,mz] at h;obtain⟨⟨u,σ1⟩,h1,h2⟩:=dM h;obtain⟨⟨fs',τ0⟩,h3,h4⟩:=dM h2
  injection h4 with h4
  injection h4 with h4 h5
  subst h5;exact⟨σ1,τ0,[],_,fs',h4.symm,rfl,h1,rfl,h3,fun x=>ig.refl _ _⟩
 | cons j pre ih=>
  intro σ fs τ h hc;simp only[List.cons_append,mz] at h;obtain⟨⟨u,σ1⟩,h1,h2⟩:=dM h;obtain⟨⟨fs',τ0⟩,h3,h4⟩:=dM h2
  injection h4 with h4
  injection h4 with h4 h5
  subst h5;obtain⟨σ2,τ',fs1,F,fs2,e1,e2,k1,k2,k3,k4⟩:=ih h3 fun fs1 F fs2 e e' y hy=>hc ((j,(pg j).foot σ) :: fs1) F fs2 (by rw[← h4,e];rfl) (by simp[e']) y (by simp[hy])
  have hcl:oa ((pg j).foot σ) ((pg i).foot σ1)=false:=by
   rw[k2];exact hc ((j,(pg j).foot σ) :: fs1) F fs2 (by rw[← h4,e1];rfl) (by simp[e2]) (j,(pg j).foot σ) (by simp)
  obtain⟨σ1',σ2',m1,m2,m3,m4,m5⟩:=SP.swap h1 k1 hcl;obtain⟨τ2,n1,n2⟩:=Ff k3 m3;refine⟨σ1',τ2,(j,(pg j).foot σ) :: fs1,F,fs2,by rw[← h4,e1];rfl,by simp[e2],m1,m4.trans k2,?_,fun x=>(k4 x).trans (n2 x)⟩;simp only[List.cons_append,mz,m2,oBS,n1,m5]
def iz(deps:List (List Nat)):List (Nat×p8)→Bool
 | []=>true
 | (j,F) :: r=>(r.all fun y=>!oa F y.2 || (deps.getD y.1 []).contains j) && iz deps r
structure iB where
 dst:Option Nat
 guard:Option (Nat×Bool)
 op:TOp
inductive jU where
 | skip
 | nrm (pers:List Nat×List Nat)
 | reg (id:Nat) (draw:Option (List (List Nat))) (ops:List iB) (pers:List Nat×List Nat)
 | seq (a b:jU)
 | cond (c:Opd) (a b:jU)
 | block (id:Nat) (b:jU)
 | loop (b:jU)
 | exit (id:Nat)
 | ret
 | pre (l:List (Nat×Option Nat)) (a:jU)
 | post (a:jU) (l:List (Nat×Option Nat))
inductive jT where
 | normal
 | exit (id:Nat)
 | ret
def renorm0(L:List Nat) (σ:St):TV→TV
 | .ptr p vs=>if L.contains p.root && vs==jj σ.v p.root p.off p.hops.length then .ptr p (jj (fun _=>0) p.root p.off p.hops.length) else .dead
 | .pk p vs=>if L.contains p.root && vs==jj σ.v p.root p.off (p.hops.length+1) then .pk p (jj (fun _=>0) p.root p.off (p.hops.length+1)) else .dead
 | .pw p vs sz lo n=>if L.contains p.root && vs==jj σ.v p.root p.off (p.hops.length+1) then .pw p (jj (fun _=>0) p.root p.off (p.hops.length+1)) sz lo n else .dead
 | .v x=>.v x
 | .sl c=>.sl c
 | .ip cs=>.ip cs
 | .ow []=>.ow []
 | .tup []=>.tup []
 | _=>.dead
def renorm(L:List Nat) (σ:St):TV→TV
 | .agg l=>.agg (l.map (renorm0 L σ))
 | .fn f l=>.fn f (l.map (renorm0 L σ))
 | t=>renorm0 L σ t
def normT(L:List Nat) (σ:St):List Nat→List (Nat×TV)
 | []=>[]
 | i :: r=>match ef σ.tm i with | some t=>(i,renorm L σ t) :: normT L σ r | none=>normT L σ r
def normC(σ:St):List Nat→List (Nat×List TV)
 | []=>[]
 | r :: l=>match ef σ.ce r with | some c=>(r,c) :: normC σ l | none=>normC σ l
abbrev Prs:=List Nat×List Nat
def St.norm(σ:St) (pers:Prs):St:=⟨normT pers.2 σ pers.1,normC σ pers.2,[]⟩
def evop(call:Option Nat→TOp→SP Unit) (dst:Option Nat) (op:TOp):SP Unit:=
 match op with
 | .call k f args=>call dst (.call k f args)
 | .store n mv a x=>match dst with | none=>ev1 0 (.store n mv a x) | some _=>.fail
 | op=>match dst with | some d=>ev1 d op | none=>.fail
def yz(call:Option Nat→TOp→SP Unit) (o:iB) (σ:St):Option St:=
 match o.guard with
 | none=>((evop call o.dst o.op).run σ).map (·.2)
 | some (j,want)=>
  match σ.t j with
  | .v (.bool b)=>if b=want then ((evop call o.dst o.op).run σ).map (·.2) else match o.dst with | some d=>some { σ with tm:=fI σ.tm d (.tup []) } | none=>some σ
  | .tup []=>match o.dst with | some d=>some { σ with tm:=fI σ.tm d (.tup []) } | none=>some σ
  | _=>none
def qk(call:Option Nat→TOp→SP Unit):List iB→St→Option St
 | [],σ=>some σ
 | o :: r,σ=>(yz call o σ).bind (qk call r)
def setNo(dst:Option Nat):SP Unit:=match dst with | some d=>.wrT d (.tup []) (.ret ()) | none=>.ret ()
def spOp(call:Option Nat→TOp→SP Unit) (o:iB):SP Unit:=
 match o.guard with
 | none=>evop call o.dst o.op
 | some (j,want)=>.rdT j fun t=>match t with
  | .v (.bool b)=>if b=want then evop call o.dst o.op else setNo o.dst
  | .tup []=>setNo o.dst
  | _=>.fail
def Ax:iB:=⟨none,none,.lens (.t 0)⟩
theorem D2{call:Option Nat→TOp→SP Unit}{o:iB}{σ σ':St}(h:(spOp call o).run σ=some ((),σ')):yz call o σ=some σ':=by
 have hno:∀{σ'},(setNo o.dst).run σ=some ((),σ')→(match o.dst with | some d=>some { σ with tm:=fI σ.tm d (.tup []) } | none=>some σ)=some σ':=by
  intro σ' h;unfold setNo at h
  cases hd:o.dst with
  | none=>rw[hd] at h;simp only[SP.run,oSJ,oPJ,true_and] at h;simp[h]
  | some d=>rw[hd] at h;simp only[SP.run,oSJ,oPJ,true_and] at h;simp[h]
 unfold spOp at h;unfold yz
 cases hg:o.guard with
 | none=>rw[hg] at h;simp only at h ⊢;rw[h];rfl
 | some g=>
  obtain⟨j,want⟩:=g;rw[hg] at h;simp only[SP.run] at h ⊢;split at h
  ·rename_i b hb;split at h
   ·rename_i hbw;rw[if_pos hbw,h];rfl
   ·rename_i hbw;rw[if_neg hbw];exact hno h
  ·exact hno h
  ·simp[SP.run] at h
def iter(f:St→Option (jT×St)):Nat→St→Option (jT×St)
 | 0,_=>none
 | n+1,σ=>(f σ).bind fun x=>match x.1 with | .normal=>iter f n x.2 | e=>some (e,x.2)
def shr1(x:Nat×Option Nat):SP Unit:=.rdT x.1 fun t=>match x.2,t with
 | none,.pk p vs=>(take1 false (.pk p vs)).bind fun t'=>.wrT x.1 t'.imm (.ret ())
 | some off,.ptr p vs=>(chk p p.hops.length vs).bind fun _=>if p.fits off then (getPl (p.add off)).bind fun t=>match t with
  | .ow c=>(peek1 (p.add off) (.ow c)).bind fun t'=>(take1 false t').bind fun _=>.ret ()
  | _=>.ret ()
  else .fail
 | _,_=>.ret ()
def shrs:List (Nat×Option Nat)→SP Unit
 | []=>.ret ()
 | x :: r=>(shr1 x).bind fun _=>shrs r
def St.anew(σ:St):St:=σ.norm (σ.tm.map (·.1),σ.ce.map (·.1))
def runC(call:Option Nat→TOp→SP Unit) (N:Nat):jU→St→Option (jT×St)
 | .skip,σ=>some (.normal,σ)
 | .nrm pers,σ=>some (.normal,σ.norm pers)
 | .reg _ draw ops pers,σ=>
  match draw with
  | none=>(qk call ops σ).map fun σ'=>(.normal,σ'.norm pers)
  | some deps=>(mz (fun i=>spOp call (ops.getD i Ax)) (List.range ops.length) σ).bind fun x=>if iz deps x.1 then some (.normal,x.2.norm pers) else none
 | .seq a b,σ=>(runC call N a σ).bind fun x=>match x.1 with | .normal=>runC call N b x.2 | e=>some (e,x.2)
 | .cond c a b,σ=>((opd c).run σ).bind fun x=>match x.1 with | .v (.bool true)=>runC call N a σ | .v (.bool false)=>runC call N b σ | _=>none
 | .block id b,σ=>(runC call N b σ).bind fun x=>match x.1 with | .exit i=>if i=id then some (.normal,x.2) else some (.exit i,x.2) | e=>some (e,x.2)
 | .loop b,σ=>iter (runC call N b) N σ
 | .exit id,σ=>some (.exit id,σ)
 | .ret,σ=>some (.ret,σ)
 | .pre l a,σ=>((shrs l).run σ).bind fun x=>runC call N a x.2.anew
 | .post a l,σ=>(runC call N a σ).bind fun x=>((shrs l).run x.2).bind fun y=>some (x.1,y.2.anew)
section norm
variable {M:Fm} {σ σ':St} {ts:Array Value} {w:World} {G:Gh}
theorem F7(L:List Nat) (σ:St) (l:List Nat) (i:Nat):ef (normT L σ l) i=if i∈l then (ef σ.tm i).map (renorm L σ) else none:=by
 induction l with
 | nil=>simp[normT,ef]
 | cons j r ih=>
  simp only[normT];by_cases hj:j=i
  ·subst hj
   cases h:ef σ.tm j with
   | none=>simp only[ih,h];split<;>simp
   | some t=>simp[ef]
  ·cases h:ef σ.tm j with
   | none=>simp only[ih,List.mem_cons,Ne.symm hj,false_or]
   | some t=>simp only[ef,hj,if_false,ih,List.mem_cons,Ne.symm hj,false_or]
theorem s9(σ:St) (l:List Nat) (r:Nat):ef (normC σ l) r=if r∈l then ef σ.ce r else none:=by
 induction l with
 | nil=>simp[normC,ef]
 | cons j l ih=>
  simp only[normC];by_cases hj:j=r
  ·subst hj
   cases h:ef σ.ce j with
   | none=>simp only[ih,h];split<;>simp
   | some t=>simp[ef]
  ·cases h:ef σ.ce j with
   | none=>simp only[ih,List.mem_cons,Ne.symm hj,false_or]
   | some t=>simp only[ef,hj,if_false,ih,List.mem_cons,Ne.symm hj,false_or]
theorem Inv.norm(hI:Inv M σ [] [] ts w G) (pers:Prs):∃G',Inv M (σ.norm pers) [] [] ts w G':=by
 obtain⟨L,hL⟩:∃L,L=pers.2:=⟨_,rfl⟩
 have hc:∀r o,(σ.norm pers).c r o=if r∈L then σ.c r o else .dead:=by
  intro r o;unfold St.c St.norm;simp only[← hL,s9];by_cases h:r∈L<;>simp[h]
 have hE:∀r o,ee M (σ.norm pers) [] r o=if r∈L then ee M σ [] r o else .dead:=by
  intro r o;unfold ee;by_cases h:r=M.hr
  ·simp[h]
  ·simp only[if_neg h,hc]
 let G':Gh:=⟨G.β,G.η,fun r o k=>if r∈L then G.φ r o k else False⟩
 have hsub:∀r o k,G'.φ r o k→G.φ r o k:=by
  intro r o k hk;simp only[G'] at hk;split at hk
  ·exact hk
  ·exact hk.elim
 have hgh:=kC.ghost (C':=ee M (σ.norm pers) []) (G':=G') hI.core rfl (fun k ⟨r,o,h⟩=>⟨r,o,hsub r o k h⟩) (fun r1 o1 r2 o2 k h1 h2=>hI.core.dis _ _ _ _ k (hsub _ _ k h1) (hsub _ _ k h2))
  (fun r b o0 n hb o ho=>by
   rw[hE];split
   ·exact hI.core.boxc r b o0 n hb o ho
   ·rfl)
  (fun r o=>by
   by_cases h:r∈L
   ·left;exact⟨by rw[hE,if_pos h],fun k=>by simp[G',h],rfl⟩
   ·right;left;exact⟨by rw[hE,if_neg h],fun k hk=>by simp[G',h] at hk⟩)
 have hv0:(σ.norm pers).v=fun _=>0:=by funext q;rfl
 have hrn0:∀{t:TV} {x:Value},TmR w (G.F M.A) σ.v (ee M σ []) G t x→TmR w (G'.F M.A) (σ.norm pers).v (ee M (σ.norm pers) []) G' (renorm0 L σ t) x:=by
  intro t x h;rw[hv0]
  cases h with
  | v h=>exact .v h
  | nil=>exact .nil
  | sl h=>exact .sl (h.frame (fun _ _ _=>rfl) fun k hk _=>hgh.2 k hk)
  | dead=>exact .dead
  | @ptr p vs x V0 h0 hv hok=>
   simp only[renorm0];split
   ·rename_i hc;simp only[Bool.and_eq_true,List.contains_iff_mem,beq_iff_eq] at hc;refine .ptr (fun _=>0) (fun _=>Nat.le_refl _) rfl fun _=>?_;obtain⟨h1,ad,t,h2,h3,h4⟩:=hok hc.2;exact⟨h1,ad,t,lS h2 rfl fun _=>rfl,h3,by rw[hE,if_pos hc.1];exact h4⟩
   ·exact .dead
  | ip u hcl hr=>exact .ip u (fun j hj=>⟨hgh.2 _ (hcl j hj).1,(hcl j hj).2⟩) fun j hj=>(hr j hj).frame (fun _ _ _=>rfl) fun k hk _=>hgh.2 k hk
  | @pk p vs x V0 h0 hv hok=>
   simp only[renorm0];split
   ·rename_i hc;simp only[Bool.and_eq_true,List.contains_iff_mem,beq_iff_eq] at hc;refine .pk (fun _=>0) (fun _=>Nat.le_refl _) rfl fun _=>?_;obtain⟨h1,c,h2,h3⟩:=hok hc.2;exact⟨h1,c,h2,by rw[hE,if_pos hc.1];exact h3⟩
   ·exact .dead
  | @pw p vs sz lo n x V0 h0 hv hok=>
   simp only[renorm0];split
   ·rename_i hc;simp only[Bool.and_eq_true,List.contains_iff_mem,beq_iff_eq] at hc;refine .pw (fun _=>0) (fun _=>Nat.le_refl _) rfl fun _=>?_;obtain⟨h1,c,hd,h2,h3,h4⟩:=hok hc.2;exact⟨h1,c,hd,h2,by rw[hE,if_pos hc.1];exact h3,h4⟩
   ·exact .dead
  | agg hl h=>exact .dead
  | @tup l xs hl h=>
   cases l with
   | nil=>exact .tup hl fun j hj=>by simp at hj
   | cons=>exact .dead
  | fn hl h=>exact .dead
 have hrn:∀{t:TV} {x:Value},TmR w (G.F M.A) σ.v (ee M σ []) G t x→TmR w (G'.F M.A) (σ.norm pers).v (ee M (σ.norm pers) []) G' (renorm L σ t) x:=by
  intro t x h;have h0:=hrn0 h
  cases h with
  | @agg l xs hl h=>exact .agg (by simpa using hl) fun j hj=>by simpa using hrn0 (h j (by simpa using hj))
  | @fn f l xs hl h=>exact .fn (by simpa using hl) fun j hj=>by simpa using hrn0 (h j (by simpa using hj))
  | _=>exact h0
 refine⟨G',hgh.1,fun i=>?_,hI.fram.ghost rfl (fun k ⟨r,o,h⟩=>⟨r,o,hsub r o k h⟩),fun r l h=>?_,hI.size,rfl,fun j hj=>by simp at hj,fun r b o n hb l h=>?_⟩
 ·have e:(σ.norm pers).t i=if i∈pers.1 then (match ef σ.tm i with | some t=>renorm L σ t | none=>.dead) else .dead:=by
   unfold St.t St.norm;simp only[← hL,F7];by_cases h:i∈pers.1
   ·simp only[h,if_true];cases ef σ.tm i<;>rfl
   ·simp[h]
  rw[e];split
  ·cases ha:ef σ.tm i with
   | none=>exact .dead
   | some t=>
    have:=hI.tmr i
    have et:σ.t i=t:=by simp[St.t,ha]
    rw[et] at this;exact hrn this
  ·exact .dead
 ·have:ef (normC σ L) r=some l:=by rw[hL];exact h
  rw[s9] at this;split at this
  ·exact hI.keys r l this
  ·simp at this
 ·have:ef (normC σ L) r=some l:=by rw[hL];exact h
  rw[s9] at this;split at this
  ·exact hI.shape r b o n hb l this
  ·simp at this
end norm
def L7(P:Program) (M:Fm) (σ':St) (a:Act) (o:Oper) (w:World):Prop:=
 ∀(K:Act→World→Prop) (Q:Exit→Act→World→Prop),(∀a' w' G',Inv M σ' [] [] a'.tmps w' G'→a'.defers=a.defers→K a' w')→o.wp P a w K Q
theorem lV(a:Act) (d:Option Tmp) (v:Value):(a.put d v).defers=a.defers:=by cases d<;>rfl
theorem mr.simO{P:Program}{M:Fm}{σ':St}{a:Act}{o:Oper}{w:World}(h:mr P M σ' a o w):L7 P M σ' a o w:=by
 obtain⟨nx,x,w',G',hrun,hnx,hI⟩:=h;intro K Q hK;unfold Oper.wp;rw[hrun];rcases hnx with rfl | ⟨rfl,rfl⟩
 ·exact hK _ w' G' hI (lV _ _ _)
 ·exact hK _ w' G' hI (lV _ _ _)
structure uj (P:Program) (M:Fm) (isCall:Op→TOp→Prop) (ops:Array Oper) (o:Oper) (t:iB):Prop where
 dst:t.dst=o.dst
 lt:∀d,o.dst=some d→d < M.N∧M.pr (2*d+2)=none
 guard:(o.guard=none∧t.guard=none)∨∃j want dj,o.guard=some (j,want)∧t.guard=some (dj,want)∧(ops[j]?).bind (·.dst)=some dj
 op:(∃mv,fX P mv o.op=some t.op)∨isCall o.op t.op
def wD(P:Program) (M:Fm) (isCall:Op→TOp→Prop) (call:Option Nat→TOp→SP Unit):Prop:=
 ∀(o:Oper) (t:TOp) (σ σ':St) (a:Act) (w:World) (G:Gh),isCall o.op t→(∀d,o.dst=some d→d < M.N∧M.pr (2*d+2)=none)→Inv M σ [] [] a.tmps w G→(evop call o.dst t).run σ=some ((),σ')→L7 P M σ' a o w
section
variable {P:Program} {M:Fm} {σ σ':St} {w:World} {G:Gh} {a:Act} {o:Oper} {isCall:Op→TOp→Prop} {call:Option Nat→TOp→SP Unit} {ops:Array Oper}
theorem DI{mv:Nat}{op:Op}{t:TOp}(h:fX P mv op=some t):∀k f args,t≠.call k f args:=by
 rintro k f args rfl;cases op<;>simp only[fX] at h
 case move x=>split at h<;>first | (simp at h;done) | (obtain⟨_,_,h⟩:=gV h;simp at h)
 case assign x=>split at h<;>(obtain⟨_,_,h⟩:=gV h;simp at h)
 case pick=>obtain⟨_,_,h⟩:=dM h;obtain⟨_,_,h⟩:=dM h;obtain⟨_,_,h⟩:=dM h;simp at h
 case alloc=>obtain⟨_,_,h⟩:=gV h;simp at h
 case box=>obtain⟨_,_,h⟩:=dM h;obtain⟨_,_,h⟩:=dM h;simp at h
 case build=>(repeat' split at h)<;>first | (simp at h;done) | (obtain⟨_,_,h⟩:=dM h;obtain⟨_,_,h⟩:=dM h;simp at h) | (obtain⟨_,_,h⟩:=dM h;simp at h)
 case buildSlice=>(repeat' split at h)<;>first | (simp at h;done) | (obtain⟨_,_,h⟩:=dM h;obtain⟨_,_,h⟩:=dM h;simp at h)
 case load=>obtain⟨_,_,h⟩:=dM h;obtain⟨_,_,h⟩:=dM h;simp at h
 case store=>obtain⟨_,_,h⟩:=dM h;obtain⟨_,_,h⟩:=dM h;obtain⟨_,_,h⟩:=dM h;obtain⟨_,_,h⟩:=dM h;simp at h
 case nilCheck=>obtain⟨_,_,h⟩:=gV h;simp at h
 case binOp=>(repeat' split at h)<;>first | (simp at h;done) | (obtain⟨_,_,h⟩:=dM h;obtain⟨_,_,h⟩:=dM h;simp at h)
 case unOp=>obtain⟨_,_,h⟩:=gV h;simp at h
 case convert=>(repeat' split at h)<;>first | (simp at h;done) | (obtain⟨_,_,h⟩:=gV h;simp at h)
 case makeFunc=>split at h<;>first | (simp at h;done) | (obtain⟨_,_,h⟩:=dM h;obtain⟨_,_,h⟩:=dM h;simp at h)
 case makeSlice=>(repeat' split at h)<;>first | (simp at h;done) | (obtain⟨_,_,h⟩:=dM h;obtain⟨_,_,h⟩:=dM h;obtain⟨_,_,h⟩:=dM h;simp at h)
 case slice=>(repeat' split at h)<;>first | (simp at h;done) | (obtain⟨_,_,h⟩:=dM h;obtain⟨_,_,h⟩:=dM h;obtain⟨_,_,h⟩:=dM h;simp at h;done) | (obtain⟨_,_,h⟩:=dM h;obtain⟨_,_,h⟩:=dM h;obtain⟨_,_,h⟩:=dM h;obtain⟨_,_,h⟩:=dM h;simp at h)
 case fieldAddr=>(repeat' split at h)<;>first | (simp at h;done) | (obtain⟨_,_,h⟩:=gV h;simp at h)
 case field=>(repeat' split at h)<;>first | (simp at h;done) | (obtain⟨_,_,h⟩:=dM h;obtain⟨_,_,h⟩:=dM h;simp at h)
 case indexAddr=>(repeat' split at h)<;>first | (simp at h;done) | (obtain⟨_,_,h⟩:=dM h;obtain⟨_,_,h⟩:=dM h;obtain⟨_,_,h⟩:=dM h;simp at h)
 case index=>(repeat' split at h)<;>first | (simp at h;done) | (obtain⟨_,_,h⟩:=dM h;obtain⟨_,_,h⟩:=dM h;simp at h)
 case extract=>obtain⟨_,_,h⟩:=gV h;simp at h
 case call=>(repeat' split at h)<;>first | (simp at h;done) | (obtain⟨_,_,h⟩:=dM h;obtain⟨_,_,h⟩:=dM h;obtain⟨_,_,h⟩:=dM h;simp at h) | (obtain⟨_,_,h⟩:=gV h;simp at h)
 all_goals simp at h
theorem Ea(hI:Inv M σ [] [] a.tmps w G) {t:iB}(hok:uj P M isCall ops o t) (hcall:wD P M isCall call) (hr:(evop call t.dst t.op).run σ=some ((),σ')):L7 P M σ' a o w:=by
 rcases hok.op with ⟨mv,hc⟩ | hc
 ·have hnc:=DI hc;by_cases hst:∃ty x y,o.op=.store ty x y
  ·obtain⟨ty,x,y,ho⟩:=hst;rw[ho] at hc;simp only[fX] at hc;obtain⟨n,h1,hc⟩:=dM hc;obtain⟨u,h2,hc⟩:=dM hc;obtain⟨x1,h3,hc⟩:=dM hc;obtain⟨y1,h4,hc⟩:=dM hc
   injection hc with hc
   rw[← hc] at hr;simp only[evop] at hr
   cases hd:t.dst with
   | some d=>simp[hd,SP.run] at hr
   | none=>
    simp only[hd] at hr;have hg:=mh h2;exact (Gt hI (d:=0) (by rw[← hok.dst,hd]) h3 h4 ho h1 (by simpa using hg) hr).simO
  ·cases hd:t.dst with
   | none=>
    exfalso;rw[hd] at hr
    cases ht:t.op<;>rw[ht] at hr<;>simp only[evop,SP.run] at hr<;>first | (simp at hr;done) | skip
    ·rename_i n mv' a' x';rw[ht] at hc;cases ho:o.op<;>rw[ho] at hc hst<;>simp only[fX] at hc
     case store=>exact hst ⟨_,_,_,rfl⟩
     case move x=>split at hc<;>first | (simp at hc;done) | (obtain⟨_,_,h⟩:=gV hc;simp at h)
     case assign x=>split at hc<;>(obtain⟨_,_,h⟩:=gV hc;simp at h)
     case pick=>obtain⟨_,_,h⟩:=dM hc;obtain⟨_,_,h⟩:=dM h;obtain⟨_,_,h⟩:=dM h;simp at h
     case alloc=>obtain⟨_,_,h⟩:=gV hc;simp at h
     case box=>obtain⟨_,_,h⟩:=dM hc;obtain⟨_,_,h⟩:=dM h;simp at h
     case build=>(repeat' split at hc)<;>first | (simp at hc;done) | (obtain⟨_,_,h⟩:=dM hc;obtain⟨_,_,h⟩:=dM h;simp at h) | (obtain⟨_,_,h⟩:=dM hc;simp at h)
     case buildSlice=>(repeat' split at hc)<;>first | (simp at hc;done) | (obtain⟨_,_,h⟩:=dM hc;obtain⟨_,_,h⟩:=dM h;simp at h)
     case load=>obtain⟨_,_,h⟩:=dM hc;obtain⟨_,_,h⟩:=dM h;simp at h
     case nilCheck=>obtain⟨_,_,h⟩:=gV hc;simp at h
     case binOp=>(repeat' split at hc)<;>first | (simp at hc;done) | (obtain⟨_,_,h⟩:=dM hc;obtain⟨_,_,h⟩:=dM h;simp at h)
     case unOp=>obtain⟨_,_,h⟩:=gV hc;simp at h
     case convert=>(repeat' split at hc)<;>first | (simp at hc;done) | (obtain⟨_,_,h⟩:=gV hc;simp at h)
     case makeFunc=>split at hc<;>first | (simp at hc;done) | (obtain⟨_,_,h⟩:=dM hc;obtain⟨_,_,h⟩:=dM h;simp at h)
     case makeSlice=>(repeat' split at hc)<;>first | (simp at hc;done) | (obtain⟨_,_,h⟩:=dM hc;obtain⟨_,_,h⟩:=dM h;obtain⟨_,_,h⟩:=dM h;simp at h)
     case slice=>(repeat' split at hc)<;>first | (simp at hc;done) | (obtain⟨_,_,h⟩:=dM hc;obtain⟨_,_,h⟩:=dM h;obtain⟨_,_,h⟩:=dM h;simp at h;done) | (obtain⟨_,_,h⟩:=dM hc;obtain⟨_,_,h⟩:=dM h;obtain⟨_,_,h⟩:=dM h;obtain⟨_,_,h⟩:=dM h;simp at h)
     case fieldAddr=>(repeat' split at hc)<;>first | (simp at hc;done) | (obtain⟨_,_,h⟩:=gV hc;simp at h)
     case field=>(repeat' split at hc)<;>first | (simp at hc;done) | (obtain⟨_,_,h⟩:=dM hc;obtain⟨_,_,h⟩:=dM h;simp at h)
     case indexAddr=>(repeat' split at hc)<;>first | (simp at hc;done) | (obtain⟨_,_,h⟩:=dM hc;obtain⟨_,_,h⟩:=dM h;obtain⟨_,_,h⟩:=dM h;simp at h)
     case index=>(repeat' split at hc)<;>first | (simp at hc;done) | (obtain⟨_,_,h⟩:=dM hc;obtain⟨_,_,h⟩:=dM h;simp at h)
     case extract=>obtain⟨_,_,h⟩:=gV hc;simp at h
     case call=>(repeat' split at hc)<;>first | (simp at hc;done) | (obtain⟨_,_,h⟩:=dM hc;obtain⟨_,_,h⟩:=dM h;obtain⟨_,_,h⟩:=dM h;simp at h) | (obtain⟨_,_,h⟩:=gV hc;simp at h)
     all_goals simp at hc
    ·exact absurd ht (hnc _ _ _)
   | some d=>
    have hdd:o.dst=some d:=by rw[← hok.dst,hd]
    obtain⟨h1,h2⟩:=hok.lt d hdd
    have hr':(ev1 d t.op).run σ=some ((),σ'):=by
     rw[hd] at hr
     cases ht:t.op<;>rw[ht] at hr<;>simp only[evop] at hr<;>first | exact hr | (simp[SP.run] at hr;done) | exact absurd ht (hnc _ _ _)
    exact (KQ hI hdd h1 h2 hc hr' hst).simO
 ·exact hcall o t.op σ σ' a w G hc hok.lt hI (by rw[← hok.dst];exact hr)
theorem AB{F:Nat→Prop}{V:Vs}{C:Cs}:TmR w F V C G (.tup []) undef:=.tup (by simp) fun j hj=>by simp at hj
theorem KP{tops:List iB}(hlen:tops.length=ops.size) (hok:∀i (h:i < ops.size) (h':i < tops.length),uj P M isCall ops ops[i] tops[i]) (hcall:wD P M isCall call) {Q:Exit→Act→World→Prop} :
 ∀(L:List Nat) (σ:St) (a:Act) (w:World) (G:Gh),(∀i∈L,i < ops.size)→Inv M σ [] [] a.tmps w G→qk call (L.map fun i=>tops.getD i ⟨none,none,.lens (.t 0)⟩) σ=some σ' →
  (∀a' w' G',Inv M σ' [] [] a'.tmps w' G'→a'.defers=a.defers→Q .normal a' w')→wpOps P ops Q L a w:=by
 intro L
 induction L with
 | nil=>
  intro σ a w G _ hI hr hQ;simp only[List.map_nil,qk,oSJ] at hr;subst hr;exact hQ a w G hI rfl
 | cons i L ih=>
  intro σ a w G hL hI hr hQ;have hi:i < ops.size:=hL i (by simp)
  have hi':i < tops.length:=by omega
  simp only[List.map_cons,qk] at hr
  have e:tops.getD i ⟨none,none,.lens (.t 0)⟩=tops[i]:=by simp[hi']
  rw[e] at hr
  cases hro:yz call tops[i] σ with
  | none=>simp[hro] at hr
  | some σ1=>
   simp only[hro,oBS] at hr;have hop:=hok i hi hi';simp only[wpOps,Array.getElem?_eq_getElem hi]
   have go:(evop call tops[i].dst tops[i].op).run σ=some ((),σ1)→ops[i].wp P a w (wpOps P ops Q L) Q:=fun h=>by
    refine Ea hI hop hcall h _ _ fun a' w' G' hI' hd=>?_;exact ih σ1 a' w' G' (fun j hj=>hL j (by simp[hj])) hI' hr (fun a2 w2 G2 h2 hd2=>hQ a2 w2 G2 h2 (hd2.trans hd))
   have skip:(match tops[i].dst with | some d=>some { σ with tm:=fI σ.tm d (.tup []) } | none=>some σ)=some σ1→wpOps P ops Q L (a.put ops[i].dst undef) w:=fun h=>by
    rw[hop.dst] at h
    cases hd:ops[i].dst with
    | none=>
     rw[hd] at h
     injection h with h
     subst h;exact ih σ a w G (fun j hj=>hL j (by simp[hj])) hI hr hQ
    | some d=>
     rw[hd] at h
     injection h with h
     subst h;exact ih _ (a.put (some d) undef) w G (fun j hj=>hL j (by simp[hj])) (hI.wrT (hop.lt d hd).1 AB) hr (fun a2 w2 G2 h2 hd2=>hQ a2 w2 G2 h2 hd2)
   unfold yz at hro;rcases hop.guard with ⟨g1,g2⟩ | ⟨j,want,dj,g1,g2,g3⟩
   ·rw[if_pos (by simp[Region.wanted,g1])];left;simp only[g2] at hro;obtain⟨⟨u,σ2⟩,h1,h2⟩:=gV hro;exact go (by rw[h1];simp only at h2;rw[h2])
   ·simp only[g2] at hro
    have hy:yielded ops a.tmps j=match (a.tmps[dj]?:Option Value) with | some (.bool b)=>some b | _=>none:=by
     unfold yielded;rw[g3];rfl
    have htm:=hI.tmr dj
    cases hs:σ.t dj with
    | v x=>
     rw[hs] at htm hro;obtain⟨hx,_⟩:=htm.v_inv
     cases x with
     | bool b=>
      have hget:a.tmps[dj]?=some (.bool b):=by
       rw[Array.getD_eq_getD_getElem?] at hx
       cases hq:a.tmps[dj]? with
       | none=>rw[hq] at hx;simp[undef] at hx
       | some v=>rw[hq] at hx;simp at hx;rw[hx]
      have hy':yielded ops a.tmps j=some b:=by rw[hy,hget]
      simp only at hro;by_cases hb:b=want
      ·rw[if_pos hb] at hro;rw[if_pos (by simp[Region.wanted,g1,hy',hb])];left;obtain⟨⟨u,σ2⟩,h1,h2⟩:=gV hro;exact go (by rw[h1];simp only at h2;rw[h2])
      ·rw[if_neg hb] at hro;rw[if_neg (by simp[Region.wanted,g1,hy',hb])];exact skip hro
     | _=>simp at hro
    | tup l=>
     rw[hs] at htm hro
     cases l with
     | nil=>
      have hu:a.tmps.getD dj undef=undef:=by
       generalize a.tmps.getD dj undef=z at htm
       cases htm with
       | @tup _ xs hl _=>have:xs=#[]:=by apply Array.eq_empty_of_size_eq_zero;simpa using hl
                         rw[this];rfl
      have hy':yielded ops a.tmps j=none:=by
       rw[hy];rw[Array.getD_eq_getD_getElem?] at hu
       cases hq:a.tmps[dj]? with
       | none=>rfl
       | some v=>
        rw[hq] at hu;simp only[Option.getD_some] at hu;rw[hu];rfl
      simp only at hro;rw[if_neg (by simp[Region.wanted,g1,hy'])];exact skip hro
     | cons=>simp at hro
    | _=>rw[hs] at hro;simp at hro
end
section
variable {P:Program} {M:Fm} {σ σ':St} {H:List TV} {xs:List Value} {ts:Array Value} {w:World} {G:Gh} {a:Act} {o:Oper} {isCall:Op→TOp→Prop} {call:Option Nat→TOp→SP Unit} {ops:Array Oper}
theorem Inv.congr(hI:Inv M σ H xs ts w G) (hs:LY σ σ'):Inv M σ' H xs ts w G:=by
 have hc:ee M σ' H=ee M σ H:=by
  funext r o;unfold ee;split
  ·rfl
  ·exact (hs (.c r o)).symm
 have hv:σ'.v=σ.v:=by funext q;exact (hs (.v q)).symm
 have hn:∀r l,ef σ'.ce r=some l→∃l0,ef σ.ce r=some l0∧l0.length=l.length:=by
  intro r l h;have h1:(ef σ.ce r).map List.length=(ef σ'.ce r).map List.length:=hs (.n r);rw[h] at h1
  cases ha:ef σ.ce r with
  | none=>rw[ha] at h1;simp at h1
  | some l0=>rw[ha] at h1;exact⟨l0,rfl,by simpa using h1⟩
 refine⟨by rw[hc];exact hI.core,fun i=>?_,hI.fram,fun r l h=>?_,hI.size,hI.hand,hI.hval,fun r b o n hb l h=>?_⟩
 ·have ht:σ'.t i=σ.t i:=by
   have:ef σ.tm i=ef σ'.tm i:=hs (.t i);simp[St.t,this]
  rw[hc,hv,ht];exact hI.tmr i
 ·obtain⟨l0,h1,_⟩:=hn r l h;exact hI.keys r l0 h1
 ·obtain⟨l0,h1,h2⟩:=hn r l h;rw[← h2];exact hI.shape r b o n hb l0 h1
theorem IP{t:iB}{i:Nat}{Q:Exit→Act→World→Prop}{K:Act→World→Prop}(hi:i < ops.size) (hop:uj P M isCall ops ops[i] t) (hcall:wD P M isCall call) (hI:Inv M σ [] [] a.tmps w G) (hro:yz call t σ=some σ')
 (hK:∀a' w' G',Inv M σ' [] [] a'.tmps w' G'→a'.defers=a.defers→K a' w'):wpOp P ops Q i K a w:=by
 unfold wpOp;simp only[Array.getElem?_eq_getElem hi]
 have go:(evop call t.dst t.op).run σ=some ((),σ')→ops[i].wp P a w K Q:=fun h=>by
  exact Ea hI hop hcall h _ _ hK
 have skip:(match t.dst with | some d=>some { σ with tm:=fI σ.tm d (.tup []) } | none=>some σ)=some σ'→K (a.put ops[i].dst undef) w:=fun h=>by
  rw[hop.dst] at h
  cases hd:ops[i].dst with
  | none=>
   rw[hd] at h
   injection h with h
   subst h;exact hK a w G hI rfl
  | some d=>
   rw[hd] at h
   injection h with h
   subst h;exact hK (a.put (some d) undef) w G (hI.wrT (hop.lt d hd).1 AB) rfl
 unfold yz at hro;rcases hop.guard with ⟨g1,g2⟩ | ⟨j,want,dj,g1,g2,g3⟩
 ·rw[if_pos (by simp[Region.wanted,g1])];left;simp only[g2] at hro;obtain⟨⟨u,σ2⟩,h1,h2⟩:=gV hro;exact go (by rw[h1];simp only at h2;rw[h2])
 ·simp only[g2] at hro
  have hy:yielded ops a.tmps j=match (a.tmps[dj]?:Option Value) with | some (.bool b)=>some b | _=>none:=by
   unfold yielded;rw[g3];rfl
  have htm:=hI.tmr dj
  cases hs:σ.t dj with
  | v x=>
   rw[hs] at htm hro;obtain⟨hx,_⟩:=htm.v_inv
   cases x with
   | bool b=>
    have hget:a.tmps[dj]?=some (.bool b):=by
     rw[Array.getD_eq_getD_getElem?] at hx
     cases hq:a.tmps[dj]? with
     | none=>rw[hq] at hx;simp[undef] at hx
     | some v=>rw[hq] at hx;simp at hx;rw[hx]
    have hy':yielded ops a.tmps j=some b:=by rw[hy,hget]
    simp only at hro;by_cases hb:b=want
    ·rw[if_pos hb] at hro;rw[if_pos (by simp[Region.wanted,g1,hy',hb])];left;obtain⟨⟨u,σ2⟩,h1,h2⟩:=gV hro;exact go (by rw[h1];simp only at h2;rw[h2])
    ·rw[if_neg hb] at hro;rw[if_neg (by simp[Region.wanted,g1,hy',hb])];exact skip hro
   | _=>simp at hro
  | tup l=>
   rw[hs] at htm hro
   cases l with
   | nil=>
    have hu:a.tmps.getD dj undef=undef:=by
     generalize a.tmps.getD dj undef=z at htm
     cases htm with
     | @tup _ xs hl _=>have:xs=#[]:=by apply Array.eq_empty_of_size_eq_zero;simpa using hl
                       rw[this];rfl
    have hy':yielded ops a.tmps j=none:=by
     rw[hy];rw[Array.getD_eq_getD_getElem?] at hu
     cases hq:a.tmps[dj]? with
     | none=>rfl
     | some v=>
      rw[hq] at hu;simp only[Option.getD_some] at hu;rw[hu];rfl
    simp only at hro;rw[if_neg (by simp[Region.wanted,g1,hy'])];exact skip hro
   | cons=>simp at hro
  | _=>rw[hs] at hro;simp at hro
structure wC (ops:Array Oper) (deps:List (List Nat)):Prop where
 back:∀i (h:i < ops.size),∀e∈ops[i].after,Region.binds .any e=true→e.on < i
 dep:∀i (h:i < ops.size),∀j∈deps.getD i [],∃e∈ops[i].after,Region.binds .any e=true∧(e.on=j∨j∈deps.getD e.on [])
theorem tp{deps:List (List Nat)}{x:Nat×p8}:∀{l l':List (Nat×p8)},iz deps (l++x :: l')=true→iz deps (l++l')=true∧∀y∈l,oa y.2 x.2=false∨y.1∈deps.getD x.1 []:=by
 intro l
 induction l with
 | nil=>
  intro l' h;obtain⟨j,F⟩:=x;simp only[List.nil_append,iz,Bool.and_eq_true] at h;exact⟨h.2,fun y hy=>by simp at hy⟩
 | cons z l ih=>
  intro l' h;obtain⟨j,F⟩:=z;simp only[List.cons_append,iz,Bool.and_eq_true,List.all_eq_true] at h;obtain⟨h1,h2⟩:=ih h.2;refine⟨by simp only[List.cons_append,iz,Bool.and_eq_true,List.all_eq_true];exact⟨fun y hy=>h.1 y (by rcases List.mem_append.1 hy with hy | hy<;>simp[hy]),h1⟩,fun y hy=>?_⟩;rcases List.mem_cons.1 hy with rfl | hy
  ·have:=h.1 x (by simp);simp only[Bool.or_eq_true,Bool.not_eq_true',List.contains_eq_mem,decide_eq_true_eq] at this;exact this
  ·exact h2 y hy
theorem K7{tops:List iB}{deps:List (List Nat)}(hlen:tops.length=ops.size) (hok:∀i (h:i < ops.size) (h':i < tops.length),uj P M isCall ops ops[i] tops[i]) (hcall:wD P M isCall call) (hdeps:wC ops deps) {Q:Exit→Act→World→Prop} :
 ∀(n:Nat) (C:List Nat) (listed:Array Bool) (σ:St) (a:Act) (w:World) (G:Gh) (fs:List (Nat×p8)) (τ:St),C.length=n→listed.size=ops.size→C.Pairwise (· < ·)→(∀j,j∈C↔j < ops.size∧listed.getD j true=false) →
  (∀i,listed.getD i false=true→∀j∈deps.getD i [],listed.getD j false=true)→Inv M σ [] [] a.tmps w G→mz (fun i=>spOp call (tops.getD i Ax)) C σ=some (fs,τ)→iz deps fs=true →
  (∀a' w' G',Inv M τ [] [] a'.tmps w' G'→a'.defers=a.defers→Q .normal a' w')→wpAny P .any ops Q n listed a w:=by
 have hgd:∀{listed:Array Bool},listed.size=ops.size→∀j,j < ops.size→(listed.getD j true=false↔¬ listed.getD j false=true):=by
  intro listed hs j hj
  have:j < listed.size:=by omega
  simp[Array.getD_eq_getD_getElem?,this]
 intro n
 induction n with
 | zero=>
  intro C listed σ a w G fs τ hC hs hsort hmem hcl hI hr hp hQ;have hC:C=[]:=List.eq_nil_of_length_eq_zero hC;subst hC;simp only[mz,oSJ,oPJ] at hr;obtain⟨rfl,rfl⟩:=hr;refine⟨?_,hQ a w G hI rfl⟩;apply List.eq_nil_iff_forall_not_mem.2;intro j hj;obtain⟨h1,o,h2,_⟩:=mem_ready.1 hj;have:=(hmem j).2 ⟨(Array.getElem?_eq_some_iff.1 h2).1,h1⟩;simp at this
 | succ n ih=>
  intro C listed σ a w G fs τ hC hs hsort hmem hcl hI hr hp hQ;refine⟨fun hnil=>?_,fun i hi=>?_⟩
  ·exfalso
   cases C with
   | nil=>simp at hC
   | cons h C=>
    have hh:=(hmem h).1 (by simp)
    have:h∈Region.ready .any ops listed:=by
     refine mem_ready.2 ⟨hh.2,ops[h]'hh.1,Array.getElem?_eq_getElem hh.1,fun e he hb=>?_⟩;have hlt:=hdeps.back h hh.1 e he hb
     have hes:e.on < ops.size:=by omega
     cases hl:listed.getD e.on false with
     | true=>rfl
     | false=>
      have hm:=(hmem e.on).2 ⟨hes,(hgd hs _ hes).2 (by rw[hl];simp)⟩;rcases List.mem_cons.1 hm with e1 | e1
      ·omega
      ·have:=(List.pairwise_cons.1 hsort).1 _ e1;omega
    rw[hnil] at this;simp at this
  ·obtain⟨h1,o,h2,h3⟩:=mem_ready.1 hi;have his:i < ops.size:=(Array.getElem?_eq_some_iff.1 h2).1
   have hoe:o=ops[i]:=by rw[Array.getElem?_eq_getElem his] at h2;injection h2 with h2;exact h2.symm
   subst hoe;have hiC:=(hmem i).2 ⟨his,h1⟩;obtain⟨pre,post,rfl⟩:=List.append_of_mem hiC
   have hdep:∀j∈deps.getD i [],listed.getD j false=true:=fun j hj=>by
    obtain⟨e,he,hb,h4⟩:=hdeps.dep i his j hj;have hl:=h3 e he hb;rcases h4 with rfl | h4
    ·exact hl
    ·exact hcl _ hl j h4
   have hclash:∀fs1 F fs2,fs=fs1++(i,F) :: fs2→fs1.map (·.1)=pre→∀y∈fs1,oa y.2 F=false:=by
    rintro fs1 F fs2 rfl hpre y hy;rcases (tp hp).2 y hy with h | h
    ·exact h
    ·have hyC:y.1∈pre++i :: post:=by rw[← hpre];exact List.mem_append_left _ (List.mem_map_of_mem hy)
     have:=(hmem y.1).1 hyC;exact absurd (hdep _ h) ((hgd hs _ this.1).1 this.2)
   obtain⟨σ',τ',fs1,F,fs2,rfl,hpre,hrun,_,hrest,hsame⟩:=CL hr hclash
   have hi':i < tops.length:=by omega
   have e:tops.getD i Ax=tops[i]:=by simp[hi']
   simp only[e] at hrun;refine IP his (hok i his hi') hcall hI (D2 hrun) fun a' w' G' hI' hd=>?_
   have hne:∀j∈pre++post,j≠i:=fun j hj e=>by
    subst e;rw[List.pairwise_append] at hsort;rcases List.mem_append.1 hj with hj | hj
    ·have:=hsort.2.2 j hj j (by simp);omega
    ·have:=(List.pairwise_cons.1 hsort.2.1).1 j hj;omega
   refine ih (pre++post) (listed.setIfInBounds i true) σ' a' w' G' (fs1++fs2) τ' (by simp at hC ⊢;omega) (by simp[hs]) ?_ (fun j=>?_) (fun k hk j hj=>?_) hI' hrest (tp hp).1 fun a2 w2 G2 h4 h5=>hQ a2 w2 G2 (h4.congr fun x=>(hsame x).symm) (h5.trans hd)
   ·refine hsort.sublist ?_;exact List.Sublist.append_left (List.sublist_cons_self i post) pre
   ·constructor
    ·intro hj
     have hjC:j∈pre++i :: post:=by rcases List.mem_append.1 hj with hj | hj<;>simp[hj]
     have:=(hmem j).1 hjC;exact⟨this.1,by rw[getD_set_ne true (Ne.symm (hne j hj))];exact this.2⟩
    ·rintro⟨hj1,hj2⟩
     have hji:j≠i:=by
      rintro rfl
      have:j < listed.size:=by omega
      simp[Array.getD_eq_getD_getElem?,this] at hj2
     rw[getD_set_ne true (Ne.symm hji)] at hj2;have:=(hmem j).2 ⟨hj1,hj2⟩;rcases List.mem_append.1 this with h | h
     ·exact List.mem_append_left _ h
     ·rcases List.mem_cons.1 h with h | h
      ·exact absurd h hji
      ·exact List.mem_append_right _ h
   ·by_cases hki:k=i
    ·subst hki;exact getD_set_true (hdep j hj)
    ·rw[getD_set_ne false (Ne.symm hki)] at hk;exact getD_set_true (hcl k hk j hj)
theorem Eb{tops:List iB}{deps:List (List Nat)}{id:Nat}(hm:P.follows .mixedOrders=true) (hlen:tops.length=ops.size) (hok:∀i (h:i < ops.size) (h':i < tops.length),uj P M isCall ops ops[i] tops[i]) (hcall:wD P M isCall call) (hdeps:wC ops deps)
 {Q:Exit→Act→World→Prop} {fs:List (Nat×p8)} {τ:St} (hI:Inv M σ [] [] a.tmps w G) (hr:mz (fun i=>spOp call (tops.getD i Ax)) (List.range tops.length) σ=some (fs,τ)) (hp:iz deps fs=true)
 (hQ:∀a' w' G',Inv M τ [] [] a'.tmps w' G'→a'.defers=a.defers→Q .normal a' w'):(Code.region id ops true).wp P Q a w:=by
 refine wp_region_any hm ?_
 have hI':Inv M σ [] [] a.tmps { w with drawn:=w.drawn+1 } G:=by
  exact (hI.grow (w':={ w with drawn:=w.drawn+1 }) (fun _ _=>rfl) (Nat.le_refl _) rfl rfl rfl).1
 refine K7 hlen hok hcall hdeps ops.size (List.range ops.size) _ σ a _ G fs τ (by simp) (by simp) List.pairwise_lt_range (fun j=>?_) (fun i hi=>?_) hI' (by rw[← hlen];exact hr) hp hQ
 ·simp only[List.mem_range];constructor
  ·intro h;exact⟨h,by simp[Array.getD_eq_getD_getElem?,h]⟩
  ·exact fun h=>h.1
 ·exfalso;rw[Array.getD_eq_getD_getElem?,Array.getElem?_replicate] at hi;split at hi<;>simp at hi
end
def SP.quiet{α:Type}(d:Nat) (S:List Nat):SP α→Prop
 | .ret _=>True
 | .fail=>True
 | .rdT i k=>i∈S∧∀t,(k t).quiet d S
 | .rdC _ _ k=>∀t,(k t).quiet d S
 | .rdH _ _ k=>∀t,(k t).quiet d S
 | .rdV _ k=>∀n,(k n).quiet d S
 | .wrT i _ k=>i=d∧k.quiet d S
 | .wrC _ _ _ _=>False
 | .new _ _ _=>False
 | .bump _ _=>False
theorem SP.quiet_bind{α β:Type}{d:Nat}{S:List Nat}{s:SP α}{f:α→SP β}(h:s.quiet d S) (hf:∀a,(f a).quiet d S):(s.bind f).quiet d S:=by
 induction s with
 | ret a=>exact hf a
 | fail=>exact trivial
 | rdT i k ih=>exact⟨h.1,fun t=>ih t (h.2 t)⟩
 | rdC r o k ih=>exact fun t=>ih t (h t)
 | rdH r o k ih=>exact fun t=>ih t (h t)
 | rdV q k ih=>exact fun n=>ih n (h n)
 | wrT i t k ih=>exact⟨h.1,ih h.2⟩
 | wrC r o t k ih=>exact h.elim
 | new r l k ih=>exact h.elim
 | bump q k ih=>exact h.elim
theorem SP.quiet_foot{α:Type}{d:Nat}{S:List Nat}{s:SP α}(h:s.quiet d S) (σ:St):(∀x∈(s.foot σ).2,x=.t d)∧∀i,Loc.t i∈(s.foot σ).1→i∈S:=by
 induction s generalizing σ with
 | ret a=>exact⟨fun x hx=>by simp[SP.foot] at hx,fun i hi=>by simp[SP.foot] at hi⟩
 | fail=>exact⟨fun x hx=>by simp[SP.foot] at hx,fun i hi=>by simp[SP.foot] at hi⟩
 | rdT i k ih=>
  obtain⟨h1,h2⟩:=ih _ (h.2 (σ.t i)) σ;refine⟨h1,fun j hj=>?_⟩;simp only[SP.foot,List.mem_cons] at hj;rcases hj with hj | hj
  ·injection hj with hj;subst hj;exact h.1
  ·exact h2 j hj
 | rdC r o k ih=>
  obtain⟨h1,h2⟩:=ih _ (h (σ.c r o)) σ;refine⟨h1,fun j hj=>?_⟩;simp only[SP.foot,List.mem_cons] at hj;rcases hj with hj | hj
  ·simp at hj
  ·exact h2 j hj
 | rdH r o k ih=>
  obtain⟨h1,h2⟩:=ih _ (h (σ.c r o).hd) σ;refine⟨h1,fun j hj=>?_⟩;simp only[SP.foot,List.mem_cons] at hj;rcases hj with hj | hj
  ·simp at hj
  ·exact h2 j hj
 | rdV q k ih=>
  obtain⟨h1,h2⟩:=ih _ (h (σ.v q)) σ;refine⟨h1,fun j hj=>?_⟩;simp only[SP.foot,List.mem_cons] at hj;rcases hj with hj | hj
  ·simp at hj
  ·exact h2 j hj
 | wrT i t k ih=>
  obtain⟨h1,h2⟩:=ih h.2 { σ with tm:=fI σ.tm i t };refine⟨fun x hx=>?_,h2⟩;simp only[SP.foot,List.mem_cons] at hx;rcases hx with hx | hx
  ·rw[hx,h.1]
  ·exact h1 x hx
 | wrC r o t k ih=>exact h.elim
 | new r l k ih=>exact h.elim
 | bump q k ih=>exact h.elim
def gc:Opd→List Nat
 | .t i=>[i]
 | _=>[]
def fE:TOp→Option (List Nat)
 | .mov (.t i)=>some [i]
 | .mov (.c x)=>match qM x with | .v _=>some [] | _=>none
 | .pick c a b=>some (gc c++(gc a++gc b))
 | .load _ a=>some (gc a)
 | .nilc x=>some (gc x)
 | .fld _ a=>some (gc a)
 | .fldv _ _ x=>some (gc x)
 | .idx _ x i=>some (gc x++gc i)
 | .idxa _ _ x i=>some (gc x++gc i)
 | .ext x _=>some (gc x)
 | .bin _ x y=>some (gc x++gc y)
 | .bnb _ x y=>some (gc x++gc y)
 | .eqa _ _ x y=>some (gc x++gc y)
 | .un _ x=>some (gc x)
 | .conv _ x=>some (gc x)
 | .len x=>some (gc x)
 | .lens x=>some (gc x)
 | .ixs x i=>some (gc x++gc i)
 | _=>none
section
variable {d:Nat} {S:List Nat}
theorem eF{x:Opd}(h:∀i∈gc x,i∈S):(opd x).quiet d S:=by
 cases x with
 | t i=>exact⟨h i (by simp[gc]),fun _=>trivial⟩
 | _=>exact trivial
theorem sO{l:List Key}:(rdVs l).quiet d S:=by
 induction l with
 | nil=>exact trivial
 | cons q l ih=>exact fun n=>SP.quiet_bind ih fun _=>trivial
theorem kR{p:dR}{n:Nat}{vs:List Nat}:(chk p n vs).quiet d S:=SP.quiet_bind sO fun l=>by split<;>exact trivial
theorem mc{p:dR}:(getPl p).quiet d S:=fun tv=>by
 show SP.quiet d S (match d7 tv p.hops with | some t=>SP.ret t | none=>SP.fail);cases d7 tv p.hops<;>exact trivial
theorem xX{p:dR}:(Ks p).quiet d S:=by
 unfold Ks;split
 ·exact fun _=>trivial
 ·exact SP.quiet_bind mc fun _=>trivial
theorem qK{p:dR}{t:TV}:(peek1 p t).quiet d S:=by
 cases t with
 | ow c=>exact SP.quiet_bind sO fun _=>trivial
 | _=>exact trivial
theorem CM{p:dR}:(peekP p).quiet d S:=by
 unfold peekP;split
 ·refine fun h=>?_
  cases h with
  | some ls=>exact SP.quiet_bind sO fun _=>trivial
  | none=>exact SP.quiet_bind mc fun _=>qK
 ·exact SP.quiet_bind mc fun _=>qK
theorem CN:∀{n:Nat}{p:dR},(peekL p n).quiet d S:=by
 intro n
 induction n with
 | zero=>intro p;exact trivial
 | succ n ih=>
  intro p;refine SP.quiet_bind mc fun t=>SP.quiet_bind qK fun t'=>?_;split
  ·exact trivial
  ·split
   ·exact SP.quiet_bind ih fun _=>trivial
   ·exact trivial
theorem eL{t:TV}:(wr d t).quiet d S:=⟨rfl,trivial⟩
theorem j6{t:TV}:(sx t).quiet d S:=by cases t<;>exact trivial
theorem qL{t:TV}:(natOf t).quiet d S:=by
 cases t with
 | v x=>
  cases x with
  | int k n=>cases n<;>exact trivial
  | _=>exact trivial
 | _=>exact trivial
theorem mb{α:Type}{o:Option α}:(jh o).quiet d S:=by cases o<;>exact trivial
theorem AP{t:TV}:(mf t).quiet d S:=by
 cases t with
 | pk p vs=>exact SP.quiet_bind kR fun _=>SP.quiet_bind xX fun t=>by cases t<;>exact trivial
 | pw p vs sz lo n=>exact SP.quiet_bind kR fun _=>trivial
 | ow c=>cases c<;>exact trivial
 | _=>exact trivial
theorem AQ{op:TOp}(h:fE op=some S):(ev1 d op).quiet d S:=by
 cases op with
 | mov x=>
  cases x with
  | t i=>
   simp only[fE,oSJ] at h;subst h;refine SP.quiet_bind (eF fun j hj=>by simpa [gc] using hj) fun t=>?_
   cases t with
   | ow c=>exact trivial
   | agg l=>
    simp only;split
    ·exact trivial
    ·exact eL
   | _=>exact eL
  | c x=>
   simp only[fE] at h;split at h
   ·rename_i y hy
    have e:ev1 d (.mov (.c x))=wr d (.v y):=by simp only[ev1,opd,hy,SP.bind]
    rw[e];exact eL
   ·simp at h
  | f _=>simp[fE] at h
 | pick c a b=>
  simp only[fE,oSJ] at h;subst h;refine SP.quiet_bind (eF fun j hj=>by simp[hj]) fun t=>?_;split
  ·rename_i bb
   refine SP.quiet_bind ?_ fun t=>by split<;>first | exact eL | exact trivial
   cases bb
   ·exact eF fun j hj=>by simp at hj;simp[hj]
   ·exact eF fun j hj=>by simp at hj;simp[hj]
  ·exact trivial
 | load n a=>
  simp only[fE,oSJ] at h;subst h;refine SP.quiet_bind (eF fun j hj=>by simpa using hj) fun t=>?_;split
  ·refine SP.quiet_bind kR fun _=>?_
   cases n with
   | none=>exact SP.quiet_bind CM fun _=>eL
   | some n=>exact SP.quiet_bind CN fun _=>eL
  ·split<;>first | exact eL | exact trivial
  ·exact trivial
 | nilc x=>
  simp only[fE,oSJ] at h;subst h;refine SP.quiet_bind (eF fun j hj=>by simpa using hj) fun t=>?_;split
  ·exact SP.quiet_bind kR fun _=>eL
  ·exact eL
  ·exact eL
  ·exact trivial
 | fld off a=>
  simp only[fE,oSJ] at h;subst h;refine SP.quiet_bind (eF fun j hj=>by simpa using hj) fun t=>?_;split
  ·refine SP.quiet_bind kR fun _=>?_
   split<;>first | exact eL | exact trivial
  ·split<;>first | exact eL | exact trivial
  ·exact trivial
 | fldv off n x=>
  simp only[fE,oSJ] at h;subst h;refine SP.quiet_bind (eF fun j hj=>by simpa using hj) fun t=>?_
  (repeat' split)<;>first | exact eL | exact trivial
 | idx sz x i=>
  simp only[fE,oSJ] at h;subst h;refine SP.quiet_bind (eF fun j hj=>by simp[hj]) fun t=>SP.quiet_bind (eF fun j hj=>by simp[hj]) fun ti=>SP.quiet_bind qL fun k=>?_;split
  ·exact SP.quiet_bind kR fun _=>SP.quiet_bind xX fun t=>by (repeat' split)<;>first | exact eL | exact trivial
  ·exact SP.quiet_bind kR fun _=>SP.quiet_bind mc fun t=>by (repeat' split)<;>first | exact eL | exact trivial
  ·split<;>first | exact eL | exact trivial
  ·exact trivial
 | idxa n sz x i=>
  simp only[fE,oSJ] at h;subst h;refine SP.quiet_bind (eF fun j hj=>by simp[hj]) fun t=>SP.quiet_bind (eF fun j hj=>by simp[hj]) fun ti=>SP.quiet_bind qL fun k=>?_;split
  ·exact SP.quiet_bind kR fun _=>by split<;>first | exact eL | exact trivial
  ·exact trivial
 | ext x i=>
  simp only[fE,oSJ] at h;subst h;refine SP.quiet_bind (eF fun j hj=>by simpa using hj) fun t=>?_
  (repeat' split)<;>first | exact eL | exact trivial
 | bin op x y=>
  simp only[fE,oSJ] at h;subst h;refine SP.quiet_bind (eF fun j hj=>by simp[hj]) fun t=>SP.quiet_bind (eF fun j hj=>by simp[hj]) fun ti=>SP.quiet_bind j6 fun _=>SP.quiet_bind j6 fun _=>SP.quiet_bind mb fun r=>?_
  split<;>first | exact eL | exact trivial
 | bnb neg x y=>
  simp only[fE,oSJ] at h;subst h;refine SP.quiet_bind (eF fun j hj=>by simp[hj]) fun t=>SP.quiet_bind (eF fun j hj=>by simp[hj]) fun ti=>SP.quiet_bind j6 fun _=>SP.quiet_bind j6 fun _=>?_
  split<;>first | exact eL | exact trivial
 | eqa ks neg x y=>
  simp only[fE,oSJ] at h;subst h;refine SP.quiet_bind (eF fun j hj=>by simp[hj]) fun t=>SP.quiet_bind (eF fun j hj=>by simp[hj]) fun ti=>?_;split
  ·exact SP.quiet_bind mb fun _=>SP.quiet_bind mb fun _=>SP.quiet_bind mb fun _=>eL
  ·exact trivial
 | un op x=>
  simp only[fE,oSJ] at h;subst h;refine SP.quiet_bind (eF fun j hj=>by simpa using hj) fun t=>SP.quiet_bind j6 fun _=>SP.quiet_bind mb fun r=>?_
  split<;>first | exact eL | exact trivial
 | conv k x=>
  simp only[fE,oSJ] at h;subst h;refine SP.quiet_bind (eF fun j hj=>by simpa using hj) fun t=>SP.quiet_bind j6 fun _=>?_
  split<;>first | exact eL | exact trivial
 | len x=>
  simp only[fE,oSJ] at h;subst h;exact SP.quiet_bind (eF fun j hj=>by simpa using hj) fun t=>SP.quiet_bind AP fun _=>eL
 | lens x=>
  simp only[fE,oSJ] at h;subst h;refine SP.quiet_bind (eF fun j hj=>by simpa using hj) fun t=>?_
  split<;>first | exact eL | exact trivial
 | ixs x i=>
  simp only[fE,oSJ] at h;subst h;refine SP.quiet_bind (eF fun j hj=>by simp[hj]) fun t=>SP.quiet_bind (eF fun j hj=>by simp[hj]) fun ti=>SP.quiet_bind qL fun k=>?_
  (repeat' split)<;>first | exact eL | exact trivial
 | _=>simp[fE] at h
end
def Eg(t:iB):Option (Nat×List Nat):=
 match t.dst,fE t.op with
 | some d,some S=>some (d,(match t.guard with | some (j,_)=>j :: S | none=>S))
 | _,_=>none
theorem SP.quiet_more{α:Type}{d:Nat}{S S':List Nat}(hs:∀i∈S,i∈S') {s:SP α}(h:s.quiet d S):s.quiet d S':=by
 induction s with
 | ret a=>exact trivial
 | fail=>exact trivial
 | rdT i k ih=>exact⟨hs i h.1,fun t=>ih t (h.2 t)⟩
 | rdC r o k ih=>exact fun t=>ih t (h t)
 | rdH r o k ih=>exact fun t=>ih t (h t)
 | rdV q k ih=>exact fun n=>ih n (h n)
 | wrT i t k ih=>exact⟨h.1,ih h.2⟩
 | wrC r o t k ih=>exact h.elim
 | new r l k ih=>exact h.elim
 | bump q k ih=>exact h.elim
theorem xW{call:Option Nat→TOp→SP Unit}{t:iB}{d:Nat}{S:List Nat}(h:Eg t=some (d,S)):(spOp call t).quiet d S:=by
 unfold Eg at h;split at h
 case h_2=>simp at h
 rename_i d' S' hd hq
 injection h with h
 injection h with h1 h2
 subst h1
 have hev:(evop call t.dst t.op)=ev1 d' t.op:=by
  rw[hd]
  cases hop:t.op<;>rw[hop] at hq<;>first | rfl | simp[fE] at hq
 have hno:(setNo t.dst).quiet d' S:=by rw[hd];exact⟨rfl,trivial⟩
 unfold spOp
 cases hg:t.guard with
 | none=>
  rw[hg] at h2;simp only at h2 ⊢;subst h2;rw[hev];exact AQ hq
 | some g=>
  obtain⟨j,want⟩:=g;rw[hg] at h2;simp only at h2 ⊢;subst h2;refine⟨by simp,fun tv=>?_⟩;show SP.quiet d' (j :: S') (match tv with | .v (.bool b)=>if b=want then evop call t.dst t.op else setNo t.dst | .tup []=>setNo t.dst | _=>.fail);split
  ·split
   ·rw[hev];exact SP.quiet_more (by simp +contextual) (AQ hq)
   ·exact hno
  ·exact hno
  ·exact trivial
def Kp(deps:List (List Nat)) (tops:List iB) (i j:Nat):Bool:=
 (deps.getD j []).contains i || (match Eg (tops.getD i Ax),Eg (tops.getD j Ax) with
  | some (di,Si),some (dj,Sj)=>di != dj && !Sj.contains di && !Si.contains dj
  | _,_=>false)
def xO(deps:List (List Nat)) (tops:List iB):List Nat→Bool
 | []=>true
 | i :: r=>(r.all fun j=>Kp deps tops i j) && xO deps tops r
theorem CO{a b:p8}{da db:Nat}{Sa Sb:List Nat}(ha:(∀x∈a.2,x=.t da)∧∀i,Loc.t i∈a.1→i∈Sa) (hb:(∀x∈b.2,x=.t db)∧∀i,Loc.t i∈b.1→i∈Sb) (h1:da≠db) (h2:da ∉ Sb) (h3:db ∉ Sa):oa a b=false:=by
 have hm:∀(l l':List Loc) (d d':Nat) (S:List Nat),(∀x∈l,x=.t d)→((∀x∈l',x=.t d')∧d≠d'∨(∀i,Loc.t i∈l'→i∈S)∧d ∉ S)→CC l l'=false:=by
  intro l l' d d' S hl hl';unfold CC;simp only[List.any_eq_false,Bool.not_eq_true];intro w hw x hx;rw[hl w hw]
  cases x with
  | t i=>
   simp only[Loc.hit,beq_eq_false_iff_ne];intro e;rcases hl' with ⟨q1,q2⟩ | ⟨q1,q2⟩
   ·have:=q1 _ hx;injection this with this;omega
   ·exact q2 (e ▸ q1 i hx)
  | _=>rfl
 unfold oa;rw[hm a.2 b.1 da 0 Sb ha.1 (.inr ⟨hb.2,h2⟩),hm a.2 b.2 da db [] ha.1 (.inl ⟨hb.1,h1⟩),hm b.2 a.1 db 0 Sa hb.1 (.inr ⟨ha.2,h3⟩),hm b.2 a.2 db da [] hb.1 (.inl ⟨ha.1,Ne.symm h1⟩)];rfl
theorem Fe{call:Option Nat→TOp→SP Unit}{tops:List iB}{deps:List (List Nat)}:∀{L:List Nat}{σ τ:St}{fs:List (Nat×p8)},xO deps tops L=true→mz (fun i=>spOp call (tops.getD i Ax)) L σ=some (fs,τ) →
 iz deps fs=true∧fs.map (·.1)=L∧∀y∈fs,∃ σ1,y.2=(spOp call (tops.getD y.1 Ax)).foot σ1:=by
 intro L
 induction L with
 | nil=>
  intro σ τ fs _ hr;simp only[mz,oSJ,oPJ] at hr;obtain⟨rfl,rfl⟩:=hr;exact⟨rfl,rfl,fun y hy=>by simp at hy⟩
 | cons i L ih=>
  intro σ τ fs hs hr;simp only[xO,Bool.and_eq_true,List.all_eq_true] at hs;simp only[mz] at hr;obtain⟨x,h1,h2⟩:=dM hr;obtain⟨y,h3,h4⟩:=dM h2;simp only[oSJ,oPJ] at h4;obtain⟨rfl,rfl⟩:=h4;obtain⟨fs1,τ1⟩:=y;obtain⟨q1,q2,q3⟩:=ih hs.2 h3;refine⟨?_,by simp[q2],fun z hz=>?_⟩
  ·simp only[iz,Bool.and_eq_true,List.all_eq_true];refine⟨fun z hz=>?_,q1⟩
   have hzL:z.1∈L:=by rw[← q2];exact List.mem_map_of_mem hz
   have hp:=hs.1 z.1 hzL;unfold Kp at hp;simp only[Bool.or_eq_true] at hp ⊢;rcases hp with hp | hp
   ·exact .inr hp
   ·left;split at hp
    ·rename_i di Si dj Sj e1 e2;simp only[Bool.and_eq_true,bne_iff_ne,ne_eq,Bool.not_eq_true',List.contains_eq_mem,decide_eq_false_iff_not] at hp;obtain⟨σ1,e3⟩:=q3 z hz;have:=CO (SP.quiet_foot (xW (call:=call) e1) σ) (SP.quiet_foot (xW (call:=call) e2) σ1) hp.1.1 hp.1.2 hp.2;rw[e3];simp only[this,Bool.not_false]
    ·simp at hp
  ·rcases List.mem_cons.1 hz with rfl | hz
   ·exact⟨σ,rfl⟩
   ·exact q3 z hz
theorem Jb{call:Option Nat→TOp→SP Unit}{o:iB}{σ σ':St}(h:yz call o σ=some σ'):(spOp call o).run σ=some ((),σ'):=by
 have hno:∀{σ'},(match o.dst with | some d=>some { σ with tm:=fI σ.tm d (.tup []) } | none=>some σ)=some σ'→(setNo o.dst).run σ=some ((),σ'):=by
  intro σ' h;unfold setNo
  cases hd:o.dst with
  | none=>rw[hd] at h;simp only[oSJ] at h;simp[SP.run,h]
  | some d=>rw[hd] at h;simp only[oSJ] at h;simp[SP.run,h]
 have hm:∀{s:SP Unit} {σ'},(s.run σ).map (·.2)=some σ'→s.run σ=some ((),σ'):=by
  intro s σ' h
  cases hs:s.run σ with
  | none=>simp[hs] at h
  | some x=>obtain⟨u,x⟩:=x;simp[hs] at h;rw[h]
 unfold yz at h;unfold spOp
 cases hg:o.guard with
 | none=>rw[hg] at h;exact hm h
 | some g=>
  obtain⟨j,want⟩:=g;rw[hg] at h;simp only[SP.run] at h ⊢;split at h
  ·split at h
   ·rename_i hbw;rw[if_pos hbw];exact hm h
   ·rename_i hbw;rw[if_neg hbw];exact hno h
  ·exact hno h
  ·simp at h
theorem G9{call:Option Nat→TOp→SP Unit}{tops:List iB}:∀{L:List Nat}{σ τ:St},qk call (L.map fun i=>tops.getD i Ax) σ=some τ→∃fs,mz (fun i=>spOp call (tops.getD i Ax)) L σ=some (fs,τ):=by
 intro L
 induction L with
 | nil=>intro σ τ h;simp only[List.map_nil,qk,oSJ] at h;subst h;exact⟨[],rfl⟩
 | cons i L ih=>
  intro σ τ h;simp only[List.map_cons,qk] at h;obtain⟨σ1,h1,h2⟩:=dM h;obtain⟨fs,h3⟩:=ih h2;refine⟨(i,(spOp call (tops.getD i Ax)).foot σ) :: fs,?_⟩;simp only[mz,Jb h1,oBS,h3]
theorem Fi(tops:List iB):(List.range tops.length).map (fun i=>tops.getD i Ax)=tops:=by
 apply List.ext_getElem?;intro i;by_cases h:i < tops.length
 ·simp[h]
 ·rw[List.getElem?_eq_none (by simpa using h),List.getElem?_eq_none (by omega)]
section
variable {P:Program} {M:Fm} {σ σ':St} {H:List TV} {xs:List Value} {ts:Array Value} {w:World} {G:Gh}
theorem Inv.rehandL(hI:Inv M σ H xs ts w G) {w':World}{H':List TV}{xs':List Value}{f:Nat→Nat→Prop}{Fx:Nat→Prop}(hw:∀k,k < w.heap.size→(∀j,¬ G.φ M.hr j k)→w'.heap[k]?=w.heap[k]?) (hs:w.heap.size≤w'.heap.size)
 (ho:w'.os=w.os) (ht:w'.tape=w.tape) (hu:w'.output=w.output) (hlen:H'.length=xs'.length) (hf:∀j k,f j k→j < H'.length∧((∃i,G.φ M.hr i k)∨w.heap.size≤k)) (hdis:∀j j' k,f j k→f j' k→j=j')
 (hFx:∀k,Fx k→(G.F M.A k∨(∃i,G.φ M.hr i k)∨w.heap.size≤k)∧∀j,¬ f j k) (hown:∀j (h:j < H'.length),(H'[j]=.dead∧∀k,¬ f j k)∨gM w' Fx (f j) H'[j] (xs'.getD j undef)) :
 ∃G',Inv M σ H' xs' ts w' G'∧ke M w σ H G w' σ H' G'∧G'.β=G.β∧∀r o k,r≠1→(G'.φ r o k↔G.φ r o k):=by
 let G':Gh:=⟨G.β,fun r o=>if r=M.hr then xs'.getD o undef else G.η r o,fun r o k=>if r=M.hr then f o k else G.φ r o k⟩
 have hsub:∀r o k,G'.φ r o k→(r=M.hr∧f o k)∨(r≠M.hr∧G.φ r o k):=by
  intro r o k hk;simp only[G'] at hk;by_cases e:r=M.hr
  ·rw[if_pos e] at hk;exact .inl ⟨e,hk⟩
  ·rw[if_neg e] at hk;exact .inr ⟨e,hk⟩
 have hFF:∀k,G.F M.A k→k < w.heap.size→G'.F M.A k:=by
  rintro k ⟨a1,a2,a3⟩ hk;refine⟨a1,fun r o h=>?_,a3⟩;rcases hsub r o k h with ⟨_,h1⟩ | ⟨_,h1⟩
  ·rcases (hf _ k h1).2 with ⟨j,h2⟩ | h2
   ·exact a2 _ _ h2
   ·omega
  ·exact a2 _ _ h1
 have hFw:∀k,G.F M.A k→k < w.heap.size→w'.heap[k]?=w.heap[k]?:=fun k ⟨_,a2,_⟩ hk=>hw k hk fun j=>a2 _ _;have hφ:∀r o,r≠M.hr→∀k,G.φ r o k→w'.heap[k]?=w.heap[k]?:=fun r o h k hk=>hw k (hI.core.live hk) fun j hj=>h (hI.core.dis _ _ _ _ k hk hj).1;have hbox:∀r b o n,G.β r=some (b,o,n)→w'.heap[b]?=w.heap[b]?:=fun r b o n hb=>hw b (hI.core.boxlt hb) fun j=>hI.core.boxf r b o n hb _ _;have hk:=gz.away (H':=H') (G':=G') hI hw rfl (fun r o h=>by simp[G',show r≠M.hr from h])
 have hfd:∀r o k,r≠M.hr→G.φ r o k→∀j,¬ f j k:=by
  intro r o k h hk j hf';rcases (hf j k hf').2 with ⟨i,h2⟩ | h2
  ·exact h (hI.core.dis _ _ _ _ k hk h2).1
  ·have:=hI.core.live hk;omega
 have hF:=hI.fram
 have hallow:∀k,((∃i,G.φ M.hr i k)∨w.heap.size≤k)→M.A k:=by
  rintro k (⟨i,h⟩ | h)
  ·exact hI.core.allow _ _ k h
  ·exact M.hA k (Nat.le_trans hF.size h)
 have hnbox:∀k,((∃i,G.φ M.hr i k)∨w.heap.size≤k)→∀r b o n,G.β r=some (b,o,n)→k≠b:=by
  rintro k (⟨i,h⟩ | h) r b o n hb rfl
  ·exact hI.core.boxf r k o n hb _ _ h
  ·have:=hI.core.boxlt hb;omega
 have hFxF:∀k,Fx k→G'.F M.A k:=by
  intro k hk;obtain⟨h1,h2⟩:=hFx k hk;refine⟨?_,fun r o h=>?_,fun r b o n hb=>?_⟩
  ·rcases h1 with h1 | h1
   ·exact h1.1
   ·exact hallow k h1
  ·rcases hsub r o k h with ⟨_,h3⟩ | ⟨h3,h4⟩
   ·exact h2 _ h3
   ·rcases h1 with h1 | ⟨i,h1⟩ | h1
    ·exact h1.2.1 _ _ h4
    ·exact h3 (hI.core.dis _ _ _ _ k h4 h1).1
    ·have:=hI.core.live h4;omega
  ·rcases h1 with h1 | h1
   ·exact h1.2.2 r b o n hb
   ·exact hnbox k h1 r b o n hb
 have hcore:kC M.A (ee M σ H') w' G':=by
  refine⟨fun r o=>?_,fun r b o0 n hb=>?_,fun r b o0 n hb o ho=>?_,hI.core.boxd,fun r b o n hb r2 o2 hk=>?_,fun r1 o1 r2 o2 k h1 h2=>?_,fun r o k h=>?_⟩
  ·by_cases e:r=M.hr
   ·subst e
    have hphi:∀k,G'.φ M.hr o k↔f o k:=fun k=>by simp[G']
    by_cases e2:o < H'.length
    ·have hv:G'.val w' M.hr o=xs'.getD o undef:=by unfold Gh.val;simp only[G',hI.hr_none,if_true]
     rw[hv,ml]
     have e3:H'.getD o .dead=H'[o]:=by simp[e2]
     rw[e3];rcases hown o e2 with ⟨h1,h2⟩ | h1
     ·left;exact⟨h1,fun k hk=>h2 k ((hphi k).1 hk)⟩
     ·right;exact (h1.frame (fun _ _=>rfl) (fun _ _ _=>rfl) (fun k h _=>hFxF k h)).refp fun k=>(hphi k).symm
    ·left;exact⟨by rw[ml];simp[e2],fun k hk=>e2 (hf o k ((hphi k).1 hk)).1⟩
   ·have hv:G'.val w' r o=G.val w r o:=iL rfl (by simp[G',e]) (hbox r)
    have hphi:∀k,G'.φ r o k↔G.φ r o k:=fun k=>by simp[G',e]
    rw[d9 e,hv];have hc:=hI.core.cell r o;rw[d9 e] at hc;rcases hc with ⟨a1,a2⟩ | a2
    ·left;exact⟨a1,fun k hk=>a2 k ((hphi k).1 hk)⟩
    ·right;exact (a2.frame (hφ r o e) hFw hFF).refp fun k=>(hphi k).symm
  ·obtain⟨cur,e',fz,a1,a2,a3⟩:=hI.core.box r b o0 n hb;exact⟨cur,e',fz,by rw[hbox r b o0 n hb];exact a1,a2,fun j hj=>by rw[World.frozen?_of_block (w:=w) (hbox r b o0 n hb)];exact a3 j hj⟩
  ·have e:r≠M.hr:=fun e=>by
    have hb':G.β r=some (b,o0,n):=hb;rw[e,hI.hr_none] at hb';simp at hb'
   have:=hI.core.boxc r b o0 n hb o ho;rw[d9 e] at this ⊢;exact this
  ·rcases hsub r2 o2 b hk with ⟨_,h1⟩ | ⟨_,h1⟩
   ·exact hnbox b (hf _ b h1).2 r b o n hb rfl
   ·exact hI.core.boxf r b o n hb _ _ h1
  ·rcases hsub r1 o1 k h1 with ⟨a1,a3⟩ | ⟨a1,a2⟩
   ·rcases hsub r2 o2 k h2 with ⟨b1,b3⟩ | ⟨b1,b2⟩
    ·exact⟨a1.trans b1.symm,hdis _ _ k a3 b3⟩
    ·exact absurd a3 (hfd _ _ k b1 b2 _)
   ·rcases hsub r2 o2 k h2 with ⟨b1,b3⟩ | ⟨b1,b2⟩
    ·exact absurd b3 (hfd _ _ k a1 a2 _)
    ·exact hI.core.dis _ _ _ _ k a2 b2
  ·rcases hsub r o k h with ⟨_,a3⟩ | ⟨a1,a2⟩
   ·exact hallow k (hf _ k a3).2
   ·exact hI.core.allow _ _ k a2
 refine⟨G',⟨hcore,fun i=>(hI.tmr i).keep hk hFw hFF,?_,hI.keys,hI.size,hlen,fun j hj=>by simp[G'],hI.shape⟩,⟨hs,hk,hFw,hFF⟩,rfl,fun r o k h=>by simp[G',show r≠M.hr from h]⟩;refine⟨ho.trans hF.os,ht.trans hF.tape,hu.trans hF.output,Nat.le_trans hF.size hs,fun k a1 a2 a3=>?_,fun r b o n hp=>?_,fun r o k h=>?_,hF.box,hF.even⟩
 ·rw[hw k (Nat.lt_of_lt_of_le a1 hF.size) fun j hj=>?_]
  ·exact hF.old k a1 a2 a3
  ·rcases hF.own _ _ k hj with h | h
   ·exact a2 h
   ·omega
 ·obtain⟨a1,cur0,cur,e',fz,a2,a3,a4⟩:=hF.par r b o n hp;exact⟨a1,cur0,cur,e',fz,a2,by rw[hbox r b o n a1];exact a3,a4⟩
 ·rcases hsub r o k h with ⟨_,a3⟩ | ⟨a1,a2⟩
  ·rcases (hf _ k a3).2 with ⟨j,h2⟩ | h2
   ·exact hF.own _ _ k h2
   ·exact .inr (Nat.le_trans hF.size h2)
  ·exact hF.own _ _ k a2
theorem Inv.dropImm(hI:Inv M σ H xs ts w G) (hnd:∀j (h:j < H.length),H[j]≠.dead):∃G',lT M w ts σ H G σ [] [] G'∧∀j (h:j < H.length),m9 w (G'.F M.A) H[j].imm (xs.getD j undef):=by
 obtain⟨G',hI',hm,hβ,hφ⟩:=hI.rehandL (w':=w) (H':=[]) (xs':=[]) (f:=fun _ _=>False) (Fx:=fun _=>False) (fun _ _ _=>rfl) (Nat.le_refl _) rfl rfl rfl rfl (fun _ _ h=>h.elim) (fun _ _ _ h=>h.elim) (fun _ h=>h.elim) (fun j h=>by simp at h)
 have hF0:∀k,G.F M.A k→G'.F M.A k:=by
  rintro k ⟨a1,a2,a3⟩;refine⟨a1,fun r o h=>?_,fun r b o n hb=>a3 r b o n (hβ ▸ hb)⟩;by_cases hr:r=1
  ·have:=hI'.phi_dead (r:=r) (o:=o) (by rw[hr,show (1:Nat)=M.hr from rfl,ml];simp);exact this k h
  ·exact a2 r o ((hφ r o k hr).1 h)
 refine⟨G',⟨hI',hF0,hm.keeps,rfl⟩,fun j hj=>?_⟩;refine (hI.hand_own hj (hnd j hj)).share'.frame (fun _ _ _=>rfl) fun k hk _=>?_;rcases hk with hk | hk
 ·exact hF0 k hk
 ·refine⟨hI.core.allow _ _ k hk,fun r o h=>?_,fun r b o n hb=>?_⟩
  ·by_cases hr:r=1
   ·have:=hI'.phi_dead (r:=r) (o:=o) (by rw[hr,show (1:Nat)=M.hr from rfl,ml];simp);exact this k h
   ·exact hr (hI.core.dis _ _ _ _ k ((hφ r o k hr).1 h) hk).1
  ·rintro rfl;exact hI.core.boxf r k o n (hβ ▸ hb) _ _ hk
end
def ix(P:Program) (M:Fm) (isCall:Op→TOp→Prop):jU→Code→Prop
 | .skip,c=>c=.skip
 | .nrm _,c=>c=.skip
 | .reg _ draw tops _,c=>∃id ops dr,c=.region id ops dr∧tops.length=ops.size∧(∀i (h:i < ops.size) (h':i < tops.length),uj P M isCall ops ops[i] tops[i])∧match draw with
  | some deps=>dr=true∧wC ops deps∧P.follows .mixedOrders=true
  | none=>dr=true→∃deps,wC ops deps∧P.follows .mixedOrders=true∧xO deps tops (List.range tops.length)=true
 | .seq x y,c=>∃x' y',c=.seq x' y'∧ix P M isCall x x'∧ix P M isCall y y'
 | .cond k x y,c=>∃k' x' y',c=.cond k' x' y'∧dJ k'=some k∧ix P M isCall x x'∧ix P M isCall y y'
 | .block id x,c=>∃x',c=.block id x'∧ix P M isCall x x'
 | .loop x,c=>∃x',c=.loop x'∧ix P M isCall x x'
 | .exit id,c=>c=.exit id
 | .ret,c=>c=.ret
 | .pre l x,c=>(∀y∈l,y.1 < M.N)∧ix P M isCall x c
 | .post x l,c=>(∀y∈l,y.1 < M.N)∧ix P M isCall x c
def jT.toExit:jT→Exit
 | .normal=>.normal
 | .exit id=>.exit id
 | .ret=>.ret
section
variable {P:Program} {M:Fm} {isCall:Op→TOp→Prop} {call:Option Nat→TOp→SP Unit}
theorem m9.toTm{w:World}{F:Nat→Prop}{V:Vs}{C:Cs}{G:Gh}{t:TV}{x:Value}(h:m9 w F t x):TmR w F V C G t x:=by
 cases t with
 | v y=>cases h with | v hf=>exact .v hf
 | sl c=>exact .sl h
 | dead=>exact .dead
 | _=>cases h
theorem K8{σ σ':St}{ts:Array Value}{w:World}{G:Gh}(hI:Inv M σ [] [] ts w G) {x:Nat×Option Nat}(hx:x.1 < M.N) (hr:(shr1 x).run σ=some ((),σ')):∃G',Inv M σ' [] [] ts w G':=by
 obtain⟨i,off⟩:=x
 have same:some ((),σ)=some ((),σ')→∃G',Inv M σ' [] [] ts w G':=fun h=>by
  simp only[oSJ,oPJ,true_and] at h;exact⟨G,h ▸ hI⟩
 have htm:=hI.tmr i
 have drop:∀{t t':TV} {v:Value} {σ1:St} {H:List TV},TmR w (G.F M.A) σ.v (ee M σ []) G t v→(take1 false t).run σ=some (t',σ1)→t'≠.dead→∃G2,Inv M σ1 [] [] ts w G2∧TmR w (G2.F M.A) σ1.v (ee M σ1 []) G2 t'.imm v∧σ1.tm=σ.tm:=by
  intro t t' v σ1 H ht h1 hnd;obtain⟨G1,hg,_⟩:=iM hI ht h1
  obtain⟨G2,hg2,himm⟩:=hg.1.dropImm (fun j hj=>by
   obtain rfl:j=0:=by simpa using hj
   exact hnd)
  have h0:=himm 0 (by simp);simp only[List.nil_append,List.getElem_cons_zero,List.getD_cons_zero] at h0;refine⟨G2,hg2.1,?_,hg2.2.2.2.trans hg.2.2.2⟩;exact h0.toTm
 unfold shr1 at hr;simp only[SP.run] at hr
 cases off with
 | none=>
  cases ht:σ.t i with
  | pk p vs=>
   rw[ht] at hr htm;simp only at hr;obtain⟨t',σ1,h1,h2⟩:=SP.run_bind_some hr;simp only[SP.run,oSJ,oPJ,true_and] at h2
   have hnd:t'≠.dead:=by
    intro e
    rcases jY h1 with h | h<;>rw[e] at h<;>simp[eX,mu] at h
   obtain⟨G2,hI2,ht2,_⟩:=drop (H:=[]) htm h1 hnd;refine⟨G2,?_⟩;rw[← h2];have:=hI2.wrT hx ht2
   have e:ts.setIfInBounds i (ts.getD i undef)=ts:=by
    apply Array.ext
    ·simp
    ·intro j h3 h4;rw[Array.getElem_setIfInBounds (by simpa using h4)];split
     ·rename_i e;subst e;simp[Array.getD_eq_getD_getElem?,h4]
     ·rfl
   rw[e] at this;exact this
  | _=>rw[ht] at hr;exact same hr
 | some off=>
  cases ht:σ.t i with
  | ptr p vs=>
   rw[ht] at hr htm;simp only at hr;obtain⟨_,σ1,h1,h2⟩:=SP.run_bind_some hr;have e1:σ1=σ:=(dW h1).1;have e2:=(dW h1).2;subst e1;split at h2
   case isFalse=>simp[SP.run] at h2
   obtain⟨t,σ2,h3,h4⟩:=SP.run_bind_some h2;obtain⟨e3,hg⟩:=fG h3;have e3:σ2=σ1:=e3;subst e3
   cases t with
   | ow c=>
    simp only at h4;obtain⟨t',σ3,h5,h6⟩:=SP.run_bind_some h4;obtain⟨t2,σ4,h7,h8⟩:=SP.run_bind_some h6;simp only[SP.run,oSJ,oPJ,true_and] at h8;subst h8
    cases htm with
    | ptr V0 h0 hv h=>
     obtain⟨hr1,ad,t0,ha,_,_⟩:=h e2
     have hr2:(p.add off).root≠1:=by rw[dR.add_root];exact hr1
     obtain⟨hB,u,fp,hcu,hown,hv2⟩:=hI.named hr2 (mY off ha) hg (by simp);obtain⟨rfl,ht'⟩:=rq hI hr2 hg hown hv2 h5
     have hnd:t2≠.dead:=by
      intro e
      rcases jY h7 with h | h<;>rw[e] at h<;>simp[eX,mu] at h
     obtain⟨G2,hI2,_,_⟩:=drop (H:=[]) ht' h7 hnd;exact⟨G2,hI2⟩
   | _=>exact same h4
  | _=>rw[ht] at hr;exact same hr
theorem GT{ts:Array Value}{w:World}:∀{l:List (Nat×Option Nat)}{σ σ':St}{G:Gh},Inv M σ [] [] ts w G→(∀y∈l,y.1 < M.N)→(shrs l).run σ=some ((),σ')→∃G',Inv M σ' [] [] ts w G':=by
 intro l
 induction l with
 | nil=>
  intro σ σ' G hI _ hr;simp only[shrs,SP.run,oSJ,oPJ,true_and] at hr;exact⟨G,hr ▸ hI⟩
 | cons x l ih=>
  intro σ σ' G hI hl hr;obtain⟨_,σ1,h1,h2⟩:=SP.run_bind_some hr;obtain⟨G1,hI1⟩:=K8 hI (hl x (by simp)) h1;exact ih hI1 (fun y hy=>hl y (by simp[hy])) h2
theorem Ec(hcall:wD P M isCall call) (N:Nat):∀(tc:jU) (c:Code) (σ:St) (e:jT) (σ':St) (a:Act) (w:World) (G:Gh) (Q:Exit→Act→World→Prop),ix P M isCall tc c→runC call N tc σ=some (e,σ')→Inv M σ [] [] a.tmps w G →
 (∀a' w' G',Inv M σ' [] [] a'.tmps w' G'→a'.defers=a.defers→Q e.toExit a' w')→c.wp P Q a w:=by
 intro tc
 induction tc with
 | skip=>
  intro c σ e σ' a w G Q hc hr hI hQ;simp only[ix] at hc;subst hc;simp only[runC,oSJ,oPJ] at hr;obtain⟨rfl,rfl⟩:=hr;exact wp_skip (hQ a w G hI rfl)
 | nrm pers=>
  intro c σ e σ' a w G Q hc hr hI hQ;simp only[ix] at hc;subst hc;simp only[runC,oSJ,oPJ] at hr;obtain⟨rfl,rfl⟩:=hr;obtain⟨G2,hI2⟩:=hI.norm pers;exact wp_skip (hQ a w G2 hI2 rfl)
 | reg id draw tops pers=>
  intro c σ e σ' a w G Q hc hr hI hQ;obtain⟨id',ops,dr,rfl,hlen,hok,hdr⟩:=hc;simp only[runC] at hr
  cases draw with
  | some deps=>
   simp only at hr;obtain⟨⟨fs,τ⟩,h1,h2⟩:=dM hr;simp only at h2;split at h2
   ·rename_i hp
    injection h2 with h2
    injection h2 with h2 h3
    subst h2;subst h3;obtain⟨rfl,hdeps,hm⟩:=hdr;refine Eb hm hlen hok hcall hdeps hI h1 hp fun a' w' G' hI' hd'=>?_;obtain⟨G2,hI2⟩:=hI'.norm pers;exact hQ a' w' G2 hI2 hd'
   ·simp at h2
  | none=>
   simp only at hr;obtain⟨σ1,h1,h2⟩:=gV hr
   injection h2 with h2 h3
   subst h2;subst h3
   cases dr with
   | true=>
    obtain⟨deps,hdeps,hm,hst⟩:=hdr rfl;obtain⟨fs,hfl⟩:=G9 (tops:=tops) (L:=List.range tops.length) (by rw[Fi];exact h1);refine Eb hm hlen hok hcall hdeps hI hfl (Fe hst hfl).1 fun a' w' G' hI' hd'=>?_;obtain⟨G2,hI2⟩:=hI'.norm pers;exact hQ a' w' G2 hI2 hd'
   | false=>
   refine wp_region ?_
   have hm:(List.range ops.size).map (fun i=>tops.getD i ⟨none,none,.lens (.t 0)⟩)=tops:=by
    apply List.ext_getElem?;intro i;by_cases h:i < ops.size
    ·simp[h,hlen]
    ·rw[List.getElem?_eq_none (by simpa using h),List.getElem?_eq_none (by omega)]
   refine KP hlen hok hcall (List.range ops.size) σ a w G (fun i hi=>by simpa using hi) hI (by rw[hm];exact h1) fun a' w' G' hI' hd'=>?_;obtain⟨G2,hI2⟩:=hI'.norm pers;exact hQ a' w' G2 hI2 hd'
 | seq x y ihx ihy=>
  intro c σ e σ' a w G Q hc hr hI hQ;obtain⟨x',y',rfl,hx,hy⟩:=hc;simp only[runC] at hr;obtain⟨⟨e1,σ1⟩,h1,h2⟩:=dM hr;refine wp_seq (ihx x' σ e1 σ1 a w G _ hx h1 hI fun a' w' G' hI' hd=>?_)
  cases e1 with
  | normal=>exact ihy y' σ1 e σ' a' w' G' Q hy h2 hI' fun a2 w2 G2 h3 h4=>hQ a2 w2 G2 h3 (h4.trans hd)
  | exit id=>
   simp only[oSJ,oPJ] at h2;obtain⟨rfl,rfl⟩:=h2;exact hQ a' w' G' hI' hd
  | ret=>
   simp only[oSJ,oPJ] at h2;obtain⟨rfl,rfl⟩:=h2;exact hQ a' w' G' hI' hd
 | cond k x y ihx ihy=>
  intro c σ e σ' a w G Q hc hr hI hQ;obtain⟨k',x',y',rfl,hk,hx,hy⟩:=hc;simp only[runC] at hr;obtain⟨⟨t,σ1⟩,h1,h2⟩:=dM hr;obtain⟨rfl,ht⟩:=eM hI.tmr hk h1
  cases t with
  | v z=>
   obtain⟨hz,_⟩:=ht.v_inv
   cases z with
   | bool b=>
    cases b with
    | true=>exact wp_cond_true hz (ihx x' _ e σ' a w G Q hx h2 hI hQ)
    | false=>exact wp_cond_false hz (ihy y' _ e σ' a w G Q hy h2 hI hQ)
   | _=>simp at h2
  | _=>simp at h2
 | block id x ihx=>
  intro c σ e σ' a w G Q hc hr hI hQ;obtain⟨x',rfl,hx⟩:=hc;simp only[runC] at hr;obtain⟨⟨e1,σ1⟩,h1,h2⟩:=dM hr;refine wp_block (ihx x' σ e1 σ1 a w G _ hx h1 hI fun a' w' G' hI' hd=>?_)
  cases e1 with
  | normal=>
   simp only[oSJ,oPJ] at h2;obtain⟨rfl,rfl⟩:=h2;exact hQ a' w' G' hI' hd
  | exit i=>
   simp only at h2;simp only[jT.toExit,Exit.inBlock];split at h2
   ·rename_i hi;simp only[oSJ,oPJ] at h2;obtain⟨rfl,rfl⟩:=h2;rw[if_pos hi];exact hQ a' w' G' hI' hd
   ·rename_i hi;simp only[oSJ,oPJ] at h2;obtain⟨rfl,rfl⟩:=h2;rw[if_neg hi];exact hQ a' w' G' hI' hd
  | ret=>
   simp only[oSJ,oPJ] at h2;obtain⟨rfl,rfl⟩:=h2;exact hQ a' w' G' hI' hd
 | loop x ihx=>
  intro c σ e σ' a w G Q hc hr hI hQ;obtain⟨x',rfl,hx⟩:=hc;simp only[runC] at hr
  have key:∀(n:Nat) (σ:St) (a:Act) (w:World) (G:Gh) (d:List Deferred),a.defers=d→iter (runC call N x) n σ=some (e,σ')→Inv M σ [] [] a.tmps w G→(∀a' w' G',Inv M σ' [] [] a'.tmps w' G'→a'.defers=d→Q e.toExit a' w')→Code.rounds P x' Q n a w:=by
   intro n
   induction n with
   | zero=>intro σ a w G d _ hr;simp[iter] at hr
   | succ n ih=>
    intro σ a w G d hd hr hI hQ;simp only[iter] at hr;obtain⟨⟨e1,σ1⟩,h1,h2⟩:=dM hr;rw[rounds_succ];refine ihx x' σ e1 σ1 a w G _ hx h1 hI fun a' w' G' hI' hd'=>?_
    cases e1 with
    | normal=>exact ih σ1 a' w' G' d (hd'.trans hd) h2 hI' hQ
    | exit i=>
     simp only[oSJ,oPJ] at h2;obtain⟨rfl,rfl⟩:=h2;exact hQ a' w' G' hI' (hd'.trans hd)
    | ret=>
     simp only[oSJ,oPJ] at h2;obtain⟨rfl,rfl⟩:=h2;exact hQ a' w' G' hI' (hd'.trans hd)
  exact wp_loop_rounds N (key N σ a w G a.defers rfl hr hI hQ)
 | exit id=>
  intro c σ e σ' a w G Q hc hr hI hQ;simp only[ix] at hc;subst hc;simp only[runC,oSJ,oPJ] at hr;obtain⟨rfl,rfl⟩:=hr;exact wp_exit (hQ a w G hI rfl)
 | ret=>
  intro c σ e σ' a w G Q hc hr hI hQ;simp only[ix] at hc;subst hc;simp only[runC,oSJ,oPJ] at hr;obtain⟨rfl,rfl⟩:=hr;exact wp_ret (hQ a w G hI rfl)
 | pre l x ihx=>
  intro c σ e σ' a w G Q hc hr hI hQ;obtain⟨hl,hx⟩:=hc;simp only[runC] at hr;obtain⟨⟨u,σ1⟩,h1,h2⟩:=dM hr;obtain⟨G1,hI1⟩:=GT hI hl h1;obtain⟨G2,hI2⟩:=hI1.norm (σ1.tm.map (·.1),σ1.ce.map (·.1));exact ihx c σ1.anew e σ' a w G2 Q hx h2 hI2 hQ
 | post x l ihx=>
  intro c σ e σ' a w G Q hc hr hI hQ;obtain⟨hl,hx⟩:=hc;simp only[runC] at hr;obtain⟨⟨e1,σ1⟩,h1,h2⟩:=dM hr;obtain⟨⟨u,σ2⟩,h3,h4⟩:=dM h2;simp only[oSJ,oPJ] at h4;obtain⟨rfl,rfl⟩:=h4;refine ihx c σ e1 σ1 a w G Q hx h1 hI fun a' w' G' hI' hd=>?_;obtain⟨G2,hI2⟩:=GT hI' hl h3;obtain⟨G3,hI3⟩:=hI2.norm (σ2.tm.map (·.1),σ2.ce.map (·.1));exact hQ a' w' G3 hI3 hd
end
inductive TRs where
 | tmp (t:Nat)
 | cell (t:Nat) (n:Option Nat)
structure TFn where
 np:Nat
 pp:List Nat
 nt:Nat
 body:jU
 res:List TRs
def Mu(np r:Nat):Bool:=r % 2==0 && decide (r < 2*np+2)
def takeR1(np:Nat) (t:TV):SP TV:=
 match t with
 | .pk p vs=>take1 (!Mu np p.root) (.pk p vs)
 | t=>take1 true t
def takeRL(np:Nat):List TV→SP (List TV)
 | []=>.ret []
 | t :: r=>(takeR1 np t).bind fun t'=>(takeRL np r).bind fun r'=>.ret (t' :: r')
def takeRV(np:Nat) (t:TV):SP (List TV×RSh):=
 match t with
 | .agg l=>(takeRL np l).bind fun l'=>.ret (l',.agg l'.length)
 | t=>(takeR1 np t).bind fun t'=>.ret ([t'],.one)
def res1(np:Nat):TRs→SP (List TV×RSh)
 | .tmp t=>.rdT t fun tv=>takeRV np tv
 | .cell t n=>.rdT t fun tv=>match tv with
  | .ptr p vs=>(chk p p.hops.length vs).bind fun _=>match n with
   | none=>(getPl p).bind fun t=>(peek1 p t).bind fun t'=>takeRV np t'
   | some n=>(peekL p n).bind fun l=>takeRV np (.agg l)
  | _=>.fail
def resL(np:Nat):List TRs→SP (List TV×List RSh)
 | []=>.ret ([],[])
 | r :: rs=>(res1 np r).bind fun x=>(resL np rs).bind fun y=>.ret (x.1++y.1,x.2 :: y.2)
def resF(np:Nat):List TRs→SP (List TV×List RSh)
 | [.tmp t]=>.rdT t fun tv=>match tv with
  | .ptr p vs=>(chk p p.hops.length vs).bind fun _=>.ret ([.ptr p vs],[.ptr])
  | _=>resL np [.tmp t]
 | qs=>resL np qs
def fD:List RSh→List Value→List Value
 | [],_=>[]
 | .one :: r,ys=>ys.headD undef :: fD r ys.tail
 | .agg n :: r,ys=>.agg (ys.take n).toArray :: fD r (ys.drop n)
 | .ptr :: r,ys=>undef :: fD r ys
def nq(sh:List RSh) (ys:List Value):Value:=
 match fD sh ys with
 | [x]=>x
 | l=>.tuple l.toArray
section
variable {P:Program} {M:Fm} {σ σ':St} {H:List TV} {xs:List Value} {ts:Array Value} {w:World} {G:Gh}
theorem AF(np:Nat) (t:TV):∃mv,takeR1 np t=take1 mv t:=by
 cases t<;>first | exact⟨true,rfl⟩ | exact⟨_,rfl⟩
theorem Gm{np:Nat}:∀{l l':List TV}{ys:List Value}{σ σ':St}{H:List TV}{xs:List Value}{G:Gh},Inv M σ H xs ts w G→l.length=ys.length→(∀j (h:j < l.length),TmR w (G.F M.A) σ.v (ee M σ H) G l[j] (ys.getD j undef)) →
 (takeRL np l).run σ=some (l',σ')→l'.length=l.length∧(∃G',lT M w ts σ H G σ' (H++l') (xs++ys) G')∧∀j (h:j < l'.length),eX l'[j]=true∨mu l'[j]=true:=by
 intro l
 induction l with
 | nil=>
  intro l' ys σ σ' H xs G hI hl _ hr;simp only[takeRL,SP.run,oSJ,oPJ] at hr;obtain⟨rfl,rfl⟩:=hr;have:ys=[]:=List.eq_nil_of_length_eq_zero (by simpa using hl.symm);subst this;exact⟨rfl,⟨G,by simpa using lT.refl hI⟩,fun j h=>by simp at h⟩
 | cons t l ih=>
  intro l' ys σ σ' H xs G hI hl ht hr
  cases ys with
  | nil=>simp at hl
  | cons y ys=>
   simp only[takeRL] at hr;obtain⟨t',σ1,h1,h2⟩:=SP.run_bind_some hr;obtain⟨r',σ2,h3,h4⟩:=SP.run_bind_some h2;simp only[SP.run,oSJ,oPJ] at h4;obtain⟨rfl,rfl⟩:=h4;obtain⟨mv,hmv⟩:=AF np t;rw[hmv] at h1;obtain⟨G1,hg1,ho⟩:=iM hI (ht 0 (by simp)) h1;obtain⟨e,⟨G2,hg2⟩,hok⟩:=ih (l':=r') (ys:=ys) hg1.1 (by simpa using hl) (fun j hj=>hg1.tm (by have:=ht (j+1) (by simpa using hj);simpa only [List.getElem_cons_succ,List.getD_cons_succ] using this)) h3;refine⟨by simp[e],⟨G2,by simpa using hg1.trans hg2⟩,fun j hj=>?_⟩
   cases j with
   | zero=>exact jY h1
   | succ j=>exact hok j (by simpa using hj)
theorem uQ{np:Nat}{t:TV}{x:Value}{r:List TV×RSh}(hI:Inv M σ H xs ts w G) (hx:TmR w (G.F M.A) σ.v (ee M σ H) G t x) (hr:(takeRV np t).run σ=some (r,σ')) :
 ∃ys G',lT M w ts σ H G σ' (H++r.1) (xs++ys) G'∧r.1.length=ys.length∧(∀j (h:j < r.1.length),eX r.1[j]=true∨mu r.1[j]=true)∧∀(rest:List RSh) (zs:List Value),fD (r.2 :: rest) (ys++zs)=x :: fD rest zs:=by
 by_cases ht:∃q,t=.agg q
 ·obtain⟨q,rfl⟩:=ht;simp only[takeRV] at hr;obtain⟨l',σ1,h1,h2⟩:=SP.run_bind_some hr;simp only[SP.run,oSJ,oPJ] at h2;obtain⟨rfl,rfl⟩:=h2;obtain⟨vs,rfl,hl,hj⟩:=F6 hx;obtain⟨e1,⟨G',hg⟩,hok⟩:=Gm (ys:=vs.toList) hI (by simp[hl]) (fun j h=>by simpa using hj j h) h1;refine⟨vs.toList,G',hg,by simp[e1,hl],hok,fun rest zs=>?_⟩
  have hn:l'.length=vs.toList.length:=by simp[e1,hl]
  simp only[fD,hn,List.take_left,List.drop_left,Array.toArray_toList]
 ·have e:takeRV np t=(takeR1 np t).bind fun t'=>.ret ([t'],.one):=by
   cases t<;>first | rfl | exact absurd ⟨_,rfl⟩ ht
  rw[e] at hr;obtain⟨t',σ1,h1,h2⟩:=SP.run_bind_some hr;simp only[SP.run,oSJ,oPJ] at h2;obtain⟨rfl,rfl⟩:=h2;obtain⟨mv,hmv⟩:=AF np t;rw[hmv] at h1;obtain⟨G',hg,ho⟩:=iM hI hx h1;refine⟨[x],G',hg,rfl,fun j hj=>?_,fun rest zs=>rfl⟩
  obtain rfl:j=0:=by simp at hj;omega
  exact jY h1
def DS(P:Program):TRs→ResultVar→Prop
 | .tmp t,r=>r=.tmp t
 | .cell t n,r=>∃ty,r=.cell t ty∧ET P ty n
theorem Ll{np:Nat}{q:TRs}{q':ResultVar}{r:List TV×RSh}(hI:Inv M σ H xs ts w G) (hq:DS P q q') (hr:(res1 np q).run σ=some (r,σ')) :
 ∃x ys G',(match q' with | .tmp t=>(pure (ts.getD t undef):Sem Value) | .cell a t=>do loadVar t (← asAddr (ts.getD a undef))).run P w=.ok x w∧lT M w ts σ H G σ' (H++r.1) (xs++ys) G'∧r.1.length=ys.length ∧
  (∀j (h:j < r.1.length),eX r.1[j]=true∨mu r.1[j]=true)∧∀(rest:List RSh) (zs:List Value),fD (r.2 :: rest) (ys++zs)=x :: fD rest zs:=by
 cases q with
 | tmp t=>
  have hq:q'=.tmp t:=hq;subst hq;simp only[res1,SP.run] at hr;obtain⟨ys,G',h1,h2,h3,h4⟩:=uQ hI (hI.tmr t) hr;exact⟨_,ys,G',rfl,h1,h2,h3,h4⟩
 | cell t n=>
  obtain⟨ty,rfl,hn⟩:=hq;simp only[res1,SP.run] at hr;have htm:=hI.tmr t
  cases hs:σ.t t with
  | ptr p vs=>
   rw[hs] at hr htm;simp only at hr;obtain⟨_,σ2,h3,h4⟩:=SP.run_bind_some hr;have e1:σ2=σ:=(dW h3).1;have e2:=(dW h3).2;subst e1;generalize hz:ts.getD t undef=z at htm
   cases htm with
   | ptr V0 h0 hv h=>
    obtain⟨hr1,ad,t0,ha,rfl,_⟩:=h e2
    cases n with
    | none=>
     obtain⟨dd,hu,hd1,hd2⟩:=hn;simp only at h4;obtain⟨t1,σ3,h5,h6⟩:=SP.run_bind_some h4;obtain⟨e3,hg⟩:=fG h5;have e3:σ3=σ2:=e3;subst e3;obtain⟨t',σ4,h7,h8⟩:=SP.run_bind_some h6;obtain⟨hB,u,fp,hcu,hown,hhv⟩:=hI.named hr1 ha hg (pR h7);obtain⟨rfl,ht'⟩:=rq hI hr1 hg hown hhv h7;obtain⟨ys,G',k1,k2,k3,k4⟩:=uQ hI ht' h8;refine⟨u,ys,G',?_,k1,k2,k3,k4⟩;show ((do loadVar ty (← asAddr (ts.getD t undef))):Sem Value).run P w=_;rw[hz];simp[asAddr,loadVar,nk hu hd1 hd2,hcu]
    | some n=>
     obtain⟨⟨dd,hu,hd1⟩,hsz⟩:=hn;simp only at h4;obtain⟨l,σ3,h5,h6⟩:=SP.run_bind_some h4;obtain⟨rfl,e3,us,e4,e5⟩:=Ek hI hr1 ha h5
     have hagg:TmR w (G.F M.A) σ3.v (ee M σ3 H) G (.agg l) (.agg us.toArray):=.agg (by simp[e3,e4]) fun j hj=>by have:=(e5 j hj (by omega)).2;simpa [show j < us.length by omega] using this
     obtain⟨ys,G',k1,k2,k3,k4⟩:=uQ hI hagg h6;refine⟨_,ys,G',?_,k1,k2,k3,k4⟩;have hsp:=kW ha
     have hcells:=run_loadCells_list (P:=P) w ad us fun j v hj=>by
      obtain⟨hlt,rfl⟩:=oGS hj;have:=(e5 j (by omega) hlt).1;obtain⟨b,o,s⟩:=ad;simp only at hsp;subst hsp;rw[fm];exact this
     have hso:(sizeOf ty).run P w=.ok n w:=by
      unfold sizeOf typeInfo
      cases hi:P.info? ty with
      | none=>simp[hi] at hsz
      | some i=>simp[hi] at hsz;simp[hi,hsz]
     rw[e4] at hcells;show ((do loadVar ty (← asAddr (ts.getD t undef))):Sem Value).run P w=_;rw[hz];simp[asAddr,loadVar,ma hu hd1,hso,hcells]
  | _=>rw[hs] at hr;simp[SP.run] at hr
theorem Li{np:Nat}:∀{qs:List TRs}{qs':List ResultVar}{r:List TV×List RSh}{σ σ':St}{H:List TV}{xs:List Value}{G:Gh},Inv M σ H xs ts w G→qs.length=qs'.length→(∀k (h:k < qs.length) (h':k < qs'.length),DS P qs[k] qs'[k])→(resL np qs).run σ=some (r,σ') →
 ∃vs ys G',(qs'.mapM fun(q:ResultVar)=>(match q with | .tmp t=>(pure (ts.getD t undef):Sem Value) | .cell a t=>do loadVar t (← asAddr (ts.getD a undef)))).run P w=.ok vs w∧lT M w ts σ H G σ' (H++r.1) (xs++ys) G'∧r.1.length=ys.length ∧
  (∀j (h:j < r.1.length),eX r.1[j]=true∨mu r.1[j]=true)∧fD r.2 ys=vs:=by
 intro qs
 induction qs with
 | nil=>
  intro qs' r σ σ' H xs G hI hl _ hr;have:qs'=[]:=List.eq_nil_of_length_eq_zero (by simpa using hl.symm);subst this;simp only[resL,SP.run,oSJ,oPJ] at hr;obtain⟨rfl,rfl⟩:=hr;exact⟨[],[],G,by simp,by simpa using lT.refl hI,rfl,fun j h=>by simp at h,rfl⟩
 | cons q qs ih=>
  intro qs' r σ σ' H xs G hI hl hok hr
  cases qs' with
  | nil=>simp at hl
  | cons q' qs'=>
   simp only[resL] at hr;obtain⟨x,σ1,h1,h2⟩:=SP.run_bind_some hr;obtain⟨y,σ2,h3,h4⟩:=SP.run_bind_some h2;simp only[SP.run,oSJ,oPJ] at h4;obtain⟨rfl,rfl⟩:=h4;obtain⟨v,ys,G1,k1,k2,k3,k4,k5⟩:=Ll hI (hok 0 (by simp) (by simp)) h1;obtain⟨vs,zs,G2,l1,l2,l3,l4,l5⟩:=ih (qs':=qs') k2.1 (by simpa using hl) (fun k h h'=>hok (k+1) (by simpa using h) (by simpa using h')) h3;refine⟨v :: vs,ys++zs,G2,?_,by simpa using k2.trans l2,by simp[k3,l3],fun j hj=>?_,?_⟩
   ·rw[List.mapM_cons,Sem.run_bind];refine (congrArg (fun r=>Result.andThen r _) k1).trans ?_;simp only[Result.andThen_ok,Sem.run_bind,l1,Sem.run_pure]
   ·by_cases hjl:j < x.1.length
    ·rw[List.getElem_append_left hjl];exact k4 j hjl
    ·rw[List.getElem_append_right (by omega)];exact l4 _ _
   ·rw[k5,l5]
end
section
variable {P:Program} {M:Fm} {σ σ':St} {H:List TV} {xs:List Value} {ts:Array Value} {w:World} {G:Gh}
theorem Inv.trunc(hI:Inv M σ H xs ts w G) {k:Nat}(hd:∀j (h:j < H.length),k≤j→H[j]=.dead):Inv M σ (H.take k) (xs.take k) ts w G∧ee M σ (H.take k)=ee M σ H:=by
 have e:ee M σ (H.take k)=ee M σ H:=by
  funext r o;unfold ee;split
  ·simp only[List.getD_eq_getElem?_getD,List.getElem?_take];split
   ·rfl
   ·rename_i ho;by_cases h:o < H.length
    ·rw[oGE h,hd o h (by omega)];rfl
    ·rw[List.getElem?_eq_none (by omega)]
  ·rfl
 refine⟨⟨by rw[e];exact hI.core,fun i=>by rw[e];exact hI.tmr i,hI.fram,hI.keys,hI.size,by simp[hI.hand],fun j hj=>?_,hI.shape⟩,e⟩
 have h2:j < k∧j < xs.length:=by simp at hj;omega
 rw[hI.hval j h2.2];simp[List.getD_eq_getElem?_getD,List.getElem?_take,h2.1]
theorem sJ(b:Nat) (vs:List Value):∀(o:Nat) (w:World) {k:Nat},k≠b→(w.setCells b o vs).heap[k]?=w.heap[k]?:=by
 induction vs with
 | nil=>intro o w k h;rfl
 | cons v r ih=>
  intro o w k h;simp only[World.setCells];rw[ih _ _ h];exact d8 w _ v h
theorem wG(b:Nat) (vs:List Value):∀(o:Nat) (w:World) {cur:Array Value}{e:TypeId}{fz:Nat×Nat},w.heap[b]?=some (.cells cur e fz) →
 ∃cur',(w.setCells b o vs).heap[b]?=some (.cells cur' e fz)∧cur'.size=cur.size∧∀j,cur'[j]?=if o≤j∧j < o+vs.length∧j < cur.size then vs[j - o]? else cur[j]?:=by
 induction vs with
 | nil=>intro o w cur e fz h;exact⟨cur,h,rfl,fun j=>by rw[if_neg (by simp;omega)]⟩
 | cons v r ih=>
  intro o w cur e fz h;simp only[World.setCells];obtain⟨cur',h1,h2,h3⟩:=ih (o+1) _ (jH w b o v h);refine⟨cur',h1,by rw[h2];simp,fun j=>?_⟩;rw[h3];simp only[Array.size_setIfInBounds,List.length_cons];by_cases hj:j=o
  ·subst hj;rw[if_neg (by omega)];by_cases hs:j < cur.size
   ·rw[if_pos (by omega)];simp[hs]
   ·rw[if_neg (by omega)];simp[hs]
  ·by_cases hc:o+1≤j∧j < o+1+r.length∧j < cur.size
   ·rw[if_pos hc,if_pos (by omega)];rw[show j - o=(j - (o+1))+1 by omega];simp
   ·rw[if_neg hc,if_neg (by omega)];rw[Array.getElem?_setIfInBounds,if_neg (Ne.symm hj)]
theorem yy(b:Nat) (vs:List Value):∀(o:Nat) (w:World),w.setCells b o vs={ w with heap:=(w.setCells b o vs).heap }:=by
 induction vs with
 | nil=>intro o w;rfl
 | cons v r ih=>
  intro o w;simp only[World.setCells]
  have h:w.setCell ⟨b,o,none⟩ v={ w with heap:=(w.setCell ⟨b,o,none⟩ v).heap }:=by
   unfold World.setCell
   split<;>first | rfl | (split<;>rfl)
  rw[ih];rw[h]
def ge(w W:World) (b:Nat):World:=match w.heap[b]? with | some x=>{ W with heap:=W.heap.setIfInBounds b x } | none=>W
theorem pQ{w W:World}{b k:Nat}(h:k≠b):(ge w W b).heap[k]?=W.heap[k]?:=by
 unfold ge;split
 ·simp[Array.getElem?_setIfInBounds,Ne.symm h]
 ·rfl
theorem sL{w W:World}{b:Nat}(h:b < W.heap.size) (h2:b < w.heap.size):(ge w W b).heap[b]?=w.heap[b]?:=by
 unfold ge;rw[Array.getElem?_eq_getElem h2];simp[h]
theorem mP{w W:World}{b:Nat}:(ge w W b).heap.size=W.heap.size:=by
 unfold ge;split<;>simp
theorem tn{w W:World}{b:Nat}:(ge w W b).os=W.os∧(ge w W b).tape=W.tape∧(ge w W b).output=W.output∧(ge w W b).drawn=W.drawn:=by
 unfold ge;split<;>exact⟨rfl,rfl,rfl,rfl⟩
theorem um{w W:World}{b o:Nat}{vs:List Value}{cur0 cur:Array Value}{e:TypeId}{fz:Nat×Nat}(h0:w.heap[b]?=some (.cells cur0 e fz)) (h1:W.heap[b]?=some (.cells cur e fz)) (hs:cur.size=cur0.size)
 (hout:∀j,(j < o∨o+vs.length≤j)→cur[j]?=cur0[j]?) (hin:∀j (h:j < vs.length),cur[o+j]?=some vs[j]):(ge w W b).setCells b o vs=W:=by
 have hbW:b < W.heap.size:=(Array.getElem?_eq_some_iff.1 h1).1;have hbw:b < w.heap.size:=(Array.getElem?_eq_some_iff.1 h0).1;rw[yy];obtain⟨r1,r2,r3,r4⟩:=tn (w:=w) (W:=W) (b:=b)
 have hheap:((ge w W b).setCells b o vs).heap=W.heap:=by
  apply Array.ext_getElem?;intro k;by_cases hk:k=b
  ·subst hk;obtain⟨cur',e1,e2,e3⟩:=wG k vs o (ge w W k) ((sL hbW hbw).trans h0);rw[e1,h1];congr 2;apply Array.ext_getElem?;intro j;rw[e3];split
   ·rename_i hj;have:=hin (j - o) (by omega);rw[show o+(j - o)=j by omega] at this;rw[this,oGE (by omega)]
   ·rename_i hj;by_cases hjs:j < cur0.size
    ·exact (hout j (by omega)).symm
    ·rw[Array.getElem?_eq_none (by omega),Array.getElem?_eq_none (by omega)]
  ·rw[sJ b vs o _ hk,pQ hk]
 rw[hheap];cases W;cases hR:ge w _ b;rw[hR] at r1 r2 r3 r4
 simp_all
end
structure Gd (H:List TV) (xs:List Value) (w:World) (G:Gh) (A:Nat→Prop) (pr:Nat→Option (Nat×Nat×Nat)) (bs:Nat→Nat) (ce:List (Nat×List TV)) (ow:Nat→Option Nat):Prop where
 even:∀r b o n,pr r=some (b,o,n)→r % 2=0∧0 < n
 cells:∀r b o n,pr r=some (b,o,n)→∃l,ef ce r=some l∧l.length=n∧∀j (h:j < l.length),∃h':bs r+j < H.length,l[j]=H[bs r+j]∧l[j]≠.dead
 only:∀r l,ef ce r=some l→pr r≠none∨ow r≠none
 owc:∀r j,ow r=some j→r % 2=1∧r≠1∧∃(c:List (List TV)) (h:j < H.length),ef ce r=some [.ow c]∧H[j]=.ow c
 owa:∀r j r' b o n,ow r=some j→pr r'=some (b,o,n)→∀j',j' < n→bs r'+j'≠j
 owi:∀r r' j,ow r=some j→ow r'=some j→r=r'
 apart:∀r b o n r' b' o' n',pr r=some (b,o,n)→pr r'=some (b',o',n')→∀j j',j < n→j' < n'→bs r+j=bs r'+j'→r=r'
 inj:∀r b o n r' o' n',pr r=some (b,o,n)→pr r'=some (b,o',n')→r=r'
 notF:∀r b o n,pr r=some (b,o,n)→¬ G.F A b
 notH:∀r b o n,pr r=some (b,o,n)→∀j,¬ G.φ 1 j b
 here:∀r b o n,pr r=some (b,o,n)→∀j,j < n→w.cell? ⟨b,o+j,none⟩=some (xs.getD (bs r+j) undef)∧w.frozen? ⟨b,o+j,none⟩=false
def Fm.into(M:Fm) (w:World) (G:Gh) (pr:Nat→Option (Nat×Nat×Nat)) (N:Nat):Fm where
 w0:=w
 A:=fun k=>G.F M.A k∨(∃j,G.φ 1 j k)∨w.heap.size≤k
 W0:=fun k=>∃j,G.φ 1 j k
 pr:=pr
 N:=N
 hA:=fun k h=>.inr (.inr h)
def Gh.into(G:Gh) (pr:Nat→Option (Nat×Nat×Nat)) (bs:Nat→Nat) (ow:Nat→Option Nat) (xs:List Value):Gh:=
 ⟨pr,fun r _=>match ow r with | some j=>xs.getD j undef | none=>undef,fun r o k=>(∃b o0 n,pr r=some (b,o0,n)∧o < n∧G.φ 1 (bs r+o) k)∨∃j,ow r=some j∧o=0∧G.φ 1 j k⟩
theorem Gh.into_hand{G:Gh}{pr:Nat→Option (Nat×Nat×Nat)}{bs:Nat→Nat}{ow:Nat→Option Nat}{xs:List Value}{r o k:Nat}(h:(G.into pr bs ow xs).φ r o k):∃j,G.φ 1 j k:=by
 rcases h with ⟨_,_,_,_,_,h⟩ | ⟨_,_,_,h⟩<;>exact⟨_,h⟩
section
variable {P:Program} {M:Fm} {σ σ':St} {H:List TV} {xs:List Value} {ts:Array Value} {w:World} {G:Gh}
variable {pr:Nat→Option (Nat×Nat×Nat)} {bs:Nat→Nat} {ce:List (Nat×List TV)} {ow:Nat→Option Nat}
theorem Gd.F(hh:Gd H xs w G M.A pr bs ce ow) {N k:Nat}(h:G.F M.A k):(G.into pr bs ow xs).F (M.into w G pr N).A k:=
 ⟨.inl h,fun r o hφ=>by obtain⟨j,h3⟩:=Gh.into_hand hφ;exact h.2.1 _ _ h3,fun r b o n hb e=>hh.notF r b o n hb (e ▸ h)⟩
theorem pZ{w:World}{b o:Nat}{v:Value}(h:w.cell? ⟨b,o,none⟩=some v):∃cur e fz,w.heap[b]?=some (.cells cur e fz)∧o < cur.size∧cur[o]?=some v:=by
 unfold World.cell? at h;simp only at h;split at h
 ·rename_i cur e fz hb;simp at h;refine⟨cur,e,fz,hb,?_,h⟩;exact (Array.getElem?_eq_some_iff.1 h).1
 ·simp at h
theorem Inv.enter(hI:Inv M σ H xs ts w G) (hh:Gd H xs w G M.A pr bs ce ow) {tm:List (Nat×TV)}{ts':Array Value}{N:Nat}(hN:ts'.size=N)
 (ht:∀i,TmR w ((G.into pr bs ow xs).F (M.into w G pr N).A) (fun _=>0) (ee (M.into w G pr N) ⟨tm,ce,[]⟩ []) (G.into pr bs ow xs) ((ef tm i).getD .dead) (ts'.getD i undef)) :
 Inv (M.into w G pr N) ⟨tm,ce,[]⟩ [] [] ts' w (G.into pr bs ow xs):=by
 have hev:∀r b o n,pr r=some (b,o,n)→r≠1:=fun r b o n h e=>by have:=(hh.even r b o n h).1;omega
 have hno:∀r b o n,pr r=some (b,o,n)→ow r=none:=fun r b o n h=>by
  cases e:ow r with
  | none=>rfl
  | some j=>have:=(hh.even r b o n h).1;have:=(hh.owc r j e).1;omega
 have hne:∀r l,ef ce r=some l→r≠1:=by
  intro r l h;rcases hh.only r l h with h1 | h1
  ·cases hp:pr r with
   | none=>exact absurd hp h1
   | some x=>exact hev r _ _ _ hp
  ·cases hp:ow r with
   | none=>exact absurd hp h1
   | some j=>exact (hh.owc r j hp).2.1
 have hcell:∀r o,ee (M.into w G pr N) ⟨tm,ce,[]⟩ [] r o=match ef ce r with | some l=>l.getD o .dead | none=>.dead:=by
  intro r o;unfold ee;split
  ·rename_i e
   cases hc:ef ce r with
   | none=>simp
   | some l=>exact absurd e (hne r l hc)
  ·rfl
 refine⟨⟨fun r o=>?_,fun r b o0 n hb=>?_,fun r b o0 n hb o ho=>?_,fun r r' b o n o' n' h1 h2=>hh.inj r b o n r' o' n' h1 h2,fun r b o n hb r' o' hφ=>by obtain⟨j,h3⟩:=Gh.into_hand hφ;exact hh.notH r b o n hb _ h3,fun r1 o1 r2 o2 k hk1 hk2=>?_,fun r o k hφ=>.inr (.inl (Gh.into_hand hφ))⟩,ht,?_,fun r l h=>hne r l h,hN,rfl,fun j hj=>by simp at hj,fun r b o n hb l hl=>?_⟩
 ·rw[hcell]
  cases hc:ef ce r with
  | none=>
   left;refine⟨rfl,fun k hk=>?_⟩;rcases hk with ⟨b1,p1,n1,h1,h2,h3⟩ | ⟨j,h1,_⟩
   ·obtain⟨l,h4,_⟩:=hh.cells r _ _ _ h1;rw[hc] at h4;simp at h4
   ·obtain⟨_,_,c,_,h4,_⟩:=hh.owc r j h1;rw[hc] at h4;simp at h4
  | some l=>
   cases hp:pr r with
   | none=>
    obtain⟨j,hj⟩:∃j,ow r=some j:=by
     rcases hh.only r l hc with h1 | h1
     ·exact absurd hp h1
     ·cases e:ow r with
      | none=>exact absurd e h1
      | some j=>exact⟨j,rfl⟩
    obtain⟨_,_,c,hjl,h4,h5⟩:=hh.owc r j hj;rw[hc] at h4
    injection h4 with h4
    subst h4
    cases o with
    | zero=>
     right;have hown:=hI.hand_own hjl (by rw[h5];simp)
     have hval:(G.into pr bs ow xs).val w r 0=xs.getD j undef:=by
      unfold Gh.val Gh.into;simp only[hp,hj]
     rw[hval];simp only[List.getD_cons_zero];rw[h5] at hown;refine (hown.frame (fun _ _=>rfl) (fun _ _ _=>rfl) fun k hk _=>hh.F hk).refp fun k=>?_;constructor
     ·intro hk;exact .inr ⟨j,hj,rfl,hk⟩
     ·rintro (⟨b1,p1,n1,h1,_,_⟩ | ⟨j',h1,_,hk⟩)
      ·rw[hp] at h1;simp at h1
      ·rw[hj] at h1;injection h1 with h1;rw[h1];exact hk
    | succ o=>
     left;refine⟨by simp,fun k hk=>?_⟩;rcases hk with ⟨b1,p1,n1,h1,_,_⟩ | ⟨j',_,h1,_⟩
     ·rw[hp] at h1;simp at h1
     ·omega
   | some x=>
    obtain⟨b,o0,n⟩:=x;obtain⟨l',h4,h5,h6⟩:=hh.cells r _ _ _ hp;rw[hc] at h4
    injection h4 with h4
    subst h4;by_cases ho:o < l.length
    ·right;obtain⟨h7,h8,h9⟩:=h6 o ho;have hown:=hI.hand_own h7 (by rw[← h8];exact h9)
     have hval:(G.into pr bs ow xs).val w r o=xs.getD (bs r+o) undef:=by
      unfold Gh.val Gh.into;simp only[hp];rw[(hh.here r _ _ _ hp o (by omega)).1];rfl
     rw[hval]
     have e:l.getD o .dead=l[o]:=by simp[ho]
     simp only[e];rw[h8];refine (hown.frame (fun _ _=>rfl) (fun _ _ _=>rfl) fun k hk _=>hh.F hk).refp fun k=>?_;constructor
     ·intro hk;exact .inl ⟨b,o0,n,hp,by omega,hk⟩
     ·rintro (⟨_,_,_,_,_,hk⟩ | ⟨j',h1,_,_⟩)
      ·exact hk
      ·rw[hno r _ _ _ hp] at h1;simp at h1
    ·left;refine⟨by simp only[];rw[List.getD_eq_getElem?_getD,List.getElem?_eq_none (by omega)];rfl,fun k hk=>?_⟩;rcases hk with ⟨b1,p1,n1,h1,h2,h3⟩ | ⟨j',h1,_,_⟩
     ·rw[hp] at h1
      injection h1 with h1
      injection h1 with _ h1
      injection h1 with _ h1
      omega
     ·rw[hno r _ _ _ hp] at h1;simp at h1
 ·have hn:=(hh.even r _ _ _ hb).2;have hb':pr r=some (b,o0,n):=hb;obtain⟨cur,e,fz,h1,h2,h3⟩:=pZ (hh.here r _ _ _ hb' (n - 1) (by omega)).1;exact⟨cur,e,fz,h1,by omega,fun j hj=>(hh.here r _ _ _ hb' j hj).2⟩
 ·have hb':pr r=some (b,o0,n):=hb;rw[hcell];obtain⟨l,h1,h2,_⟩:=hh.cells r _ _ _ hb';rw[h1];show l.getD o .dead=.dead;rw[List.getD_eq_getElem?_getD,List.getElem?_eq_none (by omega)];rfl
 ·rcases hk1 with ⟨b1,p1,n1,h1,h2,h3⟩ | ⟨j1,h1,h2,h3⟩<;>rcases hk2 with ⟨b2,p2,n2,k1,k2,k3⟩ | ⟨j2,k1,k2,k3⟩
  ·obtain⟨_,h5⟩:=hI.core.dis _ _ _ _ k h3 k3;have:=hh.apart _ _ _ _ _ _ _ _ h1 k1 _ _ h2 k2 h5;subst this;exact⟨rfl,by omega⟩
  ·obtain⟨_,h5⟩:=hI.core.dis _ _ _ _ k h3 k3;exact absurd h5 (hh.owa _ _ _ _ _ _ k1 h1 _ h2)
  ·obtain⟨_,h5⟩:=hI.core.dis _ _ _ _ k h3 k3;exact absurd h5.symm (hh.owa _ _ _ _ _ _ h1 k1 _ k2)
  ·obtain⟨_,h5⟩:=hI.core.dis _ _ _ _ k h3 k3;subst h5;exact⟨hh.owi _ _ _ h1 k1,by omega⟩
 ·refine⟨rfl,rfl,rfl,Nat.le_refl _,fun _ _ _ _=>rfl,fun r b o n hp=>⟨hp,?_⟩,fun r o k hφ=>.inl (Gh.into_hand hφ),fun r b o n hb=>.inl hb,fun r hb=>?_⟩
  ·have hn:=(hh.even r _ _ _ hp).2;obtain⟨cur,e,fz,h1,h2,h3⟩:=pZ (hh.here r _ _ _ hp (n - 1) (by omega)).1;exact⟨cur,cur,e,fz,h1,h1,rfl,fun _ _=>rfl⟩
  ·cases hp:pr r with
   | none=>exact absurd hp hb
   | some x=>exact (hh.even r _ _ _ hp).1
 ·obtain⟨l',h1,h2,_⟩:=hh.cells r _ _ _ hb;have hl':ef ce r=some l:=hl;rw[hl'] at h1
  injection h1 with h1
  rw[h1];exact h2
end
structure KB (H2:List TV) (ys:List Value) (H':List TV) (xs':List Value) (C2:Cs) (G2:Gh) (w2:World) (pr:Nat→Option (Nat×Nat×Nat)) (bs:Nat→Nat):Prop where
 len:H'.length=xs'.length
 low:∀j (h:j < H2.length),∃h':j < H'.length,H'[j]=H2[j]∧xs'.getD j undef=ys.getD j undef
 cells:∀r b o n,pr r=some (b,o,n)→∀t,t < n→∃h:bs r+t < H'.length,H2.length≤bs r+t∧H'[bs r+t]=C2 r t∧xs'.getD (bs r+t) undef=G2.val w2 r t
 cover:∀j,j < H'.length→j < H2.length∨∃r b o n t,pr r=some (b,o,n)∧t < n∧j=bs r+t
 apart:∀r b o n r' b' o' n',pr r=some (b,o,n)→pr r'=some (b',o',n')→∀j j',j < n→j' < n'→bs r+j=bs r'+j'→r=r'
section
variable {P:Program} {M:Fm} {σ σ2:St} {H H2 H':List TV} {xs ys xs':List Value} {ts ts2:Array Value} {w w2 w':World} {G G2:Gh}
variable {pr:Nat→Option (Nat×Nat×Nat)} {bs bs2:Nat→Nat} {ce:List (Nat×List TV)} {N:Nat} {ow:Nat→Option Nat}
theorem Inv.leave(hI:Inv M σ H xs ts w G) (hh:Gd H xs w G M.A pr bs ce ow) (h2:Inv (M.into w G pr N) σ2 H2 ys ts2 w2 G2) (hb2:KB H2 ys H' xs' (ee (M.into w G pr N) σ2 H2) G2 w2 pr bs2)
 (hs:w'.heap.size=w2.heap.size) (ho:w'.os=w2.os) (htp:w'.tape=w2.tape) (hu:w'.output=w2.output) (hsame:∀k,(∀r b o n,pr r=some (b,o,n)→k≠b)→w'.heap[k]?=w2.heap[k]?)
 (hback:∀r b o n,pr r=some (b,o,n)→w'.heap[b]?=w.heap[b]?):∃G',Inv M σ H' xs' ts w' G'∧ke M w σ H G w' σ H' G'∧G'.β=G.β:=by
 have hFr:=h2.fram
 let f:Nat→Nat→Prop:=fun j k=>(j < H2.length∧G2.φ 1 j k)∨∃r b o n t,pr r=some (b,o,n)∧t < n∧j=bs2 r+t∧G2.φ r t k
 have hfφ:∀j k,f j k→∃r o,G2.φ r o k:=by
  rintro j k (⟨_,h⟩ | ⟨r,b,o,n,t,_,_,_,h⟩)
  ·exact⟨_,_,h⟩
  ·exact⟨_,_,h⟩
 have hβ2:∀r b o n,pr r=some (b,o,n)→G2.β r=some (b,o,n):=fun r b o n h=>(hFr.par r b o n h).1
 have hr1:∀r b o n,pr r=some (b,o,n)→r≠1:=fun r b o n h e=>by have:=(hh.even r b o n h).1;omega
 have hφw:∀r o k,G2.φ r o k→w'.heap[k]?=w2.heap[k]?:=fun r o k h=>hsame k fun r' b o' n hp e=>h2.core.boxf r' b o' n (hβ2 _ _ _ _ hp) _ _ (e ▸ h);have hFw:∀k,G2.F (M.into w G pr N).A k→w'.heap[k]?=w2.heap[k]?:=fun k h=>hsame k fun r' b o' n hp e=>h.2.2 r' b o' n (hβ2 _ _ _ _ hp) e
 obtain⟨G',a1,a2,a3,_⟩:=hI.rehandL (w':=w') (H':=H') (xs':=xs') (f:=f) (Fx:=G2.F (M.into w G pr N).A)
  (fun k hk hn=>by
   by_cases hp:∃r b o n,pr r=some (b,o,n)∧k=b
   ·obtain⟨r,b,o,n,hp,rfl⟩:=hp;exact hback r k o n hp
   ·have hp':∀r b o n,pr r=some (b,o,n)→k≠b:=fun r b o n h e=>hp ⟨r,b,o,n,h,e⟩;rw[hsame k hp']
    exact hFr.old k hk (fun⟨j,hj⟩=>hn j hj) hp')
  (by rw[hs];exact hFr.size) (ho.trans hFr.os) (htp.trans hFr.tape) (hu.trans hFr.output) hb2.len
  (fun j k h=>by
   refine⟨?_,?_⟩
   ·rcases h with ⟨h,_⟩ | ⟨r,b,o,n,t,hp,ht,rfl,_⟩
    ·exact (hb2.low j h).1
    ·exact (hb2.cells r b o n hp t ht).1
   ·obtain⟨r,o,hφ⟩:=hfφ j k h
    exact hFr.own r o k hφ)
  (fun j j' k h h'=>by
   rcases h with ⟨h1,h3⟩ | ⟨r,b,o,n,t,hp,ht,rfl,h3⟩
   ·rcases h' with ⟨k1,k3⟩ | ⟨r',b',o',n',t',hp',ht',rfl,k3⟩
    ·exact (h2.core.dis _ _ _ _ k h3 k3).2
    ·exact absurd (h2.core.dis _ _ _ _ k h3 k3).1.symm (hr1 _ _ _ _ hp')
   ·rcases h' with ⟨k1,k3⟩ | ⟨r',b',o',n',t',hp',ht',rfl,k3⟩
    ·exact absurd (h2.core.dis _ _ _ _ k h3 k3).1 (hr1 _ _ _ _ hp)
    ·obtain⟨e1,e2⟩:=h2.core.dis _ _ _ _ k h3 k3
     rw[e1,e2])
  (fun k h=>⟨h.1,fun j hf=>by obtain⟨r,o,hφ⟩:=hfφ j k hf;exact h.2.1 r o hφ⟩)
  (fun j hj=>by
   rcases hb2.cover j hj with h | ⟨r,b,o,n,t,hp,ht,rfl⟩
   ·obtain⟨_,e1,e2⟩:=hb2.low j h
    have hno:∀k,f j k↔G2.φ 1 j k:=fun k=>by
     constructor
     ·rintro (⟨_,h⟩ | ⟨r,b,o,n,t,hp,ht,e,_⟩)
      ·exact h
      ·have:=(hb2.cells r b o n hp t ht).2.1;omega
     ·exact fun hk=>.inl ⟨h,hk⟩
    by_cases hd:H2[j]=.dead
    ·left;refine⟨e1.trans hd,fun k hk=>?_⟩;refine h2.phi_dead (r:=1) (o:=j) ?_ k ((hno k).1 hk);rw[show (1:Nat)=(M.into w G pr N).hr from rfl,ml];simp[h,hd]
    ·right;have:=h2.hand_own h hd;rw[e1,e2];exact (this.frame (fun k hk=>hφw _ _ k hk) (fun k hk _=>hFw k hk) fun k hk _=>hk).refp fun k=>(hno k).symm
   ·obtain⟨h1,h3,h4,h5⟩:=hb2.cells r b o n hp t ht
    have hno:∀k,f (bs2 r+t) k↔G2.φ r t k:=fun k=>by
     constructor
     ·rintro (⟨h,_⟩ | ⟨r',b',o',n',t',hp',ht',e,hk⟩)
      ·omega
      ·have:=hb2.apart _ _ _ _ _ _ _ _ hp hp' _ _ ht ht' e;subst this
       have:t=t':=by omega
       subst this;exact hk
     ·exact fun hk=>.inr ⟨r,b,o,n,t,hp,ht,rfl,hk⟩
    rw[h4,h5];rcases h2.core.cell r t with ⟨c1,c2⟩ | c1
    ·left;exact⟨c1,fun k hk=>c2 k ((hno k).1 hk)⟩
    ·right
     exact (c1.frame (fun k hk=>hφw _ _ k hk) (fun k hk _=>hFw k hk) fun k hk _=>hk).refp fun k=>(hno k).symm)
 exact⟨G',a1,a2,a3⟩
end
def p9:TV→Bool
 | .v _=>true
 | .sl _=>true
 | .ip _=>true
 | .ow []=>true
 | .fn _ []=>true
 | .agg l=>l.all fun t=>match t with | .v _=>true | .sl _=>true | _=>false
 | _=>false
def MV:TV→Bool
 | .pk _ _=>true
 | .ow []=>true
 | _=>false
def argV(x:Option Nat×Opd):SP TV:=(opd x.2).bind fun t=>if x.1==some 0 && MV t then .ret t else match t with
 | .ip cs=>.ret (.ip cs)
 | .fn f cap=>.ret (.fn f cap)
 | .ptr p vs=>.ret (.ptr p vs)
 | t=>(takeV false t).bind fun l=>.ret (oA l.2 (l.1.map TV.imm))
def argVs:List (Option Nat×Opd)→SP (List TV)
 | []=>.ret []
 | x :: r=>(argV x).bind fun t=>(argVs r).bind fun l=>.ret (t :: l)
def takeOwns:Nat→List (Option Nat×TV)→SP (List (Nat×TV))
 | _,[]=>.ret []
 | i,(some 0,.pk p vs) :: r=>(take1 true (.pk p vs)).bind fun t=>if mu t then (takeOwns (i+1) r).bind fun q=>.ret ((i,t) :: q) else .fail
 | i,_ :: r=>takeOwns (i+1) r
structure GP where
 i:Nat
 p:dR
 vs:List Nat
 cells:List TV
def xx(p:dR):Nat→SP (List TV)
 | 0=>.ret []
 | n+1=>(getPl p).bind fun t=>(peek1 p t).bind fun t'=>(take1 true t').bind fun t2=>match n with
  | 0=>.ret [t2]
  | _=>if p.fits 1 then (xx (p.add 1) n).bind fun r=>.ret (t2 :: r) else .fail
def dR.base(p:dR):dR:=⟨p.root,p.off,[]⟩
def LL(p:dR) (n:Nat):Nat:=match p.hops with
 | []=>n
 | _ :: _=>1
def rooted(p:dR):SP Unit:=match p.hops with
 | []=>.ret ()
 | _ :: _=>.rdT ((p.root - 2) / 2) fun t=>match t with
  | .ptr q ws=>if q.root==p.root && q.hops.isEmpty then chk q 0 ws else .fail
  | _=>.fail
def grabs:Nat→List (Option Nat×TV)→SP (List GP)
 | _,[]=>.ret []
 | i,(some n,.ptr p vs) :: r=>(chk p p.hops.length vs).bind fun _=>(rooted p).bind fun _=>(xx p.base (LL p n)).bind fun l=>(grabs (i+1) r).bind fun q=>.ret (⟨i,p.base,vs.take 1,l⟩ :: q)
 | i,(some 0,.pk _ _) :: r=>grabs (i+1) r
 | i,(_,t) :: r=>if p9 t then grabs (i+1) r else .fail
def touch(p:dR):SP Unit:=.rdC p.root p.off fun tv=>.wrC p.root p.off tv (.ret ())
def rechk:List GP→SP Unit
 | []=>.ret ()
 | g :: r=>(chk g.p g.p.hops.length g.vs).bind fun _=>(touch g.p).bind fun _=>rechk r
def mR:List Nat→Bool
 | []=>true
 | x :: r=>!r.contains x && mR r
def argT(i:Nat):TV→TV
 | .ptr p _=>.ptr ⟨2*i+2,0,p.hops⟩ (List.replicate (p.hops.length+1) 0)
 | .pk _ _=>.pk ⟨2*i+3,0,[]⟩ [0,0]
 | t=>t
def argTs:Nat→List TV→List TV
 | _,[]=>[]
 | i,t :: r=>argT i t :: argTs (i+1) r
def fR{α:Type}:Nat→List α→List (Nat×α)
 | _,[]=>[]
 | i,t :: r=>(i,t) :: fR (i+1) r
def mkSt(vals:List TV) (pts:Pts):St:=⟨fR 0 vals,pts,[]⟩
def Er:TV→Bool
 | .dead=>true
 | _=>false
def putBack:List (GP×List TV)→SP Unit
 | []=>.ret ()
 | (g,l) :: r=>(putBack r).bind fun _=>if l.length=g.cells.length && l.all fun t=>!Er t then putL g.p l else .fail
def iv:List RSh→List TV→List TV
 | [],_=>[]
 | .one :: r,l=>l.headD .dead :: iv r l.tail
 | .agg n :: r,l=>.agg (l.take n) :: iv r (l.drop n)
 | .ptr :: r,l=>.dead :: iv r l
def ro(sh:List RSh) (l:List TV):TV:=
 match iv sh l with
 | [x]=>x
 | l=>.tup l
def oV:List RSh→Nat→Bool
 | [],n=>n==0
 | .one :: r,n=>decide (0 < n) && oV r (n - 1)
 | .agg m :: r,n=>decide (m≤n) && oV r (n - m)
 | .ptr :: _,_=>false
def landR(dst:Option Nat) (res:Gb):SP Unit:=
 match dst with
 | some d=>(names d res.cells).bind fun l=>wr d (ro res.sh l)
 | none=>.ret ()
def isP(r:Gb):Bool:=match r.sh,r.cells with
 | [.ptr],[.ptr _ _]=>true
 | _,_=>false
def landP(dst:Option Nat) (q:List GP) (cells:List TV):SP Unit:=
 match dst with
 | none=>.ret ()
 | some d=>match cells,q with
  | [.ptr pl _],[g]=>if pl.root==2*g.i+2 && g.p.hops.isEmpty then (rdVs (o4 g.p.root (g.p.off+pl.off) pl.hops.length)).bind fun vs=>wr d (.ptr ⟨g.p.root,g.p.off+pl.off,pl.hops⟩ vs) else .fail
  | _,_=>.fail
def callV(F:fq) (dst:Option Nat) (f:FuncId) (ns:List (Option Nat)) (vals:List TV):SP Unit:=
 (takeOwns 0 (ns.zip vals)).bind fun ow=>(grabs 0 (ns.zip vals)).bind fun q=>(rechk q).bind fun _=>
  if mR (q.map (·.p.root)) && q.all (fun g=>decide (0 < g.cells.length)) then
   (jh (F f (argTs 0 vals) (q.map (fun g=>(2*g.i+2,g.cells))++ow.map fun x=>(2*x.1+3,[x.2])))).bind fun r=>
    if r.2.map (·.1)=q.map (fun g=>2*g.i+2)++ow.map (fun x=>2*x.1+3) && (isP r.1 || oV r.1.sh r.1.cells.length) then (putBack (q.zip (r.2.map (·.2)))).bind fun _=>if isP r.1 then landP dst q r.1.cells else landR dst r.1 else .fail
  else .fail
inductive BxC where
 | arg (i:Nat)
 | val (x:Value)
structure Env where
 box:FuncId→Option (Nat×List BxC)
 ps:FuncId→List (Option Nat)
def bxT(vals:List TV):BxC→TV
 | .arg i=>vals.getD i .dead
 | .val x=>.v x
def bxV(as:List Value):BxC→Value
 | .arg i=>as.getD i undef
 | .val x=>x
def evBox(dst:Option Nat) (tm:List BxC) (vals:List TV):SP Unit:=
 match dst with
 | some d=>(takeL false (tm.map (bxT vals))).bind fun l=>.new (2*d+2) l (.rdV (2*d+2,0,0) fun g=>wr d (.ptr ⟨2*d+2,0,[]⟩ [g]))
 | none=>.fail
def Il(E:Env) (f:FuncId) (n m:Nat):List (Option Nat):=(List.range m).map fun k=>(E.ps f).getD (n+k) none
def see1:TV→SP TV
 | .v x=>.ret (.v x)
 | .sl c=>.ret (.sl c)
 | .ow []=>.ret (.sl [])
 | .pk p vs=>(chk p (p.hops.length+1) vs).bind fun _=>.rdC p.root p.off fun tv=>match d7 tv p.hops with | some (.ow c)=>.ret (TV.ow c).imm | _=>.fail
 | _=>.fail
def seeL:List TV→SP (List TV)
 | []=>.ret []
 | t :: r=>(see1 t).bind fun t'=>(seeL r).bind fun l=>.ret (t' :: l)
def seeA:TV→SP TV
 | .agg l=>(seeL l).bind fun l'=>.ret (.agg l')
 | .ip cs=>.ret (.ip cs)
 | .fn f cap=>match cap with | []=>.ret (.fn f []) | _ :: _=>.fail
 | t=>see1 t
def seeAs:List Opd→SP (List TV)
 | []=>.ret []
 | x :: r=>(opd x).bind fun t=>(seeA t).bind fun t'=>(seeAs r).bind fun l=>.ret (t' :: l)
def JG:TV→Bool
 | .v x=>gU x
 | _=>false
def callB(F:fq) (dst:Option Nat) (f:FuncId) (vals:List TV):SP Unit:=
 (jh (F f vals [])).bind fun r=>if r.2.length=0 && r.1.cells.all JG && oV r.1.sh r.1.cells.length then (match dst with | some d=>wr d (ro r.1.sh r.1.cells) | none=>.ret ()) else .fail
def evCall(E:Env) (F:fq) (dst:Option Nat):TOp→SP Unit
 | .call k (.f f) args=>
  if k then (argVs args).bind fun vals=>match E.box f with
   | some x=>if vals.length=x.1 then evBox dst x.2 vals else .fail
   | none=>callV F dst f (args.map (·.1)) vals
  else (seeAs (args.map (·.2))).bind fun vals=>callB F dst f vals
 | .call _ (.t i) args=>.rdT i fun t=>match t with
  | .fn f caps=>(argVs args).bind fun vals=>callV F dst f (args.map (·.1)++Il E f args.length caps.length) (vals++caps)
  | _=>.fail
 | _=>.fail
section
variable {P:Program} {M:Fm} {σ σ':St} {H:List TV} {xs:List Value} {ts:Array Value} {w:World} {G:Gh} {a:Act} {o:Oper}
theorem LP(hI:Inv M σ [] [] a.tmps w G) {x:Option Nat×Opd}{x':Operand}(hx:dJ x'=some x.2) {t:TV}(hr:(argV x).run σ=some (t,σ')) :
 ∃G',lT M w a.tmps σ [] G σ' [] [] G'∧TmR w (G'.F M.A) σ'.v (ee M σ' []) G' t (a.eval x'):=by
 unfold argV at hr;obtain⟨t0,σ1,h1,h2⟩:=SP.run_bind_some hr;obtain⟨rfl,ht⟩:=eM hI.tmr hx h1
 have gen:∀(l:List TV×Bool) (σ2:St),(takeV false t0).run σ1=some (l,σ2)→t=oA l.2 (l.1.map TV.imm)→σ'=σ2→∃G',lT M w a.tmps σ1 [] G σ' [] [] G'∧TmR w (G'.F M.A) σ'.v (ee M σ' []) G' t (a.eval x'):=by
  rintro l σ2 h3 rfl rfl;obtain⟨xs,G1,hg,hsh,hok,hone⟩:=D1 hI ht h3;obtain⟨G2,hg2,himm⟩:=hg.1.dropImm (wg hok);refine⟨G2,hg.trans hg2,?_⟩;have hlen:=hg.1.hand;rcases hsh with ⟨e1,e2⟩ | ⟨e1,y,e2,e3⟩
  ·rw[e1,e2];simp only[oA,if_true];refine .agg (by simp[hlen]) fun j hj=>?_
   have hj':j < l.1.length:=by simpa using hj
   have:=himm j hj';simp only[List.getElem_map]
   have e:xs.toArray.getD j undef=xs.getD j undef:=by simp[Array.getD_eq_getD_getElem?,List.getD_eq_getElem?_getD]
   rw[e];exact this.toTm
  ·rw[e1,e3];subst e2
   have hl1:l.1.length=1:=by simpa using hlen
   obtain⟨t1,ht1⟩:∃t1,l.1=[t1]:=List.length_eq_one_iff.1 hl1;have:=himm 0 (by omega);simp only[ht1,List.getElem_cons_zero,List.getD_cons_zero] at this;simp only[ht1,oA,List.map_cons,List.map_nil,List.headD_cons];exact this.toTm
 have keepit:t=t0→σ'=σ1→∃G',lT M w a.tmps σ1 [] G σ' [] [] G'∧TmR w (G'.F M.A) σ'.v (ee M σ' []) G' t (a.eval x'):=by
  rintro rfl rfl;exact⟨G,lT.refl hI,ht⟩
 split at h2
 ·simp only[SP.run,oSJ,oPJ] at h2;exact keepit h2.1.symm h2.2.symm
 cases t0 with
 | ip cs=>
  simp only[SP.run,oSJ,oPJ] at h2;exact keepit h2.1.symm h2.2.symm
 | fn f cap=>
  simp only[SP.run,oSJ,oPJ] at h2;exact keepit h2.1.symm h2.2.symm
 | ptr p vs=>
  simp only[SP.run,oSJ,oPJ] at h2;exact keepit h2.1.symm h2.2.symm
 | _=>
  simp only at h2;obtain⟨l,σ2,h3,h4⟩:=SP.run_bind_some h2;simp only[SP.run,oSJ,oPJ] at h4;exact gen l σ2 h3 h4.1.symm h4.2.symm
theorem EN:∀{l:List (Option Nat×Opd)}{l':List Operand}{ts':List TV}{σ σ':St}{G:Gh},Inv M σ [] [] a.tmps w G→l'.length=l.length→(∀j (h:j < l.length) (h':j < l'.length),dJ l'[j]=some l[j].2)→(argVs l).run σ=some (ts',σ') →
 ∃G',lT M w a.tmps σ [] G σ' [] [] G'∧ts'.length=l.length∧∀j (h:j < ts'.length) (h':j < l'.length),TmR w (G'.F M.A) σ'.v (ee M σ' []) G' ts'[j] (a.eval l'[j]):=by
 intro l
 induction l with
 | nil=>
  intro l' ts' σ σ' G hI hl hc hr;simp only[argVs,SP.run,oSJ,oPJ] at hr;obtain⟨rfl,rfl⟩:=hr;exact⟨G,lT.refl hI,rfl,fun j h=>by simp at h⟩
 | cons x l ih=>
  intro l' ts' σ σ' G hI hl hc hr
  cases l' with
  | nil=>simp at hl
  | cons x' l'=>
   simp only[argVs] at hr;obtain⟨t,σ1,h1,h2⟩:=SP.run_bind_some hr;obtain⟨r,σ2,h3,h4⟩:=SP.run_bind_some h2;simp only[SP.run,oSJ,oPJ] at h4;obtain⟨rfl,rfl⟩:=h4;obtain⟨G1,hg1,ht1⟩:=LP hI (by have:=hc 0 (by simp) (by simp);simpa using this) h1;obtain⟨G2,hg2,e,hts⟩:=ih (l':=l') hg1.1 (by simpa using hl) (fun j h h'=>by have:=hc (j+1) (by simpa using h) (by simpa using h');simpa using this) h3;refine⟨G2,hg1.trans hg2,by simp[e],fun j h h'=>?_⟩
   cases j with
   | zero=>exact hg2.tm ht1
   | succ j=>exact hts j (by simpa using h) (by simpa using h')
end
section
variable {P:Program} {M:Fm} {σ σ':St} {H:List TV} {xs:List Value} {ts:Array Value} {w:World} {G:Gh} {a:Act} {o:Oper}
theorem E2{t t' t2:TV}{p:dR}{y:TV×St}(hp:(peek1 p t).run σ=some (t',σ')) (hr:(take1 true t').run σ=some y):jj y.2.v p.root p.off p.hops.length=jj σ.v p.root p.off p.hops.length:=by
 cases t with
 | v x=>
  simp only[peek1,SP.run,oSJ,oPJ] at hp;obtain⟨rfl,rfl⟩:=hp;simp only[take1,SP.run,oSJ] at hr;rw[← hr]
 | sl c=>
  simp only[peek1,SP.run,oSJ,oPJ] at hp;obtain⟨rfl,rfl⟩:=hp;simp only[take1,SP.run,oSJ] at hr;rw[← hr]
 | ow c=>
  simp only[peek1] at hp;obtain⟨vs,σ1,h1,h2⟩:=SP.run_bind_some hp;simp only[SP.run,oSJ,oPJ] at h2;obtain⟨rfl,_⟩:=h2;simp only[take1] at hr;obtain⟨_,σ2,h3,h4⟩:=SP.run_bind_some hr;have e1:σ2=σ:=(dW h3).1;subst e1;simp only[SP.run] at h4;split at h4
  ·simp only[if_true] at h4;obtain⟨l,hl,ho,h5⟩:=SP.run_wrC h4;simp only[SP.run,oSJ] at h5;rw[jX]
   have hv:∀q,y.2.v q=σ2.v q+if (p.root,p.off,p.hops.length+1)=q then 1 else 0:=fun q=>by rw[← h5];exact fY σ2.vr _ q
   refine⟨by rw[hv];simp,fun d hd=>?_⟩;rw[hv,if_neg]
   ·omega
   ·intro e
    injection e with _ e
    injection e with _ e
    omega
  ·simp[SP.run] at h4
 | _=>simp[peek1,SP.run] at hp
theorem JP:∀{n:Nat}{p:dR}{ad:Addr}{l:List TV}{σ σ':St}{H:List TV}{xs:List Value}{G:Gh},Inv M σ H xs ts w G→p.root≠1→G.addr w p=some ad→(xx p n).run σ=some (l,σ') →
 l.length=n∧∃us G',lT M w ts σ H G σ' (H++l) (xs++us) G'∧us.length=n∧(∀j (h:j < us.length),w.cell? ⟨ad.block,ad.off+j,none⟩=some us[j]∧w.frozen? ⟨ad.block,ad.off+j,none⟩=false)∧∀j (h:j < l.length),eX l[j]=true∨mu l[j]=true:=by
 intro n
 induction n with
 | zero=>
  intro p ad l σ σ' H xs G hI h1 ha hr;simp only[xx,SP.run,oSJ,oPJ] at hr;obtain⟨rfl,rfl⟩:=hr;exact⟨rfl,[],G,by simpa using lT.refl hI,rfl,fun j h=>by simp at h,fun j h=>by simp at h⟩
 | succ n ih=>
  intro p ad l σ σ' H xs G hI h1 ha hr;simp only[xx] at hr;obtain⟨t,σ1,h2,h3⟩:=SP.run_bind_some hr;obtain⟨e1,hg⟩:=fG h2;have e1:σ1=σ:=e1;subst e1;obtain⟨t',σ2,h4,h5⟩:=SP.run_bind_some h3;have hd:=pR h4;obtain⟨hB,u,fp,hcu,hown,hv⟩:=hI.named h1 ha hg hd;obtain⟨rfl,ht'⟩:=rq hI h1 hg hown hv h4;obtain⟨t2,σ3,h6,h7⟩:=SP.run_bind_some h5;have hvers:=E2 (t2:=t2) h4 h6;obtain⟨G1,hg1,hone⟩:=iM hI ht' h6
  have hgE:d7 (ee M σ2 H p.root p.off) p.hops=some t:=by rw[d9 (by exact h1)];exact hg
  obtain⟨u0,fp1,hsp,hcu0,hfr,_⟩:=hI.core.set p hB hgE;obtain⟨_,ha1,_⟩:=hg1.2.2.1.ptr p ad t h1 hvers ha hgE
  have had:(⟨ad.block,ad.off+0,none⟩:Addr)=ad:=by obtain⟨b,o,s⟩:=ad;simp only at hsp;subst hsp;rfl
  have hcell:=jY h6
  cases n with
  | zero=>
   simp only[SP.run,oSJ,oPJ] at h7;obtain⟨rfl,rfl⟩:=h7;refine⟨rfl,[u],G1,hg1,rfl,fun j h=>?_,fun j h=>?_⟩
   ·obtain rfl:j=0:=by simp at h;omega
    rw[had];exact⟨hcu,hfr⟩
   ·obtain rfl:j=0:=by simp at h;omega
    exact hcell
  | succ n=>
   simp only at h7;split at h7
   ·obtain⟨r,σ4,h8,h9⟩:=SP.run_bind_some h7;simp only[SP.run,oSJ,oPJ] at h9;obtain⟨rfl,rfl⟩:=h9;obtain⟨e2,us,G2,hg2,e3,e4,e5⟩:=ih hg1.1 (by rw[dR.add_root];exact h1) (mY 1 ha1) h8;refine⟨by simp[e2],u :: us,G2,by simpa using hg1.trans hg2,by simp[e3],fun j h=>?_,fun j h=>?_⟩
    ·cases j with
     | zero=>rw[had];exact⟨hcu,hfr⟩
     | succ j=>
      have:=e4 j (by simpa using h);simp only[List.getElem_cons_succ];rw[show ad.off+(j+1)=ad.off+1+j by omega];exact this
    ·cases j with
     | zero=>exact hcell
     | succ j=>exact e5 j (by simpa using h)
   ·simp[SP.run] at h7
theorem FQ{r o:Nat}{c:List (List TV)}{l:List TV}(hc:σ.c r o=.ow c) (h:(xx ⟨r,o,[]⟩ 1).run σ=some (l,σ')):l=[.ow c]:=by
 simp only[xx] at h;obtain⟨t,σ1,h1,h2⟩:=SP.run_bind_some h;obtain⟨e1,hg⟩:=fG h1;have e1:σ1=σ:=e1;subst e1;simp only[hc,d7,oSJ] at hg;subst hg;obtain⟨t',σ2,h3,h4⟩:=SP.run_bind_some h2;simp only[peek1] at h3;obtain⟨vs,σ3,h5,h6⟩:=SP.run_bind_some h3;simp only[SP.run,oSJ,oPJ] at h6;obtain⟨rfl,rfl⟩:=h6;rw[uA] at h5
 injection h5 with h5
 injection h5 with _ h5
 subst h5;obtain⟨t2,σ4,h7,h8⟩:=SP.run_bind_some h4;simp only[SP.run,oSJ,oPJ] at h8;rw[← h8.1];simp only[take1] at h7;obtain⟨_,σ5,h9,h10⟩:=SP.run_bind_some h7;have e2:σ5=σ1:=(dW h9).1;subst e2;simp only[SP.run,hc,d7,if_true] at h10;split at h10
 ·split at h10
  ·injection h10 with h10
   injection h10 with h10 _
   rw[← h10]
  ·cases h10
 ·cases h10
theorem Hb(hI:Inv M σ H xs ts w G) {p:dR}(h:(rooted p).run σ=some ((),σ')):σ'=σ∧(p.hops≠[]→∃b o n,G.β p.root=some (b,o,n)):=by
 obtain⟨r,o,hops⟩:=p
 cases hops with
 | nil=>
  simp only[rooted,SP.run,oSJ,oPJ,true_and] at h;exact⟨h.symm,fun e=>absurd rfl e⟩
 | cons hp hs=>
  simp only[rooted,SP.run] at h;have ht:=hI.tmr ((r - 2) / 2)
  cases hq:σ.t ((r - 2) / 2) with
  | ptr q ws=>
   rw[hq] at h ht;simp only at h;split at h
   ·rename_i hc;simp only[Bool.and_eq_true,beq_iff_eq,List.isEmpty_iff] at hc;have e1:σ'=σ:=(dW h).1;have e2:=(dW h).2;refine⟨e1,fun _=>?_⟩;generalize ts.getD ((r - 2) / 2) undef=z at ht
    cases ht with
    | ptr V0 h0 hv hok=>
     obtain⟨_,ad,t,ha,_,_⟩:=hok (by rw[hc.2];exact e2);unfold Gh.addr at ha;rw[hc.2] at ha;simp only at ha;show ∃b o n,G.β r=some (b,o,n);rw[← hc.1]
     cases hb:G.β q.root with
     | none=>rw[hb] at ha;simp at ha
     | some y=>obtain⟨b,o,n⟩:=y;exact⟨b,o,n,rfl⟩
   ·simp[SP.run] at h
  | _=>rw[hq] at h;simp[SP.run] at h
inductive te (w:World):Nat→List TV→List Value→List (GP×Addr)→List Value→Prop
 | nil (i:Nat):te w i [] [] [] []
 | ptr {i:Nat} {p:dR} {hp:List Hop} {vs vs0:List Nat} {cells:List TV} {ad ad0:Addr} {u:List Value} {ts:List TV} {xs:List Value} {K:List (GP×Addr)} {us:List Value} (hr:p.root≠1) (hb:p.hops=[]) (hs:ad.spot=none) (h0:hp=[]→ad0=ad)
  (hh:hp≠[]→eE w ((w.cell? ⟨ad.block,ad.off,none⟩).getD undef) hp=some ad0∧∃t,d7 (cells.getD 0 .dead) hp=some t) (hu:u.length=cells.length)
  (hc:∀j (h:j < u.length),w.cell? ⟨ad.block,ad.off+j,none⟩=some u[j]∧w.frozen? ⟨ad.block,ad.off+j,none⟩=false) (hok:∀j (h:j < cells.length),eX cells[j]=true∨mu cells[j]=true)
  (h:te w (i+1) ts xs K us):te w i (.ptr ⟨p.root,p.off,hp⟩ vs0 :: ts) (.pointer (some ad0) :: xs) ((⟨i,p,vs,cells⟩,ad) :: K) (u++us)
 | arg {i:Nat} {t:TV} {x:Value} {ts:List TV} {xs:List Value} {K:List (GP×Addr)} {us:List Value} (ha:p9 t=true) (h:te w (i+1) ts xs K us):te w i (t :: ts) (x :: xs) K us
 | own {i:Nat} {p:dR} {vs:List Nat} {x:Value} {ts:List TV} {xs:List Value} {K:List (GP×Addr)} {us:List Value} (h:te w (i+1) ts xs K us):te w i (.pk p vs :: ts) (x :: xs) K us
inductive ID:Nat→List (Option Nat×TV)→List Value→List (Nat×TV)→List Value→Prop
 | nil (i:Nat):ID i [] [] [] []
 | own {i:Nat} {p:dR} {vs:List Nat} {l:List (Option Nat×TV)} {x:Value} {xs:List Value} {c:List (List TV)} {ow:List (Nat×TV)} {zs:List Value} (h:ID (i+1) l xs ow zs):ID i ((some 0,.pk p vs) :: l) (x :: xs) ((i,.ow c) :: ow) (x :: zs)
 | skip {i:Nat} {y:Option Nat×TV} {l:List (Option Nat×TV)} {x:Value} {xs:List Value} {ow:List (Nat×TV)} {zs:List Value} (h:ID (i+1) l xs ow zs):ID i (y :: l) (x :: xs) ow zs
theorem yq{i:Nat}{y:Option Nat×TV}{l:List (Option Nat×TV)}(hn:∀p vs,y≠(some 0,.pk p vs)):takeOwns i (y :: l)=takeOwns (i+1) l:=by
 obtain⟨n,t⟩:=y
 cases t with
 | pk p vs=>
  cases n with
  | none=>rfl
  | some n=>
   cases n with
   | zero=>exact absurd rfl (hn p vs)
   | succ n=>rfl
 | _=>cases n with
  | none=>rfl
  | some n=>cases n<;>rfl
theorem CD:∀{l:List (Option Nat×TV)}{as:List Value}{i:Nat}{ow:List (Nat×TV)}{σ σ':St}{H:List TV}{xs:List Value}{G:Gh},Inv M σ H xs ts w G→as.length=l.length→(∀j (h:j < l.length) (h':j < as.length),TmR w (G.F M.A) σ.v (ee M σ H) G l[j].2 as[j])→(takeOwns i l).run σ=some (ow,σ') →
 ∃zs G',lT M w ts σ H G σ' (H++ow.map (·.2)) (xs++zs) G'∧ID i l as ow zs∧∀(j:Nat) (p:dR) (vs:List Nat),l[j]?=some (some 0,TV.pk p vs)→∃x∈ow,x.1=i+j:=by
 intro l
 induction l with
 | nil=>
  intro as i ow σ σ' H xs G hI hl _ hr;simp only[takeOwns,SP.run,oSJ,oPJ] at hr;obtain⟨rfl,rfl⟩:=hr;have:as=[]:=List.eq_nil_of_length_eq_zero (by simpa using hl);subst this;exact⟨[],G,by simpa using lT.refl hI,.nil i,fun j p vs h=>by simp at h⟩
 | cons y l ih=>
  intro as i ow σ σ' H xs G hI hl ht hr
  cases as with
  | nil=>simp at hl
  | cons x as=>
   have ht0:=ht 0 (by simp) (by simp);simp only[List.getElem_cons_zero] at ht0;by_cases hp:∃p vs,y=(some 0,.pk p vs)
   ·obtain⟨p,vs,rfl⟩:=hp;simp only[takeOwns] at hr;obtain⟨t,σ1,h1,h2⟩:=SP.run_bind_some hr;split at h2
    case isFalse=>simp[SP.run] at h2
    rename_i how;obtain⟨q,σ2,h3,h4⟩:=SP.run_bind_some h2;simp only[SP.run,oSJ,oPJ] at h4;obtain⟨rfl,rfl⟩:=h4
    obtain⟨c,rfl⟩:∃c,t=.ow c:=by cases t<;>simp[mu] at how;exact⟨_,rfl⟩
    obtain⟨G1,hg1,_⟩:=iM hI ht0 h1;obtain⟨zs,G2,hg2,k1,k2⟩:=ih (as:=as) hg1.1 (by simpa using hl) (fun j h h'=>hg1.tm (by have:=ht (j+1) (by simpa using h) (by simpa using h');simpa only [List.getElem_cons_succ] using this)) h3;refine⟨x :: zs,G2,by simpa [List.append_assoc] using hg1.trans hg2,.own k1,fun j p vs h=>?_⟩
    cases j with
    | zero=>exact⟨_,List.mem_cons_self,rfl⟩
    | succ j=>
     obtain⟨z,h5,h6⟩:=k2 j p vs (by simpa using h);exact⟨z,List.mem_cons_of_mem _ h5,by omega⟩
   ·have hn:∀p vs,y≠(some 0,.pk p vs):=fun p vs e=>hp ⟨p,vs,e⟩;rw[yq hn] at hr;obtain⟨zs,G2,hg2,k1,k2⟩:=ih (as:=as) hI (by simpa using hl) (fun j h h'=>by have:=ht (j+1) (by simpa using h) (by simpa using h');simpa only [List.getElem_cons_succ] using this) hr;refine⟨zs,G2,hg2,.skip k1,fun j p vs h=>?_⟩
    cases j with
    | zero=>exact absurd (by simpa using h) (hn p vs)
    | succ j=>
     obtain⟨z,h5,h6⟩:=k2 j p vs (by simpa using h);exact⟨z,h5,by omega⟩
theorem JN:∀{l:List (Option Nat×TV)}{i:Nat}{q:List GP}{σ σ':St},(grabs i l).run σ=some (q,σ')→∀(j:Nat) (n:Option Nat) (p:dR) (vs:List Nat),l[j]?=some (n,TV.pk p vs)→n=some 0:=by
 intro l
 induction l with
 | nil=>intro i q σ σ' _ j n p vs h;simp at h
 | cons y l ih=>
  intro i q σ σ' hr j n p vs h;obtain⟨m,t⟩:=y
  cases j with
  | zero=>
   simp only[List.getElem?_cons_zero,oSJ,oPJ] at h;obtain⟨rfl,rfl⟩:=h
   cases m with
   | none=>simp[grabs,p9,SP.run] at hr
   | some m=>
    cases m with
    | zero=>rfl
    | succ m=>simp[grabs,p9,SP.run] at hr
  | succ j=>
   have hj:l[j]?=some (n,.pk p vs):=by simpa using h
   have step:∀{σ1 σ2:St} {q1:List GP},(grabs (i+1) l).run σ1=some (q1,σ2)→n=some 0:=fun h1=>ih h1 j n p vs hj
   have arg:((if p9 t then grabs (i+1) l else .fail:SP (List GP))).run σ=some (q,σ')→n=some 0:=by
    intro h1;split at h1
    ·exact step h1
    ·simp[SP.run] at h1
   cases t with
   | ptr p2 vs2=>
    cases m with
    | none=>exact arg hr
    | some m=>
     simp only[grabs] at hr;obtain⟨_,σ1,h1,h2⟩:=SP.run_bind_some hr;obtain⟨_,σ0,_,h2⟩:=SP.run_bind_some h2;obtain⟨cells,σ2,h3,h4⟩:=SP.run_bind_some h2;obtain⟨q1,σ3,h5,h6⟩:=SP.run_bind_some h4;exact step h5
   | pk p2 vs2=>
    cases m with
    | none=>exact arg hr
    | some m=>
     cases m with
     | zero=>exact step hr
     | succ m=>exact arg hr
   | _=>cases m with
    | none=>exact arg hr
    | some m=>cases m<;>exact arg hr
theorem JO:∀{l:List (Option Nat×TV)}{as:List Value}{i:Nat}{q:List GP}{σ σ':St}{H:List TV}{xs:List Value}{G:Gh},Inv M σ H xs ts w G→as.length=l.length→(∀j (h:j < l.length) (h':j < as.length),TmR w (G.F M.A) σ.v (ee M σ H) G l[j].2 as[j])→(grabs i l).run σ=some (q,σ') →
 ∃us G' K,lT M w ts σ H G σ' (H++q.flatMap (·.cells)) (xs++us) G'∧K.map (·.1)=q∧te w i (l.map (·.2)) as K us∧∀x∈K,TmR w (G'.F M.A) σ'.v (ee M σ' (H++q.flatMap (·.cells))) G' (.ptr x.1.p x.1.vs) (.pointer (some x.2)):=by
 intro l
 induction l with
 | nil=>
  intro as i q σ σ' H xs G hI hl _ hr;simp only[grabs,SP.run,oSJ,oPJ] at hr;obtain⟨rfl,rfl⟩:=hr;have:as=[]:=List.eq_nil_of_length_eq_zero (by simpa using hl);subst this;exact⟨[],G,[],by simpa using lT.refl hI,rfl,.nil i,fun x hx=>by simp at hx⟩
 | cons x l ih=>
  intro as i q σ σ' H xs G hI hl ht hr
  cases as with
  | nil=>simp at hl
  | cons y as=>
   obtain⟨n,t⟩:=x;have ht0:=ht 0 (by simp) (by simp);simp only[List.getElem_cons_zero] at ht0
   have hrest:∀{σ1:St} {H1:List TV} {xs1:List Value} {G1:Gh},lT M w ts σ H G σ1 H1 xs1 G1→∀j (h:j < l.length) (h':j < as.length),TmR w (G1.F M.A) σ1.v (ee M σ1 H1) G1 l[j].2 as[j]:=fun hg j h h'=>
    hg.tm (by have:=ht (j+1) (by simpa using h) (by simpa using h');simpa only [List.getElem_cons_succ] using this)
   have other:(∀p vs,t≠.ptr p vs)→(∀p vs,(n,t)≠(some 0,.pk p vs))→∃us G' K,lT M w ts σ H G σ' (H++q.flatMap (·.cells)) (xs++us) G'∧K.map (·.1)=q∧te w i (((n,t) :: l).map (·.2)) (y :: as) K us∧∀x∈K,TmR w (G'.F M.A) σ'.v (ee M σ' (H++q.flatMap (·.cells))) G' (.ptr x.1.p x.1.vs) (.pointer (some x.2)):=by
    intro hne hne2
    have hr':(if p9 t then grabs (i+1) l else .fail:SP (List GP)).run σ=some (q,σ'):=by
     cases n with
     | none=>cases t<;>exact hr
     | some n=>cases n<;>cases t<;>first | exact absurd rfl (hne _ _) | exact absurd rfl (hne2 _ _) | exact hr
    split at hr'
    ·rename_i harg;obtain⟨us,G',K,e1,e2,e3,e4⟩:=ih (as:=as) hI (by simpa using hl) (hrest (lT.refl hI)) hr';exact⟨us,G',K,e1,e2,.arg harg e3,e4⟩
    ·simp[SP.run] at hr'
   by_cases hp:∃p vs,t=.ptr p vs
   ·obtain⟨p,vs,rfl⟩:=hp
    cases n with
    | none=>simp[grabs,p9,SP.run] at hr
    | some n=>
     simp only[grabs] at hr;obtain⟨_,σ1,h1,h2⟩:=SP.run_bind_some hr;have e1:σ1=σ:=(dW h1).1;have e2:=(dW h1).2;subst e1;obtain⟨_,σr,hR,h2'⟩:=SP.run_bind_some h2;obtain⟨rfl,hbox⟩:=Hb hI hR;obtain⟨cells,σ2,h3,h4⟩:=SP.run_bind_some h2';obtain⟨q1,σ3,h5,h6⟩:=SP.run_bind_some h4;simp only[SP.run,oSJ,oPJ] at h6;obtain⟨rfl,rfl⟩:=h6;generalize hz:y=z at ht0
     cases ht0 with
     | ptr V0 h0 hv h=>
      obtain⟨hr1,ad0,t0,ha,rfl,hget⟩:=h e2;obtain⟨r,o,hops⟩:=p
      have hab:∃ad,G.addr w (⟨r,o,[]⟩:dR)=some ad∧(hops=[]→ad0=ad)∧(hops≠[]→eE w ((w.cell? ⟨ad.block,ad.off,none⟩).getD undef) hops=some ad0):=by
       cases hops with
       | nil=>exact⟨ad0,ha,fun _=>rfl,fun e=>absurd rfl e⟩
       | cons hp1 hs=>
        obtain⟨b,o0,n0,hb⟩:=hbox (by simp);refine⟨⟨b,o0+o,none⟩,by simp only[Gh.addr];rw[hb],fun e=>by simp at e,fun _=>?_⟩;have ha':eE w (G.val w r o) (hp1 :: hs)=some ad0:=ha;unfold Gh.val at ha';rw[hb] at ha';exact ha'
      obtain⟨ad,hba,hb0,hbh⟩:=hab;have hrb:(⟨r,o,hops⟩:dR).base.root≠1:=hr1;obtain⟨k1,u,G1,hg1,k2,k3,k4⟩:=JP (p:=(⟨r,o,hops⟩:dR).base) hI hrb hba h3;obtain⟨us,G2,K,hg2,k5,k6,k7⟩:=ih (as:=as) hg1.1 (by simpa using hl) (hrest hg1) h5
      have htm:TmR w (G.F M.A) σr.v (ee M σr H) G (.ptr (⟨r,o,hops⟩:dR).base (vs.take 1)) (.pointer (some ad)):=
       .ptr V0 h0 (by rw[hv];simp[jj,dR.base]) fun _=>⟨hr1,ad,_,hba,rfl,rfl⟩
      refine⟨u++us,G2,(⟨i,(⟨r,o,hops⟩:dR).base,vs.take 1,cells⟩,ad) :: K,by simpa [List.append_assoc] using hg1.trans hg2,by simp[k5],.ptr (p:=(⟨r,o,hops⟩:dR).base) (hp:=hops) hr1 rfl (kW hba) hb0 (fun hne=>⟨hbh hne,?_⟩) (by omega) k3 k4 k6,fun x hx=>?_⟩
      ·have hget':d7 (σr.c r o) hops=some t0:=by
        have:=hget;rw[d9 (by exact hr1)] at this;exact this
       cases hops with
       | nil=>exact absurd rfl hne
       | cons h1 hs=>
        cases hc:σr.c r o with
        | ow c=>
         have:=FQ hc h3;rw[this];rw[hc] at hget';exact⟨t0,hget'⟩
        | _=>rw[hc] at hget';simp[d7] at hget'
      ·have e3:H++(({ i:=i,p:=(⟨r,o,hops⟩:dR).base,vs:=vs.take 1,cells:=cells }:GP) :: q1).flatMap (·.cells)=H++cells++q1.flatMap (·.cells):=by simp[List.append_assoc]
       rw[e3];rcases List.mem_cons.1 hx with rfl | hx
       ·exact hg2.tm (hg1.tm htm)
       ·exact k7 x hx
   ·by_cases hw:∃p vs,(n,t)=(some 0,.pk p vs)
    ·obtain⟨p,vs,hw⟩:=hw
     injection hw with h1 h2
     subst h1;subst h2;have hr':(grabs (i+1) l).run σ=some (q,σ'):=hr;obtain⟨us,G',K,e1,e2,e3,e4⟩:=ih (as:=as) hI (by simpa using hl) (hrest (lT.refl hI)) hr';exact⟨us,G',K,e1,e2,.own e3,e4⟩
    ·exact other (fun p vs e=>hp ⟨p,vs,e⟩) fun p vs e=>hw ⟨p,vs,e⟩
theorem Cu{α:Type}:∀{l:List (Nat×α)}{r:Nat}{x:α},ef l r=some x→fI l r x=l:=by
 intro l
 induction l with
 | nil=>intro r x h;simp[ef] at h
 | cons y l ih=>
  intro r x h;obtain⟨k,v⟩:=y;simp only[ef] at h;simp only[fI];split
  ·rename_i e;rw[if_pos e] at h
   injection h with h
   rw[h,e]
  ·rename_i e;rw[if_neg e] at h;rw[ih h]
theorem IF{p:dR}(hr:(touch p).run σ=some ((),σ')):σ'=σ∧∃l,ef σ.ce p.root=some l∧p.off < l.length:=by
 simp only[touch,SP.run] at hr;obtain⟨l,hl,ho,h2⟩:=SP.run_wrC (σ:=σ) (k:=.ret ()) (t:=σ.c p.root p.off) (by simpa only [SP.run] using hr);simp only[SP.run,oSJ,oPJ,true_and] at h2;refine⟨?_,l,hl,ho⟩;rw[← h2]
 have e:l.set p.off (σ.c p.root p.off)=l:=by
  have:σ.c p.root p.off=l[p.off]:=by simp[St.c,hl,ho]
  rw[this];exact List.set_getElem_self ho
 rw[e,Cu hl]
theorem Jh(hI:Inv M σ H xs ts w G):∀{q:List GP}{σ':St},(rechk q).run σ=some ((),σ')→σ'=σ∧∀g∈q,∀x,TmR w (G.F M.A) σ.v (ee M σ H) G (.ptr g.p g.vs) x→g.p.root≠1∧∃ad,x=.pointer (some ad)∧G.addr w g.p=some ad∧g.vs=jj σ.v g.p.root g.p.off g.p.hops.length∧(∃t,d7 (ee M σ H g.p.root g.p.off) g.p.hops=some t)∧((∃o n,G.β g.p.root=some (ad.block,o,n))∨G.φ g.p.root g.p.off ad.block):=by
 intro q
 induction q with
 | nil=>
  intro σ' hr;simp only[rechk,SP.run,oSJ,oPJ,true_and] at hr;exact⟨hr.symm,fun g hg=>by simp at hg⟩
 | cons g q ih=>
  intro σ' hr;simp only[rechk] at hr;obtain⟨_,σ1,h1,h2⟩:=SP.run_bind_some hr;have e1:σ1=σ:=(dW h1).1;have e2:=(dW h1).2;subst e1;obtain⟨_,σ2,h3,h4⟩:=SP.run_bind_some h2;obtain⟨rfl,l,hl,ho⟩:=IF h3;obtain⟨rfl,hq⟩:=ih h4;refine⟨rfl,fun g' hg' x hx=>?_⟩;rcases List.mem_cons.1 hg' with rfl | hg'
  ·cases hx with
   | ptr V0 h0 hv h=>
    obtain⟨hr1,ad,t0,ha,hx,hget⟩:=h e2
    have hB:G.addrB w g'.p=some ad:=by
     refine Gh.addr_to_B ha fun hp b o0 n hb=>?_;have:=hI.shape _ _ _ _ hb l hl;omega
    refine⟨hr1,ad,hx,ha,e2,⟨t0,hget⟩,?_⟩;rcases hI.core.where_ g'.p hB hget with ⟨_,b,o0,n,h5,_,h6⟩ | ⟨_,h5⟩
    ·left;exact⟨o0,n,by rw[h5,h6]⟩
    ·right;exact h5
  ·exact hq g' hg' x hx
end
end Go.Proofs.YtdcpgpngdcfhhaaGreat
