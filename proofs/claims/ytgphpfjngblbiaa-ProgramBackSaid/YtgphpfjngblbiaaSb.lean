/- Part of the proof; no condition. -/
import Derived.Test.YtgphpfjngblbiaaSa
import Derived.Laws.StructEq
import Derived.Laws.BytesString
import Derived.Laws.NewFold
import Derived.Laws.IdiomCopy
import Derived.LoopN
import Derived.Orders
import Derived.Lib.SliceRun
set_option linter.unusedVariables false
set_option linter.unusedSimpArgs false
namespace Go.Proofs.Ytgphpfjngblbiaa
open Go.RowKit
def sx(g:TypeId->Option (List FK)):Nat->List Field->Option (List FK)
 | _,[]=>some []
 | off,f :: fs=>
  if f.name≠"_"/\f.offset=off then
   match g f.type with
   | some ks=>(sx g (off+ks.length) fs).map (ks++·)
   | none=>none
  else none
def jJ(P:Program):Nat->TypeId->Option (List FK)
 | 0,_=>none
 | d+1,t=>
  match P.underlying t with
  | some .bool=>some [.b]
  | some (.int _)=>some [.i]
  | some .string=>some [.s]
  | some (.struct fs)=>
   if P.stoodInHeld t then none
   else match sx (jJ P d) 0 fs.toList with
    | some ks=>if (P.info? t).map (·.size)=some ks.length then some ks else none
    | none=>none
  | _=>none
theorem vM{α β:Type}{f:α->β}{o:Option α}{b:β}(h:o.map f=some b):∃a,o=some a/\f a=b:=by
 cases o with
 | none=>simp at h
 | some a=>exact⟨a,rfl,by simpa using h⟩
theorem tO:∀{ks:List FK}{xs ys:List Value}{r:Bool},cr ks xs ys=some r->xs.length=ks.length/\ys.length=ks.length:=by
 intro ks
 induction ks with
 | nil=>
  intro xs ys r h;cases xs<;>cases ys<;>simp[cr] at h ⊢
 | cons k ks ih=>
  intro xs ys r h
  cases xs with
  | nil=>cases k<;>simp[cr] at h
  | cons x xs=>
   cases ys with
   | nil=>cases k<;>cases x<;>simp[cr] at h
   | cons y ys=>
    cases k<;>cases x<;>cases y<;>simp only[cr] at h<;>first | (simp at h;done) | skip
    ·split at h
     ·obtain⟨r',h1,_⟩:=vM h;have:=ih h1;simp[this.1,this.2]
     ·simp at h
    ·obtain⟨r',h1,_⟩:=vM h;have:=ih h1;simp[this.1,this.2]
    ·obtain⟨r',h1,_⟩:=vM h;have:=ih h1;simp[this.1,this.2]
theorem o5:∀{k1 k2:List FK}{xs ys:List Value}{r:Bool},cr (k1++k2) xs ys=some r ->
 ∃r1 r2,cr k1 (xs.take k1.length) (ys.take k1.length)=some r1/\cr k2 (xs.drop k1.length) (ys.drop k1.length)=some r2/\r=(r1 && r2):=by
 intro k1
 induction k1 with
 | nil=>intro k2 xs ys r h;exact⟨true,r,rfl,h,rfl⟩
 | cons k k1 ih=>
  intro k2 xs ys r h;simp only[List.cons_append] at h
  cases xs with
  | nil=>cases k<;>simp[cr] at h
  | cons x xs=>
   cases ys with
   | nil=>cases k<;>cases x<;>simp[cr] at h
   | cons y ys=>
    have fin:∀(q:Bool) (h:(cr (k1++k2) xs ys).map (q && ·)=some r) (hq:∀X Y,cr (k :: k1) (x :: X) (y :: Y)=(cr k1 X Y).map (q && ·)),∃r1 r2,cr (k :: k1) ((x :: xs).take (k :: k1).length) ((y :: ys).take (k :: k1).length)=some r1/\cr k2 ((x :: xs).drop (k :: k1).length) ((y :: ys).drop (k :: k1).length)=some r2/\r=(r1 && r2):=by
     intro q h hq;obtain⟨r',h1,h2⟩:=vM h;obtain⟨r1,r2,a1,a2,a3⟩:=ih h1;refine⟨q && r1,r2,?_,by simpa using a2,by rw[<- h2,a3,Bool.and_assoc]⟩;simp only[oLC,List.take_succ_cons];rw[hq,a1];rfl
    cases k<;>cases x<;>cases y<;>simp only[cr] at h<;>first | (simp at h;done) | skip
    ·split at h
     ·rename_i e;exact fin _ h λX Y=>by simp only[cr,oIP e]
     ·simp at h
    ·exact fin _ h λX Y=>rfl
    ·exact fin _ h λX Y=>rfl
section
variable {P:Program} {w:World}
theorem of{d D:Nat}{g:TypeId->Option (List FK)}
 (ih:∀t ks,g t=some ks->∀(xs ys:Array Value) off r,cr ks ((xs.toList.drop off).take ks.length) ((ys.toList.drop off).take ks.length)=some r->∃a b,(part t xs off).run P w=.ok a w/\(part t ys off).run P w=.ok b w/\(Op.equalIn D t a b).run P w=.ok r w) (xs ys:Array Value) :
 ∀(fs:List Field) (o:Nat) (ks:List FK) (r:Bool),sx g o fs=some ks->cr ks (xs.toList.drop o) (ys.toList.drop o)=some r->(Op.eqFields D xs ys fs).run P w=.ok r w:=by
 intro fs
 induction fs with
 | nil=>
  intro o ks r h he;simp only[sx,oSJ] at h;subst h
  have hr:r=true:=by
   revert he;generalize xs.toList.drop o=X;generalize ys.toList.drop o=Y;intro he;cases X<;>cases Y<;>simp[cr] at he;exact he
  subst hr;rfl
 | cons f fs ihf=>
  intro o ks r h he;simp only[sx] at h;split at h
  case isFalse=>simp at h
  rename_i hf;split at h
  case h_2=>simp at h
  rename_i k1 hk1;obtain⟨k2,hk2,rfl⟩:=vM h;obtain⟨r1,r2,a1,a2,rfl⟩:=o5 he;obtain⟨a,b,p1,p2,p3⟩:=ih f.type k1 hk1 xs ys o r1 a1;rw[List.drop_drop,List.drop_drop] at a2;have hrest:=ihf (o+k1.length) k2 r2 hk2 a2;simp only[Op.eqFields];rw[oIP hf.1,hf.2];simp only[Sem.run_bind,p1,p2,p3,Result.andThen_ok]
  cases r1 with
  | false=>simp
  | true=>simpa using hrest
theorem xU:∀(d:Nat) (t:TypeId) (ks:List FK),jJ P d t=some ks->∀D,d<=D->∀(xs ys:Array Value) (off:Nat) (r:Bool),cr ks ((xs.toList.drop off).take ks.length) ((ys.toList.drop off).take ks.length)=some r ->
 ∃a b,(part t xs off).run P w=.ok a w/\(part t ys off).run P w=.ok b w/\(Op.equalIn D t a b).run P w=.ok r w:=by
 intro d
 induction d with
 | zero=>intro t ks h;simp[jJ] at h
 | succ d ih=>
  intro t ks h D hD xs ys off r he;obtain⟨D',rfl⟩:∃D',D=D'+1:=⟨D - 1,by omega⟩;simp only[jJ] at h
  have one:∀(dsc:TypeDesc) (k:FK),P.underlying t=some dsc->(∀f,dsc≠.struct f)->(∀n e,dsc≠.array n e)->ks=[k]->∃x y,xs[off]?=some x/\ys[off]?=some y/\cr [k] [x] [y]=some r/\(part t xs off).run P w=.ok x w/\(part t ys off).run P w=.ok y w:=by
   rintro dsc k hu h1 h2 rfl;obtain⟨l1,l2⟩:=tO he
   obtain⟨x,hx⟩:∃x,xs.toList.drop off=x :: (xs.toList.drop (off+1)):=by
    have:off < xs.toList.length:=by simp at l1 ⊢;omega
    exact⟨_,List.drop_eq_getElem_cons this⟩
   obtain⟨y,hy⟩:∃y,ys.toList.drop off=y :: (ys.toList.drop (off+1)):=by
    have:off < ys.toList.length:=by simp at l2 ⊢;omega
    exact⟨_,List.drop_eq_getElem_cons this⟩
   have hx2:xs[off]?=some x:=by
    have:=congrArg (λl=>l[0]?) hx;simpa using this
   have hy2:ys[off]?=some y:=by
    have:=congrArg (λl=>l[0]?) hy;simpa using this
   rw[hx,hy] at he;exact⟨x,y,hx2,hy2,by simpa using he,by simp[part,iO hu h1 h2,hx2],by simp[part,iO hu h1 h2,hy2]⟩
  split at h
  ·rename_i hu
   injection h with h
   obtain⟨x,y,_,_,e,p1,p2⟩:=one _ .b hu (λ_ h=>by cases h) (λ_ _ h=>by cases h) h.symm;refine⟨x,y,p1,p2,?_⟩;cases x<;>cases y<;>simp[cr] at e;simp[Op.equalIn,run_underlying hu,e]
  ·rename_i k0 hu
   injection h with h
   obtain⟨x,y,_,_,e,p1,p2⟩:=one _ .i hu (λ_ h=>by cases h) (λ_ _ h=>by cases h) h.symm;refine⟨x,y,p1,p2,?_⟩
   cases x<;>cases y<;>simp only[cr] at e<;>first | (simp at e;done) | skip
   rename_i ka a kb b;split at e
   ·rename_i hk;subst hk;simp at e;simp[Op.equalIn,run_underlying hu,e]
   ·simp at e
  ·rename_i hu
   injection h with h
   obtain⟨x,y,_,_,e,p1,p2⟩:=one _ .s hu (λ_ h=>by cases h) (λ_ _ h=>by cases h) h.symm;refine⟨x,y,p1,p2,?_⟩;cases x<;>cases y<;>simp[cr] at e;simp[Op.equalIn,run_underlying hu,e]
  ·rename_i fs hu;split at h
   case isTrue=>simp at h
   rename_i hst;split at h
   case h_2=>simp at h
   rename_i ks' hfs;split at h
   case isFalse=>simp at h
   rename_i hsz
   injection h with h
   subst h
   have hso:(sizeOf t).run P w=.ok ks'.length w:=by
    unfold sizeOf typeInfo
    cases hi:P.info? t with
    | none=>simp[hi] at hsz
    | some i=>simp[hi] at hsz;simp[hi,hsz]
   have hpart:∀zs:Array Value,(part t zs off).run P w=.ok (.agg (zs.extract off (off+ks'.length))) w:=λzs=>by
    simp[part,gQ hu (.inl ⟨_,rfl⟩),hso]
   refine⟨_,_,hpart xs,hpart ys,?_⟩
   have hff:P.fieldsOf t=fs:=by simp[Program.fieldsOf,hu]
   rw[run_equalIn_struct w D' t _ _ (by rw[hff];exact hu) (by simpa using hst),hff];refine of (d:=d) (g:=jJ P d) (λt ks h xs ys off r he=>ih t ks h D' (by omega) xs ys off r he) _ _ fs.toList 0 ks' r hfs ?_
   have e:∀zs:Array Value,(zs.extract off (off+ks'.length)).toList.drop 0=(zs.toList.drop off).take ks'.length:=λzs=>by
    simp[List.extract_eq_take_drop]
   rw[e,e];exact he
  ·simp at h
theorem yE{d D:Nat}{t:TypeId}{ks:List FK}{fs:Array Field}(h:jJ P (d+1) t=some ks) (hu:P.underlying t=some (.struct fs)) (hD:d<=D) {xs ys:Array Value}{r:Bool}(he:cr ks xs.toList ys.toList=some r):(Op.equalIn (D+1) t (.agg xs) (.agg ys)).run P w=.ok r w:=by
 simp only[jJ,hu] at h;split at h
 case isTrue=>simp at h
 rename_i hst;split at h
 case h_2=>simp at h
 rename_i ks' hfs;split at h
 case isFalse=>simp at h
 injection h with h
 subst h
 have hff:P.fieldsOf t=fs:=by simp[Program.fieldsOf,hu]
 rw[run_equalIn_struct w D t _ _ (by rw[hff];exact hu) (by simpa using hst),hff];exact of (d:=d) (g:=jJ P d) (λt ks h xs ys off r he=>xU d t ks h D hD xs ys off r he) _ _ fs.toList 0 ks' r hfs (by simpa using he)
variable {M:Fm} {σ σ':St} {G:Gh} {a:Act} {o:Oper}
theorem Ap{F:Nat->Prop}{V:Vs}{C:Cs}:∀{l:List TV}{vs:List Value},cd l=some vs->vs.length=l.length/\∀j (h:j < l.length) (h':j < vs.length) (x:Value),TmR w F V C G l[j] x->x=vs[j]:=by
 intro l
 induction l with
 | nil=>intro vs h;simp only[cd,oSJ] at h;subst h;exact⟨rfl,λj h=>by simp at h⟩
 | cons t l ih=>
  intro vs h
  cases t with
  | v z=>
   simp only[cd] at h;obtain⟨vs',h1,rfl⟩:=vM h;obtain⟨e,h2⟩:=ih h1;refine⟨by simp[e],λj hj hj' x hx=>?_⟩
   cases j with
   | zero=>exact hx.v_inv.1
   | succ j=>exact h2 j (by simpa using hj) (by simpa using hj') x hx
  | _=>simp[cd] at h
theorem su{F:Nat->Prop}{V:Vs}{C:Cs}{l:List TV}{vs:List Value}{x:Value}(h:cd l=some vs) (hx:TmR w F V C G (.agg l) x):x=.agg vs.toArray:=by
 obtain⟨xs,rfl,hl,hj⟩:=wz hx;obtain⟨e,h2⟩:=Ap (w:=w) (G:=G) (F:=F) (V:=V) (C:=C) h;congr 1;apply Array.ext
 ·simp[hl,e]
 ·intro j h1 h3;have:=h2 j (by omega) (by simpa using h3) _ (hj j (by omega))
  have e2:xs.getD j undef=xs[j]:=by simp[Array.getD_eq_getD_getElem?,h1]
  rw[e2] at this;simpa using this
theorem xg(hI:Inv M σ [] [] a.tmps w G) {d:Nat}(hd:o.dst=some d) (hN:d < M.N) {x y:Opd}{x' y':Operand}{op:BinOp}{neg:Bool}{t yt:TypeId}{ks:List FK}{fs:Array Field}(hx:bJ x'=some x) (hy:bJ y'=some y) (ho:o.op=.binOp op t x' y' yt) (hop:(op=.eql/\neg=false)\/(op=.neq/\neg=true))
 (hu:P.underlying t=some (.struct fs)) (hk:jJ P 50 t=some ks) (hgd:P.eqGuardType P.depth t=false) (hr:(ev1 d (.eqa ks neg x y)).run σ=some ((),σ')):g7 P M σ' a o w:=by
 simp only[ev1] at hr;obtain⟨t1,σ1,h1,h2⟩:=bG hr;obtain⟨rfl,hx1⟩:=cC hI.tmr hx h1;obtain⟨t2,σ2,h3,h4⟩:=bG h2;obtain⟨rfl,hy1⟩:=cC hI.tmr hy h3
 cases t1 with
 | agg l1=>
  cases t2 with
  | agg l2=>
   simp only at h4;obtain⟨vs1,σ3,h5,h6⟩:=bG h4;obtain⟨e1,rfl⟩:=i5 h5;obtain⟨vs2,σ4,h7,h8⟩:=bG h6;obtain⟨e2,rfl⟩:=i5 h7;obtain⟨r,σ5,h9,h10⟩:=bG h8;obtain⟨e3,rfl⟩:=i5 h9;have ex:=su e1 hx1;have ey:=su e2 hy1;have hq:(Op.equalIn 10000 t (.agg vs1.toArray) (.agg vs2.toArray)).run P w=.ok r w:=yE (d:=49) (D:=9999) hk hu (by omega) (by simpa using e3);have hg:(eqGuard op t x' y' (.agg vs1.toArray) (.agg vs2.toArray)).run P w=.ok () w:=run_eqGuard_agg w op t x' y' _ _ hgd;refine dT hI hd hN (.v rfl) h10 ?_;rcases hop with ⟨rfl,rfl⟩ | ⟨rfl,rfl⟩
   ·simp[execOp,ho,ex,ey,hg,run_eql_struct,hq]
   ·simp[execOp,ho,ex,ey,hg,run_neq_struct,hq]
  | _=>simp[SP.run] at h4
 | _=>simp[SP.run] at h4
end
section
variable {P:Program} {M:Fm} {σ σ':St} {H:List TV} {xs:List Value} {ts:Array Value} {w:World} {G:Gh} {a:Act} {o:Oper}
theorem wi(mx:Bool) (k:IntKind):∀(r:List Value) (x m:Int),mC mx k x r=some m->(r.foldlM (if mx then Builtin.max2 else Builtin.min2) (.int k x)).run P w=.ok (.int k m) w:=by
 intro r
 induction r with
 | nil=>
  intro x m h;simp only[mC,oSJ] at h;subst h;rfl
 | cons y r ih=>
  intro x m h
  cases y with
  | int k' b=>
   simp only[mC] at h;split at h
   ·rename_i hk;subst hk;have:=ih _ _ h
    cases mx with
    | true=>
     simp only[if_true,List.foldlM_cons] at this ⊢;simpa [Builtin.max2,Sem.run_bind] using this
    | false=>
     simp only[Bool.false_eq_true,if_false,List.foldlM_cons] at this ⊢;simpa [Builtin.min2,Sem.run_bind] using this
   ·simp at h
  | _=>simp[mC] at h
theorem AQ(hI:Inv M σ [] [] a.tmps w G) {d:Nat}(hd:o.dst=some d) (hN:d < M.N) {mx:Bool}{l:List Opd}{args:Array Operand}{atys:Array TypeId}(hc:args.toList.map bJ=l.map some) (ho:o.op=.call { callee:=.builtin (if mx then .max else .min),args:=args,argTypes:=atys })
 (hr:(ev1 d (.mm mx l)).run σ=some ((),σ')):g7 P M σ' a o w:=by
 simp only[ev1] at hr;obtain⟨r,σ1,h1,h2⟩:=bG hr
 obtain⟨rfl,e2,e3⟩:=ya (R:=λy x'=>y=a.eval x') (λx x' y σ' hx hy=>by
  obtain⟨t,σ2,q1,q2⟩:=bG hy;obtain⟨rfl,ht⟩:=cC hI.tmr hx q1;obtain⟨rfl,rfl⟩:=iZ q2
  exact⟨rfl,(ht.v_inv).1.symm⟩) hc h1
 have hr2:args.toList.map a.eval=r:=by
  apply List.ext_getElem
  ·simp[e2]
  ·intro k hk hk';have:=e3 k hk' (by simpa using hk);simpa using this.symm
 split at h2
 case h_2=>simp[SP.run] at h2
 rename_i k x rest;obtain⟨m,σ2,h3,h4⟩:=bG h2;obtain⟨hm,rfl⟩:=i5 h3;refine dT hI hd hN (x:=.int k m) (.v rfl) h4 ?_;have hf:=wi (P:=P) (w:=w) mx k rest x m hm
 have ha:(args.map a.eval).toList=.int k x :: rest:=by rw[Array.toList_map];exact hr2
 cases mx with
 | true=>
  simp only[if_true] at hf ho;simp[execOp,ho,resolve,invoke,builtin,Builtin.max_,hr2,hf]
 | false=>
  simp only[Bool.false_eq_true,if_false] at hf ho;simp[execOp,ho,resolve,invoke,builtin,Builtin.min_,hr2,hf]
theorem zH(hI:Inv M σ [] [] a.tmps w G) {d:Nat}(hd:o.dst=some d) (hN:d < M.N) {x i:Opd}{x' i':Operand}{t e n sz:Nat}(hx:bJ x'=some x) (hi:bJ i'=some i) (ho:o.op=.indexAddr t x' i')
 (hu:P.underlying t=some (.array n e)) (hs:(P.info? e).map (·.size)=some sz) (hr:(ev1 d (.idxa n sz x i)).run σ=some ((),σ')):g7 P M σ' a o w:=by
 have hso:(sizeOf e).run P w=.ok sz w:=by
  unfold sizeOf typeInfo
  cases hi:P.info? e with
  | none=>simp[hi] at hs
  | some i=>simp[hi] at hs;simp[hi,hs]
 simp only[ev1] at hr;obtain⟨tx,σ1,h1,h2⟩:=bG hr;obtain⟨rfl,hx1⟩:=cC hI.tmr hx h1;obtain⟨ti,σ2,h3,h4⟩:=bG h2;obtain⟨rfl,hi1⟩:=cC hI.tmr hi h3;obtain⟨k,σ3,h5,h6⟩:=bG h4;obtain⟨ik,m,rfl,hn0,hk,rfl⟩:=j0 h5;obtain⟨ei,_⟩:=hi1.v_inv
 cases tx with
 | ptr p vs=>
  simp only at h6;obtain⟨_,σ2,h7,h8⟩:=bG h6;have e1:σ2=σ3:=(bV h7).1;have e2:=(bV h7).2;subst e1;split at h8
  case isFalse=>simp[SP.run] at h8
  rename_i hc;simp only[oBA,oDE] at hc;obtain⟨hkn,hfit⟩:=hc;generalize hz:a.eval x'=z at hx1
  cases hx1 with
  | ptr V0 h0 hv h=>
   obtain⟨hr1,ad,t0,ha,rfl,hg0⟩:=h e2
   have hmn:m < (n:Int):=by omega
   refine dT hI hd hN (x:=.pointer (some (ad.add (k*sz)))) ?_ h8 (by subst hk;simp[execOp,ho,hz,ei,Instr.indexAt,asIntOf,Instr.sureAddr,run_underlying hu,hn0,hmn,hso]);refine .ptr V0 h0 (by rw[t9];exact hv) λ_=>⟨by rw[cL];exact hr1,⟨ad.block,ad.off+k*sz,none⟩,?_⟩;have hsp:=gj ha
   have hadd:ad.add (k*sz)=⟨ad.block,ad.off+k*sz,none⟩:=by
    obtain⟨b,ob,sp⟩:=ad;simp only at hsp;subst hsp;exact cR b ob (k*sz)
   rcases p.add_cases (k*sz) with ⟨q1,q2⟩ | ⟨hs',i,sz',o',q1,q2⟩
   ·exact⟨b8 M σ2 [] p.root (p.off+k*sz),iD _ ha,by rw[hadd],by rw[q2];rfl⟩
   ·have hlt:o'+k*sz < sz':=by
     unfold bQ.fits at hfit;rw[q1] at hfit;simpa using hfit
    rw[q1] at hg0;obtain⟨t',ht'⟩:=uP hg0 hlt;exact⟨t',iD _ ha,by rw[hadd],by rw[q2];exact ht'⟩
 | _=>simp[SP.run] at h6
theorem Bj(hI:Inv M σ [] [] a.tmps w G) {d:Nat}(hd:o.dst=some d) (hN:d < M.N) {x:Opd}{x':Operand}{s t e:TypeId}(hx:bJ x'=some x) (ho:o.op=.convert s t x') (hs:P.underlying s=some .string) (ht:P.underlying t=some (.slice e)) (he:P.underlying e=some (.int .u8))
 (hr:(ev1 d (.s2b x)).run σ=some ((),σ')):g7 P M σ' a o w:=by
 simp only[ev1] at hr;obtain⟨tx,σ1,h1,h2⟩:=bG hr;obtain⟨rfl,hx1⟩:=cC hI.tmr hx h1
 cases tx with
 | v y=>
  obtain⟨ex,_⟩:=hx1.v_inv
  cases y with
  | string str=>
   simp only at h2;split at h2
   case isFalse=>simp[SP.run] at h2
   rename_i hsz;obtain⟨n,hn⟩:∃n,n=w.tape w.drawn (.appendCap str.size 0 e):=⟨_,rfl⟩;obtain⟨cap,hcap⟩:∃cap,cap=str.size+n % (2 ^ 63 - str.size):=⟨_,rfl⟩
   have hcap1:str.size<=cap:=by omega
   have hcap2:cap<=maxLen:=by
    have:n % (2 ^ 63 - str.size) < 2 ^ 63 - str.size:=Nat.mod_lt _ (by omega);show cap<=2 ^ 63 - 1;omega
   obtain⟨row,hrow⟩:∃row:Array Value,row=(str.data.map λb=>Value.int .u8 b.toNat)++Array.replicate (cap - str.size) (.int .u8 0):=⟨_,rfl⟩;obtain⟨w1,hw1⟩:∃w1,w1=w.drew.alloc (.cells row e):=⟨_,rfl⟩
   have hheap:w1.heap=w.heap.push (.cells row e):=by rw[hw1];rfl
   have hsh:w1.shape? w.heap.size=some (e,row.size):=by
    unfold World.shape?;rw[hheap];simp
   have hrun:(execOp a.eval o).run P w=.ok (.value (.slice (some ⟨w.heap.size,0,none⟩) str.size cap)) (w1.freeze ⟨w.heap.size,row.size,none⟩ 1):=by
    simp only[execOp,ho,ex,convert,Sem.run_bind,run_underlying hs,run_underlying ht,run_underlying he,Result.andThen_ok,Conv.stringToBytes,run_choose_drew,Question.forced,Bool.false_eq_true,if_false,Question.cut,newRow,run_newObj_alloc,Sem.run_pure];rw[<- hn,<- hcap,<- hrow];simp only[show w.drew.heap.size=w.heap.size from rfl,<- hw1,markStringish,Sem.run_bind,run_shape,Result.andThen_ok,hsh,run_freeze,Sem.run_pure]
   have hold:∀k,k < w.heap.size->(w1.freeze ⟨w.heap.size,row.size,none⟩ 1).heap[k]?=w.heap[k]?:=by
    intro k hk;unfold World.freeze;rw[oIN (by decide)];simp only;rw[Array.getElem?_modify];rw[oIN (by omega),hheap];simp[Array.getElem?_push,show k≠w.heap.size by omega]
   have hnew:∃fz,(w1.freeze ⟨w.heap.size,row.size,none⟩ 1).heap[w.heap.size]?=some (.cells row e fz):=by
    unfold World.freeze;rw[oIN (by decide)];simp only;rw[Array.getElem?_modify,oIP rfl,hheap];exact⟨_,by simp only[Array.getElem?_push_size,oMS];rfl⟩
   obtain⟨fz,hnew⟩:=hnew;obtain⟨hI2,_⟩:=hI.grow (w':=w1.freeze ⟨w.heap.size,row.size,none⟩ 1) hold (by unfold World.freeze;rw[oIN (by decide)];simp[hheap]) (by rw[hw1];rfl) (by rw[hw1];rfl) (by rw[hw1];rfl);simp only[wr,SP.run,oSJ,oPJ,true_and] at h2;subst h2;refine⟨_,_,_,G,hrun,.inl rfl,?_⟩;rw[hd]
   have hbl:(jQ str).length=str.size:=by unfold jQ;rw[List.length_map,Array.length_toList];rfl
   refine hI2.wrT hN (.sl ?_)
   have him:iJ (w1.freeze ⟨w.heap.size,row.size,none⟩ 1) (G.F M.A) (.sl (jQ str)) (.slice (some ⟨w.heap.size,0,none⟩) (jQ str).length cap):=by
    refine .sl 1 (λi _=>.int .u8 (str.data.getD i 0).toNat) (λi h=>by simp[jQ]) (by omega) hcap2 (λh=>by simp at h) (λi j hi hj=>⟨w.heap.size,0,rfl,?_,?_⟩) λi j h h'=>?_
    ·exact⟨M.hA _ hI.fram.size,λr o h=>Nat.lt_irrefl _ (hI.core.live h),λr b o n hb e=>Nat.lt_irrefl _ (e ▸ hI.core.boxlt hb)⟩
    ·have hj0:j=0:=by omega
     subst hj0;rw[cell_of_row _ _ _ _ _ _ hnew]
     have hi':i < str.data.size:=by rw[hbl] at hi;exact hi
     have hg:str.data[i]?=some str.data[i]:=Array.getElem?_eq_getElem hi';rw[hrow];simp[Array.getElem?_append,show i < str.size from hi',Array.getD_eq_getD_getElem?,hg]
    ·have hj0:j=0:=by simp[jQ] at h';omega
     subst hj0
     have hi':i < str.data.size:=by rw[hbl] at h;exact h
     have:(jQ str)[i][0]=.v (.int .u8 (str.data.getD i 0).toNat):=by
      have hg:str.data[i]?=some str.data[i]:=Array.getElem?_eq_getElem hi';simp[jQ,Array.getD_eq_getD_getElem?,hg]
     rw[this];exact .v rfl
   rw[hbl] at him;exact him
  | _=>simp[SP.run] at h2
 | _=>simp[SP.run] at h2
theorem yS{c:List (List TV)}:∀{ns:List Int},o7 c=some ns->ns.length=c.length/\∀i (h:i < c.length) (h':i < ns.length),c[i]=[.v (.int .u8 ns[i])]:=by
 induction c with
 | nil=>intro ns h;simp only[o7,oSJ] at h;subst h;exact⟨rfl,λi h=>by simp at h⟩
 | cons e c ih=>
  intro ns h;unfold o7 at h;split at h
  ·rename_i h1;simp at h1
  ·rename_i n r h1
   injection h1 with h1 h2
   subst h1;subst h2
   cases hb:o7 c with
   | none=>simp[hb] at h
   | some l=>
    simp only[hb,oMS,oSJ] at h;subst h;obtain⟨e1,e2⟩:=ih hb;refine⟨by simp[e1],λi hi hi'=>?_⟩
    cases i with
    | zero=>rfl
    | succ i=>exact e2 i (by simpa using hi) (by simpa using hi')
  ·simp at h
theorem BA(hI:Inv M σ [] [] a.tmps w G) {d:Nat}(hd:o.dst=some d) (hN:d < M.N) {x:Opd}{x':Operand}{s t e:TypeId}(hx:bJ x'=some x) (ho:o.op=.convert s t x') (hs:P.underlying s=some (.slice e)) (ht:P.underlying t=some .string) (he:P.underlying e=some (.int .u8))
 (hr:(ev1 d (.b2s x)).run σ=some ((),σ')):g7 P M σ' a o w:=by
 simp only[ev1] at hr;obtain⟨tx,σ1,h1,h2⟩:=bG hr;obtain⟨rfl,hx1⟩:=cC hI.tmr hx h1;obtain⟨t',σ2,h3,h4⟩:=bG h2;obtain⟨G1,hg1,_⟩:=eD hI hx1 h3;simp only[List.nil_append] at hg1;obtain⟨G2,hg2,_⟩:=hg1.1.drop
 have fin:∀str ad len cap,a.eval x'=.slice ad len cap->(Conv.bytesToString (.slice ad len cap)).run P w=.ok (.string str) w->(wr d (.v (.string str))).run σ2=some ((),σ')->g7 P M σ' a o w:=by
  intro str ad len cap ex hrun hw;refine dT hg2.1 hd hN (x:=.string str) (.v rfl) hw ?_;simp only[execOp,ho,Sem.run_bind,ex]
  have:(convert s t (.slice ad len cap)).run P w=.ok (.string str) w:=by
   unfold convert;simp only[Sem.run_bind,run_underlying hs,run_underlying ht,run_underlying he,Result.andThen_ok];exact hrun
  rw[this];rfl
 have hown:=λh=>hg1.1.hand_own (j:=0) (by simp) h;simp only[List.getElem_cons_zero,List.getD_cons_zero] at hown;split at h4
 ·rename_i c;obtain⟨str,σ3,h5,h6⟩:=bG h4;obtain⟨hb,rfl⟩:=i5 h5;have hown:=hown (by simp);generalize hz:a.eval x'=z at hown
  cases hown with
  | sl hfp h=>
   cases h with
   | @sl _ ad cap sz u hsz hcap hmax hnil hcell hrec=>
    unfold bstr at hb
    cases hbn:o7 c with
    | none=>simp[hbn] at hb
    | some ns=>
     simp only[hbn,oMS,oSJ] at hb;obtain⟨hl,hget⟩:=yS hbn;refine fin str _ _ _ hz ?_ h6
     cases ad with
     | none=>
      have hc0:c.length=0:=by have:=hnil rfl;omega
      have hns:ns=[]:=oEN (by omega);subst hns;rw[<- hb];rfl
     | some ad=>
      rw[<- hb];refine run_bytesToString w ad c.length cap ns ?_
      have:=run_loadCells_list (P:=P) w ad (ns.map (Value.int .u8)) λj v hj=>by
       have hjl:j < ns.length:=by
        rcases Nat.lt_or_ge j ns.length with h | h
        ·exact h
        ·rw[oGN (by simpa using h)] at hj;simp at hj
       have hjc:j < c.length:=by omega
       have e1:=hget j hjc hjl
       have hs1:sz=1:=by rw[<- hsz j hjc,e1];rfl
       subst hs1;obtain⟨b,o',hab,hF,hcl⟩:=hcell j 0 hjc (by omega)
       injection hab with hab
       subst hab;have hr:=hrec j 0 hjc (by rw[e1];simp)
       have e2:c[j][0]'(by rw[e1];simp)=.v (.int .u8 ns[j]):=by simp[e1]
       rw[e2] at hr
       have hu:u j 0=.int .u8 ns[j]:=by
        generalize u j 0=y at hr;cases hr;rfl
       have hv:v=.int .u8 ns[j]:=by simpa [hjl] using hj.symm
       rw[hv,<- hu,cR];simpa using hcl
      simpa [hl] using this
 ·have hown:=hown (by simp);generalize hz:a.eval x'=z at hown
  cases hown with
  | @nil _ ad hfp=>
   refine fin .empty _ _ _ hz ?_ h4
   cases ad with
   | none=>rfl
   | some ad=>
    have:=run_bytesToString (P:=P) w ad 0 0 [] (by simp[loadCells,loadCellsFrom]);simpa using this
  | @ow _ _ b cap cur e' sz' u f hfp hb hsz hcap hz0 hmax hcur hcell hrec hnb hdis=>
   refine fin .empty _ _ _ hz ?_ h4;have:=run_bytesToString (P:=P) w ⟨b,0,none⟩ 0 cap [] (by simp[loadCells,loadCellsFrom]);simpa using this
 ·simp[SP.run] at h4
theorem zK(hI:Inv M σ [] [] a.tmps w G) {d:Nat}{mv:Bool}(hd:o.dst=some d) (hN:d < M.N) {t e n sz:TypeId}{parts:Array (Nat×Operand)}{ps:List (Nat×Nat×Opd)}{z:List Value}(ho:o.op=.build t parts) (hu:P.underlying t=some (.array n e))
 (hz:(P.info? t).bind (·.zero.map (·.cells.toList))=some z) (hs:(P.info? e).map (·.size)=some sz) (hp1:parts.size=ps.length)
 (hp2:∀k (h:k < parts.size) (h':k < ps.length),bJ parts[k].2=some ps[k].2.2/\ps[k].1=parts[k].1*sz/\ps[k].2.1=sz/\ps[k].1+ps[k].2.1<=z.length)
 (hr:(ev1 d (.bld z mv ps)).run σ=some ((),σ')):g7 P M σ' a o w:=by
 simp only[ev1] at hr;split at hr
 case isFalse=>simp[SP.run] at hr
 rename_i hok;obtain⟨l,σ1,h1,h2⟩:=bG hr;obtain⟨l',σ2,h3,h4⟩:=bG h2
 obtain⟨G1,g1,hokl,hsz2⟩:=js (a:=a) (pv:=parts.toList.map (·.2)) hI (by
  apply List.ext_getElem
  ·simp[hp1]
  ·intro k hk hk';have:=(hp2 k (by simpa using hk) (by simpa using hk')).1
   simpa using this) h1
 simp only[List.nil_append] at g1;obtain⟨G2,hI2,_,hl2,ht2⟩:=ne g1.1 hokl h3;obtain⟨ys,hys⟩:∃ys,ys=(parts.toList.map (·.2)).flatMap (λx=>(a.eval x).cells.toList):=⟨_,rfl⟩;rw[<- hys] at g1 ht2
 have hlen:l'.length=ys.length:=by rw[hl2];exact g1.1.hand
 have hzc:∀j (h:j < (z.map cP).length) (h':j < z.length),TmR w (G2.F M.A) σ2.v (b8 M σ2 []) G2 (z.map cP)[j] z[j]:=λj h h'=>by simp only[List.getElem_map];exact lc _
 obtain⟨r1,r2⟩:=ji (R:=TmR w (G2.F M.A) σ2.v (b8 M σ2 []) G2) ps l' ys (z.map cP) z (by simp) hzc hlen (λj h h'=>by have:=ht2 j h;simpa [h'] using this);refine dT hI2 hd hN (x:=.agg (gW z ps ys).toArray) (.agg (by simp[r1]) λj hj=>by have:=r2 j hj (by omega);simpa [show j < (gW z ps ys).length by omega] using this) h4 ?_
 cases hi:P.info? t with
 | none=>simp[hi] at hz
 | some i=>
  simp only[hi,oBS] at hz
  cases hiz:i.zero with
  | none=>simp[hiz] at hz
  | some v=>
   simp only[hiz,oMS,oSJ] at hz
   have hzv:(zeroValue t).run P w=.ok v w:=by simp[zeroValue,typeInfo,hi,hiz]
   have hso:(sizeOf e).run P w=.ok sz w:=by
    unfold sizeOf typeInfo
    cases hi:P.info? e with
    | none=>simp[hi] at hs
    | some i=>simp[hi] at hs;simp[hi,hs]
   have hfill:=oa (place:=λi=>some (i*sz,sz)) (parts.toList.map λp=>(p.1,a.eval p.2)) ps v.cells (by simp[hp1]) (λk h h'=>by
    have hk:k < parts.size:=by simpa using h
    obtain⟨q1,q2,q3,q5⟩:=hp2 k hk h';have q4:=hsz2 k h' (by simpa using hk);refine⟨by simp[q2,q3],by simpa using q4,?_⟩;rw[<- hz] at q5
    simpa using q5)
   have hfl:((parts.toList.map λp=>(p.1,a.eval p.2)).flatMap (·.2.cells.toList))=ys:=by rw[hys];simp[List.flatMap_map]
   rw[hfl,hz] at hfill;simp only[execOp,ho,Instr.build,Sem.run_bind,hzv,Result.andThen_ok,run_underlying hu,hso,Array.toList_map];rw[hfill];simp
end
theorem mu{α:Type}{l:List α}{i:Nat}{x:α}{f g:α->α}(h:l[i]?=some x) (e:f x=g x):l.modify i f=l.modify i g:=by
 apply List.ext_getElem?;intro k;simp only[List.getElem?_modify];by_cases hk:i=k
 ·subst hk;simp[h,e]
 ·simp[hk]
theorem tJ{hs:List Hop}{i sz j:Nat}{c:List (List TV)}{el:List TV}{t1:TV}:∀{t:TV},bZ t hs=some (.ow c)->c[i]?=some el->el.length=sz->el[j]?=some t1->bZ t (hs++[(i,sz,j)])=some t1:=by
 induction hs with
 | nil=>
  intro t h h1 h2 h3;simp only[bZ,oSJ] at h;subst h;simp[bZ,h1,h2,h3]
 | cons hp hs ih=>
  obtain⟨a,b,d⟩:=hp;intro t h h1 h2 h3;obtain⟨c0,el0,t0,rfl,k1,k2,k3,k4⟩:=dg h;simp only[List.cons_append,bZ,k1,k2,if_true,k3];exact ih k4 h1 h2 h3
theorem sZ{hs:List Hop}{i sz j:Nat}{c:List (List TV)}{x:TV}:∀{t:TV},bZ t hs=some (.ow c)->dF t (hs++[(i,sz,j)]) x=dF t hs (.ow (c.modify i λel=>el.modify j λ_=>x)):=by
 induction hs with
 | nil=>
  intro t h;simp only[bZ,oSJ] at h;subst h;simp[dF]
 | cons hp hs ih=>
  obtain⟨a,b,d⟩:=hp;intro t h;obtain⟨c0,el0,t0,rfl,k1,k2,k3,k4⟩:=dg h;simp only[List.cons_append,dF];congr 1;refine mu k1 (mu k3 (ih k4))
theorem xw{hs:List Hop}{x y:TV}:∀{t:TV},dF (dF t hs y) hs x=dF t hs x:=by
 induction hs with
 | nil=>intro t;rfl
 | cons hp hs ih=>
  obtain⟨a,b,d⟩:=hp;intro t
  cases t with
  | ow c=>
   simp only[dF];congr 1;apply List.ext_getElem?;intro k;simp only[List.getElem?_modify];by_cases hk:a=k
   ·subst hk
    cases c[a]? with
    | none=>rfl
    | some el=>
     simp only[if_true,Option.map_eq_map,oMS];congr 1;apply List.ext_getElem?;intro k;simp only[List.getElem?_modify,Option.map_eq_map];by_cases hk:d=k
     ·subst hk
      cases el[d]? with
      | none=>rfl
      | some t1=>simp[ih]
     ·cases el[k]?<;>simp[hk]
   ·cases c[k]?<;>simp[hk]
  | _=>rfl
theorem ox{α:Type}(l:List (Nat×α)) (i:Nat) (x y:α):dk (dk l i x) i y=dk l i y:=by
 induction l with
 | nil=>simp[dk]
 | cons h r ih=>
  obtain⟨k,v⟩:=h;simp only[dk];by_cases hk:k=i
  ·subst hk;simp[dk]
  ·simp[hk,dk,ih]
theorem sL{w:World}{hs:List Hop}{k sz n cap j:Nat}{ad:Addr}:∀{x:Value},hvT w x hs=some (.slice (some ad) n cap)->k < n->ci w x (hs++[(k,sz,j)])=some ⟨ad.block,ad.off+(k*sz+j),none⟩:=by
 induction hs with
 | nil=>
  intro x h hk;simp only[hvT,oSJ] at h;subst h;simp[ci,hk]
 | cons hp hs ih=>
  obtain⟨i,sz',o⟩:=hp;intro x h hk;simp only[hvT] at h
  cases x with
  | slice a l c=>
   cases a with
   | none=>cases hs<;>simp[ci] at h
   | some a=>
    obtain⟨hd,tl,hht⟩:∃hd tl,hs++[(k,sz,j)]=hd :: tl:=by cases hs<;>exact⟨_,_,rfl⟩
    cases hs with
    | nil=>
     simp only[ci] at h;split at h
     ·rename_i hi;simp only[oBS] at h;simp only[List.cons_append,List.nil_append,ci,hi,if_true,h,hk]
     ·simp at h
    | cons hp2 hs2=>
     simp only[ci] at h;split at h
     ·rename_i hi;split at h
      ·rename_i y hy;rw[List.cons_append,hht];simp only[ci,hi,if_true,hy];rw[<- hht];exact ih (by simpa [hvT] using h) hk
      ·simp at h
     ·simp at h
  | _=>cases hs<;>simp[ci] at h
section
variable {P:Program} {M:Fm} {σ σ':St} {H:List TV} {xs:List Value} {ts:Array Value} {w:World} {G:Gh} {a:Act} {o:Oper}
def St.sub(σ:St) (p:bQ) (l:List TV) (t:TV):St:=⟨σ.tm,dk σ.ce p.root (l.set p.off (dF (σ.c p.root p.off) p.hops t)),σ.vr⟩
theorem sS{p:bQ}{l:List TV}{t:TV}(hl:p.off < l.length):(σ.sub p l t).c p.root p.off=dF (σ.c p.root p.off) p.hops t:=by
 simp only[St.c,St.sub,cq,if_true];simp[hl]
theorem zU(hI:Inv M σ [] [] ts w G) {p:bQ}{c:List (List TV)}{el:List TV}{b n cap i sz j:Nat}{old v:Value}(hr1:p.root≠1) (hhv:G.hv w p=some (.slice (some ⟨b,0,none⟩) n cap)) (hg:bZ (σ.c p.root p.off) p.hops=some (.ow c)) (hin:i < n)
 (hi:c[i]?=some el) (hl:el.length=sz) (hj:el[j]?=some (.v old)) (hv:ed v=true) {l:List TV} (hal:ca σ.ce p.root=some l) (hol:p.off < l.length) :
 ∃G',Inv M (σ.sub p l (.ow (c.modify i λel=>el.modify j λ_=>.v v))) [] [] ts (w.setCell ⟨b,i*sz+j,none⟩ v) G'/\(w.cell? ⟨b,i*sz+j,none⟩).isSome=true/\w.frozen? ⟨b,i*sz+j,none⟩=false/\G'.hv (w.setCell ⟨b,i*sz+j,none⟩ v) p=some (.slice (some ⟨b,0,none⟩) n cap):=by
 obtain⟨G1,hg1⟩:=hI.addHand (t:=.v v) (x:=v) (.v (λ_ h=>h) hv);simp only[List.nil_append] at hg1
 have hgE:bZ (b8 M σ [] p.root p.off) p.hops=some (.ow c):=by rw[b6 (by exact hr1)];exact hg
 obtain⟨c1,hhv1,_,_⟩:=hg1.2.2.1.hdr p _ c hr1 rfl hhv hgE
 obtain⟨hd,tl,hht⟩:∃hd tl,p.hops++[(i,sz,j)]=hd :: tl:=by cases p.hops<;>exact⟨_,_,rfl⟩
 have hadr:G1.addrB w ⟨p.root,p.off,p.hops++[(i,sz,j)]⟩=some ⟨b,i*sz+j,none⟩:=by
  have:=sL (sz:=sz) (j:=j) hhv1 hin;unfold Gh.addrB;simp only[hht];rw[<- hht,this];simp
 have hgq:bZ (σ.c p.root p.off) (p.hops++[(i,sz,j)])=some (.v old):=tJ hg hi hl hj
 have hgqE:bZ (b8 M σ [.v v] p.root p.off) (p.hops++[(i,sz,j)])=some (.v old):=by rw[b6 (by exact hr1)];exact hgq
 have hrun:(oB ⟨p.root,p.off,p.hops++[(i,sz,j)]⟩ (.v v)).run σ=some ((),σ.sub p l (.ow (c.modify i λel=>el.modify j λ_=>.v v))):=by
  simp only[oB,SP.run,hgq,ln,Bool.or_self,Bool.false_eq_true,if_false,hal,hol,if_true];rw[sZ hg];rfl
 obtain⟨⟨u,hu⟩,hfr,G2,hI2,hm,htm,hβ⟩:=hg1.1.put (p:=⟨p.root,p.off,p.hops++[(i,sz,j)]⟩) (j:=0) hr1 hadr hgqE (by simp) (by simp) (by simpa using hrun);simp only[List.getD_cons_zero] at hI2 hm
 have hI3:=hI2.clear (by intro k hk;have:k=0:=by simp at hk;omega
                         subst this;simp)
 have hgE1:bZ (b8 M σ [.v v] p.root p.off) p.hops=some (.ow c):=by rw[b6 (by exact hr1)];exact hg
 obtain⟨c2,hhv2,_,_⟩:=hm.keeps.hdr p _ c hr1 rfl hhv1 hgE1;exact⟨G2,hI3,by rw[hu];rfl,hfr,hhv2⟩
theorem m0{c:List (List TV)}{i j i' j':Nat}{x:TV}{el:List TV}{y:TV}(h:c[i']?=some el) (hy:el[j']?=some y) (hne:¬ (i'=i/\j'=j)) :
 ∃el',(c.modify i λel=>el.modify j λ_=>x)[i']?=some el'/\el'[j']?=some y:=by
 simp only[List.getElem?_modify,h,Option.map_eq_map,oMS];by_cases hi:i=i'
 ·subst hi;refine⟨_,rfl,?_⟩;have hj:¬ j=j':=λe=>hne ⟨rfl,e.symm⟩;simp only[if_true,List.getElem?_modify,hj,if_false,Option.map_eq_map];simpa using hy
 ·refine⟨_,rfl,?_⟩;simpa [hi] using hy
theorem zZ{p:bQ}{b n cap sz:Nat}(hr1:p.root≠1) (hsz:0 < sz):∀(vals:List Value) (c:List (List TV)) (o:Nat) (σ:St) (w:World) (G:Gh) (l:List TV),vals≠[]->Inv M σ [] [] ts w G->G.hv w p=some (.slice (some ⟨b,0,none⟩) n cap)->bZ (σ.c p.root p.off) p.hops=some (.ow c)->n=c.length ->
 (∀el∈c,el.length=sz)->(∀v∈vals,ed v=true)->(∀t,o<=t->t < o+vals.length->∃el y,c[t / sz]?=some el/\el[t % sz]?=some (.v y))->ca σ.ce p.root=some l->p.off < l.length ->
 (∃G',Inv M (σ.sub p l (.ow (iR sz c o vals))) [] [] ts (w.setCells b o vals) G')/\∀j,j < vals.length->(w.cell? ⟨b,o+j,none⟩).isSome=true/\w.frozen? ⟨b,o+j,none⟩=false:=by
 intro vals
 induction vals with
 | nil=>intro c o σ w G l h;exact absurd rfl h
 | cons v vals ih=>
  intro c o σ w G l _ hI hhv hg hn hlen hvf hfl hal hol;obtain⟨el,y,h1,h2⟩:=hfl o (Nat.le_refl _) (by simp);have hel:el.length=sz:=hlen el (List.mem_of_getElem? h1)
  have hio:o / sz < n:=by rw[hn];exact (oGS h1).1
  have ho:o / sz*sz+o % sz=o:=by rw[Nat.mul_comm];exact Nat.div_add_mod o sz
  obtain⟨G1,hI1,hs1,hf1,hhv1⟩:=zU hI hr1 hhv hg hio h1 hel h2 (hvf v (by simp)) hal hol;rw[ho] at hI1 hs1 hf1 hhv1
  cases vals with
  | nil=>
   refine⟨⟨G1,hI1⟩,λj hj=>?_⟩
   obtain rfl:j=0:=by simp at hj;omega
   exact⟨hs1,hf1⟩
  | cons v2 vals=>
   obtain⟨c1,hc1⟩:∃c1,c1=c.modify (o / sz) λel=>el.modify (o % sz) λ_=>.v v:=⟨_,rfl⟩;rw[<- hc1] at hI1;obtain⟨l1,hl1⟩:∃l1,l1=l.set p.off (dF (σ.c p.root p.off) p.hops (.ow c1)):=⟨_,rfl⟩;have hsc:(σ.sub p l (.ow c1)).c p.root p.off=dF (σ.c p.root p.off) p.hops (.ow c1):=sS hol
   obtain⟨⟨G2,hI2⟩,hc2⟩:=ih c1 (o+1) (σ.sub p l (.ow c1)) _ G1 l1 (by simp) hI1 hhv1 (by rw[hsc];exact oY hg) (by rw[hn,hc1];simp) (λel' hel'=>by
    have hml:=iG c (o / sz) (o % sz) (λ_=>.v v);have:el'.length∈c1.map List.length:=List.mem_map_of_mem hel';rw[hc1,hml] at this;obtain⟨e3,e4,e5⟩:=List.mem_map.1 this
    rw[<- e5];exact hlen e3 e4) (λx hx=>hvf x (by simp only[List.mem_cons] at hx ⊢;exact .inr hx)) (λt ht1 ht2=>by
    obtain⟨el',y',q1,q2⟩:=hfl t (by omega) (by simp at ht2 ⊢;omega)
    obtain⟨el2,q3,q4⟩:=m0 (x:=.v v) q1 q2 (i:=o / sz) (j:=o % sz) (by
     rintro⟨e1,e2⟩;have h3:=Nat.div_add_mod t sz;have h4:=Nat.div_add_mod o sz;rw[e1,e2] at h3
     omega)
    exact⟨el2,y',by rw[hc1];exact q3,q4⟩) (by simp[St.sub,cq,hl1]) (by rw[hl1];simpa using hol)
   refine⟨⟨G2,?_⟩,λj hj=>?_⟩
   ·have e:(σ.sub p l (.ow c1)).sub p l1 (.ow (iR sz c1 (o+1) (v2 :: vals)))=σ.sub p l (.ow (iR sz c o (v :: v2 :: vals))):=by
     unfold St.sub;have hsc':(St.c ⟨σ.tm,dk σ.ce p.root (l.set p.off (dF (σ.c p.root p.off) p.hops (.ow c1))),σ.vr⟩ p.root p.off)=dF (σ.c p.root p.off) p.hops (.ow c1):=hsc;rw[hsc',xw,ox,hl1,List.set_set];simp only[iR,<- hc1]
    rw[e] at hI2;exact hI2
   ·cases j with
    | zero=>exact⟨hs1,hf1⟩
    | succ j=>
     have:=hc2 j (by simpa using hj);rw[show o+1+j=o+(j+1) by omega,World.frozen?_setCell] at this;refine⟨?_,this.2⟩
     have hne:(⟨b,o,none⟩:Addr)≠⟨b,o+(j+1),none⟩:=λe=>by have:=congrArg Addr.off e;simp at this
     rw[World.cell?_setCell_other w _ _ _ hne] at this;exact this.1
theorem sr:∀{l:List TV}{vs:List Value},cd l=some vs->vs.length=l.length/\∀j (h:j < l.length) (h':j < vs.length),l[j]=.v vs[j]:=by
 intro l
 induction l with
 | nil=>intro vs h;simp only[cd,oSJ] at h;subst h;exact⟨rfl,λj h=>by simp at h⟩
 | cons t l ih=>
  intro vs h
  cases t with
  | v x=>
   simp only[cd] at h
   cases hl:cd l with
   | none=>simp[hl] at h
   | some r=>
    simp only[hl,oMS,oSJ] at h;subst h;obtain⟨e1,e2⟩:=ih hl;refine⟨by simp[e1],λj hj hj'=>?_⟩
    cases j with
    | zero=>rfl
    | succ j=>exact e2 j (by simpa using hj) (by simpa using hj')
  | _=>simp[cd] at h
theorem rm{c:List (List TV)}{sz m:Nat}(hs:∀i (h:i < c.length),c[i].length=sz) (hm:m<=c.length):(c.take m).flatten.length=m*sz:=by
 rw[n8 (sz:=sz) λi h=>by simpa using hs i (by simp at h;omega)];simp[hm]
theorem lX{F fp:Nat->Prop}{t:TV}{v x:Value}{c c2:List (List TV)}{sz lo n cap:Nat}{ad:Option Addr}(h:d8 w F fp t v) (ht:t=.ow c\/t=.sl c) (hs:∀i (h:i < c.length),c[i].length=sz) (hpos:0 < sz) (hc2:c2=(c.drop lo).take n) (hln:lo+n<=c.length)
 (hx:x=.slice ad n cap) (had:0 < n->∃b o len cap',v=.slice (some ⟨b,o,none⟩) len cap'/\ad=some ⟨b,o+lo*sz,none⟩) (hnone:ad=none->n=0) {m:Nat} {vs:List Value} (hm:m<=c2.length) (hf:cd (c2.take m).flatten=some vs):(Builtin.firstCells sz m x).run P w=.ok vs.toArray w:=by
 subst hx
 have hc2l:c2.length=n:=by rw[hc2];simp;omega
 have hs2:∀i (h:i < c2.length),c2[i].length=sz:=λi h=>by
  subst hc2;simp only[List.getElem_take,List.getElem_drop];exact hs _ (by simp at h;omega)
 obtain⟨e1,e2⟩:=sr hf;have hfl:=rm hs2 hm
 cases ad with
 | none=>
  have hn:=hnone rfl
  have hm0:m=0:=by omega
  subst hm0;have:vs=[]:=oEN (by rw[e1,hfl];omega);subst this;rfl
 | some ad=>
  show (loadCells ad (m*sz)).run P w=_;obtain⟨a,capX,vals,f,rfl,hvl,hcells,hrec,_⟩:=h.rows ht hs
  have hvl2:vs.length=m*sz:=by rw[e1,hfl]
  have:=run_loadCells_list (P:=P) w ad vs λj y hj=>by
   have hjl:j < vs.length:=by
    rcases Nat.lt_or_ge j vs.length with h | h
    ·exact h
    ·rw[oGN h] at hj;simp at hj
   have hjm:j < m*sz:=by omega
   have hq:j / sz < m:=(Nat.div_lt_iff_lt_mul hpos).2 hjm;have hr:j % sz < sz:=Nat.mod_lt _ hpos
   have hqc:j / sz < c2.length:=by omega
   have hidx:lo+j / sz < c.length:=by omega
   have hrl:j % sz < (c[lo+j / sz]).length:=by rw[hs _ hidx];exact hr
   have hoff:(lo+j / sz)*sz+j % sz=lo*sz+j:=by
    rw[Nat.add_mul];have:=Nat.div_add_mod j sz;rw[Nat.mul_comm] at this;omega
   have hown:=hrec (lo+j / sz) (j % sz) hidx hrl;rw[hoff] at hown
   have hel:c[lo+j / sz][j % sz]=.v y:=by
    have h1:=e2 j (by rw[hfl];exact hjm) hjl;have h2:=kO (c:=c2.take m) (sz:=sz) (λi h=>by simpa using hs2 i (by simp at h;omega)) (i:=j / sz) (j:=j % sz) (by simp;omega) (by rw[List.getElem_take,hs2 _ hqc];exact hr);rw[show j / sz*sz+j % sz=j by rw[Nat.mul_comm];exact Nat.div_add_mod j sz,oGE (by rw[hfl];exact hjm),h1] at h2
    injection h2 with h2
    have h3:(c2.take m)[j / sz]'(by simp;omega)=c[lo+j / sz]:=by
     subst hc2;simp
    have hy:vs[j]=y:=by simpa [hjl] using hj
    rw[<- hy,h2];simp only[h3]
   rw[hel] at hown
   have hvj:vals.getD (lo*sz+j) undef=y:=by
    generalize vals.getD (lo*sz+j) undef=z at hown
    cases hown with
    | v hfp hfl=>rfl
   have hlt:lo*sz+j < vals.length:=by
    rw[hvl]
    have:(lo+j / sz)*sz+sz<=c.length*sz:=by
     have:(lo+j / sz+1)*sz<=c.length*sz:=Nat.mul_le_mul_right _ hidx;rw[Nat.add_mul,Nat.one_mul] at this;exact this
    omega
   obtain⟨b,o,hab,hcl⟩:=hcells (lo*sz+j) y (by rw[oGE hlt];rw[oGD,oGE hlt] at hvj;simpa using hvj);obtain⟨b',o',len,cap',hv',had'⟩:=had (by rw[<- hc2l];exact Nat.lt_of_le_of_lt (Nat.zero_le _) hqc)
   injection hv' with hv' _ _
   rw[hv'] at hab
   injection hab with hab
   injection hab with hb ho _
   subst hb;subst ho
   injection had' with had'
   rw[had',cR,show o'+lo*sz+j=o'+(lo*sz+j) by omega];exact hcl
  rw[hvl2] at this;exact this
theorem wn(hI:Inv M σ [] [] ts w G) {u:TV}{v:Value}(hu:TmR w (G.F M.A) σ.v (b8 M σ []) G u v) {c2:List (List TV)}(hr:(contentOf u).run σ=some (c2,σ')):σ'=σ/\∀sz,0 < sz->(∀i (h:i < c2.length),c2[i].length=sz) ->
 ∃ad cap,v=.slice ad c2.length cap/\∀m vs,m<=c2.length->cd (c2.take m).flatten=some vs->(Builtin.firstCells sz m v).run P w=.ok vs.toArray w:=by
 cases u with
 | sl c=>
  simp only[contentOf,SP.run,oSJ,oPJ] at hr;obtain⟨rfl,rfl⟩:=hr;refine⟨rfl,λsz hpos hs=>?_⟩
  cases hu with
  | sl h=>
   have hown:d8 w (G.F M.A) (λ_=>False) (.sl c) v:=.sl (λ_ h=>h) h;obtain⟨ad,cap,hv,_⟩:=h.hdr;refine⟨ad,cap,hv,λm vs hm hf=>lX (lo:=0) (n:=c.length) hown (.inr rfl) hs hpos (by simp) (by simp) hv (λhn=>?_) (λhe=>?_) hm hf⟩
   ·cases h with
    | @sl _ a cap sz' u hsz hcap hmax hnil hcell hrec=>
     have e:sz'=sz:=by rw[<- hsz 0 hn,hs 0 hn]
     subst e;obtain⟨b,o,ha,_,_⟩:=hcell 0 0 hn hpos
     injection hv with hv _ _
     exact⟨b,o,_,_,by rw[ha],by rw[<- hv,ha];simp⟩
   ·cases h with
    | @sl _ a cap sz' u hsz hcap hmax hnil hcell hrec=>
     injection hv with hv _ _
     rw[hv] at hnil;have:=hnil he;omega
 | ow c=>
  cases hu with
  | @nil ad=>
   simp only[contentOf,SP.run,oSJ,oPJ] at hr;obtain⟨rfl,rfl⟩:=hr;refine⟨rfl,λsz hpos hs=>⟨ad,0,rfl,λm vs hm hf=>?_⟩⟩
   have hm0:m=0:=by simpa using hm
   subst hm0;simp only[List.take_zero,List.flatten_nil,cd,oSJ] at hf;subst hf;cases ad<;>simp[Builtin.firstCells,loadCells,loadCellsFrom]
 | pk p vs=>
  simp only[contentOf] at hr;obtain⟨_,σ1,h1,h2⟩:=bG hr;have e1:σ1=σ:=(bV h1).1;have e2:=(bV h1).2;subst e1;obtain⟨tt,σ2,h3,h4⟩:=bG h2;obtain⟨e3,hg⟩:=cQ h3;have e3:σ2=σ1:=e3;subst e3
  cases hu with
  | pk V0 h0 hv h=>
   obtain⟨hr1,c,hhv,hgc⟩:=h e2
   have hgc':bZ (σ2.c p.root p.off) p.hops=some (.ow c):=by rw[b6 (by exact hr1)] at hgc;exact hgc
   rw[hgc'] at hg
   injection hg with hg
   subst hg;simp only[SP.run,oSJ,oPJ] at h4;obtain⟨rfl,rfl⟩:=h4;refine⟨rfl,λsz hpos hs=>?_⟩;obtain⟨fp,hown⟩:=ms hI hhv hgc;obtain⟨ad,cap,hv',_⟩:=hown.hdr;refine⟨ad,cap,hv',λm vs hm hf=>lX (lo:=0) (n:=c.length) hown (.inl rfl) hs hpos (by simp) (by simp) hv' (λhn=>?_) (λhe=>?_) hm hf⟩
   ·cases hown with
    | nil=>simp at hn
    | @ow _ _ b cap cur e' sz' u f hfp hb hsz hcap hz0 hmax hcur hcell hrec hnb hdis=>
     injection hv' with hv' _ _
     exact⟨b,0,_,_,rfl,by rw[<- hv'];simp⟩
   ·cases hown with
    | nil=>rfl
    | @ow _ _ b cap cur e' sz' u f hfp hb hsz hcap hz0 hmax hcur hcell hrec hnb hdis=>
     injection hv' with hv' _ _
     rw[he] at hv';simp at hv'
 | pw p vs sz0 lo n=>
  simp only[contentOf] at hr;obtain⟨_,σ1,h1,h2⟩:=bG hr;have e1:σ1=σ:=(bV h1).1;have e2:=(bV h1).2;subst e1;obtain⟨tt,σ2,h3,h4⟩:=bG h2;obtain⟨e3,hg⟩:=cQ h3;have e3:σ2=σ1:=e3;subst e3
  cases hu with
  | pw V0 h0 hv h=>
   obtain⟨hr1,c,hd,hhv,hgc,hln,a,cap,hx,hncap,hmx,hnil,hszc,had⟩:=h e2
   have hgc':bZ (σ2.c p.root p.off) p.hops=some (.ow c):=by rw[b6 (by exact hr1)] at hgc;exact hgc
   rw[hgc'] at hg
   injection hg with hg
   subst hg;simp only[SP.run,oSJ,oPJ] at h4;obtain⟨rfl,rfl⟩:=h4;refine⟨rfl,λsz hpos hs=>?_⟩
   have hl2:((c.drop lo).take n).length=n:=by simp;omega
   obtain⟨fp,hown⟩:=ms hI hhv hgc;by_cases hn:n=0
   ·subst hn;refine⟨a,cap,by rw[hl2];exact hx,λm vs hm hf=>?_⟩
    have hm0:m=0:=by omega
    subst hm0;simp only[List.take_zero,List.flatten_nil,cd,oSJ] at hf;subst hf;rw[hx]
    cases a with
    | none=>rfl
    | some a=>simp[Builtin.firstCells,loadCells,loadCellsFrom]
   ·have hsz0:sz0=sz:=by
     rw[<- hs 0 (by omega)];simp only[List.getElem_take,List.getElem_drop];exact (hszc _ (by omega)).symm
    subst hsz0;refine⟨a,cap,by rw[hl2];exact hx,λm vs hm hf=>lX (lo:=lo) (n:=n) hown (.inl rfl) hszc hpos rfl hln hx (λhn=>?_) (λhe=>?_) hm hf⟩
    ·obtain⟨b,len,cap',q1,q2⟩:=had hn;exact⟨b,0,len,cap',q1,by rw[q2];simp⟩
    ·obtain⟨b,len,cap',q1,q2⟩:=had (by omega);rw[he] at q2;simp at q2
 | _=>simp[contentOf,SP.run] at hr
theorem k8{t t' ty e:TypeId}{sz:Nat}(hu:P.underlying t=some (.slice e)) (hs:(P.info? e).map (·.size)=some sz) {v:Value}{ad2:Option Addr}{n2 cap2:Nat}(hv:v=.slice ad2 n2 cap2) {ad:Option Addr}{n cap:Nat}{vs:List Value}(hf:(Builtin.firstCells sz (min n2 n) v).run P w=.ok vs.toArray w)
 {w':World} (hst:match ad with | some a=>(storeCells a vs).run P w=.ok () w' | none=>w'=w) :
 (Builtin.copy_ #[t,t'] ty #[.slice ad n cap,v]).run P w=.ok (goInt ((min n2 n:Nat):Int)) w':=by
 subst hv
 cases hq:P.info? e with
 | none=>simp[hq] at hs
 | some i=>
  have hi:i.size=sz:=by simpa [hq] using hs
  have hmin:Nat.min n2 n=min n2 n:=rfl
  cases ad with
  | none=>
   simp only at hst;subst hst;simp[Builtin.copy_,run_underlying hu,Builtin.lenOf,sizeOf,typeInfo,hq,hi,hmin,hf]
  | some a=>
   simp[Builtin.copy_,run_underlying hu,Builtin.lenOf,sizeOf,typeInfo,hq,hi,hmin,hf,hst]
theorem Bv(hI:Inv M σ [] [] a.tmps w G) {d:Nat}(hd:o.dst=some d) (hN:d < M.N) {x y:Opd}{x' y':Operand}{t t' e sz:TypeId}(hx:bJ x'=some x) (hy:bJ y'=some y) (ho:o.op=.call { callee:=.builtin .copy,args:=#[x',y'],argTypes:=#[t,t'] })
 (hu:P.underlying t=some (.slice e)) (hs:(P.info? e).map (·.size)=some sz) (hr:(ev1 d (.cpy sz x y)).run σ=some ((),σ')):g7 P M σ' a o w:=by
 simp only[ev1] at hr;obtain⟨tx,σ1,h1,h2⟩:=bG hr;obtain⟨rfl,hx1⟩:=cC hI.tmr hx h1;obtain⟨ty,σ2,h3,h4⟩:=bG h2;obtain⟨rfl,hy1⟩:=cC hI.tmr hy h3;obtain⟨c2,σ3,h5,h6⟩:=bG h4;obtain⟨rfl,hcont⟩:=wn hI hy1 h5
 have hexec:∀r w',(Builtin.copy_ #[t,t'] o.type #[a.eval x',a.eval y']).run P w=.ok r w'->(execOp a.eval o).run P w=.ok (.value r) w':=by
  intro r w' h;simp[execOp,ho,resolve,invoke,builtin,h]
 have fin:∀(p:bQ) (c:List (List TV)) (lo n:Nat) (vd hdv:Value) (ad:Option Addr) (cap:Nat),p.root≠1->G.hv w p=some hdv->bZ (σ3.c p.root p.off) p.hops=some (.ow c)->a.eval x'=vd->vd=.slice ad n cap->lo+n<=c.length ->
  (∀b0 len cap',hdv=.slice (some ⟨b0,0,none⟩) len cap'->True)->(0 < n->∃b len cap',hdv=.slice (some ⟨b,0,none⟩) len cap'/\len=c.length/\ad=some ⟨b,lo*sz,none⟩)->(qU d p (σ3.c p.root p.off) (Av sz c c2 lo n)).run σ3=some ((),σ')->g7 P M σ' a o w:=by
  intro p c lo n vd hdv ad cap hr1 hhv hg hvd hvs hln _ hbase hrun;unfold Av at hrun;split at hrun
  ·rename_i hfl;split at hrun
   case isFalse=>simp[qU,SP.run] at hrun
   rename_i hck;simp only[oBA,oDE,List.all_eq_true,beq_iff_eq] at hck;obtain⟨ad2,cap2,hv2,hfirst⟩:=hcont sz hck.1 λi h=>hck.2 _ (List.getElem_mem h);have hf:=hfirst (min c2.length n) [] (Nat.min_le_left _ _) hfl;have hcp:=k8 (t':=t') (ty:=o.type) (ad:=ad) (n:=n) (cap:=cap) (w':=w) hu hs hv2 hf (by cases ad<;>rfl);simp only[qU] at hrun;refine dT hI hd hN (.v rfl) hrun (hexec _ _ ?_);rw[hvd,hvs];exact hcp
  ·rename_i v vs hfl;split at hrun
   case isFalse=>simp[qU,SP.run] at hrun
   rename_i hck;simp only[oBA,oDE,List.all_eq_true,beq_iff_eq] at hck;obtain⟨⟨⟨⟨⟨k1,k2⟩,k3⟩,k4⟩,k5⟩,k6⟩:=hck;have hsz2:∀i (h:i < c2.length),c2[i].length=sz:=λi h=>k3 _ (List.getElem_mem h);obtain⟨ad2,cap2,hv2,hfirst⟩:=hcont sz k1 hsz2;have hf:=hfirst (min c2.length n) (v :: vs) (Nat.min_le_left _ _) hfl
   have hvl:(v :: vs).length=min c2.length n*sz:=by rw[(sr hfl).1,rm hsz2 (Nat.min_le_left _ _)]
   have hn0:0 < n:=by
    rcases Nat.eq_zero_or_pos n with h | h
    ·subst h;simp at hvl
    ·exact h
   obtain⟨b,len,cap',hhd,hlen,had⟩:=hbase hn0;subst hlen;rw[hhd] at hhv;simp only[qU] at hrun;obtain⟨l,hl,hol,h7⟩:=b7 hrun;have hmn:min c2.length n<=n:=Nat.min_le_right _ _
   obtain⟨⟨G1,hI1⟩,hcell⟩:=zZ hr1 k1 (v :: vs) c (lo*sz) σ3 w G l (by simp) hI hhv hg rfl (λel hel=>k2 el hel) k6 (λt ht1 ht2=>by
    rw[hvl] at ht2;have hq1:lo<=t / sz:=(Nat.le_div_iff_mul_le k1).2 ht1;have hq2:t / sz < lo+min c2.length n:=(Nat.div_lt_iff_lt_mul k1).2 (by rw[Nat.add_mul];exact ht2);have hr2:t % sz < sz:=Nat.mod_lt _ k1;have hic:t / sz < c.length:=Nat.lt_of_lt_of_le hq2 k4
    have hmem:c[t / sz]∈(c.drop lo).take (min c2.length n):=by
     obtain⟨q,hq⟩:∃q,t / sz=lo+q:=⟨t / sz - lo,by rw[Nat.add_sub_cancel' hq1]⟩;simp only[hq];rw[hq] at hq2;refine List.mem_of_getElem? (i:=q) ?_;rw[List.getElem?_take,oIP (Nat.lt_of_add_lt_add_left hq2),List.getElem?_drop];exact oGE _
    have hlt:t % sz < c[t / sz].length:=by rw[k2 _ (List.getElem_mem hic)];exact hr2
    have hisv:=k5 _ hmem _ (List.getElem_mem hlt);refine⟨c[t / sz],?_⟩
    cases hcv:c[t / sz][t % sz] with
    | v y=>exact⟨y,oGE hic,by rw[oGE hlt,hcv]⟩
    | _=>rw[hcv] at hisv;simp[isV] at hisv) hl hol
   have hst:=run_storeCells_cells (P:=P) b (lo*sz) (v :: vs) 0 w (λj hj=>by simpa using (hcell j hj).1) (λj hj=>by simpa using (hcell j hj).2) (λu hu=>kU (k6 u hu));have hcp:=k8 (t':=t') (ty:=o.type) (ad:=ad) (n:=n) (cap:=cap) (w':=w.setCells b (lo*sz) (v :: vs)) hu hs hv2 hf (by rw[had];simpa using hst);have hrn:=hexec _ _ (by rw[hvd,hvs];exact hcp);simp only[wr,SP.run,oSJ,oPJ,true_and] at h7;have e9:σ'={ σ3.sub p l (.ow (iR sz c (lo*sz) (v :: vs))) with tm:=dk (σ3.sub p l (.ow (iR sz c (lo*sz) (v :: vs)))).tm d (.v (.int .i64 ((min c2.length n:Nat):Int))) }:=h7.symm;rw[e9];refine⟨_,_,_,G1,hrn,.inl rfl,?_⟩;rw[hd];exact hI1.wrT hN (.v rfl)
  ·simp[qU,SP.run] at hrun
 cases tx with
 | pk p vs=>
  simp only at h6;obtain⟨_,σ4,h7,h8⟩:=bG h6;have e1:σ4=σ3:=(bV h7).1;have e2:=(bV h7).2;subst e1;simp only[SP.run] at h8;generalize hz:a.eval x'=z at hx1
  cases hx1 with
  | pk V0 h0 hv h=>
   obtain⟨hr1,c,hhv,hgc⟩:=h e2
   have hgc':bZ (σ4.c p.root p.off) p.hops=some (.ow c):=by rw[b6 (by exact hr1)] at hgc;exact hgc
   rw[hgc'] at h8;simp only at h8;obtain⟨fp,hown⟩:=ms hI hhv hgc;obtain⟨ad,cap,hzv,_⟩:=hown.hdr;refine fin p c 0 c.length z z ad cap hr1 hhv hgc' hz hzv (by simp) (λ_ _ _ _=>trivial) (λhn=>?_) h8
   cases hown with
   | nil=>simp at hn
   | @ow _ _ b cap0 cur e' sz' u f hfp hb hsz hcap hz0 hmax hcur hcell hrec hnb hdis=>
    injection hzv with hzv _ _
    exact⟨b,_,_,rfl,rfl,by rw[<- hzv];simp⟩
 | pw p vs sz' lo n=>
  simp only at h6;obtain⟨_,σ4,h7,h8⟩:=bG h6;have e1:σ4=σ3:=(bV h7).1;have e2:=(bV h7).2;subst e1;simp only[SP.run] at h8;generalize hz:a.eval x'=z at hx1
  cases hx1 with
  | pw V0 h0 hv h=>
   obtain⟨hr1,c,hd',hhv,hgc,hln,ad,cap,hxv,hncap,hmx,hnil,hszc,had⟩:=h e2
   have hgc':bZ (σ4.c p.root p.off) p.hops=some (.ow c):=by rw[b6 (by exact hr1)] at hgc;exact hgc
   rw[hgc'] at h8;simp only at h8;split at h8
   case isFalse=>simp[SP.run] at h8
   rename_i hsz';subst hsz';obtain⟨fp,hown⟩:=ms hI hhv hgc;refine fin p c lo n z hd' ad cap hr1 hhv hgc' hz hxv hln (λ_ _ _ _=>trivial) (λhn=>?_) h8;obtain⟨b,len,cap',q1,q2⟩:=had hn;obtain⟨ad3,cap3,q3,_⟩:=hown.hdr;rw[q1] at q3
   injection q3 with _ q3 _
   exact⟨b,len,cap',q1,q3,q2⟩
 | _=>simp[SP.run] at h6
end
def ph(P:Program) (t:TypeId):Option Nat:=(P.info? t).map (·.size)
def AK(P:Program) (t:TypeId):Option (List Value):=(P.info? t).bind (·.zero.map (·.cells.toList))
def rO(P:Program) (t:TypeId):Option (Option Nat):=
 match P.underlying t with
 | some (.struct _)=>(ph P t).map some
 | some (.array _ _)=>(ph P t).map some
 | some _=>some none
 | none=>none
def rI:Option Operand->Option (Option Opd)
 | none=>some none
 | some x=>(bJ x).map some
def jC{α β:Type}(f:α->Option β):List α->Option (List β)
 | []=>some []
 | x :: r=>match f x,jC f r with | some y,some l=>some (y :: l) | _,_=>none
def lq(b:Bool):Option Unit:=if b then some () else none
def dG(P:Program) (mv:Nat):Op->Option TOp
 | .move x=>match x with
  | .const (.agg cs)=>some (.asn true (.c (.agg cs)))
  | x=>(bJ x).map .mov
 | .assign x=>if mv=2 then (bJ x).map .mov else (bJ x).map (.asn (mv==1))
 | .pick c a b=>do some (.pick (<- bJ c) (<- bJ a) (<- bJ b))
 | .alloc e=>(AK P e).map .alloc
 | .box e x=>do some (.box (<- ph P e) (mv==1) (<- bJ x))
 | .load t a=>do some (.load (<- rO P t) (<- bJ a))
 | .store t a x=>do
  let n <- ph P t
  lq (decide (0 < n))
  some (.store n (mv==1) (<- bJ a) (<- bJ x))
 | .nilCheck x=>(bJ x).map .nilc
 | .binOp op t x y _=>
  match P.underlying t with
  | some .bool=>match op with
   | .eql=>do some (.bnb false (<- bJ x) (<- bJ y))
   | .neq=>do some (.bnb true (<- bJ x) (<- bJ y))
   | _=>none
  | some (.int _)=>do some (.bin op (<- bJ x) (<- bJ y))
  | some .string=>do some (.bin op (<- bJ x) (<- bJ y))
  | some (.struct _)=>
   if P.eqGuardType P.depth t then none
   else match jJ P 50 t with
    | some ks=>match op with
     | .eql=>do some (.eqa ks false (<- bJ x) (<- bJ y))
     | .neq=>do some (.eqa ks true (<- bJ x) (<- bJ y))
     | _=>none
    | none=>none
  | _=>none
 | .unOp op _ x=>(bJ x).map (.un op)
 | .convert s d x=>
  match P.underlying s,P.underlying d with
  | some (.int _),some (.int k)=>(bJ x).map (.conv k)
  | some .string,some (.slice e)=>match P.underlying e with
   | some (.int .u8)=>(bJ x).map .s2b
   | _=>none
  | some (.slice e),some .string=>match P.underlying e with
   | some (.int .u8)=>(bJ x).map .b2s
   | _=>none
  | _,_=>none
 | .fieldAddr s x f=>
  match P.underlying s with
  | some (.struct fs)=>match fs[f]? with
   | some fd=>match ph P fd.type with
    | some (_+1)=>(bJ x).map (.fld fd.offset)
    | _=>none
   | none=>none
  | _=>none
 | .field s x f=>
  match P.underlying s with
  | some (.struct fs)=>match fs[f]? with
   | some fd=>do some (.fldv fd.offset (<- rO P fd.type) (<- bJ x))
   | none=>none
  | _=>none
 | .indexAddr t x i=>
  match P.underlying t with
  | some (.slice e)=>do some (.idx (<- ph P e) (<- bJ x) (<- bJ i))
  | some (.array n e)=>do some (.idxa n (<- ph P e) (<- bJ x) (<- bJ i))
  | _=>none
 | .index t x i=>
  match P.underlying t with
  | some .string=>do some (.ixs (<- bJ x) (<- bJ i))
  | _=>none
 | .extract x i=>(bJ x).map λx=>.ext x i
 | .makeSlice t l c=>
  match P.underlying t with
  | some (.slice e)=>match P.info? e with
   | some i=>match i.zero with
    | some z=>do
     lq (decide (i.bytes<=16777216*i.size) && decide (0 < i.size))
     some (.mks i.size z.cells.toList (<- bJ l) (<- bJ c))
    | none=>none
   | none=>none
  | _=>none
 | .slice t x lo hi mx=>
  match mx with
  | some m=>match hi,P.underlying t with
   | some h,some (.slice e)=>do
    lq (wI lo && ny h && ny m)
    let _ <- ph P e
    some (.emp (<- bJ x))
   | _,_=>none
  | none=>match P.underlying t with
   | some (.slice e)=>do some (.slc (<- ph P e) (<- bJ x) (<- rI lo) (<- rI hi))
   | _=>none
 | .makeFunc fn first caps=>
  match fn with
  | .func f=>do
   lq (first.size==0)
   some (.mkf f (<- jC bJ caps.toList))
  | _=>none
 | .buildSlice t len parts=>
  match P.underlying t with
  | some (.slice e)=>match P.info? e with
   | some i=>do
    lq ((i.zero.isSome || len*i.size==0) && decide (len*i.size<=16777216) && decide (len<=16777216) && parts.toList.map (·.1)==List.range len)
    some (.bsl i.size (mv==1) len (<- jC (λp=>bJ p.2) parts.toList))
   | none=>none
  | _=>none
 | .build t parts=>
  match P.underlying t,AK P t with
  | some (.struct fs),some z=>do
   lq (fs.toList.all λf=>(ph P f.type).isSome)
   let ps <- jC (λp=>match fs[p.1]? with
    | some f=>match ph P f.type,bJ p.2 with
     | some n,some x=>if f.offset+n<=z.length then some (f.offset,n,x) else none
     | _,_=>none
    | none=>none) parts.toList
   some (.bld z (mv==1) ps)
  | some (.array _ e),some z=>match ph P e with
   | some sz=>do
    let ps <- jC (λp=>match bJ p.2 with
     | some x=>if p.1*sz+sz<=z.length then some (p.1*sz,sz,x) else none
     | none=>none) parts.toList
    some (.bld z (mv==1) ps)
   | none=>none
  | _,_=>none
 | .call c=>
  match c with
  | { callee:=.builtin .append,args,argTypes }=>match args.toList,argTypes.toList with
   | [s,x],[t,t']=>if t=t' then
    match P.underlying t with
    | some (.slice e)=>match P.info? e with
     | some i=>match i.zero with
      | some z=>do
       lq (z.cells.size==i.size && decide (0 < i.size))
       some (.app i.size i.bytes (mv==1) (z.cells.all ed) (<- bJ s) (<- bJ x))
      | none=>none
     | none=>none
    | _=>none
    else none
   | _,_=>none
  | { callee:=.builtin .copy,args,argTypes }=>match args.toList,argTypes.toList with
   | [x,y],[t,_]=>match P.underlying t with
    | some (.slice e)=>do some (.cpy (<- ph P e) (<- bJ x) (<- bJ y))
    | _=>none
   | _,_=>none
  | { callee:=.builtin .min,args,argTypes:=_ }=>(jC bJ args.toList).map (.mm false)
  | { callee:=.builtin .max,args,argTypes:=_ }=>(jC bJ args.toList).map (.mm true)
  | { callee:=.builtin .len,args,argTypes }=>match args.toList,argTypes.toList with
   | [x],[t]=>match P.underlying t with
    | some (.slice _)=>(bJ x).map .len
    | some .string=>(bJ x).map .lens
    | _=>none
   | _,_=>none
  | _=>none
 | _=>none
theorem nQ{P:Program}{t:TypeId}{n:Option Nat}(h:rO P t=some n):vb P t n:=by
 unfold rO at h;split at h
 ·rename_i f hu
  cases hs:ph P t with
  | none=>simp[hs] at h
  | some k=>simp[hs] at h;subst h;exact⟨⟨_,hu,.inl ⟨_,rfl⟩⟩,hs⟩
 ·rename_i n e hu
  cases hs:ph P t with
  | none=>simp[hs] at h
  | some k=>simp[hs] at h;subst h;exact⟨⟨_,hu,.inr ⟨_,_,rfl⟩⟩,hs⟩
 ·rename_i d hd1 hd2 hu
  injection h with h
  subst h;exact⟨d,hu,λf e=>hd1 f (by rw[<- e]),λn e' e=>hd2 n e' (by rw[<- e])⟩
 ·simp at h
theorem rH{x:Option Operand}{y:Option Opd}(h:rI x=some y):x.map bJ=y.map some:=by
 cases x with
 | none=>simp[rI] at h;subst h;rfl
 | some x=>
  simp only[rI] at h
  cases hc:bJ x with
  | none=>simp[hc] at h
  | some z=>simp[hc] at h;subst h;simp[hc]
theorem iS{α β:Type}{f:α->Option β}:∀{l:List α}{r:List β},jC f l=some r->l.map f=r.map some:=by
 intro l
 induction l with
 | nil=>intro r h;simp[jC] at h;subst h;rfl
 | cons x l ih=>
  intro r h;simp only[jC] at h
  cases hx:f x with
  | none=>simp[hx] at h
  | some y=>
   cases hl:jC f l with
   | none=>simp[hx,hl] at h
   | some q=>simp[hx,hl] at h;subst h;simp[hx,ih hl]
theorem gU{b:Bool}{u:Unit}(h:lq b=some u):b=true:=by
 unfold lq at h;split at h
 ·assumption
 ·simp at h
theorem bM{α β:Type}{x:Option α}{f:α->Option β}{y:β}(h:(x >>= f)=some y):∃a,x=some a/\f a=some y:=by
 cases x with
 | none=>exact absurd h (by simp)
 | some a=>exact⟨a,rfl,h⟩
theorem ee{α β:Type}{x:Option α}{f:α->β}{y:β}(h:x.map f=some y):∃a,x=some a/\f a=y:=by
 cases x with
 | none=>exact absurd h (by simp)
 | some a=>exact⟨a,rfl,by simpa using h⟩
section
variable {P:Program} {M:Fm} {σ σ':St} {ts:Array Value} {w:World} {G:Gh} {a:Act} {o:Oper}
theorem Bl(hI:Inv M σ [] [] a.tmps w G) {d:Nat}(hd:o.dst=some d) (hN:d < M.N) (hpr:M.pr (2*d+2)=none) {mv:Nat}{t:TOp}(hc:dG P mv o.op=some t) (hr:(ev1 d t).run σ=some ((),σ')) (hns:¬ ∃ty x y,o.op=.store ty x y):g7 P M σ' a o w:=by
 cases ho:o.op with
 | move x=>
  rw[ho] at hc;simp only[dG] at hc;split at hc
  ·injection hc with hc
   subst hc;exact xo hI hd hN rfl (.inr ho) hr
  ·obtain⟨y,hy,rfl⟩:=ee hc;exact w6 hI hd hN hy (.inl ho) hr
 | assign x=>
  rw[ho] at hc;simp only[dG] at hc;split at hc
  ·obtain⟨y,hy,rfl⟩:=ee hc;exact w6 hI hd hN hy (.inr ho) hr
  ·obtain⟨y,hy,rfl⟩:=ee hc;exact xo hI hd hN hy (.inl ho) hr
 | pick c x y=>
  rw[ho] at hc;simp only[dG] at hc;obtain⟨c1,h1,hc⟩:=bM hc;obtain⟨x1,h2,hc⟩:=bM hc;obtain⟨y1,h3,hc⟩:=bM hc
  injection hc with hc
  subst hc;exact zD hI hd hN h1 h2 h3 ho hr
 | alloc e=>
  rw[ho] at hc;obtain⟨z,hz,rfl⟩:=ee hc;exact xp hI hd hN hpr ho hz hr
 | box e x=>
  rw[ho] at hc;simp only[dG] at hc;obtain⟨n,h1,hc⟩:=bM hc;obtain⟨y,h2,hc⟩:=bM hc
  injection hc with hc
  subst hc;exact Bx hI hd hN hpr h2 ho hr
 | load t' x=>
  rw[ho] at hc;simp only[dG] at hc;obtain⟨n,h1,hc⟩:=bM hc;obtain⟨y,h2,hc⟩:=bM hc
  injection hc with hc
  subst hc;exact zF hI hd hN h2 ho (nQ h1) hr
 | nilCheck x=>
  rw[ho] at hc;obtain⟨y,hy,rfl⟩:=ee hc;exact zE hI hd hN hy ho hr
 | binOp op ty x y yt=>
  rw[ho] at hc;simp only[dG] at hc
  have key:(do some (TOp.bin op (<- bJ x) (<- bJ y)):Option TOp)=some t->g7 P M σ' a o w:=by
   intro hc;obtain⟨x1,h2,hc⟩:=bM hc;obtain⟨y1,h3,hc⟩:=bM hc
   injection hc with hc
   subst hc;exact Bz hI hd hN h2 h3 ho hr
  split at hc
  ·rename_i hu;split at hc
   ·obtain⟨x1,h2,hc⟩:=bM hc;obtain⟨y1,h3,hc⟩:=bM hc
    injection hc with hc
    subst hc;exact xn hI hd hN h2 h3 ho (.inl ⟨rfl,rfl⟩) hu hr
   ·obtain⟨x1,h2,hc⟩:=bM hc;obtain⟨y1,h3,hc⟩:=bM hc
    injection hc with hc
    subst hc;exact xn hI hd hN h2 h3 ho (.inr ⟨rfl,rfl⟩) hu hr
   ·simp at hc
  ·exact key hc
  ·exact key hc
  ·rename_i fs hu;split at hc
   case isTrue=>simp at hc
   rename_i hgd;split at hc
   case h_2=>simp at hc
   rename_i ks hk;split at hc
   ·obtain⟨x1,h2,hc⟩:=bM hc;obtain⟨y1,h3,hc⟩:=bM hc
    injection hc with hc
    subst hc;exact xg hI hd hN h2 h3 ho (.inl ⟨rfl,rfl⟩) hu hk (by simpa using hgd) hr
   ·obtain⟨x1,h2,hc⟩:=bM hc;obtain⟨y1,h3,hc⟩:=bM hc
    injection hc with hc
    subst hc;exact xg hI hd hN h2 h3 ho (.inr ⟨rfl,rfl⟩) hu hk (by simpa using hgd) hr
   ·simp at hc
  ·simp at hc
 | unOp op ty x=>
  rw[ho] at hc;obtain⟨y,hy,rfl⟩:=ee hc;exact CM hI hd hN hy ho hr
 | convert s dd x=>
  rw[ho] at hc;simp only[dG] at hc;split at hc
  ·rename_i ks k hs hdd;obtain⟨y,hy,rfl⟩:=ee hc;exact zJ hI hd hN hy ho hs hdd hr
  ·rename_i e hs hdd;split at hc
   ·rename_i he;obtain⟨y,hy,rfl⟩:=ee hc;exact Bj hI hd hN hy ho hs hdd he hr
   ·simp at hc
  ·rename_i e hs hdd;split at hc
   ·rename_i he;obtain⟨y,hy,rfl⟩:=ee hc;exact BA hI hd hN hy ho hs hdd he hr
   ·simp at hc
  ·simp at hc
 | fieldAddr s x f=>
  rw[ho] at hc;simp only[dG] at hc;split at hc
  ·rename_i fs hu;split at hc
   ·rename_i fd hf;split at hc
    ·rename_i n hs;obtain⟨y,hy,rfl⟩:=ee hc;exact Bs hI hd hN hy ho hu hf ⟨_,hs⟩ hr
    ·simp at hc
   ·simp at hc
  ·simp at hc
 | field s x f=>
  rw[ho] at hc;simp only[dG] at hc;split at hc
  ·rename_i fs hu;split at hc
   ·rename_i fd hf;obtain⟨n,h1,hc⟩:=bM hc;obtain⟨y,h2,hc⟩:=bM hc
    injection hc with hc
    subst hc;exact zI hI hd hN h2 ho hu hf (nQ h1) hr
   ·simp at hc
  ·simp at hc
 | indexAddr ty x i=>
  rw[ho] at hc;simp only[dG] at hc;split at hc
  ·rename_i e hu;obtain⟨n,h1,hc⟩:=bM hc;obtain⟨y,h2,hc⟩:=bM hc;obtain⟨z,h3,hc⟩:=bM hc
   injection hc with hc
   subst hc;exact Br hI hd hN h2 h3 ho hu h1 hr
  ·rename_i n e hu;obtain⟨sz,h1,hc⟩:=bM hc;obtain⟨y,h2,hc⟩:=bM hc;obtain⟨z,h3,hc⟩:=bM hc
   injection hc with hc
   subst hc;exact zH hI hd hN h2 h3 ho hu h1 hr
  ·simp at hc
 | index ty x i=>
  rw[ho] at hc;simp only[dG] at hc;split at hc
  ·rename_i hu;obtain⟨y,h2,hc⟩:=bM hc;obtain⟨z,h3,hc⟩:=bM hc
   injection hc with hc
   subst hc;exact Bq hI hd hN h2 h3 ho hu hr
  ·simp at hc
 | extract x i=>
  rw[ho] at hc;obtain⟨y,hy,rfl⟩:=ee hc;exact Bt hI hd hN hy ho hr
 | makeSlice ty l c=>
  rw[ho] at hc;simp only[dG] at hc;split at hc
  ·rename_i e hu;split at hc
   ·rename_i i hi;split at hc
    ·rename_i z hz;obtain⟨u,h1,hc⟩:=bM hc;obtain⟨y,h2,hc⟩:=bM hc;obtain⟨y2,h3,hc⟩:=bM hc
     injection hc with hc
     subst hc;have hg:=gU h1;simp only[oBA,oDE] at hg;exact Bn hI hd hN h2 h3 ho hu hi hz rfl rfl hg.1 hg.2 hr
    ·simp at hc
   ·simp at hc
  ·simp at hc
 | slice ty x lo hi mx=>
  rw[ho] at hc;simp only[dG] at hc;split at hc
  ·split at hc
   ·rename_i m h e hu;obtain⟨_,hg,hc⟩:=bM hc;obtain⟨n,h1,hc⟩:=bM hc;obtain⟨y,h2,hc⟩:=bM hc
    injection hc with hc
    subst hc;have hg:=gU hg;simp only[oBA] at hg;exact Bu hI hd hN h2 ho hg.1.1 hg.1.2 hg.2 hu h1 hr
   ·simp at hc
  ·split at hc
   ·rename_i e hu;obtain⟨n,h1,hc⟩:=bM hc;obtain⟨y,h2,hc⟩:=bM hc;obtain⟨l1,h3,hc⟩:=bM hc;obtain⟨h4,h5,hc⟩:=bM hc
    injection hc with hc
    subst hc;exact Bi hI hd hN h2 (rH h3) (rH h5) ho hu h1 hr
   ·simp at hc
 | makeFunc fn first caps=>
  rw[ho] at hc;simp only[dG] at hc;split at hc
  ·rename_i f;obtain⟨u,h1,hc⟩:=bM hc;obtain⟨l,h2,hc⟩:=bM hc
   injection hc with hc
   subst hc;have hg:=gU h1
   have hf:first=#[]:=by simpa using hg
   subst hf;exact Bo hI hd hN (iS h2) ho hr
  ·simp at hc
 | buildSlice ty len parts=>
  rw[ho] at hc;simp only[dG] at hc;split at hc
  ·rename_i e hu;split at hc
   ·rename_i i hi;obtain⟨u,h1,hc⟩:=bM hc;obtain⟨l,h2,hc⟩:=bM hc
    injection hc with hc
    subst hc;have hg:=gU h1;simp only[oBA,Bool.or_eq_true,oDE,beq_iff_eq] at hg;obtain⟨⟨⟨g1,g2⟩,g3⟩,g4⟩:=hg;refine Bw hI hd hN ho hu hi rfl (λh0=>?_) g4 (iS h2) g2 g3 hr;rcases g1 with g1 | g1
    ·exact Option.isSome_iff_exists.1 g1
    ·omega
   ·simp at hc
  ·simp at hc
 | build ty parts=>
  rw[ho] at hc;simp only[dG] at hc;split at hc
  ·rename_i fs z hu hz;obtain⟨u,h1,hc⟩:=bM hc;obtain⟨ps,h2,hc⟩:=bM hc
   injection hc with hc
   subst hc;have hg:=gU h1;simp only[List.all_eq_true] at hg;have hm:=iS h2;refine By hI hd hN (szf:=λf=>(ph P f.type).getD 0) ho hu hz (λf hf=>?_) ?_ (λk h h'=>?_) hr
   ·have:=hg f hf;obtain⟨n,hn⟩:=Option.isSome_iff_exists.1 this;rw[hn];exact hn
   ·have:=congrArg List.length hm;simpa using this
   ·have hk:(parts.toList.map (λp=>match fs[p.1]? with
     | some f=>match ph P f.type,bJ p.2 with
      | some n,some x=>if f.offset+n<=z.length then some (f.offset,n,x) else none
      | _,_=>none
     | none=>none))[k]?=(ps.map some)[k]?:=by rw[hm]
    simp only[List.getElem?_map,oGE h',oMS,Array.getElem?_toList,Array.getElem?_eq_getElem h] at hk
    cases hf:fs[parts[k].1]? with
    | none=>simp[hf] at hk
    | some f=>
     cases hs:ph P f.type with
     | none=>simp[hf,hs] at hk
     | some n=>
      cases hx:bJ parts[k].2 with
      | none=>simp[hf,hs,hx] at hk
      | some x=>
       simp only[hf,hs,hx,oSJ] at hk;split at hk
       ·rename_i hle
        injection hk with hk
        rw[<- hk];exact⟨rfl,by simp[hs],hle⟩
       ·simp at hk
  ·rename_i n e z hu hz;split at hc
   ·rename_i sz hsz;obtain⟨ps,h2,hc⟩:=bM hc
    injection hc with hc
    subst hc;have hm:=iS h2;refine zK hI hd hN ho hu hz hsz ?_ (λk h h'=>?_) hr
    ·have:=congrArg List.length hm;simpa using this
    ·have hk:(parts.toList.map (λp=>match bJ p.2 with
      | some x=>if p.1*sz+sz<=z.length then some (p.1*sz,sz,x) else none
      | none=>none))[k]?=(ps.map some)[k]?:=by rw[hm]
     simp only[List.getElem?_map,oGE h',oMS,Array.getElem?_toList,Array.getElem?_eq_getElem h] at hk
     cases hx:bJ parts[k].2 with
     | none=>simp[hx] at hk
     | some x=>
      simp only[hx,oSJ] at hk;split at hk
      ·rename_i hle
       injection hk with hk
       rw[<- hk];exact⟨rfl,rfl,rfl,hle⟩
      ·simp at hk
   ·simp at hc
  ·simp at hc
 | call c=>
  rw[ho] at hc;simp only[dG] at hc;split at hc
  ·rename_i args argTypes;split at hc
   ·rename_i s x t1 t2 ea et
    have ea:args=#[s,x]:=by rw[<- Array.toArray_toList (xs:=args),ea]
    have et:argTypes=#[t1,t2]:=by rw[<- Array.toArray_toList (xs:=argTypes),et]
    subst ea;subst et;split at hc
    ·rename_i hteq;subst hteq;split at hc
     ·rename_i e hu;split at hc
      ·rename_i i hi;split at hc
       ·rename_i z hz;obtain⟨u,h1,hc⟩:=bM hc;obtain⟨y,h2,hc⟩:=bM hc;obtain⟨y2,h3,hc⟩:=bM hc
        injection hc with hc
        subst hc;have hg:=gU h1;simp only[oBA,oDE,beq_iff_eq] at hg;exact BB hI hd hN h2 h3 ho hu hi hz hg.1 rfl rfl hg.2 hr
       ·simp at hc
      ·simp at hc
     ·simp at hc
    ·simp at hc
   ·simp at hc
  ·rename_i args argTypes;split at hc
   ·rename_i x y t1 t2 ea et
    have ea:args=#[x,y]:=by rw[<- Array.toArray_toList (xs:=args),ea]
    have et:argTypes=#[t1,t2]:=by rw[<- Array.toArray_toList (xs:=argTypes),et]
    subst ea;subst et;split at hc
    ·rename_i e hu;obtain⟨sz,h1,hc⟩:=bM hc;obtain⟨y1,h2,hc⟩:=bM hc;obtain⟨y2,h3,hc⟩:=bM hc
     injection hc with hc
     subst hc;exact Bv hI hd hN h2 h3 ho hu h1 hr
    ·simp at hc
   ·simp at hc
  ·rename_i args argTypes;obtain⟨l,h1,rfl⟩:=ee hc;exact AQ (mx:=false) hI hd hN (iS h1) ho hr
  ·rename_i args argTypes;obtain⟨l,h1,rfl⟩:=ee hc;exact AQ (mx:=true) hI hd hN (iS h1) ho hr
  ·rename_i args argTypes;split at hc
   ·rename_i x t1 ea et
    have ea:args=#[x]:=by rw[<- Array.toArray_toList (xs:=args),ea]
    have et:argTypes=#[t1]:=by rw[<- Array.toArray_toList (xs:=argTypes),et]
    subst ea;subst et;split at hc
    ·rename_i e hu;obtain⟨y,hy,rfl⟩:=ee hc;exact Bp hI hd hN hy ho hu hr
    ·rename_i hu;obtain⟨y,hy,rfl⟩:=ee hc;exact zG hI hd hN hy ho hu hr
    ·simp at hc
   ·simp at hc
  ·simp at hc
 | store ty x y=>
  rw[ho] at hc;simp only[dG] at hc;obtain⟨n,h1,hc⟩:=bM hc;obtain⟨u,h2,hc⟩:=bM hc;obtain⟨x1,h3,hc⟩:=bM hc;obtain⟨y1,h4,hc⟩:=bM hc
  injection hc with hc
  subst hc;exact absurd hns (by simp[ho])
 | _=>rw[ho] at hc;simp[dG] at hc
end
inductive Loc where
 | t (i:Nat)
 | c (r o:Nat)
 | h (r o:Nat)
 | n (r:Nat)
 | v (q:Key)
 deriving DecidableEq
def Loc.hit:Loc->Loc->Bool
 | .t i,.t j=>i==j
 | .c r o,.c r' o'=>r==r' && o==o'
 | .n r,.n r'=>r==r'
 | .n r,.c r' _=>r==r'
 | .h r o,.h r' o'=>r==r' && o==o'
 | .n r,.h r' _=>r==r'
 | .v q,.v q'=>q==q'
 | _,_=>false
abbrev kf:=List Loc×List Loc
def hdW(r o:Nat) (t t':TV):List Loc:=if t'.hd=t.hd then [] else [.h r o]
def SP.foot{α:Type}:SP α->St->kf
 | .ret _,_=>([],[])
 | .fail,_=>([],[])
 | .rdT i k,σ=>(.t i :: ((k (σ.t i)).foot σ).1,((k (σ.t i)).foot σ).2)
 | .rdC r o k,σ=>(.c r o :: ((k (σ.c r o)).foot σ).1,((k (σ.c r o)).foot σ).2)
 | .rdH r o k,σ=>(.h r o :: ((k (σ.c r o).hd).foot σ).1,((k (σ.c r o).hd).foot σ).2)
 | .rdV q k,σ=>(.v q :: ((k (σ.v q)).foot σ).1,((k (σ.v q)).foot σ).2)
 | .wrT i t k,σ=>((k.foot { σ with tm:=dk σ.tm i t }).1,.t i :: (k.foot { σ with tm:=dk σ.tm i t }).2)
 | .wrC r o t k,σ=>
  match ca σ.ce r with
  | some l=>if o < l.length then (.n r :: .h r o :: (k.foot { σ with ce:=dk σ.ce r (l.set o t) }).1,.c r o :: (hdW r o (σ.c r o) t++(k.foot { σ with ce:=dk σ.ce r (l.set o t) }).2)) else ([],[])
  | none=>([],[])
 | .new r l k,σ=>(.v (r,0,0) :: (k.foot { σ with ce:=dk σ.ce r l,vr:=jq σ.vr (r,0,0) }).1,.n r :: .v (r,0,0) :: (k.foot { σ with ce:=dk σ.ce r l,vr:=jq σ.vr (r,0,0) }).2)
 | .bump q k,σ=>(.v q :: (k.foot { σ with vr:=jq σ.vr q }).1,.v q :: (k.foot { σ with vr:=jq σ.vr q }).2)
def ew(σ σ':St):Loc->Prop
 | .t i=>ca σ.tm i=ca σ'.tm i
 | .c r o=>σ.c r o=σ'.c r o
 | .h r o=>(σ.c r o).hd=(σ'.c r o).hd
 | .n r=>(ca σ.ce r).map List.length=(ca σ'.ce r).map List.length
 | .v q=>σ.v q=σ'.v q
def Ct(σ σ':St):Prop:=∀x,ew σ σ' x
theorem ew.refl(σ:St) (x:Loc):ew σ σ x:=by cases x<;>rfl
theorem ew.symm{σ σ':St}{x:Loc}(h:ew σ σ' x):ew σ' σ x:=by cases x<;>exact Eq.symm h
theorem ew.trans{σ σ' σ'':St}{x:Loc}(h:ew σ σ' x) (h':ew σ' σ'' x):ew σ σ'' x:=by cases x<;>exact Eq.trans h h'
theorem zg{σ:St}{r o:Nat}{t:TV}{l:List TV}(h:ca σ.ce r=some l) (ho:o < l.length) (r' o':Nat):St.c { σ with ce:=dk σ.ce r (l.set o t) } r' o'=if r'=r/\o'=o then t else σ.c r' o':=by
 have:=congrFun (congrFun (o9 (t:=t) h ho) r') o';exact this
theorem DE{σ:St}{r:Nat}{l l':List TV}(h:ca σ.ce r=some l) (hl:l'.length=l.length) (r':Nat):(ca (dk σ.ce r l') r').map List.length=(ca σ.ce r').map List.length:=by
 rw[cq];split
 ·rename_i e;subst e;rw[h];simp[hl]
 ·rfl
theorem wx{σ:St}{r:Nat}{l:List TV}{vr:List (Key×Nat)}(r' o':Nat):St.c { σ with ce:=dk σ.ce r l,vr:=vr } r' o'=if r'=r then l.getD o' .dead else σ.c r' o':=by
 unfold St.c;simp only[cq];by_cases e:r=r'
 ·subst e;simp
 ·rw[oIN e,oIN (Ne.symm e)]
theorem fa{α:Type}{s:SP α}:∀{σ:St}{a:α}{τ:St},s.run σ=some (a,τ)->∀x,(∀w∈(s.foot σ).2,w.hit x=false)->ew σ τ x:=by
 induction s with
 | ret a=>intro σ b τ h x _;simp only[SP.run,oSJ,oPJ] at h;rw[h.2];exact ew.refl _ _
 | fail=>intro σ b τ h;simp[SP.run] at h
 | rdT i k ih=>intro σ b τ h x hx;exact ih _ h x hx
 | rdC r o k ih=>intro σ b τ h x hx;exact ih _ h x hx
 | rdH r o k ih=>intro σ b τ h x hx;exact ih _ h x hx
 | rdV q k ih=>intro σ b τ h x hx;exact ih _ h x hx
 | wrT i t k ih=>
  intro σ b τ h x hx;refine ew.trans ?_ (ih h x λw hw=>hx w (by simp[SP.foot,hw]));have h1:=hx (.t i) (by simp[SP.foot])
  cases x with
  | t j=>
   simp only[Loc.hit,beq_eq_false_iff_ne,ne_eq] at h1;simp[ew,cq,h1]
  | _=>exact rfl
 | wrC r o t k ih=>
  intro σ b τ h x hx;obtain⟨l,hl,ho,h2⟩:=b7 h;simp only[SP.foot,hl,ho,if_true] at hx;refine ew.trans ?_ (ih h2 x λw hw=>hx w (by simp[hw]));have h1:=hx (.c r o) (by simp)
  cases x with
  | c r' o'=>
   simp only[Loc.hit,Bool.and_eq_false_imp,beq_iff_eq,beq_eq_false_iff_ne,ne_eq] at h1;show σ.c r' o'=_;rw[zg hl ho,oIN];rintro⟨e1,e2⟩;exact h1 e1.symm e2.symm
  | h r' o'=>
   show (σ.c r' o').hd=TV.hd (St.c _ r' o');rw[zg hl ho];split
   ·rename_i e;obtain⟨e1,e2⟩:=e;subst e1;subst e2;by_cases hh:t.hd=(σ.c r' o').hd
    ·exact hh.symm
    ·have:=hx (.h r' o') (by simp[hdW,hh]);simp[Loc.hit] at this
   ·rfl
  | n r'=>exact (DE hl (by simp) r').symm
  | _=>exact rfl
 | new r l k ih=>
  intro σ b τ h x hx;refine ew.trans ?_ (ih h x λw hw=>hx w (by simp[SP.foot,hw]));have h1:=hx (.n r) (by simp[SP.foot]);have h2:=hx (.v (r,0,0)) (by simp[SP.foot])
  cases x with
  | t j=>exact rfl
  | c r' o'=>
   simp only[Loc.hit,beq_eq_false_iff_ne,ne_eq] at h1;show σ.c r' o'=_;rw[wx,oIN (Ne.symm h1)]
  | h r' o'=>
   simp only[Loc.hit,beq_eq_false_iff_ne,ne_eq] at h1;show (σ.c r' o').hd=TV.hd (St.c _ r' o');rw[wx,oIN (Ne.symm h1)]
  | n r'=>
   simp only[Loc.hit,beq_eq_false_iff_ne,ne_eq] at h1;simp[ew,cq,h1]
  | v q=>
   simp only[Loc.hit,beq_eq_false_iff_ne,ne_eq] at h2;show kG σ.vr q=kG (jq σ.vr (r,0,0)) q;rw[dJ,oIN h2];rfl
 | bump q k ih=>
  intro σ b τ h x hx;refine ew.trans ?_ (ih h x λw hw=>hx w (by simp[SP.foot,hw]));have h2:=hx (.v q) (by simp[SP.foot])
  cases x with
  | v q'=>
   simp only[Loc.hit,beq_eq_false_iff_ne,ne_eq] at h2;show kG σ.vr q'=kG (jq σ.vr q) q';rw[dJ,oIN h2];rfl
  | _=>exact rfl
theorem gM{α:Type}{s:SP α}:∀{σ σ':St}{a:α}{τ:St},s.run σ=some (a,τ)->(∀x∈(s.foot σ).1,ew σ σ' x) ->
 s.foot σ'=s.foot σ/\∃ τ',s.run σ'=some (a,τ')/\∀x,(ew σ σ' x\/∃w∈(s.foot σ).2,w.hit x=true)->ew τ τ' x:=by
 induction s with
 | ret a=>
  intro σ σ' b τ h hr;simp only[SP.run,oSJ,oPJ] at h;obtain⟨rfl,rfl⟩:=h;exact⟨rfl,σ',rfl,λx hx=>hx.elim id λ⟨w,hw,_⟩=>by simp[SP.foot] at hw⟩
 | fail=>intro σ σ' b τ h;simp[SP.run] at h
 | rdT i k ih=>
  intro σ σ' b τ h hr
  have h1:σ.t i=σ'.t i:=by
   have:ca σ.tm i=ca σ'.tm i:=hr (.t i) (by simp[SP.foot]);simp[St.t,this]
  obtain⟨e,τ',h2,h3⟩:=ih _ h λx hx=>hr x (by simp[SP.foot,hx]);refine⟨by simp only[SP.foot];rw[<- h1,e],τ',by simp only[SP.run];rw[<- h1];exact h2,h3⟩
 | rdC r o k ih=>
  intro σ σ' b τ h hr;have h1:σ.c r o=σ'.c r o:=hr (.c r o) (by simp[SP.foot]);obtain⟨e,τ',h2,h3⟩:=ih _ h λx hx=>hr x (by simp[SP.foot,hx]);refine⟨by simp only[SP.foot];rw[<- h1,e],τ',by simp only[SP.run];rw[<- h1];exact h2,h3⟩
 | rdH r o k ih=>
  intro σ σ' b τ h hr;have h1:(σ.c r o).hd=(σ'.c r o).hd:=hr (.h r o) (by simp[SP.foot]);obtain⟨e,τ',h2,h3⟩:=ih _ h λx hx=>hr x (by simp[SP.foot,hx]);refine⟨by simp only[SP.foot];rw[<- h1,e],τ',by simp only[SP.run];rw[<- h1];exact h2,h3⟩
 | rdV q k ih=>
  intro σ σ' b τ h hr;have h1:σ.v q=σ'.v q:=hr (.v q) (by simp[SP.foot]);obtain⟨e,τ',h2,h3⟩:=ih _ h λx hx=>hr x (by simp[SP.foot,hx]);refine⟨by simp only[SP.foot];rw[<- h1,e],τ',by simp only[SP.run];rw[<- h1];exact h2,h3⟩
 | wrT i t k ih=>
  intro σ σ' b τ h hr
  have hal:∀x,(ew σ σ' x\/x=.t i)->ew { σ with tm:=dk σ.tm i t } { σ' with tm:=dk σ'.tm i t } x:=by
   rintro x (hx | rfl)
   ·cases x with
    | t j=>
     show ca (dk σ.tm i t) j=ca (dk σ'.tm i t) j;rw[cq,cq];split
     ·rfl
     ·exact hx
    | _=>exact hx
   ·show ca (dk σ.tm i t) i=ca (dk σ'.tm i t) i;rw[cq,cq];simp
  obtain⟨e,τ',h2,h3⟩:=ih (σ':={ σ' with tm:=dk σ'.tm i t }) h λx hx=>hal x (.inl (hr x (by simp[SP.foot,hx])));refine⟨by simp only[SP.foot];rw[e],τ',h2,λx hx=>h3 x ?_⟩;rcases hx with hx | ⟨w,hw,hh⟩
  ·exact .inl (hal x (.inl hx))
  ·simp only[SP.foot,List.mem_cons] at hw;rcases hw with rfl | hw
   ·left;refine hal x (.inr ?_);cases x<;>simp[Loc.hit] at hh;rw[hh]
   ·exact .inr ⟨w,hw,hh⟩
 | wrC r o t k ih=>
  intro σ σ' b τ h hr;obtain⟨l,hl,ho,h0⟩:=b7 h;simp only[SP.foot,hl,ho,if_true] at hr ⊢;have hn:(ca σ.ce r).map List.length=(ca σ'.ce r).map List.length:=hr (.n r) (by simp)
  obtain⟨l',hl',hll⟩:∃l',ca σ'.ce r=some l'/\l'.length=l.length:=by
   rw[hl] at hn
   cases ha:ca σ'.ce r with
   | none=>rw[ha] at hn;simp at hn
   | some l'=>rw[ha] at hn;exact⟨l',rfl,by simpa using hn.symm⟩
  have ho':o < l'.length:=by omega
  have hh:(σ.c r o).hd=(σ'.c r o).hd:=hr (.h r o) (by simp)
  have hW:hdW r o (σ'.c r o) t=hdW r o (σ.c r o) t:=by unfold hdW;rw[hh]
  have hal:∀x,(ew σ σ' x\/x=.c r o\/x=.h r o)->ew { σ with ce:=dk σ.ce r (l.set o t) } { σ' with ce:=dk σ'.ce r (l'.set o t) } x:=by
   rintro x (hx | rfl | rfl)
   ·cases x with
    | c r' o'=>
     show St.c _ r' o'=St.c _ r' o';rw[zg hl ho,zg hl' ho'];split
     ·rfl
     ·exact hx
    | h r' o'=>
     show TV.hd (St.c _ r' o')=TV.hd (St.c _ r' o');rw[zg hl ho,zg hl' ho'];split
     ·rfl
     ·exact hx
    | n r'=>
     show Option.map _ _=Option.map _ _;rw[DE hl (by simp),DE hl' (by simp)];exact hx
    | _=>exact hx
   ·show St.c _ r o=St.c _ r o;rw[zg hl ho,zg hl' ho'];simp
   ·show TV.hd (St.c _ r o)=TV.hd (St.c _ r o);rw[zg hl ho,zg hl' ho'];simp
  obtain⟨e,τ',h2,h3⟩:=ih (σ':={ σ' with ce:=dk σ'.ce r (l'.set o t) }) h0 λx hx=>hal x (.inl (hr x (by simp[hx])));refine⟨by simp only[hl',ho',if_true];rw[e,hW],τ',by simp only[SP.run,hl',ho',if_true];exact h2,λx hx=>h3 x ?_⟩;rcases hx with hx | ⟨w,hw,hh⟩
  ·exact .inl (hal x (.inl hx))
  ·simp only[List.mem_cons,List.mem_append] at hw;rcases hw with rfl | hw | hw
   ·left;refine hal x (.inr (.inl ?_));cases x<;>simp[Loc.hit] at hh;rw[hh.1,hh.2]
   ·left;refine hal x (.inr (.inr ?_));unfold hdW at hw;split at hw
    ·simp at hw
    ·simp only[List.mem_singleton] at hw;subst hw;cases x<;>simp[Loc.hit] at hh;rw[hh.1,hh.2]
   ·exact .inr ⟨w,hw,hh⟩
 | new r l k ih=>
  intro σ σ' b τ h hr;have hv:σ.v (r,0,0)=σ'.v (r,0,0):=hr (.v (r,0,0)) (by simp[SP.foot])
  have hal:∀x,(ew σ σ' x\/(Loc.n r).hit x=true)->ew { σ with ce:=dk σ.ce r l,vr:=jq σ.vr (r,0,0) } { σ' with ce:=dk σ'.ce r l,vr:=jq σ'.vr (r,0,0) } x:=by
   intro x hx
   cases x with
   | t j=>rcases hx with hx | hx
          ·exact hx
          ·simp[Loc.hit] at hx
   | c r' o'=>
    show St.c _ r' o'=St.c _ r' o';rw[wx,wx];split
    ·rfl
    ·rename_i e;rcases hx with hx | hx
     ·exact hx
     ·simp[Loc.hit] at hx;exact absurd hx.symm e
   | h r' o'=>
    show TV.hd (St.c _ r' o')=TV.hd (St.c _ r' o');rw[wx,wx];split
    ·rfl
    ·rename_i e;rcases hx with hx | hx
     ·exact hx
     ·simp[Loc.hit] at hx;exact absurd hx.symm e
   | n r'=>
    show Option.map _ (ca (dk _ _ _) _)=Option.map _ (ca (dk _ _ _) _);rw[cq,cq];split
    ·rfl
    ·rename_i e;rcases hx with hx | hx
     ·exact hx
     ·simp[Loc.hit] at hx;exact absurd hx e
   | v q=>
    show kG (jq _ _) q=kG (jq _ _) q;rw[dJ,dJ];rcases hx with hx | hx
    ·have hx:kG σ.vr q=kG σ'.vr q:=hx;rw[hx]
    ·simp[Loc.hit] at hx
  obtain⟨e,τ',h2,h3⟩:=ih (σ':={ σ' with ce:=dk σ'.ce r l,vr:=jq σ'.vr (r,0,0) }) h λx hx=>hal x (.inl (hr x (by simp[SP.foot,hx])));refine⟨by simp only[SP.foot];rw[e],τ',h2,λx hx=>h3 x ?_⟩;rcases hx with hx | ⟨w,hw,hh⟩
  ·exact .inl (hal x (.inl hx))
  ·simp only[SP.foot,List.mem_cons] at hw;rcases hw with rfl | rfl | hw
   ·exact .inl (hal x (.inr hh))
   ·left;refine hal x (.inl ?_);cases x<;>simp[Loc.hit] at hh;rw[<- hh];exact hv
   ·exact .inr ⟨w,hw,hh⟩
 | bump q k ih=>
  intro σ σ' b τ h hr;have hv:σ.v q=σ'.v q:=hr (.v q) (by simp[SP.foot])
  have hal:∀x,ew σ σ' x->ew { σ with vr:=jq σ.vr q } { σ' with vr:=jq σ'.vr q } x:=by
   intro x hx
   cases x with
   | v q'=>
    show kG (jq _ _) q'=kG (jq _ _) q';rw[dJ,dJ];have hx:kG σ.vr q'=kG σ'.vr q':=hx;rw[hx]
   | _=>exact hx
  obtain⟨e,τ',h2,h3⟩:=ih (σ':={ σ' with vr:=jq σ'.vr q }) h λx hx=>hal x (hr x (by simp[SP.foot,hx]));refine⟨by simp only[SP.foot];rw[e],τ',h2,λx hx=>h3 x ?_⟩;rcases hx with hx | ⟨w,hw,hh⟩
  ·exact .inl (hal x hx)
  ·simp only[SP.foot,List.mem_cons] at hw;rcases hw with rfl | hw
   ·left;refine hal x ?_;cases x<;>simp[Loc.hit] at hh;rw[<- hh];exact hv
   ·exact .inr ⟨w,hw,hh⟩
def sO(a b:List Loc):Bool:=a.any λw=>b.any λx=>w.hit x
def i9(a b:kf):Bool:=sO a.2 b.1 || sO a.2 b.2 || sO b.2 a.1 || sO b.2 a.2
theorem j3{a b:List Loc}(h:sO a b=false):∀w∈a,∀x∈b,w.hit x=false:=by
 intro w hw x hx;simp only[sO,List.any_eq_false,Bool.not_eq_true] at h;exact h w hw x hx
theorem Ag{w w' x:Loc}(h:w.hit x=true) (h':w'.hit x=true):w.hit w'=true\/w'.hit w=true:=by
 cases x<;>cases w<;>simp[Loc.hit] at h<;>cases w'<;>simp[Loc.hit] at h' ⊢<;>simp_all
theorem ve{A B:SP Unit}{σ σ1 σ2:St}(hA:A.run σ=some ((),σ1)) (hB:B.run σ1=some ((),σ2)) (hc:i9 (A.foot σ) (B.foot σ1)=false) :
 ∃ σ1' σ2',B.run σ=some ((),σ1')/\A.run σ1'=some ((),σ2')/\Ct σ2 σ2'/\B.foot σ=B.foot σ1/\A.foot σ1'=A.foot σ:=by
 simp only[i9,Bool.or_eq_false_iff] at hc;obtain⟨⟨⟨c1,c2⟩,c3⟩,c4⟩:=hc;have hR:∀x∈(B.foot σ1).1,ew σ1 σ x:=λx hx=>(fa hA x λw hw=>j3 c1 w hw x hx).symm;obtain⟨e1,σ1',hB',hB2⟩:=gM hB hR;have hfr:∀x,(∀w∈(B.foot σ1).2,w.hit x=false)->ew σ σ1' x:=λx hx=>fa hB' x (by rw[e1];exact hx);have hR2:∀x∈(A.foot σ).1,ew σ σ1' x:=λx hx=>hfr x λw hw=>j3 c3 w hw x hx;obtain⟨e2,σ2',hA',hA2⟩:=gM hA hR2;refine⟨σ1',σ2',hB',hA',λx=>?_,e1,e2⟩;by_cases hx:∃w∈(B.foot σ1).2,w.hit x=true
 ·obtain⟨w,hw,hh⟩:=hx;refine ew.trans (hB2 x (.inr ⟨w,hw,hh⟩)) (fa hA' x λw' hw'=>?_);rw[e2] at hw'
  cases hh':w'.hit x with
  | false=>rfl
  | true=>
   rcases Ag hh hh' with h | h
   ·rw[j3 c4 w hw w' hw'] at h;simp at h
   ·rw[j3 c2 w' hw' w hw] at h;simp at h
 ·have hx':∀w∈(B.foot σ1).2,w.hit x=false:=λw hw=>by
   cases hh:w.hit x with
   | false=>rfl
   | true=>exact absurd ⟨w,hw,hh⟩ hx
  refine ew.trans (fa hB x hx').symm (hA2 x ?_);exact .inl (hfr x hx')
theorem oD{α:Type}{s:SP α}{σ σ':St}{a:α}{τ:St}(h:s.run σ=some (a,τ)) (hs:Ct σ σ'):s.foot σ'=s.foot σ/\∃ τ',s.run σ'=some (a,τ')/\Ct τ τ':=by
 obtain⟨e,τ',h1,h2⟩:=gM h λx _=>hs x;exact⟨e,τ',h1,λx=>h2 x (.inl (hs x))⟩
def hS(pg:Nat->SP Unit):List Nat->St->Option (List (Nat×kf)×St)
 | [],σ=>some ([],σ)
 | i :: r,σ=>((pg i).run σ).bind λx=>(hS pg r x.2).bind λy=>some ((i,(pg i).foot σ) :: y.1,y.2)
theorem vB{pg:Nat->SP Unit}:∀{L:List Nat}{σ σ':St}{fs:List (Nat×kf)}{τ:St},hS pg L σ=some (fs,τ)->Ct σ σ'->∃ τ',hS pg L σ'=some (fs,τ')/\Ct τ τ':=by
 intro L
 induction L with
 | nil=>
  intro σ σ' fs τ h hs;simp only[hS,oSJ,oPJ] at h;obtain⟨rfl,rfl⟩:=h;exact⟨σ',rfl,hs⟩
 | cons i L ih=>
  intro σ σ' fs τ h hs;simp only[hS] at h;obtain⟨⟨u,σ1⟩,h1,h2⟩:=bM h;obtain⟨⟨fs',τ0⟩,h3,h4⟩:=bM h2
  injection h4 with h4
  injection h4 with h4 h5
  subst h5;obtain⟨e,σ1',k1,k2⟩:=oD h1 hs;obtain⟨τ',k3,k4⟩:=ih h3 k2;exact⟨τ',by simp only[hS,k1,oBS,k3,e];rw[h4],k4⟩
theorem s8{pg:Nat->SP Unit}{i:Nat}{post:List Nat}:∀{pre:List Nat}{σ:St}{fs:List (Nat×kf)}{τ:St},hS pg (pre++i :: post) σ=some (fs,τ) ->
 (∀fs1 F fs2,fs=fs1++(i,F) :: fs2->fs1.map (·.1)=pre->∀y∈fs1,i9 y.2 F=false) ->
 ∃ σ' τ' fs1 F fs2,fs=fs1++(i,F) :: fs2/\fs1.map (·.1)=pre/\(pg i).run σ=some ((),σ')/\(pg i).foot σ=F/\hS pg (pre++post) σ'=some (fs1++fs2,τ')/\Ct τ τ':=by
 intro pre
 induction pre with
 | nil=>
  intro σ fs τ h _;simp only[List.nil_append,hS] at h;obtain⟨⟨u,σ1⟩,h1,h2⟩:=bM h;obtain⟨⟨fs',τ0⟩,h3,h4⟩:=bM h2
  injection h4 with h4
  injection h4 with h4 h5
  subst h5;exact⟨σ1,τ0,[],_,fs',h4.symm,rfl,h1,rfl,h3,λx=>ew.refl _ _⟩
 | cons j pre ih=>
  intro σ fs τ h hc;simp only[List.cons_append,hS] at h;obtain⟨⟨u,σ1⟩,h1,h2⟩:=bM h;obtain⟨⟨fs',τ0⟩,h3,h4⟩:=bM h2
  injection h4 with h4
  injection h4 with h4 h5
  subst h5;obtain⟨σ2,τ',fs1,F,fs2,e1,e2,k1,k2,k3,k4⟩:=ih h3 λfs1 F fs2 e e' y hy=>hc ((j,(pg j).foot σ) :: fs1) F fs2 (by rw[<- h4,e];rfl) (by simp[e']) y (by simp[hy])
  have hcl:i9 ((pg j).foot σ) ((pg i).foot σ1)=false:=by
   rw[k2];exact hc ((j,(pg j).foot σ) :: fs1) F fs2 (by rw[<- h4,e1];rfl) (by simp[e2]) (j,(pg j).foot σ) (by simp)
  obtain⟨σ1',σ2',m1,m2,m3,m4,m5⟩:=ve h1 k1 hcl;obtain⟨τ2,n1,n2⟩:=vB k3 m3;refine⟨σ1',τ2,(j,(pg j).foot σ) :: fs1,F,fs2,by rw[<- h4,e1];rfl,by simp[e2],m1,m4.trans k2,?_,λx=>(k4 x).trans (n2 x)⟩;simp only[List.cons_append,hS,m2,oBS,n1,m5]
def eH(deps:List (List Nat)):List (Nat×kf)->Bool
 | []=>true
 | (j,F) :: r=>(r.all λy=>!i9 F y.2 || (deps.getD y.1 []).contains j) && eH deps r
structure eI where
 dst:Option Nat
 guard:Option (Nat×Bool)
 op:TOp
inductive fM where
 | skip
 | nrm (pers:List Nat×List Nat)
 | reg (id:Nat) (draw:Option (List (List Nat))) (ops:List eI) (pers:List Nat×List Nat)
 | seq (a b:fM)
 | cond (c:Opd) (a b:fM)
 | block (id:Nat) (b:fM)
 | loop (b:fM)
 | exit (id:Nat)
 | ret
 | pre (l:List (Nat×Option Nat)) (a:fM)
 | post (a:fM) (l:List (Nat×Option Nat))
inductive fL where
 | normal
 | exit (id:Nat)
 | ret
def renorm0(L:List Nat) (σ:St):TV->TV
 | .ptr p vs=>if L.contains p.root && vs==fe σ.v p.root p.off p.hops.length then .ptr p (fe (λ_=>0) p.root p.off p.hops.length) else .dead
 | .pk p vs=>if L.contains p.root && vs==fe σ.v p.root p.off (p.hops.length+1) then .pk p (fe (λ_=>0) p.root p.off (p.hops.length+1)) else .dead
 | .pw p vs sz lo n=>if L.contains p.root && vs==fe σ.v p.root p.off (p.hops.length+1) then .pw p (fe (λ_=>0) p.root p.off (p.hops.length+1)) sz lo n else .dead
 | .v x=>.v x
 | .sl c=>.sl c
 | .ip cs=>.ip cs
 | .ow []=>.ow []
 | .tup []=>.tup []
 | _=>.dead
def renorm(L:List Nat) (σ:St):TV->TV
 | .agg l=>.agg (l.map (renorm0 L σ))
 | .fn f l=>.fn f (l.map (renorm0 L σ))
 | t=>renorm0 L σ t
def normT(L:List Nat) (σ:St):List Nat->List (Nat×TV)
 | []=>[]
 | i :: r=>match ca σ.tm i with | some t=>(i,renorm L σ t) :: normT L σ r | none=>normT L σ r
def normC(σ:St):List Nat->List (Nat×List TV)
 | []=>[]
 | r :: l=>match ca σ.ce r with | some c=>(r,c) :: normC σ l | none=>normC σ l
abbrev Prs:=List Nat×List Nat
def St.norm(σ:St) (pers:Prs):St:=⟨normT pers.2 σ pers.1,normC σ pers.2,[]⟩
def evop(call:Option Nat->TOp->SP Unit) (dst:Option Nat) (op:TOp):SP Unit:=
 match op with
 | .call k f args=>call dst (.call k f args)
 | .store n mv a x=>match dst with | none=>ev1 0 (.store n mv a x) | some _=>.fail
 | op=>match dst with | some d=>ev1 d op | none=>.fail
def pX(call:Option Nat->TOp->SP Unit) (o:eI) (σ:St):Option St:=
 match o.guard with
 | none=>((evop call o.dst o.op).run σ).map (·.2)
 | some (j,want)=>
  match σ.t j with
  | .v (.bool b)=>if b=want then ((evop call o.dst o.op).run σ).map (·.2) else match o.dst with | some d=>some { σ with tm:=dk σ.tm d (.tup []) } | none=>some σ
  | .tup []=>match o.dst with | some d=>some { σ with tm:=dk σ.tm d (.tup []) } | none=>some σ
  | _=>none
def kn(call:Option Nat->TOp->SP Unit):List eI->St->Option St
 | [],σ=>some σ
 | o :: r,σ=>(pX call o σ).bind (kn call r)
def setNo(dst:Option Nat):SP Unit:=match dst with | some d=>.wrT d (.tup []) (.ret ()) | none=>.ret ()
def spOp(call:Option Nat->TOp->SP Unit) (o:eI):SP Unit:=
 match o.guard with
 | none=>evop call o.dst o.op
 | some (j,want)=>.rdT j λt=>match t with
  | .v (.bool b)=>if b=want then evop call o.dst o.op else setNo o.dst
  | .tup []=>setNo o.dst
  | _=>.fail
def rd:eI:=⟨none,none,.lens (.t 0)⟩
theorem ug{call:Option Nat->TOp->SP Unit}{o:eI}{σ σ':St}(h:(spOp call o).run σ=some ((),σ')):pX call o σ=some σ':=by
 have hno:∀{σ'},(setNo o.dst).run σ=some ((),σ')->(match o.dst with | some d=>some { σ with tm:=dk σ.tm d (.tup []) } | none=>some σ)=some σ':=by
  intro σ' h;unfold setNo at h
  cases hd:o.dst with
  | none=>rw[hd] at h;simp only[SP.run,oSJ,oPJ,true_and] at h;simp[h]
  | some d=>rw[hd] at h;simp only[SP.run,oSJ,oPJ,true_and] at h;simp[h]
 unfold spOp at h;unfold pX
 cases hg:o.guard with
 | none=>rw[hg] at h;simp only at h ⊢;rw[h];rfl
 | some g=>
  obtain⟨j,want⟩:=g;rw[hg] at h;simp only[SP.run] at h ⊢;split at h
  ·rename_i b hb;split at h
   ·rename_i hbw;rw[oIP hbw,h];rfl
   ·rename_i hbw;rw[oIN hbw];exact hno h
  ·exact hno h
  ·simp[SP.run] at h
def B8(f:St->Option (fL×St)):Nat->St->Option (fL×St)
 | 0,_=>none
 | n+1,σ=>(f σ).bind λx=>match x.1 with | .normal=>B8 f n x.2 | e=>some (e,x.2)
def shr1(x:Nat×Option Nat):SP Unit:=.rdT x.1 λt=>match x.2,t with
 | none,.pk p vs=>(take1 false (.pk p vs)).bind λt'=>.wrT x.1 t'.imm (.ret ())
 | some off,.ptr p vs=>(chk p p.hops.length vs).bind λ_=>if p.fits off then (getPl (p.add off)).bind λt=>match t with
  | .ow c=>(peek1 (p.add off) (.ow c)).bind λt'=>(take1 false t').bind λ_=>.ret ()
  | _=>.ret ()
  else .fail
 | _,_=>.ret ()
def shrs:List (Nat×Option Nat)->SP Unit
 | []=>.ret ()
 | x :: r=>(shr1 x).bind λ_=>shrs r
def St.anew(σ:St):St:=σ.norm (σ.tm.map (·.1),σ.ce.map (·.1))
def runC(call:Option Nat->TOp->SP Unit) (N:Nat):fM->St->Option (fL×St)
 | .skip,σ=>some (.normal,σ)
 | .nrm pers,σ=>some (.normal,σ.norm pers)
 | .reg _ draw ops pers,σ=>
  match draw with
  | none=>(kn call ops σ).map fun σ'=>(.normal,σ'.norm pers)
  | some deps=>(hS (λi=>spOp call (ops.getD i rd)) (List.range ops.length) σ).bind λx=>if eH deps x.1 then some (.normal,x.2.norm pers) else none
 | .seq a b,σ=>(runC call N a σ).bind λx=>match x.1 with | .normal=>runC call N b x.2 | e=>some (e,x.2)
 | .cond c a b,σ=>((opd c).run σ).bind λx=>match x.1 with | .v (.bool true)=>runC call N a σ | .v (.bool false)=>runC call N b σ | _=>none
 | .block id b,σ=>(runC call N b σ).bind λx=>match x.1 with | .exit i=>if i=id then some (.normal,x.2) else some (.exit i,x.2) | e=>some (e,x.2)
 | .loop b,σ=>B8 (runC call N b) N σ
 | .exit id,σ=>some (.exit id,σ)
 | .ret,σ=>some (.ret,σ)
 | .pre l a,σ=>((shrs l).run σ).bind λx=>runC call N a x.2.anew
 | .post a l,σ=>(runC call N a σ).bind λx=>((shrs l).run x.2).bind λy=>some (x.1,y.2.anew)
section norm
variable {M:Fm} {σ σ':St} {ts:Array Value} {w:World} {G:Gh}
theorem wA(L:List Nat) (σ:St) (l:List Nat) (i:Nat):ca (normT L σ l) i=if i∈l then (ca σ.tm i).map (renorm L σ) else none:=by
 induction l with
 | nil=>simp[normT,ca]
 | cons j r ih=>
  simp only[normT];by_cases hj:j=i
  ·subst hj
   cases h:ca σ.tm j with
   | none=>simp only[ih,h];split<;>simp
   | some t=>simp[ca]
  ·cases h:ca σ.tm j with
   | none=>simp only[ih,List.mem_cons,Ne.symm hj,false_or]
   | some t=>simp only[ca,hj,if_false,ih,List.mem_cons,Ne.symm hj,false_or]
theorem mi(σ:St) (l:List Nat) (r:Nat):ca (normC σ l) r=if r∈l then ca σ.ce r else none:=by
 induction l with
 | nil=>simp[normC,ca]
 | cons j l ih=>
  simp only[normC];by_cases hj:j=r
  ·subst hj
   cases h:ca σ.ce j with
   | none=>simp only[ih,h];split<;>simp
   | some t=>simp[ca]
  ·cases h:ca σ.ce j with
   | none=>simp only[ih,List.mem_cons,Ne.symm hj,false_or]
   | some t=>simp only[ca,hj,if_false,ih,List.mem_cons,Ne.symm hj,false_or]
theorem Inv.norm(hI:Inv M σ [] [] ts w G) (pers:Prs):∃G',Inv M (σ.norm pers) [] [] ts w G':=by
 obtain⟨L,hL⟩:∃L,L=pers.2:=⟨_,rfl⟩
 have hc:∀r o,(σ.norm pers).c r o=if r∈L then σ.c r o else .dead:=by
  intro r o;unfold St.c St.norm;simp only[<- hL,mi];by_cases h:r∈L<;>simp[h]
 have hE:∀r o,b8 M (σ.norm pers) [] r o=if r∈L then b8 M σ [] r o else .dead:=by
  intro r o;unfold b8;by_cases h:r=M.hr
  ·simp[h]
  ·simp only[oIN h,hc]
 let G':Gh:=⟨G.β,G.η,λr o k=>if r∈L then G.φ r o k else False⟩
 have hsub:∀r o k,G'.φ r o k->G.φ r o k:=by
  intro r o k hk;simp only[G'] at hk;split at hk
  ·exact hk
  ·exact hk.elim
 have hgh:=f9.ghost (C':=b8 M (σ.norm pers) []) (G':=G') hI.core rfl (λk ⟨r,o,h⟩=>⟨r,o,hsub r o k h⟩) (λr1 o1 r2 o2 k h1 h2=>hI.core.dis _ _ _ _ k (hsub _ _ k h1) (hsub _ _ k h2))
  (λr b o0 n hb o ho=>by
   rw[hE];split
   ·exact hI.core.boxc r b o0 n hb o ho
   ·rfl)
  (λr o=>by
   by_cases h:r∈L
   ·left;exact⟨by rw[hE,oIP h],λk=>by simp[G',h],rfl⟩
   ·right;left;exact⟨by rw[hE,oIN h],λk hk=>by simp[G',h] at hk⟩)
 have hv0:(σ.norm pers).v=λ_=>0:=by funext q;rfl
 have hrn0:∀{t:TV} {x:Value},TmR w (G.F M.A) σ.v (b8 M σ []) G t x->TmR w (G'.F M.A) (σ.norm pers).v (b8 M (σ.norm pers) []) G' (renorm0 L σ t) x:=by
  intro t x h;rw[hv0]
  cases h with
  | v h=>exact .v h
  | nil=>exact .nil
  | sl h=>exact .sl (h.frame (λ_ _ _=>rfl) λk hk _=>hgh.2 k hk)
  | dead=>exact .dead
  | @ptr p vs x V0 h0 hv hok=>
   simp only[renorm0];split
   ·rename_i hc;simp only[oBA,List.contains_iff_mem,beq_iff_eq] at hc;refine .ptr (λ_=>0) (λ_=>Nat.le_refl _) rfl λ_=>?_;obtain⟨h1,ad,t,h2,h3,h4⟩:=hok hc.2;exact⟨h1,ad,t,gG h2 rfl λ_=>rfl,h3,by rw[hE,oIP hc.1];exact h4⟩
   ·exact .dead
  | ip u hcl hr=>exact .ip u (λj hj=>⟨hgh.2 _ (hcl j hj).1,(hcl j hj).2⟩) λj hj=>(hr j hj).frame (λ_ _ _=>rfl) λk hk _=>hgh.2 k hk
  | @pk p vs x V0 h0 hv hok=>
   simp only[renorm0];split
   ·rename_i hc;simp only[oBA,List.contains_iff_mem,beq_iff_eq] at hc;refine .pk (λ_=>0) (λ_=>Nat.le_refl _) rfl λ_=>?_;obtain⟨h1,c,h2,h3⟩:=hok hc.2;exact⟨h1,c,h2,by rw[hE,oIP hc.1];exact h3⟩
   ·exact .dead
  | @pw p vs sz lo n x V0 h0 hv hok=>
   simp only[renorm0];split
   ·rename_i hc;simp only[oBA,List.contains_iff_mem,beq_iff_eq] at hc;refine .pw (λ_=>0) (λ_=>Nat.le_refl _) rfl λ_=>?_;obtain⟨h1,c,hd,h2,h3,h4⟩:=hok hc.2;exact⟨h1,c,hd,h2,by rw[hE,oIP hc.1];exact h3,h4⟩
   ·exact .dead
  | agg hl h=>exact .dead
  | @tup l xs hl h=>
   cases l with
   | nil=>exact .tup hl λj hj=>by simp at hj
   | cons=>exact .dead
  | fn hl h=>exact .dead
 have hrn:∀{t:TV} {x:Value},TmR w (G.F M.A) σ.v (b8 M σ []) G t x->TmR w (G'.F M.A) (σ.norm pers).v (b8 M (σ.norm pers) []) G' (renorm L σ t) x:=by
  intro t x h;have h0:=hrn0 h
  cases h with
  | @agg l xs hl h=>exact .agg (by simpa using hl) λj hj=>by simpa using hrn0 (h j (by simpa using hj))
  | @fn f l xs hl h=>exact .fn (by simpa using hl) λj hj=>by simpa using hrn0 (h j (by simpa using hj))
  | _=>exact h0
 refine⟨G',hgh.1,λi=>?_,hI.fram.ghost rfl (λk ⟨r,o,h⟩=>⟨r,o,hsub r o k h⟩),λr l h=>?_,hI.size,rfl,λj hj=>by simp at hj,λr b o n hb l h=>?_⟩
 ·have e:(σ.norm pers).t i=if i∈pers.1 then (match ca σ.tm i with | some t=>renorm L σ t | none=>.dead) else .dead:=by
   unfold St.t St.norm;simp only[<- hL,wA];by_cases h:i∈pers.1
   ·simp only[h,if_true];cases ca σ.tm i<;>rfl
   ·simp[h]
  rw[e];split
  ·cases ha:ca σ.tm i with
   | none=>exact .dead
   | some t=>
    have:=hI.tmr i
    have et:σ.t i=t:=by simp[St.t,ha]
    rw[et] at this;exact hrn this
  ·exact .dead
 ·have:ca (normC σ L) r=some l:=by rw[hL];exact h
  rw[mi] at this;split at this
  ·exact hI.keys r l this
  ·simp at this
 ·have:ca (normC σ L) r=some l:=by rw[hL];exact h
  rw[mi] at this;split at this
  ·exact hI.shape r b o n hb l this
  ·simp at this
end norm
def Cz(P:Program) (M:Fm) (σ':St) (a:Act) (o:Oper) (w:World):Prop:=
 ∀(K:Act->World->Prop) (Q:Exit->Act->World->Prop),(∀a' w' G',Inv M σ' [] [] a'.tmps w' G'->a'.defers=a.defers->K a' w')->o.wp P a w K Q
theorem gK(a:Act) (d:Option Tmp) (v:Value):(a.put d v).defers=a.defers:=by cases d<;>rfl
theorem g7.simO{P:Program}{M:Fm}{σ':St}{a:Act}{o:Oper}{w:World}(h:g7 P M σ' a o w):Cz P M σ' a o w:=by
 obtain⟨nx,x,w',G',hrun,hnx,hI⟩:=h;intro K Q hK;unfold Oper.wp;rw[hrun];rcases hnx with rfl | ⟨rfl,rfl⟩
 ·exact hK _ w' G' hI (gK _ _ _)
 ·exact hK _ w' G' hI (gK _ _ _)
structure mQ (P:Program) (M:Fm) (isCall:Op->TOp->Prop) (ops:Array Oper) (o:Oper) (t:eI):Prop where
 dst:t.dst=o.dst
 lt:∀d,o.dst=some d->d < M.N/\M.pr (2*d+2)=none
 guard:(o.guard=none/\t.guard=none)\/∃j want dj,o.guard=some (j,want)/\t.guard=some (dj,want)/\(ops[j]?).bind (·.dst)=some dj
 op:(∃mv,dG P mv o.op=some t.op)\/isCall o.op t.op
def oA(P:Program) (M:Fm) (isCall:Op->TOp->Prop) (call:Option Nat->TOp->SP Unit):Prop:=
 ∀(o:Oper) (t:TOp) (σ σ':St) (a:Act) (w:World) (G:Gh),isCall o.op t->(∀d,o.dst=some d->d < M.N/\M.pr (2*d+2)=none)->Inv M σ [] [] a.tmps w G->(evop call o.dst t).run σ=some ((),σ')->Cz P M σ' a o w
section
variable {P:Program} {M:Fm} {σ σ':St} {w:World} {G:Gh} {a:Act} {o:Oper} {isCall:Op->TOp->Prop} {call:Option Nat->TOp->SP Unit} {ops:Array Oper}
theorem tT{mv:Nat}{op:Op}{t:TOp}(h:dG P mv op=some t):∀k f args,t≠.call k f args:=by
 rintro k f args rfl;cases op<;>simp only[dG] at h
 case move x=>split at h<;>first | (simp at h;done) | (obtain⟨_,_,h⟩:=ee h;simp at h)
 case assign x=>split at h<;>(obtain⟨_,_,h⟩:=ee h;simp at h)
 case pick=>obtain⟨_,_,h⟩:=bM h;obtain⟨_,_,h⟩:=bM h;obtain⟨_,_,h⟩:=bM h;simp at h
 case alloc=>obtain⟨_,_,h⟩:=ee h;simp at h
 case box=>obtain⟨_,_,h⟩:=bM h;obtain⟨_,_,h⟩:=bM h;simp at h
 case build=>(repeat' split at h)<;>first | (simp at h;done) | (obtain⟨_,_,h⟩:=bM h;obtain⟨_,_,h⟩:=bM h;simp at h) | (obtain⟨_,_,h⟩:=bM h;simp at h)
 case buildSlice=>(repeat' split at h)<;>first | (simp at h;done) | (obtain⟨_,_,h⟩:=bM h;obtain⟨_,_,h⟩:=bM h;simp at h)
 case load=>obtain⟨_,_,h⟩:=bM h;obtain⟨_,_,h⟩:=bM h;simp at h
 case store=>obtain⟨_,_,h⟩:=bM h;obtain⟨_,_,h⟩:=bM h;obtain⟨_,_,h⟩:=bM h;obtain⟨_,_,h⟩:=bM h;simp at h
 case nilCheck=>obtain⟨_,_,h⟩:=ee h;simp at h
 case binOp=>(repeat' split at h)<;>first | (simp at h;done) | (obtain⟨_,_,h⟩:=bM h;obtain⟨_,_,h⟩:=bM h;simp at h)
 case unOp=>obtain⟨_,_,h⟩:=ee h;simp at h
 case convert=>(repeat' split at h)<;>first | (simp at h;done) | (obtain⟨_,_,h⟩:=ee h;simp at h)
 case makeFunc=>split at h<;>first | (simp at h;done) | (obtain⟨_,_,h⟩:=bM h;obtain⟨_,_,h⟩:=bM h;simp at h)
 case makeSlice=>(repeat' split at h)<;>first | (simp at h;done) | (obtain⟨_,_,h⟩:=bM h;obtain⟨_,_,h⟩:=bM h;obtain⟨_,_,h⟩:=bM h;simp at h)
 case slice=>(repeat' split at h)<;>first | (simp at h;done) | (obtain⟨_,_,h⟩:=bM h;obtain⟨_,_,h⟩:=bM h;obtain⟨_,_,h⟩:=bM h;simp at h;done) | (obtain⟨_,_,h⟩:=bM h;obtain⟨_,_,h⟩:=bM h;obtain⟨_,_,h⟩:=bM h;obtain⟨_,_,h⟩:=bM h;simp at h)
 case fieldAddr=>(repeat' split at h)<;>first | (simp at h;done) | (obtain⟨_,_,h⟩:=ee h;simp at h)
 case field=>(repeat' split at h)<;>first | (simp at h;done) | (obtain⟨_,_,h⟩:=bM h;obtain⟨_,_,h⟩:=bM h;simp at h)
 case indexAddr=>(repeat' split at h)<;>first | (simp at h;done) | (obtain⟨_,_,h⟩:=bM h;obtain⟨_,_,h⟩:=bM h;obtain⟨_,_,h⟩:=bM h;simp at h)
 case index=>(repeat' split at h)<;>first | (simp at h;done) | (obtain⟨_,_,h⟩:=bM h;obtain⟨_,_,h⟩:=bM h;simp at h)
 case extract=>obtain⟨_,_,h⟩:=ee h;simp at h
 case call=>(repeat' split at h)<;>first | (simp at h;done) | (obtain⟨_,_,h⟩:=bM h;obtain⟨_,_,h⟩:=bM h;obtain⟨_,_,h⟩:=bM h;simp at h) | (obtain⟨_,_,h⟩:=ee h;simp at h)
 all_goals simp at h
theorem up(hI:Inv M σ [] [] a.tmps w G) {t:eI}(hok:mQ P M isCall ops o t) (hcall:oA P M isCall call) (hr:(evop call t.dst t.op).run σ=some ((),σ')):Cz P M σ' a o w:=by
 rcases hok.op with ⟨mv,hc⟩ | hc
 ·have hnc:=tT hc;by_cases hst:∃ty x y,o.op=.store ty x y
  ·obtain⟨ty,x,y,ho⟩:=hst;rw[ho] at hc;simp only[dG] at hc;obtain⟨n,h1,hc⟩:=bM hc;obtain⟨u,h2,hc⟩:=bM hc;obtain⟨x1,h3,hc⟩:=bM hc;obtain⟨y1,h4,hc⟩:=bM hc
   injection hc with hc
   rw[<- hc] at hr;simp only[evop] at hr
   cases hd:t.dst with
   | some d=>simp[hd,SP.run] at hr
   | none=>
    simp only[hd] at hr;have hg:=gU h2;exact (wS hI (d:=0) (by rw[<- hok.dst,hd]) h3 h4 ho h1 (by simpa using hg) hr).simO
  ·cases hd:t.dst with
   | none=>
    exfalso;rw[hd] at hr
    cases ht:t.op<;>rw[ht] at hr<;>simp only[evop,SP.run] at hr<;>first | (simp at hr;done) | skip
    ·rename_i n mv' a' x';rw[ht] at hc;cases ho:o.op<;>rw[ho] at hc hst<;>simp only[dG] at hc
     case store=>exact hst ⟨_,_,_,rfl⟩
     case move x=>split at hc<;>first | (simp at hc;done) | (obtain⟨_,_,h⟩:=ee hc;simp at h)
     case assign x=>split at hc<;>(obtain⟨_,_,h⟩:=ee hc;simp at h)
     case pick=>obtain⟨_,_,h⟩:=bM hc;obtain⟨_,_,h⟩:=bM h;obtain⟨_,_,h⟩:=bM h;simp at h
     case alloc=>obtain⟨_,_,h⟩:=ee hc;simp at h
     case box=>obtain⟨_,_,h⟩:=bM hc;obtain⟨_,_,h⟩:=bM h;simp at h
     case build=>(repeat' split at hc)<;>first | (simp at hc;done) | (obtain⟨_,_,h⟩:=bM hc;obtain⟨_,_,h⟩:=bM h;simp at h) | (obtain⟨_,_,h⟩:=bM hc;simp at h)
     case buildSlice=>(repeat' split at hc)<;>first | (simp at hc;done) | (obtain⟨_,_,h⟩:=bM hc;obtain⟨_,_,h⟩:=bM h;simp at h)
     case load=>obtain⟨_,_,h⟩:=bM hc;obtain⟨_,_,h⟩:=bM h;simp at h
     case nilCheck=>obtain⟨_,_,h⟩:=ee hc;simp at h
     case binOp=>(repeat' split at hc)<;>first | (simp at hc;done) | (obtain⟨_,_,h⟩:=bM hc;obtain⟨_,_,h⟩:=bM h;simp at h)
     case unOp=>obtain⟨_,_,h⟩:=ee hc;simp at h
     case convert=>(repeat' split at hc)<;>first | (simp at hc;done) | (obtain⟨_,_,h⟩:=ee hc;simp at h)
     case makeFunc=>split at hc<;>first | (simp at hc;done) | (obtain⟨_,_,h⟩:=bM hc;obtain⟨_,_,h⟩:=bM h;simp at h)
     case makeSlice=>(repeat' split at hc)<;>first | (simp at hc;done) | (obtain⟨_,_,h⟩:=bM hc;obtain⟨_,_,h⟩:=bM h;obtain⟨_,_,h⟩:=bM h;simp at h)
     case slice=>(repeat' split at hc)<;>first | (simp at hc;done) | (obtain⟨_,_,h⟩:=bM hc;obtain⟨_,_,h⟩:=bM h;obtain⟨_,_,h⟩:=bM h;simp at h;done) | (obtain⟨_,_,h⟩:=bM hc;obtain⟨_,_,h⟩:=bM h;obtain⟨_,_,h⟩:=bM h;obtain⟨_,_,h⟩:=bM h;simp at h)
     case fieldAddr=>(repeat' split at hc)<;>first | (simp at hc;done) | (obtain⟨_,_,h⟩:=ee hc;simp at h)
     case field=>(repeat' split at hc)<;>first | (simp at hc;done) | (obtain⟨_,_,h⟩:=bM hc;obtain⟨_,_,h⟩:=bM h;simp at h)
     case indexAddr=>(repeat' split at hc)<;>first | (simp at hc;done) | (obtain⟨_,_,h⟩:=bM hc;obtain⟨_,_,h⟩:=bM h;obtain⟨_,_,h⟩:=bM h;simp at h)
     case index=>(repeat' split at hc)<;>first | (simp at hc;done) | (obtain⟨_,_,h⟩:=bM hc;obtain⟨_,_,h⟩:=bM h;simp at h)
     case extract=>obtain⟨_,_,h⟩:=ee hc;simp at h
     case call=>(repeat' split at hc)<;>first | (simp at hc;done) | (obtain⟨_,_,h⟩:=bM hc;obtain⟨_,_,h⟩:=bM h;obtain⟨_,_,h⟩:=bM h;simp at h) | (obtain⟨_,_,h⟩:=ee hc;simp at h)
     all_goals simp at hc
    ·exact absurd ht (hnc _ _ _)
   | some d=>
    have hdd:o.dst=some d:=by rw[<- hok.dst,hd]
    obtain⟨h1,h2⟩:=hok.lt d hdd
    have hr':(ev1 d t.op).run σ=some ((),σ'):=by
     rw[hd] at hr
     cases ht:t.op<;>rw[ht] at hr<;>simp only[evop] at hr<;>first | exact hr | (simp[SP.run] at hr;done) | exact absurd ht (hnc _ _ _)
    exact (Bl hI hdd h1 h2 hc hr' hst).simO
 ·exact hcall o t.op σ σ' a w G hc hok.lt hI (by rw[<- hok.dst];exact hr)
theorem rj{F:Nat->Prop}{V:Vs}{C:Cs}:TmR w F V C G (.tup []) undef:=.tup (by simp) λj hj=>by simp at hj
theorem Bk{tops:List eI}(hlen:tops.length=ops.size) (hok:∀i (h:i < ops.size) (h':i < tops.length),mQ P M isCall ops ops[i] tops[i]) (hcall:oA P M isCall call) {Q:Exit->Act->World->Prop} :
 ∀(L:List Nat) (σ:St) (a:Act) (w:World) (G:Gh),(∀i∈L,i < ops.size)->Inv M σ [] [] a.tmps w G->kn call (L.map λi=>tops.getD i ⟨none,none,.lens (.t 0)⟩) σ=some σ' ->
  (∀a' w' G',Inv M σ' [] [] a'.tmps w' G'->a'.defers=a.defers->Q .normal a' w')->wpOps P ops Q L a w:=by
 intro L
 induction L with
 | nil=>
  intro σ a w G _ hI hr hQ;simp only[List.map_nil,kn,oSJ] at hr;subst hr;exact hQ a w G hI rfl
 | cons i L ih=>
  intro σ a w G hL hI hr hQ;have hi:i < ops.size:=hL i (by simp)
  have hi':i < tops.length:=by omega
  simp only[List.map_cons,kn] at hr
  have e:tops.getD i ⟨none,none,.lens (.t 0)⟩=tops[i]:=by simp[hi']
  rw[e] at hr
  cases hro:pX call tops[i] σ with
  | none=>simp[hro] at hr
  | some σ1=>
   simp only[hro,oBS] at hr;have hop:=hok i hi hi';simp only[wpOps,Array.getElem?_eq_getElem hi]
   have go:(evop call tops[i].dst tops[i].op).run σ=some ((),σ1)->ops[i].wp P a w (wpOps P ops Q L) Q:=λh=>by
    refine up hI hop hcall h _ _ λa' w' G' hI' hd=>?_;exact ih σ1 a' w' G' (λj hj=>hL j (by simp[hj])) hI' hr (λa2 w2 G2 h2 hd2=>hQ a2 w2 G2 h2 (hd2.trans hd))
   have skip:(match tops[i].dst with | some d=>some { σ with tm:=dk σ.tm d (.tup []) } | none=>some σ)=some σ1->wpOps P ops Q L (a.put ops[i].dst undef) w:=λh=>by
    rw[hop.dst] at h
    cases hd:ops[i].dst with
    | none=>
     rw[hd] at h
     injection h with h
     subst h;exact ih σ a w G (λj hj=>hL j (by simp[hj])) hI hr hQ
    | some d=>
     rw[hd] at h
     injection h with h
     subst h;exact ih _ (a.put (some d) undef) w G (λj hj=>hL j (by simp[hj])) (hI.wrT (hop.lt d hd).1 rj) hr (λa2 w2 G2 h2 hd2=>hQ a2 w2 G2 h2 hd2)
   unfold pX at hro;rcases hop.guard with ⟨g1,g2⟩ | ⟨j,want,dj,g1,g2,g3⟩
   ·rw[oIP (by simp[Region.wanted,g1])];left;simp only[g2] at hro;obtain⟨⟨u,σ2⟩,h1,h2⟩:=ee hro;exact go (by rw[h1];simp only at h2;rw[h2])
   ·simp only[g2] at hro
    have hy:yielded ops a.tmps j=match (a.tmps[dj]?:Option Value) with | some (.bool b)=>some b | _=>none:=by
     unfold yielded;rw[g3];rfl
    have htm:=hI.tmr dj
    cases hs:σ.t dj with
    | v x=>
     rw[hs] at htm hro;obtain⟨hx,_⟩:=htm.v_inv
     cases x with
     | bool b=>
      have hget:a.tmps[dj]?=some (.bool b):=by
       rw[Array.getD_eq_getD_getElem?] at hx
       cases hq:a.tmps[dj]? with
       | none=>rw[hq] at hx;simp[undef] at hx
       | some v=>rw[hq] at hx;simp at hx;rw[hx]
      have hy':yielded ops a.tmps j=some b:=by rw[hy,hget]
      simp only at hro;by_cases hb:b=want
      ·rw[oIP hb] at hro;rw[oIP (by simp[Region.wanted,g1,hy',hb])];left;obtain⟨⟨u,σ2⟩,h1,h2⟩:=ee hro;exact go (by rw[h1];simp only at h2;rw[h2])
      ·rw[oIN hb] at hro;rw[oIN (by simp[Region.wanted,g1,hy',hb])];exact skip hro
     | _=>simp at hro
    | tup l=>
     rw[hs] at htm hro
     cases l with
     | nil=>
      have hu:a.tmps.getD dj undef=undef:=by
       generalize a.tmps.getD dj undef=z at htm
       cases htm with
       | @tup _ xs hl _=>have:xs=#[]:=by apply Array.eq_empty_of_size_eq_zero;simpa using hl
                         rw[this];rfl
      have hy':yielded ops a.tmps j=none:=by
       rw[hy];rw[Array.getD_eq_getD_getElem?] at hu
       cases hq:a.tmps[dj]? with
       | none=>rfl
       | some v=>
        rw[hq] at hu;simp only[Option.getD_some] at hu;rw[hu];rfl
      simp only at hro;rw[oIN (by simp[Region.wanted,g1,hy'])];exact skip hro
     | cons=>simp at hro
    | _=>rw[hs] at hro;simp at hro
end
section
variable {P:Program} {M:Fm} {σ σ':St} {H:List TV} {xs:List Value} {ts:Array Value} {w:World} {G:Gh} {a:Act} {o:Oper} {isCall:Op->TOp->Prop} {call:Option Nat->TOp->SP Unit} {ops:Array Oper}
theorem Inv.congr(hI:Inv M σ H xs ts w G) (hs:Ct σ σ'):Inv M σ' H xs ts w G:=by
 have hc:b8 M σ' H=b8 M σ H:=by
  funext r o;unfold b8;split
  ·rfl
  ·exact (hs (.c r o)).symm
 have hv:σ'.v=σ.v:=by funext q;exact (hs (.v q)).symm
 have hn:∀r l,ca σ'.ce r=some l->∃l0,ca σ.ce r=some l0/\l0.length=l.length:=by
  intro r l h;have h1:(ca σ.ce r).map List.length=(ca σ'.ce r).map List.length:=hs (.n r);rw[h] at h1
  cases ha:ca σ.ce r with
  | none=>rw[ha] at h1;simp at h1
  | some l0=>rw[ha] at h1;exact⟨l0,rfl,by simpa using h1⟩
 refine⟨by rw[hc];exact hI.core,λi=>?_,hI.fram,λr l h=>?_,hI.size,hI.hand,hI.hval,λr b o n hb l h=>?_⟩
 ·have ht:σ'.t i=σ.t i:=by
   have:ca σ.tm i=ca σ'.tm i:=hs (.t i);simp[St.t,this]
  rw[hc,hv,ht];exact hI.tmr i
 ·obtain⟨l0,h1,_⟩:=hn r l h;exact hI.keys r l0 h1
 ·obtain⟨l0,h1,h2⟩:=hn r l h;rw[<- h2];exact hI.shape r b o n hb l0 h1
theorem zr{t:eI}{i:Nat}{Q:Exit->Act->World->Prop}{K:Act->World->Prop}(hi:i < ops.size) (hop:mQ P M isCall ops ops[i] t) (hcall:oA P M isCall call) (hI:Inv M σ [] [] a.tmps w G) (hro:pX call t σ=some σ')
 (hK:∀a' w' G',Inv M σ' [] [] a'.tmps w' G'->a'.defers=a.defers->K a' w'):wpOp P ops Q i K a w:=by
 unfold wpOp;simp only[Array.getElem?_eq_getElem hi]
 have go:(evop call t.dst t.op).run σ=some ((),σ')->ops[i].wp P a w K Q:=λh=>by
  exact up hI hop hcall h _ _ hK
 have skip:(match t.dst with | some d=>some { σ with tm:=dk σ.tm d (.tup []) } | none=>some σ)=some σ'->K (a.put ops[i].dst undef) w:=λh=>by
  rw[hop.dst] at h
  cases hd:ops[i].dst with
  | none=>
   rw[hd] at h
   injection h with h
   subst h;exact hK a w G hI rfl
  | some d=>
   rw[hd] at h
   injection h with h
   subst h;exact hK (a.put (some d) undef) w G (hI.wrT (hop.lt d hd).1 rj) rfl
 unfold pX at hro;rcases hop.guard with ⟨g1,g2⟩ | ⟨j,want,dj,g1,g2,g3⟩
 ·rw[oIP (by simp[Region.wanted,g1])];left;simp only[g2] at hro;obtain⟨⟨u,σ2⟩,h1,h2⟩:=ee hro;exact go (by rw[h1];simp only at h2;rw[h2])
 ·simp only[g2] at hro
  have hy:yielded ops a.tmps j=match (a.tmps[dj]?:Option Value) with | some (.bool b)=>some b | _=>none:=by
   unfold yielded;rw[g3];rfl
  have htm:=hI.tmr dj
  cases hs:σ.t dj with
  | v x=>
   rw[hs] at htm hro;obtain⟨hx,_⟩:=htm.v_inv
   cases x with
   | bool b=>
    have hget:a.tmps[dj]?=some (.bool b):=by
     rw[Array.getD_eq_getD_getElem?] at hx
     cases hq:a.tmps[dj]? with
     | none=>rw[hq] at hx;simp[undef] at hx
     | some v=>rw[hq] at hx;simp at hx;rw[hx]
    have hy':yielded ops a.tmps j=some b:=by rw[hy,hget]
    simp only at hro;by_cases hb:b=want
    ·rw[oIP hb] at hro;rw[oIP (by simp[Region.wanted,g1,hy',hb])];left;obtain⟨⟨u,σ2⟩,h1,h2⟩:=ee hro;exact go (by rw[h1];simp only at h2;rw[h2])
    ·rw[oIN hb] at hro;rw[oIN (by simp[Region.wanted,g1,hy',hb])];exact skip hro
   | _=>simp at hro
  | tup l=>
   rw[hs] at htm hro
   cases l with
   | nil=>
    have hu:a.tmps.getD dj undef=undef:=by
     generalize a.tmps.getD dj undef=z at htm
     cases htm with
     | @tup _ xs hl _=>have:xs=#[]:=by apply Array.eq_empty_of_size_eq_zero;simpa using hl
                       rw[this];rfl
    have hy':yielded ops a.tmps j=none:=by
     rw[hy];rw[Array.getD_eq_getD_getElem?] at hu
     cases hq:a.tmps[dj]? with
     | none=>rfl
     | some v=>
      rw[hq] at hu;simp only[Option.getD_some] at hu;rw[hu];rfl
    simp only at hro;rw[oIN (by simp[Region.wanted,g1,hy'])];exact skip hro
   | cons=>simp at hro
  | _=>rw[hs] at hro;simp at hro
structure oz (ops:Array Oper) (deps:List (List Nat)):Prop where
 back:∀i (h:i < ops.size),∀e∈ops[i].after,Region.binds .any e=true->e.on < i
 dep:∀i (h:i < ops.size),∀j∈deps.getD i [],∃e∈ops[i].after,Region.binds .any e=true/\(e.on=j\/j∈deps.getD e.on [])
theorem mt{deps:List (List Nat)}{x:Nat×kf}:∀{l l':List (Nat×kf)},eH deps (l++x :: l')=true->eH deps (l++l')=true/\∀y∈l,i9 y.2 x.2=false\/y.1∈deps.getD x.1 []:=by
 intro l
 induction l with
 | nil=>
  intro l' h;obtain⟨j,F⟩:=x;simp only[List.nil_append,eH,oBA] at h;exact⟨h.2,λy hy=>by simp at hy⟩
 | cons z l ih=>
  intro l' h;obtain⟨j,F⟩:=z;simp only[List.cons_append,eH,oBA,List.all_eq_true] at h;obtain⟨h1,h2⟩:=ih h.2;refine⟨by simp only[List.cons_append,eH,oBA,List.all_eq_true];exact⟨λy hy=>h.1 y (by rcases List.mem_append.1 hy with hy | hy<;>simp[hy]),h1⟩,λy hy=>?_⟩;rcases List.mem_cons.1 hy with rfl | hy
  ·have:=h.1 x (by simp);simp only[Bool.or_eq_true,Bool.not_eq_true',List.contains_eq_mem,oDE] at this;exact this
  ·exact h2 y hy
theorem BC{tops:List eI}{deps:List (List Nat)}(hlen:tops.length=ops.size) (hok:∀i (h:i < ops.size) (h':i < tops.length),mQ P M isCall ops ops[i] tops[i]) (hcall:oA P M isCall call) (hdeps:oz ops deps) {Q:Exit->Act->World->Prop} :
 ∀(n:Nat) (C:List Nat) (listed:Array Bool) (σ:St) (a:Act) (w:World) (G:Gh) (fs:List (Nat×kf)) (τ:St),C.length=n->listed.size=ops.size->C.Pairwise (· < ·)->(∀j,j∈C↔j < ops.size/\listed.getD j true=false) ->
  (∀i,listed.getD i false=true->∀j∈deps.getD i [],listed.getD j false=true)->Inv M σ [] [] a.tmps w G->hS (λi=>spOp call (tops.getD i rd)) C σ=some (fs,τ)->eH deps fs=true ->
  (∀a' w' G',Inv M τ [] [] a'.tmps w' G'->a'.defers=a.defers->Q .normal a' w')->wpAny P .any ops Q n listed a w:=by
 have hgd:∀{listed:Array Bool},listed.size=ops.size->∀j,j < ops.size->(listed.getD j true=false↔¬ listed.getD j false=true):=by
  intro listed hs j hj
  have:j < listed.size:=by omega
  simp[Array.getD_eq_getD_getElem?,this]
 intro n
 induction n with
 | zero=>
  intro C listed σ a w G fs τ hC hs hsort hmem hcl hI hr hp hQ;have hC:C=[]:=oEN hC;subst hC;simp only[hS,oSJ,oPJ] at hr;obtain⟨rfl,rfl⟩:=hr;refine⟨?_,hQ a w G hI rfl⟩;apply List.eq_nil_iff_forall_not_mem.2;intro j hj;obtain⟨h1,o,h2,_⟩:=mem_ready.1 hj;have:=(hmem j).2 ⟨(Array.getElem?_eq_some_iff.1 h2).1,h1⟩;simp at this
 | succ n ih=>
  intro C listed σ a w G fs τ hC hs hsort hmem hcl hI hr hp hQ;refine⟨λhnil=>?_,λi hi=>?_⟩
  ·exfalso
   cases C with
   | nil=>simp at hC
   | cons h C=>
    have hh:=(hmem h).1 (by simp)
    have:h∈Region.ready .any ops listed:=by
     refine mem_ready.2 ⟨hh.2,ops[h]'hh.1,Array.getElem?_eq_getElem hh.1,λe he hb=>?_⟩;have hlt:=hdeps.back h hh.1 e he hb
     have hes:e.on < ops.size:=by omega
     cases hl:listed.getD e.on false with
     | true=>rfl
     | false=>
      have hm:=(hmem e.on).2 ⟨hes,(hgd hs _ hes).2 (by rw[hl];simp)⟩;rcases List.mem_cons.1 hm with e1 | e1
      ·omega
      ·have:=(List.pairwise_cons.1 hsort).1 _ e1;omega
    rw[hnil] at this;simp at this
  ·obtain⟨h1,o,h2,h3⟩:=mem_ready.1 hi;have his:i < ops.size:=(Array.getElem?_eq_some_iff.1 h2).1
   have hoe:o=ops[i]:=by rw[Array.getElem?_eq_getElem his] at h2;injection h2 with h2;exact h2.symm
   subst hoe;have hiC:=(hmem i).2 ⟨his,h1⟩;obtain⟨pre,post,rfl⟩:=List.append_of_mem hiC
   have hdep:∀j∈deps.getD i [],listed.getD j false=true:=λj hj=>by
    obtain⟨e,he,hb,h4⟩:=hdeps.dep i his j hj;have hl:=h3 e he hb;rcases h4 with rfl | h4
    ·exact hl
    ·exact hcl _ hl j h4
   have hclash:∀fs1 F fs2,fs=fs1++(i,F) :: fs2->fs1.map (·.1)=pre->∀y∈fs1,i9 y.2 F=false:=by
    rintro fs1 F fs2 rfl hpre y hy;rcases (mt hp).2 y hy with h | h
    ·exact h
    ·have hyC:y.1∈pre++i :: post:=by rw[<- hpre];exact List.mem_append_left _ (List.mem_map_of_mem hy)
     have:=(hmem y.1).1 hyC;exact absurd (hdep _ h) ((hgd hs _ this.1).1 this.2)
   obtain⟨σ',τ',fs1,F,fs2,rfl,hpre,hrun,_,hrest,hsame⟩:=s8 hr hclash
   have hi':i < tops.length:=by omega
   have e:tops.getD i rd=tops[i]:=by simp[hi']
   simp only[e] at hrun;refine zr his (hok i his hi') hcall hI (ug hrun) λa' w' G' hI' hd=>?_
   have hne:∀j∈pre++post,j≠i:=λj hj e=>by
    subst e;rw[List.pairwise_append] at hsort;rcases List.mem_append.1 hj with hj | hj
    ·have:=hsort.2.2 j hj j (by simp);omega
    ·have:=(List.pairwise_cons.1 hsort.2.1).1 j hj;omega
   refine ih (pre++post) (listed.setIfInBounds i true) σ' a' w' G' (fs1++fs2) τ' (by simp at hC ⊢;omega) (by simp[hs]) ?_ (λj=>?_) (λk hk j hj=>?_) hI' hrest (mt hp).1 λa2 w2 G2 h4 h5=>hQ a2 w2 G2 (h4.congr λx=>(hsame x).symm) (h5.trans hd)
   ·refine hsort.sublist ?_;exact List.Sublist.append_left (List.sublist_cons_self i post) pre
   ·constructor
    ·intro hj
     have hjC:j∈pre++i :: post:=by rcases List.mem_append.1 hj with hj | hj<;>simp[hj]
     have:=(hmem j).1 hjC;exact⟨this.1,by rw[getD_set_ne true (Ne.symm (hne j hj))];exact this.2⟩
    ·rintro⟨hj1,hj2⟩
     have hji:j≠i:=by
      rintro rfl
      have:j < listed.size:=by omega
      simp[Array.getD_eq_getD_getElem?,this] at hj2
     rw[getD_set_ne true (Ne.symm hji)] at hj2;have:=(hmem j).2 ⟨hj1,hj2⟩;rcases List.mem_append.1 this with h | h
     ·exact List.mem_append_left _ h
     ·rcases List.mem_cons.1 h with h | h
      ·exact absurd h hji
      ·exact List.mem_append_right _ h
   ·by_cases hki:k=i
    ·subst hki;exact getD_set_true (hdep j hj)
    ·rw[getD_set_ne false (Ne.symm hki)] at hk;exact getD_set_true (hcl k hk j hj)
theorem uq{tops:List eI}{deps:List (List Nat)}{id:Nat}(hm:P.follows .mixedOrders=true) (hlen:tops.length=ops.size) (hok:∀i (h:i < ops.size) (h':i < tops.length),mQ P M isCall ops ops[i] tops[i]) (hcall:oA P M isCall call) (hdeps:oz ops deps)
 {Q:Exit->Act->World->Prop} {fs:List (Nat×kf)} {τ:St} (hI:Inv M σ [] [] a.tmps w G) (hr:hS (λi=>spOp call (tops.getD i rd)) (List.range tops.length) σ=some (fs,τ)) (hp:eH deps fs=true)
 (hQ:∀a' w' G',Inv M τ [] [] a'.tmps w' G'->a'.defers=a.defers->Q .normal a' w'):(Code.region id ops true).wp P Q a w:=by
 refine wp_region_any hm ?_
 have hI':Inv M σ [] [] a.tmps { w with drawn:=w.drawn+1 } G:=by
  exact (hI.grow (w':={ w with drawn:=w.drawn+1 }) (λ_ _=>rfl) (Nat.le_refl _) rfl rfl rfl).1
 refine BC hlen hok hcall hdeps ops.size (List.range ops.size) _ σ a _ G fs τ (by simp) (by simp) List.pairwise_lt_range (λj=>?_) (λi hi=>?_) hI' (by rw[<- hlen];exact hr) hp hQ
 ·simp only[List.mem_range];constructor
  ·intro h;exact⟨h,by simp[Array.getD_eq_getD_getElem?,h]⟩
  ·exact λh=>h.1
 ·exfalso;rw[Array.getD_eq_getD_getElem?,Array.getElem?_replicate] at hi;split at hi<;>simp at hi
end
def SP.quiet{α:Type}(d:Nat) (S:List Nat):SP α->Prop
 | .ret _=>True
 | .fail=>True
 | .rdT i k=>i∈S/\∀t,(k t).quiet d S
 | .rdC _ _ k=>∀t,(k t).quiet d S
 | .rdH _ _ k=>∀t,(k t).quiet d S
 | .rdV _ k=>∀n,(k n).quiet d S
 | .wrT i _ k=>i=d/\k.quiet d S
 | .wrC _ _ _ _=>False
 | .new _ _ _=>False
 | .bump _ _=>False
theorem bH{α β:Type}{d:Nat}{S:List Nat}{s:SP α}{f:α->SP β}(h:s.quiet d S) (hf:∀a,(f a).quiet d S):(s.bind f).quiet d S:=by
 induction s with
 | ret a=>exact hf a
 | fail=>exact trivial
 | rdT i k ih=>exact⟨h.1,λt=>ih t (h.2 t)⟩
 | rdC r o k ih=>exact λt=>ih t (h t)
 | rdH r o k ih=>exact λt=>ih t (h t)
 | rdV q k ih=>exact λn=>ih n (h n)
 | wrT i t k ih=>exact⟨h.1,ih h.2⟩
 | wrC r o t k ih=>exact h.elim
 | new r l k ih=>exact h.elim
 | bump q k ih=>exact h.elim
theorem jj{α:Type}{d:Nat}{S:List Nat}{s:SP α}(h:s.quiet d S) (σ:St):(∀x∈(s.foot σ).2,x=.t d)/\∀i,Loc.t i∈(s.foot σ).1->i∈S:=by
 induction s generalizing σ with
 | ret a=>exact⟨λx hx=>by simp[SP.foot] at hx,λi hi=>by simp[SP.foot] at hi⟩
 | fail=>exact⟨λx hx=>by simp[SP.foot] at hx,λi hi=>by simp[SP.foot] at hi⟩
 | rdT i k ih=>
  obtain⟨h1,h2⟩:=ih _ (h.2 (σ.t i)) σ;refine⟨h1,λj hj=>?_⟩;simp only[SP.foot,List.mem_cons] at hj;rcases hj with hj | hj
  ·injection hj with hj;subst hj;exact h.1
  ·exact h2 j hj
 | rdC r o k ih=>
  obtain⟨h1,h2⟩:=ih _ (h (σ.c r o)) σ;refine⟨h1,λj hj=>?_⟩;simp only[SP.foot,List.mem_cons] at hj;rcases hj with hj | hj
  ·simp at hj
  ·exact h2 j hj
 | rdH r o k ih=>
  obtain⟨h1,h2⟩:=ih _ (h (σ.c r o).hd) σ;refine⟨h1,λj hj=>?_⟩;simp only[SP.foot,List.mem_cons] at hj;rcases hj with hj | hj
  ·simp at hj
  ·exact h2 j hj
 | rdV q k ih=>
  obtain⟨h1,h2⟩:=ih _ (h (σ.v q)) σ;refine⟨h1,λj hj=>?_⟩;simp only[SP.foot,List.mem_cons] at hj;rcases hj with hj | hj
  ·simp at hj
  ·exact h2 j hj
 | wrT i t k ih=>
  obtain⟨h1,h2⟩:=ih h.2 { σ with tm:=dk σ.tm i t };refine⟨λx hx=>?_,h2⟩;simp only[SP.foot,List.mem_cons] at hx;rcases hx with hx | hx
  ·rw[hx,h.1]
  ·exact h1 x hx
 | wrC r o t k ih=>exact h.elim
 | new r l k ih=>exact h.elim
 | bump q k ih=>exact h.elim
def dN:Opd->List Nat
 | .t i=>[i]
 | _=>[]
def df:TOp->Option (List Nat)
 | .mov (.t i)=>some [i]
 | .mov (.c x)=>match kJ x with | .v _=>some [] | _=>none
 | .pick c a b=>some (dN c++(dN a++dN b))
 | .load _ a=>some (dN a)
 | .nilc x=>some (dN x)
 | .fld _ a=>some (dN a)
 | .fldv _ _ x=>some (dN x)
 | .idx _ x i=>some (dN x++dN i)
 | .idxa _ _ x i=>some (dN x++dN i)
 | .ext x _=>some (dN x)
 | .bin _ x y=>some (dN x++dN y)
 | .bnb _ x y=>some (dN x++dN y)
 | .eqa _ _ x y=>some (dN x++dN y)
 | .un _ x=>some (dN x)
 | .conv _ x=>some (dN x)
 | .len x=>some (dN x)
 | .lens x=>some (dN x)
 | .ixs x i=>some (dN x++dN i)
 | _=>none
section
variable {d:Nat} {S:List Nat}
theorem cj{x:Opd}(h:∀i∈dN x,i∈S):(opd x).quiet d S:=by
 cases x with
 | t i=>exact⟨h i (by simp[dN]),λ_=>trivial⟩
 | _=>exact trivial
theorem l6{l:List Key}:(rdVs l).quiet d S:=by
 induction l with
 | nil=>exact trivial
 | cons q l ih=>exact λn=>bH ih λ_=>trivial
theorem gf{p:bQ}{n:Nat}{vs:List Nat}:(chk p n vs).quiet d S:=bH l6 λl=>by split<;>exact trivial
theorem gS{p:bQ}:(getPl p).quiet d S:=λtv=>by
 show SP.quiet d S (match bZ tv p.hops with | some t=>SP.ret t | none=>SP.fail);cases bZ tv p.hops<;>exact trivial
theorem px{p:bQ}:(AY p).quiet d S:=by
 unfold AY;split
 ·exact λ_=>trivial
 ·exact bH gS λ_=>trivial
theorem kH{p:bQ}{t:TV}:(peek1 p t).quiet d S:=by
 cases t with
 | ow c=>exact bH l6 λ_=>trivial
 | _=>exact trivial
theorem s9{p:bQ}:(peekP p).quiet d S:=by
 unfold peekP;split
 ·refine λh=>?_
  cases h with
  | some ls=>exact bH l6 λ_=>trivial
  | none=>exact bH gS λ_=>kH
 ·exact bH gS λ_=>kH
theorem td:∀{n:Nat}{p:bQ},(peekL p n).quiet d S:=by
 intro n
 induction n with
 | zero=>intro p;exact trivial
 | succ n ih=>
  intro p;refine bH gS λt=>bH kH λt'=>?_;split
  ·exact trivial
  ·split
   ·exact bH ih λ_=>trivial
   ·exact trivial
theorem cB{t:TV}:(wr d t).quiet d S:=⟨rfl,trivial⟩
theorem fR{t:TV}:(lP t).quiet d S:=by cases t<;>exact trivial
theorem kI{t:TV}:(natOf t).quiet d S:=by
 cases t with
 | v x=>
  cases x with
  | int k n=>cases n<;>exact trivial
  | _=>exact trivial
 | _=>exact trivial
theorem gR{α:Type}{o:Option α}:(eZ o).quiet d S:=by cases o<;>exact trivial
theorem rA{t:TV}:(gT t).quiet d S:=by
 cases t with
 | pk p vs=>exact bH gf λ_=>bH px λt=>by cases t<;>exact trivial
 | pw p vs sz lo n=>exact bH gf λ_=>trivial
 | ow c=>cases c<;>exact trivial
 | _=>exact trivial
theorem rC{op:TOp}(h:df op=some S):(ev1 d op).quiet d S:=by
 cases op with
 | mov x=>
  cases x with
  | t i=>
   simp only[df,oSJ] at h;subst h;refine bH (cj λj hj=>by simpa [dN] using hj) λt=>?_
   cases t with
   | ow c=>exact trivial
   | agg l=>
    simp only;split
    ·exact trivial
    ·exact cB
   | _=>exact cB
  | c x=>
   simp only[df] at h;split at h
   ·rename_i y hy
    have e:ev1 d (.mov (.c x))=wr d (.v y):=by simp only[ev1,opd,hy,SP.bind]
    rw[e];exact cB
   ·simp at h
  | f _=>simp[df] at h
 | pick c a b=>
  simp only[df,oSJ] at h;subst h;refine bH (cj λj hj=>by simp[hj]) λt=>?_;split
  ·rename_i bb
   refine bH ?_ λt=>by split<;>first | exact cB | exact trivial
   cases bb
   ·exact cj λj hj=>by simp at hj;simp[hj]
   ·exact cj λj hj=>by simp at hj;simp[hj]
  ·exact trivial
 | load n a=>
  simp only[df,oSJ] at h;subst h;refine bH (cj λj hj=>by simpa using hj) λt=>?_;split
  ·refine bH gf λ_=>?_
   cases n with
   | none=>exact bH s9 λ_=>cB
   | some n=>exact bH td λ_=>cB
  ·split<;>first | exact cB | exact trivial
  ·exact trivial
 | nilc x=>
  simp only[df,oSJ] at h;subst h;refine bH (cj λj hj=>by simpa using hj) λt=>?_;split
  ·exact bH gf λ_=>cB
  ·exact cB
  ·exact cB
  ·exact trivial
 | fld off a=>
  simp only[df,oSJ] at h;subst h;refine bH (cj λj hj=>by simpa using hj) λt=>?_;split
  ·refine bH gf λ_=>?_
   split<;>first | exact cB | exact trivial
  ·split<;>first | exact cB | exact trivial
  ·exact trivial
 | fldv off n x=>
  simp only[df,oSJ] at h;subst h;refine bH (cj λj hj=>by simpa using hj) λt=>?_
  (repeat' split)<;>first | exact cB | exact trivial
 | idx sz x i=>
  simp only[df,oSJ] at h;subst h;refine bH (cj λj hj=>by simp[hj]) λt=>bH (cj λj hj=>by simp[hj]) λti=>bH kI λk=>?_;split
  ·exact bH gf λ_=>bH px λt=>by (repeat' split)<;>first | exact cB | exact trivial
  ·exact bH gf λ_=>bH gS λt=>by (repeat' split)<;>first | exact cB | exact trivial
  ·split<;>first | exact cB | exact trivial
  ·exact trivial
 | idxa n sz x i=>
  simp only[df,oSJ] at h;subst h;refine bH (cj λj hj=>by simp[hj]) λt=>bH (cj λj hj=>by simp[hj]) λti=>bH kI λk=>?_;split
  ·exact bH gf λ_=>by split<;>first | exact cB | exact trivial
  ·exact trivial
 | ext x i=>
  simp only[df,oSJ] at h;subst h;refine bH (cj λj hj=>by simpa using hj) λt=>?_
  (repeat' split)<;>first | exact cB | exact trivial
 | bin op x y=>
  simp only[df,oSJ] at h;subst h;refine bH (cj λj hj=>by simp[hj]) λt=>bH (cj λj hj=>by simp[hj]) λti=>bH fR λ_=>bH fR λ_=>bH gR λr=>?_
  split<;>first | exact cB | exact trivial
 | bnb neg x y=>
  simp only[df,oSJ] at h;subst h;refine bH (cj λj hj=>by simp[hj]) λt=>bH (cj λj hj=>by simp[hj]) λti=>bH fR λ_=>bH fR λ_=>?_
  split<;>first | exact cB | exact trivial
 | eqa ks neg x y=>
  simp only[df,oSJ] at h;subst h;refine bH (cj λj hj=>by simp[hj]) λt=>bH (cj λj hj=>by simp[hj]) λti=>?_;split
  ·exact bH gR λ_=>bH gR λ_=>bH gR λ_=>cB
  ·exact trivial
 | un op x=>
  simp only[df,oSJ] at h;subst h;refine bH (cj λj hj=>by simpa using hj) λt=>bH fR λ_=>bH gR λr=>?_
  split<;>first | exact cB | exact trivial
 | conv k x=>
  simp only[df,oSJ] at h;subst h;refine bH (cj λj hj=>by simpa using hj) λt=>bH fR λ_=>?_
  split<;>first | exact cB | exact trivial
 | len x=>
  simp only[df,oSJ] at h;subst h;exact bH (cj λj hj=>by simpa using hj) λt=>bH rA λ_=>cB
 | lens x=>
  simp only[df,oSJ] at h;subst h;refine bH (cj λj hj=>by simpa using hj) λt=>?_
  split<;>first | exact cB | exact trivial
 | ixs x i=>
  simp only[df,oSJ] at h;subst h;refine bH (cj λj hj=>by simp[hj]) λt=>bH (cj λj hj=>by simp[hj]) λti=>bH kI λk=>?_
  (repeat' split)<;>first | exact cB | exact trivial
 | _=>simp[df] at h
end
def uy(t:eI):Option (Nat×List Nat):=
 match t.dst,df t.op with
 | some d,some S=>some (d,(match t.guard with | some (j,_)=>j :: S | none=>S))
 | _,_=>none
theorem mR{α:Type}{d:Nat}{S S':List Nat}(hs:∀i∈S,i∈S') {s:SP α}(h:s.quiet d S):s.quiet d S':=by
 induction s with
 | ret a=>exact trivial
 | fail=>exact trivial
 | rdT i k ih=>exact⟨hs i h.1,λt=>ih t (h.2 t)⟩
 | rdC r o k ih=>exact λt=>ih t (h t)
 | rdH r o k ih=>exact λt=>ih t (h t)
 | rdV q k ih=>exact λn=>ih n (h n)
 | wrT i t k ih=>exact⟨h.1,ih h.2⟩
 | wrC r o t k ih=>exact h.elim
 | new r l k ih=>exact h.elim
 | bump q k ih=>exact h.elim
theorem pu{call:Option Nat->TOp->SP Unit}{t:eI}{d:Nat}{S:List Nat}(h:uy t=some (d,S)):(spOp call t).quiet d S:=by
 unfold uy at h;split at h
 case h_2=>simp at h
 rename_i d' S' hd hq
 injection h with h
 injection h with h1 h2
 subst h1
 have hev:(evop call t.dst t.op)=ev1 d' t.op:=by
  rw[hd]
  cases hop:t.op<;>rw[hop] at hq<;>first | rfl | simp[df] at hq
 have hno:(setNo t.dst).quiet d' S:=by rw[hd];exact⟨rfl,trivial⟩
 unfold spOp
 cases hg:t.guard with
 | none=>
  rw[hg] at h2;simp only at h2 ⊢;subst h2;rw[hev];exact rC hq
 | some g=>
  obtain⟨j,want⟩:=g;rw[hg] at h2;simp only at h2 ⊢;subst h2;refine⟨by simp,λtv=>?_⟩;show SP.quiet d' (j :: S') (match tv with | .v (.bool b)=>if b=want then evop call t.dst t.op else setNo t.dst | .tup []=>setNo t.dst | _=>.fail);split
  ·split
   ·rw[hev];exact mR (by simp +contextual) (rC hq)
   ·exact hno
  ·exact hno
  ·exact trivial
def AW(deps:List (List Nat)) (tops:List eI) (i j:Nat):Bool:=
 (deps.getD j []).contains i || (match uy (tops.getD i rd),uy (tops.getD j rd) with
  | some (di,Si),some (dj,Sj)=>di != dj && !Sj.contains di && !Si.contains dj
  | _,_=>false)
def pi(deps:List (List Nat)) (tops:List eI):List Nat->Bool
 | []=>true
 | i :: r=>(r.all λj=>AW deps tops i j) && pi deps tops r
theorem te{a b:kf}{da db:Nat}{Sa Sb:List Nat}(ha:(∀x∈a.2,x=.t da)/\∀i,Loc.t i∈a.1->i∈Sa) (hb:(∀x∈b.2,x=.t db)/\∀i,Loc.t i∈b.1->i∈Sb) (h1:da≠db) (h2:da ∉ Sb) (h3:db ∉ Sa):i9 a b=false:=by
 have hm:∀(l l':List Loc) (d d':Nat) (S:List Nat),(∀x∈l,x=.t d)->((∀x∈l',x=.t d')/\d≠d'\/(∀i,Loc.t i∈l'->i∈S)/\d ∉ S)->sO l l'=false:=by
  intro l l' d d' S hl hl';unfold sO;simp only[List.any_eq_false,Bool.not_eq_true];intro w hw x hx;rw[hl w hw]
  cases x with
  | t i=>
   simp only[Loc.hit,beq_eq_false_iff_ne];intro e;rcases hl' with ⟨q1,q2⟩ | ⟨q1,q2⟩
   ·have:=q1 _ hx;injection this with this;omega
   ·exact q2 (e ▸ q1 i hx)
  | _=>rfl
 unfold i9;rw[hm a.2 b.1 da 0 Sb ha.1 (.inr ⟨hb.2,h2⟩),hm a.2 b.2 da db [] ha.1 (.inl ⟨hb.1,h1⟩),hm b.2 a.1 db 0 Sa hb.1 (.inr ⟨ha.2,h3⟩),hm b.2 a.2 db da [] hb.1 (.inl ⟨ha.1,Ne.symm h1⟩)];rfl
theorem vA{call:Option Nat->TOp->SP Unit}{tops:List eI}{deps:List (List Nat)}:∀{L:List Nat}{σ τ:St}{fs:List (Nat×kf)},pi deps tops L=true->hS (λi=>spOp call (tops.getD i rd)) L σ=some (fs,τ) ->
 eH deps fs=true/\fs.map (·.1)=L/\∀y∈fs,∃ σ1,y.2=(spOp call (tops.getD y.1 rd)).foot σ1:=by
 intro L
 induction L with
 | nil=>
  intro σ τ fs _ hr;simp only[hS,oSJ,oPJ] at hr;obtain⟨rfl,rfl⟩:=hr;exact⟨rfl,rfl,λy hy=>by simp at hy⟩
 | cons i L ih=>
  intro σ τ fs hs hr;simp only[pi,oBA,List.all_eq_true] at hs;simp only[hS] at hr;obtain⟨x,h1,h2⟩:=bM hr;obtain⟨y,h3,h4⟩:=bM h2;simp only[oSJ,oPJ] at h4;obtain⟨rfl,rfl⟩:=h4;obtain⟨fs1,τ1⟩:=y;obtain⟨q1,q2,q3⟩:=ih hs.2 h3;refine⟨?_,by simp[q2],λz hz=>?_⟩
  ·simp only[eH,oBA,List.all_eq_true];refine⟨λz hz=>?_,q1⟩
   have hzL:z.1∈L:=by rw[<- q2];exact List.mem_map_of_mem hz
   have hp:=hs.1 z.1 hzL;unfold AW at hp;simp only[Bool.or_eq_true] at hp ⊢;rcases hp with hp | hp
   ·exact .inr hp
   ·left;split at hp
    ·rename_i di Si dj Sj e1 e2;simp only[oBA,bne_iff_ne,ne_eq,Bool.not_eq_true',List.contains_eq_mem,decide_eq_false_iff_not] at hp;obtain⟨σ1,e3⟩:=q3 z hz;have:=te (jj (pu (call:=call) e1) σ) (jj (pu (call:=call) e2) σ1) hp.1.1 hp.1.2 hp.2;rw[e3];simp only[this,Bool.not_false]
    ·simp at hp
  ·rcases List.mem_cons.1 hz with rfl | hz
   ·exact⟨σ,rfl⟩
   ·exact q3 z hz
theorem zO{call:Option Nat->TOp->SP Unit}{o:eI}{σ σ':St}(h:pX call o σ=some σ'):(spOp call o).run σ=some ((),σ'):=by
 have hno:∀{σ'},(match o.dst with | some d=>some { σ with tm:=dk σ.tm d (.tup []) } | none=>some σ)=some σ'->(setNo o.dst).run σ=some ((),σ'):=by
  intro σ' h;unfold setNo
  cases hd:o.dst with
  | none=>rw[hd] at h;simp only[oSJ] at h;simp[SP.run,h]
  | some d=>rw[hd] at h;simp only[oSJ] at h;simp[SP.run,h]
 have hm:∀{s:SP Unit} {σ'},(s.run σ).map (·.2)=some σ'->s.run σ=some ((),σ'):=by
  intro s σ' h
  cases hs:s.run σ with
  | none=>simp[hs] at h
  | some x=>obtain⟨u,x⟩:=x;simp[hs] at h;rw[h]
 unfold pX at h;unfold spOp
 cases hg:o.guard with
 | none=>rw[hg] at h;exact hm h
 | some g=>
  obtain⟨j,want⟩:=g;rw[hg] at h;simp only[SP.run] at h ⊢;split at h
  ·split at h
   ·rename_i hbw;rw[oIP hbw];exact hm h
   ·rename_i hbw;rw[oIN hbw];exact hno h
  ·exact hno h
  ·simp at h
theorem xC{call:Option Nat->TOp->SP Unit}{tops:List eI}:∀{L:List Nat}{σ τ:St},kn call (L.map λi=>tops.getD i rd) σ=some τ->∃fs,hS (λi=>spOp call (tops.getD i rd)) L σ=some (fs,τ):=by
 intro L
 induction L with
 | nil=>intro σ τ h;simp only[List.map_nil,kn,oSJ] at h;subst h;exact⟨[],rfl⟩
 | cons i L ih=>
  intro σ τ h;simp only[List.map_cons,kn] at h;obtain⟨σ1,h1,h2⟩:=bM h;obtain⟨fs,h3⟩:=ih h2;refine⟨(i,(spOp call (tops.getD i rd)).foot σ) :: fs,?_⟩;simp only[hS,zO h1,oBS,h3]
theorem vF(tops:List eI):(List.range tops.length).map (λi=>tops.getD i rd)=tops:=by
 apply List.ext_getElem?;intro i;by_cases h:i < tops.length
 ·simp[h]
 ·rw[oGN (by simpa using h),oGN (by omega)]
section
variable {P:Program} {M:Fm} {σ σ':St} {H:List TV} {xs:List Value} {ts:Array Value} {w:World} {G:Gh}
theorem Inv.rehandL(hI:Inv M σ H xs ts w G) {w':World}{H':List TV}{xs':List Value}{f:Nat->Nat->Prop}{Fx:Nat->Prop}(hw:∀k,k < w.heap.size->(∀j,¬ G.φ M.hr j k)->w'.heap[k]?=w.heap[k]?) (hs:w.heap.size<=w'.heap.size)
 (ho:w'.os=w.os) (ht:w'.tape=w.tape) (hu:w'.output=w.output) (hlen:H'.length=xs'.length) (hf:∀j k,f j k->j < H'.length/\((∃i,G.φ M.hr i k)\/w.heap.size<=k)) (hdis:∀j j' k,f j k->f j' k->j=j')
 (hFx:∀k,Fx k->(G.F M.A k\/(∃i,G.φ M.hr i k)\/w.heap.size<=k)/\∀j,¬ f j k) (hown:∀j (h:j < H'.length),(H'[j]=.dead/\∀k,¬ f j k)\/d8 w' Fx (f j) H'[j] (xs'.getD j undef)) :
 ∃G',Inv M σ H' xs' ts w' G'/\fT M w σ H G w' σ H' G'/\G'.β=G.β/\∀r o k,r≠1->(G'.φ r o k↔G.φ r o k):=by
 let G':Gh:=⟨G.β,λr o=>if r=M.hr then xs'.getD o undef else G.η r o,λr o k=>if r=M.hr then f o k else G.φ r o k⟩
 have hsub:∀r o k,G'.φ r o k->(r=M.hr/\f o k)\/(r≠M.hr/\G.φ r o k):=by
  intro r o k hk;simp only[G'] at hk;by_cases e:r=M.hr
  ·rw[oIP e] at hk;exact .inl ⟨e,hk⟩
  ·rw[oIN e] at hk;exact .inr ⟨e,hk⟩
 have hFF:∀k,G.F M.A k->k < w.heap.size->G'.F M.A k:=by
  rintro k ⟨a1,a2,a3⟩ hk;refine⟨a1,λr o h=>?_,a3⟩;rcases hsub r o k h with ⟨_,h1⟩ | ⟨_,h1⟩
  ·rcases (hf _ k h1).2 with ⟨j,h2⟩ | h2
   ·exact a2 _ _ h2
   ·omega
  ·exact a2 _ _ h1
 have hFw:∀k,G.F M.A k->k < w.heap.size->w'.heap[k]?=w.heap[k]?:=λk ⟨_,a2,_⟩ hk=>hw k hk λj=>a2 _ _;have hφ:∀r o,r≠M.hr->∀k,G.φ r o k->w'.heap[k]?=w.heap[k]?:=λr o h k hk=>hw k (hI.core.live hk) λj hj=>h (hI.core.dis _ _ _ _ k hk hj).1;have hbox:∀r b o n,G.β r=some (b,o,n)->w'.heap[b]?=w.heap[b]?:=λr b o n hb=>hw b (hI.core.boxlt hb) λj=>hI.core.boxf r b o n hb _ _;have hk:=kT (H':=H') (G':=G') hI hw rfl (λr o h=>by simp[G',show r≠M.hr from h])
 have hfd:∀r o k,r≠M.hr->G.φ r o k->∀j,¬ f j k:=by
  intro r o k h hk j hf';rcases (hf j k hf').2 with ⟨i,h2⟩ | h2
  ·exact h (hI.core.dis _ _ _ _ k hk h2).1
  ·have:=hI.core.live hk;omega
 have hF:=hI.fram
 have hallow:∀k,((∃i,G.φ M.hr i k)\/w.heap.size<=k)->M.A k:=by
  rintro k (⟨i,h⟩ | h)
  ·exact hI.core.allow _ _ k h
  ·exact M.hA k (Nat.le_trans hF.size h)
 have hnbox:∀k,((∃i,G.φ M.hr i k)\/w.heap.size<=k)->∀r b o n,G.β r=some (b,o,n)->k≠b:=by
  rintro k (⟨i,h⟩ | h) r b o n hb rfl
  ·exact hI.core.boxf r k o n hb _ _ h
  ·have:=hI.core.boxlt hb;omega
 have hFxF:∀k,Fx k->G'.F M.A k:=by
  intro k hk;obtain⟨h1,h2⟩:=hFx k hk;refine⟨?_,λr o h=>?_,λr b o n hb=>?_⟩
  ·rcases h1 with h1 | h1
   ·exact h1.1
   ·exact hallow k h1
  ·rcases hsub r o k h with ⟨_,h3⟩ | ⟨h3,h4⟩
   ·exact h2 _ h3
   ·rcases h1 with h1 | ⟨i,h1⟩ | h1
    ·exact h1.2.1 _ _ h4
    ·exact h3 (hI.core.dis _ _ _ _ k h4 h1).1
    ·have:=hI.core.live h4;omega
  ·rcases h1 with h1 | h1
   ·exact h1.2.2 r b o n hb
   ·exact hnbox k h1 r b o n hb
 have hcore:f9 M.A (b8 M σ H') w' G':=by
  refine⟨λr o=>?_,λr b o0 n hb=>?_,λr b o0 n hb o ho=>?_,hI.core.boxd,λr b o n hb r2 o2 hk=>?_,λr1 o1 r2 o2 k h1 h2=>?_,λr o k h=>?_⟩
  ·by_cases e:r=M.hr
   ·subst e
    have hphi:∀k,G'.φ M.hr o k↔f o k:=λk=>by simp[G']
    by_cases e2:o < H'.length
    ·have hv:G'.val w' M.hr o=xs'.getD o undef:=by unfold Gh.val;simp only[G',hI.hr_none,if_true]
     rw[hv,gX]
     have e3:H'.getD o .dead=H'[o]:=by simp[e2]
     rw[e3];rcases hown o e2 with ⟨h1,h2⟩ | h1
     ·left;exact⟨h1,λk hk=>h2 k ((hphi k).1 hk)⟩
     ·right;exact (h1.frame (λ_ _=>rfl) (λ_ _ _=>rfl) (λk h _=>hFxF k h)).refp λk=>(hphi k).symm
    ·left;exact⟨by rw[gX];simp[e2],λk hk=>e2 (hf o k ((hphi k).1 hk)).1⟩
   ·have hv:G'.val w' r o=G.val w r o:=eO rfl (by simp[G',e]) (hbox r)
    have hphi:∀k,G'.φ r o k↔G.φ r o k:=λk=>by simp[G',e]
    rw[b6 e,hv];have hc:=hI.core.cell r o;rw[b6 e] at hc;rcases hc with ⟨a1,a2⟩ | a2
    ·left;exact⟨a1,λk hk=>a2 k ((hphi k).1 hk)⟩
    ·right;exact (a2.frame (hφ r o e) hFw hFF).refp λk=>(hphi k).symm
  ·obtain⟨cur,e',fz,a1,a2,a3⟩:=hI.core.box r b o0 n hb;exact⟨cur,e',fz,by rw[hbox r b o0 n hb];exact a1,a2,λj hj=>by rw[World.frozen?_of_block (w:=w) (hbox r b o0 n hb)];exact a3 j hj⟩
  ·have e:r≠M.hr:=λe=>by
    have hb':G.β r=some (b,o0,n):=hb;rw[e,hI.hr_none] at hb';simp at hb'
   have:=hI.core.boxc r b o0 n hb o ho;rw[b6 e] at this ⊢;exact this
  ·rcases hsub r2 o2 b hk with ⟨_,h1⟩ | ⟨_,h1⟩
   ·exact hnbox b (hf _ b h1).2 r b o n hb rfl
   ·exact hI.core.boxf r b o n hb _ _ h1
  ·rcases hsub r1 o1 k h1 with ⟨a1,a3⟩ | ⟨a1,a2⟩
   ·rcases hsub r2 o2 k h2 with ⟨b1,b3⟩ | ⟨b1,b2⟩
    ·exact⟨a1.trans b1.symm,hdis _ _ k a3 b3⟩
    ·exact absurd a3 (hfd _ _ k b1 b2 _)
   ·rcases hsub r2 o2 k h2 with ⟨b1,b3⟩ | ⟨b1,b2⟩
    ·exact absurd b3 (hfd _ _ k a1 a2 _)
    ·exact hI.core.dis _ _ _ _ k a2 b2
  ·rcases hsub r o k h with ⟨_,a3⟩ | ⟨a1,a2⟩
   ·exact hallow k (hf _ k a3).2
   ·exact hI.core.allow _ _ k a2
 refine⟨G',⟨hcore,λi=>(hI.tmr i).keep hk hFw hFF,?_,hI.keys,hI.size,hlen,λj hj=>by simp[G'],hI.shape⟩,⟨hs,hk,hFw,hFF⟩,rfl,λr o k h=>by simp[G',show r≠M.hr from h]⟩;refine⟨ho.trans hF.os,ht.trans hF.tape,hu.trans hF.output,Nat.le_trans hF.size hs,λk a1 a2 a3=>?_,λr b o n hp=>?_,λr o k h=>?_,hF.box,hF.even⟩
 ·rw[hw k (Nat.lt_of_lt_of_le a1 hF.size) λj hj=>?_]
  ·exact hF.old k a1 a2 a3
  ·rcases hF.own _ _ k hj with h | h
   ·exact a2 h
   ·omega
 ·obtain⟨a1,cur0,cur,e',fz,a2,a3,a4⟩:=hF.par r b o n hp;exact⟨a1,cur0,cur,e',fz,a2,by rw[hbox r b o n a1];exact a3,a4⟩
 ·rcases hsub r o k h with ⟨_,a3⟩ | ⟨a1,a2⟩
  ·rcases (hf _ k a3).2 with ⟨j,h2⟩ | h2
   ·exact hF.own _ _ k h2
   ·exact .inr (Nat.le_trans hF.size h2)
  ·exact hF.own _ _ k a2
theorem Inv.dropImm(hI:Inv M σ H xs ts w G) (hnd:∀j (h:j < H.length),H[j]≠.dead):∃G',gH M w ts σ H G σ [] [] G'/\∀j (h:j < H.length),iJ w (G'.F M.A) H[j].imm (xs.getD j undef):=by
 obtain⟨G',hI',hm,hβ,hφ⟩:=hI.rehandL (w':=w) (H':=[]) (xs':=[]) (f:=λ_ _=>False) (Fx:=λ_=>False) (λ_ _ _=>rfl) (Nat.le_refl _) rfl rfl rfl rfl (λ_ _ h=>h.elim) (λ_ _ _ h=>h.elim) (λ_ h=>h.elim) (λj h=>by simp at h)
 have hF0:∀k,G.F M.A k->G'.F M.A k:=by
  rintro k ⟨a1,a2,a3⟩;refine⟨a1,λr o h=>?_,λr b o n hb=>a3 r b o n (hβ ▸ hb)⟩;by_cases hr:r=1
  ·have:=hI'.phi_dead (r:=r) (o:=o) (by rw[hr,show (1:Nat)=M.hr from rfl,gX];simp);exact this k h
  ·exact a2 r o ((hφ r o k hr).1 h)
 refine⟨G',⟨hI',hF0,hm.keeps,rfl⟩,λj hj=>?_⟩;refine (hI.hand_own hj (hnd j hj)).share'.frame (λ_ _ _=>rfl) λk hk _=>?_;rcases hk with hk | hk
 ·exact hF0 k hk
 ·refine⟨hI.core.allow _ _ k hk,λr o h=>?_,λr b o n hb=>?_⟩
  ·by_cases hr:r=1
   ·have:=hI'.phi_dead (r:=r) (o:=o) (by rw[hr,show (1:Nat)=M.hr from rfl,gX];simp);exact this k h
   ·exact hr (hI.core.dis _ _ _ _ k ((hφ r o k hr).1 h) hk).1
  ·rintro rfl;exact hI.core.boxf r k o n (hβ ▸ hb) _ _ hk
end
def eG(P:Program) (M:Fm) (isCall:Op->TOp->Prop):fM->Code->Prop
 | .skip,c=>c=.skip
 | .nrm _,c=>c=.skip
 | .reg _ draw tops _,c=>∃id ops dr,c=.region id ops dr/\tops.length=ops.size/\(∀i (h:i < ops.size) (h':i < tops.length),mQ P M isCall ops ops[i] tops[i])/\match draw with
  | some deps=>dr=true/\oz ops deps/\P.follows .mixedOrders=true
  | none=>dr=true->∃deps,oz ops deps/\P.follows .mixedOrders=true/\pi deps tops (List.range tops.length)=true
 | .seq x y,c=>∃x' y',c=.seq x' y'/\eG P M isCall x x'/\eG P M isCall y y'
 | .cond k x y,c=>∃k' x' y',c=.cond k' x' y'/\bJ k'=some k/\eG P M isCall x x'/\eG P M isCall y y'
 | .block id x,c=>∃x',c=.block id x'/\eG P M isCall x x'
 | .loop x,c=>∃x',c=.loop x'/\eG P M isCall x x'
 | .exit id,c=>c=.exit id
 | .ret,c=>c=.ret
 | .pre l x,c=>(∀y∈l,y.1 < M.N)/\eG P M isCall x c
 | .post x l,c=>(∀y∈l,y.1 < M.N)/\eG P M isCall x c
def fL.toExit:fL->Exit
 | .normal=>.normal
 | .exit id=>.exit id
 | .ret=>.ret
section
variable {P:Program} {M:Fm} {isCall:Op->TOp->Prop} {call:Option Nat->TOp->SP Unit}
theorem iJ.toTm{w:World}{F:Nat->Prop}{V:Vs}{C:Cs}{G:Gh}{t:TV}{x:Value}(h:iJ w F t x):TmR w F V C G t x:=by
 cases t with
 | v y=>cases h with | v hf=>exact .v hf
 | sl c=>exact .sl h
 | dead=>exact .dead
 | _=>cases h
theorem BD{σ σ':St}{ts:Array Value}{w:World}{G:Gh}(hI:Inv M σ [] [] ts w G) {x:Nat×Option Nat}(hx:x.1 < M.N) (hr:(shr1 x).run σ=some ((),σ')):∃G',Inv M σ' [] [] ts w G':=by
 obtain⟨i,off⟩:=x
 have same:some ((),σ)=some ((),σ')->∃G',Inv M σ' [] [] ts w G':=λh=>by
  simp only[oSJ,oPJ,true_and] at h;exact⟨G,h ▸ hI⟩
 have htm:=hI.tmr i
 have drop:∀{t t':TV} {v:Value} {σ1:St} {H:List TV},TmR w (G.F M.A) σ.v (b8 M σ []) G t v->(take1 false t).run σ=some (t',σ1)->t'≠.dead->∃G2,Inv M σ1 [] [] ts w G2/\TmR w (G2.F M.A) σ1.v (b8 M σ1 []) G2 t'.imm v/\σ1.tm=σ.tm:=by
  intro t t' v σ1 H ht h1 hnd;obtain⟨G1,hg,_⟩:=eD hI ht h1
  obtain⟨G2,hg2,himm⟩:=hg.1.dropImm (λj hj=>by
   obtain rfl:j=0:=by simpa using hj
   exact hnd)
  have h0:=himm 0 (by simp);simp only[List.nil_append,List.getElem_cons_zero,List.getD_cons_zero] at h0;refine⟨G2,hg2.1,?_,hg2.2.2.2.trans hg.2.2.2⟩;exact h0.toTm
 unfold shr1 at hr;simp only[SP.run] at hr
 cases off with
 | none=>
  cases ht:σ.t i with
  | pk p vs=>
   rw[ht] at hr htm;simp only at hr;obtain⟨t',σ1,h1,h2⟩:=bG hr;simp only[SP.run,oSJ,oPJ,true_and] at h2
   have hnd:t'≠.dead:=by
    intro e
    rcases fP h1 with h | h<;>rw[e] at h<;>simp[cJ,g9] at h
   obtain⟨G2,hI2,ht2,_⟩:=drop (H:=[]) htm h1 hnd;refine⟨G2,?_⟩;rw[<- h2];have:=hI2.wrT hx ht2
   have e:ts.setIfInBounds i (ts.getD i undef)=ts:=by
    apply Array.ext
    ·simp
    ·intro j h3 h4;rw[Array.getElem_setIfInBounds (by simpa using h4)];split
     ·rename_i e;subst e;simp[Array.getD_eq_getD_getElem?,h4]
     ·rfl
   rw[e] at this;exact this
  | _=>rw[ht] at hr;exact same hr
 | some off=>
  cases ht:σ.t i with
  | ptr p vs=>
   rw[ht] at hr htm;simp only at hr;obtain⟨_,σ1,h1,h2⟩:=bG hr;have e1:σ1=σ:=(bV h1).1;have e2:=(bV h1).2;subst e1;split at h2
   case isFalse=>simp[SP.run] at h2
   obtain⟨t,σ2,h3,h4⟩:=bG h2;obtain⟨e3,hg⟩:=cQ h3;have e3:σ2=σ1:=e3;subst e3
   cases t with
   | ow c=>
    simp only at h4;obtain⟨t',σ3,h5,h6⟩:=bG h4;obtain⟨t2,σ4,h7,h8⟩:=bG h6;simp only[SP.run,oSJ,oPJ,true_and] at h8;subst h8
    cases htm with
    | ptr V0 h0 hv h=>
     obtain⟨hr1,ad,t0,ha,_,_⟩:=h e2
     have hr2:(p.add off).root≠1:=by rw[cL];exact hr1
     obtain⟨hB,u,fp,hcu,hown,hv2⟩:=hI.named hr2 (iD off ha) hg (by simp);obtain⟨rfl,ht'⟩:=k9 hI hr2 hg hown hv2 h5
     have hnd:t2≠.dead:=by
      intro e
      rcases fP h7 with h | h<;>rw[e] at h<;>simp[cJ,g9] at h
     obtain⟨G2,hI2,_,_⟩:=drop (H:=[]) ht' h7 hnd;exact⟨G2,hI2⟩
   | _=>exact same h4
  | _=>rw[ht] at hr;exact same hr
theorem xq{ts:Array Value}{w:World}:∀{l:List (Nat×Option Nat)}{σ σ':St}{G:Gh},Inv M σ [] [] ts w G->(∀y∈l,y.1 < M.N)->(shrs l).run σ=some ((),σ')->∃G',Inv M σ' [] [] ts w G':=by
 intro l
 induction l with
 | nil=>
  intro σ σ' G hI _ hr;simp only[shrs,SP.run,oSJ,oPJ,true_and] at hr;exact⟨G,hr ▸ hI⟩
 | cons x l ih=>
  intro σ σ' G hI hl hr;obtain⟨_,σ1,h1,h2⟩:=bG hr;obtain⟨G1,hI1⟩:=BD hI (hl x (by simp)) h1;exact ih hI1 (λy hy=>hl y (by simp[hy])) h2
theorem ur(hcall:oA P M isCall call) (N:Nat):∀(tc:fM) (c:Code) (σ:St) (e:fL) (σ':St) (a:Act) (w:World) (G:Gh) (Q:Exit->Act->World->Prop),eG P M isCall tc c->runC call N tc σ=some (e,σ')->Inv M σ [] [] a.tmps w G ->
 (∀a' w' G',Inv M σ' [] [] a'.tmps w' G'->a'.defers=a.defers->Q e.toExit a' w')->c.wp P Q a w:=by
 intro tc
 induction tc with
 | skip=>
  intro c σ e σ' a w G Q hc hr hI hQ;simp only[eG] at hc;subst hc;simp only[runC,oSJ,oPJ] at hr;obtain⟨rfl,rfl⟩:=hr;exact wp_skip (hQ a w G hI rfl)
 | nrm pers=>
  intro c σ e σ' a w G Q hc hr hI hQ;simp only[eG] at hc;subst hc;simp only[runC,oSJ,oPJ] at hr;obtain⟨rfl,rfl⟩:=hr;obtain⟨G2,hI2⟩:=hI.norm pers;exact wp_skip (hQ a w G2 hI2 rfl)
 | reg id draw tops pers=>
  intro c σ e σ' a w G Q hc hr hI hQ;obtain⟨id',ops,dr,rfl,hlen,hok,hdr⟩:=hc;simp only[runC] at hr
  cases draw with
  | some deps=>
   simp only at hr;obtain⟨⟨fs,τ⟩,h1,h2⟩:=bM hr;simp only at h2;split at h2
   ·rename_i hp
    injection h2 with h2
    injection h2 with h2 h3
    subst h2;subst h3;obtain⟨rfl,hdeps,hm⟩:=hdr;refine uq hm hlen hok hcall hdeps hI h1 hp λa' w' G' hI' hd'=>?_;obtain⟨G2,hI2⟩:=hI'.norm pers;exact hQ a' w' G2 hI2 hd'
   ·simp at h2
  | none=>
   simp only at hr;obtain⟨σ1,h1,h2⟩:=ee hr
   injection h2 with h2 h3
   subst h2;subst h3
   cases dr with
   | true=>
    obtain⟨deps,hdeps,hm,hst⟩:=hdr rfl;obtain⟨fs,hfl⟩:=xC (tops:=tops) (L:=List.range tops.length) (by rw[vF];exact h1);refine uq hm hlen hok hcall hdeps hI hfl (vA hst hfl).1 λa' w' G' hI' hd'=>?_;obtain⟨G2,hI2⟩:=hI'.norm pers;exact hQ a' w' G2 hI2 hd'
   | false=>
   refine wp_region ?_
   have hm:(List.range ops.size).map (λi=>tops.getD i ⟨none,none,.lens (.t 0)⟩)=tops:=by
    apply List.ext_getElem?;intro i;by_cases h:i < ops.size
    ·simp[h,hlen]
    ·rw[oGN (by simpa using h),oGN (by omega)]
   refine Bk hlen hok hcall (List.range ops.size) σ a w G (λi hi=>by simpa using hi) hI (by rw[hm];exact h1) λa' w' G' hI' hd'=>?_;obtain⟨G2,hI2⟩:=hI'.norm pers;exact hQ a' w' G2 hI2 hd'
 | seq x y ihx ihy=>
  intro c σ e σ' a w G Q hc hr hI hQ;obtain⟨x',y',rfl,hx,hy⟩:=hc;simp only[runC] at hr;obtain⟨⟨e1,σ1⟩,h1,h2⟩:=bM hr;refine wp_seq (ihx x' σ e1 σ1 a w G _ hx h1 hI λa' w' G' hI' hd=>?_)
  cases e1 with
  | normal=>exact ihy y' σ1 e σ' a' w' G' Q hy h2 hI' λa2 w2 G2 h3 h4=>hQ a2 w2 G2 h3 (h4.trans hd)
  | exit id=>
   simp only[oSJ,oPJ] at h2;obtain⟨rfl,rfl⟩:=h2;exact hQ a' w' G' hI' hd
  | ret=>
   simp only[oSJ,oPJ] at h2;obtain⟨rfl,rfl⟩:=h2;exact hQ a' w' G' hI' hd
 | cond k x y ihx ihy=>
  intro c σ e σ' a w G Q hc hr hI hQ;obtain⟨k',x',y',rfl,hk,hx,hy⟩:=hc;simp only[runC] at hr;obtain⟨⟨t,σ1⟩,h1,h2⟩:=bM hr;obtain⟨rfl,ht⟩:=cC hI.tmr hk h1
  cases t with
  | v z=>
   obtain⟨hz,_⟩:=ht.v_inv
   cases z with
   | bool b=>
    cases b with
    | true=>exact wp_cond_true hz (ihx x' _ e σ' a w G Q hx h2 hI hQ)
    | false=>exact wp_cond_false hz (ihy y' _ e σ' a w G Q hy h2 hI hQ)
   | _=>simp at h2
  | _=>simp at h2
 | block id x ihx=>
  intro c σ e σ' a w G Q hc hr hI hQ;obtain⟨x',rfl,hx⟩:=hc;simp only[runC] at hr;obtain⟨⟨e1,σ1⟩,h1,h2⟩:=bM hr;refine wp_block (ihx x' σ e1 σ1 a w G _ hx h1 hI λa' w' G' hI' hd=>?_)
  cases e1 with
  | normal=>
   simp only[oSJ,oPJ] at h2;obtain⟨rfl,rfl⟩:=h2;exact hQ a' w' G' hI' hd
  | exit i=>
   simp only at h2;simp only[fL.toExit,Exit.inBlock];split at h2
   ·rename_i hi;simp only[oSJ,oPJ] at h2;obtain⟨rfl,rfl⟩:=h2;rw[oIP hi];exact hQ a' w' G' hI' hd
   ·rename_i hi;simp only[oSJ,oPJ] at h2;obtain⟨rfl,rfl⟩:=h2;rw[oIN hi];exact hQ a' w' G' hI' hd
  | ret=>
   simp only[oSJ,oPJ] at h2;obtain⟨rfl,rfl⟩:=h2;exact hQ a' w' G' hI' hd
 | loop x ihx=>
  intro c σ e σ' a w G Q hc hr hI hQ;obtain⟨x',rfl,hx⟩:=hc;simp only[runC] at hr
  have key:∀(n:Nat) (σ:St) (a:Act) (w:World) (G:Gh) (d:List Deferred),a.defers=d->B8 (runC call N x) n σ=some (e,σ')->Inv M σ [] [] a.tmps w G->(∀a' w' G',Inv M σ' [] [] a'.tmps w' G'->a'.defers=d->Q e.toExit a' w')->Code.rounds P x' Q n a w:=by
   intro n
   induction n with
   | zero=>intro σ a w G d _ hr;simp[B8] at hr
   | succ n ih=>
    intro σ a w G d hd hr hI hQ;simp only[B8] at hr;obtain⟨⟨e1,σ1⟩,h1,h2⟩:=bM hr;rw[rounds_succ];refine ihx x' σ e1 σ1 a w G _ hx h1 hI λa' w' G' hI' hd'=>?_
    cases e1 with
    | normal=>exact ih σ1 a' w' G' d (hd'.trans hd) h2 hI' hQ
    | exit i=>
     simp only[oSJ,oPJ] at h2;obtain⟨rfl,rfl⟩:=h2;exact hQ a' w' G' hI' (hd'.trans hd)
    | ret=>
     simp only[oSJ,oPJ] at h2;obtain⟨rfl,rfl⟩:=h2;exact hQ a' w' G' hI' (hd'.trans hd)
  exact wp_loop_rounds N (key N σ a w G a.defers rfl hr hI hQ)
 | exit id=>
  intro c σ e σ' a w G Q hc hr hI hQ;simp only[eG] at hc;subst hc;simp only[runC,oSJ,oPJ] at hr;obtain⟨rfl,rfl⟩:=hr;exact wp_exit (hQ a w G hI rfl)
 | ret=>
  intro c σ e σ' a w G Q hc hr hI hQ;simp only[eG] at hc;subst hc;simp only[runC,oSJ,oPJ] at hr;obtain⟨rfl,rfl⟩:=hr;exact wp_ret (hQ a w G hI rfl)
 | pre l x ihx=>
  intro c σ e σ' a w G Q hc hr hI hQ;obtain⟨hl,hx⟩:=hc;simp only[runC] at hr;obtain⟨⟨u,σ1⟩,h1,h2⟩:=bM hr;obtain⟨G1,hI1⟩:=xq hI hl h1;obtain⟨G2,hI2⟩:=hI1.norm (σ1.tm.map (·.1),σ1.ce.map (·.1));exact ihx c σ1.anew e σ' a w G2 Q hx h2 hI2 hQ
 | post x l ihx=>
  intro c σ e σ' a w G Q hc hr hI hQ;obtain⟨hl,hx⟩:=hc;simp only[runC] at hr;obtain⟨⟨e1,σ1⟩,h1,h2⟩:=bM hr;obtain⟨⟨u,σ2⟩,h3,h4⟩:=bM h2;simp only[oSJ,oPJ] at h4;obtain⟨rfl,rfl⟩:=h4;refine ihx c σ e1 σ1 a w G Q hx h1 hI λa' w' G' hI' hd=>?_;obtain⟨G2,hI2⟩:=xq hI' hl h3;obtain⟨G3,hI3⟩:=hI2.norm (σ2.tm.map (·.1),σ2.ce.map (·.1));exact hQ a' w' G3 hI3 hd
end
inductive TRs where
 | tmp (t:Nat)
 | cell (t:Nat) (n:Option Nat)
structure TFn where
 np:Nat
 pp:List Nat
 nt:Nat
 body:fM
 res:List TRs
def C0(np r:Nat):Bool:=r % 2==0 && decide (r < 2*np+2)
def takeR1(np:Nat) (t:TV):SP TV:=
 match t with
 | .pk p vs=>take1 (!C0 np p.root) (.pk p vs)
 | t=>take1 true t
def takeRL(np:Nat):List TV->SP (List TV)
 | []=>.ret []
 | t :: r=>(takeR1 np t).bind λt'=>(takeRL np r).bind λr'=>.ret (t' :: r')
def takeRV(np:Nat) (t:TV):SP (List TV×RSh):=
 match t with
 | .agg l=>(takeRL np l).bind λl'=>.ret (l',.agg l'.length)
 | t=>(takeR1 np t).bind λt'=>.ret ([t'],.one)
def res1(np:Nat):TRs->SP (List TV×RSh)
 | .tmp t=>.rdT t λtv=>takeRV np tv
 | .cell t n=>.rdT t λtv=>match tv with
  | .ptr p vs=>(chk p p.hops.length vs).bind λ_=>match n with
   | none=>(getPl p).bind λt=>(peek1 p t).bind λt'=>takeRV np t'
   | some n=>(peekL p n).bind λl=>takeRV np (.agg l)
  | _=>.fail
def resL(np:Nat):List TRs->SP (List TV×List RSh)
 | []=>.ret ([],[])
 | r :: rs=>(res1 np r).bind λx=>(resL np rs).bind λy=>.ret (x.1++y.1,x.2 :: y.2)
def sQ:TV->Bool
 | .v x=>ed x
 | _=>false
def unV:TV->Value
 | .v x=>x
 | _=>undef
def onesOf:List TV->List RSh
 | []=>[]
 | _ :: r=>.one :: onesOf r
def flatsR:List TRs->SP (List TV)
 | []=>.ret []
 | .tmp t :: r=>.rdT t λtv=>if sQ tv then (flatsR r).bind λl=>.ret (tv :: l) else .fail
 | .cell _ _ :: _=>.fail
def resF(np:Nat):List TRs->SP (List TV×List RSh)
 | .tmp t :: r=>.rdT t λtv=>match tv with
  | .ptr p vs=>(chk p p.hops.length vs).bind λ_=>(flatsR r).bind λl=>.ret (.ptr p vs :: l,.ptr :: onesOf l)
  | _=>resL np (.tmp t :: r)
 | qs=>resL np qs
def uv(t:TV):List TV->TV
 | []=>t
 | y :: l=>.tup (t :: y :: l)
def pq(x:Value):List Value->Value
 | []=>x
 | y :: l=>.tuple (x :: y :: l).toArray
theorem xu{w:World}{F:Nat->Prop}{V:Vs}{C:Cs}{G:Gh}{t:TV}{x:Value}(h:TmR w F V C G t x):∀{l:List TV},l.all sQ=true->TmR w F V C G (uv t l) (pq x (l.map unV)):=by
 intro l hl
 have hall:∀j (hj:j < l.length),TmR w F V C G l[j] (unV l[j]):=by
  intro j hj;have:=List.all_eq_true.1 hl l[j] (List.getElem_mem hj)
  cases hc:l[j] with
  | v y=>rw[hc] at this;exact .v this
  | _=>rw[hc] at this;simp[sQ] at this
 cases l with
 | nil=>exact h
 | cons y l=>
  refine .tup (by simp) λj hj=>?_
  cases j with
  | zero=>exact h
  | succ j=>
   have hj':j < (y :: l).length:=by simpa using hj
   have:=hall j hj'
   have e:(x :: unV y :: l.map unV).toArray.getD (j+1) undef=unV (y :: l)[j]:=by
    have e0:((y :: l).map unV)[j]?=some (unV (y :: l)[j]):=by rw[List.getElem?_map,oGE hj'];rfl
    simp only[Array.getD_eq_getD_getElem?,List.getElem?_toArray,List.getElem?_cons_succ];rw[show unV y :: l.map unV=(y :: l).map unV from rfl,e0];rfl
   show TmR w F V C G (y :: l)[j] ((x :: unV y :: l.map unV).toArray.getD (j+1) undef);rw[e];exact this
def de:List RSh->List Value->List Value
 | [],_=>[]
 | .one :: r,ys=>ys.headD undef :: de r ys.tail
 | .agg n :: r,ys=>.agg (ys.take n).toArray :: de r (ys.drop n)
 | .ptr :: r,ys=>undef :: de r ys
def iQ(sh:List RSh) (ys:List Value):Value:=
 match de sh ys with
 | [x]=>x
 | l=>.tuple l.toArray
section
variable {P:Program} {M:Fm} {σ σ':St} {H:List TV} {xs:List Value} {ts:Array Value} {w:World} {G:Gh}
theorem rn(np:Nat) (t:TV):∃mv,takeR1 np t=take1 mv t:=by
 cases t<;>first | exact⟨true,rfl⟩ | exact⟨_,rfl⟩
theorem wN{np:Nat}:∀{l l':List TV}{ys:List Value}{σ σ':St}{H:List TV}{xs:List Value}{G:Gh},Inv M σ H xs ts w G->l.length=ys.length->(∀j (h:j < l.length),TmR w (G.F M.A) σ.v (b8 M σ H) G l[j] (ys.getD j undef)) ->
 (takeRL np l).run σ=some (l',σ')->l'.length=l.length/\(∃G',gH M w ts σ H G σ' (H++l') (xs++ys) G')/\∀j (h:j < l'.length),cJ l'[j]=true\/g9 l'[j]=true:=by
 intro l
 induction l with
 | nil=>
  intro l' ys σ σ' H xs G hI hl _ hr;simp only[takeRL,SP.run,oSJ,oPJ] at hr;obtain⟨rfl,rfl⟩:=hr;have:ys=[]:=oEN (by simpa using hl.symm);subst this;exact⟨rfl,⟨G,by simpa using gH.refl hI⟩,λj h=>by simp at h⟩
 | cons t l ih=>
  intro l' ys σ σ' H xs G hI hl ht hr
  cases ys with
  | nil=>simp at hl
  | cons y ys=>
   simp only[takeRL] at hr;obtain⟨t',σ1,h1,h2⟩:=bG hr;obtain⟨r',σ2,h3,h4⟩:=bG h2;simp only[SP.run,oSJ,oPJ] at h4;obtain⟨rfl,rfl⟩:=h4;obtain⟨mv,hmv⟩:=rn np t;rw[hmv] at h1;obtain⟨G1,hg1,ho⟩:=eD hI (ht 0 (by simp)) h1;obtain⟨e,⟨G2,hg2⟩,hok⟩:=ih (l':=r') (ys:=ys) hg1.1 (by simpa using hl) (λj hj=>hg1.tm (by have:=ht (j+1) (by simpa using hj);simpa only [List.getElem_cons_succ,List.getD_cons_succ] using this)) h3;refine⟨by simp[e],⟨G2,by simpa using hg1.trans hg2⟩,λj hj=>?_⟩
   cases j with
   | zero=>exact fP h1
   | succ j=>exact hok j (by simpa using hj)
theorem nD{np:Nat}{t:TV}{x:Value}{r:List TV×RSh}(hI:Inv M σ H xs ts w G) (hx:TmR w (G.F M.A) σ.v (b8 M σ H) G t x) (hr:(takeRV np t).run σ=some (r,σ')) :
 ∃ys G',gH M w ts σ H G σ' (H++r.1) (xs++ys) G'/\r.1.length=ys.length/\(∀j (h:j < r.1.length),cJ r.1[j]=true\/g9 r.1[j]=true)/\∀(rest:List RSh) (zs:List Value),de (r.2 :: rest) (ys++zs)=x :: de rest zs:=by
 by_cases ht:∃q,t=.agg q
 ·obtain⟨q,rfl⟩:=ht;simp only[takeRV] at hr;obtain⟨l',σ1,h1,h2⟩:=bG hr;simp only[SP.run,oSJ,oPJ] at h2;obtain⟨rfl,rfl⟩:=h2;obtain⟨vs,rfl,hl,hj⟩:=wz hx;obtain⟨e1,⟨G',hg⟩,hok⟩:=wN (ys:=vs.toList) hI (by simp[hl]) (λj h=>by simpa using hj j h) h1;refine⟨vs.toList,G',hg,by simp[e1,hl],hok,λrest zs=>?_⟩
  have hn:l'.length=vs.toList.length:=by simp[e1,hl]
  simp only[de,hn,List.take_left,List.drop_left,Array.toArray_toList]
 ·have e:takeRV np t=(takeR1 np t).bind λt'=>.ret ([t'],.one):=by
   cases t<;>first | rfl | exact absurd ⟨_,rfl⟩ ht
  rw[e] at hr;obtain⟨t',σ1,h1,h2⟩:=bG hr;simp only[SP.run,oSJ,oPJ] at h2;obtain⟨rfl,rfl⟩:=h2;obtain⟨mv,hmv⟩:=rn np t;rw[hmv] at h1;obtain⟨G',hg,ho⟩:=eD hI hx h1;refine⟨[x],G',hg,rfl,λj hj=>?_,λrest zs=>rfl⟩
  obtain rfl:j=0:=by simp at hj;omega
  exact fP h1
def t6(P:Program):TRs->ResultVar->Prop
 | .tmp t,r=>r=.tmp t
 | .cell t n,r=>∃ty,r=.cell t ty/\vb P ty n
theorem BR{np:Nat}{q:TRs}{q':ResultVar}{r:List TV×RSh}(hI:Inv M σ H xs ts w G) (hq:t6 P q q') (hr:(res1 np q).run σ=some (r,σ')) :
 ∃x ys G',(match q' with | .tmp t=>(pure (ts.getD t undef):Sem Value) | .cell a t=>do loadVar t (<- asAddr (ts.getD a undef))).run P w=.ok x w/\gH M w ts σ H G σ' (H++r.1) (xs++ys) G'/\r.1.length=ys.length /\
  (∀j (h:j < r.1.length),cJ r.1[j]=true\/g9 r.1[j]=true)/\∀(rest:List RSh) (zs:List Value),de (r.2 :: rest) (ys++zs)=x :: de rest zs:=by
 cases q with
 | tmp t=>
  have hq:q'=.tmp t:=hq;subst hq;simp only[res1,SP.run] at hr;obtain⟨ys,G',h1,h2,h3,h4⟩:=nD hI (hI.tmr t) hr;exact⟨_,ys,G',rfl,h1,h2,h3,h4⟩
 | cell t n=>
  obtain⟨ty,rfl,hn⟩:=hq;simp only[res1,SP.run] at hr;have htm:=hI.tmr t
  cases hs:σ.t t with
  | ptr p vs=>
   rw[hs] at hr htm;simp only at hr;obtain⟨_,σ2,h3,h4⟩:=bG hr;have e1:σ2=σ:=(bV h3).1;have e2:=(bV h3).2;subst e1;generalize hz:ts.getD t undef=z at htm
   cases htm with
   | ptr V0 h0 hv h=>
    obtain⟨hr1,ad,t0,ha,rfl,_⟩:=h e2
    cases n with
    | none=>
     obtain⟨dd,hu,hd1,hd2⟩:=hn;simp only at h4;obtain⟨t1,σ3,h5,h6⟩:=bG h4;obtain⟨e3,hg⟩:=cQ h5;have e3:σ3=σ2:=e3;subst e3;obtain⟨t',σ4,h7,h8⟩:=bG h6;obtain⟨hB,u,fp,hcu,hown,hhv⟩:=hI.named hr1 ha hg (jZ h7);obtain⟨rfl,ht'⟩:=k9 hI hr1 hg hown hhv h7;obtain⟨ys,G',k1,k2,k3,k4⟩:=nD hI ht' h8;refine⟨u,ys,G',?_,k1,k2,k3,k4⟩;show ((do loadVar ty (<- asAddr (ts.getD t undef))):Sem Value).run P w=_;rw[hz];simp[asAddr,loadVar,iO hu hd1 hd2,hcu]
    | some n=>
     obtain⟨⟨dd,hu,hd1⟩,hsz⟩:=hn;simp only at h4;obtain⟨l,σ3,h5,h6⟩:=bG h4;obtain⟨rfl,e3,us,e4,e5⟩:=uE hI hr1 ha h5
     have hagg:TmR w (G.F M.A) σ3.v (b8 M σ3 H) G (.agg l) (.agg us.toArray):=.agg (by simp[e3,e4]) λj hj=>by have:=(e5 j hj (by omega)).2;simpa [show j < us.length by omega] using this
     obtain⟨ys,G',k1,k2,k3,k4⟩:=nD hI hagg h6;refine⟨_,ys,G',?_,k1,k2,k3,k4⟩;have hsp:=gj ha
     have hcells:=run_loadCells_list (P:=P) w ad us λj v hj=>by
      obtain⟨hlt,rfl⟩:=oGS hj;have:=(e5 j (by omega) hlt).1;obtain⟨b,o,s⟩:=ad;simp only at hsp;subst hsp;rw[cR];exact this
     have hso:(sizeOf ty).run P w=.ok n w:=by
      unfold sizeOf typeInfo
      cases hi:P.info? ty with
      | none=>simp[hi] at hsz
      | some i=>simp[hi] at hsz;simp[hi,hsz]
     rw[e4] at hcells;show ((do loadVar ty (<- asAddr (ts.getD t undef))):Sem Value).run P w=_;rw[hz];simp[asAddr,loadVar,gQ hu hd1,hso,hcells]
  | _=>rw[hs] at hr;simp[SP.run] at hr
theorem BQ{np:Nat}:∀{qs:List TRs}{qs':List ResultVar}{r:List TV×List RSh}{σ σ':St}{H:List TV}{xs:List Value}{G:Gh},Inv M σ H xs ts w G->qs.length=qs'.length->(∀k (h:k < qs.length) (h':k < qs'.length),t6 P qs[k] qs'[k])->(resL np qs).run σ=some (r,σ') ->
 ∃vs ys G',(qs'.mapM λ(q:ResultVar)=>(match q with | .tmp t=>(pure (ts.getD t undef):Sem Value) | .cell a t=>do loadVar t (<- asAddr (ts.getD a undef)))).run P w=.ok vs w/\gH M w ts σ H G σ' (H++r.1) (xs++ys) G'/\r.1.length=ys.length /\
  (∀j (h:j < r.1.length),cJ r.1[j]=true\/g9 r.1[j]=true)/\de r.2 ys=vs:=by
 intro qs
 induction qs with
 | nil=>
  intro qs' r σ σ' H xs G hI hl _ hr;have:qs'=[]:=oEN (by simpa using hl.symm);subst this;simp only[resL,SP.run,oSJ,oPJ] at hr;obtain⟨rfl,rfl⟩:=hr;exact⟨[],[],G,by simp,by simpa using gH.refl hI,rfl,λj h=>by simp at h,rfl⟩
 | cons q qs ih=>
  intro qs' r σ σ' H xs G hI hl hok hr
  cases qs' with
  | nil=>simp at hl
  | cons q' qs'=>
   simp only[resL] at hr;obtain⟨x,σ1,h1,h2⟩:=bG hr;obtain⟨y,σ2,h3,h4⟩:=bG h2;simp only[SP.run,oSJ,oPJ] at h4;obtain⟨rfl,rfl⟩:=h4;obtain⟨v,ys,G1,k1,k2,k3,k4,k5⟩:=BR hI (hok 0 (by simp) (by simp)) h1;obtain⟨vs,zs,G2,l1,l2,l3,l4,l5⟩:=ih (qs':=qs') k2.1 (by simpa using hl) (λk h h'=>hok (k+1) (by simpa using h) (by simpa using h')) h3;refine⟨v :: vs,ys++zs,G2,?_,by simpa using k2.trans l2,by simp[k3,l3],λj hj=>?_,?_⟩
   ·rw[List.mapM_cons,Sem.run_bind];refine (congrArg (λr=>Result.andThen r _) k1).trans ?_;simp only[Result.andThen_ok,Sem.run_bind,l1,Sem.run_pure]
   ·by_cases hjl:j < x.1.length
    ·rw[List.getElem_append_left hjl];exact k4 j hjl
    ·rw[List.getElem_append_right (by omega)];exact l4 _ _
   ·rw[k5,l5]
theorem yz:∀{qs:List TRs}{qs':List ResultVar}{l:List TV}{σ σ':St}{G:Gh},Inv M σ [] [] ts w G->qs.length=qs'.length->(∀k (h:k < qs.length) (h':k < qs'.length),t6 P qs[k] qs'[k])->(flatsR qs).run σ=some (l,σ') ->
 σ'=σ/\l.all sQ=true/\(qs'.mapM λ(q:ResultVar)=>(match q with | .tmp t=>(pure (ts.getD t undef):Sem Value) | .cell a t=>do loadVar t (<- asAddr (ts.getD a undef)))).run P w=.ok (l.map unV) w:=by
 intro qs
 induction qs with
 | nil=>
  intro qs' l σ σ' G hI hl _ hr;have:qs'=[]:=oEN (by simpa using hl.symm);subst this;simp only[flatsR,SP.run,oSJ,oPJ] at hr;obtain⟨rfl,rfl⟩:=hr;exact⟨rfl,rfl,by simp⟩
 | cons q qs ih=>
  intro qs' l σ σ' G hI hl hok hr
  cases qs' with
  | nil=>simp at hl
  | cons q' qs'=>
   cases q with
   | cell t n=>simp[flatsR,SP.run] at hr
   | tmp t=>
    have hq:q'=.tmp t:=hok 0 (by simp) (by simp);subst hq;simp only[flatsR,SP.run] at hr;split at hr
    case isFalse=>simp[SP.run] at hr
    rename_i hf;obtain⟨r,σ1,h1,h2⟩:=bG hr;simp only[SP.run,oSJ,oPJ] at h2;obtain⟨rfl,rfl⟩:=h2;obtain⟨rfl,k2,k3⟩:=ih (qs':=qs') hI (by simpa using hl) (λk h h'=>hok (k+1) (by simpa using h) (by simpa using h')) h1;refine⟨rfl,by rw[List.all_cons,hf,k2];rfl,?_⟩;have hv:=hI.tmr t
    have e:ts.getD t undef=unV (σ1.t t):=by
     generalize ts.getD t undef=z at hv
     cases hc:σ1.t t with
     | v x=>
      rw[hc] at hv
      cases hv with
      | v _=>rfl
     | _=>rw[hc] at hf;simp[sQ] at hf
    rw[List.mapM_cons,Sem.run_bind];show Result.andThen (.ok (ts.getD t undef) w) _=_;simp only[Result.andThen_ok,Sem.run_bind,k3,Sem.run_pure];rw[e];rfl
end
section
variable {P:Program} {M:Fm} {σ σ':St} {H:List TV} {xs:List Value} {ts:Array Value} {w:World} {G:Gh}
theorem Inv.trunc(hI:Inv M σ H xs ts w G) {k:Nat}(hd:∀j (h:j < H.length),k<=j->H[j]=.dead):Inv M σ (H.take k) (xs.take k) ts w G/\b8 M σ (H.take k)=b8 M σ H:=by
 have e:b8 M σ (H.take k)=b8 M σ H:=by
  funext r o;unfold b8;split
  ·simp only[oGD,List.getElem?_take];split
   ·rfl
   ·rename_i ho;by_cases h:o < H.length
    ·rw[oGE h,hd o h (by omega)];rfl
    ·rw[oGN (by omega)]
  ·rfl
 refine⟨⟨by rw[e];exact hI.core,λi=>by rw[e];exact hI.tmr i,hI.fram,hI.keys,hI.size,by simp[hI.hand],λj hj=>?_,hI.shape⟩,e⟩
 have h2:j < k/\j < xs.length:=by simp at hj;omega
 rw[hI.hval j h2.2];simp[oGD,List.getElem?_take,h2.1]
theorem lW(b:Nat) (vs:List Value):∀(o:Nat) (w:World) {k:Nat},k≠b->(w.setCells b o vs).heap[k]?=w.heap[k]?:=by
 induction vs with
 | nil=>intro o w k h;rfl
 | cons v r ih=>
  intro o w k h;simp only[World.setCells];rw[ih _ _ h];exact b5 w _ v h
theorem oF(b:Nat) (vs:List Value):∀(o:Nat) (w:World) {cur:Array Value}{e:TypeId}{fz:Nat×Nat},w.heap[b]?=some (.cells cur e fz) ->
 ∃cur',(w.setCells b o vs).heap[b]?=some (.cells cur' e fz)/\cur'.size=cur.size/\∀j,cur'[j]?=if o<=j/\j < o+vs.length/\j < cur.size then vs[j - o]? else cur[j]?:=by
 induction vs with
 | nil=>intro o w cur e fz h;exact⟨cur,h,rfl,λj=>by rw[oIN (by simp;omega)]⟩
 | cons v r ih=>
  intro o w cur e fz h;simp only[World.setCells];obtain⟨cur',h1,h2,h3⟩:=ih (o+1) _ (fF w b o v h);refine⟨cur',h1,by rw[h2];simp,λj=>?_⟩;rw[h3];simp only[Array.size_setIfInBounds,oLC];by_cases hj:j=o
  ·subst hj;rw[oIN (by omega)];by_cases hs:j < cur.size
   ·rw[oIP (by omega)];simp[hs]
   ·rw[oIN (by omega)];simp[hs]
  ·by_cases hc:o+1<=j/\j < o+1+r.length/\j < cur.size
   ·rw[oIP hc,oIP (by omega)];rw[show j - o=(j - (o+1))+1 by omega];simp
   ·rw[oIN hc,oIN (by omega)];rw[Array.getElem?_setIfInBounds,oIN (Ne.symm hj)]
theorem pW(b:Nat) (vs:List Value):∀(o:Nat) (w:World),w.setCells b o vs={ w with heap:=(w.setCells b o vs).heap }:=by
 induction vs with
 | nil=>intro o w;rfl
 | cons v r ih=>
  intro o w;simp only[World.setCells]
  have h:w.setCell ⟨b,o,none⟩ v={ w with heap:=(w.setCell ⟨b,o,none⟩ v).heap }:=by
   unfold World.setCell
   split<;>first | rfl | (split<;>rfl)
  rw[ih];rw[h]
def dP(w W:World) (b:Nat):World:=match w.heap[b]? with | some x=>{ W with heap:=W.heap.setIfInBounds b x } | none=>W
theorem jY{w W:World}{b k:Nat}(h:k≠b):(dP w W b).heap[k]?=W.heap[k]?:=by
 unfold dP;split
 ·simp[Array.getElem?_setIfInBounds,Ne.symm h]
 ·rfl
theorem lY{w W:World}{b:Nat}(h:b < W.heap.size) (h2:b < w.heap.size):(dP w W b).heap[b]?=w.heap[b]?:=by
 unfold dP;rw[Array.getElem?_eq_getElem h2];simp[h]
theorem iv{w W:World}{b:Nat}:(dP w W b).heap.size=W.heap.size:=by
 unfold dP;split<;>simp
theorem mr{w W:World}{b:Nat}:(dP w W b).os=W.os/\(dP w W b).tape=W.tape/\(dP w W b).output=W.output/\(dP w W b).drawn=W.drawn:=by
 unfold dP;split<;>exact⟨rfl,rfl,rfl,rfl⟩
theorem mU{w W:World}{b o:Nat}{vs:List Value}{cur0 cur:Array Value}{e:TypeId}{fz:Nat×Nat}(h0:w.heap[b]?=some (.cells cur0 e fz)) (h1:W.heap[b]?=some (.cells cur e fz)) (hs:cur.size=cur0.size)
 (hout:∀j,(j < o\/o+vs.length<=j)->cur[j]?=cur0[j]?) (hin:∀j (h:j < vs.length),cur[o+j]?=some vs[j]):(dP w W b).setCells b o vs=W:=by
 have hbW:b < W.heap.size:=(Array.getElem?_eq_some_iff.1 h1).1;have hbw:b < w.heap.size:=(Array.getElem?_eq_some_iff.1 h0).1;rw[pW];obtain⟨r1,r2,r3,r4⟩:=mr (w:=w) (W:=W) (b:=b)
 have hheap:((dP w W b).setCells b o vs).heap=W.heap:=by
  apply Array.ext_getElem?;intro k;by_cases hk:k=b
  ·subst hk;obtain⟨cur',e1,e2,e3⟩:=oF k vs o (dP w W k) ((lY hbW hbw).trans h0);rw[e1,h1];congr 2;apply Array.ext_getElem?;intro j;rw[e3];split
   ·rename_i hj;have:=hin (j - o) (by omega);rw[show o+(j - o)=j by omega] at this;rw[this,oGE (by omega)]
   ·rename_i hj;by_cases hjs:j < cur0.size
    ·exact (hout j (by omega)).symm
    ·rw[Array.getElem?_eq_none (by omega),Array.getElem?_eq_none (by omega)]
  ·rw[lW b vs o _ hk,jY hk]
 rw[hheap];cases W;cases hR:dP w _ b;rw[hR] at r1 r2 r3 r4
 simp_all
end
structure wF (H:List TV) (xs:List Value) (w:World) (G:Gh) (A:Nat->Prop) (pr:Nat->Option (Nat×Nat×Nat)) (bs:Nat->Nat) (ce:List (Nat×List TV)) (ow:Nat->Option Nat):Prop where
 even:∀r b o n,pr r=some (b,o,n)->r % 2=0/\0 < n
 cells:∀r b o n,pr r=some (b,o,n)->∃l,ca ce r=some l/\l.length=n/\∀j (h:j < l.length),∃h':bs r+j < H.length,l[j]=H[bs r+j]/\l[j]≠.dead
 only:∀r l,ca ce r=some l->pr r≠none\/ow r≠none
 owc:∀r j,ow r=some j->r % 2=1/\r≠1/\∃(c:List (List TV)) (h:j < H.length),ca ce r=some [.ow c]/\H[j]=.ow c
 owa:∀r j r' b o n,ow r=some j->pr r'=some (b,o,n)->∀j',j' < n->bs r'+j'≠j
 owi:∀r r' j,ow r=some j->ow r'=some j->r=r'
 apart:∀r b o n r' b' o' n',pr r=some (b,o,n)->pr r'=some (b',o',n')->∀j j',j < n->j' < n'->bs r+j=bs r'+j'->r=r'
 inj:∀r b o n r' o' n',pr r=some (b,o,n)->pr r'=some (b,o',n')->r=r'
 notF:∀r b o n,pr r=some (b,o,n)->¬ G.F A b
 notH:∀r b o n,pr r=some (b,o,n)->∀j,¬ G.φ 1 j b
 here:∀r b o n,pr r=some (b,o,n)->∀j,j < n->w.cell? ⟨b,o+j,none⟩=some (xs.getD (bs r+j) undef)/\w.frozen? ⟨b,o+j,none⟩=false
def Fm.into(M:Fm) (w:World) (G:Gh) (pr:Nat->Option (Nat×Nat×Nat)) (N:Nat):Fm where
 w0:=w
 A:=λk=>G.F M.A k\/(∃j,G.φ 1 j k)\/w.heap.size<=k
 W0:=λk=>∃j,G.φ 1 j k
 pr:=pr
 N:=N
 hA:=λk h=>.inr (.inr h)
def Gh.into(G:Gh) (pr:Nat->Option (Nat×Nat×Nat)) (bs:Nat->Nat) (ow:Nat->Option Nat) (xs:List Value):Gh:=
 ⟨pr,λr _=>match ow r with | some j=>xs.getD j undef | none=>undef,λr o k=>(∃b o0 n,pr r=some (b,o0,n)/\o < n/\G.φ 1 (bs r+o) k)\/∃j,ow r=some j/\o=0/\G.φ 1 j k⟩
theorem fc{G:Gh}{pr:Nat->Option (Nat×Nat×Nat)}{bs:Nat->Nat}{ow:Nat->Option Nat}{xs:List Value}{r o k:Nat}(h:(G.into pr bs ow xs).φ r o k):∃j,G.φ 1 j k:=by
 rcases h with ⟨_,_,_,_,_,h⟩ | ⟨_,_,_,h⟩<;>exact⟨_,h⟩
section
variable {P:Program} {M:Fm} {σ σ':St} {H:List TV} {xs:List Value} {ts:Array Value} {w:World} {G:Gh}
variable {pr:Nat->Option (Nat×Nat×Nat)} {bs:Nat->Nat} {ce:List (Nat×List TV)} {ow:Nat->Option Nat}
theorem wF.F(hh:wF H xs w G M.A pr bs ce ow) {N k:Nat}(h:G.F M.A k):(G.into pr bs ow xs).F (M.into w G pr N).A k:=
 ⟨.inl h,λr o hφ=>by obtain⟨j,h3⟩:=fc hφ;exact h.2.1 _ _ h3,λr b o n hb e=>hh.notF r b o n hb (e ▸ h)⟩
theorem j8{w:World}{b o:Nat}{v:Value}(h:w.cell? ⟨b,o,none⟩=some v):∃cur e fz,w.heap[b]?=some (.cells cur e fz)/\o < cur.size/\cur[o]?=some v:=by
 unfold World.cell? at h;simp only at h;split at h
 ·rename_i cur e fz hb;simp at h;refine⟨cur,e,fz,hb,?_,h⟩;exact (Array.getElem?_eq_some_iff.1 h).1
 ·simp at h
theorem Inv.enter(hI:Inv M σ H xs ts w G) (hh:wF H xs w G M.A pr bs ce ow) {tm:List (Nat×TV)}{ts':Array Value}{N:Nat}(hN:ts'.size=N)
 (ht:∀i,TmR w ((G.into pr bs ow xs).F (M.into w G pr N).A) (λ_=>0) (b8 (M.into w G pr N) ⟨tm,ce,[]⟩ []) (G.into pr bs ow xs) ((ca tm i).getD .dead) (ts'.getD i undef)) :
 Inv (M.into w G pr N) ⟨tm,ce,[]⟩ [] [] ts' w (G.into pr bs ow xs):=by
 have hev:∀r b o n,pr r=some (b,o,n)->r≠1:=λr b o n h e=>by have:=(hh.even r b o n h).1;omega
 have hno:∀r b o n,pr r=some (b,o,n)->ow r=none:=λr b o n h=>by
  cases e:ow r with
  | none=>rfl
  | some j=>have:=(hh.even r b o n h).1;have:=(hh.owc r j e).1;omega
 have hne:∀r l,ca ce r=some l->r≠1:=by
  intro r l h;rcases hh.only r l h with h1 | h1
  ·cases hp:pr r with
   | none=>exact absurd hp h1
   | some x=>exact hev r _ _ _ hp
  ·cases hp:ow r with
   | none=>exact absurd hp h1
   | some j=>exact (hh.owc r j hp).2.1
 have hcell:∀r o,b8 (M.into w G pr N) ⟨tm,ce,[]⟩ [] r o=match ca ce r with | some l=>l.getD o .dead | none=>.dead:=by
  intro r o;unfold b8;split
  ·rename_i e
   cases hc:ca ce r with
   | none=>simp
   | some l=>exact absurd e (hne r l hc)
  ·rfl
 refine⟨⟨λr o=>?_,λr b o0 n hb=>?_,λr b o0 n hb o ho=>?_,λr r' b o n o' n' h1 h2=>hh.inj r b o n r' o' n' h1 h2,λr b o n hb r' o' hφ=>by obtain⟨j,h3⟩:=fc hφ;exact hh.notH r b o n hb _ h3,λr1 o1 r2 o2 k hk1 hk2=>?_,λr o k hφ=>.inr (.inl (fc hφ))⟩,ht,?_,λr l h=>hne r l h,hN,rfl,λj hj=>by simp at hj,λr b o n hb l hl=>?_⟩
 ·rw[hcell]
  cases hc:ca ce r with
  | none=>
   left;refine⟨rfl,λk hk=>?_⟩;rcases hk with ⟨b1,p1,n1,h1,h2,h3⟩ | ⟨j,h1,_⟩
   ·obtain⟨l,h4,_⟩:=hh.cells r _ _ _ h1;rw[hc] at h4;simp at h4
   ·obtain⟨_,_,c,_,h4,_⟩:=hh.owc r j h1;rw[hc] at h4;simp at h4
  | some l=>
   cases hp:pr r with
   | none=>
    obtain⟨j,hj⟩:∃j,ow r=some j:=by
     rcases hh.only r l hc with h1 | h1
     ·exact absurd hp h1
     ·cases e:ow r with
      | none=>exact absurd e h1
      | some j=>exact⟨j,rfl⟩
    obtain⟨_,_,c,hjl,h4,h5⟩:=hh.owc r j hj;rw[hc] at h4
    injection h4 with h4
    subst h4
    cases o with
    | zero=>
     right;have hown:=hI.hand_own hjl (by rw[h5];simp)
     have hval:(G.into pr bs ow xs).val w r 0=xs.getD j undef:=by
      unfold Gh.val Gh.into;simp only[hp,hj]
     rw[hval];simp only[List.getD_cons_zero];rw[h5] at hown;refine (hown.frame (λ_ _=>rfl) (λ_ _ _=>rfl) λk hk _=>hh.F hk).refp λk=>?_;constructor
     ·intro hk;exact .inr ⟨j,hj,rfl,hk⟩
     ·rintro (⟨b1,p1,n1,h1,_,_⟩ | ⟨j',h1,_,hk⟩)
      ·rw[hp] at h1;simp at h1
      ·rw[hj] at h1;injection h1 with h1;rw[h1];exact hk
    | succ o=>
     left;refine⟨by simp,λk hk=>?_⟩;rcases hk with ⟨b1,p1,n1,h1,_,_⟩ | ⟨j',_,h1,_⟩
     ·rw[hp] at h1;simp at h1
     ·omega
   | some x=>
    obtain⟨b,o0,n⟩:=x;obtain⟨l',h4,h5,h6⟩:=hh.cells r _ _ _ hp;rw[hc] at h4
    injection h4 with h4
    subst h4;by_cases ho:o < l.length
    ·right;obtain⟨h7,h8,h9⟩:=h6 o ho;have hown:=hI.hand_own h7 (by rw[<- h8];exact h9)
     have hval:(G.into pr bs ow xs).val w r o=xs.getD (bs r+o) undef:=by
      unfold Gh.val Gh.into;simp only[hp];rw[(hh.here r _ _ _ hp o (by omega)).1];rfl
     rw[hval]
     have e:l.getD o .dead=l[o]:=by simp[ho]
     simp only[e];rw[h8];refine (hown.frame (λ_ _=>rfl) (λ_ _ _=>rfl) λk hk _=>hh.F hk).refp λk=>?_;constructor
     ·intro hk;exact .inl ⟨b,o0,n,hp,by omega,hk⟩
     ·rintro (⟨_,_,_,_,_,hk⟩ | ⟨j',h1,_,_⟩)
      ·exact hk
      ·rw[hno r _ _ _ hp] at h1;simp at h1
    ·left;refine⟨by simp only[];rw[oGD,oGN (by omega)];rfl,λk hk=>?_⟩;rcases hk with ⟨b1,p1,n1,h1,h2,h3⟩ | ⟨j',h1,_,_⟩
     ·rw[hp] at h1
      injection h1 with h1
      injection h1 with _ h1
      injection h1 with _ h1
      omega
     ·rw[hno r _ _ _ hp] at h1;simp at h1
 ·have hn:=(hh.even r _ _ _ hb).2;have hb':pr r=some (b,o0,n):=hb;obtain⟨cur,e,fz,h1,h2,h3⟩:=j8 (hh.here r _ _ _ hb' (n - 1) (by omega)).1;exact⟨cur,e,fz,h1,by omega,λj hj=>(hh.here r _ _ _ hb' j hj).2⟩
 ·have hb':pr r=some (b,o0,n):=hb;rw[hcell];obtain⟨l,h1,h2,_⟩:=hh.cells r _ _ _ hb';rw[h1];show l.getD o .dead=.dead;rw[oGD,oGN (by omega)];rfl
 ·rcases hk1 with ⟨b1,p1,n1,h1,h2,h3⟩ | ⟨j1,h1,h2,h3⟩<;>rcases hk2 with ⟨b2,p2,n2,k1,k2,k3⟩ | ⟨j2,k1,k2,k3⟩
  ·obtain⟨_,h5⟩:=hI.core.dis _ _ _ _ k h3 k3;have:=hh.apart _ _ _ _ _ _ _ _ h1 k1 _ _ h2 k2 h5;subst this;exact⟨rfl,by omega⟩
  ·obtain⟨_,h5⟩:=hI.core.dis _ _ _ _ k h3 k3;exact absurd h5 (hh.owa _ _ _ _ _ _ k1 h1 _ h2)
  ·obtain⟨_,h5⟩:=hI.core.dis _ _ _ _ k h3 k3;exact absurd h5.symm (hh.owa _ _ _ _ _ _ h1 k1 _ k2)
  ·obtain⟨_,h5⟩:=hI.core.dis _ _ _ _ k h3 k3;subst h5;exact⟨hh.owi _ _ _ h1 k1,by omega⟩
 ·refine⟨rfl,rfl,rfl,Nat.le_refl _,λ_ _ _ _=>rfl,λr b o n hp=>⟨hp,?_⟩,λr o k hφ=>.inl (fc hφ),λr b o n hb=>.inl hb,λr hb=>?_⟩
  ·have hn:=(hh.even r _ _ _ hp).2;obtain⟨cur,e,fz,h1,h2,h3⟩:=j8 (hh.here r _ _ _ hp (n - 1) (by omega)).1;exact⟨cur,cur,e,fz,h1,h1,rfl,λ_ _=>rfl⟩
  ·cases hp:pr r with
   | none=>exact absurd hp hb
   | some x=>exact (hh.even r _ _ _ hp).1
 ·obtain⟨l',h1,h2,_⟩:=hh.cells r _ _ _ hb;have hl':ca ce r=some l:=hl;rw[hl'] at h1
  injection h1 with h1
  rw[h1];exact h2
end
structure A7 (H2:List TV) (ys:List Value) (H':List TV) (xs':List Value) (C2:Cs) (G2:Gh) (w2:World) (pr:Nat->Option (Nat×Nat×Nat)) (bs:Nat->Nat):Prop where
 len:H'.length=xs'.length
 low:∀j (h:j < H2.length),∃h':j < H'.length,H'[j]=H2[j]/\xs'.getD j undef=ys.getD j undef
 cells:∀r b o n,pr r=some (b,o,n)->∀t,t < n->∃h:bs r+t < H'.length,H2.length<=bs r+t/\H'[bs r+t]=C2 r t/\xs'.getD (bs r+t) undef=G2.val w2 r t
 cover:∀j,j < H'.length->j < H2.length\/∃r b o n t,pr r=some (b,o,n)/\t < n/\j=bs r+t
 apart:∀r b o n r' b' o' n',pr r=some (b,o,n)->pr r'=some (b',o',n')->∀j j',j < n->j' < n'->bs r+j=bs r'+j'->r=r'
section
variable {P:Program} {M:Fm} {σ σ2:St} {H H2 H':List TV} {xs ys xs':List Value} {ts ts2:Array Value} {w w2 w':World} {G G2:Gh}
variable {pr:Nat->Option (Nat×Nat×Nat)} {bs bs2:Nat->Nat} {ce:List (Nat×List TV)} {N:Nat} {ow:Nat->Option Nat}
theorem Inv.leave(hI:Inv M σ H xs ts w G) (hh:wF H xs w G M.A pr bs ce ow) (h2:Inv (M.into w G pr N) σ2 H2 ys ts2 w2 G2) (hb2:A7 H2 ys H' xs' (b8 (M.into w G pr N) σ2 H2) G2 w2 pr bs2)
 (hs:w'.heap.size=w2.heap.size) (ho:w'.os=w2.os) (htp:w'.tape=w2.tape) (hu:w'.output=w2.output) (hsame:∀k,(∀r b o n,pr r=some (b,o,n)->k≠b)->w'.heap[k]?=w2.heap[k]?)
 (hback:∀r b o n,pr r=some (b,o,n)->w'.heap[b]?=w.heap[b]?):∃G',Inv M σ H' xs' ts w' G'/\fT M w σ H G w' σ H' G'/\G'.β=G.β:=by
 have hFr:=h2.fram
 let f:Nat->Nat->Prop:=λj k=>(j < H2.length/\G2.φ 1 j k)\/∃r b o n t,pr r=some (b,o,n)/\t < n/\j=bs2 r+t/\G2.φ r t k
 have hfφ:∀j k,f j k->∃r o,G2.φ r o k:=by
  rintro j k (⟨_,h⟩ | ⟨r,b,o,n,t,_,_,_,h⟩)
  ·exact⟨_,_,h⟩
  ·exact⟨_,_,h⟩
 have hβ2:∀r b o n,pr r=some (b,o,n)->G2.β r=some (b,o,n):=λr b o n h=>(hFr.par r b o n h).1
 have hr1:∀r b o n,pr r=some (b,o,n)->r≠1:=λr b o n h e=>by have:=(hh.even r b o n h).1;omega
 have hφw:∀r o k,G2.φ r o k->w'.heap[k]?=w2.heap[k]?:=λr o k h=>hsame k λr' b o' n hp e=>h2.core.boxf r' b o' n (hβ2 _ _ _ _ hp) _ _ (e ▸ h);have hFw:∀k,G2.F (M.into w G pr N).A k->w'.heap[k]?=w2.heap[k]?:=λk h=>hsame k λr' b o' n hp e=>h.2.2 r' b o' n (hβ2 _ _ _ _ hp) e
 obtain⟨G',a1,a2,a3,_⟩:=hI.rehandL (w':=w') (H':=H') (xs':=xs') (f:=f) (Fx:=G2.F (M.into w G pr N).A)
  (λk hk hn=>by
   by_cases hp:∃r b o n,pr r=some (b,o,n)/\k=b
   ·obtain⟨r,b,o,n,hp,rfl⟩:=hp;exact hback r k o n hp
   ·have hp':∀r b o n,pr r=some (b,o,n)->k≠b:=λr b o n h e=>hp ⟨r,b,o,n,h,e⟩;rw[hsame k hp']
    exact hFr.old k hk (λ⟨j,hj⟩=>hn j hj) hp')
  (by rw[hs];exact hFr.size) (ho.trans hFr.os) (htp.trans hFr.tape) (hu.trans hFr.output) hb2.len
  (λj k h=>by
   refine⟨?_,?_⟩
   ·rcases h with ⟨h,_⟩ | ⟨r,b,o,n,t,hp,ht,rfl,_⟩
    ·exact (hb2.low j h).1
    ·exact (hb2.cells r b o n hp t ht).1
   ·obtain⟨r,o,hφ⟩:=hfφ j k h
    exact hFr.own r o k hφ)
  (λj j' k h h'=>by
   rcases h with ⟨h1,h3⟩ | ⟨r,b,o,n,t,hp,ht,rfl,h3⟩
   ·rcases h' with ⟨k1,k3⟩ | ⟨r',b',o',n',t',hp',ht',rfl,k3⟩
    ·exact (h2.core.dis _ _ _ _ k h3 k3).2
    ·exact absurd (h2.core.dis _ _ _ _ k h3 k3).1.symm (hr1 _ _ _ _ hp')
   ·rcases h' with ⟨k1,k3⟩ | ⟨r',b',o',n',t',hp',ht',rfl,k3⟩
    ·exact absurd (h2.core.dis _ _ _ _ k h3 k3).1 (hr1 _ _ _ _ hp)
    ·obtain⟨e1,e2⟩:=h2.core.dis _ _ _ _ k h3 k3
     rw[e1,e2])
  (λk h=>⟨h.1,λj hf=>by obtain⟨r,o,hφ⟩:=hfφ j k hf;exact h.2.1 r o hφ⟩)
  (λj hj=>by
   rcases hb2.cover j hj with h | ⟨r,b,o,n,t,hp,ht,rfl⟩
   ·obtain⟨_,e1,e2⟩:=hb2.low j h
    have hno:∀k,f j k↔G2.φ 1 j k:=λk=>by
     constructor
     ·rintro (⟨_,h⟩ | ⟨r,b,o,n,t,hp,ht,e,_⟩)
      ·exact h
      ·have:=(hb2.cells r b o n hp t ht).2.1;omega
     ·exact λhk=>.inl ⟨h,hk⟩
    by_cases hd:H2[j]=.dead
    ·left;refine⟨e1.trans hd,λk hk=>?_⟩;refine h2.phi_dead (r:=1) (o:=j) ?_ k ((hno k).1 hk);rw[show (1:Nat)=(M.into w G pr N).hr from rfl,gX];simp[h,hd]
    ·right;have:=h2.hand_own h hd;rw[e1,e2];exact (this.frame (λk hk=>hφw _ _ k hk) (λk hk _=>hFw k hk) λk hk _=>hk).refp λk=>(hno k).symm
   ·obtain⟨h1,h3,h4,h5⟩:=hb2.cells r b o n hp t ht
    have hno:∀k,f (bs2 r+t) k↔G2.φ r t k:=λk=>by
     constructor
     ·rintro (⟨h,_⟩ | ⟨r',b',o',n',t',hp',ht',e,hk⟩)
      ·omega
      ·have:=hb2.apart _ _ _ _ _ _ _ _ hp hp' _ _ ht ht' e;subst this
       have:t=t':=by omega
       subst this;exact hk
     ·exact λhk=>.inr ⟨r,b,o,n,t,hp,ht,rfl,hk⟩
    rw[h4,h5];rcases h2.core.cell r t with ⟨c1,c2⟩ | c1
    ·left;exact⟨c1,λk hk=>c2 k ((hno k).1 hk)⟩
    ·right
     exact (c1.frame (λk hk=>hφw _ _ k hk) (λk hk _=>hFw k hk) λk hk _=>hk).refp λk=>(hno k).symm)
 exact⟨G',a1,a2,a3⟩
end
def kg:TV->Bool
 | .v _=>true
 | .sl _=>true
 | .ip _=>true
 | .ow []=>true
 | .fn _ []=>true
 | .agg l=>l.all λt=>match t with | .v _=>true | .sl _=>true | _=>false
 | _=>false
def Dt:TV->Bool
 | .pk _ _=>true
 | .ow []=>true
 | _=>false
def argV(x:Option Nat×Opd):SP TV:=(opd x.2).bind λt=>if x.1==some 0 && Dt t then .ret t else match t with
 | .ip cs=>.ret (.ip cs)
 | .fn f cap=>.ret (.fn f cap)
 | .ptr p vs=>.ret (.ptr p vs)
 | t=>(takeV false t).bind λl=>.ret (jl l.2 (l.1.map TV.imm))
def argVs:List (Option Nat×Opd)->SP (List TV)
 | []=>.ret []
 | x :: r=>(argV x).bind λt=>(argVs r).bind λl=>.ret (t :: l)
def takeOwns:Nat->List (Option Nat×TV)->SP (List (Nat×TV))
 | _,[]=>.ret []
 | i,(some 0,.pk p vs) :: r=>(take1 true (.pk p vs)).bind λt=>if g9 t then (takeOwns (i+1) r).bind λq=>.ret ((i,t) :: q) else .fail
 | i,_ :: r=>takeOwns (i+1) r
structure GP where
 i:Nat
 p:bQ
 vs:List Nat
 cells:List TV
def oW(p:bQ):Nat->SP (List TV)
 | 0=>.ret []
 | n+1=>(getPl p).bind λt=>(peek1 p t).bind λt'=>(take1 true t').bind λt2=>match n with
  | 0=>.ret [t2]
  | _=>if p.fits 1 then (oW (p.add 1) n).bind λr=>.ret (t2 :: r) else .fail
def bQ.base(p:bQ):bQ:=⟨p.root,p.off,[]⟩
def Cj(p:bQ) (n:Nat):Nat:=match p.hops with
 | []=>n
 | _ :: _=>1
def rooted(p:bQ):SP Unit:=match p.hops with
 | []=>.ret ()
 | _ :: _=>.rdT ((p.root - 2) / 2) λt=>match t with
  | .ptr q ws=>if q.root==p.root && q.hops.isEmpty then chk q 0 ws else .fail
  | _=>.fail
def grabs:Nat->List (Option Nat×TV)->SP (List GP)
 | _,[]=>.ret []
 | i,(some n,.ptr p vs) :: r=>(chk p p.hops.length vs).bind λ_=>(rooted p).bind λ_=>(oW p.base (Cj p n)).bind λl=>(grabs (i+1) r).bind λq=>.ret (⟨i,p.base,vs.take 1,l⟩ :: q)
 | i,(some 0,.pk _ _) :: r=>grabs (i+1) r
 | i,(_,t) :: r=>if kg t then grabs (i+1) r else .fail
def touch(p:bQ):SP Unit:=.rdC p.root p.off λtv=>.wrC p.root p.off tv (.ret ())
def rechk:List GP->SP Unit
 | []=>.ret ()
 | g :: r=>(chk g.p g.p.hops.length g.vs).bind λ_=>(touch g.p).bind λ_=>rechk r
def ix:List Nat->Bool
 | []=>true
 | x :: r=>!r.contains x && ix r
def argT(i:Nat):TV->TV
 | .ptr p _=>.ptr ⟨2*i+2,0,p.hops⟩ (List.replicate (p.hops.length+1) 0)
 | .pk _ _=>.pk ⟨2*i+3,0,[]⟩ [0,0]
 | t=>t
def argTs:Nat->List TV->List TV
 | _,[]=>[]
 | i,t :: r=>argT i t :: argTs (i+1) r
def dD{α:Type}:Nat->List α->List (Nat×α)
 | _,[]=>[]
 | i,t :: r=>(i,t) :: dD (i+1) r
def mkSt(vals:List TV) (pts:Pts):St:=⟨dD 0 vals,pts,[]⟩
def uK:TV->Bool
 | .dead=>true
 | _=>false
def putBack:List (GP×List TV)->SP Unit
 | []=>.ret ()
 | (g,l) :: r=>(putBack r).bind λ_=>if l.length=g.cells.length && l.all λt=>!uK t then putL g.p l else .fail
def eE:List RSh->List TV->List TV
 | [],_=>[]
 | .one :: r,l=>l.headD .dead :: eE r l.tail
 | .agg n :: r,l=>.agg (l.take n) :: eE r (l.drop n)
 | .ptr :: r,l=>.dead :: eE r l
def kZ(sh:List RSh) (l:List TV):TV:=
 match eE sh l with
 | [x]=>x
 | l=>.tup l
def jz:List RSh->Nat->Bool
 | [],n=>n==0
 | .one :: r,n=>decide (0 < n) && jz r (n - 1)
 | .agg m :: r,n=>decide (m<=n) && jz r (n - m)
 | .ptr :: _,_=>false
def landR(dst:Option Nat) (res:wE):SP Unit:=
 match dst with
 | some d=>(names d res.cells).bind λl=>wr d (kZ res.sh l)
 | none=>.ret ()
def isP(r:wE):Bool:=match r.sh,r.cells with
 | .ptr :: _,.ptr _ _ :: _=>true
 | _,_=>false
def landP(dst:Option Nat) (q:List GP) (cells:List TV):SP Unit:=
 match dst with
 | none=>.ret ()
 | some d=>match cells,q with
  | .ptr pl _ :: l,[g]=>if pl.root==2*g.i+2 && g.p.hops.isEmpty then (rdVs (jE g.p.root (g.p.off+pl.off) pl.hops.length)).bind λvs=>wr d (uv (.ptr ⟨g.p.root,g.p.off+pl.off,pl.hops⟩ vs) l) else .fail
  | _,_=>.fail
def callV(F:cS) (dst:Option Nat) (f:FuncId) (ns:List (Option Nat)) (vals:List TV):SP Unit:=
 (takeOwns 0 (ns.zip vals)).bind λow=>(grabs 0 (ns.zip vals)).bind λq=>(rechk q).bind λ_=>
  if ix (q.map (·.p.root)) && q.all (λg=>decide (0 < g.cells.length)) then
   (eZ (F f (argTs 0 vals) (q.map (λg=>(2*g.i+2,g.cells))++ow.map λx=>(2*x.1+3,[x.2])))).bind λr=>
    if r.2.map (·.1)=q.map (λg=>2*g.i+2)++ow.map (λx=>2*x.1+3) && (isP r.1 || jz r.1.sh r.1.cells.length) then (putBack (q.zip (r.2.map (·.2)))).bind λ_=>if isP r.1 then landP dst q r.1.cells else landR dst r.1 else .fail
  else .fail
inductive BxC where
 | arg (i:Nat)
 | val (x:Value)
structure Env where
 box:FuncId->Option (Nat×List BxC)
 ps:FuncId->List (Option Nat)
def bxT(vals:List TV):BxC->TV
 | .arg i=>vals.getD i .dead
 | .val x=>.v x
def bxV(as:List Value):BxC->Value
 | .arg i=>as.getD i undef
 | .val x=>x
def evBox(dst:Option Nat) (tm:List BxC) (vals:List TV):SP Unit:=
 match dst with
 | some d=>(takeL false (tm.map (bxT vals))).bind λl=>.new (2*d+2) l (.rdV (2*d+2,0,0) λg=>wr d (.ptr ⟨2*d+2,0,[]⟩ [g]))
 | none=>.fail
def yP(E:Env) (f:FuncId) (n m:Nat):List (Option Nat):=(List.range m).map λk=>(E.ps f).getD (n+k) none
def see1:TV->SP TV
 | .v x=>.ret (.v x)
 | .sl c=>.ret (.sl c)
 | .ow []=>.ret (.sl [])
 | .pk p vs=>(chk p (p.hops.length+1) vs).bind λ_=>.rdC p.root p.off λtv=>match bZ tv p.hops with | some (.ow c)=>.ret (TV.ow c).imm | _=>.fail
 | _=>.fail
def seeL:List TV->SP (List TV)
 | []=>.ret []
 | t :: r=>(see1 t).bind λt'=>(seeL r).bind λl=>.ret (t' :: l)
def seeA:TV->SP TV
 | .agg l=>(seeL l).bind λl'=>.ret (.agg l')
 | .ip cs=>.ret (.ip cs)
 | .fn f cap=>match cap with | []=>.ret (.fn f []) | _ :: _=>.fail
 | t=>see1 t
def seeAs:List Opd->SP (List TV)
 | []=>.ret []
 | x :: r=>(opd x).bind λt=>(seeA t).bind λt'=>(seeAs r).bind λl=>.ret (t' :: l)
def callB(F:cS) (dst:Option Nat) (f:FuncId) (vals:List TV):SP Unit:=
 (eZ (F f vals [])).bind λr=>if r.2.length=0 && r.1.cells.all sQ && jz r.1.sh r.1.cells.length then (match dst with | some d=>wr d (kZ r.1.sh r.1.cells) | none=>.ret ()) else .fail
def evCall(E:Env) (F:cS) (dst:Option Nat):TOp->SP Unit
 | .call k (.f f) args=>
  if k then (argVs args).bind λvals=>match E.box f with
   | some x=>if vals.length=x.1 then evBox dst x.2 vals else .fail
   | none=>callV F dst f (args.map (·.1)) vals
  else (seeAs (args.map (·.2))).bind λvals=>callB F dst f vals
 | .call _ (.t i) args=>.rdT i λt=>match t with
  | .fn f caps=>(argVs args).bind λvals=>callV F dst f (args.map (·.1)++yP E f args.length caps.length) (vals++caps)
  | _=>.fail
 | _=>.fail
section
variable {P:Program} {M:Fm} {σ σ':St} {H:List TV} {xs:List Value} {ts:Array Value} {w:World} {G:Gh} {a:Act} {o:Oper}
theorem Cn(hI:Inv M σ [] [] a.tmps w G) {x:Option Nat×Opd}{x':Operand}(hx:bJ x'=some x.2) {t:TV}(hr:(argV x).run σ=some (t,σ')) :
 ∃G',gH M w a.tmps σ [] G σ' [] [] G'/\TmR w (G'.F M.A) σ'.v (b8 M σ' []) G' t (a.eval x'):=by
 unfold argV at hr;obtain⟨t0,σ1,h1,h2⟩:=bG hr;obtain⟨rfl,ht⟩:=cC hI.tmr hx h1
 have gen:∀(l:List TV×Bool) (σ2:St),(takeV false t0).run σ1=some (l,σ2)->t=jl l.2 (l.1.map TV.imm)->σ'=σ2->∃G',gH M w a.tmps σ1 [] G σ' [] [] G'/\TmR w (G'.F M.A) σ'.v (b8 M σ' []) G' t (a.eval x'):=by
  rintro l σ2 h3 rfl rfl;obtain⟨xs,G1,hg,hsh,hok,hone⟩:=ud hI ht h3;obtain⟨G2,hg2,himm⟩:=hg.1.dropImm (oo hok);refine⟨G2,hg.trans hg2,?_⟩;have hlen:=hg.1.hand;rcases hsh with ⟨e1,e2⟩ | ⟨e1,y,e2,e3⟩
  ·rw[e1,e2];simp only[jl,if_true];refine .agg (by simp[hlen]) λj hj=>?_
   have hj':j < l.1.length:=by simpa using hj
   have:=himm j hj';simp only[List.getElem_map]
   have e:xs.toArray.getD j undef=xs.getD j undef:=by simp[Array.getD_eq_getD_getElem?,oGD]
   rw[e];exact this.toTm
  ·rw[e1,e3];subst e2
   have hl1:l.1.length=1:=by simpa using hlen
   obtain⟨t1,ht1⟩:∃t1,l.1=[t1]:=List.length_eq_one_iff.1 hl1;have:=himm 0 (by omega);simp only[ht1,List.getElem_cons_zero,List.getD_cons_zero] at this;simp only[ht1,jl,List.map_cons,List.map_nil,List.headD_cons];exact this.toTm
 have keepit:t=t0->σ'=σ1->∃G',gH M w a.tmps σ1 [] G σ' [] [] G'/\TmR w (G'.F M.A) σ'.v (b8 M σ' []) G' t (a.eval x'):=by
  rintro rfl rfl;exact⟨G,gH.refl hI,ht⟩
 split at h2
 ·simp only[SP.run,oSJ,oPJ] at h2;exact keepit h2.1.symm h2.2.symm
 cases t0 with
 | ip cs=>
  simp only[SP.run,oSJ,oPJ] at h2;exact keepit h2.1.symm h2.2.symm
 | fn f cap=>
  simp only[SP.run,oSJ,oPJ] at h2;exact keepit h2.1.symm h2.2.symm
 | ptr p vs=>
  simp only[SP.run,oSJ,oPJ] at h2;exact keepit h2.1.symm h2.2.symm
 | _=>
  simp only at h2;obtain⟨l,σ2,h3,h4⟩:=bG h2;simp only[SP.run,oSJ,oPJ] at h4;exact gen l σ2 h3 h4.1.symm h4.2.symm
theorem u7:∀{l:List (Option Nat×Opd)}{l':List Operand}{ts':List TV}{σ σ':St}{G:Gh},Inv M σ [] [] a.tmps w G->l'.length=l.length->(∀j (h:j < l.length) (h':j < l'.length),bJ l'[j]=some l[j].2)->(argVs l).run σ=some (ts',σ') ->
 ∃G',gH M w a.tmps σ [] G σ' [] [] G'/\ts'.length=l.length/\∀j (h:j < ts'.length) (h':j < l'.length),TmR w (G'.F M.A) σ'.v (b8 M σ' []) G' ts'[j] (a.eval l'[j]):=by
 intro l
 induction l with
 | nil=>
  intro l' ts' σ σ' G hI hl hc hr;simp only[argVs,SP.run,oSJ,oPJ] at hr;obtain⟨rfl,rfl⟩:=hr;exact⟨G,gH.refl hI,rfl,λj h=>by simp at h⟩
 | cons x l ih=>
  intro l' ts' σ σ' G hI hl hc hr
  cases l' with
  | nil=>simp at hl
  | cons x' l'=>
   simp only[argVs] at hr;obtain⟨t,σ1,h1,h2⟩:=bG hr;obtain⟨r,σ2,h3,h4⟩:=bG h2;simp only[SP.run,oSJ,oPJ] at h4;obtain⟨rfl,rfl⟩:=h4;obtain⟨G1,hg1,ht1⟩:=Cn hI (by have:=hc 0 (by simp) (by simp);simpa using this) h1;obtain⟨G2,hg2,e,hts⟩:=ih (l':=l') hg1.1 (by simpa using hl) (λj h h'=>by have:=hc (j+1) (by simpa using h) (by simpa using h');simpa using this) h3;refine⟨G2,hg1.trans hg2,by simp[e],λj h h'=>?_⟩
   cases j with
   | zero=>exact hg2.tm ht1
   | succ j=>exact hts j (by simpa using h) (by simpa using h')
end
section
variable {P:Program} {M:Fm} {σ σ':St} {H:List TV} {xs:List Value} {ts:Array Value} {w:World} {G:Gh} {a:Act} {o:Oper}
theorem vh{t t' t2:TV}{p:bQ}{y:TV×St}(hp:(peek1 p t).run σ=some (t',σ')) (hr:(take1 true t').run σ=some y):fe y.2.v p.root p.off p.hops.length=fe σ.v p.root p.off p.hops.length:=by
 cases t with
 | v x=>
  simp only[peek1,SP.run,oSJ,oPJ] at hp;obtain⟨rfl,rfl⟩:=hp;simp only[take1,SP.run,oSJ] at hr;rw[<- hr]
 | sl c=>
  simp only[peek1,SP.run,oSJ,oPJ] at hp;obtain⟨rfl,rfl⟩:=hp;simp only[take1,SP.run,oSJ] at hr;rw[<- hr]
 | ow c=>
  simp only[peek1] at hp;obtain⟨vs,σ1,h1,h2⟩:=bG hp;simp only[SP.run,oSJ,oPJ] at h2;obtain⟨rfl,_⟩:=h2;simp only[take1] at hr;obtain⟨_,σ2,h3,h4⟩:=bG hr;have e1:σ2=σ:=(bV h3).1;subst e1;simp only[SP.run] at h4;split at h4
  ·simp only[if_true] at h4;obtain⟨l,hl,ho,h5⟩:=b7 h4;simp only[SP.run,oSJ] at h5;rw[fO]
   have hv:∀q,y.2.v q=σ2.v q+if (p.root,p.off,p.hops.length+1)=q then 1 else 0:=λq=>by rw[<- h5];exact dJ σ2.vr _ q
   refine⟨by rw[hv];simp,λd hd=>?_⟩;rw[hv,oIN]
   ·omega
   ·intro e
    injection e with _ e
    injection e with _ e
    omega
  ·simp[SP.run] at h4
 | _=>simp[peek1,SP.run] at hp
theorem Am:∀{n:Nat}{p:bQ}{ad:Addr}{l:List TV}{σ σ':St}{H:List TV}{xs:List Value}{G:Gh},Inv M σ H xs ts w G->p.root≠1->G.addr w p=some ad->(oW p n).run σ=some (l,σ') ->
 l.length=n/\∃us G',gH M w ts σ H G σ' (H++l) (xs++us) G'/\us.length=n/\(∀j (h:j < us.length),w.cell? ⟨ad.block,ad.off+j,none⟩=some us[j]/\w.frozen? ⟨ad.block,ad.off+j,none⟩=false)/\∀j (h:j < l.length),cJ l[j]=true\/g9 l[j]=true:=by
 intro n
 induction n with
 | zero=>
  intro p ad l σ σ' H xs G hI h1 ha hr;simp only[oW,SP.run,oSJ,oPJ] at hr;obtain⟨rfl,rfl⟩:=hr;exact⟨rfl,[],G,by simpa using gH.refl hI,rfl,λj h=>by simp at h,λj h=>by simp at h⟩
 | succ n ih=>
  intro p ad l σ σ' H xs G hI h1 ha hr;simp only[oW] at hr;obtain⟨t,σ1,h2,h3⟩:=bG hr;obtain⟨e1,hg⟩:=cQ h2;have e1:σ1=σ:=e1;subst e1;obtain⟨t',σ2,h4,h5⟩:=bG h3;have hd:=jZ h4;obtain⟨hB,u,fp,hcu,hown,hv⟩:=hI.named h1 ha hg hd;obtain⟨rfl,ht'⟩:=k9 hI h1 hg hown hv h4;obtain⟨t2,σ3,h6,h7⟩:=bG h5;have hvers:=vh (t2:=t2) h4 h6;obtain⟨G1,hg1,hone⟩:=eD hI ht' h6
  have hgE:bZ (b8 M σ2 H p.root p.off) p.hops=some t:=by rw[b6 (by exact h1)];exact hg
  obtain⟨u0,fp1,hsp,hcu0,hfr,_⟩:=hI.core.set p hB hgE;obtain⟨_,ha1,_⟩:=hg1.2.2.1.ptr p ad t h1 hvers ha hgE
  have had:(⟨ad.block,ad.off+0,none⟩:Addr)=ad:=by obtain⟨b,o,s⟩:=ad;simp only at hsp;subst hsp;rfl
  have hcell:=fP h6
  cases n with
  | zero=>
   simp only[SP.run,oSJ,oPJ] at h7;obtain⟨rfl,rfl⟩:=h7;refine⟨rfl,[u],G1,hg1,rfl,λj h=>?_,λj h=>?_⟩
   ·obtain rfl:j=0:=by simp at h;omega
    rw[had];exact⟨hcu,hfr⟩
   ·obtain rfl:j=0:=by simp at h;omega
    exact hcell
  | succ n=>
   simp only at h7;split at h7
   ·obtain⟨r,σ4,h8,h9⟩:=bG h7;simp only[SP.run,oSJ,oPJ] at h9;obtain⟨rfl,rfl⟩:=h9;obtain⟨e2,us,G2,hg2,e3,e4,e5⟩:=ih hg1.1 (by rw[cL];exact h1) (iD 1 ha1) h8;refine⟨by simp[e2],u :: us,G2,by simpa using hg1.trans hg2,by simp[e3],λj h=>?_,λj h=>?_⟩
    ·cases j with
     | zero=>rw[had];exact⟨hcu,hfr⟩
     | succ j=>
      have:=e4 j (by simpa using h);simp only[List.getElem_cons_succ];rw[show ad.off+(j+1)=ad.off+1+j by omega];exact this
    ·cases j with
     | zero=>exact hcell
     | succ j=>exact e5 j (by simpa using h)
   ·simp[SP.run] at h7
theorem wg{r o:Nat}{c:List (List TV)}{l:List TV}(hc:σ.c r o=.ow c) (h:(oW ⟨r,o,[]⟩ 1).run σ=some (l,σ')):l=[.ow c]:=by
 simp only[oW] at h;obtain⟨t,σ1,h1,h2⟩:=bG h;obtain⟨e1,hg⟩:=cQ h1;have e1:σ1=σ:=e1;subst e1;simp only[hc,bZ,oSJ] at hg;subst hg;obtain⟨t',σ2,h3,h4⟩:=bG h2;simp only[peek1] at h3;obtain⟨vs,σ3,h5,h6⟩:=bG h3;simp only[SP.run,oSJ,oPJ] at h6;obtain⟨rfl,rfl⟩:=h6;rw[nc] at h5
 injection h5 with h5
 injection h5 with _ h5
 subst h5;obtain⟨t2,σ4,h7,h8⟩:=bG h4;simp only[SP.run,oSJ,oPJ] at h8;rw[<- h8.1];simp only[take1] at h7;obtain⟨_,σ5,h9,h10⟩:=bG h7;have e2:σ5=σ1:=(bV h9).1;subst e2;simp only[SP.run,hc,bZ,if_true] at h10;split at h10
 ·split at h10
  ·injection h10 with h10
   injection h10 with h10 _
   rw[<- h10]
  ·cases h10
 ·cases h10
theorem xE(hI:Inv M σ H xs ts w G) {p:bQ}(h:(rooted p).run σ=some ((),σ')):σ'=σ/\(p.hops≠[]->∃b o n,G.β p.root=some (b,o,n)):=by
 obtain⟨r,o,hops⟩:=p
 cases hops with
 | nil=>
  simp only[rooted,SP.run,oSJ,oPJ,true_and] at h;exact⟨h.symm,λe=>absurd rfl e⟩
 | cons hp hs=>
  simp only[rooted,SP.run] at h;have ht:=hI.tmr ((r - 2) / 2)
  cases hq:σ.t ((r - 2) / 2) with
  | ptr q ws=>
   rw[hq] at h ht;simp only at h;split at h
   ·rename_i hc;simp only[oBA,beq_iff_eq,List.isEmpty_iff] at hc;have e1:σ'=σ:=(bV h).1;have e2:=(bV h).2;refine⟨e1,λ_=>?_⟩;generalize ts.getD ((r - 2) / 2) undef=z at ht
    cases ht with
    | ptr V0 h0 hv hok=>
     obtain⟨_,ad,t,ha,_,_⟩:=hok (by rw[hc.2];exact e2);unfold Gh.addr at ha;rw[hc.2] at ha;simp only at ha;show ∃b o n,G.β r=some (b,o,n);rw[<- hc.1]
     cases hb:G.β q.root with
     | none=>rw[hb] at ha;simp at ha
     | some y=>obtain⟨b,o,n⟩:=y;exact⟨b,o,n,rfl⟩
   ·simp[SP.run] at h
  | _=>rw[hq] at h;simp[SP.run] at h
inductive ml (w:World):Nat->List TV->List Value->List (GP×Addr)->List Value->Prop
 | nil (i:Nat):ml w i [] [] [] []
 | ptr {i:Nat} {p:bQ} {hp:List Hop} {vs vs0:List Nat} {cells:List TV} {ad ad0:Addr} {u:List Value} {ts:List TV} {xs:List Value} {K:List (GP×Addr)} {us:List Value} (hr:p.root≠1) (hb:p.hops=[]) (hs:ad.spot=none) (h0:hp=[]->ad0=ad)
  (hh:hp≠[]->ci w ((w.cell? ⟨ad.block,ad.off,none⟩).getD undef) hp=some ad0/\∃t,bZ (cells.getD 0 .dead) hp=some t) (hu:u.length=cells.length)
  (hc:∀j (h:j < u.length),w.cell? ⟨ad.block,ad.off+j,none⟩=some u[j]/\w.frozen? ⟨ad.block,ad.off+j,none⟩=false) (hok:∀j (h:j < cells.length),cJ cells[j]=true\/g9 cells[j]=true)
  (h:ml w (i+1) ts xs K us):ml w i (.ptr ⟨p.root,p.off,hp⟩ vs0 :: ts) (.pointer (some ad0) :: xs) ((⟨i,p,vs,cells⟩,ad) :: K) (u++us)
 | arg {i:Nat} {t:TV} {x:Value} {ts:List TV} {xs:List Value} {K:List (GP×Addr)} {us:List Value} (ha:kg t=true) (h:ml w (i+1) ts xs K us):ml w i (t :: ts) (x :: xs) K us
 | own {i:Nat} {p:bQ} {vs:List Nat} {x:Value} {ts:List TV} {xs:List Value} {K:List (GP×Addr)} {us:List Value} (h:ml w (i+1) ts xs K us):ml w i (.pk p vs :: ts) (x :: xs) K us
inductive zi:Nat->List (Option Nat×TV)->List Value->List (Nat×TV)->List Value->Prop
 | nil (i:Nat):zi i [] [] [] []
 | own {i:Nat} {p:bQ} {vs:List Nat} {l:List (Option Nat×TV)} {x:Value} {xs:List Value} {c:List (List TV)} {ow:List (Nat×TV)} {zs:List Value} (h:zi (i+1) l xs ow zs):zi i ((some 0,.pk p vs) :: l) (x :: xs) ((i,.ow c) :: ow) (x :: zs)
 | skip {i:Nat} {y:Option Nat×TV} {l:List (Option Nat×TV)} {x:Value} {xs:List Value} {ow:List (Nat×TV)} {zs:List Value} (h:zi (i+1) l xs ow zs):zi i (y :: l) (x :: xs) ow zs
theorem pS{i:Nat}{y:Option Nat×TV}{l:List (Option Nat×TV)}(hn:∀p vs,y≠(some 0,.pk p vs)):takeOwns i (y :: l)=takeOwns (i+1) l:=by
 obtain⟨n,t⟩:=y
 cases t with
 | pk p vs=>
  cases n with
  | none=>rfl
  | some n=>
   cases n with
   | zero=>exact absurd rfl (hn p vs)
   | succ n=>rfl
 | _=>cases n with
  | none=>rfl
  | some n=>cases n<;>rfl
theorem sU:∀{l:List (Option Nat×TV)}{as:List Value}{i:Nat}{ow:List (Nat×TV)}{σ σ':St}{H:List TV}{xs:List Value}{G:Gh},Inv M σ H xs ts w G->as.length=l.length->(∀j (h:j < l.length) (h':j < as.length),TmR w (G.F M.A) σ.v (b8 M σ H) G l[j].2 as[j])->(takeOwns i l).run σ=some (ow,σ') ->
 ∃zs G',gH M w ts σ H G σ' (H++ow.map (·.2)) (xs++zs) G'/\zi i l as ow zs/\∀(j:Nat) (p:bQ) (vs:List Nat),l[j]?=some (some 0,TV.pk p vs)->∃x∈ow,x.1=i+j:=by
 intro l
 induction l with
 | nil=>
  intro as i ow σ σ' H xs G hI hl _ hr;simp only[takeOwns,SP.run,oSJ,oPJ] at hr;obtain⟨rfl,rfl⟩:=hr;have:as=[]:=oEN (by simpa using hl);subst this;exact⟨[],G,by simpa using gH.refl hI,.nil i,λj p vs h=>by simp at h⟩
 | cons y l ih=>
  intro as i ow σ σ' H xs G hI hl ht hr
  cases as with
  | nil=>simp at hl
  | cons x as=>
   have ht0:=ht 0 (by simp) (by simp);simp only[List.getElem_cons_zero] at ht0;by_cases hp:∃p vs,y=(some 0,.pk p vs)
   ·obtain⟨p,vs,rfl⟩:=hp;simp only[takeOwns] at hr;obtain⟨t,σ1,h1,h2⟩:=bG hr;split at h2
    case isFalse=>simp[SP.run] at h2
    rename_i how;obtain⟨q,σ2,h3,h4⟩:=bG h2;simp only[SP.run,oSJ,oPJ] at h4;obtain⟨rfl,rfl⟩:=h4
    obtain⟨c,rfl⟩:∃c,t=.ow c:=by cases t<;>simp[g9] at how;exact⟨_,rfl⟩
    obtain⟨G1,hg1,_⟩:=eD hI ht0 h1;obtain⟨zs,G2,hg2,k1,k2⟩:=ih (as:=as) hg1.1 (by simpa using hl) (λj h h'=>hg1.tm (by have:=ht (j+1) (by simpa using h) (by simpa using h');simpa only [List.getElem_cons_succ] using this)) h3;refine⟨x :: zs,G2,by simpa [List.append_assoc] using hg1.trans hg2,.own k1,λj p vs h=>?_⟩
    cases j with
    | zero=>exact⟨_,List.mem_cons_self,rfl⟩
    | succ j=>
     obtain⟨z,h5,h6⟩:=k2 j p vs (by simpa using h);exact⟨z,List.mem_cons_of_mem _ h5,by omega⟩
   ·have hn:∀p vs,y≠(some 0,.pk p vs):=λp vs e=>hp ⟨p,vs,e⟩;rw[pS hn] at hr;obtain⟨zs,G2,hg2,k1,k2⟩:=ih (as:=as) hI (by simpa using hl) (λj h h'=>by have:=ht (j+1) (by simpa using h) (by simpa using h');simpa only [List.getElem_cons_succ] using this) hr;refine⟨zs,G2,hg2,.skip k1,λj p vs h=>?_⟩
    cases j with
    | zero=>exact absurd (by simpa using h) (hn p vs)
    | succ j=>
     obtain⟨z,h5,h6⟩:=k2 j p vs (by simpa using h);exact⟨z,h5,by omega⟩
theorem Ak:∀{l:List (Option Nat×TV)}{i:Nat}{q:List GP}{σ σ':St},(grabs i l).run σ=some (q,σ')->∀(j:Nat) (n:Option Nat) (p:bQ) (vs:List Nat),l[j]?=some (n,TV.pk p vs)->n=some 0:=by
 intro l
 induction l with
 | nil=>intro i q σ σ' _ j n p vs h;simp at h
 | cons y l ih=>
  intro i q σ σ' hr j n p vs h;obtain⟨m,t⟩:=y
  cases j with
  | zero=>
   simp only[List.getElem?_cons_zero,oSJ,oPJ] at h;obtain⟨rfl,rfl⟩:=h
   cases m with
   | none=>simp[grabs,kg,SP.run] at hr
   | some m=>
    cases m with
    | zero=>rfl
    | succ m=>simp[grabs,kg,SP.run] at hr
  | succ j=>
   have hj:l[j]?=some (n,.pk p vs):=by simpa using h
   have step:∀{σ1 σ2:St} {q1:List GP},(grabs (i+1) l).run σ1=some (q1,σ2)->n=some 0:=λh1=>ih h1 j n p vs hj
   have arg:((if kg t then grabs (i+1) l else .fail:SP (List GP))).run σ=some (q,σ')->n=some 0:=by
    intro h1;split at h1
    ·exact step h1
    ·simp[SP.run] at h1
   cases t with
   | ptr p2 vs2=>
    cases m with
    | none=>exact arg hr
    | some m=>
     simp only[grabs] at hr;obtain⟨_,σ1,h1,h2⟩:=bG hr;obtain⟨_,σ0,_,h2⟩:=bG h2;obtain⟨cells,σ2,h3,h4⟩:=bG h2;obtain⟨q1,σ3,h5,h6⟩:=bG h4;exact step h5
   | pk p2 vs2=>
    cases m with
    | none=>exact arg hr
    | some m=>
     cases m with
     | zero=>exact step hr
     | succ m=>exact arg hr
   | _=>cases m with
    | none=>exact arg hr
    | some m=>cases m<;>exact arg hr
theorem Al:∀{l:List (Option Nat×TV)}{as:List Value}{i:Nat}{q:List GP}{σ σ':St}{H:List TV}{xs:List Value}{G:Gh},Inv M σ H xs ts w G->as.length=l.length->(∀j (h:j < l.length) (h':j < as.length),TmR w (G.F M.A) σ.v (b8 M σ H) G l[j].2 as[j])->(grabs i l).run σ=some (q,σ') ->
 ∃us G' K,gH M w ts σ H G σ' (H++q.flatMap (·.cells)) (xs++us) G'/\K.map (·.1)=q/\ml w i (l.map (·.2)) as K us/\∀x∈K,TmR w (G'.F M.A) σ'.v (b8 M σ' (H++q.flatMap (·.cells))) G' (.ptr x.1.p x.1.vs) (.pointer (some x.2)):=by
 intro l
 induction l with
 | nil=>
  intro as i q σ σ' H xs G hI hl _ hr;simp only[grabs,SP.run,oSJ,oPJ] at hr;obtain⟨rfl,rfl⟩:=hr;have:as=[]:=oEN (by simpa using hl);subst this;exact⟨[],G,[],by simpa using gH.refl hI,rfl,.nil i,λx hx=>by simp at hx⟩
 | cons x l ih=>
  intro as i q σ σ' H xs G hI hl ht hr
  cases as with
  | nil=>simp at hl
  | cons y as=>
   obtain⟨n,t⟩:=x;have ht0:=ht 0 (by simp) (by simp);simp only[List.getElem_cons_zero] at ht0
   have hrest:∀{σ1:St} {H1:List TV} {xs1:List Value} {G1:Gh},gH M w ts σ H G σ1 H1 xs1 G1->∀j (h:j < l.length) (h':j < as.length),TmR w (G1.F M.A) σ1.v (b8 M σ1 H1) G1 l[j].2 as[j]:=λhg j h h'=>
    hg.tm (by have:=ht (j+1) (by simpa using h) (by simpa using h');simpa only [List.getElem_cons_succ] using this)
   have other:(∀p vs,t≠.ptr p vs)->(∀p vs,(n,t)≠(some 0,.pk p vs))->∃us G' K,gH M w ts σ H G σ' (H++q.flatMap (·.cells)) (xs++us) G'/\K.map (·.1)=q/\ml w i (((n,t) :: l).map (·.2)) (y :: as) K us/\∀x∈K,TmR w (G'.F M.A) σ'.v (b8 M σ' (H++q.flatMap (·.cells))) G' (.ptr x.1.p x.1.vs) (.pointer (some x.2)):=by
    intro hne hne2
    have hr':(if kg t then grabs (i+1) l else .fail:SP (List GP)).run σ=some (q,σ'):=by
     cases n with
     | none=>cases t<;>exact hr
     | some n=>cases n<;>cases t<;>first | exact absurd rfl (hne _ _) | exact absurd rfl (hne2 _ _) | exact hr
    split at hr'
    ·rename_i harg;obtain⟨us,G',K,e1,e2,e3,e4⟩:=ih (as:=as) hI (by simpa using hl) (hrest (gH.refl hI)) hr';exact⟨us,G',K,e1,e2,.arg harg e3,e4⟩
    ·simp[SP.run] at hr'
   by_cases hp:∃p vs,t=.ptr p vs
   ·obtain⟨p,vs,rfl⟩:=hp
    cases n with
    | none=>simp[grabs,kg,SP.run] at hr
    | some n=>
     simp only[grabs] at hr;obtain⟨_,σ1,h1,h2⟩:=bG hr;have e1:σ1=σ:=(bV h1).1;have e2:=(bV h1).2;subst e1;obtain⟨_,σr,hR,h2'⟩:=bG h2;obtain⟨rfl,hbox⟩:=xE hI hR;obtain⟨cells,σ2,h3,h4⟩:=bG h2';obtain⟨q1,σ3,h5,h6⟩:=bG h4;simp only[SP.run,oSJ,oPJ] at h6;obtain⟨rfl,rfl⟩:=h6;generalize hz:y=z at ht0
     cases ht0 with
     | ptr V0 h0 hv h=>
      obtain⟨hr1,ad0,t0,ha,rfl,hget⟩:=h e2;obtain⟨r,o,hops⟩:=p
      have hab:∃ad,G.addr w (⟨r,o,[]⟩:bQ)=some ad/\(hops=[]->ad0=ad)/\(hops≠[]->ci w ((w.cell? ⟨ad.block,ad.off,none⟩).getD undef) hops=some ad0):=by
       cases hops with
       | nil=>exact⟨ad0,ha,λ_=>rfl,λe=>absurd rfl e⟩
       | cons hp1 hs=>
        obtain⟨b,o0,n0,hb⟩:=hbox (by simp);refine⟨⟨b,o0+o,none⟩,by simp only[Gh.addr];rw[hb],λe=>by simp at e,λ_=>?_⟩;have ha':ci w (G.val w r o) (hp1 :: hs)=some ad0:=ha;unfold Gh.val at ha';rw[hb] at ha';exact ha'
      obtain⟨ad,hba,hb0,hbh⟩:=hab;have hrb:(⟨r,o,hops⟩:bQ).base.root≠1:=hr1;obtain⟨k1,u,G1,hg1,k2,k3,k4⟩:=Am (p:=(⟨r,o,hops⟩:bQ).base) hI hrb hba h3;obtain⟨us,G2,K,hg2,k5,k6,k7⟩:=ih (as:=as) hg1.1 (by simpa using hl) (hrest hg1) h5
      have htm:TmR w (G.F M.A) σr.v (b8 M σr H) G (.ptr (⟨r,o,hops⟩:bQ).base (vs.take 1)) (.pointer (some ad)):=
       .ptr V0 h0 (by rw[hv];simp[fe,bQ.base]) λ_=>⟨hr1,ad,_,hba,rfl,rfl⟩
      refine⟨u++us,G2,(⟨i,(⟨r,o,hops⟩:bQ).base,vs.take 1,cells⟩,ad) :: K,by simpa [List.append_assoc] using hg1.trans hg2,by simp[k5],.ptr (p:=(⟨r,o,hops⟩:bQ).base) (hp:=hops) hr1 rfl (gj hba) hb0 (λhne=>⟨hbh hne,?_⟩) (by omega) k3 k4 k6,λx hx=>?_⟩
      ·have hget':bZ (σr.c r o) hops=some t0:=by
        have:=hget;rw[b6 (by exact hr1)] at this;exact this
       cases hops with
       | nil=>exact absurd rfl hne
       | cons h1 hs=>
        cases hc:σr.c r o with
        | ow c=>
         have:=wg hc h3;rw[this];rw[hc] at hget';exact⟨t0,hget'⟩
        | _=>rw[hc] at hget';simp[bZ] at hget'
      ·have e3:H++(({ i:=i,p:=(⟨r,o,hops⟩:bQ).base,vs:=vs.take 1,cells:=cells }:GP) :: q1).flatMap (·.cells)=H++cells++q1.flatMap (·.cells):=by simp[List.append_assoc]
       rw[e3];rcases List.mem_cons.1 hx with rfl | hx
       ·exact hg2.tm (hg1.tm htm)
       ·exact k7 x hx
   ·by_cases hw:∃p vs,(n,t)=(some 0,.pk p vs)
    ·obtain⟨p,vs,hw⟩:=hw
     injection hw with h1 h2
     subst h1;subst h2;have hr':(grabs (i+1) l).run σ=some (q,σ'):=hr;obtain⟨us,G',K,e1,e2,e3,e4⟩:=ih (as:=as) hI (by simpa using hl) (hrest (gH.refl hI)) hr';exact⟨us,G',K,e1,e2,.own e3,e4⟩
    ·exact other (λp vs e=>hp ⟨p,vs,e⟩) λp vs e=>hw ⟨p,vs,e⟩
theorem sI{α:Type}:∀{l:List (Nat×α)}{r:Nat}{x:α},ca l r=some x->dk l r x=l:=by
 intro l
 induction l with
 | nil=>intro r x h;simp[ca] at h
 | cons y l ih=>
  intro r x h;obtain⟨k,v⟩:=y;simp only[ca] at h;simp only[dk];split
  ·rename_i e;rw[oIP e] at h
   injection h with h
   rw[h,e]
  ·rename_i e;rw[oIN e] at h;rw[ih h]
theorem zk{p:bQ}(hr:(touch p).run σ=some ((),σ')):σ'=σ/\∃l,ca σ.ce p.root=some l/\p.off < l.length:=by
 simp only[touch,SP.run] at hr;obtain⟨l,hl,ho,h2⟩:=b7 (σ:=σ) (k:=.ret ()) (t:=σ.c p.root p.off) (by simpa only [SP.run] using hr);simp only[SP.run,oSJ,oPJ,true_and] at h2;refine⟨?_,l,hl,ho⟩;rw[<- h2]
 have e:l.set p.off (σ.c p.root p.off)=l:=by
  have:σ.c p.root p.off=l[p.off]:=by simp[St.c,hl,ho]
  rw[this];exact List.set_getElem_self ho
 rw[e,sI hl]
theorem zT(hI:Inv M σ H xs ts w G):∀{q:List GP}{σ':St},(rechk q).run σ=some ((),σ')->σ'=σ/\∀g∈q,∀x,TmR w (G.F M.A) σ.v (b8 M σ H) G (.ptr g.p g.vs) x->g.p.root≠1/\∃ad,x=.pointer (some ad)/\G.addr w g.p=some ad/\g.vs=fe σ.v g.p.root g.p.off g.p.hops.length/\(∃t,bZ (b8 M σ H g.p.root g.p.off) g.p.hops=some t)/\((∃o n,G.β g.p.root=some (ad.block,o,n))\/G.φ g.p.root g.p.off ad.block):=by
 intro q
 induction q with
 | nil=>
  intro σ' hr;simp only[rechk,SP.run,oSJ,oPJ,true_and] at hr;exact⟨hr.symm,λg hg=>by simp at hg⟩
 | cons g q ih=>
  intro σ' hr;simp only[rechk] at hr;obtain⟨_,σ1,h1,h2⟩:=bG hr;have e1:σ1=σ:=(bV h1).1;have e2:=(bV h1).2;subst e1;obtain⟨_,σ2,h3,h4⟩:=bG h2;obtain⟨rfl,l,hl,ho⟩:=zk h3;obtain⟨rfl,hq⟩:=ih h4;refine⟨rfl,λg' hg' x hx=>?_⟩;rcases List.mem_cons.1 hg' with rfl | hg'
  ·cases hx with
   | ptr V0 h0 hv h=>
    obtain⟨hr1,ad,t0,ha,hx,hget⟩:=h e2
    have hB:G.addrB w g'.p=some ad:=by
     refine gN ha λhp b o0 n hb=>?_;have:=hI.shape _ _ _ _ hb l hl;omega
    refine⟨hr1,ad,hx,ha,e2,⟨t0,hget⟩,?_⟩;rcases hI.core.where_ g'.p hB hget with ⟨_,b,o0,n,h5,_,h6⟩ | ⟨_,h5⟩
    ·left;exact⟨o0,n,by rw[h5,h6]⟩
    ·right;exact h5
  ·exact hq g' hg' x hx
end
def prK:List (GP×Addr)->Nat->Option (Nat×Nat×Nat)
 | [],_=>none
 | (g,ad) :: K,r=>if 2*g.i+2=r then some (ad.block,ad.off,g.cells.length) else prK K r
def bsK:List (GP×Addr)->Nat->Nat
 | [],_=>0
 | (g,_) :: K,r=>if 2*g.i+2=r then 0 else g.cells.length+bsK K r
def ceK(K:List (GP×Addr)):List (Nat×List TV):=K.map λx=>(2*x.1.i+2,x.1.cells)
def ceO(ow:List (Nat×TV)):List (Nat×List TV):=ow.map λx=>(2*x.1+3,[x.2])
def owK:List (Nat×TV)->Nat->Option Nat
 | [],_=>none
 | (i,_) :: q,r=>if 2*i+3=r then some 0 else (owK q r).map (· + 1)
def fJ(K:List (GP×Addr)):List TV:=K.flatMap λx=>x.1.cells
section
theorem f8{K:List (GP×Addr)}{r b o n:Nat}(h:prK K r=some (b,o,n)):∃x∈K,r=2*x.1.i+2/\b=x.2.block/\o=x.2.off/\n=x.1.cells.length/\ca (ceK K) r=some x.1.cells/\∀j (_:j < x.1.cells.length),(fJ K)[bsK K r+j]?=x.1.cells[j]?:=by
 induction K with
 | nil=>simp[prK] at h
 | cons y K ih=>
  obtain⟨g,ad⟩:=y;simp only[prK] at h;split at h
  ·rename_i e
   injection h with h
   injection h with h1 h
   injection h with h2 h3
   refine⟨(g,ad),by simp,e.symm,h1.symm,h2.symm,h3.symm,by simp[ceK,ca,e],λj hj=>?_⟩;simp only[bsK,e,if_true,fJ,List.flatMap_cons,Nat.zero_add];exact List.getElem?_append_left hj
  ·rename_i e;obtain⟨x,h1,h2,h3,h4,h5,h6,h7⟩:=ih h;refine⟨x,by simp[h1],h2,h3,h4,h5,by simpa [ceK,ca,e] using h6,λj hj=>?_⟩;simp only[bsK,e,if_false,fJ,List.flatMap_cons];rw[List.getElem?_append_right (by omega)];rw[show g.cells.length+bsK K r+j - g.cells.length=bsK K r+j by omega];exact h7 j hj
theorem uZ{K:List (GP×Addr)}{r:Nat}{l:List TV}(h:ca (ceK K) r=some l):prK K r≠none:=by
 induction K with
 | nil=>simp[ceK,ca] at h
 | cons y K ih=>
  obtain⟨g,ad⟩:=y;simp only[ceK,List.map_cons,ca] at h;simp only[prK];split
  ·simp
  ·rename_i e;rw[oIN e] at h;exact ih h
theorem A4{K:List (GP×Addr)}:∀r b o n r' b' o' n',prK K r=some (b,o,n)->prK K r'=some (b',o',n')->∀j j',j < n->j' < n'->bsK K r+j=bsK K r'+j'->r=r':=by
 induction K with
 | nil=>intro r b o n r' b' o' n' h;simp[prK] at h
 | cons y K ih=>
  intro r b o n r' b' o' n' h h' j j' hj hj' e;obtain⟨g,ad⟩:=y;simp only[prK,bsK] at h h' e;by_cases e1:2*g.i+2=r<;>by_cases e2:2*g.i+2=r'
  ·omega
  ·rw[oIP e1] at h e;rw[oIN e2] at h' e
   have:n=g.cells.length:=by injection h with h;injection h with _ h;injection h with _ h;exact h.symm
   omega
  ·rw[oIN e1] at h e;rw[oIP e2] at h' e
   have:n'=g.cells.length:=by injection h' with h;injection h with _ h;injection h with _ h;exact h.symm
   omega
  ·simp only[e1,e2,if_false] at h h' e;exact ih _ _ _ _ _ _ _ _ h h' j j' hj hj' (by omega)
theorem ml.slot{w:World}{i:Nat}{ts:List TV}{as us:List Value}{K:List (GP×Addr)}(h:ml w i ts as K us):∀x∈K,i<=x.1.i/\x.1.p.hops=[]/\∃p vs,ts[x.1.i - i]?=some (.ptr p vs):=by
 induction h with
 | nil=>intro x hx;simp at hx
 | @ptr i p hp vs vs0 cells ad ad0 u ts xs K us hr hb hs h0 hh hu hc hok h ih=>
  intro x hx;rcases List.mem_cons.1 hx with rfl | hx
  ·exact⟨Nat.le_refl _,hb,_,_,by simp;exact⟨rfl,rfl⟩⟩
  ·obtain⟨h1,h3,p,vs,h2⟩:=ih x hx;refine⟨by omega,h3,p,vs,?_⟩;rw[show x.1.i - i=(x.1.i - (i+1))+1 by omega];simpa using h2
 | @arg i t x0 ts xs K us ha h ih=>
  intro x hx;obtain⟨h1,h3,p,vs,h2⟩:=ih x hx;refine⟨by omega,h3,p,vs,?_⟩;rw[show x.1.i - i=(x.1.i - (i+1))+1 by omega];simpa using h2
 | @own i p0 vs0 x0 ts xs K us h ih=>
  intro x hx;obtain⟨h1,h3,p,vs,h2⟩:=ih x hx;refine⟨by omega,h3,p,vs,?_⟩;rw[show x.1.i - i=(x.1.i - (i+1))+1 by omega];simpa using h2
theorem ml.len{w:World}{i:Nat}{ts:List TV}{as us:List Value}{K:List (GP×Addr)}(h:ml w i ts as K us):ts.length=as.length/\us.length=(fJ K).length:=by
 induction h with
 | nil=>exact⟨rfl,rfl⟩
 | ptr hr hb hs h0 hh hu hc hok h ih=>exact⟨by simp[ih.1],by simp[fJ,hu] at ih ⊢;exact ih.2⟩
 | arg ha h ih=>exact⟨by simp[ih.1],ih.2⟩
 | own h ih=>exact⟨by simp[ih.1],ih.2⟩
theorem ml.ok{w:World}{i:Nat}{ts:List TV}{as us:List Value}{K:List (GP×Addr)}(h:ml w i ts as K us):∀x∈K,∀j (h:j < x.1.cells.length),cJ x.1.cells[j]=true\/g9 x.1.cells[j]=true:=by
 induction h with
 | nil=>intro x hx;simp at hx
 | ptr hr hb hs h0 hh hu hc hok h ih=>
  intro x hx;rcases List.mem_cons.1 hx with rfl | hx
  ·exact hok
  ·exact ih x hx
 | arg ha h ih=>exact ih
 | own h ih=>exact ih
theorem ml.here{w:World}{i:Nat}{ts:List TV}{as us:List Value}{K:List (GP×Addr)}(h:ml w i ts as K us):∀r b o n,prK K r=some (b,o,n)->∀j,j < n->w.cell? ⟨b,o+j,none⟩=some (us.getD (bsK K r+j) undef)/\w.frozen? ⟨b,o+j,none⟩=false:=by
 induction h with
 | nil=>intro r b o n h;simp[prK] at h
 | @ptr i p hp0 vs vs0 cells ad ad0 u ts xs K us hr hb hs h0 hh hu hc hok h ih=>
  intro r b o n hp j hj;simp only[prK] at hp;simp only[bsK];split at hp
  ·rename_i e
   injection hp with hp
   injection hp with h1 hp
   injection hp with h2 h3
   subst h1;subst h2;subst h3;rw[oIP e,Nat.zero_add]
   have hju:j < u.length:=by omega
   have:=hc j hju;refine⟨?_,this.2⟩;rw[this.1,oGD,List.getElem?_append_left hju,oGE hju];rfl
  ·rename_i e;rw[oIN e];have:=ih r b o n hp j hj;refine⟨?_,this.2⟩;rw[this.1];simp only[oGD];rw[List.getElem?_append_right (by omega)];rw[show cells.length+bsK K r+j - u.length=bsK K r+j by omega]
 | arg ha h ih=>exact ih
 | own h ih=>exact ih
end
theorem l8{α:Type}{f:α->Nat}:∀{l:List α},ix (l.map f)=true->∀{x y:α},x∈l->y∈l->f x=f y->x=y:=by
 intro l
 induction l with
 | nil=>intro _ x y hx;simp at hx
 | cons z l ih=>
  intro h x y hx hy e;simp only[List.map_cons,ix,oBA,Bool.not_eq_true',List.contains_eq_mem,decide_eq_false_iff_not] at h;rcases List.mem_cons.1 hx with hx1 | hx1
  ·rcases List.mem_cons.1 hy with hy1 | hy1
   ·rw[hx1,hy1]
   ·exact absurd (by rw[<- hx1,e];exact List.mem_map_of_mem hy1) h.1
  ·rcases List.mem_cons.1 hy with hy1 | hy1
   ·exact absurd (by rw[<- hy1,<- e];exact List.mem_map_of_mem hx1) h.1
   ·exact ih h.2 hx1 hy1 e
section
variable {P:Program} {M:Fm} {σ σ':St} {H:List TV} {xs:List Value} {ts:Array Value} {w:World} {G:Gh} {a:Act} {o:Oper}
theorem jg{α:Type}:∀{a b:List (Nat×α)}{r:Nat},ca (a++b) r=match ca a r with | some x=>some x | none=>ca b r:=by
 intro a
 induction a with
 | nil=>intro b r;rfl
 | cons y a ih=>
  intro b r;obtain⟨k,v⟩:=y;simp only[List.cons_append,ca];split
  ·rfl
  ·exact ih
theorem la:∀{q:List (Nat×TV)}{r j:Nat},owK q r=some j->∃h:j < q.length,r=2*q[j].1+3/\ca (ceO q) r=some [q[j].2]:=by
 intro q
 induction q with
 | nil=>intro r j h;simp[owK] at h
 | cons y q ih=>
  intro r j h;obtain⟨i,t⟩:=y;simp only[owK] at h;split at h
  ·rename_i e
   injection h with h
   subst h;exact⟨by simp,e.symm,by simp[ceO,ca,e]⟩
  ·rename_i e
   cases hq:owK q r with
   | none=>simp[hq] at h
   | some k=>
    simp only[hq,oMS,oSJ] at h;subst h;obtain⟨h1,h2,h3⟩:=ih hq;refine⟨by simp;omega,by simpa using h2,?_⟩
    have:ca (ceO ((i,t) :: q)) r=ca (ceO q) r:=by simp[ceO,ca,e]
    rw[this];simpa using h3
theorem Ay:∀{q:List (Nat×TV)}{r:Nat}{l:List TV},ca (ceO q) r=some l->owK q r≠none:=by
 intro q
 induction q with
 | nil=>intro r l h;simp[ceO,ca] at h
 | cons y q ih=>
  intro r l h;obtain⟨i,t⟩:=y;simp only[owK];split
  ·simp
  ·rename_i e
   have:ca (ceO ((i,t) :: q)) r=ca (ceO q) r:=by simp[ceO,ca,e]
   rw[this] at h;have:=ih h
   cases hq:owK q r with
   | none=>exact absurd hq this
   | some k=>simp
theorem zi.facts{i:Nat}{l:List (Option Nat×TV)}{as:List Value}{ow:List (Nat×TV)}{zs:List Value}(h:zi i l as ow zs):zs.length=ow.length/\(∀x∈ow,i<=x.1/\∃c,x.2=.ow c)/\∀x∈ow,∃k,owK ow (2*x.1+3)=some k/\as[x.1 - i]?=zs[k]?:=by
 induction h with
 | nil=>exact⟨rfl,λx h=>by simp at h,λx h=>by simp at h⟩
 | @own i p vs l x xs c ow zs h ih=>
  obtain⟨h1,h2,h3⟩:=ih;refine⟨by simp[h1],λy hy=>?_,λy hy=>?_⟩
  ·rcases List.mem_cons.1 hy with rfl | hy
   ·exact⟨Nat.le_refl _,c,rfl⟩
   ·exact⟨by have:=(h2 y hy).1;omega,(h2 y hy).2⟩
  ·rcases List.mem_cons.1 hy with rfl | hy
   ·exact⟨0,by simp[owK],by simp⟩
   ·obtain⟨k,h4,h5⟩:=h3 y hy;have hle:=(h2 y hy).1;refine⟨k+1,by simp only[owK];rw[oIN (by omega),h4];rfl,?_⟩;rw[show y.1 - i=(y.1 - (i+1))+1 by omega];simpa using h5
 | @skip i y0 l x xs ow zs h ih=>
  obtain⟨h1,h2,h3⟩:=ih;refine⟨h1,λy hy=>⟨by have:=(h2 y hy).1;omega,(h2 y hy).2⟩,λy hy=>?_⟩;obtain⟨k,h4,h5⟩:=h3 y hy;have hle:=(h2 y hy).1;refine⟨k,h4,?_⟩;rw[show y.1 - i=(y.1 - (i+1))+1 by omega];simpa using h5
theorem ml.hands{vals:List TV}{as us:List Value}{K:List (GP×Addr)}{l:List (Option Nat×TV)}{ow:List (Nat×TV)}{zs:List Value}(hI:Inv M σ (ow.map (·.2)++fJ K) (zs++us) ts w G) (h:ml w 0 vals as K us) (ho:zi 0 l as ow zs) (hnd:ix ((K.map (·.1)).map (·.p.root))=true) (hpos:∀x∈K,0 < x.1.cells.length)
 (hwh:∀x∈K,x.1.p.root≠1/\((∃o n,G.β x.1.p.root=some (x.2.block,o,n))\/G.φ x.1.p.root x.1.p.off x.2.block)):wF (ow.map (·.2)++fJ K) (zs++us) w G M.A (prK K) (λr=>ow.length+bsK K r) (ceK K++ceO ow) (owK ow):=by
 obtain⟨hz,ho2,_⟩:=ho.facts
 have hodd:∀r,r % 2=1->ca (ceK K) r=none:=λr hr=>by
  cases hc:ca (ceK K) r with
  | none=>rfl
  | some l=>
   cases hp:prK K r with
   | none=>exact absurd hp (uZ hc)
   | some x=>obtain⟨b,o,n⟩:=x;obtain⟨x,_,h2,_⟩:=f8 hp;omega
 refine⟨λr b o n hp=>?_,λr b o n hp=>?_,λr l hl=>?_,λr j hj=>?_,λr j r' b o n hj hp j' hj'=>by have:=(la hj).1;omega,λr r' j hj hj'=>?_,λr b o n r' b' o' n' h1 h2 j j' hj hj' e=>A4 _ _ _ _ _ _ _ _ h1 h2 _ _ hj hj' (by omega),λr b o n r' o' n' h1 h2=>?_,λr b o n hp hF=>?_,λr b o n hp j hφ=>?_,λr b o n hp j hj=>?_⟩
 ·obtain⟨x,h1,h2,_,_,h5,_⟩:=f8 hp;exact⟨by omega,by rw[h5];exact hpos x h1⟩
 ·obtain⟨x,h1,h2,_,_,h5,h6,h7⟩:=f8 hp;refine⟨_,by rw[jg,h6],h5.symm,λj hj=>?_⟩;have:=h7 j hj;rw[oGE hj] at this;obtain⟨k1,k2⟩:=oGS this;refine⟨by simp;omega,?_,oo (h.ok x h1) j hj⟩;rw[List.getElem_append_right (by simp;omega)];rw[<- k2];congr 1;simp;omega
 ·rw[jg] at hl
  cases hc:ca (ceK K) r with
  | some l2=>exact .inl (uZ hc)
  | none=>rw[hc] at hl;exact .inr (Ay hl)
 ·obtain⟨h1,h2,h3⟩:=la hj;obtain⟨_,c,hc⟩:=ho2 ow[j] (List.getElem_mem h1);refine⟨by omega,by omega,c,by simp;omega,?_,?_⟩
  ·rw[jg,hodd r (by omega)];simp only;rw[h3,hc]
  ·rw[List.getElem_append_left (by simpa using h1)];simpa using hc
 ·obtain⟨_,h2,_⟩:=la hj;obtain⟨_,h3,_⟩:=la hj';omega
 ·obtain⟨x,x1,x2,x3,x4,x5,_⟩:=f8 h1;obtain⟨y,y1,y2,y3,y4,y5,_⟩:=f8 h2
  have hroot:x.1.p.root=y.1.p.root:=by
   rcases (hwh x x1).2 with ⟨o1,n1,hb1⟩ | hb1
   ·rcases (hwh y y1).2 with ⟨o2,n2,hb2⟩ | hb2
    ·rw[<- y3] at hb2;rw[<- x3] at hb1;exact hI.core.boxd _ _ _ _ _ _ _ hb1 hb2
    ·rw[<- y3] at hb2;rw[<- x3] at hb1;exact absurd hb2 (hI.core.boxf _ _ _ _ hb1 _ _)
   ·rcases (hwh y y1).2 with ⟨o2,n2,hb2⟩ | hb2
    ·rw[<- y3] at hb2;rw[<- x3] at hb1;exact absurd hb1 (hI.core.boxf _ _ _ _ hb2 _ _)
    ·rw[<- y3] at hb2;rw[<- x3] at hb1;exact (hI.core.dis _ _ _ _ _ hb1 hb2).1
  have hxy:x.1=y.1:=l8 hnd (List.mem_map_of_mem x1) (List.mem_map_of_mem y1) hroot;rw[x2,y2,hxy]
 ·obtain⟨x,x1,x2,x3,x4,x5,_⟩:=f8 hp;subst x3;rcases (hwh x x1).2 with ⟨o1,n1,hb1⟩ | hb1
  ·exact hF.2.2 _ _ _ _ hb1 rfl
  ·exact hF.2.1 _ _ hb1
 ·obtain⟨x,x1,x2,x3,x4,x5,_⟩:=f8 hp;subst x3;rcases (hwh x x1).2 with ⟨o1,n1,hb1⟩ | hb1
  ·exact hI.core.boxf _ _ _ _ hb1 _ _ hφ
  ·exact (hwh x x1).1 (hI.core.dis _ _ _ _ _ hb1 hφ).1
 ·have:=h.here _ _ _ _ hp j hj;refine⟨?_,this.2⟩;rw[this.1,oGD,oGD,List.getElem?_append_right (by omega)];rw[show ow.length+bsK K r+j - zs.length=bsK K r+j by omega]
theorem TmR.handed{F F':Nat->Prop}{V V':Vs}{C C':Cs}{G G':Gh}{t:TV}{x:Value}(h:TmR w F V C G t x) (ha:kg t=true) (hF:∀k,F k->F' k):TmR w F' V' C' G' t x:=by
 cases h with
 | v h=>exact .v h
 | sl h=>exact .sl (h.frame (λ_ _ _=>rfl) λk hk _=>hF k hk)
 | nil=>exact .nil
 | ip u hc hr=>exact .ip u (λj hj=>⟨hF _ (hc j hj).1,(hc j hj).2⟩) λj hj=>(hr j hj).frame (λ_ _ _=>rfl) λk hk _=>hF k hk
 | @agg l xs hl h=>
  refine .agg hl λj hj=>?_;simp only[kg,List.all_eq_true] at ha;have h1:=ha _ (List.getElem_mem hj);have h2:=h j hj;generalize l[j]=e at h1 h2;generalize xs.getD j undef=y at h2
  cases h2 with
  | v h=>exact .v h
  | sl h=>exact .sl (h.frame (λ_ _ _=>rfl) λk hk _=>hF k hk)
  | _=>simp at h1
 | @fn f l xs hl h=>
  cases l with
  | nil=>exact .fn hl λj hj=>by simp at hj
  | cons=>simp[kg] at ha
 | _=>simp[kg] at ha
theorem q9{α:Type}:∀{l:List α}{i j:Nat},ca (dD i l) j=if i<=j then l[j - i]? else none:=by
 intro l
 induction l with
 | nil=>intro i j;simp[dD,ca]
 | cons x l ih=>
  intro i j;simp only[dD,ca];by_cases e:i=j
  ·subst e;simp
  ·rw[oIN e,ih];by_cases h:i+1<=j
   ·rw[oIP h,oIP (by omega)];rw[show j - i=(j - (i+1))+1 by omega];simp
   ·rw[oIN h,oIN (by omega)]
theorem sK:∀{l:List TV}{i j:Nat},(argTs i l)[j]?=(l[j]?).map (argT (i+j)):=by
 intro l
 induction l with
 | nil=>intro i j;simp[argTs]
 | cons t l ih=>
  intro i j
  cases j with
  | zero=>simp[argTs]
  | succ j=>simp only[argTs,List.getElem?_cons_succ,ih];rw[show i+1+j=i+(j+1) by omega]
def AJ(w:World) (K:List (GP×Addr)) (x:GP×Addr) (t:TV) (y:Option Value):Prop:=
 ∃hp vs ad0,t=.ptr ⟨x.1.p.root,x.1.p.off,hp⟩ vs/\y=some (.pointer (some ad0))/\prK K (2*x.1.i+2)=some (x.2.block,x.2.off,x.1.cells.length)/\ca (ceK K) (2*x.1.i+2)=some x.1.cells/\x.2.spot=none/\(hp=[]->ad0=x.2) /\
  (hp≠[]->ci w ((w.cell? ⟨x.2.block,x.2.off,none⟩).getD undef) hp=some ad0/\∃t,bZ (x.1.cells.getD 0 .dead) hp=some t)
theorem AJ.cons{w:World}{K:List (GP×Addr)}{x z:GP×Addr}{t:TV}{y:Option Value}(h:AJ w K x t y) (hne:z.1.i≠x.1.i):AJ w (z :: K) x t y:=by
 obtain⟨hp,vs,ad0,h1,h2,h3,h4,h5,h6,h7⟩:=h;obtain⟨g,ad⟩:=z;refine⟨hp,vs,ad0,h1,h2,?_,?_,h5,h6,h7⟩
 ·simp only[prK];rw[oIN (by simp only at hne;omega)];exact h3
 ·simp only[ceK,List.map_cons,ca];rw[oIN (by simp only at hne;omega)];exact h4
theorem ml.slotArg{w:World}{i:Nat}{vals:List TV}{as us:List Value}{K:List (GP×Addr)}(h:ml w i vals as K us):∀j t,vals[j]?=some t->kg t=true\/(∃p vs,t=.pk p vs)\/∃x∈K,x.1.i=i+j/\AJ w K x t as[j]?:=by
 induction h with
 | nil=>intro j t h;simp at h
 | @ptr i p hp vs vs0 cells ad ad0 u ts xs K us hr hb hs h0 hh hu hc hok h ih=>
  intro j t ht
  cases j with
  | zero=>
   right;right;refine⟨(⟨i,p,vs,cells⟩,ad),by simp,rfl,hp,vs0,ad0,?_,by simp,by simp[prK],by simp[ceK,ca],hs,h0,hh⟩;simpa using ht.symm
  | succ j=>
   rcases ih j t (by simpa using ht) with h1 | h1 | ⟨x,h1,h2,h3⟩
   ·exact .inl h1
   ·exact .inr (.inl h1)
   ·right;right;exact⟨x,by simp[h1],by omega,by simpa using h3.cons (z:=(⟨i,p,vs,cells⟩,ad)) (by show i≠x.1.i;omega)⟩
 | @arg i t0 x0 ts xs K us ha h ih=>
  intro j t ht
  cases j with
  | zero=>left;have:t0=t:=by simpa using ht
          rw[<- this];exact ha
  | succ j=>
   rcases ih j t (by simpa using ht) with h1 | h1 | ⟨x,h1,h2,h3⟩
   ·exact .inl h1
   ·exact .inr (.inl h1)
   ·exact .inr (.inr ⟨x,h1,by omega,by simpa using h3⟩)
 | @own i p0 vs0 x0 ts xs K us h ih=>
  intro j t ht
  cases j with
  | zero=>right;left;have:TV.pk p0 vs0=t:=by simpa using ht
          exact⟨p0,vs0,this.symm⟩
  | succ j=>
   rcases ih j t (by simpa using ht) with h1 | h1 | ⟨x,h1,h2,h3⟩
   ·exact .inl h1
   ·exact .inr (.inl h1)
   ·exact .inr (.inr ⟨x,h1,by omega,by simpa using h3⟩)
theorem ml.enter{vals:List TV}{as us:List Value}{K:List (GP×Addr)}{l:List (Option Nat×TV)}{ow:List (Nat×TV)}{zs:List Value}(hI:Inv M σ (ow.map (·.2)++fJ K) (zs++us) ts w G) (h:ml w 0 vals as K us) (ho:zi 0 l as ow zs) (hpk:∀j p vs,vals[j]?=some (.pk p vs)->∃x∈ow,x.1=j)
 (hh:wF (ow.map (·.2)++fJ K) (zs++us) w G M.A (prK K) (λr=>ow.length+bsK K r) (ceK K++ceO ow) (owK ow))
 (ht:∀j (h:j < vals.length) (h':j < as.length),TmR w (G.F M.A) σ.v (b8 M σ (ow.map (·.2)++fJ K)) G vals[j] as[j]) {N:Nat} (hN:as.length<=N) :
 Inv (M.into w G (prK K) N) (mkSt (argTs 0 vals) (ceK K++ceO ow)) [] [] (as.toArray++Array.replicate (N - as.length) undef) w (G.into (prK K) (λr=>ow.length+bsK K r) (owK ow) (zs++us)):=by
 refine hI.enter hh (by simp;omega) λi=>?_;rw[q9];simp only[Nat.zero_le,if_true,Nat.sub_zero,sK,Nat.zero_add]
 cases hv:vals[i]? with
 | none=>exact .dead
 | some t=>
  obtain⟨hi,hvi⟩:=oGS hv
  have hi':i < as.length:=by rw[<- h.len.1];exact hi
  have hx:(as.toArray++Array.replicate (N - as.length) undef).getD i undef=as[i]:=by
   simp[Array.getD_eq_getD_getElem?,Array.getElem?_append,hi']
  rw[hx];have htm:=ht i hi hi';rw[hvi] at htm;simp only[oMS,Option.getD_some];rcases h.slotArg i t hv with harg | ⟨p,vs,rfl⟩ | ⟨x,x1,x2,hp,vs,ad0,rfl,x4,x5,x5c,x6,x7,x8⟩
  ·have e:argT i t=t:=by cases t<;>first | rfl | simp[kg] at harg
   rw[e];exact htm.handed harg λk hk=>hh.F hk
  ·simp only[argT];obtain⟨x,hx1,rfl⟩:=hpk i p vs hv;obtain⟨hz,h2,h3⟩:=ho.facts;obtain⟨k,h4,h5⟩:=h3 x hx1;obtain⟨hk,_,h6⟩:=la h4;obtain⟨_,c,h7⟩:=h2 ow[k] (List.getElem_mem hk);have hodd:=(hh.owc _ _ h4);obtain⟨_,_,c',hj,h8,h9⟩:=hodd;refine .pk (λ_=>0) (λ_=>Nat.le_refl _) rfl λ_=>⟨by simp,c',?_,?_⟩
   ·have hpn:prK K (2*x.1+3)=none:=by
     cases hp:prK K (2*x.1+3) with
     | none=>rfl
     | some y=>obtain⟨b,o,n⟩:=y;have:=(hh.even _ _ _ _ hp).1;omega
    simp only[Gh.hv,hvT];unfold Gh.val Gh.into;simp only[hpn,h4];rw[Nat.sub_zero,oGE hi',oGE (by omega)] at h5
    injection h5 with h5
    rw[oGD,List.getElem?_append_left (by omega),oGE (by omega),h5];rfl
   ·have:b8 (M.into w G (prK K) N) ⟨dD 0 (argTs 0 vals),ceK K++ceO ow,[]⟩ [] (2*x.1+3) 0=.ow c':=by
     rw[b6 (by show 2*x.1+3≠1;omega)];simp[St.c,h8]
    show bZ (b8 (M.into w G (prK K) N) ⟨dD 0 (argTs 0 vals),ceK K++ceO ow,[]⟩ [] (2*x.1+3) 0) []=_;rw[this];rfl
  ·simp only[argT]
   have e:as[i]=.pointer (some ad0):=by
    rw[oGE hi'] at x4;injection x4
   rw[e]
   have hxi:x.1.i=i:=by omega
   rw[hxi] at x5 x5c
   have had:(⟨x.2.block,x.2.off+0,none⟩:Addr)=x.2:=by
    obtain⟨g,ad⟩:=x;obtain⟨b,o,s⟩:=ad;simp only at x6 ⊢;subst x6;rfl
   have hcell:b8 (M.into w G (prK K) N) ⟨dD 0 (argTs 0 vals),ceK K++ceO ow,[]⟩ [] (2*i+2) 0=x.1.cells.getD 0 .dead:=by
    rw[b6 (by show 2*i+2≠1;omega)];simp only[St.c,jg,x5c]
   refine .ptr (λ_=>0) (λ_=>Nat.le_refl _) (by simp[fe,List.replicate_succ,List.map_const']) λ_=>?_
   cases hp with
   | nil=>
    refine⟨by simp,x.2,(b8 (M.into w G (prK K) N) ⟨dD 0 (argTs 0 vals),ceK K++ceO ow,[]⟩ [] (2*i+2) 0),?_,by rw[x7 rfl],rfl⟩;unfold Gh.addr Gh.into;simp only[x5];rw[had]
   | cons h1 hs=>
    obtain⟨x9,t0,x10⟩:=x8 (by simp);refine⟨by simp,ad0,t0,?_,rfl,by show bZ (b8 _ _ [] (2*i+2) 0) (h1 :: hs)=_;rw[hcell];exact x10⟩;show ci w (Gh.val _ w (2*i+2) 0) (h1 :: hs)=some ad0;unfold Gh.val Gh.into;simp only[x5];exact x9
end
theorem sw{α:Type}{f:GP×Addr->List α}{K:List (GP×Addr)}(hf:∀x∈K,(f x).length=x.1.cells.length) {r b o n:Nat}(h:prK K r=some (b,o,n)):∃x∈K,r=2*x.1.i+2/\b=x.2.block/\o=x.2.off/\n=x.1.cells.length/\ca (K.map λx=>(2*x.1.i+2,f x)) r=some (f x)/\∀j,j < n->(K.flatMap f)[bsK K r+j]?=(f x)[j]?:=by
 induction K with
 | nil=>simp[prK] at h
 | cons y K ih=>
  obtain⟨g,ad⟩:=y;simp only[prK] at h;split at h
  ·rename_i e
   injection h with h
   injection h with h1 h
   injection h with h2 h3
   have hl:=hf (g,ad) (by simp);simp only at hl;refine⟨(g,ad),by simp,e.symm,h1.symm,h2.symm,h3.symm,by simp[ca,e],λj hj=>?_⟩;simp only[bsK,e,if_true,List.flatMap_cons,Nat.zero_add];exact List.getElem?_append_left (by omega)
  ·rename_i e;obtain⟨x,h1,h2,h3,h4,h5,h6,h7⟩:=ih (λx hx=>hf x (by simp[hx])) h;have hl:=hf (g,ad) (by simp);simp only at hl;refine⟨x,by simp[h1],h2,h3,h4,h5,by simpa [ca,e] using h6,λj hj=>?_⟩;simp only[bsK,e,if_false,List.flatMap_cons];rw[List.getElem?_append_right (by omega)];rw[show g.cells.length+bsK K r+j - (f (g,ad)).length=bsK K r+j by omega];exact h7 j hj
theorem Dd{K:List (GP×Addr)}(hnd:ix (K.map λx=>x.1.i)=true) {j:Nat}(h:j < (fJ K).length):∃r b o n t,prK K r=some (b,o,n)/\t < n/\j=bsK K r+t:=by
 induction K generalizing j with
 | nil=>simp[fJ] at h
 | cons y K ih=>
  obtain⟨g,ad⟩:=y;simp only[List.map_cons,ix,oBA,Bool.not_eq_true',List.contains_eq_mem,decide_eq_false_iff_not] at hnd;simp only[fJ,List.flatMap_cons,List.length_append] at h;by_cases hj:j < g.cells.length
  ·exact⟨2*g.i+2,ad.block,ad.off,g.cells.length,j,by simp[prK],hj,by simp[bsK]⟩
  ·obtain⟨r,b,o,n,t,h1,h2,h3⟩:=ih hnd.2 (j:=j - g.cells.length) (by simp only[fJ];omega)
   have hne:2*g.i+2≠r:=λe=>by
    obtain⟨x,x1,x2,_⟩:=f8 h1;exact hnd.1 (List.mem_map.2 ⟨x,x1,by omega⟩)
   exact⟨r,b,o,n,t,by simp[prK,hne,h1],h2,by simp only[bsK,hne,if_false];omega⟩
def RWs(w:World):List (GP×Addr)->World->World
 | [],W=>W
 | x :: K,W=>RWs w K (dP w W x.2.block)
theorem AH{w:World}{K:List (GP×Addr)}:∀{W:World},(RWs w K W).heap.size=W.heap.size:=by
 induction K with
 | nil=>intro W;rfl
 | cons x K ih=>intro W;simp only[RWs];rw[ih,iv]
theorem ra{w:World}{K:List (GP×Addr)}:∀{W:World},(RWs w K W).os=W.os/\(RWs w K W).tape=W.tape/\(RWs w K W).output=W.output:=by
 induction K with
 | nil=>intro W;exact⟨rfl,rfl,rfl⟩
 | cons x K ih=>
  intro W;simp only[RWs];obtain⟨a1,a2,a3⟩:=ih (W:=dP w W x.2.block);obtain⟨r1,r2,r3,_⟩:=mr (w:=w) (W:=W) (b:=x.2.block);exact⟨a1.trans r1,a2.trans r2,a3.trans r3⟩
theorem Di{w:World}{K:List (GP×Addr)}{k:Nat}:∀{W:World},(∀x∈K,k≠x.2.block)->(RWs w K W).heap[k]?=W.heap[k]?:=by
 induction K with
 | nil=>intro W h;rfl
 | cons x K ih=>
  intro W h;simp only[RWs];rw[ih λy hy=>h y (by simp[hy]),jY (h x (by simp))]
theorem AI{w:World}{K:List (GP×Addr)}{k:Nat}(h2:k < w.heap.size):∀{W:World},k < W.heap.size->W.heap[k]?=w.heap[k]?->(RWs w K W).heap[k]?=w.heap[k]?:=by
 induction K with
 | nil=>intro W h1 h;exact h
 | cons x K ih=>
  intro W h1 h;simp only[RWs];refine ih (by rw[iv];exact h1) ?_;by_cases e:k=x.2.block
  ·rw[<- e];exact lY h1 h2
  ·rw[jY e];exact h
theorem Dj{w:World}{K:List (GP×Addr)}{k:Nat}(h2:k < w.heap.size):∀{W:World},k < W.heap.size->(∃x∈K,k=x.2.block)->(RWs w K W).heap[k]?=w.heap[k]?:=by
 induction K with
 | nil=>intro W h1 h;obtain⟨x,hx,_⟩:=h;simp at hx
 | cons x K ih=>
  intro W h1 h;simp only[RWs];obtain⟨y,hy,e⟩:=h;rcases List.mem_cons.1 hy with rfl | hy
  ·exact AI h2 (by rw[iv];exact h1) (by rw[e];rw[e] at h1 h2;exact lY h1 h2)
  ·exact ih (by rw[iv];exact h1) ⟨y,hy,e⟩
section
variable {P:Program} {M:Fm} {σ σ':St} {H:List TV} {xs:List Value} {ts:Array Value} {w:World} {G:Gh} {a:Act} {o:Oper}
theorem xH{p:bQ}{t:TV}(h:(oB p t).run σ=some ((),σ')) {r:Nat}(hr:r≠p.root) (o n:Nat):fe σ'.v r o n=fe σ.v r o n:=by
 unfold oB at h;simp only[SP.run] at h
 have bump:∀{vr:List (Key×Nat)},σ'.vr=vr->(∀q,kG vr q=kG σ.vr q+if (p.root,p.off,p.hops.length+1)=q then 1 else 0)->fe σ'.v r o n=fe σ.v r o n:=by
  intro vr e hv
  have hv':∀q,σ'.v q=σ.v q+if (p.root,p.off,p.hops.length+1)=q then 1 else 0:=λq=>by unfold St.v;rw[e];exact hv q
  rw[fO]
  have hne:∀o' d,((p.root,p.off,p.hops.length+1):Key)≠(r,o',d):=λo' d e=>by
   injection e with e _
   exact hr e.symm
  refine⟨by rw[hv',oIN (hne _ _)];omega,λd hd=>by rw[hv',oIN (hne _ _)];omega⟩
 cases hg:bZ (σ.c p.root p.off) p.hops with
 | none=>simp[hg,SP.run] at h
 | some old=>
  simp only[hg] at h;split at h
  ·split at h
   ·obtain⟨l,hl,ho,h3⟩:=b7 h;simp only[SP.run,oSJ,oPJ,true_and] at h3;exact bump (vr:=jq σ.vr (p.root,p.off,p.hops.length+1)) (by rw[<- h3]) λq=>dJ _ _ _
   ·simp[SP.run] at h
  ·obtain⟨l,hl,ho,h3⟩:=b7 h;simp only[SP.run,oSJ,oPJ,true_and] at h3
   have hv:σ'.v=σ.v:=by rw[<- h3];rfl
   rw[hv]
theorem xJ:∀{l:List TV}{p:bQ}{σ σ':St},(putL p l).run σ=some ((),σ')->∀{r:Nat},r≠p.root->∀o n,fe σ'.v r o n=fe σ.v r o n:=by
 intro l
 induction l with
 | nil=>
  intro p σ σ' h r hr o n;simp only[putL,SP.run,oSJ,oPJ,true_and] at h;rw[h]
 | cons t l ih=>
  intro p σ σ' h r hr o n;simp only[putL] at h;obtain⟨_,σ1,h1,h2⟩:=bG h;rw[<- xH h1 hr o n]
  cases l with
  | nil=>
   simp only[SP.run,oSJ,oPJ,true_and] at h2;rw[h2]
  | cons t2 l=>
   simp only at h2;split at h2
   ·exact ih h2 (by rw[cL];exact hr) o n
   ·simp[SP.run] at h2
theorem rD:∀{q:List (GP×List TV)}{σ σ':St},(putBack q).run σ=some ((),σ')->∀{r:Nat},(∀x∈q,r≠x.1.p.root)->∀o n,fe σ'.v r o n=fe σ.v r o n:=by
 intro q
 induction q with
 | nil=>
  intro σ σ' h r hr o n;simp only[putBack,SP.run,oSJ,oPJ,true_and] at h;rw[h]
 | cons x q ih=>
  intro σ σ' h r hr o n;obtain⟨g,l⟩:=x;simp only[putBack] at h;obtain⟨_,σ1,h1,h2⟩:=bG h;split at h2
  ·rw[xJ h2 (hr (g,l) (by simp)) o n];exact ih h1 (λx hx=>hr x (by simp[hx])) o n
  ·simp[SP.run] at h2
def Seg(w W:World) (x:GP×Addr) (vs:List Value):Prop:=
 ∃cur0 cur e fz,w.heap[x.2.block]?=some (.cells cur0 e fz)/\W.heap[x.2.block]?=some (.cells cur e fz)/\cur.size=cur0.size/\(∀j,(j < x.2.off\/x.2.off+vs.length<=j)->cur[j]?=cur0[j]?)/\∀j (h:j < vs.length),cur[x.2.off+j]?=some vs[j]
theorem vG{f:GP×Addr->List TV}{v:GP×Addr->List Value}(hfv:∀x,(f x).length=(v x).length):∀{K:List (GP×Addr)}{σ σ':St}{H0:List TV}{x0:List Value}{W:World}{G:Gh},H0.length=x0.length ->
 Inv M σ (H0++K.flatMap f) (x0++K.flatMap v) ts (RWs w K W) G->(∀x∈K,Seg w W x (v x))->(∀x∈K,f x≠[])->(∀x∈K,∀y∈K,x.2.block=y.2.block->x=y)->ix (K.map λx=>x.1.p.root)=true ->
 (∀x∈K,x.1.p.root≠1/\G.addr (RWs w K W) x.1.p=some x.2/\∃t,bZ (b8 M σ (H0++K.flatMap f) x.1.p.root x.1.p.off) x.1.p.hops=some t) ->
 (putBack (K.map λx=>(x.1,f x))).run σ=some ((),σ')->∃G',Inv M σ' H0 x0 ts W G'/\σ'.tm=σ.tm/\fT M (RWs w K W) σ (H0++K.flatMap f) G W σ' H0 G'/\G'.β=G.β:=by
 intro K
 induction K with
 | nil=>
  intro σ σ' H0 x0 W G hl0 hI _ _ _ _ _ hr;simp only[List.map_nil,putBack,SP.run,oSJ,oPJ,true_and] at hr;subst hr;have hI:Inv M σ (H0++[]) (x0++[]) ts W G:=hI;rw[List.append_nil,List.append_nil] at hI;refine⟨G,hI,rfl,?_,rfl⟩;show fT M W σ (H0++[]) G W σ H0 G;rw[List.append_nil];exact fT.refl _ _ _ _ _
 | cons x K ih=>
  intro σ σ' H0 x0 W G hl0 hI hseg hne hinj hnd hadr hr;simp only[List.map_cons,putBack] at hr;obtain⟨_,σ1,h1,h2⟩:=bG hr;split at h2
  case isFalse=>simp[SP.run] at h2
  rename_i hck;simp only[oBA,oDE,List.all_eq_true,Bool.not_eq_true'] at hck;simp only[List.map_cons,ix,oBA,Bool.not_eq_true',List.contains_eq_mem,decide_eq_false_iff_not] at hnd;have hxK:∀y∈K,y.1.p.root≠x.1.p.root:=λy hy e=>hnd.1 (by rw[<- e];exact List.mem_map.2 ⟨y,hy,rfl⟩)
  have hbK:∀y∈K,x.2.block≠y.2.block:=λy hy e=>by
   have:=hinj x (by simp) y (by simp[hy]) e;exact hxK y hy (by rw[this])
  have hI':Inv M σ ((H0++f x)++K.flatMap f) ((x0++v x)++K.flatMap v) ts (RWs w K (dP w W x.2.block)) G:=by
   simpa [RWs,List.append_assoc] using hI
  obtain⟨G1,hI1,htm1,hm1,hβ1⟩:=ih (W:=dP w W x.2.block) (by simp[hl0,hfv]) hI' (λy hy=>by
   obtain⟨cur0,cur,e,fz,s1,s2,s3⟩:=hseg y (by simp[hy])
   exact⟨cur0,cur,e,fz,s1,by rw[jY (Ne.symm (hbK y hy))];exact s2,s3⟩) (λy hy=>hne y (by simp[hy])) (λy hy z hz=>hinj y (by simp[hy]) z (by simp[hz])) hnd.2
   (λy hy=>by have:=hadr y (by simp[hy]);simpa [RWs,List.append_assoc] using this) h1
  obtain⟨hr1,ha,t0,hget⟩:=hadr x (by simp)
  have hvers:=rD h1 (r:=x.1.p.root) (λy hy=>by
   obtain⟨z,hz,rfl⟩:=List.mem_map.1 hy
   exact Ne.symm (hxK z hz)) x.1.p.off x.1.p.hops.length
  obtain⟨t1,ha1,hget1⟩:=hm1.keeps.ptr x.1.p x.2 t0 hr1 hvers (by simpa [RWs] using ha) (by simpa [List.append_assoc] using hget)
  have hdrop:(H0++f x).drop H0.length=f x:=by simp
  obtain⟨_,G2,H2,hI2,e1,e2,e3,e4,e5,e6⟩:=xK (k:=H0.length) hI1 hr1 ha1 hdrop (hne x (by simp)) (λj hj hk=>by
   intro e
   have hj':j - H0.length < (f x).length:=by simp at hj;omega
   have:(H0++f x)[j]=(f x)[j - H0.length]:=by rw[List.getElem_append_right hk]
   rw[this] at e;have:=hck.2 _ (List.getElem_mem hj');rw[e] at this
   simp[uK] at this) h2
  obtain⟨cur0,cur,e,fz,s1,s2,s3,s4,s5⟩:=hseg x (by simp)
  have hxd:(x0++v x).drop H0.length=v x:=by rw[hl0];simp
  rw[hxd,mU s1 s2 s3 s4 s5] at hI2 e5;obtain⟨hI3,e7⟩:=hI2.trunc (k:=H0.length) e2
  have hT:H2.take H0.length=H0:=by
   apply List.ext_getElem
   ·simp[e1]
   ·intro j hj hj';rw[List.getElem_take];rw[e3 j (by rw[e1];simp;omega) (by simp;omega) hj'];rw[List.getElem_append_left hj']
  have hX:(x0++v x).take H0.length=x0:=by rw[hl0];simp
  rw[hT] at hI3 e7;rw[hX] at hI3;refine⟨G2,hI3,e4.trans htm1,?_,e6.trans hβ1⟩;have hm2:fT M (dP w W x.2.block) σ1 (H0++f x) G1 W σ' H0 G2:=⟨e5.size,by rw[e7];exact e5.keeps,e5.heap,e5.free⟩;have:=hm1.trans hm2;simpa [RWs,List.append_assoc] using this
end
def jT(P:Program) (f:FuncId):Prop:=∀args w,(callFunc f args).run P w=.ok (.enter f args) w
theorem sB{P:Program}{f:FuncId}{fn:Func}{c:Code}(hf:P.funcs[f]?=some fn) (hname:(fn.name=="runtime.NumGoroutine")=false) (hb:fn.body=some c):jT P f:=by
 intro args w;unfold callFunc;simp only[Sem.run_bind,run_program,Result.andThen_ok,hf];rw[oIN (by rw[hname];simp),oIN (by rw[hb];simp)];rfl
def Dy(M:Fm) (res:wE) (v:Value) (σ2:St) (w2:World):Prop:=
 (∃ys ts2 G2,v=iQ res.sh ys/\Inv M σ2 res.cells ys ts2 w2 G2/\∀j (h:j < res.cells.length),cJ res.cells[j]=true\/g9 res.cells[j]=true) \/
 ∃q vs l pv ts2 G2,res.cells=.ptr q vs :: l/\(∃sh,res.sh=.ptr :: sh)/\l.all sQ=true/\v=pq pv (l.map unV)/\Inv M σ2 [] [] ts2 w2 G2/\Dk w2 (b8 M σ2 []) G2 q pv
def ga(P:Program) (F:cS):Prop:=
 ∀f vals pts res pts',F f vals pts=some (res,pts')->jT P f/\∃N,vals.length<=N/\∀(M:Fm) (as:List Value) (w:World) (G:Gh),as.length=vals.length->M.N=N->M.w0=w->(∀r,M.pr r≠none->∃i p vs,vals[i]?=some (.ptr p vs)/\r=2*i+2) ->
  Inv M (mkSt vals pts) [] [] (as.toArray++Array.replicate (N - as.length) undef) w G ->
  Calls P f as.toArray w λe w2=>∃v σ2,e=.returned v/\Dy M res v σ2 w2/\pts'=pts.map λx=>(x.1,(ca σ2.ce x.1).getD [])
def zf(P:Program) (E:Env):Prop:=
 ∀f n tm,E.box f=some (n,tm)->jT P f/\(∀x,.val x∈tm->ed x=true)/\∃ty,∀(as:List Value) (w:World),as.length=n->(∀y∈tm.map (bxV as),y.oneCell'=true) ->
  Calls P f as.toArray w λe w'=>e=.returned (.pointer (some ⟨w.heap.size,0,none⟩))/\w'=w.alloc (.cells (tm.map (bxV as)).toArray ty)
def jH:Op->TOp->Prop
 | .call ⟨.value f,args,_⟩,.call _ f' args'=>bJ f=some f'/\args'.length=args.size/\∀j (h:j < args'.length) (h':j < args.size),bJ args[j]=some args'[j].2
 | _,_=>False
def Cl:TOp:=.call false (.c undef) []
def fH(op:Op) (t:TOp):Prop:=t=Cl\/jH op t
section
variable {P:Program} {M:Fm} {σ σ':St} {H:List TV} {xs:List Value} {ts:Array Value} {w:World} {G:Gh} {a:Act} {o:Oper}
theorem sJ:∀{l:List TV}{i:Nat},(argTs i l).length=l.length:=by
 intro l
 induction l with
 | nil=>intro i;rfl
 | cons t l ih=>intro i;simp[argTs,ih]
theorem xr{F:Nat->Prop}{V:Vs}{C:Cs}:∀{sh:List RSh}{l:List TV}{ys:List Value},jz sh l.length=true->l.length=ys.length->(∀j (h:j < l.length),TmR w F V C G l[j] (ys.getD j undef)) ->
 (eE sh l).length=(de sh ys).length/\∀j (h:j < (eE sh l).length),TmR w F V C G (eE sh l)[j] ((de sh ys).getD j undef):=by
 intro sh
 induction sh with
 | nil=>intro l ys _ _ _;exact⟨rfl,λj h=>by simp[eE] at h⟩
 | cons s sh ih=>
  intro l ys hs hl ht
  cases s with
  | one=>
   simp only[jz,oBA,oDE] at hs
   cases l with
   | nil=>simp at hs
   | cons t l=>
    cases ys with
    | nil=>simp at hl
    | cons y ys=>
     obtain⟨e,h2⟩:=ih (l:=l) (ys:=ys) (by simpa using hs.2) (by simpa using hl) λj h=>by have:=ht (j+1) (by simpa using h);simpa using this
     refine⟨by simp[eE,de,e],λj h=>?_⟩
     cases j with
     | zero=>have:=ht 0 (by simp);simpa [eE,de] using this
     | succ j=>have:=h2 j (by simpa [eE] using h);simpa [eE,de] using this
  | agg n=>
   simp only[jz,oBA,oDE] at hs
   obtain⟨e,h2⟩:=ih (l:=l.drop n) (ys:=ys.drop n) (by simpa using hs.2) (by simp[hl]) λj h=>by
    have h':n+j < l.length:=by simp at h;omega
    have:=ht (n+j) h';simpa [oGD,List.getElem?_drop] using this
   refine⟨by simp[eE,de,e],λj h=>?_⟩
   cases j with
   | zero=>
    simp only[eE,de,List.getElem_cons_zero,List.getD_cons_zero];refine .agg (by simp;omega) λj hj=>?_
    have hj':j < n/\j < l.length:=by simp at hj;omega
    have:=ht j hj'.2
    have e2:(List.take n ys).toArray.getD j undef=ys.getD j undef:=by simp[Array.getD_eq_getD_getElem?,oGD,List.getElem?_take,hj'.1]
    rw[e2];simpa using this
   | succ j=>have:=h2 j (by simpa [eE] using h);simpa [eE,de] using this
  | ptr=>simp[jz] at hs
theorem rv{F:Nat->Prop}{V:Vs}{C:Cs}{sh:List RSh}{l:List TV}{ys:List Value}(hs:jz sh l.length=true) (hl:l.length=ys.length) (ht:∀j (h:j < l.length),TmR w F V C G l[j] (ys.getD j undef)):TmR w F V C G (kZ sh l) (iQ sh ys):=by
 obtain⟨e,h2⟩:=xr hs hl ht;by_cases h1:∃x,eE sh l=[x]
 ·obtain⟨x,hx⟩:=h1;obtain⟨y,hy⟩:∃y,de sh ys=[y]:=List.length_eq_one_iff.1 (by rw[<- e,hx];rfl);have:=h2 0 (by rw[hx];simp)
  have e1:kZ sh l=x:=by unfold kZ;rw[hx]
  have e2:iQ sh ys=y:=by unfold iQ;rw[hy]
  rw[e1,e2];simp only[hx,hy] at this;simpa using this
 ·have hne:¬ ∃y,de sh ys=[y]:=λ⟨y,hy⟩=>h1 (List.length_eq_one_iff.1 (by rw[e,hy];rfl))
  have e1:kZ sh l=TV.tup (eE sh l):=by
   unfold kZ;split
   ·rename_i x hx;exact absurd ⟨x,hx⟩ h1
   ·rfl
  have e2:iQ sh ys=Value.tuple (de sh ys).toArray:=by
   unfold iQ;split
   ·rename_i x hx;exact absurd ⟨x,hx⟩ hne
   ·rfl
  rw[e1,e2];refine .tup (by simp[e]) λj hj=>?_;have:=h2 j hj
  have e3:(de sh ys).toArray.getD j undef=(de sh ys).getD j undef:=by simp[Array.getD_eq_getD_getElem?,oGD]
  rw[e3];exact this
theorem B5{res:wE}{ys:List Value}(hI:Inv M σ res.cells ys ts w G) (hok:∀j (h:j < res.cells.length),cJ res.cells[j]=true\/g9 res.cells[j]=true) (hs:jz res.sh res.cells.length=true)
 {dst:Option Nat} (hd:∀d,dst=some d->d < M.N) (hr:(landR dst res).run σ=some ((),σ')):∃G',Inv M σ' [] [] (match dst with | some d=>ts.setIfInBounds d (iQ res.sh ys) | none=>ts) w G':=by
 cases dst with
 | none=>
  simp only[landR,SP.run,oSJ,oPJ,true_and] at hr;subst hr;obtain⟨G',hg,_⟩:=hI.drop;exact⟨G',hg.1⟩
 | some d=>
  simp only[landR] at hr;obtain⟨l,σ1,h1,h2⟩:=bG hr;obtain⟨G1,hI1,_,hl,ht⟩:=ne hI hok h1;simp only[wr,SP.run,oSJ,oPJ,true_and] at h2;subst h2;exact⟨G1,hI1.wrT (hd d rfl) (rv (by rw[hl];exact hs) (by rw[hl];exact hI.hand) ht)⟩
end
def frM(w:World) (N:Nat):Fm:=⟨w,λ_=>True,λ_=>False,λ_=>none,N,λ_ _=>trivial⟩
def frG:Gh:=⟨λ_=>none,λ_ _=>undef,λ_ _ _=>False⟩
theorem rL(l:List TV):∀i k,ca (dD i l) k=if k < i then none else l[k - i]?:=by
 induction l with
 | nil=>intro i k;simp[dD,ca]
 | cons t l ih=>
  intro i k;simp only[dD,ca,ih];by_cases h:i=k
  ·subst h;simp
  ·by_cases h2:k < i
   ·simp[h,h2,show k < i+1 by omega]
   ·obtain⟨j,hj⟩:∃j,k - i=j+1:=⟨k - i - 1,by omega⟩;simp only[oIN h,oIN h2,hj,List.getElem?_cons_succ];rw[oIN (by omega),show k - (i+1)=j by omega]
def t7(w:World) (t:TV) (x:Value):Prop:=∀F V C G,(∀k,F k)->TmR w F V C G t x
theorem iJ.plain{w:World}{F:Nat->Prop}{t:TV}{x:Value}(h:iJ w F t x):t7 w t x:=λ_ _ _ _ hF=>(h.frame (λ_ _ _=>rfl) λk _ _=>hF k).toTm
theorem calls_flat{P:Program}{F:cS}(hF:ga P F) {f:FuncId}{vals:List TV}{avs:List Value}{res:wE}{w:World}(h:F f vals []=some (res,[])) (hfl:res.cells.all sQ=true) (hl:avs.length=vals.length)
 (hv:∀j (h:j < vals.length) (h':j < avs.length),t7 w vals[j] avs[j]):jT P f/\Calls P f avs.toArray w λe w'=>e=.returned (iQ res.sh (res.cells.map unV))/\Below w.heap.size w w':=by
 obtain⟨hent,N,hN,hc⟩:=hF f vals [] _ _ h;refine⟨hent,?_⟩;have hFF:∀k,frG.F (frM w N).A k:=λk=>⟨trivial,λ_ _ h=>h,λ_ _ _ _ h=>by simp[frG] at h⟩
 have hst:∀i,(mkSt vals []).t i=vals.getD i .dead:=by
  intro i;simp[St.t,mkSt,rL]
 have hE:∀r o,b8 (frM w N) (mkSt vals []) [] r o=.dead:=by
  intro r o;unfold b8;split
  ·simp
  ·rfl
 have hI:Inv (frM w N) (mkSt vals []) [] [] (avs.toArray++Array.replicate (N - avs.length) undef) w frG:=by
  refine⟨⟨λr o=>.inl ⟨hE r o,λ_ h=>h⟩,λ_ _ _ _ h=>by simp[frG] at h,λ_ _ _ _ h=>by simp[frG] at h,λ_ _ _ _ _ _ _ h=>by simp[frG] at h,λ_ _ _ _ h=>by simp[frG] at h,λ_ _ _ _ _ h=>h.elim,λ_ _ _ h=>h.elim⟩,λi=>?_,⟨rfl,rfl,rfl,Nat.le_refl _,λ_ _ _ _=>rfl,λ_ _ _ _ h=>by simp[frM] at h,λ_ _ _ h=>h.elim,λ_ _ _ _ h=>by simp[frG] at h,λ_ h=>by simp[frG] at h⟩,λr l h=>by simp[mkSt,ca] at h,?_,rfl,λj hj=>by simp at hj,λ_ _ _ _ h=>by simp[frG] at h⟩
  ·rw[hst];by_cases hi:i < vals.length
   ·have hi':i < avs.length:=by omega
    have e1:vals.getD i .dead=vals[i]:=by simp[hi]
    have e2:(avs.toArray++Array.replicate (N - avs.length) undef).getD i undef=avs[i]:=by
     simp[Array.getD_eq_getD_getElem?,Array.getElem?_append,hi']
    rw[e1,e2];exact hv i hi hi' _ _ _ frG hFF
   ·have e1:vals.getD i .dead=.dead:=by rw[oGD,oGN (by omega)];rfl
    rw[e1];exact .dead
  ·show (avs.toArray++Array.replicate (N - avs.length) undef).size=N;simp;omega
 refine (hc (frM w N) avs w frG hl rfl rfl (λr hr=>by simp[frM] at hr) hI).mono λe w2 ⟨v,σ2,he,hback,_⟩=>?_;rcases hback with ⟨ys,ts2,G2,rfl,hI2,_⟩ | ⟨q,vs,l,pv,ts2,G2,hcells,_⟩
 rotate_left
 ·rw[hcells] at hfl;simp[sQ] at hfl
 have hys:ys=res.cells.map unV:=by
  have hlen:res.cells.length=ys.length:=hI2.hand;apply List.ext_getElem
  ·rw[List.length_map,hlen]
  ·intro j h1 h2
   have hj:j < res.cells.length:=by omega
   have hvj:=List.all_eq_true.1 hfl res.cells[j] (List.getElem_mem hj)
   have hown:=hI2.hand_own (j:=j) hj (by
    intro e;rw[e] at hvj
    simp[sQ] at hvj)
   rw[List.getElem_map]
   have e1:ys.getD j undef=ys[j]:=by simp[oGD,h1]
   rw[e1] at hown
   cases hc:res.cells[j] with
   | v x=>
    rw[hc] at hown
    cases hown with
    | v _ _=>rfl
   | _=>rw[hc] at hvj;simp[sQ] at hvj
 subst hys;exact⟨he,⟨hI2.fram.os,hI2.fram.tape,hI2.fram.output,hI2.fram.size,λk hk=>hI2.fram.old k hk (λh=>h) λ_ _ _ _ h=>by simp[frM] at h⟩⟩
section
variable {P:Program} {M:Fm} {σ σ':St} {H:List TV} {xs:List Value} {ts:Array Value} {w:World} {G:Gh} {a:Act} {o:Oper}
theorem xy{t t':TV}{x:Value}(hI:Inv M σ H xs ts w G) (hx:TmR w (G.F M.A) σ.v (b8 M σ H) G t x) (hr:(see1 t).run σ=some (t',σ')):σ'=σ/\iJ w (λ_=>True) t' x:=by
 cases hx with
 | v h=>
  simp only[see1,SP.run,oSJ,oPJ] at hr;obtain⟨rfl,rfl⟩:=hr;exact⟨rfl,.v h⟩
 | nil=>
  simp only[see1,SP.run,oSJ,oPJ] at hr;obtain⟨rfl,rfl⟩:=hr;exact⟨rfl,.sl (c:=[]) 1 (λ_ _=>.nilFunc) (λi h=>by simp at h) (Nat.le_refl _) (Nat.zero_le _) (λ_=>rfl) (λi j h=>by simp at h) (λi j h=>by simp at h)⟩
 | sl h=>
  simp only[see1,SP.run,oSJ,oPJ] at hr;obtain⟨rfl,rfl⟩:=hr;exact⟨rfl,h.frame (λ_ _ _=>rfl) λ_ _ _=>trivial⟩
 | dead=>simp[see1,SP.run] at hr
 | ptr=>simp[see1,SP.run] at hr
 | ip=>simp[see1,SP.run] at hr
 | agg=>simp[see1,SP.run] at hr
 | tup=>simp[see1,SP.run] at hr
 | fn=>simp[see1,SP.run] at hr
 | pw=>simp[see1,SP.run] at hr
 | @pk p vs x V0 h0 hv hok=>
  simp only[see1] at hr;obtain⟨_,σ1,h1,h2⟩:=bG hr;have e1:σ1=σ:=(bV h1).1;have e2:=(bV h1).2;subst e1;obtain⟨_,c,hhv,hget⟩:=hok e2;simp only[SP.run] at h2
  have hroot:p.root≠M.hr:=by
   intro e;rw[e] at h2;rw[hI.hr_dead] at h2;cases hp:p.hops<;>rw[hp] at h2<;>simp[bZ,SP.run] at h2
  obtain⟨u,fp,h4,h5,_⟩:=hI.core.hv_own p hget (by simp);rw[b6 hroot] at hget;rw[hget] at h2;simp only[SP.run,oSJ,oPJ] at h2;obtain⟨rfl,rfl⟩:=h2;rw[hhv] at h4
  injection h4 with h4
  subst h4;exact⟨rfl,h5.share'.frame (λ_ _ _=>rfl) λ_ _ _=>trivial⟩
theorem BG:∀{l l':List TV}{ys:List Value},Inv M σ H xs ts w G->l.length=ys.length->(∀j (h:j < l.length),TmR w (G.F M.A) σ.v (b8 M σ H) G l[j] (ys.getD j undef))->(seeL l).run σ=some (l',σ') ->
 σ'=σ/\l'.length=l.length/\∀j (h:j < l'.length),iJ w (λ_=>True) l'[j] (ys.getD j undef):=by
 intro l
 induction l generalizing σ σ' with
 | nil=>
  intro l' ys hI hl _ hr;simp only[seeL,SP.run,oSJ,oPJ] at hr;obtain⟨rfl,rfl⟩:=hr;exact⟨rfl,rfl,λj h=>by simp at h⟩
 | cons t l ih=>
  intro l' ys hI hl ht hr
  cases ys with
  | nil=>simp at hl
  | cons y ys=>
   simp only[seeL] at hr;obtain⟨t',σ1,h1,h2⟩:=bG hr;obtain⟨r',σ2,h3,h4⟩:=bG h2;simp only[SP.run,oSJ,oPJ] at h4;obtain⟨rfl,rfl⟩:=h4;obtain⟨rfl,k1⟩:=xy hI (by have:=ht 0 (by simp);simpa using this) h1;obtain⟨rfl,k2,k3⟩:=ih hI (by simpa using hl) (λj h=>by have:=ht (j+1) (by simpa using h);simpa using this) h3;refine⟨rfl,by simp[k2],λj h=>?_⟩
   cases j with
   | zero=>simpa using k1
   | succ j=>have:=k3 j (by simpa using h);simpa using this
theorem BH{t t':TV}{x:Value}(hI:Inv M σ H xs ts w G) (hx:TmR w (G.F M.A) σ.v (b8 M σ H) G t x) (hr:(seeA t).run σ=some (t',σ')):σ'=σ/\t7 w t' x:=by
 have one:(see1 t).run σ=some (t',σ')->σ'=σ/\t7 w t' x:=λh=>by
  obtain⟨e,k⟩:=xy hI hx h;exact⟨e,k.plain⟩
 cases t with
 | agg l=>
  simp only[seeA] at hr;obtain⟨l',σ1,h1,h2⟩:=bG hr;simp only[SP.run,oSJ,oPJ] at h2;obtain⟨rfl,rfl⟩:=h2
  cases hx with
  | @agg _ ys hl ht=>
   obtain⟨e,k1,k2⟩:=BG (ys:=ys.toList) hI (by simpa using hl.symm) (λj h=>by have:=ht j h;simpa [Array.getD_eq_getD_getElem?,oGD] using this) h1;refine⟨e,λF V C G' hF=>.agg (by rw[hl,k1]) λj hj=>?_⟩;have:=k2 j hj
   have e3:ys.getD j undef=ys.toList.getD j undef:=by simp[Array.getD_eq_getD_getElem?,oGD]
   rw[e3];exact this.plain F V C G' hF
 | ip cs=>
  simp only[seeA,SP.run,oSJ,oPJ] at hr;obtain⟨rfl,rfl⟩:=hr
  cases hx with
  | ip u hc hr=>exact⟨rfl,λF V C G' hF=>.ip u (λj hj=>⟨hF _,(hc j hj).2⟩) λj hj=>(hr j hj).frame (λ_ _ _=>rfl) λk _ _=>hF k⟩
 | fn f cap=>
  cases cap with
  | nil=>
   simp only[seeA,SP.run,oSJ,oPJ] at hr;obtain⟨rfl,rfl⟩:=hr
   cases hx with
   | fn hl ht=>exact⟨rfl,λF V C G' hF=>.fn hl λj hj=>by simp at hj⟩
  | cons=>simp[seeA,SP.run] at hr
 | _=>exact one hr
theorem zN:∀{l:List Opd}{l':List Operand}{ts':List TV}{σ σ':St},Inv M σ [] [] a.tmps w G->l'.length=l.length->(∀j (h:j < l.length) (h':j < l'.length),bJ l'[j]=some l[j])->(seeAs l).run σ=some (ts',σ') ->
 σ'=σ/\ts'.length=l.length/\∀j (h:j < ts'.length) (h':j < l'.length),t7 w ts'[j] (a.eval l'[j]):=by
 intro l
 induction l with
 | nil=>
  intro l' ts' σ σ' hI hl hc hr;simp only[seeAs,SP.run,oSJ,oPJ] at hr;obtain⟨rfl,rfl⟩:=hr;exact⟨rfl,rfl,λj h=>by simp at h⟩
 | cons x l ih=>
  intro l' ts' σ σ' hI hl hc hr
  cases l' with
  | nil=>simp at hl
  | cons x' l'=>
   simp only[seeAs] at hr;obtain⟨t,σ1,h1,h2⟩:=bG hr;obtain⟨t',σ2,h3,h4⟩:=bG h2;obtain⟨r,σ3,h5,h6⟩:=bG h4;simp only[SP.run,oSJ,oPJ] at h6;obtain⟨rfl,rfl⟩:=h6;obtain⟨rfl,ht⟩:=cC hI.tmr (by have:=hc 0 (by simp) (by simp);simpa using this) h1;obtain⟨rfl,k1⟩:=BH hI ht h3;obtain⟨rfl,k2,k3⟩:=ih (l':=l') hI (by simpa using hl) (λj h h'=>by have:=hc (j+1) (by simpa using h) (by simpa using h');simpa using this) h5;refine⟨rfl,by simp[k2],λj h h'=>?_⟩
   cases j with
   | zero=>exact k1
   | succ j=>exact k3 j (by simpa using h) (by simpa using h')
theorem Az{F:cS}(hF:ga P F) {as:List Value}{vals:List TV}{fid:FuncId}(hd:∀d,o.dst=some d->d < M.N/\M.pr (2*d+2)=none) (hI1:Inv M σ [] [] a.tmps w G) (hal:as.length=vals.length)
 (hvt:∀j (h:j < vals.length) (h':j < as.length),t7 w vals[j] as[j]) (h2:(callB F o.dst fid vals).run σ=some ((),σ')) (hexec:jT P fid->(execOp a.eval o).run P w=.ok (.enter fid as.toArray) w):Cz P M σ' a o w:=by
 intro K' Q hK;simp only[callB] at h2;obtain⟨r,σ1,h3,h4⟩:=bG h2
 have hFr:F fid vals []=some r/\σ1=σ:=by
  cases hq:F fid vals [] with
  | none=>rw[hq] at h3;simp[eZ,SP.run] at h3
  | some y=>
   rw[hq] at h3;simp only[eZ,SP.run,oSJ,oPJ] at h3;exact⟨by rw[h3.1],h3.2.symm⟩
 obtain⟨hFr,rfl⟩:=hFr;split at h4
 case isFalse=>simp[SP.run] at h4
 rename_i hck;simp only[oBA,oDE] at hck;obtain⟨res,pts'⟩:=r;obtain rfl:pts'=[]:=oEN hck.1.1;obtain⟨hent,hcal⟩:=calls_flat hF hFr hck.1.2 hal hvt;unfold Oper.wp;rw[hexec hent,Oper.upon_enter];refine hcal.mono λe w2 ⟨he,hb⟩=>?_;subst he;simp only;have hI2:=(hI1.grow (w':=w2) (λk hk=>hb.block k hk) hb.size hb.os hb.tape hb.output).1;refine hK (a.put o.dst (iQ res.sh (res.cells.map unV))) w2 G ?_ (gK _ _ _)
 cases hdst:o.dst with
 | none=>
  rw[hdst] at h4;simp only[SP.run,oSJ,oPJ,true_and] at h4;rw[<- h4];exact hI2
 | some d=>
  rw[hdst] at h4;simp only[wr,SP.run,oSJ,oPJ,true_and] at h4;rw[<- h4];refine hI2.wrT (hd d hdst).1 (rv hck.2 (by simp) λj hj=>?_);have hvj:=List.all_eq_true.1 hck.1.2 res.cells[j] (List.getElem_mem hj)
  have e1:(res.cells.map unV).getD j undef=unV res.cells[j]:=by simp[oGD,hj]
  rw[e1]
  cases hc:res.cells[j] with
  | v x=>rw[hc] at hvj;exact .v hvj
  | _=>rw[hc] at hvj;simp[sQ] at hvj
end
section
variable {P:Program} {M:Fm} {σ σ':St} {H:List TV} {xs:List Value} {ts:Array Value} {w:World} {G:Gh} {a:Act} {o:Oper}
theorem tg:∀{q:List (GP×List TV)}{σ σ':St},(putBack q).run σ=some ((),σ')->∀x∈q,x.2.length=x.1.cells.length:=by
 intro q
 induction q with
 | nil=>intro σ σ' _ x hx;simp at hx
 | cons y q ih=>
  intro σ σ' h x hx;obtain⟨g,l⟩:=y;simp only[putBack] at h;obtain⟨_,σ1,h1,h2⟩:=bG h;split at h2
  ·rename_i hck;simp only[oBA,oDE] at hck;rcases List.mem_cons.1 hx with rfl | hx
   ·exact hck.1
   ·exact ih h1 x hx
  ·simp[SP.run] at h2
theorem ml.nodup{i:Nat}{vals:List TV}{as us:List Value}{K:List (GP×Addr)}(h:ml w i vals as K us):ix (K.map λx=>x.1.i)=true/\∀x∈K,i<=x.1.i:=by
 induction h with
 | nil=>exact⟨rfl,λx hx=>by simp at hx⟩
 | ptr hr hb hs h0 hh hu hc hok h ih=>
  refine⟨?_,λx hx=>?_⟩
  ·simp only[List.map_cons,ix,oBA,Bool.not_eq_true',List.contains_eq_mem,decide_eq_false_iff_not];refine⟨λhm=>?_,ih.1⟩;obtain⟨y,hy,e⟩:=List.mem_map.1 hm;have:=ih.2 y hy;omega
  ·rcases List.mem_cons.1 hx with rfl | hx
   ·exact Nat.le_refl _
   ·have:=ih.2 x hx;omega
 | arg ha h ih=>exact⟨ih.1,λx hx=>by have:=ih.2 x hx;omega⟩
 | own h ih=>exact⟨ih.1,λx hx=>by have:=ih.2 x hx;omega⟩
theorem BT{K:List (GP×Addr)}(hnd:ix (K.map λx=>x.1.i)=true):∀x∈K,prK K (2*x.1.i+2)=some (x.2.block,x.2.off,x.1.cells.length):=by
 induction K with
 | nil=>intro x hx;simp at hx
 | cons y K ih=>
  intro x hx;obtain⟨g,ad⟩:=y;simp only[List.map_cons,ix,oBA,Bool.not_eq_true',List.contains_eq_mem,decide_eq_false_iff_not] at hnd;simp only[prK];rcases List.mem_cons.1 hx with rfl | hx
  ·simp
  ·rw[oIN]
   ·exact ih hnd.2 x hx
   ·intro e;exact hnd.1 (List.mem_map.2 ⟨x,hx,by omega⟩)
theorem uR{α β:Type}{K:List (GP×Addr)}{f:GP×Addr->List α}{g:GP×Addr->List β}(h:∀x∈K,(f x).length=(g x).length):(K.flatMap f).length=(K.flatMap g).length:=by
 induction K with
 | nil=>rfl
 | cons x K ih=>simp only[List.flatMap_cons,List.length_append];rw[h x (by simp),ih λy hy=>h y (by simp[hy])]
theorem rf{α β:Type}:∀{a:List α}{b c:List β},a.length<=b.length->a.zip (b++c)=a.zip b:=by
 intro a
 induction a with
 | nil=>intro b c _;simp
 | cons x a ih=>
  intro b c h
  cases b with
  | nil=>simp at h
  | cons y b=>simp only[List.cons_append,List.zip_cons_cons];rw[ih (by simpa using h)]
def lL(σ:St) (x:GP×Addr):List TV:=(ca σ.ce (2*x.1.i+2)).getD []
def o8(σ:St) (G:Gh) (w:World) (x:GP×Addr):List Value:=(List.range (lL σ x).length).map (G.val w (2*x.1.i+2))
theorem ml.hands2{vals:List TV}{as us:List Value}{K:List (GP×Addr)}{N:Nat}{σ2:St}{res ys:_}{ts2:Array Value}{w2:World}{G2:Gh}(h:ml w 0 vals as K us) (hpos:∀x∈K,0 < x.1.cells.length)
 (h2:Inv (M.into w G (prK K) N) σ2 res ys ts2 w2 G2) (hlen:∀x∈K,(lL σ2 x).length=x.1.cells.length) :
 A7 res ys (res++K.flatMap (lL σ2)) (ys++K.flatMap (o8 σ2 G2 w2)) (b8 (M.into w G (prK K) N) σ2 res) G2 w2 (prK K) (λr=>res.length+bsK K r):=by
 have hlv:∀x∈K,(o8 σ2 G2 w2 x).length=x.1.cells.length:=λx hx=>by simp[o8,hlen x hx]
 refine⟨?_,λj hj=>⟨by simp;omega,List.getElem_append_left hj,?_⟩,λr b o n hp t ht=>?_,λj hj=>?_,λr b o n r' b' o' n' hp hp' j j' hj hj' e=>A4 _ _ _ _ _ _ _ _ hp hp' j j' hj hj' (by omega)⟩
 ·rw[List.length_append,List.length_append,h2.hand,uR (f:=lL σ2) (g:=o8 σ2 G2 w2) λx hx=>by rw[hlen x hx,hlv x hx]]
 ·rw[oGD,oGD,List.getElem?_append_left (by rw[<- h2.hand];exact hj)]
 ·obtain⟨x,x1,x2,x3,x4,x5,x6,x7⟩:=sw hlen hp;obtain⟨y,y1,y2,y3,y4,y5,y6,y7⟩:=sw hlv hp;have hxy:x=y:=l8 h.nodup.1 x1 y1 (by omega);subst hxy
  have htl:t < (lL σ2 x).length:=by rw[hlen x x1];omega
  have e1:=x7 t ht;rw[oGE htl] at e1;obtain⟨k1,k2⟩:=oGS e1;refine⟨by rw[List.length_append];omega,by omega,?_,?_⟩
  ·have e2:(res++K.flatMap (lL σ2))[res.length+bsK K r+t]'(by rw[List.length_append];omega)=(K.flatMap (lL σ2))[bsK K r+t]:=by
    rw[List.getElem_append_right (by omega)];congr 1;omega
   rw[e2,k2]
   rw[b6 (by have:r≠1:=by omega
             exact this)]
   unfold St.c
   have hb:lL σ2 x=(ca σ2.ce r).getD []:=by rw[x2];rfl
   cases ha:ca σ2.ce r with
   | none=>rw[hb,ha] at htl;simp at htl
   | some l=>
    simp only[hb,ha,Option.getD_some] at htl ⊢;simp[htl]
  ·have e3:=y7 t ht;rw[oGD,List.getElem?_append_right (by rw[<- h2.hand];omega)];rw[show res.length+bsK K r+t - ys.length=bsK K r+t by rw[<- h2.hand];omega];rw[e3,x2];simp[o8,htl]
 ·by_cases hj1:j < res.length
  ·exact .inl hj1
  ·right;have hc:(K.flatMap (lL σ2)).length=(fJ K).length:=uR hlen;obtain⟨r,b,o,n,t,c1,c2,c3⟩:=Dd h.nodup.1 (j:=j - res.length) (by rw[List.length_append] at hj;omega);exact⟨r,b,o,n,t,c1,c2,by omega⟩
theorem xM:∀{l:List TV}{p:bQ}{σ σ':St},p.hops=[]->(putL p l).run σ=some ((),σ')->(∀o,o < p.off->σ'.c p.root o=σ.c p.root o)/\∀t (h:t < l.length),σ'.c p.root (p.off+t)=l[t]:=by
 intro l
 induction l with
 | nil=>
  intro p σ σ' _ h;simp only[putL,SP.run,oSJ,oPJ,true_and] at h;subst h;exact⟨λ_ _=>rfl,λt h=>by simp at h⟩
 | cons y l ih=>
  intro p σ σ' hp h;obtain⟨r,off,hops⟩:=p;simp only at hp;subst hp;simp only[putL] at h;obtain⟨_,σ1,h1,h2⟩:=bG h
  have hone:(∀o,o≠off->σ1.c r o=σ.c r o)/\σ1.c r off=y:=by
   obtain⟨old,l1,vr,hg,hl,ho,hσ1,_⟩:=uz h1;simp only at hl ho hσ1;subst hσ1;refine⟨λo hne=>?_,?_⟩
   ·simp only[St.c,cq,if_true,hl];simp[List.getElem?_set,Ne.symm hne]
   ·simp only[St.c,cq,if_true];simp[dF,List.getElem?_set,ho]
  cases l with
  | nil=>
   simp only[SP.run,oSJ,oPJ,true_and] at h2;subst h2;refine⟨λo ho=>hone.1 o (by simp only at ho;omega),λt ht=>?_⟩
   have:t=0:=by simp at ht;omega
   subst this;exact hone.2
  | cons y2 l=>
   simp only[bQ.fits,List.reverse_nil,if_true] at h2;have hadd:(⟨r,off,[]⟩:bQ).add 1=⟨r,off+1,[]⟩:=rfl;rw[hadd] at h2;obtain⟨k1,k2⟩:=ih (p:=⟨r,off+1,[]⟩) rfl h2;refine⟨λo ho=>?_,λt ht=>?_⟩
   ·simp only at ho;exact (k1 o (by show o < off+1;omega)).trans (hone.1 o (by omega))
   ·cases t with
    | zero=>exact (k1 off (by show off < off+1;omega)).trans hone.2
    | succ t=>
     have:=k2 t (by simpa using ht);show σ'.c r (off+(t+1))=_;rw[show off+(t+1)=off+1+t by omega];simpa using this
theorem rE{x:GP×Addr}{f:GP×Addr->List TV}(hx:x.1.p.hops=[]) (h:(putBack ([x].map λx=>(x.1,f x))).run σ=some ((),σ')):∀t,t < (f x).length->σ'.c x.1.p.root (x.1.p.off+t)=(f x).getD t .dead:=by
 intro t ht;simp only[List.map_cons,List.map_nil,putBack] at h;obtain⟨_,σ1,h1,h2⟩:=bG h;split at h2
 ·rw[(xM hx h2).2 t ht];simp[ht]
 ·simp[SP.run] at h2
theorem u4{F:cS}(hF:ga P F) {as:List Value}{vals:List TV}{ns:List (Option Nat)}{fid:FuncId}{σ1:St}{G1:Gh}(hd:∀d,o.dst=some d->d < M.N/\M.pr (2*d+2)=none) (hI1:Inv M σ1 [] [] a.tmps w G1) (hns:ns.length=vals.length) (hal:as.length=vals.length)
 (hvt:∀j (h:j < vals.length) (h':j < as.length),TmR w (G1.F M.A) σ1.v (b8 M σ1 []) G1 vals[j] as[j]) (h2:(callV F o.dst fid ns vals).run σ1=some ((),σ')) (hexec:jT P fid->(execOp a.eval o).run P w=.ok (.enter fid as.toArray) w):Cz P M σ' a o w:=by
 intro K' Q hK;unfold callV at h2;obtain⟨ow,σ0,h3o,h2⟩:=bG h2;obtain⟨q,σ2,h3,h4⟩:=bG h2
 have hzl:(ns.zip vals).length=vals.length:=by simp[hns]
 have hz2:(ns.zip vals).map (·.2)=vals:=by
  rw[List.map_snd_zip];omega
 have hzt:∀{σ1:St} {H1:List TV} {G1:Gh},(∀j (h:j < vals.length) (h':j < as.length),TmR w (G1.F M.A) σ1.v (b8 M σ1 H1) G1 vals[j] as[j])->∀j (h:j < (ns.zip vals).length) (h':j < as.length),TmR w (G1.F M.A) σ1.v (b8 M σ1 H1) G1 (ns.zip vals)[j].2 as[j]:=λh j h1 h2=>by
  have hj:j < vals.length:=by rw[<- hzl];exact h1
  have:=h j hj h2;simpa using this
 obtain⟨zs,G0,hg0,hor,hocov⟩:=sU hI1 (by omega) (hzt hvt) h3o;obtain⟨us,G2,K,hg2',hKq,hrel,htmK⟩:=Al (as:=as) hg0.1 (by omega) (hzt λj h h'=>hg0.tm (hvt j h h')) h3;have hpk:=Ak h3;have hg2:=hg0.trans hg2';rw[hz2] at hrel;obtain⟨_,σ3,h5,h6⟩:=bG h4
 have hHand:([]:List TV)++ow.map (·.2)++q.flatMap (·.cells)=ow.map (·.2)++fJ K:=by rw[<- hKq];simp[fJ,List.flatMap_map]
 rw[hHand,List.nil_append] at hg2;rw[hHand] at htmK;have hz:zs.length=ow.length:=hor.facts.1
 have hpk2:∀j p vs,vals[j]?=some (.pk p vs)->∃x∈ow,x.1=j:=λj p vs hj=>by
  obtain⟨hjl,hje⟩:=oGS hj
  have hjn:j < ns.length:=by omega
  have hzj:(ns.zip vals)[j]?=some (ns[j],.pk p vs):=by
   rw[oGE (by omega)];simp[hje]
  have hn:=hpk j _ p vs hzj;rw[hn] at hzj;obtain⟨x,h7,h8⟩:=hocov j p vs hzj;exact⟨x,h7,by omega⟩
 obtain⟨rfl,hre⟩:=zT hg2.1 h5;split at h6
 case isFalse=>simp[SP.run] at h6
 rename_i hck;simp only[oBA,List.all_eq_true,oDE] at hck;obtain⟨hnd,hpos⟩:=hck;have hposK:∀x∈K,0 < x.1.cells.length:=λx hx=>hpos x.1 (by rw[<- hKq];exact List.mem_map_of_mem hx)
 have hvals:∀j (h:j < vals.length) (h':j < as.length),TmR w (G2.F M.A) σ3.v (b8 M σ3 (ow.map (·.2)++fJ K)) G2 vals[j] as[j]:=λj h h'=>by
  have:=hg2.tm (hvt j h (by omega));simpa using this
 have hfact:∀x∈K,x.1.p.root≠1/\G2.addr w x.1.p=some x.2/\(∃t,bZ (b8 M σ3 (ow.map (·.2)++fJ K) x.1.p.root x.1.p.off) x.1.p.hops=some t)/\((∃o n,G2.β x.1.p.root=some (x.2.block,o,n))\/G2.φ x.1.p.root x.1.p.off x.2.block):=λx hx=>by
  obtain⟨r1,ad,r2,r3,_,r4,r5⟩:=hre x.1 (by rw[<- hKq];exact List.mem_map_of_mem hx) _ (htmK x hx)
  injection r2 with r2
  injection r2 with r2
  subst r2;exact⟨r1,r3,r4,r5⟩
 have hh:=hrel.hands hg2.1 hor (by rw[hKq];exact hnd) hposK λx hx=>⟨(hfact x hx).1,(hfact x hx).2.2.2⟩;obtain⟨r,σ4,h7,h8⟩:=bG h6
 have hFr:F fid (argTs 0 vals) (q.map (λg=>(2*g.i+2,g.cells))++ow.map λx=>(2*x.1+3,[x.2]))=some r/\σ4=σ3:=by
  cases hq:F fid (argTs 0 vals) (q.map (λg=>(2*g.i+2,g.cells))++ow.map λx=>(2*x.1+3,[x.2])) with
  | none=>rw[hq] at h7;simp[eZ,SP.run] at h7
  | some r'=>
   rw[hq] at h7;simp only[eZ,SP.run,oSJ,oPJ] at h7;exact⟨by rw[h7.1],h7.2.symm⟩
 obtain⟨hFr,rfl⟩:=hFr;obtain⟨res,pts'⟩:=r;simp only at h8;split at h8
 case isFalse=>simp[SP.run] at h8
 rename_i hck2;simp only[oBA,oDE] at hck2;obtain⟨_,σ5,h9,h10⟩:=bG h8;obtain⟨hent,N,hN,hcal⟩:=hF fid _ _ _ _ hFr;rw[sJ] at hN
 have hpts:(q.map (λg=>(2*g.i+2,g.cells))++ow.map λx=>(2*x.1+3,[x.2]))=ceK K++ceO ow:=by rw[<- hKq];simp[ceK,ceO]
 have hin:=hrel.enter hg2.1 hor hpk2 hh hvals (N:=N) (by omega)
 have hcalls:=hcal (M.into w G2 (prK K) N) as w (G2.into (prK K) (λr=>ow.length+bsK K r) (owK ow) (zs++us)) (by rw[sJ];exact hal) rfl rfl (λr hr=>by
  have hr:prK K r≠none:=hr
  cases hp:prK K r with
  | none=>exact absurd hp hr
  | some y=>
   obtain⟨b,o,n⟩:=y;obtain⟨x,x1,x2,_⟩:=f8 hp;obtain⟨_,_,p,vs,s1⟩:=hrel.slot x x1;refine⟨x.1.i,⟨2*x.1.i+2,0,p.hops⟩,List.replicate (p.hops.length+1) 0,?_,x2⟩;rw[sK];have s1:vals[x.1.i]?=some (.ptr p vs):=s1;rw[s1]
   simp[argT]) (by rw[hpts];exact hin)
 have hrun:=hexec hent;unfold Oper.wp;rw[hrun,Oper.upon_enter];refine hcalls.mono λe w2 ⟨v,σc,he,hback,hpts'⟩=>?_;subst he;simp only
 have hzip:q.zip (pts'.map (·.2))=K.map λx=>(x.1,lL σc x):=by
  rw[hpts',hpts,<- hKq];simp only[ceK,List.map_append,List.map_map];rw[rf (by simp),List.zip_map'];rfl
 rw[hzip] at h9;have hlenK:∀x∈K,(lL σc x).length=x.1.cells.length:=λx hx=>tg h9 _ (List.mem_map.2 ⟨x,hx,rfl⟩);have hmem:=BT hrel.nodup.1
 have hlt:∀x∈K,x.2.block < w.heap.size:=λx hx=>by
  obtain⟨cur,e,fz,hb,_⟩:=j8 (hh.here _ _ _ _ (hmem x hx) 0 (hposK x hx)).1;exact (Array.getElem?_eq_some_iff.1 hb).1
 have hinj:∀x∈K,∀y∈K,x.2.block=y.2.block->x=y:=λx hx y hy e=>by
  have h1:=hmem x hx;have h2:=hmem y hy;rw[<- e] at h2;have:=hh.inj _ _ _ _ _ _ _ h1 h2;exact l8 hrel.nodup.1 hx hy (by omega)
 have back:∀{Hc:List TV} {ys:List Value} {ts2:Array Value} {Gc:Gh},Inv (M.into w G2 (prK K) N) σc Hc ys ts2 w2 Gc->∃G4,Inv M σ5 Hc ys a.tmps w2 G4/\G4.β=G2.β:=by
  intro Hc ys ts2 Gc hIc;have hH2:=hrel.hands2 (M:=M) (G:=G2) (N:=N) hposK hIc hlenK;have hsz:w.heap.size<=w2.heap.size:=hIc.fram.size
  obtain⟨G3,hI3,hm3,hβ3⟩:=hg2.1.leave hh hIc hH2 (w':=RWs w K w2) AH ra.1 ra.2.1 ra.2.2 (λk hk=>Di λx hx=>hk _ _ _ _ (hmem x hx)) (λr b o n hp=>by
   obtain⟨x,x1,x2,x3,_⟩:=f8 hp;rw[x3]
   exact Dj (hlt x x1) (Nat.lt_of_lt_of_le (hlt x x1) hsz) ⟨x,x1,rfl⟩)
  obtain⟨G4,hI4,htm4,hm4,hβ4⟩:=vG (w:=w) (f:=lL σc) (v:=o8 σc Gc w2) (λx=>by simp[o8]) (K:=K) (W:=w2) hIc.hand hI3 (λx hx=>by
   have hp:=hmem x hx;obtain⟨hβ,cur0,cur,e,fz,p1,p2,p3,p4⟩:=hIc.fram.par _ _ _ _ hp
   have hvl2:(o8 σc Gc w2 x).length=x.1.cells.length:=by simp[o8,hlenK x hx]
   refine⟨cur0,cur,e,fz,p1,p2,p3,λj hj=>p4 j (by rw[hvl2] at hj;exact hj),λj hj=>?_⟩;have hcb:=hIc.core.boxcell hβ (o:=j) (by omega);obtain⟨cur',e',fz',c1,c2,c3⟩:=j8 hcb;rw[p2] at c1
   injection c1 with c1
   injection c1 with c1 _ _
   subst c1;rw[c3]
   simp[o8]) (λx hx e=>by have h1:=hlenK x hx;have h2:=hposK x hx;rw[e,List.length_nil] at h1;omega) hinj (by rw[<- hKq] at hnd;simpa [Function.comp_def] using hnd) (λx hx=>by
   obtain⟨r1,r2,⟨t,r3⟩,_⟩:=hfact x hx;obtain⟨t',k1,k2⟩:=hm3.keeps.ptr x.1.p x.2 t r1 rfl r2 r3
   exact⟨r1,k1,t',k2⟩) h9
  exact⟨G4,hI4,hβ4.trans hβ3⟩
 rcases hback with ⟨ys,ts2,Gc,rfl,hIc,hokc⟩ | ⟨pl,pvs,fl,pv,ts2,Gc,hcells,⟨shr,hsh⟩,hfl,rfl,hIc,hpl⟩
 ·obtain⟨G4,hI4,_⟩:=back hIc
  have hP:isP res=false:=by
   cases hp:isP res with
   | false=>rfl
   | true=>
    unfold isP at hp;split at hp
    ·rename_i sh1 p vs l1 e1 e2;have:=hokc 0 (by rw[e2];simp);simp[e2,cJ,g9] at this
    ·cases hp
  rw[hP] at h10 hck2;simp only[Bool.false_eq_true,if_false,Bool.false_or] at h10 hck2;obtain⟨G5,hI5⟩:=B5 hI4 hokc hck2.2 (dst:=o.dst) (λd hd'=>(hd d hd').1) h10;refine hK (a.put o.dst (iQ res.sh ys)) w2 G5 ?_ (gK _ _ _)
  cases hdst:o.dst with
  | none=>rw[hdst] at hI5;exact hI5
  | some d=>rw[hdst] at hI5;exact hI5
 ·obtain⟨G4,hI4,hβ4⟩:=back hIc
  have hP:isP res=true:=by unfold isP;rw[hcells,hsh]
  rw[hP] at h10;simp only[if_true] at h10
  have hfin:∃G5,Inv M σ' [] [] (match o.dst with | some d=>a.tmps.setIfInBounds d (pq pv (fl.map unV)) | none=>a.tmps) w2 G5:=by
   cases hdst:o.dst with
   | none=>
    rw[hdst] at h10;simp only[landP,SP.run,oSJ,oPJ,true_and] at h10;subst h10;exact⟨G4,hI4⟩
   | some d=>
    rw[hdst,hcells] at h10;simp only[landP] at h10;split at h10
    case h_2=>simp[SP.run] at h10
    rename_i pl' vs' l' g hq1 hq2
    injection hq1 with hq1 hql
    injection hq1 with hq1 _
    subst hq1;subst hql;split at h10
    case isFalse=>simp[SP.run] at h10
    rename_i hck3;simp only[oBA,beq_iff_eq,List.isEmpty_iff] at hck3;obtain⟨hroot,hgh⟩:=hck3;obtain⟨nvs,σ6,h11,h12⟩:=bG h10;rw[nc,kL] at h11
    injection h11 with h11
    injection h11 with h11 h13
    subst h11;subst h13;simp only[wr,SP.run,oSJ,oPJ,true_and] at h12;subst h12;obtain⟨x,rfl⟩:∃x,K=[x]:=List.length_eq_one_iff.1 (by have:=congrArg List.length hKq;simpa using this)
    have hxg:x.1=g:=by simpa using hKq
    have hxm:x∈[x]:=by simp
    obtain⟨r1,r2,_,_⟩:=hfact x hxm;have hp:=hmem x hxm;obtain⟨hβc,_⟩:=hIc.fram.par _ _ _ _ hp
    have hhx:x.1.p.hops=[]:=by rw[hxg];exact hgh
    have hroot':pl.root=2*x.1.i+2:=by rw[hxg];exact hroot
    obtain⟨b0,o0,n0,hβ0,had0⟩:∃b0 o0 n0,G4.β x.1.p.root=some (b0,o0,n0)/\x.2=⟨b0,o0+x.1.p.off,none⟩:=by
     rw[hβ4];unfold Gh.addr at r2;rw[hhx] at r2;simp only at r2
     cases hb:G2.β x.1.p.root with
     | none=>rw[hb] at r2;simp at r2
     | some y=>
      obtain⟨b0,o0,n0⟩:=y;rw[hb] at r2
      injection r2 with r2
      exact⟨b0,o0,n0,rfl,r2.symm⟩
    have hcellpos:=rE hhx h9;refine⟨G4,hI4.wrT (hd d hdst).1 (xu (.ptr _ (λ_=>Nat.le_refl _) rfl λ_=>?_) hfl)⟩;rw[<- hxg];obtain⟨_,ad,t,ha,hv,ht⟩:=hpl;refine⟨r1,ad,?_⟩
    have hval:G4.val w2 x.1.p.root (x.1.p.off+pl.off)=Gc.val w2 pl.root pl.off:=by
     unfold Gh.val;rw[hβ0,hroot',hβc];simp only[had0,Nat.add_assoc]
    cases hho:pl.hops with
    | nil=>
     rw[hho] at ht;refine⟨_,?_,hv,rfl⟩;rw[<- ha];unfold Gh.addr;simp only[hho,hβ0,hroot',hβc,had0,Nat.add_assoc]
    | cons h1 hs=>
     rw[hho] at ht;refine⟨t,?_,hv,?_⟩
     ·rw[<- ha];unfold Gh.addr;simp only[hho];rw[hval]
     ·have hne1:x.1.p.root≠M.hr:=r1;rw[b6 hne1]
      have hoff:pl.off < x.1.cells.length:=by
       rcases Nat.lt_or_ge pl.off x.1.cells.length with h | h
       ·exact h
       ·have:=hIc.core.boxc _ _ _ _ hβc pl.off h;rw[hroot'] at ht;rw[this] at ht;simp[bZ] at ht
      have hc2:=hcellpos pl.off (by rw[hlenK x hxm];exact hoff)
      have hc3:b8 (M.into w G2 (prK [x]) N) σc [] pl.root pl.off=(lL σc x).getD pl.off .dead:=by
       rw[hroot',b6 (by show 2*x.1.i+2≠1;omega)];unfold lL St.c
       cases ca σc.ce (2*x.1.i+2) with
       | none=>simp
       | some l=>rfl
      rw[hc3] at ht;rw[hc2];exact ht
  obtain⟨G5,hI5⟩:=hfin;refine hK (a.put o.dst (pq pv (fl.map unV))) w2 G5 ?_ (gK _ _ _)
  cases hdst:o.dst with
  | none=>rw[hdst] at hI5;exact hI5
  | some d=>rw[hdst] at hI5;exact hI5
theorem jy{fid:FuncId}{args':Array Operand}{caps:Array Value}{fo:Operand}{atys:Array TypeId}(ho:o.op=.call ⟨.value fo,args',atys⟩) (hv:a.eval fo=.func (.func fid) #[] caps) (hent:jT P fid) :
 (execOp a.eval o).run P w=.ok (.enter fid (args'.map a.eval++caps)) w:=by
 unfold execOp;rw[ho];simp only[resolve,Sem.run_bind];rw[hv];simp only[Deferred.ofValue,Sem.run_pure,Result.andThen_ok,invoke];have:=hent (args'.map a.eval++caps) w;simpa using this
theorem Ar{E:Env}(hB:zf P E) {as:List Value}{vals:List TV}{fid:FuncId}{n:Nat}{tm:List BxC}(hbx:E.box fid=some (n,tm)) (hn:vals.length=n) {σ1:St}{G1:Gh}(hd:∀d,o.dst=some d->d < M.N/\M.pr (2*d+2)=none) (hI1:Inv M σ1 [] [] a.tmps w G1) (hal:as.length=vals.length)
 (hvt:∀j (h:j < vals.length) (h':j < as.length),TmR w (G1.F M.A) σ1.v (b8 M σ1 []) G1 vals[j] as[j]) (h2:(evBox o.dst tm vals).run σ1=some ((),σ')) (hexec:jT P fid->(execOp a.eval o).run P w=.ok (.enter fid as.toArray) w):Cz P M σ' a o w:=by
 intro K' Q hK;obtain⟨hent,hfl,ty,hcal⟩:=hB fid n tm hbx
 cases hdst:o.dst with
 | none=>rw[hdst] at h2;simp[evBox,SP.run] at h2
 | some d=>
  rw[hdst] at h2;obtain⟨hdN,hpr⟩:=hd d hdst;simp only[evBox] at h2;obtain⟨l,σ2,h3,h4⟩:=bG h2
  obtain⟨hll,hone,G2,hg2⟩:=jV (ys:=tm.map (bxV as)) hI1 (by simp) (λj h=>by
   have hj:j < tm.length:=by simpa using h
   simp only[List.getElem_map,oGD,List.getElem?_map,oGE hj,oMS,Option.getD_some]
   cases hb:tm[j] with
   | val x=>exact .v (hfl x (by rw[<- hb];exact List.getElem_mem hj))
   | arg i=>
    simp only[bxT,bxV];by_cases hi:i < vals.length
    ·have:=hvt i hi (by omega);simpa [hi,show i < as.length by omega] using this
    ·have:vals.getD i .dead=.dead:=by simp[oGD,oGN (by omega:vals.length<=i)]
     rw[this];exact .dead) h3
  simp only[List.nil_append] at hg2;obtain⟨G3,hI3,_,hβ⟩:=hg2.1.newBox (2*d+2) ty (by omega) hpr (by omega);have hr':(wr d (.ptr ⟨2*d+2,0,[]⟩ [(σ2.root (2*d+2) l).v (2*d+2,0,0)])).run (σ2.root (2*d+2) l)=some ((),σ'):=h4;simp only[wr,SP.run,oSJ,oPJ,true_and] at hr';subst hr';unfold Oper.wp;rw[hexec hent,Oper.upon_enter];refine (hcal as w (by omega) hone).mono λe w2 ⟨he,hw⟩=>?_;subst he;subst hw;simp only;refine hK (a.put o.dst (.pointer (some ⟨w.heap.size,0,none⟩))) _ G3 ?_ (gK _ _ _);rw[hdst];refine hI3.wrT hdN (.ptr (σ2.root (2*d+2) l).v (λ_=>Nat.le_refl _) (by simp[fe]) λ_=>⟨by show (2*d+2:Nat)≠1;omega,⟨w.heap.size,0,none⟩,_,?_,rfl,rfl⟩);unfold Gh.addr;simp only[hβ]
theorem ut{E:Env}{F:cS}(hB:zf P E) (hF:ga P F):oA P M fH (evCall E F):=by
 intro o t σ σ' a w G hc hd hI hr;rcases hc with rfl | hc
 ·simp[evop,evCall,Cl,SP.run] at hr
 cases ho:o.op with
 | call c=>
  rw[ho] at hc;obtain⟨callee,args,atys⟩:=c
  cases callee with
  | value fo=>
   cases t with
   | call k f' args'=>
    simp only[jH] at hc;obtain⟨hf,hlen,hargs⟩:=hc;simp only[evop] at hr
    cases f' with
    | f fid=>
     have hfo:fo=.func fid:=by cases fo<;>simp[bJ] at hf;rw[hf]
     have hex:∀fid,fo=.func fid->jT P fid->(execOp a.eval o).run P w=.ok (.enter fid (args.toList.map a.eval).toArray) w:=λfid hfo hent=>by
      have:=jy (a:=a) (w:=w) ho (by rw[hfo];rfl:a.eval fo=.func (.func fid) #[] #[]) hent
      have ea:(args.toList.map a.eval).toArray=args.map a.eval:=by apply Array.ext';rw[Array.toList_map]
      rw[ea];simpa using this
     have hex:=hex fid hfo;simp only[evCall] at hr
     cases k with
     | false=>
      simp only[Bool.false_eq_true,if_false] at hr;obtain⟨vals,σ1,h1,h2⟩:=bG hr;obtain⟨rfl,hvl,hvt⟩:=zN (l':=args.toList) hI (by simp[hlen]) (λj h h'=>by have:=hargs j (by simpa using h) (by simpa using h');simpa using this) h1
      have hvl':vals.length=args'.length:=by rw[hvl];simp
      exact Az hF hd hI (by simp;omega) (λj h h'=>by have:=hvt j h (by simpa using h');simpa using this) h2 hex
     | true=>
     simp only[if_true] at hr;obtain⟨vals,σ1,h1,h2⟩:=bG hr;obtain⟨G1,hg1,hvl,hvt⟩:=u7 (l':=args.toList) hI (by simp[hlen]) (λj h h'=>by have:=hargs j (by simpa using h) (by simpa using h');simpa using this) h1;have hvl':vals.length=args'.length:=hvl;split at h2
     ·rename_i x hbx;split at h2
      case isFalse=>simp[SP.run] at h2
      rename_i hn;exact Ar hB hbx hn hd hg1.1 (by simp;omega) (λj h h'=>by have:=hvt j h (by simpa using h');simpa using this) h2 hex
     ·exact u4 hF hd hg1.1 (by simp;omega) (by simp;omega) (λj h h'=>by have:=hvt j h (by simpa using h');simpa using this) h2 hex
    | t i=>
     simp only[evCall,SP.run] at hr;split at hr
     case h_2=>simp[SP.run] at hr
     rename_i fid caps htv;obtain⟨vals,σ1,h1,h2⟩:=bG hr;obtain⟨G1,hg1,hvl,hvt⟩:=u7 (l':=args.toList) hI (by simp[hlen]) (λj h h'=>by have:=hargs j (by simpa using h) (by simpa using h');simpa using this) h1;have hvl':vals.length=args'.length:=hvl
     have hfo:fo=.tmp i:=by cases fo<;>simp[bJ] at hf;rw[hf]
     have htm:=hI.tmr i;rw[htv] at htm
     have hev:a.eval fo=a.tmps.getD i undef:=by rw[hfo];rfl
     generalize hz:a.tmps.getD i undef=z at htm hev
     cases htm with
     | @fn _ _ xs hcl hct=>
      have hex:jT P fid->(execOp a.eval o).run P w=.ok (.enter fid (args.toList.map a.eval++xs.toList).toArray) w:=λhent=>by
       have:=jy (a:=a) (w:=w) ho hev hent
       have ea:(args.toList.map a.eval++xs.toList).toArray=args.map a.eval++xs:=by apply Array.ext';simp
       rw[ea];exact this
      have hcl':xs.toList.length=caps.length:=by simpa using hcl
      exact u4 hF hd hg1.1 (by simp[yP];omega) (by simp;omega) (λj h h'=>by
       by_cases hj:j < vals.length
       ·have:=hvt j hj (by simp;omega);simpa [List.getElem_append_left,hj,List.getElem_append,show j < args.size by omega] using this
       ·have hj2:j - vals.length < caps.length:=by simp at h;omega
        have:=hg1.tm (hct (j - vals.length) hj2)
        have hj3:¬ j < args.size:=by omega
        have e1:args.size=vals.length:=by omega
        simp only[List.getElem_append,hj,dite_false,List.length_map,Array.length_toList,hj3,Array.getElem_toList];simp only[e1]
        have e2:xs.getD (j - vals.length) undef=xs[j - vals.length]:=by simp[Array.getD_eq_getD_getElem?,show j - vals.length < xs.size by omega]
        rw[<- e2]
        exact this) h2 hex
    | _=>simp[evCall,SP.run] at hr
   | _=>simp[jH] at hc
  | _=>cases t<;>simp[jH] at hc
 | _=>rw[ho] at hc;cases t<;>simp[jH] at hc
end
theorem jU{P:Program}{ops:Array Oper}{Q:Exit->Act->World->Prop}{i:Nat}{L:List Nat}{a:Act}{w:World}{o:Oper}{v:Value}(ho:ops[i]?=some o) (hg:o.guard=none) (hrun:(execOp a.eval o).run P w=.ok (.value v) w) (h:wpOps P ops Q L (a.put o.dst v) w):wpOps P ops Q (i :: L) a w:=by
 simp only[wpOps,ho];rw[oIP (by simp[Region.wanted,hg])];left;unfold Oper.wp;rw[hrun];exact h
structure ze (P:Program) (c rest:Code):Prop where
 ex:∃(i0 i1 i2:Nat) (o0 o1 o2 o3:Oper) (ty ty2 e:TypeId),c=.seq (.region i0 #[o0] false) (.seq (.seq (.region i1 #[o1,o2] false) (.cond (.tmp 4) (.seq (.region i2 #[o3] false) .ret) .skip)) rest) /\
  (o0.dst=some 2/\o0.guard=none/\o0.op=.assign (.const (.slice none 0 0)))/\(o1.dst=some 3/\o1.guard=none/\o1.op=.move (.tmp 0)) /\
  (o2.dst=some 4/\o2.guard=none/\o2.op=.binOp .eql ty (.tmp 3) (.const (.slice none 0 0)) ty2)/\(o3.dst=some 2/\o3.guard=none/\o3.op=.assign (.const (.slice none 0 0)))/\P.underlying ty=some (.slice e)
def oj(ts:Array Value) (x:Value) (b:Bool):Array Value:=((ts.setIfInBounds 2 (.slice none 0 0)).setIfInBounds 3 x).setIfInBounds 4 (.bool b)
theorem Ax{P:Program}{c rest:Code}(hc:ze P c rest) {ad:Option Addr}{n cap:Nat}{ts:Array Value}{w:World}{Q:Exit->Act->World->Prop}(h0:ts.getD 0 undef=.slice ad n cap) (hN:4 < ts.size)
 (hnil:ad=none->Q .ret ⟨(oj ts (.slice ad n cap) true).setIfInBounds 2 (.slice none 0 0),[]⟩ w) (hrest:ad≠none->rest.wp P Q ⟨oj ts (.slice ad n cap) false,[]⟩ w):c.wp P Q ⟨ts,[]⟩ w:=by
 obtain⟨i0,i1,i2,o0,o1,o2,o3,ty,ty2,e,rfl,⟨d0,g0,p0⟩,⟨d1,g1,p1⟩,⟨d2,g2,p2⟩,⟨d3,g3,p3⟩,hu⟩:=hc.ex
 have run_a:∀{o:Oper} {a:Act} {x:Operand},(o.op=.assign x\/o.op=.move x)->(execOp a.eval o).run P w=.ok (.value (a.eval x)) w:=λho=>by rcases ho with ho | ho<;>simp[execOp,ho]
 refine wp_seq (wp_region ?_);show wpOps P #[o0] _ [0] _ w;refine jU (o:=o0) rfl g0 (run_a (.inl p0)) ?_;rw[d0];refine wp_seq (wp_seq (wp_region ?_));show wpOps P #[o1,o2] _ [0,1] _ w;refine jU (o:=o1) rfl g1 (run_a (.inr p1)) ?_;rw[d1]
 have e0:(ts.setIfInBounds 2 (.slice none 0 0)).getD 0 undef=.slice ad n cap:=by
  rw[<- h0];simp[Array.getD_eq_getD_getElem?,Array.getElem?_setIfInBounds]
 have e3:((ts.setIfInBounds 2 (.slice none 0 0)).setIfInBounds 3 (.slice ad n cap)).getD 3 undef=.slice ad n cap:=by
  simp[Array.getD_eq_getD_getElem?,Array.getElem?_setIfInBounds,show 3 < ts.size by omega]
 have hrun2:(execOp (Act.mk ((ts.setIfInBounds 2 (.slice none 0 0)).setIfInBounds 3 (.slice ad n cap)) []).eval o2).run P w=.ok (.value (.bool ad.isNone)) w:=by
  have hb:=Lib.run_eql_slice_nil (P:=P) w ty e ad n cap 0 0 hu;have ex:(Act.mk ((ts.setIfInBounds 2 (.slice none 0 0)).setIfInBounds 3 (.slice ad n cap)) []).eval (.tmp 3)=.slice ad n cap:=e3;have ey:∀a:Act,a.eval (.const (.slice none 0 0))=.slice none 0 0:=λ_=>rfl;have hg:(eqGuard .eql ty (.tmp 3) (.const (.slice none 0 0)) (.slice ad n cap) (.slice none 0 0)).run P w=.ok () w:=rfl;simp[execOp,p2,ex,ey,hb,hg]
 refine jU (o:=o2) (v:=.bool ad.isNone) rfl g2 ?_ ?_
 ·show (execOp (Act.mk ((ts.setIfInBounds 2 (.slice none 0 0)).setIfInBounds 3 ((ts.setIfInBounds 2 (.slice none 0 0)).getD 0 undef)) []).eval o2).run P w=_;rw[e0];exact hrun2
 rw[d2];show (Code.cond (.tmp 4) _ _).wp P _ ⟨((ts.setIfInBounds 2 (.slice none 0 0)).setIfInBounds 3 ((ts.setIfInBounds 2 (.slice none 0 0)).getD 0 undef)).setIfInBounds 4 (.bool ad.isNone),[]⟩ w;rw[e0]
 have e4:∀b,(oj ts (.slice ad n cap) b).getD 4 undef=.bool b:=λb=>by
  unfold oj;simp[Array.getD_eq_getD_getElem?,Array.getElem?_setIfInBounds,hN]
 cases ad with
 | none=>
  refine wp_cond_true (e4 true) (wp_seq (wp_region ?_));show wpOps P #[o3] _ [0] _ w;refine jU (o:=o3) rfl g3 (run_a (.inl p3)) ?_;rw[d3];exact wp_ret (hnil rfl)
 | some ad=>exact wp_cond_false (e4 false) (wp_skip (hrest (by simp)))
def sG(sz:Nat) (b:Bool) (bytes:Nat) (mv fl:Bool) (id:Nat):fM:=
 .seq (.reg id none [⟨some 5,none,.bsl sz b 0 []⟩,⟨some 6,none,.mov (.t 0)⟩,⟨some 7,none,.app sz bytes mv fl (.t 5) (.t 6)⟩,⟨some 2,none,.asn true (.t 7)⟩] ([2],[7])) .ret
def sF(call:Option Nat->TOp->SP Unit) (N:Nat) (tc:fM):Option (List TV×List RSh):=(runC call N tc (mkSt [.sl []] [])).bind λx=>match x.1 with | .exit _=>none | _=>((resF 1 [.tmp 2]).run x.2).map (·.1)
theorem wu(call:Option Nat->TOp->SP Unit) (N sz:Nat) (b:Bool) (bytes:Nat) (mv fl:Bool) (id:Nat):sF call N (sG sz b bytes mv fl id)=sF (λ_ _=>.fail) 0 (sG sz b bytes mv fl id):=rfl
def nn(tc:fM):Bool:=match sF (λ_ _=>.fail) 0 tc with
 | some ([.ow []],[.one])=>true
 | _=>false
theorem tX{tc:fM}(h:nn tc=true):sF (λ_ _=>.fail) 0 tc=some ([.ow []],[.one]):=by
 unfold nn at h;split at h
 ·rename_i e;exact e
 ·cases h
end Go.Proofs.Ytgphpfjngblbiaa
