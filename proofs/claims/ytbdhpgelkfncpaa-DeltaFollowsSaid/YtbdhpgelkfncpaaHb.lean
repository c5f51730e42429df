/- Part of the proof; no condition. -/
import Derived.Test.YtbdhpgelkfncpaaHa
import Derived.Laws.StructEq
import Derived.Laws.BytesString
import Derived.Laws.NewFold
import Derived.Laws.IdiomCopy
import Derived.LoopN
import Derived.Orders
import Derived.Lib.SliceRun
set_option linter.unusedVariables false
set_option linter.unusedSimpArgs false
namespace Go.Proofs.Ytbdhpgelkfncpaa
open Go.RowKit
def yz(g:TypeId->Option (List FK)):Nat->List Field->Option (List FK)
 |_,[]=>some []
 |off,f::fs=>
  if f.name≠"_"/\f.offset=off then
   match g f.type with
   |some ks=>(yz g (off+ks.length) fs).map (ks++·)
   |none=>none
  else none
def nE(P:Program):Nat->TypeId->Option (List FK)
 |0,_=>none
 |d+1,t=>
  match P.underlying t with
  |some .bool=>some [.b]
  |some (.int _)=>some [.i]
  |some .string=>some [.s]
  |some (.struct fs)=>
   if P.stoodInHeld t then none
   else match yz (nE P d) 0 fs.toList with
    |some ks=>if(P.info? t).map (·.size)=some ks.length then some ks else none
    |none=>none
  |_=>none
theorem CS{α β:Type}{f:α->β}{o:Option α}{b:β}(h:o.map f=some b):∃a,o=some a/\f a=b:=by
 simp_all
theorem Ak:∀{ks:List FK}{xs ys:List Value}{r:Bool},cQ ks xs ys=some r->xs.length=ks.length/\ys.length=ks.length:=by
 intro ks
 induction ks with
 |nil=>
  intro xs ys r h;cases xs<;>cases ys<;>simp[cQ]at h⊢
 |cons k ks ih=>
  intro xs ys r h
  cases xs with
  |nil=>cases k<;>simp[cQ]at h
  |cons x xs=>
   cases ys with
   |nil=>cases k<;>cases x<;>simp[cQ]at h
   |cons y ys=>
    cases k<;>cases x<;>cases y<;>simp only[cQ]at h<;>first|(simp at h;done)|skip
    ·split at h
     ·obtain⟨r',h1,_⟩:=CS h;have:=ih h1;simp[this.1,this.2]
     ·simp at h
    ·obtain⟨r',h1,_⟩:=CS h;have:=ih h1;simp[this.1,this.2]
    ·obtain⟨r',h1,_⟩:=CS h;have:=ih h1;simp[this.1,this.2]
theorem uj:∀{k1 k2:List FK}{xs ys:List Value}{r:Bool},cQ (k1++k2) xs ys=some r ->
 ∃r1 r2,cQ k1 (xs.take k1.length) (ys.take k1.length)=some r1/\cQ k2 (xs.drop k1.length) (ys.drop k1.length)=some r2/\r=(r1&&r2):=by
 intro k1
 induction k1 with
 |nil=>intro k2 xs ys r h;exact⟨true,r,rfl,h,rfl⟩
 |cons k k1 ih=>
  intro k2 xs ys r h;simp only[List.cons_append]at h
  cases xs with
  |nil=>cases k<;>simp[cQ]at h
  |cons x xs=>
   cases ys with
   |nil=>cases k<;>cases x<;>simp[cQ]at h
   |cons y ys=>
    have fin:∀(q:Bool)(h:(cQ (k1++k2) xs ys).map (q && ·)=some r)(hq:∀X Y,cQ (k::k1) (x::X) (y::Y)=(cQ k1 X Y).map (q && ·)),∃r1 r2,cQ (k::k1) ((x::xs).take (k::k1).length) ((y::ys).take (k::k1).length)=some r1/\cQ k2 ((x::xs).drop (k::k1).length) ((y::ys).drop (k::k1).length)=some r2/\r=(r1&&r2):=by
     intro q h hq;obtain⟨r',h1,h2⟩:=CS h;obtain⟨r1,r2,a1,a2,a3⟩:=ih h1;refine⟨q&&r1,r2,?_,by simpa using a2,by rw[<- h2,a3,Bool.and_assoc]⟩;simp only[oLC,List.take_succ_cons];rw[hq,a1];rfl
    cases k<;>cases x<;>cases y<;>simp only[cQ]at h<;>first|(simp at h;done)|skip
    ·split at h
     ·rename_i e;exact fin _ h λX Y=>by simp only[cQ,oIP e]
     ·simp at h
    ·exact fin _ h λX Y=>rfl
    ·exact fin _ h λX Y=>rfl
section
variable {P:Program} {w:World}
theorem sQ{d D:Nat}{g:TypeId->Option (List FK)}
 (ih:∀t ks,g t=some ks->∀(xs ys:Array Value) off r,cQ ks ((xs.toList.drop off).take ks.length) ((ys.toList.drop off).take ks.length)=some r->∃a b,(part t xs off).run P w=.ok a w/\(part t ys off).run P w=.ok b w/\(Op.equalIn D t a b).run P w=.ok r w)(xs ys:Array Value):
 ∀(fs:List Field)(o:Nat)(ks:List FK)(r:Bool),yz g o fs=some ks->cQ ks (xs.toList.drop o) (ys.toList.drop o)=some r->(Op.eqFields D xs ys fs).run P w=.ok r w:=by
 intro fs
 induction fs with
 |nil=>
  intro o ks r h he;simp only[yz,oSJ]at h;subst h
  have hr:r=true:=by
   revert he;generalize xs.toList.drop o=X;generalize ys.toList.drop o=Y;intro he;cases X<;>cases Y<;>simp[cQ]at he;exact he
  subst hr;rfl
 |cons f fs P4=>
  intro o ks r h he;simp only[yz]at h;split at h
  case isFalse=>simp at h
  rename_i hf;split at h
  case h_2=>simp at h
  rename_i k1 Y9;obtain⟨k2,hk2,rfl⟩:=CS h;obtain⟨r1,r2,a1,a2,rfl⟩:=uj he;obtain⟨a,b,p1,p2,p3⟩:=ih f.type k1 Y9 xs ys o r1 a1;rw[List.drop_drop,List.drop_drop]at a2;have ZK:=P4 (o+k1.length) k2 r2 hk2 a2;simp only[Op.eqFields];rw[oIP hf.1,hf.2];simp only[Sem.run_bind,p1,p2,p3,Result.andThen_ok]
  cases r1 with
  |false=>simp
  |true=>simp_all
theorem E5:∀(d:Nat)(t:TypeId)(ks:List FK),nE P d t=some ks->∀D,d<=D->∀(xs ys:Array Value)(off:Nat)(r:Bool),cQ ks ((xs.toList.drop off).take ks.length) ((ys.toList.drop off).take ks.length)=some r ->
 ∃a b,(part t xs off).run P w=.ok a w/\(part t ys off).run P w=.ok b w/\(Op.equalIn D t a b).run P w=.ok r w:=by
 intro d
 induction d with
 |zero=>intro t ks h;simp[nE]at h
 |succ d ih=>
  intro t ks h D hD xs ys off r he;obtain⟨D',rfl⟩:∃D',D=D'+1:=⟨D-1,by omega⟩;simp only[nE]at h
  have one:∀(Qg:TypeDesc)(k:FK),P.underlying t=some Qg->(∀f,Qg≠.struct f)->(∀n e,Qg≠.array n e)->ks=[k]->∃x y,xs[off]?=some x/\ys[off]?=some y/\cQ [k] [x] [y]=some r/\(part t xs off).run P w=.ok x w/\(part t ys off).run P w=.ok y w:=by
   rintro Qg k hu h1 h2 rfl;obtain⟨l1,l2⟩:=Ak he
   obtain⟨x,hx⟩:∃x,xs.toList.drop off=x::(xs.toList.drop (off+1)):=by
    have:off<xs.toList.length:=by simp at l1⊢;omega
    exact⟨_,List.drop_eq_getElem_cons this⟩
   obtain⟨y,hy⟩:∃y,ys.toList.drop off=y::(ys.toList.drop (off+1)):=by
    have:off<ys.toList.length:=by simp at l2⊢;omega
    exact⟨_,List.drop_eq_getElem_cons this⟩
   have Wf:xs[off]?=some x:=by
    have:=congrArg (λl=>l[0]?) hx;simpa using this
   have Tf:ys[off]?=some y:=by
    have:=congrArg (λl=>l[0]?) hy;simpa using this
   rw[hx,hy]at he;exact⟨x,y,Wf,Tf,by simpa using he,by simp[part,kH hu h1 h2,Wf],by simp[part,kH hu h1 h2,Tf]⟩
  split at h
  ·rename_i hu
   injection h with h
   obtain⟨x,y,_,_,e,p1,p2⟩:=one _ .b hu (λ_ h=>by cases h) (λ_ _ h=>by cases h) h.symm;refine⟨x,y,p1,p2,?_⟩;cases x<;>cases y<;>simp[cQ]at e;simp[Op.equalIn,run_underlying hu,e]
  ·rename_i k0 hu
   injection h with h
   obtain⟨x,y,_,_,e,p1,p2⟩:=one _ .i hu (λ_ h=>by cases h) (λ_ _ h=>by cases h) h.symm;refine⟨x,y,p1,p2,?_⟩
   cases x<;>cases y<;>simp only[cQ]at e<;>first|(simp at e;done)|skip
   rename_i ka a kb b;split at e
   ·rename_i hk;subst hk;simp at e;simp[Op.equalIn,run_underlying hu,e]
   ·simp at e
  ·rename_i hu
   injection h with h
   obtain⟨x,y,_,_,e,p1,p2⟩:=one _ .s hu (λ_ h=>by cases h) (λ_ _ h=>by cases h) h.symm;refine⟨x,y,p1,p2,?_⟩;cases x<;>cases y<;>simp[cQ]at e;simp[Op.equalIn,run_underlying hu,e]
  ·rename_i fs hu;split at h
   case isTrue=>simp at h
   rename_i hst;split at h
   case h_2=>simp at h
   rename_i T5 Rr;split at h
   case isFalse=>simp at h
   rename_i hsz
   injection h with h
   subst h
   have YH:(sizeOf t).run P w=.ok T5.length w:=by
    unfold sizeOf typeInfo
    cases hi:P.info? t with
    |none=>simp[hi]at hsz
    |some i=>simp[hi]at hsz;simp[hi,hsz]
   have Ut:∀zs:Array Value,(part t zs off).run P w=.ok (.agg (zs.extract off (off+T5.length))) w:=λzs=>by
    simp[part,jv hu (.inl ⟨_,rfl⟩),YH]
   refine⟨_,_,Ut xs,Ut ys,?_⟩
   have Qp:P.fieldsOf t=fs:=by simp[Program.fieldsOf,hu]
   rw[run_equalIn_struct w D' t _ _ (by rw[Qp];exact hu) (by simpa using hst),Qp];refine sQ (d:=d) (g:=nE P d) (λt ks h xs ys off r he=>ih t ks h D' (by omega) xs ys off r he) _ _ fs.toList 0 T5 r Rr ?_
   have e:∀zs:Array Value,(zs.extract off (off+T5.length)).toList.drop 0=(zs.toList.drop off).take T5.length:=λzs=>by
    simp[List.extract_eq_take_drop]
   rw[e,e];exact he
  ·simp at h
theorem FQ{d D:Nat}{t:TypeId}{ks:List FK}{fs:Array Field}(h:nE P (d+1) t=some ks)(hu:P.underlying t=some (.struct fs))(hD:d<=D){xs ys:Array Value}{r:Bool}(he:cQ ks xs.toList ys.toList=some r):(Op.equalIn (D+1) t (.agg xs) (.agg ys)).run P w=.ok r w:=by
 simp only[nE,hu]at h;split at h
 case isTrue=>simp at h
 split at h
 case h_2=>simp at h
 rename_i T5 Rr;split at h
 case isFalse=>simp at h
 have Qp:P.fieldsOf t=fs:=by simp[Program.fieldsOf,hu]
 rw[run_equalIn_struct w D t _ _ (by simp_all) (by simp_all),Qp];exact sQ (d:=d) (λt ks h xs ys off r he=>E5 d t ks h D hD xs ys off r he) _ _ fs.toList 0 T5 r Rr (by simp_all)
variable {M:Fm} {σ σ':St} {G:Gh} {a:Act} {o:Oper}
theorem H6{F:Nat->Prop}{V:Vs}{C:Cs}:∀{l:List TV}{vs:List Value},cE l=some vs->vs.length=l.length/\∀j (h:j<l.length)(h':j<vs.length)(x:Value),TmR w F V C G l[j] x->x=vs[j]:=by
 intro l
 induction l with
 |nil=>intro vs h;simp[cE]at h;subst h;exact⟨rfl,λj h=>by simp at h⟩
 |cons t l ih=>
  intro vs h
  cases t with
  |v z=>
   obtain⟨vs',h1,rfl⟩:=CS h;have ⟨e,h2⟩:=ih h1;refine⟨by simp[e],λj hj ZU x hx=>?_⟩
   cases j with
   |zero=>exact hx.v_inv.1
   |succ j=>exact h2 j (by simp_all) (by simp_all) x hx
  |_=>simp[cE]at h
theorem yv{F:Nat->Prop}{V:Vs}{C:Cs}{l:List TV}{vs:List Value}{x:Value}(h:cE l=some vs)(hx:TmR w F V C G (.agg l) x):x=.agg vs.toArray:=by
 obtain⟨xs,rfl,hl,hj⟩:=DA hx;obtain⟨e,h2⟩:=H6 h;congr 1;apply Array.ext
 ·simp_all
 ·intro j h1 h3;have:=h2 j (by omega) (by omega) _ (hj j (by omega))
  have e2:xs.getD j undef=xs[j]:=by simp[h1]
  simp_all
theorem Ei(hI:Inv M σ [] [] a.tmps w G){d:Nat}(hd:o.dst=some d)(hN:d<M.N){x y:Opd}{x' y':Operand}{op:BinOp}{neg:Bool}{t yt:TypeId}{ks:List FK}{fs:Array Field}(hx:bZ x'=some x)(hy:bZ y'=some y)(ho:o.op=.binOp op t x' y' yt)(hop:(op=.eql/\neg=false)\/(op=.neq/\neg=true))
 (hu:P.underlying t=some (.struct fs))(hk:nE P 50 t=some ks)(Yg:P.eqGuardType P.depth t=false)(hr:(ev1 d (.eqa ks neg x y)).run σ=some ((),σ')):i7 P M σ' a o w:=by
 obtain⟨t1,σ1,h1,h2⟩:=bS hr;obtain⟨rfl,ZY⟩:=cW hI.tmr hx h1;obtain⟨t2,σ2,h3,h4⟩:=bS h2;obtain⟨rfl,Xg⟩:=cW hI.tmr hy h3
 cases t1 with
 |agg l1=>
  cases t2 with
  |agg l2=>
   simp only at h4;obtain⟨NQ,σ3,h5,h6⟩:=bS h4;obtain⟨e1,rfl⟩:=k9 h5;obtain⟨QG,σ4,h7,h8⟩:=bS h6;obtain⟨e2,rfl⟩:=k9 h7;obtain⟨r,σ5,h9,ZI⟩:=bS h8;obtain⟨e3,rfl⟩:=k9 h9;have ex:=yv e1 ZY;have ey:=yv e2 Xg;have hq:(Op.equalIn 10000 t (.agg NQ.toArray) (.agg QG.toArray)).run P w=.ok r w:=FQ (d:=49) (D:=9999) hk hu (by omega) (by omega);have hg:(eqGuard op t x' y' (.agg NQ.toArray) (.agg QG.toArray)).run P w=.ok () w:=run_eqGuard_agg w op t x' y' _ _ Yg;refine eQ hI hd hN (.v rfl) ZI ?_
   rcases hop with⟨rfl,rfl⟩|⟨rfl,rfl⟩
   ·simp[execOp,ho,ex,ey,hg,run_eql_struct,hq]
   ·simp[execOp,ho,ex,ey,hg,run_neq_struct,hq]
  |_=>simp[SP.run]at h4
 |_=>simp[SP.run]at h4
end
section
variable {P:Program} {M:Fm} {σ σ':St} {H:List TV} {xs:List Value} {ts:Array Value} {w:World} {G:Gh} {a:Act} {o:Oper}
theorem Dd(mx:Bool)(k:IntKind):∀(r:List Value)(x m:Int),qC mx k x r=some m->(r.foldlM (if mx then Builtin.max2 else Builtin.min2) (.int k x)).run P w=.ok (.int k m) w:=by
 intro r
 induction r with
 |nil=>
  intro x m h;simp[qC]at h
  simp_all
 |cons y r ih=>
  intro x m h
  cases y with
  |int k' b=>
   simp only[qC]at h;split at h
   ·rename_i hk;have:=ih _ _ h
    cases mx with
    |true=>
     simpa[Builtin.max2]using this
    |false=>
     simpa[Builtin.min2]using this
   ·simp at h
  |_=>simp[qC]at h
theorem IO(hI:Inv M σ [] [] a.tmps w G){d:Nat}(hd:o.dst=some d)(hN:d<M.N){mx:Bool}{l:List Opd}{args:Array Operand}{UD:Array TypeId}(hc:args.toList.map bZ=l.map some)(ho:o.op=.call { callee:=.builtin (if mx then .max else .min),args:=args,argTypes:=UD })
 (hr:(ev1 d (.mm mx l)).run σ=some ((),σ')):i7 P M σ' a o w:=by
 simp only[ev1]at hr;obtain⟨r,σ1,h1,h2⟩:=bS hr
 obtain⟨rfl,e2,e3⟩:=Fj (R:=λy x'=>y=a.eval x') (λx x' y σ' hx hy=>by
  obtain⟨t,σ2,q1,q2⟩:=bS hy;obtain⟨rfl,ht⟩:=cW hI.tmr hx q1;obtain⟨rfl,rfl⟩:=kX q2
  exact⟨rfl,(ht.v_inv).1.symm⟩) hc h1
 have VW:args.toList.map a.eval=r:=by
  apply List.ext_getElem
  ·simp[e2]
  ·simp_all
 split at h2
 case h_2=>simp[SP.run]at h2
 rename_i k x rest;obtain⟨m,σ2,h3,h4⟩:=bS h2;obtain⟨hm,rfl⟩:=k9 h3;refine eQ hI hd hN (x:=.int k m) (.v rfl) h4 ?_;have hf:=Dd (P:=P) (w:=w) mx k rest x m hm
 cases mx with
 |true=>
  simp only[if_true]at hf ho;simp[execOp,ho,resolve,invoke,builtin,Builtin.max_,VW,hf]
 |false=>
  simp only[Bool.false_eq_true,if_false]at hf ho;simp[execOp,ho,resolve,invoke,builtin,Builtin.min_,VW,hf]
theorem GN(hI:Inv M σ [] [] a.tmps w G){d:Nat}(hd:o.dst=some d)(hN:d<M.N){x i:Opd}{x' i':Operand}{t e n sz:Nat}(hx:bZ x'=some x)(hi:bZ i'=some i)(ho:o.op=.indexAddr t x' i')
 (hu:P.underlying t=some (.array n e))(hs:(P.info? e).map (·.size)=some sz)(hr:(ev1 d (.idxa n sz x i)).run σ=some ((),σ')):i7 P M σ' a o w:=by
 have YH:(sizeOf e).run P w=.ok sz w:=by
  unfold sizeOf typeInfo
  cases hi:P.info? e with
  |none=>simp[hi]at hs
  |some i=>simp[hi]at hs;simp[hi,hs]
 simp only[ev1]at hr;obtain⟨tx,σ1,h1,h2⟩:=bS hr;obtain⟨rfl,ZY⟩:=cW hI.tmr hx h1;obtain⟨ti,σ2,h3,h4⟩:=bS h2;obtain⟨rfl,TK⟩:=cW hI.tmr hi h3;obtain⟨k,σ3,h5,h6⟩:=bS h4;obtain⟨ik,m,rfl,Wn,hk,rfl⟩:=la h5;obtain⟨ei,_⟩:=TK.v_inv
 cases tx with
 |ptr p vs=>
  simp only at h6;obtain⟨_,σ2,h7,h8⟩:=bS h6;have e1:σ2=σ3:=(cq h7).1;have e2:=(cq h7).2;subst e1;split at h8
  case isFalse=>simp[SP.run]at h8
  rename_i hc;simp only[oBA,oDE]at hc;obtain⟨RE,hfit⟩:=hc;generalize hz:a.eval x'=z at ZY
  cases ZY with
  |ptr V0 h0 hv h=>
   obtain⟨Z5,ad,t0,ha,rfl,Zj⟩:=h e2
   have Qx:m<(n:Int):=by omega
   refine eQ hI hd hN (x:=.pointer (some (ad.add (k*sz)))) ?_ h8 (by subst hk;simp[execOp,ho,hz,ei,Instr.indexAt,asIntOf,Instr.sureAddr,run_underlying hu,Wn,Qx,YH]);refine .ptr V0 h0 (by rw[AX];exact hv) λ_=>⟨by rw[dC];exact Z5,⟨ad.block,ad.off+k*sz,none⟩,?_⟩;have Zf:=iV ha
   have XI:ad.add (k*sz)=⟨ad.block,ad.off+k*sz,none⟩:=by
    obtain⟨b,ob,sp⟩:=ad;simp only at Zf;subst Zf;exact dB b ob (k*sz)
   rcases p.add_cases (k*sz)with⟨q1,q2⟩|⟨hs',i,sz',o',q1,q2⟩
   ·exact⟨cC M σ2 [] p.root (p.off+k*sz),kg _ ha,by rw[XI],by rw[q2];rfl⟩
   ·have hlt:o'+k*sz<sz':=by
     unfold cj.fits at hfit;rw[q1]at hfit;simpa using hfit
    rw[q1]at Zj;obtain⟨t',YZ⟩:=BM Zj hlt;exact⟨t',kg _ ha,by rw[XI],by rw[q2];exact YZ⟩
 |_=>simp[SP.run]at h6
theorem Jq(hI:Inv M σ [] [] a.tmps w G){d:Nat}(hd:o.dst=some d)(hN:d<M.N){x:Opd}{x':Operand}{s t e:TypeId}(hx:bZ x'=some x)(ho:o.op=.convert s t x')(hs:P.underlying s=some .string)(ht:P.underlying t=some (.slice e))(he:P.underlying e=some (.int .u8))
 (hr:(ev1 d (.s2b x)).run σ=some ((),σ')):i7 P M σ' a o w:=by
 simp only[ev1]at hr;obtain⟨tx,σ1,h1,h2⟩:=bS hr;obtain⟨rfl,ZY⟩:=cW hI.tmr hx h1
 cases tx with
 |v y=>
  obtain⟨ex,_⟩:=ZY.v_inv
  cases y with
  |string str=>
   simp only at h2;split at h2
   case isFalse=>simp[SP.run]at h2
   rename_i hsz;obtain⟨n,hn⟩:∃n,n=w.tape w.drawn (.appendCap str.size 0 e):=⟨_,rfl⟩;obtain⟨cap,hcap⟩:∃cap,cap=str.size+n%(2 ^ 63-str.size):=⟨_,rfl⟩
   have M4:str.size<=cap:=by omega
   have VE:cap<=maxLen:=by
    have:n%(2 ^ 63-str.size)<2 ^ 63-str.size:=Nat.mod_lt _ (by omega);show cap<=2 ^ 63-1;omega
   obtain⟨row,ZP⟩:∃row:Array Value,row=(str.data.map λb=>Value.int .u8 b.toNat)++Array.replicate (cap-str.size) (.int .u8 0):=⟨_,rfl⟩;obtain⟨w1,Vl⟩:∃w1,w1=w.drew.alloc (.cells row e):=⟨_,rfl⟩
   have Yh:w1.heap=w.heap.push (.cells row e):=by rw[Vl];rfl
   have hsh:w1.shape? w.heap.size=some (e,row.size):=by
    unfold World.shape?;rw[Yh];simp
   have hrun:(execOp a.eval o).run P w=.ok (.value (.slice (some ⟨w.heap.size,0,none⟩) str.size cap)) (w1.freeze ⟨w.heap.size,row.size,none⟩ 1):=by
    simp only[execOp,ho,ex,convert,Sem.run_bind,run_underlying hs,run_underlying ht,run_underlying he,Result.andThen_ok,Conv.stringToBytes,run_choose_drew,Question.forced,Bool.false_eq_true,if_false,Question.cut,newRow,run_newObj_alloc,Sem.run_pure];rw[<- hn,<- hcap,<- ZP];simp only[show w.drew.heap.size=w.heap.size from rfl,<- Vl,markStringish,Sem.run_bind,run_shape,Result.andThen_ok,hsh,run_freeze,Sem.run_pure]
   have ZD:∀k,k<w.heap.size->(w1.freeze ⟨w.heap.size,row.size,none⟩ 1).heap[k]?=w.heap[k]?:=by
    intro k hk;unfold World.freeze;rw[oIN (by decide)];simp only;rw[Array.getElem?_modify];rw[oIN (by omega),Yh];simp[Array.getElem?_push,show k≠w.heap.size by omega]
   have Zl:∃fz,(w1.freeze ⟨w.heap.size,row.size,none⟩ 1).heap[w.heap.size]?=some (.cells row e fz):=by
    unfold World.freeze;rw[oIN (by decide)];simp only;rw[Array.getElem?_modify,oIP rfl,Yh];exact⟨_,by simp only[Array.getElem?_push_size,oMS];rfl⟩
   obtain⟨fz,Zl⟩:=Zl;obtain⟨ZJ,_⟩:=hI.grow (w':=w1.freeze ⟨w.heap.size,row.size,none⟩ 1) ZD (by unfold World.freeze;rw[oIN (by decide)];simp[Yh]) (by rw[Vl];rfl) (by rw[Vl];rfl) (by rw[Vl];rfl);simp only[wr,SP.run,oSJ,oPJ,true_and]at h2;subst h2;refine⟨_,_,_,G,hrun,.inl rfl,?_⟩;rw[hd]
   have Ra:(mC str).length=str.size:=by unfold mC;rw[List.length_map,Array.length_toList];rfl
   refine ZJ.wrT hN (.sl ?_)
   have Wl:f8 (w1.freeze ⟨w.heap.size,row.size,none⟩ 1) (G.F M.A) (.sl (mC str)) (.slice (some ⟨w.heap.size,0,none⟩) (mC str).length cap):=by
    refine .sl 1 (λi _=>.int .u8 (str.data.getD i 0).toNat) (λi h=>by simp[mC]) (by omega) VE (λh=>by simp at h) (λi j hi hj=>⟨w.heap.size,0,rfl,?_,?_⟩) λi j h h'=>?_
    ·exact⟨M.hA _ hI.fram.size,λr o h=>Nat.lt_irrefl _ (hI.core.live h),λr b o n hb e=>Nat.lt_irrefl _ (e▸hI.core.boxlt hb)⟩
    ·have RA:j=0:=by omega
     subst RA;rw[cell_of_row _ _ _ _ _ _ Zl]
     have ZM:i<str.data.size:=by rw[Ra]at hi;exact hi
     have hg:str.data[i]?=some str.data[i]:=Array.getElem?_eq_getElem ZM;rw[ZP];simp[Array.getElem?_append,show i<str.size from ZM,Array.getD_eq_getD_getElem?,hg]
    ·have RA:j=0:=by simp[mC]at h';omega
     subst RA
     have ZM:i<str.data.size:=by rw[Ra]at h;exact h
     have:(mC str)[i][0]=.v (.int .u8 (str.data.getD i 0).toNat):=by
      have hg:str.data[i]?=some str.data[i]:=Array.getElem?_eq_getElem ZM;simp[mC,Array.getD_eq_getD_getElem?,hg]
     rw[this];exact .v rfl
   rw[Ra]at Wl;exact Wl
  |_=>simp[SP.run]at h2
 |_=>simp[SP.run]at h2
theorem F5{c:List (List TV)}:∀{ns:List Int},uu c=some ns->ns.length=c.length/\∀i (h:i<c.length)(h':i<ns.length),c[i]=[.v (.int .u8 ns[i])]:=by
 induction c with
 |nil=>intro ns h;simp only[uu,oSJ]at h;subst h;exact⟨rfl,λi h=>by simp at h⟩
 |cons e c ih=>
  intro ns h;unfold uu at h;split at h
  ·simp_all
  ·rename_i n r h1
   injection h1 with h1 h2
   subst h1;subst h2
   cases hb:uu c with
   |none=>simp_all
   |some l=>
    simp[hb]at h;subst h;obtain⟨e1,e2⟩:=ih hb;refine⟨by simp[e1],λi hi ZM=>?_⟩
    cases i with
    |zero=>rfl
    |succ i=>simp_all
  ·simp at h
theorem JH(hI:Inv M σ [] [] a.tmps w G){d:Nat}(hd:o.dst=some d)(hN:d<M.N){x:Opd}{x':Operand}{s t e:TypeId}(hx:bZ x'=some x)(ho:o.op=.convert s t x')(hs:P.underlying s=some (.slice e))(ht:P.underlying t=some .string)(he:P.underlying e=some (.int .u8))
 (hr:(ev1 d (.b2s x)).run σ=some ((),σ')):i7 P M σ' a o w:=by
 simp only[ev1]at hr;obtain⟨tx,σ1,h1,h2⟩:=bS hr;obtain⟨rfl,ZY⟩:=cW hI.tmr hx h1;obtain⟨t',σ2,h3,h4⟩:=bS h2;obtain⟨G1,Z0,_⟩:=fr hI ZY h3;simp only[List.nil_append]at Z0;obtain⟨G2,ZH,_⟩:=Z0.1.drop
 have fin:∀str ad len cap,a.eval x'=.slice ad len cap->(Conv.bytesToString (.slice ad len cap)).run P w=.ok (.string str) w->(wr d (.v (.string str))).run σ2=some ((),σ')->i7 P M σ' a o w:=by
  intro str ad len cap ex hrun hw;refine eQ ZH.1 hd hN (x:=.string str) (.v rfl) hw ?_;simp only[execOp,ho,Sem.run_bind,ex]
  have:(convert s t (.slice ad len cap)).run P w=.ok (.string str) w:=by
   unfold convert;simp only[Sem.run_bind,run_underlying hs,run_underlying ht,run_underlying he,Result.andThen_ok];exact hrun
  rw[this];rfl
 have hown:=λh=>Z0.1.hand_own (j:=0) (by simp) h;split at h4
 ·rename_i c;obtain⟨str,σ3,h5,h6⟩:=bS h4;obtain⟨hb,rfl⟩:=k9 h5;have hown:=hown (by simp);generalize hz:a.eval x'=z at hown
  cases hown with
  |sl hfp h=>
   cases h with
   | @sl _ ad cap sz u hsz hcap hmax hnil hcell hrec=>
    unfold bstr at hb
    cases hbn:uu c with
    |none=>simp[hbn]at hb
    |some ns=>
     simp only[hbn,oMS,oSJ]at hb;obtain⟨hl,Z6⟩:=F5 hbn;refine fin str _ _ _ hz ?_ h6
     cases ad with
     |none=>
      have Wy:c.length=0:=by have:=hnil rfl;omega
      have hns:ns=[]:=oEN (by omega);subst hns;rw[<- hb];rfl
     |some ad=>
      rw[<- hb];refine run_bytesToString w ad c.length cap ns ?_
      have:=run_loadCells_list (P:=P) w ad (ns.map (Value.int .u8)) λj v hj=>by
       have hjl:j<ns.length:=by
        rcases Nat.lt_or_ge j ns.length with h|h
        ·exact h
        ·rw[oGN (by simpa using h)]at hj;simp at hj
       have S4:j<c.length:=by omega
       have e1:=Z6 j S4 hjl
       have Y':sz=1:=by rw[<- hsz j S4,e1];rfl
       subst Y';obtain⟨b,o',Wx,hF,hcl⟩:=hcell j 0 S4 (by omega)
       injection Wx with Wx
       subst Wx;have hr:=hrec j 0 S4 (by rw[e1];simp)
       have e2:c[j][0]'(by rw[e1];simp)=.v (.int .u8 ns[j]):=by simp[e1]
       rw[e2]at hr
       have hu:u j 0=.int .u8 ns[j]:=by
        generalize u j 0=y at hr;cases hr;rfl
       have hv:v=.int .u8 ns[j]:=by simpa[hjl]using hj.symm
       rw[hv,<- hu,dB];simpa using hcl
      simpa[hl]using this
 ·have hown:=hown (by simp);generalize hz:a.eval x'=z at hown
  cases hown with
  | @nil _ ad hfp=>
   refine fin .empty _ _ _ hz ?_ h4
   cases ad with
   |none=>rfl
   |some ad=>
    have:=run_bytesToString (P:=P) w ad 0 0 [] (by simp[loadCells,loadCellsFrom]);simpa using this
  | @ow _ _ b cap cur e' sz' u f hfp hb hsz hcap hz0 hmax hcur hcell hrec hnb hdis=>
   refine fin .empty _ _ _ hz ?_ h4;have:=run_bytesToString (P:=P) w ⟨b,0,none⟩ 0 cap [] (by simp[loadCells,loadCellsFrom]);simpa using this
 ·simp[SP.run]at h4
theorem GS(hI:Inv M σ [] [] a.tmps w G){d:Nat}{mv:Bool}(hd:o.dst=some d)(hN:d<M.N){t e n sz:TypeId}{parts:Array (Nat×Operand)}{ps:List (Nat×Nat×Opd)}{z:List Value}(ho:o.op=.build t parts)(hu:P.underlying t=some (.array n e))
 (hz:(P.info? t).bind (·.zero.map (·.cells.toList))=some z)(hs:(P.info? e).map (·.size)=some sz)(hp1:parts.size=ps.length)
 (hp2:∀k (h:k<parts.size)(h':k<ps.length),bZ parts[k].2=some ps[k].2.2/\ps[k].1=parts[k].1*sz/\ps[k].2.1=sz/\ps[k].1+ps[k].2.1<=z.length)
 (hr:(ev1 d (.bld z mv ps)).run σ=some ((),σ')):i7 P M σ' a o w:=by
 simp only[ev1]at hr;split at hr
 case isFalse=>simp[SP.run]at hr
 rename_i hok;obtain⟨l,σ1,h1,h2⟩:=bS hr;obtain⟨l',σ2,h3,h4⟩:=bS h2
 obtain⟨G1,g1,TU,Xv⟩:=lU (a:=a) (pv:=parts.toList.map (·.2)) hI (by
  apply List.ext_getElem
  ·simp[hp1]
  ·intro k hk YR;have:=(hp2 k (by simpa using hk) (by simpa using YR)).1
   simpa using this) h1
 obtain⟨G2,ZJ,_,Wa,X4⟩:=rr g1.1 TU h3;obtain⟨ys,X'⟩:∃ys,ys=(parts.toList.map (·.2)).flatMap (λx=>(a.eval x).cells.toList):=⟨_,rfl⟩;rw[<- X']at g1 X4
 have hlen:l'.length=ys.length:=by rw[Wa];exact g1.1.hand
 have Xx:∀j (h:j<(z.map cT).length)(h':j<z.length),TmR w (G2.F M.A) σ2.v (cC M σ2 []) G2 (z.map cT)[j] z[j]:=λj h h'=>by simp only[List.getElem_map];exact oH _
 obtain⟨r1,r2⟩:=lA (R:=TmR w (G2.F M.A) σ2.v (cC M σ2 []) G2) ps l' ys (z.map cT) z (by simp) Xx hlen (λj h h'=>by have:=X4 j h;simpa[h']using this);refine eQ ZJ hd hN (x:=.agg (jC z ps ys).toArray) (.agg (by simp[r1]) λj hj=>by have:=r2 j hj (by omega);simpa[show j<(jC z ps ys).length by omega]using this) h4 ?_
 cases hi:P.info? t with
 |none=>simp[hi]at hz
 |some i=>
  simp only[hi,oBS]at hz
  cases hiz:i.zero with
  |none=>simp[hiz]at hz
  |some v=>
   simp only[hiz,oMS,oSJ]at hz
   have Vn:(zeroValue t).run P w=.ok v w:=by simp[zeroValue,typeInfo,hi,hiz]
   have YH:(sizeOf e).run P w=.ok sz w:=by
    unfold sizeOf typeInfo
    cases hi:P.info? e with
    |none=>simp[hi]at hs
    |some i=>simp_all
   have Yt:=sL (place:=λi=>some (i*sz,sz)) (parts.toList.map λp=>(p.1,a.eval p.2)) ps v.cells (by simp[hp1]) (λk h h'=>by
    have hk:k<parts.size:=by simpa using h
    obtain⟨q1,q2,q3,q5⟩:=hp2 k hk h';have q4:=Xv k h' (by simpa using hk);refine⟨by simp[q2,q3],by simpa using q4,?_⟩;rw[<- hz]at q5
    simpa using q5)
   have Zq:((parts.toList.map λp=>(p.1,a.eval p.2)).flatMap (·.2.cells.toList))=ys:=by rw[X'];simp[List.flatMap_map]
   rw[Zq,hz]at Yt;simp only[execOp,ho,Instr.build,Sem.run_bind,Vn,Result.andThen_ok,run_underlying hu,YH,Array.toList_map];rw[Yt];simp
end
theorem qq{α:Type}{l:List α}{i:Nat}{x:α}{f g:α->α}(h:l[i]?=some x)(e:f x=g x):l.modify i f=l.modify i g:=by
 apply List.ext_getElem?
 grind
theorem Ad{hs:List Hop}{i sz j:Nat}{c:List (List TV)}{el:List TV}{t1:TV}:∀{t:TV},cw t hs=some (.ow c)->c[i]?=some el->el.length=sz->el[j]?=some t1->cw t (hs++[(i,sz,j)])=some t1:=by
 induction hs with
 |nil=>
  intro t h h1 h2 h3;simp[cw]at h;subst h;simp[cw,h1,h2,h3]
 |cons hp hs ih=>
  intro t h h1 h2 h3;obtain⟨c0,el0,t0,rfl,k1,k2,k3,k4⟩:=dX h;simp[cw]
  simp_all
theorem zo{hs:List Hop}{i sz j:Nat}{c:List (List TV)}{x:TV}:∀{t:TV},cw t hs=some (.ow c)->eo t (hs++[(i,sz,j)]) x=eo t hs (.ow (c.modify i λel=>el.modify j λ_=>x)):=by
 induction hs with
 |nil=>
  intro t h;simp[cw]at h;subst h;simp[eo]
 |cons hp hs ih=>
  intro t h;obtain⟨c0,el0,t0,rfl,k1,k2,k3,k4⟩:=dX h;simp only[List.cons_append,eo];congr 1;refine qq k1 (qq k3 (ih k4))
theorem EA{hs:List Hop}{x y:TV}:∀{t:TV},eo (eo t hs y) hs x=eo t hs x:=by
 induction hs with
 |nil=>intro t;rfl
 |cons hp hs ih=>
  obtain⟨a,b,d⟩:=hp;intro t
  cases t with
  |ow c=>
   simp only[eo];congr 1;apply List.ext_getElem?;intro k;simp only[List.getElem?_modify];by_cases hk:a=k
   ·subst hk
    cases c[a]? with
    |none=>rfl
    |some el=>
     simp only[if_true,Option.map_eq_map,oMS];congr 1;apply List.ext_getElem?;intro k;simp only[List.getElem?_modify,Option.map_eq_map];by_cases hk:d=k
     ·subst hk
      cases el[d]? with
      |none=>rfl
      |some t1=>simp[ih]
     ·cases el[k]?<;>simp[hk]
   ·cases c[k]?<;>simp[hk]
  |_=>rfl
theorem tr{α:Type}(l:List (Nat×α))(i:Nat)(x y:α):d5 (d5 l i x) i y=d5 l i y:=by
 induction l with
 |nil=>simp[d5]
 |cons h r ih=>
  have ⟨k,v⟩:=h;by_cases hk:k=i
  ·subst hk;simp[d5]
  ·simp[hk,d5,ih]
theorem yV{w:World}{hs:List Hop}{k sz n cap j:Nat}{ad:Addr}:∀{x:Value},hvT w x hs=some (.slice (some ad) n cap)->k<n->cM w x (hs++[(k,sz,j)])=some ⟨ad.block,ad.off+(k*sz+j),none⟩:=by
 induction hs with
 |nil=>
  intro x h hk;simp only[hvT,oSJ]at h;subst h;simp[cM,hk]
 |cons hp hs ih=>
  intro x h hk;simp only[hvT]at h
  cases x with
  |slice a l c=>
   cases a with
   |none=>cases hs<;>simp[cM]at h
   |some a=>
    obtain⟨hd,tl,WD⟩:∃hd tl,hs++[(k,sz,j)]=hd::tl:=by cases hs<;>exact⟨_,_,rfl⟩
    cases hs with
    |nil=>
     simp only[cM]at h;split at h
     ·rename_i hi;simp at h;simp only[List.cons_append,List.nil_append,cM,hi,if_true,h,hk]
     ·simp at h
    |cons hp2 YY=>
     simp only[cM]at h;split at h
     ·rename_i hi;split at h
      ·rename_i y hy;rw[List.cons_append,WD];simp[cM,hi,if_true,hy];rw[<- WD];exact ih (by simpa[hvT]using h) hk
      ·simp at h
     ·simp at h
  |_=>cases hs<;>simp[cM]at h
section
variable {P:Program} {M:Fm} {σ σ':St} {H:List TV} {xs:List Value} {ts:Array Value} {w:World} {G:Gh} {a:Act} {o:Oper}
def St.sub(σ:St)(p:cj)(l:List TV)(t:TV):St:=⟨σ.tm,d5 σ.ce p.root (l.set p.off (eo (σ.c p.root p.off) p.hops t)),σ.vr⟩
theorem yZ{p:cj}{l:List TV}{t:TV}(hl:p.off<l.length):(σ.sub p l t).c p.root p.off=eo (σ.c p.root p.off) p.hops t:=by
 simp[St.c,St.sub,cP];simp[hl]
theorem Ha(hI:Inv M σ [] [] ts w G){p:cj}{c:List (List TV)}{el:List TV}{b n cap i sz j:Nat}{old v:Value}(Z5:p.root≠1)(Zv:G.hv w p=some (.slice (some ⟨b,0,none⟩) n cap))(hg:cw (σ.c p.root p.off) p.hops=some (.ow c))(hin:i<n)
 (hi:c[i]?=some el)(hl:el.length=sz)(hj:el[j]?=some (.v old))(hv:fh v=true){l:List TV}(hal:cA σ.ce p.root=some l)(hol:p.off<l.length):
 ∃G',Inv M (σ.sub p l (.ow (c.modify i λel=>el.modify j λ_=>.v v))) [] [] ts (w.setCell ⟨b,i*sz+j,none⟩ v) G'/\(w.cell? ⟨b,i*sz+j,none⟩).isSome=true/\w.frozen? ⟨b,i*sz+j,none⟩=false/\G'.hv (w.setCell ⟨b,i*sz+j,none⟩ v) p=some (.slice (some ⟨b,0,none⟩) n cap):=by
 obtain⟨G1,Z0⟩:=hI.addHand (x:=v) (.v (λ_ h=>h) hv)
 have TI:cw (cC M σ [] p.root p.off) p.hops=some (.ow c):=by rw[cx (Z5)];exact hg
 obtain⟨c1,VM,_,_⟩:=Z0.2.2.1.hdr p _ c Z5 rfl Zv TI
 obtain⟨hd,tl,WD⟩:∃hd tl,p.hops++[(i,sz,j)]=hd::tl:=by cases p.hops<;>exact⟨_,_,rfl⟩
 have Z3:G1.addrB w ⟨p.root,p.off,p.hops++[(i,sz,j)]⟩=some ⟨b,i*sz+j,none⟩:=by
  have:=yV (sz:=sz) (j:=j) VM hin;unfold Gh.addrB
  simp_all
 have S2:=Ad hg hi hl hj
 have Ph:cw (cC M σ [.v v] p.root p.off) (p.hops++[(i,sz,j)])=some (.v old):=by rw[cx (Z5)];exact S2
 have hrun:(tC ⟨p.root,p.off,p.hops++[(i,sz,j)]⟩ (.v v)).run σ=some ((),σ.sub p l (.ow (c.modify i λel=>el.modify j λ_=>.v v))):=by
  simp only[tC,SP.run,S2,oZ,Bool.or_self,Bool.false_eq_true,if_false,hal,hol,if_true];rw[zo hg];rfl
 obtain⟨⟨u,hu⟩,XD,G2,ZJ,hm,Za,hβ⟩:=Z0.1.put (p:=⟨p.root,p.off,p.hops++[(i,sz,j)]⟩) (j:=0) Z5 Z3 Ph (by simp) (by simp) (by simpa using hrun)
 have WV:=ZJ.clear (by intro k hk;have:k=0:=by simp at hk;omega
                       simp)
 have Pd:cw (cC M σ [.v v] p.root p.off) p.hops=some (.ow c):=by rw[cx (Z5)];exact hg
 obtain⟨c2,Yp,_,_⟩:=hm.keeps.hdr p _ c Z5 rfl VM Pd;exact⟨G2,WV,by simp_all,XD,Yp⟩
theorem rf{c:List (List TV)}{i j i' j':Nat}{x:TV}{el:List TV}{y:TV}(h:c[i']?=some el)(hy:el[j']?=some y)(hne:¬(i'=i/\j'=j)):
 ∃Vr,(c.modify i λel=>el.modify j λ_=>x)[i']?=some Vr/\Vr[j']?=some y:=by
 by_cases hi:i=i'
 ·subst hi
  have hj:¬j=j':=by omega
  simp_all
 ·simp_all
theorem Hj{p:cj}{b n cap sz:Nat}(Z5:p.root≠1)(hsz:0<sz):∀(vals:List Value)(c:List (List TV))(o:Nat)(σ:St)(w:World)(G:Gh)(l:List TV),vals≠[]->Inv M σ [] [] ts w G->G.hv w p=some (.slice (some ⟨b,0,none⟩) n cap)->cw (σ.c p.root p.off) p.hops=some (.ow c)->n=c.length ->
 (∀el∈c,el.length=sz)->(∀v∈vals,fh v=true)->(∀t,o<=t->t<o+vals.length->∃el y,c[t/sz]?=some el/\el[t%sz]?=some (.v y))->cA σ.ce p.root=some l->p.off<l.length ->
 (∃G',Inv M (σ.sub p l (.ow (kL sz c o vals))) [] [] ts (w.setCells b o vals) G')/\∀j,j<vals.length->(w.cell? ⟨b,o+j,none⟩).isSome=true/\w.frozen? ⟨b,o+j,none⟩=false:=by
 intro vals
 induction vals with
 |nil=>intro c o σ w G l h;exact absurd rfl h
 |cons v vals ih=>
  intro c o σ w G l _ hI Zv hg hn hlen NB Zq hal hol;obtain⟨el,y,h1,h2⟩:=Zq o (Nat.le_refl _) (by simp);have YQ:el.length=sz:=hlen el (List.mem_of_getElem? h1)
  have hio:o/sz<n:=by rw[hn];exact(oGS h1).1
  have ho:o/sz*sz+o%sz=o:=by rw[Nat.mul_comm];exact Nat.div_add_mod o sz
  obtain⟨G1,hI1,Y',O6,VM⟩:=Ha hI Z5 Zv hg hio h1 YQ h2 (NB v (by simp)) hal hol;rw[ho]at hI1 Y' O6 VM
  cases vals with
  |nil=>
   refine⟨⟨G1,hI1⟩,λj hj=>?_⟩
   obtain rfl:j=0:=by simp at hj;omega
   exact⟨Y',O6⟩
  |cons v2 vals=>
   obtain⟨c1,Zp⟩:∃c1,c1=c.modify (o/sz) λel=>el.modify (o%sz) λ_=>.v v:=⟨_,rfl⟩;rw[<- Zp]at hI1;obtain⟨l1,TM⟩:∃l1,l1=l.set p.off (eo (σ.c p.root p.off) p.hops (.ow c1)):=⟨_,rfl⟩;have PK:(σ.sub p l (.ow c1)).c p.root p.off=eo (σ.c p.root p.off) p.hops (.ow c1):=yZ hol
   obtain⟨⟨G2,ZJ⟩,Ze⟩:=ih c1 (o+1) (σ.sub p l (.ow c1)) _ G1 l1 (by simp) hI1 VM (by rw[PK];exact ug hg) (by rw[hn,Zp];simp) (λVr TG=>by
    have Pt:=kt c (o/sz) (o%sz) (λ_=>.v v);have:Vr.length∈c1.map List.length:=List.mem_map_of_mem TG;rw[Zp,Pt]at this;obtain⟨e3,e4,e5⟩:=List.mem_map.1 this
    rw[<- e5];exact hlen e3 e4) (λx hx=>NB x (by simp at hx⊢;exact .inr hx)) (λt U3 X4=>by
    obtain⟨Vr,y',q1,q2⟩:=Zq t (by omega) (by simp at X4⊢;omega)
    obtain⟨Oo,q3,q4⟩:=rf (x:=.v v) q1 q2 (i:=o/sz) (j:=o%sz) (by
     rintro⟨e1,e2⟩;have h3:=Nat.div_add_mod t sz;have h4:=Nat.div_add_mod o sz;rw[e1,e2]at h3
     omega)
    exact⟨Oo,y',by rw[Zp];exact q3,q4⟩) (by simp[St.sub,cP,TM]) (by rw[TM];simpa using hol)
   refine⟨⟨G2,?_⟩,λj hj=>?_⟩
   ·have e:(σ.sub p l (.ow c1)).sub p l1 (.ow (kL sz c1 (o+1) (v2::vals)))=σ.sub p l (.ow (kL sz c o (v::v2::vals))):=by
     unfold St.sub;have PL:(St.c ⟨σ.tm,d5 σ.ce p.root (l.set p.off (eo (σ.c p.root p.off) p.hops (.ow c1))),σ.vr⟩ p.root p.off)=eo (σ.c p.root p.off) p.hops (.ow c1):=PK;rw[PL,EA,tr,TM,List.set_set];simp only[kL,<- Zp]
    rw[e]at ZJ;exact ZJ
   ·cases j with
    |zero=>exact⟨Y',O6⟩
    |succ j=>
     have:=Ze j (by simpa using hj);rw[show o+1+j=o+(j+1) by omega,World.frozen?_setCell]at this;refine⟨?_,this.2⟩
     have hne:(⟨b,o,none⟩:Addr)≠⟨b,o+(j+1),none⟩:=λe=>by have:=congrArg Addr.off e;simp at this
     rw[World.cell?_setCell_other w _ _ _ hne]at this;exact this.1
theorem yu:∀{l:List TV}{vs:List Value},cE l=some vs->vs.length=l.length/\∀j (h:j<l.length)(h':j<vs.length),l[j]=.v vs[j]:=by
 intro l
 induction l with
 |nil=>intro vs h;simp[cE]at h;subst h;exact⟨rfl,λj h=>by simp at h⟩
 |cons t l ih=>
  intro vs h
  cases t with
  |v x=>
   simp[cE]at h
   cases hl:cE l with
   |none=>simp_all
   |some r=>
    simp[hl]at h;subst h;have ⟨e1,e2⟩:=ih hl;refine⟨by simp[e1],λj hj ZU=>?_⟩
    cases j with
    |zero=>rfl
    |succ j=>simp_all
  |_=>simp[cE]at h
theorem xe{c:List (List TV)}{sz m:Nat}(hs:∀i (h:i<c.length),c[i].length=sz)(hm:m<=c.length):(c.take m).flatten.length=m*sz:=by
 rw[sF (sz:=sz) λi h=>by simp_all];simp[hm]
theorem pO{F fp:Nat->Prop}{t:TV}{v x:Value}{c c2:List (List TV)}{sz lo n cap:Nat}{ad:Option Addr}(h:eU w F fp t v)(ht:t=.ow c\/t=.sl c)(hs:∀i (h:i<c.length),c[i].length=sz)(Z1:0<sz)(Ze:c2=(c.drop lo).take n)(Xe:lo+n<=c.length)
 (hx:x=.slice ad n cap)(Y0:0<n->∃b o len ZS,v=.slice (some ⟨b,o,none⟩) len ZS/\ad=some ⟨b,o+lo*sz,none⟩)(RP:ad=none->n=0){m:Nat}{vs:List Value}(hm:m<=c2.length)(hf:cE (c2.take m).flatten=some vs):(Builtin.firstCells sz m x).run P w=.ok vs.toArray w:=by
 subst hx
 have OW:c2.length=n:=by rw[Ze];simp;omega
 have YY:∀i (h:i<c2.length),c2[i].length=sz:=λi h=>by
  subst Ze;simp only[List.getElem_take,List.getElem_drop];exact hs _ (by simp at h;omega)
 obtain⟨e1,e2⟩:=yu hf;have Zq:=xe YY hm
 cases ad with
 |none=>
  have hn:=RP rfl
  have S5:m=0:=by omega
  subst S5;have:vs=[]:=oEN (by rw[e1,Zq];omega);subst this;rfl
 |some ad=>
  show(loadCells ad (m*sz)).run P w=_;obtain⟨a,capX,vals,f,rfl,YB,ZV,hrec,_⟩:=h.rows ht hs
  have T0:vs.length=m*sz:=by rw[e1,Zq]
  have:=run_loadCells_list (P:=P) w ad vs λj y hj=>by
   have hjl:j<vs.length:=by
    rcases Nat.lt_or_ge j vs.length with h|h
    ·exact h
    ·rw[oGN h]at hj;simp at hj
   have Pn:j<m*sz:=by omega
   have hq:j/sz<m:=(Nat.div_lt_iff_lt_mul Z1).2 Pn;have hr:j%sz<sz:=Nat.mod_lt _ Z1
   have Nu:j/sz<c2.length:=by omega
   have Wk:lo+j/sz<c.length:=by omega
   have UZ:j%sz<(c[lo+j/sz]).length:=by rw[hs _ Wk];exact hr
   have YX:(lo+j/sz)*sz+j%sz=lo*sz+j:=by
    rw[Nat.add_mul];have:=Nat.div_add_mod j sz;rw[Nat.mul_comm]at this;omega
   have hown:=hrec (lo+j/sz) (j%sz) Wk UZ;rw[YX]at hown
   have YQ:c[lo+j/sz][j%sz]=.v y:=by
    have h1:=e2 j (by rw[Zq];exact Pn) hjl;have h2:=iA (c:=c2.take m) (sz:=sz) (λi h=>by simpa using YY i (by simp at h;omega)) (i:=j/sz) (j:=j%sz) (by simp;omega) (by rw[List.getElem_take,YY _ Nu];exact hr);rw[show j/sz*sz+j%sz=j by rw[Nat.mul_comm];exact Nat.div_add_mod j sz,oGE (by rw[Zq];exact Pn),h1]at h2
    injection h2 with h2
    have h3:(c2.take m)[j/sz]'(by simp;omega)=c[lo+j/sz]:=by
     subst Ze;simp
    have hy:vs[j]=y:=by simpa[hjl]using hj
    rw[<- hy,h2];simp only[h3]
   rw[YQ]at hown
   have We:vals.getD (lo*sz+j) undef=y:=by
    cases hown with
    |v hfp Zq=>rfl
   have hlt:lo*sz+j<vals.length:=by
    rw[YB]
    have:(lo+j/sz)*sz+sz<=c.length*sz:=by
     have:(lo+j/sz+1)*sz<=c.length*sz:=Nat.mul_le_mul_right _ Wk;rw[Nat.add_mul,Nat.one_mul]at this;exact this
    omega
   obtain⟨b,o,Wx,hcl⟩:=ZV (lo*sz+j) y (by rw[oGE hlt];rw[oGD,oGE hlt]at We;simpa using We);obtain⟨b',o',len,ZS,YA,Tt⟩:=Y0 (by rw[<- OW];exact Nat.lt_of_le_of_lt (Nat.zero_le _) Nu)
   injection YA with YA _ _
   rw[YA]at Wx
   injection Wx with Wx
   injection Wx with hb ho _
   subst hb;subst ho
   injection Tt with Tt
   rw[Tt,dB,show o'+lo*sz+j=o'+(lo*sz+j) by omega];exact hcl
  rw[T0]at this;exact this
theorem Dk(hI:Inv M σ [] [] ts w G){u:TV}{v:Value}(hu:TmR w (G.F M.A) σ.v (cC M σ []) G u v){c2:List (List TV)}(hr:(contentOf u).run σ=some (c2,σ')):σ'=σ/\∀sz,0<sz->(∀i (h:i<c2.length),c2[i].length=sz)->
 ∃ad cap,v=.slice ad c2.length cap/\∀m vs,m<=c2.length->cE (c2.take m).flatten=some vs->(Builtin.firstCells sz m v).run P w=.ok vs.toArray w:=by
 cases u with
 |sl c=>
  simp only[contentOf,SP.run,oSJ,oPJ]at hr;obtain⟨rfl,rfl⟩:=hr;refine⟨rfl,λsz Z1 hs=>?_⟩
  cases hu with
  |sl h=>
   have hown:eU w (G.F M.A) (λ_=>False) (.sl c) v:=.sl (λ_ h=>h) h;obtain⟨ad,cap,hv,_⟩:=h.hdr;refine⟨ad,cap,hv,λm vs hm hf=>pO (lo:=0) (n:=c.length) hown (.inr rfl) hs Z1 (by simp) (by simp) hv (λhn=>?_) (λhe=>?_) hm hf⟩
   ·cases h with
    | @sl _ a cap sz' u hsz hcap hmax hnil hcell hrec=>
     have e:sz'=sz:=by rw[<- hsz 0 hn,hs 0 hn]
     subst e;obtain⟨b,o,ha,_,_⟩:=hcell 0 0 hn Z1
     injection hv with hv _ _
     exact⟨b,o,_,_,by rw[ha],by rw[<- hv,ha];simp⟩
   ·cases h with
    | @sl _ a cap sz' u hsz hcap hmax hnil hcell hrec=>
     injection hv with hv _ _
     rw[hv]at hnil;have:=hnil he;omega
 |ow c=>
  cases hu with
  | @nil ad=>
   obtain⟨rfl,rfl⟩:=hr;refine⟨rfl,λsz Z1 hs=>⟨ad,0,rfl,λm vs hm hf=>?_⟩⟩
   have S5:m=0:=by simpa using hm
   subst S5;simp only[List.take_zero,List.flatten_nil,cE,oSJ]at hf;subst hf;cases ad<;>simp[Builtin.firstCells,loadCells,loadCellsFrom]
 |pk p vs=>
  simp only[contentOf]at hr;obtain⟨_,σ1,h1,h2⟩:=bS hr;have e1:σ1=σ:=(cq h1).1;have e2:=(cq h1).2;subst e1;obtain⟨tt,σ2,h3,h4⟩:=bS h2;obtain⟨e3,hg⟩:=dO h3;have e3:σ2=σ1:=e3;subst e3
  cases hu with
  |pk V0 h0 hv h=>
   obtain⟨Z5,c,Zv,ZF⟩:=h e2
   have Zk:cw (σ2.c p.root p.off) p.hops=some (.ow c):=by rw[cx (by exact Z5)]at ZF;exact ZF
   rw[Zk]at hg
   injection hg with hg
   subst hg;simp only[SP.run,oSJ,oPJ]at h4;obtain⟨rfl,rfl⟩:=h4;refine⟨rfl,λsz Z1 hs=>?_⟩;obtain⟨fp,hown⟩:=qn hI Zv ZF;obtain⟨ad,cap,YA,_⟩:=hown.hdr;refine⟨ad,cap,YA,λm vs hm hf=>pO (lo:=0) (n:=c.length) hown (.inl rfl) hs Z1 (by simp) (by simp) YA (λhn=>?_) (λhe=>?_) hm hf⟩
   ·cases hown with
    |nil=>simp at hn
    | @ow _ _ b cap cur e' sz' u f hfp hb hsz hcap hz0 hmax hcur hcell hrec hnb hdis=>
     injection YA with YA _ _
     exact⟨b,0,_,_,rfl,by rw[<- YA];simp⟩
   ·cases hown with
    |nil=>rfl
    | @ow _ _ b cap cur e' sz' u f hfp hb hsz hcap hz0 hmax hcur hcell hrec hnb hdis=>
     injection YA with YA _ _
     rw[he]at YA;simp at YA
 |pw p vs YK lo n=>
  simp only[contentOf]at hr;obtain⟨_,σ1,h1,h2⟩:=bS hr;have e1:σ1=σ:=(cq h1).1;have e2:=(cq h1).2;subst e1;obtain⟨tt,σ2,h3,h4⟩:=bS h2;obtain⟨e3,hg⟩:=dO h3;have e3:σ2=σ1:=e3;subst e3
  cases hu with
  |pw V0 h0 hv h=>
   obtain⟨Z5,c,hd,Zv,ZF,Xe,a,cap,hx,WH,W4,hnil,W7,Y0⟩:=h e2
   have Zk:cw (σ2.c p.root p.off) p.hops=some (.ow c):=by rw[cx (by exact Z5)]at ZF;exact ZF
   rw[Zk]at hg
   injection hg with hg
   subst hg;obtain⟨rfl,rfl⟩:=h4;refine⟨rfl,λsz Z1 hs=>?_⟩
   have Wa:((c.drop lo).take n).length=n:=by simp;omega
   obtain⟨fp,hown⟩:=qn hI Zv ZF;by_cases hn:n=0
   ·subst hn;refine⟨a,cap,by rw[Wa];exact hx,λm vs hm hf=>?_⟩
    have S5:m=0:=by omega
    subst S5;simp only[List.take_zero,List.flatten_nil,cE,oSJ]at hf;subst hf;rw[hx]
    cases a with
    |none=>rfl
    |some a=>simp[Builtin.firstCells,loadCells,loadCellsFrom]
   ·have PN:YK=sz:=by
     rw[<- hs 0 (by omega)];simp only[List.getElem_take,List.getElem_drop];exact(W7 _ (by omega)).symm
    subst PN;refine⟨a,cap,by rw[Wa];exact hx,λm vs hm hf=>pO (lo:=lo) (n:=n) hown (.inl rfl) W7 Z1 rfl Xe hx (λhn=>?_) (λhe=>?_) hm hf⟩
    ·obtain⟨b,len,ZS,q1,q2⟩:=Y0 hn;exact⟨b,0,len,ZS,q1,by rw[q2];simp⟩
    ·obtain⟨b,len,ZS,q1,q2⟩:=Y0 (by omega);rw[he]at q2;simp at q2
 |_=>simp[contentOf,SP.run]at hr
theorem oB{t t' ty e:TypeId}{sz:Nat}(hu:P.underlying t=some (.slice e))(hs:(P.info? e).map (·.size)=some sz){v:Value}{Wt:Option Addr}{n2 Vq:Nat}(hv:v=.slice Wt n2 Vq){ad:Option Addr}{n cap:Nat}{vs:List Value}(hf:(Builtin.firstCells sz (min n2 n) v).run P w=.ok vs.toArray w)
 {w':World}(hst:match ad with|some a=>(storeCells a vs).run P w=.ok () w'|none=>w'=w):
 (Builtin.copy_ #[t,t'] ty #[.slice ad n cap,v]).run P w=.ok (goInt ((min n2 n:Nat):Int)) w':=by
 subst hv
 cases hq:P.info? e with
 |none=>simp_all
 |some i=>
  have hi:i.size=sz:=by simp_all
  cases ad with
  |none=>
   subst hst;simp[Builtin.copy_,run_underlying hu,Builtin.lenOf,sizeOf,typeInfo,hq,hi,hf]
  |some a=>
   simp[Builtin.copy_,run_underlying hu,Builtin.lenOf,sizeOf,typeInfo,hq,hi,hf,hst]
theorem JC(hI:Inv M σ [] [] a.tmps w G){d:Nat}(hd:o.dst=some d)(hN:d<M.N){x y:Opd}{x' y':Operand}{t t' e sz:TypeId}(hx:bZ x'=some x)(hy:bZ y'=some y)(ho:o.op=.call { callee:=.builtin .copy,args:=#[x',y'],argTypes:=#[t,t'] })
 (hu:P.underlying t=some (.slice e))(hs:(P.info? e).map (·.size)=some sz)(hr:(ev1 d (.cpy sz x y)).run σ=some ((),σ')):i7 P M σ' a o w:=by
 simp only[ev1]at hr;obtain⟨tx,σ1,h1,h2⟩:=bS hr;obtain⟨rfl,ZY⟩:=cW hI.tmr hx h1;obtain⟨ty,σ2,h3,h4⟩:=bS h2;obtain⟨rfl,Xg⟩:=cW hI.tmr hy h3;obtain⟨c2,σ3,h5,h6⟩:=bS h4;obtain⟨rfl,Ui⟩:=Dk hI Xg h5
 have Ys:∀r w',(Builtin.copy_ #[t,t'] o.type #[a.eval x',a.eval y']).run P w=.ok r w'->(execOp a.eval o).run P w=.ok (.value r) w':=by
  intro r w' h;simp[execOp,ho,resolve,invoke,builtin,h]
 have fin:∀(p:cj)(c:List (List TV))(lo n:Nat)(vd S0:Value)(ad:Option Addr)(cap:Nat),p.root≠1->G.hv w p=some S0->cw (σ3.c p.root p.off) p.hops=some (.ow c)->a.eval x'=vd->vd=.slice ad n cap->lo+n<=c.length ->
  (∀b0 len ZS,S0=.slice (some ⟨b0,0,none⟩) len ZS->True)->(0<n->∃b len ZS,S0=.slice (some ⟨b,0,none⟩) len ZS/\len=c.length/\ad=some ⟨b,lo*sz,none⟩)->(wC d p (σ3.c p.root p.off) (If sz c c2 lo n)).run σ3=some ((),σ')->i7 P M σ' a o w:=by
  intro p c lo n vd S0 ad cap Z5 Zv hg NA NC Xe _ ZE hrun;unfold If at hrun;split at hrun
  ·rename_i Zq;split at hrun
   case isFalse=>simp[wC,SP.run]at hrun
   rename_i Yo;simp only[oBA,oDE,List.all_eq_true,beq_iff_eq]at Yo;obtain⟨Wt,Vq,Sq,WX⟩:=Ui sz Yo.1 λi h=>Yo.2 _ (List.getElem_mem h);have hf:=WX (min c2.length n) [] (Nat.min_le_left _ _) Zq;have O2:=oB (t':=t') (ty:=o.type) (ad:=ad) (n:=n) (cap:=cap) (w':=w) hu hs Sq hf (by cases ad<;>rfl);simp only[wC]at hrun;refine eQ hI hd hN (.v rfl) hrun (Ys _ _ ?_);rw[NA,NC];exact O2
  ·rename_i v vs Zq;split at hrun
   case isFalse=>simp[wC,SP.run]at hrun
   rename_i Yo;simp only[oBA,oDE,List.all_eq_true,beq_iff_eq]at Yo;obtain⟨⟨⟨⟨⟨k1,k2⟩,k3⟩,k4⟩,k5⟩,k6⟩:=Yo;have Xv:∀i (h:i<c2.length),c2[i].length=sz:=λi h=>k3 _ (List.getElem_mem h);obtain⟨Wt,Vq,Sq,WX⟩:=Ui sz k1 Xv;have hf:=WX (min c2.length n) (v::vs) (Nat.min_le_left _ _) Zq
   have YB:(v::vs).length=min c2.length n*sz:=by rw[(yu Zq).1,xe Xv (Nat.min_le_left _ _)]
   have Wn:0<n:=by
    rcases Nat.eq_zero_or_pos n with h|h
    ·subst h;simp at YB
    ·exact h
   obtain⟨b,len,ZS,Pi,hlen,Y0⟩:=ZE Wn;subst hlen;rw[Pi]at Zv;simp only[wC]at hrun;obtain⟨l,hl,hol,h7⟩:=cB hrun;have Qx:min c2.length n<=n:=Nat.min_le_right _ _
   obtain⟨⟨G1,hI1⟩,hcell⟩:=Hj Z5 k1 (v::vs) c (lo*sz) σ3 w G l (by simp) hI Zv hg rfl (λel YQ=>k2 el YQ) k6 (λt U3 X4=>by
    rw[YB]at X4;have Xf:lo<=t/sz:=(Nat.le_div_iff_mul_le k1).2 U3;have Yj:t/sz<lo+min c2.length n:=(Nat.div_lt_iff_lt_mul k1).2 (by rw[Nat.add_mul];exact X4);have VW:t%sz<sz:=Nat.mod_lt _ k1;have Nf:t/sz<c.length:=Nat.lt_of_lt_of_le Yj k4
    have Zr:c[t/sz]∈(c.drop lo).take (min c2.length n):=by
     obtain⟨q,hq⟩:∃q,t/sz=lo+q:=⟨t/sz-lo,by rw[Nat.add_sub_cancel' Xf]⟩;simp only[hq];rw[hq]at Yj;refine List.mem_of_getElem? (i:=q) ?_;rw[List.getElem?_take,oIP (Nat.lt_of_add_lt_add_left Yj),List.getElem?_drop];exact oGE _
    have hlt:t%sz<c[t/sz].length:=by rw[k2 _ (List.getElem_mem Nf)];exact VW
    have Rz:=k5 _ Zr _ (List.getElem_mem hlt);refine⟨c[t/sz],?_⟩
    cases hcv:c[t/sz][t%sz]with
    |v y=>exact⟨y,oGE Nf,by rw[oGE hlt,hcv]⟩
    |_=>rw[hcv]at Rz;simp[isV]at Rz) hl hol
   have hst:=run_storeCells_cells (P:=P) b (lo*sz) (v::vs) 0 w (λj hj=>by simpa using(hcell j hj).1) (λj hj=>by simpa using(hcell j hj).2) (λu hu=>ol (k6 u hu));have O2:=oB (t':=t') (ty:=o.type) (ad:=ad) (n:=n) (cap:=cap) (w':=w.setCells b (lo*sz) (v::vs)) hu hs Sq hf (by rw[Y0];simpa using hst);have PH:=Ys _ _ (by rw[NA,NC];exact O2);simp only[wr,SP.run,oSJ,oPJ,true_and]at h7;have e9:σ'={ σ3.sub p l (.ow (kL sz c (lo*sz) (v::vs)))with tm:=d5 (σ3.sub p l (.ow (kL sz c (lo*sz) (v::vs)))).tm d (.v (.int .i64 ((min c2.length n:Nat):Int))) }:=h7.symm;rw[e9];refine⟨_,_,_,G1,PH,.inl rfl,?_⟩;rw[hd];exact hI1.wrT hN (.v rfl)
  ·simp[wC,SP.run]at hrun
 cases tx with
 |pk p vs=>
  simp only at h6;obtain⟨_,σ4,h7,h8⟩:=bS h6;have e1:σ4=σ3:=(cq h7).1;have e2:=(cq h7).2;subst e1;simp only[SP.run]at h8;generalize hz:a.eval x'=z at ZY
  cases ZY with
  |pk V0 h0 hv h=>
   obtain⟨Z5,c,Zv,ZF⟩:=h e2
   have Zk:cw (σ4.c p.root p.off) p.hops=some (.ow c):=by rw[cx (by exact Z5)]at ZF;exact ZF
   rw[Zk]at h8;simp only at h8;obtain⟨fp,hown⟩:=qn hI Zv ZF;obtain⟨ad,cap,Vn,_⟩:=hown.hdr;refine fin p c 0 c.length z z ad cap Z5 Zv Zk hz Vn (by simp) (λ_ _ _ _=>trivial) (λhn=>?_) h8
   cases hown with
   |nil=>simp at hn
   | @ow _ _ b cap0 cur e' sz' u f hfp hb hsz hcap hz0 hmax hcur hcell hrec hnb hdis=>
    injection Vn with Vn _ _
    exact⟨b,_,_,rfl,rfl,by rw[<- Vn];simp⟩
 |pw p vs sz' lo n=>
  simp only at h6;obtain⟨_,σ4,h7,h8⟩:=bS h6;have e1:σ4=σ3:=(cq h7).1;have e2:=(cq h7).2;subst e1;simp only[SP.run]at h8;generalize hz:a.eval x'=z at ZY
  cases ZY with
  |pw V0 h0 hv h=>
   obtain⟨Z5,c,hd',Zv,ZF,Xe,ad,cap,PY,WH,W4,hnil,W7,Y0⟩:=h e2
   have Zk:cw (σ4.c p.root p.off) p.hops=some (.ow c):=by rw[cx (by exact Z5)]at ZF;exact ZF
   rw[Zk]at h8;simp only at h8;split at h8
   case isFalse=>simp[SP.run]at h8
   rename_i Wo;subst Wo;obtain⟨fp,hown⟩:=qn hI Zv ZF;refine fin p c lo n z hd' ad cap Z5 Zv Zk hz PY Xe (λ_ _ _ _=>trivial) (λhn=>?_) h8;obtain⟨b,len,ZS,q1,q2⟩:=Y0 hn;obtain⟨ad3,cap3,q3,_⟩:=hown.hdr;rw[q1]at q3
   injection q3 with _ q3 _
   exact⟨b,len,ZS,q1,q3,q2⟩
 |_=>simp[SP.run]at h6
end
def uC(P:Program)(t:TypeId):Option Nat:=(P.info? t).map (·.size)
def IC(P:Program)(t:TypeId):Option (List Value):=(P.info? t).bind (·.zero.map (·.cells.toList))
def xM(P:Program)(t:TypeId):Option (Option Nat):=
 match P.underlying t with
 |some (.struct _)=>(uC P t).map some
 |some (.array _ _)=>(uC P t).map some
 |some _=>some none
 |none=>none
def xG:Option Operand->Option (Option Opd)
 |none=>some none
 |some x=>(bZ x).map some
def l9{α β:Type}(f:α->Option β):List α->Option (List β)
 | []=>some []
 |x::r=>match f x,l9 f r with|some y,some l=>some (y::l)|_,_=>none
def nD(b:Bool):Option Unit:=if b then some ()else none
def L0(mv n:Nat)(x:Opd):TOp:=if mv=3 then .boxi n x else .box n (mv==1) x
def ew(P:Program)(mv:Nat):Op->Option TOp
 |.move x=>match x with
  |.const (.agg cs)=>some (.asn true (.c (.agg cs)))
  |x=>(bZ x).map .mov
 |.assign x=>if mv=2 then(bZ x).map .mov else(bZ x).map (.asn (mv==1))
 |.pick c a b=>do some (.pick (<- bZ c) (<- bZ a) (<- bZ b))
 |.alloc e=>(IC P e).map .alloc
 |.box e x=>do some (L0 mv (<- uC P e) (<- bZ x))
 |.load t a=>do some (.load (<- xM P t) (<- bZ a))
 |.store t a x=>do
  let n <- uC P t
  nD (decide (0<n))
  some (.store n (mv==1) (<- bZ a) (<- bZ x))
 |.nilCheck x=>(bZ x).map .nilc
 |.binOp op t x y _=>
  match P.underlying t with
  |some .bool=>match op with
   |.eql=>do some (.bnb false (<- bZ x) (<- bZ y))
   |.neq=>do some (.bnb true (<- bZ x) (<- bZ y))
   |_=>none
  |some (.int _)=>do some (.bin op (<- bZ x) (<- bZ y))
  |some .string=>do some (.bin op (<- bZ x) (<- bZ y))
  |some (.struct _)=>
   if P.eqGuardType P.depth t then none
   else match nE P 50 t with
    |some ks=>match op with
     |.eql=>do some (.eqa ks false (<- bZ x) (<- bZ y))
     |.neq=>do some (.eqa ks true (<- bZ x) (<- bZ y))
     |_=>none
    |none=>none
  |_=>none
 |.unOp op _ x=>(bZ x).map (.un op)
 |.convert s d x=>
  match P.underlying s,P.underlying d with
  |some (.int _),some (.int k)=>(bZ x).map (.conv k)
  |some .string,some (.slice e)=>match P.underlying e with
   |some (.int .u8)=>(bZ x).map .s2b
   |_=>none
  |some (.slice e),some .string=>match P.underlying e with
   |some (.int .u8)=>(bZ x).map .b2s
   |_=>none
  |_,_=>none
 |.fieldAddr s x f=>
  match P.underlying s with
  |some (.struct fs)=>match fs[f]? with
   |some fd=>match uC P fd.type with
    |some (_+1)=>(bZ x).map (.fld fd.offset)
    |_=>none
   |none=>none
  |_=>none
 |.field s x f=>
  match P.underlying s with
  |some (.struct fs)=>match fs[f]? with
   |some fd=>do some (.fldv fd.offset (<- xM P fd.type) (<- bZ x))
   |none=>none
  |_=>none
 |.indexAddr t x i=>
  match P.underlying t with
  |some (.slice e)=>do some (.idx (<- uC P e) (<- bZ x) (<- bZ i))
  |some (.array n e)=>do some (.idxa n (<- uC P e) (<- bZ x) (<- bZ i))
  |_=>none
 |.index t x i=>
  match P.underlying t with
  |some .string=>do some (.ixs (<- bZ x) (<- bZ i))
  |_=>none
 |.extract x i=>(bZ x).map λx=>.ext x i
 |.makeSlice t l c=>
  match P.underlying t with
  |some (.slice e)=>match P.info? e with
   |some i=>match i.zero with
    |some z=>do
     nD (decide (i.bytes<=16777216*i.size)&&decide (0<i.size))
     some (.mks i.size z.cells.toList (<- bZ l) (<- bZ c))
    |none=>none
   |none=>none
  |_=>none
 |.slice t x lo hi mx=>
  match mx with
  |some m=>match hi,P.underlying t with
   |some h,some (.slice e)=>do
    nD (DK lo&&rD h&&rD m)
    let _ <- uC P e
    some (.emp (<- bZ x))
   |_,_=>none
  |none=>match P.underlying t with
   |some (.slice e)=>do some (.slc (<- uC P e) (<- bZ x) (<- xG lo) (<- xG hi))
   |_=>none
 |.makeFunc fn first caps=>
  match fn with
  |.func f=>do
   nD (first.size==0)
   some (.mkf f (<- l9 bZ caps.toList))
  |_=>none
 |.buildSlice t len parts=>
  match P.underlying t with
  |some (.slice e)=>match P.info? e with
   |some i=>do
    nD ((i.zero.isSome||len*i.size==0)&&decide (len*i.size<=16777216)&&decide (len<=16777216)&&parts.toList.map (·.1)==List.range len)
    some (.bsl i.size (mv==1) len (<- l9 (λp=>bZ p.2) parts.toList))
   |none=>none
  |_=>none
 |.build t parts=>
  match P.underlying t,IC P t with
  |some (.struct fs),some z=>do
   nD (fs.toList.all λf=>(uC P f.type).isSome)
   let ps <- l9 (λp=>match fs[p.1]? with
    |some f=>match uC P f.type,bZ p.2 with
     |some n,some x=>if f.offset+n<=z.length then some (f.offset,n,x)else none
     |_,_=>none
    |none=>none) parts.toList
   some (.bld z (mv==1) ps)
  |some (.array _ e),some z=>match uC P e with
   |some sz=>do
    let ps <- l9 (λp=>match bZ p.2 with
     |some x=>if p.1*sz+sz<=z.length then some (p.1*sz,sz,x)else none
     |none=>none) parts.toList
    some (.bld z (mv==1) ps)
   |none=>none
  |_,_=>none
 |.call c=>
  match c with
  | { callee:=.builtin .append,args,argTypes }=>match args.toList,argTypes.toList with
   | [s,x],[t,t']=>if t=t' then
    match P.underlying t with
    |some (.slice e)=>match P.info? e with
     |some i=>match i.zero with
      |some z=>do
       nD (z.cells.size==i.size&&decide (0<i.size))
       some (.app i.size i.bytes (mv==1) (z.cells.all fh) (<- bZ s) (<- bZ x))
      |none=>none
     |none=>none
    |_=>none
    else match P.underlying t,P.underlying t' with
     |some (.slice e),some (.int _)=>match P.info? e with
      |some i=>match i.zero with
       |some z=>do
        nD (decide (0<i.size))
        some (.apz i.size i.bytes z.cells.toList (<- bZ s) (<- bZ x))
       |none=>none
      |none=>none
     |_,_=>none
   |_,_=>none
  | { callee:=.builtin .copy,args,argTypes }=>match args.toList,argTypes.toList with
   | [x,y],[t,_]=>match P.underlying t with
    |some (.slice e)=>do some (.cpy (<- uC P e) (<- bZ x) (<- bZ y))
    |_=>none
   |_,_=>none
  | { callee:=.builtin .min,args,argTypes:=_ }=>(l9 bZ args.toList).map (.mm false)
  | { callee:=.builtin .max,args,argTypes:=_ }=>(l9 bZ args.toList).map (.mm true)
  | { callee:=.builtin .len,args,argTypes }=>match args.toList,argTypes.toList with
   | [x],[t]=>match P.underlying t with
    |some (.slice _)=>(bZ x).map .len
    |some .string=>(bZ x).map .lens
    |_=>none
   |_,_=>none
  |_=>none
 |_=>none
theorem sf{P:Program}{t:TypeId}{n:Option Nat}(h:xM P t=some n):Cd P t n:=by
 unfold xM at h;split at h
 ·rename_i f hu
  cases hs:uC P t with
  |none=>simp_all
  |some k=>simp[hs]at h;subst h;exact⟨⟨_,hu,.inl ⟨_,rfl⟩⟩,hs⟩
 ·rename_i n e hu
  cases hs:uC P t with
  |none=>simp_all
  |some k=>simp[hs]at h;subst h;exact⟨⟨_,hu,.inr ⟨_,_,rfl⟩⟩,hs⟩
 ·rename_i d Yv hd2 hu
  injection h with h
  subst h;exact⟨d,hu,λf e=>Yv f (by rw[<- e]),λn e' e=>hd2 n e' (by rw[<- e])⟩
 ·simp at h
theorem xF{x:Option Operand}{y:Option Opd}(h:xG x=some y):x.map bZ=y.map some:=by
 cases x with
 |none=>simp[xG]at h;subst h;rfl
 |some x=>
  simp[xG]at h
  cases hc:bZ x with
  |none=>simp_all
  |some z=>simp[hc]at h;subst h;simp[hc]
theorem kM{α β:Type}{f:α->Option β}:∀{l:List α}{r:List β},l9 f l=some r->l.map f=r.map some:=by
 intro l
 induction l with
 |nil=>intro r h;simp[l9]at h;subst h;rfl
 |cons x l ih=>
  intro r h;simp[l9]at h
  cases hx:f x with
  |none=>simp_all
  |some y=>
   cases hl:l9 f l with
   |none=>simp_all
   |some q=>simp[hx,hl]at h;subst h;simp[hx,ih hl]
theorem iS{b:Bool}{u:Unit}(h:nD b=some u):b=true:=by
 unfold nD at h
 simp_all
theorem cb{α β:Type}{x:Option α}{f:α->Option β}{y:β}(h:(x >>= f)=some y):∃a,x=some a/\f a=some y:=by
 cases x with
 |none=>simp_all
 |some a=>simp_all
theorem fD{α β:Type}{x:Option α}{f:α->β}{y:β}(h:x.map f=some y):∃a,x=some a/\f a=y:=by
 simp_all
section
variable {P:Program} {M:Fm} {σ σ':St} {ts:Array Value} {w:World} {G:Gh} {a:Act} {o:Oper}
theorem Js(hI:Inv M σ [] [] a.tmps w G){d:Nat}(hd:o.dst=some d)(hN:d<M.N)(Yz:M.pr (2*d+2)=none){mv:Nat}{t:TOp}(hc:ew P mv o.op=some t)(hr:(ev1 d t).run σ=some ((),σ'))(hns:¬ ∃ty x y,o.op=.store ty x y):i7 P M σ' a o w:=by
 cases ho:o.op with
 |move x=>
  rw[ho]at hc;simp only[ew]at hc;split at hc
  ·injection hc with hc
   subst hc;exact En hI hd hN rfl (.inr ho) hr
  ·obtain⟨y,hy,rfl⟩:=fD hc;exact Eb hI hd hN hy (.inl ho) hr
 |assign x=>
  rw[ho]at hc;simp only[ew]at hc;split at hc
  ·obtain⟨y,hy,rfl⟩:=fD hc;exact Eb hI hd hN hy (.inr ho) hr
  ·obtain⟨y,hy,rfl⟩:=fD hc;exact En hI hd hN hy (.inl ho) hr
 |pick c x y=>
  rw[ho]at hc;simp only[ew]at hc;obtain⟨c1,h1,hc⟩:=cb hc;obtain⟨x1,h2,hc⟩:=cb hc;obtain⟨y1,h3,hc⟩:=cb hc
  injection hc with hc
  subst hc;exact GJ hI hd hN h1 h2 h3 ho hr
 |alloc e=>
  rw[ho]at hc;obtain⟨z,hz,rfl⟩:=fD hc;exact Eo hI hd hN Yz ho hz hr
 |box e x=>
  rw[ho]at hc;simp only[ew]at hc;obtain⟨n,h1,hc⟩:=cb hc;obtain⟨y,h2,hc⟩:=cb hc
  injection hc with hc
  subst hc;unfold L0 at hr;split at hr
  ·exact GR hI hd hN h2 ho hr
  ·exact JE hI hd hN Yz h2 ho hr
 |load t' x=>
  rw[ho]at hc;simp only[ew]at hc;obtain⟨n,h1,hc⟩:=cb hc;obtain⟨y,h2,hc⟩:=cb hc
  injection hc with hc
  subst hc;exact GL hI hd hN h2 ho (sf h1) hr
 |nilCheck x=>
  rw[ho]at hc;obtain⟨y,hy,rfl⟩:=fD hc;exact GK hI hd hN hy ho hr
 |binOp op ty x y yt=>
  rw[ho]at hc;simp only[ew]at hc
  have ZR:(do some (TOp.bin op (<- bZ x) (<- bZ y)):Option TOp)=some t->i7 P M σ' a o w:=by
   intro hc;obtain⟨x1,h2,hc⟩:=cb hc;obtain⟨y1,h3,hc⟩:=cb hc
   injection hc with hc
   subst hc;exact JG hI hd hN h2 h3 ho hr
  split at hc
  ·rename_i hu;split at hc
   ·obtain⟨x1,h2,hc⟩:=cb hc;obtain⟨y1,h3,hc⟩:=cb hc
    injection hc with hc
    subst hc;exact Em hI hd hN h2 h3 ho (.inl ⟨rfl,rfl⟩) hu hr
   ·obtain⟨x1,h2,hc⟩:=cb hc;obtain⟨y1,h3,hc⟩:=cb hc
    injection hc with hc
    subst hc;exact Em hI hd hN h2 h3 ho (.inr ⟨rfl,rfl⟩) hu hr
   ·simp at hc
  ·exact ZR hc
  ·exact ZR hc
  ·rename_i fs hu;split at hc
   case isTrue=>simp at hc
   rename_i Yg;split at hc
   case h_2=>simp at hc
   rename_i ks hk;split at hc
   ·obtain⟨x1,h2,hc⟩:=cb hc;obtain⟨y1,h3,hc⟩:=cb hc
    injection hc with hc
    subst hc;exact Ei hI hd hN h2 h3 ho (.inl ⟨rfl,rfl⟩) hu hk (by simpa using Yg) hr
   ·obtain⟨x1,h2,hc⟩:=cb hc;obtain⟨y1,h3,hc⟩:=cb hc
    injection hc with hc
    subst hc;exact Ei hI hd hN h2 h3 ho (.inr ⟨rfl,rfl⟩) hu hk (by simpa using Yg) hr
   ·simp at hc
  ·simp at hc
 |unOp op ty x=>
  rw[ho]at hc;obtain⟨y,hy,rfl⟩:=fD hc;exact K3 hI hd hN hy ho hr
 |convert s dd x=>
  rw[ho]at hc;simp only[ew]at hc;split at hc
  ·rename_i ks k hs Vi;obtain⟨y,hy,rfl⟩:=fD hc;exact GQ hI hd hN hy ho hs Vi hr
  ·rename_i e hs Vi;split at hc
   ·rename_i he;obtain⟨y,hy,rfl⟩:=fD hc;exact Jq hI hd hN hy ho hs Vi he hr
   ·simp at hc
  ·rename_i e hs Vi;split at hc
   ·rename_i he;obtain⟨y,hy,rfl⟩:=fD hc;exact JH hI hd hN hy ho hs Vi he hr
   ·simp at hc
  ·simp at hc
 |fieldAddr s x f=>
  rw[ho]at hc;simp only[ew]at hc;split at hc
  ·rename_i fs hu;split at hc
   ·rename_i fd hf;split at hc
    ·rename_i n hs;obtain⟨y,hy,rfl⟩:=fD hc;exact Jz hI hd hN hy ho hu hf ⟨_,hs⟩ hr
    ·simp at hc
   ·simp at hc
  ·simp at hc
 |field s x f=>
  rw[ho]at hc;simp only[ew]at hc;split at hc
  ·rename_i fs hu;split at hc
   ·rename_i fd hf;obtain⟨n,h1,hc⟩:=cb hc;obtain⟨y,h2,hc⟩:=cb hc
    injection hc with hc
    subst hc;exact GO hI hd hN h2 ho hu hf (sf h1) hr
   ·simp at hc
  ·simp at hc
 |indexAddr ty x i=>
  rw[ho]at hc;simp only[ew]at hc;split at hc
  ·rename_i e hu;obtain⟨n,h1,hc⟩:=cb hc;obtain⟨y,h2,hc⟩:=cb hc;obtain⟨z,h3,hc⟩:=cb hc
   injection hc with hc
   subst hc;exact Jy hI hd hN h2 h3 ho hu h1 hr
  ·rename_i n e hu;obtain⟨sz,h1,hc⟩:=cb hc;obtain⟨y,h2,hc⟩:=cb hc;obtain⟨z,h3,hc⟩:=cb hc
   injection hc with hc
   subst hc;exact GN hI hd hN h2 h3 ho hu h1 hr
  ·simp at hc
 |index ty x i=>
  rw[ho]at hc;simp only[ew]at hc;split at hc
  ·rename_i hu;obtain⟨y,h2,hc⟩:=cb hc;obtain⟨z,h3,hc⟩:=cb hc
   injection hc with hc
   subst hc;exact Jx hI hd hN h2 h3 ho hu hr
  ·simp at hc
 |extract x i=>
  rw[ho]at hc;obtain⟨y,hy,rfl⟩:=fD hc;exact JA hI hd hN hy ho hr
 |makeSlice ty l c=>
  rw[ho]at hc;simp only[ew]at hc;split at hc
  ·rename_i e hu;split at hc
   ·rename_i i hi;split at hc
    ·rename_i z hz;obtain⟨u,h1,hc⟩:=cb hc;obtain⟨y,h2,hc⟩:=cb hc;obtain⟨y2,h3,hc⟩:=cb hc
     injection hc with hc
     subst hc;have hg:=iS h1;simp only[oBA,oDE]at hg;exact Ju hI hd hN h2 h3 ho hu hi hz rfl rfl hg.1 hg.2 hr
    ·simp at hc
   ·simp at hc
  ·simp at hc
 |slice ty x lo hi mx=>
  rw[ho]at hc;simp only[ew]at hc;split at hc
  ·split at hc
   ·rename_i m h e hu;obtain⟨_,hg,hc⟩:=cb hc;obtain⟨n,h1,hc⟩:=cb hc;obtain⟨y,h2,hc⟩:=cb hc
    injection hc with hc
    subst hc;have hg:=iS hg;simp only[oBA]at hg;exact JB hI hd hN h2 ho hg.1.1 hg.1.2 hg.2 hu h1 hr
   ·simp at hc
  ·split at hc
   ·rename_i e hu;obtain⟨n,h1,hc⟩:=cb hc;obtain⟨y,h2,hc⟩:=cb hc;obtain⟨l1,h3,hc⟩:=cb hc;obtain⟨h4,h5,hc⟩:=cb hc
    injection hc with hc
    subst hc;exact Jp hI hd hN h2 (xF h3) (xF h5) ho hu h1 hr
   ·simp at hc
 |makeFunc fn first caps=>
  rw[ho]at hc;simp only[ew]at hc;split at hc
  ·rename_i f;obtain⟨u,h1,hc⟩:=cb hc;obtain⟨l,h2,hc⟩:=cb hc
   injection hc with hc
   subst hc;have hg:=iS h1
   have hf:first=#[]:=by simpa using hg
   subst hf;exact Jv hI hd hN (kM h2) ho hr
  ·simp at hc
 |buildSlice ty len parts=>
  rw[ho]at hc;simp only[ew]at hc;split at hc
  ·rename_i e hu;split at hc
   ·rename_i i hi;obtain⟨u,h1,hc⟩:=cb hc;obtain⟨l,h2,hc⟩:=cb hc
    injection hc with hc
    subst hc;have hg:=iS h1;simp only[oBA,Bool.or_eq_true,oDE,beq_iff_eq]at hg;obtain⟨⟨⟨g1,g2⟩,g3⟩,g4⟩:=hg;refine JD hI hd hN ho hu hi rfl (λh0=>?_) g4 (kM h2) g2 g3 hr;rcases g1 with g1|g1
    ·exact Option.isSome_iff_exists.1 g1
    ·omega
   ·simp at hc
  ·simp at hc
 |build ty parts=>
  rw[ho]at hc;simp only[ew]at hc;split at hc
  ·rename_i fs z hu hz;obtain⟨u,h1,hc⟩:=cb hc;obtain⟨ps,h2,hc⟩:=cb hc
   injection hc with hc
   subst hc;have hg:=iS h1;simp only[List.all_eq_true]at hg;have hm:=kM h2;refine JF hI hd hN (szf:=λf=>(uC P f.type).getD 0) ho hu hz (λf hf=>?_) ?_ (λk h h'=>?_) hr
   ·have:=hg f hf;obtain⟨n,hn⟩:=Option.isSome_iff_exists.1 this;rw[hn];exact hn
   ·have:=congrArg List.length hm;simpa using this
   ·have hk:(parts.toList.map (λp=>match fs[p.1]? with
     |some f=>match uC P f.type,bZ p.2 with
      |some n,some x=>if f.offset+n<=z.length then some (f.offset,n,x)else none
      |_,_=>none
     |none=>none))[k]?=(ps.map some)[k]?:=by rw[hm]
    simp only[List.getElem?_map,oGE h',oMS,Array.getElem?_toList,Array.getElem?_eq_getElem h]at hk
    cases hf:fs[parts[k].1]? with
    |none=>simp[hf]at hk
    |some f=>
     cases hs:uC P f.type with
     |none=>simp[hf,hs]at hk
     |some n=>
      cases hx:bZ parts[k].2 with
      |none=>simp[hf,hs,hx]at hk
      |some x=>
       simp only[hf,hs,hx,oSJ]at hk;split at hk
       ·rename_i YS
        injection hk with hk
        rw[<- hk];exact⟨rfl,by simp[hs],YS⟩
       ·simp at hk
  ·rename_i n e z hu hz;split at hc
   ·rename_i sz hsz;obtain⟨ps,h2,hc⟩:=cb hc
    injection hc with hc
    subst hc;have hm:=kM h2;refine GS hI hd hN ho hu hz hsz ?_ (λk h h'=>?_) hr
    ·have:=congrArg List.length hm;simpa using this
    ·have hk:(parts.toList.map (λp=>match bZ p.2 with
      |some x=>if p.1*sz+sz<=z.length then some (p.1*sz,sz,x)else none
      |none=>none))[k]?=(ps.map some)[k]?:=by rw[hm]
     simp only[List.getElem?_map,oGE h',oMS,Array.getElem?_toList,Array.getElem?_eq_getElem h]at hk
     cases hx:bZ parts[k].2 with
     |none=>simp[hx]at hk
     |some x=>
      simp only[hx,oSJ]at hk;split at hk
      ·rename_i YS
       injection hk with hk
       rw[<- hk];exact⟨rfl,rfl,rfl,YS⟩
      ·simp at hk
   ·simp at hc
  ·simp at hc
 |call c=>
  rw[ho]at hc;simp only[ew]at hc;split at hc
  ·rename_i args argTypes;split at hc
   ·rename_i s x t1 t2 ea et
    have ea:args=#[s,x]:=by rw[<- Array.toArray_toList (xs:=args),ea]
    have et:argTypes=#[t1,t2]:=by rw[<- Array.toArray_toList (xs:=argTypes),et]
    subst ea;subst et;split at hc
    ·rename_i PP;subst PP;split at hc
     ·rename_i e hu;split at hc
      ·rename_i i hi;split at hc
       ·rename_i z hz;obtain⟨u,h1,hc⟩:=cb hc;obtain⟨y,h2,hc⟩:=cb hc;obtain⟨y2,h3,hc⟩:=cb hc
        injection hc with hc
        subst hc;have hg:=iS h1;simp only[oBA,oDE,beq_iff_eq]at hg;exact JK hI hd hN h2 h3 ho hu hi hz hg.1 rfl rfl hg.2 hr
       ·simp at hc
      ·simp at hc
     ·simp at hc
    ·split at hc
     ·rename_i e kn hu Wc;split at hc
      ·rename_i i hi;split at hc
       ·rename_i z hz;obtain⟨u,h1,hc⟩:=cb hc;obtain⟨y,h2,hc⟩:=cb hc;obtain⟨y2,h3,hc⟩:=cb hc
        injection hc with hc
        subst hc;have hg:=iS h1;exact JI hI hd hN h2 h3 ho hu Wc hi hz rfl rfl rfl (of_decide_eq_true hg) hr
       ·simp at hc
      ·simp at hc
     ·simp at hc
   ·simp at hc
  ·rename_i args argTypes;split at hc
   ·rename_i x y t1 t2 ea et
    have ea:args=#[x,y]:=by rw[<- Array.toArray_toList (xs:=args),ea]
    have et:argTypes=#[t1,t2]:=by rw[<- Array.toArray_toList (xs:=argTypes),et]
    subst ea;subst et;split at hc
    ·rename_i e hu;obtain⟨sz,h1,hc⟩:=cb hc;obtain⟨y1,h2,hc⟩:=cb hc;obtain⟨y2,h3,hc⟩:=cb hc
     injection hc with hc
     subst hc;exact JC hI hd hN h2 h3 ho hu h1 hr
    ·simp at hc
   ·simp at hc
  ·rename_i args argTypes;obtain⟨l,h1,rfl⟩:=fD hc;exact IO (mx:=false) hI hd hN (kM h1) ho hr
  ·rename_i args argTypes;obtain⟨l,h1,rfl⟩:=fD hc;exact IO (mx:=true) hI hd hN (kM h1) ho hr
  ·rename_i args argTypes;split at hc
   ·rename_i x t1 ea et
    have ea:args=#[x]:=by rw[<- Array.toArray_toList (xs:=args),ea]
    have et:argTypes=#[t1]:=by rw[<- Array.toArray_toList (xs:=argTypes),et]
    subst ea;subst et;split at hc
    ·rename_i e hu;obtain⟨y,hy,rfl⟩:=fD hc;exact Jw hI hd hN hy ho hu hr
    ·rename_i hu;obtain⟨y,hy,rfl⟩:=fD hc;exact GM hI hd hN hy ho hu hr
    ·simp at hc
   ·simp at hc
  ·simp at hc
 |store ty x y=>
  rw[ho]at hc;simp only[ew]at hc;obtain⟨n,h1,hc⟩:=cb hc;obtain⟨u,h2,hc⟩:=cb hc;obtain⟨x1,h3,hc⟩:=cb hc;obtain⟨y1,h4,hc⟩:=cb hc
  injection hc with hc
  subst hc;exact absurd hns (by simp[ho])
 |_=>rw[ho]at hc;simp[ew]at hc
end
inductive Loc where
 |t (i:Nat)
 |c (r o:Nat)
 |h (r o:Nat)
 |n (r:Nat)
 |v (q:Key)
 deriving DecidableEq
def Loc.hit:Loc->Loc->Bool
 |.t i,.t j=>i==j
 |.c r o,.c r' o'=>r==r'&&o==o'
 |.n r,.n r'=>r==r'
 |.n r,.c r' _=>r==r'
 |.h r o,.h r' o'=>r==r'&&o==o'
 |.n r,.h r' _=>r==r'
 |.v q,.v q'=>q==q'
 |_,_=>false
abbrev mZ:=List Loc×List Loc
def hdW(r o:Nat)(t t':TV):List Loc:=if t'.hd=t.hd then[]else[.h r o]
def SP.foot{α:Type}:SP α->St->mZ
 |.ret _,_=>([],[])
 |.fail,_=>([],[])
 |.rdT i k,σ=>(.t i::((k (σ.t i)).foot σ).1,((k (σ.t i)).foot σ).2)
 |.rdC r o k,σ=>(.c r o::((k (σ.c r o)).foot σ).1,((k (σ.c r o)).foot σ).2)
 |.rdH r o k,σ=>(.h r o::((k (σ.c r o).hd).foot σ).1,((k (σ.c r o).hd).foot σ).2)
 |.rdV q k,σ=>(.v q::((k (σ.v q)).foot σ).1,((k (σ.v q)).foot σ).2)
 |.wrT i t k,σ=>((k.foot { σ with tm:=d5 σ.tm i t }).1,.t i::(k.foot { σ with tm:=d5 σ.tm i t }).2)
 |.wrC r o t k,σ=>
  match cA σ.ce r with
  |some l=>if o<l.length then(.n r :: .h r o::(k.foot { σ with ce:=d5 σ.ce r (l.set o t) }).1,.c r o::(hdW r o (σ.c r o) t++(k.foot { σ with ce:=d5 σ.ce r (l.set o t) }).2))else([],[])
  |none=>([],[])
 |.new r l k,σ=>(.v (r,0,0)::(k.foot { σ with ce:=d5 σ.ce r l,vr:=lS σ.vr (r,0,0) }).1,.n r :: .v (r,0,0)::(k.foot { σ with ce:=d5 σ.ce r l,vr:=lS σ.vr (r,0,0) }).2)
 |.bump q k,σ=>(.v q::(k.foot { σ with vr:=lS σ.vr q }).1,.v q::(k.foot { σ with vr:=lS σ.vr q }).2)
def f9(σ σ':St):Loc->Prop
 |.t i=>cA σ.tm i=cA σ'.tm i
 |.c r o=>σ.c r o=σ'.c r o
 |.h r o=>(σ.c r o).hd=(σ'.c r o).hd
 |.n r=>(cA σ.ce r).map List.length=(cA σ'.ce r).map List.length
 |.v q=>σ.v q=σ'.v q
def Kz(σ σ':St):Prop:=∀x,f9 σ σ' x
theorem f9.refl(σ:St)(x:Loc):f9 σ σ x:=by cases x<;>rfl
theorem f9.symm{σ σ':St}{x:Loc}(h:f9 σ σ' x):f9 σ' σ x:=by cases x<;>exact Eq.symm h
theorem f9.trans{σ σ' σ'':St}{x:Loc}(h:f9 σ σ' x)(h':f9 σ' σ'' x):f9 σ σ'' x:=by cases x<;>exact Eq.trans h h'
theorem Gn{σ:St}{r o:Nat}{t:TV}{l:List TV}(h:cA σ.ce r=some l)(ho:o<l.length)(r' o':Nat):St.c { σ with ce:=d5 σ.ce r (l.set o t) } r' o'=if r'=r/\o'=o then t else σ.c r' o':=by
 have:=congrFun (congrFun (uw (t:=t) h ho) r') o';exact this
theorem Mc{σ:St}{r:Nat}{l l':List TV}(h:cA σ.ce r=some l)(hl:l'.length=l.length)(r':Nat):(cA (d5 σ.ce r l') r').map List.length=(cA σ.ce r').map List.length:=by
 rw[cP]
 grind
theorem Dx{σ:St}{r:Nat}{l:List TV}{vr:List (Key×Nat)}(r' o':Nat):St.c { σ with ce:=d5 σ.ce r l,vr:=vr } r' o'=if r'=r then l.getD o' .dead else σ.c r' o':=by
 unfold St.c;simp[cP];by_cases e:r=r'
 ·simp_all
 ·rw[oIN e,oIN (Ne.symm e)]
theorem gE{α:Type}{s:SP α}:∀{σ:St}{a:α}{τ:St},s.run σ=some (a,τ)->∀x,(∀w∈(s.foot σ).2,w.hit x=false)->f9 σ τ x:=by
 induction s with
 |ret a=>intro σ b τ h x _;simp only[SP.run,oSJ,oPJ]at h;rw[h.2];exact f9.refl _ _
 |fail=>intro σ b τ h;simp[SP.run]at h
 |rdT i k ih=>intro σ b τ h x hx;exact ih _ h x hx
 |rdC r o k ih=>intro σ b τ h x hx;exact ih _ h x hx
 |rdH r o k ih=>intro σ b τ h x hx;exact ih _ h x hx
 |rdV q k ih=>intro σ b τ h x hx;exact ih _ h x hx
 |wrT i t k ih=>
  intro σ b τ h x hx;refine f9.trans ?_ (ih h x λw hw=>hx w (by simp[SP.foot,hw]));have h1:=hx (.t i) (by simp[SP.foot])
  cases x with
  |t j=>
   simp only[Loc.hit,beq_eq_false_iff_ne,ne_eq]at h1;simp[f9,cP,h1]
  |_=>exact rfl
 |wrC r o t k ih=>
  intro σ b τ h x hx;obtain⟨l,hl,ho,h2⟩:=cB h;simp only[SP.foot,hl,ho,if_true]at hx;refine f9.trans ?_ (ih h2 x λw hw=>hx w (by simp[hw]));have h1:=hx (.c r o) (by simp)
  cases x with
  |c r' o'=>
   simp only[Loc.hit,Bool.and_eq_false_imp,beq_iff_eq,beq_eq_false_iff_ne,ne_eq]at h1;show σ.c r' o'=_;rw[Gn hl ho,oIN];omega
  |h r' o'=>
   show(σ.c r' o').hd=TV.hd (St.c _ r' o');rw[Gn hl ho];split
   ·rename_i e;obtain⟨e1,e2⟩:=e;subst e1;subst e2;by_cases hh:t.hd=(σ.c r' o').hd
    ·exact hh.symm
    ·have:=hx (.h r' o') (by simp[hdW,hh]);simp[Loc.hit]at this
   ·rfl
  |n r'=>exact(Mc hl (by simp) r').symm
  |_=>exact rfl
 |new r l k ih=>
  intro σ b τ h x hx;refine f9.trans ?_ (ih h x λw hw=>hx w (by simp[SP.foot,hw]));have h1:=hx (.n r) (by simp[SP.foot]);have h2:=hx (.v (r,0,0)) (by simp[SP.foot])
  cases x with
  |t j=>exact rfl
  |c r' o'=>
   simp only[Loc.hit,beq_eq_false_iff_ne,ne_eq]at h1;show σ.c r' o'=_;rw[Dx,oIN (Ne.symm h1)]
  |h r' o'=>
   simp only[Loc.hit,beq_eq_false_iff_ne,ne_eq]at h1;show(σ.c r' o').hd=TV.hd (St.c _ r' o');rw[Dx,oIN (Ne.symm h1)]
  |n r'=>
   simp only[Loc.hit,beq_eq_false_iff_ne,ne_eq]at h1;simp[f9,cP,h1]
  |v q=>
   simp only[Loc.hit,beq_eq_false_iff_ne,ne_eq]at h2;show nP σ.vr q=nP (lS σ.vr (r,0,0)) q;rw[eF,oIN h2];rfl
 |bump q k ih=>
  intro σ b τ h x hx;refine f9.trans ?_ (ih h x λw hw=>hx w (by simp[SP.foot,hw]));have h2:=hx (.v q) (by simp[SP.foot])
  cases x with
  |v q'=>
   simp only[Loc.hit,beq_eq_false_iff_ne,ne_eq]at h2;show nP σ.vr q'=nP (lS σ.vr q) q';rw[eF,oIN h2];rfl
  |_=>exact rfl
theorem jn{α:Type}{s:SP α}:∀{σ σ':St}{a:α}{τ:St},s.run σ=some (a,τ)->(∀x∈(s.foot σ).1,f9 σ σ' x)->
 s.foot σ'=s.foot σ/\∃ τ',s.run σ'=some (a,τ')/\∀x,(f9 σ σ' x\/∃w∈(s.foot σ).2,w.hit x=true)->f9 τ τ' x:=by
 induction s with
 |ret a=>
  intro σ σ' b τ h hr;obtain⟨rfl,rfl⟩:=h;exact⟨rfl,σ',rfl,λx hx=>hx.elim id λ⟨w,hw,_⟩=>by simp[SP.foot]at hw⟩
 |fail=>intro σ σ' b τ h;simp[SP.run]at h
 |rdT i k ih=>
  intro σ σ' b τ h hr
  have h1:σ.t i=σ'.t i:=by
   have:cA σ.tm i=cA σ'.tm i:=hr (.t i) (by simp[SP.foot]);simp[St.t,this]
  obtain⟨e,τ',h2,h3⟩:=ih _ h λx hx=>hr x (by simp[SP.foot,hx]);refine⟨by simp only[SP.foot];rw[<- h1,e],τ',by simp only[SP.run];rw[<- h1];exact h2,h3⟩
 |rdC r o k ih=>
  intro σ σ' b τ h hr;have h1:σ.c r o=σ'.c r o:=hr (.c r o) (by simp[SP.foot]);obtain⟨e,τ',h2,h3⟩:=ih _ h λx hx=>hr x (by simp[SP.foot,hx]);refine⟨by simp only[SP.foot];rw[<- h1,e],τ',by simp only[SP.run];rw[<- h1];exact h2,h3⟩
 |rdH r o k ih=>
  intro σ σ' b τ h hr;have h1:(σ.c r o).hd=(σ'.c r o).hd:=hr (.h r o) (by simp[SP.foot]);obtain⟨e,τ',h2,h3⟩:=ih _ h λx hx=>hr x (by simp[SP.foot,hx]);refine⟨by simp only[SP.foot];rw[<- h1,e],τ',by simp only[SP.run];rw[<- h1];exact h2,h3⟩
 |rdV q k ih=>
  intro σ σ' b τ h hr;have h1:σ.v q=σ'.v q:=hr (.v q) (by simp[SP.foot]);obtain⟨e,τ',h2,h3⟩:=ih _ h λx hx=>hr x (by simp[SP.foot,hx]);refine⟨by simp only[SP.foot];rw[<- h1,e],τ',by simp only[SP.run];rw[<- h1];exact h2,h3⟩
 |wrT i t k ih=>
  intro σ σ' b τ h hr
  have hal:∀x,(f9 σ σ' x\/x=.t i)->f9 { σ with tm:=d5 σ.tm i t } { σ' with tm:=d5 σ'.tm i t } x:=by
   rintro x (hx|rfl)
   ·cases x with
    |t j=>
     show cA (d5 σ.tm i t) j=cA (d5 σ'.tm i t) j;rw[cP,cP];split
     ·rfl
     ·exact hx
    |_=>exact hx
   ·show cA (d5 σ.tm i t) i=cA (d5 σ'.tm i t) i;rw[cP,cP];simp
  obtain⟨e,τ',h2,h3⟩:=ih (σ':={ σ' with tm:=d5 σ'.tm i t }) h λx hx=>hal x (.inl (hr x (by simp[SP.foot,hx])));refine⟨by simp only[SP.foot];rw[e],τ',h2,λx hx=>h3 x ?_⟩;rcases hx with hx|⟨w,hw,hh⟩
  ·exact .inl (hal x (.inl hx))
  ·simp only[SP.foot,List.mem_cons]at hw;rcases hw with rfl|hw
   ·left;refine hal x (.inr ?_);cases x<;>simp[Loc.hit]at hh;rw[hh]
   ·exact .inr ⟨w,hw,hh⟩
 |wrC r o t k ih=>
  intro σ σ' b τ h hr;obtain⟨l,hl,ho,h0⟩:=cB h;simp only[SP.foot,hl,ho,if_true]at hr⊢;have hn:(cA σ.ce r).map List.length=(cA σ'.ce r).map List.length:=hr (.n r) (by simp)
  obtain⟨l',X7,RH⟩:∃l',cA σ'.ce r=some l'/\l'.length=l.length:=by
   rw[hl]at hn
   cases ha:cA σ'.ce r with
   |none=>rw[ha]at hn;simp at hn
   |some l'=>rw[ha]at hn;exact⟨l',rfl,by simpa using hn.symm⟩
  have Y6:o<l'.length:=by omega
  have hh:(σ.c r o).hd=(σ'.c r o).hd:=hr (.h r o) (by simp)
  have hW:hdW r o (σ'.c r o) t=hdW r o (σ.c r o) t:=by unfold hdW;rw[hh]
  have hal:∀x,(f9 σ σ' x\/x=.c r o\/x=.h r o)->f9 { σ with ce:=d5 σ.ce r (l.set o t) } { σ' with ce:=d5 σ'.ce r (l'.set o t) } x:=by
   rintro x (hx|rfl|rfl)
   ·cases x with
    |c r' o'=>
     show St.c _ r' o'=St.c _ r' o';rw[Gn hl ho,Gn X7 Y6];split
     ·rfl
     ·exact hx
    |h r' o'=>
     show TV.hd (St.c _ r' o')=TV.hd (St.c _ r' o');rw[Gn hl ho,Gn X7 Y6];split
     ·rfl
     ·exact hx
    |n r'=>
     show Option.map _ _=Option.map _ _;rw[Mc hl (by simp),Mc X7 (by simp)];exact hx
    |_=>exact hx
   ·show St.c _ r o=St.c _ r o;rw[Gn hl ho,Gn X7 Y6];simp
   ·show TV.hd (St.c _ r o)=TV.hd (St.c _ r o);rw[Gn hl ho,Gn X7 Y6];simp
  obtain⟨e,τ',h2,h3⟩:=ih (σ':={ σ' with ce:=d5 σ'.ce r (l'.set o t) }) h0 λx hx=>hal x (.inl (hr x (by simp[hx])));refine⟨by simp only[X7,Y6,if_true];rw[e,hW],τ',by simp only[SP.run,X7,Y6,if_true];exact h2,λx hx=>h3 x ?_⟩;rcases hx with hx|⟨w,hw,hh⟩
  ·exact .inl (hal x (.inl hx))
  ·simp only[List.mem_cons,List.mem_append]at hw;rcases hw with rfl|hw|hw
   ·left;refine hal x (.inr (.inl ?_));cases x<;>simp[Loc.hit]at hh;rw[hh.1,hh.2]
   ·left;refine hal x (.inr (.inr ?_));unfold hdW at hw;split at hw
    ·simp at hw
    ·simp only[List.mem_singleton]at hw;subst hw;cases x<;>simp[Loc.hit]at hh;rw[hh.1,hh.2]
   ·exact .inr ⟨w,hw,hh⟩
 |new r l k ih=>
  intro σ σ' b τ h hr;have hv:σ.v (r,0,0)=σ'.v (r,0,0):=hr (.v (r,0,0)) (by simp[SP.foot])
  have hal:∀x,(f9 σ σ' x\/(Loc.n r).hit x=true)->f9 { σ with ce:=d5 σ.ce r l,vr:=lS σ.vr (r,0,0) } { σ' with ce:=d5 σ'.ce r l,vr:=lS σ'.vr (r,0,0) } x:=by
   intro x hx
   cases x with
   |t j=>rcases hx with hx|hx
         ·exact hx
         ·simp[Loc.hit]at hx
   |c r' o'=>
    show St.c _ r' o'=St.c _ r' o';rw[Dx,Dx];split
    ·rfl
    ·rename_i e;rcases hx with hx|hx
     ·exact hx
     ·simp[Loc.hit]at hx;exact absurd hx.symm e
   |h r' o'=>
    show TV.hd (St.c _ r' o')=TV.hd (St.c _ r' o');rw[Dx,Dx];split
    ·rfl
    ·rename_i e;rcases hx with hx|hx
     ·exact hx
     ·simp[Loc.hit]at hx;exact absurd hx.symm e
   |n r'=>
    show Option.map _ (cA (d5 _ _ _) _)=Option.map _ (cA (d5 _ _ _) _);rw[cP,cP];split
    ·rfl
    ·rename_i e;rcases hx with hx|hx
     ·exact hx
     ·simp[Loc.hit]at hx;exact absurd hx e
   |v q=>
    show nP (lS _ _) q=nP (lS _ _) q;rw[eF,eF];rcases hx with hx|hx
    ·have hx:nP σ.vr q=nP σ'.vr q:=hx;rw[hx]
    ·simp[Loc.hit]at hx
  obtain⟨e,τ',h2,h3⟩:=ih (σ':={ σ' with ce:=d5 σ'.ce r l,vr:=lS σ'.vr (r,0,0) }) h λx hx=>hal x (.inl (hr x (by simp[SP.foot,hx])));refine⟨by simp only[SP.foot];rw[e],τ',h2,λx hx=>h3 x ?_⟩;rcases hx with hx|⟨w,hw,hh⟩
  ·exact .inl (hal x (.inl hx))
  ·simp only[SP.foot,List.mem_cons]at hw;rcases hw with rfl|rfl|hw
   ·exact .inl (hal x (.inr hh))
   ·left;refine hal x (.inl ?_);cases x<;>simp[Loc.hit]at hh;rw[<- hh];exact hv
   ·exact .inr ⟨w,hw,hh⟩
 |bump q k ih=>
  intro σ σ' b τ h hr;have hv:σ.v q=σ'.v q:=hr (.v q) (by simp[SP.foot])
  have hal:∀x,f9 σ σ' x->f9 { σ with vr:=lS σ.vr q } { σ' with vr:=lS σ'.vr q } x:=by
   intro x hx
   cases x with
   |v q'=>
    show nP (lS _ _) q'=nP (lS _ _) q';rw[eF,eF];have hx:nP σ.vr q'=nP σ'.vr q':=hx;rw[hx]
   |_=>exact hx
  obtain⟨e,τ',h2,h3⟩:=ih (σ':={ σ' with vr:=lS σ'.vr q }) h λx hx=>hal x (hr x (by simp[SP.foot,hx]));refine⟨by simp only[SP.foot];rw[e],τ',h2,λx hx=>h3 x ?_⟩;rcases hx with hx|⟨w,hw,hh⟩
  ·exact .inl (hal x hx)
  ·simp only[SP.foot,List.mem_cons]at hw;rcases hw with rfl|hw
   ·left;refine hal x ?_;cases x<;>simp[Loc.hit]at hh;rw[<- hh];exact hv
   ·exact .inr ⟨w,hw,hh⟩
def C0(a b:List Loc):Bool:=a.any λw=>b.any λx=>w.hit x
def lf(a b:mZ):Bool:=C0 a.2 b.1||C0 a.2 b.2||C0 b.2 a.1||C0 b.2 a.2
theorem mQ{a b:List Loc}(h:C0 a b=false):∀w∈a,∀x∈b,w.hit x=false:=by
 simp[C0]at h
 simp_all
theorem Hy{w w' x:Loc}(h:w.hit x=true)(h':w'.hit x=true):w.hit w'=true\/w'.hit w=true:=by
 cases x<;>cases w<;>simp[Loc.hit]at h<;>cases w'<;>simp[Loc.hit]at h'⊢<;>simp_all
theorem Cg{A B:SP Unit}{σ σ1 σ2:St}(hA:A.run σ=some ((),σ1))(hB:B.run σ1=some ((),σ2))(hc:lf (A.foot σ) (B.foot σ1)=false):
 ∃ σ1' σ2',B.run σ=some ((),σ1')/\A.run σ1'=some ((),σ2')/\Kz σ2 σ2'/\B.foot σ=B.foot σ1/\A.foot σ1'=A.foot σ:=by
 simp only[lf,Bool.or_eq_false_iff]at hc;obtain⟨⟨⟨c1,c2⟩,c3⟩,c4⟩:=hc;have hR:=λx hx=>(gE hA x λw hw=>mQ c1 w hw x hx).symm;obtain⟨e1,σ1',Qh,MV⟩:=jn hB hR;have XD:∀x,(∀w∈(B.foot σ1).2,w.hit x=false)->f9 σ σ1' x:=λx hx=>gE Qh x (by simp_all);have SX:=λx hx=>XD x λw hw=>mQ c3 w hw x hx;obtain⟨e2,σ2',MT,hA2⟩:=jn hA SX;refine⟨σ1',σ2',Qh,MT,λx=>?_,e1,e2⟩;by_cases hx:∃w∈(B.foot σ1).2,w.hit x=true
 ·obtain⟨w,hw,hh⟩:=hx;refine f9.trans (MV x (.inr ⟨w,hw,hh⟩)) (gE MT x λw' Sx=>?_);rw[e2]at Sx
  cases hh':w'.hit x with
  |false=>rfl
  |true=>
   rcases Hy hh hh' with h|h
   ·rw[mQ c4 w hw w' Sx]at h;simp at h
   ·rw[mQ c2 w' Sx w hw]at h;simp at h
 ·have hx':∀w∈(B.foot σ1).2,w.hit x=false:=λw hw=>by
   simp_all
  refine f9.trans (gE hB x hx').symm (hA2 x ?_)
  simp_all
theorem tE{α:Type}{s:SP α}{σ σ':St}{a:α}{τ:St}(h:s.run σ=some (a,τ))(hs:Kz σ σ'):s.foot σ'=s.foot σ/\∃ τ',s.run σ'=some (a,τ')/\Kz τ τ':=by
 have ⟨e,τ',h1,h2⟩:=jn h λx _=>hs x;exact⟨e,τ',h1,λx=>h2 x (.inl (hs x))⟩
def na(pg:Nat->SP Unit):List Nat->St->Option (List (Nat×mZ)×St)
 | [],σ=>some ([],σ)
 |i::r,σ=>((pg i).run σ).bind λx=>(na pg r x.2).bind λy=>some ((i,(pg i).foot σ)::y.1,y.2)
theorem CH{pg:Nat->SP Unit}:∀{L:List Nat}{σ σ':St}{fs:List (Nat×mZ)}{τ:St},na pg L σ=some (fs,τ)->Kz σ σ'->∃ τ',na pg L σ'=some (fs,τ')/\Kz τ τ':=by
 intro L
 induction L with
 |nil=>
  intro σ σ' fs τ h hs;obtain⟨rfl,rfl⟩:=h;exact⟨σ',rfl,hs⟩
 |cons i L ih=>
  intro σ σ' fs τ h hs;have ⟨⟨u,σ1⟩,h1,h2⟩:=cb h;have ⟨⟨Ow,τ0⟩,h3,h4⟩:=cb h2
  injection h4 with h4
  injection h4 with h4 h5
  subst h5;have ⟨e,σ1',k1,k2⟩:=tE h1 hs;have ⟨τ',k3,k4⟩:=ih h3 k2;exact⟨τ',by simp[na,k1,k3,e];rw[h4],k4⟩
theorem zu{pg:Nat->SP Unit}{i:Nat}{post:List Nat}:∀{pre:List Nat}{σ:St}{fs:List (Nat×mZ)}{τ:St},na pg (pre++i::post) σ=some (fs,τ)->
 (∀XT F Wv,fs=XT++(i,F)::Wv->XT.map (·.1)=pre->∀y∈XT,lf y.2 F=false)->
 ∃ σ' τ' XT F Wv,fs=XT++(i,F)::Wv/\XT.map (·.1)=pre/\(pg i).run σ=some ((),σ')/\(pg i).foot σ=F/\na pg (pre++post) σ'=some (XT++Wv,τ')/\Kz τ τ':=by
 intro pre
 induction pre with
 |nil=>
  intro σ fs τ h _;obtain⟨⟨u,σ1⟩,h1,h2⟩:=cb h;obtain⟨⟨Ow,τ0⟩,h3,h4⟩:=cb h2
  injection h4 with h4
  injection h4 with h4 h5
  subst h5;exact⟨σ1,τ0,[],_,Ow,h4.symm,rfl,h1,rfl,h3,λx=>f9.refl _ _⟩
 |cons j pre ih=>
  intro σ fs τ h hc;obtain⟨⟨u,σ1⟩,h1,h2⟩:=cb h;obtain⟨⟨Ow,τ0⟩,h3,h4⟩:=cb h2
  injection h4 with h4
  injection h4 with h4 h5
  subst h5;obtain⟨σ2,τ',XT,F,Wv,e1,e2,k1,k2,k3,k4⟩:=ih h3 λXT F Wv e e' y hy=>hc ((j,(pg j).foot σ)::XT) F Wv (by rw[<- h4,e];rfl) (by simp[e']) y (by simp[hy])
  have hcl:lf ((pg j).foot σ) ((pg i).foot σ1)=false:=by
   rw[k2];exact hc ((j,(pg j).foot σ)::XT) F Wv (by rw[<- h4,e1];rfl) (by simp[e2]) (j,(pg j).foot σ) (by simp)
  obtain⟨σ1',σ2',m1,m2,m3,m4,m5⟩:=Cg h1 k1 hcl;obtain⟨τ2,n1,n2⟩:=CH k3 m3;refine⟨σ1',τ2,(j,(pg j).foot σ)::XT,F,Wv,by rw[<- h4,e1];rfl,by simp[e2],m1,m4.trans k2,?_,λx=>(k4 x).trans (n2 x)⟩;simp only[List.cons_append,na,m2,oBS,n1,m5]
def fX(deps:List (List Nat)):List (Nat×mZ)->Bool
 | []=>true
 |(j,F)::r=>(r.all λy=>!lf F y.2||(deps.getD y.1 []).contains j)&&fX deps r
structure fZ where
 dst:Option Nat
 guard:Option (Nat×Bool)
 op:TOp
inductive ia where
 |skip
 |nrm (pers:List Nat×List Nat)
 |reg (id:Nat) (draw:Option (List (List Nat))) (ops:List fZ) (pers:List Nat×List Nat)
 |seq (a b:ia)
 |cond (c:Opd) (a b:ia)
 |block (id:Nat) (b:ia)
 |loop (b:ia)
 |exit (id:Nat)
 |ret
 |pre (l:List (Nat×Option Nat)) (a:ia)
 |post (a:ia) (l:List (Nat×Option Nat))
inductive hJ where
 |normal
 |exit (id:Nat)
 |ret
def renorm0(L:List Nat)(σ:St):TV->TV
 |.ptr p vs=>if L.contains p.root&&vs==gG σ.v p.root p.off p.hops.length then .ptr p (gG (λ_=>0) p.root p.off p.hops.length)else .dead
 |.pk p vs=>if L.contains p.root&&vs==gG σ.v p.root p.off (p.hops.length+1)then .pk p (gG (λ_=>0) p.root p.off (p.hops.length+1))else .dead
 |.pw p vs sz lo n=>if L.contains p.root&&vs==gG σ.v p.root p.off (p.hops.length+1)then .pw p (gG (λ_=>0) p.root p.off (p.hops.length+1)) sz lo n else .dead
 |.v x=>.v x
 |.sl c=>.sl c
 |.ip cs=>.ip cs
 |.ow []=>.ow []
 |.tup []=>.tup []
 |_=>.dead
def renorm(L:List Nat)(σ:St):TV->TV
 |.agg l=>.agg (l.map (renorm0 L σ))
 |.fn f l=>.fn f (l.map (renorm0 L σ))
 |t=>renorm0 L σ t
def normT(L:List Nat)(σ:St):List Nat->List (Nat×TV)
 | []=>[]
 |i::r=>match cA σ.tm i with|some t=>(i,renorm L σ t)::normT L σ r|none=>normT L σ r
def normC(σ:St):List Nat->List (Nat×List TV)
 | []=>[]
 |r::l=>match cA σ.ce r with|some c=>(r,c)::normC σ l|none=>normC σ l
abbrev Prs:=List Nat×List Nat
def St.norm(σ:St)(pers:Prs):St:=⟨normT pers.2 σ pers.1,normC σ pers.2,[]⟩
def evop(call:Option Nat->TOp->SP Unit)(dst:Option Nat)(op:TOp):SP Unit:=
 match op with
 |.call k f args=>call dst (.call k f args)
 |.store n mv a x=>match dst with|none=>ev1 0 (.store n mv a x)|some _=>.fail
 |op=>match dst with|some d=>ev1 d op|none=>.fail
def vA(call:Option Nat->TOp->SP Unit)(o:fZ)(σ:St):Option St:=
 match o.guard with
 |none=>((evop call o.dst o.op).run σ).map (·.2)
 |some (j,want)=>
  match σ.t j with
  |.v (.bool b)=>if b=want then((evop call o.dst o.op).run σ).map (·.2)else match o.dst with|some d=>some { σ with tm:=d5 σ.tm d (.tup []) } |none=>some σ
  |.tup []=>match o.dst with|some d=>some { σ with tm:=d5 σ.tm d (.tup []) } |none=>some σ
  |_=>none
def oC(call:Option Nat->TOp->SP Unit):List fZ->St->Option St
 | [],σ=>some σ
 |o::r,σ=>(vA call o σ).bind (oC call r)
def setNo(dst:Option Nat):SP Unit:=match dst with|some d=>.wrT d (.tup []) (.ret ())|none=>.ret ()
def spOp(call:Option Nat->TOp->SP Unit)(o:fZ):SP Unit:=
 match o.guard with
 |none=>evop call o.dst o.op
 |some (j,want)=>.rdT j λt=>match t with
  |.v (.bool b)=>if b=want then evop call o.dst o.op else setNo o.dst
  |.tup []=>setNo o.dst
  |_=>.fail
def yX:fZ:=⟨none,none,.lens (.t 0)⟩
theorem A8{call:Option Nat->TOp->SP Unit}{o:fZ}{σ σ':St}(h:(spOp call o).run σ=some ((),σ')):vA call o σ=some σ':=by
 have Yy:∀{σ'},(setNo o.dst).run σ=some ((),σ')->(match o.dst with|some d=>some { σ with tm:=d5 σ.tm d (.tup []) } |none=>some σ)=some σ':=by
  intro σ' h;unfold setNo at h
  cases hd:o.dst with
  |none=>rw[hd]at h;simp only[SP.run,oSJ,oPJ,true_and]at h;simp[h]
  |some d=>rw[hd]at h;simp only[SP.run,oSJ,oPJ,true_and]at h;simp[h]
 unfold spOp at h;unfold vA
 cases hg:o.guard with
 |none=>simp_all
 |some g=>
  rw[hg]at h;simp[SP.run]at h⊢;split at h
  ·grind
  ·simp_all
  ·simp[SP.run]at h
def Ka(f:St->Option (hJ×St)):Nat->St->Option (hJ×St)
 |0,_=>none
 |n+1,σ=>(f σ).bind λx=>match x.1 with|.normal=>Ka f n x.2|e=>some (e,x.2)
def shr1(x:Nat×Option Nat):SP Unit:=.rdT x.1 λt=>match x.2,t with
 |none,.pk p vs=>(take1 false (.pk p vs)).bind λt'=>.wrT x.1 t'.imm (.ret ())
 |some off,.ptr p vs=>(chk p p.hops.length vs).bind λ_=>if p.fits off then(getPl (p.add off)).bind λt=>match t with
  |.ow c=>(peek1 (p.add off) (.ow c)).bind λt'=>(take1 false t').bind λ_=>.ret ()
  |_=>.ret ()
  else .fail
 |_,_=>.ret ()
def shrs:List (Nat×Option Nat)->SP Unit
 | []=>.ret ()
 |x::r=>(shr1 x).bind λ_=>shrs r
def St.anew(σ:St):St:=σ.norm (σ.tm.map (·.1),σ.ce.map (·.1))
def runC(call:Option Nat->TOp->SP Unit)(N:Nat):ia->St->Option (hJ×St)
 |.skip,σ=>some (.normal,σ)
 |.nrm pers,σ=>some (.normal,σ.norm pers)
 |.reg _ draw ops pers,σ=>
  match draw with
  |none=>(oC call ops σ).map fun σ'=>(.normal,σ'.norm pers)
  |some deps=>(na (λi=>spOp call (ops.getD i yX)) (List.range ops.length) σ).bind λx=>if fX deps x.1 then some (.normal,x.2.norm pers)else none
 |.seq a b,σ=>(runC call N a σ).bind λx=>match x.1 with|.normal=>runC call N b x.2|e=>some (e,x.2)
 |.cond c a b,σ=>((opd c).run σ).bind λx=>match x.1 with|.v (.bool true)=>runC call N a σ |.v (.bool false)=>runC call N b σ |_=>none
 |.block id b,σ=>(runC call N b σ).bind λx=>match x.1 with|.exit i=>if i=id then some (.normal,x.2)else some (.exit i,x.2)|e=>some (e,x.2)
 |.loop b,σ=>Ka (runC call N b) N σ
 |.exit id,σ=>some (.exit id,σ)
 |.ret,σ=>some (.ret,σ)
 |.pre l a,σ=>((shrs l).run σ).bind λx=>runC call N a x.2.anew
 |.post a l,σ=>(runC call N a σ).bind λx=>((shrs l).run x.2).bind λy=>some (x.1,y.2.anew)
section norm
variable {M:Fm} {σ σ':St} {ts:Array Value} {w:World} {G:Gh}
theorem DB(L:List Nat)(σ:St)(l:List Nat)(i:Nat):cA (normT L σ l) i=if i∈l then(cA σ.tm i).map (renorm L σ)else none:=by
 induction l with
 |nil=>simp[normT,cA]
 |cons j r ih=>
  simp[normT];by_cases hj:j=i
  ·subst hj
   cases h:cA σ.tm j with
   |none=>simp_all
   |some t=>simp[cA]
  ·cases h:cA σ.tm j with
   |none=>simp[ih,Ne.symm hj]
   |some t=>simp[cA,hj,ih,Ne.symm hj]
theorem qg(σ:St)(l:List Nat)(r:Nat):cA (normC σ l) r=if r∈l then cA σ.ce r else none:=by
 induction l with
 |nil=>simp[normC,cA]
 |cons j l ih=>
  simp[normC];by_cases hj:j=r
  ·subst hj
   cases h:cA σ.ce j with
   |none=>simp_all
   |some t=>simp[cA]
  ·cases h:cA σ.ce j with
   |none=>simp[ih,Ne.symm hj]
   |some t=>simp[cA,hj,ih,Ne.symm hj]
theorem Inv.norm(hI:Inv M σ [] [] ts w G)(pers:Prs):∃G',Inv M (σ.norm pers) [] [] ts w G':=by
 obtain⟨L,hL⟩:∃L,L=pers.2:=⟨_,rfl⟩
 have hc:∀r o,(σ.norm pers).c r o=if r∈L then σ.c r o else .dead:=by
  intro r o;unfold St.c St.norm;simp only[<- hL,qg];by_cases h:r∈L<;>simp[h]
 have hE:∀r o,cC M (σ.norm pers) [] r o=if r∈L then cC M σ [] r o else .dead:=by
  intro r o;unfold cC;by_cases h:r=M.hr
  ·simp[h]
  ·simp only[oIN h,hc]
 let G':Gh:=⟨G.β,G.η,λr o k=>if r∈L then G.φ r o k else False⟩
 have Z8:∀r o k,G'.φ r o k->G.φ r o k:=by
  intro r o k hk;simp only[G']at hk
  simp_all
 have XZ:=iG.ghost (C':=cC M (σ.norm pers) []) (G':=G') hI.core rfl (λk ⟨r,o,h⟩=>⟨r,o,Z8 r o k h⟩) (λr1 o1 r2 o2 k h1 h2=>hI.core.dis _ _ _ _ k (Z8 _ _ k h1) (Z8 _ _ k h2))
  (λr b o0 n hb o ho=>by
   rw[hE];split
   ·exact hI.core.boxc r b o0 n hb o ho
   ·rfl)
  (λr o=>by
   by_cases h:r∈L
   ·left;exact⟨by rw[hE,oIP h],λk=>by simp[G',h],rfl⟩
   ·right;left;exact⟨by rw[hE,oIN h],λk hk=>by simp[G',h]at hk⟩)
 have hv0:(σ.norm pers).v=λ_=>0:=by funext q;rfl
 have TX:∀{t:TV}{x:Value},TmR w (G.F M.A) σ.v (cC M σ []) G t x->TmR w (G'.F M.A) (σ.norm pers).v (cC M (σ.norm pers) []) G' (renorm0 L σ t) x:=by
  intro t x h;rw[hv0]
  cases h with
  |v h=>exact .v h
  |nil=>exact .nil
  |sl h=>exact .sl (h.frame (λ_ _ _=>rfl) λk hk _=>XZ.2 k hk)
  |dead=>exact .dead
  | @ptr p vs x V0 h0 hv hok=>
   simp only[renorm0];split
   ·rename_i hc;simp only[oBA,List.contains_iff_mem,beq_iff_eq]at hc;refine .ptr (λ_=>0) (λ_=>Nat.le_refl _) rfl λ_=>?_;obtain⟨h1,ad,t,h2,h3,h4⟩:=hok hc.2;exact⟨h1,ad,t,jh h2 rfl λ_=>rfl,h3,by rw[hE,oIP hc.1];exact h4⟩
   ·exact .dead
  |ip u hcl hr=>exact .ip u (λj hj=>⟨XZ.2 _ (hcl j hj).1,(hcl j hj).2⟩) λj hj=>(hr j hj).frame (λ_ _ _=>rfl) λk hk _=>XZ.2 k hk
  | @pk p vs x V0 h0 hv hok=>
   simp only[renorm0];split
   ·rename_i hc;simp only[oBA,List.contains_iff_mem,beq_iff_eq]at hc;refine .pk (λ_=>0) (λ_=>Nat.le_refl _) rfl λ_=>?_;obtain⟨h1,c,h2,h3⟩:=hok hc.2;exact⟨h1,c,h2,by rw[hE,oIP hc.1];exact h3⟩
   ·exact .dead
  | @pw p vs sz lo n x V0 h0 hv hok=>
   simp only[renorm0];split
   ·rename_i hc;simp at hc;refine .pw (λ_=>0) (λ_=>Nat.le_refl _) rfl λ_=>?_;obtain⟨h1,c,hd,h2,h3,h4⟩:=hok hc.2;exact⟨h1,c,hd,h2,by rw[hE,oIP hc.1];exact h3,h4⟩
   ·exact .dead
  |agg hl h=>exact .dead
  | @tup l xs hl h=>
   cases l with
   |nil=>exact .tup hl λj hj=>by simp at hj
   |cons=>exact .dead
  |fn hl h=>exact .dead
 have PH:∀{t:TV}{x:Value},TmR w (G.F M.A) σ.v (cC M σ []) G t x->TmR w (G'.F M.A) (σ.norm pers).v (cC M (σ.norm pers) []) G' (renorm L σ t) x:=by
  intro t x h;have h0:=TX h
  cases h with
  | @agg l xs hl h=>exact .agg (by simpa using hl) λj hj=>by simpa using TX (h j (by simpa using hj))
  | @fn f l xs hl h=>exact .fn (by simpa using hl) λj hj=>by simpa using TX (h j (by simpa using hj))
  |_=>exact h0
 refine⟨G',XZ.1,λi=>?_,hI.fram.ghost rfl (λk ⟨r,o,h⟩=>⟨r,o,Z8 r o k h⟩),λr l h=>?_,hI.size,rfl,λj hj=>by simp at hj,λr b o n hb l h=>?_⟩
 ·have e:(σ.norm pers).t i=if i∈pers.1 then(match cA σ.tm i with|some t=>renorm L σ t|none=>.dead)else .dead:=by
   unfold St.t St.norm;simp only[<- hL,DB];by_cases h:i∈pers.1
   ·simp only[h,if_true];cases cA σ.tm i<;>rfl
   ·simp[h]
  rw[e];split
  ·cases ha:cA σ.tm i with
   |none=>exact .dead
   |some t=>
    have:=hI.tmr i
    have et:σ.t i=t:=by simp[St.t,ha]
    rw[et]at this;exact PH this
  ·exact .dead
 ·have:cA (normC σ L) r=some l:=by rw[hL];exact h
  rw[qg]at this;split at this
  ·exact hI.keys r l this
  ·simp at this
 ·have:cA (normC σ L) r=some l:=by rw[hL];exact h
  rw[qg]at this;split at this
  ·exact hI.shape r b o n hb l this
  ·simp at this
end norm
def KQ(P:Program)(M:Fm)(σ':St)(a:Act)(o:Oper)(w:World):Prop:=
 ∀(K:Act->World->Prop)(Q:Exit->Act->World->Prop),(∀a' w' G',Inv M σ' [] [] a'.tmps w' G'->a'.defers=a.defers->K a' w')->o.wp P a w K Q
theorem kJ(a:Act)(d:Option Tmp)(v:Value):(a.put d v).defers=a.defers:=by cases d<;>rfl
theorem i7.simO{P:Program}{M:Fm}{σ':St}{a:Act}{o:Oper}{w:World}(h:i7 P M σ' a o w):KQ P M σ' a o w:=by
 have ⟨nx,x,w',G',hrun,RR,hI⟩:=h;intro K Q hK;unfold Oper.wp;rw[hrun];rcases RR with rfl|⟨rfl,rfl⟩
 all_goals exact hK _ w' G' hI (kJ _ _ _)
structure qM (P:Program)(M:Fm)(isCall:Op->TOp->Prop)(ops:Array Oper)(o:Oper)(t:fZ):Prop where
 dst:t.dst=o.dst
 lt:∀d,o.dst=some d->d<M.N/\M.pr (2*d+2)=none
 guard:(o.guard=none/\t.guard=none)\/∃j want dj,o.guard=some (j,want)/\t.guard=some (dj,want)/\(ops[j]?).bind (·.dst)=some dj
 op:(∃mv,ew P mv o.op=some t.op)\/isCall o.op t.op
def tB(P:Program)(M:Fm)(isCall:Op->TOp->Prop)(call:Option Nat->TOp->SP Unit):Prop:=
 ∀(o:Oper)(t:TOp)(σ σ':St)(a:Act)(w:World)(G:Gh),isCall o.op t->(∀d,o.dst=some d->d<M.N/\M.pr (2*d+2)=none)->Inv M σ [] [] a.tmps w G->(evop call o.dst t).run σ=some ((),σ')->KQ P M σ' a o w
section
variable {P:Program} {M:Fm} {σ σ':St} {w:World} {G:Gh} {a:Act} {o:Oper} {isCall:Op->TOp->Prop} {call:Option Nat->TOp->SP Unit} {ops:Array Oper}
theorem Aw{mv:Nat}{op:Op}{t:TOp}(h:ew P mv op=some t):∀k f args,t≠.call k f args:=by
 rintro k f args rfl;cases op<;>simp only[ew]at h
 case move x=>split at h<;>first|(simp at h;done)|(obtain⟨_,_,h⟩:=fD h;simp at h)
 case assign x=>split at h<;>(obtain⟨_,_,h⟩:=fD h;simp at h)
 case pick=>obtain⟨_,_,h⟩:=cb h;obtain⟨_,_,h⟩:=cb h;obtain⟨_,_,h⟩:=cb h;simp at h
 case alloc=>obtain⟨_,_,h⟩:=fD h;simp at h
 case box=>obtain⟨_,_,h⟩:=cb h;obtain⟨_,_,h⟩:=cb h;unfold L0 at h;split at h<;>simp at h
 case build=>(repeat' split at h)<;>first|(simp at h;done)|(obtain⟨_,_,h⟩:=cb h;obtain⟨_,_,h⟩:=cb h;simp at h)|(obtain⟨_,_,h⟩:=cb h;simp at h)
 case buildSlice=>(repeat' split at h)<;>first|(simp at h;done)|(obtain⟨_,_,h⟩:=cb h;obtain⟨_,_,h⟩:=cb h;simp at h)
 case load=>obtain⟨_,_,h⟩:=cb h;obtain⟨_,_,h⟩:=cb h;simp at h
 case store=>obtain⟨_,_,h⟩:=cb h;obtain⟨_,_,h⟩:=cb h;obtain⟨_,_,h⟩:=cb h;obtain⟨_,_,h⟩:=cb h;simp at h
 case nilCheck=>obtain⟨_,_,h⟩:=fD h;simp at h
 case binOp=>(repeat' split at h)<;>first|(simp at h;done)|(obtain⟨_,_,h⟩:=cb h;obtain⟨_,_,h⟩:=cb h;simp at h)
 case unOp=>obtain⟨_,_,h⟩:=fD h;simp at h
 case convert=>(repeat' split at h)<;>first|(simp at h;done)|(obtain⟨_,_,h⟩:=fD h;simp at h)
 case makeFunc=>split at h<;>first|(simp at h;done)|(obtain⟨_,_,h⟩:=cb h;obtain⟨_,_,h⟩:=cb h;simp at h)
 case makeSlice=>(repeat' split at h)<;>first|(simp at h;done)|(obtain⟨_,_,h⟩:=cb h;obtain⟨_,_,h⟩:=cb h;obtain⟨_,_,h⟩:=cb h;simp at h)
 case slice=>(repeat' split at h)<;>first|(simp at h;done)|(obtain⟨_,_,h⟩:=cb h;obtain⟨_,_,h⟩:=cb h;obtain⟨_,_,h⟩:=cb h;simp at h;done)|(obtain⟨_,_,h⟩:=cb h;obtain⟨_,_,h⟩:=cb h;obtain⟨_,_,h⟩:=cb h;obtain⟨_,_,h⟩:=cb h;simp at h)
 case fieldAddr=>(repeat' split at h)<;>first|(simp at h;done)|(obtain⟨_,_,h⟩:=fD h;simp at h)
 case field=>(repeat' split at h)<;>first|(simp at h;done)|(obtain⟨_,_,h⟩:=cb h;obtain⟨_,_,h⟩:=cb h;simp at h)
 case indexAddr=>(repeat' split at h)<;>first|(simp at h;done)|(obtain⟨_,_,h⟩:=cb h;obtain⟨_,_,h⟩:=cb h;obtain⟨_,_,h⟩:=cb h;simp at h)
 case index=>(repeat' split at h)<;>first|(simp at h;done)|(obtain⟨_,_,h⟩:=cb h;obtain⟨_,_,h⟩:=cb h;simp at h)
 case extract=>simp_all
 case call=>(repeat' split at h)<;>first|(simp at h;done)|(obtain⟨_,_,h⟩:=cb h;obtain⟨_,_,h⟩:=cb h;obtain⟨_,_,h⟩:=cb h;simp at h)|(obtain⟨_,_,h⟩:=fD h;simp at h)
 all_goals simp at h
theorem Bi(hI:Inv M σ [] [] a.tmps w G){t:fZ}(hok:qM P M isCall ops o t)(Zh:tB P M isCall call)(hr:(evop call t.dst t.op).run σ=some ((),σ')):KQ P M σ' a o w:=by
 rcases hok.op with⟨mv,hc⟩|hc
 ·have Qz:=Aw hc;by_cases hst:∃ty x y,o.op=.store ty x y
  ·obtain⟨ty,x,y,ho⟩:=hst;rw[ho]at hc;simp only[ew]at hc;obtain⟨n,h1,hc⟩:=cb hc;obtain⟨u,h2,hc⟩:=cb hc;obtain⟨x1,h3,hc⟩:=cb hc;obtain⟨y1,h4,hc⟩:=cb hc
   injection hc with hc
   rw[<- hc]at hr;simp only[evop]at hr
   cases hd:t.dst with
   |some d=>simp[hd,SP.run]at hr
   |none=>
    simp only[hd]at hr;have hg:=iS h2;exact(D0 hI (d:=0) (by rw[<- hok.dst,hd]) h3 h4 ho h1 (by simpa using hg) hr).simO
  ·cases hd:t.dst with
   |none=>
    exfalso;rw[hd]at hr
    cases ht:t.op<;>rw[ht]at hr<;>simp only[evop,SP.run]at hr<;>first|(simp at hr;done)|skip
    ·rename_i n NK a' x';rw[ht]at hc;cases ho:o.op<;>rw[ho]at hc hst<;>simp only[ew]at hc
     case store=>exact hst ⟨_,_,_,rfl⟩
     case move x=>split at hc<;>first|(simp at hc;done)|(obtain⟨_,_,h⟩:=fD hc;simp at h)
     case assign x=>split at hc<;>(obtain⟨_,_,h⟩:=fD hc;simp at h)
     case pick=>obtain⟨_,_,h⟩:=cb hc;obtain⟨_,_,h⟩:=cb h;obtain⟨_,_,h⟩:=cb h;simp at h
     case alloc=>obtain⟨_,_,h⟩:=fD hc;simp at h
     case box=>obtain⟨_,_,h⟩:=cb hc;obtain⟨_,_,h⟩:=cb h;unfold L0 at h;split at h<;>simp at h
     case build=>(repeat' split at hc)<;>first|(simp at hc;done)|(obtain⟨_,_,h⟩:=cb hc;obtain⟨_,_,h⟩:=cb h;simp at h)|(obtain⟨_,_,h⟩:=cb hc;simp at h)
     case buildSlice=>(repeat' split at hc)<;>first|(simp at hc;done)|(obtain⟨_,_,h⟩:=cb hc;obtain⟨_,_,h⟩:=cb h;simp at h)
     case load=>obtain⟨_,_,h⟩:=cb hc;obtain⟨_,_,h⟩:=cb h;simp at h
     case nilCheck=>obtain⟨_,_,h⟩:=fD hc;simp at h
     case binOp=>(repeat' split at hc)<;>first|(simp at hc;done)|(obtain⟨_,_,h⟩:=cb hc;obtain⟨_,_,h⟩:=cb h;simp at h)
     case unOp=>obtain⟨_,_,h⟩:=fD hc;simp at h
     case convert=>(repeat' split at hc)<;>first|(simp at hc;done)|(obtain⟨_,_,h⟩:=fD hc;simp at h)
     case makeFunc=>split at hc<;>first|(simp at hc;done)|(obtain⟨_,_,h⟩:=cb hc;obtain⟨_,_,h⟩:=cb h;simp at h)
     case makeSlice=>(repeat' split at hc)<;>first|(simp at hc;done)|(obtain⟨_,_,h⟩:=cb hc;obtain⟨_,_,h⟩:=cb h;obtain⟨_,_,h⟩:=cb h;simp at h)
     case slice=>(repeat' split at hc)<;>first|(simp at hc;done)|(obtain⟨_,_,h⟩:=cb hc;obtain⟨_,_,h⟩:=cb h;obtain⟨_,_,h⟩:=cb h;simp at h;done)|(obtain⟨_,_,h⟩:=cb hc;obtain⟨_,_,h⟩:=cb h;obtain⟨_,_,h⟩:=cb h;obtain⟨_,_,h⟩:=cb h;simp at h)
     case fieldAddr=>(repeat' split at hc)<;>first|(simp at hc;done)|(obtain⟨_,_,h⟩:=fD hc;simp at h)
     case field=>(repeat' split at hc)<;>first|(simp at hc;done)|(obtain⟨_,_,h⟩:=cb hc;obtain⟨_,_,h⟩:=cb h;simp at h)
     case indexAddr=>(repeat' split at hc)<;>first|(simp at hc;done)|(obtain⟨_,_,h⟩:=cb hc;obtain⟨_,_,h⟩:=cb h;obtain⟨_,_,h⟩:=cb h;simp at h)
     case index=>(repeat' split at hc)<;>first|(simp at hc;done)|(obtain⟨_,_,h⟩:=cb hc;obtain⟨_,_,h⟩:=cb h;simp at h)
     case extract=>obtain⟨_,_,h⟩:=fD hc;simp at h
     case call=>(repeat' split at hc)<;>first|(simp at hc;done)|(obtain⟨_,_,h⟩:=cb hc;obtain⟨_,_,h⟩:=cb h;obtain⟨_,_,h⟩:=cb h;simp at h)|(obtain⟨_,_,h⟩:=fD hc;simp at h)
     all_goals simp at hc
    ·exact absurd ht (Qz _ _ _)
   |some d=>
    have Vi:o.dst=some d:=by rw[<- hok.dst,hd]
    obtain⟨h1,h2⟩:=hok.lt d Vi
    have X2:(ev1 d t.op).run σ=some ((),σ'):=by
     rw[hd]at hr
     cases ht:t.op<;>rw[ht]at hr<;>simp only[evop]at hr<;>first|exact hr|(simp[SP.run]at hr;done)|exact absurd ht (Qz _ _ _)
    exact(Js hI Vi h1 h2 hc X2 hst).simO
 ·exact Zh o t.op σ σ' a w G hc hok.lt hI (by rw[<- hok.dst];exact hr)
theorem w8{F:Nat->Prop}{V:Vs}{C:Cs}:TmR w F V C G (.tup []) undef:=.tup (by simp) λj hj=>by simp at hj
theorem Jr{tops:List fZ}(hlen:tops.length=ops.size)(hok:∀i (h:i<ops.size)(h':i<tops.length),qM P M isCall ops ops[i] tops[i])(Zh:tB P M isCall call){Q:Exit->Act->World->Prop}:
 ∀(L:List Nat)(σ:St)(a:Act)(w:World)(G:Gh),(∀i∈L,i<ops.size)->Inv M σ [] [] a.tmps w G->oC call (L.map λi=>tops.getD i ⟨none,none,.lens (.t 0)⟩) σ=some σ' ->
  (∀a' w' G',Inv M σ' [] [] a'.tmps w' G'->a'.defers=a.defers->Q .normal a' w')->wpOps P ops Q L a w:=by
 intro L
 induction L with
 |nil=>
  intro σ a w G _ hI hr hQ;simp only[List.map_nil,oC,oSJ]at hr;subst hr;exact hQ a w G hI rfl
 |cons i L ih=>
  intro σ a w G hL hI hr hQ;have hi:i<ops.size:=hL i (by simp)
  have ZM:i<tops.length:=by omega
  simp only[List.map_cons,oC]at hr
  have e:tops.getD i ⟨none,none,.lens (.t 0)⟩=tops[i]:=by simp[ZM]
  rw[e]at hr
  cases hro:vA call tops[i] σ with
  |none=>simp[hro]at hr
  |some σ1=>
   simp only[hro,oBS]at hr;have hop:=hok i hi ZM;simp only[wpOps,Array.getElem?_eq_getElem hi]
   have go:(evop call tops[i].dst tops[i].op).run σ=some ((),σ1)->ops[i].wp P a w (wpOps P ops Q L) Q:=λh=>by
    refine Bi hI hop Zh h _ _ λa' w' G' Zz hd=>?_;exact ih σ1 a' w' G' (λj hj=>hL j (by simp[hj])) Zz hr (λa2 w2 G2 h2 hd2=>hQ a2 w2 G2 h2 (hd2.trans hd))
   have skip:(match tops[i].dst with|some d=>some { σ with tm:=d5 σ.tm d (.tup []) } |none=>some σ)=some σ1->wpOps P ops Q L (a.put ops[i].dst undef) w:=λh=>by
    rw[hop.dst]at h
    cases hd:ops[i].dst with
    |none=>
     rw[hd]at h
     injection h with h
     subst h;exact ih σ a w G (λj hj=>hL j (by simp[hj])) hI hr hQ
    |some d=>
     rw[hd]at h
     injection h with h
     subst h;exact ih _ (a.put (some d) undef) w G (λj hj=>hL j (by simp[hj])) (hI.wrT (hop.lt d hd).1 w8) hr (λa2 w2 G2 h2 hd2=>hQ a2 w2 G2 h2 hd2)
   unfold vA at hro
   rcases hop.guard with⟨g1,g2⟩|⟨j,want,dj,g1,g2,g3⟩
   ·rw[oIP (by simp[Region.wanted,g1])];left;simp only[g2]at hro;obtain⟨⟨u,σ2⟩,h1,h2⟩:=fD hro;exact go (by rw[h1];simp only at h2;rw[h2])
   ·simp only[g2]at hro
    have hy:yielded ops a.tmps j=match(a.tmps[dj]?:Option Value)with|some (.bool b)=>some b|_=>none:=by
     unfold yielded;rw[g3];rfl
    have Za:=hI.tmr dj
    cases hs:σ.t dj with
    |v x=>
     rw[hs]at Za hro;obtain⟨hx,_⟩:=Za.v_inv
     cases x with
     |bool b=>
      have Z6:a.tmps[dj]?=some (.bool b):=by
       rw[Array.getD_eq_getD_getElem?]at hx
       cases hq:a.tmps[dj]? with
       |none=>rw[hq]at hx;simp[undef]at hx
       |some v=>rw[hq]at hx;simp at hx;rw[hx]
      have V4:yielded ops a.tmps j=some b:=by rw[hy,Z6]
      simp only at hro;by_cases hb:b=want
      ·rw[oIP hb]at hro;rw[oIP (by simp[Region.wanted,g1,V4,hb])];left;obtain⟨⟨u,σ2⟩,h1,h2⟩:=fD hro;exact go (by rw[h1];simp only at h2;rw[h2])
      ·rw[oIN hb]at hro;rw[oIN (by simp[Region.wanted,g1,V4,hb])];exact skip hro
     |_=>simp at hro
    |tup l=>
     rw[hs]at Za hro
     cases l with
     |nil=>
      have hu:a.tmps.getD dj undef=undef:=by
       generalize a.tmps.getD dj undef=z at Za
       cases Za with
       | @tup _ xs hl _=>have:xs=#[]:=by apply Array.eq_empty_of_size_eq_zero;simpa using hl
                         rw[this];rfl
      have V4:yielded ops a.tmps j=none:=by
       rw[hy];rw[Array.getD_eq_getD_getElem?]at hu
       cases hq:a.tmps[dj]? with
       |none=>rfl
       |some v=>
        rw[hq]at hu;simp only[Option.getD_some]at hu;rw[hu];rfl
      simp only at hro;rw[oIN (by simp[Region.wanted,g1,V4])];exact skip hro
     |cons=>simp at hro
    |_=>rw[hs]at hro;simp at hro
end
section
variable {P:Program} {M:Fm} {σ σ':St} {H:List TV} {xs:List Value} {ts:Array Value} {w:World} {G:Gh} {a:Act} {o:Oper} {isCall:Op->TOp->Prop} {call:Option Nat->TOp->SP Unit} {ops:Array Oper}
theorem Inv.congr(hI:Inv M σ H xs ts w G)(hs:Kz σ σ'):Inv M σ' H xs ts w G:=by
 have hc:cC M σ' H=cC M σ H:=by
  funext r o;unfold cC;split
  ·rfl
  ·exact(hs (.c r o)).symm
 have hv:σ'.v=σ.v:=by funext q;exact(hs (.v q)).symm
 have hn:∀r l,cA σ'.ce r=some l->∃l0,cA σ.ce r=some l0/\l0.length=l.length:=by
  intro r l h;have h1:(cA σ.ce r).map List.length=(cA σ'.ce r).map List.length:=hs (.n r)
  simp_all
 refine⟨by rw[hc];exact hI.core,λi=>?_,hI.fram,λr l h=>?_,hI.size,hI.hand,hI.hval,λr b o n hb l h=>?_⟩
 ·have ht:σ'.t i=σ.t i:=by
   have:cA σ.tm i=cA σ'.tm i:=hs (.t i);simp[St.t,this]
  rw[hc,hv,ht];exact hI.tmr i
 ·have ⟨l0,h1,_⟩:=hn r l h;exact hI.keys r l0 h1
 ·have ⟨l0,h1,h2⟩:=hn r l h;rw[<- h2];exact hI.shape r b o n hb l0 h1
theorem GA{t:fZ}{i:Nat}{Q:Exit->Act->World->Prop}{K:Act->World->Prop}(hi:i<ops.size)(hop:qM P M isCall ops ops[i] t)(Zh:tB P M isCall call)(hI:Inv M σ [] [] a.tmps w G)(hro:vA call t σ=some σ')
 (hK:∀a' w' G',Inv M σ' [] [] a'.tmps w' G'->a'.defers=a.defers->K a' w'):wpOp P ops Q i K a w:=by
 unfold wpOp;simp only[Array.getElem?_eq_getElem hi]
 have go:(evop call t.dst t.op).run σ=some ((),σ')->ops[i].wp P a w K Q:=λh=>by
  exact Bi hI hop Zh h _ _ hK
 have skip:(match t.dst with|some d=>some { σ with tm:=d5 σ.tm d (.tup []) } |none=>some σ)=some σ'->K (a.put ops[i].dst undef) w:=λh=>by
  rw[hop.dst]at h
  cases hd:ops[i].dst with
  |none=>
   rw[hd]at h
   injection h with h
   subst h;exact hK a w G hI rfl
  |some d=>
   rw[hd]at h
   injection h with h
   subst h;exact hK (a.put (some d) undef) w G (hI.wrT (hop.lt d hd).1 w8) rfl
 unfold vA at hro
 rcases hop.guard with⟨g1,g2⟩|⟨j,want,dj,g1,g2,g3⟩
 ·rw[oIP (by simp[Region.wanted,g1])];left;simp only[g2]at hro;obtain⟨⟨u,σ2⟩,h1,h2⟩:=fD hro;exact go (by rw[h1];simp only at h2;rw[h2])
 ·simp only[g2]at hro
  have hy:yielded ops a.tmps j=match(a.tmps[dj]?:Option Value)with|some (.bool b)=>some b|_=>none:=by
   unfold yielded;rw[g3];rfl
  have Za:=hI.tmr dj
  cases hs:σ.t dj with
  |v x=>
   rw[hs]at Za hro;obtain⟨hx,_⟩:=Za.v_inv
   cases x with
   |bool b=>
    have Z6:a.tmps[dj]?=some (.bool b):=by
     rw[Array.getD_eq_getD_getElem?]at hx
     cases hq:a.tmps[dj]? with
     |none=>rw[hq]at hx;simp[undef]at hx
     |some v=>rw[hq]at hx;simp at hx;rw[hx]
    have V4:yielded ops a.tmps j=some b:=by rw[hy,Z6]
    simp only at hro;by_cases hb:b=want
    ·rw[oIP hb]at hro;rw[oIP (by simp[Region.wanted,g1,V4,hb])];left;obtain⟨⟨u,σ2⟩,h1,h2⟩:=fD hro
     simp_all
    ·rw[oIN hb]at hro;rw[oIN (by simp[Region.wanted,g1,V4,hb])];exact skip hro
   |_=>simp at hro
  |tup l=>
   rw[hs]at Za hro
   cases l with
   |nil=>
    have hu:a.tmps.getD dj undef=undef:=by
     generalize a.tmps.getD dj undef=z at Za
     cases Za with
     | @tup _ xs hl _=>have:xs=#[]:=by apply Array.eq_empty_of_size_eq_zero;simpa using hl
                       rw[this];rfl
    have V4:yielded ops a.tmps j=none:=by
     rw[hy];rw[Array.getD_eq_getD_getElem?]at hu
     cases hq:a.tmps[dj]? with
     |none=>rfl
     |some v=>
      rw[hq]at hu;simp only[Option.getD_some]at hu;rw[hu];rfl
    rw[oIN (by simp[Region.wanted,g1,V4])];exact skip hro
   |cons=>simp at hro
  |_=>rw[hs]at hro;simp at hro
structure tA (ops:Array Oper)(deps:List (List Nat)):Prop where
 back:∀i (h:i<ops.size),∀e∈ops[i].after,Region.binds .any e=true->e.on<i
 dep:∀i (h:i<ops.size),∀j∈deps.getD i [],∃e∈ops[i].after,Region.binds .any e=true/\(e.on=j\/j∈deps.getD e.on [])
theorem qp{deps:List (List Nat)}{x:Nat×mZ}:∀{l l':List (Nat×mZ)},fX deps (l++x::l')=true->fX deps (l++l')=true/\∀y∈l,lf y.2 x.2=false\/y.1∈deps.getD x.1 []:=by
 intro l
 induction l with
 |nil=>
  intro l' h;simp only[List.nil_append,fX,oBA]at h
  simp_all
 |cons z l ih=>
  intro l' h;simp only[List.cons_append,fX,oBA,List.all_eq_true]at h;obtain⟨h1,h2⟩:=ih h.2;refine⟨by simp only[List.cons_append,fX,oBA,List.all_eq_true];exact⟨λy hy=>h.1 y (by rcases List.mem_append.1 hy with hy|hy<;>simp[hy]),h1⟩,λy hy=>?_⟩;rcases List.mem_cons.1 hy with rfl|hy
  ·simp_all
  ·exact h2 y hy
theorem JL{tops:List fZ}{deps:List (List Nat)}(hlen:tops.length=ops.size)(hok:∀i (h:i<ops.size)(h':i<tops.length),qM P M isCall ops ops[i] tops[i])(Zh:tB P M isCall call)(Y1:tA ops deps){Q:Exit->Act->World->Prop}:
 ∀(n:Nat)(C:List Nat)(listed:Array Bool)(σ:St)(a:Act)(w:World)(G:Gh)(fs:List (Nat×mZ))(τ:St),C.length=n->listed.size=ops.size->C.Pairwise (· < ·)->(∀j,j∈C↔j<ops.size/\listed.getD j true=false)->
  (∀i,listed.getD i false=true->∀j∈deps.getD i [],listed.getD j false=true)->Inv M σ [] [] a.tmps w G->na (λi=>spOp call (tops.getD i yX)) C σ=some (fs,τ)->fX deps fs=true ->
  (∀a' w' G',Inv M τ [] [] a'.tmps w' G'->a'.defers=a.defers->Q .normal a' w')->wpAny P .any ops Q n listed a w:=by
 have Yg:∀{listed:Array Bool},listed.size=ops.size->∀j,j<ops.size->(listed.getD j true=false↔¬listed.getD j false=true):=by
  intro listed hs j hj
  have:j<listed.size:=by omega
  simp[Array.getD_eq_getD_getElem?,this]
 intro n
 induction n with
 |zero=>
  intro C listed σ a w G fs τ hC hs YI Zr hcl hI hr hp hQ;have hC:C=[]:=oEN hC;subst hC;obtain⟨rfl,rfl⟩:=hr;refine⟨?_,hQ a w G hI rfl⟩;apply List.eq_nil_iff_forall_not_mem.2;intro j hj;obtain⟨h1,o,h2,_⟩:=mem_ready.1 hj;have:=(Zr j).2 ⟨(Array.getElem?_eq_some_iff.1 h2).1,h1⟩;simp at this
 |succ n ih=>
  intro C listed σ a w G fs τ hC hs YI Zr hcl hI hr hp hQ;refine⟨λhnil=>?_,λi hi=>?_⟩
  ·exfalso
   cases C with
   |nil=>simp at hC
   |cons h C=>
    have hh:=(Zr h).1 (by simp)
    have:h∈Region.ready .any ops listed:=by
     refine mem_ready.2 ⟨hh.2,ops[h]'hh.1,Array.getElem?_eq_getElem hh.1,λe he hb=>?_⟩;have hlt:=Y1.back h hh.1 e he hb
     have M7:e.on<ops.size:=by omega
     cases hl:listed.getD e.on false with
     |true=>rfl
     |false=>
      have hm:=(Zr e.on).2 ⟨M7,(Yg hs _ M7).2 (by rw[hl];simp)⟩;rcases List.mem_cons.1 hm with e1|e1
      ·omega
      ·have:=(List.pairwise_cons.1 YI).1 _ e1;omega
    rw[hnil]at this;simp at this
  ·obtain⟨h1,o,h2,h3⟩:=mem_ready.1 hi;have Ry:i<ops.size:=(Array.getElem?_eq_some_iff.1 h2).1
   have hoe:o=ops[i]:=by rw[Array.getElem?_eq_getElem Ry]at h2;injection h2 with h2;exact h2.symm
   subst hoe;have hiC:=(Zr i).2 ⟨Ry,h1⟩;obtain⟨pre,post,rfl⟩:=List.append_of_mem hiC
   have Rh:∀j∈deps.getD i [],listed.getD j false=true:=λj hj=>by
    obtain⟨e,he,hb,h4⟩:=Y1.dep i Ry j hj;have hl:=h3 e he hb;rcases h4 with rfl|h4
    ·exact hl
    ·exact hcl _ hl j h4
   have TE:∀XT F Wv,fs=XT++(i,F)::Wv->XT.map (·.1)=pre->∀y∈XT,lf y.2 F=false:=by
    rintro XT F Wv rfl R1 y hy
    rcases(qp hp).2 y hy with h|h
    ·exact h
    ·have hyC:y.1∈pre++i::post:=by rw[<- R1];exact List.mem_append_left _ (List.mem_map_of_mem hy)
     have:=(Zr y.1).1 hyC;exact absurd (Rh _ h) ((Yg hs _ this.1).1 this.2)
   obtain⟨σ',τ',XT,F,Wv,rfl,R1,hrun,_,ZK,YG⟩:=zu hr TE
   have ZM:i<tops.length:=by omega
   have e:tops.getD i yX=tops[i]:=by simp[ZM]
   simp only[e]at hrun;refine GA Ry (hok i Ry ZM) Zh hI (A8 hrun) λa' w' G' Zz hd=>?_
   have hne:∀j∈pre++post,j≠i:=λj hj e=>by
    subst e;rw[List.pairwise_append]at YI;rcases List.mem_append.1 hj with hj|hj
    ·have:=YI.2.2 j hj j (by simp);omega
    ·have:=(List.pairwise_cons.1 YI.2.1).1 j hj;omega
   refine ih (pre++post) (listed.setIfInBounds i true) σ' a' w' G' (XT++Wv) τ' (by simp at hC⊢;omega) (by simp[hs]) ?_ (λj=>?_) (λk hk j hj=>?_) Zz ZK (qp hp).1 λa2 w2 G2 h4 h5=>hQ a2 w2 G2 (h4.congr λx=>(YG x).symm) (h5.trans hd)
   ·refine YI.sublist ?_;exact List.Sublist.append_left (List.sublist_cons_self i post) pre
   ·constructor
    ·intro hj
     have hjC:j∈pre++i::post:=by rcases List.mem_append.1 hj with hj|hj<;>simp[hj]
     have:=(Zr j).1 hjC;exact⟨this.1,by rw[getD_set_ne true (Ne.symm (hne j hj))];exact this.2⟩
    ·rintro⟨hj1,XK⟩
     have Nh:j≠i:=by
      rintro rfl
      have:j<listed.size:=by omega
      simp[Array.getD_eq_getD_getElem?,this]at XK
     rw[getD_set_ne true (Ne.symm Nh)]at XK;have:=(Zr j).2 ⟨hj1,XK⟩;rcases List.mem_append.1 this with h|h
     ·exact List.mem_append_left _ h
     ·rcases List.mem_cons.1 h with h|h
      ·exact absurd h Nh
      ·exact List.mem_append_right _ h
   ·by_cases hki:k=i
    ·subst hki;exact getD_set_true (Rh j hj)
    ·rw[getD_set_ne false (Ne.symm hki)]at hk;exact getD_set_true (hcl k hk j hj)
theorem Bj{tops:List fZ}{deps:List (List Nat)}{id:Nat}(hm:P.follows .mixedOrders=true)(hlen:tops.length=ops.size)(hok:∀i (h:i<ops.size)(h':i<tops.length),qM P M isCall ops ops[i] tops[i])(Zh:tB P M isCall call)(Y1:tA ops deps)
 {Q:Exit->Act->World->Prop}{fs:List (Nat×mZ)}{τ:St}(hI:Inv M σ [] [] a.tmps w G)(hr:na (λi=>spOp call (tops.getD i yX)) (List.range tops.length) σ=some (fs,τ))(hp:fX deps fs=true)
 (hQ:∀a' w' G',Inv M τ [] [] a'.tmps w' G'->a'.defers=a.defers->Q .normal a' w'):(Code.region id ops true).wp P Q a w:=by
 refine wp_region_any hm ?_
 have Zz:Inv M σ [] [] a.tmps { w with drawn:=w.drawn+1 } G:=by
  exact(hI.grow (w':={ w with drawn:=w.drawn+1 }) (λ_ _=>rfl) (Nat.le_refl _) rfl rfl rfl).1
 refine JL hlen hok Zh Y1 ops.size (List.range ops.size) _ σ a _ G fs τ (by simp) (by simp) List.pairwise_lt_range (λj=>?_) (λi hi=>?_) Zz (by simp_all) hp hQ
 ·simp_all
 ·exfalso;rw[Array.getD_eq_getD_getElem?,Array.getElem?_replicate]at hi;split at hi<;>simp at hi
end
def SP.quiet{α:Type}(d:Nat)(S:List Nat):SP α->Prop
 |.ret _=>True
 |.fail=>True
 |.rdT i k=>i∈S/\∀t,(k t).quiet d S
 |.rdC _ _ k=>∀t,(k t).quiet d S
 |.rdH _ _ k=>∀t,(k t).quiet d S
 |.rdV _ k=>∀n,(k n).quiet d S
 |.wrT i _ k=>i=d/\k.quiet d S
 |.wrC _ _ _ _=>False
 |.new _ _ _=>False
 |.bump _ _=>False
theorem bT{α β:Type}{d:Nat}{S:List Nat}{s:SP α}{f:α->SP β}(h:s.quiet d S)(hf:∀a,(f a).quiet d S):(s.bind f).quiet d S:=by
 induction s with
 |ret a=>exact hf a
 |fail=>exact trivial
 |rdT i k ih=>exact⟨h.1,λt=>ih t (h.2 t)⟩
 |rdC r o k ih=>exact λt=>ih t (h t)
 |rdH r o k ih=>exact λt=>ih t (h t)
 |rdV q k ih=>exact λn=>ih n (h n)
 |wrT i t k ih=>exact⟨h.1,ih h.2⟩
 |wrC r o t k ih=>exact h.elim
 |new r l k ih=>exact h.elim
 |bump q k ih=>exact h.elim
theorem lB{α:Type}{d:Nat}{S:List Nat}{s:SP α}(h:s.quiet d S)(σ:St):(∀x∈(s.foot σ).2,x=.t d)/\∀i,Loc.t i∈(s.foot σ).1->i∈S:=by
 induction s generalizing σ with
 |ret a=>exact⟨λx hx=>by simp[SP.foot]at hx,λi hi=>by simp[SP.foot]at hi⟩
 |fail=>exact⟨λx hx=>by simp[SP.foot]at hx,λi hi=>by simp[SP.foot]at hi⟩
 |rdT i k ih=>
  obtain⟨h1,h2⟩:=ih _ (h.2 (σ.t i)) σ;refine⟨h1,λj hj=>?_⟩;simp only[SP.foot,List.mem_cons]at hj;rcases hj with hj|hj
  ·injection hj with hj;subst hj;exact h.1
  ·exact h2 j hj
 |rdC r o k ih=>
  obtain⟨h1,h2⟩:=ih _ (h (σ.c r o)) σ;refine⟨h1,λj hj=>?_⟩;simp only[SP.foot]at hj
  simp_all
 |rdH r o k ih=>
  obtain⟨h1,h2⟩:=ih _ (h (σ.c r o).hd) σ;refine⟨h1,λj hj=>?_⟩;simp only[SP.foot,List.mem_cons]at hj
  simp_all
 |rdV q k ih=>
  obtain⟨h1,h2⟩:=ih _ (h (σ.v q)) σ;refine⟨h1,λj hj=>?_⟩;simp only[SP.foot,List.mem_cons]at hj
  simp_all
 |wrT i t k ih=>
  obtain⟨h1,h2⟩:=ih h.2 { σ with tm:=d5 σ.tm i t };refine⟨λx hx=>?_,h2⟩;simp only[SP.foot,List.mem_cons]at hx;rcases hx with hx|hx
  ·rw[hx,h.1]
  ·exact h1 x hx
 |wrC r o t k ih=>exact h.elim
 |new r l k ih=>exact h.elim
 |bump q k ih=>exact h.elim
def eL:Opd->List Nat
 |.t i=>[i]
 |_=>[]
def dW:TOp->Option (List Nat)
 |.mov (.t i)=>some [i]
 |.mov (.c x)=>match pT x with|.v _=>some []|_=>none
 |.pick c a b=>some (eL c++(eL a++eL b))
 |.load _ a=>some (eL a)
 |.nilc x=>some (eL x)
 |.fld _ a=>some (eL a)
 |.fldv _ _ x=>some (eL x)
 |.idx _ x i=>some (eL x++eL i)
 |.idxa _ _ x i=>some (eL x++eL i)
 |.ext x _=>some (eL x)
 |.bin _ x y=>some (eL x++eL y)
 |.bnb _ x y=>some (eL x++eL y)
 |.eqa _ _ x y=>some (eL x++eL y)
 |.un _ x=>some (eL x)
 |.conv _ x=>some (eL x)
 |.len x=>some (eL x)
 |.lens x=>some (eL x)
 |.ixs x i=>some (eL x++eL i)
 |_=>none
section
variable {d:Nat} {S:List Nat}
theorem cN{x:Opd}(h:∀i∈eL x,i∈S):(opd x).quiet d S:=by
 cases x with
 |t i=>exact⟨h i (by simp[eL]),λ_=>trivial⟩
 |_=>exact trivial
theorem pS{l:List Key}:(rdVs l).quiet d S:=by
 induction l with
 |nil=>exact trivial
 |cons q l ih=>exact λn=>bT ih λ_=>trivial
theorem iP{p:cj}{n:Nat}{vs:List Nat}:(chk p n vs).quiet d S:=bT pS λl=>by split<;>exact trivial
theorem jy{p:cj}:(getPl p).quiet d S:=λtv=>by
 show SP.quiet d S (match cw tv p.hops with|some t=>SP.ret t|none=>SP.fail);cases cw tv p.hops<;>exact trivial
theorem uQ{p:cj}:(Kf p).quiet d S:=by
 unfold Kf;split
 ·exact λ_=>trivial
 ·exact bT jy λ_=>trivial
theorem nV{p:cj}{t:TV}:(peek1 p t).quiet d S:=by
 cases t with
 |ow c=>exact bT pS λ_=>trivial
 |_=>exact trivial
theorem zC{p:cj}:(peekP p).quiet d S:=by
 unfold peekP;split
 ·refine λh=>?_
  cases h with
  |some ls=>exact bT pS λ_=>trivial
  |none=>exact bT jy λ_=>nV
 ·exact bT jy λ_=>nV
theorem zD:∀{n:Nat}{p:cj},(peekL p n).quiet d S:=by
 intro n
 induction n with
 |zero=>intro p;exact trivial
 |succ n ih=>
  refine bT jy λt=>bT nV λt'=>?_;split
  ·exact trivial
  ·split
   ·exact bT ih λ_=>trivial
   ·exact trivial
theorem df{t:TV}:(wr d t).quiet d S:=⟨rfl,trivial⟩
theorem iv{t:TV}:(pF t).quiet d S:=by cases t<;>exact trivial
theorem nW{t:TV}:(natOf t).quiet d S:=by
 cases t with
 |v x=>
  cases x with
  |int k n=>cases n<;>exact trivial
  |_=>exact trivial
 |_=>exact trivial
theorem jx{α:Type}{o:Option α}:(g8 o).quiet d S:=by cases o<;>exact trivial
theorem xA{t:TV}:(kO t).quiet d S:=by
 cases t with
 |pk p vs=>exact bT iP λ_=>bT uQ λt=>by cases t<;>exact trivial
 |pw p vs sz lo n=>exact bT iP λ_=>trivial
 |ow c=>cases c<;>exact trivial
 |_=>exact trivial
theorem xB{op:TOp}(h:dW op=some S):(ev1 d op).quiet d S:=by
 cases op with
 |mov x=>
  cases x with
  |t i=>
   simp only[dW,oSJ]at h;subst h;refine bT (cN λj hj=>by simpa[eL]using hj) λt=>?_
   cases t with
   |ow c=>exact trivial
   |agg l=>
    simp only;split
    ·exact trivial
    ·exact df
   |_=>exact df
  |c x=>
   simp only[dW]at h;split at h
   ·rename_i y hy
    have e:ev1 d (.mov (.c x))=wr d (.v y):=by simp only[ev1,opd,hy,SP.bind]
    rw[e];exact df
   ·simp at h
  |f _=>simp[dW]at h
 |pick c a b=>
  simp only[dW,oSJ]at h;subst h;refine bT (cN λj hj=>by simp[hj]) λt=>?_;split
  ·rename_i bb
   refine bT ?_ λt=>by split<;>first|exact df|exact trivial
   cases bb
   ·exact cN λj hj=>by simp at hj;simp[hj]
   ·exact cN λj hj=>by simp at hj;simp[hj]
  ·exact trivial
 |load n a=>
  simp only[dW,oSJ]at h;subst h;refine bT (cN λj hj=>by simpa using hj) λt=>?_;split
  ·refine bT iP λ_=>?_
   cases n with
   |none=>exact bT zC λ_=>df
   |some n=>exact bT zD λ_=>df
  ·split<;>first|exact df|exact trivial
  ·exact trivial
 |nilc x=>
  simp only[dW,oSJ]at h;subst h;refine bT (cN λj hj=>by simpa using hj) λt=>?_;split
  ·exact bT iP λ_=>df
  ·exact df
  ·exact df
  ·exact trivial
 |fld off a=>
  simp only[dW,oSJ]at h;subst h;refine bT (cN λj hj=>by simpa using hj) λt=>?_;split
  ·refine bT iP λ_=>?_
   split<;>first|exact df|exact trivial
  ·split<;>first|exact df|exact trivial
  ·exact trivial
 |fldv off n x=>
  simp only[dW,oSJ]at h;subst h;refine bT (cN λj hj=>by simpa using hj) λt=>?_
  (repeat' split)<;>first|exact df|exact trivial
 |idx sz x i=>
  simp only[dW,oSJ]at h;subst h;refine bT (cN λj hj=>by simp[hj]) λt=>bT (cN λj hj=>by simp[hj]) λti=>bT nW λk=>?_;split
  ·exact bT iP λ_=>bT uQ λt=>by(repeat' split)<;>first|exact df|exact trivial
  ·exact bT iP λ_=>bT jy λt=>by(repeat' split)<;>first|exact df|exact trivial
  ·split<;>first|exact df|exact trivial
  ·exact trivial
 |idxa n sz x i=>
  simp only[dW,oSJ]at h;subst h;refine bT (cN λj hj=>by simp[hj]) λt=>bT (cN λj hj=>by simp[hj]) λti=>bT nW λk=>?_;split
  ·exact bT iP λ_=>by split<;>first|exact df|exact trivial
  ·exact trivial
 |ext x i=>
  simp only[dW,oSJ]at h;subst h;refine bT (cN λj hj=>by simpa using hj) λt=>?_
  (repeat' split)<;>first|exact df|exact trivial
 |bin op x y=>
  simp only[dW,oSJ]at h;subst h;refine bT (cN λj hj=>by simp[hj]) λt=>bT (cN λj hj=>by simp[hj]) λti=>bT iv λ_=>bT iv λ_=>bT jx λr=>?_
  split<;>first|exact df|exact trivial
 |bnb neg x y=>
  simp only[dW,oSJ]at h;subst h;refine bT (cN λj hj=>by simp[hj]) λt=>bT (cN λj hj=>by simp[hj]) λti=>bT iv λ_=>bT iv λ_=>?_
  split<;>first|exact df|exact trivial
 |eqa ks neg x y=>
  simp only[dW,oSJ]at h;subst h;refine bT (cN λj hj=>by simp[hj]) λt=>bT (cN λj hj=>by simp[hj]) λti=>?_;split
  ·exact bT jx λ_=>bT jx λ_=>bT jx λ_=>df
  ·exact trivial
 |un op x=>
  simp only[dW,oSJ]at h;subst h;refine bT (cN λj hj=>by simpa using hj) λt=>bT iv λ_=>bT jx λr=>?_
  split<;>first|exact df|exact trivial
 |conv k x=>
  simp only[dW,oSJ]at h;subst h;refine bT (cN λj hj=>by simpa using hj) λt=>bT iv λ_=>?_
  split<;>first|exact df|exact trivial
 |len x=>
  simp only[dW,oSJ]at h;subst h;exact bT (cN λj hj=>by simpa using hj) λt=>bT xA λ_=>df
 |lens x=>
  simp only[dW,oSJ]at h;subst h;refine bT (cN λj hj=>by simpa using hj) λt=>?_
  split<;>first|exact df|exact trivial
 |ixs x i=>
  simp only[dW,oSJ]at h;subst h;refine bT (cN λj hj=>by simp[hj]) λt=>bT (cN λj hj=>by simp[hj]) λti=>bT nW λk=>?_
  (repeat' split)<;>first|exact df|exact trivial
 |_=>simp[dW]at h
end
def Bs(t:fZ):Option (Nat×List Nat):=
 match t.dst,dW t.op with
 |some d,some S=>some (d,(match t.guard with|some (j,_)=>j::S|none=>S))
 |_,_=>none
theorem qP{α:Type}{d:Nat}{S S':List Nat}(hs:∀i∈S,i∈S'){s:SP α}(h:s.quiet d S):s.quiet d S':=by
 induction s with
 |ret a=>exact trivial
 |fail=>exact trivial
 |rdT i k ih=>exact⟨hs i h.1,λt=>ih t (h.2 t)⟩
 |rdC r o k ih=>exact λt=>ih t (h t)
 |rdH r o k ih=>exact λt=>ih t (h t)
 |rdV q k ih=>exact λn=>ih n (h n)
 |wrT i t k ih=>exact⟨h.1,ih h.2⟩
 |wrC r o t k ih=>exact h.elim
 |new r l k ih=>exact h.elim
 |bump q k ih=>exact h.elim
theorem uP{call:Option Nat->TOp->SP Unit}{t:fZ}{d:Nat}{S:List Nat}(h:Bs t=some (d,S)):(spOp call t).quiet d S:=by
 unfold Bs at h;split at h
 case h_2=>simp at h
 rename_i d' S' hd hq
 injection h with h
 injection h with h1 h2
 subst h1
 have XC:(evop call t.dst t.op)=ev1 d' t.op:=by
  rw[hd]
  cases hop:t.op<;>rw[hop]at hq<;>first|rfl|simp[dW]at hq
 have Yy:(setNo t.dst).quiet d' S:=by rw[hd];exact⟨rfl,trivial⟩
 unfold spOp
 cases hg:t.guard with
 |none=>
  rw[hg]at h2;subst h2;rw[XC];exact xB hq
 |some g=>
  obtain⟨j,want⟩:=g;rw[hg]at h2;subst h2;refine⟨by simp,λtv=>?_⟩;show SP.quiet d' (j::S') (match tv with|.v (.bool b)=>if b=want then evop call t.dst t.op else setNo t.dst|.tup []=>setNo t.dst|_=>.fail);split
  ·split
   ·rw[XC];exact qP (by simp +contextual) (xB hq)
   ·exact Yy
  ·exact Yy
  ·exact trivial
def IU(deps:List (List Nat))(tops:List fZ)(i j:Nat):Bool:=
 (deps.getD j []).contains i||(match Bs (tops.getD i yX),Bs (tops.getD j yX)with
  |some (di,Si),some (dj,Sj)=>di != dj && !Sj.contains di && !Si.contains dj
  |_,_=>false)
def uD(deps:List (List Nat))(tops:List fZ):List Nat->Bool
 | []=>true
 |i::r=>(r.all λj=>IU deps tops i j)&&uD deps tops r
theorem zE{a b:mZ}{da db:Nat}{Sa Sb:List Nat}(ha:(∀x∈a.2,x=.t da)/\∀i,Loc.t i∈a.1->i∈Sa)(hb:(∀x∈b.2,x=.t db)/\∀i,Loc.t i∈b.1->i∈Sb)(h1:da≠db)(h2:da ∉ Sb)(h3:db ∉ Sa):lf a b=false:=by
 have hm:∀(l l':List Loc)(d d':Nat)(S:List Nat),(∀x∈l,x=.t d)->((∀x∈l',x=.t d')/\d≠d'\/(∀i,Loc.t i∈l'->i∈S)/\d ∉ S)->C0 l l'=false:=by
  intro l l' d d' S hl X7;unfold C0;simp;intro w hw x hx;rw[hl w hw]
  cases x with
  |t i=>
   simp[Loc.hit,beq_eq_false_iff_ne];intro e
   rcases X7 with⟨q1,q2⟩|⟨q1,q2⟩
   ·have:=q1 _ hx;injection this with this;omega
   ·simp_all
  |_=>rfl
 unfold lf;rw[hm a.2 b.1 da 0 Sb ha.1 (.inr ⟨hb.2,h2⟩),hm a.2 b.2 da db [] ha.1 (.inl ⟨hb.1,h1⟩),hm b.2 a.1 db 0 Sa hb.1 (.inr ⟨ha.2,h3⟩),hm b.2 a.2 db da [] hb.1 (.inl ⟨ha.1,Ne.symm h1⟩)];rfl
theorem CG{call:Option Nat->TOp->SP Unit}{tops:List fZ}{deps:List (List Nat)}:∀{L:List Nat}{σ τ:St}{fs:List (Nat×mZ)},uD deps tops L=true->na (λi=>spOp call (tops.getD i yX)) L σ=some (fs,τ)->
 fX deps fs=true/\fs.map (·.1)=L/\∀y∈fs,∃ σ1,y.2=(spOp call (tops.getD y.1 yX)).foot σ1:=by
 intro L
 induction L with
 |nil=>
  intro σ τ fs _ hr;obtain⟨rfl,rfl⟩:=hr;exact⟨rfl,rfl,λy hy=>by simp at hy⟩
 |cons i L ih=>
  intro σ τ fs hs hr;simp only[uD,oBA,List.all_eq_true]at hs;simp only[na]at hr;obtain⟨x,h1,h2⟩:=cb hr;obtain⟨y,h3,h4⟩:=cb h2;obtain⟨rfl,rfl⟩:=h4;obtain⟨XT,τ1⟩:=y;obtain⟨q1,q2,q3⟩:=ih hs.2 h3;refine⟨?_,by simp[q2],λz hz=>?_⟩
  ·simp only[fX,oBA,List.all_eq_true];refine⟨λz hz=>?_,q1⟩
   have SC:z.1∈L:=by rw[<- q2];exact List.mem_map_of_mem hz
   have hp:=hs.1 z.1 SC;unfold IU at hp;simp only[Bool.or_eq_true]at hp⊢;rcases hp with hp|hp
   ·exact .inr hp
   ·left;split at hp
    ·rename_i di Si dj Sj e1 e2;simp only[oBA,bne_iff_ne,ne_eq,Bool.not_eq_true',List.contains_eq_mem,decide_eq_false_iff_not]at hp;obtain⟨σ1,e3⟩:=q3 z hz;have:=zE (lB (uP (call:=call) e1) σ) (lB (uP (call:=call) e2) σ1) hp.1.1 hp.1.2 hp.2
     simp_all
    ·simp at hp
  ·rcases List.mem_cons.1 hz with rfl|hz
   ·exact⟨σ,rfl⟩
   ·exact q3 z hz
theorem GZ{call:Option Nat->TOp->SP Unit}{o:fZ}{σ σ':St}(h:vA call o σ=some σ'):(spOp call o).run σ=some ((),σ'):=by
 have Yy:∀{σ'},(match o.dst with|some d=>some { σ with tm:=d5 σ.tm d (.tup []) } |none=>some σ)=some σ'->(setNo o.dst).run σ=some ((),σ'):=by
  intro σ' h;unfold setNo
  cases hd:o.dst with
  |none=>rw[hd]at h;simp at h;simp[SP.run,h]
  |some d=>rw[hd]at h;simp at h;simp[SP.run,h]
 have hm:∀{s:SP Unit}{σ'},(s.run σ).map (·.2)=some σ'->s.run σ=some ((),σ'):=by simp_all
 unfold vA at h;unfold spOp
 cases hg:o.guard with
 |none=>rw[hg]at h;exact hm h
 |some g=>
  rw[hg]at h;simp only[SP.run]at h⊢;split at h
  ·split at h
   ·rename_i Tx;rw[oIP Tx];exact hm h
   ·rename_i Tx;rw[oIN Tx];exact Yy h
  ·exact Yy h
  ·simp at h
theorem EH{call:Option Nat->TOp->SP Unit}{tops:List fZ}:∀{L:List Nat}{σ τ:St},oC call (L.map λi=>tops.getD i yX) σ=some τ->∃fs,na (λi=>spOp call (tops.getD i yX)) L σ=some (fs,τ):=by
 intro L
 induction L with
 |nil=>intro σ τ h;simp[oC]at h;subst h;exact⟨[],rfl⟩
 |cons i L ih=>
  intro σ τ h;have ⟨σ1,h1,h2⟩:=cb h;have ⟨fs,h3⟩:=ih h2;refine⟨(i,(spOp call (tops.getD i yX)).foot σ)::fs,?_⟩;simp only[na,GZ h1,oBS,h3]
theorem CJ(tops:List fZ):(List.range tops.length).map (λi=>tops.getD i yX)=tops:=by
 apply List.ext_getElem?;intro i;by_cases h:i<tops.length
 ·simp[h]
 ·simp_all
def fV(P:Program)(M:Fm)(isCall:Op->TOp->Prop):ia->Code->Prop
 |.skip,c=>c=.skip
 |.nrm _,c=>c=.skip
 |.reg _ draw tops _,c=>∃id ops dr,c=.region id ops dr/\tops.length=ops.size/\(∀i (h:i<ops.size)(h':i<tops.length),qM P M isCall ops ops[i] tops[i])/\match draw with
  |some deps=>dr=true/\tA ops deps/\P.follows .mixedOrders=true
  |none=>dr=true->∃deps,tA ops deps/\P.follows .mixedOrders=true/\uD deps tops (List.range tops.length)=true
 |.seq x y,c=>∃x' y',c=.seq x' y'/\fV P M isCall x x'/\fV P M isCall y y'
 |.cond k x y,c=>∃k' x' y',c=.cond k' x' y'/\bZ k'=some k/\fV P M isCall x x'/\fV P M isCall y y'
 |.block id x,c=>∃x',c=.block id x'/\fV P M isCall x x'
 |.loop x,c=>∃x',c=.loop x'/\fV P M isCall x x'
 |.exit id,c=>c=.exit id
 |.ret,c=>c=.ret
 |.pre l x,c=>(∀y∈l,y.1<M.N)/\fV P M isCall x c
 |.post x l,c=>(∀y∈l,y.1<M.N)/\fV P M isCall x c
def hJ.toExit:hJ->Exit
 |.normal=>.normal
 |.exit id=>.exit id
 |.ret=>.ret
section
variable {P:Program} {M:Fm} {isCall:Op->TOp->Prop} {call:Option Nat->TOp->SP Unit}
theorem f8.toTm{w:World}{F:Nat->Prop}{V:Vs}{C:Cs}{G:Gh}{t:TV}{x:Value}(h:f8 w F t x):TmR w F V C G t x:=by
 exact(ImF.im h).toTm
theorem JM{σ σ':St}{ts:Array Value}{w:World}{G:Gh}(hI:Inv M σ [] [] ts w G){x:Nat×Option Nat}(hx:x.1<M.N)(hr:(shr1 x).run σ=some ((),σ')):∃G',Inv M σ' [] [] ts w G':=by
 obtain⟨i,off⟩:=x
 have same:some ((),σ)=some ((),σ')->∃G',Inv M σ' [] [] ts w G':=λh=>by
  simp only[oSJ,oPJ,true_and]at h;exact⟨G,h▸hI⟩
 have Za:=hI.tmr i
 have drop:∀{t t':TV}{v:Value}{σ1:St}{H:List TV},TmR w (G.F M.A) σ.v (cC M σ []) G t v->(take1 false t).run σ=some (t',σ1)->t'≠.dead->∃G2,Inv M σ1 [] [] ts w G2/\TmR w (G2.F M.A) σ1.v (cC M σ1 []) G2 t'.imm v/\σ1.tm=σ.tm:=by
  intro t t' v σ1 H ht h1 ZN;obtain⟨G1,hg,_⟩:=fr hI ht h1
  obtain⟨G2,ZH,ZG⟩:=hg.1.dropImm (λj hj=>by
   obtain rfl:j=0:=by simpa using hj
   exact ZN)
  have h0:=ZG 0 (by simp);refine⟨G2,ZH.1,?_,ZH.2.2.2.trans hg.2.2.2⟩;exact h0.toTm
 unfold shr1 at hr;simp only[SP.run]at hr
 cases off with
 |none=>
  cases ht:σ.t i with
  |pk p vs=>
   rw[ht]at hr Za;simp only at hr;obtain⟨t',σ1,h1,h2⟩:=bS hr;simp only[SP.run,oSJ,oPJ,true_and]at h2
   have ZN:t'≠.dead:=by
    intro e
    rcases is h1 with h|h<;>rw[e]at h<;>simp[cZ,jK]at h
   obtain⟨G2,ZJ,X4,_⟩:=drop (H:=[]) Za h1 ZN;refine⟨G2,?_⟩;rw[<- h2];have:=ZJ.wrT hx X4
   have e:ts.setIfInBounds i (ts.getD i undef)=ts:=by
    apply Array.ext
    ·simp
    ·intro j h3 h4;rw[Array.getElem_setIfInBounds (by simpa using h4)]
     simp_all
   rw[e]at this;exact this
  |_=>rw[ht]at hr;exact same hr
 |some off=>
  cases ht:σ.t i with
  |ptr p vs=>
   rw[ht]at hr Za;simp only at hr;obtain⟨_,σ1,h1,h2⟩:=bS hr;have e1:σ1=σ:=(cq h1).1;have e2:=(cq h1).2;subst e1;split at h2
   case isFalse=>simp[SP.run]at h2
   obtain⟨t,σ2,h3,h4⟩:=bS h2;obtain⟨e3,hg⟩:=dO h3;have e3:σ2=σ1:=e3;subst e3
   cases t with
   |ow c=>
    simp only at h4;obtain⟨t',σ3,h5,h6⟩:=bS h4;obtain⟨t2,σ4,h7,h8⟩:=bS h6;simp only[SP.run,oSJ,oPJ,true_and]at h8;subst h8
    cases Za with
    |ptr V0 h0 hv h=>
     obtain⟨Z5,ad,t0,ha,_,_⟩:=h e2
     have VW:(p.add off).root≠1:=by rw[dC];exact Z5
     obtain⟨hB,u,fp,YP,hown,Sq⟩:=hI.named VW (kg off ha) hg (by simp);obtain⟨rfl,YZ⟩:=oF hI VW hg hown Sq h5
     have ZN:t2≠.dead:=by
      intro e
      rcases is h7 with h|h<;>rw[e]at h<;>simp[cZ,jK]at h
     obtain⟨G2,ZJ,_,_⟩:=drop (H:=[]) YZ h7 ZN;exact⟨G2,ZJ⟩
   |_=>exact same h4
  |_=>rw[ht]at hr;exact same hr
theorem Ep{ts:Array Value}{w:World}:∀{l:List (Nat×Option Nat)}{σ σ':St}{G:Gh},Inv M σ [] [] ts w G->(∀y∈l,y.1<M.N)->(shrs l).run σ=some ((),σ')->∃G',Inv M σ' [] [] ts w G':=by
 intro l
 induction l with
 |nil=>
  intro σ σ' G hI _ hr;simp[shrs,SP.run]at hr;exact⟨G,hr▸hI⟩
 |cons x l ih=>
  intro σ σ' G hI hl hr;have ⟨_,σ1,h1,h2⟩:=bS hr;have ⟨G1,hI1⟩:=JM hI (hl x (by simp)) h1;exact ih hI1 (λy hy=>hl y (by simp[hy])) h2
theorem Bl(Zh:tB P M isCall call)(N:Nat):∀(tc:ia)(c:Code)(σ:St)(e:hJ)(σ':St)(a:Act)(w:World)(G:Gh)(Q:Exit->Act->World->Prop),fV P M isCall tc c->runC call N tc σ=some (e,σ')->Inv M σ [] [] a.tmps w G ->
 (∀a' w' G',Inv M σ' [] [] a'.tmps w' G'->a'.defers=a.defers->Q e.toExit a' w')->c.wp P Q a w:=by
 intro tc
 induction tc with
 |skip=>
  intro c σ e σ' a w G Q hc hr hI hQ;simp only[fV]at hc;subst hc;simp only[runC,oSJ,oPJ]at hr;obtain⟨rfl,rfl⟩:=hr;exact wp_skip (hQ a w G hI rfl)
 |nrm pers=>
  intro c σ e σ' a w G Q hc hr hI hQ;simp only[fV]at hc;subst hc;obtain⟨rfl,rfl⟩:=hr;obtain⟨G2,ZJ⟩:=hI.norm pers;exact wp_skip (hQ a w G2 ZJ rfl)
 |reg id draw tops pers=>
  intro c σ e σ' a w G Q hc hr hI hQ;obtain⟨id',ops,dr,rfl,hlen,hok,hdr⟩:=hc;simp only[runC]at hr
  cases draw with
  |some deps=>
   simp only at hr;obtain⟨⟨fs,τ⟩,h1,h2⟩:=cb hr;simp only at h2;split at h2
   ·rename_i hp
    injection h2 with h2
    injection h2 with h2 h3
    subst h2;subst h3;obtain⟨rfl,Y1,hm⟩:=hdr;refine Bj hm hlen hok Zh Y1 hI h1 hp λa' w' G' Zz hd'=>?_;obtain⟨G2,ZJ⟩:=Zz.norm pers;exact hQ a' w' G2 ZJ hd'
   ·simp at h2
  |none=>
   simp only at hr;obtain⟨σ1,h1,h2⟩:=fD hr
   injection h2 with h2 h3
   subst h2;subst h3
   cases dr with
   |true=>
    obtain⟨deps,Y1,hm,hst⟩:=hdr rfl;obtain⟨fs,Zq⟩:=EH (tops:=tops) (L:=List.range tops.length) (by rw[CJ];exact h1);refine Bj hm hlen hok Zh Y1 hI Zq (CG hst Zq).1 λa' w' G' Zz hd'=>?_;obtain⟨G2,ZJ⟩:=Zz.norm pers;exact hQ a' w' G2 ZJ hd'
   |false=>
   refine wp_region ?_
   have hm:(List.range ops.size).map (λi=>tops.getD i ⟨none,none,.lens (.t 0)⟩)=tops:=by
    apply List.ext_getElem?;intro i;by_cases h:i<ops.size
    ·simp[h,hlen]
    ·rw[oGN (by simpa using h),oGN (by omega)]
   refine Jr hlen hok Zh (List.range ops.size) σ a w G (λi hi=>by simpa using hi) hI (by rw[hm];exact h1) λa' w' G' Zz hd'=>?_;obtain⟨G2,ZJ⟩:=Zz.norm pers;exact hQ a' w' G2 ZJ hd'
 |seq x y W8 T4=>
  intro c σ e σ' a w G Q hc hr hI hQ;obtain⟨x',y',rfl,hx,hy⟩:=hc;simp only[runC]at hr;obtain⟨⟨e1,σ1⟩,h1,h2⟩:=cb hr;refine wp_seq (W8 x' σ e1 σ1 a w G _ hx h1 hI λa' w' G' Zz hd=>?_)
  cases e1 with
  |normal=>exact T4 y' σ1 e σ' a' w' G' Q hy h2 Zz λa2 w2 G2 h3 h4=>hQ a2 w2 G2 h3 (h4.trans hd)
  |exit id=>
   simp only[oSJ,oPJ]at h2;obtain⟨rfl,rfl⟩:=h2;exact hQ a' w' G' Zz hd
  |ret=>
   simp only[oSJ,oPJ]at h2;obtain⟨rfl,rfl⟩:=h2;exact hQ a' w' G' Zz hd
 |cond k x y W8 T4=>
  intro c σ e σ' a w G Q hc hr hI hQ;obtain⟨k',x',y',rfl,hk,hx,hy⟩:=hc;simp only[runC]at hr;obtain⟨⟨t,σ1⟩,h1,h2⟩:=cb hr;obtain⟨rfl,ht⟩:=cW hI.tmr hk h1
  cases t with
  |v z=>
   obtain⟨hz,_⟩:=ht.v_inv
   cases z with
   |bool b=>
    cases b with
    |true=>exact wp_cond_true hz (W8 x' _ e σ' a w G Q hx h2 hI hQ)
    |false=>exact wp_cond_false hz (T4 y' _ e σ' a w G Q hy h2 hI hQ)
   |_=>simp at h2
  |_=>simp at h2
 |block id x W8=>
  intro c σ e σ' a w G Q hc hr hI hQ;obtain⟨x',rfl,hx⟩:=hc;simp only[runC]at hr;obtain⟨⟨e1,σ1⟩,h1,h2⟩:=cb hr;refine wp_block (W8 x' σ e1 σ1 a w G _ hx h1 hI λa' w' G' Zz hd=>?_)
  cases e1 with
  |normal=>
   simp only[oSJ,oPJ]at h2;obtain⟨rfl,rfl⟩:=h2;exact hQ a' w' G' Zz hd
  |exit i=>
   simp only at h2;simp only[hJ.toExit,Exit.inBlock];split at h2
   ·rename_i hi;simp only[oSJ,oPJ]at h2;obtain⟨rfl,rfl⟩:=h2;rw[oIP hi];exact hQ a' w' G' Zz hd
   ·rename_i hi;simp only[oSJ,oPJ]at h2;obtain⟨rfl,rfl⟩:=h2;rw[oIN hi];exact hQ a' w' G' Zz hd
  |ret=>
   simp only[oSJ,oPJ]at h2;obtain⟨rfl,rfl⟩:=h2;exact hQ a' w' G' Zz hd
 |loop x W8=>
  intro c σ e σ' a w G Q hc hr hI hQ;obtain⟨x',rfl,hx⟩:=hc;simp only[runC]at hr
  have ZR:∀(n:Nat)(σ:St)(a:Act)(w:World)(G:Gh)(d:List Deferred),a.defers=d->Ka (runC call N x) n σ=some (e,σ')->Inv M σ [] [] a.tmps w G->(∀a' w' G',Inv M σ' [] [] a'.tmps w' G'->a'.defers=d->Q e.toExit a' w')->Code.rounds P x' Q n a w:=by
   intro n
   induction n with
   |zero=>intro σ a w G d _ hr;simp[Ka]at hr
   |succ n ih=>
    intro σ a w G d hd hr hI hQ;simp only[Ka]at hr;obtain⟨⟨e1,σ1⟩,h1,h2⟩:=cb hr;rw[rounds_succ];refine W8 x' σ e1 σ1 a w G _ hx h1 hI λa' w' G' Zz hd'=>?_
    cases e1 with
    |normal=>exact ih σ1 a' w' G' d (hd'.trans hd) h2 Zz hQ
    |exit i=>
     simp only[oSJ,oPJ]at h2;obtain⟨rfl,rfl⟩:=h2;exact hQ a' w' G' Zz (hd'.trans hd)
    |ret=>
     simp only[oSJ,oPJ]at h2;obtain⟨rfl,rfl⟩:=h2;exact hQ a' w' G' Zz (hd'.trans hd)
  exact wp_loop_rounds N (ZR N σ a w G a.defers rfl hr hI hQ)
 |exit id=>
  intro c σ e σ' a w G Q hc hr hI hQ;simp only[fV]at hc;subst hc;obtain⟨rfl,rfl⟩:=hr;exact wp_exit (hQ a w G hI rfl)
 |ret=>
  intro c σ e σ' a w G Q hc hr hI hQ;simp only[fV]at hc;subst hc;obtain⟨rfl,rfl⟩:=hr;exact wp_ret (hQ a w G hI rfl)
 |pre l x W8=>
  intro c σ e σ' a w G Q hc hr hI hQ;obtain⟨hl,hx⟩:=hc;simp only[runC]at hr;obtain⟨⟨u,σ1⟩,h1,h2⟩:=cb hr;obtain⟨G1,hI1⟩:=Ep hI hl h1;obtain⟨G2,ZJ⟩:=hI1.norm (σ1.tm.map (·.1),σ1.ce.map (·.1));exact W8 c σ1.anew e σ' a w G2 Q hx h2 ZJ hQ
 |post x l W8=>
  intro c σ e σ' a w G Q hc hr hI hQ;obtain⟨hl,hx⟩:=hc;simp only[runC]at hr;obtain⟨⟨e1,σ1⟩,h1,h2⟩:=cb hr;obtain⟨⟨u,σ2⟩,h3,h4⟩:=cb h2;simp only[oSJ,oPJ]at h4;obtain⟨rfl,rfl⟩:=h4;refine W8 c σ e1 σ1 a w G Q hx h1 hI λa' w' G' Zz hd=>?_;obtain⟨G2,ZJ⟩:=Ep Zz hl h3;obtain⟨G3,WV⟩:=ZJ.norm (σ2.tm.map (·.1),σ2.ce.map (·.1));exact hQ a' w' G3 WV hd
end
inductive TRs where
 |tmp (t:Nat)
 |cell (t:Nat) (n:Option Nat)
structure TFn where
 np:Nat
 pp:List Nat
 nt:Nat
 body:ia
 res:List TRs
def Li(np r:Nat):Bool:=r%2==0&&decide (r<2*np+2)
def takeR1(np:Nat)(t:TV):SP TV:=
 match t with
 |.pk p vs=>take1 (!Li np p.root) (.pk p vs)
 |t=>take1 true t
def takeRL(np:Nat):List TV->SP (List TV)
 | []=>.ret []
 |t::r=>(takeR1 np t).bind λt'=>(takeRL np r).bind λr'=>.ret (t'::r')
def takeRV(np:Nat)(t:TV):SP (List TV×RSh):=
 match t with
 |.agg l=>(takeRL np l).bind λl'=>.ret (l',.agg l'.length)
 |t=>(takeR1 np t).bind λt'=>.ret ([t'],.one)
def res1(np:Nat):TRs->SP (List TV×RSh)
 |.tmp t=>.rdT t λtv=>takeRV np tv
 |.cell t n=>.rdT t λtv=>match tv with
  |.ptr p vs=>(chk p p.hops.length vs).bind λ_=>match n with
   |none=>(getPl p).bind λt=>(peek1 p t).bind λt'=>takeRV np t'
   |some n=>(peekL p n).bind λl=>takeRV np (.agg l)
  |_=>.fail
def resL(np:Nat):List TRs->SP (List TV×List RSh)
 | []=>.ret ([],[])
 |r::rs=>(res1 np r).bind λx=>(resL np rs).bind λy=>.ret (x.1++y.1,x.2::y.2)
def yY:TV->Bool
 |.v x=>fh x
 |_=>false
def unV:TV->Value
 |.v x=>x
 |_=>undef
def onesOf:List TV->List RSh
 | []=>[]
 |_::r=>.one::onesOf r
def flatsR:List TRs->SP (List TV)
 | []=>.ret []
 |.tmp t::r=>.rdT t λtv=>if yY tv then(flatsR r).bind λl=>.ret (tv::l)else .fail
 |.cell _ _::_=>.fail
def resF(np:Nat):List TRs->SP (List TV×List RSh)
 |.tmp t::r=>.rdT t λtv=>match tv with
  |.ptr p vs=>(chk p p.hops.length vs).bind λ_=>(flatsR r).bind λl=>.ret (.ptr p vs::l,.ptr::onesOf l)
  |_=>resL np (.tmp t::r)
 |qs=>resL np qs
def Bp(t:TV):List TV->TV
 | []=>t
 |y::l=>.tup (t::y::l)
def uJ(x:Value):List Value->Value
 | []=>x
 |y::l=>.tuple (x::y::l).toArray
theorem Et{w:World}{F:Nat->Prop}{V:Vs}{C:Cs}{G:Gh}{t:TV}{x:Value}(h:TmR w F V C G t x):∀{l:List TV},l.all yY=true->TmR w F V C G (Bp t l) (uJ x (l.map unV)):=by
 intro l hl
 have ZW:∀j (hj:j<l.length),TmR w F V C G l[j] (unV l[j]):=by
  intro j hj;have:=List.all_eq_true.1 hl l[j] (List.getElem_mem hj)
  cases hc:l[j]with
  |v y=>rw[hc]at this;exact .v this
  |_=>rw[hc]at this;simp[yY]at this
 cases l with
 |nil=>exact h
 |cons y l=>
  refine .tup (by simp) λj hj=>?_
  cases j with
  |zero=>exact h
  |succ j=>
   have ZU:j<(y::l).length:=by simp_all
   have e:(x::unV y::l.map unV).toArray.getD (j+1) undef=unV (y::l)[j]:=by
    have e0:((y::l).map unV)[j]?=some (unV (y::l)[j]):=by rw[List.getElem?_map,oGE ZU];rfl
    simp_all
   simp_all
def eM:List RSh->List Value->List Value
 | [],_=>[]
 |.one::r,ys=>ys.headD undef::eM r ys.tail
 |.agg n::r,ys=>.agg (ys.take n).toArray::eM r (ys.drop n)
 |.ptr::r,ys=>undef::eM r ys
def jw(sh:List RSh)(ys:List Value):Value:=
 match eM sh ys with
 | [x]=>x
 |l=>.tuple l.toArray
section
variable {P:Program} {M:Fm} {σ σ':St} {H:List TV} {xs:List Value} {ts:Array Value} {w:World} {G:Gh}
theorem xg(np:Nat)(t:TV):∃mv,takeR1 np t=take1 mv t:=by
 cases t<;>first|exact⟨true,rfl⟩|exact⟨_,rfl⟩
theorem DQ{np:Nat}:∀{l l':List TV}{ys:List Value}{σ σ':St}{H:List TV}{xs:List Value}{G:Gh},Inv M σ H xs ts w G->l.length=ys.length->(∀j (h:j<l.length),TmR w (G.F M.A) σ.v (cC M σ H) G l[j] (ys.getD j undef))->
 (takeRL np l).run σ=some (l',σ')->l'.length=l.length/\(∃G',ji M w ts σ H G σ' (H++l') (xs++ys) G')/\∀j (h:j<l'.length),cZ l'[j]=true\/jK l'[j]=true:=by
 intro l
 induction l with
 |nil=>
  intro l' ys σ σ' H xs G hI hl _ hr;obtain⟨rfl,rfl⟩:=hr;have:=oEN (by simpa using hl.symm);subst this;exact⟨rfl,⟨G,by simpa using ji.refl hI⟩,λj h=>by simp at h⟩
 |cons t l ih=>
  intro l' ys σ σ' H xs G hI hl ht hr
  cases ys with
  |nil=>simp at hl
  |cons y ys=>
   obtain⟨t',σ1,h1,h2⟩:=bS hr;obtain⟨r',σ2,h3,h4⟩:=bS h2;obtain⟨rfl,rfl⟩:=h4;obtain⟨mv,W1⟩:=xg np t;rw[W1]at h1;obtain⟨G1,Z0,ho⟩:=fr hI (ht 0 (by simp)) h1;obtain⟨e,⟨G2,ZH⟩,hok⟩:=ih (l':=r') Z0.1 (by simpa using hl) (λj hj=>Z0.tm (by have:=ht (j+1) (by simpa using hj);simpa using this)) h3;refine⟨by simp[e],⟨G2,by simpa using Z0.trans ZH⟩,λj hj=>?_⟩
   cases j with
   |zero=>exact is h1
   |succ j=>exact hok j (by simpa using hj)
theorem rK{np:Nat}{t:TV}{x:Value}{r:List TV×RSh}(hI:Inv M σ H xs ts w G)(hx:TmR w (G.F M.A) σ.v (cC M σ H) G t x)(hr:(takeRV np t).run σ=some (r,σ')):
 ∃ys G',ji M w ts σ H G σ' (H++r.1) (xs++ys) G'/\r.1.length=ys.length/\(∀j (h:j<r.1.length),cZ r.1[j]=true\/jK r.1[j]=true)/\∀(rest:List RSh)(zs:List Value),eM (r.2::rest) (ys++zs)=x::eM rest zs:=by
 by_cases ht:∃q,t=.agg q
 ·obtain⟨q,rfl⟩:=ht;obtain⟨l',σ1,h1,h2⟩:=bS hr;obtain⟨rfl,rfl⟩:=h2;obtain⟨vs,rfl,hl,hj⟩:=DA hx;obtain⟨e1,⟨G',hg⟩,hok⟩:=DQ (ys:=vs.toList) hI (by simp[hl]) (λj h=>by simp_all) h1;refine⟨vs.toList,G',hg,by simp[e1,hl],hok,λrest zs=>?_⟩
  have hn:l'.length=vs.toList.length:=by simp_all
  simp only[eM,hn,List.take_left,List.drop_left,Array.toArray_toList]
 ·have e:takeRV np t=(takeR1 np t).bind λt'=>.ret ([t'],.one):=by
   cases t<;>first|rfl|exact absurd ⟨_,rfl⟩ ht
  rw[e]at hr;obtain⟨t',σ1,h1,h2⟩:=bS hr;obtain⟨rfl,rfl⟩:=h2;obtain⟨mv,W1⟩:=xg np t;rw[W1]at h1;obtain⟨G',hg,ho⟩:=fr hI hx h1;refine⟨[x],G',hg,rfl,λj hj=>?_,λrest zs=>rfl⟩
  obtain rfl:j=0:=by simp_all
  exact is h1
def AR(P:Program):TRs->ResultVar->Prop
 |.tmp t,r=>r=.tmp t
 |.cell t n,r=>∃ty,r=.cell t ty/\Cd P ty n
theorem JZ{np:Nat}{q:TRs}{q':ResultVar}{r:List TV×RSh}(hI:Inv M σ H xs ts w G)(hq:AR P q q')(hr:(res1 np q).run σ=some (r,σ')):
 ∃x ys G',(match q' with|.tmp t=>(pure (ts.getD t undef):Sem Value)|.cell a t=>do loadVar t (<- asAddr (ts.getD a undef))).run P w=.ok x w/\ji M w ts σ H G σ' (H++r.1) (xs++ys) G'/\r.1.length=ys.length /\
  (∀j (h:j<r.1.length),cZ r.1[j]=true\/jK r.1[j]=true)/\∀(rest:List RSh)(zs:List Value),eM (r.2::rest) (ys++zs)=x::eM rest zs:=by
 cases q with
 |tmp t=>
  have hq:q'=.tmp t:=hq;subst hq;obtain⟨ys,G',h1,h2,h3,h4⟩:=rK hI (hI.tmr t) hr;exact⟨_,ys,G',rfl,h1,h2,h3,h4⟩
 |cell t n=>
  obtain⟨ty,rfl,hn⟩:=hq;simp only[res1,SP.run]at hr;have Za:=hI.tmr t
  cases hs:σ.t t with
  |ptr p vs=>
   rw[hs]at hr Za;simp only at hr;obtain⟨_,σ2,h3,h4⟩:=bS hr;have e1:σ2=σ:=(cq h3).1;have e2:=(cq h3).2;subst e1;generalize hz:ts.getD t undef=z at Za
   cases Za with
   |ptr V0 h0 hv h=>
    obtain⟨Z5,ad,t0,ha,rfl,_⟩:=h e2
    cases n with
    |none=>
     obtain⟨dd,hu,Yv,hd2⟩:=hn;simp only at h4;obtain⟨t1,σ3,h5,h6⟩:=bS h4;obtain⟨e3,hg⟩:=dO h5;have e3:σ3=σ2:=e3;subst e3;obtain⟨t',σ4,h7,h8⟩:=bS h6;obtain⟨hB,u,fp,YP,hown,Zv⟩:=hI.named Z5 ha hg (mO h7);obtain⟨rfl,YZ⟩:=oF hI Z5 hg hown Zv h7;obtain⟨ys,G',k1,k2,k3,k4⟩:=rK hI YZ h8;refine⟨u,ys,G',?_,k1,k2,k3,k4⟩;show((do loadVar ty (<- asAddr (ts.getD t undef))):Sem Value).run P w=_;rw[hz];simp[asAddr,loadVar,kH hu Yv hd2,YP]
    |some n=>
     obtain⟨⟨dd,hu,Yv⟩,hsz⟩:=hn;simp only at h4;obtain⟨l,σ3,h5,h6⟩:=bS h4;obtain⟨rfl,e3,us,e4,e5⟩:=By hI Z5 ha h5
     have OP:TmR w (G.F M.A) σ3.v (cC M σ3 H) G (.agg l) (.agg us.toArray):=.agg (by simp[e3,e4]) λj hj=>by have:=(e5 j hj (by omega)).2;simpa[show j<us.length by omega]using this
     obtain⟨ys,G',k1,k2,k3,k4⟩:=rK hI OP h6;refine⟨_,ys,G',?_,k1,k2,k3,k4⟩;have Zf:=iV ha
     have ZV:=run_loadCells_list (P:=P) w ad us λj v hj=>by
      obtain⟨hlt,rfl⟩:=oGS hj;have:=(e5 j (by omega) hlt).1;obtain⟨b,o,s⟩:=ad;simp only at Zf;subst Zf;rw[dB];exact this
     have YH:(sizeOf ty).run P w=.ok n w:=by
      unfold sizeOf typeInfo
      cases hi:P.info? ty with
      |none=>simp[hi]at hsz
      |some i=>simp[hi]at hsz;simp[hi,hsz]
     rw[e4]at ZV;show((do loadVar ty (<- asAddr (ts.getD t undef))):Sem Value).run P w=_;rw[hz];simp[asAddr,loadVar,jv hu Yv,YH,ZV]
  |_=>rw[hs]at hr;simp[SP.run]at hr
theorem JY{np:Nat}:∀{qs:List TRs}{qs':List ResultVar}{r:List TV×List RSh}{σ σ':St}{H:List TV}{xs:List Value}{G:Gh},Inv M σ H xs ts w G->qs.length=qs'.length->(∀k (h:k<qs.length)(h':k<qs'.length),AR P qs[k] qs'[k])->(resL np qs).run σ=some (r,σ')->
 ∃vs ys G',(qs'.mapM λ(q:ResultVar)=>(match q with|.tmp t=>(pure (ts.getD t undef):Sem Value)|.cell a t=>do loadVar t (<- asAddr (ts.getD a undef)))).run P w=.ok vs w/\ji M w ts σ H G σ' (H++r.1) (xs++ys) G'/\r.1.length=ys.length /\
  (∀j (h:j<r.1.length),cZ r.1[j]=true\/jK r.1[j]=true)/\eM r.2 ys=vs:=by
 intro qs
 induction qs with
 |nil=>
  intro qs' r σ σ' H xs G hI hl _ hr;have:qs'=[]:=oEN (by simpa using hl.symm);subst this;obtain⟨rfl,rfl⟩:=hr;exact⟨[],[],G,by simp,by simpa using ji.refl hI,rfl,λj h=>by simp at h,rfl⟩
 |cons q qs ih=>
  intro qs' r σ σ' H xs G hI hl hok hr
  cases qs' with
  |nil=>simp at hl
  |cons q' qs'=>
   obtain⟨x,σ1,h1,h2⟩:=bS hr;obtain⟨y,σ2,h3,h4⟩:=bS h2;obtain⟨rfl,rfl⟩:=h4;obtain⟨v,ys,G1,k1,k2,k3,k4,k5⟩:=JZ hI (hok 0 (by simp) (by simp)) h1;obtain⟨vs,zs,G2,l1,l2,l3,l4,l5⟩:=ih (qs':=qs') k2.1 (by simpa using hl) (λk h h'=>hok (k+1) (by simpa using h) (by simpa using h')) h3;refine⟨v::vs,ys++zs,G2,?_,by simpa using k2.trans l2,by simp[k3,l3],λj hj=>?_,?_⟩
   ·rw[List.mapM_cons,Sem.run_bind];refine(congrArg (λr=>Result.andThen r _) k1).trans ?_;simp only[Result.andThen_ok,Sem.run_bind,l1,Sem.run_pure]
   ·by_cases hjl:j<x.1.length
    ·rw[List.getElem_append_left hjl];exact k4 j hjl
    ·rw[List.getElem_append_right (by omega)];exact l4 _ _
   ·rw[k5,l5]
theorem FL:∀{qs:List TRs}{qs':List ResultVar}{l:List TV}{σ σ':St}{G:Gh},Inv M σ [] [] ts w G->qs.length=qs'.length->(∀k (h:k<qs.length)(h':k<qs'.length),AR P qs[k] qs'[k])->(flatsR qs).run σ=some (l,σ')->
 σ'=σ/\l.all yY=true/\(qs'.mapM λ(q:ResultVar)=>(match q with|.tmp t=>(pure (ts.getD t undef):Sem Value)|.cell a t=>do loadVar t (<- asAddr (ts.getD a undef)))).run P w=.ok (l.map unV) w:=by
 intro qs
 induction qs with
 |nil=>
  intro qs' l σ σ' G hI hl _ hr;have:qs'=[]:=oEN (by simpa using hl.symm);subst this;obtain⟨rfl,rfl⟩:=hr;exact⟨rfl,rfl,by simp⟩
 |cons q qs ih=>
  intro qs' l σ σ' G hI hl hok hr
  cases qs' with
  |nil=>simp at hl
  |cons q' qs'=>
   cases q with
   |cell t n=>simp[flatsR,SP.run]at hr
   |tmp t=>
    have hq:q'=.tmp t:=hok 0 (by simp) (by simp);subst hq;simp only[flatsR,SP.run]at hr;split at hr
    case isFalse=>simp[SP.run]at hr
    rename_i hf;obtain⟨r,σ1,h1,h2⟩:=bS hr;simp only[SP.run,oSJ,oPJ]at h2;obtain⟨rfl,rfl⟩:=h2;obtain⟨rfl,k2,k3⟩:=ih (qs':=qs') hI (by simpa using hl) (λk h h'=>hok (k+1) (by simpa using h) (by simpa using h')) h1;refine⟨rfl,by rw[List.all_cons,hf,k2];rfl,?_⟩;have hv:=hI.tmr t
    have e:ts.getD t undef=unV (σ1.t t):=by
     cases hc:σ1.t t with
     |v x=>
      rw[hc]at hv
      cases hv with
      |v _=>rfl
     |_=>rw[hc]at hf;simp[yY]at hf
    rw[List.mapM_cons,Sem.run_bind];simp only[Result.andThen_ok,Sem.run_bind,k3,Sem.run_pure];rw[e];rfl
end
section
variable {P:Program} {M:Fm} {σ σ':St} {H:List TV} {xs:List Value} {ts:Array Value} {w:World} {G:Gh}
theorem Inv.trunc(hI:Inv M σ H xs ts w G){k:Nat}(hd:∀j (h:j<H.length),k<=j->H[j]=.dead):Inv M σ (H.take k) (xs.take k) ts w G/\cC M σ (H.take k)=cC M σ H:=by
 have e:cC M σ (H.take k)=cC M σ H:=by
  funext r o;unfold cC;split
  ·simp
   grind
  ·rfl
 refine⟨⟨by rw[e];exact hI.core,λi=>by rw[e];exact hI.tmr i,hI.fram,hI.keys,hI.size,by simp[hI.hand],λj hj=>?_,hI.shape⟩,e⟩
 have h2:j<k/\j<xs.length:=by simp at hj;omega
 rw[hI.hval j h2.2]
 simp_all
theorem pL(b:Nat)(vs:List Value):∀(o:Nat)(w:World){k:Nat},k≠b->(w.setCells b o vs).heap[k]?=w.heap[k]?:=by
 induction vs with
 |nil=>intro o w k h;rfl
 |cons v r ih=>
  intro o w k h;simp[World.setCells];rw[ih _ _ h];exact cu w _ v h
theorem tI(b:Nat)(vs:List Value):∀(o:Nat)(w:World){cur:Array Value}{e:TypeId}{fz:Nat×Nat},w.heap[b]?=some (.cells cur e fz)->
 ∃Yn,(w.setCells b o vs).heap[b]?=some (.cells Yn e fz)/\Yn.size=cur.size/\∀j,Yn[j]?=if o<=j/\j<o+vs.length/\j<cur.size then vs[j-o]? else cur[j]?:=by
 induction vs with
 |nil=>intro o w cur e fz h;exact⟨cur,h,rfl,λj=>by rw[oIN (by simp;omega)]⟩
 |cons v r ih=>
  intro o w cur e fz h;obtain⟨Yn,h1,h2,h3⟩:=ih (o+1) _ (gR w b o v h);refine⟨Yn,h1,by rw[h2];simp,λj=>?_⟩;rw[h3];simp;by_cases hj:j=o
  ·subst hj;rw[oIN (by omega)];by_cases hs:j<cur.size
   ·rw[oIP (by omega)];simp[hs]
   ·rw[oIN (by omega)];simp[hs]
  ·by_cases hc:o+1<=j/\j<o+1+r.length/\j<cur.size
   ·rw[oIP hc,oIP (by omega)];rw[show j-o=(j-(o+1))+1 by omega];simp
   ·rw[oIN hc,oIN (by omega)];rw[Array.getElem?_setIfInBounds,oIN (Ne.symm hj)]
theorem vz(b:Nat)(vs:List Value):∀(o:Nat)(w:World),w.setCells b o vs={ w with heap:=(w.setCells b o vs).heap }:=by
 induction vs with
 |nil=>intro o w;rfl
 |cons v r ih=>
  intro o w;simp[World.setCells]
  have h:w.setCell ⟨b,o,none⟩ v={ w with heap:=(w.setCell ⟨b,o,none⟩ v).heap }:=by
   unfold World.setCell
   simp_all
  rw[ih];rw[h]
def fm(w W:World)(b:Nat):World:=match w.heap[b]? with|some x=>{ W with heap:=W.heap.setIfInBounds b x } |none=>W
theorem mL{w W:World}{b k:Nat}(h:k≠b):(fm w W b).heap[k]?=W.heap[k]?:=by
 unfold fm;split
 ·simp[Ne.symm h]
 ·rfl
theorem pQ{w W:World}{b:Nat}(h:b<W.heap.size)(h2:b<w.heap.size):(fm w W b).heap[b]?=w.heap[b]?:=by
 unfold fm
 simp_all
theorem jT{w W:World}{b:Nat}:(fm w W b).heap.size=W.heap.size:=by
 unfold fm
 grind
theorem qm{w W:World}{b:Nat}:(fm w W b).os=W.os/\(fm w W b).tape=W.tape/\(fm w W b).output=W.output/\(fm w W b).drawn=W.drawn:=by
 unfold fm
 grind
theorem qW{w W:World}{b o:Nat}{vs:List Value}{cur0 cur:Array Value}{e:TypeId}{fz:Nat×Nat}(h0:w.heap[b]?=some (.cells cur0 e fz))(h1:W.heap[b]?=some (.cells cur e fz))(hs:cur.size=cur0.size)
 (UX:∀j,(j<o\/o+vs.length<=j)->cur[j]?=cur0[j]?)(hin:∀j (h:j<vs.length),cur[o+j]?=some vs[j]):(fm w W b).setCells b o vs=W:=by
 have hbW:=(Array.getElem?_eq_some_iff.1 h1).1;have Tx:=(Array.getElem?_eq_some_iff.1 h0).1;rw[vz];obtain⟨r1,r2,r3,r4⟩:=qm (w:=w) (W:=W) (b:=b)
 have Yh:((fm w W b).setCells b o vs).heap=W.heap:=by
  apply Array.ext_getElem?;intro k;by_cases hk:k=b
  ·subst hk;obtain⟨Yn,e1,e2,e3⟩:=tI k vs o (fm w W k) ((pQ hbW Tx).trans h0);rw[e1,h1];congr 2;apply Array.ext_getElem?;intro j;rw[e3];split
   ·rename_i hj;have:=hin (j-o) (by omega)
    simp_all
   ·rename_i hj;by_cases hjs:j<cur0.size
    ·exact(UX j (by omega)).symm
    ·simp_all
  ·rw[pL b vs o _ hk,mL hk]
 simp_all
end
structure DG (H:List TV)(xs:List Value)(w:World)(G:Gh)(A:Nat->Prop)(pr:Nat->Option (Nat×Nat×Nat))(bs:Nat->Nat)(ce:List (Nat×List TV))(ow:Nat->Option Nat):Prop where
 even:∀r b o n,pr r=some (b,o,n)->r%2=0/\0<n
 cells:∀r b o n,pr r=some (b,o,n)->∃l,cA ce r=some l/\l.length=n/\∀j (h:j<l.length),∃h':bs r+j<H.length,l[j]=H[bs r+j]/\l[j]≠.dead
 only:∀r l,cA ce r=some l->pr r≠none\/ow r≠none
 owc:∀r j,ow r=some j->r%2=1/\r≠1/\∃(c:List (List TV))(h:j<H.length),cA ce r=some [.ow c]/\H[j]=.ow c
 owa:∀r j r' b o n,ow r=some j->pr r'=some (b,o,n)->∀j',j'<n->bs r'+j'≠j
 owi:∀r r' j,ow r=some j->ow r'=some j->r=r'
 apart:∀r b o n r' b' o' n',pr r=some (b,o,n)->pr r'=some (b',o',n')->∀j j',j<n->j'<n'->bs r+j=bs r'+j'->r=r'
 inj:∀r b o n r' o' n',pr r=some (b,o,n)->pr r'=some (b,o',n')->r=r'
 notF:∀r b o n,pr r=some (b,o,n)->¬G.F A b
 notH:∀r b o n,pr r=some (b,o,n)->∀j,¬G.φ 1 j b
 here:∀r b o n,pr r=some (b,o,n)->∀j,j<n->w.cell? ⟨b,o+j,none⟩=some (xs.getD (bs r+j) undef)/\w.frozen? ⟨b,o+j,none⟩=false
def Fm.into(M:Fm)(w:World)(G:Gh)(pr:Nat->Option (Nat×Nat×Nat))(N:Nat):Fm where
 w0:=w
 A:=λk=>G.F M.A k\/(∃j,G.φ 1 j k)\/w.heap.size<=k
 W0:=λk=>∃j,G.φ 1 j k
 pr:=pr
 N:=N
 hA:=λk h=>.inr (.inr h)
def Gh.into(G:Gh)(pr:Nat->Option (Nat×Nat×Nat))(bs:Nat->Nat)(ow:Nat->Option Nat)(xs:List Value):Gh:=
 ⟨pr,λr _=>match ow r with|some j=>xs.getD j undef|none=>undef,λr o k=>(∃b o0 n,pr r=some (b,o0,n)/\o<n/\G.φ 1 (bs r+o) k)\/∃j,ow r=some j/\o=0/\G.φ 1 j k⟩
theorem gF{G:Gh}{pr:Nat->Option (Nat×Nat×Nat)}{bs:Nat->Nat}{ow:Nat->Option Nat}{xs:List Value}{r o k:Nat}(h:(G.into pr bs ow xs).φ r o k):∃j,G.φ 1 j k:=by
 rcases h with⟨_,_,_,_,_,h⟩|⟨_,_,_,h⟩<;>exact⟨_,h⟩
section
variable {P:Program} {M:Fm} {σ σ':St} {H:List TV} {xs:List Value} {ts:Array Value} {w:World} {G:Gh}
variable {pr:Nat->Option (Nat×Nat×Nat)} {bs:Nat->Nat} {ce:List (Nat×List TV)} {ow:Nat->Option Nat}
theorem DG.F(hh:DG H xs w G M.A pr bs ce ow){N k:Nat}(h:G.F M.A k):(G.into pr bs ow xs).F (M.into w G pr N).A k:=
 ⟨.inl h,λr o hφ=>by have ⟨j,h3⟩:=gF hφ;exact h.2.1 _ _ h3,λr b o n hb e=>hh.notF r b o n hb (e▸h)⟩
theorem mX{w:World}{b o:Nat}{v:Value}(h:w.cell? ⟨b,o,none⟩=some v):∃cur e fz,w.heap[b]?=some (.cells cur e fz)/\o<cur.size/\cur[o]?=some v:=by
 unfold World.cell? at h;split at h
 ·rename_i cur e fz hb
  grind
 ·simp at h
theorem Inv.enter(hI:Inv M σ H xs ts w G)(hh:DG H xs w G M.A pr bs ce ow){tm:List (Nat×TV)}{Xz:Array Value}{N:Nat}(hN:Xz.size=N)
 (ht:∀i,TmR w ((G.into pr bs ow xs).F (M.into w G pr N).A) (λ_=>0) (cC (M.into w G pr N) ⟨tm,ce,[]⟩ []) (G.into pr bs ow xs) ((cA tm i).getD .dead) (Xz.getD i undef)):
 Inv (M.into w G pr N) ⟨tm,ce,[]⟩ [] [] Xz w (G.into pr bs ow xs):=by
 have XC:∀r b o n,pr r=some (b,o,n)->r≠1:=λr b o n h e=>by have:=(hh.even r b o n h).1;omega
 have Yy:∀r b o n,pr r=some (b,o,n)->ow r=none:=λr b o n h=>by
  cases e:ow r with
  |none=>rfl
  |some j=>have:=(hh.even r b o n h).1;have:=(hh.owc r j e).1;omega
 have hne:∀r l,cA ce r=some l->r≠1:=by
  intro r l h;rcases hh.only r l h with h1|h1
  ·cases hp:pr r with
   |none=>exact absurd hp h1
   |some x=>exact XC r _ _ _ hp
  ·cases hp:ow r with
   |none=>exact absurd hp h1
   |some j=>exact(hh.owc r j hp).2.1
 have hcell:∀r o,cC (M.into w G pr N) ⟨tm,ce,[]⟩ [] r o=match cA ce r with|some l=>l.getD o .dead|none=>.dead:=by
  intro r o;unfold cC;split
  ·rename_i e
   cases hc:cA ce r with
   |none=>simp
   |some l=>exact absurd e (hne r l hc)
  ·rfl
 refine⟨⟨λr o=>?_,λr b o0 n hb=>?_,λr b o0 n hb o ho=>?_,λr r' b o n o' n' h1 h2=>hh.inj r b o n r' o' n' h1 h2,λr b o n hb r' o' hφ=>by obtain⟨j,h3⟩:=gF hφ;exact hh.notH r b o n hb _ h3,λr1 o1 r2 o2 k Y9 hk2=>?_,λr o k hφ=>.inr (.inl (gF hφ))⟩,ht,?_,λr l h=>hne r l h,hN,rfl,λj hj=>by simp at hj,λr b o n hb l hl=>?_⟩
 ·rw[hcell]
  cases hc:cA ce r with
  |none=>
   left;refine⟨rfl,λk hk=>?_⟩
   rcases hk with⟨b1,p1,n1,h1,h2,h3⟩|⟨j,h1,_⟩
   ·obtain⟨l,h4,_⟩:=hh.cells r _ _ _ h1;rw[hc]at h4;simp at h4
   ·obtain⟨_,_,c,_,h4,_⟩:=hh.owc r j h1;rw[hc]at h4;simp at h4
  |some l=>
   cases hp:pr r with
   |none=>
    obtain⟨j,hj⟩:∃j,ow r=some j:=by
     rcases hh.only r l hc with h1|h1
     ·exact absurd hp h1
     ·cases e:ow r with
      |none=>exact absurd e h1
      |some j=>exact⟨j,rfl⟩
    obtain⟨_,_,c,hjl,h4,h5⟩:=hh.owc r j hj;rw[hc]at h4
    injection h4 with h4
    subst h4
    cases o with
    |zero=>
     right;have hown:=hI.hand_own hjl (by rw[h5];simp)
     have hval:(G.into pr bs ow xs).val w r 0=xs.getD j undef:=by
      unfold Gh.val Gh.into;simp only[hp,hj]
     rw[hval];simp only[List.getD_cons_zero];rw[h5]at hown;refine(hown.frame (λ_ _=>rfl) (λ_ _ _=>rfl) λk hk _=>hh.F hk).refp λk=>?_;constructor
     ·intro hk;exact .inr ⟨j,hj,rfl,hk⟩
     ·rintro(⟨b1,p1,n1,h1,_,_⟩|⟨j',h1,_,hk⟩)
      ·rw[hp]at h1;simp at h1
      ·rw[hj]at h1;injection h1 with h1;rw[h1];exact hk
    |succ o=>
     left;refine⟨by simp,λk hk=>?_⟩
     rcases hk with⟨b1,p1,n1,h1,_,_⟩|⟨j',_,h1,_⟩
     ·rw[hp]at h1;simp at h1
     ·omega
   |some x=>
    obtain⟨b,o0,n⟩:=x;obtain⟨l',h4,h5,h6⟩:=hh.cells r _ _ _ hp;rw[hc]at h4
    injection h4 with h4
    subst h4;by_cases ho:o<l.length
    ·right;obtain⟨h7,h8,h9⟩:=h6 o ho;have hown:=hI.hand_own h7 (by rw[<- h8];exact h9)
     have hval:(G.into pr bs ow xs).val w r o=xs.getD (bs r+o) undef:=by
      unfold Gh.val Gh.into;simp only[hp];rw[(hh.here r _ _ _ hp o (by omega)).1];rfl
     rw[hval]
     have e:l.getD o .dead=l[o]:=by simp[ho]
     simp only[e];rw[h8];refine(hown.frame (λ_ _=>rfl) (λ_ _ _=>rfl) λk hk _=>hh.F hk).refp λk=>?_;constructor
     ·intro hk;exact .inl ⟨b,o0,n,hp,by omega,hk⟩
     ·rintro(⟨_,_,_,_,_,hk⟩|⟨j',h1,_,_⟩)
      ·exact hk
      ·rw[Yy r _ _ _ hp]at h1;simp at h1
    ·left;refine⟨by simp only[];rw[oGD,oGN (by omega)];rfl,λk hk=>?_⟩
     rcases hk with⟨b1,p1,n1,h1,h2,h3⟩|⟨j',h1,_,_⟩
     ·rw[hp]at h1
      injection h1 with h1
      injection h1 with _ h1
      injection h1 with _ h1
      omega
     ·rw[Yy r _ _ _ hp]at h1;simp at h1
 ·have hn:=(hh.even r _ _ _ hb).2;have YM:pr r=some (b,o0,n):=hb;obtain⟨cur,e,fz,h1,h2,h3⟩:=mX (hh.here r _ _ _ YM (n-1) (by omega)).1;exact⟨cur,e,fz,h1,by omega,λj hj=>(hh.here r _ _ _ YM j hj).2⟩
 ·have YM:pr r=some (b,o0,n):=hb;rw[hcell];obtain⟨l,h1,h2,_⟩:=hh.cells r _ _ _ YM;rw[h1];show l.getD o .dead=.dead;rw[oGD,oGN (by omega)];rfl
 ·rcases Y9 with⟨b1,p1,n1,h1,h2,h3⟩|⟨j1,h1,h2,h3⟩<;>rcases hk2 with⟨b2,p2,n2,k1,k2,k3⟩|⟨j2,k1,k2,k3⟩
  ·obtain⟨_,h5⟩:=hI.core.dis _ _ _ _ k h3 k3;have:=hh.apart _ _ _ _ _ _ _ _ h1 k1 _ _ h2 k2 h5;subst this;exact⟨rfl,by omega⟩
  ·obtain⟨_,h5⟩:=hI.core.dis _ _ _ _ k h3 k3;exact absurd h5 (hh.owa _ _ _ _ _ _ k1 h1 _ h2)
  ·obtain⟨_,h5⟩:=hI.core.dis _ _ _ _ k h3 k3;exact absurd h5.symm (hh.owa _ _ _ _ _ _ h1 k1 _ k2)
  ·obtain⟨_,h5⟩:=hI.core.dis _ _ _ _ k h3 k3;subst h5;exact⟨hh.owi _ _ _ h1 k1,by omega⟩
 ·refine⟨rfl,rfl,rfl,Nat.le_refl _,λ_ _ _ _=>rfl,λr b o n hp=>⟨hp,?_⟩,λr o k hφ=>.inl (gF hφ),λr b o n hb=>.inl hb,λr hb=>?_⟩
  ·have hn:=(hh.even r _ _ _ hp).2;obtain⟨cur,e,fz,h1,h2,h3⟩:=mX (hh.here r _ _ _ hp (n-1) (by omega)).1;exact⟨cur,cur,e,fz,h1,h1,rfl,λ_ _=>rfl⟩
  ·cases hp:pr r with
   |none=>exact absurd hp hb
   |some x=>exact(hh.even r _ _ _ hp).1
 ·obtain⟨l',h1,h2,_⟩:=hh.cells r _ _ _ hb;have X7:cA ce r=some l:=hl;rw[X7]at h1
  injection h1 with h1
  rw[h1];exact h2
end
structure Jd (H2:List TV)(ys:List Value)(H':List TV)(xs':List Value)(C2:Cs)(G2:Gh)(w2:World)(pr:Nat->Option (Nat×Nat×Nat))(bs:Nat->Nat):Prop where
 len:H'.length=xs'.length
 low:∀j (h:j<H2.length),∃h':j<H'.length,H'[j]=H2[j]/\xs'.getD j undef=ys.getD j undef
 cells:∀r b o n,pr r=some (b,o,n)->∀t,t<n->∃h:bs r+t<H'.length,H2.length<=bs r+t/\H'[bs r+t]=C2 r t/\xs'.getD (bs r+t) undef=G2.val w2 r t
 cover:∀j,j<H'.length->j<H2.length\/∃r b o n t,pr r=some (b,o,n)/\t<n/\j=bs r+t
 apart:∀r b o n r' b' o' n',pr r=some (b,o,n)->pr r'=some (b',o',n')->∀j j',j<n->j'<n'->bs r+j=bs r'+j'->r=r'
section
variable {P:Program} {M:Fm} {σ σ2:St} {H H2 H':List TV} {xs ys xs':List Value} {ts ts2:Array Value} {w w2 w':World} {G G2:Gh}
variable {pr:Nat->Option (Nat×Nat×Nat)} {bs bs2:Nat->Nat} {ce:List (Nat×List TV)} {N:Nat} {ow:Nat->Option Nat}
theorem Inv.leave(hI:Inv M σ H xs ts w G)(hh:DG H xs w G M.A pr bs ce ow)(h2:Inv (M.into w G pr N) σ2 H2 ys ts2 w2 G2)(Z':Jd H2 ys H' xs' (cC (M.into w G pr N) σ2 H2) G2 w2 pr bs2)
 (hs:w'.heap.size=w2.heap.size)(ho:w'.os=w2.os)(htp:w'.tape=w2.tape)(hu:w'.output=w2.output)(YG:∀k,(∀r b o n,pr r=some (b,o,n)->k≠b)->w'.heap[k]?=w2.heap[k]?)
 (Yf:∀r b o n,pr r=some (b,o,n)->w'.heap[b]?=w.heap[b]?):∃G',Inv M σ H' xs' ts w' G'/\gY M w σ H G w' σ H' G'/\G'.β=G.β:=by
 have WU:=h2.fram
 let f:Nat->Nat->Prop:=λj k=>(j<H2.length/\G2.φ 1 j k)\/∃r b o n t,pr r=some (b,o,n)/\t<n/\j=bs2 r+t/\G2.φ r t k
 have hfφ:∀j k,f j k->∃r o,G2.φ r o k:=by
  rintro j k (⟨_,h⟩|⟨r,b,o,n,t,_,_,_,h⟩)
  ·exact⟨_,_,h⟩
  ·exact⟨_,_,h⟩
 have hβ2:=λr b o n h=>(WU.par r b o n h).1
 have Z5:∀r b o n,pr r=some (b,o,n)->r≠1:=λr b o n h e=>by have:=(hh.even r b o n h).1;omega
 have hφw:∀r o k,G2.φ r o k->w'.heap[k]?=w2.heap[k]?:=λr o k h=>YG k λr' b o' n hp e=>h2.core.boxf r' b o' n (hβ2 _ _ _ _ hp) _ _ (e▸h);have XU:∀k,G2.F (M.into w G pr N).A k->w'.heap[k]?=w2.heap[k]?:=λk h=>YG k λr' b o' n hp e=>h.2.2 r' b o' n (hβ2 _ _ _ _ hp) e
 obtain⟨G',a1,a2,a3,_⟩:=hI.rehandL (w':=w') (H':=H') (xs':=xs') (f:=f) (Fx:=G2.F (M.into w G pr N).A)
  (λk hk hn=>by
   by_cases hp:∃r b o n,pr r=some (b,o,n)/\k=b
   ·obtain⟨r,b,o,n,hp,rfl⟩:=hp;exact Yf r k o n hp
   ·have hp':∀r b o n,pr r=some (b,o,n)->k≠b:=λr b o n h e=>hp ⟨r,b,o,n,h,e⟩;rw[YG k hp']
    exact WU.old k hk (λ⟨j,hj⟩=>hn j hj) hp')
  (by rw[hs];exact WU.size) (ho.trans WU.os) (htp.trans WU.tape) (hu.trans WU.output) Z'.len
  (λj k h=>by
   refine⟨?_,?_⟩
   ·rcases h with⟨h,_⟩|⟨r,b,o,n,t,hp,ht,rfl,_⟩
    ·exact(Z'.low j h).1
    ·exact(Z'.cells r b o n hp t ht).1
   ·obtain⟨r,o,hφ⟩:=hfφ j k h
    exact WU.own r o k hφ)
  (λj j' k h h'=>by
   rcases h with⟨h1,h3⟩|⟨r,b,o,n,t,hp,ht,rfl,h3⟩
   ·rcases h' with⟨k1,k3⟩|⟨r',b',o',n',t',hp',YZ,rfl,k3⟩
    ·exact(h2.core.dis _ _ _ _ k h3 k3).2
    ·exact absurd (h2.core.dis _ _ _ _ k h3 k3).1.symm (Z5 _ _ _ _ hp')
   ·rcases h' with⟨k1,k3⟩|⟨r',b',o',n',t',hp',YZ,rfl,k3⟩
    ·exact absurd (h2.core.dis _ _ _ _ k h3 k3).1 (Z5 _ _ _ _ hp)
    ·obtain⟨e1,e2⟩:=h2.core.dis _ _ _ _ k h3 k3
     rw[e1,e2])
  (λk h=>⟨h.1,λj hf=>by obtain⟨r,o,hφ⟩:=hfφ j k hf;exact h.2.1 r o hφ⟩)
  (λj hj=>by
   rcases Z'.cover j hj with h|⟨r,b,o,n,t,hp,ht,rfl⟩
   ·obtain⟨_,e1,e2⟩:=Z'.low j h
    have Yy:∀k,f j k↔G2.φ 1 j k:=λk=>by
     constructor
     ·rintro(⟨_,h⟩|⟨r,b,o,n,t,hp,ht,e,_⟩)
      ·exact h
      ·have:=(Z'.cells r b o n hp t ht).2.1;omega
     ·exact λhk=>.inl ⟨h,hk⟩
    by_cases hd:H2[j]=.dead
    ·left;refine⟨e1.trans hd,λk hk=>?_⟩;refine h2.phi_dead (r:=1) (o:=j) ?_ k ((Yy k).1 hk);rw[show(1:Nat)=(M.into w G pr N).hr from rfl,jD];simp[h,hd]
    ·right;have:=h2.hand_own h hd;rw[e1,e2];exact(this.frame (λk hk=>hφw _ _ k hk) (λk hk _=>XU k hk) λk hk _=>hk).refp λk=>(Yy k).symm
   ·obtain⟨h1,h3,h4,h5⟩:=Z'.cells r b o n hp t ht
    have Yy:∀k,f (bs2 r+t) k↔G2.φ r t k:=λk=>by
     constructor
     ·rintro(⟨h,_⟩|⟨r',b',o',n',t',hp',YZ,e,hk⟩)
      ·omega
      ·have:=Z'.apart _ _ _ _ _ _ _ _ hp hp' _ _ ht YZ e
       simp_all
     ·exact λhk=>.inr ⟨r,b,o,n,t,hp,ht,rfl,hk⟩
    rw[h4,h5]
    rcases h2.core.cell r t with⟨c1,c2⟩|c1
    ·left;exact⟨c1,λk hk=>c2 k ((Yy k).1 hk)⟩
    ·right
     exact(c1.frame (λk hk=>hφw _ _ k hk) (λk hk _=>XU k hk) λk hk _=>hk).refp λk=>(Yy k).symm)
 exact⟨G',a1,a2,a3⟩
end
def nh:TV->Bool
 |.v _=>true
 |.sl _=>true
 |.ip _=>true
 |.ow []=>true
 |.fn _ l=>l.all zW
 |.agg l=>l.all λt=>match t with|.v _=>true|.sl _=>true|_=>false
 |_=>false
def LY:TV->Bool
 |.pk _ _=>true
 |.ow []=>true
 |_=>false
def argV(x:Option Nat×Opd):SP TV:=(opd x.2).bind λt=>if x.1==some 0&&LY t then .ret t else match t with
 |.ip cs=>.ret (.ip cs)
 |.fn f cap=>.ret (.fn f cap)
 |.ptr p vs=>.ret (.ptr p vs)
 |t=>(takeV false t).bind λl=>.ret (lE l.2 (l.1.map TV.imm))
def argVs:List (Option Nat×Opd)->SP (List TV)
 | []=>.ret []
 |x::r=>(argV x).bind λt=>(argVs r).bind λl=>.ret (t::l)
def takeOwns:Nat->List (Option Nat×TV)->SP (List (Nat×TV))
 |_,[]=>.ret []
 |i,(some 0,.pk p vs)::r=>(take1 true (.pk p vs)).bind λt=>if jK t then(takeOwns (i+1) r).bind λq=>.ret ((i,t)::q)else .fail
 |i,_::r=>takeOwns (i+1) r
structure GP where
 i:Nat
 p:cj
 vs:List Nat
 cells:List TV
def yo(p:cj):Nat->SP (List TV)
 |0=>.ret []
 |n+1=>(getPl p).bind λt=>(peek1 p t).bind λt'=>(take1 true t').bind λt2=>match n with
  |0=>.ret [t2]
  |_=>if p.fits 1 then(yo (p.add 1) n).bind λr=>.ret (t2::r)else .fail
def cj.base(p:cj):cj:=⟨p.root,p.off,[]⟩
def Kn(p:cj)(n:Nat):Nat:=match p.hops with
 | []=>n
 |_::_=>1
def rooted(p:cj):SP Unit:=match p.hops with
 | []=>.ret ()
 |_::_=>.rdT ((p.root-2)/2) λt=>match t with
  |.ptr q ws=>if q.root==p.root&&q.hops.isEmpty then chk q 0 ws else .fail
  |_=>.fail
def grabs:Nat->List (Option Nat×TV)->SP (List GP)
 |_,[]=>.ret []
 |i,(some n,.ptr p vs)::r=>(chk p p.hops.length vs).bind λ_=>(rooted p).bind λ_=>(yo p.base (Kn p n)).bind λl=>(grabs (i+1) r).bind λq=>.ret (⟨i,p.base,vs.take 1,l⟩::q)
 |i,(some 0,.pk _ _)::r=>grabs (i+1) r
 |i,(_,t)::r=>if nh t then grabs (i+1) r else .fail
def touch(p:cj):SP Unit:=.rdC p.root p.off λtv=>.wrC p.root p.off tv (.ret ())
def rechk:List GP->SP Unit
 | []=>.ret ()
 |g::r=>(chk g.p g.p.hops.length g.vs).bind λ_=>(touch g.p).bind λ_=>rechk r
def jW:List Nat->Bool
 | []=>true
 |x::r=>!r.contains x&&jW r
def argT(i:Nat):TV->TV
 |.ptr p _=>.ptr ⟨2*i+2,0,p.hops⟩ (List.replicate (p.hops.length+1) 0)
 |.pk _ _=>.pk ⟨2*i+3,0,[]⟩ [0,0]
 |t=>t
def argTs:Nat->List TV->List TV
 |_,[]=>[]
 |i,t::r=>argT i t::argTs (i+1) r
def eC{α:Type}:Nat->List α->List (Nat×α)
 |_,[]=>[]
 |i,t::r=>(i,t)::eC (i+1) r
def mkSt(vals:List TV)(pts:Pts):St:=⟨eC 0 vals,pts,[]⟩
def BG:TV->Bool
 |.dead=>true
 |_=>false
def putBack:List (GP×List TV)->SP Unit
 | []=>.ret ()
 |(g,l)::r=>(putBack r).bind λ_=>if l.length=g.cells.length&&l.all λt=>!BG t then putL g.p l else .fail
def gA:List RSh->List TV->List TV
 | [],_=>[]
 |.one::r,l=>l.headD .dead::gA r l.tail
 |.agg n::r,l=>.agg (l.take n)::gA r (l.drop n)
 |.ptr::r,l=>.dead::gA r l
def oA(sh:List RSh)(l:List TV):TV:=
 match gA sh l with
 | [x]=>x
 |l=>.tup l
def l7:List RSh->Nat->Bool
 | [],n=>n==0
 |.one::r,n=>decide (0<n)&&l7 r (n-1)
 |.agg m::r,n=>decide (m<=n)&&l7 r (n-m)
 |.ptr::_,_=>false
def landR(dst:Option Nat)(res:tD):SP Unit:=
 match dst with
 |some d=>(names d res.cells).bind λl=>wr d (oA res.sh l)
 |none=>.ret ()
def isP(r:tD):Bool:=match r.sh,r.cells with
 |.ptr::_,.ptr _ _::_=>true
 |_,_=>false
def landP(dst:Option Nat)(q:List GP)(cells:List TV):SP Unit:=
 match dst with
 |none=>.ret ()
 |some d=>match cells,q with
  |.ptr pl _::l,[g]=>if pl.root==2*g.i+2&&g.p.hops.isEmpty then(rdVs (md g.p.root (g.p.off+pl.off) pl.hops.length)).bind λvs=>wr d (Bp (.ptr ⟨g.p.root,g.p.off+pl.off,pl.hops⟩ vs) l)else .fail
  |_,_=>.fail
def callV(F:dy)(dst:Option Nat)(f:FuncId)(ns:List (Option Nat))(vals:List TV):SP Unit:=
 (takeOwns 0 (ns.zip vals)).bind λow=>(grabs 0 (ns.zip vals)).bind λq=>(rechk q).bind λ_=>
  if jW (q.map (·.p.root))&&q.all (λg=>decide (0<g.cells.length))then
   (g8 (F f (argTs 0 vals) (q.map (λg=>(2*g.i+2,g.cells))++ow.map λx=>(2*x.1+3,[x.2])))).bind λr=>
    if r.2.map (·.1)=q.map (λg=>2*g.i+2)++ow.map (λx=>2*x.1+3)&&(isP r.1||l7 r.1.sh r.1.cells.length)then(putBack (q.zip (r.2.map (·.2)))).bind λ_=>if isP r.1 then landP dst q r.1.cells else landR dst r.1 else .fail
  else .fail
inductive BxC where
 |arg (i:Nat)
 |val (x:Value)
structure Env where
 box:FuncId->Option (Nat×List BxC)
 ps:FuncId->List (Option Nat)
def bxT(vals:List TV):BxC->TV
 |.arg i=>vals.getD i .dead
 |.val x=>.v x
def bxV(asq:List Value):BxC->Value
 |.arg i=>asq.getD i undef
 |.val x=>x
def evBox(dst:Option Nat)(tm:List BxC)(vals:List TV):SP Unit:=
 match dst with
 |some d=>(takeL false (tm.map (bxT vals))).bind λl=>.new (2*d+2) l (.rdV (2*d+2,0,0) λg=>wr d (.ptr ⟨2*d+2,0,[]⟩ [g]))
 |none=>.fail
def Io(E:Env)(f:FuncId)(n m:Nat):List (Option Nat):=(List.range m).map λk=>(E.ps f).getD (n+k) none
def see1:TV->SP TV
 |.v x=>.ret (.v x)
 |.sl c=>.ret (.sl c)
 |.ow []=>.ret (.sl [])
 |.pk p vs=>(chk p (p.hops.length+1) vs).bind λ_=>.rdC p.root p.off λtv=>match cw tv p.hops with|some (.ow c)=>.ret (TV.ow c).imm|_=>.fail
 |_=>.fail
def seeL:List TV->SP (List TV)
 | []=>.ret []
 |t::r=>(see1 t).bind λt'=>(seeL r).bind λl=>.ret (t'::l)
def seeA:TV->SP TV
 |.agg l=>(seeL l).bind λl'=>.ret (.agg l')
 |.ip cs=>.ret (.ip cs)
 |.fn f cap=>if cap.all zW then .ret (.fn f cap)else .fail
 |t=>see1 t
def seeAs:List Opd->SP (List TV)
 | []=>.ret []
 |x::r=>(opd x).bind λt=>(seeA t).bind λt'=>(seeAs r).bind λl=>.ret (t'::l)
def callB(F:dy)(dst:Option Nat)(f:FuncId)(vals:List TV):SP Unit:=
 (g8 (F f vals [])).bind λr=>if r.2.length=0&&r.1.cells.all yY&&l7 r.1.sh r.1.cells.length then(match dst with|some d=>wr d (oA r.1.sh r.1.cells)|none=>.ret ())else .fail
def evCall(E:Env)(F:dy)(dst:Option Nat):TOp->SP Unit
 |.call k (.f f) args=>
  if k then(argVs args).bind λvals=>match E.box f with
   |some x=>if vals.length=x.1 then evBox dst x.2 vals else .fail
   |none=>callV F dst f (args.map (·.1)) vals
  else(seeAs (args.map (·.2))).bind λvals=>callB F dst f vals
 |.call _ (.t i) args=>.rdT i λt=>match t with
  |.fn f caps=>(argVs args).bind λvals=>callV F dst f (args.map (·.1)++Io E f args.length caps.length) (vals++caps)
  |_=>.fail
 |_=>.fail
section
variable {P:Program} {M:Fm} {σ σ':St} {H:List TV} {xs:List Value} {ts:Array Value} {w:World} {G:Gh} {a:Act} {o:Oper}
theorem Ks(hI:Inv M σ [] [] a.tmps w G){x:Option Nat×Opd}{x':Operand}(hx:bZ x'=some x.2){t:TV}(hr:(argV x).run σ=some (t,σ')):
 ∃G',ji M w a.tmps σ [] G σ' [] [] G'/\TmR w (G'.F M.A) σ'.v (cC M σ' []) G' t (a.eval x'):=by
 unfold argV at hr;obtain⟨t0,σ1,h1,h2⟩:=bS hr;obtain⟨rfl,ht⟩:=cW hI.tmr hx h1
 have UF:∀(l:List TV×Bool)(σ2:St),(takeV false t0).run σ1=some (l,σ2)->t=lE l.2 (l.1.map TV.imm)->σ'=σ2->∃G',ji M w a.tmps σ1 [] G σ' [] [] G'/\TmR w (G'.F M.A) σ'.v (cC M σ' []) G' t (a.eval x'):=by
  rintro l σ2 h3 rfl rfl;obtain⟨xs,G1,hg,hsh,hok,Zs⟩:=A0 hI ht h3;obtain⟨G2,ZH,ZG⟩:=hg.1.dropImm (qf hok);refine⟨G2,hg.trans ZH,?_⟩;have hlen:=hg.1.hand
  rcases hsh with⟨e1,e2⟩|⟨e1,y,e2,e3⟩
  ·rw[e1,e2];simp only[lE,if_true];refine .agg (by simp[hlen]) λj hj=>?_
   have ZU:j<l.1.length:=by simpa using hj
   have:=ZG j ZU;simp only[List.getElem_map]
   have e:xs.toArray.getD j undef=xs.getD j undef:=by simp
   rw[e];exact this.toTm
  ·rw[e1,e3];subst e2
   have TM:l.1.length=1:=by simpa using hlen
   obtain⟨t1,U3⟩:∃t1,l.1=[t1]:=List.length_eq_one_iff.1 TM;have:=ZG 0 (by omega);simp only[U3,List.getElem_cons_zero,List.getD_cons_zero]at this;simp only[U3,lE,List.map_cons,List.map_nil,List.headD_cons];exact this.toTm
 have XR:t=t0->σ'=σ1->∃G',ji M w a.tmps σ1 [] G σ' [] [] G'/\TmR w (G'.F M.A) σ'.v (cC M σ' []) G' t (a.eval x'):=by
  rintro rfl rfl;exact⟨G,ji.refl hI,ht⟩
 split at h2
 ·simp only[SP.run,oSJ,oPJ]at h2;exact XR h2.1.symm h2.2.symm
 cases t0 with
 |ip cs=>
  simp only[SP.run,oSJ,oPJ]at h2;exact XR h2.1.symm h2.2.symm
 |fn f cap=>
  simp only[SP.run,oSJ,oPJ]at h2;exact XR h2.1.symm h2.2.symm
 |ptr p vs=>
  simp only[SP.run,oSJ,oPJ]at h2;exact XR h2.1.symm h2.2.symm
 |_=>
  simp only at h2;obtain⟨l,σ2,h3,h4⟩:=bS h2;simp only[SP.run,oSJ,oPJ]at h4;exact UF l σ2 h3 h4.1.symm h4.2.symm
theorem B8:∀{l:List (Option Nat×Opd)}{l':List Operand}{Xz:List TV}{σ σ':St}{G:Gh},Inv M σ [] [] a.tmps w G->l'.length=l.length->(∀j (h:j<l.length)(h':j<l'.length),bZ l'[j]=some l[j].2)->(argVs l).run σ=some (Xz,σ')->
 ∃G',ji M w a.tmps σ [] G σ' [] [] G'/\Xz.length=l.length/\∀j (h:j<Xz.length)(h':j<l'.length),TmR w (G'.F M.A) σ'.v (cC M σ' []) G' Xz[j] (a.eval l'[j]):=by
 intro l
 induction l with
 |nil=>
  intro l' Xz σ σ' G hI hl hc hr;obtain⟨rfl,rfl⟩:=hr;exact⟨G,ji.refl hI,rfl,λj h=>by simp at h⟩
 |cons x l ih=>
  intro l' Xz σ σ' G hI hl hc hr
  cases l' with
  |nil=>simp at hl
  |cons x' l'=>
   simp only[argVs]at hr;obtain⟨t,σ1,h1,h2⟩:=bS hr;obtain⟨r,σ2,h3,h4⟩:=bS h2;obtain⟨rfl,rfl⟩:=h4;obtain⟨G1,Z0,U3⟩:=Ks hI (by have:=hc 0 (by simp) (by simp);simpa using this) h1;obtain⟨G2,ZH,e,Sp⟩:=ih (l':=l') Z0.1 (by simpa using hl) (λj h h'=>by have:=hc (j+1) (by simpa using h) (by simp_all);simpa using this) h3;refine⟨G2,Z0.trans ZH,by simp[e],λj h h'=>?_⟩
   cases j with
   |zero=>exact ZH.tm U3
   |succ j=>exact Sp j (by simpa using h) (by simp_all)
end
section
variable {P:Program} {M:Fm} {σ σ':St} {H:List TV} {xs:List Value} {ts:Array Value} {w:World} {G:Gh} {a:Act} {o:Oper}
theorem Ci{t t' t2:TV}{p:cj}{y:TV×St}(hp:(peek1 p t).run σ=some (t',σ'))(hr:(take1 true t').run σ=some y):gG y.2.v p.root p.off p.hops.length=gG σ.v p.root p.off p.hops.length:=by
 cases t with
 |v x=>
  obtain⟨rfl,rfl⟩:=hp;simp only[take1,SP.run,oSJ]at hr;rw[<- hr]
 |sl c=>
  obtain⟨rfl,rfl⟩:=hp;simp only[take1,SP.run,oSJ]at hr;rw[<- hr]
 |ow c=>
  simp only[peek1]at hp;obtain⟨vs,σ1,h1,h2⟩:=bS hp;obtain⟨rfl,_⟩:=h2;obtain⟨_,σ2,h3,h4⟩:=bS hr;have e1:σ2=σ:=(cq h3).1;subst e1;simp only[SP.run]at h4;split at h4
  ·simp only[if_true]at h4;obtain⟨l,hl,ho,h5⟩:=cB h4;simp only[SP.run,oSJ]at h5;rw[ir]
   have hv:∀q,y.2.v q=σ2.v q+if(p.root,p.off,p.hops.length+1)=q then 1 else 0:=λq=>by rw[<- h5];exact eF σ2.vr _ q
   refine⟨by simp_all,λd hd=>?_⟩;rw[hv,oIN]
   ·omega
   ·intro e
    simp_all
  ·simp[SP.run]at h4
 |_=>simp[peek1,SP.run]at hp
theorem H4:∀{n:Nat}{p:cj}{ad:Addr}{l:List TV}{σ σ':St}{H:List TV}{xs:List Value}{G:Gh},Inv M σ H xs ts w G->p.root≠1->G.addr w p=some ad->(yo p n).run σ=some (l,σ')->
 l.length=n/\∃us G',ji M w ts σ H G σ' (H++l) (xs++us) G'/\us.length=n/\(∀j (h:j<us.length),w.cell? ⟨ad.block,ad.off+j,none⟩=some us[j]/\w.frozen? ⟨ad.block,ad.off+j,none⟩=false)/\∀j (h:j<l.length),cZ l[j]=true\/jK l[j]=true:=by
 intro n
 induction n with
 |zero=>
  intro p ad l σ σ' H xs G hI h1 ha hr;obtain⟨rfl,rfl⟩:=hr;exact⟨rfl,[],G,by simpa using ji.refl hI,rfl,λj h=>by simp at h,λj h=>by simp at h⟩
 |succ n ih=>
  intro p ad l σ σ' H xs G hI h1 ha hr;simp only[yo]at hr;obtain⟨t,σ1,h2,h3⟩:=bS hr;obtain⟨e1,hg⟩:=dO h2;have e1:σ1=σ:=e1;subst e1;obtain⟨t',σ2,h4,h5⟩:=bS h3;have hd:=mO h4;obtain⟨hB,u,fp,YP,hown,hv⟩:=hI.named h1 ha hg hd;obtain⟨rfl,YZ⟩:=oF hI h1 hg hown hv h4;obtain⟨t2,σ3,h6,h7⟩:=bS h5;have Xw:=Ci (t2:=t2) h4 h6;obtain⟨G1,Z0,Zs⟩:=fr hI YZ h6
  have TI:cw (cC M σ2 H p.root p.off) p.hops=some t:=by rw[cx (by exact h1)];exact hg
  obtain⟨u0,Zu,Zf,hcu0,XD,_⟩:=hI.core.set p hB TI;obtain⟨_,SY,_⟩:=Z0.2.2.1.ptr p ad t h1 Xw ha TI
  have Y0:(⟨ad.block,ad.off+0,none⟩:Addr)=ad:=by obtain⟨b,o,s⟩:=ad;simp only at Zf;subst Zf;rfl
  have hcell:=is h6
  cases n with
  |zero=>
   obtain⟨rfl,rfl⟩:=h7;refine⟨rfl,[u],G1,Z0,rfl,λj h=>?_,λj h=>?_⟩
   ·obtain rfl:j=0:=by simp at h;omega
    rw[Y0];exact⟨YP,XD⟩
   ·obtain rfl:j=0:=by simp at h;omega
    exact hcell
  |succ n=>
   simp only at h7;split at h7
   ·obtain⟨r,σ4,h8,h9⟩:=bS h7;obtain⟨rfl,rfl⟩:=h9;obtain⟨e2,us,G2,ZH,e3,e4,e5⟩:=ih Z0.1 (by rw[dC];exact h1) (kg 1 SY) h8;refine⟨by simp[e2],u::us,G2,by simpa using Z0.trans ZH,by simp[e3],λj h=>?_,λj h=>?_⟩
    ·cases j with
     |zero=>rw[Y0];exact⟨YP,XD⟩
     |succ j=>
      have:=e4 j (by simpa using h);simp only[List.getElem_cons_succ];rw[show ad.off+(j+1)=ad.off+1+j by omega];exact this
    ·cases j with
     |zero=>exact hcell
     |succ j=>exact e5 j (by simpa using h)
   ·simp[SP.run]at h7
theorem Db{r o:Nat}{c:List (List TV)}{l:List TV}(hc:σ.c r o=.ow c)(h:(yo ⟨r,o,[]⟩ 1).run σ=some (l,σ')):l=[.ow c]:=by
 simp only[yo]at h;obtain⟨t,σ1,h1,h2⟩:=bS h;obtain⟨e1,hg⟩:=dO h1;subst e1;simp only[hc,cw,oSJ]at hg;subst hg;obtain⟨t',σ2,h3,h4⟩:=bS h2;obtain⟨vs,σ3,h5,h6⟩:=bS h3;obtain⟨rfl,rfl⟩:=h6;rw[rn]at h5
 injection h5 with h5
 injection h5 with _ h5
 subst h5;obtain⟨t2,σ4,h7,h8⟩:=bS h4;simp only[SP.run,oSJ,oPJ]at h8;rw[<- h8.1];obtain⟨_,σ5,h9,ZI⟩:=bS h7;have e2:σ5=σ1:=(cq h9).1;subst e2;simp only[SP.run,hc,cw,if_true]at ZI;split at ZI
 ·simp_all
 ·cases ZI
theorem EL(hI:Inv M σ H xs ts w G){p:cj}(h:(rooted p).run σ=some ((),σ')):σ'=σ/\(p.hops≠[]->∃b o n,G.β p.root=some (b,o,n)):=by
 obtain⟨r,o,hops⟩:=p
 cases hops with
 |nil=>
  simp only[rooted,SP.run,oSJ,oPJ,true_and]at h
  simp_all
 |cons hp hs=>
  simp only[rooted,SP.run]at h;have ht:=hI.tmr ((r-2)/2)
  cases hq:σ.t ((r-2)/2)with
  |ptr q ws=>
   rw[hq]at h ht;simp only at h;split at h
   ·rename_i hc;simp at hc;have e1:σ'=σ:=(cq h).1;have e2:=(cq h).2;refine⟨e1,λ_=>?_⟩
    cases ht with
    |ptr V0 h0 hv hok=>
     obtain⟨_,ad,t,ha,_,_⟩:=hok (by rw[hc.2];exact e2);unfold Gh.addr at ha;rw[hc.2]at ha;rw[<- hc.1]
     cases hb:G.β q.root with
     |none=>rw[hb]at ha;simp at ha
     |some y=>obtain⟨b,o,n⟩:=y;exact⟨b,o,n,rfl⟩
   ·simp[SP.run]at h
  |_=>rw[hq]at h;simp[SP.run]at h
inductive qi (w:World):Nat->List TV->List Value->List (GP×Addr)->List Value->Prop
 |nil (i:Nat):qi w i [] [] [] []
 |ptr {i:Nat} {p:cj} {hp:List Hop} {vs vs0:List Nat} {cells:List TV} {ad ad0:Addr} {u:List Value} {ts:List TV} {xs:List Value} {K:List (GP×Addr)} {us:List Value} (hr:p.root≠1) (hb:p.hops=[]) (hs:ad.spot=none) (h0:hp=[]->ad0=ad)
  (hh:hp≠[]->cM w ((w.cell? ⟨ad.block,ad.off,none⟩).getD undef) hp=some ad0/\∃t,cw (cells.getD 0 .dead) hp=some t)(hu:u.length=cells.length)
  (hc:∀j (h:j<u.length),w.cell? ⟨ad.block,ad.off+j,none⟩=some u[j]/\w.frozen? ⟨ad.block,ad.off+j,none⟩=false)(hok:∀j (h:j<cells.length),cZ cells[j]=true\/jK cells[j]=true)
  (h:qi w (i+1) ts xs K us):qi w i (.ptr ⟨p.root,p.off,hp⟩ vs0::ts) (.pointer (some ad0)::xs) ((⟨i,p,vs,cells⟩,ad)::K) (u++us)
 |arg {i:Nat} {t:TV} {x:Value} {ts:List TV} {xs:List Value} {K:List (GP×Addr)} {us:List Value} (ha:nh t=true) (h:qi w (i+1) ts xs K us):qi w i (t::ts) (x::xs) K us
 |own {i:Nat} {p:cj} {vs:List Nat} {x:Value} {ts:List TV} {xs:List Value} {K:List (GP×Addr)} {us:List Value} (h:qi w (i+1) ts xs K us):qi w i (.pk p vs::ts) (x::xs) K us
inductive Gq:Nat->List (Option Nat×TV)->List Value->List (Nat×TV)->List Value->Prop
 |nil (i:Nat):Gq i [] [] [] []
 |own {i:Nat} {p:cj} {vs:List Nat} {l:List (Option Nat×TV)} {x:Value} {xs:List Value} {c:List (List TV)} {ow:List (Nat×TV)} {zs:List Value} (h:Gq (i+1) l xs ow zs):Gq i ((some 0,.pk p vs)::l) (x::xs) ((i,.ow c)::ow) (x::zs)
 |skip {i:Nat} {y:Option Nat×TV} {l:List (Option Nat×TV)} {x:Value} {xs:List Value} {ow:List (Nat×TV)} {zs:List Value} (h:Gq (i+1) l xs ow zs):Gq i (y::l) (x::xs) ow zs
theorem vn{i:Nat}{y:Option Nat×TV}{l:List (Option Nat×TV)}(hn:∀p vs,y≠(some 0,.pk p vs)):takeOwns i (y::l)=takeOwns (i+1) l:=by
 have ⟨n,t⟩:=y
 cases t with
 |pk p vs=>
  cases n with
  |none=>rfl
  |some n=>
   cases n with
   |zero=>simp_all
   |succ n=>rfl
 |_=>cases n with
  |none=>rfl
  |some n=>cases n<;>rfl
theorem zf:∀{l:List (Option Nat×TV)}{asq:List Value}{i:Nat}{ow:List (Nat×TV)}{σ σ':St}{H:List TV}{xs:List Value}{G:Gh},Inv M σ H xs ts w G->asq.length=l.length->(∀j (h:j<l.length)(h':j<asq.length),TmR w (G.F M.A) σ.v (cC M σ H) G l[j].2 asq[j])->(takeOwns i l).run σ=some (ow,σ')->
 ∃zs G',ji M w ts σ H G σ' (H++ow.map (·.2)) (xs++zs) G'/\Gq i l asq ow zs/\∀(j:Nat)(p:cj)(vs:List Nat),l[j]?=some (some 0,TV.pk p vs)->∃x∈ow,x.1=i+j:=by
 intro l
 induction l with
 |nil=>
  intro asq i ow σ σ' H xs G hI hl _ hr;obtain⟨rfl,rfl⟩:=hr;have:asq=[]:=oEN (by simpa using hl);subst this;exact⟨[],G,by simpa using ji.refl hI,.nil i,λj p vs h=>by simp at h⟩
 |cons y l ih=>
  intro asq i ow σ σ' H xs G hI hl ht hr
  cases asq with
  |nil=>simp at hl
  |cons x asq=>
   have Ta:=ht 0 (by simp) (by simp);simp only[List.getElem_cons_zero]at Ta;by_cases hp:∃p vs,y=(some 0,.pk p vs)
   ·obtain⟨p,vs,rfl⟩:=hp;simp only[takeOwns]at hr;obtain⟨t,σ1,h1,h2⟩:=bS hr;split at h2
    case isFalse=>simp[SP.run]at h2
    rename_i how;obtain⟨q,σ2,h3,h4⟩:=bS h2;obtain⟨rfl,rfl⟩:=h4
    obtain⟨c,rfl⟩:∃c,t=.ow c:=by cases t<;>simp[jK]at how;exact⟨_,rfl⟩
    obtain⟨G1,Z0,_⟩:=fr hI Ta h1;obtain⟨zs,G2,ZH,k1,k2⟩:=ih (asq:=asq) Z0.1 (by simpa using hl) (λj h h'=>Z0.tm (by have:=ht (j+1) (by simpa using h) (by simpa using h');simpa only [List.getElem_cons_succ]using this)) h3;refine⟨x::zs,G2,by simpa[List.append_assoc]using Z0.trans ZH,.own k1,λj p vs h=>?_⟩
    cases j with
    |zero=>exact⟨_,List.mem_cons_self,rfl⟩
    |succ j=>
     obtain⟨z,h5,h6⟩:=k2 j p vs (by simpa using h);exact⟨z,List.mem_cons_of_mem _ h5,by omega⟩
   ·have hn:=λp vs e=>hp ⟨p,vs,e⟩;rw[vn hn]at hr;obtain⟨zs,G2,ZH,k1,k2⟩:=ih (asq:=asq) hI (by simpa using hl) (λj h h'=>by have:=ht (j+1) (by simpa using h) (by simpa using h');simpa only [List.getElem_cons_succ]using this) hr;refine⟨zs,G2,ZH,.skip k1,λj p vs h=>?_⟩
    cases j with
    |zero=>exact absurd (by simpa using h) (hn p vs)
    |succ j=>
     obtain⟨z,h5,h6⟩:=k2 j p vs (by simpa using h);exact⟨z,h5,by omega⟩
theorem HW:∀{l:List (Option Nat×TV)}{i:Nat}{q:List GP}{σ σ':St},(grabs i l).run σ=some (q,σ')->∀(j:Nat)(n:Option Nat)(p:cj)(vs:List Nat),l[j]?=some (n,TV.pk p vs)->n=some 0:=by
 intro l
 induction l with
 |nil=>simp_all
 |cons y l ih=>
  intro i q σ σ' hr j n p vs h;obtain⟨m,t⟩:=y
  cases j with
  |zero=>
   simp at h;obtain⟨rfl,rfl⟩:=h
   cases m with
   |none=>simp[grabs,nh,SP.run]at hr
   |some m=>
    cases m with
    |zero=>rfl
    |succ m=>simp[grabs,nh,SP.run]at hr
  |succ j=>
   have hj:l[j]?=some (n,.pk p vs):=by simpa using h
   have step:∀{σ1 σ2:St}{q1:List GP},(grabs (i+1) l).run σ1=some (q1,σ2)->n=some 0:=λh1=>ih h1 j n p vs hj
   have arg:((if nh t then grabs (i+1) l else .fail:SP (List GP))).run σ=some (q,σ')->n=some 0:=by
    intro h1;split at h1
    ·exact step h1
    ·simp[SP.run]at h1
   cases t with
   |ptr p2 QG=>
    cases m with
    |none=>exact arg hr
    |some m=>
     obtain⟨_,σ1,h1,h2⟩:=bS hr;obtain⟨_,σ0,_,h2⟩:=bS h2;obtain⟨cells,σ2,h3,h4⟩:=bS h2;obtain⟨q1,σ3,h5,h6⟩:=bS h4;exact step h5
   |pk p2 QG=>
    cases m with
    |none=>exact arg hr
    |some m=>
     cases m with
     |zero=>exact step hr
     |succ m=>exact arg hr
   |_=>cases m with
    |none=>exact arg hr
    |some m=>cases m<;>exact arg hr
theorem H3:∀{l:List (Option Nat×TV)}{asq:List Value}{i:Nat}{q:List GP}{σ σ':St}{H:List TV}{xs:List Value}{G:Gh},Inv M σ H xs ts w G->asq.length=l.length->(∀j (h:j<l.length)(h':j<asq.length),TmR w (G.F M.A) σ.v (cC M σ H) G l[j].2 asq[j])->(grabs i l).run σ=some (q,σ')->
 ∃us G' K,ji M w ts σ H G σ' (H++q.flatMap (·.cells)) (xs++us) G'/\K.map (·.1)=q/\qi w i (l.map (·.2)) asq K us/\∀x∈K,TmR w (G'.F M.A) σ'.v (cC M σ' (H++q.flatMap (·.cells))) G' (.ptr x.1.p x.1.vs) (.pointer (some x.2)):=by
 intro l
 induction l with
 |nil=>
  intro asq i q σ σ' H xs G hI hl _ hr;obtain⟨rfl,rfl⟩:=hr;have:asq=[]:=oEN (by simpa using hl);subst this;exact⟨[],G,[],by simpa using ji.refl hI,rfl,.nil i,λx hx=>by simp at hx⟩
 |cons x l ih=>
  intro asq i q σ σ' H xs G hI hl ht hr
  cases asq with
  |nil=>simp at hl
  |cons y asq=>
   obtain⟨n,t⟩:=x;have Ta:=ht 0 (by simp) (by simp);simp only[List.getElem_cons_zero]at Ta
   have ZK:∀{σ1:St}{H1:List TV}{xs1:List Value}{G1:Gh},ji M w ts σ H G σ1 H1 xs1 G1->∀j (h:j<l.length)(h':j<asq.length),TmR w (G1.F M.A) σ1.v (cC M σ1 H1) G1 l[j].2 asq[j]:=λhg j h h'=>
    hg.tm (by have:=ht (j+1) (by simpa using h) (by simpa using h');simpa only [List.getElem_cons_succ]using this)
   have other:(∀p vs,t≠.ptr p vs)->(∀p vs,(n,t)≠(some 0,.pk p vs))->∃us G' K,ji M w ts σ H G σ' (H++q.flatMap (·.cells)) (xs++us) G'/\K.map (·.1)=q/\qi w i (((n,t)::l).map (·.2)) (y::asq) K us/\∀x∈K,TmR w (G'.F M.A) σ'.v (cC M σ' (H++q.flatMap (·.cells))) G' (.ptr x.1.p x.1.vs) (.pointer (some x.2)):=by
    intro hne TP
    have X2:(if nh t then grabs (i+1) l else .fail:SP (List GP)).run σ=some (q,σ'):=by
     cases n with
     |none=>cases t<;>exact hr
     |some n=>cases n<;>cases t<;>first|exact absurd rfl (hne _ _)|exact absurd rfl (TP _ _)|exact hr
    split at X2
    ·rename_i UI;obtain⟨us,G',K,e1,e2,e3,e4⟩:=ih (asq:=asq) hI (by simpa using hl) (ZK (ji.refl hI)) X2;exact⟨us,G',K,e1,e2,.arg UI e3,e4⟩
    ·simp[SP.run]at X2
   by_cases hp:∃p vs,t=.ptr p vs
   ·obtain⟨p,vs,rfl⟩:=hp
    cases n with
    |none=>simp[grabs,nh,SP.run]at hr
    |some n=>
     simp only[grabs]at hr;obtain⟨_,σ1,h1,h2⟩:=bS hr;have e1:σ1=σ:=(cq h1).1;have e2:=(cq h1).2;subst e1;obtain⟨_,σr,hR,To⟩:=bS h2;obtain⟨rfl,Yu⟩:=EL hI hR;obtain⟨cells,σ2,h3,h4⟩:=bS To;obtain⟨q1,σ3,h5,h6⟩:=bS h4;simp only[SP.run,oSJ,oPJ]at h6;obtain⟨rfl,rfl⟩:=h6;generalize hz:y=z at Ta
     cases Ta with
     |ptr V0 h0 hv h=>
      obtain⟨Z5,ad0,t0,ha,rfl,Z6⟩:=h e2;obtain⟨r,o,hops⟩:=p
      have Wx:∃ad,G.addr w (⟨r,o,[]⟩:cj)=some ad/\(hops=[]->ad0=ad)/\(hops≠[]->cM w ((w.cell? ⟨ad.block,ad.off,none⟩).getD undef) hops=some ad0):=by
       cases hops with
       |nil=>exact⟨ad0,ha,λ_=>rfl,λe=>absurd rfl e⟩
       |cons hp1 hs=>
        obtain⟨b,o0,n0,hb⟩:=Yu (by simp);refine⟨⟨b,o0+o,none⟩,by simp only[Gh.addr];rw[hb],λe=>by simp at e,λ_=>?_⟩;have Vf:cM w (G.val w r o) (hp1::hs)=some ad0:=ha;unfold Gh.val at Vf;rw[hb]at Vf;exact Vf
      obtain⟨ad,OT,hb0,Ql⟩:=Wx;have hrb:(⟨r,o,hops⟩:cj).base.root≠1:=Z5;obtain⟨k1,u,G1,Z0,k2,k3,k4⟩:=H4 (p:=(⟨r,o,hops⟩:cj).base) hI hrb OT h3;obtain⟨us,G2,K,ZH,k5,k6,k7⟩:=ih (asq:=asq) Z0.1 (by simpa using hl) (ZK Z0) h5
      have Za:TmR w (G.F M.A) σr.v (cC M σr H) G (.ptr (⟨r,o,hops⟩:cj).base (vs.take 1)) (.pointer (some ad)):=
       .ptr V0 h0 (by rw[hv];simp[gG,cj.base]) λ_=>⟨Z5,ad,_,OT,rfl,rfl⟩
      refine⟨u++us,G2,(⟨i,(⟨r,o,hops⟩:cj).base,vs.take 1,cells⟩,ad)::K,by simpa[List.append_assoc]using Z0.trans ZH,by simp[k5],.ptr (p:=(⟨r,o,hops⟩:cj).base) (hp:=hops) Z5 rfl (iV OT) hb0 (λhne=>⟨Ql hne,?_⟩) (by omega) k3 k4 k6,λx hx=>?_⟩
      ·have WB:cw (σr.c r o) hops=some t0:=by
        have:=Z6;rw[cx (by exact Z5)]at this;exact this
       cases hops with
       |nil=>exact absurd rfl hne
       |cons h1 hs=>
        cases hc:σr.c r o with
        |ow c=>
         have:=Db hc h3;rw[this];rw[hc]at WB;exact⟨t0,WB⟩
        |_=>rw[hc]at WB;simp[cw]at WB
      ·have e3:H++(({ i:=i,p:=(⟨r,o,hops⟩:cj).base,vs:=vs.take 1,cells:=cells }:GP)::q1).flatMap (·.cells)=H++cells++q1.flatMap (·.cells):=by simp[List.append_assoc]
       rw[e3];rcases List.mem_cons.1 hx with rfl|hx
       ·exact ZH.tm (Z0.tm Za)
       ·exact k7 x hx
   ·by_cases hw:∃p vs,(n,t)=(some 0,.pk p vs)
    ·obtain⟨p,vs,hw⟩:=hw
     injection hw with h1 h2
     subst h1;subst h2;have X2:(grabs (i+1) l).run σ=some (q,σ'):=hr;obtain⟨us,G',K,e1,e2,e3,e4⟩:=ih (asq:=asq) hI (by simpa using hl) (ZK (ji.refl hI)) X2;exact⟨us,G',K,e1,e2,.own e3,e4⟩
    ·exact other (λp vs e=>hp ⟨p,vs,e⟩) λp vs e=>hw ⟨p,vs,e⟩
theorem yR{α:Type}:∀{l:List (Nat×α)}{r:Nat}{x:α},cA l r=some x->d5 l r x=l:=by
 intro l
 induction l with
 |nil=>intro r x h;simp[cA]at h
 |cons y l ih=>
  intro r x h;simp[cA]at h;simp[d5]
  grind
theorem Gs{p:cj}(hr:(touch p).run σ=some ((),σ')):σ'=σ/\∃l,cA σ.ce p.root=some l/\p.off<l.length:=by
 simp[touch]at hr;obtain⟨l,hl,ho,h2⟩:=cB (k:=.ret ()) (by simpa[SP.run]using hr);simp[SP.run]at h2;refine⟨?_,l,hl,ho⟩;rw[<- h2]
 have e:l.set p.off (σ.c p.root p.off)=l:=by
  have:σ.c p.root p.off=l[p.off]:=by simp[St.c,hl,ho]
  simp_all
 rw[e,yR hl]
theorem G9(hI:Inv M σ H xs ts w G):∀{q:List GP}{σ':St},(rechk q).run σ=some ((),σ')->σ'=σ/\∀g∈q,∀x,TmR w (G.F M.A) σ.v (cC M σ H) G (.ptr g.p g.vs) x->g.p.root≠1/\∃ad,x=.pointer (some ad)/\G.addr w g.p=some ad/\g.vs=gG σ.v g.p.root g.p.off g.p.hops.length/\(∃t,cw (cC M σ H g.p.root g.p.off) g.p.hops=some t)/\((∃o n,G.β g.p.root=some (ad.block,o,n))\/G.φ g.p.root g.p.off ad.block):=by
 intro q
 induction q with
 |nil=>
  intro σ' hr;simp only[rechk,SP.run,oPJ,true_and]at hr
  simp_all
 |cons g q ih=>
  intro σ' hr;obtain⟨_,σ1,h1,h2⟩:=bS hr;have e1:σ1=σ:=(cq h1).1;have e2:=(cq h1).2;subst e1;obtain⟨_,σ2,h3,h4⟩:=bS h2;obtain⟨rfl,l,hl,ho⟩:=Gs h3;obtain⟨rfl,hq⟩:=ih h4;refine⟨rfl,λg' UO x hx=>?_⟩;rcases List.mem_cons.1 UO with rfl|UO
  ·cases hx with
   |ptr V0 h0 hv h=>
    obtain⟨Z5,ad,t0,ha,hx,Z6⟩:=h e2
    have hB:G.addrB w g'.p=some ad:=by
     refine jo ha λhp b o0 n hb=>?_;have:=hI.shape _ _ _ _ hb l hl;omega
    refine⟨Z5,ad,hx,ha,e2,⟨t0,Z6⟩,?_⟩
    rcases hI.core.where_ g'.p hB Z6 with⟨_,b,o0,n,h5,_,h6⟩|⟨_,h5⟩
    ·left;exact⟨o0,n,by rw[h5,h6]⟩
    ·right;exact h5
  ·exact hq g' UO x hx
end
def prK:List (GP×Addr)->Nat->Option (Nat×Nat×Nat)
 | [],_=>none
 |(g,ad)::K,r=>if 2*g.i+2=r then some (ad.block,ad.off,g.cells.length)else prK K r
def bsK:List (GP×Addr)->Nat->Nat
 | [],_=>0
 |(g,_)::K,r=>if 2*g.i+2=r then 0 else g.cells.length+bsK K r
def ceK(K:List (GP×Addr)):List (Nat×List TV):=K.map λx=>(2*x.1.i+2,x.1.cells)
def ceO(ow:List (Nat×TV)):List (Nat×List TV):=ow.map λx=>(2*x.1+3,[x.2])
def owK:List (Nat×TV)->Nat->Option Nat
 | [],_=>none
 |(i,_)::q,r=>if 2*i+3=r then some 0 else(owK q r).map (· + 1)
def ig(K:List (GP×Addr)):List TV:=K.flatMap λx=>x.1.cells
section
theorem iF{K:List (GP×Addr)}{r b o n:Nat}(h:prK K r=some (b,o,n)):∃x∈K,r=2*x.1.i+2/\b=x.2.block/\o=x.2.off/\n=x.1.cells.length/\cA (ceK K) r=some x.1.cells/\∀j (_:j<x.1.cells.length),(ig K)[bsK K r+j]?=x.1.cells[j]?:=by
 induction K with
 |nil=>simp[prK]at h
 |cons y K ih=>
  obtain⟨g,ad⟩:=y;simp only[prK]at h;split at h
  ·rename_i e
   injection h with h
   injection h with h1 h
   injection h with h2 h3
   refine⟨(g,ad),by simp,e.symm,h1.symm,h2.symm,h3.symm,by simp[ceK,cA,e],λj hj=>?_⟩;simp only[bsK,e,if_true,ig,Nat.zero_add];exact List.getElem?_append_left hj
  ·rename_i e;obtain⟨x,h1,h2,h3,h4,h5,h6,h7⟩:=ih h;refine⟨x,by simp[h1],h2,h3,h4,h5,by simpa[ceK,cA,e]using h6,λj hj=>?_⟩;simp only[bsK,e,if_false,ig,List.flatMap_cons];rw[List.getElem?_append_right (by omega)];rw[show g.cells.length+bsK K r+j-g.cells.length=bsK K r+j by omega];exact h7 j hj
theorem B1{K:List (GP×Addr)}{r:Nat}{l:List TV}(h:cA (ceK K) r=some l):prK K r≠none:=by
 induction K with
 |nil=>simp[ceK,cA]at h
 |cons y K ih=>
  simp[ceK,cA]at h;simp[prK];split
  ·simp
  ·rename_i e;rw[oIN e]at h;exact ih h
theorem I9{K:List (GP×Addr)}:∀r b o n r' b' o' n',prK K r=some (b,o,n)->prK K r'=some (b',o',n')->∀j j',j<n->j'<n'->bsK K r+j=bsK K r'+j'->r=r':=by
 induction K with
 |nil=>intro r b o n r' b' o' n' h;simp[prK]at h
 |cons y K ih=>
  intro r b o n r' b' o' n' h h' j j' hj ZU e;simp[prK,bsK]at h h' e
  grind
theorem qi.slot{w:World}{i:Nat}{ts:List TV}{asq us:List Value}{K:List (GP×Addr)}(h:qi w i ts asq K us):∀x∈K,i<=x.1.i/\x.1.p.hops=[]/\∃p vs,ts[x.1.i-i]?=some (.ptr p vs):=by
 induction h with
 |nil=>intro x hx;simp at hx
 | @ptr i p hp vs vs0 cells ad ad0 u ts xs K us hr hb hs h0 hh hu hc hok h ih=>
  intro x hx;rcases List.mem_cons.1 hx with rfl|hx
  ·simp_all
  ·obtain⟨h1,h3,p,vs,h2⟩:=ih x hx;refine⟨by omega,h3,p,vs,?_⟩;rw[show x.1.i-i=(x.1.i-(i+1))+1 by omega];simpa using h2
 | @arg i t x0 ts xs K us ha h ih=>
  intro x hx;obtain⟨h1,h3,p,vs,h2⟩:=ih x hx;refine⟨by omega,h3,p,vs,?_⟩;rw[show x.1.i-i=(x.1.i-(i+1))+1 by omega];simpa using h2
 | @own i p0 vs0 x0 ts xs K us h ih=>
  intro x hx;obtain⟨h1,h3,p,vs,h2⟩:=ih x hx;refine⟨by omega,h3,p,vs,?_⟩;rw[show x.1.i-i=(x.1.i-(i+1))+1 by omega];simpa using h2
theorem qi.len{w:World}{i:Nat}{ts:List TV}{asq us:List Value}{K:List (GP×Addr)}(h:qi w i ts asq K us):ts.length=asq.length/\us.length=(ig K).length:=by
 induction h with
 |nil=>exact⟨rfl,rfl⟩
 |ptr hr hb hs h0 hh hu hc hok h ih=>exact⟨by simp_all,by simp[ig,hu]at ih⊢;exact ih.2⟩
 |arg ha h ih=>simp_all
 |own h ih=>simp_all
theorem qi.ok{w:World}{i:Nat}{ts:List TV}{asq us:List Value}{K:List (GP×Addr)}(h:qi w i ts asq K us):∀x∈K,∀j (h:j<x.1.cells.length),cZ x.1.cells[j]=true\/jK x.1.cells[j]=true:=by
 induction h with
 |nil=>simp_all
 |ptr hr hb hs h0 hh hu hc hok h ih=>
  intro x hx;rcases List.mem_cons.1 hx with rfl|hx
  ·exact hok
  ·exact ih x hx
 |arg ha h ih=>exact ih
 |own h ih=>exact ih
theorem qi.here{w:World}{i:Nat}{ts:List TV}{asq us:List Value}{K:List (GP×Addr)}(h:qi w i ts asq K us):∀r b o n,prK K r=some (b,o,n)->∀j,j<n->w.cell? ⟨b,o+j,none⟩=some (us.getD (bsK K r+j) undef)/\w.frozen? ⟨b,o+j,none⟩=false:=by
 induction h with
 |nil=>intro r b o n h;simp[prK]at h
 | @ptr i p Nn vs vs0 cells ad ad0 u ts xs K us hr hb hs h0 hh hu hc hok h ih=>
  intro r b o n hp j hj;simp only[prK]at hp;simp only[bsK];split at hp
  ·rename_i e
   injection hp with hp
   injection hp with h1 hp
   injection hp with h2 h3
   subst h1;subst h2;rw[oIP e,Nat.zero_add]
   have Po:j<u.length:=by omega
   have:=hc j Po;refine⟨?_,this.2⟩;rw[this.1,oGD,List.getElem?_append_left Po,oGE Po];rfl
  ·rename_i e;rw[oIN e];have:=ih r b o n hp j hj;refine⟨?_,this.2⟩;rw[this.1];simp;rw[List.getElem?_append_right (by omega)];rw[show cells.length+bsK K r+j-u.length=bsK K r+j by omega]
 |arg ha h ih=>exact ih
 |own h ih=>exact ih
end
theorem pV{α:Type}{f:α->Nat}:∀{l:List α},jW (l.map f)=true->∀{x y:α},x∈l->y∈l->f x=f y->x=y:=by
 intro l
 induction l with
 |nil=>simp_all
 |cons z l ih=>
  intro h x y hx hy e;simp only[List.map_cons,jW,oBA,Bool.not_eq_true',List.contains_eq_mem,decide_eq_false_iff_not]at h;rcases List.mem_cons.1 hx with ZY|ZY
  ·rcases List.mem_cons.1 hy with Xg|Xg
   ·rw[ZY,Xg]
   ·exact absurd (by rw[<- ZY,e];exact List.mem_map_of_mem Xg) h.1
  ·rcases List.mem_cons.1 hy with Xg|Xg
   ·simp_all
   ·exact ih h.2 ZY Xg e
section
variable {P:Program} {M:Fm} {σ σ':St} {H:List TV} {xs:List Value} {ts:Array Value} {w:World} {G:Gh} {a:Act} {o:Oper}
theorem lr{α:Type}:∀{a b:List (Nat×α)}{r:Nat},cA (a++b) r=match cA a r with|some x=>some x|none=>cA b r:=by
 intro a
 induction a with
 |nil=>intro b r;rfl
 |cons y a ih=>
  intro b r;simp[cA];split
  ·rfl
  ·exact ih
theorem oG:∀{q:List (Nat×TV)}{r j:Nat},owK q r=some j->∃h:j<q.length,r=2*q[j].1+3/\cA (ceO q) r=some [q[j].2]:=by
 intro q
 induction q with
 |nil=>intro r j h;simp[owK]at h
 |cons y q ih=>
  intro r j h;obtain⟨i,t⟩:=y;simp only[owK]at h;split at h
  ·rename_i e
   injection h with h
   subst h;exact⟨by simp,e.symm,by simp[ceO,cA,e]⟩
  ·rename_i e
   cases hq:owK q r with
   |none=>simp_all
   |some k=>
    simp[hq,oMS]at h;subst h
    have:cA (ceO ((i,t)::q)) r=cA (ceO q) r:=by simp[ceO,cA,e]
    simp_all
theorem In:∀{q:List (Nat×TV)}{r:Nat}{l:List TV},cA (ceO q) r=some l->owK q r≠none:=by
 intro q
 induction q with
 |nil=>intro r l h;simp[ceO,cA]at h
 |cons y q ih=>
  intro r l h;have ⟨i,t⟩:=y;simp[owK];split
  ·simp
  ·rename_i e
   have:cA (ceO ((i,t)::q)) r=cA (ceO q) r:=by simp[ceO,cA,e]
   simp_all
theorem Gq.facts{i:Nat}{l:List (Option Nat×TV)}{asq:List Value}{ow:List (Nat×TV)}{zs:List Value}(h:Gq i l asq ow zs):zs.length=ow.length/\(∀x∈ow,i<=x.1/\∃c,x.2=.ow c)/\∀x∈ow,∃k,owK ow (2*x.1+3)=some k/\asq[x.1-i]?=zs[k]?:=by
 induction h with
 |nil=>simp_all
 | @own i p vs l x xs c ow zs h ih=>
  obtain⟨h1,h2,h3⟩:=ih;refine⟨by simp[h1],λy hy=>?_,λy hy=>?_⟩
  ·rcases List.mem_cons.1 hy with rfl|hy
   ·exact⟨Nat.le_refl _,c,rfl⟩
   ·exact⟨by have:=(h2 y hy).1;omega,(h2 y hy).2⟩
  ·rcases List.mem_cons.1 hy with rfl|hy
   ·exact⟨0,by simp[owK],by simp⟩
   ·obtain⟨k,h4,h5⟩:=h3 y hy;have YS:=(h2 y hy).1;refine⟨k+1,by simp[owK];rw[oIN (by omega),h4];rfl,?_⟩;rw[show y.1-i=(y.1-(i+1))+1 by omega];simpa using h5
 | @skip i y0 l x xs ow zs h ih=>
  obtain⟨h1,h2,h3⟩:=ih;refine⟨h1,λy hy=>⟨by have:=(h2 y hy).1;omega,(h2 y hy).2⟩,λy hy=>?_⟩;obtain⟨k,h4,h5⟩:=h3 y hy;have YS:=(h2 y hy).1;refine⟨k,h4,?_⟩;rw[show y.1-i=(y.1-(i+1))+1 by omega];simpa using h5
theorem qi.hands{vals:List TV}{asq us:List Value}{K:List (GP×Addr)}{l:List (Option Nat×TV)}{ow:List (Nat×TV)}{zs:List Value}(hI:Inv M σ (ow.map (·.2)++ig K) (zs++us) ts w G)(h:qi w 0 vals asq K us)(ho:Gq 0 l asq ow zs)(ZN:jW ((K.map (·.1)).map (·.p.root))=true)(Z1:∀x∈K,0<x.1.cells.length)
 (Ux:∀x∈K,x.1.p.root≠1/\((∃o n,G.β x.1.p.root=some (x.2.block,o,n))\/G.φ x.1.p.root x.1.p.off x.2.block)):DG (ow.map (·.2)++ig K) (zs++us) w G M.A (prK K) (λr=>ow.length+bsK K r) (ceK K++ceO ow) (owK ow):=by
 obtain⟨hz,X8,_⟩:=ho.facts
 have TS:∀r,r%2=1->cA (ceK K) r=none:=λr hr=>by
  cases hc:cA (ceK K) r with
  |none=>rfl
  |some l=>
   cases hp:prK K r with
   |none=>exact absurd hp (B1 hc)
   |some x=>obtain⟨b,o,n⟩:=x;obtain⟨x,_,h2,_⟩:=iF hp;omega
 refine⟨λr b o n hp=>?_,λr b o n hp=>?_,λr l hl=>?_,λr j hj=>?_,λr j r' b o n hj hp j' ZU=>by have:=(oG hj).1;omega,λr r' j hj ZU=>?_,λr b o n r' b' o' n' h1 h2 j j' hj ZU e=>I9 _ _ _ _ _ _ _ _ h1 h2 _ _ hj ZU (by omega),λr b o n r' o' n' h1 h2=>?_,λr b o n hp hF=>?_,λr b o n hp j hφ=>?_,λr b o n hp j hj=>?_⟩
 ·obtain⟨x,h1,h2,_,_,h5,_⟩:=iF hp;exact⟨by omega,by rw[h5];exact Z1 x h1⟩
 ·obtain⟨x,h1,h2,_,_,h5,h6,h7⟩:=iF hp;refine⟨_,by rw[lr,h6],h5.symm,λj hj=>?_⟩;have:=h7 j hj;rw[oGE hj]at this;obtain⟨k1,k2⟩:=oGS this;refine⟨by simp;omega,?_,qf (h.ok x h1) j hj⟩;rw[List.getElem_append_right (by simp;omega)];rw[<- k2];congr 1;simp;omega
 ·rw[lr]at hl
  cases hc:cA (ceK K) r with
  |some l2=>exact .inl (B1 hc)
  |none=>rw[hc]at hl;exact .inr (In hl)
 ·obtain⟨h1,h2,h3⟩:=oG hj;obtain⟨_,c,hc⟩:=X8 ow[j] (List.getElem_mem h1);refine⟨by omega,by omega,c,by simp;omega,?_,?_⟩
  ·rw[lr,TS r (by omega)];simp only;rw[h3,hc]
  ·rw[List.getElem_append_left (by simpa using h1)];simpa using hc
 ·obtain⟨_,h2,_⟩:=oG hj;obtain⟨_,h3,_⟩:=oG ZU;omega
 ·obtain⟨x,x1,x2,x3,x4,x5,_⟩:=iF h1;obtain⟨y,y1,y2,y3,y4,y5,_⟩:=iF h2
  have Z4:x.1.p.root=y.1.p.root:=by
   rcases(Ux x x1).2 with⟨o1,n1,ZX⟩|ZX
   ·rcases(Ux y y1).2 with⟨o2,n2,Z'⟩|Z'
    ·rw[<- y3]at Z';rw[<- x3]at ZX;exact hI.core.boxd _ _ _ _ _ _ _ ZX Z'
    ·rw[<- y3]at Z';rw[<- x3]at ZX;exact absurd Z' (hI.core.boxf _ _ _ _ ZX _ _)
   ·rcases(Ux y y1).2 with⟨o2,n2,Z'⟩|Z'
    ·rw[<- y3]at Z';rw[<- x3]at ZX;exact absurd ZX (hI.core.boxf _ _ _ _ Z' _ _)
    ·rw[<- y3]at Z';rw[<- x3]at ZX;exact(hI.core.dis _ _ _ _ _ ZX Z').1
  have Te:x.1=y.1:=pV ZN (List.mem_map_of_mem x1) (List.mem_map_of_mem y1) Z4;rw[x2,y2,Te]
 ·obtain⟨x,x1,x2,x3,x4,x5,_⟩:=iF hp;subst x3
  rcases(Ux x x1).2 with⟨o1,n1,ZX⟩|ZX
  ·exact hF.2.2 _ _ _ _ ZX rfl
  ·exact hF.2.1 _ _ ZX
 ·obtain⟨x,x1,x2,x3,x4,x5,_⟩:=iF hp;subst x3
  rcases(Ux x x1).2 with⟨o1,n1,ZX⟩|ZX
  ·exact hI.core.boxf _ _ _ _ ZX _ _ hφ
  ·exact(Ux x x1).1 (hI.core.dis _ _ _ _ _ ZX hφ).1
 ·have:=h.here _ _ _ _ hp j hj;refine⟨?_,this.2⟩;rw[this.1,oGD,oGD,List.getElem?_append_right (by omega)];rw[show ow.length+bsK K r+j-zs.length=bsK K r+j by omega]
theorem TmR.handed{F F':Nat->Prop}{V V':Vs}{C C':Cs}{G G':Gh}{t:TV}{x:Value}(h:TmR w F V C G t x)(ha:nh t=true)(hF:∀k,F k->F' k):TmR w F' V' C' G' t x:=by
 cases h with
 |v h=>exact .v h
 |sl h=>exact .sl (h.frame (λ_ _ _=>rfl) λk hk _=>hF k hk)
 |nil=>exact .nil
 |ip u hc hr=>exact .ip u (λj hj=>⟨hF _ (hc j hj).1,(hc j hj).2⟩) λj hj=>(hr j hj).frame (λ_ _ _=>rfl) λk hk _=>hF k hk
 | @agg l xs hl h=>
  refine .agg hl λj hj=>?_;simp[nh,List.all_eq_true]at ha;have h1:=ha _ (List.getElem_mem hj);have h2:=h j hj;generalize l[j]=e at h1 h2;generalize xs.getD j undef=y at h2
  cases h2 with
  |v h=>exact .v h
  |sl h=>exact .sl (h.frame (λ_ _ _=>rfl) λk hk _=>hF k hk)
  |_=>simp_all
 | @fn f l xs hl h=>
  simp[nh]at ha;exact .fn hl λj hj=>(((h j hj).imC (ha _ (List.getElem_mem hj))).frame (λ_ _ _=>rfl) λk hk _=>hF k hk).toTm
 |_=>simp[nh]at ha
theorem wR{α:Type}:∀{l:List α}{i j:Nat},cA (eC i l) j=if i<=j then l[j-i]? else none:=by
 intro l
 induction l with
 |nil=>intro i j;simp[eC,cA]
 |cons x l ih=>
  intro i j;simp[eC,cA];by_cases e:i=j
  ·simp_all
  ·rw[oIN e,ih]
   grind
theorem yT:∀{l:List TV}{i j:Nat},(argTs i l)[j]?=(l[j]?).map (argT (i+j)):=by
 intro l
 induction l with
 |nil=>intro i j;simp[argTs]
 |cons t l ih=>
  intro i j
  cases j with
  |zero=>simp[argTs]
  |succ j=>simp[argTs,ih];rw[show i+1+j=i+(j+1) by omega]
def IB(w:World)(K:List (GP×Addr))(x:GP×Addr)(t:TV)(y:Option Value):Prop:=
 ∃hp vs ad0,t=.ptr ⟨x.1.p.root,x.1.p.off,hp⟩ vs/\y=some (.pointer (some ad0))/\prK K (2*x.1.i+2)=some (x.2.block,x.2.off,x.1.cells.length)/\cA (ceK K) (2*x.1.i+2)=some x.1.cells/\x.2.spot=none/\(hp=[]->ad0=x.2)/\
  (hp≠[]->cM w ((w.cell? ⟨x.2.block,x.2.off,none⟩).getD undef) hp=some ad0/\∃t,cw (x.1.cells.getD 0 .dead) hp=some t)
theorem IB.cons{w:World}{K:List (GP×Addr)}{x z:GP×Addr}{t:TV}{y:Option Value}(h:IB w K x t y)(hne:z.1.i≠x.1.i):IB w (z::K) x t y:=by
 have ⟨hp,vs,ad0,h1,h2,h3,h4,h5,h6,h7⟩:=h;have ⟨g,ad⟩:=z;refine⟨hp,vs,ad0,h1,h2,?_,?_,h5,h6,h7⟩
 ·simp[prK];rw[oIN (by simp only at hne;omega)];exact h3
 ·simp[ceK,cA];rw[oIN (by simp only at hne;omega)];exact h4
theorem qi.slotArg{w:World}{i:Nat}{vals:List TV}{asq us:List Value}{K:List (GP×Addr)}(h:qi w i vals asq K us):∀j t,vals[j]?=some t->nh t=true\/(∃p vs,t=.pk p vs)\/∃x∈K,x.1.i=i+j/\IB w K x t asq[j]?:=by
 induction h with
 |nil=>intro j t h;simp at h
 | @ptr i p hp vs vs0 cells ad ad0 u ts xs K us hr hb hs h0 hh hu hc hok h ih=>
  intro j t ht
  cases j with
  |zero=>
   right;right;refine⟨(⟨i,p,vs,cells⟩,ad),by simp,rfl,hp,vs0,ad0,?_,by simp,by simp[prK],by simp[ceK,cA],hs,h0,hh⟩;simpa using ht.symm
  |succ j=>
   rcases ih j t (by simpa using ht)with h1|h1|⟨x,h1,h2,h3⟩
   ·exact .inl h1
   ·exact .inr (.inl h1)
   ·right;right;exact⟨x,by simp[h1],by omega,by simpa using h3.cons (z:=(⟨i,p,vs,cells⟩,ad)) (by show i≠x.1.i;omega)⟩
 | @arg i t0 x0 ts xs K us ha h ih=>
  intro j t ht
  cases j with
  |zero=>simp_all
  |succ j=>
   rcases ih j t (by simpa using ht)with h1|h1|⟨x,h1,h2,h3⟩
   ·exact .inl h1
   ·exact .inr (.inl h1)
   ·exact .inr (.inr ⟨x,h1,by omega,by simpa using h3⟩)
 | @own i p0 vs0 x0 ts xs K us h ih=>
  intro j t ht
  cases j with
  |zero=>right;left;have:TV.pk p0 vs0=t:=by simpa using ht
         exact⟨p0,vs0,this.symm⟩
  |succ j=>
   rcases ih j t (by simpa using ht)with h1|h1|⟨x,h1,h2,h3⟩
   ·exact .inl h1
   ·exact .inr (.inl h1)
   ·exact .inr (.inr ⟨x,h1,by omega,by simpa using h3⟩)
theorem qi.enter{vals:List TV}{asq us:List Value}{K:List (GP×Addr)}{l:List (Option Nat×TV)}{ow:List (Nat×TV)}{zs:List Value}(hI:Inv M σ (ow.map (·.2)++ig K) (zs++us) ts w G)(h:qi w 0 vals asq K us)(ho:Gq 0 l asq ow zs)(S7:∀j p vs,vals[j]?=some (.pk p vs)->∃x∈ow,x.1=j)
 (hh:DG (ow.map (·.2)++ig K) (zs++us) w G M.A (prK K) (λr=>ow.length+bsK K r) (ceK K++ceO ow) (owK ow))
 (ht:∀j (h:j<vals.length)(h':j<asq.length),TmR w (G.F M.A) σ.v (cC M σ (ow.map (·.2)++ig K)) G vals[j] asq[j]){N:Nat}(hN:asq.length<=N):
 Inv (M.into w G (prK K) N) (mkSt (argTs 0 vals) (ceK K++ceO ow)) [] [] (asq.toArray++Array.replicate (N-asq.length) undef) w (G.into (prK K) (λr=>ow.length+bsK K r) (owK ow) (zs++us)):=by
 refine hI.enter hh (by simp;omega) λi=>?_;rw[wR];simp only[Nat.zero_le,if_true,Nat.sub_zero,yT,Nat.zero_add]
 cases hv:vals[i]? with
 |none=>exact .dead
 |some t=>
  obtain⟨hi,hvi⟩:=oGS hv
  have ZM:i<asq.length:=by rw[<- h.len.1];exact hi
  have hx:(asq.toArray++Array.replicate (N-asq.length) undef).getD i undef=asq[i]:=by
   simp[Array.getD_eq_getD_getElem?,Array.getElem?_append,ZM]
  rw[hx];have Za:=ht i hi ZM;rw[hvi]at Za;simp only[oMS,Option.getD_some];rcases h.slotArg i t hv with UI|⟨p,vs,rfl⟩|⟨x,x1,x2,hp,vs,ad0,rfl,x4,x5,NS,x6,x7,x8⟩
  ·have e:argT i t=t:=by cases t<;>first|rfl|simp[nh]at UI
   rw[e];exact Za.handed UI λk hk=>hh.F hk
  ·simp only[argT];obtain⟨x,ZY,rfl⟩:=S7 i p vs hv;obtain⟨hz,h2,h3⟩:=ho.facts;obtain⟨k,h4,h5⟩:=h3 x ZY;obtain⟨hk,_,h6⟩:=oG h4;have TS:=(hh.owc _ _ h4);obtain⟨_,_,c',hj,h8,h9⟩:=TS;refine .pk (λ_=>0) (λ_=>Nat.le_refl _) rfl λ_=>⟨by simp,c',?_,?_⟩
   ·have hpn:prK K (2*x.1+3)=none:=by
     cases hp:prK K (2*x.1+3)with
     |none=>rfl
     |some y=>obtain⟨b,o,n⟩:=y;have:=(hh.even _ _ _ _ hp).1;omega
    simp only[Gh.hv,hvT];unfold Gh.val Gh.into;simp only[hpn,h4];rw[Nat.sub_zero,oGE ZM,oGE (by omega)]at h5
    injection h5 with h5
    rw[oGD,List.getElem?_append_left (by omega),oGE (by omega),h5];rfl
   ·have:cC (M.into w G (prK K) N) ⟨eC 0 (argTs 0 vals),ceK K++ceO ow,[]⟩ [] (2*x.1+3) 0=.ow c':=by
     rw[cx (by show 2*x.1+3≠1;omega)];simp[St.c,h8]
    rw[this];rfl
  ·simp only[argT]
   have e:asq[i]=.pointer (some ad0):=by
    rw[oGE ZM]at x4;injection x4
   rw[e]
   have hxi:x.1.i=i:=by omega
   rw[hxi]at x5 NS
   have Y0:(⟨x.2.block,x.2.off+0,none⟩:Addr)=x.2:=by
    obtain⟨g,ad⟩:=x;obtain⟨b,o,s⟩:=ad;simp only at x6⊢;subst x6;rfl
   have hcell:cC (M.into w G (prK K) N) ⟨eC 0 (argTs 0 vals),ceK K++ceO ow,[]⟩ [] (2*i+2) 0=x.1.cells.getD 0 .dead:=by
    rw[cx (by show 2*i+2≠1;omega)];simp only[St.c,lr,NS]
   refine .ptr (λ_=>0) (λ_=>Nat.le_refl _) (by simp[gG,List.replicate_succ,List.map_const']) λ_=>?_
   cases hp with
   |nil=>
    refine⟨by simp,x.2,(cC (M.into w G (prK K) N) ⟨eC 0 (argTs 0 vals),ceK K++ceO ow,[]⟩ [] (2*i+2) 0),?_,by rw[x7 rfl],rfl⟩;unfold Gh.addr Gh.into;simp only[x5];rw[Y0]
   |cons h1 hs=>
    obtain⟨x9,t0,x10⟩:=x8 (by simp);refine⟨by simp,ad0,t0,?_,rfl,by show cw (cC _ _ [] (2*i+2) 0) (h1::hs)=_;rw[hcell];exact x10⟩;show cM w (Gh.val _ w (2*i+2) 0) (h1::hs)=some ad0;unfold Gh.val Gh.into;simp only[x5];exact x9
end
theorem yy{α:Type}{f:GP×Addr->List α}{K:List (GP×Addr)}(hf:∀x∈K,(f x).length=x.1.cells.length){r b o n:Nat}(h:prK K r=some (b,o,n)):∃x∈K,r=2*x.1.i+2/\b=x.2.block/\o=x.2.off/\n=x.1.cells.length/\cA (K.map λx=>(2*x.1.i+2,f x)) r=some (f x)/\∀j,j<n->(K.flatMap f)[bsK K r+j]?=(f x)[j]?:=by
 induction K with
 |nil=>simp[prK]at h
 |cons y K ih=>
  obtain⟨g,ad⟩:=y;simp only[prK]at h;split at h
  ·rename_i e
   injection h with h
   injection h with h1 h
   injection h with h2 h3
   have hl:=hf (g,ad) (by simp);simp only at hl;refine⟨(g,ad),by simp,e.symm,h1.symm,h2.symm,h3.symm,by simp[cA,e],λj hj=>?_⟩;simp only[bsK,e,if_true,Nat.zero_add];exact List.getElem?_append_left (by omega)
  ·rename_i e;obtain⟨x,h1,h2,h3,h4,h5,h6,h7⟩:=ih (λx hx=>hf x (by simp[hx])) h;have hl:=hf (g,ad) (by simp);simp only at hl;refine⟨x,by simp[h1],h2,h3,h4,h5,by simpa[cA,e]using h6,λj hj=>?_⟩;simp only[bsK,e,if_false,List.flatMap_cons];rw[List.getElem?_append_right (by omega)];rw[show g.cells.length+bsK K r+j-(f (g,ad)).length=bsK K r+j by omega];exact h7 j hj
theorem LC{K:List (GP×Addr)}(ZN:jW (K.map λx=>x.1.i)=true){j:Nat}(h:j<(ig K).length):∃r b o n t,prK K r=some (b,o,n)/\t<n/\j=bsK K r+t:=by
 induction K generalizing j with
 |nil=>simp[ig]at h
 |cons y K ih=>
  obtain⟨g,ad⟩:=y;simp only[List.map_cons,jW,oBA,Bool.not_eq_true',List.contains_eq_mem,decide_eq_false_iff_not]at ZN;simp only[ig,List.flatMap_cons,List.length_append]at h;by_cases hj:j<g.cells.length
  ·exact⟨2*g.i+2,ad.block,ad.off,g.cells.length,j,by simp[prK],hj,by simp[bsK]⟩
  ·obtain⟨r,b,o,n,t,h1,h2,h3⟩:=ih ZN.2 (j:=j-g.cells.length) (by simp only[ig];omega)
   have hne:2*g.i+2≠r:=λe=>by
    obtain⟨x,x1,x2,_⟩:=iF h1;exact ZN.1 (List.mem_map.2 ⟨x,x1,by omega⟩)
   exact⟨r,b,o,n,t,by simp[prK,hne,h1],h2,by simp[bsK,hne];omega⟩
def RWs(w:World):List (GP×Addr)->World->World
 | [],W=>W
 |x::K,W=>RWs w K (fm w W x.2.block)
theorem Ix{w:World}{K:List (GP×Addr)}:∀{W:World},(RWs w K W).heap.size=W.heap.size:=by
 induction K with
 |nil=>intro W;rfl
 |cons x K ih=>intro W;simp[RWs];rw[ih,jT]
theorem wS{w:World}{K:List (GP×Addr)}:∀{W:World},(RWs w K W).os=W.os/\(RWs w K W).tape=W.tape/\(RWs w K W).output=W.output:=by
 induction K with
 |nil=>intro W;exact⟨rfl,rfl,rfl⟩
 |cons x K ih=>
  intro W;simp[RWs];have ⟨r1,r2,r3,_⟩:=qm (w:=w) (W:=W) (b:=x.2.block)
  simp_all
theorem LL{w:World}{K:List (GP×Addr)}{k:Nat}:∀{W:World},(∀x∈K,k≠x.2.block)->(RWs w K W).heap[k]?=W.heap[k]?:=by
 induction K with
 |nil=>intro W h;rfl
 |cons x K ih=>
  intro W h;simp[RWs];rw[ih λy hy=>h y (by simp[hy]),mL (h x (by simp))]
theorem Iy{w:World}{K:List (GP×Addr)}{k:Nat}(h2:k<w.heap.size):∀{W:World},k<W.heap.size->W.heap[k]?=w.heap[k]?->(RWs w K W).heap[k]?=w.heap[k]?:=by
 induction K with
 |nil=>intro W h1 h;exact h
 |cons x K ih=>
  intro W h1 h;refine ih (by rw[jT];exact h1) ?_;by_cases e:k=x.2.block
  ·rw[<- e];exact pQ h1 h2
  ·rw[mL e];exact h
theorem LM{w:World}{K:List (GP×Addr)}{k:Nat}(h2:k<w.heap.size):∀{W:World},k<W.heap.size->(∃x∈K,k=x.2.block)->(RWs w K W).heap[k]?=w.heap[k]?:=by
 induction K with
 |nil=>simp_all
 |cons x K ih=>
  intro W h1 h;simp[RWs];have ⟨y,hy,e⟩:=h;rcases List.mem_cons.1 hy with rfl|hy
  ·exact Iy h2 (by rw[jT];exact h1) (by rw[e];rw[e]at h1 h2;exact pQ h1 h2)
  ·exact ih (by rw[jT];exact h1) ⟨y,hy,e⟩
section
variable {P:Program} {M:Fm} {σ σ':St} {H:List TV} {xs:List Value} {ts:Array Value} {w:World} {G:Gh} {a:Act} {o:Oper}
theorem EP{p:cj}{t:TV}(h:(tC p t).run σ=some ((),σ')){r:Nat}(hr:r≠p.root)(o n:Nat):gG σ'.v r o n=gG σ.v r o n:=by
 unfold tC at h;simp only[SP.run]at h
 have bump:∀{vr:List (Key×Nat)},σ'.vr=vr->(∀q,nP vr q=nP σ.vr q+if(p.root,p.off,p.hops.length+1)=q then 1 else 0)->gG σ'.v r o n=gG σ.v r o n:=by
  intro vr e hv
  have YA:∀q,σ'.v q=σ.v q+if(p.root,p.off,p.hops.length+1)=q then 1 else 0:=λq=>by unfold St.v;rw[e];exact hv q
  rw[ir]
  have hne:∀o' d,((p.root,p.off,p.hops.length+1):Key)≠(r,o',d):=λo' d e=>by
   simp_all
  simp_all
 cases hg:cw (σ.c p.root p.off) p.hops with
 |none=>simp[hg,SP.run]at h
 |some old=>
  simp only[hg]at h;split at h
  ·split at h
   ·obtain⟨l,hl,ho,h3⟩:=cB h;simp only[SP.run,oSJ,oPJ,true_and]at h3;exact bump (vr:=lS σ.vr (p.root,p.off,p.hops.length+1)) (by rw[<- h3]) λq=>eF _ _ _
   ·simp[SP.run]at h
  ·obtain⟨l,hl,ho,h3⟩:=cB h;simp only[SP.run,oSJ,oPJ,true_and]at h3
   have hv:σ'.v=σ.v:=by rw[<- h3];rfl
   rw[hv]
theorem ER:∀{l:List TV}{p:cj}{σ σ':St},(putL p l).run σ=some ((),σ')->∀{r:Nat},r≠p.root->∀o n,gG σ'.v r o n=gG σ.v r o n:=by
 intro l
 induction l with
 |nil=>
  intro p σ σ' h r hr o n;simp[putL,SP.run]at h;rw[h]
 |cons t l ih=>
  intro p σ σ' h r hr o n;have ⟨_,σ1,h1,h2⟩:=bS h;rw[<- EP h1 hr o n]
  cases l with
  |nil=>
   simp[SP.run]at h2;rw[h2]
  |cons t2 l=>
   simp only at h2;split at h2
   ·exact ih h2 (by rw[dC];exact hr) o n
   ·simp[SP.run]at h2
theorem xC:∀{q:List (GP×List TV)}{σ σ':St},(putBack q).run σ=some ((),σ')->∀{r:Nat},(∀x∈q,r≠x.1.p.root)->∀o n,gG σ'.v r o n=gG σ.v r o n:=by
 intro q
 induction q with
 |nil=>
  intro σ σ' h r hr o n;simp[putBack,SP.run]at h;rw[h]
 |cons x q ih=>
  intro σ σ' h r hr o n;have ⟨g,l⟩:=x;have ⟨_,σ1,h1,h2⟩:=bS h;split at h2
  ·rw[ER h2 (hr (g,l) (by simp)) o n];exact ih h1 (λx hx=>hr x (by simp[hx])) o n
  ·simp[SP.run]at h2
def Seg(w W:World)(x:GP×Addr)(vs:List Value):Prop:=
 ∃cur0 cur e fz,w.heap[x.2.block]?=some (.cells cur0 e fz)/\W.heap[x.2.block]?=some (.cells cur e fz)/\cur.size=cur0.size/\(∀j,(j<x.2.off\/x.2.off+vs.length<=j)->cur[j]?=cur0[j]?)/\∀j (h:j<vs.length),cur[x.2.off+j]?=some vs[j]
theorem CK{f:GP×Addr->List TV}{v:GP×Addr->List Value}(hfv:∀x,(f x).length=(v x).length):∀{K:List (GP×Addr)}{σ σ':St}{H0:List TV}{x0:List Value}{W:World}{G:Gh},H0.length=x0.length ->
 Inv M σ (H0++K.flatMap f) (x0++K.flatMap v) ts (RWs w K W) G->(∀x∈K,Seg w W x (v x))->(∀x∈K,f x≠[])->(∀x∈K,∀y∈K,x.2.block=y.2.block->x=y)->jW (K.map λx=>x.1.p.root)=true ->
 (∀x∈K,x.1.p.root≠1/\G.addr (RWs w K W) x.1.p=some x.2/\∃t,cw (cC M σ (H0++K.flatMap f) x.1.p.root x.1.p.off) x.1.p.hops=some t)->
 (putBack (K.map λx=>(x.1,f x))).run σ=some ((),σ')->∃G',Inv M σ' H0 x0 ts W G'/\σ'.tm=σ.tm/\gY M (RWs w K W) σ (H0++K.flatMap f) G W σ' H0 G'/\G'.β=G.β:=by
 intro K
 induction K with
 |nil=>
  intro σ σ' H0 x0 W G VO hI _ _ _ _ _ hr;simp only[List.map_nil,putBack,SP.run,oSJ,oPJ,true_and]at hr;subst hr;have hI:Inv M σ (H0++[]) (x0++[]) ts W G:=hI;rw[List.append_nil,List.append_nil]at hI;refine⟨G,hI,rfl,?_,rfl⟩;show gY M W σ (H0++[]) G W σ H0 G;rw[List.append_nil];exact gY.refl _ _ _ _ _
 |cons x K ih=>
  intro σ σ' H0 x0 W G VO hI Se hne US ZN Z3 hr;simp only[List.map_cons,putBack]at hr;obtain⟨_,σ1,h1,h2⟩:=bS hr;split at h2
  case isFalse=>simp[SP.run]at h2
  rename_i Yo;simp at Yo;simp only[List.map_cons,jW,oBA,Bool.not_eq_true',List.contains_eq_mem,decide_eq_false_iff_not]at ZN;have NE:∀y∈K,y.1.p.root≠x.1.p.root:=λy hy e=>ZN.1 (by rw[<- e];exact List.mem_map.2 ⟨y,hy,rfl⟩)
  have OS:∀y∈K,x.2.block≠y.2.block:=λy hy e=>by
   have:=US x (by simp) y (by simp[hy]) e;exact NE y hy (by rw[this])
  have Zz:Inv M σ ((H0++f x)++K.flatMap f) ((x0++v x)++K.flatMap v) ts (RWs w K (fm w W x.2.block)) G:=by
   simpa[RWs,List.append_assoc]using hI
  obtain⟨G1,hI1,PQ,Nm,hβ1⟩:=ih (W:=fm w W x.2.block) (by simp[VO,hfv]) Zz (λy hy=>by
   obtain⟨cur0,cur,e,fz,s1,s2,s3⟩:=Se y (by simp[hy])
   exact⟨cur0,cur,e,fz,s1,by rw[mL (Ne.symm (OS y hy))];exact s2,s3⟩) (λy hy=>hne y (by simp[hy])) (λy hy z hz=>US y (by simp[hy]) z (by simp[hz])) ZN.2
   (λy hy=>by have:=Z3 y (by simp[hy]);simpa[RWs,List.append_assoc]using this) h1
  obtain⟨Z5,ha,t0,Z6⟩:=Z3 x (by simp)
  have Xw:=xC h1 (r:=x.1.p.root) (λy hy=>by
   obtain⟨z,hz,rfl⟩:=List.mem_map.1 hy
   exact Ne.symm (NE z hz)) x.1.p.off x.1.p.hops.length
  obtain⟨t1,SY,Na⟩:=Nm.keeps.ptr x.1.p x.2 t0 Z5 Xw (by simpa[RWs]using ha) (by simpa[List.append_assoc]using Z6)
  have XX:(H0++f x).drop H0.length=f x:=by simp
  obtain⟨_,G2,H2,ZJ,e1,e2,e3,e4,e5,e6⟩:=ES (k:=H0.length) hI1 Z5 SY XX (hne x (by simp)) (λj hj hk=>by
   intro e
   have ZU:j-H0.length<(f x).length:=by simp at hj;omega
   have:(H0++f x)[j]=(f x)[j-H0.length]:=by rw[List.getElem_append_right hk]
   rw[this]at e;have:=Yo.2 _ (List.getElem_mem ZU);rw[e]at this
   simp[BG]at this) h2
  obtain⟨cur0,cur,e,fz,s1,s2,s3,s4,s5⟩:=Se x (by simp)
  have Td:(x0++v x).drop H0.length=v x:=by rw[VO];simp
  rw[Td,qW s1 s2 s3 s4 s5]at ZJ e5;obtain⟨WV,e7⟩:=ZJ.trunc (k:=H0.length) e2
  have hT:H2.take H0.length=H0:=by
   apply List.ext_getElem
   ·simp[e1]
   ·intro j hj ZU;rw[List.getElem_take];rw[e3 j (by rw[e1];simp;omega) (by simp;omega) ZU];rw[List.getElem_append_left ZU]
  have hX:(x0++v x).take H0.length=x0:=by rw[VO];simp
  rw[hT]at WV e7;rw[hX]at WV;refine⟨G2,WV,e4.trans PQ,?_,e6.trans hβ1⟩;have hm2:gY M (fm w W x.2.block) σ1 (H0++f x) G1 W σ' H0 G2:=⟨e5.size,by rw[e7];exact e5.keeps,e5.heap,e5.free⟩;have:=Nm.trans hm2;simpa[RWs,List.append_assoc]using this
end
def io(P:Program)(f:FuncId):Prop:=∀args w,(callFunc f args).run P w=.ok (.enter f args) w
theorem jE{P:Program}{f:FuncId}{fn:Func}{c:Code}(hf:P.funcs[f]?=some fn)(Uo:(fn.name=="runtime.NumGoroutine")=false)(hb:fn.body=some c):io P f:=by
 intro args w;unfold callFunc
 simp_all
def L5(M:Fm)(res:tD)(v:Value)(σ2:St)(w2:World):Prop:=
 (∃ys ts2 G2,v=jw res.sh ys/\Inv M σ2 res.cells ys ts2 w2 G2/\∀j (h:j<res.cells.length),cZ res.cells[j]=true\/jK res.cells[j]=true)\/
 ∃q vs l pv ts2 G2,res.cells=.ptr q vs::l/\(∃sh,res.sh=.ptr::sh)/\l.all yY=true/\v=uJ pv (l.map unV)/\Inv M σ2 [] [] ts2 w2 G2/\LN w2 (cC M σ2 []) G2 q pv
def eW(P:Program)(F:dy):Prop:=
 ∀f vals pts res Zt,F f vals pts=some (res,Zt)->io P f/\∃N,vals.length<=N/\∀(M:Fm)(asq:List Value)(w:World)(G:Gh),asq.length=vals.length->M.N=N->M.w0=w->(∀r,M.pr r≠none->∃i p vs,vals[i]?=some (.ptr p vs)/\r=2*i+2)->
  Inv M (mkSt vals pts) [] [] (asq.toArray++Array.replicate (N-asq.length) undef) w G ->
  Calls P f asq.toArray w λe w2=>∃v σ2,e=.returned v/\L5 M res v σ2 w2/\Zt=pts.map λx=>(x.1,(cA σ2.ce x.1).getD [])
def DH(P:Program)(E:Env):Prop:=
 ∀f n tm,E.box f=some (n,tm)->io P f/\(∀x,.val x∈tm->fh x=true)/\∃ty,∀(asq:List Value)(w:World),asq.length=n->(∀y∈tm.map (bxV asq),y.oneCell'=true)->
  Calls P f asq.toArray w λe w'=>e=.returned (.pointer (some ⟨w.heap.size,0,none⟩))/\w'=w.alloc (.cells (tm.map (bxV asq)).toArray ty)
def mi:Op->TOp->Prop
 |.call ⟨.value f,args,_⟩,.call _ f' args'=>bZ f=some f'/\args'.length=args.size/\∀j (h:j<args'.length)(h':j<args.size),bZ args[j]=some args'[j].2
 |_,_=>False
def Kp:TOp:=.call false (.c undef) []
def gT(op:Op)(t:TOp):Prop:=t=Kp\/mi op t
section
variable {P:Program} {M:Fm} {σ σ':St} {H:List TV} {xs:List Value} {ts:Array Value} {w:World} {G:Gh} {a:Act} {o:Oper}
theorem yS:∀{l:List TV}{i:Nat},(argTs i l).length=l.length:=by
 intro l
 induction l with
 |nil=>intro i;rfl
 |cons t l ih=>intro i;simp[argTs,ih]
theorem Er{F:Nat->Prop}{V:Vs}{C:Cs}:∀{sh:List RSh}{l:List TV}{ys:List Value},l7 sh l.length=true->l.length=ys.length->(∀j (h:j<l.length),TmR w F V C G l[j] (ys.getD j undef))->
 (gA sh l).length=(eM sh ys).length/\∀j (h:j<(gA sh l).length),TmR w F V C G (gA sh l)[j] ((eM sh ys).getD j undef):=by
 intro sh
 induction sh with
 |nil=>intro l ys _ _ _;exact⟨rfl,λj h=>by simp[gA]at h⟩
 |cons s sh ih=>
  intro l ys hs hl ht
  cases s with
  |one=>
   simp only[l7,oBA,oDE]at hs
   cases l with
   |nil=>simp at hs
   |cons t l=>
    cases ys with
    |nil=>simp at hl
    |cons y ys=>
     obtain⟨e,h2⟩:=ih (l:=l) (ys:=ys) (by simpa using hs.2) (by simpa using hl) λj h=>by have:=ht (j+1) (by simpa using h);simpa using this
     refine⟨by simp[gA,eM,e],λj h=>?_⟩
     cases j with
     |zero=>have:=ht 0 (by simp);simpa[gA,eM]using this
     |succ j=>have:=h2 j (by simpa[gA]using h);simpa[gA,eM]using this
  |agg n=>
   simp only[l7,oBA,oDE]at hs
   obtain⟨e,h2⟩:=ih (l:=l.drop n) (ys:=ys.drop n) (by simpa using hs.2) (by simp[hl]) λj h=>by
    have h':n+j<l.length:=by simp at h;omega
    simp_all
   refine⟨by simp[gA,eM,e],λj h=>?_⟩
   cases j with
   |zero=>
    refine .agg (by simp;omega) λj hj=>?_
    have ZU:j<n/\j<l.length:=by simp at hj;omega
    simp_all
   |succ j=>have:=h2 j (by simpa[gA]using h);simpa[gA,eM]using this
  |ptr=>simp[l7]at hs
theorem xr{F:Nat->Prop}{V:Vs}{C:Cs}{sh:List RSh}{l:List TV}{ys:List Value}(hs:l7 sh l.length=true)(hl:l.length=ys.length)(ht:∀j (h:j<l.length),TmR w F V C G l[j] (ys.getD j undef)):TmR w F V C G (oA sh l) (jw sh ys):=by
 obtain⟨e,h2⟩:=Er hs hl ht;by_cases h1:∃x,gA sh l=[x]
 ·obtain⟨x,hx⟩:=h1;have ⟨y,hy⟩:∃y,eM sh ys=[y]:=List.length_eq_one_iff.1 (by simp_all)
  have e1:oA sh l=x:=by unfold oA;rw[hx]
  have e2:jw sh ys=y:=by unfold jw;rw[hy]
  simp_all
 ·have hne:¬ ∃y,eM sh ys=[y]:=λ⟨y,hy⟩=>h1 (List.length_eq_one_iff.1 (by rw[e,hy];rfl))
  have e1:oA sh l=TV.tup (gA sh l):=by
   unfold oA
   simp_all
  have e2:jw sh ys=Value.tuple (eM sh ys).toArray:=by
   unfold jw
   simp_all
  rw[e1,e2];refine .tup (by simp[e]) λj hj=>?_;have:=h2 j hj
  simp_all
theorem J8{res:tD}{ys:List Value}(hI:Inv M σ res.cells ys ts w G)(hok:∀j (h:j<res.cells.length),cZ res.cells[j]=true\/jK res.cells[j]=true)(hs:l7 res.sh res.cells.length=true)
 {dst:Option Nat}(hd:∀d,dst=some d->d<M.N)(hr:(landR dst res).run σ=some ((),σ')):∃G',Inv M σ' [] [] (match dst with|some d=>ts.setIfInBounds d (jw res.sh ys)|none=>ts) w G':=by
 cases dst with
 |none=>
  simp[landR,SP.run]at hr;subst hr;have ⟨G',hg,_⟩:=hI.drop;exact⟨G',hg.1⟩
 |some d=>
  have ⟨l,σ1,h1,h2⟩:=bS hr;have ⟨G1,hI1,_,hl,ht⟩:=rr hI hok h1;simp[wr,SP.run]at h2;subst h2;exact⟨G1,hI1.wrT (hd d rfl) (xr (by simp_all) (by rw[hl];exact hI.hand) ht)⟩
end
def frM(w:World)(N:Nat):Fm:=⟨w,λ_=>True,λ_=>False,λ_=>none,N,λ_ _=>trivial⟩
def frG:Gh:=⟨λ_=>none,λ_ _=>undef,λ_ _ _=>False⟩
theorem jV(l:List TV):∀i k,cA (eC i l) k=if k<i then none else l[k-i]?:=by
 induction l with
 |nil=>intro i k;simp[eC,cA]
 |cons t l ih=>
  simp[eC,cA]
  grind
def AT(w:World)(t:TV)(x:Value):Prop:=∀F V C G,(∀k,F k)->TmR w F V C G t x
theorem f8.plain{w:World}{F:Nat->Prop}{t:TV}{x:Value}(h:f8 w F t x):AT w t x:=λ_ _ _ _ hF=>(h.frame (λ_ _ _=>rfl) λk _ _=>hF k).toTm
theorem calls_flat{P:Program}{F:dy}(hF:eW P F){f:FuncId}{vals:List TV}{avs:List Value}{res:tD}{w:World}(h:F f vals []=some (res,[]))(Zq:res.cells.all yY=true)(hl:avs.length=vals.length)
 (hv:∀j (h:j<vals.length)(h':j<avs.length),AT w vals[j] avs[j]):io P f/\Calls P f avs.toArray w λe w'=>e=.returned (jw res.sh (res.cells.map unV))/\Below w.heap.size w w':=by
 obtain⟨Y8,N,hN,hc⟩:=hF f vals [] _ _ h;refine⟨Y8,?_⟩;have Y7:∀k,frG.F (frM w N).A k:=λk=>⟨trivial,λ_ _ h=>h,λ_ _ _ _ h=>by simp[frG]at h⟩
 have hst:∀i,(mkSt vals []).t i=vals.getD i .dead:=by
  intro i;simp[St.t,mkSt,jV]
 have hE:∀r o,cC (frM w N) (mkSt vals []) [] r o=.dead:=by
  intro r o;unfold cC;split
  ·simp
  ·rfl
 have hI:Inv (frM w N) (mkSt vals []) [] [] (avs.toArray++Array.replicate (N-avs.length) undef) w frG:=by
  refine⟨⟨λr o=>.inl ⟨hE r o,λ_ h=>h⟩,λ_ _ _ _ h=>by simp[frG]at h,λ_ _ _ _ h=>by simp[frG]at h,λ_ _ _ _ _ _ _ h=>by simp[frG]at h,λ_ _ _ _ h=>by simp[frG]at h,λ_ _ _ _ _ h=>h.elim,λ_ _ _ h=>h.elim⟩,λi=>?_,⟨rfl,rfl,rfl,Nat.le_refl _,λ_ _ _ _=>rfl,λ_ _ _ _ h=>by simp[frM]at h,λ_ _ _ h=>h.elim,λ_ _ _ _ h=>by simp[frG]at h,λ_ h=>by simp[frG]at h⟩,λr l h=>by simp[mkSt,cA]at h,?_,rfl,λj hj=>by simp at hj,λ_ _ _ _ h=>by simp[frG]at h⟩
  ·rw[hst];by_cases hi:i<vals.length
   ·have ZM:i<avs.length:=by omega
    have e1:vals.getD i .dead=vals[i]:=by simp[hi]
    have e2:(avs.toArray++Array.replicate (N-avs.length) undef).getD i undef=avs[i]:=by
     simp[Array.getElem?_append,ZM]
    rw[e1,e2];exact hv i hi ZM _ _ _ frG Y7
   ·have e1:vals.getD i .dead=.dead:=by rw[oGD,oGN (by omega)];rfl
    rw[e1];exact .dead
  ·show(avs.toArray++Array.replicate (N-avs.length) undef).size=N;simp;omega
 refine(hc (frM w N) avs w frG hl rfl rfl (λr hr=>by simp[frM]at hr) hI).mono λe w2 ⟨v,σ2,he,Yf,_⟩=>?_
 rcases Yf with⟨ys,ts2,G2,rfl,ZJ,_⟩|⟨q,vs,l,pv,ts2,G2,ZV,_⟩
 rotate_left
 ·rw[ZV]at Zq;simp[yY]at Zq
 have X':ys=res.cells.map unV:=by
  have hlen:res.cells.length=ys.length:=ZJ.hand;apply List.ext_getElem
  ·rw[List.length_map,hlen]
  ·intro j h1 h2
   have hj:j<res.cells.length:=by omega
   have We:=List.all_eq_true.1 Zq res.cells[j] (List.getElem_mem hj)
   have hown:=ZJ.hand_own (j:=j) hj (by
    intro e;rw[e]at We
    simp[yY]at We)
   rw[List.getElem_map]
   have e1:ys.getD j undef=ys[j]:=by simp[oGD,h1]
   rw[e1]at hown
   cases hc:res.cells[j]with
   |v x=>
    rw[hc]at hown
    cases hown with
    |v _ _=>rfl
   |_=>rw[hc]at We;simp[yY]at We
 subst X';exact⟨he,⟨ZJ.fram.os,ZJ.fram.tape,ZJ.fram.output,ZJ.fram.size,λk hk=>ZJ.fram.old k hk (λh=>h) λ_ _ _ _ h=>by simp[frM]at h⟩⟩
section
variable {P:Program} {M:Fm} {σ σ':St} {H:List TV} {xs:List Value} {ts:Array Value} {w:World} {G:Gh} {a:Act} {o:Oper}
theorem EE{t t':TV}{x:Value}(hI:Inv M σ H xs ts w G)(hx:TmR w (G.F M.A) σ.v (cC M σ H) G t x)(hr:(see1 t).run σ=some (t',σ')):σ'=σ/\f8 w (λ_=>True) t' x:=by
 cases hx with
 |v h=>
  obtain⟨rfl,rfl⟩:=hr;exact⟨rfl,.v h⟩
 |nil=>
  obtain⟨rfl,rfl⟩:=hr;exact⟨rfl,.sl 1 (λ_ _=>.nilFunc) (λi h=>by simp at h) (Nat.le_refl _) (Nat.zero_le _) (λ_=>rfl) (λi j h=>by simp at h) (λi j h=>by simp at h)⟩
 |sl h=>
  obtain⟨rfl,rfl⟩:=hr;exact⟨rfl,h.frame (λ_ _ _=>rfl) λ_ _ _=>trivial⟩
 |dead=>simp[see1,SP.run]at hr
 |ptr=>simp[see1,SP.run]at hr
 |ip=>simp[see1,SP.run]at hr
 |agg=>simp[see1,SP.run]at hr
 |tup=>simp[see1,SP.run]at hr
 |fn=>simp[see1,SP.run]at hr
 |pw=>simp[see1,SP.run]at hr
 | @pk p vs x V0 h0 hv hok=>
  obtain⟨_,σ1,h1,h2⟩:=bS hr;have e1:=(cq h1).1;have e2:=(cq h1).2;subst e1;obtain⟨_,c,Zv,Z6⟩:=hok e2;simp only[SP.run]at h2
  have Z4:p.root≠M.hr:=by
   intro e;rw[e]at h2;rw[hI.hr_dead]at h2;cases hp:p.hops<;>rw[hp]at h2<;>simp[cw,SP.run]at h2
  obtain⟨u,fp,h4,h5,_⟩:=hI.core.hv_own p Z6 (by simp);rw[cx Z4]at Z6;rw[Z6]at h2;obtain⟨rfl,rfl⟩:=h2;rw[Zv]at h4
  injection h4 with h4
  subst h4;exact⟨rfl,h5.share'.frame (λ_ _ _=>rfl) λ_ _ _=>trivial⟩
theorem JR:∀{l l':List TV}{ys:List Value},Inv M σ H xs ts w G->l.length=ys.length->(∀j (h:j<l.length),TmR w (G.F M.A) σ.v (cC M σ H) G l[j] (ys.getD j undef))->(seeL l).run σ=some (l',σ')->
 σ'=σ/\l'.length=l.length/\∀j (h:j<l'.length),f8 w (λ_=>True) l'[j] (ys.getD j undef):=by
 intro l
 induction l generalizing σ σ' with
 |nil=>
  intro l' ys hI hl _ hr;simp only[seeL,SP.run,oSJ,oPJ]at hr
  simp_all
 |cons t l ih=>
  intro l' ys hI hl ht hr
  cases ys with
  |nil=>simp at hl
  |cons y ys=>
   obtain⟨t',σ1,h1,h2⟩:=bS hr;have ⟨r',σ2,h3,h4⟩:=bS h2;obtain⟨rfl,rfl⟩:=h4;obtain⟨rfl,k1⟩:=EE hI (by have:=ht 0 (by simp);simpa using this) h1;obtain⟨rfl,k2,k3⟩:=ih hI (by simpa using hl) (λj h=>by have:=ht (j+1) (by simpa using h);simpa using this) h3;refine⟨rfl,by simp[k2],λj h=>?_⟩
   cases j with
   |zero=>simpa using k1
   |succ j=>have:=k3 j (by simpa using h);simpa using this
theorem JS{t t':TV}{x:Value}(hI:Inv M σ H xs ts w G)(hx:TmR w (G.F M.A) σ.v (cC M σ H) G t x)(hr:(seeA t).run σ=some (t',σ')):σ'=σ/\AT w t' x:=by
 have one:(see1 t).run σ=some (t',σ')->σ'=σ/\AT w t' x:=λh=>by
  obtain⟨e,k⟩:=EE hI hx h;exact⟨e,k.plain⟩
 cases t with
 |agg l=>
  obtain⟨l',σ1,h1,h2⟩:=bS hr;obtain⟨rfl,rfl⟩:=h2
  cases hx with
  | @agg _ ys hl ht=>
   obtain⟨e,k1,k2⟩:=JR (ys:=ys.toList) hI (by simp_all) (λj h=>by simp_all) h1;refine⟨e,λF V C G' hF=>.agg (by rw[hl,k1]) λj hj=>?_⟩;have:=k2 j hj
   have e3:ys.getD j undef=ys.toList.getD j undef:=by simp_all
   rw[e3];exact this.plain F V C G' hF
 |ip cs=>
  obtain⟨rfl,rfl⟩:=hr
  cases hx with
  |ip u hc hr=>exact⟨rfl,λF V C G' hF=>.ip u (λj hj=>⟨hF _,(hc j hj).2⟩) λj hj=>(hr j hj).frame (λ_ _ _=>rfl) λk _ _=>hF k⟩
 |fn f cap=>
  simp only[seeA]at hr;split at hr
  ·rename_i hc;obtain⟨rfl,rfl⟩:=hr;rw[List.all_eq_true]at hc
   cases hx with
   |fn hl ht=>exact⟨rfl,λF V C G' hF=>.fn hl λj hj=>(((ht j hj).imC (hc _ (List.getElem_mem hj))).frame (λ_ _ _=>rfl) λk _ _=>hF k).toTm⟩
  ·simp[SP.run]at hr
 |_=>exact one hr
theorem GY:∀{l:List Opd}{l':List Operand}{Xz:List TV}{σ σ':St},Inv M σ [] [] a.tmps w G->l'.length=l.length->(∀j (h:j<l.length)(h':j<l'.length),bZ l'[j]=some l[j])->(seeAs l).run σ=some (Xz,σ')->
 σ'=σ/\Xz.length=l.length/\∀j (h:j<Xz.length)(h':j<l'.length),AT w Xz[j] (a.eval l'[j]):=by
 intro l
 induction l with
 |nil=>
  intro l' Xz σ σ' hI hl hc hr;simp[seeAs,SP.run]at hr
  simp_all
 |cons x l ih=>
  intro l' Xz σ σ' hI hl hc hr
  cases l' with
  |nil=>simp at hl
  |cons x' l'=>
   obtain⟨t,σ1,h1,h2⟩:=bS hr;obtain⟨t',σ2,h3,h4⟩:=bS h2;obtain⟨r,σ3,h5,h6⟩:=bS h4;obtain⟨rfl,rfl⟩:=h6;obtain⟨rfl,ht⟩:=cW hI.tmr (by have:=hc 0 (by simp) (by simp);simpa using this) h1;obtain⟨rfl,k1⟩:=JS hI ht h3;obtain⟨rfl,k2,k3⟩:=ih (l':=l') hI (by simpa using hl) (λj h h'=>by have:=hc (j+1) (by simpa using h) (by simpa using h');simpa using this) h5;refine⟨rfl,by simp[k2],λj h h'=>?_⟩
   cases j with
   |zero=>exact k1
   |succ j=>exact k3 j (by simpa using h) (by simpa using h')
theorem Ip{F:dy}(hF:eW P F){asq:List Value}{vals:List TV}{YU:FuncId}(hd:∀d,o.dst=some d->d<M.N/\M.pr (2*d+2)=none)(hI1:Inv M σ [] [] a.tmps w G)(hal:asq.length=vals.length)
 (Wp:∀j (h:j<vals.length)(h':j<asq.length),AT w vals[j] asq[j])(h2:(callB F o.dst YU vals).run σ=some ((),σ'))(Ys:io P YU->(execOp a.eval o).run P w=.ok (.enter YU asq.toArray) w):KQ P M σ' a o w:=by
 intro K' Q hK;obtain⟨r,σ1,h3,h4⟩:=bS h2
 have WU:F YU vals []=some r/\σ1=σ:=by
  cases hq:F YU vals []with
  |none=>rw[hq]at h3;simp[g8,SP.run]at h3
  |some y=>
   rw[hq]at h3;simp only[g8,SP.run,oSJ,oPJ]at h3
   simp_all
 obtain⟨WU,rfl⟩:=WU;split at h4
 case isFalse=>simp[SP.run]at h4
 rename_i Yo;simp only[oBA,oDE]at Yo;obtain⟨res,Zt⟩:=r;obtain rfl:Zt=[]:=oEN Yo.1.1;obtain⟨Y8,VD⟩:=calls_flat hF WU Yo.1.2 hal Wp;unfold Oper.wp;rw[Ys Y8,Oper.upon_enter];refine VD.mono λe w2 ⟨he,hb⟩=>?_;subst he;simp only;have ZJ:=(hI1.grow (w':=w2) (λk hk=>hb.block k hk) hb.size hb.os hb.tape hb.output).1;refine hK (a.put o.dst (jw res.sh (res.cells.map unV))) w2 G ?_ (kJ _ _ _)
 cases hdst:o.dst with
 |none=>
  rw[hdst]at h4;simp only[SP.run,oSJ,oPJ,true_and]at h4;rw[<- h4];exact ZJ
 |some d=>
  rw[hdst]at h4;simp only[wr,SP.run,oSJ,oPJ,true_and]at h4;rw[<- h4];refine ZJ.wrT (hd d hdst).1 (xr Yo.2 (by simp) λj hj=>?_);have We:=List.all_eq_true.1 Yo.1.2 res.cells[j] (List.getElem_mem hj)
  have e1:(res.cells.map unV).getD j undef=unV res.cells[j]:=by simp[oGD,hj]
  rw[e1]
  cases hc:res.cells[j]with
  |v x=>rw[hc]at We;exact .v We
  |_=>rw[hc]at We;simp[yY]at We
end
section
variable {P:Program} {M:Fm} {σ σ':St} {H:List TV} {xs:List Value} {ts:Array Value} {w:World} {G:Gh} {a:Act} {o:Oper}
theorem zF:∀{q:List (GP×List TV)}{σ σ':St},(putBack q).run σ=some ((),σ')->∀x∈q,x.2.length=x.1.cells.length:=by
 intro q
 induction q with
 |nil=>simp_all
 |cons y q ih=>
  intro σ σ' h x hx;have ⟨_,σ1,h1,h2⟩:=bS h;split at h2
  ·rename_i Yo;rcases List.mem_cons.1 hx with rfl|hx
   ·simp_all
   ·exact ih h1 x hx
  ·simp[SP.run]at h2
theorem qi.nodup{i:Nat}{vals:List TV}{asq us:List Value}{K:List (GP×Addr)}(h:qi w i vals asq K us):jW (K.map λx=>x.1.i)=true/\∀x∈K,i<=x.1.i:=by
 induction h with
 |nil=>exact⟨rfl,λx hx=>by simp_all⟩
 |ptr hr hb hs h0 hh hu hc hok h ih=>
  refine⟨?_,λx hx=>?_⟩
  ·simp only[List.map_cons,jW,oBA,Bool.not_eq_true',List.contains_eq_mem,decide_eq_false_iff_not];refine⟨λhm=>?_,ih.1⟩;have ⟨y,hy,e⟩:=List.mem_map.1 hm;have:=ih.2 y hy;omega
  ·rcases List.mem_cons.1 hx with rfl|hx
   ·simp_all
   ·have:=ih.2 x hx;omega
 |arg ha h ih=>exact⟨ih.1,λx hx=>by have:=ih.2 x hx;omega⟩
 |own h ih=>exact⟨ih.1,λx hx=>by have:=ih.2 x hx;omega⟩
theorem J2{K:List (GP×Addr)}(ZN:jW (K.map λx=>x.1.i)=true):∀x∈K,prK K (2*x.1.i+2)=some (x.2.block,x.2.off,x.1.cells.length):=by
 induction K with
 |nil=>simp_all
 |cons y K ih=>
  intro x hx;simp only[List.map_cons,jW,oBA,Bool.not_eq_true',List.contains_eq_mem,decide_eq_false_iff_not]at ZN;simp[prK];rcases List.mem_cons.1 hx with rfl|hx
  ·simp
  ·rw[oIN]
   ·exact ih ZN.2 x hx
   ·intro e;exact ZN.1 (List.mem_map.2 ⟨x,hx,by omega⟩)
theorem BO{α β:Type}{K:List (GP×Addr)}{f:GP×Addr->List α}{g:GP×Addr->List β}(h:∀x∈K,(f x).length=(g x).length):(K.flatMap f).length=(K.flatMap g).length:=by
 induction K with
 |nil=>rfl
 |cons x K ih=>simp_all
theorem wV{α β:Type}:∀{a:List α}{b c:List β},a.length<=b.length->a.zip (b++c)=a.zip b:=by
 intro a
 induction a with
 |nil=>simp_all
 |cons x a ih=>
  intro b c h
  cases b with
  |nil=>simp at h
  |cons y b=>simp_all
def pB(σ:St)(x:GP×Addr):List TV:=(cA σ.ce (2*x.1.i+2)).getD []
def uv(σ:St)(G:Gh)(w:World)(x:GP×Addr):List Value:=(List.range (pB σ x).length).map (G.val w (2*x.1.i+2))
theorem qi.hands2{vals:List TV}{asq us:List Value}{K:List (GP×Addr)}{N:Nat}{σ2:St}{res ys:_}{ts2:Array Value}{w2:World}{G2:Gh}(h:qi w 0 vals asq K us)(Z1:∀x∈K,0<x.1.cells.length)
 (h2:Inv (M.into w G (prK K) N) σ2 res ys ts2 w2 G2)(hlen:∀x∈K,(pB σ2 x).length=x.1.cells.length):
 Jd res ys (res++K.flatMap (pB σ2)) (ys++K.flatMap (uv σ2 G2 w2)) (cC (M.into w G (prK K) N) σ2 res) G2 w2 (prK K) (λr=>res.length+bsK K r):=by
 have Nl:∀x∈K,(uv σ2 G2 w2 x).length=x.1.cells.length:=λx hx=>by simp[uv,hlen x hx]
 refine⟨?_,λj hj=>⟨by simp;omega,List.getElem_append_left hj,?_⟩,λr b o n hp t ht=>?_,λj hj=>?_,λr b o n r' b' o' n' hp hp' j j' hj ZU e=>I9 _ _ _ _ _ _ _ _ hp hp' j j' hj ZU (by omega)⟩
 ·rw[List.length_append,List.length_append,h2.hand,BO (f:=pB σ2) (g:=uv σ2 G2 w2) λx hx=>by rw[hlen x hx,Nl x hx]]
 ·rw[oGD,oGD,List.getElem?_append_left (by rw[<- h2.hand];exact hj)]
 ·obtain⟨x,x1,x2,x3,x4,x5,x6,x7⟩:=yy hlen hp;obtain⟨y,y1,y2,y3,y4,y5,y6,y7⟩:=yy Nl hp;have Te:x=y:=pV h.nodup.1 x1 y1 (by omega);subst Te
  have Tb:t<(pB σ2 x).length:=by rw[hlen x x1];omega
  have e1:=x7 t ht;rw[oGE Tb]at e1;obtain⟨k1,k2⟩:=oGS e1;refine⟨by rw[List.length_append];omega,by omega,?_,?_⟩
  ·have e2:(res++K.flatMap (pB σ2))[res.length+bsK K r+t]'(by rw[List.length_append];omega)=(K.flatMap (pB σ2))[bsK K r+t]:=by
    rw[List.getElem_append_right (by omega)];congr 1;omega
   rw[e2,k2]
   rw[cx (by have:r≠1:=by omega
             exact this)]
   unfold St.c
   have hb:pB σ2 x=(cA σ2.ce r).getD []:=by rw[x2];rfl
   cases ha:cA σ2.ce r with
   |none=>rw[hb,ha]at Tb;simp at Tb
   |some l=>
    simp only[hb,ha,Option.getD_some]at Tb⊢;simp[Tb]
  ·have e3:=y7 t ht;rw[oGD,List.getElem?_append_right (by rw[<- h2.hand];omega)];rw[show res.length+bsK K r+t-ys.length=bsK K r+t by rw[<- h2.hand];omega];rw[e3,x2];simp[uv,Tb]
 ·by_cases hj1:j<res.length
  ·exact .inl hj1
  ·right;have hc:(K.flatMap (pB σ2)).length=(ig K).length:=BO hlen;obtain⟨r,b,o,n,t,c1,c2,c3⟩:=LC h.nodup.1 (j:=j-res.length) (by rw[List.length_append]at hj;omega);exact⟨r,b,o,n,t,c1,c2,by omega⟩
theorem EU:∀{l:List TV}{p:cj}{σ σ':St},p.hops=[]->(putL p l).run σ=some ((),σ')->(∀o,o<p.off->σ'.c p.root o=σ.c p.root o)/\∀t (h:t<l.length),σ'.c p.root (p.off+t)=l[t]:=by
 intro l
 induction l with
 |nil=>
  intro p σ σ' _ h;simp only[putL,SP.run,oSJ,oPJ,true_and]at h
  simp_all
 |cons y l ih=>
  intro p σ σ' hp h;obtain⟨r,off,hops⟩:=p;simp only at hp;subst hp;simp only[putL]at h;obtain⟨_,σ1,h1,h2⟩:=bS h
  have Zs:(∀o,o≠off->σ1.c r o=σ.c r o)/\σ1.c r off=y:=by
   obtain⟨old,l1,vr,hg,hl,ho,hσ1,_⟩:=Bt h1;subst hσ1;refine⟨λo hne=>?_,?_⟩
   ·simp only[St.c,cP,if_true,hl];simp[List.getElem?_set,Ne.symm hne]
   ·simp only[St.c,cP,if_true];simp[eo,List.getElem?_set,ho]
  cases l with
  |nil=>
   simp only[SP.run,oSJ,oPJ,true_and]at h2;subst h2;refine⟨λo ho=>Zs.1 o (by simp only at ho;omega),λt ht=>?_⟩
   have:t=0:=by simp at ht;omega
   subst this;exact Zs.2
  |cons y2 l=>
   have XI:(⟨r,off,[]⟩:cj).add 1=⟨r,off+1,[]⟩:=rfl;rw[XI]at h2;obtain⟨k1,k2⟩:=ih (p:=⟨r,off+1,[]⟩) rfl h2;refine⟨λo ho=>?_,λt ht=>?_⟩
   ·simp only at ho;exact(k1 o (by show o<off+1;omega)).trans (Zs.1 o (by omega))
   ·cases t with
    |zero=>simp_all
    |succ t=>
     have:=k2 t (by simpa using ht);rw[show off+(t+1)=off+1+t by omega];simpa using this
theorem xD{x:GP×Addr}{f:GP×Addr->List TV}(hx:x.1.p.hops=[])(h:(putBack ([x].map λx=>(x.1,f x))).run σ=some ((),σ')):∀t,t<(f x).length->σ'.c x.1.p.root (x.1.p.off+t)=(f x).getD t .dead:=by
 intro t ht;have ⟨_,σ1,h1,h2⟩:=bS h;split at h2
 ·rw[(EU hx h2).2 t ht];simp[ht]
 ·simp[SP.run]at h2
theorem B5{F:dy}(hF:eW P F){asq:List Value}{vals:List TV}{ns:List (Option Nat)}{YU:FuncId}{σ1:St}{G1:Gh}(hd:∀d,o.dst=some d->d<M.N/\M.pr (2*d+2)=none)(hI1:Inv M σ1 [] [] a.tmps w G1)(hns:ns.length=vals.length)(hal:asq.length=vals.length)
 (Wp:∀j (h:j<vals.length)(h':j<asq.length),TmR w (G1.F M.A) σ1.v (cC M σ1 []) G1 vals[j] asq[j])(h2:(callV F o.dst YU ns vals).run σ1=some ((),σ'))(Ys:io P YU->(execOp a.eval o).run P w=.ok (.enter YU asq.toArray) w):KQ P M σ' a o w:=by
 intro K' Q hK;unfold callV at h2;obtain⟨ow,σ0,h3o,h2⟩:=bS h2;obtain⟨q,σ2,h3,h4⟩:=bS h2
 have Vm:(ns.zip vals).length=vals.length:=by simp[hns]
 have Uy:(ns.zip vals).map (·.2)=vals:=by
  rw[List.map_snd_zip];omega
 have NJ:∀{σ1:St}{H1:List TV}{G1:Gh},(∀j (h:j<vals.length)(h':j<asq.length),TmR w (G1.F M.A) σ1.v (cC M σ1 H1) G1 vals[j] asq[j])->∀j (h:j<(ns.zip vals).length)(h':j<asq.length),TmR w (G1.F M.A) σ1.v (cC M σ1 H1) G1 (ns.zip vals)[j].2 asq[j]:=λh j h1 h2=>by
  have hj:j<vals.length:=by rw[<- Vm];exact h1
  have:=h j hj h2;simpa using this
 obtain⟨zs,G0,Zj,PA,RS⟩:=zf hI1 (by omega) (NJ Wp) h3o;obtain⟨us,G2,K,O',UG,hrel,So⟩:=H3 (asq:=asq) Zj.1 (by omega) (NJ λj h h'=>Zj.tm (Wp j h h')) h3;have S7:=HW h3;have ZH:=Zj.trans O';rw[Uy]at hrel;obtain⟨_,σ3,h5,h6⟩:=bS h4
 have Ua:([]:List TV)++ow.map (·.2)++q.flatMap (·.cells)=ow.map (·.2)++ig K:=by rw[<- UG];simp[ig,List.flatMap_map]
 rw[Ua,List.nil_append]at ZH;rw[Ua]at So;have hz:zs.length=ow.length:=PA.facts.1
 have PB:∀j p vs,vals[j]?=some (.pk p vs)->∃x∈ow,x.1=j:=λj p vs hj=>by
  obtain⟨hjl,hje⟩:=oGS hj
  have XE:j<ns.length:=by omega
  have P3:(ns.zip vals)[j]?=some (ns[j],.pk p vs):=by
   rw[oGE (by omega)];simp[hje]
  have hn:=S7 j _ p vs P3;rw[hn]at P3;obtain⟨x,h7,h8⟩:=RS j p vs P3;exact⟨x,h7,by omega⟩
 obtain⟨rfl,hre⟩:=G9 ZH.1 h5;split at h6
 case isFalse=>simp[SP.run]at h6
 rename_i Yo;simp only[oBA,List.all_eq_true,oDE]at Yo;obtain⟨ZN,Z1⟩:=Yo;have WJ:∀x∈K,0<x.1.cells.length:=λx hx=>Z1 x.1 (by rw[<- UG];exact List.mem_map_of_mem hx)
 have X5:=λj h h'=>by
  have:=ZH.tm (Wp j h (by omega));simpa using this
 have WA:∀x∈K,x.1.p.root≠1/\G2.addr w x.1.p=some x.2/\(∃t,cw (cC M σ3 (ow.map (·.2)++ig K) x.1.p.root x.1.p.off) x.1.p.hops=some t)/\((∃o n,G2.β x.1.p.root=some (x.2.block,o,n))\/G2.φ x.1.p.root x.1.p.off x.2.block):=λx hx=>by
  obtain⟨r1,ad,r2,r3,_,r4,r5⟩:=hre x.1 (by rw[<- UG];exact List.mem_map_of_mem hx) _ (So x hx)
  injection r2 with r2
  injection r2 with r2
  subst r2;exact⟨r1,r3,r4,r5⟩
 have hh:=hrel.hands ZH.1 PA (by rw[UG];exact ZN) WJ λx hx=>⟨(WA x hx).1,(WA x hx).2.2.2⟩;obtain⟨r,σ4,h7,h8⟩:=bS h6
 have WU:F YU (argTs 0 vals) (q.map (λg=>(2*g.i+2,g.cells))++ow.map λx=>(2*x.1+3,[x.2]))=some r/\σ4=σ3:=by
  cases hq:F YU (argTs 0 vals) (q.map (λg=>(2*g.i+2,g.cells))++ow.map λx=>(2*x.1+3,[x.2]))with
  |none=>rw[hq]at h7;simp[g8,SP.run]at h7
  |some r'=>
   rw[hq]at h7;simp only[g8,SP.run,oSJ,oPJ]at h7;exact⟨by rw[h7.1],h7.2.symm⟩
 obtain⟨WU,rfl⟩:=WU;obtain⟨res,Zt⟩:=r;simp only at h8;split at h8
 case isFalse=>simp[SP.run]at h8
 rename_i UM;simp only[oBA,oDE]at UM;obtain⟨_,σ5,h9,ZI⟩:=bS h8;obtain⟨Y8,N,hN,VD⟩:=hF YU _ _ _ _ WU;rw[yS]at hN
 have R2:(q.map (λg=>(2*g.i+2,g.cells))++ow.map λx=>(2*x.1+3,[x.2]))=ceK K++ceO ow:=by rw[<- UG];simp[ceK,ceO]
 have hin:=hrel.enter ZH.1 PA PB hh X5 (N:=N) (by omega)
 have Ty:=VD (M.into w G2 (prK K) N) asq w (G2.into (prK K) (λr=>ow.length+bsK K r) (owK ow) (zs++us)) (by rw[yS];exact hal) rfl rfl (λr hr=>by
  have hr:prK K r≠none:=hr
  cases hp:prK K r with
  |none=>exact absurd hp hr
  |some y=>
   obtain⟨b,o,n⟩:=y;obtain⟨x,x1,x2,_⟩:=iF hp;obtain⟨_,_,p,vs,s1⟩:=hrel.slot x x1;refine⟨x.1.i,⟨2*x.1.i+2,0,p.hops⟩,List.replicate (p.hops.length+1) 0,?_,x2⟩;rw[yT];have s1:vals[x.1.i]?=some (.ptr p vs):=s1;rw[s1]
   simp[argT]) (by rw[R2];exact hin)
 have hrun:=Ys Y8;unfold Oper.wp;rw[hrun,Oper.upon_enter];refine Ty.mono λe w2 ⟨v,σc,he,Yf,R3⟩=>?_;subst he;simp only
 have P2:q.zip (Zt.map (·.2))=K.map λx=>(x.1,pB σc x):=by
  rw[R3,R2,<- UG];simp only[ceK,List.map_append,List.map_map];rw[wV (by simp),List.zip_map'];rfl
 rw[P2]at h9;have WG:∀x∈K,(pB σc x).length=x.1.cells.length:=λx hx=>zF h9 _ (List.mem_map.2 ⟨x,hx,rfl⟩);have Zr:=J2 hrel.nodup.1
 have hlt:∀x∈K,x.2.block<w.heap.size:=λx hx=>by
  obtain⟨cur,e,fz,hb,_⟩:=mX (hh.here _ _ _ _ (Zr x hx) 0 (WJ x hx)).1;exact(Array.getElem?_eq_some_iff.1 hb).1
 have US:∀x∈K,∀y∈K,x.2.block=y.2.block->x=y:=λx hx y hy e=>by
  have h1:=Zr x hx;have h2:=Zr y hy;rw[<- e]at h2;have:=hh.inj _ _ _ _ _ _ _ h1 h2;exact pV hrel.nodup.1 hx hy (by omega)
 have back:∀{Hc:List TV}{ys:List Value}{ts2:Array Value}{Gc:Gh},Inv (M.into w G2 (prK K) N) σc Hc ys ts2 w2 Gc->∃G4,Inv M σ5 Hc ys a.tmps w2 G4/\G4.β=G2.β:=by
  intro Hc ys ts2 Gc V8;have hH2:=hrel.hands2 (M:=M) (G:=G2) (N:=N) WJ V8 WG;have hsz:w.heap.size<=w2.heap.size:=V8.fram.size
  obtain⟨G3,WV,hm3,hβ3⟩:=ZH.1.leave hh V8 hH2 (w':=RWs w K w2) Ix wS.1 wS.2.1 wS.2.2 (λk hk=>LL λx hx=>hk _ _ _ _ (Zr x hx)) (λr b o n hp=>by
   obtain⟨x,x1,x2,x3,_⟩:=iF hp;rw[x3]
   exact LM (hlt x x1) (Nat.lt_of_lt_of_le (hlt x x1) hsz) ⟨x,x1,rfl⟩)
  obtain⟨G4,Ub,htm4,hm4,hβ4⟩:=CK (w:=w) (f:=pB σc) (v:=uv σc Gc w2) (λx=>by simp[uv]) (K:=K) (W:=w2) V8.hand WV (λx hx=>by
   have hp:=Zr x hx;obtain⟨hβ,cur0,cur,e,fz,p1,p2,p3,p4⟩:=V8.fram.par _ _ _ _ hp
   have T0:(uv σc Gc w2 x).length=x.1.cells.length:=by simp[uv,WG x hx]
   refine⟨cur0,cur,e,fz,p1,p2,p3,λj hj=>p4 j (by rw[T0]at hj;exact hj),λj hj=>?_⟩;have UK:=V8.core.boxcell hβ (o:=j) (by omega);obtain⟨Yn,e',fz',c1,c2,c3⟩:=mX UK;rw[p2]at c1
   injection c1 with c1
   injection c1 with c1 _ _
   subst c1;rw[c3]
   simp[uv]) (λx hx e=>by have h1:=WG x hx;have h2:=WJ x hx;rw[e,List.length_nil]at h1;omega) US (by rw[<- UG]at ZN;simpa[Function.comp_def]using ZN) (λx hx=>by
   obtain⟨r1,r2,⟨t,r3⟩,_⟩:=WA x hx;obtain⟨t',k1,k2⟩:=hm3.keeps.ptr x.1.p x.2 t r1 rfl r2 r3
   exact⟨r1,k1,t',k2⟩) h9
  exact⟨G4,Ub,hβ4.trans hβ3⟩
 rcases Yf with⟨ys,ts2,Gc,rfl,V8,RU⟩|⟨pl,pvs,fl,pv,ts2,Gc,ZV,⟨shr,hsh⟩,Zq,rfl,V8,S8⟩
 ·obtain⟨G4,Ub,_⟩:=back V8
  have hP:isP res=false:=by
   cases hp:isP res with
   |false=>rfl
   |true=>
    unfold isP at hp;split at hp
    ·rename_i sh1 p vs l1 e1 e2;have:=RU 0 (by rw[e2];simp);simp[e2,cZ,jK]at this
    ·cases hp
  rw[hP]at ZI UM;simp only[Bool.false_eq_true,if_false,Bool.false_or]at ZI UM;obtain⟨G5,V7⟩:=J8 Ub RU UM.2 (dst:=o.dst) (λd hd'=>(hd d hd').1) ZI;refine hK (a.put o.dst (jw res.sh ys)) w2 G5 ?_ (kJ _ _ _)
  cases hdst:o.dst with
  |none=>rw[hdst]at V7;exact V7
  |some d=>rw[hdst]at V7;exact V7
 ·obtain⟨G4,Ub,hβ4⟩:=back V8
  have hP:isP res=true:=by unfold isP;rw[ZV,hsh]
  rw[hP]at ZI;simp only[if_true]at ZI
  have O7:∃G5,Inv M σ' [] [] (match o.dst with|some d=>a.tmps.setIfInBounds d (uJ pv (fl.map unV))|none=>a.tmps) w2 G5:=by
   cases hdst:o.dst with
   |none=>
    rw[hdst]at ZI;simp only[landP,SP.run,oSJ,oPJ,true_and]at ZI;subst ZI;exact⟨G4,Ub⟩
   |some d=>
    rw[hdst,ZV]at ZI;simp only[landP]at ZI;split at ZI
    case h_2=>simp[SP.run]at ZI
    rename_i pl' vs' l' g Xf Yj
    injection Xf with Xf hql
    injection Xf with Xf _
    subst Xf;subst hql;split at ZI
    case isFalse=>simp[SP.run]at ZI
    rename_i Rb;simp only[oBA,beq_iff_eq,List.isEmpty_iff]at Rb;obtain⟨Z4,XZ⟩:=Rb;obtain⟨nvs,σ6,Ww,ST⟩:=bS ZI;rw[rn,nY]at Ww
    injection Ww with Ww
    injection Ww with Ww h13
    subst Ww;subst h13;simp only[wr,SP.run,oSJ,oPJ,true_and]at ST;subst ST;obtain⟨x,rfl⟩:∃x,K=[x]:=List.length_eq_one_iff.1 (by have:=congrArg List.length UG;simpa using this)
    have PV:x.1=g:=by simpa using UG
    have PW:x∈[x]:=by simp
    obtain⟨r1,r2,_,_⟩:=WA x PW;have hp:=Zr x PW;obtain⟨hβc,_⟩:=V8.fram.par _ _ _ _ hp
    have Nd:x.1.p.hops=[]:=by rw[PV];exact XZ
    have XL:pl.root=2*x.1.i+2:=by rw[PV];exact Z4
    obtain⟨b0,o0,n0,hβ0,Q9⟩:∃b0 o0 n0,G4.β x.1.p.root=some (b0,o0,n0)/\x.2=⟨b0,o0+x.1.p.off,none⟩:=by
     rw[hβ4];unfold Gh.addr at r2;rw[Nd]at r2;simp only at r2
     cases hb:G2.β x.1.p.root with
     |none=>rw[hb]at r2;simp at r2
     |some y=>
      obtain⟨b0,o0,n0⟩:=y;rw[hb]at r2
      injection r2 with r2
      exact⟨b0,o0,n0,rfl,r2.symm⟩
    have VG:=xD Nd h9;refine⟨G4,Ub.wrT (hd d hdst).1 (Et (.ptr _ (λ_=>Nat.le_refl _) rfl λ_=>?_) Zq)⟩;rw[<- PV];obtain⟨_,ad,t,ha,hv,ht⟩:=S8;refine⟨r1,ad,?_⟩
    have hval:G4.val w2 x.1.p.root (x.1.p.off+pl.off)=Gc.val w2 pl.root pl.off:=by
     unfold Gh.val;rw[hβ0,XL,hβc];simp only[Q9,Nat.add_assoc]
    cases hho:pl.hops with
    |nil=>
     rw[hho]at ht;refine⟨_,?_,hv,rfl⟩;rw[<- ha];unfold Gh.addr;simp only[hho,hβ0,XL,hβc,Q9,Nat.add_assoc]
    |cons h1 hs=>
     rw[hho]at ht;refine⟨t,?_,hv,?_⟩
     ·rw[<- ha];unfold Gh.addr;simp only[hho];rw[hval]
     ·have Px:x.1.p.root≠M.hr:=r1;rw[cx Px]
      have YX:pl.off<x.1.cells.length:=by
       rcases Nat.lt_or_ge pl.off x.1.cells.length with h|h
       ·exact h
       ·have:=V8.core.boxc _ _ _ _ hβc pl.off h;rw[XL]at ht;rw[this]at ht;simp[cw]at ht
      have Ze:=VG pl.off (by rw[WG x PW];exact YX)
      have Vh:cC (M.into w G2 (prK [x]) N) σc [] pl.root pl.off=(pB σc x).getD pl.off .dead:=by
       rw[XL,cx (by show 2*x.1.i+2≠1;omega)];unfold pB St.c
       cases cA σc.ce (2*x.1.i+2)with
       |none=>simp
       |some l=>rfl
      rw[Vh]at ht;rw[Ze];exact ht
  obtain⟨G5,V7⟩:=O7;refine hK (a.put o.dst (uJ pv (fl.map unV))) w2 G5 ?_ (kJ _ _ _)
  cases hdst:o.dst with
  |none=>rw[hdst]at V7;exact V7
  |some d=>rw[hdst]at V7;exact V7
theorem lY{YU:FuncId}{args':Array Operand}{caps:Array Value}{fo:Operand}{UD:Array TypeId}(ho:o.op=.call ⟨.value fo,args',UD⟩)(hv:a.eval fo=.func (.func YU) #[] caps)(Y8:io P YU):
 (execOp a.eval o).run P w=.ok (.enter YU (args'.map a.eval++caps)) w:=by
 unfold execOp;simp only[resolve];simp[Deferred.ofValue,invoke];have:=Y8 (args'.map a.eval++caps) w
 simp_all
theorem Ia{E:Env}(hB:DH P E){asq:List Value}{vals:List TV}{YU:FuncId}{n:Nat}{tm:List BxC}(OV:E.box YU=some (n,tm))(hn:vals.length=n){σ1:St}{G1:Gh}(hd:∀d,o.dst=some d->d<M.N/\M.pr (2*d+2)=none)(hI1:Inv M σ1 [] [] a.tmps w G1)(hal:asq.length=vals.length)
 (Wp:∀j (h:j<vals.length)(h':j<asq.length),TmR w (G1.F M.A) σ1.v (cC M σ1 []) G1 vals[j] asq[j])(h2:(evBox o.dst tm vals).run σ1=some ((),σ'))(Ys:io P YU->(execOp a.eval o).run P w=.ok (.enter YU asq.toArray) w):KQ P M σ' a o w:=by
 intro K' Q hK;obtain⟨Y8,Zq,ty,VD⟩:=hB YU n tm OV
 cases hdst:o.dst with
 |none=>rw[hdst]at h2;simp[evBox,SP.run]at h2
 |some d=>
  rw[hdst]at h2;obtain⟨hdN,Yz⟩:=hd d hdst;obtain⟨l,σ2,h3,h4⟩:=bS h2
  obtain⟨RH,Zs,G2,ZH⟩:=mI (ys:=tm.map (bxV asq)) hI1 (by simp) (λj h=>by
   have hj:j<tm.length:=by simpa using h
   simp only[List.getElem_map,oGD,List.getElem?_map,oGE hj,oMS,Option.getD_some]
   cases hb:tm[j]with
   |val x=>exact .v (Zq x (by rw[<- hb];exact List.getElem_mem hj))
   |arg i=>
    simp only[bxT,bxV];by_cases hi:i<vals.length
    ·simp_all
    ·have:vals.getD i .dead=.dead:=by simp[oGD,oGN (by omega:vals.length<=i)]
     rw[this];exact .dead) h3
  obtain⟨G3,WV,_,hβ⟩:=ZH.1.newBox (2*d+2) ty (by omega) Yz (by omega);have X2:(wr d (.ptr ⟨2*d+2,0,[]⟩ [(σ2.root (2*d+2) l).v (2*d+2,0,0)])).run (σ2.root (2*d+2) l)=some ((),σ'):=h4;simp only[wr,SP.run,oSJ,oPJ,true_and]at X2;subst X2;unfold Oper.wp;rw[Ys Y8,Oper.upon_enter];refine(VD asq w (by omega) Zs).mono λe w2 ⟨he,hw⟩=>?_;subst he;subst hw;simp only;refine hK (a.put o.dst (.pointer (some ⟨w.heap.size,0,none⟩))) _ G3 ?_ (kJ _ _ _);rw[hdst];refine WV.wrT hdN (.ptr (σ2.root (2*d+2) l).v (λ_=>Nat.le_refl _) (by simp[gG]) λ_=>⟨by simp_all,⟨w.heap.size,0,none⟩,_,?_,rfl,rfl⟩);unfold Gh.addr
  simp_all
theorem Bm{E:Env}{F:dy}(hB:DH P E)(hF:eW P F):tB P M gT (evCall E F):=by
 intro o t σ σ' a w G hc hd hI hr;rcases hc with rfl|hc
 ·simp[evop,evCall,Kp,SP.run]at hr
 cases ho:o.op with
 |call c=>
  rw[ho]at hc;obtain⟨callee,args,UD⟩:=c
  cases callee with
  |value fo=>
   cases t with
   |call k f' args'=>
    simp only[mi]at hc;obtain⟨hf,hlen,VB⟩:=hc;simp only[evop]at hr
    cases f' with
    |f YU=>
     have Rn:fo=.func YU:=by cases fo<;>simp[bZ]at hf;rw[hf]
     have VJ:∀YU,fo=.func YU->io P YU->(execOp a.eval o).run P w=.ok (.enter YU (args.toList.map a.eval).toArray) w:=λYU Rn Y8=>by
      have:=lY (a:=a) (w:=w) ho (by rw[Rn];rfl:a.eval fo=.func (.func YU) #[] #[]) Y8
      have ea:(args.toList.map a.eval).toArray=args.map a.eval:=by apply Array.ext';rw[Array.toList_map]
      rw[ea];simpa using this
     have VJ:=VJ YU Rn;simp only[evCall]at hr
     cases k with
     |false=>
      simp only[Bool.false_eq_true,if_false]at hr;obtain⟨vals,σ1,h1,h2⟩:=bS hr;obtain⟨rfl,YB,Wp⟩:=GY (l':=args.toList) hI (by simp[hlen]) (λj h h'=>by have:=VB j (by simpa using h) (by simpa using h');simpa using this) h1
      have Sr:vals.length=args'.length:=by rw[YB];simp
      exact Ip hF hd hI (by simp;omega) (λj h h'=>by have:=Wp j h (by simpa using h');simpa using this) h2 VJ
     |true=>
     simp only[if_true]at hr;obtain⟨vals,σ1,h1,h2⟩:=bS hr;obtain⟨G1,Z0,YB,Wp⟩:=B8 (l':=args.toList) hI (by simp[hlen]) (λj h h'=>by have:=VB j (by simpa using h) (by simpa using h');simpa using this) h1;have Sr:vals.length=args'.length:=YB;split at h2
     ·rename_i x OV;split at h2
      case isFalse=>simp[SP.run]at h2
      rename_i hn;exact Ia hB OV hn hd Z0.1 (by simp;omega) (λj h h'=>by have:=Wp j h (by simpa using h');simpa using this) h2 VJ
     ·exact B5 hF hd Z0.1 (by simp;omega) (by simp;omega) (λj h h'=>by have:=Wp j h (by simpa using h');simpa using this) h2 VJ
    |t i=>
     simp only[evCall,SP.run]at hr;split at hr
     case h_2=>simp[SP.run]at hr
     rename_i YU caps htv;obtain⟨vals,σ1,h1,h2⟩:=bS hr;obtain⟨G1,Z0,YB,Wp⟩:=B8 (l':=args.toList) hI (by simp[hlen]) (λj h h'=>by have:=VB j (by simpa using h) (by simpa using h');simpa using this) h1;have Sr:vals.length=args'.length:=YB
     have Rn:fo=.tmp i:=by cases fo<;>simp[bZ]at hf;rw[hf]
     have Za:=hI.tmr i;rw[htv]at Za
     have XC:a.eval fo=a.tmps.getD i undef:=by rw[Rn];rfl
     generalize hz:a.tmps.getD i undef=z at Za XC
     cases Za with
     | @fn _ _ xs hcl Rf=>
      have VJ:io P YU->(execOp a.eval o).run P w=.ok (.enter YU (args.toList.map a.eval++xs.toList).toArray) w:=λY8=>by
       have:=lY (a:=a) (w:=w) ho XC Y8
       have ea:(args.toList.map a.eval++xs.toList).toArray=args.map a.eval++xs:=by apply Array.ext';simp
       rw[ea];exact this
      have Rc:xs.toList.length=caps.length:=by simpa using hcl
      exact B5 hF hd Z0.1 (by simp[Io];omega) (by simp;omega) (λj h h'=>by
       by_cases hj:j<vals.length
       ·have:=Wp j hj (by simp;omega);simpa[List.getElem_append_left,hj,List.getElem_append,show j<args.size by omega]using this
       ·have XK:j-vals.length<caps.length:=by simp at h;omega
        have:=Z0.tm (Rf (j-vals.length) XK)
        have S3:¬j<args.size:=by omega
        have e1:args.size=vals.length:=by omega
        simp only[List.getElem_append,hj,dite_false,List.length_map,Array.length_toList,S3,Array.getElem_toList];simp only[e1]
        have e2:xs.getD (j-vals.length) undef=xs[j-vals.length]:=by simp[Array.getD_eq_getD_getElem?,show j-vals.length<xs.size by omega]
        rw[<- e2]
        exact this) h2 VJ
    |_=>simp[evCall,SP.run]at hr
   |_=>simp[mi]at hc
  |_=>cases t<;>simp[mi]at hc
 |_=>rw[ho]at hc;cases t<;>simp[mi]at hc
end
theorem mH{P:Program}{ops:Array Oper}{Q:Exit->Act->World->Prop}{i:Nat}{L:List Nat}{a:Act}{w:World}{o:Oper}{v:Value}(ho:ops[i]?=some o)(hg:o.guard=none)(hrun:(execOp a.eval o).run P w=.ok (.value v) w)(h:wpOps P ops Q L (a.put o.dst v) w):wpOps P ops Q (i::L) a w:=by
 simp[wpOps,ho];rw[oIP (by simp[Region.wanted,hg])];left;unfold Oper.wp;rw[hrun];exact h
structure Gl (P:Program)(c rest:Code):Prop where
 ex:∃(i0 i1 i2:Nat)(o0 o1 o2 o3:Oper)(ty ty2 e:TypeId),c=.seq (.region i0 #[o0] false) (.seq (.seq (.region i1 #[o1,o2] false) (.cond (.tmp 4) (.seq (.region i2 #[o3] false) .ret) .skip)) rest)/\
  (o0.dst=some 2/\o0.guard=none/\o0.op=.assign (.const (.slice none 0 0)))/\(o1.dst=some 3/\o1.guard=none/\o1.op=.move (.tmp 0))/\
  (o2.dst=some 4/\o2.guard=none/\o2.op=.binOp .eql ty (.tmp 3) (.const (.slice none 0 0)) ty2)/\(o3.dst=some 2/\o3.guard=none/\o3.op=.assign (.const (.slice none 0 0)))/\P.underlying ty=some (.slice e)
def sX(ts:Array Value)(x:Value)(b:Bool):Array Value:=((ts.setIfInBounds 2 (.slice none 0 0)).setIfInBounds 3 x).setIfInBounds 4 (.bool b)
theorem Ik{P:Program}{c rest:Code}(hc:Gl P c rest){ad:Option Addr}{n cap:Nat}{ts:Array Value}{w:World}{Q:Exit->Act->World->Prop}(h0:ts.getD 0 undef=.slice ad n cap)(hN:4<ts.size)
 (hnil:ad=none->Q .ret ⟨(sX ts (.slice ad n cap) true).setIfInBounds 2 (.slice none 0 0),[]⟩ w)(ZK:ad≠none->rest.wp P Q ⟨sX ts (.slice ad n cap) false,[]⟩ w):c.wp P Q ⟨ts,[]⟩ w:=by
 obtain⟨i0,i1,i2,o0,o1,o2,o3,ty,ty2,e,rfl,⟨d0,g0,p0⟩,⟨d1,g1,p1⟩,⟨d2,g2,p2⟩,⟨d3,g3,p3⟩,hu⟩:=hc.ex
 have V6:∀{o:Oper}{a:Act}{x:Operand},(o.op=.assign x\/o.op=.move x)->(execOp a.eval o).run P w=.ok (.value (a.eval x)) w:=λho=>by rcases ho with ho|ho<;>simp[execOp,ho]
 refine wp_seq (wp_region ?_);show wpOps P #[o0] _ [0] _ w;refine mH (o:=o0) rfl g0 (V6 (.inl p0)) ?_;rw[d0];refine wp_seq (wp_seq (wp_region ?_));show wpOps P #[o1,o2] _ [0,1] _ w;refine mH (o:=o1) rfl g1 (V6 (.inr p1)) ?_;rw[d1]
 have e0:(ts.setIfInBounds 2 (.slice none 0 0)).getD 0 undef=.slice ad n cap:=by
  rw[<- h0];simp[Array.getD_eq_getD_getElem?,Array.getElem?_setIfInBounds]
 have e3:((ts.setIfInBounds 2 (.slice none 0 0)).setIfInBounds 3 (.slice ad n cap)).getD 3 undef=.slice ad n cap:=by
  simp[Array.getD_eq_getD_getElem?,Array.getElem?_setIfInBounds,show 3<ts.size by omega]
 have WK:(execOp (Act.mk ((ts.setIfInBounds 2 (.slice none 0 0)).setIfInBounds 3 (.slice ad n cap)) []).eval o2).run P w=.ok (.value (.bool ad.isNone)) w:=by
  have hb:=Lib.run_eql_slice_nil (P:=P) w ty e ad n cap 0 0 hu;have ex:(Act.mk ((ts.setIfInBounds 2 (.slice none 0 0)).setIfInBounds 3 (.slice ad n cap)) []).eval (.tmp 3)=.slice ad n cap:=e3;have ey:∀a:Act,a.eval (.const (.slice none 0 0))=.slice none 0 0:=λ_=>rfl;have hg:(eqGuard .eql ty (.tmp 3) (.const (.slice none 0 0)) (.slice ad n cap) (.slice none 0 0)).run P w=.ok () w:=rfl;simp[execOp,p2,ex,ey,hb,hg]
 refine mH (o:=o2) (v:=.bool ad.isNone) rfl g2 ?_ ?_
 ·show(execOp (Act.mk ((ts.setIfInBounds 2 (.slice none 0 0)).setIfInBounds 3 ((ts.setIfInBounds 2 (.slice none 0 0)).getD 0 undef)) []).eval o2).run P w=_;rw[e0];exact WK
 rw[d2];show(Code.cond (.tmp 4) _ _).wp P _ ⟨((ts.setIfInBounds 2 (.slice none 0 0)).setIfInBounds 3 ((ts.setIfInBounds 2 (.slice none 0 0)).getD 0 undef)).setIfInBounds 4 (.bool ad.isNone),[]⟩ w;rw[e0]
 have e4:∀b,(sX ts (.slice ad n cap) b).getD 4 undef=.bool b:=λb=>by
  unfold sX;simp[Array.getD_eq_getD_getElem?,Array.getElem?_setIfInBounds,hN]
 cases ad with
 |none=>
  refine wp_cond_true (e4 true) (wp_seq (wp_region ?_));show wpOps P #[o3] _ [0] _ w;refine mH (o:=o3) rfl g3 (V6 (.inl p3)) ?_;rw[d3];exact wp_ret (hnil rfl)
 |some ad=>exact wp_cond_false (e4 false) (wp_skip (ZK (by simp)))
def yL(sz:Nat)(b:Bool)(bytes:Nat)(mv fl:Bool)(id:Nat):ia:=
 .seq (.reg id none [⟨some 5,none,.bsl sz b 0 []⟩,⟨some 6,none,.mov (.t 0)⟩,⟨some 7,none,.app sz bytes mv fl (.t 5) (.t 6)⟩,⟨some 2,none,.asn true (.t 7)⟩] ([2],[7])) .ret
def yJ(call:Option Nat->TOp->SP Unit)(N:Nat)(tc:ia):Option (List TV×List RSh):=(runC call N tc (mkSt [.sl []] [])).bind λx=>match x.1 with|.exit _=>none|_=>((resF 1 [.tmp 2]).run x.2).map (·.1)
theorem Ds(call:Option Nat->TOp->SP Unit)(N sz:Nat)(b:Bool)(bytes:Nat)(mv fl:Bool)(id:Nat):yJ call N (yL sz b bytes mv fl id)=yJ (λ_ _=>.fail) 0 (yL sz b bytes mv fl id):=rfl
def rz(tc:ia):Bool:=match yJ (λ_ _=>.fail) 0 tc with
 |some ([.ow []],[.one])=>true
 |_=>false
theorem AG{tc:ia}(h:rz tc=true):yJ (λ_ _=>.fail) 0 tc=some ([.ow []],[.one]):=by
 unfold rz at h
 grind
def jU(pp:List Nat):Nat->List TV->Bool
 |_,[]=>true
 |i,.ptr _ _::r=>pp.contains i&&jU pp (i+1) r
 |i,.sl _::r=>jU pp (i+1) r
 |i,_::r=>!pp.contains (1000+i)&&jU pp (i+1) r
theorem EX{pp:List Nat}:∀{l:List TV}{i:Nat},jU pp i l=true->∀j p vs,l[j]?=some (.ptr p vs)->i+j∈pp:=by
 intro l
 induction l with
 |nil=>simp_all
 |cons t l ih=>
  intro i h j p vs hj
  have hr:jU pp (i+1) l=true:=by
   cases t<;>simp only[jU,oBA]at h<;>first|exact h.2|exact h
  cases j with
  |zero=>
   have:t=.ptr p vs:=by simp_all
   subst this;simp[jU,List.contains_eq_mem,oDE]at h;exact h.1
  |succ j=>
   have:=ih hr j p vs (by simp_all);rw[show i+(j+1)=i+1+j by omega];exact this
def runT(E:Env)(F:dy)(n:Nat)(tf:TFn)(vals:List TV)(pts:Pts):Option (tD×Pts):=
 if vals.length=tf.np/\(jU tf.pp 0 vals&&(!tf.pp.contains 1000||pts.isEmpty))=true then
  (runC (evCall E F) n tf.body (mkSt vals pts)).bind λx=>match x.1 with
   |.exit _=>none
   |_=>((resF tf.np tf.res).run x.2).bind λy=>some (⟨y.1.1,y.1.2⟩,pts.map λx=>(x.1,(cA y.2.ce x.1).getD []))
 else none
def zh(E:Env)(T:FuncId->Option TFn)(B F:dy)(n:Nat):dy:=λf vals pts=>
 match T f with
 |none=>B f vals pts
 |some tf=>runT E F n tf vals pts
def runF(E:Env)(T:FuncId->Option TFn)(B:dy):Nat->dy
 |0=>λ_ _ _=>none
 |n+1=>zh E T B (runF E T B n) n
def Gk(P:Program)(tf:TFn)(c:Code):Prop:=
 tf.np=1/\tf.pp=[1000]/\tf.nt=8/\tf.res=[.tmp 2]/\rz tf.body=true/\(∃sz b bytes mv fl id,tf.body=yL sz b bytes mv fl id)/\
  ∃rest,Gl P c rest/\∀M:Fm,M.N=tf.nt->(∀r,M.pr r≠none->∃i∈tf.pp,r=2*i+2)->fV P M gT tf.body rest
def DE(P:Program)(T:FuncId->Option TFn):Prop:=
 ∀f tf,T f=some tf->∃fn c,P.funcs[f]?=some fn/\(fn.name=="runtime.NumGoroutine")=false/\fn.body=some c/\fn.ntmps=tf.nt/\tf.np<=tf.nt /\
  ((∀M:Fm,M.N=tf.nt->(∀r,M.pr r≠none->∃i∈tf.pp,r=2*i+2)->fV P M gT tf.body c)\/Gk P tf c)/\tf.res.length=fn.results.size/\∀k (h:k<tf.res.length)(h':k<fn.results.size),AR P tf.res[k] fn.results[k]
section
variable {P:Program} {E:Env} {T:FuncId->Option TFn} {B F:dy}
def LZ(tf:TFn)(pts:Pts)(x:hJ×St):Option (tD×Pts):=match x.1 with
 |.exit _=>none
 |_=>((resF tf.np tf.res).run x.2).bind λy=>some ((⟨y.1.1,y.1.2⟩:tD),pts.map λ(x:Nat×List TV)=>(x.1,(cA y.2.ce x.1).getD []))
theorem AN{tf:TFn}{fn:Func}{M:Fm}{σ1:St}{a':Act}{w':World}{G':Gh}{pts Zt:Pts}{res:tD}{e:hJ}(UZ:tf.res.length=fn.results.size)(Yq:∀k (h:k<tf.res.length)(h':k<fn.results.size),AR P tf.res[k] fn.results[k])
 (Zz:Inv M σ1 [] [] a'.tmps w' G')(hd:a'.defers=[])(h2:LZ tf pts (e,σ1)=some (res,Zt)):
 bodyPost P fn (λe w2=>∃v σ2,e=.returned v/\L5 M res v σ2 w2/\Zt=pts.map λ(x:Nat×List TV)=>(x.1,(cA σ2.ce x.1).getD [])) e.toExit a' w':=by
 unfold LZ at h2
 have SE:∀y,(resL tf.np tf.res).run σ1=some y->some ((⟨y.1.1,y.1.2⟩:tD),pts.map λx=>(x.1,(cA y.2.ce x.1).getD []))=some (res,Zt)->a'.defers=[]/\∃v,(results fn a'.tmps).run P w'=.ok v w' /\
  ∃v' σ2,Ending.returned v=.returned v'/\L5 M res v' σ2 w'/\Zt=pts.map λx=>(x.1,(cA σ2.ce x.1).getD []):=by
  rintro⟨r,σ2⟩ hr he;obtain⟨vs,ys,G2,hrun,hg,hl,hok,hrv⟩:=JY (qs':=fn.results.toList) Zz (by simpa using UZ) (λk h h'=>by have:=Yq k h (by simpa using h');simpa using this) hr
  injection he with he
  injection he with Rk O3
  subst Rk;subst O3;refine⟨hd,jw r.2 ys,?_,jw r.2 ys,σ2,rfl,.inl ⟨ys,a'.tmps,G2,rfl,by simpa using hg.1,hok⟩,rfl⟩;unfold results;rw[Array.mapM_eq_mapM_toList];simp only[Sem.run_bind,Sem.run_map]
  erw[hrun]
  unfold jw;rw[hrv]
  cases vs with
  |nil=>rfl
  |cons v vs=>
   cases vs with
   |nil=>rfl
   |cons v2 vs=>rfl
 have ZR:∀y,(resF tf.np tf.res).run σ1=some y->some ((⟨y.1.1,y.1.2⟩:tD),pts.map λx=>(x.1,(cA y.2.ce x.1).getD []))=some (res,Zt)->a'.defers=[]/\∃v,(results fn a'.tmps).run P w'=.ok v w' /\
  ∃v' σ2,Ending.returned v=.returned v'/\L5 M res v' σ2 w'/\Zt=pts.map λx=>(x.1,(cA σ2.ce x.1).getD []):=by
  intro y hr he;unfold resF at hr;split at hr
  ·rename_i t rs Sl;simp only[SP.run]at hr;split at hr
   ·rename_i p vs htv;obtain⟨_,σ2,h3,h4⟩:=bS hr;have e1:σ2=σ1:=(cq h3).1;have e2:=(cq h3).2;subst e1;obtain⟨fl,σ3,h5,h6⟩:=bS h4;simp only[SP.run,oSJ]at h6;subst h6
    injection he with he
    injection he with Rk O3
    subst Rk;subst O3;have Za:=Zz.tmr t;rw[htv]at Za
    obtain⟨q0,qs',QB⟩:∃q0 qs',fn.results.toList=q0::qs':=by
     have hlen:fn.results.toList.length=rs.length+1:=by rw[Array.length_toList,<- UZ,Sl];rfl
     cases hl:fn.results.toList with
     |nil=>rw[hl]at hlen;simp at hlen
     |cons q0 qs'=>exact⟨q0,qs',rfl⟩
    have Uv:∀(L:List TRs)(L':List ResultVar),tf.res=L->fn.results.toList=L'->∀k (h:k<L.length)(h':k<L'.length),AR P L[k] L'[k]:=by
     rintro _ _ rfl rfl k h h';have:=Yq k h (by simpa using h');simpa using this
    have hq0:q0=.tmp t:=Uv _ _ Sl QB 0 (by simp) (by simp)
    have RG:rs.length=qs'.length:=by
     have h7:fn.results.toList.length=rs.length+1:=by rw[Array.length_toList,<- UZ,Sl];rfl
     rw[QB]at h7;simpa using h7.symm
    obtain⟨rfl,ZW,hrun⟩:=FL (qs':=qs') Zz RG (λk h h'=>Uv _ _ Sl QB (k+1) (by simpa using h) (by simpa using h')) h5
    have WK:(fn.results.toList.mapM λ(q:ResultVar)=>(match q with|.tmp t=>(pure (a'.tmps.getD t undef):Sem Value)|.cell a t=>do loadVar t (<- asAddr (a'.tmps.getD a undef)))).run P w'=.ok (a'.tmps.getD t undef::fl.map unV) w':=by
     rw[QB,hq0,List.mapM_cons,Sem.run_bind];show Result.andThen (.ok (a'.tmps.getD t undef) w') _=_;simp only[Result.andThen_ok,Sem.run_bind];refine(congrArg (λr=>Result.andThen r _) hrun).trans ?_;simp
    generalize a'.tmps.getD t undef=z at Za WK
    cases Za with
    |ptr V0 h0 hv hok=>
     have hp:=hok e2;refine⟨hd,uJ z (fl.map unV),?_,uJ z (fl.map unV),σ3,rfl,.inr ⟨p,vs,fl,z,a'.tmps,G',rfl,⟨_,rfl⟩,ZW,rfl,Zz,hp⟩,rfl⟩;unfold results;rw[Array.mapM_eq_mapM_toList];simp only[Sem.run_bind,Sem.run_map]
     erw[WK]
     cases fl with
     |nil=>rfl
     |cons y l=>rfl
   ·exact SE y (by rw[Sl];exact hr) he
  ·exact SE y hr he
 cases e with
 |exit i=>simp at h2
 |normal=>
  simp only at h2;obtain⟨y,h3,h4⟩:=cb h2;exact ZR y h3 h4
 |ret=>
  simp only at h2;obtain⟨y,h3,h4⟩:=cb h2;exact ZR y h3 h4
theorem Gv(hT:DE P T)(hE:DH P E)(hB:eW P B)(hF:eW P F)(n:Nat):eW P (zh E T B F n):=by
 intro f vals pts res Zt h;unfold zh at h
 cases ht:T f with
 |none=>rw[ht]at h;exact hB f vals pts res Zt h
 |some tf=>
  rw[ht]at h;simp only[runT]at h;split at h
  case isFalse=>simp at h
  rename_i hnp;obtain⟨hnp,RY⟩:=hnp;simp only[oBA]at RY;obtain⟨PC,No⟩:=RY;obtain⟨⟨e,σ1⟩,h1,h2⟩:=cb h;obtain⟨fn,c,hf,Uo,hb,hnt,YS,Xp,UZ,Yq⟩:=hT f tf ht;refine⟨jE hf Uo hb,tf.nt,by omega,λM asq w G hal hN QC Yz hI=>?_⟩;refine calls_of_wp hf hb ?_
  have hN2:fn.ntmps-asq.toArray.size=tf.nt-asq.length:=by rw[hnt];simp
  rw[hN2]
  have R0:∀r,M.pr r≠none->∃i∈tf.pp,r=2*i+2:=λr hr=>by obtain⟨i,p,vs,h3,h4⟩:=Yz r hr;exact⟨i,by simpa using EX PC i p vs h3,h4⟩
  rcases Xp with Xp|⟨c1,c2,c3,c4,c5,⟨sz,b,bytes,mv,fl,id,c6⟩,rest,hcl,Xp⟩
  ·exact Bl (Bm hE hF) n tf.body c _ e σ1 ⟨asq.toArray++Array.replicate (tf.nt-asq.length) undef,[]⟩ w G _ (Xp M hN R0) h1 hI λa' w' G' Zz hd=>AN UZ Yq Zz hd h2
  ·
   obtain⟨v0,rfl⟩:∃v,vals=[v]:=List.length_eq_one_iff.1 (by rw[hnp,c1]);obtain⟨x0,rfl⟩:∃x,asq=[x]:=List.length_eq_one_iff.1 (by rw[hal];rfl)
   have Nn:pts=[]:=by rw[c2]at No;simpa using No
   subst Nn
   obtain⟨l0,rfl⟩:∃l,v0=.sl l:=by
    rw[c2]at PC;cases v0<;>simp[jU]at PC;exact⟨_,rfl⟩
   have hv:=hI.tmr 0;have e0:(mkSt [TV.sl l0] ([]:Pts)).t 0=.sl l0:=rfl
   have e1:(#[x0]++Array.replicate (tf.nt-1) undef).getD 0 undef=x0:=by simp[Array.getD_eq_getD_getElem?,Array.getElem?_append]
   have hv:TmR w (G.F M.A) (mkSt [TV.sl l0] ([]:Pts)).v (cC M (mkSt [TV.sl l0] ([]:Pts)) []) G (.sl l0) x0:=by
    have:=hI.tmr 0;rw[e0]at this;rw[show([x0]:List Value).toArray=#[x0]from rfl,show([x0]:List Value).length=1 from rfl,e1]at this;exact this
   cases hv with
   |sl hs=>
    cases hs with
    | @sl _ ad cap zz u hsz hcap hmax RO hcell hrec=>
     have hdead:∀(H:List TV)(xs:List Value)(ts:Array Value)(d:Nat)(v:Value),0<d->Inv M (mkSt [TV.sl l0] []) H xs ts w G->Inv M (mkSt [TV.sl l0] []) H xs (ts.setIfInBounds d v) w G:=by
      intro H xs ts d v hd hI;refine⟨hI.core,λi=>?_,hI.fram,hI.keys,by rw[Array.size_setIfInBounds];exact hI.size,hI.hand,hI.hval,hI.shape⟩;by_cases hi:i=d
      ·subst hi
       have:(mkSt [TV.sl l0] ([]:Pts)).t i=.dead:=by
        simp[St.t,mkSt,eC,cA,show ¬ 0=i by omega]
       rw[this];exact .dead
      ·have:(ts.setIfInBounds d v).getD i undef=ts.getD i undef:=by simp[Array.getD_eq_getD_getElem?,Array.getElem?_setIfInBounds,Ne.symm hi]
       rw[this];exact hI.tmr i
     refine Ik hcl (ad:=ad) (n:=l0.length) (cap:=cap) (by simp[Array.getD_eq_getD_getElem?,Array.getElem?_append]) (by simp[c3]) (λY0=>?_) (λ_=>?_)
     ·have WV:=hdead _ _ _ 4 (.bool true) (by decide) (hdead _ _ _ 3 (.slice ad l0.length cap) (by decide) (hdead _ _ _ 2 (.slice none 0 0) (by decide) hI));subst Y0;have Uh:=RO rfl;have VO:l0=[]:=oEN (by omega);subst VO;have Ub:=WV.wrT (d:=2) (by omega) (t:=.ow []) (x:=.slice none 0 0) .nil;have hrun:=AG c5;rw[c6,<- Ds (evCall E F) n,<- c6]at hrun;unfold yJ at hrun;rw[h1]at hrun;simp only[oBS]at hrun h2
      have R6:res=⟨[.ow []],[.one]⟩/\Zt=[]:=by
       cases e with
       |exit i=>simp at hrun
       |normal=>
        simp only[c1,c4]at h2;simp only at hrun;obtain⟨y,hy,Tf⟩:=fD hrun;rw[hy]at h2;simp only[oBS,oSJ,oPJ]at h2;rw[Tf]at h2;exact⟨h2.1.symm,by simpa using h2.2.symm⟩
       |ret=>
        simp only[c1,c4]at h2;simp only at hrun;obtain⟨y,hy,Tf⟩:=fD hrun;rw[hy]at h2;simp only[oBS,oSJ,oPJ]at h2;rw[Tf]at h2;exact⟨h2.1.symm,by simpa using h2.2.symm⟩
      obtain⟨rfl,rfl⟩:=R6
      have h5:LZ tf [] (.ret,{ mkSt [TV.sl []] ([]:Pts)with tm:=d5 (mkSt [TV.sl []] ([]:Pts)).tm 2 (.ow []) })=some (⟨[.ow []],[.one]⟩,[]):=by
       unfold LZ;simp only[c1,c4];rfl
      obtain⟨T,hT⟩:∃T:Array Value,T=(sX ([Value.slice none ([]:List (List TV)).length cap].toArray++Array.replicate (tf.nt - [Value.slice none ([]:List (List TV)).length cap].length) undef) (.slice none ([]:List (List TV)).length cap) true).setIfInBounds 2 (.slice none 0 0):=⟨_,rfl⟩;have V7:=Ub;unfold sX at hT;rw[<- hT]at V7;have h7:=AN (tf:=tf) (fn:=fn) (P:=P) (pts:=[]) (e:=.ret) (a':=⟨T,[]⟩) (w':=w) (G':=G) UZ Yq V7 rfl h5;rw[hT]at h7;exact h7
     ·have ZJ:=hdead _ _ _ 4 (.bool false) (by decide) (hdead _ _ _ 3 (.slice ad l0.length cap) (by decide) (hdead _ _ _ 2 (.slice none 0 0) (by decide) hI));exact Bl (Bm hE hF) n tf.body rest _ e σ1 ⟨sX _ (.slice ad l0.length cap) false,[]⟩ w G _ (Xp M hN R0) h1 ZJ λa' w' G' Zz hd=>AN UZ Yq Zz hd h2
theorem runF_ok(hT:DE P T)(hE:DH P E)(hB:eW P B):∀n,eW P (runF E T B n):=by
 intro n
 induction n with
 |zero=>intro f vals pts res Zt h;simp[runF]at h
 |succ n ih=>exact Gv hT hE hB ih n
end
end Go.Proofs.Ytbdhpgelkfncpaa
