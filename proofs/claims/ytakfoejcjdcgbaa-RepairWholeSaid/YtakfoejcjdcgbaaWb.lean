/- Part of the proof; no condition. -/
import Derived.Test.YtakfoejcjdcgbaaWa
import Derived.Laws.StructEq
import Derived.Laws.BytesString
import Derived.Laws.NewFold
import Derived.Laws.IdiomCopy
import Derived.LoopN
import Derived.Orders
import Derived.Scope
import Derived.Lib.SlicesCompact
import Derived.Lib.SliceRun
set_option linter.unusedVariables false
set_option linter.unusedSimpArgs false
namespace Go.Proofs.Ytakfoejcjdcgbaa
open Go.RowKit
def vh(g:TypeId->Option (List FK)):Nat->List Field->Option (List FK)
 |_,[]=>some []
 |off,f::fs=>
  if f.name≠"_"/\f.offset=off then
   match g f.type with
   |some ks=>(vh g (off+ks.length) fs).map (ks++·)
   |none=>none
  else none
def lp(P:Program):Nat->TypeId->Option (List FK)
 |0,_=>none
 |d+1,t=>
  match P.underlying t with
  |some .bool=>some [.b]
  |some (.int _)=>some [.i]
  |some .string=>some [.s]
  |some (.struct fs)=>
   if P.stoodInHeld t then none
   else match vh (lp P d) 0 fs.toList with
    |some ks=>if(P.info? t).map (·.size)=some ks.length then some ks else none
    |none=>none
  |_=>none
theorem zy{α β:Type}{f:α->β}{o:Option α}{b:β}(h:o.map f=some b):∃a,o=some a/\f a=b:=by
 simp_all
theorem wS:∀{ks:List FK}{xs ys:List Value}{r:Bool},cg ks xs ys=some r->xs.length=ks.length/\ys.length=ks.length:=by
 intro ks
 induction ks with
 |nil=>
  intro xs ys r h;cases xs<;>cases ys<;>simp[cg]at h⊢
 |cons k ks ih=>
  intro xs ys r h
  cases xs with
  |nil=>cases k<;>simp[cg]at h
  |cons x xs=>
   cases ys with
   |nil=>cases k<;>cases x<;>simp[cg]at h
   |cons y ys=>
    cases k<;>cases x<;>cases y<;>simp only[cg]at h<;>first|(simp at h;done)|skip
    ·split at h
     ·obtain⟨r',h1,_⟩:=zy h;have:=ih h1;simp[this.1,this.2]
     ·simp at h
    ·obtain⟨r',h1,_⟩:=zy h;have:=ih h1;simp[this.1,this.2]
    ·obtain⟨r',h1,_⟩:=zy h;have:=ih h1;simp[this.1,this.2]
theorem rr:∀{k1 k2:List FK}{xs ys:List Value}{r:Bool},cg (k1++k2) xs ys=some r ->
 ∃r1 r2,cg k1 (xs.take k1.length) (ys.take k1.length)=some r1/\cg k2 (xs.drop k1.length) (ys.drop k1.length)=some r2/\r=(r1&&r2):=by
 intro k1
 induction k1 with
 |nil=>intro k2 xs ys r h;exact⟨true,r,rfl,h,rfl⟩
 |cons k k1 ih=>
  intro k2 xs ys r h;simp only[List.cons_append]at h
  cases xs with
  |nil=>cases k<;>simp[cg]at h
  |cons x xs=>
   cases ys with
   |nil=>cases k<;>cases x<;>simp[cg]at h
   |cons y ys=>
    have fin:∀(q:Bool)(h:(cg (k1++k2) xs ys).map (q && ·)=some r)(hq:∀X Y,cg (k::k1) (x::X) (y::Y)=(cg k1 X Y).map (q && ·)),∃r1 r2,cg (k::k1) ((x::xs).take (k::k1).length) ((y::ys).take (k::k1).length)=some r1/\cg k2 ((x::xs).drop (k::k1).length) ((y::ys).drop (k::k1).length)=some r2/\r=(r1&&r2):=by
     intro q h hq;obtain⟨r',h1,h2⟩:=zy h;obtain⟨r1,r2,a1,a2,a3⟩:=ih h1;refine⟨q&&r1,r2,?_,by simpa using a2,by rw[<- h2,a3,Bool.and_assoc]⟩;simp only[oLC,List.take_succ_cons];rw[hq,a1];rfl
    cases k<;>cases x<;>cases y<;>simp only[cg]at h<;>first|(simp at h;done)|skip
    ·split at h
     ·rename_i e;exact fin _ h λX Y=>by simp only[cg,oIP e]
     ·simp at h
    ·exact fin _ h λX Y=>rfl
    ·exact fin _ h λX Y=>rfl
section
variable {P:Program} {w:World}
theorem qn{d D:Nat}{g:TypeId->Option (List FK)}
 (ih:∀t ks,g t=some ks->∀(xs ys:Array Value) off r,cg ks ((xs.toList.drop off).take ks.length) ((ys.toList.drop off).take ks.length)=some r->∃a b,(part t xs off).run P w=.ok a w/\(part t ys off).run P w=.ok b w/\(Op.equalIn D t a b).run P w=.ok r w)(xs ys:Array Value):
 ∀(fs:List Field)(o:Nat)(ks:List FK)(r:Bool),vh g o fs=some ks->cg ks (xs.toList.drop o) (ys.toList.drop o)=some r->(Op.eqFields D xs ys fs).run P w=.ok r w:=by
 intro fs
 induction fs with
 |nil=>
  intro o ks r h he;simp only[vh,oSJ]at h;subst h
  have hr:r=true:=by
   revert he;generalize xs.toList.drop o=X;generalize ys.toList.drop o=Y;intro he;cases X<;>cases Y<;>simp[cg]at he;exact he
  subst hr;rfl
 |cons f fs Ri=>
  intro o ks r h he;simp only[vh]at h;split at h
  case isFalse=>simp at h
  rename_i hf;split at h
  case h_2=>simp at h
  rename_i k1 ZA;obtain⟨k2,hk2,rfl⟩:=zy h;obtain⟨r1,r2,a1,a2,rfl⟩:=rr he;obtain⟨a,b,p1,p2,p3⟩:=ih f.type k1 ZA xs ys o r1 a1;rw[List.drop_drop,List.drop_drop]at a2;have ZN:=Ri (o+k1.length) k2 r2 hk2 a2;simp only[Op.eqFields];rw[oIP hf.1,hf.2];simp only[Sem.run_bind,p1,p2,p3,Result.andThen_ok]
  cases r1 with
  |false=>simp
  |true=>simp_all
theorem BR:∀(d:Nat)(t:TypeId)(ks:List FK),lp P d t=some ks->∀D,d<=D->∀(xs ys:Array Value)(off:Nat)(r:Bool),cg ks ((xs.toList.drop off).take ks.length) ((ys.toList.drop off).take ks.length)=some r ->
 ∃a b,(part t xs off).run P w=.ok a w/\(part t ys off).run P w=.ok b w/\(Op.equalIn D t a b).run P w=.ok r w:=by
 intro d
 induction d with
 |zero=>intro t ks h;simp[lp]at h
 |succ d ih=>
  intro t ks h D hD xs ys off r he;obtain⟨D',rfl⟩:∃D',D=D'+1:=⟨D-1,by omega⟩;simp only[lp]at h
  have one:∀(Rv:TypeDesc)(k:FK),P.underlying t=some Rv->(∀f,Rv≠.struct f)->(∀n e,Rv≠.array n e)->ks=[k]->∃x y,xs[off]?=some x/\ys[off]?=some y/\cg [k] [x] [y]=some r/\(part t xs off).run P w=.ok x w/\(part t ys off).run P w=.ok y w:=by
   rintro Rv k hu h1 h2 rfl;obtain⟨l1,l2⟩:=wS he
   obtain⟨x,hx⟩:∃x,xs.toList.drop off=x::(xs.toList.drop (off+1)):=by
    have:off<xs.toList.length:=by simp at l1⊢;omega
    exact⟨_,List.drop_eq_getElem_cons this⟩
   obtain⟨y,hy⟩:∃y,ys.toList.drop off=y::(ys.toList.drop (off+1)):=by
    have:off<ys.toList.length:=by simp at l2⊢;omega
    exact⟨_,List.drop_eq_getElem_cons this⟩
   have Wv:xs[off]?=some x:=by
    have:=congrArg (λl=>l[0]?) hx;simpa using this
   have TW:ys[off]?=some y:=by
    have:=congrArg (λl=>l[0]?) hy;simpa using this
   rw[hx,hy]at he;exact⟨x,y,Wv,TW,by simpa using he,by simp[part,iX hu h1 h2,Wv],by simp[part,iX hu h1 h2,TW]⟩
  split at h
  ·rename_i hu
   injection h with h
   obtain⟨x,y,_,_,e,p1,p2⟩:=one _ .b hu (λ_ h=>by cases h) (λ_ _ h=>by cases h) h.symm;refine⟨x,y,p1,p2,?_⟩;cases x<;>cases y<;>simp[cg]at e;simp[Op.equalIn,run_underlying hu,e]
  ·rename_i k0 hu
   injection h with h
   obtain⟨x,y,_,_,e,p1,p2⟩:=one _ .i hu (λ_ h=>by cases h) (λ_ _ h=>by cases h) h.symm;refine⟨x,y,p1,p2,?_⟩
   cases x<;>cases y<;>simp only[cg]at e<;>first|(simp at e;done)|skip
   rename_i ka a kb b;split at e
   ·rename_i hk;subst hk;simp at e;simp[Op.equalIn,run_underlying hu,e]
   ·simp at e
  ·rename_i hu
   injection h with h
   obtain⟨x,y,_,_,e,p1,p2⟩:=one _ .s hu (λ_ h=>by cases h) (λ_ _ h=>by cases h) h.symm;refine⟨x,y,p1,p2,?_⟩;cases x<;>cases y<;>simp[cg]at e;simp[Op.equalIn,run_underlying hu,e]
  ·rename_i fs hu;split at h
   case isTrue=>simp at h
   rename_i hst;split at h
   case h_2=>simp at h
   rename_i Uw Qk;split at h
   case isFalse=>simp at h
   rename_i hsz
   injection h with h
   subst h
   have Y3:(sizeOf t).run P w=.ok Uw.length w:=by
    unfold sizeOf typeInfo
    cases hi:P.info? t with
    |none=>simp[hi]at hsz
    |some i=>simp[hi]at hsz;simp[hi,hsz]
   have UU:∀zs:Array Value,(part t zs off).run P w=.ok (.agg (zs.extract off (off+Uw.length))) w:=λzs=>by
    simp[part,gZ hu (.inl ⟨_,rfl⟩),Y3]
   refine⟨_,_,UU xs,UU ys,?_⟩
   have RE:P.fieldsOf t=fs:=by simp[Program.fieldsOf,hu]
   rw[run_equalIn_struct w D' t _ _ (by rw[RE];exact hu) (by simpa using hst),RE];refine qn (d:=d) (g:=lp P d) (λt ks h xs ys off r he=>ih t ks h D' (by omega) xs ys off r he) _ _ fs.toList 0 Uw r Qk ?_
   have e:∀zs:Array Value,(zs.extract off (off+Uw.length)).toList.drop 0=(zs.toList.drop off).take Uw.length:=λzs=>by
    simp[List.extract_eq_take_drop]
   rw[e,e];exact he
  ·simp at h
theorem CE{d D:Nat}{t:TypeId}{ks:List FK}{fs:Array Field}(h:lp P (d+1) t=some ks)(hu:P.underlying t=some (.struct fs))(hD:d<=D){xs ys:Array Value}{r:Bool}(he:cg ks xs.toList ys.toList=some r):(Op.equalIn (D+1) t (.agg xs) (.agg ys)).run P w=.ok r w:=by
 simp only[lp,hu]at h;split at h
 case isTrue=>simp at h
 split at h
 case h_2=>simp at h
 rename_i Uw Qk;split at h
 case isFalse=>simp at h
 have RE:P.fieldsOf t=fs:=by simp[Program.fieldsOf,hu]
 rw[run_equalIn_struct w D t _ _ (by simp_all) (by simp_all),RE];exact qn (d:=d) (λt ks h xs ys off r he=>BR d t ks h D hD xs ys off r he) _ _ fs.toList 0 Uw r Qk (by simp_all)
variable {M:Fm} {σ σ':St} {G:Gh} {a:Act} {o:Oper}
theorem Es{F:Nat->Prop}{V:Vs}{C:Cs}:∀{l:List TV}{vs:List Value},bT l=some vs->vs.length=l.length/\∀j (h:j<l.length)(h':j<vs.length)(x:Value),TmR w F V C G l[j] x->x=vs[j]:=by
 intro l
 induction l with
 |nil=>intro vs h;simp[bT]at h;subst h;exact⟨rfl,λj h=>by simp at h⟩
 |cons t l ih=>
  intro vs h
  cases t with
  |v z=>
   obtain⟨N0,h1,rfl⟩:=zy h;have ⟨e,h2⟩:=ih h1;refine⟨by simp[e],λj hj ZT x hx=>?_⟩
   cases j with
   |zero=>exact hx.v_inv.1
   |succ j=>exact h2 j (by simp_all) (by simp_all) x hx
  |_=>simp[bT]at h
theorem vf{F:Nat->Prop}{V:Vs}{C:Cs}{l:List TV}{vs:List Value}{x:Value}(h:bT l=some vs)(hx:TmR w F V C G (.agg l) x):x=.agg vs.toArray:=by
 obtain⟨xs,rfl,hl,hj⟩:=Ai hx;obtain⟨e,h2⟩:=Es h;congr 1;apply Array.ext
 ·simp_all
 ·intro j h1 h3;have:=h2 j (by omega) (by omega) _ (hj j (by omega))
  have e2:xs.getD j undef=xs[j]:=by simp[h1]
  simp_all
theorem AX(hI:Inv M σ [] [] a.tmps w G){d:Nat}(hd:o.dst=some d)(hN:d<M.N){x y:Opd}{x' y':Operand}{op:BinOp}{neg:Bool}{t yt:TypeId}{ks:List FK}{fs:Array Field}(hx:bq x'=some x)(hy:bq y'=some y)(ho:o.op=.binOp op t x' y' yt)(hop:(op=.eql/\neg=false)\/(op=.neq/\neg=true))
 (hu:P.underlying t=some (.struct fs))(hk:lp P 50 t=some ks)(XU:P.eqGuardType P.depth t=false)(hr:(ev1 d (.eqa ks neg x y)).run σ=some ((),σ')):gB P M σ' a o w:=by
 obtain⟨t1,σ1,h1,h2⟩:=bn hr;obtain⟨rfl,ZZ⟩:=cf hI.tmr hx h1;obtain⟨t2,σ2,h3,h4⟩:=bn h2;obtain⟨rfl,Xr⟩:=cf hI.tmr hy h3
 cases t1 with
 |agg l1=>
  cases t2 with
  |agg l2=>
   simp only at h4;obtain⟨Pp,σ3,h5,h6⟩:=bn h4;obtain⟨e1,rfl⟩:=ju h5;obtain⟨RT,σ4,h7,h8⟩:=bn h6;obtain⟨e2,rfl⟩:=ju h7;obtain⟨r,σ5,h9,ZM⟩:=bn h8;obtain⟨e3,rfl⟩:=ju h9;have ex:=vf e1 ZZ;have ey:=vf e2 Xr;have hq:(Op.equalIn 10000 t (.agg Pp.toArray) (.agg RT.toArray)).run P w=.ok r w:=CE (d:=49) (D:=9999) hk hu (by omega) (by omega);have hg:(eqGuard op t x' y' (.agg Pp.toArray) (.agg RT.toArray)).run P w=.ok () w:=run_eqGuard_agg w op t x' y' _ _ XU;refine dK hI hd hN (.v rfl) ZM ?_
   rcases hop with⟨rfl,rfl⟩|⟨rfl,rfl⟩
   ·simp[execOp,ho,ex,ey,hg,run_eql_struct,hq]
   ·simp[execOp,ho,ex,ey,hg,run_neq_struct,hq]
  |_=>simp[SP.run]at h4
 |_=>simp[SP.run]at h4
end
section
variable {P:Program} {M:Fm} {σ σ':St} {H:List TV} {xs:List Value} {ts:Array Value} {w:World} {G:Gh} {a:Act} {o:Oper}
theorem zR(mx:Bool)(k:IntKind):∀(r:List Value)(x m:Int),ot mx k x r=some m->(r.foldlM (if mx then Builtin.max2 else Builtin.min2) (.int k x)).run P w=.ok (.int k m) w:=by
 intro r
 induction r with
 |nil=>
  intro x m h;simp[ot]at h
  simp_all
 |cons y r ih=>
  intro x m h
  cases y with
  |int k' b=>
   simp only[ot]at h;split at h
   ·rename_i hk;have:=ih _ _ h
    cases mx with
    |true=>
     simpa[Builtin.max2]using this
    |false=>
     simpa[Builtin.min2]using this
   ·simp at h
  |_=>simp[ot]at h
theorem E7(hI:Inv M σ [] [] a.tmps w G){d:Nat}(hd:o.dst=some d)(hN:d<M.N){mx:Bool}{l:List Opd}{args:Array Operand}{U0:Array TypeId}(hc:args.toList.map bq=l.map some)(ho:o.op=.call { callee:=.builtin (if mx then .max else .min),args:=args,argTypes:=U0 })
 (hr:(ev1 d (.mm mx l)).run σ=some ((),σ')):gB P M σ' a o w:=by
 simp only[ev1]at hr;obtain⟨r,σ1,h1,h2⟩:=bn hr
 obtain⟨rfl,e2,e3⟩:=B2 (R:=λy x'=>y=a.eval x') (λx x' y σ' hx hy=>by
  obtain⟨t,σ2,q1,q2⟩:=bn hy;obtain⟨rfl,ht⟩:=cf hI.tmr hx q1;obtain⟨rfl,rfl⟩:=jl q2
  exact⟨rfl,(ht.v_inv).1.symm⟩) hc h1
 have Wd:args.toList.map a.eval=r:=by
  apply List.ext_getElem
  ·simp[e2]
  ·simp_all
 split at h2
 case h_2=>simp[SP.run]at h2
 rename_i k x rest;obtain⟨m,σ2,h3,h4⟩:=bn h2;obtain⟨hm,rfl⟩:=ju h3;refine dK hI hd hN (x:=.int k m) (.v rfl) h4 ?_;have hf:=zR (P:=P) (w:=w) mx k rest x m hm
 cases mx with
 |true=>
  simp only[if_true]at hf ho;simp[execOp,ho,resolve,invoke,builtin,Builtin.max_,Wd,hf]
 |false=>
  simp only[Bool.false_eq_true,if_false]at hf ho;simp[execOp,ho,resolve,invoke,builtin,Builtin.min_,Wd,hf]
theorem DF(hI:Inv M σ [] [] a.tmps w G){d:Nat}(hd:o.dst=some d)(hN:d<M.N){x i:Opd}{x' i':Operand}{t e n sz:Nat}(hx:bq x'=some x)(hi:bq i'=some i)(ho:o.op=.indexAddr t x' i')
 (hu:P.underlying t=some (.array n e))(hs:(P.info? e).map (·.size)=some sz)(hr:(ev1 d (.idxa n sz x i)).run σ=some ((),σ')):gB P M σ' a o w:=by
 have Y3:(sizeOf e).run P w=.ok sz w:=by
  unfold sizeOf typeInfo
  cases hi:P.info? e with
  |none=>simp[hi]at hs
  |some i=>simp[hi]at hs;simp[hi,hs]
 simp only[ev1]at hr;obtain⟨tx,σ1,h1,h2⟩:=bn hr;obtain⟨rfl,ZZ⟩:=cf hI.tmr hx h1;obtain⟨ti,σ2,h3,h4⟩:=bn h2;obtain⟨rfl,SL⟩:=cf hI.tmr hi h3;obtain⟨k,σ3,h5,h6⟩:=bn h4;obtain⟨ik,m,rfl,Xf,hk,rfl⟩:=gM h5;obtain⟨ei,_⟩:=SL.v_inv
 cases tx with
 |ptr p vs=>
  simp only at h6;obtain⟨_,σ2,h7,h8⟩:=bn h6;have e1:σ2=σ3:=(bE h7).1;have e2:=(bE h7).2;subst e1;split at h8
  case isFalse=>simp[SP.run]at h8
  rename_i hc;simp only[oBA,oDE]at hc;obtain⟨QB,hfit⟩:=hc;generalize hz:a.eval x'=z at ZZ
  cases ZZ with
  |ptr V0 h0 hv h=>
   obtain⟨Z7,ad,t0,ha,rfl,Zm⟩:=h e2
   have O2:m<(n:Int):=by omega
   refine dK hI hd hN (x:=.pointer (some (ad.add (k*sz)))) ?_ h8 (by subst hk;simp[execOp,ho,hz,ei,Instr.indexAt,asIntOf,Instr.sureAddr,run_underlying hu,Xf,O2,Y3]);refine .ptr V0 h0 (by rw[xw];exact hv) λ_=>⟨by rw[cA];exact Z7,⟨ad.block,ad.off+k*sz,none⟩,?_⟩;have Zn:=gr ha
   have XQ:ad.add (k*sz)=⟨ad.block,ad.off+k*sz,none⟩:=by
    obtain⟨b,ob,sp⟩:=ad;simp only at Zn;subst Zn;exact cQ b ob (k*sz)
   rcases p.add_cases (k*sz)with⟨q1,q2⟩|⟨hs',i,sz',o',q1,q2⟩
   ·exact⟨bM M σ2 [] p.root (p.off+k*sz),iI _ ha,by rw[XQ],by rw[q2];rfl⟩
   ·have hlt:o'+k*sz<sz':=by
     unfold bA.fits at hfit;rw[q1]at hfit;simpa using hfit
    rw[q1]at Zm;obtain⟨t',YT⟩:=ym Zm hlt;exact⟨t',iI _ ha,by rw[XQ],by rw[q2];exact YT⟩
 |_=>simp[SP.run]at h6
theorem FH(hI:Inv M σ [] [] a.tmps w G){d:Nat}(hd:o.dst=some d)(hN:d<M.N){x:Opd}{x':Operand}{s t e:TypeId}(hx:bq x'=some x)(ho:o.op=.convert s t x')(hs:P.underlying s=some .string)(ht:P.underlying t=some (.slice e))(he:P.underlying e=some (.int .u8))
 (hr:(ev1 d (.s2b x)).run σ=some ((),σ')):gB P M σ' a o w:=by
 simp only[ev1]at hr;obtain⟨tx,σ1,h1,h2⟩:=bn hr;obtain⟨rfl,ZZ⟩:=cf hI.tmr hx h1
 cases tx with
 |v y=>
  obtain⟨ex,_⟩:=ZZ.v_inv
  cases y with
  |string str=>
   simp only at h2;split at h2
   case isFalse=>simp[SP.run]at h2
   rename_i hsz;obtain⟨n,hn⟩:∃n,n=w.tape w.drawn (.appendCap str.size 0 e):=⟨_,rfl⟩;obtain⟨cap,hcap⟩:∃cap,cap=str.size+n%(2 ^ 63-str.size):=⟨_,rfl⟩
   have OM:str.size<=cap:=by omega
   have Sr:cap<=maxLen:=by
    have:n%(2 ^ 63-str.size)<2 ^ 63-str.size:=Nat.mod_lt _ (by omega);show cap<=2 ^ 63-1;omega
   obtain⟨row,hrow⟩:∃row:Array Value,row=(str.data.map λb=>Value.int .u8 b.toNat)++Array.replicate (cap-str.size) (.int .u8 0):=⟨_,rfl⟩;obtain⟨w1,VD⟩:∃w1,w1=w.drew.alloc (.cells row e):=⟨_,rfl⟩
   have Yo:w1.heap=w.heap.push (.cells row e):=by rw[VD];rfl
   have hsh:w1.shape? w.heap.size=some (e,row.size):=by
    unfold World.shape?;rw[Yo];simp
   have hrun:(execOp a.eval o).run P w=.ok (.value (.slice (some ⟨w.heap.size,0,none⟩) str.size cap)) (w1.freeze ⟨w.heap.size,row.size,none⟩ 1):=by
    simp only[execOp,ho,ex,convert,Sem.run_bind,run_underlying hs,run_underlying ht,run_underlying he,Result.andThen_ok,Conv.stringToBytes,run_choose_drew,Question.forced,Bool.false_eq_true,if_false,Question.cut,newRow,run_newObj_alloc,Sem.run_pure];rw[<- hn,<- hcap,<- hrow];simp only[show w.drew.heap.size=w.heap.size from rfl,<- VD,markStringish,Sem.run_bind,run_shape,Result.andThen_ok,hsh,run_freeze,Sem.run_pure]
   have Zx:∀k,k<w.heap.size->(w1.freeze ⟨w.heap.size,row.size,none⟩ 1).heap[k]?=w.heap[k]?:=by
    intro k hk;unfold World.freeze;rw[oIN (by decide)];simp only;rw[Array.getElem?_modify];rw[oIN (by omega),Yo];simp[Array.getElem?_push,show k≠w.heap.size by omega]
   have Zp:∃fz,(w1.freeze ⟨w.heap.size,row.size,none⟩ 1).heap[w.heap.size]?=some (.cells row e fz):=by
    unfold World.freeze;rw[oIN (by decide)];simp only;rw[Array.getElem?_modify,oIP rfl,Yo];exact⟨_,by simp only[Array.getElem?_push_size,oMS];rfl⟩
   obtain⟨fz,Zp⟩:=Zp;obtain⟨ZY,_⟩:=hI.grow (w':=w1.freeze ⟨w.heap.size,row.size,none⟩ 1) Zx (by unfold World.freeze;rw[oIN (by decide)];simp[Yo]) (by rw[VD];rfl) (by rw[VD];rfl) (by rw[VD];rfl);simp only[wr,SP.run,oSJ,oPJ,true_and]at h2;subst h2;refine⟨_,_,_,G,hrun,.inl rfl,?_⟩;rw[hd]
   have So:(kH str).length=str.size:=by unfold kH;rw[List.length_map,Array.length_toList];rfl
   refine ZY.wrT hN (.sl ?_)
   have V4:fM (w1.freeze ⟨w.heap.size,row.size,none⟩ 1) (G.F M.A) (.sl (kH str)) (.slice (some ⟨w.heap.size,0,none⟩) (kH str).length cap):=by
    refine .sl 1 (λi _=>.int .u8 (str.data.getD i 0).toNat) (λi h=>by simp[kH]) (by omega) Sr (λh=>by simp at h) (λi j hi hj=>⟨w.heap.size,0,rfl,?_,?_⟩) λi j h h'=>?_
    ·exact⟨M.hA _ hI.fram.size,λr o h=>Nat.lt_irrefl _ (hI.core.live h),λr b o n hb e=>Nat.lt_irrefl _ (e▸hI.core.boxlt hb)⟩
    ·have Ve:j=0:=by omega
     subst Ve;rw[cell_of_row _ _ _ _ _ _ Zp]
     have ZH:i<str.data.size:=by rw[So]at hi;exact hi
     have hg:str.data[i]?=some str.data[i]:=Array.getElem?_eq_getElem ZH;rw[hrow];simp[Array.getElem?_append,show i<str.size from ZH,Array.getD_eq_getD_getElem?,hg]
    ·have Ve:j=0:=by simp[kH]at h';omega
     subst Ve
     have ZH:i<str.data.size:=by rw[So]at h;exact h
     have:(kH str)[i][0]=.v (.int .u8 (str.data.getD i 0).toNat):=by
      have hg:str.data[i]?=some str.data[i]:=Array.getElem?_eq_getElem ZH;simp[kH,Array.getD_eq_getD_getElem?,hg]
     rw[this];exact .v rfl
   rw[So]at V4;exact V4
  |_=>simp[SP.run]at h2
 |_=>simp[SP.run]at h2
theorem C1{c:List (List TV)}:∀{ns:List Int},ry c=some ns->ns.length=c.length/\∀i (h:i<c.length)(h':i<ns.length),c[i]=[.v (.int .u8 ns[i])]:=by
 induction c with
 |nil=>intro ns h;simp only[ry,oSJ]at h;subst h;exact⟨rfl,λi h=>by simp at h⟩
 |cons e c ih=>
  intro ns h;unfold ry at h;split at h
  ·simp_all
  ·rename_i n r h1
   injection h1 with h1 h2
   subst h1;subst h2
   cases hb:ry c with
   |none=>simp_all
   |some l=>
    simp[hb]at h;subst h;obtain⟨e1,e2⟩:=ih hb;refine⟨by simp[e1],λi hi ZH=>?_⟩
    cases i with
    |zero=>rfl
    |succ i=>simp_all
  ·simp at h
theorem F1(hI:Inv M σ [] [] a.tmps w G){d:Nat}(hd:o.dst=some d)(hN:d<M.N){x:Opd}{x':Operand}{s t e:TypeId}(hx:bq x'=some x)(ho:o.op=.convert s t x')(hs:P.underlying s=some (.slice e))(ht:P.underlying t=some .string)(he:P.underlying e=some (.int .u8))
 (hr:(ev1 d (.b2s x)).run σ=some ((),σ')):gB P M σ' a o w:=by
 simp only[ev1]at hr;obtain⟨tx,σ1,h1,h2⟩:=bn hr;obtain⟨rfl,ZZ⟩:=cf hI.tmr hx h1;obtain⟨t',σ2,h3,h4⟩:=bn h2;obtain⟨G1,Z1,_⟩:=dX hI ZZ h3;simp only[List.nil_append]at Z1;obtain⟨G2,ZJ,_⟩:=Z1.1.drop
 have fin:∀str ad len cap,a.eval x'=.slice ad len cap->(Conv.bytesToString (.slice ad len cap)).run P w=.ok (.string str) w->(wr d (.v (.string str))).run σ2=some ((),σ')->gB P M σ' a o w:=by
  intro str ad len cap ex hrun hw;refine dK ZJ.1 hd hN (x:=.string str) (.v rfl) hw ?_;simp only[execOp,ho,Sem.run_bind,ex]
  have:(convert s t (.slice ad len cap)).run P w=.ok (.string str) w:=by
   unfold convert;simp only[Sem.run_bind,run_underlying hs,run_underlying ht,run_underlying he,Result.andThen_ok];exact hrun
  rw[this];rfl
 have hown:=λh=>Z1.1.hand_own (j:=0) (by simp) h;split at h4
 ·rename_i c;obtain⟨str,σ3,h5,h6⟩:=bn h4;obtain⟨hb,rfl⟩:=ju h5;have hown:=hown (by simp);generalize hz:a.eval x'=z at hown
  cases hown with
  |sl hfp h=>
   cases h with
   | @sl _ ad cap sz u hsz hcap hmax hnil hcell hrec=>
    unfold bstr at hb
    cases hbn:ry c with
    |none=>simp[hbn]at hb
    |some ns=>
     simp only[hbn,oMS,oSJ]at hb;obtain⟨hl,Z4⟩:=C1 hbn;refine fin str _ _ _ hz ?_ h6
     cases ad with
     |none=>
      have UI:c.length=0:=by have:=hnil rfl;omega
      have hns:ns=[]:=oEN (by omega);subst hns;rw[<- hb];rfl
     |some ad=>
      rw[<- hb];refine run_bytesToString w ad c.length cap ns ?_
      have:=run_loadCells_list (P:=P) w ad (ns.map (Value.int .u8)) λj v hj=>by
       have hjl:j<ns.length:=by
        rcases Nat.lt_or_ge j ns.length with h|h
        ·exact h
        ·rw[oGN (by simpa using h)]at hj;simp at hj
       have V5:j<c.length:=by omega
       have e1:=Z4 j V5 hjl
       have Za:sz=1:=by rw[<- hsz j V5,e1];rfl
       subst Za;obtain⟨b,o',hab,hF,hcl⟩:=hcell j 0 V5 (by omega)
       injection hab with hab
       subst hab;have hr:=hrec j 0 V5 (by rw[e1];simp)
       have e2:c[j][0]'(by rw[e1];simp)=.v (.int .u8 ns[j]):=by simp[e1]
       rw[e2]at hr
       have hu:u j 0=.int .u8 ns[j]:=by
        generalize u j 0=y at hr;cases hr;rfl
       have hv:v=.int .u8 ns[j]:=by simpa[hjl]using hj.symm
       rw[hv,<- hu,cQ];simpa using hcl
      simpa[hl]using this
 ·have hown:=hown (by simp);generalize hz:a.eval x'=z at hown
  cases hown with
  | @nil _ ad hfp=>
   refine fin .empty _ _ _ hz ?_ h4
   cases ad with
   |none=>rfl
   |some ad=>
    have:=run_bytesToString (P:=P) w ad 0 0 [] (by simp[loadCells,loadCellsFrom]);simpa using this
  | @ow _ _ b cap cur e' sz' u f hfp hb hsz hcap hz0 hmax hcur hcell hrec hnb hdis=>
   refine fin .empty _ _ _ hz ?_ h4;have:=run_bytesToString (P:=P) w ⟨b,0,none⟩ 0 cap [] (by simp[loadCells,loadCellsFrom]);simpa using this
 ·simp[SP.run]at h4
theorem DJ(hI:Inv M σ [] [] a.tmps w G){d:Nat}{mv:Bool}(hd:o.dst=some d)(hN:d<M.N){t e n sz:TypeId}{parts:Array (Nat×Operand)}{ps:List (Nat×Nat×Opd)}{z:List Value}(ho:o.op=.build t parts)(hu:P.underlying t=some (.array n e))
 (hz:(P.info? t).bind (·.zero.map (·.cells.toList))=some z)(hs:(P.info? e).map (·.size)=some sz)(hp1:parts.size=ps.length)
 (hp2:∀k (h:k<parts.size)(h':k<ps.length),bq parts[k].2=some ps[k].2.2/\ps[k].1=parts[k].1*sz/\ps[k].2.1=sz/\ps[k].1+ps[k].2.1<=z.length)
 (hr:(ev1 d (.bld z mv ps)).run σ=some ((),σ')):gB P M σ' a o w:=by
 simp only[ev1]at hr;split at hr
 case isFalse=>simp[SP.run]at hr
 rename_i hok;obtain⟨l,σ1,h1,h2⟩:=bn hr;obtain⟨l',σ2,h3,h4⟩:=bn h2
 obtain⟨G1,g1,Uq,XE⟩:=jS (a:=a) (pv:=parts.toList.map (·.2)) hI (by
  apply List.ext_getElem
  ·simp[hp1]
  ·intro k hk YW;have:=(hp2 k (by simpa using hk) (by simpa using YW)).1
   simpa using this) h1
 obtain⟨G2,ZY,_,WQ,Ym⟩:=mF g1.1 Uq h3;obtain⟨ys,Xi⟩:∃ys,ys=(parts.toList.map (·.2)).flatMap (λx=>(a.eval x).cells.toList):=⟨_,rfl⟩;rw[<- Xi]at g1 Ym
 have hlen:l'.length=ys.length:=by rw[WQ];exact g1.1.hand
 have Wj:∀j (h:j<(z.map bQ).length)(h':j<z.length),TmR w (G2.F M.A) σ2.v (bM M σ2 []) G2 (z.map bQ)[j] z[j]:=λj h h'=>by simp only[List.getElem_map];exact mD _
 obtain⟨r1,r2⟩:=jE (R:=TmR w (G2.F M.A) σ2.v (bM M σ2 []) G2) ps l' ys (z.map bQ) z (by simp) Wj hlen (λj h h'=>by have:=Ym j h;simpa[h']using this);refine dK ZY hd hN (x:=.agg (io z ps ys).toArray) (.agg (by simp[r1]) λj hj=>by have:=r2 j hj (by omega);simpa[show j<(io z ps ys).length by omega]using this) h4 ?_
 cases hi:P.info? t with
 |none=>simp[hi]at hz
 |some i=>
  simp only[hi,oBS]at hz
  cases hiz:i.zero with
  |none=>simp[hiz]at hz
  |some v=>
   simp only[hiz,oMS,oSJ]at hz
   have VE:(zeroValue t).run P w=.ok v w:=by simp[zeroValue,typeInfo,hi,hiz]
   have Y3:(sizeOf e).run P w=.ok sz w:=by
    unfold sizeOf typeInfo
    cases hi:P.info? e with
    |none=>simp[hi]at hs
    |some i=>simp_all
   have YH:=qh (place:=λi=>some (i*sz,sz)) (parts.toList.map λp=>(p.1,a.eval p.2)) ps v.cells (by simp[hp1]) (λk h h'=>by
    have hk:k<parts.size:=by simpa using h
    obtain⟨q1,q2,q3,q5⟩:=hp2 k hk h';have q4:=XE k h' (by simpa using hk);refine⟨by simp[q2,q3],by simpa using q4,?_⟩;rw[<- hz]at q5
    simpa using q5)
   have Zq:((parts.toList.map λp=>(p.1,a.eval p.2)).flatMap (·.2.cells.toList))=ys:=by rw[Xi];simp[List.flatMap_map]
   rw[Zq,hz]at YH;simp only[execOp,ho,Instr.build,Sem.run_bind,VE,Result.andThen_ok,run_underlying hu,Y3,Array.toList_map];rw[YH];simp
end
theorem oh{α:Type}{l:List α}{i:Nat}{x:α}{f g:α->α}(h:l[i]?=some x)(e:f x=g x):l.modify i f=l.modify i g:=by
 apply List.ext_getElem?
 grind
theorem wK{hs:List Hop}{i sz j:Nat}{c:List (List TV)}{el:List TV}{t1:TV}:∀{t:TV},bJ t hs=some (.ow c)->c[i]?=some el->el.length=sz->el[j]?=some t1->bJ t (hs++[(i,sz,j)])=some t1:=by
 induction hs with
 |nil=>
  intro t h h1 h2 h3;simp[bJ]at h;subst h;simp[bJ,h1,h2,h3]
 |cons hp hs ih=>
  intro t h h1 h2 h3;obtain⟨c0,Mf,t0,rfl,k1,k2,k3,k4⟩:=dc h;simp[bJ]
  simp_all
theorem vQ{hs:List Hop}{i sz j:Nat}{c:List (List TV)}{x:TV}:∀{t:TV},bJ t hs=some (.ow c)->dn t (hs++[(i,sz,j)]) x=dn t hs (.ow (c.modify i λel=>el.modify j λ_=>x)):=by
 induction hs with
 |nil=>
  intro t h;simp[bJ]at h;subst h;simp[dn]
 |cons hp hs ih=>
  intro t h;obtain⟨c0,Mf,t0,rfl,k1,k2,k3,k4⟩:=dc h;simp only[List.cons_append,dn];congr 1;refine oh k1 (oh k3 (ih k4))
theorem Bm{hs:List Hop}{x y:TV}:∀{t:TV},dn (dn t hs y) hs x=dn t hs x:=by
 induction hs with
 |nil=>intro t;rfl
 |cons hp hs ih=>
  obtain⟨a,b,d⟩:=hp;intro t
  cases t with
  |ow c=>
   simp only[dn];congr 1;apply List.ext_getElem?;intro k;simp only[List.getElem?_modify];by_cases hk:a=k
   ·subst hk
    cases c[a]? with
    |none=>rfl
    |some el=>
     simp only[if_true,Option.map_eq_map,oMS];congr 1;apply List.ext_getElem?;intro k;simp only[List.getElem?_modify,Option.map_eq_map];by_cases hk:d=k
     ·subst hk
      cases el[d]? with
      |none=>rfl
      |some t1=>simp[ih]
     ·cases el[k]?<;>simp[hk]
   ·cases c[k]?<;>simp[hk]
  |_=>rfl
theorem nw{α:Type}(l:List (Nat×α))(i:Nat)(x y:α):cM (cM l i x) i y=cM l i y:=by
 induction l with
 |nil=>simp[cM]
 |cons h r ih=>
  have ⟨k,v⟩:=h;by_cases hk:k=i
  ·subst hk;simp[cM]
  ·simp[hk,cM,ih]
theorem vw{w:World}{hs:List Hop}{k sz n cap j:Nat}{ad:Addr}:∀{x:Value},hvT w x hs=some (.slice (some ad) n cap)->k<n->ca w x (hs++[(k,sz,j)])=some ⟨ad.block,ad.off+(k*sz+j),none⟩:=by
 induction hs with
 |nil=>
  intro x h hk;simp only[hvT,oSJ]at h;subst h;simp[ca,hk]
 |cons hp hs ih=>
  intro x h hk;simp only[hvT]at h
  cases x with
  |slice a l c=>
   cases a with
   |none=>cases hs<;>simp[ca]at h
   |some a=>
    obtain⟨hd,tl,Xz⟩:∃hd tl,hs++[(k,sz,j)]=hd::tl:=by cases hs<;>exact⟨_,_,rfl⟩
    cases hs with
    |nil=>
     simp only[ca]at h;split at h
     ·rename_i hi;simp at h;simp only[List.cons_append,List.nil_append,ca,hi,if_true,h,hk]
     ·simp at h
    |cons hp2 Y1=>
     simp only[ca]at h;split at h
     ·rename_i hi;split at h
      ·rename_i y hy;rw[List.cons_append,Xz];simp[ca,hi,if_true,hy];rw[<- Xz];exact ih (by simpa[hvT]using h) hk
      ·simp at h
     ·simp at h
  |_=>cases hs<;>simp[ca]at h
section
variable {P:Program} {M:Fm} {σ σ':St} {H:List TV} {xs:List Value} {ts:Array Value} {w:World} {G:Gh} {a:Act} {o:Oper}
def St.sub(σ:St)(p:bA)(l:List TV)(t:TV):St:=⟨σ.tm,cM σ.ce p.root (l.set p.off (dn (σ.c p.root p.off) p.hops t)),σ.vr⟩
theorem vC{p:bA}{l:List TV}{t:TV}(hl:p.off<l.length):(σ.sub p l t).c p.root p.off=dn (σ.c p.root p.off) p.hops t:=by
 simp[St.c,St.sub,bY];simp[hl]
theorem DT(hI:Inv M σ [] [] ts w G){p:bA}{c:List (List TV)}{el:List TV}{b n cap i sz j:Nat}{old v:Value}(Z7:p.root≠1)(ZG:G.hv w p=some (.slice (some ⟨b,0,none⟩) n cap))(hg:bJ (σ.c p.root p.off) p.hops=some (.ow c))(hin:i<n)
 (hi:c[i]?=some el)(hl:el.length=sz)(hj:el[j]?=some (.v old))(hv:dZ v=true){l:List TV}(hal:bO σ.ce p.root=some l)(hol:p.off<l.length):
 ∃G',Inv M (σ.sub p l (.ow (c.modify i λel=>el.modify j λ_=>.v v))) [] [] ts (w.setCell ⟨b,i*sz+j,none⟩ v) G'/\(w.cell? ⟨b,i*sz+j,none⟩).isSome=true/\w.frozen? ⟨b,i*sz+j,none⟩=false/\G'.hv (w.setCell ⟨b,i*sz+j,none⟩ v) p=some (.slice (some ⟨b,0,none⟩) n cap):=by
 obtain⟨G1,Z1⟩:=hI.addHand (x:=v) (.v (λ_ h=>h) hv)
 have Ui:bJ (bM M σ [] p.root p.off) p.hops=some (.ow c):=by rw[bG (Z7)];exact hg
 obtain⟨c1,V3,_,_⟩:=Z1.2.2.1.hdr p _ c Z7 rfl ZG Ui
 obtain⟨hd,tl,Xz⟩:∃hd tl,p.hops++[(i,sz,j)]=hd::tl:=by cases p.hops<;>exact⟨_,_,rfl⟩
 have Z2:G1.addrB w ⟨p.root,p.off,p.hops++[(i,sz,j)]⟩=some ⟨b,i*sz+j,none⟩:=by
  have:=vw (sz:=sz) (j:=j) V3 hin;unfold Gh.addrB
  simp_all
 have OS:=wK hg hi hl hj
 have Qs:bJ (bM M σ [.v v] p.root p.off) (p.hops++[(i,sz,j)])=some (.v old):=by rw[bG (Z7)];exact OS
 have hrun:(oI ⟨p.root,p.off,p.hops++[(i,sz,j)]⟩ (.v v)).run σ=some ((),σ.sub p l (.ow (c.modify i λel=>el.modify j λ_=>.v v))):=by
  simp only[oI,SP.run,OS,lT,Bool.or_self,Bool.false_eq_true,if_false,hal,hol,if_true];rw[vQ hg];rfl
 obtain⟨⟨u,hu⟩,Xc,G2,ZY,hm,Zt,hβ⟩:=Z1.1.put (p:=⟨p.root,p.off,p.hops++[(i,sz,j)]⟩) (j:=0) Z7 Z2 Qs (by simp) (by simp) (by simpa using hrun)
 have Ye:=ZY.clear (by intro k hk;have:k=0:=by simp at hk;omega
                       simp)
 have Qp:bJ (bM M σ [.v v] p.root p.off) p.hops=some (.ow c):=by rw[bG (Z7)];exact hg
 obtain⟨c2,YA,_,_⟩:=hm.keeps.hdr p _ c Z7 rfl V3 Qp;exact⟨G2,Ye,by simp_all,Xc,YA⟩
theorem oT{c:List (List TV)}{i j i' j':Nat}{x:TV}{el:List TV}{y:TV}(h:c[i']?=some el)(hy:el[j']?=some y)(hne:¬(i'=i/\j'=j)):
 ∃VH,(c.modify i λel=>el.modify j λ_=>x)[i']?=some VH/\VH[j']?=some y:=by
 by_cases hi:i=i'
 ·subst hi
  have hj:¬j=j':=by omega
  simp_all
 ·simp_all
theorem DY{p:bA}{b n cap sz:Nat}(Z7:p.root≠1)(hsz:0<sz):∀(vals:List Value)(c:List (List TV))(o:Nat)(σ:St)(w:World)(G:Gh)(l:List TV),vals≠[]->Inv M σ [] [] ts w G->G.hv w p=some (.slice (some ⟨b,0,none⟩) n cap)->bJ (σ.c p.root p.off) p.hops=some (.ow c)->n=c.length ->
 (∀el∈c,el.length=sz)->(∀v∈vals,dZ v=true)->(∀t,o<=t->t<o+vals.length->∃el y,c[t/sz]?=some el/\el[t%sz]?=some (.v y))->bO σ.ce p.root=some l->p.off<l.length ->
 (∃G',Inv M (σ.sub p l (.ow (i4 sz c o vals))) [] [] ts (w.setCells b o vals) G')/\∀j,j<vals.length->(w.cell? ⟨b,o+j,none⟩).isSome=true/\w.frozen? ⟨b,o+j,none⟩=false:=by
 intro vals
 induction vals with
 |nil=>intro c o σ w G l h;exact absurd rfl h
 |cons v vals ih=>
  intro c o σ w G l _ hI ZG hg hn hlen Pd Zq hal hol;obtain⟨el,y,h1,h2⟩:=Zq o (Nat.le_refl _) (by simp);have Y4:el.length=sz:=hlen el (List.mem_of_getElem? h1)
  have MZ:o/sz<n:=by rw[hn];exact(oGS h1).1
  have ho:o/sz*sz+o%sz=o:=by rw[Nat.mul_comm];exact Nat.div_add_mod o sz
  obtain⟨G1,hI1,Za,Qf,V3⟩:=DT hI Z7 ZG hg MZ h1 Y4 h2 (Pd v (by simp)) hal hol;rw[ho]at hI1 Za Qf V3
  cases vals with
  |nil=>
   refine⟨⟨G1,hI1⟩,λj hj=>?_⟩
   obtain rfl:j=0:=by simp at hj;omega
   exact⟨Za,Qf⟩
  |cons v2 vals=>
   obtain⟨c1,Ze⟩:∃c1,c1=c.modify (o/sz) λel=>el.modify (o%sz) λ_=>.v v:=⟨_,rfl⟩;rw[<- Ze]at hI1;obtain⟨l1,Vf⟩:∃l1,l1=l.set p.off (dn (σ.c p.root p.off) p.hops (.ow c1)):=⟨_,rfl⟩;have QT:(σ.sub p l (.ow c1)).c p.root p.off=dn (σ.c p.root p.off) p.hops (.ow c1):=vC hol
   obtain⟨⟨G2,ZY⟩,Zl⟩:=ih c1 (o+1) (σ.sub p l (.ow c1)) _ G1 l1 (by simp) hI1 V3 (by rw[QT];exact ro hg) (by rw[hn,Ze];simp) (λVH Uh=>by
    have Na:=iM c (o/sz) (o%sz) (λ_=>.v v);have:VH.length∈c1.map List.length:=List.mem_map_of_mem Uh;rw[Ze,Na]at this;obtain⟨e3,e4,e5⟩:=List.mem_map.1 this
    rw[<- e5];exact hlen e3 e4) (λx hx=>Pd x (by simp at hx⊢;exact .inr hx)) (λt Vq Ym=>by
    obtain⟨VH,y',q1,q2⟩:=Zq t (by omega) (by simp at Ym⊢;omega)
    obtain⟨PH,q3,q4⟩:=oT (x:=.v v) q1 q2 (i:=o/sz) (j:=o%sz) (by
     rintro⟨e1,e2⟩;have h3:=Nat.div_add_mod t sz;have h4:=Nat.div_add_mod o sz;rw[e1,e2]at h3
     omega)
    exact⟨PH,y',by rw[Ze];exact q3,q4⟩) (by simp[St.sub,bY,Vf]) (by rw[Vf];simpa using hol)
   refine⟨⟨G2,?_⟩,λj hj=>?_⟩
   ·have e:(σ.sub p l (.ow c1)).sub p l1 (.ow (i4 sz c1 (o+1) (v2::vals)))=σ.sub p l (.ow (i4 sz c o (v::v2::vals))):=by
     unfold St.sub;have QU:(St.c ⟨σ.tm,cM σ.ce p.root (l.set p.off (dn (σ.c p.root p.off) p.hops (.ow c1))),σ.vr⟩ p.root p.off)=dn (σ.c p.root p.off) p.hops (.ow c1):=QT;rw[QU,Bm,nw,Vf,List.set_set];simp only[i4,<- Ze]
    rw[e]at ZY;exact ZY
   ·cases j with
    |zero=>exact⟨Za,Qf⟩
    |succ j=>
     have:=Zl j (by simpa using hj);rw[show o+1+j=o+(j+1) by omega,World.frozen?_setCell]at this;refine⟨?_,this.2⟩
     have hne:(⟨b,o,none⟩:Addr)≠⟨b,o+(j+1),none⟩:=λe=>by have:=congrArg Addr.off e;simp at this
     rw[World.cell?_setCell_other w _ _ _ hne]at this;exact this.1
theorem ve:∀{l:List TV}{vs:List Value},bT l=some vs->vs.length=l.length/\∀j (h:j<l.length)(h':j<vs.length),l[j]=.v vs[j]:=by
 intro l
 induction l with
 |nil=>intro vs h;simp[bT]at h;subst h;exact⟨rfl,λj h=>by simp at h⟩
 |cons t l ih=>
  intro vs h
  cases t with
  |v x=>
   simp[bT]at h
   cases hl:bT l with
   |none=>simp_all
   |some r=>
    simp[hl]at h;subst h;have ⟨e1,e2⟩:=ih hl;refine⟨by simp[e1],λj hj ZT=>?_⟩
    cases j with
    |zero=>rfl
    |succ j=>simp_all
  |_=>simp[bT]at h
theorem uj{c:List (List TV)}{sz m:Nat}(hs:∀i (h:i<c.length),c[i].length=sz)(hm:m<=c.length):(c.take m).flatten.length=m*sz:=by
 rw[qe (sz:=sz) λi h=>by simp_all];simp[hm]
theorem nJ{F fp:Nat->Prop}{t:TV}{v x:Value}{c c2:List (List TV)}{sz lo n cap:Nat}{ad:Option Addr}(h:dI w F fp t v)(ht:t=.ow c\/t=.sl c)(hs:∀i (h:i<c.length),c[i].length=sz)(ZX:0<sz)(Zl:c2=(c.drop lo).take n)(Xn:lo+n<=c.length)
 (hx:x=.slice ad n cap)(Y6:0<n->∃b o len ZU,v=.slice (some ⟨b,o,none⟩) len ZU/\ad=some ⟨b,o+lo*sz,none⟩)(S0:ad=none->n=0){m:Nat}{vs:List Value}(hm:m<=c2.length)(hf:bT (c2.take m).flatten=some vs):(Builtin.firstCells sz m x).run P w=.ok vs.toArray w:=by
 subst hx
 have P7:c2.length=n:=by rw[Zl];simp;omega
 have Y1:∀i (h:i<c2.length),c2[i].length=sz:=λi h=>by
  subst Zl;simp only[List.getElem_take,List.getElem_drop];exact hs _ (by simp at h;omega)
 obtain⟨e1,e2⟩:=ve hf;have Zq:=uj Y1 hm
 cases ad with
 |none=>
  have hn:=S0 rfl
  have VC:m=0:=by omega
  subst VC;have:vs=[]:=oEN (by rw[e1,Zq];omega);subst this;rfl
 |some ad=>
  show(loadCells ad (m*sz)).run P w=_;obtain⟨a,capX,vals,f,rfl,YK,ZW,hrec,_⟩:=h.rows ht hs
  have Uu:vs.length=m*sz:=by rw[e1,Zq]
  have:=run_loadCells_list (P:=P) w ad vs λj y hj=>by
   have hjl:j<vs.length:=by
    rcases Nat.lt_or_ge j vs.length with h|h
    ·exact h
    ·rw[oGN h]at hj;simp at hj
   have Qx:j<m*sz:=by omega
   have hq:j/sz<m:=(Nat.div_lt_iff_lt_mul ZX).2 Qx;have hr:j%sz<sz:=Nat.mod_lt _ ZX
   have O8:j/sz<c2.length:=by omega
   have Wz:lo+j/sz<c.length:=by omega
   have Vm:j%sz<(c[lo+j/sz]).length:=by rw[hs _ Wz];exact hr
   have Y0:(lo+j/sz)*sz+j%sz=lo*sz+j:=by
    rw[Nat.add_mul];have:=Nat.div_add_mod j sz;rw[Nat.mul_comm]at this;omega
   have hown:=hrec (lo+j/sz) (j%sz) Wz Vm;rw[Y0]at hown
   have Y4:c[lo+j/sz][j%sz]=.v y:=by
    have h1:=e2 j (by rw[Zq];exact Qx) hjl;have h2:=ij (c:=c2.take m) (sz:=sz) (λi h=>by simpa using Y1 i (by simp at h;omega)) (i:=j/sz) (j:=j%sz) (by simp;omega) (by rw[List.getElem_take,Y1 _ O8];exact hr);rw[show j/sz*sz+j%sz=j by rw[Nat.mul_comm];exact Nat.div_add_mod j sz,oGE (by rw[Zq];exact Qx),h1]at h2
    injection h2 with h2
    have h3:(c2.take m)[j/sz]'(by simp;omega)=c[lo+j/sz]:=by
     subst Zl;simp
    have hy:vs[j]=y:=by simpa[hjl]using hj
    rw[<- hy,h2];simp only[h3]
   rw[Y4]at hown
   have Wu:vals.getD (lo*sz+j) undef=y:=by
    cases hown with
    |v hfp Zq=>rfl
   have hlt:lo*sz+j<vals.length:=by
    rw[YK]
    have:(lo+j/sz)*sz+sz<=c.length*sz:=by
     have:(lo+j/sz+1)*sz<=c.length*sz:=Nat.mul_le_mul_right _ Wz;rw[Nat.add_mul,Nat.one_mul]at this;exact this
    omega
   obtain⟨b,o,hab,hcl⟩:=ZW (lo*sz+j) y (by rw[oGE hlt];rw[oGD,oGE hlt]at Wu;simpa using Wu);obtain⟨b',o',len,ZU,YD,T6⟩:=Y6 (by rw[<- P7];exact Nat.lt_of_le_of_lt (Nat.zero_le _) O8)
   injection YD with YD _ _
   rw[YD]at hab
   injection hab with hab
   injection hab with hb ho _
   subst hb;subst ho
   injection T6 with T6
   rw[T6,cQ,show o'+lo*sz+j=o'+(lo*sz+j) by omega];exact hcl
  rw[Uu]at this;exact this
theorem zZ(hI:Inv M σ [] [] ts w G){u:TV}{v:Value}(hu:TmR w (G.F M.A) σ.v (bM M σ []) G u v){c2:List (List TV)}(hr:(contentOf u).run σ=some (c2,σ')):σ'=σ/\∀sz,0<sz->(∀i (h:i<c2.length),c2[i].length=sz)->
 ∃ad cap,v=.slice ad c2.length cap/\∀m vs,m<=c2.length->bT (c2.take m).flatten=some vs->(Builtin.firstCells sz m v).run P w=.ok vs.toArray w:=by
 cases u with
 |sl c=>
  simp only[contentOf,SP.run,oSJ,oPJ]at hr;obtain⟨rfl,rfl⟩:=hr;refine⟨rfl,λsz ZX hs=>?_⟩
  cases hu with
  |sl h=>
   have hown:dI w (G.F M.A) (λ_=>False) (.sl c) v:=.sl (λ_ h=>h) h;obtain⟨ad,cap,hv,_⟩:=h.hdr;refine⟨ad,cap,hv,λm vs hm hf=>nJ (lo:=0) (n:=c.length) hown (.inr rfl) hs ZX (by simp) (by simp) hv (λhn=>?_) (λhe=>?_) hm hf⟩
   ·cases h with
    | @sl _ a cap sz' u hsz hcap hmax hnil hcell hrec=>
     have e:sz'=sz:=by rw[<- hsz 0 hn,hs 0 hn]
     subst e;obtain⟨b,o,ha,_,_⟩:=hcell 0 0 hn ZX
     injection hv with hv _ _
     exact⟨b,o,_,_,by rw[ha],by rw[<- hv,ha];simp⟩
   ·cases h with
    | @sl _ a cap sz' u hsz hcap hmax hnil hcell hrec=>
     injection hv with hv _ _
     rw[hv]at hnil;have:=hnil he;omega
 |ow c=>
  cases hu with
  | @nil ad=>
   obtain⟨rfl,rfl⟩:=hr;refine⟨rfl,λsz ZX hs=>⟨ad,0,rfl,λm vs hm hf=>?_⟩⟩
   have VC:m=0:=by simpa using hm
   subst VC;simp only[List.take_zero,List.flatten_nil,bT,oSJ]at hf;subst hf;cases ad<;>simp[Builtin.firstCells,loadCells,loadCellsFrom]
 |pk p vs=>
  simp only[contentOf]at hr;obtain⟨_,σ1,h1,h2⟩:=bn hr;have e1:σ1=σ:=(bE h1).1;have e2:=(bE h1).2;subst e1;obtain⟨tt,σ2,h3,h4⟩:=bn h2;obtain⟨e3,hg⟩:=cH h3;have e3:σ2=σ1:=e3;subst e3
  cases hu with
  |pk V0 h0 hv h=>
   obtain⟨Z7,c,ZG,ZL⟩:=h e2
   have ZF:bJ (σ2.c p.root p.off) p.hops=some (.ow c):=by rw[bG (by exact Z7)]at ZL;exact ZL
   rw[ZF]at hg
   injection hg with hg
   subst hg;simp only[SP.run,oSJ,oPJ]at h4;obtain⟨rfl,rfl⟩:=h4;refine⟨rfl,λsz ZX hs=>?_⟩;obtain⟨fp,hown⟩:=ll hI ZG ZL;obtain⟨ad,cap,YD,_⟩:=hown.hdr;refine⟨ad,cap,YD,λm vs hm hf=>nJ (lo:=0) (n:=c.length) hown (.inl rfl) hs ZX (by simp) (by simp) YD (λhn=>?_) (λhe=>?_) hm hf⟩
   ·cases hown with
    |nil=>simp at hn
    | @ow _ _ b cap cur e' sz' u f hfp hb hsz hcap hz0 hmax hcur hcell hrec hnb hdis=>
     injection YD with YD _ _
     exact⟨b,0,_,_,rfl,by rw[<- YD];simp⟩
   ·cases hown with
    |nil=>rfl
    | @ow _ _ b cap cur e' sz' u f hfp hb hsz hcap hz0 hmax hcur hcell hrec hnb hdis=>
     injection YD with YD _ _
     rw[he]at YD;simp at YD
 |pw p vs YR lo n=>
  simp only[contentOf]at hr;obtain⟨_,σ1,h1,h2⟩:=bn hr;have e1:σ1=σ:=(bE h1).1;have e2:=(bE h1).2;subst e1;obtain⟨tt,σ2,h3,h4⟩:=bn h2;obtain⟨e3,hg⟩:=cH h3;have e3:σ2=σ1:=e3;subst e3
  cases hu with
  |pw V0 h0 hv h=>
   obtain⟨Z7,c,hd,ZG,ZL,Xn,a,cap,hx,WS,Xe,hnil,Xh,Y6⟩:=h e2
   have ZF:bJ (σ2.c p.root p.off) p.hops=some (.ow c):=by rw[bG (by exact Z7)]at ZL;exact ZL
   rw[ZF]at hg
   injection hg with hg
   subst hg;obtain⟨rfl,rfl⟩:=h4;refine⟨rfl,λsz ZX hs=>?_⟩
   have WQ:((c.drop lo).take n).length=n:=by simp;omega
   obtain⟨fp,hown⟩:=ll hI ZG ZL;by_cases hn:n=0
   ·subst hn;refine⟨a,cap,by rw[WQ];exact hx,λm vs hm hf=>?_⟩
    have VC:m=0:=by omega
    subst VC;simp only[List.take_zero,List.flatten_nil,bT,oSJ]at hf;subst hf;rw[hx]
    cases a with
    |none=>rfl
    |some a=>simp[Builtin.firstCells,loadCells,loadCellsFrom]
   ·have QX:YR=sz:=by
     rw[<- hs 0 (by omega)];simp only[List.getElem_take,List.getElem_drop];exact(Xh _ (by omega)).symm
    subst QX;refine⟨a,cap,by rw[WQ];exact hx,λm vs hm hf=>nJ (lo:=lo) (n:=n) hown (.inl rfl) Xh ZX rfl Xn hx (λhn=>?_) (λhe=>?_) hm hf⟩
    ·obtain⟨b,len,ZU,q1,q2⟩:=Y6 hn;exact⟨b,0,len,ZU,q1,by rw[q2];simp⟩
    ·obtain⟨b,len,ZU,q1,q2⟩:=Y6 (by omega);rw[he]at q2;simp at q2
 |_=>simp[contentOf,SP.run]at hr
theorem ms{t t' ty e:TypeId}{sz:Nat}(hu:P.underlying t=some (.slice e))(hs:(P.info? e).map (·.size)=some sz){v:Value}{WJ:Option Addr}{n2 VG:Nat}(hv:v=.slice WJ n2 VG){ad:Option Addr}{n cap:Nat}{vs:List Value}(hf:(Builtin.firstCells sz (min n2 n) v).run P w=.ok vs.toArray w)
 {w':World}(hst:match ad with|some a=>(storeCells a vs).run P w=.ok () w'|none=>w'=w):
 (Builtin.copy_ #[t,t'] ty #[.slice ad n cap,v]).run P w=.ok (goInt ((min n2 n:Nat):Int)) w':=by
 subst hv
 cases hq:P.info? e with
 |none=>simp_all
 |some i=>
  have hi:i.size=sz:=by simp_all
  cases ad with
  |none=>
   subst hst;simp[Builtin.copy_,run_underlying hu,Builtin.lenOf,sizeOf,typeInfo,hq,hi,hf]
  |some a=>
   simp[Builtin.copy_,run_underlying hu,Builtin.lenOf,sizeOf,typeInfo,hq,hi,hf,hst]
theorem FW(hI:Inv M σ [] [] a.tmps w G){d:Nat}(hd:o.dst=some d)(hN:d<M.N){x y:Opd}{x' y':Operand}{t t' e sz:TypeId}(hx:bq x'=some x)(hy:bq y'=some y)(ho:o.op=.call { callee:=.builtin .copy,args:=#[x',y'],argTypes:=#[t,t'] })
 (hu:P.underlying t=some (.slice e))(hs:(P.info? e).map (·.size)=some sz)(hr:(ev1 d (.cpy sz x y)).run σ=some ((),σ')):gB P M σ' a o w:=by
 simp only[ev1]at hr;obtain⟨tx,σ1,h1,h2⟩:=bn hr;obtain⟨rfl,ZZ⟩:=cf hI.tmr hx h1;obtain⟨ty,σ2,h3,h4⟩:=bn h2;obtain⟨rfl,Xr⟩:=cf hI.tmr hy h3;obtain⟨c2,σ3,h5,h6⟩:=bn h4;obtain⟨rfl,UK⟩:=zZ hI Xr h5
 have Zj:∀r w',(Builtin.copy_ #[t,t'] o.type #[a.eval x',a.eval y']).run P w=.ok r w'->(execOp a.eval o).run P w=.ok (.value r) w':=by
  intro r w' h;simp[execOp,ho,resolve,invoke,builtin,h]
 have fin:∀(p:bA)(c:List (List TV))(lo n:Nat)(vd TL:Value)(ad:Option Addr)(cap:Nat),p.root≠1->G.hv w p=some TL->bJ (σ3.c p.root p.off) p.hops=some (.ow c)->a.eval x'=vd->vd=.slice ad n cap->lo+n<=c.length ->
  (∀b0 len ZU,TL=.slice (some ⟨b0,0,none⟩) len ZU->True)->(0<n->∃b len ZU,TL=.slice (some ⟨b,0,none⟩) len ZU/\len=c.length/\ad=some ⟨b,lo*sz,none⟩)->(tN d p (σ3.c p.root p.off) (EA sz c c2 lo n)).run σ3=some ((),σ')->gB P M σ' a o w:=by
  intro p c lo n vd TL ad cap Z7 ZG hg Pc Vr Xn _ YL hrun;unfold EA at hrun;split at hrun
  ·rename_i Zq;split at hrun
   case isFalse=>simp[tN,SP.run]at hrun
   rename_i Yz;simp only[oBA,oDE,List.all_eq_true,beq_iff_eq]at Yz;obtain⟨WJ,VG,Tn,Xb⟩:=UK sz Yz.1 λi h=>Yz.2 _ (List.getElem_mem h);have hf:=Xb (min c2.length n) [] (Nat.min_le_left _ _) Zq;have Qa:=ms (t':=t') (ty:=o.type) (ad:=ad) (n:=n) (cap:=cap) (w':=w) hu hs Tn hf (by cases ad<;>rfl);simp only[tN]at hrun;refine dK hI hd hN (.v rfl) hrun (Zj _ _ ?_);rw[Pc,Vr];exact Qa
  ·rename_i v vs Zq;split at hrun
   case isFalse=>simp[tN,SP.run]at hrun
   rename_i Yz;simp only[oBA,oDE,List.all_eq_true,beq_iff_eq]at Yz;obtain⟨⟨⟨⟨⟨k1,k2⟩,k3⟩,k4⟩,k5⟩,k6⟩:=Yz;have XE:∀i (h:i<c2.length),c2[i].length=sz:=λi h=>k3 _ (List.getElem_mem h);obtain⟨WJ,VG,Tn,Xb⟩:=UK sz k1 XE;have hf:=Xb (min c2.length n) (v::vs) (Nat.min_le_left _ _) Zq
   have YK:(v::vs).length=min c2.length n*sz:=by rw[(ve Zq).1,uj XE (Nat.min_le_left _ _)]
   have Xf:0<n:=by
    rcases Nat.eq_zero_or_pos n with h|h
    ·subst h;simp at YK
    ·exact h
   obtain⟨b,len,ZU,Qt,hlen,Y6⟩:=YL Xf;subst hlen;rw[Qt]at ZG;simp only[tN]at hrun;obtain⟨l,hl,hol,h7⟩:=bL hrun;have O2:min c2.length n<=n:=Nat.min_le_right _ _
   obtain⟨⟨G1,hI1⟩,hcell⟩:=DY Z7 k1 (v::vs) c (lo*sz) σ3 w G l (by simp) hI ZG hg rfl (λel Y4=>k2 el Y4) k6 (λt Vq Ym=>by
    rw[YK]at Ym;have Xp:lo<=t/sz:=(Nat.le_div_iff_mul_le k1).2 Vq;have Yr:t/sz<lo+min c2.length n:=(Nat.div_lt_iff_lt_mul k1).2 (by rw[Nat.add_mul];exact Ym);have Wd:t%sz<sz:=Nat.mod_lt _ k1;have OU:t/sz<c.length:=Nat.lt_of_lt_of_le Yr k4
    have Zk:c[t/sz]∈(c.drop lo).take (min c2.length n):=by
     obtain⟨q,hq⟩:∃q,t/sz=lo+q:=⟨t/sz-lo,by rw[Nat.add_sub_cancel' Xp]⟩;simp only[hq];rw[hq]at Yr;refine List.mem_of_getElem? (i:=q) ?_;rw[List.getElem?_take,oIP (Nat.lt_of_add_lt_add_left Yr),List.getElem?_drop];exact oGE _
    have hlt:t%sz<c[t/sz].length:=by rw[k2 _ (List.getElem_mem OU)];exact Wd
    have SR:=k5 _ Zk _ (List.getElem_mem hlt);refine⟨c[t/sz],?_⟩
    cases hcv:c[t/sz][t%sz]with
    |v y=>exact⟨y,oGE OU,by rw[oGE hlt,hcv]⟩
    |_=>rw[hcv]at SR;simp[isV]at SR) hl hol
   have hst:=run_storeCells_cells (P:=P) b (lo*sz) (v::vs) 0 w (λj hj=>by simpa using(hcell j hj).1) (λj hj=>by simpa using(hcell j hj).2) (λu hu=>mh (k6 u hu));have Qa:=ms (t':=t') (ty:=o.type) (ad:=ad) (n:=n) (cap:=cap) (w':=w.setCells b (lo*sz) (v::vs)) hu hs Tn hf (by rw[Y6];simpa using hst);have QR:=Zj _ _ (by rw[Pc,Vr];exact Qa);simp only[wr,SP.run,oSJ,oPJ,true_and]at h7;have e9:σ'={ σ3.sub p l (.ow (i4 sz c (lo*sz) (v::vs)))with tm:=cM (σ3.sub p l (.ow (i4 sz c (lo*sz) (v::vs)))).tm d (.v (.int .i64 ((min c2.length n:Nat):Int))) }:=h7.symm;rw[e9];refine⟨_,_,_,G1,QR,.inl rfl,?_⟩;rw[hd];exact hI1.wrT hN (.v rfl)
  ·simp[tN,SP.run]at hrun
 cases tx with
 |pk p vs=>
  simp only at h6;obtain⟨_,σ4,h7,h8⟩:=bn h6;have e1:σ4=σ3:=(bE h7).1;have e2:=(bE h7).2;subst e1;simp only[SP.run]at h8;generalize hz:a.eval x'=z at ZZ
  cases ZZ with
  |pk V0 h0 hv h=>
   obtain⟨Z7,c,ZG,ZL⟩:=h e2
   have ZF:bJ (σ4.c p.root p.off) p.hops=some (.ow c):=by rw[bG (by exact Z7)]at ZL;exact ZL
   rw[ZF]at h8;simp only at h8;obtain⟨fp,hown⟩:=ll hI ZG ZL;obtain⟨ad,cap,VE,_⟩:=hown.hdr;refine fin p c 0 c.length z z ad cap Z7 ZG ZF hz VE (by simp) (λ_ _ _ _=>trivial) (λhn=>?_) h8
   cases hown with
   |nil=>simp at hn
   | @ow _ _ b L7 cur e' sz' u f hfp hb hsz hcap hz0 hmax hcur hcell hrec hnb hdis=>
    injection VE with VE _ _
    exact⟨b,_,_,rfl,rfl,by rw[<- VE];simp⟩
 |pw p vs sz' lo n=>
  simp only at h6;obtain⟨_,σ4,h7,h8⟩:=bn h6;have e1:σ4=σ3:=(bE h7).1;have e2:=(bE h7).2;subst e1;simp only[SP.run]at h8;generalize hz:a.eval x'=z at ZZ
  cases ZZ with
  |pw V0 h0 hv h=>
   obtain⟨Z7,c,hd',ZG,ZL,Xn,ad,cap,hxv,WS,Xe,hnil,Xh,Y6⟩:=h e2
   have ZF:bJ (σ4.c p.root p.off) p.hops=some (.ow c):=by rw[bG (by exact Z7)]at ZL;exact ZL
   rw[ZF]at h8;simp only at h8;split at h8
   case isFalse=>simp[SP.run]at h8
   rename_i We;subst We;obtain⟨fp,hown⟩:=ll hI ZG ZL;refine fin p c lo n z hd' ad cap Z7 ZG ZF hz hxv Xn (λ_ _ _ _=>trivial) (λhn=>?_) h8;obtain⟨b,len,ZU,q1,q2⟩:=Y6 hn;obtain⟨Lo,L8,q3,_⟩:=hown.hdr;rw[q1]at q3
   injection q3 with _ q3 _
   exact⟨b,len,ZU,q1,q3,q2⟩
 |_=>simp[SP.run]at h6
end
def rJ(P:Program)(t:TypeId):Option Nat:=(P.info? t).map (·.size)
def EZ(P:Program)(t:TypeId):Option (List Value):=(P.info? t).bind (·.zero.map (·.cells.toList))
def uM(P:Program)(t:TypeId):Option (Option Nat):=
 match P.underlying t with
 |some (.struct _)=>(rJ P t).map some
 |some (.array _ _)=>(rJ P t).map some
 |some _=>some none
 |none=>none
def uG:Option Operand->Option (Option Opd)
 |none=>some none
 |some x=>(bq x).map some
def j9{α β:Type}(f:α->Option β):List α->Option (List β)
 | []=>some []
 |x::r=>match f x,j9 f r with|some y,some l=>some (y::l)|_,_=>none
def ln(b:Bool):Option Unit:=if b then some ()else none
def I2(mv n:Nat)(x:Opd):TOp:=if mv=3 then .boxi n x else .box n (mv==1) x
def dq(P:Program)(mv:Nat):Op->Option TOp
 |.move x=>match x with
  |.const (.agg cs)=>some (.asn true (.c (.agg cs)))
  |x=>if mv=4 then(bq x).map (.asn true)else(bq x).map .mov
 |.assign x=>if mv=2 then(bq x).map .mov else(bq x).map (.asn (mv==1))
 |.pick c a b=>do some (.pick (<- bq c) (<- bq a) (<- bq b))
 |.alloc e=>(EZ P e).map .alloc
 |.box e x=>do some (I2 mv (<- rJ P e) (<- bq x))
 |.load t a=>do some (.load (<- uM P t) (<- bq a))
 |.store t a x=>do
  let n <- rJ P t
  ln (decide (0<n))
  some (.store n (mv==1) (<- bq a) (<- bq x))
 |.nilCheck x=>(bq x).map .nilc
 |.binOp op t x y _=>
  match P.underlying t with
  |some .bool=>match op with
   |.eql=>do some (.bnb false (<- bq x) (<- bq y))
   |.neq=>do some (.bnb true (<- bq x) (<- bq y))
   |_=>none
  |some (.int _)=>do some (.bin op (<- bq x) (<- bq y))
  |some .string=>do some (.bin op (<- bq x) (<- bq y))
  |some (.struct _)=>
   if P.eqGuardType P.depth t then none
   else match lp P 50 t with
    |some ks=>match op with
     |.eql=>do some (.eqa ks false (<- bq x) (<- bq y))
     |.neq=>do some (.eqa ks true (<- bq x) (<- bq y))
     |_=>none
    |none=>none
  |_=>none
 |.unOp op _ x=>(bq x).map (.un op)
 |.convert s d x=>
  match P.underlying s,P.underlying d with
  |some (.int _),some (.int k)=>(bq x).map (.conv k)
  |some .string,some (.slice e)=>match P.underlying e with
   |some (.int .u8)=>(bq x).map .s2b
   |_=>none
  |some (.slice e),some .string=>match P.underlying e with
   |some (.int .u8)=>(bq x).map .b2s
   |_=>none
  |_,_=>none
 |.fieldAddr s x f=>
  match P.underlying s with
  |some (.struct fs)=>match fs[f]? with
   |some fd=>match rJ P fd.type with
    |some (_+1)=>(bq x).map (.fld fd.offset)
    |_=>none
   |none=>none
  |_=>none
 |.field s x f=>
  match P.underlying s with
  |some (.struct fs)=>match fs[f]? with
   |some fd=>do some (.fldv fd.offset (<- uM P fd.type) (<- bq x))
   |none=>none
  |_=>none
 |.indexAddr t x i=>
  match P.underlying t with
  |some (.slice e)=>do some (.idx (<- rJ P e) (<- bq x) (<- bq i))
  |some (.array n e)=>do some (.idxa n (<- rJ P e) (<- bq x) (<- bq i))
  |_=>none
 |.index t x i=>
  match P.underlying t with
  |some .string=>do some (.ixs (<- bq x) (<- bq i))
  |_=>none
 |.extract x i=>(bq x).map λx=>.ext x i
 |.makeSlice t l c=>
  match P.underlying t with
  |some (.slice e)=>match P.info? e with
   |some i=>match i.zero with
    |some z=>do
     ln (decide (i.bytes<=16777216*i.size)&&decide (0<i.size))
     let a <- bq l
     let b <- bq c
     some (if mv=5 then .mki i.size z.cells.toList a b else .mks i.size z.cells.toList a b)
    |none=>none
   |none=>none
  |_=>none
 |.slice t x lo hi mx=>
  match mx with
  |some m=>match hi,P.underlying t with
   |some h,some (.slice e)=>do
    ln (Ar lo&&pu h&&pu m)
    let _ <- rJ P e
    some (.emp (<- bq x))
   |_,_=>none
  |none=>match P.underlying t with
   |some (.slice e)=>do some (.slc (<- rJ P e) (<- bq x) (<- uG lo) (<- uG hi))
   |_=>none
 |.makeFunc fn first caps=>
  match fn with
  |.func f=>do
   ln (first.size==0)
   some (.mkf f (<- j9 bq caps.toList))
  |_=>none
 |.buildSlice t len parts=>
  match P.underlying t with
  |some (.slice e)=>match P.info? e with
   |some i=>do
    ln ((i.zero.isSome||len*i.size==0)&&decide (len*i.size<=16777216)&&decide (len<=16777216)&&parts.toList.map (·.1)==List.range len)
    some (.bsl i.size (mv==1) len (<- j9 (λp=>bq p.2) parts.toList))
   |none=>none
  |_=>none
 |.build t parts=>
  match P.underlying t,EZ P t with
  |some (.struct fs),some z=>do
   ln (fs.toList.all λf=>(rJ P f.type).isSome)
   let ps <- j9 (λp=>match fs[p.1]? with
    |some f=>match rJ P f.type,bq p.2 with
     |some n,some x=>if f.offset+n<=z.length then some (f.offset,n,x)else none
     |_,_=>none
    |none=>none) parts.toList
   some (.bld z (mv==1) ps)
  |some (.array _ e),some z=>match rJ P e with
   |some sz=>do
    let ps <- j9 (λp=>match bq p.2 with
     |some x=>if p.1*sz+sz<=z.length then some (p.1*sz,sz,x)else none
     |none=>none) parts.toList
    some (.bld z (mv==1) ps)
   |none=>none
  |_,_=>none
 |.call c=>
  match c with
  | { callee:=.builtin .append,args,argTypes }=>match args.toList,argTypes.toList with
   | [s,x],[t,t']=>if t=t' then
    match P.underlying t with
    |some (.slice e)=>match P.info? e with
     |some i=>match i.zero with
      |some z=>do
       ln (z.cells.size==i.size&&decide (0<i.size))
       some (.app i.size i.bytes (mv==1) (z.cells.all dZ) (<- bq s) (<- bq x))
      |none=>none
     |none=>none
    |_=>none
    else match P.underlying t,P.underlying t' with
     |some (.slice e),some (.int _)=>match P.info? e with
      |some i=>match i.zero with
       |some z=>do
        ln (decide (0<i.size))
        some (.apz i.size i.bytes z.cells.toList (<- bq s) (<- bq x))
       |none=>none
      |none=>none
     |_,_=>none
   |_,_=>none
  | { callee:=.builtin .copy,args,argTypes }=>match args.toList,argTypes.toList with
   | [x,y],[t,_]=>match P.underlying t with
    |some (.slice e)=>do some (.cpy (<- rJ P e) (<- bq x) (<- bq y))
    |_=>none
   |_,_=>none
  | { callee:=.builtin .min,args,argTypes:=_ }=>(j9 bq args.toList).map (.mm false)
  | { callee:=.builtin .max,args,argTypes:=_ }=>(j9 bq args.toList).map (.mm true)
  | { callee:=.builtin .len,args,argTypes }=>match args.toList,argTypes.toList with
   | [x],[t]=>match P.underlying t with
    |some (.slice _)=>(bq x).map .len
    |some .string=>(bq x).map .lens
    |_=>none
   |_,_=>none
  |_=>none
 |_=>none
theorem pT{P:Program}{t:TypeId}{n:Option Nat}(h:uM P t=some n):yK P t n:=by
 unfold uM at h;split at h
 ·rename_i f hu
  cases hs:rJ P t with
  |none=>simp_all
  |some k=>simp[hs]at h;subst h;exact⟨⟨_,hu,.inl ⟨_,rfl⟩⟩,hs⟩
 ·rename_i n e hu
  cases hs:rJ P t with
  |none=>simp_all
  |some k=>simp[hs]at h;subst h;exact⟨⟨_,hu,.inr ⟨_,_,rfl⟩⟩,hs⟩
 ·rename_i d Yf hd2 hu
  injection h with h
  subst h;exact⟨d,hu,λf e=>Yf f (by rw[<- e]),λn e' e=>hd2 n e' (by rw[<- e])⟩
 ·simp at h
theorem uF{x:Option Operand}{y:Option Opd}(h:uG x=some y):x.map bq=y.map some:=by
 cases x with
 |none=>simp[uG]at h;subst h;rfl
 |some x=>
  simp[uG]at h
  cases hc:bq x with
  |none=>simp_all
  |some z=>simp[hc]at h;subst h;simp[hc]
theorem i7{α β:Type}{f:α->Option β}:∀{l:List α}{r:List β},j9 f l=some r->l.map f=r.map some:=by
 intro l
 induction l with
 |nil=>intro r h;simp[j9]at h;subst h;rfl
 |cons x l ih=>
  intro r h;simp[j9]at h
  cases hx:f x with
  |none=>simp_all
  |some y=>
   cases hl:j9 f l with
   |none=>simp_all
   |some q=>simp[hx,hl]at h;subst h;simp[hx,ih hl]
theorem gn{b:Bool}{u:Unit}(h:ln b=some u):b=true:=by
 unfold ln at h
 simp_all
theorem bz{α β:Type}{x:Option α}{f:α->Option β}{y:β}(h:(x >>= f)=some y):∃a,x=some a/\f a=some y:=by
 cases x with
 |none=>simp_all
 |some a=>simp_all
theorem dV{α β:Type}{x:Option α}{f:α->β}{y:β}(h:x.map f=some y):∃a,x=some a/\f a=y:=by
 simp_all
section
variable {P:Program} {M:Fm} {σ σ':St} {ts:Array Value} {w:World} {G:Gh} {a:Act} {o:Oper}
theorem FJ(hI:Inv M σ [] [] a.tmps w G){d:Nat}(hd:o.dst=some d)(hN:d<M.N)(Y5:M.pr (2*d+2)=none){mv:Nat}{t:TOp}(hc:dq P mv o.op=some t)(hr:(ev1 d t).run σ=some ((),σ'))(hns:¬ ∃ty x y,o.op=.store ty x y):gB P M σ' a o w:=by
 cases ho:o.op with
 |move x=>
  rw[ho]at hc;simp only[dq]at hc;split at hc
  ·injection hc with hc
   subst hc;exact vN hI hd hN rfl (.inr ho) hr
  ·split at hc
   ·obtain⟨y,hy,rfl⟩:=dV hc;exact vN hI hd hN hy (.inr ho) hr
   ·obtain⟨y,hy,rfl⟩:=dV hc;exact AP hI hd hN hy (.inl ho) hr
 |assign x=>
  rw[ho]at hc;simp only[dq]at hc;split at hc
  ·obtain⟨y,hy,rfl⟩:=dV hc;exact AP hI hd hN hy (.inr ho) hr
  ·obtain⟨y,hy,rfl⟩:=dV hc;exact vN hI hd hN hy (.inl ho) hr
 |pick c x y=>
  rw[ho]at hc;simp only[dq]at hc;obtain⟨c1,h1,hc⟩:=bz hc;obtain⟨x1,h2,hc⟩:=bz hc;obtain⟨y1,h3,hc⟩:=bz hc
  injection hc with hc
  subst hc;exact DB hI hd hN h1 h2 h3 ho hr
 |alloc e=>
  rw[ho]at hc;obtain⟨z,hz,rfl⟩:=dV hc;exact A9 hI hd hN Y5 ho hz hr
 |box e x=>
  rw[ho]at hc;simp only[dq]at hc;obtain⟨n,h1,hc⟩:=bz hc;obtain⟨y,h2,hc⟩:=bz hc
  injection hc with hc
  subst hc;unfold I2 at hr;split at hr
  ·exact DI hI hd hN h2 ho hr
  ·exact FY hI hd hN Y5 h2 ho hr
 |load t' x=>
  rw[ho]at hc;simp only[dq]at hc;obtain⟨n,h1,hc⟩:=bz hc;obtain⟨y,h2,hc⟩:=bz hc
  injection hc with hc
  subst hc;exact DD hI hd hN h2 ho (pT h1) hr
 |nilCheck x=>
  rw[ho]at hc;obtain⟨y,hy,rfl⟩:=dV hc;exact DC hI hd hN hy ho hr
 |binOp op ty x y yt=>
  rw[ho]at hc;simp only[dq]at hc
  have ZP:(do some (TOp.bin op (<- bq x) (<- bq y)):Option TOp)=some t->gB P M σ' a o w:=by
   intro hc;obtain⟨x1,h2,hc⟩:=bz hc;obtain⟨y1,h3,hc⟩:=bz hc
   injection hc with hc
   subst hc;exact F0 hI hd hN h2 h3 ho hr
  split at hc
  ·rename_i hu;split at hc
   ·obtain⟨x1,h2,hc⟩:=bz hc;obtain⟨y1,h3,hc⟩:=bz hc
    injection hc with hc
    subst hc;exact A8 hI hd hN h2 h3 ho (.inl ⟨rfl,rfl⟩) hu hr
   ·obtain⟨x1,h2,hc⟩:=bz hc;obtain⟨y1,h3,hc⟩:=bz hc
    injection hc with hc
    subst hc;exact A8 hI hd hN h2 h3 ho (.inr ⟨rfl,rfl⟩) hu hr
   ·simp at hc
  ·exact ZP hc
  ·exact ZP hc
  ·rename_i fs hu;split at hc
   case isTrue=>simp at hc
   rename_i XU;split at hc
   case h_2=>simp at hc
   rename_i ks hk;split at hc
   ·obtain⟨x1,h2,hc⟩:=bz hc;obtain⟨y1,h3,hc⟩:=bz hc
    injection hc with hc
    subst hc;exact AX hI hd hN h2 h3 ho (.inl ⟨rfl,rfl⟩) hu hk (by simpa using XU) hr
   ·obtain⟨x1,h2,hc⟩:=bz hc;obtain⟨y1,h3,hc⟩:=bz hc
    injection hc with hc
    subst hc;exact AX hI hd hN h2 h3 ho (.inr ⟨rfl,rfl⟩) hu hk (by simpa using XU) hr
   ·simp at hc
  ·simp at hc
 |unOp op ty x=>
  rw[ho]at hc;obtain⟨y,hy,rfl⟩:=dV hc;exact H6 hI hd hN hy ho hr
 |convert s dd x=>
  rw[ho]at hc;simp only[dq]at hc;split at hc
  ·rename_i ks k hs Wp;obtain⟨y,hy,rfl⟩:=dV hc;exact DH hI hd hN hy ho hs Wp hr
  ·rename_i e hs Wp;split at hc
   ·rename_i he;obtain⟨y,hy,rfl⟩:=dV hc;exact FH hI hd hN hy ho hs Wp he hr
   ·simp at hc
  ·rename_i e hs Wp;split at hc
   ·rename_i he;obtain⟨y,hy,rfl⟩:=dV hc;exact F1 hI hd hN hy ho hs Wp he hr
   ·simp at hc
  ·simp at hc
 |fieldAddr s x f=>
  rw[ho]at hc;simp only[dq]at hc;split at hc
  ·rename_i fs hu;split at hc
   ·rename_i fd hf;split at hc
    ·rename_i n hs;obtain⟨y,hy,rfl⟩:=dV hc;exact FT hI hd hN hy ho hu hf ⟨_,hs⟩ hr
    ·simp at hc
   ·simp at hc
  ·simp at hc
 |field s x f=>
  rw[ho]at hc;simp only[dq]at hc;split at hc
  ·rename_i fs hu;split at hc
   ·rename_i fd hf;obtain⟨n,h1,hc⟩:=bz hc;obtain⟨y,h2,hc⟩:=bz hc
    injection hc with hc
    subst hc;exact DG hI hd hN h2 ho hu hf (pT h1) hr
   ·simp at hc
  ·simp at hc
 |indexAddr ty x i=>
  rw[ho]at hc;simp only[dq]at hc;split at hc
  ·rename_i e hu;obtain⟨n,h1,hc⟩:=bz hc;obtain⟨y,h2,hc⟩:=bz hc;obtain⟨z,h3,hc⟩:=bz hc
   injection hc with hc
   subst hc;exact FR hI hd hN h2 h3 ho hu h1 hr
  ·rename_i n e hu;obtain⟨sz,h1,hc⟩:=bz hc;obtain⟨y,h2,hc⟩:=bz hc;obtain⟨z,h3,hc⟩:=bz hc
   injection hc with hc
   subst hc;exact DF hI hd hN h2 h3 ho hu h1 hr
  ·simp at hc
 |index ty x i=>
  rw[ho]at hc;simp only[dq]at hc;split at hc
  ·rename_i hu;obtain⟨y,h2,hc⟩:=bz hc;obtain⟨z,h3,hc⟩:=bz hc
   injection hc with hc
   subst hc;exact FQ hI hd hN h2 h3 ho hu hr
  ·simp at hc
 |extract x i=>
  rw[ho]at hc;obtain⟨y,hy,rfl⟩:=dV hc;exact FU hI hd hN hy ho hr
 |makeSlice ty l c=>
  rw[ho]at hc;simp only[dq]at hc;split at hc
  ·rename_i e hu;split at hc
   ·rename_i i hi;split at hc
    ·rename_i z hz;obtain⟨u,h1,hc⟩:=bz hc;obtain⟨y,h2,hc⟩:=bz hc;obtain⟨y2,h3,hc⟩:=bz hc
     injection hc with hc
     subst hc;have hg:=gn h1;simp only[oBA,oDE]at hg;split at hr
     ·exact FN hI hd hN h2 h3 ho hu hi hz rfl rfl hg.1 hg.2 hr
     exact FM hI hd hN h2 h3 ho hu hi hz rfl rfl hg.1 hg.2 hr
    ·simp at hc
   ·simp at hc
  ·simp at hc
 |slice ty x lo hi mx=>
  rw[ho]at hc;simp only[dq]at hc;split at hc
  ·split at hc
   ·rename_i m h e hu;obtain⟨_,hg,hc⟩:=bz hc;obtain⟨n,h1,hc⟩:=bz hc;obtain⟨y,h2,hc⟩:=bz hc
    injection hc with hc
    subst hc;have hg:=gn hg;simp only[oBA]at hg;exact FV hI hd hN h2 ho hg.1.1 hg.1.2 hg.2 hu h1 hr
   ·simp at hc
  ·split at hc
   ·rename_i e hu;obtain⟨n,h1,hc⟩:=bz hc;obtain⟨y,h2,hc⟩:=bz hc;obtain⟨l1,h3,hc⟩:=bz hc;obtain⟨h4,h5,hc⟩:=bz hc
    injection hc with hc
    subst hc;exact FG hI hd hN h2 (uF h3) (uF h5) ho hu h1 hr
   ·simp at hc
 |makeFunc fn first caps=>
  rw[ho]at hc;simp only[dq]at hc;split at hc
  ·rename_i f;obtain⟨u,h1,hc⟩:=bz hc;obtain⟨l,h2,hc⟩:=bz hc
   injection hc with hc
   subst hc;have hg:=gn h1
   have hf:first=#[]:=by simpa using hg
   subst hf;exact FO hI hd hN (i7 h2) ho hr
  ·simp at hc
 |buildSlice ty len parts=>
  rw[ho]at hc;simp only[dq]at hc;split at hc
  ·rename_i e hu;split at hc
   ·rename_i i hi;obtain⟨u,h1,hc⟩:=bz hc;obtain⟨l,h2,hc⟩:=bz hc
    injection hc with hc
    subst hc;have hg:=gn h1;simp only[oBA,Bool.or_eq_true,oDE,beq_iff_eq]at hg;obtain⟨⟨⟨g1,g2⟩,g3⟩,g4⟩:=hg;refine FX hI hd hN ho hu hi rfl (λh0=>?_) g4 (i7 h2) g2 g3 hr;rcases g1 with g1|g1
    ·exact Option.isSome_iff_exists.1 g1
    ·omega
   ·simp at hc
  ·simp at hc
 |build ty parts=>
  rw[ho]at hc;simp only[dq]at hc;split at hc
  ·rename_i fs z hu hz;obtain⟨u,h1,hc⟩:=bz hc;obtain⟨ps,h2,hc⟩:=bz hc
   injection hc with hc
   subst hc;have hg:=gn h1;simp only[List.all_eq_true]at hg;have hm:=i7 h2;refine FZ hI hd hN (szf:=λf=>(rJ P f.type).getD 0) ho hu hz (λf hf=>?_) ?_ (λk h h'=>?_) hr
   ·have:=hg f hf;obtain⟨n,hn⟩:=Option.isSome_iff_exists.1 this;rw[hn];exact hn
   ·have:=congrArg List.length hm;simpa using this
   ·have hk:(parts.toList.map (λp=>match fs[p.1]? with
     |some f=>match rJ P f.type,bq p.2 with
      |some n,some x=>if f.offset+n<=z.length then some (f.offset,n,x)else none
      |_,_=>none
     |none=>none))[k]?=(ps.map some)[k]?:=by rw[hm]
    simp only[List.getElem?_map,oGE h',oMS,Array.getElem?_toList,Array.getElem?_eq_getElem h]at hk
    cases hf:fs[parts[k].1]? with
    |none=>simp[hf]at hk
    |some f=>
     cases hs:rJ P f.type with
     |none=>simp[hf,hs]at hk
     |some n=>
      cases hx:bq parts[k].2 with
      |none=>simp[hf,hs,hx]at hk
      |some x=>
       simp only[hf,hs,hx,oSJ]at hk;split at hk
       ·rename_i Yv
        injection hk with hk
        rw[<- hk];exact⟨rfl,by simp[hs],Yv⟩
       ·simp at hk
  ·rename_i n e z hu hz;split at hc
   ·rename_i sz hsz;obtain⟨ps,h2,hc⟩:=bz hc
    injection hc with hc
    subst hc;have hm:=i7 h2;refine DJ hI hd hN ho hu hz hsz ?_ (λk h h'=>?_) hr
    ·have:=congrArg List.length hm;simpa using this
    ·have hk:(parts.toList.map (λp=>match bq p.2 with
      |some x=>if p.1*sz+sz<=z.length then some (p.1*sz,sz,x)else none
      |none=>none))[k]?=(ps.map some)[k]?:=by rw[hm]
     simp only[List.getElem?_map,oGE h',oMS,Array.getElem?_toList,Array.getElem?_eq_getElem h]at hk
     cases hx:bq parts[k].2 with
     |none=>simp[hx]at hk
     |some x=>
      simp only[hx,oSJ]at hk;split at hk
      ·rename_i Yv
       injection hk with hk
       rw[<- hk];exact⟨rfl,rfl,rfl,Yv⟩
      ·simp at hk
   ·simp at hc
  ·simp at hc
 |call c=>
  rw[ho]at hc;simp only[dq]at hc;split at hc
  ·rename_i args argTypes;split at hc
   ·rename_i s x t1 t2 ea et
    have ea:args=#[s,x]:=by rw[<- Array.toArray_toList (xs:=args),ea]
    have et:argTypes=#[t1,t2]:=by rw[<- Array.toArray_toList (xs:=argTypes),et]
    subst ea;subst et;split at hc
    ·rename_i Q0;subst Q0;split at hc
     ·rename_i e hu;split at hc
      ·rename_i i hi;split at hc
       ·rename_i z hz;obtain⟨u,h1,hc⟩:=bz hc;obtain⟨y,h2,hc⟩:=bz hc;obtain⟨y2,h3,hc⟩:=bz hc
        injection hc with hc
        subst hc;have hg:=gn h1;simp only[oBA,oDE,beq_iff_eq]at hg;exact F3 hI hd hN h2 h3 ho hu hi hz hg.1 rfl rfl hg.2 hr
       ·simp at hc
      ·simp at hc
     ·simp at hc
    ·split at hc
     ·rename_i e kn hu Ws;split at hc
      ·rename_i i hi;split at hc
       ·rename_i z hz;obtain⟨u,h1,hc⟩:=bz hc;obtain⟨y,h2,hc⟩:=bz hc;obtain⟨y2,h3,hc⟩:=bz hc
        injection hc with hc
        subst hc;have hg:=gn h1;exact F2 hI hd hN h2 h3 ho hu Ws hi hz rfl rfl rfl (of_decide_eq_true hg) hr
       ·simp at hc
      ·simp at hc
     ·simp at hc
   ·simp at hc
  ·rename_i args argTypes;split at hc
   ·rename_i x y t1 t2 ea et
    have ea:args=#[x,y]:=by rw[<- Array.toArray_toList (xs:=args),ea]
    have et:argTypes=#[t1,t2]:=by rw[<- Array.toArray_toList (xs:=argTypes),et]
    subst ea;subst et;split at hc
    ·rename_i e hu;obtain⟨sz,h1,hc⟩:=bz hc;obtain⟨y1,h2,hc⟩:=bz hc;obtain⟨y2,h3,hc⟩:=bz hc
     injection hc with hc
     subst hc;exact FW hI hd hN h2 h3 ho hu h1 hr
    ·simp at hc
   ·simp at hc
  ·rename_i args argTypes;obtain⟨l,h1,rfl⟩:=dV hc;exact E7 (mx:=false) hI hd hN (i7 h1) ho hr
  ·rename_i args argTypes;obtain⟨l,h1,rfl⟩:=dV hc;exact E7 (mx:=true) hI hd hN (i7 h1) ho hr
  ·rename_i args argTypes;split at hc
   ·rename_i x t1 ea et
    have ea:args=#[x]:=by rw[<- Array.toArray_toList (xs:=args),ea]
    have et:argTypes=#[t1]:=by rw[<- Array.toArray_toList (xs:=argTypes),et]
    subst ea;subst et;split at hc
    ·rename_i e hu;obtain⟨y,hy,rfl⟩:=dV hc;exact FP hI hd hN hy ho hu hr
    ·rename_i hu;obtain⟨y,hy,rfl⟩:=dV hc;exact DE hI hd hN hy ho hu hr
    ·simp at hc
   ·simp at hc
  ·simp at hc
 |store ty x y=>
  rw[ho]at hc;simp only[dq]at hc;obtain⟨n,h1,hc⟩:=bz hc;obtain⟨u,h2,hc⟩:=bz hc;obtain⟨x1,h3,hc⟩:=bz hc;obtain⟨y1,h4,hc⟩:=bz hc
  injection hc with hc
  subst hc;exact absurd hns (by simp[ho])
 |_=>rw[ho]at hc;simp[dq]at hc
end
inductive Loc where
 |t (i:Nat)
 |c (r o:Nat)
 |h (r o:Nat)
 |n (r:Nat)
 |v (q:Key)
 deriving DecidableEq
def Loc.hit:Loc->Loc->Bool
 |.t i,.t j=>i==j
 |.c r o,.c r' o'=>r==r'&&o==o'
 |.n r,.n r'=>r==r'
 |.n r,.c r' _=>r==r'
 |.h r o,.h r' o'=>r==r'&&o==o'
 |.n r,.h r' _=>r==r'
 |.v q,.v q'=>q==q'
 |_,_=>false
abbrev k9:=List Loc×List Loc
def hdW(r o:Nat)(t t':TV):List Loc:=if t'.hd=t.hd then[]else[.h r o]
def SP.foot{α:Type}:SP α->St->k9
 |.ret _,_=>([],[])
 |.fail,_=>([],[])
 |.rdT i k,σ=>(.t i::((k (σ.t i)).foot σ).1,((k (σ.t i)).foot σ).2)
 |.rdC r o k,σ=>(.c r o::((k (σ.c r o)).foot σ).1,((k (σ.c r o)).foot σ).2)
 |.rdH r o k,σ=>(.h r o::((k (σ.c r o).hd).foot σ).1,((k (σ.c r o).hd).foot σ).2)
 |.rdV q k,σ=>(.v q::((k (σ.v q)).foot σ).1,((k (σ.v q)).foot σ).2)
 |.wrT i t k,σ=>((k.foot { σ with tm:=cM σ.tm i t }).1,.t i::(k.foot { σ with tm:=cM σ.tm i t }).2)
 |.wrC r o t k,σ=>
  match bO σ.ce r with
  |some l=>if o<l.length then(.n r :: .h r o::(k.foot { σ with ce:=cM σ.ce r (l.set o t) }).1,.c r o::(hdW r o (σ.c r o) t++(k.foot { σ with ce:=cM σ.ce r (l.set o t) }).2))else([],[])
  |none=>([],[])
 |.new r l k,σ=>(.v (r,0,0)::(k.foot { σ with ce:=cM σ.ce r l,vr:=jP σ.vr (r,0,0) }).1,.n r :: .v (r,0,0)::(k.foot { σ with ce:=cM σ.ce r l,vr:=jP σ.vr (r,0,0) }).2)
 |.bump q k,σ=>(.v q::(k.foot { σ with vr:=jP σ.vr q }).1,.v q::(k.foot { σ with vr:=jP σ.vr q }).2)
def eD(σ σ':St):Loc->Prop
 |.t i=>bO σ.tm i=bO σ'.tm i
 |.c r o=>σ.c r o=σ'.c r o
 |.h r o=>(σ.c r o).hd=(σ'.c r o).hd
 |.n r=>(bO σ.ce r).map List.length=(bO σ'.ce r).map List.length
 |.v q=>σ.v q=σ'.v q
def Hg(σ σ':St):Prop:=∀x,eD σ σ' x
theorem eD.refl(σ:St)(x:Loc):eD σ σ x:=by cases x<;>rfl
theorem eD.symm{σ σ':St}{x:Loc}(h:eD σ σ' x):eD σ' σ x:=by cases x<;>exact Eq.symm h
theorem eD.trans{σ σ' σ'':St}{x:Loc}(h:eD σ σ' x)(h':eD σ' σ'' x):eD σ σ'' x:=by cases x<;>exact Eq.trans h h'
theorem Dh{σ:St}{r o:Nat}{t:TV}{l:List TV}(h:bO σ.ce r=some l)(ho:o<l.length)(r' o':Nat):St.c { σ with ce:=cM σ.ce r (l.set o t) } r' o'=if r'=r/\o'=o then t else σ.c r' o':=by
 have:=congrFun (congrFun (rD (t:=t) h ho) r') o';exact this
theorem Jc{σ:St}{r:Nat}{l l':List TV}(h:bO σ.ce r=some l)(hl:l'.length=l.length)(r':Nat):(bO (cM σ.ce r l') r').map List.length=(bO σ.ce r').map List.length:=by
 rw[bY]
 grind
theorem Ag{σ:St}{r:Nat}{l:List TV}{vr:List (Key×Nat)}(r' o':Nat):St.c { σ with ce:=cM σ.ce r l,vr:=vr } r' o'=if r'=r then l.getD o' .dead else σ.c r' o':=by
 unfold St.c;simp[bY];by_cases e:r=r'
 ·simp_all
 ·rw[oIN e,oIN (Ne.symm e)]
theorem fq{α:Type}{s:SP α}:∀{σ:St}{a:α}{τ:St},s.run σ=some (a,τ)->∀x,(∀w∈(s.foot σ).2,w.hit x=false)->eD σ τ x:=by
 induction s with
 |ret a=>intro σ b τ h x _;simp only[SP.run,oSJ,oPJ]at h;rw[h.2];exact eD.refl _ _
 |fail=>intro σ b τ h;simp[SP.run]at h
 |rdT i k ih=>intro σ b τ h x hx;exact ih _ h x hx
 |rdC r o k ih=>intro σ b τ h x hx;exact ih _ h x hx
 |rdH r o k ih=>intro σ b τ h x hx;exact ih _ h x hx
 |rdV q k ih=>intro σ b τ h x hx;exact ih _ h x hx
 |wrT i t k ih=>
  intro σ b τ h x hx;refine eD.trans ?_ (ih h x λw hw=>hx w (by simp[SP.foot,hw]));have h1:=hx (.t i) (by simp[SP.foot])
  cases x with
  |t j=>
   simp only[Loc.hit,beq_eq_false_iff_ne,ne_eq]at h1;simp[eD,bY,h1]
  |_=>exact rfl
 |wrC r o t k ih=>
  intro σ b τ h x hx;obtain⟨l,hl,ho,h2⟩:=bL h;simp only[SP.foot,hl,ho,if_true]at hx;refine eD.trans ?_ (ih h2 x λw hw=>hx w (by simp[hw]));have h1:=hx (.c r o) (by simp)
  cases x with
  |c r' o'=>
   simp only[Loc.hit,Bool.and_eq_false_imp,beq_iff_eq,beq_eq_false_iff_ne,ne_eq]at h1;show σ.c r' o'=_;rw[Dh hl ho,oIN];omega
  |h r' o'=>
   show(σ.c r' o').hd=TV.hd (St.c _ r' o');rw[Dh hl ho];split
   ·rename_i e;obtain⟨e1,e2⟩:=e;subst e1;subst e2;by_cases hh:t.hd=(σ.c r' o').hd
    ·exact hh.symm
    ·have:=hx (.h r' o') (by simp[hdW,hh]);simp[Loc.hit]at this
   ·rfl
  |n r'=>exact(Jc hl (by simp) r').symm
  |_=>exact rfl
 |new r l k ih=>
  intro σ b τ h x hx;refine eD.trans ?_ (ih h x λw hw=>hx w (by simp[SP.foot,hw]));have h1:=hx (.n r) (by simp[SP.foot]);have h2:=hx (.v (r,0,0)) (by simp[SP.foot])
  cases x with
  |t j=>exact rfl
  |c r' o'=>
   simp only[Loc.hit,beq_eq_false_iff_ne,ne_eq]at h1;show σ.c r' o'=_;rw[Ag,oIN (Ne.symm h1)]
  |h r' o'=>
   simp only[Loc.hit,beq_eq_false_iff_ne,ne_eq]at h1;show(σ.c r' o').hd=TV.hd (St.c _ r' o');rw[Ag,oIN (Ne.symm h1)]
  |n r'=>
   simp only[Loc.hit,beq_eq_false_iff_ne,ne_eq]at h1;simp[eD,bY,h1]
  |v q=>
   simp only[Loc.hit,beq_eq_false_iff_ne,ne_eq]at h2;show lH σ.vr q=lH (jP σ.vr (r,0,0)) q;rw[dw,oIN h2];rfl
 |bump q k ih=>
  intro σ b τ h x hx;refine eD.trans ?_ (ih h x λw hw=>hx w (by simp[SP.foot,hw]));have h2:=hx (.v q) (by simp[SP.foot])
  cases x with
  |v q'=>
   simp only[Loc.hit,beq_eq_false_iff_ne,ne_eq]at h2;show lH σ.vr q'=lH (jP σ.vr q) q';rw[dw,oIN h2];rfl
  |_=>exact rfl
theorem gU{α:Type}{s:SP α}:∀{σ σ':St}{a:α}{τ:St},s.run σ=some (a,τ)->(∀x∈(s.foot σ).1,eD σ σ' x)->
 s.foot σ'=s.foot σ/\∃ τ',s.run σ'=some (a,τ')/\∀x,(eD σ σ' x\/∃w∈(s.foot σ).2,w.hit x=true)->eD τ τ' x:=by
 induction s with
 |ret a=>
  intro σ σ' b τ h hr;obtain⟨rfl,rfl⟩:=h;exact⟨rfl,σ',rfl,λx hx=>hx.elim id λ⟨w,hw,_⟩=>by simp[SP.foot]at hw⟩
 |fail=>intro σ σ' b τ h;simp[SP.run]at h
 |rdT i k ih=>
  intro σ σ' b τ h hr
  have h1:σ.t i=σ'.t i:=by
   have:bO σ.tm i=bO σ'.tm i:=hr (.t i) (by simp[SP.foot]);simp[St.t,this]
  obtain⟨e,τ',h2,h3⟩:=ih _ h λx hx=>hr x (by simp[SP.foot,hx]);refine⟨by simp only[SP.foot];rw[<- h1,e],τ',by simp only[SP.run];rw[<- h1];exact h2,h3⟩
 |rdC r o k ih=>
  intro σ σ' b τ h hr;have h1:σ.c r o=σ'.c r o:=hr (.c r o) (by simp[SP.foot]);obtain⟨e,τ',h2,h3⟩:=ih _ h λx hx=>hr x (by simp[SP.foot,hx]);refine⟨by simp only[SP.foot];rw[<- h1,e],τ',by simp only[SP.run];rw[<- h1];exact h2,h3⟩
 |rdH r o k ih=>
  intro σ σ' b τ h hr;have h1:(σ.c r o).hd=(σ'.c r o).hd:=hr (.h r o) (by simp[SP.foot]);obtain⟨e,τ',h2,h3⟩:=ih _ h λx hx=>hr x (by simp[SP.foot,hx]);refine⟨by simp only[SP.foot];rw[<- h1,e],τ',by simp only[SP.run];rw[<- h1];exact h2,h3⟩
 |rdV q k ih=>
  intro σ σ' b τ h hr;have h1:σ.v q=σ'.v q:=hr (.v q) (by simp[SP.foot]);obtain⟨e,τ',h2,h3⟩:=ih _ h λx hx=>hr x (by simp[SP.foot,hx]);refine⟨by simp only[SP.foot];rw[<- h1,e],τ',by simp only[SP.run];rw[<- h1];exact h2,h3⟩
 |wrT i t k ih=>
  intro σ σ' b τ h hr
  have hal:∀x,(eD σ σ' x\/x=.t i)->eD { σ with tm:=cM σ.tm i t } { σ' with tm:=cM σ'.tm i t } x:=by
   rintro x (hx|rfl)
   ·cases x with
    |t j=>
     show bO (cM σ.tm i t) j=bO (cM σ'.tm i t) j;rw[bY,bY];split
     ·rfl
     ·exact hx
    |_=>exact hx
   ·show bO (cM σ.tm i t) i=bO (cM σ'.tm i t) i;rw[bY,bY];simp
  obtain⟨e,τ',h2,h3⟩:=ih (σ':={ σ' with tm:=cM σ'.tm i t }) h λx hx=>hal x (.inl (hr x (by simp[SP.foot,hx])));refine⟨by simp only[SP.foot];rw[e],τ',h2,λx hx=>h3 x ?_⟩;rcases hx with hx|⟨w,hw,hh⟩
  ·exact .inl (hal x (.inl hx))
  ·simp only[SP.foot,List.mem_cons]at hw;rcases hw with rfl|hw
   ·left;refine hal x (.inr ?_);cases x<;>simp[Loc.hit]at hh;rw[hh]
   ·exact .inr ⟨w,hw,hh⟩
 |wrC r o t k ih=>
  intro σ σ' b τ h hr;obtain⟨l,hl,ho,h0⟩:=bL h;simp only[SP.foot,hl,ho,if_true]at hr⊢;have hn:(bO σ.ce r).map List.length=(bO σ'.ce r).map List.length:=hr (.n r) (by simp)
  obtain⟨l',Yq,RL⟩:∃l',bO σ'.ce r=some l'/\l'.length=l.length:=by
   rw[hl]at hn
   cases ha:bO σ'.ce r with
   |none=>rw[ha]at hn;simp at hn
   |some l'=>rw[ha]at hn;exact⟨l',rfl,by simpa using hn.symm⟩
  have Y9:o<l'.length:=by omega
  have hh:(σ.c r o).hd=(σ'.c r o).hd:=hr (.h r o) (by simp)
  have hW:hdW r o (σ'.c r o) t=hdW r o (σ.c r o) t:=by unfold hdW;rw[hh]
  have hal:∀x,(eD σ σ' x\/x=.c r o\/x=.h r o)->eD { σ with ce:=cM σ.ce r (l.set o t) } { σ' with ce:=cM σ'.ce r (l'.set o t) } x:=by
   rintro x (hx|rfl|rfl)
   ·cases x with
    |c r' o'=>
     show St.c _ r' o'=St.c _ r' o';rw[Dh hl ho,Dh Yq Y9];split
     ·rfl
     ·exact hx
    |h r' o'=>
     show TV.hd (St.c _ r' o')=TV.hd (St.c _ r' o');rw[Dh hl ho,Dh Yq Y9];split
     ·rfl
     ·exact hx
    |n r'=>
     show Option.map _ _=Option.map _ _;rw[Jc hl (by simp),Jc Yq (by simp)];exact hx
    |_=>exact hx
   ·show St.c _ r o=St.c _ r o;rw[Dh hl ho,Dh Yq Y9];simp
   ·show TV.hd (St.c _ r o)=TV.hd (St.c _ r o);rw[Dh hl ho,Dh Yq Y9];simp
  obtain⟨e,τ',h2,h3⟩:=ih (σ':={ σ' with ce:=cM σ'.ce r (l'.set o t) }) h0 λx hx=>hal x (.inl (hr x (by simp[hx])));refine⟨by simp only[Yq,Y9,if_true];rw[e,hW],τ',by simp only[SP.run,Yq,Y9,if_true];exact h2,λx hx=>h3 x ?_⟩;rcases hx with hx|⟨w,hw,hh⟩
  ·exact .inl (hal x (.inl hx))
  ·simp only[List.mem_cons,List.mem_append]at hw;rcases hw with rfl|hw|hw
   ·left;refine hal x (.inr (.inl ?_));cases x<;>simp[Loc.hit]at hh;rw[hh.1,hh.2]
   ·left;refine hal x (.inr (.inr ?_));unfold hdW at hw;split at hw
    ·simp at hw
    ·simp only[List.mem_singleton]at hw;subst hw;cases x<;>simp[Loc.hit]at hh;rw[hh.1,hh.2]
   ·exact .inr ⟨w,hw,hh⟩
 |new r l k ih=>
  intro σ σ' b τ h hr;have hv:σ.v (r,0,0)=σ'.v (r,0,0):=hr (.v (r,0,0)) (by simp[SP.foot])
  have hal:∀x,(eD σ σ' x\/(Loc.n r).hit x=true)->eD { σ with ce:=cM σ.ce r l,vr:=jP σ.vr (r,0,0) } { σ' with ce:=cM σ'.ce r l,vr:=jP σ'.vr (r,0,0) } x:=by
   intro x hx
   cases x with
   |t j=>rcases hx with hx|hx
         ·exact hx
         ·simp[Loc.hit]at hx
   |c r' o'=>
    show St.c _ r' o'=St.c _ r' o';rw[Ag,Ag];split
    ·rfl
    ·rename_i e;rcases hx with hx|hx
     ·exact hx
     ·simp[Loc.hit]at hx;exact absurd hx.symm e
   |h r' o'=>
    show TV.hd (St.c _ r' o')=TV.hd (St.c _ r' o');rw[Ag,Ag];split
    ·rfl
    ·rename_i e;rcases hx with hx|hx
     ·exact hx
     ·simp[Loc.hit]at hx;exact absurd hx.symm e
   |n r'=>
    show Option.map _ (bO (cM _ _ _) _)=Option.map _ (bO (cM _ _ _) _);rw[bY,bY];split
    ·rfl
    ·rename_i e;rcases hx with hx|hx
     ·exact hx
     ·simp[Loc.hit]at hx;exact absurd hx e
   |v q=>
    show lH (jP _ _) q=lH (jP _ _) q;rw[dw,dw];rcases hx with hx|hx
    ·have hx:lH σ.vr q=lH σ'.vr q:=hx;rw[hx]
    ·simp[Loc.hit]at hx
  obtain⟨e,τ',h2,h3⟩:=ih (σ':={ σ' with ce:=cM σ'.ce r l,vr:=jP σ'.vr (r,0,0) }) h λx hx=>hal x (.inl (hr x (by simp[SP.foot,hx])));refine⟨by simp only[SP.foot];rw[e],τ',h2,λx hx=>h3 x ?_⟩;rcases hx with hx|⟨w,hw,hh⟩
  ·exact .inl (hal x (.inl hx))
  ·simp only[SP.foot,List.mem_cons]at hw;rcases hw with rfl|rfl|hw
   ·exact .inl (hal x (.inr hh))
   ·left;refine hal x (.inl ?_);cases x<;>simp[Loc.hit]at hh;rw[<- hh];exact hv
   ·exact .inr ⟨w,hw,hh⟩
 |bump q k ih=>
  intro σ σ' b τ h hr;have hv:σ.v q=σ'.v q:=hr (.v q) (by simp[SP.foot])
  have hal:∀x,eD σ σ' x->eD { σ with vr:=jP σ.vr q } { σ' with vr:=jP σ'.vr q } x:=by
   intro x hx
   cases x with
   |v q'=>
    show lH (jP _ _) q'=lH (jP _ _) q';rw[dw,dw];have hx:lH σ.vr q'=lH σ'.vr q':=hx;rw[hx]
   |_=>exact hx
  obtain⟨e,τ',h2,h3⟩:=ih (σ':={ σ' with vr:=jP σ'.vr q }) h λx hx=>hal x (hr x (by simp[SP.foot,hx]));refine⟨by simp only[SP.foot];rw[e],τ',h2,λx hx=>h3 x ?_⟩;rcases hx with hx|⟨w,hw,hh⟩
  ·exact .inl (hal x hx)
  ·simp only[SP.foot,List.mem_cons]at hw;rcases hw with rfl|hw
   ·left;refine hal x ?_;cases x<;>simp[Loc.hit]at hh;rw[<- hh];exact hv
   ·exact .inr ⟨w,hw,hh⟩
def zH(a b:List Loc):Bool:=a.any λw=>b.any λx=>w.hit x
def jz(a b:k9):Bool:=zH a.2 b.1||zH a.2 b.2||zH b.2 a.1||zH b.2 a.2
theorem kT{a b:List Loc}(h:zH a b=false):∀w∈a,∀x∈b,w.hit x=false:=by
 simp[zH]at h
 simp_all
theorem Ei{w w' x:Loc}(h:w.hit x=true)(h':w'.hit x=true):w.hit w'=true\/w'.hit w=true:=by
 cases x<;>cases w<;>simp[Loc.hit]at h<;>cases w'<;>simp[Loc.hit]at h'⊢<;>simp_all
theorem yM{A B:SP Unit}{σ σ1 σ2:St}(hA:A.run σ=some ((),σ1))(hB:B.run σ1=some ((),σ2))(hc:jz (A.foot σ) (B.foot σ1)=false):
 ∃ σ1' σ2',B.run σ=some ((),σ1')/\A.run σ1'=some ((),σ2')/\Hg σ2 σ2'/\B.foot σ=B.foot σ1/\A.foot σ1'=A.foot σ:=by
 simp only[jz,Bool.or_eq_false_iff]at hc;obtain⟨⟨⟨c1,c2⟩,c3⟩,c4⟩:=hc;have hR:=λx hx=>(fq hA x λw hw=>kT c1 w hw x hx).symm;obtain⟨e1,σ1',Ry,Mp⟩:=gU hB hR;have Xc:∀x,(∀w∈(B.foot σ1).2,w.hit x=false)->eD σ σ1' x:=λx hx=>fq Ry x (by simp_all);have Vy:=λx hx=>Xc x λw hw=>kT c3 w hw x hx;obtain⟨e2,σ2',OH,Mm⟩:=gU hA Vy;refine⟨σ1',σ2',Ry,OH,λx=>?_,e1,e2⟩;by_cases hx:∃w∈(B.foot σ1).2,w.hit x=true
 ·obtain⟨w,hw,hh⟩:=hx;refine eD.trans (Mp x (.inr ⟨w,hw,hh⟩)) (fq OH x λw' Q7=>?_);rw[e2]at Q7
  cases hh':w'.hit x with
  |false=>rfl
  |true=>
   rcases Ei hh hh' with h|h
   ·rw[kT c4 w hw w' Q7]at h;simp at h
   ·rw[kT c2 w' Q7 w hw]at h;simp at h
 ·have NJ:∀w∈(B.foot σ1).2,w.hit x=false:=λw hw=>by
   simp_all
  refine eD.trans (fq hB x NJ).symm (Mm x ?_)
  simp_all
theorem qI{α:Type}{s:SP α}{σ σ':St}{a:α}{τ:St}(h:s.run σ=some (a,τ))(hs:Hg σ σ'):s.foot σ'=s.foot σ/\∃ τ',s.run σ'=some (a,τ')/\Hg τ τ':=by
 have ⟨e,τ',h1,h2⟩:=gU h λx _=>hs x;exact⟨e,τ',h1,λx=>h2 x (.inl (hs x))⟩
def la(pg:Nat->SP Unit):List Nat->St->Option (List (Nat×k9)×St)
 | [],σ=>some ([],σ)
 |i::r,σ=>((pg i).run σ).bind λx=>(la pg r x.2).bind λy=>some ((i,(pg i).foot σ)::y.1,y.2)
theorem zl{pg:Nat->SP Unit}:∀{L:List Nat}{σ σ':St}{fs:List (Nat×k9)}{τ:St},la pg L σ=some (fs,τ)->Hg σ σ'->∃ τ',la pg L σ'=some (fs,τ')/\Hg τ τ':=by
 intro L
 induction L with
 |nil=>
  intro σ σ' fs τ h hs;obtain⟨rfl,rfl⟩:=h;exact⟨σ',rfl,hs⟩
 |cons i L ih=>
  intro σ σ' fs τ h hs;have ⟨⟨u,σ1⟩,h1,h2⟩:=bz h;have ⟨⟨PM,τ0⟩,h3,h4⟩:=bz h2
  injection h4 with h4
  injection h4 with h4 h5
  subst h5;have ⟨e,σ1',k1,k2⟩:=qI h1 hs;have ⟨τ',k3,k4⟩:=ih h3 k2;exact⟨τ',by simp[la,k1,k3,e];rw[h4],k4⟩
theorem vV{pg:Nat->SP Unit}{i:Nat}{post:List Nat}:∀{pre:List Nat}{σ:St}{fs:List (Nat×k9)}{τ:St},la pg (pre++i::post) σ=some (fs,τ)->
 (∀X4 F WL,fs=X4++(i,F)::WL->X4.map (·.1)=pre->∀y∈X4,jz y.2 F=false)->
 ∃ σ' τ' X4 F WL,fs=X4++(i,F)::WL/\X4.map (·.1)=pre/\(pg i).run σ=some ((),σ')/\(pg i).foot σ=F/\la pg (pre++post) σ'=some (X4++WL,τ')/\Hg τ τ':=by
 intro pre
 induction pre with
 |nil=>
  intro σ fs τ h _;obtain⟨⟨u,σ1⟩,h1,h2⟩:=bz h;obtain⟨⟨PM,τ0⟩,h3,h4⟩:=bz h2
  injection h4 with h4
  injection h4 with h4 h5
  subst h5;exact⟨σ1,τ0,[],_,PM,h4.symm,rfl,h1,rfl,h3,λx=>eD.refl _ _⟩
 |cons j pre ih=>
  intro σ fs τ h hc;obtain⟨⟨u,σ1⟩,h1,h2⟩:=bz h;obtain⟨⟨PM,τ0⟩,h3,h4⟩:=bz h2
  injection h4 with h4
  injection h4 with h4 h5
  subst h5;obtain⟨σ2,τ',X4,F,WL,e1,e2,k1,k2,k3,k4⟩:=ih h3 λX4 F WL e e' y hy=>hc ((j,(pg j).foot σ)::X4) F WL (by rw[<- h4,e];rfl) (by simp[e']) y (by simp[hy])
  have hcl:jz ((pg j).foot σ) ((pg i).foot σ1)=false:=by
   rw[k2];exact hc ((j,(pg j).foot σ)::X4) F WL (by rw[<- h4,e1];rfl) (by simp[e2]) (j,(pg j).foot σ) (by simp)
  obtain⟨σ1',σ2',m1,m2,m3,m4,m5⟩:=yM h1 k1 hcl;obtain⟨τ2,n1,n2⟩:=zl k3 m3;refine⟨σ1',τ2,(j,(pg j).foot σ)::X4,F,WL,by rw[<- h4,e1];rfl,by simp[e2],m1,m4.trans k2,?_,λx=>(k4 x).trans (n2 x)⟩;simp only[List.cons_append,la,m2,oBS,n1,m5]
def ew(deps:List (List Nat)):List (Nat×k9)->Bool
 | []=>true
 |(j,F)::r=>(r.all λy=>!jz F y.2||(deps.getD y.1 []).contains j)&&ew deps r
structure eB where
 dst:Option Nat
 guard:Option (Nat×Bool)
 op:TOp
inductive eC where
 |skip
 |nrm (pers:List Nat×List Nat)
 |reg (id:Nat) (draw:Option (List (List Nat))) (ops:List eB) (pers:List Nat×List Nat)
 |seq (a b:eC)
 |cond (c:Opd) (a b:eC)
 |block (id:Nat) (b:eC)
 |loop (b:eC)
 |sc (b:eC)
 |exit (id:Nat)
 |ret
 |pre (l:List (Nat×Option Nat)) (a:eC)
 |post (a:eC) (l:List (Nat×Option Nat))
 |frz (i n:Nat) (a:eC)
inductive fL where
 |normal
 |exit (id:Nat)
 |ret
def renorm0(L:List Nat)(σ:St):TV->TV
 |.ptr p vs=>if L.contains p.root&&vs==fa σ.v p.root p.off p.hops.length then .ptr p (fa (λ_=>0) p.root p.off p.hops.length)else .dead
 |.pk p vs=>if L.contains p.root&&vs==fa σ.v p.root p.off (p.hops.length+1)then .pk p (fa (λ_=>0) p.root p.off (p.hops.length+1))else .dead
 |.pw p vs sz lo n=>if L.contains p.root&&vs==fa σ.v p.root p.off (p.hops.length+1)then .pw p (fa (λ_=>0) p.root p.off (p.hops.length+1)) sz lo n else .dead
 |.v x=>.v x
 |.sl c=>.sl c
 |.ip cs=>.ip cs
 |.ow []=>.ow []
 |.tup []=>.tup []
 |_=>.dead
def renorm(L:List Nat)(σ:St):TV->TV
 |.agg l=>.agg (l.map (renorm0 L σ))
 |.fn f l=>.fn f (l.map (renorm0 L σ))
 |t=>renorm0 L σ t
def normT(L:List Nat)(σ:St):List Nat->List (Nat×TV)
 | []=>[]
 |i::r=>match bO σ.tm i with|some t=>(i,renorm L σ t)::normT L σ r|none=>normT L σ r
def normC(σ:St):List Nat->List (Nat×List TV)
 | []=>[]
 |r::l=>match bO σ.ce r with|some c=>(r,c)::normC σ l|none=>normC σ l
abbrev Prs:=List Nat×List Nat
def St.norm(σ:St)(pers:Prs):St:=⟨normT pers.2 σ pers.1,normC σ pers.2,[]⟩
def evop(call:Option Nat->TOp->SP Unit)(dst:Option Nat)(op:TOp):SP Unit:=
 match op with
 |.call k f args=>call dst (.call k f args)
 |.store n mv a x=>match dst with|none=>ev1 0 (.store n mv a x)|some _=>.fail
 |op=>match dst with|some d=>ev1 d op|none=>.fail
def sA(call:Option Nat->TOp->SP Unit)(o:eB)(σ:St):Option St:=
 match o.guard with
 |none=>((evop call o.dst o.op).run σ).map (·.2)
 |some (j,want)=>
  match σ.t j with
  |.v (.bool b)=>if b=want then((evop call o.dst o.op).run σ).map (·.2)else match o.dst with|some d=>some { σ with tm:=cM σ.tm d (.tup []) } |none=>some σ
  |.tup []=>match o.dst with|some d=>some { σ with tm:=cM σ.tm d (.tup []) } |none=>some σ
  |_=>none
def mt(call:Option Nat->TOp->SP Unit):List eB->St->Option St
 | [],σ=>some σ
 |o::r,σ=>(sA call o σ).bind (mt call r)
def setNo(dst:Option Nat):SP Unit:=match dst with|some d=>.wrT d (.tup []) (.ret ())|none=>.ret ()
def spOp(call:Option Nat->TOp->SP Unit)(o:eB):SP Unit:=
 match o.guard with
 |none=>evop call o.dst o.op
 |some (j,want)=>.rdT j λt=>match t with
  |.v (.bool b)=>if b=want then evop call o.dst o.op else setNo o.dst
  |.tup []=>setNo o.dst
  |_=>.fail
def vA:eB:=⟨none,none,.lens (.t 0)⟩
theorem xA{call:Option Nat->TOp->SP Unit}{o:eB}{σ σ':St}(h:(spOp call o).run σ=some ((),σ')):sA call o σ=some σ':=by
 have YJ:∀{σ'},(setNo o.dst).run σ=some ((),σ')->(match o.dst with|some d=>some { σ with tm:=cM σ.tm d (.tup []) } |none=>some σ)=some σ':=by
  intro σ' h;unfold setNo at h
  cases hd:o.dst with
  |none=>rw[hd]at h;simp only[SP.run,oSJ,oPJ,true_and]at h;simp[h]
  |some d=>rw[hd]at h;simp only[SP.run,oSJ,oPJ,true_and]at h;simp[h]
 unfold spOp at h;unfold sA
 cases hg:o.guard with
 |none=>simp_all
 |some g=>
  rw[hg]at h;simp[SP.run]at h⊢;split at h
  ·grind
  ·simp_all
  ·simp[SP.run]at h
def GD(f:St->Option (fL×St)):Nat->St->Option (fL×St)
 |0,_=>none
 |n+1,σ=>(f σ).bind λx=>match x.1 with|.normal=>GD f n x.2|e=>some (e,x.2)
def shr1(x:Nat×Option Nat):SP Unit:=.rdT x.1 λt=>match x.2,t with
 |none,.pk p vs=>(take1 false (.pk p vs)).bind λt'=>.wrT x.1 t'.imm (.ret ())
 |some off,.ptr p vs=>(chk p p.hops.length vs).bind λ_=>if p.fits off then(getPl (p.add off)).bind λt=>match t with
  |.ow c=>(peek1 (p.add off) (.ow c)).bind λt'=>(take1 false t').bind λ_=>.ret ()
  |_=>.ret ()
  else .fail
 |_,_=>.ret ()
def shrs:List (Nat×Option Nat)->SP Unit
 | []=>.ret ()
 |x::r=>(shr1 x).bind λ_=>shrs r
def St.anew(σ:St):St:=σ.norm (σ.tm.map (·.1),σ.ce.map (·.1))
def zn(r:Nat):Nat->Nat->SP (List TV)
 |0,_=>.ret []
 |n+1,o=>.rdC r o λt=>if uU t then(zn r n (o+1)).bind λl=>.ret (t::l)else .fail
def I0(i n:Nat):SP Unit:=.rdT i λt=>match t with
 |.ptr p vs=>if p.root=2*i+2/\p.off=0/\p.hops=[]then(chk p 0 vs).bind λ_=>(zn p.root n 0).bind λl=>.new p.root [] (.wrT i (.ip l) (.ret ()))else .fail
 |_=>.fail
def runC(call:Option Nat->TOp->SP Unit)(N:Nat):eC->St->Option (fL×St)
 |.skip,σ=>some (.normal,σ)
 |.nrm pers,σ=>some (.normal,σ.norm pers)
 |.reg _ draw ops pers,σ=>
  match draw with
  |none=>(mt call ops σ).map fun σ'=>(.normal,σ'.norm pers)
  |some deps=>(la (λi=>spOp call (ops.getD i vA)) (List.range ops.length) σ).bind λx=>if ew deps x.1 then some (.normal,x.2.norm pers)else none
 |.seq a b,σ=>(runC call N a σ).bind λx=>match x.1 with|.normal=>runC call N b x.2|e=>some (e,x.2)
 |.cond c a b,σ=>((opd c).run σ).bind λx=>match x.1 with|.v (.bool true)=>runC call N a σ |.v (.bool false)=>runC call N b σ |_=>none
 |.block id b,σ=>(runC call N b σ).bind λx=>match x.1 with|.exit i=>if i=id then some (.normal,x.2)else some (.exit i,x.2)|e=>some (e,x.2)
 |.loop b,σ=>GD (runC call N b) N σ
 |.sc b,σ=>runC call N b σ
 |.exit id,σ=>some (.exit id,σ)
 |.ret,σ=>some (.ret,σ)
 |.pre l a,σ=>((shrs l).run σ).bind λx=>runC call N a x.2.anew
 |.frz i n a,σ=>((I0 i n).run σ).bind λx=>runC call N a x.2.anew
 |.post a l,σ=>(runC call N a σ).bind λx=>((shrs l).run x.2).bind λy=>some (x.1,y.2.anew)
section norm
variable {M:Fm} {σ σ':St} {ts:Array Value} {w:World} {G:Gh}
theorem Aj(L:List Nat)(σ:St)(l:List Nat)(i:Nat):bO (normT L σ l) i=if i∈l then(bO σ.tm i).map (renorm L σ)else none:=by
 induction l with
 |nil=>simp[normT,bO]
 |cons j r ih=>
  simp[normT];by_cases hj:j=i
  ·subst hj
   cases h:bO σ.tm j with
   |none=>simp_all
   |some t=>simp[bO]
  ·cases h:bO σ.tm j with
   |none=>simp[ih,Ne.symm hj]
   |some t=>simp[bO,hj,ih,Ne.symm hj]
theorem n6(σ:St)(l:List Nat)(r:Nat):bO (normC σ l) r=if r∈l then bO σ.ce r else none:=by
 induction l with
 |nil=>simp[normC,bO]
 |cons j l ih=>
  simp[normC];by_cases hj:j=r
  ·subst hj
   cases h:bO σ.ce j with
   |none=>simp_all
   |some t=>simp[bO]
  ·cases h:bO σ.ce j with
   |none=>simp[ih,Ne.symm hj]
   |some t=>simp[bO,hj,ih,Ne.symm hj]
theorem Inv.norm(hI:Inv M σ [] [] ts w G)(pers:Prs):∃G',Inv M (σ.norm pers) [] [] ts w G':=by
 obtain⟨L,hL⟩:∃L,L=pers.2:=⟨_,rfl⟩
 have hc:∀r o,(σ.norm pers).c r o=if r∈L then σ.c r o else .dead:=by
  intro r o;unfold St.c St.norm;simp only[<- hL,n6];by_cases h:r∈L<;>simp[h]
 have hE:∀r o,bM M (σ.norm pers) [] r o=if r∈L then bM M σ [] r o else .dead:=by
  intro r o;unfold bM;by_cases h:r=M.hr
  ·simp[h]
  ·simp only[oIN h,hc]
 let G':Gh:=⟨G.β,G.η,λr o k=>if r∈L then G.φ r o k else False⟩
 have Z9:∀r o k,G'.φ r o k->G.φ r o k:=by
  intro r o k hk;simp only[G']at hk
  simp_all
 have X9:=fX.ghost (C':=bM M (σ.norm pers) []) (G':=G') hI.core rfl (λk ⟨r,o,h⟩=>⟨r,o,Z9 r o k h⟩) (λr1 o1 r2 o2 k h1 h2=>hI.core.dis _ _ _ _ k (Z9 _ _ k h1) (Z9 _ _ k h2))
  (λr b o0 n hb o ho=>by
   rw[hE];split
   ·exact hI.core.boxc r b o0 n hb o ho
   ·rfl)
  (λr o=>by
   by_cases h:r∈L
   ·left;exact⟨by rw[hE,oIP h],λk=>by simp[G',h],rfl⟩
   ·right;left;exact⟨by rw[hE,oIN h],λk hk=>by simp[G',h]at hk⟩)
 have NF:(σ.norm pers).v=λ_=>0:=by funext q;rfl
 have Ur:∀{t:TV}{x:Value},TmR w (G.F M.A) σ.v (bM M σ []) G t x->TmR w (G'.F M.A) (σ.norm pers).v (bM M (σ.norm pers) []) G' (renorm0 L σ t) x:=by
  intro t x h;rw[NF]
  cases h with
  |v h=>exact .v h
  |nil=>exact .nil
  |sl h=>exact .sl (h.frame (λ_ _ _=>rfl) λk hk _=>X9.2 k hk)
  |dead=>exact .dead
  | @ptr p vs x V0 h0 hv hok=>
   simp only[renorm0];split
   ·rename_i hc;simp only[oBA,List.contains_iff_mem,beq_iff_eq]at hc;refine .ptr (λ_=>0) (λ_=>Nat.le_refl _) rfl λ_=>?_;obtain⟨h1,ad,t,h2,h3,h4⟩:=hok hc.2;exact⟨h1,ad,t,gQ h2 rfl λ_=>rfl,h3,by rw[hE,oIP hc.1];exact h4⟩
   ·exact .dead
  |ip u hcl hr=>exact .ip u (λj hj=>⟨X9.2 _ (hcl j hj).1,(hcl j hj).2⟩) λj hj=>(hr j hj).frame (λ_ _ _=>rfl) λk hk _=>X9.2 k hk
  | @pk p vs x V0 h0 hv hok=>
   simp only[renorm0];split
   ·rename_i hc;simp only[oBA,List.contains_iff_mem,beq_iff_eq]at hc;refine .pk (λ_=>0) (λ_=>Nat.le_refl _) rfl λ_=>?_;obtain⟨h1,c,h2,h3⟩:=hok hc.2;exact⟨h1,c,h2,by rw[hE,oIP hc.1];exact h3⟩
   ·exact .dead
  | @pw p vs sz lo n x V0 h0 hv hok=>
   simp only[renorm0];split
   ·rename_i hc;simp at hc;refine .pw (λ_=>0) (λ_=>Nat.le_refl _) rfl λ_=>?_;obtain⟨h1,c,hd,h2,h3,h4⟩:=hok hc.2;exact⟨h1,c,hd,h2,by rw[hE,oIP hc.1];exact h3,h4⟩
   ·exact .dead
  |agg hl h=>exact .dead
  | @tup l xs hl h=>
   cases l with
   |nil=>exact .tup hl λj hj=>by simp at hj
   |cons=>exact .dead
  |fn hl h=>exact .dead
 have QR:∀{t:TV}{x:Value},TmR w (G.F M.A) σ.v (bM M σ []) G t x->TmR w (G'.F M.A) (σ.norm pers).v (bM M (σ.norm pers) []) G' (renorm L σ t) x:=by
  intro t x h;have h0:=Ur h
  cases h with
  | @agg l xs hl h=>exact .agg (by simpa using hl) λj hj=>by simpa using Ur (h j (by simpa using hj))
  | @fn f l xs hl h=>exact .fn (by simpa using hl) λj hj=>by simpa using Ur (h j (by simpa using hj))
  |_=>exact h0
 refine⟨G',X9.1,λi=>?_,hI.fram.ghost rfl (λk ⟨r,o,h⟩=>⟨r,o,Z9 r o k h⟩),λr l h=>?_,hI.size,rfl,λj hj=>by simp at hj,λr b o n hb l h=>?_⟩
 ·have e:(σ.norm pers).t i=if i∈pers.1 then(match bO σ.tm i with|some t=>renorm L σ t|none=>.dead)else .dead:=by
   unfold St.t St.norm;simp only[<- hL,Aj];by_cases h:i∈pers.1
   ·simp only[h,if_true];cases bO σ.tm i<;>rfl
   ·simp[h]
  rw[e];split
  ·cases ha:bO σ.tm i with
   |none=>exact .dead
   |some t=>
    have:=hI.tmr i
    have et:σ.t i=t:=by simp[St.t,ha]
    rw[et]at this;exact QR this
  ·exact .dead
 ·have:bO (normC σ L) r=some l:=by rw[hL];exact h
  rw[n6]at this;split at this
  ·exact hI.keys r l this
  ·simp at this
 ·have:bO (normC σ L) r=some l:=by rw[hL];exact h
  rw[n6]at this;split at this
  ·exact hI.shape r b o n hb l this
  ·simp at this
end norm
def Hf(P:Program)(M:Fm)(σ':St)(a:Act)(o:Oper)(w:World):Prop:=
 ∀(K:Act->World->Prop)(Q:Exit->Act->World->Prop),(∀a' w' G',Inv M σ' [] [] a'.tmps w' G'->a'.defers=a.defers->K a' w')->o.wp P a w K Q
theorem fh(a:Act)(d:Option Tmp)(v:Value):(a.put d v).defers=a.defers:=by cases d<;>rfl
theorem gB.simO{P:Program}{M:Fm}{σ':St}{a:Act}{o:Oper}{w:World}(h:gB P M σ' a o w):Hf P M σ' a o w:=by
 have ⟨nx,x,w',G',hrun,S2,hI⟩:=h;intro K Q hK;unfold Oper.wp;rw[hrun];rcases S2 with rfl|⟨rfl,rfl⟩
 all_goals exact hK _ w' G' hI (fh _ _ _)
structure oD (P:Program)(M:Fm)(isCall:Op->TOp->Prop)(ops:Array Oper)(o:Oper)(t:eB):Prop where
 dst:t.dst=o.dst
 lt:∀d,o.dst=some d->d<M.N/\M.pr (2*d+2)=none
 guard:(o.guard=none/\t.guard=none)\/∃j want dj,o.guard=some (j,want)/\t.guard=some (dj,want)/\(ops[j]?).bind (·.dst)=some dj
 op:(∃mv,dq P mv o.op=some t.op)\/isCall o.op t.op
def qH(P:Program)(M:Fm)(isCall:Op->TOp->Prop)(call:Option Nat->TOp->SP Unit):Prop:=
 ∀(o:Oper)(t:TOp)(σ σ':St)(a:Act)(w:World)(G:Gh),isCall o.op t->(∀d,o.dst=some d->d<M.N/\M.pr (2*d+2)=none)->Inv M σ [] [] a.tmps w G->(evop call o.dst t).run σ=some ((),σ')->Hf P M σ' a o w
section
variable {P:Program} {M:Fm} {σ σ':St} {w:World} {G:Gh} {a:Act} {o:Oper} {isCall:Op->TOp->Prop} {call:Option Nat->TOp->SP Unit} {ops:Array Oper}
theorem w8{mv:Nat}{op:Op}{t:TOp}(h:dq P mv op=some t):∀k f args,t≠.call k f args:=by
 rintro k f args rfl;cases op<;>simp only[dq]at h
 case move x=>(repeat' split at h)<;>first|(simp at h;done)|(obtain⟨_,_,h⟩:=dV h;simp at h)
 case assign x=>split at h<;>(obtain⟨_,_,h⟩:=dV h;simp at h)
 case pick=>obtain⟨_,_,h⟩:=bz h;obtain⟨_,_,h⟩:=bz h;obtain⟨_,_,h⟩:=bz h;simp at h
 case alloc=>obtain⟨_,_,h⟩:=dV h;simp at h
 case box=>obtain⟨_,_,h⟩:=bz h;obtain⟨_,_,h⟩:=bz h;unfold I2 at h;split at h<;>simp at h
 case build=>(repeat' split at h)<;>first|(simp at h;done)|(obtain⟨_,_,h⟩:=bz h;obtain⟨_,_,h⟩:=bz h;simp at h)|(obtain⟨_,_,h⟩:=bz h;simp at h)
 case buildSlice=>(repeat' split at h)<;>first|(simp at h;done)|(obtain⟨_,_,h⟩:=bz h;obtain⟨_,_,h⟩:=bz h;simp at h)
 case load=>obtain⟨_,_,h⟩:=bz h;obtain⟨_,_,h⟩:=bz h;simp at h
 case store=>obtain⟨_,_,h⟩:=bz h;obtain⟨_,_,h⟩:=bz h;obtain⟨_,_,h⟩:=bz h;obtain⟨_,_,h⟩:=bz h;simp at h
 case nilCheck=>obtain⟨_,_,h⟩:=dV h;simp at h
 case binOp=>(repeat' split at h)<;>first|(simp at h;done)|(obtain⟨_,_,h⟩:=bz h;obtain⟨_,_,h⟩:=bz h;simp at h)
 case unOp=>obtain⟨_,_,h⟩:=dV h;simp at h
 case convert=>(repeat' split at h)<;>first|(simp at h;done)|(obtain⟨_,_,h⟩:=dV h;simp at h)
 case makeFunc=>split at h<;>first|(simp at h;done)|(obtain⟨_,_,h⟩:=bz h;obtain⟨_,_,h⟩:=bz h;simp at h)
 case makeSlice=>(repeat' split at h)<;>first|(simp at h;done)|(obtain⟨_,_,h⟩:=bz h;obtain⟨_,_,h⟩:=bz h;obtain⟨_,_,h⟩:=bz h;simp at h)
 case slice=>(repeat' split at h)<;>first|(simp at h;done)|(obtain⟨_,_,h⟩:=bz h;obtain⟨_,_,h⟩:=bz h;obtain⟨_,_,h⟩:=bz h;simp at h;done)|(obtain⟨_,_,h⟩:=bz h;obtain⟨_,_,h⟩:=bz h;obtain⟨_,_,h⟩:=bz h;obtain⟨_,_,h⟩:=bz h;simp at h)
 case fieldAddr=>(repeat' split at h)<;>first|(simp at h;done)|(obtain⟨_,_,h⟩:=dV h;simp at h)
 case field=>(repeat' split at h)<;>first|(simp at h;done)|(obtain⟨_,_,h⟩:=bz h;obtain⟨_,_,h⟩:=bz h;simp at h)
 case indexAddr=>(repeat' split at h)<;>first|(simp at h;done)|(obtain⟨_,_,h⟩:=bz h;obtain⟨_,_,h⟩:=bz h;obtain⟨_,_,h⟩:=bz h;simp at h)
 case index=>(repeat' split at h)<;>first|(simp at h;done)|(obtain⟨_,_,h⟩:=bz h;obtain⟨_,_,h⟩:=bz h;simp at h)
 case extract=>obtain⟨_,_,h⟩:=dV h;simp at h
 case call=>(repeat' split at h)<;>first|(simp at h;done)|(obtain⟨_,_,h⟩:=bz h;obtain⟨_,_,h⟩:=bz h;obtain⟨_,_,h⟩:=bz h;simp at h)|(obtain⟨_,_,h⟩:=dV h;simp at h)
 all_goals simp at h
theorem xI(hI:Inv M σ [] [] a.tmps w G){t:eB}(hok:oD P M isCall ops o t)(Zh:qH P M isCall call)(hr:(evop call t.dst t.op).run σ=some ((),σ')):Hf P M σ' a o w:=by
 rcases hok.op with⟨mv,hc⟩|hc
 ·have RO:=w8 hc;by_cases hst:∃ty x y,o.op=.store ty x y
  ·obtain⟨ty,x,y,ho⟩:=hst;rw[ho]at hc;simp only[dq]at hc;obtain⟨n,h1,hc⟩:=bz hc;obtain⟨u,h2,hc⟩:=bz hc;obtain⟨x1,h3,hc⟩:=bz hc;obtain⟨y1,h4,hc⟩:=bz hc
   injection hc with hc
   rw[<- hc]at hr;simp only[evop]at hr
   cases hd:t.dst with
   |some d=>simp[hd,SP.run]at hr
   |none=>
    simp only[hd]at hr;have hg:=gn h2;exact(AC hI (d:=0) (by rw[<- hok.dst,hd]) h3 h4 ho h1 (by simpa using hg) hr).simO
  ·cases hd:t.dst with
   |none=>
    exfalso;rw[hd]at hr
    cases ht:t.op<;>rw[ht]at hr<;>simp only[evop,SP.run]at hr<;>first|(simp at hr;done)|skip
    ·rename_i n Pl a' x';rw[ht]at hc;cases ho:o.op<;>rw[ho]at hc hst<;>simp only[dq]at hc
     case store=>exact hst ⟨_,_,_,rfl⟩
     case move x=>(repeat' split at hc)<;>first|(simp at hc;done)|(obtain⟨_,_,h⟩:=dV hc;simp at h)
     case assign x=>split at hc<;>(obtain⟨_,_,h⟩:=dV hc;simp at h)
     case pick=>obtain⟨_,_,h⟩:=bz hc;obtain⟨_,_,h⟩:=bz h;obtain⟨_,_,h⟩:=bz h;simp at h
     case alloc=>obtain⟨_,_,h⟩:=dV hc;simp at h
     case box=>obtain⟨_,_,h⟩:=bz hc;obtain⟨_,_,h⟩:=bz h;unfold I2 at h;split at h<;>simp at h
     case build=>(repeat' split at hc)<;>first|(simp at hc;done)|(obtain⟨_,_,h⟩:=bz hc;obtain⟨_,_,h⟩:=bz h;simp at h)|(obtain⟨_,_,h⟩:=bz hc;simp at h)
     case buildSlice=>(repeat' split at hc)<;>first|(simp at hc;done)|(obtain⟨_,_,h⟩:=bz hc;obtain⟨_,_,h⟩:=bz h;simp at h)
     case load=>obtain⟨_,_,h⟩:=bz hc;obtain⟨_,_,h⟩:=bz h;simp at h
     case nilCheck=>obtain⟨_,_,h⟩:=dV hc;simp at h
     case binOp=>(repeat' split at hc)<;>first|(simp at hc;done)|(obtain⟨_,_,h⟩:=bz hc;obtain⟨_,_,h⟩:=bz h;simp at h)
     case unOp=>obtain⟨_,_,h⟩:=dV hc;simp at h
     case convert=>(repeat' split at hc)<;>first|(simp at hc;done)|(obtain⟨_,_,h⟩:=dV hc;simp at h)
     case makeFunc=>split at hc<;>first|(simp at hc;done)|(obtain⟨_,_,h⟩:=bz hc;obtain⟨_,_,h⟩:=bz h;simp at h)
     case makeSlice=>(repeat' split at hc)<;>first|(simp at hc;done)|(obtain⟨_,_,h⟩:=bz hc;obtain⟨_,_,h⟩:=bz h;obtain⟨_,_,h⟩:=bz h;simp at h)
     case slice=>(repeat' split at hc)<;>first|(simp at hc;done)|(obtain⟨_,_,h⟩:=bz hc;obtain⟨_,_,h⟩:=bz h;obtain⟨_,_,h⟩:=bz h;simp at h;done)|(obtain⟨_,_,h⟩:=bz hc;obtain⟨_,_,h⟩:=bz h;obtain⟨_,_,h⟩:=bz h;obtain⟨_,_,h⟩:=bz h;simp at h)
     case fieldAddr=>(repeat' split at hc)<;>first|(simp at hc;done)|(obtain⟨_,_,h⟩:=dV hc;simp at h)
     case field=>(repeat' split at hc)<;>first|(simp at hc;done)|(obtain⟨_,_,h⟩:=bz hc;obtain⟨_,_,h⟩:=bz h;simp at h)
     case indexAddr=>(repeat' split at hc)<;>first|(simp at hc;done)|(obtain⟨_,_,h⟩:=bz hc;obtain⟨_,_,h⟩:=bz h;obtain⟨_,_,h⟩:=bz h;simp at h)
     case index=>(repeat' split at hc)<;>first|(simp at hc;done)|(obtain⟨_,_,h⟩:=bz hc;obtain⟨_,_,h⟩:=bz h;simp at h)
     case extract=>obtain⟨_,_,h⟩:=dV hc;simp at h
     case call=>(repeat' split at hc)<;>first|(simp at hc;done)|(obtain⟨_,_,h⟩:=bz hc;obtain⟨_,_,h⟩:=bz h;obtain⟨_,_,h⟩:=bz h;simp at h)|(obtain⟨_,_,h⟩:=dV hc;simp at h)
     all_goals simp at hc
    ·exact absurd ht (RO _ _ _)
   |some d=>
    have Wp:o.dst=some d:=by rw[<- hok.dst,hd]
    obtain⟨h1,h2⟩:=hok.lt d Wp
    have Xq:(ev1 d t.op).run σ=some ((),σ'):=by
     rw[hd]at hr
     cases ht:t.op<;>rw[ht]at hr<;>simp only[evop]at hr<;>first|exact hr|(simp[SP.run]at hr;done)|exact absurd ht (RO _ _ _)
    exact(FJ hI Wp h1 h2 hc Xq hst).simO
 ·exact Zh o t.op σ σ' a w G hc hok.lt hI (by rw[<- hok.dst];exact hr)
theorem ug{F:Nat->Prop}{V:Vs}{C:Cs}:TmR w F V C G (.tup []) undef:=.tup (by simp) λj hj=>by simp at hj
theorem FI{tops:List eB}(hlen:tops.length=ops.size)(hok:∀i (h:i<ops.size)(h':i<tops.length),oD P M isCall ops ops[i] tops[i])(Zh:qH P M isCall call){Q:Exit->Act->World->Prop}:
 ∀(L:List Nat)(σ:St)(a:Act)(w:World)(G:Gh),(∀i∈L,i<ops.size)->Inv M σ [] [] a.tmps w G->mt call (L.map λi=>tops.getD i ⟨none,none,.lens (.t 0)⟩) σ=some σ' ->
  (∀a' w' G',Inv M σ' [] [] a'.tmps w' G'->a'.defers=a.defers->Q .normal a' w')->wpOps P ops Q L a w:=by
 intro L
 induction L with
 |nil=>
  intro σ a w G _ hI hr hQ;simp only[List.map_nil,mt,oSJ]at hr;subst hr;exact hQ a w G hI rfl
 |cons i L ih=>
  intro σ a w G hL hI hr hQ;have hi:i<ops.size:=hL i (by simp)
  have ZH:i<tops.length:=by omega
  simp only[List.map_cons,mt]at hr
  have e:tops.getD i ⟨none,none,.lens (.t 0)⟩=tops[i]:=by simp[ZH]
  rw[e]at hr
  cases hro:sA call tops[i] σ with
  |none=>simp[hro]at hr
  |some σ1=>
   simp only[hro,oBS]at hr;have hop:=hok i hi ZH;simp only[wpOps,Array.getElem?_eq_getElem hi]
   have go:(evop call tops[i].dst tops[i].op).run σ=some ((),σ1)->ops[i].wp P a w (wpOps P ops Q L) Q:=λh=>by
    refine xI hI hop Zh h _ _ λa' w' G' ZE hd=>?_;exact ih σ1 a' w' G' (λj hj=>hL j (by simp[hj])) ZE hr (λa2 w2 G2 h2 hd2=>hQ a2 w2 G2 h2 (hd2.trans hd))
   have skip:(match tops[i].dst with|some d=>some { σ with tm:=cM σ.tm d (.tup []) } |none=>some σ)=some σ1->wpOps P ops Q L (a.put ops[i].dst undef) w:=λh=>by
    rw[hop.dst]at h
    cases hd:ops[i].dst with
    |none=>
     rw[hd]at h
     injection h with h
     subst h;exact ih σ a w G (λj hj=>hL j (by simp[hj])) hI hr hQ
    |some d=>
     rw[hd]at h
     injection h with h
     subst h;exact ih _ (a.put (some d) undef) w G (λj hj=>hL j (by simp[hj])) (hI.wrT (hop.lt d hd).1 ug) hr (λa2 w2 G2 h2 hd2=>hQ a2 w2 G2 h2 hd2)
   unfold sA at hro
   rcases hop.guard with⟨g1,g2⟩|⟨j,want,dj,g1,g2,g3⟩
   ·rw[oIP (by simp[Region.wanted,g1])];left;simp only[g2]at hro;obtain⟨⟨u,σ2⟩,h1,h2⟩:=dV hro;exact go (by rw[h1];simp only at h2;rw[h2])
   ·simp only[g2]at hro
    have hy:yielded ops a.tmps j=match(a.tmps[dj]?:Option Value)with|some (.bool b)=>some b|_=>none:=by
     unfold yielded;rw[g3];rfl
    have Zt:=hI.tmr dj
    cases hs:σ.t dj with
    |v x=>
     rw[hs]at Zt hro;obtain⟨hx,_⟩:=Zt.v_inv
     cases x with
     |bool b=>
      have Z4:a.tmps[dj]?=some (.bool b):=by
       rw[Array.getD_eq_getD_getElem?]at hx
       cases hq:a.tmps[dj]? with
       |none=>rw[hq]at hx;simp[undef]at hx
       |some v=>rw[hq]at hx;simp at hx;rw[hx]
      have Vt:yielded ops a.tmps j=some b:=by rw[hy,Z4]
      simp only at hro;by_cases hb:b=want
      ·rw[oIP hb]at hro;rw[oIP (by simp[Region.wanted,g1,Vt,hb])];left;obtain⟨⟨u,σ2⟩,h1,h2⟩:=dV hro;exact go (by rw[h1];simp only at h2;rw[h2])
      ·rw[oIN hb]at hro;rw[oIN (by simp[Region.wanted,g1,Vt,hb])];exact skip hro
     |_=>simp at hro
    |tup l=>
     rw[hs]at Zt hro
     cases l with
     |nil=>
      have hu:a.tmps.getD dj undef=undef:=by
       generalize a.tmps.getD dj undef=z at Zt
       cases Zt with
       | @tup _ xs hl _=>have:xs=#[]:=by apply Array.eq_empty_of_size_eq_zero;simpa using hl
                         rw[this];rfl
      have Vt:yielded ops a.tmps j=none:=by
       rw[hy];rw[Array.getD_eq_getD_getElem?]at hu
       cases hq:a.tmps[dj]? with
       |none=>rfl
       |some v=>
        rw[hq]at hu;simp only[Option.getD_some]at hu;rw[hu];rfl
      simp only at hro;rw[oIN (by simp[Region.wanted,g1,Vt])];exact skip hro
     |cons=>simp at hro
    |_=>rw[hs]at hro;simp at hro
end
section
variable {P:Program} {M:Fm} {σ σ':St} {H:List TV} {xs:List Value} {ts:Array Value} {w:World} {G:Gh} {a:Act} {o:Oper} {isCall:Op->TOp->Prop} {call:Option Nat->TOp->SP Unit} {ops:Array Oper}
theorem Inv.congr(hI:Inv M σ H xs ts w G)(hs:Hg σ σ'):Inv M σ' H xs ts w G:=by
 have hc:bM M σ' H=bM M σ H:=by
  funext r o;unfold bM;split
  ·rfl
  ·exact(hs (.c r o)).symm
 have hv:σ'.v=σ.v:=by funext q;exact(hs (.v q)).symm
 have hn:∀r l,bO σ'.ce r=some l->∃l0,bO σ.ce r=some l0/\l0.length=l.length:=by
  intro r l h;have h1:(bO σ.ce r).map List.length=(bO σ'.ce r).map List.length:=hs (.n r)
  simp_all
 refine⟨by rw[hc];exact hI.core,λi=>?_,hI.fram,λr l h=>?_,hI.size,hI.hand,hI.hval,λr b o n hb l h=>?_⟩
 ·have ht:σ'.t i=σ.t i:=by
   have:bO σ.tm i=bO σ'.tm i:=hs (.t i);simp[St.t,this]
  rw[hc,hv,ht];exact hI.tmr i
 ·have ⟨l0,h1,_⟩:=hn r l h;exact hI.keys r l0 h1
 ·have ⟨l0,h1,h2⟩:=hn r l h;rw[<- h2];exact hI.shape r b o n hb l0 h1
theorem Ds{t:eB}{i:Nat}{Q:Exit->Act->World->Prop}{K:Act->World->Prop}(hi:i<ops.size)(hop:oD P M isCall ops ops[i] t)(Zh:qH P M isCall call)(hI:Inv M σ [] [] a.tmps w G)(hro:sA call t σ=some σ')
 (hK:∀a' w' G',Inv M σ' [] [] a'.tmps w' G'->a'.defers=a.defers->K a' w'):wpOp P ops Q i K a w:=by
 unfold wpOp;simp only[Array.getElem?_eq_getElem hi]
 have go:(evop call t.dst t.op).run σ=some ((),σ')->ops[i].wp P a w K Q:=λh=>by
  exact xI hI hop Zh h _ _ hK
 have skip:(match t.dst with|some d=>some { σ with tm:=cM σ.tm d (.tup []) } |none=>some σ)=some σ'->K (a.put ops[i].dst undef) w:=λh=>by
  rw[hop.dst]at h
  cases hd:ops[i].dst with
  |none=>
   rw[hd]at h
   injection h with h
   subst h;exact hK a w G hI rfl
  |some d=>
   rw[hd]at h
   injection h with h
   subst h;exact hK (a.put (some d) undef) w G (hI.wrT (hop.lt d hd).1 ug) rfl
 unfold sA at hro
 rcases hop.guard with⟨g1,g2⟩|⟨j,want,dj,g1,g2,g3⟩
 ·rw[oIP (by simp[Region.wanted,g1])];left;simp only[g2]at hro;obtain⟨⟨u,σ2⟩,h1,h2⟩:=dV hro;exact go (by rw[h1];simp only at h2;rw[h2])
 ·simp only[g2]at hro
  have hy:yielded ops a.tmps j=match(a.tmps[dj]?:Option Value)with|some (.bool b)=>some b|_=>none:=by
   unfold yielded;rw[g3];rfl
  have Zt:=hI.tmr dj
  cases hs:σ.t dj with
  |v x=>
   rw[hs]at Zt hro;obtain⟨hx,_⟩:=Zt.v_inv
   cases x with
   |bool b=>
    have Z4:a.tmps[dj]?=some (.bool b):=by
     rw[Array.getD_eq_getD_getElem?]at hx
     cases hq:a.tmps[dj]? with
     |none=>rw[hq]at hx;simp[undef]at hx
     |some v=>rw[hq]at hx;simp at hx;rw[hx]
    have Vt:yielded ops a.tmps j=some b:=by rw[hy,Z4]
    simp only at hro;by_cases hb:b=want
    ·rw[oIP hb]at hro;rw[oIP (by simp[Region.wanted,g1,Vt,hb])];left;obtain⟨⟨u,σ2⟩,h1,h2⟩:=dV hro
     simp_all
    ·rw[oIN hb]at hro;rw[oIN (by simp[Region.wanted,g1,Vt,hb])];exact skip hro
   |_=>simp at hro
  |tup l=>
   rw[hs]at Zt hro
   cases l with
   |nil=>
    have hu:a.tmps.getD dj undef=undef:=by
     generalize a.tmps.getD dj undef=z at Zt
     cases Zt with
     | @tup _ xs hl _=>have:xs=#[]:=by apply Array.eq_empty_of_size_eq_zero;simpa using hl
                       rw[this];rfl
    have Vt:yielded ops a.tmps j=none:=by
     rw[hy];rw[Array.getD_eq_getD_getElem?]at hu
     cases hq:a.tmps[dj]? with
     |none=>rfl
     |some v=>
      rw[hq]at hu;simp only[Option.getD_some]at hu;rw[hu];rfl
    rw[oIN (by simp[Region.wanted,g1,Vt])];exact skip hro
   |cons=>simp at hro
  |_=>rw[hs]at hro;simp at hro
structure qG (ops:Array Oper)(deps:List (List Nat)):Prop where
 back:∀i (h:i<ops.size),∀e∈ops[i].after,Region.binds .any e=true->e.on<i
 dep:∀i (h:i<ops.size),∀j∈deps.getD i [],∃e∈ops[i].after,Region.binds .any e=true/\(e.on=j\/j∈deps.getD e.on [])
theorem og{deps:List (List Nat)}{x:Nat×k9}:∀{l l':List (Nat×k9)},ew deps (l++x::l')=true->ew deps (l++l')=true/\∀y∈l,jz y.2 x.2=false\/y.1∈deps.getD x.1 []:=by
 intro l
 induction l with
 |nil=>
  intro l' h;simp only[List.nil_append,ew,oBA]at h
  simp_all
 |cons z l ih=>
  intro l' h;simp only[List.cons_append,ew,oBA,List.all_eq_true]at h;obtain⟨h1,h2⟩:=ih h.2;refine⟨by simp only[List.cons_append,ew,oBA,List.all_eq_true];exact⟨λy hy=>h.1 y (by rcases List.mem_append.1 hy with hy|hy<;>simp[hy]),h1⟩,λy hy=>?_⟩;rcases List.mem_cons.1 hy with rfl|hy
  ·simp_all
  ·exact h2 y hy
theorem F4{tops:List eB}{deps:List (List Nat)}(hlen:tops.length=ops.size)(hok:∀i (h:i<ops.size)(h':i<tops.length),oD P M isCall ops ops[i] tops[i])(Zh:qH P M isCall call)(Y7:qG ops deps){Q:Exit->Act->World->Prop}:
 ∀(n:Nat)(C:List Nat)(listed:Array Bool)(σ:St)(a:Act)(w:World)(G:Gh)(fs:List (Nat×k9))(τ:St),C.length=n->listed.size=ops.size->C.Pairwise (· < ·)->(∀j,j∈C↔j<ops.size/\listed.getD j true=false)->
  (∀i,listed.getD i false=true->∀j∈deps.getD i [],listed.getD j false=true)->Inv M σ [] [] a.tmps w G->la (λi=>spOp call (tops.getD i vA)) C σ=some (fs,τ)->ew deps fs=true ->
  (∀a' w' G',Inv M τ [] [] a'.tmps w' G'->a'.defers=a.defers->Q .normal a' w')->wpAny P .any ops Q n listed a w:=by
 have XU:∀{listed:Array Bool},listed.size=ops.size->∀j,j<ops.size->(listed.getD j true=false↔¬listed.getD j false=true):=by
  intro listed hs j hj
  have:j<listed.size:=by omega
  simp[Array.getD_eq_getD_getElem?,this]
 intro n
 induction n with
 |zero=>
  intro C listed σ a w G fs τ hC hs Yb Zk hcl hI hr hp hQ;have hC:C=[]:=oEN hC;subst hC;obtain⟨rfl,rfl⟩:=hr;refine⟨?_,hQ a w G hI rfl⟩;apply List.eq_nil_iff_forall_not_mem.2;intro j hj;obtain⟨h1,o,h2,_⟩:=mem_ready.1 hj;have:=(Zk j).2 ⟨(Array.getElem?_eq_some_iff.1 h2).1,h1⟩;simp at this
 |succ n ih=>
  intro C listed σ a w G fs τ hC hs Yb Zk hcl hI hr hp hQ;refine⟨λhnil=>?_,λi hi=>?_⟩
  ·exfalso
   cases C with
   |nil=>simp at hC
   |cons h C=>
    have hh:=(Zk h).1 (by simp)
    have:h∈Region.ready .any ops listed:=by
     refine mem_ready.2 ⟨hh.2,ops[h]'hh.1,Array.getElem?_eq_getElem hh.1,λe he hb=>?_⟩;have hlt:=Y7.back h hh.1 e he hb
     have OO:e.on<ops.size:=by omega
     cases hl:listed.getD e.on false with
     |true=>rfl
     |false=>
      have hm:=(Zk e.on).2 ⟨OO,(XU hs _ OO).2 (by rw[hl];simp)⟩;rcases List.mem_cons.1 hm with e1|e1
      ·omega
      ·have:=(List.pairwise_cons.1 Yb).1 _ e1;omega
    rw[hnil]at this;simp at this
  ·obtain⟨h1,o,h2,h3⟩:=mem_ready.1 hi;have SQ:i<ops.size:=(Array.getElem?_eq_some_iff.1 h2).1
   have Ni:o=ops[i]:=by rw[Array.getElem?_eq_getElem SQ]at h2;injection h2 with h2;exact h2.symm
   subst Ni;have MY:=(Zk i).2 ⟨SQ,h1⟩;obtain⟨pre,post,rfl⟩:=List.append_of_mem MY
   have Sz:∀j∈deps.getD i [],listed.getD j false=true:=λj hj=>by
    obtain⟨e,he,hb,h4⟩:=Y7.dep i SQ j hj;have hl:=h3 e he hb;rcases h4 with rfl|h4
    ·exact hl
    ·exact hcl _ hl j h4
   have Ue:∀X4 F WL,fs=X4++(i,F)::WL->X4.map (·.1)=pre->∀y∈X4,jz y.2 F=false:=by
    rintro X4 F WL rfl S9 y hy
    rcases(og hp).2 y hy with h|h
    ·exact h
    ·have NM:y.1∈pre++i::post:=by rw[<- S9];exact List.mem_append_left _ (List.mem_map_of_mem hy)
     have:=(Zk y.1).1 NM;exact absurd (Sz _ h) ((XU hs _ this.1).1 this.2)
   obtain⟨σ',τ',X4,F,WL,rfl,S9,hrun,_,ZN,YO⟩:=vV hr Ue
   have ZH:i<tops.length:=by omega
   have e:tops.getD i vA=tops[i]:=by simp[ZH]
   simp only[e]at hrun;refine Ds SQ (hok i SQ ZH) Zh hI (xA hrun) λa' w' G' ZE hd=>?_
   have hne:∀j∈pre++post,j≠i:=λj hj e=>by
    subst e;rw[List.pairwise_append]at Yb;rcases List.mem_append.1 hj with hj|hj
    ·have:=Yb.2.2 j hj j (by simp);omega
    ·have:=(List.pairwise_cons.1 Yb.2.1).1 j hj;omega
   refine ih (pre++post) (listed.setIfInBounds i true) σ' a' w' G' (X4++WL) τ' (by simp at hC⊢;omega) (by simp[hs]) ?_ (λj=>?_) (λk hk j hj=>?_) ZE ZN (og hp).1 λa2 w2 G2 h4 h5=>hQ a2 w2 G2 (h4.congr λx=>(YO x).symm) (h5.trans hd)
   ·refine Yb.sublist ?_;exact List.Sublist.append_left (List.sublist_cons_self i post) pre
   ·constructor
    ·intro hj
     have M0:j∈pre++i::post:=by rcases List.mem_append.1 hj with hj|hj<;>simp[hj]
     have:=(Zk j).1 M0;exact⟨this.1,by rw[getD_set_ne true (Ne.symm (hne j hj))];exact this.2⟩
    ·rintro⟨hj1,Yg⟩
     have OW:j≠i:=by
      rintro rfl
      have:j<listed.size:=by omega
      simp[Array.getD_eq_getD_getElem?,this]at Yg
     rw[getD_set_ne true (Ne.symm OW)]at Yg;have:=(Zk j).2 ⟨hj1,Yg⟩;rcases List.mem_append.1 this with h|h
     ·exact List.mem_append_left _ h
     ·rcases List.mem_cons.1 h with h|h
      ·exact absurd h OW
      ·exact List.mem_append_right _ h
   ·by_cases hki:k=i
    ·subst hki;exact getD_set_true (Sz j hj)
    ·rw[getD_set_ne false (Ne.symm hki)]at hk;exact getD_set_true (hcl k hk j hj)
theorem xJ{tops:List eB}{deps:List (List Nat)}{id:Nat}(hm:P.follows .mixedOrders=true)(hlen:tops.length=ops.size)(hok:∀i (h:i<ops.size)(h':i<tops.length),oD P M isCall ops ops[i] tops[i])(Zh:qH P M isCall call)(Y7:qG ops deps)
 {Q:Exit->Act->World->Prop}{fs:List (Nat×k9)}{τ:St}(hI:Inv M σ [] [] a.tmps w G)(hr:la (λi=>spOp call (tops.getD i vA)) (List.range tops.length) σ=some (fs,τ))(hp:ew deps fs=true)
 (hQ:∀a' w' G',Inv M τ [] [] a'.tmps w' G'->a'.defers=a.defers->Q .normal a' w'):(Code.region id ops true).wp P Q a w:=by
 refine wp_region_any hm ?_
 have ZE:Inv M σ [] [] a.tmps { w with drawn:=w.drawn+1 } G:=by
  exact(hI.grow (w':={ w with drawn:=w.drawn+1 }) (λ_ _=>rfl) (Nat.le_refl _) rfl rfl rfl).1
 refine F4 hlen hok Zh Y7 ops.size (List.range ops.size) _ σ a _ G fs τ (by simp) (by simp) List.pairwise_lt_range (λj=>?_) (λi hi=>?_) ZE (by simp_all) hp hQ
 ·simp_all
 ·exfalso;rw[Array.getD_eq_getD_getElem?,Array.getElem?_replicate]at hi;split at hi<;>simp at hi
end
def SP.quiet{α:Type}(d:Nat)(S:List Nat):SP α->Prop
 |.ret _=>True
 |.fail=>True
 |.rdT i k=>i∈S/\∀t,(k t).quiet d S
 |.rdC _ _ k=>∀t,(k t).quiet d S
 |.rdH _ _ k=>∀t,(k t).quiet d S
 |.rdV _ k=>∀n,(k n).quiet d S
 |.wrT i _ k=>i=d/\k.quiet d S
 |.wrC _ _ _ _=>False
 |.new _ _ _=>False
 |.bump _ _=>False
theorem bo{α β:Type}{d:Nat}{S:List Nat}{s:SP α}{f:α->SP β}(h:s.quiet d S)(hf:∀a,(f a).quiet d S):(s.bind f).quiet d S:=by
 induction s with
 |ret a=>exact hf a
 |fail=>exact trivial
 |rdT i k ih=>exact⟨h.1,λt=>ih t (h.2 t)⟩
 |rdC r o k ih=>exact λt=>ih t (h t)
 |rdH r o k ih=>exact λt=>ih t (h t)
 |rdV q k ih=>exact λn=>ih n (h n)
 |wrT i t k ih=>exact⟨h.1,ih h.2⟩
 |wrC r o t k ih=>exact h.elim
 |new r l k ih=>exact h.elim
 |bump q k ih=>exact h.elim
theorem jF{α:Type}{d:Nat}{S:List Nat}{s:SP α}(h:s.quiet d S)(σ:St):(∀x∈(s.foot σ).2,x=.t d)/\∀i,Loc.t i∈(s.foot σ).1->i∈S:=by
 induction s generalizing σ with
 |ret a=>exact⟨λx hx=>by simp[SP.foot]at hx,λi hi=>by simp[SP.foot]at hi⟩
 |fail=>exact⟨λx hx=>by simp[SP.foot]at hx,λi hi=>by simp[SP.foot]at hi⟩
 |rdT i k ih=>
  obtain⟨h1,h2⟩:=ih _ (h.2 (σ.t i)) σ;refine⟨h1,λj hj=>?_⟩;simp only[SP.foot,List.mem_cons]at hj;rcases hj with hj|hj
  ·injection hj with hj;subst hj;exact h.1
  ·exact h2 j hj
 |rdC r o k ih=>
  obtain⟨h1,h2⟩:=ih _ (h (σ.c r o)) σ;refine⟨h1,λj hj=>?_⟩;simp only[SP.foot]at hj
  simp_all
 |rdH r o k ih=>
  obtain⟨h1,h2⟩:=ih _ (h (σ.c r o).hd) σ;refine⟨h1,λj hj=>?_⟩;simp only[SP.foot,List.mem_cons]at hj
  simp_all
 |rdV q k ih=>
  obtain⟨h1,h2⟩:=ih _ (h (σ.v q)) σ;refine⟨h1,λj hj=>?_⟩;simp only[SP.foot,List.mem_cons]at hj
  simp_all
 |wrT i t k ih=>
  obtain⟨h1,h2⟩:=ih h.2 { σ with tm:=cM σ.tm i t };refine⟨λx hx=>?_,h2⟩;simp only[SP.foot,List.mem_cons]at hx;rcases hx with hx|hx
  ·rw[hx,h.1]
  ·exact h1 x hx
 |wrC r o t k ih=>exact h.elim
 |new r l k ih=>exact h.elim
 |bump q k ih=>exact h.elim
def dD:Opd->List Nat
 |.t i=>[i]
 |_=>[]
def c9:TOp->Option (List Nat)
 |.mov (.t i)=>some [i]
 |.mov (.c x)=>match lP x with|.v _=>some []|_=>none
 |.pick c a b=>some (dD c++(dD a++dD b))
 |.load _ a=>some (dD a)
 |.nilc x=>some (dD x)
 |.fld _ a=>some (dD a)
 |.fldv _ _ x=>some (dD x)
 |.idx _ x i=>some (dD x++dD i)
 |.idxa _ _ x i=>some (dD x++dD i)
 |.ext x _=>some (dD x)
 |.bin _ x y=>some (dD x++dD y)
 |.bnb _ x y=>some (dD x++dD y)
 |.eqa _ _ x y=>some (dD x++dD y)
 |.un _ x=>some (dD x)
 |.conv _ x=>some (dD x)
 |.len x=>some (dD x)
 |.lens x=>some (dD x)
 |.ixs x i=>some (dD x++dD i)
 |_=>none
section
variable {d:Nat} {S:List Nat}
theorem cd{x:Opd}(h:∀i∈dD x,i∈S):(opd x).quiet d S:=by
 cases x with
 |t i=>exact⟨h i (by simp[dD]),λ_=>trivial⟩
 |_=>exact trivial
theorem nN{l:List Key}:(rdVs l).quiet d S:=by
 induction l with
 |nil=>exact trivial
 |cons q l ih=>exact λn=>bo ih λ_=>trivial
theorem gk{p:bA}{n:Nat}{vs:List Nat}:(chk p n vs).quiet d S:=bo nN λl=>by split<;>exact trivial
theorem ia{p:bA}:(getPl p).quiet d S:=λtv=>by
 show SP.quiet d S (match bJ tv p.hops with|some t=>SP.ret t|none=>SP.fail);cases bJ tv p.hops<;>exact trivial
theorem rW{p:bA}:(GJ p).quiet d S:=by
 unfold GJ;split
 ·exact λ_=>trivial
 ·exact bo ia λ_=>trivial
theorem lN{p:bA}{t:TV}:(peek1 p t).quiet d S:=by
 cases t with
 |ow c=>exact bo nN λ_=>trivial
 |_=>exact trivial
theorem wa{p:bA}:(peekP p).quiet d S:=by
 unfold peekP;split
 ·refine λh=>?_
  cases h with
  |some ls=>exact bo nN λ_=>trivial
  |none=>exact bo ia λ_=>lN
 ·exact bo ia λ_=>lN
theorem wb:∀{n:Nat}{p:bA},(peekL p n).quiet d S:=by
 intro n
 induction n with
 |zero=>intro p;exact trivial
 |succ n ih=>
  refine bo ia λt=>bo lN λt'=>?_;split
  ·exact trivial
  ·split
   ·exact bo ih λ_=>trivial
   ·exact trivial
theorem cq{t:TV}:(wr d t).quiet d S:=⟨rfl,trivial⟩
theorem fT{t:TV}:(nC t).quiet d S:=by cases t<;>exact trivial
theorem lO{t:TV}:(natOf t).quiet d S:=by
 cases t with
 |v x=>
  cases x with
  |int k n=>cases n<;>exact trivial
  |_=>exact trivial
 |_=>exact trivial
theorem g9{α:Type}{o:Option α}:(fK o).quiet d S:=by cases o<;>exact trivial
theorem uB{t:TV}:(i8 t).quiet d S:=by
 cases t with
 |pk p vs=>exact bo gk λ_=>bo rW λt=>by cases t<;>exact trivial
 |pw p vs sz lo n=>exact bo gk λ_=>trivial
 |ow c=>cases c<;>exact trivial
 |_=>exact trivial
theorem uC{op:TOp}(h:c9 op=some S):(ev1 d op).quiet d S:=by
 cases op with
 |mov x=>
  cases x with
  |t i=>
   simp only[c9,oSJ]at h;subst h;refine bo (cd λj hj=>by simpa[dD]using hj) λt=>?_
   cases t with
   |ow c=>exact trivial
   |agg l=>
    simp only;split
    ·exact trivial
    ·exact cq
   |_=>exact cq
  |c x=>
   simp only[c9]at h;split at h
   ·rename_i y hy
    have e:ev1 d (.mov (.c x))=wr d (.v y):=by simp only[ev1,opd,hy,SP.bind]
    rw[e];exact cq
   ·simp at h
  |f _=>simp[c9]at h
 |pick c a b=>
  simp only[c9,oSJ]at h;subst h;refine bo (cd λj hj=>by simp[hj]) λt=>?_;split
  ·rename_i bb
   refine bo ?_ λt=>by split<;>first|exact cq|exact trivial
   cases bb
   ·exact cd λj hj=>by simp at hj;simp[hj]
   ·exact cd λj hj=>by simp at hj;simp[hj]
  ·exact trivial
 |load n a=>
  simp only[c9,oSJ]at h;subst h;refine bo (cd λj hj=>by simpa using hj) λt=>?_;split
  ·refine bo gk λ_=>?_
   cases n with
   |none=>exact bo wa λ_=>cq
   |some n=>exact bo wb λ_=>cq
  ·split<;>first|exact cq|exact trivial
  ·exact trivial
 |nilc x=>
  simp only[c9,oSJ]at h;subst h;refine bo (cd λj hj=>by simpa using hj) λt=>?_;split
  ·exact bo gk λ_=>cq
  ·exact cq
  ·exact cq
  ·exact trivial
 |fld off a=>
  simp only[c9,oSJ]at h;subst h;refine bo (cd λj hj=>by simpa using hj) λt=>?_;split
  ·refine bo gk λ_=>?_
   split<;>first|exact cq|exact trivial
  ·split<;>first|exact cq|exact trivial
  ·exact trivial
 |fldv off n x=>
  simp only[c9,oSJ]at h;subst h;refine bo (cd λj hj=>by simpa using hj) λt=>?_
  (repeat' split)<;>first|exact cq|exact trivial
 |idx sz x i=>
  simp only[c9,oSJ]at h;subst h;refine bo (cd λj hj=>by simp[hj]) λt=>bo (cd λj hj=>by simp[hj]) λti=>bo lO λk=>?_;split
  ·exact bo gk λ_=>bo rW λt=>by(repeat' split)<;>first|exact cq|exact trivial
  ·exact bo gk λ_=>bo ia λt=>by(repeat' split)<;>first|exact cq|exact trivial
  ·split<;>first|exact cq|exact trivial
  ·exact trivial
 |idxa n sz x i=>
  simp only[c9,oSJ]at h;subst h;refine bo (cd λj hj=>by simp[hj]) λt=>bo (cd λj hj=>by simp[hj]) λti=>bo lO λk=>?_;split
  ·exact bo gk λ_=>by split<;>first|exact cq|exact trivial
  ·exact trivial
 |ext x i=>
  simp only[c9,oSJ]at h;subst h;refine bo (cd λj hj=>by simpa using hj) λt=>?_
  (repeat' split)<;>first|exact cq|exact trivial
 |bin op x y=>
  simp only[c9,oSJ]at h;subst h;refine bo (cd λj hj=>by simp[hj]) λt=>bo (cd λj hj=>by simp[hj]) λti=>bo fT λ_=>bo fT λ_=>bo g9 λr=>?_
  split<;>first|exact cq|exact trivial
 |bnb neg x y=>
  simp only[c9,oSJ]at h;subst h;refine bo (cd λj hj=>by simp[hj]) λt=>bo (cd λj hj=>by simp[hj]) λti=>bo fT λ_=>bo fT λ_=>?_
  split<;>first|exact cq|exact trivial
 |eqa ks neg x y=>
  simp only[c9,oSJ]at h;subst h;refine bo (cd λj hj=>by simp[hj]) λt=>bo (cd λj hj=>by simp[hj]) λti=>?_;split
  ·exact bo g9 λ_=>bo g9 λ_=>bo g9 λ_=>cq
  ·exact trivial
 |un op x=>
  simp only[c9,oSJ]at h;subst h;refine bo (cd λj hj=>by simpa using hj) λt=>bo fT λ_=>bo g9 λr=>?_
  split<;>first|exact cq|exact trivial
 |conv k x=>
  simp only[c9,oSJ]at h;subst h;refine bo (cd λj hj=>by simpa using hj) λt=>bo fT λ_=>?_
  split<;>first|exact cq|exact trivial
 |len x=>
  simp only[c9,oSJ]at h;subst h;exact bo (cd λj hj=>by simpa using hj) λt=>bo uB λ_=>cq
 |lens x=>
  simp only[c9,oSJ]at h;subst h;refine bo (cd λj hj=>by simpa using hj) λt=>?_
  split<;>first|exact cq|exact trivial
 |ixs x i=>
  simp only[c9,oSJ]at h;subst h;refine bo (cd λj hj=>by simp[hj]) λt=>bo (cd λj hj=>by simp[hj]) λti=>bo lO λk=>?_
  (repeat' split)<;>first|exact cq|exact trivial
 |_=>simp[c9]at h
end
def xR(t:eB):Option (Nat×List Nat):=
 match t.dst,c9 t.op with
 |some d,some S=>some (d,(match t.guard with|some (j,_)=>j::S|none=>S))
 |_,_=>none
theorem oE{α:Type}{d:Nat}{S S':List Nat}(hs:∀i∈S,i∈S'){s:SP α}(h:s.quiet d S):s.quiet d S':=by
 induction s with
 |ret a=>exact trivial
 |fail=>exact trivial
 |rdT i k ih=>exact⟨hs i h.1,λt=>ih t (h.2 t)⟩
 |rdC r o k ih=>exact λt=>ih t (h t)
 |rdH r o k ih=>exact λt=>ih t (h t)
 |rdV q k ih=>exact λn=>ih n (h n)
 |wrT i t k ih=>exact⟨h.1,ih h.2⟩
 |wrC r o t k ih=>exact h.elim
 |new r l k ih=>exact h.elim
 |bump q k ih=>exact h.elim
theorem rV{call:Option Nat->TOp->SP Unit}{t:eB}{d:Nat}{S:List Nat}(h:xR t=some (d,S)):(spOp call t).quiet d S:=by
 unfold xR at h;split at h
 case h_2=>simp at h
 rename_i d' S' hd hq
 injection h with h
 injection h with h1 h2
 subst h1
 have X7:(evop call t.dst t.op)=ev1 d' t.op:=by
  rw[hd]
  cases hop:t.op<;>rw[hop]at hq<;>first|rfl|simp[c9]at hq
 have YJ:(setNo t.dst).quiet d' S:=by rw[hd];exact⟨rfl,trivial⟩
 unfold spOp
 cases hg:t.guard with
 |none=>
  rw[hg]at h2;subst h2;rw[X7];exact uC hq
 |some g=>
  obtain⟨j,want⟩:=g;rw[hg]at h2;subst h2;refine⟨by simp,λtv=>?_⟩;show SP.quiet d' (j::S') (match tv with|.v (.bool b)=>if b=want then evop call t.dst t.op else setNo t.dst|.tup []=>setNo t.dst|_=>.fail);split
  ·split
   ·rw[X7];exact oE (by simp +contextual) (uC hq)
   ·exact YJ
  ·exact YJ
  ·exact trivial
def Fc(deps:List (List Nat))(tops:List eB)(i j:Nat):Bool:=
 (deps.getD j []).contains i||(match xR (tops.getD i vA),xR (tops.getD j vA)with
  |some (di,Si),some (dj,Sj)=>di != dj && !Sj.contains di && !Si.contains dj
  |_,_=>false)
def rK(deps:List (List Nat))(tops:List eB):List Nat->Bool
 | []=>true
 |i::r=>(r.all λj=>Fc deps tops i j)&&rK deps tops r
theorem wc{a b:k9}{da db:Nat}{Sa Sb:List Nat}(ha:(∀x∈a.2,x=.t da)/\∀i,Loc.t i∈a.1->i∈Sa)(hb:(∀x∈b.2,x=.t db)/\∀i,Loc.t i∈b.1->i∈Sb)(h1:da≠db)(h2:da ∉ Sb)(h3:db ∉ Sa):jz a b=false:=by
 have hm:∀(l l':List Loc)(d d':Nat)(S:List Nat),(∀x∈l,x=.t d)->((∀x∈l',x=.t d')/\d≠d'\/(∀i,Loc.t i∈l'->i∈S)/\d ∉ S)->zH l l'=false:=by
  intro l l' d d' S hl Yq;unfold zH;simp;intro w hw x hx;rw[hl w hw]
  cases x with
  |t i=>
   simp[Loc.hit,beq_eq_false_iff_ne];intro e
   rcases Yq with⟨q1,q2⟩|⟨q1,q2⟩
   ·have:=q1 _ hx;injection this with this;omega
   ·simp_all
  |_=>rfl
 unfold jz;rw[hm a.2 b.1 da 0 Sb ha.1 (.inr ⟨hb.2,h2⟩),hm a.2 b.2 da db [] ha.1 (.inl ⟨hb.1,h1⟩),hm b.2 a.1 db 0 Sa hb.1 (.inr ⟨ha.2,h3⟩),hm b.2 a.2 db da [] hb.1 (.inl ⟨ha.1,Ne.symm h1⟩)];rfl
theorem zk{call:Option Nat->TOp->SP Unit}{tops:List eB}{deps:List (List Nat)}:∀{L:List Nat}{σ τ:St}{fs:List (Nat×k9)},rK deps tops L=true->la (λi=>spOp call (tops.getD i vA)) L σ=some (fs,τ)->
 ew deps fs=true/\fs.map (·.1)=L/\∀y∈fs,∃ σ1,y.2=(spOp call (tops.getD y.1 vA)).foot σ1:=by
 intro L
 induction L with
 |nil=>
  intro σ τ fs _ hr;obtain⟨rfl,rfl⟩:=hr;exact⟨rfl,rfl,λy hy=>by simp at hy⟩
 |cons i L ih=>
  intro σ τ fs hs hr;simp only[rK,oBA,List.all_eq_true]at hs;simp only[la]at hr;obtain⟨x,h1,h2⟩:=bz hr;obtain⟨y,h3,h4⟩:=bz h2;obtain⟨rfl,rfl⟩:=h4;obtain⟨X4,τ1⟩:=y;obtain⟨q1,q2,q3⟩:=ih hs.2 h3;refine⟨?_,by simp[q2],λz hz=>?_⟩
  ·simp only[ew,oBA,List.all_eq_true];refine⟨λz hz=>?_,q1⟩
   have NR:z.1∈L:=by rw[<- q2];exact List.mem_map_of_mem hz
   have hp:=hs.1 z.1 NR;unfold Fc at hp;simp only[Bool.or_eq_true]at hp⊢;rcases hp with hp|hp
   ·exact .inr hp
   ·left;split at hp
    ·rename_i di Si dj Sj e1 e2;simp only[oBA,bne_iff_ne,ne_eq,Bool.not_eq_true',List.contains_eq_mem,decide_eq_false_iff_not]at hp;obtain⟨σ1,e3⟩:=q3 z hz;have:=wc (jF (rV (call:=call) e1) σ) (jF (rV (call:=call) e2) σ1) hp.1.1 hp.1.2 hp.2
     simp_all
    ·simp at hp
  ·rcases List.mem_cons.1 hz with rfl|hz
   ·exact⟨σ,rfl⟩
   ·exact q3 z hz
theorem DP{call:Option Nat->TOp->SP Unit}{o:eB}{σ σ':St}(h:sA call o σ=some σ'):(spOp call o).run σ=some ((),σ'):=by
 have YJ:∀{σ'},(match o.dst with|some d=>some { σ with tm:=cM σ.tm d (.tup []) } |none=>some σ)=some σ'->(setNo o.dst).run σ=some ((),σ'):=by
  intro σ' h;unfold setNo
  cases hd:o.dst with
  |none=>rw[hd]at h;simp at h;simp[SP.run,h]
  |some d=>rw[hd]at h;simp at h;simp[SP.run,h]
 have hm:∀{s:SP Unit}{σ'},(s.run σ).map (·.2)=some σ'->s.run σ=some ((),σ'):=by simp_all
 unfold sA at h;unfold spOp
 cases hg:o.guard with
 |none=>rw[hg]at h;exact hm h
 |some g=>
  rw[hg]at h;simp only[SP.run]at h⊢;split at h
  ·split at h
   ·rename_i Ub;rw[oIP Ub];exact hm h
   ·rename_i Ub;rw[oIN Ub];exact YJ h
  ·exact YJ h
  ·simp at h
theorem Bu{call:Option Nat->TOp->SP Unit}{tops:List eB}:∀{L:List Nat}{σ τ:St},mt call (L.map λi=>tops.getD i vA) σ=some τ->∃fs,la (λi=>spOp call (tops.getD i vA)) L σ=some (fs,τ):=by
 intro L
 induction L with
 |nil=>intro σ τ h;simp[mt]at h;subst h;exact⟨[],rfl⟩
 |cons i L ih=>
  intro σ τ h;have ⟨σ1,h1,h2⟩:=bz h;have ⟨fs,h3⟩:=ih h2;refine⟨(i,(spOp call (tops.getD i vA)).foot σ)::fs,?_⟩;simp only[la,DP h1,oBS,h3]
theorem zo(tops:List eB):(List.range tops.length).map (λi=>tops.getD i vA)=tops:=by
 apply List.ext_getElem?;intro i;by_cases h:i<tops.length
 ·simp[h]
 ·simp_all
def dJ(P:Program)(M:Fm)(isCall:Op->TOp->Prop):eC->Code->Prop
 |.skip,c=>c=.skip
 |.nrm _,c=>c=.skip
 |.reg _ draw tops _,c=>∃id ops dr,c=.region id ops dr/\tops.length=ops.size/\(∀i (h:i<ops.size)(h':i<tops.length),oD P M isCall ops ops[i] tops[i])/\match draw with
  |some deps=>dr=true/\qG ops deps/\P.follows .mixedOrders=true
  |none=>dr=true->∃deps,qG ops deps/\P.follows .mixedOrders=true/\rK deps tops (List.range tops.length)=true
 |.seq x y,c=>∃x' y',c=.seq x' y'/\dJ P M isCall x x'/\dJ P M isCall y y'
 |.cond k x y,c=>∃k' x' y',c=.cond k' x' y'/\bq k'=some k/\dJ P M isCall x x'/\dJ P M isCall y y'
 |.block id x,c=>∃x',c=.block id x'/\dJ P M isCall x x'
 |.loop x,c=>∃x',c=.loop x'/\dJ P M isCall x x'
 |.sc x,c=>(∃l,c=.label l/\x=.skip)\/∃x',c=.scope x'/\dJ P M isCall x x'
 |.exit id,c=>c=.exit id
 |.ret,c=>c=.ret
 |.pre l x,c=>(∀y∈l,y.1<M.N)/\dJ P M isCall x c
 |.frz i _ x,c=>(i<M.N/\M.pr (2*i+2)=none)/\dJ P M isCall x c
 |.post x l,c=>(∀y∈l,y.1<M.N)/\dJ P M isCall x c
def fL.toExit:fL->Exit
 |.normal=>.normal
 |.exit id=>.exit id
 |.ret=>.ret
section
variable {P:Program} {M:Fm} {isCall:Op->TOp->Prop} {call:Option Nat->TOp->SP Unit}
theorem fM.toTm{w:World}{F:Nat->Prop}{V:Vs}{C:Cs}{G:Gh}{t:TV}{x:Value}(h:fM w F t x):TmR w F V C G t x:=by
 exact(ImF.im h).toTm
theorem F6{σ σ':St}{ts:Array Value}{w:World}{G:Gh}(hI:Inv M σ [] [] ts w G){x:Nat×Option Nat}(hx:x.1<M.N)(hr:(shr1 x).run σ=some ((),σ')):∃G',Inv M σ' [] [] ts w G':=by
 obtain⟨i,off⟩:=x
 have Ux:some ((),σ)=some ((),σ')->∃G',Inv M σ' [] [] ts w G':=λh=>by
  simp only[oSJ,oPJ,true_and]at h;exact⟨G,h▸hI⟩
 have Zt:=hI.tmr i
 have drop:∀{t t':TV}{v:Value}{σ1:St}{H:List TV},TmR w (G.F M.A) σ.v (bM M σ []) G t v->(take1 false t).run σ=some (t',σ1)->t'≠.dead->∃G2,Inv M σ1 [] [] ts w G2/\TmR w (G2.F M.A) σ1.v (bM M σ1 []) G2 t'.imm v/\σ1.tm=σ.tm:=by
  intro t t' v σ1 H ht h1 ZR;obtain⟨G1,hg,_⟩:=dX hI ht h1
  obtain⟨G2,ZJ,ZI⟩:=hg.1.dropImm (λj hj=>by
   obtain rfl:j=0:=by simpa using hj
   exact ZR)
  have h0:=ZI 0 (by simp);refine⟨G2,ZJ.1,?_,ZJ.2.2.2.trans hg.2.2.2⟩;exact h0.toTm
 unfold shr1 at hr;simp only[SP.run]at hr
 cases off with
 |none=>
  cases ht:σ.t i with
  |pk p vs=>
   rw[ht]at hr Zt;simp only at hr;obtain⟨t',σ1,h1,h2⟩:=bn hr;simp only[SP.run,oSJ,oPJ,true_and]at h2
   have ZR:t'≠.dead:=by
    intro e
    rcases fQ h1 with h|h<;>rw[e]at h<;>simp[bW,gS]at h
   obtain⟨G2,ZY,Ym,_⟩:=drop (H:=[]) Zt h1 ZR;refine⟨G2,?_⟩;rw[<- h2];have:=ZY.wrT hx Ym
   have e:ts.setIfInBounds i (ts.getD i undef)=ts:=by
    apply Array.ext
    ·simp
    ·intro j h3 h4;rw[Array.getElem_setIfInBounds (by simpa using h4)]
     simp_all
   rw[e]at this;exact this
  |_=>rw[ht]at hr;exact Ux hr
 |some off=>
  cases ht:σ.t i with
  |ptr p vs=>
   rw[ht]at hr Zt;simp only at hr;obtain⟨_,σ1,h1,h2⟩:=bn hr;have e1:σ1=σ:=(bE h1).1;have e2:=(bE h1).2;subst e1;split at h2
   case isFalse=>simp[SP.run]at h2
   obtain⟨t,σ2,h3,h4⟩:=bn h2;obtain⟨e3,hg⟩:=cH h3;have e3:σ2=σ1:=e3;subst e3
   cases t with
   |ow c=>
    simp only at h4;obtain⟨t',σ3,h5,h6⟩:=bn h4;obtain⟨t2,σ4,h7,h8⟩:=bn h6;simp only[SP.run,oSJ,oPJ,true_and]at h8;subst h8
    cases Zt with
    |ptr V0 h0 hv h=>
     obtain⟨Z7,ad,t0,ha,_,_⟩:=h e2
     have Wd:(p.add off).root≠1:=by rw[cA];exact Z7
     obtain⟨hB,u,fp,YV,hown,Tn⟩:=hI.named Wd (iI off ha) hg (by simp);obtain⟨rfl,YT⟩:=mA hI Wd hg hown Tn h5
     have ZR:t2≠.dead:=by
      intro e
      rcases fQ h7 with h|h<;>rw[e]at h<;>simp[bW,gS]at h
     obtain⟨G2,ZY,_,_⟩:=drop (H:=[]) YT h7 ZR;exact⟨G2,ZY⟩
   |_=>exact Ux h4
  |_=>rw[ht]at hr;exact Ux hr
theorem Ba{ts:Array Value}{w:World}:∀{l:List (Nat×Option Nat)}{σ σ':St}{G:Gh},Inv M σ [] [] ts w G->(∀y∈l,y.1<M.N)->(shrs l).run σ=some ((),σ')->∃G',Inv M σ' [] [] ts w G':=by
 intro l
 induction l with
 |nil=>
  intro σ σ' G hI _ hr;simp[shrs,SP.run]at hr;exact⟨G,hr▸hI⟩
 |cons x l ih=>
  intro σ σ' G hI hl hr;have ⟨_,σ1,h1,h2⟩:=bn hr;have ⟨G1,hI1⟩:=F6 hI (hl x (by simp)) h1;exact ih hI1 (λy hy=>hl y (by simp[hy])) h2
theorem Inv.unbox{σ:St}{ts:Array Value}{w:World}{G:Gh}(hI:Inv M σ [] [] ts w G)(r:Nat)(h1:r≠1)(Y5:M.pr r=none):
 ∃G',Inv M (σ.root r []) [] [] ts w G'/\(∀k,G.F M.A k->G'.F M.A k)/\∀b o n,G.β r=some (b,o,n)->G'.F M.A b:=by
 have Z3:r≠M.hr:=h1
 let G':Gh:=⟨λr'=>if r'=r then none else G.β r',G.η,λr' o k=>if r'=r then False else G.φ r' o k⟩
 have Z9:∀r' o k,G'.φ r' o k->G.φ r' o k/\r'≠r:=by
  intro r' o k hk;simp only[G']at hk;by_cases e:r'=r
  ·rw[oIP e]at hk;exact hk.elim
  ·rw[oIN e]at hk;exact⟨hk,e⟩
 have XR:∀r' x,G'.β r'=some x->G.β r'=some x/\r'≠r:=by
  intro r' x hb;simp only[G']at hb;by_cases e:r'=r
  ·rw[oIP e]at hb;cases hb
  ·rw[oIN e]at hb;exact⟨hb,e⟩
 have Zo:∀k,G.F M.A k->G'.F M.A k:=by
  rintro k ⟨a1,a2,a3⟩;exact⟨a1,λr' o h=>a2 r' o (Z9 r' o k h).1,λr' b o n hb=>a3 r' b o n (XR r' _ hb).1⟩
 have hval:∀r' o,r'≠r->G'.val w r' o=G.val w r' o:=λr' o hne=>ek (by simp[G',hne]) rfl λb o n hb=>rfl
 have VL:∀r' o,bM M (σ.root r []) [] r' o=if r'=M.hr then .dead else if r'=r then([]:List TV).getD o .dead else bM M σ [] r' o:=λr' o=>qk r' o hI
 have Zv:fX M.A (bM M (σ.root r []) []) w G':=by
  refine⟨λr' o=>?_,λr' b o0 n hb=>hI.core.box r' b o0 n (XR _ _ hb).1,λr' b o0 n hb o ho=>?_,λr1 r2 b o n o' n' Z0 Z'=>hI.core.boxd r1 r2 b o n o' n' (XR _ _ Z0).1 (XR _ _ Z').1,λr' b o n hb r2 o2 hk=>hI.core.boxf r' b o n (XR _ _ hb).1 r2 o2 (Z9 _ _ _ hk).1,λr1 o1 r2 o2 k ZA hk2=>hI.core.dis _ _ _ _ k (Z9 _ _ _ ZA).1 (Z9 _ _ _ hk2).1,λr' o k hk=>hI.core.allow _ _ k (Z9 _ _ _ hk).1⟩
  ·rw[VL];by_cases e1:r'=M.hr
   ·left;refine⟨by simp[e1],λk hk=>?_⟩;have h2:=(Z9 _ _ _ hk).1;rw[e1]at h2;exact hI.phi_dead (by rw[gx];simp) k h2
   ·rw[oIN e1];by_cases e2:r'=r
    ·left;exact⟨by simp[e2],λk hk=>(Z9 _ _ _ hk).2 e2⟩
    ·rw[oIN e2,hval r' o e2]
     have Zy:∀k,G'.φ r' o k↔G.φ r' o k:=λk=>by simp[G',e2]
     rcases hI.core.cell r' o with⟨a1,a2⟩|a2
     ·left;exact⟨a1,λk hk=>a2 k ((Zy k).1 hk)⟩
     ·right;exact(a2.frame (λk _=>rfl) (λk _ _=>rfl) λk h _=>Zo k h).refp λk=>(Zy k).symm
  ·obtain⟨Z0,e2⟩:=XR _ _ hb;rw[VL];by_cases e1:r'=M.hr
   ·simp[e1]
   ·rw[oIN e1,oIN e2];exact hI.core.boxc r' b o0 n Z0 o ho
 have hk:d4 w w σ.v (σ.root r []).v (bM M σ []) (bM M (σ.root r []) []) G G':=by
  refine d4.root hI.core r (λk _=>rfl) (λq=>by rw[eZ];omega) (by rw[eZ];simp) (λr' o hne R5=>?_) (λr' hne _=>by simp[G',hne]) (λ_ _ _ _=>rfl);rw[VL];have:r'≠M.hr:=R5;simp[this,hne]
 have hF:=hI.fram;refine⟨G',⟨Zv,λi=>(hI.tmr i).keep hk (λk _ h=>rfl) (λk h _=>Zo k h),?_,λr' l h=>?_,hI.size,rfl,λj hj=>by simp at hj,λr' b o n hb l h=>?_⟩,Zo,λb o n hb=>?_⟩
 ·refine⟨hF.os,hF.tape,hF.output,hF.size,hF.old,λr' b o n hp=>?_,λr' o k hk=>hF.own _ _ k (Z9 _ _ _ hk).1,λr' b o n hb=>hF.box r' b o n (XR _ _ hb).1,λr' hb=>?_⟩
  ·obtain⟨a1,a2⟩:=hF.par r' b o n hp
   have hne:r'≠r:=λe=>by rw[e,Y5]at hp;simp at hp
   exact⟨by simp[G',hne,a1],a2⟩
  ·refine hF.even r' λe=>hb ?_;simp only[G'];by_cases e2:r'=r
   ·rw[oIP e2]
   ·rw[oIN e2];exact e
 ·rw[show(σ.root r []).ce=cM σ.ce r []from rfl,bY]at h;split at h
  ·rename_i e1;rw[<- e1];exact h1
  ·exact hI.keys r' l h
 ·obtain⟨Z0,e1⟩:=XR _ _ hb;rw[show(σ.root r []).ce=cM σ.ce r []from rfl,bY,oIN (Ne.symm e1)]at h;exact hI.shape r' b o n Z0 l h
 ·refine⟨?_,λr' o' h=>hI.core.boxf r b o n hb r' o' (Z9 _ _ _ h).1,λr' b' o' n' h e=>?_⟩
  ·rcases hF.box r b o n hb with h|⟨_,h⟩
   ·rw[Y5]at h;cases h
   ·exact M.hA _ h
  ·subst e;obtain⟨h2,h3⟩:=XR _ _ h;exact h3 (hI.core.boxd r r' b o n o' n' hb h2).symm
theorem Bz{r:Nat}:∀{n o:Nat}{σ σ':St}{l:List TV},(zn r n o).run σ=some (l,σ')->σ'=σ/\∀j (h:j<l.length),l[j]=σ.c r (o+j)/\uU l[j]=true:=by
 intro n
 induction n with
 |zero=>
  intro o σ σ' l h;simp only[zn,SP.run,oSJ,oPJ]at h;obtain⟨rfl,rfl⟩:=h;exact⟨rfl,λj h=>by simp at h⟩
 |succ n ih=>
  intro o σ σ' l h;simp only[zn,SP.run]at h;split at h
  case isFalse=>simp[SP.run]at h
  rename_i hi;obtain⟨l',σ1,h1,h2⟩:=bn h;simp only[SP.run,oSJ,oPJ]at h2;obtain⟨rfl,rfl⟩:=h2;obtain⟨rfl,h3⟩:=ih h1;refine⟨rfl,λj hj=>?_⟩
  cases j with
  |zero=>exact⟨rfl,hi⟩
  |succ j=>
   have:=h3 j (by simpa using hj);rw[List.getElem_cons_succ,show o+(j+1)=o+1+j by omega];exact this
theorem It{σ σ':St}{ts:Array Value}{w:World}{G:Gh}(hI:Inv M σ [] [] ts w G){i n:Nat}(hi:i<M.N)(Y5:M.pr (2*i+2)=none)(hr:(I0 i n).run σ=some ((),σ')):∃G',Inv M σ' [] [] ts w G':=by
 unfold I0 at hr;simp only[SP.run]at hr;have Zt:=hI.tmr i
 cases ht:σ.t i with
 |ptr p vs=>
  rw[ht]at hr Zt;simp only at hr;split at hr
  case isFalse=>simp[SP.run]at hr
  rename_i hc;obtain⟨c1,c2,c3⟩:=hc;obtain⟨_,σ1,h1,h2⟩:=bn hr;have e1:σ1=σ:=(bE h1).1;have e2:=(bE h1).2;subst e1;obtain⟨l,σ2,h3,h4⟩:=bn h2;obtain⟨rfl,hl⟩:=Bz h3;simp only[SP.run,oSJ,oPJ,true_and]at h4;subst h4;generalize hx:ts.getD i undef=x at Zt
  cases Zt with
  |ptr V0 h0 hv h=>
   obtain⟨Z7,ad,t0,ha,NK,_⟩:=h (by rw[c3];exact e2);obtain⟨G',ZE,Zo,Mu⟩:=hI.unbox p.root Z7 (by rw[c1];exact Y5);unfold Gh.addr at ha;rw[c3]at ha
   cases hb:G.β p.root with
   |none=>simp[hb]at ha
   |some y=>
    obtain⟨b,o0,n0⟩:=y;rw[hb,c2]at ha;simp only[oSJ]at ha;subst ha;refine⟨G',?_⟩
    have hcell:∀j (h:j<l.length),w.cell? ⟨b,o0+j,none⟩=some (G.val w p.root j)/\dI w (G.F M.A) (G.φ p.root j) l[j] (G.val w p.root j):=λj hj=>by
     obtain⟨g1,g2⟩:=hl j hj;rw[Nat.zero_add]at g1
     have ZR:bM M σ2 [] p.root j≠.dead:=by
      rw[bG (show p.root≠M.hr from Z7),<- g1];intro e;rw[e]at g2;cases g2
     refine⟨hI.core.boxcell hb (Nat.lt_of_not_le λYv=>ZR (hI.core.boxc _ _ _ _ hb j Yv)),?_⟩;have:=hI.core.own ZR;rw[bG (show p.root≠M.hr from Z7),<- g1]at this;exact this
    have h5:=ZE.wrT hi (t:=.ip l) (x:=x) (by
     rw[NK];refine .ip (λj=>G.val w p.root j) (λj hj=>⟨Mu _ _ _ hb,(hcell j hj).1⟩) λj hj=>?_;have g2:=(hl j hj).2;have g3:=(hcell j hj).2;generalize l[j]=t at g2 g3⊢;generalize G.val w p.root j=z at g3⊢
     cases g3 with
     |v hfp h=>exact .im (.v h)
     |sl hfp h=>exact .im (h.frame (λk _ _=>rfl) λk hk _=>Zo k hk)
     |_=>cases g2)
    have e:ts.setIfInBounds i x=ts:=by
     rw[<- hx];apply Array.ext
     ·simp
     ·intro j h3 h4;rw[Array.getElem_setIfInBounds (by simpa using h4)];split
      ·rename_i e;subst e;simp[Array.getD_eq_getD_getElem?,h4]
      ·rfl
    rw[e]at h5;exact h5
 |_=>rw[ht]at hr;simp[SP.run]at hr
theorem xK(Zh:qH P M isCall call)(N:Nat):∀(tc:eC)(c:Code)(σ:St)(e:fL)(σ':St)(a:Act)(w:World)(G:Gh)(Q:Exit->Act->World->Prop),dJ P M isCall tc c->runC call N tc σ=some (e,σ')->Inv M σ [] [] a.tmps w G ->
 (∀a' w' G',Inv M σ' [] [] a'.tmps w' G'->a'.defers=a.defers->Q e.toExit a' w')->c.wp P Q a w:=by
 intro tc
 induction tc with
 |skip=>
  intro c σ e σ' a w G Q hc hr hI hQ;simp only[dJ]at hc;subst hc;simp only[runC,oSJ,oPJ]at hr;obtain⟨rfl,rfl⟩:=hr;exact wp_skip (hQ a w G hI rfl)
 |nrm pers=>
  intro c σ e σ' a w G Q hc hr hI hQ;simp only[dJ]at hc;subst hc;simp only[runC,oSJ,oPJ]at hr;obtain⟨rfl,rfl⟩:=hr;obtain⟨G2,ZY⟩:=hI.norm pers;exact wp_skip (hQ a w G2 ZY rfl)
 |reg id draw tops pers=>
  intro c σ e σ' a w G Q hc hr hI hQ;obtain⟨LN,ops,dr,rfl,hlen,hok,hdr⟩:=hc;simp only[runC]at hr
  cases draw with
  |some deps=>
   simp only at hr;obtain⟨⟨fs,τ⟩,h1,h2⟩:=bz hr;simp only at h2;split at h2
   ·rename_i hp
    injection h2 with h2
    injection h2 with h2 h3
    subst h2;subst h3;obtain⟨rfl,Y7,hm⟩:=hdr;refine xJ hm hlen hok Zh Y7 hI h1 hp λa' w' G' ZE hd'=>?_;obtain⟨G2,ZY⟩:=ZE.norm pers;exact hQ a' w' G2 ZY hd'
   ·simp at h2
  |none=>
   simp only at hr;obtain⟨σ1,h1,h2⟩:=dV hr
   injection h2 with h2 h3
   subst h2;subst h3
   cases dr with
   |true=>
    obtain⟨deps,Y7,hm,hst⟩:=hdr rfl;obtain⟨fs,Zq⟩:=Bu (tops:=tops) (L:=List.range tops.length) (by rw[zo];exact h1);refine xJ hm hlen hok Zh Y7 hI Zq (zk hst Zq).1 λa' w' G' ZE hd'=>?_;obtain⟨G2,ZY⟩:=ZE.norm pers;exact hQ a' w' G2 ZY hd'
   |false=>
   refine wp_region ?_
   have hm:(List.range ops.size).map (λi=>tops.getD i ⟨none,none,.lens (.t 0)⟩)=tops:=by
    apply List.ext_getElem?;intro i;by_cases h:i<ops.size
    ·simp[h,hlen]
    ·rw[oGN (by simpa using h),oGN (by omega)]
   refine FI hlen hok Zh (List.range ops.size) σ a w G (λi hi=>by simpa using hi) hI (by rw[hm];exact h1) λa' w' G' ZE hd'=>?_;obtain⟨G2,ZY⟩:=ZE.norm pers;exact hQ a' w' G2 ZY hd'
 |seq x y X1 Uv=>
  intro c σ e σ' a w G Q hc hr hI hQ;obtain⟨x',y',rfl,hx,hy⟩:=hc;simp only[runC]at hr;obtain⟨⟨e1,σ1⟩,h1,h2⟩:=bz hr;refine wp_seq (X1 x' σ e1 σ1 a w G _ hx h1 hI λa' w' G' ZE hd=>?_)
  cases e1 with
  |normal=>exact Uv y' σ1 e σ' a' w' G' Q hy h2 ZE λa2 w2 G2 h3 h4=>hQ a2 w2 G2 h3 (h4.trans hd)
  |exit id=>
   simp only[oSJ,oPJ]at h2;obtain⟨rfl,rfl⟩:=h2;exact hQ a' w' G' ZE hd
  |ret=>
   simp only[oSJ,oPJ]at h2;obtain⟨rfl,rfl⟩:=h2;exact hQ a' w' G' ZE hd
 |cond k x y X1 Uv=>
  intro c σ e σ' a w G Q hc hr hI hQ;obtain⟨k',x',y',rfl,hk,hx,hy⟩:=hc;simp only[runC]at hr;obtain⟨⟨t,σ1⟩,h1,h2⟩:=bz hr;obtain⟨rfl,ht⟩:=cf hI.tmr hk h1
  cases t with
  |v z=>
   obtain⟨hz,_⟩:=ht.v_inv
   cases z with
   |bool b=>
    cases b with
    |true=>exact wp_cond_true hz (X1 x' _ e σ' a w G Q hx h2 hI hQ)
    |false=>exact wp_cond_false hz (Uv y' _ e σ' a w G Q hy h2 hI hQ)
   |_=>simp at h2
  |_=>simp at h2
 |block id x X1=>
  intro c σ e σ' a w G Q hc hr hI hQ;obtain⟨x',rfl,hx⟩:=hc;simp only[runC]at hr;obtain⟨⟨e1,σ1⟩,h1,h2⟩:=bz hr;refine wp_block (X1 x' σ e1 σ1 a w G _ hx h1 hI λa' w' G' ZE hd=>?_)
  cases e1 with
  |normal=>
   simp only[oSJ,oPJ]at h2;obtain⟨rfl,rfl⟩:=h2;exact hQ a' w' G' ZE hd
  |exit i=>
   simp only at h2;simp only[fL.toExit,Exit.inBlock];split at h2
   ·rename_i hi;simp only[oSJ,oPJ]at h2;obtain⟨rfl,rfl⟩:=h2;rw[oIP hi];exact hQ a' w' G' ZE hd
   ·rename_i hi;simp only[oSJ,oPJ]at h2;obtain⟨rfl,rfl⟩:=h2;rw[oIN hi];exact hQ a' w' G' ZE hd
  |ret=>
   simp only[oSJ,oPJ]at h2;obtain⟨rfl,rfl⟩:=h2;exact hQ a' w' G' ZE hd
 |loop x X1=>
  intro c σ e σ' a w G Q hc hr hI hQ;obtain⟨x',rfl,hx⟩:=hc;simp only[runC]at hr
  have ZP:∀(n:Nat)(σ:St)(a:Act)(w:World)(G:Gh)(d:List Deferred),a.defers=d->GD (runC call N x) n σ=some (e,σ')->Inv M σ [] [] a.tmps w G->(∀a' w' G',Inv M σ' [] [] a'.tmps w' G'->a'.defers=d->Q e.toExit a' w')->Code.rounds P x' Q n a w:=by
   intro n
   induction n with
   |zero=>intro σ a w G d _ hr;simp[GD]at hr
   |succ n ih=>
    intro σ a w G d hd hr hI hQ;simp only[GD]at hr;obtain⟨⟨e1,σ1⟩,h1,h2⟩:=bz hr;rw[rounds_succ];refine X1 x' σ e1 σ1 a w G _ hx h1 hI λa' w' G' ZE hd'=>?_
    cases e1 with
    |normal=>exact ih σ1 a' w' G' d (hd'.trans hd) h2 ZE hQ
    |exit i=>
     simp only[oSJ,oPJ]at h2;obtain⟨rfl,rfl⟩:=h2;exact hQ a' w' G' ZE (hd'.trans hd)
    |ret=>
     simp only[oSJ,oPJ]at h2;obtain⟨rfl,rfl⟩:=h2;exact hQ a' w' G' ZE (hd'.trans hd)
  exact wp_loop_rounds N (ZP N σ a w G a.defers rfl hr hI hQ)
 |sc x X1=>
  intro c σ e σ' a w G Q hc hr hI hQ;simp only[runC]at hr
  rcases hc with⟨l,rfl,rfl⟩|⟨x',rfl,hx⟩
  ·simp only[runC,oSJ,oPJ]at hr;obtain⟨rfl,rfl⟩:=hr;exact wp_label (hQ a w G hI rfl)
  ·refine wp_scope_straight (X1 x' σ e σ' a w G _ hx hr hI λa' w' G' ZE hd=>?_);cases e<;>exact hQ a' w' G' ZE hd
 |exit id=>
  intro c σ e σ' a w G Q hc hr hI hQ;simp only[dJ]at hc;subst hc;simp only[runC,oSJ,oPJ]at hr;obtain⟨rfl,rfl⟩:=hr;exact wp_exit (hQ a w G hI rfl)
 |ret=>
  intro c σ e σ' a w G Q hc hr hI hQ;simp only[dJ]at hc;subst hc;simp only[runC,oSJ,oPJ]at hr;obtain⟨rfl,rfl⟩:=hr;exact wp_ret (hQ a w G hI rfl)
 |frz i n x X1=>
  intro c σ e σ' a w G Q hc hr hI hQ;obtain⟨hl,hx⟩:=hc;simp only[runC]at hr;obtain⟨⟨u,σ1⟩,h1,h2⟩:=bz hr;obtain⟨G1,hI1⟩:=It hI hl.1 hl.2 h1;obtain⟨G2,ZY⟩:=hI1.norm (σ1.tm.map (·.1),σ1.ce.map (·.1));exact X1 c σ1.anew e σ' a w G2 Q hx h2 ZY hQ
 |pre l x X1=>
  intro c σ e σ' a w G Q hc hr hI hQ;obtain⟨hl,hx⟩:=hc;simp only[runC]at hr;obtain⟨⟨u,σ1⟩,h1,h2⟩:=bz hr;obtain⟨G1,hI1⟩:=Ba hI hl h1;obtain⟨G2,ZY⟩:=hI1.norm (σ1.tm.map (·.1),σ1.ce.map (·.1));exact X1 c σ1.anew e σ' a w G2 Q hx h2 ZY hQ
 |post x l X1=>
  intro c σ e σ' a w G Q hc hr hI hQ;obtain⟨hl,hx⟩:=hc;simp only[runC]at hr;obtain⟨⟨e1,σ1⟩,h1,h2⟩:=bz hr;obtain⟨⟨u,σ2⟩,h3,h4⟩:=bz h2;simp only[oSJ,oPJ]at h4;obtain⟨rfl,rfl⟩:=h4;refine X1 c σ e1 σ1 a w G Q hx h1 hI λa' w' G' ZE hd=>?_;obtain⟨G2,ZY⟩:=Ba ZE hl h3;obtain⟨G3,Ye⟩:=ZY.norm (σ2.tm.map (·.1),σ2.ce.map (·.1));exact hQ a' w' G3 Ye hd
end
inductive TRs where
 |tmp (t:Nat)
 |cell (t:Nat) (n:Option Nat)
structure TFn where
 np:Nat
 pp:List Nat
 nt:Nat
 body:eC
 res:List TRs
def Io(np r:Nat):Bool:=r%2==0&&decide (r<2*np+2)
def takeR1(np:Nat)(t:TV):SP TV:=
 match t with
 |.pk p vs=>take1 (!Io np p.root) (.pk p vs)
 |t=>take1 true t
def takeRL(np:Nat):List TV->SP (List TV)
 | []=>.ret []
 |t::r=>(takeR1 np t).bind λt'=>(takeRL np r).bind λr'=>.ret (t'::r')
def takeRV(np:Nat)(t:TV):SP (List TV×RSh):=
 match t with
 |.agg l=>(takeRL np l).bind λl'=>.ret (l',.agg l'.length)
 |t=>(takeR1 np t).bind λt'=>.ret ([t'],.one)
def res1(np:Nat):TRs->SP (List TV×RSh)
 |.tmp t=>.rdT t λtv=>takeRV np tv
 |.cell t n=>.rdT t λtv=>match tv with
  |.ptr p vs=>(chk p p.hops.length vs).bind λ_=>match n with
   |none=>(getPl p).bind λt=>(peek1 p t).bind λt'=>takeRV np t'
   |some n=>(peekL p n).bind λl=>takeRV np (.agg l)
  |_=>.fail
def resL(np:Nat):List TRs->SP (List TV×List RSh)
 | []=>.ret ([],[])
 |r::rs=>(res1 np r).bind λx=>(resL np rs).bind λy=>.ret (x.1++y.1,x.2::y.2)
def vB:TV->Bool
 |.v x=>dZ x
 |_=>false
def unV:TV->Value
 |.v x=>x
 |_=>undef
def onesOf:List TV->List RSh
 | []=>[]
 |_::r=>.one::onesOf r
def flatsR:List TRs->SP (List TV)
 | []=>.ret []
 |.tmp t::r=>.rdT t λtv=>if vB tv then(flatsR r).bind λl=>.ret (tv::l)else .fail
 |.cell _ _::_=>.fail
def resF(np:Nat):List TRs->SP (List TV×List RSh)
 |.tmp t::r=>.rdT t λtv=>match tv with
  |.ptr p vs=>(chk p p.hops.length vs).bind λ_=>(flatsR r).bind λl=>.ret (.ptr p vs::l,.ptr::onesOf l)
  |_=>resL np (.tmp t::r)
 |qs=>resL np qs
def xN(t:TV):List TV->TV
 | []=>t
 |y::l=>.tup (t::y::l)
def rQ(x:Value):List Value->Value
 | []=>x
 |y::l=>.tuple (x::y::l).toArray
theorem Be{w:World}{F:Nat->Prop}{V:Vs}{C:Cs}{G:Gh}{t:TV}{x:Value}(h:TmR w F V C G t x):∀{l:List TV},l.all vB=true->TmR w F V C G (xN t l) (rQ x (l.map unV)):=by
 intro l hl
 have ZK:∀j (hj:j<l.length),TmR w F V C G l[j] (unV l[j]):=by
  intro j hj;have:=List.all_eq_true.1 hl l[j] (List.getElem_mem hj)
  cases hc:l[j]with
  |v y=>rw[hc]at this;exact .v this
  |_=>rw[hc]at this;simp[vB]at this
 cases l with
 |nil=>exact h
 |cons y l=>
  refine .tup (by simp) λj hj=>?_
  cases j with
  |zero=>exact h
  |succ j=>
   have ZT:j<(y::l).length:=by simp_all
   have e:(x::unV y::l.map unV).toArray.getD (j+1) undef=unV (y::l)[j]:=by
    have e0:((y::l).map unV)[j]?=some (unV (y::l)[j]):=by rw[List.getElem?_map,oGE ZT];rfl
    simp_all
   simp_all
def dE:List RSh->List Value->List Value
 | [],_=>[]
 |.one::r,ys=>ys.headD undef::dE r ys.tail
 |.agg n::r,ys=>.agg (ys.take n).toArray::dE r (ys.drop n)
 |.ptr::r,ys=>undef::dE r ys
def g8(sh:List RSh)(ys:List Value):Value:=
 match dE sh ys with
 | [x]=>x
 |l=>.tuple l.toArray
section
variable {P:Program} {M:Fm} {σ σ':St} {H:List TV} {xs:List Value} {ts:Array Value} {w:World} {G:Gh}
theorem uk(np:Nat)(t:TV):∃mv,takeR1 np t=take1 mv t:=by
 cases t<;>first|exact⟨true,rfl⟩|exact⟨_,rfl⟩
theorem Aw{np:Nat}:∀{l l':List TV}{ys:List Value}{σ σ':St}{H:List TV}{xs:List Value}{G:Gh},Inv M σ H xs ts w G->l.length=ys.length->(∀j (h:j<l.length),TmR w (G.F M.A) σ.v (bM M σ H) G l[j] (ys.getD j undef))->
 (takeRL np l).run σ=some (l',σ')->l'.length=l.length/\(∃G',gC M w ts σ H G σ' (H++l') (xs++ys) G')/\∀j (h:j<l'.length),bW l'[j]=true\/gS l'[j]=true:=by
 intro l
 induction l with
 |nil=>
  intro l' ys σ σ' H xs G hI hl _ hr;obtain⟨rfl,rfl⟩:=hr;have:=oEN (by simpa using hl.symm);subst this;exact⟨rfl,⟨G,by simpa using gC.refl hI⟩,λj h=>by simp at h⟩
 |cons t l ih=>
  intro l' ys σ σ' H xs G hI hl ht hr
  cases ys with
  |nil=>simp at hl
  |cons y ys=>
   obtain⟨t',σ1,h1,h2⟩:=bn hr;obtain⟨r',σ2,h3,h4⟩:=bn h2;obtain⟨rfl,rfl⟩:=h4;obtain⟨mv,Ul⟩:=uk np t;rw[Ul]at h1;obtain⟨G1,Z1,ho⟩:=dX hI (ht 0 (by simp)) h1;obtain⟨e,⟨G2,ZJ⟩,hok⟩:=ih (l':=r') Z1.1 (by simpa using hl) (λj hj=>Z1.tm (by have:=ht (j+1) (by simpa using hj);simpa using this)) h3;refine⟨by simp[e],⟨G2,by simpa using Z1.trans ZJ⟩,λj hj=>?_⟩
   cases j with
   |zero=>exact fQ h1
   |succ j=>exact hok j (by simpa using hj)
theorem pB{np:Nat}{t:TV}{x:Value}{r:List TV×RSh}(hI:Inv M σ H xs ts w G)(hx:TmR w (G.F M.A) σ.v (bM M σ H) G t x)(hr:(takeRV np t).run σ=some (r,σ')):
 ∃ys G',gC M w ts σ H G σ' (H++r.1) (xs++ys) G'/\r.1.length=ys.length/\(∀j (h:j<r.1.length),bW r.1[j]=true\/gS r.1[j]=true)/\∀(rest:List RSh)(zs:List Value),dE (r.2::rest) (ys++zs)=x::dE rest zs:=by
 by_cases ht:∃q,t=.agg q
 ·obtain⟨q,rfl⟩:=ht;obtain⟨l',σ1,h1,h2⟩:=bn hr;obtain⟨rfl,rfl⟩:=h2;obtain⟨vs,rfl,hl,hj⟩:=Ai hx;obtain⟨e1,⟨G',hg⟩,hok⟩:=Aw (ys:=vs.toList) hI (by simp[hl]) (λj h=>by simp_all) h1;refine⟨vs.toList,G',hg,by simp[e1,hl],hok,λrest zs=>?_⟩
  have hn:l'.length=vs.toList.length:=by simp_all
  simp only[dE,hn,List.take_left,List.drop_left,Array.toArray_toList]
 ·have e:takeRV np t=(takeR1 np t).bind λt'=>.ret ([t'],.one):=by
   cases t<;>first|rfl|exact absurd ⟨_,rfl⟩ ht
  rw[e]at hr;obtain⟨t',σ1,h1,h2⟩:=bn hr;obtain⟨rfl,rfl⟩:=h2;obtain⟨mv,Ul⟩:=uk np t;rw[Ul]at h1;obtain⟨G',hg,ho⟩:=dX hI hx h1;refine⟨[x],G',hg,rfl,λj hj=>?_,λrest zs=>rfl⟩
  obtain rfl:j=0:=by simp_all
  exact fQ h1
def xq(P:Program):TRs->ResultVar->Prop
 |.tmp t,r=>r=.tmp t
 |.cell t n,r=>∃ty,r=.cell t ty/\yK P ty n
theorem Gl{np:Nat}{q:TRs}{q':ResultVar}{r:List TV×RSh}(hI:Inv M σ H xs ts w G)(hq:xq P q q')(hr:(res1 np q).run σ=some (r,σ')):
 ∃x ys G',(match q' with|.tmp t=>(pure (ts.getD t undef):Sem Value)|.cell a t=>do loadVar t (<- asAddr (ts.getD a undef))).run P w=.ok x w/\gC M w ts σ H G σ' (H++r.1) (xs++ys) G'/\r.1.length=ys.length /\
  (∀j (h:j<r.1.length),bW r.1[j]=true\/gS r.1[j]=true)/\∀(rest:List RSh)(zs:List Value),dE (r.2::rest) (ys++zs)=x::dE rest zs:=by
 cases q with
 |tmp t=>
  have hq:q'=.tmp t:=hq;subst hq;obtain⟨ys,G',h1,h2,h3,h4⟩:=pB hI (hI.tmr t) hr;exact⟨_,ys,G',rfl,h1,h2,h3,h4⟩
 |cell t n=>
  obtain⟨ty,rfl,hn⟩:=hq;simp only[res1,SP.run]at hr;have Zt:=hI.tmr t
  cases hs:σ.t t with
  |ptr p vs=>
   rw[hs]at hr Zt;simp only at hr;obtain⟨_,σ2,h3,h4⟩:=bn hr;have e1:σ2=σ:=(bE h3).1;have e2:=(bE h3).2;subst e1;generalize hz:ts.getD t undef=z at Zt
   cases Zt with
   |ptr V0 h0 hv h=>
    obtain⟨Z7,ad,t0,ha,rfl,_⟩:=h e2
    cases n with
    |none=>
     obtain⟨dd,hu,Yf,hd2⟩:=hn;simp only at h4;obtain⟨t1,σ3,h5,h6⟩:=bn h4;obtain⟨e3,hg⟩:=cH h5;have e3:σ3=σ2:=e3;subst e3;obtain⟨t',σ4,h7,h8⟩:=bn h6;obtain⟨hB,u,fp,YV,hown,ZG⟩:=hI.named Z7 ha hg (kR h7);obtain⟨rfl,YT⟩:=mA hI Z7 hg hown ZG h7;obtain⟨ys,G',k1,k2,k3,k4⟩:=pB hI YT h8;refine⟨u,ys,G',?_,k1,k2,k3,k4⟩;show((do loadVar ty (<- asAddr (ts.getD t undef))):Sem Value).run P w=_;rw[hz];simp[asAddr,loadVar,iX hu Yf hd2,YV]
    |some n=>
     obtain⟨⟨dd,hu,Yf⟩,hsz⟩:=hn;simp only at h4;obtain⟨l,σ3,h5,h6⟩:=bn h4;obtain⟨rfl,e3,us,e4,e5⟩:=xU hI Z7 ha h5
     have P0:TmR w (G.F M.A) σ3.v (bM M σ3 H) G (.agg l) (.agg us.toArray):=.agg (by simp[e3,e4]) λj hj=>by have:=(e5 j hj (by omega)).2;simpa[show j<us.length by omega]using this
     obtain⟨ys,G',k1,k2,k3,k4⟩:=pB hI P0 h6;refine⟨_,ys,G',?_,k1,k2,k3,k4⟩;have Zn:=gr ha
     have ZW:=run_loadCells_list (P:=P) w ad us λj v hj=>by
      obtain⟨hlt,rfl⟩:=oGS hj;have:=(e5 j (by omega) hlt).1;obtain⟨b,o,s⟩:=ad;simp only at Zn;subst Zn;rw[cQ];exact this
     have Y3:(sizeOf ty).run P w=.ok n w:=by
      unfold sizeOf typeInfo
      cases hi:P.info? ty with
      |none=>simp[hi]at hsz
      |some i=>simp[hi]at hsz;simp[hi,hsz]
     rw[e4]at ZW;show((do loadVar ty (<- asAddr (ts.getD t undef))):Sem Value).run P w=_;rw[hz];simp[asAddr,loadVar,gZ hu Yf,Y3,ZW]
  |_=>rw[hs]at hr;simp[SP.run]at hr
theorem Gk{np:Nat}:∀{qs:List TRs}{qs':List ResultVar}{r:List TV×List RSh}{σ σ':St}{H:List TV}{xs:List Value}{G:Gh},Inv M σ H xs ts w G->qs.length=qs'.length->(∀k (h:k<qs.length)(h':k<qs'.length),xq P qs[k] qs'[k])->(resL np qs).run σ=some (r,σ')->
 ∃vs ys G',(qs'.mapM λ(q:ResultVar)=>(match q with|.tmp t=>(pure (ts.getD t undef):Sem Value)|.cell a t=>do loadVar t (<- asAddr (ts.getD a undef)))).run P w=.ok vs w/\gC M w ts σ H G σ' (H++r.1) (xs++ys) G'/\r.1.length=ys.length /\
  (∀j (h:j<r.1.length),bW r.1[j]=true\/gS r.1[j]=true)/\dE r.2 ys=vs:=by
 intro qs
 induction qs with
 |nil=>
  intro qs' r σ σ' H xs G hI hl _ hr;have:qs'=[]:=oEN (by simpa using hl.symm);subst this;obtain⟨rfl,rfl⟩:=hr;exact⟨[],[],G,by simp,by simpa using gC.refl hI,rfl,λj h=>by simp at h,rfl⟩
 |cons q qs ih=>
  intro qs' r σ σ' H xs G hI hl hok hr
  cases qs' with
  |nil=>simp at hl
  |cons q' qs'=>
   obtain⟨x,σ1,h1,h2⟩:=bn hr;obtain⟨y,σ2,h3,h4⟩:=bn h2;obtain⟨rfl,rfl⟩:=h4;obtain⟨v,ys,G1,k1,k2,k3,k4,k5⟩:=Gl hI (hok 0 (by simp) (by simp)) h1;obtain⟨vs,zs,G2,l1,l2,l3,l4,l5⟩:=ih (qs':=qs') k2.1 (by simpa using hl) (λk h h'=>hok (k+1) (by simpa using h) (by simpa using h')) h3;refine⟨v::vs,ys++zs,G2,?_,by simpa using k2.trans l2,by simp[k3,l3],λj hj=>?_,?_⟩
   ·rw[List.mapM_cons,Sem.run_bind];refine(congrArg (λr=>Result.andThen r _) k1).trans ?_;simp only[Result.andThen_ok,Sem.run_bind,l1,Sem.run_pure]
   ·by_cases hjl:j<x.1.length
    ·rw[List.getElem_append_left hjl];exact k4 j hjl
    ·rw[List.getElem_append_right (by omega)];exact l4 _ _
   ·rw[k5,l5]
theorem Cw:∀{qs:List TRs}{qs':List ResultVar}{l:List TV}{σ σ':St}{G:Gh},Inv M σ [] [] ts w G->qs.length=qs'.length->(∀k (h:k<qs.length)(h':k<qs'.length),xq P qs[k] qs'[k])->(flatsR qs).run σ=some (l,σ')->
 σ'=σ/\l.all vB=true/\(qs'.mapM λ(q:ResultVar)=>(match q with|.tmp t=>(pure (ts.getD t undef):Sem Value)|.cell a t=>do loadVar t (<- asAddr (ts.getD a undef)))).run P w=.ok (l.map unV) w:=by
 intro qs
 induction qs with
 |nil=>
  intro qs' l σ σ' G hI hl _ hr;have:qs'=[]:=oEN (by simpa using hl.symm);subst this;obtain⟨rfl,rfl⟩:=hr;exact⟨rfl,rfl,by simp⟩
 |cons q qs ih=>
  intro qs' l σ σ' G hI hl hok hr
  cases qs' with
  |nil=>simp at hl
  |cons q' qs'=>
   cases q with
   |cell t n=>simp[flatsR,SP.run]at hr
   |tmp t=>
    have hq:q'=.tmp t:=hok 0 (by simp) (by simp);subst hq;simp only[flatsR,SP.run]at hr;split at hr
    case isFalse=>simp[SP.run]at hr
    rename_i hf;obtain⟨r,σ1,h1,h2⟩:=bn hr;simp only[SP.run,oSJ,oPJ]at h2;obtain⟨rfl,rfl⟩:=h2;obtain⟨rfl,k2,k3⟩:=ih (qs':=qs') hI (by simpa using hl) (λk h h'=>hok (k+1) (by simpa using h) (by simpa using h')) h1;refine⟨rfl,by rw[List.all_cons,hf,k2];rfl,?_⟩;have hv:=hI.tmr t
    have e:ts.getD t undef=unV (σ1.t t):=by
     cases hc:σ1.t t with
     |v x=>
      rw[hc]at hv
      cases hv with
      |v _=>rfl
     |_=>rw[hc]at hf;simp[vB]at hf
    rw[List.mapM_cons,Sem.run_bind];simp only[Result.andThen_ok,Sem.run_bind,k3,Sem.run_pure];rw[e];rfl
end
section
variable {P:Program} {M:Fm} {σ σ':St} {H:List TV} {xs:List Value} {ts:Array Value} {w:World} {G:Gh}
theorem Inv.trunc(hI:Inv M σ H xs ts w G){k:Nat}(hd:∀j (h:j<H.length),k<=j->H[j]=.dead):Inv M σ (H.take k) (xs.take k) ts w G/\bM M σ (H.take k)=bM M σ H:=by
 have e:bM M σ (H.take k)=bM M σ H:=by
  funext r o;unfold bM;split
  ·simp
   grind
  ·rfl
 refine⟨⟨by rw[e];exact hI.core,λi=>by rw[e];exact hI.tmr i,hI.fram,hI.keys,hI.size,by simp[hI.hand],λj hj=>?_,hI.shape⟩,e⟩
 have h2:j<k/\j<xs.length:=by simp at hj;omega
 rw[hI.hval j h2.2]
 simp_all
theorem nH(b:Nat)(vs:List Value):∀(o:Nat)(w:World){k:Nat},k≠b->(w.setCells b o vs).heap[k]?=w.heap[k]?:=by
 induction vs with
 |nil=>intro o w k h;rfl
 |cons v r ih=>
  intro o w k h;simp[World.setCells];rw[ih _ _ h];exact bN w _ v h
theorem qL(b:Nat)(vs:List Value):∀(o:Nat)(w:World){cur:Array Value}{e:TypeId}{fz:Nat×Nat},w.heap[b]?=some (.cells cur e fz)->
 ∃Yx,(w.setCells b o vs).heap[b]?=some (.cells Yx e fz)/\Yx.size=cur.size/\∀j,Yx[j]?=if o<=j/\j<o+vs.length/\j<cur.size then vs[j-o]? else cur[j]?:=by
 induction vs with
 |nil=>intro o w cur e fz h;exact⟨cur,h,rfl,λj=>by rw[oIN (by simp;omega)]⟩
 |cons v r ih=>
  intro o w cur e fz h;obtain⟨Yx,h1,h2,h3⟩:=ih (o+1) _ (fD w b o v h);refine⟨Yx,h1,by rw[h2];simp,λj=>?_⟩;rw[h3];simp;by_cases hj:j=o
  ·subst hj;rw[oIN (by omega)];by_cases hs:j<cur.size
   ·rw[oIP (by omega)];simp[hs]
   ·rw[oIN (by omega)];simp[hs]
  ·by_cases hc:o+1<=j/\j<o+1+r.length/\j<cur.size
   ·rw[oIP hc,oIP (by omega)];rw[show j-o=(j-(o+1))+1 by omega];simp
   ·rw[oIN hc,oIN (by omega)];rw[Array.getElem?_setIfInBounds,oIN (Ne.symm hj)]
theorem mr(b:Nat)(vs:List Value):∀(o:Nat)(w:World),w.setCells b o vs={ w with heap:=(w.setCells b o vs).heap }:=by
 induction vs with
 |nil=>intro o w;rfl
 |cons v r ih=>
  intro o w;simp[World.setCells]
  have h:w.setCell ⟨b,o,none⟩ v={ w with heap:=(w.setCell ⟨b,o,none⟩ v).heap }:=by
   unfold World.setCell
   simp_all
  rw[ih];rw[h]
def dU(w W:World)(b:Nat):World:=match w.heap[b]? with|some x=>{ W with heap:=W.heap.setIfInBounds b x } |none=>W
theorem kO{w W:World}{b k:Nat}(h:k≠b):(dU w W b).heap[k]?=W.heap[k]?:=by
 unfold dU;split
 ·simp[Ne.symm h]
 ·rfl
theorem nL{w W:World}{b:Nat}(h:b<W.heap.size)(h2:b<w.heap.size):(dU w W b).heap[b]?=w.heap[b]?:=by
 unfold dU
 simp_all
theorem iA{w W:World}{b:Nat}:(dU w W b).heap.size=W.heap.size:=by
 unfold dU
 grind
theorem od{w W:World}{b:Nat}:(dU w W b).os=W.os/\(dU w W b).tape=W.tape/\(dU w W b).output=W.output/\(dU w W b).drawn=W.drawn:=by
 unfold dU
 grind
theorem oG{w W:World}{b o:Nat}{vs:List Value}{cur0 cur:Array Value}{e:TypeId}{fz:Nat×Nat}(h0:w.heap[b]?=some (.cells cur0 e fz))(h1:W.heap[b]?=some (.cells cur e fz))(hs:cur.size=cur0.size)
 (QL:∀j,(j<o\/o+vs.length<=j)->cur[j]?=cur0[j]?)(hin:∀j (h:j<vs.length),cur[o+j]?=some vs[j]):(dU w W b).setCells b o vs=W:=by
 have MM:=(Array.getElem?_eq_some_iff.1 h1).1;have Ub:=(Array.getElem?_eq_some_iff.1 h0).1;rw[mr];obtain⟨r1,r2,r3,r4⟩:=od (w:=w) (W:=W) (b:=b)
 have Yo:((dU w W b).setCells b o vs).heap=W.heap:=by
  apply Array.ext_getElem?;intro k;by_cases hk:k=b
  ·subst hk;obtain⟨Yx,e1,e2,e3⟩:=qL k vs o (dU w W k) ((nL MM Ub).trans h0);rw[e1,h1];congr 2;apply Array.ext_getElem?;intro j;rw[e3];split
   ·rename_i hj;have:=hin (j-o) (by omega)
    simp_all
   ·rename_i hj;by_cases hjs:j<cur0.size
    ·exact(QL j (by omega)).symm
    ·simp_all
  ·rw[nH b vs o _ hk,kO hk]
 simp_all
end
structure Am (H:List TV)(xs:List Value)(w:World)(G:Gh)(A:Nat->Prop)(pr:Nat->Option (Nat×Nat×Nat))(bs:Nat->Nat)(ce:List (Nat×List TV))(ow:Nat->Option Nat):Prop where
 even:∀r b o n,pr r=some (b,o,n)->r%2=0/\0<n
 cells:∀r b o n,pr r=some (b,o,n)->∃l,bO ce r=some l/\l.length=n/\∀j (h:j<l.length),∃h':bs r+j<H.length,l[j]=H[bs r+j]/\l[j]≠.dead
 only:∀r l,bO ce r=some l->pr r≠none\/ow r≠none
 owc:∀r j,ow r=some j->r%2=1/\r≠1/\∃(c:List (List TV))(h:j<H.length),bO ce r=some [.ow c]/\H[j]=.ow c
 owa:∀r j r' b o n,ow r=some j->pr r'=some (b,o,n)->∀j',j'<n->bs r'+j'≠j
 owi:∀r r' j,ow r=some j->ow r'=some j->r=r'
 apart:∀r b o n r' b' o' n',pr r=some (b,o,n)->pr r'=some (b',o',n')->∀j j',j<n->j'<n'->bs r+j=bs r'+j'->r=r'
 inj:∀r b o n r' o' n',pr r=some (b,o,n)->pr r'=some (b,o',n')->r=r'
 notF:∀r b o n,pr r=some (b,o,n)->¬G.F A b
 notH:∀r b o n,pr r=some (b,o,n)->∀j,¬G.φ 1 j b
 here:∀r b o n,pr r=some (b,o,n)->∀j,j<n->w.cell? ⟨b,o+j,none⟩=some (xs.getD (bs r+j) undef)/\w.frozen? ⟨b,o+j,none⟩=false
def Fm.into(M:Fm)(w:World)(G:Gh)(pr:Nat->Option (Nat×Nat×Nat))(N:Nat):Fm where
 w0:=w
 A:=λk=>G.F M.A k\/(∃j,G.φ 1 j k)\/w.heap.size<=k
 W0:=λk=>∃j,G.φ 1 j k
 pr:=pr
 N:=N
 hA:=λk h=>.inr (.inr h)
def Gh.into(G:Gh)(pr:Nat->Option (Nat×Nat×Nat))(bs:Nat->Nat)(ow:Nat->Option Nat)(xs:List Value):Gh:=
 ⟨pr,λr _=>match ow r with|some j=>xs.getD j undef|none=>undef,λr o k=>(∃b o0 n,pr r=some (b,o0,n)/\o<n/\G.φ 1 (bs r+o) k)\/∃j,ow r=some j/\o=0/\G.φ 1 j k⟩
theorem fr{G:Gh}{pr:Nat->Option (Nat×Nat×Nat)}{bs:Nat->Nat}{ow:Nat->Option Nat}{xs:List Value}{r o k:Nat}(h:(G.into pr bs ow xs).φ r o k):∃j,G.φ 1 j k:=by
 rcases h with⟨_,_,_,_,_,h⟩|⟨_,_,_,h⟩<;>exact⟨_,h⟩
section
variable {P:Program} {M:Fm} {σ σ':St} {H:List TV} {xs:List Value} {ts:Array Value} {w:World} {G:Gh}
variable {pr:Nat->Option (Nat×Nat×Nat)} {bs:Nat->Nat} {ce:List (Nat×List TV)} {ow:Nat->Option Nat}
theorem Am.F(hh:Am H xs w G M.A pr bs ce ow){N k:Nat}(h:G.F M.A k):(G.into pr bs ow xs).F (M.into w G pr N).A k:=
 ⟨.inl h,λr o hφ=>by have ⟨j,h3⟩:=fr hφ;exact h.2.1 _ _ h3,λr b o n hb e=>hh.notF r b o n hb (e▸h)⟩
theorem kY{w:World}{b o:Nat}{v:Value}(h:w.cell? ⟨b,o,none⟩=some v):∃cur e fz,w.heap[b]?=some (.cells cur e fz)/\o<cur.size/\cur[o]?=some v:=by
 unfold World.cell? at h;split at h
 ·rename_i cur e fz hb
  grind
 ·simp at h
theorem Inv.enter(hI:Inv M σ H xs ts w G)(hh:Am H xs w G M.A pr bs ce ow){tm:List (Nat×TV)}{XJ:Array Value}{N:Nat}(hN:XJ.size=N)
 (ht:∀i,TmR w ((G.into pr bs ow xs).F (M.into w G pr N).A) (λ_=>0) (bM (M.into w G pr N) ⟨tm,ce,[]⟩ []) (G.into pr bs ow xs) ((bO tm i).getD .dead) (XJ.getD i undef)):
 Inv (M.into w G pr N) ⟨tm,ce,[]⟩ [] [] XJ w (G.into pr bs ow xs):=by
 have X7:∀r b o n,pr r=some (b,o,n)->r≠1:=λr b o n h e=>by have:=(hh.even r b o n h).1;omega
 have YJ:∀r b o n,pr r=some (b,o,n)->ow r=none:=λr b o n h=>by
  cases e:ow r with
  |none=>rfl
  |some j=>have:=(hh.even r b o n h).1;have:=(hh.owc r j e).1;omega
 have hne:∀r l,bO ce r=some l->r≠1:=by
  intro r l h;rcases hh.only r l h with h1|h1
  ·cases hp:pr r with
   |none=>exact absurd hp h1
   |some x=>exact X7 r _ _ _ hp
  ·cases hp:ow r with
   |none=>exact absurd hp h1
   |some j=>exact(hh.owc r j hp).2.1
 have hcell:∀r o,bM (M.into w G pr N) ⟨tm,ce,[]⟩ [] r o=match bO ce r with|some l=>l.getD o .dead|none=>.dead:=by
  intro r o;unfold bM;split
  ·rename_i e
   cases hc:bO ce r with
   |none=>simp
   |some l=>exact absurd e (hne r l hc)
  ·rfl
 refine⟨⟨λr o=>?_,λr b o0 n hb=>?_,λr b o0 n hb o ho=>?_,λr r' b o n o' n' h1 h2=>hh.inj r b o n r' o' n' h1 h2,λr b o n hb r' o' hφ=>by obtain⟨j,h3⟩:=fr hφ;exact hh.notH r b o n hb _ h3,λr1 o1 r2 o2 k ZA hk2=>?_,λr o k hφ=>.inr (.inl (fr hφ))⟩,ht,?_,λr l h=>hne r l h,hN,rfl,λj hj=>by simp at hj,λr b o n hb l hl=>?_⟩
 ·rw[hcell]
  cases hc:bO ce r with
  |none=>
   left;refine⟨rfl,λk hk=>?_⟩
   rcases hk with⟨b1,p1,n1,h1,h2,h3⟩|⟨j,h1,_⟩
   ·obtain⟨l,h4,_⟩:=hh.cells r _ _ _ h1;rw[hc]at h4;simp at h4
   ·obtain⟨_,_,c,_,h4,_⟩:=hh.owc r j h1;rw[hc]at h4;simp at h4
  |some l=>
   cases hp:pr r with
   |none=>
    obtain⟨j,hj⟩:∃j,ow r=some j:=by
     rcases hh.only r l hc with h1|h1
     ·exact absurd hp h1
     ·cases e:ow r with
      |none=>exact absurd e h1
      |some j=>exact⟨j,rfl⟩
    obtain⟨_,_,c,hjl,h4,h5⟩:=hh.owc r j hj;rw[hc]at h4
    injection h4 with h4
    subst h4
    cases o with
    |zero=>
     right;have hown:=hI.hand_own hjl (by rw[h5];simp)
     have hval:(G.into pr bs ow xs).val w r 0=xs.getD j undef:=by
      unfold Gh.val Gh.into;simp only[hp,hj]
     rw[hval];simp only[List.getD_cons_zero];rw[h5]at hown;refine(hown.frame (λ_ _=>rfl) (λ_ _ _=>rfl) λk hk _=>hh.F hk).refp λk=>?_;constructor
     ·intro hk;exact .inr ⟨j,hj,rfl,hk⟩
     ·rintro(⟨b1,p1,n1,h1,_,_⟩|⟨j',h1,_,hk⟩)
      ·rw[hp]at h1;simp at h1
      ·rw[hj]at h1;injection h1 with h1;rw[h1];exact hk
    |succ o=>
     left;refine⟨by simp,λk hk=>?_⟩
     rcases hk with⟨b1,p1,n1,h1,_,_⟩|⟨j',_,h1,_⟩
     ·rw[hp]at h1;simp at h1
     ·omega
   |some x=>
    obtain⟨b,o0,n⟩:=x;obtain⟨l',h4,h5,h6⟩:=hh.cells r _ _ _ hp;rw[hc]at h4
    injection h4 with h4
    subst h4;by_cases ho:o<l.length
    ·right;obtain⟨h7,h8,h9⟩:=h6 o ho;have hown:=hI.hand_own h7 (by rw[<- h8];exact h9)
     have hval:(G.into pr bs ow xs).val w r o=xs.getD (bs r+o) undef:=by
      unfold Gh.val Gh.into;simp only[hp];rw[(hh.here r _ _ _ hp o (by omega)).1];rfl
     rw[hval]
     have e:l.getD o .dead=l[o]:=by simp[ho]
     simp only[e];rw[h8];refine(hown.frame (λ_ _=>rfl) (λ_ _ _=>rfl) λk hk _=>hh.F hk).refp λk=>?_;constructor
     ·intro hk;exact .inl ⟨b,o0,n,hp,by omega,hk⟩
     ·rintro(⟨_,_,_,_,_,hk⟩|⟨j',h1,_,_⟩)
      ·exact hk
      ·rw[YJ r _ _ _ hp]at h1;simp at h1
    ·left;refine⟨by simp only[];rw[oGD,oGN (by omega)];rfl,λk hk=>?_⟩
     rcases hk with⟨b1,p1,n1,h1,h2,h3⟩|⟨j',h1,_,_⟩
     ·rw[hp]at h1
      injection h1 with h1
      injection h1 with _ h1
      injection h1 with _ h1
      omega
     ·rw[YJ r _ _ _ hp]at h1;simp at h1
 ·have hn:=(hh.even r _ _ _ hb).2;have YG:pr r=some (b,o0,n):=hb;obtain⟨cur,e,fz,h1,h2,h3⟩:=kY (hh.here r _ _ _ YG (n-1) (by omega)).1;exact⟨cur,e,fz,h1,by omega,λj hj=>(hh.here r _ _ _ YG j hj).2⟩
 ·have YG:pr r=some (b,o0,n):=hb;rw[hcell];obtain⟨l,h1,h2,_⟩:=hh.cells r _ _ _ YG;rw[h1];show l.getD o .dead=.dead;rw[oGD,oGN (by omega)];rfl
 ·rcases ZA with⟨b1,p1,n1,h1,h2,h3⟩|⟨j1,h1,h2,h3⟩<;>rcases hk2 with⟨b2,p2,n2,k1,k2,k3⟩|⟨j2,k1,k2,k3⟩
  ·obtain⟨_,h5⟩:=hI.core.dis _ _ _ _ k h3 k3;have:=hh.apart _ _ _ _ _ _ _ _ h1 k1 _ _ h2 k2 h5;subst this;exact⟨rfl,by omega⟩
  ·obtain⟨_,h5⟩:=hI.core.dis _ _ _ _ k h3 k3;exact absurd h5 (hh.owa _ _ _ _ _ _ k1 h1 _ h2)
  ·obtain⟨_,h5⟩:=hI.core.dis _ _ _ _ k h3 k3;exact absurd h5.symm (hh.owa _ _ _ _ _ _ h1 k1 _ k2)
  ·obtain⟨_,h5⟩:=hI.core.dis _ _ _ _ k h3 k3;subst h5;exact⟨hh.owi _ _ _ h1 k1,by omega⟩
 ·refine⟨rfl,rfl,rfl,Nat.le_refl _,λ_ _ _ _=>rfl,λr b o n hp=>⟨hp,?_⟩,λr o k hφ=>.inl (fr hφ),λr b o n hb=>.inl hb,λr hb=>?_⟩
  ·have hn:=(hh.even r _ _ _ hp).2;obtain⟨cur,e,fz,h1,h2,h3⟩:=kY (hh.here r _ _ _ hp (n-1) (by omega)).1;exact⟨cur,cur,e,fz,h1,h1,rfl,λ_ _=>rfl⟩
  ·cases hp:pr r with
   |none=>exact absurd hp hb
   |some x=>exact(hh.even r _ _ _ hp).1
 ·obtain⟨l',h1,h2,_⟩:=hh.cells r _ _ _ hb;have Yq:bO ce r=some l:=hl;rw[Yq]at h1
  injection h1 with h1
  rw[h1];exact h2
end
structure Ft (H2:List TV)(ys:List Value)(H':List TV)(xs':List Value)(C2:Cs)(G2:Gh)(w2:World)(pr:Nat->Option (Nat×Nat×Nat))(bs:Nat->Nat):Prop where
 len:H'.length=xs'.length
 low:∀j (h:j<H2.length),∃h':j<H'.length,H'[j]=H2[j]/\xs'.getD j undef=ys.getD j undef
 cells:∀r b o n,pr r=some (b,o,n)->∀t,t<n->∃h:bs r+t<H'.length,H2.length<=bs r+t/\H'[bs r+t]=C2 r t/\xs'.getD (bs r+t) undef=G2.val w2 r t
 cover:∀j,j<H'.length->j<H2.length\/∃r b o n t,pr r=some (b,o,n)/\t<n/\j=bs r+t
 apart:∀r b o n r' b' o' n',pr r=some (b,o,n)->pr r'=some (b',o',n')->∀j j',j<n->j'<n'->bs r+j=bs r'+j'->r=r'
section
variable {P:Program} {M:Fm} {σ σ2:St} {H H2 H':List TV} {xs ys xs':List Value} {ts ts2:Array Value} {w w2 w':World} {G G2:Gh}
variable {pr:Nat->Option (Nat×Nat×Nat)} {bs bs2:Nat->Nat} {ce:List (Nat×List TV)} {N:Nat} {ow:Nat->Option Nat}
theorem Inv.leave(hI:Inv M σ H xs ts w G)(hh:Am H xs w G M.A pr bs ce ow)(h2:Inv (M.into w G pr N) σ2 H2 ys ts2 w2 G2)(Z':Ft H2 ys H' xs' (bM (M.into w G pr N) σ2 H2) G2 w2 pr bs2)
 (hs:w'.heap.size=w2.heap.size)(ho:w'.os=w2.os)(NE:w'.tape=w2.tape)(hu:w'.output=w2.output)(YO:∀k,(∀r b o n,pr r=some (b,o,n)->k≠b)->w'.heap[k]?=w2.heap[k]?)
 (Yn:∀r b o n,pr r=some (b,o,n)->w'.heap[b]?=w.heap[b]?):∃G',Inv M σ H' xs' ts w' G'/\fJ M w σ H G w' σ H' G'/\G'.β=G.β:=by
 have W8:=h2.fram
 let f:Nat->Nat->Prop:=λj k=>(j<H2.length/\G2.φ 1 j k)\/∃r b o n t,pr r=some (b,o,n)/\t<n/\j=bs2 r+t/\G2.φ r t k
 have hfφ:∀j k,f j k->∃r o,G2.φ r o k:=by
  rintro j k (⟨_,h⟩|⟨r,b,o,n,t,_,_,_,h⟩)
  ·exact⟨_,_,h⟩
  ·exact⟨_,_,h⟩
 have hβ2:=λr b o n h=>(W8.par r b o n h).1
 have Z7:∀r b o n,pr r=some (b,o,n)->r≠1:=λr b o n h e=>by have:=(hh.even r b o n h).1;omega
 have hφw:∀r o k,G2.φ r o k->w'.heap[k]?=w2.heap[k]?:=λr o k h=>YO k λr' b o' n hp e=>h2.core.boxf r' b o' n (hβ2 _ _ _ _ hp) _ _ (e▸h);have X5:∀k,G2.F (M.into w G pr N).A k->w'.heap[k]?=w2.heap[k]?:=λk h=>YO k λr' b o' n hp e=>h.2.2 r' b o' n (hβ2 _ _ _ _ hp) e
 obtain⟨G',a1,a2,a3,_⟩:=hI.rehandL (w':=w') (H':=H') (xs':=xs') (f:=f) (Fx:=G2.F (M.into w G pr N).A)
  (λk hk hn=>by
   by_cases hp:∃r b o n,pr r=some (b,o,n)/\k=b
   ·obtain⟨r,b,o,n,hp,rfl⟩:=hp;exact Yn r k o n hp
   ·have hp':∀r b o n,pr r=some (b,o,n)->k≠b:=λr b o n h e=>hp ⟨r,b,o,n,h,e⟩;rw[YO k hp']
    exact W8.old k hk (λ⟨j,hj⟩=>hn j hj) hp')
  (by rw[hs];exact W8.size) (ho.trans W8.os) (NE.trans W8.tape) (hu.trans W8.output) Z'.len
  (λj k h=>by
   refine⟨?_,?_⟩
   ·rcases h with⟨h,_⟩|⟨r,b,o,n,t,hp,ht,rfl,_⟩
    ·exact(Z'.low j h).1
    ·exact(Z'.cells r b o n hp t ht).1
   ·obtain⟨r,o,hφ⟩:=hfφ j k h
    exact W8.own r o k hφ)
  (λj j' k h h'=>by
   rcases h with⟨h1,h3⟩|⟨r,b,o,n,t,hp,ht,rfl,h3⟩
   ·rcases h' with⟨k1,k3⟩|⟨r',b',o',n',t',hp',YT,rfl,k3⟩
    ·exact(h2.core.dis _ _ _ _ k h3 k3).2
    ·exact absurd (h2.core.dis _ _ _ _ k h3 k3).1.symm (Z7 _ _ _ _ hp')
   ·rcases h' with⟨k1,k3⟩|⟨r',b',o',n',t',hp',YT,rfl,k3⟩
    ·exact absurd (h2.core.dis _ _ _ _ k h3 k3).1 (Z7 _ _ _ _ hp)
    ·obtain⟨e1,e2⟩:=h2.core.dis _ _ _ _ k h3 k3
     rw[e1,e2])
  (λk h=>⟨h.1,λj hf=>by obtain⟨r,o,hφ⟩:=hfφ j k hf;exact h.2.1 r o hφ⟩)
  (λj hj=>by
   rcases Z'.cover j hj with h|⟨r,b,o,n,t,hp,ht,rfl⟩
   ·obtain⟨_,e1,e2⟩:=Z'.low j h
    have YJ:∀k,f j k↔G2.φ 1 j k:=λk=>by
     constructor
     ·rintro(⟨_,h⟩|⟨r,b,o,n,t,hp,ht,e,_⟩)
      ·exact h
      ·have:=(Z'.cells r b o n hp t ht).2.1;omega
     ·exact λhk=>.inl ⟨h,hk⟩
    by_cases hd:H2[j]=.dead
    ·left;refine⟨e1.trans hd,λk hk=>?_⟩;refine h2.phi_dead (r:=1) (o:=j) ?_ k ((YJ k).1 hk);rw[show(1:Nat)=(M.into w G pr N).hr from rfl,gx];simp[h,hd]
    ·right;have:=h2.hand_own h hd;rw[e1,e2];exact(this.frame (λk hk=>hφw _ _ k hk) (λk hk _=>X5 k hk) λk hk _=>hk).refp λk=>(YJ k).symm
   ·obtain⟨h1,h3,h4,h5⟩:=Z'.cells r b o n hp t ht
    have YJ:∀k,f (bs2 r+t) k↔G2.φ r t k:=λk=>by
     constructor
     ·rintro(⟨h,_⟩|⟨r',b',o',n',t',hp',YT,e,hk⟩)
      ·omega
      ·have:=Z'.apart _ _ _ _ _ _ _ _ hp hp' _ _ ht YT e
       simp_all
     ·exact λhk=>.inr ⟨r,b,o,n,t,hp,ht,rfl,hk⟩
    rw[h4,h5]
    rcases h2.core.cell r t with⟨c1,c2⟩|c1
    ·left;exact⟨c1,λk hk=>c2 k ((YJ k).1 hk)⟩
    ·right
     exact(c1.frame (λk hk=>hφw _ _ k hk) (λk hk _=>X5 k hk) λk hk _=>hk).refp λk=>(YJ k).symm)
 exact⟨G',a1,a2,a3⟩
end
def lb:TV->Bool
 |.v _=>true
 |.sl _=>true
 |.ip _=>true
 |.ow []=>true
 |.fn _ l=>l.all uU
 |.agg l=>l.all λt=>match t with|.v _=>true|.sl _=>true|_=>false
 |_=>false
def IZ:TV->Bool
 |.pk _ _=>true
 |.ow []=>true
 |_=>false
def rY:TV->SP TV
 |.ow c=>(names 1000000 [.ow c]).bind λl=>.ret (l.headD .dead)
 |t=>.ret t
def argV(x:Option Nat×Opd):SP TV:=(opd x.2).bind λt=>if x.1==some 0&&IZ t then rY t else match t with
 |.ip cs=>.ret (.ip cs)
 |.fn f cap=>.ret (.fn f cap)
 |.ptr p vs=>.ret (.ptr p vs)
 |t=>(takeV false t).bind λl=>.ret (jH l.2 (l.1.map TV.imm))
def argVs:List (Option Nat×Opd)->SP (List TV)
 | []=>.ret []
 |x::r=>(argV x).bind λt=>(argVs r).bind λl=>.ret (t::l)
def takeOwns:Nat->List (Option Nat×TV)->SP (List (Nat×TV))
 |_,[]=>.ret []
 |i,(some 0,.pk p vs)::r=>(take1 true (.pk p vs)).bind λt=>if gS t then(takeOwns (i+1) r).bind λq=>.ret ((i,t)::q)else .fail
 |i,_::r=>takeOwns (i+1) r
structure GP where
 i:Nat
 p:bA
 vs:List Nat
 cells:List TV
def va(p:bA):Nat->SP (List TV)
 |0=>.ret []
 |n+1=>(getPl p).bind λt=>(peek1 p t).bind λt'=>(take1 true t').bind λt2=>match n with
  |0=>.ret [t2]
  |_=>if p.fits 1 then(va (p.add 1) n).bind λr=>.ret (t2::r)else .fail
def bA.base(p:bA):bA:=⟨p.root,p.off,[]⟩
def GY(p:bA)(n:Nat):Nat:=match p.hops with
 | []=>n
 |_::_=>1
def rooted(p:bA):SP Unit:=match p.hops with
 | []=>.ret ()
 |_::_=>.rdT ((p.root-2)/2) λt=>match t with
  |.ptr q ws=>if q.root==p.root&&q.hops.isEmpty then chk q 0 ws else .fail
  |_=>.fail
def grabs:Nat->List (Option Nat×TV)->SP (List GP)
 |_,[]=>.ret []
 |i,(some n,.ptr p vs)::r=>(chk p p.hops.length vs).bind λ_=>(rooted p).bind λ_=>(va p.base (GY p n)).bind λl=>(grabs (i+1) r).bind λq=>.ret (⟨i,p.base,vs.take 1,l⟩::q)
 |i,(some 0,.pk _ _)::r=>grabs (i+1) r
 |i,(_,t)::r=>if lb t then grabs (i+1) r else .fail
def touch(p:bA):SP Unit:=.rdC p.root p.off λtv=>.wrC p.root p.off tv (.ret ())
def rechk:List GP->SP Unit
 | []=>.ret ()
 |g::r=>(chk g.p g.p.hops.length g.vs).bind λ_=>(touch g.p).bind λ_=>rechk r
def iC:List Nat->Bool
 | []=>true
 |x::r=>!r.contains x&&iC r
def argT(i:Nat):TV->TV
 |.ptr p _=>.ptr ⟨2*i+2,0,p.hops⟩ (List.replicate (p.hops.length+1) 0)
 |.pk _ _=>.pk ⟨2*i+3,0,[]⟩ [0,0]
 |t=>t
def argTs:Nat->List TV->List TV
 |_,[]=>[]
 |i,t::r=>argT i t::argTs (i+1) r
def dt{α:Type}:Nat->List α->List (Nat×α)
 |_,[]=>[]
 |i,t::r=>(i,t)::dt (i+1) r
def mkSt(vals:List TV)(pts:Pts):St:=⟨dt 0 vals,pts,[]⟩
def yh:TV->Bool
 |.dead=>true
 |_=>false
def putBack:List (GP×List TV)->SP Unit
 | []=>.ret ()
 |(g,l)::r=>(putBack r).bind λ_=>if l.length=g.cells.length&&l.all λt=>!yh t then putL g.p l else .fail
def ff:List RSh->List TV->List TV
 | [],_=>[]
 |.one::r,l=>l.headD .dead::ff r l.tail
 |.agg n::r,l=>.agg (l.take n)::ff r (l.drop n)
 |.ptr::r,l=>.dead::ff r l
def mp(sh:List RSh)(l:List TV):TV:=
 match ff sh l with
 | [x]=>x
 |l=>.tup l
def jX:List RSh->Nat->Bool
 | [],n=>n==0
 |.one::r,n=>decide (0<n)&&jX r (n-1)
 |.agg m::r,n=>decide (m<=n)&&jX r (n-m)
 |.ptr::_,_=>false
def landR(dst:Option Nat)(res:pt):SP Unit:=
 match dst with
 |some d=>(names d res.cells).bind λl=>wr d (mp res.sh l)
 |none=>.ret ()
def isP(r:pt):Bool:=match r.sh,r.cells with
 |.ptr::_,.ptr _ _::_=>true
 |_,_=>false
def landP(dst:Option Nat)(q:List GP)(cells:List TV):SP Unit:=
 match dst with
 |none=>.ret ()
 |some d=>match cells,q with
  |.ptr pl _::l,[g]=>if pl.root==2*g.i+2&&g.p.hops.isEmpty then(rdVs (ki g.p.root (g.p.off+pl.off) pl.hops.length)).bind λvs=>wr d (xN (.ptr ⟨g.p.root,g.p.off+pl.off,pl.hops⟩ vs) l)else .fail
  |_,_=>.fail
def callV(F:cu)(dst:Option Nat)(f:FuncId)(ns:List (Option Nat))(vals:List TV):SP Unit:=
 (takeOwns 0 (ns.zip vals)).bind λow=>(grabs 0 (ns.zip vals)).bind λq=>(rechk q).bind λ_=>
  if iC (q.map (·.p.root))&&q.all (λg=>decide (0<g.cells.length))then
   (fK (F f (argTs 0 vals) (q.map (λg=>(2*g.i+2,g.cells))++ow.map λx=>(2*x.1+3,[x.2])))).bind λr=>
    if r.2.map (·.1)=q.map (λg=>2*g.i+2)++ow.map (λx=>2*x.1+3)&&(isP r.1||jX r.1.sh r.1.cells.length)then(putBack (q.zip (r.2.map (·.2)))).bind λ_=>if isP r.1 then landP dst q r.1.cells else landR dst r.1 else .fail
  else .fail
inductive BxC where
 |arg (i:Nat)
 |val (x:Value)
structure Env where
 box:FuncId->Option (Nat×List BxC)
 ps:FuncId->List (Option Nat)
 row:FuncId->Nat:=λ_=>0
def bxT(vals:List TV):BxC->TV
 |.arg i=>vals.getD i .dead
 |.val x=>.v x
def bxV(asq:List Value):BxC->Value
 |.arg i=>asq.getD i undef
 |.val x=>x
def evBox(dst:Option Nat)(tm:List BxC)(vals:List TV):SP Unit:=
 match dst with
 |some d=>(takeL false (tm.map (bxT vals))).bind λl=>.new (2*d+2) l (.rdV (2*d+2,0,0) λg=>wr d (.ptr ⟨2*d+2,0,[]⟩ [g]))
 |none=>.fail
def CX(E:Env)(f:FuncId)(n m:Nat):List (Option Nat):=(List.range m).map λk=>(E.ps f).getD (n+k) none
def see1:TV->SP TV
 |.v x=>.ret (.v x)
 |.sl c=>.ret (.sl c)
 |.ow []=>.ret (.sl [])
 |.pk p vs=>(chk p (p.hops.length+1) vs).bind λ_=>.rdC p.root p.off λtv=>match bJ tv p.hops with|some (.ow c)=>.ret (TV.ow c).imm|_=>.fail
 |_=>.fail
def seeL:List TV->SP (List TV)
 | []=>.ret []
 |t::r=>(see1 t).bind λt'=>(seeL r).bind λl=>.ret (t'::l)
def seeA:TV->SP TV
 |.agg l=>(seeL l).bind λl'=>.ret (.agg l')
 |.ip cs=>.ret (.ip cs)
 |.fn f cap=>if cap.all uU then .ret (.fn f cap)else .fail
 |t=>see1 t
def seeAs:List Opd->SP (List TV)
 | []=>.ret []
 |x::r=>(opd x).bind λt=>(seeA t).bind λt'=>(seeAs r).bind λl=>.ret (t'::l)
def callB(F:cu)(dst:Option Nat)(f:FuncId)(vals:List TV):SP Unit:=
 (fK (F f vals [])).bind λr=>if r.2.length=0&&r.1.cells.all vB&&jX r.1.sh r.1.cells.length then(match dst with|some d=>wr d (mp r.1.sh r.1.cells)|none=>.ret ())else .fail
def pK(k:Nat)(zs:List Int):List Int:=match k with
 |1=>zs.mergeSort λx y=>decide (x<=y)
 |_=>Lib.compact zs++List.replicate (zs.length-(Lib.compact zs).length) 0
def rowN(zs:List Int):Nat:=(Lib.compact zs).length
def lU(z:Int):List TV:=[.v (.int .i64 z)]
def mN:List (List TV)->Option (List Int)
 | []=>some []
 | [.v (.int .i64 z)]::r=>(mN r).map (z :: ·)
 |_::_=>none
def rowLand(dst:Option Nat)(k:Nat)(p:bA)(vs:List Nat)(m:Nat):SP Unit:=match dst with
 |none=>.ret ()
 |some d=>if k=1 then wr d (.tup [])else wr d (.pw p vs 1 0 m)
def evRow(dst:Option Nat)(k:Nat):TV->SP Unit
 |.pk p vs=>(chk p 1 vs).bind λ_=>match p.hops with
  | []=>.rdC p.root p.off λtv=>match tv with
   |.ow c=>match mN c with
    |some zs=>if zs.length<4611686018427387904 then .wrC p.root p.off (.ow ((pK k zs).map lU)) (rowLand dst k p vs (rowN zs))else .fail
    |none=>.fail
   |_=>.fail
  |_::_=>.fail
 |_=>.fail
def evRowA(dst:Option Nat)(k:Nat):List (Option Nat×Opd)->SP Unit
 | [x]=>(opd x.2).bind (evRow dst k)
 |_=>.fail
def evCall(E:Env)(F:cu)(dst:Option Nat):TOp->SP Unit
 |.call k (.f f) args=>
  if E.row f≠0 then evRowA dst (E.row f) args else
  if k then(argVs args).bind λvals=>match E.box f with
   |some x=>if vals.length=x.1 then evBox dst x.2 vals else .fail
   |none=>callV F dst f (args.map (·.1)) vals
  else(seeAs (args.map (·.2))).bind λvals=>callB F dst f vals
 |.call _ (.t i) args=>.rdT i λt=>match t with
  |.fn f caps=>(argVs args).bind λvals=>callV F dst f (args.map (·.1)++CX E f args.length caps.length) (vals++caps)
  |_=>.fail
 |_=>.fail
section
variable {P:Program} {M:Fm} {σ σ':St} {H:List TV} {xs:List Value} {ts:Array Value} {w:World} {G:Gh} {a:Act} {o:Oper}
theorem D5{r:Nat}:∀{l:List TV}{i:Nat}{l':List TV}{σ σ':St},(nameL r i l).run σ=some (l',σ')->σ'=σ:=by
 intro l
 induction l with
 |nil=>
  intro i l' σ σ' h;simp only[nameL,SP.run,oSJ,oPJ]at h;exact h.2.symm
 |cons t l ih=>
  intro i l' σ σ' h;by_cases ho:gS t=true
  ·obtain⟨c,rfl⟩:∃c,t=.ow c:=by cases t<;>simp[gS]at ho;exact⟨_,rfl⟩
   simp only[nameL,SP.run]at h;obtain⟨l3,σ3,h1,h2⟩:=bn h;simp only[SP.run,oSJ,oPJ]at h2;rw[<- h2.2];exact ih h1
  ·have e:nameL r i (t::l)=(nameL r (i+1) l).bind λl'=>.ret (t::l'):=by cases t<;>simp[gS]at ho<;>rfl
   rw[e]at h;obtain⟨l3,σ3,h1,h2⟩:=bn h;simp only[SP.run,oSJ,oPJ]at h2;rw[<- h2.2];exact ih h1
theorem D3{d:Nat}{l l':List TV}{σ σ':St}(h:(names d l).run σ=some (l',σ')):σ'.tm=σ.tm:=by
 unfold names at h;split at h
 ·simp only[SP.run]at h;rw[D5 h]
 ·simp only[SP.run,oSJ,oPJ]at h;rw[h.2]
theorem G8(hI:Inv M σ [] [] a.tmps w G){x:Option Nat×Opd}{x':Operand}(hx:bq x'=some x.2){t:TV}(hr:(argV x).run σ=some (t,σ')):
 ∃G',gC M w a.tmps σ [] G σ' [] [] G'/\TmR w (G'.F M.A) σ'.v (bM M σ' []) G' t (a.eval x'):=by
 unfold argV at hr;obtain⟨t0,σ1,h1,h2⟩:=bn hr;obtain⟨rfl,ht⟩:=cf hI.tmr hx h1
 have U3:∀(l:List TV×Bool)(σ2:St),(takeV false t0).run σ1=some (l,σ2)->t=jH l.2 (l.1.map TV.imm)->σ'=σ2->∃G',gC M w a.tmps σ1 [] G σ' [] [] G'/\TmR w (G'.F M.A) σ'.v (bM M σ' []) G' t (a.eval x'):=by
  rintro l σ2 h3 rfl rfl;obtain⟨xs,G1,hg,hsh,hok,Zs⟩:=xz hI ht h3;obtain⟨G2,ZJ,ZI⟩:=hg.1.dropImm (l9 hok);refine⟨G2,hg.trans ZJ,?_⟩;have hlen:=hg.1.hand
  rcases hsh with⟨e1,e2⟩|⟨e1,y,e2,e3⟩
  ·rw[e1,e2];simp only[jH,if_true];refine .agg (by simp[hlen]) λj hj=>?_
   have ZT:j<l.1.length:=by simpa using hj
   have:=ZI j ZT;simp only[List.getElem_map]
   have e:xs.toArray.getD j undef=xs.getD j undef:=by simp[Array.getD_eq_getD_getElem?,oGD]
   rw[e];exact this.toTm
  ·rw[e1,e3];subst e2
   have Vf:l.1.length=1:=by simpa using hlen
   obtain⟨t1,Vq⟩:∃t1,l.1=[t1]:=List.length_eq_one_iff.1 Vf;have:=ZI 0 (by omega);simp only[Vq,List.getElem_cons_zero,List.getD_cons_zero]at this;simp only[Vq,jH,List.map_cons,List.map_nil,List.headD_cons];exact this.toTm
 have X3:t=t0->σ'=σ1->∃G',gC M w a.tmps σ1 [] G σ' [] [] G'/\TmR w (G'.F M.A) σ'.v (bM M σ' []) G' t (a.eval x'):=by
  rintro rfl rfl;exact⟨G,gC.refl hI,ht⟩
 split at h2
 ·cases t0 with
  |ow c=>
   obtain⟨rfl,ad,e⟩:=ht.ow_inv;simp only[rY]at h2;obtain⟨l,σ2,h3,h4⟩:=bn h2;simp only[SP.run,oSJ,oPJ]at h4;obtain⟨rfl,rfl⟩:=h4;rw[e];obtain⟨G1,Z1⟩:=hI.addHand (t:=.ow []) (x:=.slice ad 0 0) (.nil λ_ h=>h)
   obtain⟨G2,ZY,hm,WQ,Ym⟩:=mF Z1.1 (λj h=>by
    obtain rfl:j=0:=by simpa using h
    exact .inr rfl) h3
   have Zt:σ2.tm=σ1.tm:=D3 h3;have hlen:l.length=1:=WQ;obtain⟨t1,rfl⟩:=List.length_eq_one_iff.1 hlen;refine⟨G2,⟨ZY,λk hk=>?_,Z1.2.2.1.trans hm.keeps,Zt⟩,Ym 0 (by simp)⟩;rcases Nat.lt_or_ge k w.heap.size with g|g
   ·exact hm.free k (Z1.2.1 k hk) g
   ·exact⟨M.hA k (Nat.le_trans ZY.fram.size g),λr o h=>absurd (ZY.core.live h) (by omega),λr b o n hb e2=>absurd (ZY.core.boxlt hb) (by omega)⟩
  |_=>
   simp only[rY,SP.run,oSJ,oPJ]at h2;exact X3 h2.1.symm h2.2.symm
 cases t0 with
 |ip cs=>
  simp only[SP.run,oSJ,oPJ]at h2;exact X3 h2.1.symm h2.2.symm
 |fn f cap=>
  simp only[SP.run,oSJ,oPJ]at h2;exact X3 h2.1.symm h2.2.symm
 |ptr p vs=>
  simp only[SP.run,oSJ,oPJ]at h2;exact X3 h2.1.symm h2.2.symm
 |_=>
  simp only at h2;obtain⟨l,σ2,h3,h4⟩:=bn h2;simp only[SP.run,oSJ,oPJ]at h4;exact U3 l σ2 h3 h4.1.symm h4.2.symm
theorem yH:∀{l:List (Option Nat×Opd)}{l':List Operand}{XJ:List TV}{σ σ':St}{G:Gh},Inv M σ [] [] a.tmps w G->l'.length=l.length->(∀j (h:j<l.length)(h':j<l'.length),bq l'[j]=some l[j].2)->(argVs l).run σ=some (XJ,σ')->
 ∃G',gC M w a.tmps σ [] G σ' [] [] G'/\XJ.length=l.length/\∀j (h:j<XJ.length)(h':j<l'.length),TmR w (G'.F M.A) σ'.v (bM M σ' []) G' XJ[j] (a.eval l'[j]):=by
 intro l
 induction l with
 |nil=>
  intro l' XJ σ σ' G hI hl hc hr;obtain⟨rfl,rfl⟩:=hr;exact⟨G,gC.refl hI,rfl,λj h=>by simp at h⟩
 |cons x l ih=>
  intro l' XJ σ σ' G hI hl hc hr
  cases l' with
  |nil=>simp at hl
  |cons x' l'=>
   simp only[argVs]at hr;obtain⟨t,σ1,h1,h2⟩:=bn hr;obtain⟨r,σ2,h3,h4⟩:=bn h2;obtain⟨rfl,rfl⟩:=h4;obtain⟨G1,Z1,Vq⟩:=G8 hI (by have:=hc 0 (by simp) (by simp);simpa using this) h1;obtain⟨G2,ZJ,e,Q2⟩:=ih (l':=l') Z1.1 (by simpa using hl) (λj h h'=>by have:=hc (j+1) (by simpa using h) (by simp_all);simpa using this) h3;refine⟨G2,Z1.trans ZJ,by simp[e],λj h h'=>?_⟩
   cases j with
   |zero=>exact ZJ.tm Vq
   |succ j=>exact Q2 j (by simpa using h) (by simp_all)
end
section
variable {P:Program} {M:Fm} {σ σ':St} {H:List TV} {xs:List Value} {ts:Array Value} {w:World} {G:Gh} {a:Act} {o:Oper}
theorem yQ{t t' t2:TV}{p:bA}{y:TV×St}(hp:(peek1 p t).run σ=some (t',σ'))(hr:(take1 true t').run σ=some y):fa y.2.v p.root p.off p.hops.length=fa σ.v p.root p.off p.hops.length:=by
 cases t with
 |v x=>
  obtain⟨rfl,rfl⟩:=hp;simp only[take1,SP.run,oSJ]at hr;rw[<- hr]
 |sl c=>
  obtain⟨rfl,rfl⟩:=hp;simp only[take1,SP.run,oSJ]at hr;rw[<- hr]
 |ow c=>
  simp only[peek1]at hp;obtain⟨vs,σ1,h1,h2⟩:=bn hp;obtain⟨rfl,_⟩:=h2;obtain⟨_,σ2,h3,h4⟩:=bn hr;have e1:σ2=σ:=(bE h3).1;subst e1;simp only[SP.run]at h4;split at h4
  ·simp only[if_true]at h4;obtain⟨l,hl,ho,h5⟩:=bL h4;simp only[SP.run,oSJ]at h5;rw[fP]
   have hv:∀q,y.2.v q=σ2.v q+if(p.root,p.off,p.hops.length+1)=q then 1 else 0:=λq=>by rw[<- h5];exact dw σ2.vr _ q
   refine⟨by simp_all,λd hd=>?_⟩;rw[hv,oIN]
   ·omega
   ·intro e
    simp_all
  ·simp[SP.run]at h4
 |_=>simp[peek1,SP.run]at hp
theorem Ep:∀{n:Nat}{p:bA}{ad:Addr}{l:List TV}{σ σ':St}{H:List TV}{xs:List Value}{G:Gh},Inv M σ H xs ts w G->p.root≠1->G.addr w p=some ad->(va p n).run σ=some (l,σ')->
 l.length=n/\∃us G',gC M w ts σ H G σ' (H++l) (xs++us) G'/\us.length=n/\(∀j (h:j<us.length),w.cell? ⟨ad.block,ad.off+j,none⟩=some us[j]/\w.frozen? ⟨ad.block,ad.off+j,none⟩=false)/\∀j (h:j<l.length),bW l[j]=true\/gS l[j]=true:=by
 intro n
 induction n with
 |zero=>
  intro p ad l σ σ' H xs G hI h1 ha hr;obtain⟨rfl,rfl⟩:=hr;exact⟨rfl,[],G,by simpa using gC.refl hI,rfl,λj h=>by simp at h,λj h=>by simp at h⟩
 |succ n ih=>
  intro p ad l σ σ' H xs G hI h1 ha hr;simp only[va]at hr;obtain⟨t,σ1,h2,h3⟩:=bn hr;obtain⟨e1,hg⟩:=cH h2;have e1:σ1=σ:=e1;subst e1;obtain⟨t',σ2,h4,h5⟩:=bn h3;have hd:=kR h4;obtain⟨hB,u,fp,YV,hown,hv⟩:=hI.named h1 ha hg hd;obtain⟨rfl,YT⟩:=mA hI h1 hg hown hv h4;obtain⟨t2,σ3,h6,h7⟩:=bn h5;have XF:=yQ (t2:=t2) h4 h6;obtain⟨G1,Z1,Zs⟩:=dX hI YT h6
  have Ui:bJ (bM M σ2 H p.root p.off) p.hops=some t:=by rw[bG (by exact h1)];exact hg
  obtain⟨u0,Zu,Zn,MO,Xc,_⟩:=hI.core.set p hB Ui;obtain⟨_,TH,_⟩:=Z1.2.2.1.ptr p ad t h1 XF ha Ui
  have Y6:(⟨ad.block,ad.off+0,none⟩:Addr)=ad:=by obtain⟨b,o,s⟩:=ad;simp only at Zn;subst Zn;rfl
  have hcell:=fQ h6
  cases n with
  |zero=>
   obtain⟨rfl,rfl⟩:=h7;refine⟨rfl,[u],G1,Z1,rfl,λj h=>?_,λj h=>?_⟩
   ·obtain rfl:j=0:=by simp at h;omega
    rw[Y6];exact⟨YV,Xc⟩
   ·obtain rfl:j=0:=by simp at h;omega
    exact hcell
  |succ n=>
   simp only at h7;split at h7
   ·obtain⟨r,σ4,h8,h9⟩:=bn h7;obtain⟨rfl,rfl⟩:=h9;obtain⟨e2,us,G2,ZJ,e3,e4,e5⟩:=ih Z1.1 (by rw[cA];exact h1) (iI 1 TH) h8;refine⟨by simp[e2],u::us,G2,by simpa using Z1.trans ZJ,by simp[e3],λj h=>?_,λj h=>?_⟩
    ·cases j with
     |zero=>rw[Y6];exact⟨YV,Xc⟩
     |succ j=>
      have:=e4 j (by simpa using h);simp only[List.getElem_cons_succ];rw[show ad.off+(j+1)=ad.off+1+j by omega];exact this
    ·cases j with
     |zero=>exact hcell
     |succ j=>exact e5 j (by simpa using h)
   ·simp[SP.run]at h7
theorem zP{r o:Nat}{c:List (List TV)}{l:List TV}(hc:σ.c r o=.ow c)(h:(va ⟨r,o,[]⟩ 1).run σ=some (l,σ')):l=[.ow c]:=by
 simp only[va]at h;obtain⟨t,σ1,h1,h2⟩:=bn h;obtain⟨e1,hg⟩:=cH h1;subst e1;simp only[hc,bJ,oSJ]at hg;subst hg;obtain⟨t',σ2,h3,h4⟩:=bn h2;obtain⟨vs,σ3,h5,h6⟩:=bn h3;obtain⟨rfl,rfl⟩:=h6;rw[mw]at h5
 injection h5 with h5
 injection h5 with _ h5
 subst h5;obtain⟨t2,σ4,h7,h8⟩:=bn h4;simp only[SP.run,oSJ,oPJ]at h8;rw[<- h8.1];obtain⟨_,σ5,h9,ZM⟩:=bn h7;have e2:σ5=σ1:=(bE h9).1;subst e2;simp only[SP.run,hc,bJ,if_true]at ZM;split at ZM
 ·simp_all
 ·cases ZM
theorem Bw(hI:Inv M σ H xs ts w G){p:bA}(h:(rooted p).run σ=some ((),σ')):σ'=σ/\(p.hops≠[]->∃b o n,G.β p.root=some (b,o,n)):=by
 obtain⟨r,o,hops⟩:=p
 cases hops with
 |nil=>
  simp only[rooted,SP.run,oSJ,oPJ,true_and]at h
  simp_all
 |cons hp hs=>
  simp only[rooted,SP.run]at h;have ht:=hI.tmr ((r-2)/2)
  cases hq:σ.t ((r-2)/2)with
  |ptr q ws=>
   rw[hq]at h ht;simp only at h;split at h
   ·rename_i hc;simp at hc;have e1:σ'=σ:=(bE h).1;have e2:=(bE h).2;refine⟨e1,λ_=>?_⟩
    cases ht with
    |ptr V0 h0 hv hok=>
     obtain⟨_,ad,t,ha,_,_⟩:=hok (by rw[hc.2];exact e2);unfold Gh.addr at ha;rw[hc.2]at ha;rw[<- hc.1]
     cases hb:G.β q.root with
     |none=>rw[hb]at ha;simp at ha
     |some y=>obtain⟨b,o,n⟩:=y;exact⟨b,o,n,rfl⟩
   ·simp[SP.run]at h
  |_=>rw[hq]at h;simp[SP.run]at h
inductive n9 (w:World):Nat->List TV->List Value->List (GP×Addr)->List Value->Prop
 |nil (i:Nat):n9 w i [] [] [] []
 |ptr {i:Nat} {p:bA} {hp:List Hop} {vs vs0:List Nat} {cells:List TV} {ad ad0:Addr} {u:List Value} {ts:List TV} {xs:List Value} {K:List (GP×Addr)} {us:List Value} (hr:p.root≠1) (hb:p.hops=[]) (hs:ad.spot=none) (h0:hp=[]->ad0=ad)
  (hh:hp≠[]->ca w ((w.cell? ⟨ad.block,ad.off,none⟩).getD undef) hp=some ad0/\∃t,bJ (cells.getD 0 .dead) hp=some t)(hu:u.length=cells.length)
  (hc:∀j (h:j<u.length),w.cell? ⟨ad.block,ad.off+j,none⟩=some u[j]/\w.frozen? ⟨ad.block,ad.off+j,none⟩=false)(hok:∀j (h:j<cells.length),bW cells[j]=true\/gS cells[j]=true)
  (h:n9 w (i+1) ts xs K us):n9 w i (.ptr ⟨p.root,p.off,hp⟩ vs0::ts) (.pointer (some ad0)::xs) ((⟨i,p,vs,cells⟩,ad)::K) (u++us)
 |arg {i:Nat} {t:TV} {x:Value} {ts:List TV} {xs:List Value} {K:List (GP×Addr)} {us:List Value} (ha:lb t=true) (h:n9 w (i+1) ts xs K us):n9 w i (t::ts) (x::xs) K us
 |own {i:Nat} {p:bA} {vs:List Nat} {x:Value} {ts:List TV} {xs:List Value} {K:List (GP×Addr)} {us:List Value} (h:n9 w (i+1) ts xs K us):n9 w i (.pk p vs::ts) (x::xs) K us
inductive Dj:Nat->List (Option Nat×TV)->List Value->List (Nat×TV)->List Value->Prop
 |nil (i:Nat):Dj i [] [] [] []
 |own {i:Nat} {p:bA} {vs:List Nat} {l:List (Option Nat×TV)} {x:Value} {xs:List Value} {c:List (List TV)} {ow:List (Nat×TV)} {zs:List Value} (h:Dj (i+1) l xs ow zs):Dj i ((some 0,.pk p vs)::l) (x::xs) ((i,.ow c)::ow) (x::zs)
 |skip {i:Nat} {y:Option Nat×TV} {l:List (Option Nat×TV)} {x:Value} {xs:List Value} {ow:List (Nat×TV)} {zs:List Value} (h:Dj (i+1) l xs ow zs):Dj i (y::l) (x::xs) ow zs
theorem su{i:Nat}{y:Option Nat×TV}{l:List (Option Nat×TV)}(hn:∀p vs,y≠(some 0,.pk p vs)):takeOwns i (y::l)=takeOwns (i+1) l:=by
 have ⟨n,t⟩:=y
 cases t with
 |pk p vs=>
  cases n with
  |none=>rfl
  |some n=>
   cases n with
   |zero=>simp_all
   |succ n=>rfl
 |_=>cases n with
  |none=>rfl
  |some n=>cases n<;>rfl
theorem vH:∀{l:List (Option Nat×TV)}{asq:List Value}{i:Nat}{ow:List (Nat×TV)}{σ σ':St}{H:List TV}{xs:List Value}{G:Gh},Inv M σ H xs ts w G->asq.length=l.length->(∀j (h:j<l.length)(h':j<asq.length),TmR w (G.F M.A) σ.v (bM M σ H) G l[j].2 asq[j])->(takeOwns i l).run σ=some (ow,σ')->
 ∃zs G',gC M w ts σ H G σ' (H++ow.map (·.2)) (xs++zs) G'/\Dj i l asq ow zs/\∀(j:Nat)(p:bA)(vs:List Nat),l[j]?=some (some 0,TV.pk p vs)->∃x∈ow,x.1=i+j:=by
 intro l
 induction l with
 |nil=>
  intro asq i ow σ σ' H xs G hI hl _ hr;obtain⟨rfl,rfl⟩:=hr;have:asq=[]:=oEN (by simpa using hl);subst this;exact⟨[],G,by simpa using gC.refl hI,.nil i,λj p vs h=>by simp at h⟩
 |cons y l ih=>
  intro asq i ow σ σ' H xs G hI hl ht hr
  cases asq with
  |nil=>simp at hl
  |cons x asq=>
   have TR:=ht 0 (by simp) (by simp);simp only[List.getElem_cons_zero]at TR;by_cases hp:∃p vs,y=(some 0,.pk p vs)
   ·obtain⟨p,vs,rfl⟩:=hp;simp only[takeOwns]at hr;obtain⟨t,σ1,h1,h2⟩:=bn hr;split at h2
    case isFalse=>simp[SP.run]at h2
    rename_i Nk;obtain⟨q,σ2,h3,h4⟩:=bn h2;obtain⟨rfl,rfl⟩:=h4
    obtain⟨c,rfl⟩:∃c,t=.ow c:=by cases t<;>simp[gS]at Nk;exact⟨_,rfl⟩
    obtain⟨G1,Z1,_⟩:=dX hI TR h1;obtain⟨zs,G2,ZJ,k1,k2⟩:=ih (asq:=asq) Z1.1 (by simpa using hl) (λj h h'=>Z1.tm (by have:=ht (j+1) (by simpa using h) (by simpa using h');simpa only [List.getElem_cons_succ]using this)) h3;refine⟨x::zs,G2,by simpa[List.append_assoc]using Z1.trans ZJ,.own k1,λj p vs h=>?_⟩
    cases j with
    |zero=>exact⟨_,List.mem_cons_self,rfl⟩
    |succ j=>
     obtain⟨z,h5,h6⟩:=k2 j p vs (by simpa using h);exact⟨z,List.mem_cons_of_mem _ h5,by omega⟩
   ·have hn:=λp vs e=>hp ⟨p,vs,e⟩;rw[su hn]at hr;obtain⟨zs,G2,ZJ,k1,k2⟩:=ih (asq:=asq) hI (by simpa using hl) (λj h h'=>by have:=ht (j+1) (by simpa using h) (by simpa using h');simpa only [List.getElem_cons_succ]using this) hr;refine⟨zs,G2,ZJ,.skip k1,λj p vs h=>?_⟩
    cases j with
    |zero=>exact absurd (by simpa using h) (hn p vs)
    |succ j=>
     obtain⟨z,h5,h6⟩:=k2 j p vs (by simpa using h);exact⟨z,h5,by omega⟩
theorem En:∀{l:List (Option Nat×TV)}{i:Nat}{q:List GP}{σ σ':St},(grabs i l).run σ=some (q,σ')->∀(j:Nat)(n:Option Nat)(p:bA)(vs:List Nat),l[j]?=some (n,TV.pk p vs)->n=some 0:=by
 intro l
 induction l with
 |nil=>simp_all
 |cons y l ih=>
  intro i q σ σ' hr j n p vs h;obtain⟨m,t⟩:=y
  cases j with
  |zero=>
   simp at h;obtain⟨rfl,rfl⟩:=h
   cases m with
   |none=>simp[grabs,lb,SP.run]at hr
   |some m=>
    cases m with
    |zero=>rfl
    |succ m=>simp[grabs,lb,SP.run]at hr
  |succ j=>
   have hj:l[j]?=some (n,.pk p vs):=by simpa using h
   have step:∀{σ1 σ2:St}{q1:List GP},(grabs (i+1) l).run σ1=some (q1,σ2)->n=some 0:=λh1=>ih h1 j n p vs hj
   have arg:((if lb t then grabs (i+1) l else .fail:SP (List GP))).run σ=some (q,σ')->n=some 0:=by
    intro h1;split at h1
    ·exact step h1
    ·simp[SP.run]at h1
   cases t with
   |ptr p2 RT=>
    cases m with
    |none=>exact arg hr
    |some m=>
     obtain⟨_,σ1,h1,h2⟩:=bn hr;obtain⟨_,σ0,_,h2⟩:=bn h2;obtain⟨cells,σ2,h3,h4⟩:=bn h2;obtain⟨q1,σ3,h5,h6⟩:=bn h4;exact step h5
   |pk p2 RT=>
    cases m with
    |none=>exact arg hr
    |some m=>
     cases m with
     |zero=>exact step hr
     |succ m=>exact arg hr
   |_=>cases m with
    |none=>exact arg hr
    |some m=>cases m<;>exact arg hr
theorem Eo:∀{l:List (Option Nat×TV)}{asq:List Value}{i:Nat}{q:List GP}{σ σ':St}{H:List TV}{xs:List Value}{G:Gh},Inv M σ H xs ts w G->asq.length=l.length->(∀j (h:j<l.length)(h':j<asq.length),TmR w (G.F M.A) σ.v (bM M σ H) G l[j].2 asq[j])->(grabs i l).run σ=some (q,σ')->
 ∃us G' K,gC M w ts σ H G σ' (H++q.flatMap (·.cells)) (xs++us) G'/\K.map (·.1)=q/\n9 w i (l.map (·.2)) asq K us/\∀x∈K,TmR w (G'.F M.A) σ'.v (bM M σ' (H++q.flatMap (·.cells))) G' (.ptr x.1.p x.1.vs) (.pointer (some x.2)):=by
 intro l
 induction l with
 |nil=>
  intro asq i q σ σ' H xs G hI hl _ hr;obtain⟨rfl,rfl⟩:=hr;have:asq=[]:=oEN (by simpa using hl);subst this;exact⟨[],G,[],by simpa using gC.refl hI,rfl,.nil i,λx hx=>by simp at hx⟩
 |cons x l ih=>
  intro asq i q σ σ' H xs G hI hl ht hr
  cases asq with
  |nil=>simp at hl
  |cons y asq=>
   obtain⟨n,t⟩:=x;have TR:=ht 0 (by simp) (by simp);simp only[List.getElem_cons_zero]at TR
   have ZN:∀{σ1:St}{H1:List TV}{N4:List Value}{G1:Gh},gC M w ts σ H G σ1 H1 N4 G1->∀j (h:j<l.length)(h':j<asq.length),TmR w (G1.F M.A) σ1.v (bM M σ1 H1) G1 l[j].2 asq[j]:=λhg j h h'=>
    hg.tm (by have:=ht (j+1) (by simpa using h) (by simpa using h');simpa only [List.getElem_cons_succ]using this)
   have other:(∀p vs,t≠.ptr p vs)->(∀p vs,(n,t)≠(some 0,.pk p vs))->∃us G' K,gC M w ts σ H G σ' (H++q.flatMap (·.cells)) (xs++us) G'/\K.map (·.1)=q/\n9 w i (((n,t)::l).map (·.2)) (y::asq) K us/\∀x∈K,TmR w (G'.F M.A) σ'.v (bM M σ' (H++q.flatMap (·.cells))) G' (.ptr x.1.p x.1.vs) (.pointer (some x.2)):=by
    intro hne Un
    have Xq:(if lb t then grabs (i+1) l else .fail:SP (List GP)).run σ=some (q,σ'):=by
     cases n with
     |none=>cases t<;>exact hr
     |some n=>cases n<;>cases t<;>first|exact absurd rfl (hne _ _)|exact absurd rfl (Un _ _)|exact hr
    split at Xq
    ·rename_i U6;obtain⟨us,G',K,e1,e2,e3,e4⟩:=ih (asq:=asq) hI (by simpa using hl) (ZN (gC.refl hI)) Xq;exact⟨us,G',K,e1,e2,.arg U6 e3,e4⟩
    ·simp[SP.run]at Xq
   by_cases hp:∃p vs,t=.ptr p vs
   ·obtain⟨p,vs,rfl⟩:=hp
    cases n with
    |none=>simp[grabs,lb,SP.run]at hr
    |some n=>
     simp only[grabs]at hr;obtain⟨_,σ1,h1,h2⟩:=bn hr;have e1:σ1=σ:=(bE h1).1;have e2:=(bE h1).2;subst e1;obtain⟨_,σr,hR,T5⟩:=bn h2;obtain⟨rfl,YI⟩:=Bw hI hR;obtain⟨cells,σ2,h3,h4⟩:=bn T5;obtain⟨q1,σ3,h5,h6⟩:=bn h4;simp only[SP.run,oSJ,oPJ]at h6;obtain⟨rfl,rfl⟩:=h6;generalize hz:y=z at TR
     cases TR with
     |ptr V0 h0 hv h=>
      obtain⟨Z7,ad0,t0,ha,rfl,Z4⟩:=h e2;obtain⟨r,o,hops⟩:=p
      have hab:∃ad,G.addr w (⟨r,o,[]⟩:bA)=some ad/\(hops=[]->ad0=ad)/\(hops≠[]->ca w ((w.cell? ⟨ad.block,ad.off,none⟩).getD undef) hops=some ad0):=by
       cases hops with
       |nil=>exact⟨ad0,ha,λ_=>rfl,λe=>absurd rfl e⟩
       |cons hp1 hs=>
        obtain⟨b,o0,n0,hb⟩:=YI (by simp);refine⟨⟨b,o0+o,none⟩,by simp only[Gh.addr];rw[hb],λe=>by simp at e,λ_=>?_⟩;have PX:ca w (G.val w r o) (hp1::hs)=some ad0:=ha;unfold Gh.val at PX;rw[hb]at PX;exact PX
      obtain⟨ad,P4,MK,RA⟩:=hab;have Nw:(⟨r,o,hops⟩:bA).base.root≠1:=Z7;obtain⟨k1,u,G1,Z1,k2,k3,k4⟩:=Ep (p:=(⟨r,o,hops⟩:bA).base) hI Nw P4 h3;obtain⟨us,G2,K,ZJ,k5,k6,k7⟩:=ih (asq:=asq) Z1.1 (by simpa using hl) (ZN Z1) h5
      have Zt:TmR w (G.F M.A) σr.v (bM M σr H) G (.ptr (⟨r,o,hops⟩:bA).base (vs.take 1)) (.pointer (some ad)):=
       .ptr V0 h0 (by rw[hv];simp[fa,bA.base]) λ_=>⟨Z7,ad,_,P4,rfl,rfl⟩
      refine⟨u++us,G2,(⟨i,(⟨r,o,hops⟩:bA).base,vs.take 1,cells⟩,ad)::K,by simpa[List.append_assoc]using Z1.trans ZJ,by simp[k5],.ptr (p:=(⟨r,o,hops⟩:bA).base) (hp:=hops) Z7 rfl (gr P4) MK (λhne=>⟨RA hne,?_⟩) (by omega) k3 k4 k6,λx hx=>?_⟩
      ·have WO:bJ (σr.c r o) hops=some t0:=by
        have:=Z4;rw[bG (by exact Z7)]at this;exact this
       cases hops with
       |nil=>exact absurd rfl hne
       |cons h1 hs=>
        cases hc:σr.c r o with
        |ow c=>
         have:=zP hc h3;rw[this];rw[hc]at WO;exact⟨t0,WO⟩
        |_=>rw[hc]at WO;simp[bJ]at WO
      ·have e3:H++(({ i:=i,p:=(⟨r,o,hops⟩:bA).base,vs:=vs.take 1,cells:=cells }:GP)::q1).flatMap (·.cells)=H++cells++q1.flatMap (·.cells):=by simp[List.append_assoc]
       rw[e3];rcases List.mem_cons.1 hx with rfl|hx
       ·exact ZJ.tm (Z1.tm Zt)
       ·exact k7 x hx
   ·by_cases hw:∃p vs,(n,t)=(some 0,.pk p vs)
    ·obtain⟨p,vs,hw⟩:=hw
     injection hw with h1 h2
     subst h1;subst h2;have Xq:(grabs (i+1) l).run σ=some (q,σ'):=hr;obtain⟨us,G',K,e1,e2,e3,e4⟩:=ih (asq:=asq) hI (by simpa using hl) (ZN (gC.refl hI)) Xq;exact⟨us,G',K,e1,e2,.own e3,e4⟩
    ·exact other (λp vs e=>hp ⟨p,vs,e⟩) λp vs e=>hw ⟨p,vs,e⟩
theorem nv{α:Type}:∀{l:List (Nat×α)}{r:Nat}{x:α},bO l r=some x->cM l r x=l:=by
 intro l
 induction l with
 |nil=>intro r x h;simp[bO]at h
 |cons y l ih=>
  intro r x h;simp[bO]at h;simp[cM]
  grind
theorem Dk{p:bA}(hr:(touch p).run σ=some ((),σ')):σ'=σ/\∃l,bO σ.ce p.root=some l/\p.off<l.length:=by
 simp[touch]at hr;obtain⟨l,hl,ho,h2⟩:=bL (k:=.ret ()) (by simpa[SP.run]using hr);simp[SP.run]at h2;refine⟨?_,l,hl,ho⟩;rw[<- h2]
 have e:l.set p.off (σ.c p.root p.off)=l:=by
  have:σ.c p.root p.off=l[p.off]:=by simp[St.c,hl,ho]
  simp_all
 rw[e,nv hl]
theorem DS(hI:Inv M σ H xs ts w G):∀{q:List GP}{σ':St},(rechk q).run σ=some ((),σ')->σ'=σ/\∀g∈q,∀x,TmR w (G.F M.A) σ.v (bM M σ H) G (.ptr g.p g.vs) x->g.p.root≠1/\∃ad,x=.pointer (some ad)/\G.addr w g.p=some ad/\g.vs=fa σ.v g.p.root g.p.off g.p.hops.length/\(∃t,bJ (bM M σ H g.p.root g.p.off) g.p.hops=some t)/\((∃o n,G.β g.p.root=some (ad.block,o,n))\/G.φ g.p.root g.p.off ad.block):=by
 intro q
 induction q with
 |nil=>
  intro σ' hr;simp only[rechk,SP.run,oPJ,true_and]at hr
  simp_all
 |cons g q ih=>
  intro σ' hr;obtain⟨_,σ1,h1,h2⟩:=bn hr;have e1:σ1=σ:=(bE h1).1;have e2:=(bE h1).2;subst e1;obtain⟨_,σ2,h3,h4⟩:=bn h2;obtain⟨rfl,l,hl,ho⟩:=Dk h3;obtain⟨rfl,hq⟩:=ih h4;refine⟨rfl,λg' Ql x hx=>?_⟩;rcases List.mem_cons.1 Ql with rfl|Ql
  ·cases hx with
   |ptr V0 h0 hv h=>
    obtain⟨Z7,ad,t0,ha,hx,Z4⟩:=h e2
    have hB:G.addrB w g'.p=some ad:=by
     refine gV ha λhp b o0 n hb=>?_;have:=hI.shape _ _ _ _ hb l hl;omega
    refine⟨Z7,ad,hx,ha,e2,⟨t0,Z4⟩,?_⟩
    rcases hI.core.where_ g'.p hB Z4 with⟨_,b,o0,n,h5,_,h6⟩|⟨_,h5⟩
    ·left;exact⟨o0,n,by rw[h5,h6]⟩
    ·right;exact h5
  ·exact hq g' Ql x hx
end
def prK:List (GP×Addr)->Nat->Option (Nat×Nat×Nat)
 | [],_=>none
 |(g,ad)::K,r=>if 2*g.i+2=r then some (ad.block,ad.off,g.cells.length)else prK K r
def bsK:List (GP×Addr)->Nat->Nat
 | [],_=>0
 |(g,_)::K,r=>if 2*g.i+2=r then 0 else g.cells.length+bsK K r
def ceK(K:List (GP×Addr)):List (Nat×List TV):=K.map λx=>(2*x.1.i+2,x.1.cells)
def ceO(ow:List (Nat×TV)):List (Nat×List TV):=ow.map λx=>(2*x.1+3,[x.2])
def owK:List (Nat×TV)->Nat->Option Nat
 | [],_=>none
 |(i,_)::q,r=>if 2*i+3=r then some 0 else(owK q r).map (· + 1)
def fN(K:List (GP×Addr)):List TV:=K.flatMap λx=>x.1.cells
section
theorem gb{K:List (GP×Addr)}{r b o n:Nat}(h:prK K r=some (b,o,n)):∃x∈K,r=2*x.1.i+2/\b=x.2.block/\o=x.2.off/\n=x.1.cells.length/\bO (ceK K) r=some x.1.cells/\∀j (_:j<x.1.cells.length),(fN K)[bsK K r+j]?=x.1.cells[j]?:=by
 induction K with
 |nil=>simp[prK]at h
 |cons y K ih=>
  obtain⟨g,ad⟩:=y;simp only[prK]at h;split at h
  ·rename_i e
   injection h with h
   injection h with h1 h
   injection h with h2 h3
   refine⟨(g,ad),by simp,e.symm,h1.symm,h2.symm,h3.symm,by simp[ceK,bO,e],λj hj=>?_⟩;simp only[bsK,e,if_true,fN,Nat.zero_add];exact List.getElem?_append_left hj
  ·rename_i e;obtain⟨x,h1,h2,h3,h4,h5,h6,h7⟩:=ih h;refine⟨x,by simp[h1],h2,h3,h4,h5,by simpa[ceK,bO,e]using h6,λj hj=>?_⟩;simp only[bsK,e,if_false,fN,List.flatMap_cons];rw[List.getElem?_append_right (by omega)];rw[show g.cells.length+bsK K r+j-g.cells.length=bsK K r+j by omega];exact h7 j hj
theorem yA{K:List (GP×Addr)}{r:Nat}{l:List TV}(h:bO (ceK K) r=some l):prK K r≠none:=by
 induction K with
 |nil=>simp[ceK,bO]at h
 |cons y K ih=>
  simp[ceK,bO]at h;simp[prK];split
  ·simp
  ·rename_i e;rw[oIN e]at h;exact ih h
theorem Fq{K:List (GP×Addr)}:∀r b o n r' b' o' n',prK K r=some (b,o,n)->prK K r'=some (b',o',n')->∀j j',j<n->j'<n'->bsK K r+j=bsK K r'+j'->r=r':=by
 induction K with
 |nil=>intro r b o n r' b' o' n' h;simp[prK]at h
 |cons y K ih=>
  intro r b o n r' b' o' n' h h' j j' hj ZT e;simp[prK,bsK]at h h' e
  grind
theorem n9.slot{w:World}{i:Nat}{ts:List TV}{asq us:List Value}{K:List (GP×Addr)}(h:n9 w i ts asq K us):∀x∈K,i<=x.1.i/\x.1.p.hops=[]/\∃p vs,ts[x.1.i-i]?=some (.ptr p vs):=by
 induction h with
 |nil=>intro x hx;simp at hx
 | @ptr i p hp vs vs0 cells ad ad0 u ts xs K us hr hb hs h0 hh hu hc hok h ih=>
  intro x hx;rcases List.mem_cons.1 hx with rfl|hx
  ·simp_all
  ·obtain⟨h1,h3,p,vs,h2⟩:=ih x hx;refine⟨by omega,h3,p,vs,?_⟩;rw[show x.1.i-i=(x.1.i-(i+1))+1 by omega];simpa using h2
 | @arg i t x0 ts xs K us ha h ih=>
  intro x hx;obtain⟨h1,h3,p,vs,h2⟩:=ih x hx;refine⟨by omega,h3,p,vs,?_⟩;rw[show x.1.i-i=(x.1.i-(i+1))+1 by omega];simpa using h2
 | @own i p0 vs0 x0 ts xs K us h ih=>
  intro x hx;obtain⟨h1,h3,p,vs,h2⟩:=ih x hx;refine⟨by omega,h3,p,vs,?_⟩;rw[show x.1.i-i=(x.1.i-(i+1))+1 by omega];simpa using h2
theorem n9.len{w:World}{i:Nat}{ts:List TV}{asq us:List Value}{K:List (GP×Addr)}(h:n9 w i ts asq K us):ts.length=asq.length/\us.length=(fN K).length:=by
 induction h with
 |nil=>exact⟨rfl,rfl⟩
 |ptr hr hb hs h0 hh hu hc hok h ih=>exact⟨by simp_all,by simp[fN,hu]at ih⊢;exact ih.2⟩
 |arg ha h ih=>simp_all
 |own h ih=>simp_all
theorem n9.ok{w:World}{i:Nat}{ts:List TV}{asq us:List Value}{K:List (GP×Addr)}(h:n9 w i ts asq K us):∀x∈K,∀j (h:j<x.1.cells.length),bW x.1.cells[j]=true\/gS x.1.cells[j]=true:=by
 induction h with
 |nil=>simp_all
 |ptr hr hb hs h0 hh hu hc hok h ih=>
  intro x hx;rcases List.mem_cons.1 hx with rfl|hx
  ·exact hok
  ·exact ih x hx
 |arg ha h ih=>exact ih
 |own h ih=>exact ih
theorem n9.here{w:World}{i:Nat}{ts:List TV}{asq us:List Value}{K:List (GP×Addr)}(h:n9 w i ts asq K us):∀r b o n,prK K r=some (b,o,n)->∀j,j<n->w.cell? ⟨b,o+j,none⟩=some (us.getD (bsK K r+j) undef)/\w.frozen? ⟨b,o+j,none⟩=false:=by
 induction h with
 |nil=>intro r b o n h;simp[prK]at h
 | @ptr i p QM vs vs0 cells ad ad0 u ts xs K us hr hb hs h0 hh hu hc hok h ih=>
  intro r b o n hp j hj;simp only[prK]at hp;simp only[bsK];split at hp
  ·rename_i e
   injection hp with hp
   injection hp with h1 hp
   injection hp with h2 h3
   subst h1;subst h2;rw[oIP e,Nat.zero_add]
   have Qy:j<u.length:=by omega
   have:=hc j Qy;refine⟨?_,this.2⟩;rw[this.1,oGD,List.getElem?_append_left Qy,oGE Qy];rfl
  ·rename_i e;rw[oIN e];have:=ih r b o n hp j hj;refine⟨?_,this.2⟩;rw[this.1];simp;rw[List.getElem?_append_right (by omega)];rw[show cells.length+bsK K r+j-u.length=bsK K r+j by omega]
 |arg ha h ih=>exact ih
 |own h ih=>exact ih
end
theorem nO{α:Type}{f:α->Nat}:∀{l:List α},iC (l.map f)=true->∀{x y:α},x∈l->y∈l->f x=f y->x=y:=by
 intro l
 induction l with
 |nil=>simp_all
 |cons z l ih=>
  intro h x y hx hy e;simp only[List.map_cons,iC,oBA,Bool.not_eq_true',List.contains_eq_mem,decide_eq_false_iff_not]at h;rcases List.mem_cons.1 hx with ZZ|ZZ
  ·rcases List.mem_cons.1 hy with Xr|Xr
   ·rw[ZZ,Xr]
   ·exact absurd (by rw[<- ZZ,e];exact List.mem_map_of_mem Xr) h.1
  ·rcases List.mem_cons.1 hy with Xr|Xr
   ·simp_all
   ·exact ih h.2 ZZ Xr e
section
variable {P:Program} {M:Fm} {σ σ':St} {H:List TV} {xs:List Value} {ts:Array Value} {w:World} {G:Gh} {a:Act} {o:Oper}
theorem jC{α:Type}:∀{a b:List (Nat×α)}{r:Nat},bO (a++b) r=match bO a r with|some x=>some x|none=>bO b r:=by
 intro a
 induction a with
 |nil=>intro b r;rfl
 |cons y a ih=>
  intro b r;simp[bO];split
  ·rfl
  ·exact ih
theorem mB:∀{q:List (Nat×TV)}{r j:Nat},owK q r=some j->∃h:j<q.length,r=2*q[j].1+3/\bO (ceO q) r=some [q[j].2]:=by
 intro q
 induction q with
 |nil=>intro r j h;simp[owK]at h
 |cons y q ih=>
  intro r j h;obtain⟨i,t⟩:=y;simp only[owK]at h;split at h
  ·rename_i e
   injection h with h
   subst h;exact⟨by simp,e.symm,by simp[ceO,bO,e]⟩
  ·rename_i e
   cases hq:owK q r with
   |none=>simp_all
   |some k=>
    simp[hq,oMS]at h;subst h
    have:bO (ceO ((i,t)::q)) r=bO (ceO q) r:=by simp[ceO,bO,e]
    simp_all
theorem EI:∀{q:List (Nat×TV)}{r:Nat}{l:List TV},bO (ceO q) r=some l->owK q r≠none:=by
 intro q
 induction q with
 |nil=>intro r l h;simp[ceO,bO]at h
 |cons y q ih=>
  intro r l h;have ⟨i,t⟩:=y;simp[owK];split
  ·simp
  ·rename_i e
   have:bO (ceO ((i,t)::q)) r=bO (ceO q) r:=by simp[ceO,bO,e]
   simp_all
theorem Dj.facts{i:Nat}{l:List (Option Nat×TV)}{asq:List Value}{ow:List (Nat×TV)}{zs:List Value}(h:Dj i l asq ow zs):zs.length=ow.length/\(∀x∈ow,i<=x.1/\∃c,x.2=.ow c)/\∀x∈ow,∃k,owK ow (2*x.1+3)=some k/\asq[x.1-i]?=zs[k]?:=by
 induction h with
 |nil=>simp_all
 | @own i p vs l x xs c ow zs h ih=>
  obtain⟨h1,h2,h3⟩:=ih;refine⟨by simp[h1],λy hy=>?_,λy hy=>?_⟩
  ·rcases List.mem_cons.1 hy with rfl|hy
   ·exact⟨Nat.le_refl _,c,rfl⟩
   ·exact⟨by have:=(h2 y hy).1;omega,(h2 y hy).2⟩
  ·rcases List.mem_cons.1 hy with rfl|hy
   ·exact⟨0,by simp[owK],by simp⟩
   ·obtain⟨k,h4,h5⟩:=h3 y hy;have Yv:=(h2 y hy).1;refine⟨k+1,by simp[owK];rw[oIN (by omega),h4];rfl,?_⟩;rw[show y.1-i=(y.1-(i+1))+1 by omega];simpa using h5
 | @skip i y0 l x xs ow zs h ih=>
  obtain⟨h1,h2,h3⟩:=ih;refine⟨h1,λy hy=>⟨by have:=(h2 y hy).1;omega,(h2 y hy).2⟩,λy hy=>?_⟩;obtain⟨k,h4,h5⟩:=h3 y hy;have Yv:=(h2 y hy).1;refine⟨k,h4,?_⟩;rw[show y.1-i=(y.1-(i+1))+1 by omega];simpa using h5
theorem n9.hands{vals:List TV}{asq us:List Value}{K:List (GP×Addr)}{l:List (Option Nat×TV)}{ow:List (Nat×TV)}{zs:List Value}(hI:Inv M σ (ow.map (·.2)++fN K) (zs++us) ts w G)(h:n9 w 0 vals asq K us)(ho:Dj 0 l asq ow zs)(ZR:iC ((K.map (·.1)).map (·.p.root))=true)(ZX:∀x∈K,0<x.1.cells.length)
 (UX:∀x∈K,x.1.p.root≠1/\((∃o n,G.β x.1.p.root=some (x.2.block,o,n))\/G.φ x.1.p.root x.1.p.off x.2.block)):Am (ow.map (·.2)++fN K) (zs++us) w G M.A (prK K) (λr=>ow.length+bsK K r) (ceK K++ceO ow) (owK ow):=by
 obtain⟨hz,Yh,_⟩:=ho.facts
 have Up:∀r,r%2=1->bO (ceK K) r=none:=λr hr=>by
  cases hc:bO (ceK K) r with
  |none=>rfl
  |some l=>
   cases hp:prK K r with
   |none=>exact absurd hp (yA hc)
   |some x=>obtain⟨b,o,n⟩:=x;obtain⟨x,_,h2,_⟩:=gb hp;omega
 refine⟨λr b o n hp=>?_,λr b o n hp=>?_,λr l hl=>?_,λr j hj=>?_,λr j r' b o n hj hp j' ZT=>by have:=(mB hj).1;omega,λr r' j hj ZT=>?_,λr b o n r' b' o' n' h1 h2 j j' hj ZT e=>Fq _ _ _ _ _ _ _ _ h1 h2 _ _ hj ZT (by omega),λr b o n r' o' n' h1 h2=>?_,λr b o n hp hF=>?_,λr b o n hp j hφ=>?_,λr b o n hp j hj=>?_⟩
 ·obtain⟨x,h1,h2,_,_,h5,_⟩:=gb hp;exact⟨by omega,by rw[h5];exact ZX x h1⟩
 ·obtain⟨x,h1,h2,_,_,h5,h6,h7⟩:=gb hp;refine⟨_,by rw[jC,h6],h5.symm,λj hj=>?_⟩;have:=h7 j hj;rw[oGE hj]at this;obtain⟨k1,k2⟩:=oGS this;refine⟨by simp;omega,?_,l9 (h.ok x h1) j hj⟩;rw[List.getElem_append_right (by simp;omega)];rw[<- k2];congr 1;simp;omega
 ·rw[jC]at hl
  cases hc:bO (ceK K) r with
  |some l2=>exact .inl (yA hc)
  |none=>rw[hc]at hl;exact .inr (EI hl)
 ·obtain⟨h1,h2,h3⟩:=mB hj;obtain⟨_,c,hc⟩:=Yh ow[j] (List.getElem_mem h1);refine⟨by omega,by omega,c,by simp;omega,?_,?_⟩
  ·rw[jC,Up r (by omega)];simp only;rw[h3,hc]
  ·rw[List.getElem_append_left (by simpa using h1)];simpa using hc
 ·obtain⟨_,h2,_⟩:=mB hj;obtain⟨_,h3,_⟩:=mB ZT;omega
 ·obtain⟨x,x1,x2,x3,x4,x5,_⟩:=gb h1;obtain⟨y,y1,y2,y3,y4,y5,_⟩:=gb h2
  have Z3:x.1.p.root=y.1.p.root:=by
   rcases(UX x x1).2 with⟨o1,n1,Z0⟩|Z0
   ·rcases(UX y y1).2 with⟨o2,n2,Z'⟩|Z'
    ·rw[<- y3]at Z';rw[<- x3]at Z0;exact hI.core.boxd _ _ _ _ _ _ _ Z0 Z'
    ·rw[<- y3]at Z';rw[<- x3]at Z0;exact absurd Z' (hI.core.boxf _ _ _ _ Z0 _ _)
   ·rcases(UX y y1).2 with⟨o2,n2,Z'⟩|Z'
    ·rw[<- y3]at Z';rw[<- x3]at Z0;exact absurd Z0 (hI.core.boxf _ _ _ _ Z' _ _)
    ·rw[<- y3]at Z';rw[<- x3]at Z0;exact(hI.core.dis _ _ _ _ _ Z0 Z').1
  have Rb:x.1=y.1:=nO ZR (List.mem_map_of_mem x1) (List.mem_map_of_mem y1) Z3;rw[x2,y2,Rb]
 ·obtain⟨x,x1,x2,x3,x4,x5,_⟩:=gb hp;subst x3
  rcases(UX x x1).2 with⟨o1,n1,Z0⟩|Z0
  ·exact hF.2.2 _ _ _ _ Z0 rfl
  ·exact hF.2.1 _ _ Z0
 ·obtain⟨x,x1,x2,x3,x4,x5,_⟩:=gb hp;subst x3
  rcases(UX x x1).2 with⟨o1,n1,Z0⟩|Z0
  ·exact hI.core.boxf _ _ _ _ Z0 _ _ hφ
  ·exact(UX x x1).1 (hI.core.dis _ _ _ _ _ Z0 hφ).1
 ·have:=h.here _ _ _ _ hp j hj;refine⟨?_,this.2⟩;rw[this.1,oGD,oGD,List.getElem?_append_right (by omega)];rw[show ow.length+bsK K r+j-zs.length=bsK K r+j by omega]
theorem TmR.handed{F F':Nat->Prop}{V V':Vs}{C C':Cs}{G G':Gh}{t:TV}{x:Value}(h:TmR w F V C G t x)(ha:lb t=true)(hF:∀k,F k->F' k):TmR w F' V' C' G' t x:=by
 cases h with
 |v h=>exact .v h
 |sl h=>exact .sl (h.frame (λ_ _ _=>rfl) λk hk _=>hF k hk)
 |nil=>exact .nil
 |ip u hc hr=>exact .ip u (λj hj=>⟨hF _ (hc j hj).1,(hc j hj).2⟩) λj hj=>(hr j hj).frame (λ_ _ _=>rfl) λk hk _=>hF k hk
 | @agg l xs hl h=>
  refine .agg hl λj hj=>?_;simp[lb,List.all_eq_true]at ha;have h1:=ha _ (List.getElem_mem hj);have h2:=h j hj;generalize l[j]=e at h1 h2;generalize xs.getD j undef=y at h2
  cases h2 with
  |v h=>exact .v h
  |sl h=>exact .sl (h.frame (λ_ _ _=>rfl) λk hk _=>hF k hk)
  |_=>simp_all
 | @fn f l xs hl h=>
  simp[lb]at ha;exact .fn hl λj hj=>(((h j hj).imC (ha _ (List.getElem_mem hj))).frame (λ_ _ _=>rfl) λk hk _=>hF k hk).toTm
 |_=>simp[lb]at ha
theorem tZ{α:Type}:∀{l:List α}{i j:Nat},bO (dt i l) j=if i<=j then l[j-i]? else none:=by
 intro l
 induction l with
 |nil=>intro i j;simp[dt,bO]
 |cons x l ih=>
  intro i j;simp[dt,bO];by_cases e:i=j
  ·simp_all
  ·rw[oIN e,ih]
   grind
theorem vv:∀{l:List TV}{i j:Nat},(argTs i l)[j]?=(l[j]?).map (argT (i+j)):=by
 intro l
 induction l with
 |nil=>intro i j;simp[argTs]
 |cons t l ih=>
  intro i j
  cases j with
  |zero=>simp[argTs]
  |succ j=>simp[argTs,ih];rw[show i+1+j=i+(j+1) by omega]
def EY(w:World)(K:List (GP×Addr))(x:GP×Addr)(t:TV)(y:Option Value):Prop:=
 ∃hp vs ad0,t=.ptr ⟨x.1.p.root,x.1.p.off,hp⟩ vs/\y=some (.pointer (some ad0))/\prK K (2*x.1.i+2)=some (x.2.block,x.2.off,x.1.cells.length)/\bO (ceK K) (2*x.1.i+2)=some x.1.cells/\x.2.spot=none/\(hp=[]->ad0=x.2)/\
  (hp≠[]->ca w ((w.cell? ⟨x.2.block,x.2.off,none⟩).getD undef) hp=some ad0/\∃t,bJ (x.1.cells.getD 0 .dead) hp=some t)
theorem EY.cons{w:World}{K:List (GP×Addr)}{x z:GP×Addr}{t:TV}{y:Option Value}(h:EY w K x t y)(hne:z.1.i≠x.1.i):EY w (z::K) x t y:=by
 have ⟨hp,vs,ad0,h1,h2,h3,h4,h5,h6,h7⟩:=h;have ⟨g,ad⟩:=z;refine⟨hp,vs,ad0,h1,h2,?_,?_,h5,h6,h7⟩
 ·simp[prK];rw[oIN (by simp only at hne;omega)];exact h3
 ·simp[ceK,bO];rw[oIN (by simp only at hne;omega)];exact h4
theorem n9.slotArg{w:World}{i:Nat}{vals:List TV}{asq us:List Value}{K:List (GP×Addr)}(h:n9 w i vals asq K us):∀j t,vals[j]?=some t->lb t=true\/(∃p vs,t=.pk p vs)\/∃x∈K,x.1.i=i+j/\EY w K x t asq[j]?:=by
 induction h with
 |nil=>intro j t h;simp at h
 | @ptr i p hp vs vs0 cells ad ad0 u ts xs K us hr hb hs h0 hh hu hc hok h ih=>
  intro j t ht
  cases j with
  |zero=>
   right;right;refine⟨(⟨i,p,vs,cells⟩,ad),by simp,rfl,hp,vs0,ad0,?_,by simp,by simp[prK],by simp[ceK,bO],hs,h0,hh⟩;simpa using ht.symm
  |succ j=>
   rcases ih j t (by simpa using ht)with h1|h1|⟨x,h1,h2,h3⟩
   ·exact .inl h1
   ·exact .inr (.inl h1)
   ·right;right;exact⟨x,by simp[h1],by omega,by simpa using h3.cons (z:=(⟨i,p,vs,cells⟩,ad)) (by show i≠x.1.i;omega)⟩
 | @arg i t0 x0 ts xs K us ha h ih=>
  intro j t ht
  cases j with
  |zero=>simp_all
  |succ j=>
   rcases ih j t (by simpa using ht)with h1|h1|⟨x,h1,h2,h3⟩
   ·exact .inl h1
   ·exact .inr (.inl h1)
   ·exact .inr (.inr ⟨x,h1,by omega,by simpa using h3⟩)
 | @own i p0 vs0 x0 ts xs K us h ih=>
  intro j t ht
  cases j with
  |zero=>right;left;have:TV.pk p0 vs0=t:=by simpa using ht
         exact⟨p0,vs0,this.symm⟩
  |succ j=>
   rcases ih j t (by simpa using ht)with h1|h1|⟨x,h1,h2,h3⟩
   ·exact .inl h1
   ·exact .inr (.inl h1)
   ·exact .inr (.inr ⟨x,h1,by omega,by simpa using h3⟩)
theorem n9.enter{vals:List TV}{asq us:List Value}{K:List (GP×Addr)}{l:List (Option Nat×TV)}{ow:List (Nat×TV)}{zs:List Value}(hI:Inv M σ (ow.map (·.2)++fN K) (zs++us) ts w G)(h:n9 w 0 vals asq K us)(ho:Dj 0 l asq ow zs)(TP:∀j p vs,vals[j]?=some (.pk p vs)->∃x∈ow,x.1=j)
 (hh:Am (ow.map (·.2)++fN K) (zs++us) w G M.A (prK K) (λr=>ow.length+bsK K r) (ceK K++ceO ow) (owK ow))
 (ht:∀j (h:j<vals.length)(h':j<asq.length),TmR w (G.F M.A) σ.v (bM M σ (ow.map (·.2)++fN K)) G vals[j] asq[j]){N:Nat}(hN:asq.length<=N):
 Inv (M.into w G (prK K) N) (mkSt (argTs 0 vals) (ceK K++ceO ow)) [] [] (asq.toArray++Array.replicate (N-asq.length) undef) w (G.into (prK K) (λr=>ow.length+bsK K r) (owK ow) (zs++us)):=by
 refine hI.enter hh (by simp;omega) λi=>?_;rw[tZ];simp only[Nat.zero_le,if_true,Nat.sub_zero,vv,Nat.zero_add]
 cases hv:vals[i]? with
 |none=>exact .dead
 |some t=>
  obtain⟨hi,NI⟩:=oGS hv
  have ZH:i<asq.length:=by rw[<- h.len.1];exact hi
  have hx:(asq.toArray++Array.replicate (N-asq.length) undef).getD i undef=asq[i]:=by
   simp[Array.getD_eq_getD_getElem?,Array.getElem?_append,ZH]
  rw[hx];have Zt:=ht i hi ZH;rw[NI]at Zt;simp only[oMS,Option.getD_some];rcases h.slotArg i t hv with U6|⟨p,vs,rfl⟩|⟨x,x1,x2,hp,vs,ad0,rfl,x4,x5,Pq,x6,x7,x8⟩
  ·have e:argT i t=t:=by cases t<;>first|rfl|simp[lb]at U6
   rw[e];exact Zt.handed U6 λk hk=>hh.F hk
  ·simp only[argT];obtain⟨x,ZZ,rfl⟩:=TP i p vs hv;obtain⟨hz,h2,h3⟩:=ho.facts;obtain⟨k,h4,h5⟩:=h3 x ZZ;obtain⟨hk,_,h6⟩:=mB h4;have Up:=(hh.owc _ _ h4);obtain⟨_,_,c',hj,h8,h9⟩:=Up;refine .pk (λ_=>0) (λ_=>Nat.le_refl _) rfl λ_=>⟨by simp,c',?_,?_⟩
   ·have Nn:prK K (2*x.1+3)=none:=by
     cases hp:prK K (2*x.1+3)with
     |none=>rfl
     |some y=>obtain⟨b,o,n⟩:=y;have:=(hh.even _ _ _ _ hp).1;omega
    simp only[Gh.hv,hvT];unfold Gh.val Gh.into;simp only[Nn,h4];rw[Nat.sub_zero,oGE ZH,oGE (by omega)]at h5
    injection h5 with h5
    rw[oGD,List.getElem?_append_left (by omega),oGE (by omega),h5];rfl
   ·have:bM (M.into w G (prK K) N) ⟨dt 0 (argTs 0 vals),ceK K++ceO ow,[]⟩ [] (2*x.1+3) 0=.ow c':=by
     rw[bG (by show 2*x.1+3≠1;omega)];simp[St.c,h8]
    rw[this];rfl
  ·simp only[argT]
   have e:asq[i]=.pointer (some ad0):=by
    rw[oGE ZH]at x4;injection x4
   rw[e]
   have NL:x.1.i=i:=by omega
   rw[NL]at x5 Pq
   have Y6:(⟨x.2.block,x.2.off+0,none⟩:Addr)=x.2:=by
    obtain⟨g,ad⟩:=x;obtain⟨b,o,s⟩:=ad;simp only at x6⊢;subst x6;rfl
   have hcell:bM (M.into w G (prK K) N) ⟨dt 0 (argTs 0 vals),ceK K++ceO ow,[]⟩ [] (2*i+2) 0=x.1.cells.getD 0 .dead:=by
    rw[bG (by show 2*i+2≠1;omega)];simp only[St.c,jC,Pq]
   refine .ptr (λ_=>0) (λ_=>Nat.le_refl _) (by simp[fa,List.replicate_succ,List.map_const']) λ_=>?_
   cases hp with
   |nil=>
    refine⟨by simp,x.2,(bM (M.into w G (prK K) N) ⟨dt 0 (argTs 0 vals),ceK K++ceO ow,[]⟩ [] (2*i+2) 0),?_,by rw[x7 rfl],rfl⟩;unfold Gh.addr Gh.into;simp only[x5];rw[Y6]
   |cons h1 hs=>
    obtain⟨x9,t0,x10⟩:=x8 (by simp);refine⟨by simp,ad0,t0,?_,rfl,by show bJ (bM _ _ [] (2*i+2) 0) (h1::hs)=_;rw[hcell];exact x10⟩;show ca w (Gh.val _ w (2*i+2) 0) (h1::hs)=some ad0;unfold Gh.val Gh.into;simp only[x5];exact x9
end
theorem vg{α:Type}{f:GP×Addr->List α}{K:List (GP×Addr)}(hf:∀x∈K,(f x).length=x.1.cells.length){r b o n:Nat}(h:prK K r=some (b,o,n)):∃x∈K,r=2*x.1.i+2/\b=x.2.block/\o=x.2.off/\n=x.1.cells.length/\bO (K.map λx=>(2*x.1.i+2,f x)) r=some (f x)/\∀j,j<n->(K.flatMap f)[bsK K r+j]?=(f x)[j]?:=by
 induction K with
 |nil=>simp[prK]at h
 |cons y K ih=>
  obtain⟨g,ad⟩:=y;simp only[prK]at h;split at h
  ·rename_i e
   injection h with h
   injection h with h1 h
   injection h with h2 h3
   have hl:=hf (g,ad) (by simp);simp only at hl;refine⟨(g,ad),by simp,e.symm,h1.symm,h2.symm,h3.symm,by simp[bO,e],λj hj=>?_⟩;simp only[bsK,e,if_true,Nat.zero_add];exact List.getElem?_append_left (by omega)
  ·rename_i e;obtain⟨x,h1,h2,h3,h4,h5,h6,h7⟩:=ih (λx hx=>hf x (by simp[hx])) h;have hl:=hf (g,ad) (by simp);simp only at hl;refine⟨x,by simp[h1],h2,h3,h4,h5,by simpa[bO,e]using h6,λj hj=>?_⟩;simp only[bsK,e,if_false,List.flatMap_cons];rw[List.getElem?_append_right (by omega)];rw[show g.cells.length+bsK K r+j-(f (g,ad)).length=bsK K r+j by omega];exact h7 j hj
theorem IE{K:List (GP×Addr)}(ZR:iC (K.map λx=>x.1.i)=true){j:Nat}(h:j<(fN K).length):∃r b o n t,prK K r=some (b,o,n)/\t<n/\j=bsK K r+t:=by
 induction K generalizing j with
 |nil=>simp[fN]at h
 |cons y K ih=>
  obtain⟨g,ad⟩:=y;simp only[List.map_cons,iC,oBA,Bool.not_eq_true',List.contains_eq_mem,decide_eq_false_iff_not]at ZR;simp only[fN,List.flatMap_cons,List.length_append]at h;by_cases hj:j<g.cells.length
  ·exact⟨2*g.i+2,ad.block,ad.off,g.cells.length,j,by simp[prK],hj,by simp[bsK]⟩
  ·obtain⟨r,b,o,n,t,h1,h2,h3⟩:=ih ZR.2 (j:=j-g.cells.length) (by simp only[fN];omega)
   have hne:2*g.i+2≠r:=λe=>by
    obtain⟨x,x1,x2,_⟩:=gb h1;exact ZR.1 (List.mem_map.2 ⟨x,x1,by omega⟩)
   exact⟨r,b,o,n,t,by simp[prK,hne,h1],h2,by simp[bsK,hne];omega⟩
def RWs(w:World):List (GP×Addr)->World->World
 | [],W=>W
 |x::K,W=>RWs w K (dU w W x.2.block)
theorem EV{w:World}{K:List (GP×Addr)}:∀{W:World},(RWs w K W).heap.size=W.heap.size:=by
 induction K with
 |nil=>intro W;rfl
 |cons x K ih=>intro W;simp[RWs];rw[ih,iA]
theorem t7{w:World}{K:List (GP×Addr)}:∀{W:World},(RWs w K W).os=W.os/\(RWs w K W).tape=W.tape/\(RWs w K W).output=W.output:=by
 induction K with
 |nil=>intro W;exact⟨rfl,rfl,rfl⟩
 |cons x K ih=>
  intro W;simp[RWs];have ⟨r1,r2,r3,_⟩:=od (w:=w) (W:=W) (b:=x.2.block)
  simp_all
theorem IO{w:World}{K:List (GP×Addr)}{k:Nat}:∀{W:World},(∀x∈K,k≠x.2.block)->(RWs w K W).heap[k]?=W.heap[k]?:=by
 induction K with
 |nil=>intro W h;rfl
 |cons x K ih=>
  intro W h;simp[RWs];rw[ih λy hy=>h y (by simp[hy]),kO (h x (by simp))]
theorem EW{w:World}{K:List (GP×Addr)}{k:Nat}(h2:k<w.heap.size):∀{W:World},k<W.heap.size->W.heap[k]?=w.heap[k]?->(RWs w K W).heap[k]?=w.heap[k]?:=by
 induction K with
 |nil=>intro W h1 h;exact h
 |cons x K ih=>
  intro W h1 h;refine ih (by rw[iA];exact h1) ?_;by_cases e:k=x.2.block
  ·rw[<- e];exact nL h1 h2
  ·rw[kO e];exact h
theorem IP{w:World}{K:List (GP×Addr)}{k:Nat}(h2:k<w.heap.size):∀{W:World},k<W.heap.size->(∃x∈K,k=x.2.block)->(RWs w K W).heap[k]?=w.heap[k]?:=by
 induction K with
 |nil=>simp_all
 |cons x K ih=>
  intro W h1 h;simp[RWs];have ⟨y,hy,e⟩:=h;rcases List.mem_cons.1 hy with rfl|hy
  ·exact EW h2 (by rw[iA];exact h1) (by rw[e];rw[e]at h1 h2;exact nL h1 h2)
  ·exact ih (by rw[iA];exact h1) ⟨y,hy,e⟩
section
variable {P:Program} {M:Fm} {σ σ':St} {H:List TV} {xs:List Value} {ts:Array Value} {w:World} {G:Gh} {a:Act} {o:Oper}
theorem BA{p:bA}{t:TV}(h:(oI p t).run σ=some ((),σ')){r:Nat}(hr:r≠p.root)(o n:Nat):fa σ'.v r o n=fa σ.v r o n:=by
 unfold oI at h;simp only[SP.run]at h
 have bump:∀{vr:List (Key×Nat)},σ'.vr=vr->(∀q,lH vr q=lH σ.vr q+if(p.root,p.off,p.hops.length+1)=q then 1 else 0)->fa σ'.v r o n=fa σ.v r o n:=by
  intro vr e hv
  have YD:∀q,σ'.v q=σ.v q+if(p.root,p.off,p.hops.length+1)=q then 1 else 0:=λq=>by unfold St.v;rw[e];exact hv q
  rw[fP]
  have hne:∀o' d,((p.root,p.off,p.hops.length+1):Key)≠(r,o',d):=λo' d e=>by
   simp_all
  simp_all
 cases hg:bJ (σ.c p.root p.off) p.hops with
 |none=>simp[hg,SP.run]at h
 |some old=>
  simp only[hg]at h;split at h
  ·split at h
   ·obtain⟨l,hl,ho,h3⟩:=bL h;simp only[SP.run,oSJ,oPJ,true_and]at h3;exact bump (vr:=jP σ.vr (p.root,p.off,p.hops.length+1)) (by rw[<- h3]) λq=>dw _ _ _
   ·simp[SP.run]at h
  ·obtain⟨l,hl,ho,h3⟩:=bL h;simp only[SP.run,oSJ,oPJ,true_and]at h3
   have hv:σ'.v=σ.v:=by rw[<- h3];rfl
   rw[hv]
theorem BC:∀{l:List TV}{p:bA}{σ σ':St},(putL p l).run σ=some ((),σ')->∀{r:Nat},r≠p.root->∀o n,fa σ'.v r o n=fa σ.v r o n:=by
 intro l
 induction l with
 |nil=>
  intro p σ σ' h r hr o n;simp[putL,SP.run]at h;rw[h]
 |cons t l ih=>
  intro p σ σ' h r hr o n;have ⟨_,σ1,h1,h2⟩:=bn h;rw[<- BA h1 hr o n]
  cases l with
  |nil=>
   simp[SP.run]at h2;rw[h2]
  |cons t2 l=>
   simp only at h2;split at h2
   ·exact ih h2 (by rw[cA];exact hr) o n
   ·simp[SP.run]at h2
theorem uD:∀{q:List (GP×List TV)}{σ σ':St},(putBack q).run σ=some ((),σ')->∀{r:Nat},(∀x∈q,r≠x.1.p.root)->∀o n,fa σ'.v r o n=fa σ.v r o n:=by
 intro q
 induction q with
 |nil=>
  intro σ σ' h r hr o n;simp[putBack,SP.run]at h;rw[h]
 |cons x q ih=>
  intro σ σ' h r hr o n;have ⟨g,l⟩:=x;have ⟨_,σ1,h1,h2⟩:=bn h;split at h2
  ·rw[BC h2 (hr (g,l) (by simp)) o n];exact ih h1 (λx hx=>hr x (by simp[hx])) o n
  ·simp[SP.run]at h2
def Seg(w W:World)(x:GP×Addr)(vs:List Value):Prop:=
 ∃cur0 cur e fz,w.heap[x.2.block]?=some (.cells cur0 e fz)/\W.heap[x.2.block]?=some (.cells cur e fz)/\cur.size=cur0.size/\(∀j,(j<x.2.off\/x.2.off+vs.length<=j)->cur[j]?=cur0[j]?)/\∀j (h:j<vs.length),cur[x.2.off+j]?=some vs[j]
theorem zq{f:GP×Addr->List TV}{v:GP×Addr->List Value}(MR:∀x,(f x).length=(v x).length):∀{K:List (GP×Addr)}{σ σ':St}{H0:List TV}{x0:List Value}{W:World}{G:Gh},H0.length=x0.length ->
 Inv M σ (H0++K.flatMap f) (x0++K.flatMap v) ts (RWs w K W) G->(∀x∈K,Seg w W x (v x))->(∀x∈K,f x≠[])->(∀x∈K,∀y∈K,x.2.block=y.2.block->x=y)->iC (K.map λx=>x.1.p.root)=true ->
 (∀x∈K,x.1.p.root≠1/\G.addr (RWs w K W) x.1.p=some x.2/\∃t,bJ (bM M σ (H0++K.flatMap f) x.1.p.root x.1.p.off) x.1.p.hops=some t)->
 (putBack (K.map λx=>(x.1,f x))).run σ=some ((),σ')->∃G',Inv M σ' H0 x0 ts W G'/\σ'.tm=σ.tm/\fJ M (RWs w K W) σ (H0++K.flatMap f) G W σ' H0 G'/\G'.β=G.β:=by
 intro K
 induction K with
 |nil=>
  intro σ σ' H0 x0 W G V7 hI _ _ _ _ _ hr;simp only[List.map_nil,putBack,SP.run,oSJ,oPJ,true_and]at hr;subst hr;have hI:Inv M σ (H0++[]) (x0++[]) ts W G:=hI;rw[List.append_nil,List.append_nil]at hI;refine⟨G,hI,rfl,?_,rfl⟩;show fJ M W σ (H0++[]) G W σ H0 G;rw[List.append_nil];exact fJ.refl _ _ _ _ _
 |cons x K ih=>
  intro σ σ' H0 x0 W G V7 hI Ti hne Vd ZR Z2 hr;simp only[List.map_cons,putBack]at hr;obtain⟨_,σ1,h1,h2⟩:=bn hr;split at h2
  case isFalse=>simp[SP.run]at h2
  rename_i Yz;simp at Yz;simp only[List.map_cons,iC,oBA,Bool.not_eq_true',List.contains_eq_mem,decide_eq_false_iff_not]at ZR;have Pf:∀y∈K,y.1.p.root≠x.1.p.root:=λy hy e=>ZR.1 (by rw[<- e];exact List.mem_map.2 ⟨y,hy,rfl⟩)
  have P3:∀y∈K,x.2.block≠y.2.block:=λy hy e=>by
   have:=Vd x (by simp) y (by simp[hy]) e;exact Pf y hy (by rw[this])
  have ZE:Inv M σ ((H0++f x)++K.flatMap f) ((x0++v x)++K.flatMap v) ts (RWs w K (dU w W x.2.block)) G:=by
   simpa[RWs,List.append_assoc]using hI
  obtain⟨G1,hI1,Q1,O1,hβ1⟩:=ih (W:=dU w W x.2.block) (by simp[V7,MR]) ZE (λy hy=>by
   obtain⟨cur0,cur,e,fz,s1,s2,s3⟩:=Ti y (by simp[hy])
   exact⟨cur0,cur,e,fz,s1,by rw[kO (Ne.symm (P3 y hy))];exact s2,s3⟩) (λy hy=>hne y (by simp[hy])) (λy hy z hz=>Vd y (by simp[hy]) z (by simp[hz])) ZR.2
   (λy hy=>by have:=Z2 y (by simp[hy]);simpa[RWs,List.append_assoc]using this) h1
  obtain⟨Z7,ha,t0,Z4⟩:=Z2 x (by simp)
  have XF:=uD h1 (r:=x.1.p.root) (λy hy=>by
   obtain⟨z,hz,rfl⟩:=List.mem_map.1 hy
   exact Ne.symm (Pf z hz)) x.1.p.off x.1.p.hops.length
  obtain⟨t1,TH,OR⟩:=O1.keeps.ptr x.1.p x.2 t0 Z7 XF (by simpa[RWs]using ha) (by simpa[List.append_assoc]using Z4)
  have X6:(H0++f x).drop H0.length=f x:=by simp
  obtain⟨_,G2,H2,ZY,e1,e2,e3,e4,e5,e6⟩:=wd (k:=H0.length) hI1 Z7 TH X6 (hne x (by simp)) (λj hj hk=>by
   intro e
   have ZT:j-H0.length<(f x).length:=by simp at hj;omega
   have:(H0++f x)[j]=(f x)[j-H0.length]:=by rw[List.getElem_append_right hk]
   rw[this]at e;have:=Yz.2 _ (List.getElem_mem ZT);rw[e]at this
   simp[yh]at this) h2
  obtain⟨cur0,cur,e,fz,s1,s2,s3,s4,s5⟩:=Ti x (by simp)
  have TU:(x0++v x).drop H0.length=v x:=by rw[V7];simp
  rw[TU,oG s1 s2 s3 s4 s5]at ZY e5;obtain⟨Ye,e7⟩:=ZY.trunc (k:=H0.length) e2
  have hT:H2.take H0.length=H0:=by
   apply List.ext_getElem
   ·simp[e1]
   ·intro j hj ZT;rw[List.getElem_take];rw[e3 j (by rw[e1];simp;omega) (by simp;omega) ZT];rw[List.getElem_append_left ZT]
  have hX:(x0++v x).take H0.length=x0:=by rw[V7];simp
  rw[hT]at Ye e7;rw[hX]at Ye;refine⟨G2,Ye,e4.trans Q1,?_,e6.trans hβ1⟩;have hm2:fJ M (dU w W x.2.block) σ1 (H0++f x) G1 W σ' H0 G2:=⟨e5.size,by rw[e7];exact e5.keeps,e5.heap,e5.free⟩;have:=O1.trans hm2;simpa[RWs,List.append_assoc]using this
end
def gt(P:Program)(f:FuncId):Prop:=∀args w,(callFunc f args).run P w=.ok (.enter f args) w
theorem je{P:Program}{f:FuncId}{fn:Func}{c:Code}(hf:P.funcs[f]?=some fn)(UP:(fn.name=="runtime.NumGoroutine")=false)(hb:fn.body=some c):gt P f:=by
 intro args w;unfold callFunc
 simp_all
def I5(M:Fm)(res:pt)(v:Value)(σ2:St)(w2:World):Prop:=
 (∃ys ts2 G2,v=g8 res.sh ys/\Inv M σ2 res.cells ys ts2 w2 G2/\∀j (h:j<res.cells.length),bW res.cells[j]=true\/gS res.cells[j]=true)\/
 ∃q vs l pv ts2 G2,res.cells=.ptr q vs::l/\(∃sh,res.sh=.ptr::sh)/\l.all vB=true/\v=rQ pv (l.map unV)/\Inv M σ2 [] [] ts2 w2 G2/\IQ w2 (bM M σ2 []) G2 q pv
def dg(P:Program)(F:cu):Prop:=
 ∀f vals pts res Zw,F f vals pts=some (res,Zw)->gt P f/\∃N,vals.length<=N/\∀(M:Fm)(asq:List Value)(w:World)(G:Gh),asq.length=vals.length->M.N=N->M.w0=w->(∀r,M.pr r≠none->∃i p vs,vals[i]?=some (.ptr p vs)/\r=2*i+2)->
  Inv M (mkSt vals pts) [] [] (asq.toArray++Array.replicate (N-asq.length) undef) w G ->
  Calls P f asq.toArray w λe w2=>∃v σ2,e=.returned v/\I5 M res v σ2 w2/\Zw=pts.map λx=>(x.1,(bO σ2.ce x.1).getD [])
def ua(P:Program)(E:Env):Prop:=
 ∀f n tm,E.box f=some (n,tm)->gt P f/\(∀x,.val x∈tm->dZ x=true)/\∃ty,∀(asq:List Value)(w:World),asq.length=n->(∀y∈tm.map (bxV asq),y.oneCell'=true)->
  Calls P f asq.toArray w λe w'=>e=.returned (.pointer (some ⟨w.heap.size,0,none⟩))/\w'=w.alloc (.cells (tm.map (bxV asq)).toArray ty)
def Ao(z:Int):Value:=.int .i64 z
def Hs(k:Nat)(a:Option Addr)(m cap:Nat):Value:=if k=1 then .tuple #[]else .slice a m cap
def EU(P:Program)(k:Nat)(f:FuncId):Prop:=gt P f /\
 (∀a w,Calls P f #[.slice a 0 0] w λe w'=>e=.returned (Hs k a 0 0)/\w'=w)/\
 ∀b cap zs w,zs≠[]->zs.length<4611686018427387904->zs.length<=cap->cap<=maxLen->b<w.heap.size->(∀j,j<zs.length->w.cell? ⟨b,j,none⟩=some (Ao (zs.getD j 0))/\w.frozen? ⟨b,j,none⟩=false)->
  Calls P f #[.slice (some ⟨b,0,none⟩) zs.length cap] w λe w'=>e=.returned (Hs k (some ⟨b,0,none⟩) (rowN zs) cap)/\w'.os=w.os/\w'.tape=w.tape/\w'.output=w.output/\w.heap.size<=w'.heap.size/\∀j,j<w.heap.size->w'.heap[j]?=(w.setCells b 0 ((pK k zs).map Ao)).heap[j]?
def rC(P:Program)(E:Env):Prop:=ua P E/\∀f,E.row f≠0->EU P (E.row f) f
theorem yF{P:Program}{E:Env}(h:ua P E)(hr:∀f,E.row f=0:=by exact λ_=>rfl):rC P E:=⟨h,λf hf=>absurd (hr f) hf⟩
theorem rC.box{P:Program}{E:Env}(h:rC P E):ua P E:=h.1
def kp:Op->TOp->Prop
 |.call ⟨.value f,args,_⟩,.call _ f' args'=>bq f=some f'/\args'.length=args.size/\∀j (h:j<args'.length)(h':j<args.size),bq args[j]=some args'[j].2
 |_,_=>False
def G6:TOp:=.call false (.c undef) []
def eu(op:Op)(t:TOp):Prop:=t=G6\/kp op t
section
variable {P:Program} {M:Fm} {σ σ':St} {H:List TV} {xs:List Value} {ts:Array Value} {w:World} {G:Gh} {a:Act} {o:Oper}
theorem vu:∀{l:List TV}{i:Nat},(argTs i l).length=l.length:=by
 intro l
 induction l with
 |nil=>intro i;rfl
 |cons t l ih=>intro i;simp[argTs,ih]
theorem Bb{F:Nat->Prop}{V:Vs}{C:Cs}:∀{sh:List RSh}{l:List TV}{ys:List Value},jX sh l.length=true->l.length=ys.length->(∀j (h:j<l.length),TmR w F V C G l[j] (ys.getD j undef))->
 (ff sh l).length=(dE sh ys).length/\∀j (h:j<(ff sh l).length),TmR w F V C G (ff sh l)[j] ((dE sh ys).getD j undef):=by
 intro sh
 induction sh with
 |nil=>intro l ys _ _ _;exact⟨rfl,λj h=>by simp[ff]at h⟩
 |cons s sh ih=>
  intro l ys hs hl ht
  cases s with
  |one=>
   simp only[jX,oBA,oDE]at hs
   cases l with
   |nil=>simp at hs
   |cons t l=>
    cases ys with
    |nil=>simp at hl
    |cons y ys=>
     obtain⟨e,h2⟩:=ih (l:=l) (ys:=ys) (by simpa using hs.2) (by simpa using hl) λj h=>by have:=ht (j+1) (by simpa using h);simpa using this
     refine⟨by simp[ff,dE,e],λj h=>?_⟩
     cases j with
     |zero=>have:=ht 0 (by simp);simpa[ff,dE]using this
     |succ j=>have:=h2 j (by simpa[ff]using h);simpa[ff,dE]using this
  |agg n=>
   simp only[jX,oBA,oDE]at hs
   obtain⟨e,h2⟩:=ih (l:=l.drop n) (ys:=ys.drop n) (by simpa using hs.2) (by simp[hl]) λj h=>by
    have h':n+j<l.length:=by simp at h;omega
    simp_all
   refine⟨by simp[ff,dE,e],λj h=>?_⟩
   cases j with
   |zero=>
    refine .agg (by simp;omega) λj hj=>?_
    have ZT:j<n/\j<l.length:=by simp at hj;omega
    simp_all
   |succ j=>have:=h2 j (by simpa[ff]using h);simpa[ff,dE]using this
  |ptr=>simp[jX]at hs
theorem ut{F:Nat->Prop}{V:Vs}{C:Cs}{sh:List RSh}{l:List TV}{ys:List Value}(hs:jX sh l.length=true)(hl:l.length=ys.length)(ht:∀j (h:j<l.length),TmR w F V C G l[j] (ys.getD j undef)):TmR w F V C G (mp sh l) (g8 sh ys):=by
 obtain⟨e,h2⟩:=Bb hs hl ht;by_cases h1:∃x,ff sh l=[x]
 ·obtain⟨x,hx⟩:=h1;have ⟨y,hy⟩:∃y,dE sh ys=[y]:=List.length_eq_one_iff.1 (by simp_all)
  have e1:mp sh l=x:=by unfold mp;rw[hx]
  have e2:g8 sh ys=y:=by unfold g8;rw[hy]
  simp_all
 ·have hne:¬ ∃y,dE sh ys=[y]:=λ⟨y,hy⟩=>h1 (List.length_eq_one_iff.1 (by rw[e,hy];rfl))
  have e1:mp sh l=TV.tup (ff sh l):=by
   unfold mp
   simp_all
  have e2:g8 sh ys=Value.tuple (dE sh ys).toArray:=by
   unfold g8
   simp_all
  rw[e1,e2];refine .tup (by simp[e]) λj hj=>?_;have:=h2 j hj
  simp_all
theorem GC{res:pt}{ys:List Value}(hI:Inv M σ res.cells ys ts w G)(hok:∀j (h:j<res.cells.length),bW res.cells[j]=true\/gS res.cells[j]=true)(hs:jX res.sh res.cells.length=true)
 {dst:Option Nat}(hd:∀d,dst=some d->d<M.N)(hr:(landR dst res).run σ=some ((),σ')):∃G',Inv M σ' [] [] (match dst with|some d=>ts.setIfInBounds d (g8 res.sh ys)|none=>ts) w G':=by
 cases dst with
 |none=>
  simp[landR,SP.run]at hr;subst hr;have ⟨G',hg,_⟩:=hI.drop;exact⟨G',hg.1⟩
 |some d=>
  have ⟨l,σ1,h1,h2⟩:=bn hr;have ⟨G1,hI1,_,hl,ht⟩:=mF hI hok h1;simp[wr,SP.run]at h2;subst h2;exact⟨G1,hI1.wrT (hd d rfl) (ut (by simp_all) (by rw[hl];exact hI.hand) ht)⟩
end
def frM(w:World)(N:Nat):Fm:=⟨w,λ_=>True,λ_=>False,λ_=>none,N,λ_ _=>trivial⟩
def frG:Gh:=⟨λ_=>none,λ_ _=>undef,λ_ _ _=>False⟩
theorem jY(l:List TV):∀i k,bO (dt i l) k=if k<i then none else l[k-i]?:=by
 induction l with
 |nil=>intro i k;simp[dt,bO]
 |cons t l ih=>
  simp[dt,bO]
  grind
def vx(w:World)(t:TV)(x:Value):Prop:=∀F V C G,(∀k,F k)->TmR w F V C G t x
theorem fM.plain{w:World}{F:Nat->Prop}{t:TV}{x:Value}(h:fM w F t x):vx w t x:=λ_ _ _ _ hF=>(h.frame (λ_ _ _=>rfl) λk _ _=>hF k).toTm
theorem calls_flat{P:Program}{F:cu}(hF:dg P F){f:FuncId}{vals:List TV}{avs:List Value}{res:pt}{w:World}(h:F f vals []=some (res,[]))(Zq:res.cells.all vB=true)(hl:avs.length=vals.length)
 (hv:∀j (h:j<vals.length)(h':j<avs.length),vx w vals[j] avs[j]):gt P f/\Calls P f avs.toArray w λe w'=>e=.returned (g8 res.sh (res.cells.map unV))/\Below w.heap.size w w':=by
 obtain⟨Zi,N,hN,hc⟩:=hF f vals [] _ _ h;refine⟨Zi,?_⟩;have Zo:∀k,frG.F (frM w N).A k:=λk=>⟨trivial,λ_ _ h=>h,λ_ _ _ _ h=>by simp[frG]at h⟩
 have hst:∀i,(mkSt vals []).t i=vals.getD i .dead:=by
  intro i;simp[St.t,mkSt,jY]
 have hE:∀r o,bM (frM w N) (mkSt vals []) [] r o=.dead:=by
  intro r o;unfold bM;split
  ·simp
  ·rfl
 have hI:Inv (frM w N) (mkSt vals []) [] [] (avs.toArray++Array.replicate (N-avs.length) undef) w frG:=by
  refine⟨⟨λr o=>.inl ⟨hE r o,λ_ h=>h⟩,λ_ _ _ _ h=>by simp[frG]at h,λ_ _ _ _ h=>by simp[frG]at h,λ_ _ _ _ _ _ _ h=>by simp[frG]at h,λ_ _ _ _ h=>by simp[frG]at h,λ_ _ _ _ _ h=>h.elim,λ_ _ _ h=>h.elim⟩,λi=>?_,⟨rfl,rfl,rfl,Nat.le_refl _,λ_ _ _ _=>rfl,λ_ _ _ _ h=>by simp[frM]at h,λ_ _ _ h=>h.elim,λ_ _ _ _ h=>by simp[frG]at h,λ_ h=>by simp[frG]at h⟩,λr l h=>by simp[mkSt,bO]at h,?_,rfl,λj hj=>by simp at hj,λ_ _ _ _ h=>by simp[frG]at h⟩
  ·rw[hst];by_cases hi:i<vals.length
   ·have ZH:i<avs.length:=by omega
    have e1:vals.getD i .dead=vals[i]:=by simp[hi]
    have e2:(avs.toArray++Array.replicate (N-avs.length) undef).getD i undef=avs[i]:=by
     simp[Array.getElem?_append,ZH]
    rw[e1,e2];exact hv i hi ZH _ _ _ frG Zo
   ·have e1:vals.getD i .dead=.dead:=by rw[oGD,oGN (by omega)];rfl
    rw[e1];exact .dead
  ·show(avs.toArray++Array.replicate (N-avs.length) undef).size=N;simp;omega
 refine(hc (frM w N) avs w frG hl rfl rfl (λr hr=>by simp[frM]at hr) hI).mono λe w2 ⟨v,σ2,he,Yn,_⟩=>?_
 rcases Yn with⟨ys,ts2,G2,rfl,ZY,_⟩|⟨q,vs,l,pv,ts2,G2,ZW,_⟩
 rotate_left
 ·rw[ZW]at Zq;simp[vB]at Zq
 have Xi:ys=res.cells.map unV:=by
  have hlen:res.cells.length=ys.length:=ZY.hand;apply List.ext_getElem
  ·rw[List.length_map,hlen]
  ·intro j h1 h2
   have hj:j<res.cells.length:=by omega
   have Wu:=List.all_eq_true.1 Zq res.cells[j] (List.getElem_mem hj)
   have hown:=ZY.hand_own (j:=j) hj (by
    intro e;rw[e]at Wu
    simp[vB]at Wu)
   rw[List.getElem_map]
   have e1:ys.getD j undef=ys[j]:=by simp[oGD,h1]
   rw[e1]at hown
   cases hc:res.cells[j]with
   |v x=>
    rw[hc]at hown
    cases hown with
    |v _ _=>rfl
   |_=>rw[hc]at Wu;simp[vB]at Wu
 subst Xi;exact⟨he,⟨ZY.fram.os,ZY.fram.tape,ZY.fram.output,ZY.fram.size,λk hk=>ZY.fram.old k hk (λh=>h) λ_ _ _ _ h=>by simp[frM]at h⟩⟩
section
variable {P:Program} {M:Fm} {σ σ':St} {H:List TV} {xs:List Value} {ts:Array Value} {w:World} {G:Gh} {a:Act} {o:Oper}
theorem Bq{t t':TV}{x:Value}(hI:Inv M σ H xs ts w G)(hx:TmR w (G.F M.A) σ.v (bM M σ H) G t x)(hr:(see1 t).run σ=some (t',σ')):σ'=σ/\fM w (λ_=>True) t' x:=by
 cases hx with
 |v h=>
  obtain⟨rfl,rfl⟩:=hr;exact⟨rfl,.v h⟩
 |nil=>
  obtain⟨rfl,rfl⟩:=hr;exact⟨rfl,.sl 1 (λ_ _=>.nilFunc) (λi h=>by simp at h) (Nat.le_refl _) (Nat.zero_le _) (λ_=>rfl) (λi j h=>by simp at h) (λi j h=>by simp at h)⟩
 |sl h=>
  obtain⟨rfl,rfl⟩:=hr;exact⟨rfl,h.frame (λ_ _ _=>rfl) λ_ _ _=>trivial⟩
 |dead=>simp[see1,SP.run]at hr
 |ptr=>simp[see1,SP.run]at hr
 |ip=>simp[see1,SP.run]at hr
 |agg=>simp[see1,SP.run]at hr
 |tup=>simp[see1,SP.run]at hr
 |fn=>simp[see1,SP.run]at hr
 |pw=>simp[see1,SP.run]at hr
 | @pk p vs x V0 h0 hv hok=>
  obtain⟨_,σ1,h1,h2⟩:=bn hr;have e1:=(bE h1).1;have e2:=(bE h1).2;subst e1;obtain⟨_,c,ZG,Z4⟩:=hok e2;simp only[SP.run]at h2
  have Z3:p.root≠M.hr:=by
   intro e;rw[e]at h2;rw[hI.hr_dead]at h2;cases hp:p.hops<;>rw[hp]at h2<;>simp[bJ,SP.run]at h2
  obtain⟨u,fp,h4,h5,_⟩:=hI.core.hv_own p Z4 (by simp);rw[bG Z3]at Z4;rw[Z4]at h2;obtain⟨rfl,rfl⟩:=h2;rw[ZG]at h4
  injection h4 with h4
  subst h4;exact⟨rfl,h5.share'.frame (λ_ _ _=>rfl) λ_ _ _=>trivial⟩
theorem Ga:∀{l l':List TV}{ys:List Value},Inv M σ H xs ts w G->l.length=ys.length->(∀j (h:j<l.length),TmR w (G.F M.A) σ.v (bM M σ H) G l[j] (ys.getD j undef))->(seeL l).run σ=some (l',σ')->
 σ'=σ/\l'.length=l.length/\∀j (h:j<l'.length),fM w (λ_=>True) l'[j] (ys.getD j undef):=by
 intro l
 induction l generalizing σ σ' with
 |nil=>
  intro l' ys hI hl _ hr;simp only[seeL,SP.run,oSJ,oPJ]at hr
  simp_all
 |cons t l ih=>
  intro l' ys hI hl ht hr
  cases ys with
  |nil=>simp at hl
  |cons y ys=>
   obtain⟨t',σ1,h1,h2⟩:=bn hr;have ⟨r',σ2,h3,h4⟩:=bn h2;obtain⟨rfl,rfl⟩:=h4;obtain⟨rfl,k1⟩:=Bq hI (by have:=ht 0 (by simp);simpa using this) h1;obtain⟨rfl,k2,k3⟩:=ih hI (by simpa using hl) (λj h=>by have:=ht (j+1) (by simpa using h);simpa using this) h3;refine⟨rfl,by simp[k2],λj h=>?_⟩
   cases j with
   |zero=>simpa using k1
   |succ j=>have:=k3 j (by simpa using h);simpa using this
theorem Gb{t t':TV}{x:Value}(hI:Inv M σ H xs ts w G)(hx:TmR w (G.F M.A) σ.v (bM M σ H) G t x)(hr:(seeA t).run σ=some (t',σ')):σ'=σ/\vx w t' x:=by
 have one:(see1 t).run σ=some (t',σ')->σ'=σ/\vx w t' x:=λh=>by
  obtain⟨e,k⟩:=Bq hI hx h;exact⟨e,k.plain⟩
 cases t with
 |agg l=>
  obtain⟨l',σ1,h1,h2⟩:=bn hr;obtain⟨rfl,rfl⟩:=h2
  cases hx with
  | @agg _ ys hl ht=>
   obtain⟨e,k1,k2⟩:=Ga (ys:=ys.toList) hI (by simp_all) (λj h=>by simp_all) h1;refine⟨e,λF V C G' hF=>.agg (by rw[hl,k1]) λj hj=>?_⟩;have:=k2 j hj
   have e3:ys.getD j undef=ys.toList.getD j undef:=by simp_all
   rw[e3];exact this.plain F V C G' hF
 |ip cs=>
  obtain⟨rfl,rfl⟩:=hr
  cases hx with
  |ip u hc hr=>exact⟨rfl,λF V C G' hF=>.ip u (λj hj=>⟨hF _,(hc j hj).2⟩) λj hj=>(hr j hj).frame (λ_ _ _=>rfl) λk _ _=>hF k⟩
 |fn f cap=>
  simp only[seeA]at hr;split at hr
  ·rename_i hc;obtain⟨rfl,rfl⟩:=hr;rw[List.all_eq_true]at hc
   cases hx with
   |fn hl ht=>exact⟨rfl,λF V C G' hF=>.fn hl λj hj=>(((ht j hj).imC (hc _ (List.getElem_mem hj))).frame (λ_ _ _=>rfl) λk _ _=>hF k).toTm⟩
  ·simp[SP.run]at hr
 |_=>exact one hr
theorem DO:∀{l:List Opd}{l':List Operand}{XJ:List TV}{σ σ':St},Inv M σ [] [] a.tmps w G->l'.length=l.length->(∀j (h:j<l.length)(h':j<l'.length),bq l'[j]=some l[j])->(seeAs l).run σ=some (XJ,σ')->
 σ'=σ/\XJ.length=l.length/\∀j (h:j<XJ.length)(h':j<l'.length),vx w XJ[j] (a.eval l'[j]):=by
 intro l
 induction l with
 |nil=>
  intro l' XJ σ σ' hI hl hc hr;simp[seeAs,SP.run]at hr
  simp_all
 |cons x l ih=>
  intro l' XJ σ σ' hI hl hc hr
  cases l' with
  |nil=>simp at hl
  |cons x' l'=>
   obtain⟨t,σ1,h1,h2⟩:=bn hr;obtain⟨t',σ2,h3,h4⟩:=bn h2;obtain⟨r,σ3,h5,h6⟩:=bn h4;obtain⟨rfl,rfl⟩:=h6;obtain⟨rfl,ht⟩:=cf hI.tmr (by have:=hc 0 (by simp) (by simp);simpa using this) h1;obtain⟨rfl,k1⟩:=Gb hI ht h3;obtain⟨rfl,k2,k3⟩:=ih (l':=l') hI (by simpa using hl) (λj h h'=>by have:=hc (j+1) (by simpa using h) (by simpa using h');simpa using this) h5;refine⟨rfl,by simp[k2],λj h h'=>?_⟩
   cases j with
   |zero=>exact k1
   |succ j=>exact k3 j (by simpa using h) (by simpa using h')
theorem EJ{F:cu}(hF:dg P F){asq:List Value}{vals:List TV}{Zd:FuncId}(hd:∀d,o.dst=some d->d<M.N/\M.pr (2*d+2)=none)(hI1:Inv M σ [] [] a.tmps w G)(hal:asq.length=vals.length)
 (WX:∀j (h:j<vals.length)(h':j<asq.length),vx w vals[j] asq[j])(h2:(callB F o.dst Zd vals).run σ=some ((),σ'))(Zj:gt P Zd->(execOp a.eval o).run P w=.ok (.enter Zd asq.toArray) w):Hf P M σ' a o w:=by
 intro K' Q hK;obtain⟨r,σ1,h3,h4⟩:=bn h2
 have W8:F Zd vals []=some r/\σ1=σ:=by
  cases hq:F Zd vals []with
  |none=>rw[hq]at h3;simp[fK,SP.run]at h3
  |some y=>
   rw[hq]at h3;simp only[fK,SP.run,oSJ,oPJ]at h3
   simp_all
 obtain⟨W8,rfl⟩:=W8;split at h4
 case isFalse=>simp[SP.run]at h4
 rename_i Yz;simp only[oBA,oDE]at Yz;obtain⟨res,Zw⟩:=r;obtain rfl:Zw=[]:=oEN Yz.1.1;obtain⟨Zi,VU⟩:=calls_flat hF W8 Yz.1.2 hal WX;unfold Oper.wp;rw[Zj Zi,Oper.upon_enter];refine VU.mono λe w2 ⟨he,hb⟩=>?_;subst he;simp only;have ZY:=(hI1.grow (w':=w2) (λk hk=>hb.block k hk) hb.size hb.os hb.tape hb.output).1;refine hK (a.put o.dst (g8 res.sh (res.cells.map unV))) w2 G ?_ (fh _ _ _)
 cases hdst:o.dst with
 |none=>
  rw[hdst]at h4;simp only[SP.run,oSJ,oPJ,true_and]at h4;rw[<- h4];exact ZY
 |some d=>
  rw[hdst]at h4;simp only[wr,SP.run,oSJ,oPJ,true_and]at h4;rw[<- h4];refine ZY.wrT (hd d hdst).1 (ut Yz.2 (by simp) λj hj=>?_);have Wu:=List.all_eq_true.1 Yz.1.2 res.cells[j] (List.getElem_mem hj)
  have e1:(res.cells.map unV).getD j undef=unV res.cells[j]:=by simp[oGD,hj]
  rw[e1]
  cases hc:res.cells[j]with
  |v x=>rw[hc]at Wu;exact .v Wu
  |_=>rw[hc]at Wu;simp[vB]at Wu
end
def Hq(p:bA)(vs:List Nat):Nat->List Int->SP Unit
 |_,[]=>.ret ()
 |i,z::r=>(chk p (p.hops.length+1) vs).bind λ_=>(getPl p).bind λt=>match t with
  |.ow c=>if(c.getD i []).length=1 then(putL (p.at_ i 1) [.v (.int .i64 z)]).bind λ_=>Hq p vs (i+1) r else .fail
  |_=>.fail
section
variable {P:Program} {M:Fm} {ts:Array Value}
theorem sy(w:World)(b o:Nat)(v:Value)(r:List Value):w.setCells b o (v::r)=(w.setCells b o [v]).setCells b (o+1) r:=rfl
theorem H5{j:Nat}{p:bA}{vs:List Nat}{b n cap:Nat}(hx:ts.getD j undef=.slice (some ⟨b,0,none⟩) n cap):∀(zs:List Int)(i:Nat){σ σ':St}{w:World}{G:Gh},Inv M σ [] [] ts w G->σ.t j=.pk p vs->i+zs.length<=n->(Hq p vs i zs).run σ=some ((),σ')->
 ∃G',Inv M σ' [] [] ts (w.setCells b i (zs.map λz=>.int .i64 z)) G'/\σ'.tm=σ.tm:=by
 intro zs
 induction zs with
 |nil=>
  intro i σ σ' w G hI ht hn hr;simp only[Hq,SP.run,oSJ,oPJ,true_and]at hr;subst hr;exact⟨G,hI,rfl⟩
 |cons z r ih=>
  intro i σ σ' w G hI ht hn hr;rw[oLC]at hn;simp only[Hq]at hr;obtain⟨_,σ1,h1,h2⟩:=bn hr;have e1:σ1=σ:=(bE h1).1;have e2:=(bE h1).2;subst e1;obtain⟨tt,σ2,h3,h4⟩:=bn h2;obtain⟨e3,hg⟩:=cH h3;have e3:σ2=σ1:=e3;subst e3;obtain⟨G1,g1⟩:=hI.addHand (t:=.v (.int .i64 z)) (x:=.int .i64 z) (.v (λ_ h=>h) rfl);have Zt:=g1.1.tmr j;rw[ht,hx]at Zt
  cases Zt with
  |pk V0 h0 hv h=>
   obtain⟨Z7,c,ZG,ZL⟩:=h e2
   have ZF:bJ (σ2.c p.root p.off) p.hops=some (.ow c):=by rw[bG (by exact Z7)]at ZL;exact ZL
   rw[ZF]at hg
   injection hg with hg
   subst hg;simp only at h4;split at h4
   case isFalse=>simp[SP.run]at h4
   rename_i Y4;obtain⟨_,σ3,h5,h6⟩:=bn h4;obtain⟨fp,hown⟩:=ll g1.1 ZG ZL
   cases hown with
   |nil=>simp at hn
   |ow sz' u f hfp hb hsz hcap hz0 hmax hcur hcell hrec hnb hdis=>
    have hlt:i<c.length:=by omega
    have hlen:c[i].length=1:=by simpa[hlt]using Y4
    have ha:G1.addr w (p.at_ i 1)=some ⟨b,i*1,none⟩:=by
     have:=n7 (sz:=1) ZG hlt;unfold Gh.addr bA.at_;simp only
     obtain⟨hd',tl,Xz⟩:∃hd tl,p.hops++[(i,1,0)]=hd::tl:=by cases p.hops<;>exact⟨_,_,rfl⟩
     rw[Xz];simp only;rw[<- Xz,this];simp
    obtain⟨Zl,G2,H2,ZY,e5,e6,_,e7,_⟩:=wd (k:=0) g1.1 (by exact Z7) ha (by simp) (by simp) (λk hk _=>by simp) h5;have Uf:=ZY.clear (λk hk=>e6 k hk (Nat.zero_le _));obtain⟨G3,Ye,e8⟩:=ih (i+1) Uf (by unfold St.t at ht⊢;rw[e7];exact ht) (by omega) h6;refine⟨G3,?_,e8.trans e7⟩;rw[List.map_cons,sy];simpa using Ye
theorem EH{p:bA}{n:Nat}{σ:St}{vs:List Nat}(h:vs=fa σ.v p.root p.off n):(chk p n vs).run σ=some ((),σ):=by
 unfold chk;rw[SP.run_bind,mw,jy];simp only[oBS];rw[oIP h.symm];rfl
theorem Dp{r o:Nat}{vs:List Nat}:∀(zs:List Int)(pre rest:List (List TV))(σ:St)(l:List TV),bO σ.ce r=some l->l[o]?=some (.ow (pre++rest))->rest.length=zs.length->(∀e∈rest,∃z,e=lU z)->vs=fa σ.v r o 1 ->
 (Hq ⟨r,o,[]⟩ vs pre.length zs).run σ=some ((),{ σ with ce:=cM σ.ce r (l.set o (.ow (pre++zs.map lU))) }):=by
 intro zs
 induction zs with
 |nil=>
  intro pre rest σ l hl ho hlen _ _;obtain rfl:rest=[]:=oEN hlen;obtain⟨h1,h2⟩:=oGS ho
  have e:l.set o (.ow (pre++List.map lU []))=l:=by
   rw[List.map_nil,<- h2,List.set_getElem_self]
  rw[e,nv hl];rfl
 |cons z zs ih=>
  intro pre rest σ l hl ho hlen ZK Vr
  cases rest with
  |nil=>simp at hlen
  |cons e rest=>
   obtain⟨y,rfl⟩:=ZK e (by simp);obtain⟨h1,h2⟩:=oGS ho
   have hc:σ.c r o=.ow (pre++lU y::rest):=by
    unfold St.c;rw[hl];simp only[oGD,ho,Option.getD_some]
   have hg:(getPl (⟨r,o,[]⟩:bA)).run σ=some (.ow (pre++lU y::rest),σ):=by
    unfold getPl;simp only[SP.run,hc,bJ]
   have SK:(pre++lU y::rest).getD pre.length []=lU y:=by
    rw[oGD,List.getElem?_append_right (Nat.le_refl _),Nat.sub_self];rfl
   have YU:∀f:List TV->List TV,(pre++lU y::rest).modify pre.length f=pre++f (lU y)::rest:=by
    intro f;apply List.ext_getElem?;intro k;rw[List.getElem?_modify];rcases Nat.lt_trichotomy k pre.length with h|h|h
    ·rw[List.getElem?_append_left h,List.getElem?_append_left h];simp[show ¬pre.length=k by omega]
    ·subst h;rw[List.getElem?_append_right (Nat.le_refl _),List.getElem?_append_right (Nat.le_refl _),Nat.sub_self];simp
    ·obtain⟨m,hm⟩:∃m,k-pre.length=m+1:=⟨k-pre.length-1,by omega⟩;rw[List.getElem?_append_right (by omega),List.getElem?_append_right (by omega),hm];simp[show ¬pre.length=k by omega]
   have WC:(putL ((⟨r,o,[]⟩:bA).at_ pre.length 1) [.v (.int .i64 z)]).run σ=some ((),{ σ with ce:=cM σ.ce r (l.set o (.ow (pre++lU z::rest))) }):=by
    have RH:bJ (σ.c r o) [(pre.length,1,0)]=some (.v (.int .i64 y)):=by
     rw[hc];simp only[bJ,List.getElem?_append_right (Nat.le_refl _),Nat.sub_self,List.getElem?_cons_zero];rfl
    have hst:dn (σ.c r o) [(pre.length,1,0)] (.v (.int .i64 z))=.ow (pre++lU z::rest):=by
     rw[hc];simp only[dn,YU];rfl
    show((oI ⟨r,o,[(pre.length,1,0)]⟩ (.v (.int .i64 z))).bind λ_=>.ret ()).run σ=_;rw[SP.run_bind]
    have e:(oI ⟨r,o,[(pre.length,1,0)]⟩ (.v (.int .i64 z))).run σ=some ((),{ σ with ce:=cM σ.ce r (l.set o (.ow (pre++lU z::rest))) }):=by
     unfold oI;simp only[SP.run,RH,hst,lT,Bool.or_self,Bool.false_eq_true,if_false,hl,h1,if_true]
    rw[e];rfl
   simp only[Hq];rw[SP.run_bind,EH (by exact Vr)];simp only[oBS];rw[SP.run_bind,hg];simp only[oBS];rw[SK,oIP (show(lU y).length=1 from rfl),SP.run_bind,WC];simp only[oBS];have h3:=ih (pre++[lU z]) rest { σ with ce:=cM σ.ce r (l.set o (.ow (pre++lU z::rest))) } (l.set o (.ow (pre++lU z::rest))) (by rw[bY,oIP rfl]) (by rw[List.getElem?_set_self h1];simp) (by simpa using hlen) (λe he=>ZK e (by simp[he])) Vr;rw[List.length_append,List.length_singleton]at h3;rw[h3];simp only[nw,List.set_set,List.append_assoc,List.singleton_append,List.map_cons]
theorem Ci:∀{c:List (List TV)}{zs:List Int},mN c=some zs->c=zs.map lU:=by
 intro c
 induction c with
 |nil=>intro zs h;simp only[mN,oSJ]at h;subst h;rfl
 |cons e c ih=>
  intro zs h;unfold mN at h;split at h
  ·rename_i h0;cases h0
  ·rename_i z r h0
   injection h0 with h1 h2
   subst h1 h2
   cases h3:mN c with
   |none=>rw[h3]at h;cases h
   |some ys=>
    rw[h3]at h;simp only[oMS,oSJ]at h;subst h;rw[List.map_cons,ih h3];rfl
  ·cases h
theorem Ja{w:World}{F fp:Nat->Prop}{t:TV}{x y:Value}(h:dI w F fp t y)(e:t=.v x):y=x:=by
 cases h<;>cases e;rfl
theorem nZ(zs:List Int):rowN zs<=zs.length:=by
 unfold rowN Lib.compact Lib.compactUpTo;rw[List.length_map];exact Nat.le_trans (List.length_filter_le _ _) (by simp)
theorem jv(k:Nat)(zs:List Int):(pK k zs).length=zs.length:=by
 unfold pK;split
 ·simp
 ·have:=nZ zs;unfold rowN at this;simp;omega
theorem mu:rowN []=0:=Nat.le_zero.1 (nZ [])
theorem xP(k:Nat):pK k []=[]:=oEN (jv k [])
theorem mq(b:Nat)(vs:List Value):∀(o:Nat)(w:World),(w.setCells b o vs).heap.size=w.heap.size:=by
 induction vs with
 |nil=>intro o w;rfl
 |cons v r ih=>
  intro o w;show((w.setCell ⟨b,o,none⟩ v).setCells b (o+1) r).heap.size=_;rw[ih];simp[World.setCell]
theorem Ib{a:Act}{o:Oper}{σ σ':St}{w:World}{G:Gh}{k:Nat}{Zd:FuncId}(hR:EU P k Zd)(hd:∀d,o.dst=some d->d<M.N/\M.pr (2*d+2)=none)(hI:Inv M σ [] [] a.tmps w G){x:Opd}{x':Operand}(hx:bq x'=some x)(hr:((opd x).bind (evRow o.dst k)).run σ=some ((),σ'))
 (Zj:gt P Zd->(execOp a.eval o).run P w=.ok (.enter Zd #[a.eval x']) w):Hf P M σ' a o w:=by
 intro K' Q hK;obtain⟨Zi,hn,hc⟩:=hR;obtain⟨t,σ0,h0,hr⟩:=bn hr;obtain⟨rfl,ht⟩:=cf hI.tmr hx h0
 cases t with
 |pk p vs=>
  simp only[evRow]at hr
  obtain⟨j,LM,X7,hσj⟩:∃j,x=.t j/\a.eval x'=a.tmps.getD j undef/\σ0.t j=.pk p vs:=by
   cases x' with
   |tmp j=>
    simp only[bq,oSJ]at hx;subst hx;simp only[opd,SP.run,oSJ,oPJ]at h0;exact⟨j,rfl,rfl,h0.1⟩
   |_=>
    exfalso;simp only[bq,oSJ,reduceCtorEq]at hx
    try (subst hx
         simp only[opd,SP.run,oSJ,oPJ]at h0
         have h0:=h0.1
         revert h0
         first|exact(λh0=>by cases h0)|(unfold lP bQ;intro h0;split at h0<;>first|cases h0|(split at h0<;>first|cases h0|(split at h0<;>cases h0))))
  rw[X7]at ht Zj;generalize hxv:a.tmps.getD j undef=x at ht Zj;obtain⟨_,σ1,h1,h2⟩:=bn hr;obtain⟨rfl,Vr⟩:=bE h1;obtain⟨r,off,hops⟩:=p
  cases hops with
  |cons h hs=>simp[SP.run]at h2
  |nil=>
   simp only[SP.run]at h2;split at h2
   case h_2=>simp[SP.run]at h2
   rename_i c TK;split at h2
   case h_2=>simp[SP.run]at h2
   rename_i zs YE;have Ud:=Ci YE;split at h2
   case isFalse=>simp[SP.run]at h2
   rename_i U7;obtain⟨l,hl,ho,h3⟩:=bL h2
   cases ht with
   |pk V0 h0 hv h=>
    obtain⟨Z7,c',ZG,ZL⟩:=h Vr
    have ZF:bJ (σ1.c r off) []=some (.ow c'):=by rw[bG (by exact Z7)]at ZL;exact ZL
    rw[TK]at ZF;simp only[bJ,oSJ,TV.ow.injEq]at ZF;subst ZF
    have YB:l[off]?=some (.ow c):=by
     unfold St.c at TK;rw[hl]at TK;rw[oGE ho];simpa[oGD,ho]using TK
    let σ2:St:={ σ1 with ce:=cM σ1.ce r (l.set off (.ow ((pK k zs).map lU))) }
    have fin:∀(w2:World)(G2:Gh)(y:Value),Inv M σ2 [] [] a.tmps w2 G2->(∀d,o.dst=some d->(k=1->y=.tuple #[])/\(k≠1->TmR w2 (G2.F M.A) σ2.v (bM M σ2 []) G2 (.pw ⟨r,off,[]⟩ vs 1 0 (rowN zs)) y))->K' (a.put o.dst y) w2:=by
     intro w2 G2 y ZY hy;have h3:(rowLand o.dst k ⟨r,off,[]⟩ vs (rowN zs)).run σ2=some ((),σ'):=h3;unfold rowLand at h3
     cases hdst:o.dst with
     |none=>
      rw[hdst]at h3;simp only[SP.run,oSJ,oPJ,true_and]at h3;subst h3;exact hK _ w2 G2 ZY (fh _ _ _)
     |some d=>
      rw[hdst]at h3;obtain⟨y1,y2⟩:=hy d hdst;simp only at h3;split at h3
      ·rename_i ZA;simp only[wr,SP.run,oSJ,oPJ,true_and]at h3;subst h3;refine hK _ w2 G2 ?_ (fh _ _ _);rw[y1 ZA];exact ZY.wrT (hd d hdst).1 (.tup (by simp) λj hj=>by simp at hj)
      ·rename_i ZA;simp only[wr,SP.run,oSJ,oPJ,true_and]at h3;subst h3;exact hK _ w2 G2 (ZY.wrT (hd d hdst).1 (y2 ZA)) (fh _ _ _)
    have Q6:vs=fa σ2.v r off 1:=Vr
    have V8:((pK k zs).map lU).length=c.length:=by rw[List.length_map,jv,Ud,List.length_map]
    obtain⟨fp,hown⟩:=ll hI ZG (by rw[bG (by exact Z7)];show bJ (σ1.c r off) []=_;rw[TK];rfl);have hrun:=Zj Zi;unfold Oper.wp;rw[hrun,Oper.upon_enter];by_cases hz:zs=[]
    ·subst hz;obtain rfl:c=[]:=Ud
     have hx:∃ad,x=.slice ad 0 0:=by
      cases hown with
      |nil=>exact⟨_,rfl⟩
      |ow sz u f hfp hb hsz hcap hz0=>rw[hz0 rfl];exact⟨_,rfl⟩
     obtain⟨ad,rfl⟩:=hx
     have hσ:σ2=σ1:=by
      have e:l.set off (.ow ((pK k []).map lU))=l:=by
       obtain⟨_,e⟩:=oGS YB;rw[xP,List.map_nil,<- e,List.set_getElem_self]
      show(⟨σ1.tm,cM σ1.ce r (l.set off (.ow ((pK k []).map lU))),σ1.vr⟩:St)=σ1;rw[e,nv hl]
     refine(hn ad w).mono ?_;rintro e w2 ⟨rfl,rfl⟩;refine fin w2 G _ (by rw[hσ];exact hI) λd Wp=>⟨λZA=>by simp[Hs,ZA],λZA=>?_⟩;rw[hσ];simp only[Hs,ZA,if_false];refine .pw V0 h0 hv λRR=>⟨Z7,[],_,ZG,by rw[bG (by exact Z7)];show bJ (σ1.c r off) []=_;rw[TK];rfl,by rw[mu];simp,ad,0,by rw[mu],by rw[mu];simp,by simp,λ_=>rfl,by simp,λZX=>by rw[mu]at ZX;omega⟩
    ·cases hown with
     |nil=>
      exact absurd (List.map_eq_nil_iff.1 Ud.symm) hz
     | @ow _ _ b cap cur e sz' u f hfp hb hsz hcap hz0 hmax hcur hcell hrec hnb hdis=>
      have hcl:c.length=zs.length:=by rw[Ud,List.length_map]
      have QY:sz'=1:=by
       have h0:0<c.length:=by rw[hcl];exact List.length_pos_iff.2 hz
       have:=hsz 0 h0;rw[<- this]
       have e0:c[0]=lU (zs[0]'(by omega)):=by simp[Ud]
       rw[e0];rfl
      subst QY;have Ua:b<w.heap.size:=(Array.getElem?_eq_some_iff.1 hb).1
      have ZW:∀j,j<zs.length->w.cell? ⟨b,j,none⟩=some (Ao (zs.getD j 0))/\w.frozen? ⟨b,j,none⟩=false:=by
       intro j hj
       have V5:j<c.length:=by omega
       have e1:=hcell j 0 V5 (by omega);have e2:=hrec j 0 V5 (by rw[hsz j V5];omega)
       have e3:c[j]=lU zs[j]:=by simp[Ud]
       have e4:u j 0=Ao (zs.getD j 0):=by
        have e5:(c[j])[0]'(by rw[hsz j V5];omega)=.v (Ao zs[j]):=by simp only[e3,lU,List.getElem_cons_zero,Ao]
        rw[Ja e2 e5];simp[oGD,hj]
       refine⟨?_,frozen_of_row _ _ _ _ _ hb⟩;rw[cell_of_row w b _ _ _ _ hb,<- e4];simpa using e1
      rw[hcl]at hcap ZG⊢;rw[hcl]at Zj;refine(hc b cap zs w hz U7 hcap hmax Ua ZW).mono ?_;rintro ee w2 ⟨rfl,q1,q2,q3,q4,q5⟩;rw[hcl]at hxv
      have QW:=Dp (r:=r) (o:=off) (vs:=vs) (pK k zs) [] c σ1 l hl (by simpa using YB) (by simpa using V8.symm) (λe he=>by
       rw[Ud]at he;obtain⟨z,_,rfl⟩:=List.mem_map.1 he
       exact⟨z,rfl⟩) Vr
      obtain⟨G3,Ye,_⟩:=H5 (j:=j) (b:=b) (n:=zs.length) (cap:=cap) hxv (pK k zs) 0 hI hσj (by rw[jv];omega) QW;have Ye:Inv M σ2 [] [] a.tmps (w.setCells b 0 ((pK k zs).map Ao)) G3:=Ye;have Y3:=mr b ((pK k zs).map Ao) 0 w;have VM:=(Ye.grow (w':=w2) (λm hm=>by rw[mq]at hm;exact q5 m hm) (by rw[mq];exact q4) (by rw[Y3];exact q1) (by rw[Y3];exact q2) (by rw[Y3];exact q3)).1;refine fin w2 G3 _ VM λd Wp=>⟨λZA=>by simp[Hs,ZA],λZA=>?_⟩;simp only[Hs,ZA,if_false];have O':=VM.tmr j;rw[show σ2.t j=.pk ⟨r,off,[]⟩ vs from hσj,hxv]at O'
      cases O' with
      |pk V1 g0 gv g=>
       obtain⟨_,c2,k1,k2⟩:=g Q6
       have k3:c2=(pK k zs).map lU:=by
        rw[bG (by exact Z7)]at k2
        have e:σ2.c r off=.ow ((pK k zs).map lU):=by
         show(match bO (cM σ1.ce r _) r with|some l=>l.getD off .dead|none=>.dead)=_;rw[bY,oIP rfl];simp[oGD,ho]
        simp only[e,bJ,oSJ,TV.ow.injEq]at k2;exact k2.symm
       have hN:=nZ zs;exact .pw V1 g0 gv λ_=>⟨Z7,c2,_,k1,k2,by rw[k3,List.length_map,jv];omega,some ⟨b,0,none⟩,cap,rfl,by omega,hmax,(λh=>by cases h),(λi hi=>by subst k3;simp[lU]),λ_=>⟨b,zs.length,cap,rfl,rfl⟩⟩
 |_=>simp[evRow,SP.run]at hr
end
section
variable {P:Program} {M:Fm} {σ σ':St} {H:List TV} {xs:List Value} {ts:Array Value} {w:World} {G:Gh} {a:Act} {o:Oper}
theorem we:∀{q:List (GP×List TV)}{σ σ':St},(putBack q).run σ=some ((),σ')->∀x∈q,x.2.length=x.1.cells.length:=by
 intro q
 induction q with
 |nil=>simp_all
 |cons y q ih=>
  intro σ σ' h x hx;have ⟨_,σ1,h1,h2⟩:=bn h;split at h2
  ·rename_i Yz;rcases List.mem_cons.1 hx with rfl|hx
   ·simp_all
   ·exact ih h1 x hx
  ·simp[SP.run]at h2
theorem n9.nodup{i:Nat}{vals:List TV}{asq us:List Value}{K:List (GP×Addr)}(h:n9 w i vals asq K us):iC (K.map λx=>x.1.i)=true/\∀x∈K,i<=x.1.i:=by
 induction h with
 |nil=>exact⟨rfl,λx hx=>by simp_all⟩
 |ptr hr hb hs h0 hh hu hc hok h ih=>
  refine⟨?_,λx hx=>?_⟩
  ·simp only[List.map_cons,iC,oBA,Bool.not_eq_true',List.contains_eq_mem,decide_eq_false_iff_not];refine⟨λhm=>?_,ih.1⟩;have ⟨y,hy,e⟩:=List.mem_map.1 hm;have:=ih.2 y hy;omega
  ·rcases List.mem_cons.1 hx with rfl|hx
   ·simp_all
   ·have:=ih.2 x hx;omega
 |arg ha h ih=>exact⟨ih.1,λx hx=>by have:=ih.2 x hx;omega⟩
 |own h ih=>exact⟨ih.1,λx hx=>by have:=ih.2 x hx;omega⟩
theorem Gr{K:List (GP×Addr)}(ZR:iC (K.map λx=>x.1.i)=true):∀x∈K,prK K (2*x.1.i+2)=some (x.2.block,x.2.off,x.1.cells.length):=by
 induction K with
 |nil=>simp_all
 |cons y K ih=>
  intro x hx;simp only[List.map_cons,iC,oBA,Bool.not_eq_true',List.contains_eq_mem,decide_eq_false_iff_not]at ZR;simp[prK];rcases List.mem_cons.1 hx with rfl|hx
  ·simp
  ·rw[oIN]
   ·exact ih ZR.2 x hx
   ·intro e;exact ZR.1 (List.mem_map.2 ⟨x,hx,by omega⟩)
theorem yo{α β:Type}{K:List (GP×Addr)}{f:GP×Addr->List α}{g:GP×Addr->List β}(h:∀x∈K,(f x).length=(g x).length):(K.flatMap f).length=(K.flatMap g).length:=by
 induction K with
 |nil=>rfl
 |cons x K ih=>simp_all
theorem uc{α β:Type}:∀{a:List α}{b c:List β},a.length<=b.length->a.zip (b++c)=a.zip b:=by
 intro a
 induction a with
 |nil=>simp_all
 |cons x a ih=>
  intro b c h
  cases b with
  |nil=>simp at h
  |cons y b=>simp_all
def nu(σ:St)(x:GP×Addr):List TV:=(bO σ.ce (2*x.1.i+2)).getD []
def rz(σ:St)(G:Gh)(w:World)(x:GP×Addr):List Value:=(List.range (nu σ x).length).map (G.val w (2*x.1.i+2))
theorem n9.hands2{vals:List TV}{asq us:List Value}{K:List (GP×Addr)}{N:Nat}{σ2:St}{res ys:_}{ts2:Array Value}{w2:World}{G2:Gh}(h:n9 w 0 vals asq K us)(ZX:∀x∈K,0<x.1.cells.length)
 (h2:Inv (M.into w G (prK K) N) σ2 res ys ts2 w2 G2)(hlen:∀x∈K,(nu σ2 x).length=x.1.cells.length):
 Ft res ys (res++K.flatMap (nu σ2)) (ys++K.flatMap (rz σ2 G2 w2)) (bM (M.into w G (prK K) N) σ2 res) G2 w2 (prK K) (λr=>res.length+bsK K r):=by
 have O0:∀x∈K,(rz σ2 G2 w2 x).length=x.1.cells.length:=λx hx=>by simp[rz,hlen x hx]
 refine⟨?_,λj hj=>⟨by simp;omega,List.getElem_append_left hj,?_⟩,λr b o n hp t ht=>?_,λj hj=>?_,λr b o n r' b' o' n' hp hp' j j' hj ZT e=>Fq _ _ _ _ _ _ _ _ hp hp' j j' hj ZT (by omega)⟩
 ·rw[List.length_append,List.length_append,h2.hand,yo (f:=nu σ2) (g:=rz σ2 G2 w2) λx hx=>by rw[hlen x hx,O0 x hx]]
 ·rw[oGD,oGD,List.getElem?_append_left (by rw[<- h2.hand];exact hj)]
 ·obtain⟨x,x1,x2,x3,x4,x5,x6,x7⟩:=vg hlen hp;obtain⟨y,y1,y2,y3,y4,y5,y6,y7⟩:=vg O0 hp;have Rb:x=y:=nO h.nodup.1 x1 y1 (by omega);subst Rb
  have TS:t<(nu σ2 x).length:=by rw[hlen x x1];omega
  have e1:=x7 t ht;rw[oGE TS]at e1;obtain⟨k1,k2⟩:=oGS e1;refine⟨by rw[List.length_append];omega,by omega,?_,?_⟩
  ·have e2:(res++K.flatMap (nu σ2))[res.length+bsK K r+t]'(by rw[List.length_append];omega)=(K.flatMap (nu σ2))[bsK K r+t]:=by
    rw[List.getElem_append_right (by omega)];congr 1;omega
   rw[e2,k2]
   rw[bG (by have:r≠1:=by omega
             exact this)]
   unfold St.c
   have hb:nu σ2 x=(bO σ2.ce r).getD []:=by rw[x2];rfl
   cases ha:bO σ2.ce r with
   |none=>rw[hb,ha]at TS;simp at TS
   |some l=>
    simp only[hb,ha,Option.getD_some]at TS⊢;simp[TS]
  ·have e3:=y7 t ht;rw[oGD,List.getElem?_append_right (by rw[<- h2.hand];omega)];rw[show res.length+bsK K r+t-ys.length=bsK K r+t by rw[<- h2.hand];omega];rw[e3,x2];simp[rz,TS]
 ·by_cases hj1:j<res.length
  ·exact .inl hj1
  ·right;have hc:(K.flatMap (nu σ2)).length=(fN K).length:=yo hlen;obtain⟨r,b,o,n,t,c1,c2,c3⟩:=IE h.nodup.1 (j:=j-res.length) (by rw[List.length_append]at hj;omega);exact⟨r,b,o,n,t,c1,c2,by omega⟩
theorem BE:∀{l:List TV}{p:bA}{σ σ':St},p.hops=[]->(putL p l).run σ=some ((),σ')->(∀o,o<p.off->σ'.c p.root o=σ.c p.root o)/\∀t (h:t<l.length),σ'.c p.root (p.off+t)=l[t]:=by
 intro l
 induction l with
 |nil=>
  intro p σ σ' _ h;simp only[putL,SP.run,oSJ,oPJ,true_and]at h
  simp_all
 |cons y l ih=>
  intro p σ σ' hp h;obtain⟨r,off,hops⟩:=p;simp only at hp;subst hp;simp only[putL]at h;obtain⟨_,σ1,h1,h2⟩:=bn h
  have Zs:(∀o,o≠off->σ1.c r o=σ.c r o)/\σ1.c r off=y:=by
   obtain⟨old,l1,vr,hg,hl,ho,hσ1,_⟩:=xS h1;subst hσ1;refine⟨λo hne=>?_,?_⟩
   ·simp only[St.c,bY,if_true,hl];simp[List.getElem?_set,Ne.symm hne]
   ·simp only[St.c,bY,if_true];simp[dn,List.getElem?_set,ho]
  cases l with
  |nil=>
   simp only[SP.run,oSJ,oPJ,true_and]at h2;subst h2;refine⟨λo ho=>Zs.1 o (by simp only at ho;omega),λt ht=>?_⟩
   have:t=0:=by simp at ht;omega
   subst this;exact Zs.2
  |cons y2 l=>
   have XQ:(⟨r,off,[]⟩:bA).add 1=⟨r,off+1,[]⟩:=rfl;rw[XQ]at h2;obtain⟨k1,k2⟩:=ih (p:=⟨r,off+1,[]⟩) rfl h2;refine⟨λo ho=>?_,λt ht=>?_⟩
   ·simp only at ho;exact(k1 o (by show o<off+1;omega)).trans (Zs.1 o (by omega))
   ·cases t with
    |zero=>simp_all
    |succ t=>
     have:=k2 t (by simpa using ht);rw[show off+(t+1)=off+1+t by omega];simpa using this
theorem uE{x:GP×Addr}{f:GP×Addr->List TV}(hx:x.1.p.hops=[])(h:(putBack ([x].map λx=>(x.1,f x))).run σ=some ((),σ')):∀t,t<(f x).length->σ'.c x.1.p.root (x.1.p.off+t)=(f x).getD t .dead:=by
 intro t ht;have ⟨_,σ1,h1,h2⟩:=bn h;split at h2
 ·rw[(BE hx h2).2 t ht];simp[ht]
 ·simp[SP.run]at h2
theorem yC{F:cu}(hF:dg P F){asq:List Value}{vals:List TV}{ns:List (Option Nat)}{Zd:FuncId}{σ1:St}{G1:Gh}(hd:∀d,o.dst=some d->d<M.N/\M.pr (2*d+2)=none)(hI1:Inv M σ1 [] [] a.tmps w G1)(hns:ns.length=vals.length)(hal:asq.length=vals.length)
 (WX:∀j (h:j<vals.length)(h':j<asq.length),TmR w (G1.F M.A) σ1.v (bM M σ1 []) G1 vals[j] asq[j])(h2:(callV F o.dst Zd ns vals).run σ1=some ((),σ'))(Zj:gt P Zd->(execOp a.eval o).run P w=.ok (.enter Zd asq.toArray) w):Hf P M σ' a o w:=by
 intro K' Q hK;unfold callV at h2;obtain⟨ow,σ0,Mj,h2⟩:=bn h2;obtain⟨q,σ2,h3,h4⟩:=bn h2
 have WE:(ns.zip vals).length=vals.length:=by simp[hns]
 have UY:(ns.zip vals).map (·.2)=vals:=by
  rw[List.map_snd_zip];omega
 have Pk:∀{σ1:St}{H1:List TV}{G1:Gh},(∀j (h:j<vals.length)(h':j<asq.length),TmR w (G1.F M.A) σ1.v (bM M σ1 H1) G1 vals[j] asq[j])->∀j (h:j<(ns.zip vals).length)(h':j<asq.length),TmR w (G1.F M.A) σ1.v (bM M σ1 H1) G1 (ns.zip vals)[j].2 asq[j]:=λh j h1 h2=>by
  have hj:j<vals.length:=by rw[<- WE];exact h1
  have:=h j hj h2;simpa using this
 obtain⟨zs,G0,Zm,QK,S3⟩:=vH hI1 (by omega) (Pk WX) Mj;obtain⟨us,G2,K,Qm,U4,hrel,Tm⟩:=Eo (asq:=asq) Zm.1 (by omega) (Pk λj h h'=>Zm.tm (WX j h h')) h3;have TP:=En h3;have ZJ:=Zm.trans Qm;rw[UY]at hrel;obtain⟨_,σ3,h5,h6⟩:=bn h4
 have UD:([]:List TV)++ow.map (·.2)++q.flatMap (·.cells)=ow.map (·.2)++fN K:=by rw[<- U4];simp[fN,List.flatMap_map]
 rw[UD,List.nil_append]at ZJ;rw[UD]at Tm;have hz:zs.length=ow.length:=QK.facts.1
 have QN:∀j p vs,vals[j]?=some (.pk p vs)->∃x∈ow,x.1=j:=λj p vs hj=>by
  obtain⟨hjl,M1⟩:=oGS hj
  have XN:j<ns.length:=by omega
  have Rh:(ns.zip vals)[j]?=some (ns[j],.pk p vs):=by
   rw[oGE (by omega)];simp[M1]
  have hn:=TP j _ p vs Rh;rw[hn]at Rh;obtain⟨x,h7,h8⟩:=S3 j p vs Rh;exact⟨x,h7,by omega⟩
 obtain⟨rfl,Nx⟩:=DS ZJ.1 h5;split at h6
 case isFalse=>simp[SP.run]at h6
 rename_i Yz;simp only[oBA,List.all_eq_true,oDE]at Yz;obtain⟨ZR,ZX⟩:=Yz;have WU:∀x∈K,0<x.1.cells.length:=λx hx=>ZX x.1 (by rw[<- U4];exact List.mem_map_of_mem hx)
 have Yd:=λj h h'=>by
  have:=ZJ.tm (WX j h (by omega));simpa using this
 have WN:∀x∈K,x.1.p.root≠1/\G2.addr w x.1.p=some x.2/\(∃t,bJ (bM M σ3 (ow.map (·.2)++fN K) x.1.p.root x.1.p.off) x.1.p.hops=some t)/\((∃o n,G2.β x.1.p.root=some (x.2.block,o,n))\/G2.φ x.1.p.root x.1.p.off x.2.block):=λx hx=>by
  obtain⟨r1,ad,r2,r3,_,r4,r5⟩:=Nx x.1 (by rw[<- U4];exact List.mem_map_of_mem hx) _ (Tm x hx)
  injection r2 with r2
  injection r2 with r2
  subst r2;exact⟨r1,r3,r4,r5⟩
 have hh:=hrel.hands ZJ.1 QK (by rw[U4];exact ZR) WU λx hx=>⟨(WN x hx).1,(WN x hx).2.2.2⟩;obtain⟨r,σ4,h7,h8⟩:=bn h6
 have W8:F Zd (argTs 0 vals) (q.map (λg=>(2*g.i+2,g.cells))++ow.map λx=>(2*x.1+3,[x.2]))=some r/\σ4=σ3:=by
  cases hq:F Zd (argTs 0 vals) (q.map (λg=>(2*g.i+2,g.cells))++ow.map λx=>(2*x.1+3,[x.2]))with
  |none=>rw[hq]at h7;simp[fK,SP.run]at h7
  |some r'=>
   rw[hq]at h7;simp only[fK,SP.run,oSJ,oPJ]at h7;exact⟨by rw[h7.1],h7.2.symm⟩
 obtain⟨W8,rfl⟩:=W8;obtain⟨res,Zw⟩:=r;simp only at h8;split at h8
 case isFalse=>simp[SP.run]at h8
 rename_i U9;simp only[oBA,oDE]at U9;obtain⟨_,σ5,h9,ZM⟩:=bn h8;obtain⟨Zi,N,hN,VU⟩:=hF Zd _ _ _ _ W8;rw[vu]at hN
 have Ta:(q.map (λg=>(2*g.i+2,g.cells))++ow.map λx=>(2*x.1+3,[x.2]))=ceK K++ceO ow:=by rw[<- U4];simp[ceK,ceO]
 have hin:=hrel.enter ZJ.1 QK QN hh Yd (N:=N) (by omega)
 have Uc:=VU (M.into w G2 (prK K) N) asq w (G2.into (prK K) (λr=>ow.length+bsK K r) (owK ow) (zs++us)) (by rw[vu];exact hal) rfl rfl (λr hr=>by
  have hr:prK K r≠none:=hr
  cases hp:prK K r with
  |none=>exact absurd hp hr
  |some y=>
   obtain⟨b,o,n⟩:=y;obtain⟨x,x1,x2,_⟩:=gb hp;obtain⟨_,_,p,vs,s1⟩:=hrel.slot x x1;refine⟨x.1.i,⟨2*x.1.i+2,0,p.hops⟩,List.replicate (p.hops.length+1) 0,?_,x2⟩;rw[vv];have s1:vals[x.1.i]?=some (.ptr p vs):=s1;rw[s1]
   simp[argT]) (by rw[Ta];exact hin)
 have hrun:=Zj Zi;unfold Oper.wp;rw[hrun,Oper.upon_enter];refine Uc.mono λe w2 ⟨v,σc,he,Yn,Tb⟩=>?_;subst he;simp only
 have Rf:q.zip (Zw.map (·.2))=K.map λx=>(x.1,nu σc x):=by
  rw[Tb,Ta,<- U4];simp only[ceK,List.map_append,List.map_map];rw[uc (by simp),List.zip_map'];rfl
 rw[Rf]at h9;have WR:∀x∈K,(nu σc x).length=x.1.cells.length:=λx hx=>we h9 _ (List.mem_map.2 ⟨x,hx,rfl⟩);have Zk:=Gr hrel.nodup.1
 have hlt:∀x∈K,x.2.block<w.heap.size:=λx hx=>by
  obtain⟨cur,e,fz,hb,_⟩:=kY (hh.here _ _ _ _ (Zk x hx) 0 (WU x hx)).1;exact(Array.getElem?_eq_some_iff.1 hb).1
 have Vd:∀x∈K,∀y∈K,x.2.block=y.2.block->x=y:=λx hx y hy e=>by
  have h1:=Zk x hx;have h2:=Zk y hy;rw[<- e]at h2;have:=hh.inj _ _ _ _ _ _ _ h1 h2;exact nO hrel.nodup.1 hx hy (by omega)
 have back:∀{Hc:List TV}{ys:List Value}{ts2:Array Value}{Gc:Gh},Inv (M.into w G2 (prK K) N) σc Hc ys ts2 w2 Gc->∃G4,Inv M σ5 Hc ys a.tmps w2 G4/\G4.β=G2.β:=by
  intro Hc ys ts2 Gc Wm;have Mw:=hrel.hands2 (M:=M) (G:=G2) (N:=N) WU Wm WR;have hsz:w.heap.size<=w2.heap.size:=Wm.fram.size
  obtain⟨G3,Ye,M',hβ3⟩:=ZJ.1.leave hh Wm Mw (w':=RWs w K w2) EV t7.1 t7.2.1 t7.2.2 (λk hk=>IO λx hx=>hk _ _ _ _ (Zk x hx)) (λr b o n hp=>by
   obtain⟨x,x1,x2,x3,_⟩:=gb hp;rw[x3]
   exact IP (hlt x x1) (Nat.lt_of_lt_of_le (hlt x x1) hsz) ⟨x,x1,rfl⟩)
  obtain⟨G4,VM,ND,LH,hβ4⟩:=zq (w:=w) (f:=nu σc) (v:=rz σc Gc w2) (λx=>by simp[rz]) (K:=K) (W:=w2) Wm.hand Ye (λx hx=>by
   have hp:=Zk x hx;obtain⟨hβ,cur0,cur,e,fz,p1,p2,p3,p4⟩:=Wm.fram.par _ _ _ _ hp
   have Uu:(rz σc Gc w2 x).length=x.1.cells.length:=by simp[rz,WR x hx]
   refine⟨cur0,cur,e,fz,p1,p2,p3,λj hj=>p4 j (by rw[Uu]at hj;exact hj),λj hj=>?_⟩;have MN:=Wm.core.boxcell hβ (o:=j) (by omega);obtain⟨Yx,e',Lt,c1,c2,c3⟩:=kY MN;rw[p2]at c1
   injection c1 with c1
   injection c1 with c1 _ _
   subst c1;rw[c3]
   simp[rz]) (λx hx e=>by have h1:=WR x hx;have h2:=WU x hx;rw[e,List.length_nil]at h1;omega) Vd (by rw[<- U4]at ZR;simpa[Function.comp_def]using ZR) (λx hx=>by
   obtain⟨r1,r2,⟨t,r3⟩,_⟩:=WN x hx;obtain⟨t',k1,k2⟩:=M'.keeps.ptr x.1.p x.2 t r1 rfl r2 r3
   exact⟨r1,k1,t',k2⟩) h9
  exact⟨G4,VM,hβ4.trans hβ3⟩
 rcases Yn with⟨ys,ts2,Gc,rfl,Wm,WB⟩|⟨pl,LS,fl,pv,ts2,Gc,ZW,⟨shr,hsh⟩,Zq,rfl,Wm,TQ⟩
 ·obtain⟨G4,VM,_⟩:=back Wm
  have hP:isP res=false:=by
   cases hp:isP res with
   |false=>rfl
   |true=>
    unfold isP at hp;split at hp
    ·rename_i LT p vs l1 e1 e2;have:=WB 0 (by rw[e2];simp);simp[e2,bW,gS]at this
    ·cases hp
  rw[hP]at ZM U9;simp only[Bool.false_eq_true,if_false,Bool.false_or]at ZM U9;obtain⟨G5,Wl⟩:=GC VM WB U9.2 (dst:=o.dst) (λd hd'=>(hd d hd').1) ZM;refine hK (a.put o.dst (g8 res.sh ys)) w2 G5 ?_ (fh _ _ _)
  cases hdst:o.dst with
  |none=>rw[hdst]at Wl;exact Wl
  |some d=>rw[hdst]at Wl;exact Wl
 ·obtain⟨G4,VM,hβ4⟩:=back Wm
  have hP:isP res=true:=by unfold isP;rw[ZW,hsh]
  rw[hP]at ZM;simp only[if_true]at ZM
  have Qg:∃G5,Inv M σ' [] [] (match o.dst with|some d=>a.tmps.setIfInBounds d (rQ pv (fl.map unV))|none=>a.tmps) w2 G5:=by
   cases hdst:o.dst with
   |none=>
    rw[hdst]at ZM;simp only[landP,SP.run,oSJ,oPJ,true_and]at ZM;subst ZM;exact⟨G4,VM⟩
   |some d=>
    rw[hdst,ZW]at ZM;simp only[landP]at ZM;split at ZM
    case h_2=>simp[SP.run]at ZM
    rename_i LR N0 l' g Xp Yr
    injection Xp with Xp Nq
    injection Xp with Xp _
    subst Xp;subst Nq;split at ZM
    case isFalse=>simp[SP.run]at ZM
    rename_i Su;simp only[oBA,beq_iff_eq,List.isEmpty_iff]at Su;obtain⟨Z3,X9⟩:=Su;obtain⟨LP,σ6,Xm,UA⟩:=bn ZM;rw[mw,jy]at Xm
    injection Xm with Xm
    injection Xm with Xm Mi
    subst Xm;subst Mi;simp only[wr,SP.run,oSJ,oPJ,true_and]at UA;subst UA;obtain⟨x,rfl⟩:∃x,K=[x]:=List.length_eq_one_iff.1 (by have:=congrArg List.length U4;simpa using this)
    have Q8:x.1=g:=by simpa using U4
    have Q':x∈[x]:=by simp
    obtain⟨r1,r2,_,_⟩:=WN x Q';have hp:=Zk x Q';obtain⟨hβc,_⟩:=Wm.fram.par _ _ _ _ hp
    have OT:x.1.p.hops=[]:=by rw[Q8];exact X9
    have XY:pl.root=2*x.1.i+2:=by rw[Q8];exact Z3
    obtain⟨b0,o0,n0,hβ0,Sk⟩:∃b0 o0 n0,G4.β x.1.p.root=some (b0,o0,n0)/\x.2=⟨b0,o0+x.1.p.off,none⟩:=by
     rw[hβ4];unfold Gh.addr at r2;rw[OT]at r2;simp only at r2
     cases hb:G2.β x.1.p.root with
     |none=>rw[hb]at r2;simp at r2
     |some y=>
      obtain⟨b0,o0,n0⟩:=y;rw[hb]at r2
      injection r2 with r2
      exact⟨b0,o0,n0,rfl,r2.symm⟩
    have VW:=uE OT h9;refine⟨G4,VM.wrT (hd d hdst).1 (Be (.ptr _ (λ_=>Nat.le_refl _) rfl λ_=>?_) Zq)⟩;rw[<- Q8];obtain⟨_,ad,t,ha,hv,ht⟩:=TQ;refine⟨r1,ad,?_⟩
    have hval:G4.val w2 x.1.p.root (x.1.p.off+pl.off)=Gc.val w2 pl.root pl.off:=by
     unfold Gh.val;rw[hβ0,XY,hβc];simp only[Sk,Nat.add_assoc]
    cases hho:pl.hops with
    |nil=>
     rw[hho]at ht;refine⟨_,?_,hv,rfl⟩;rw[<- ha];unfold Gh.addr;simp only[hho,hβ0,XY,hβc,Sk,Nat.add_assoc]
    |cons h1 hs=>
     rw[hho]at ht;refine⟨t,?_,hv,?_⟩
     ·rw[<- ha];unfold Gh.addr;simp only[hho];rw[hval]
     ·have QG:x.1.p.root≠M.hr:=r1;rw[bG QG]
      have Y0:pl.off<x.1.cells.length:=by
       rcases Nat.lt_or_ge pl.off x.1.cells.length with h|h
       ·exact h
       ·have:=Wm.core.boxc _ _ _ _ hβc pl.off h;rw[XY]at ht;rw[this]at ht;simp[bJ]at ht
      have Zl:=VW pl.off (by rw[WR x Q'];exact Y0)
      have TI:bM (M.into w G2 (prK [x]) N) σc [] pl.root pl.off=(nu σc x).getD pl.off .dead:=by
       rw[XY,bG (by show 2*x.1.i+2≠1;omega)];unfold nu St.c
       cases bO σc.ce (2*x.1.i+2)with
       |none=>simp
       |some l=>rfl
      rw[TI]at ht;rw[Zl];exact ht
  obtain⟨G5,Wl⟩:=Qg;refine hK (a.put o.dst (rQ pv (fl.map unV))) w2 G5 ?_ (fh _ _ _)
  cases hdst:o.dst with
  |none=>rw[hdst]at Wl;exact Wl
  |some d=>rw[hdst]at Wl;exact Wl
theorem jV{Zd:FuncId}{args':Array Operand}{caps:Array Value}{fo:Operand}{U0:Array TypeId}(ho:o.op=.call ⟨.value fo,args',U0⟩)(hv:a.eval fo=.func (.func Zd) #[] caps)(Zi:gt P Zd):
 (execOp a.eval o).run P w=.ok (.enter Zd (args'.map a.eval++caps)) w:=by
 unfold execOp;simp only[resolve];simp[Deferred.ofValue,invoke];have:=Zi (args'.map a.eval++caps) w
 simp_all
theorem Ev{E:Env}(hB:rC P E){asq:List Value}{vals:List TV}{Zd:FuncId}{n:Nat}{tm:List BxC}(P5:E.box Zd=some (n,tm))(hn:vals.length=n){σ1:St}{G1:Gh}(hd:∀d,o.dst=some d->d<M.N/\M.pr (2*d+2)=none)(hI1:Inv M σ1 [] [] a.tmps w G1)(hal:asq.length=vals.length)
 (WX:∀j (h:j<vals.length)(h':j<asq.length),TmR w (G1.F M.A) σ1.v (bM M σ1 []) G1 vals[j] asq[j])(h2:(evBox o.dst tm vals).run σ1=some ((),σ'))(Zj:gt P Zd->(execOp a.eval o).run P w=.ok (.enter Zd asq.toArray) w):Hf P M σ' a o w:=by
 intro K' Q hK;obtain⟨Zi,Zq,ty,VU⟩:=hB.box Zd n tm P5
 cases hdst:o.dst with
 |none=>rw[hdst]at h2;simp[evBox,SP.run]at h2
 |some d=>
  rw[hdst]at h2;obtain⟨MP,Y5⟩:=hd d hdst;simp only[evBox]at h2;obtain⟨l,σ2,h3,h4⟩:=bn h2
  obtain⟨RL,Zs,G2,ZJ⟩:=kM (ys:=tm.map (bxV asq)) hI1 (by simp) (λj h=>by
   have hj:j<tm.length:=by simpa using h
   simp only[List.getElem_map,oGD,List.getElem?_map,oGE hj,oMS,Option.getD_some]
   cases hb:tm[j]with
   |val x=>exact .v (Zq x (by rw[<- hb];exact List.getElem_mem hj))
   |arg i=>
    simp only[bxT,bxV];by_cases hi:i<vals.length
    ·have:=WX i hi (by omega);simpa[hi,show i<asq.length by omega]using this
    ·have:vals.getD i .dead=.dead:=by simp[oGD,oGN (by omega:vals.length<=i)]
     rw[this];exact .dead) h3
  simp only[List.nil_append]at ZJ;obtain⟨G3,Ye,_,hβ⟩:=ZJ.1.newBox (2*d+2) ty (by omega) Y5 (by omega);have Xq:(wr d (.ptr ⟨2*d+2,0,[]⟩ [(σ2.root (2*d+2) l).v (2*d+2,0,0)])).run (σ2.root (2*d+2) l)=some ((),σ'):=h4;simp only[wr,SP.run,oSJ,oPJ,true_and]at Xq;subst Xq;unfold Oper.wp;rw[Zj Zi,Oper.upon_enter];refine(VU asq w (by omega) Zs).mono λe w2 ⟨he,hw⟩=>?_;subst he;subst hw;simp only;refine hK (a.put o.dst (.pointer (some ⟨w.heap.size,0,none⟩))) _ G3 ?_ (fh _ _ _);rw[hdst];refine Ye.wrT MP (.ptr (σ2.root (2*d+2) l).v (λ_=>Nat.le_refl _) (by simp[fa]) λ_=>⟨by show(2*d+2:Nat)≠1;omega,⟨w.heap.size,0,none⟩,_,?_,rfl,rfl⟩);unfold Gh.addr;simp only[hβ]
theorem xL{E:Env}{F:cu}(hB:rC P E)(hF:dg P F):qH P M eu (evCall E F):=by
 intro o t σ σ' a w G hc hd hI hr;rcases hc with rfl|hc
 ·simp[evop,evCall,G6,SP.run]at hr
 cases ho:o.op with
 |call c=>
  rw[ho]at hc;obtain⟨callee,args,U0⟩:=c
  cases callee with
  |value fo=>
   cases t with
   |call k f' args'=>
    simp only[kp]at hc;obtain⟨hf,hlen,WM⟩:=hc;simp only[evop]at hr
    cases f' with
    |f Zd=>
     have SF:fo=.func Zd:=by cases fo<;>simp[bq]at hf;rw[hf]
     have VA:∀Zd,fo=.func Zd->gt P Zd->(execOp a.eval o).run P w=.ok (.enter Zd (args.toList.map a.eval).toArray) w:=λZd SF Zi=>by
      have:=jV (a:=a) (w:=w) ho (by rw[SF];rfl:a.eval fo=.func (.func Zd) #[] #[]) Zi
      have ea:(args.toList.map a.eval).toArray=args.map a.eval:=by apply Array.ext';rw[Array.toList_map]
      rw[ea];simpa using this
     have VA:=VA Zd SF;simp only[evCall]at hr;split at hr
     ·rename_i hrow;obtain⟨r1,r2,r3⟩:=hB.2 Zd hrow
      cases args' with
      |nil=>simp[evRowA,SP.run]at hr
      |cons x args'=>
       cases args' with
       |cons y args'=>simp[evRowA,SP.run]at hr
       |nil=>
        simp only[evRowA]at hr
        have hsz:args.size=1:=by simpa using hlen.symm
        have ea:args.toList.map a.eval=[a.eval args[0]]:=by
         apply List.ext_getElem
         ·simp[hsz]
         ·intro i h1 h2
          have:i=0:=by simp at h2;omega
          subst this;simp
        exact Ib ⟨r1,r2,r3⟩ hd hI (WM 0 (by simp) (by omega)) hr (λZi=>by rw[VA Zi,ea])
     rename_i hrow
     cases k with
     |false=>
      simp only[Bool.false_eq_true,if_false]at hr;obtain⟨vals,σ1,h1,h2⟩:=bn hr;obtain⟨rfl,YK,WX⟩:=DO (l':=args.toList) hI (by simp[hlen]) (λj h h'=>by have:=WM j (by simpa using h) (by simpa using h');simpa using this) h1
      have To:vals.length=args'.length:=by rw[YK];simp
      exact EJ hF hd hI (by simp;omega) (λj h h'=>by have:=WX j h (by simpa using h');simpa using this) h2 VA
     |true=>
     simp only[if_true]at hr;obtain⟨vals,σ1,h1,h2⟩:=bn hr;obtain⟨G1,Z1,YK,WX⟩:=yH (l':=args.toList) hI (by simp[hlen]) (λj h h'=>by have:=WM j (by simpa using h) (by simpa using h');simpa using this) h1;have To:vals.length=args'.length:=YK;split at h2
     ·rename_i x P5;split at h2
      case isFalse=>simp[SP.run]at h2
      rename_i hn;exact Ev hB P5 hn hd Z1.1 (by simp;omega) (λj h h'=>by have:=WX j h (by simpa using h');simpa using this) h2 VA
     ·exact yC hF hd Z1.1 (by simp;omega) (by simp;omega) (λj h h'=>by have:=WX j h (by simpa using h');simpa using this) h2 VA
    |t i=>
     simp only[evCall,SP.run]at hr;split at hr
     case h_2=>simp[SP.run]at hr
     rename_i Zd caps htv;obtain⟨vals,σ1,h1,h2⟩:=bn hr;obtain⟨G1,Z1,YK,WX⟩:=yH (l':=args.toList) hI (by simp[hlen]) (λj h h'=>by have:=WM j (by simpa using h) (by simpa using h');simpa using this) h1;have To:vals.length=args'.length:=YK
     have SF:fo=.tmp i:=by cases fo<;>simp[bq]at hf;rw[hf]
     have Zt:=hI.tmr i;rw[htv]at Zt
     have X7:a.eval fo=a.tmps.getD i undef:=by rw[SF];rfl
     generalize hz:a.tmps.getD i undef=z at Zt X7
     cases Zt with
     | @fn _ _ xs hcl Sy=>
      have VA:gt P Zd->(execOp a.eval o).run P w=.ok (.enter Zd (args.toList.map a.eval++xs.toList).toArray) w:=λZi=>by
       have:=jV (a:=a) (w:=w) ho X7 Zi
       have ea:(args.toList.map a.eval++xs.toList).toArray=args.map a.eval++xs:=by apply Array.ext';simp
       rw[ea];exact this
      have Sv:xs.toList.length=caps.length:=by simpa using hcl
      exact yC hF hd Z1.1 (by simp[CX];omega) (by simp;omega) (λj h h'=>by
       by_cases hj:j<vals.length
       ·have:=WX j hj (by simp;omega);simpa[List.getElem_append_left,hj,List.getElem_append,show j<args.size by omega]using this
       ·have Yg:j-vals.length<caps.length:=by simp at h;omega
        have:=Z1.tm (Sy (j-vals.length) Yg)
        have Uk:¬j<args.size:=by omega
        have e1:args.size=vals.length:=by omega
        simp only[List.getElem_append,hj,dite_false,List.length_map,Array.length_toList,Uk,Array.getElem_toList];simp only[e1]
        have e2:xs.getD (j-vals.length) undef=xs[j-vals.length]:=by simp[Array.getD_eq_getD_getElem?,show j-vals.length<xs.size by omega]
        rw[<- e2]
        exact this) h2 VA
    |_=>simp[evCall,SP.run]at hr
   |_=>simp[kp]at hc
  |_=>cases t<;>simp[kp]at hc
 |_=>rw[ho]at hc;cases t<;>simp[kp]at hc
end
theorem kL{P:Program}{ops:Array Oper}{Q:Exit->Act->World->Prop}{i:Nat}{L:List Nat}{a:Act}{w:World}{o:Oper}{v:Value}(ho:ops[i]?=some o)(hg:o.guard=none)(hrun:(execOp a.eval o).run P w=.ok (.value v) w)(h:wpOps P ops Q L (a.put o.dst v) w):wpOps P ops Q (i::L) a w:=by
 simp[wpOps,ho];rw[oIP (by simp[Region.wanted,hg])];left;unfold Oper.wp;rw[hrun];exact h
structure Df (P:Program)(c rest:Code):Prop where
 ex:∃(i0 i1 i2:Nat)(o0 o1 o2 o3:Oper)(ty ty2 e:TypeId),c=.seq (.region i0 #[o0] false) (.seq (.seq (.region i1 #[o1,o2] false) (.cond (.tmp 4) (.seq (.region i2 #[o3] false) .ret) .skip)) rest)/\
  (o0.dst=some 2/\o0.guard=none/\o0.op=.assign (.const (.slice none 0 0)))/\(o1.dst=some 3/\o1.guard=none/\o1.op=.move (.tmp 0))/\
  (o2.dst=some 4/\o2.guard=none/\o2.op=.binOp .eql ty (.tmp 3) (.const (.slice none 0 0)) ty2)/\(o3.dst=some 2/\o3.guard=none/\o3.op=.assign (.const (.slice none 0 0)))/\P.underlying ty=some (.slice e)
def qt(ts:Array Value)(x:Value)(b:Bool):Array Value:=((ts.setIfInBounds 2 (.slice none 0 0)).setIfInBounds 3 x).setIfInBounds 4 (.bool b)
theorem EG{P:Program}{c rest:Code}(hc:Df P c rest){ad:Option Addr}{n cap:Nat}{ts:Array Value}{w:World}{Q:Exit->Act->World->Prop}(h0:ts.getD 0 undef=.slice ad n cap)(hN:4<ts.size)
 (hnil:ad=none->Q .ret ⟨(qt ts (.slice ad n cap) true).setIfInBounds 2 (.slice none 0 0),[]⟩ w)(ZN:ad≠none->rest.wp P Q ⟨qt ts (.slice ad n cap) false,[]⟩ w):c.wp P Q ⟨ts,[]⟩ w:=by
 obtain⟨i0,i1,i2,o0,o1,o2,o3,ty,ty2,e,rfl,⟨d0,g0,p0⟩,⟨d1,g1,p1⟩,⟨d2,g2,p2⟩,⟨d3,g3,p3⟩,hu⟩:=hc.ex
 have Wk:∀{o:Oper}{a:Act}{x:Operand},(o.op=.assign x\/o.op=.move x)->(execOp a.eval o).run P w=.ok (.value (a.eval x)) w:=λho=>by rcases ho with ho|ho<;>simp[execOp,ho]
 refine wp_seq (wp_region ?_);show wpOps P #[o0] _ [0] _ w;refine kL (o:=o0) rfl g0 (Wk (.inl p0)) ?_;rw[d0];refine wp_seq (wp_seq (wp_region ?_));show wpOps P #[o1,o2] _ [0,1] _ w;refine kL (o:=o1) rfl g1 (Wk (.inr p1)) ?_;rw[d1]
 have e0:(ts.setIfInBounds 2 (.slice none 0 0)).getD 0 undef=.slice ad n cap:=by
  rw[<- h0];simp[Array.getD_eq_getD_getElem?,Array.getElem?_setIfInBounds]
 have e3:((ts.setIfInBounds 2 (.slice none 0 0)).setIfInBounds 3 (.slice ad n cap)).getD 3 undef=.slice ad n cap:=by
  simp[Array.getD_eq_getD_getElem?,Array.getElem?_setIfInBounds,show 3<ts.size by omega]
 have WV:(execOp (Act.mk ((ts.setIfInBounds 2 (.slice none 0 0)).setIfInBounds 3 (.slice ad n cap)) []).eval o2).run P w=.ok (.value (.bool ad.isNone)) w:=by
  have hb:=Lib.run_eql_slice_nil (P:=P) w ty e ad n cap 0 0 hu;have ex:(Act.mk ((ts.setIfInBounds 2 (.slice none 0 0)).setIfInBounds 3 (.slice ad n cap)) []).eval (.tmp 3)=.slice ad n cap:=e3;have ey:∀a:Act,a.eval (.const (.slice none 0 0))=.slice none 0 0:=λ_=>rfl;have hg:(eqGuard .eql ty (.tmp 3) (.const (.slice none 0 0)) (.slice ad n cap) (.slice none 0 0)).run P w=.ok () w:=rfl;simp[execOp,p2,ex,ey,hb,hg]
 refine kL (o:=o2) (v:=.bool ad.isNone) rfl g2 ?_ ?_
 ·show(execOp (Act.mk ((ts.setIfInBounds 2 (.slice none 0 0)).setIfInBounds 3 ((ts.setIfInBounds 2 (.slice none 0 0)).getD 0 undef)) []).eval o2).run P w=_;rw[e0];exact WV
 rw[d2];show(Code.cond (.tmp 4) _ _).wp P _ ⟨((ts.setIfInBounds 2 (.slice none 0 0)).setIfInBounds 3 ((ts.setIfInBounds 2 (.slice none 0 0)).getD 0 undef)).setIfInBounds 4 (.bool ad.isNone),[]⟩ w;rw[e0]
 have e4:∀b,(qt ts (.slice ad n cap) b).getD 4 undef=.bool b:=λb=>by
  unfold qt;simp[Array.getD_eq_getD_getElem?,Array.getElem?_setIfInBounds,hN]
 cases ad with
 |none=>
  refine wp_cond_true (e4 true) (wp_seq (wp_region ?_));show wpOps P #[o3] _ [0] _ w;refine kL (o:=o3) rfl g3 (Wk (.inl p3)) ?_;rw[d3];exact wp_ret (hnil rfl)
 |some ad=>exact wp_cond_false (e4 false) (wp_skip (ZN (by simp)))
def vo(sz:Nat)(b:Bool)(bytes:Nat)(mv fl:Bool)(id:Nat):eC:=
 .seq (.reg id none [⟨some 5,none,.bsl sz b 0 []⟩,⟨some 6,none,.mov (.t 0)⟩,⟨some 7,none,.app sz bytes mv fl (.t 5) (.t 6)⟩,⟨some 2,none,.asn true (.t 7)⟩] ([2],[7])) .ret
def vn(call:Option Nat->TOp->SP Unit)(N:Nat)(tc:eC):Option (List TV×List RSh):=(runC call N tc (mkSt [.sl []] [])).bind λx=>match x.1 with|.exit _=>none|_=>((resF 1 [.tmp 2]).run x.2).map (·.1)
theorem Ad(call:Option Nat->TOp->SP Unit)(N sz:Nat)(b:Bool)(bytes:Nat)(mv fl:Bool)(id:Nat):vn call N (vo sz b bytes mv fl id)=vn (λ_ _=>.fail) 0 (vo sz b bytes mv fl id):=rfl
def pn(tc:eC):Bool:=match vn (λ_ _=>.fail) 0 tc with
 |some ([.ow []],[.one])=>true
 |_=>false
theorem xj{tc:eC}(h:pn tc=true):vn (λ_ _=>.fail) 0 tc=some ([.ow []],[.one]):=by
 unfold pn at h
 grind
end Go.Proofs.Ytakfoejcjdcgbaa
