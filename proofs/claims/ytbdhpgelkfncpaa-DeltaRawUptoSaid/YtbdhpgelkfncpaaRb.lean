/- Part of the proof; no condition. -/
import Derived.Test.YtbdhpgelkfncpaaRa
import Derived.Laws.StructEq
import Derived.Laws.BytesString
import Derived.Laws.NewFold
import Derived.Laws.IdiomCopy
import Derived.LoopN
import Derived.Orders
import Derived.Lib.SliceRun
set_option linter.unusedVariables false
set_option linter.unusedSimpArgs false
namespace Go.Proofs.Ytbdhpgelkfncpaa
open Go.RowKit
def xU(g:TypeId->Option (List FK)):Nat->List Field->Option (List FK)
 |_,[]=>some []
 |off,f::fs=>
  if f.name≠"_"/\f.offset=off then
   match g f.type with
   |some ks=>(xU g (off+ks.length) fs).map (ks++·)
   |none=>none
  else none
def mV(P:Program):Nat->TypeId->Option (List FK)
 |0,_=>none
 |d+1,t=>
  match P.underlying t with
  |some .bool=>some [.b]
  |some (.int _)=>some [.i]
  |some .string=>some [.s]
  |some (.struct fs)=>
   if P.stoodInHeld t then none
   else match xU (mV P d) 0 fs.toList with
    |some ks=>if(P.info? t).map (·.size)=some ks.length then some ks else none
    |none=>none
  |_=>none
theorem Ct{α β:Type}{f:α->β}{o:Option α}{b:β}(h:o.map f=some b):∃a,o=some a/\f a=b:=by
 simp_all
theorem zP:∀{ks:List FK}{xs ys:List Value}{r:Bool},bN ks xs ys=some r->xs.length=ks.length/\ys.length=ks.length:=by
 intro ks
 induction ks with
 |nil=>
  intro xs ys r h;cases xs<;>cases ys<;>simp[bN]at h⊢
 |cons k ks ih=>
  intro xs ys r h
  cases xs with
  |nil=>cases k<;>simp[bN]at h
  |cons x xs=>
   cases ys with
   |nil=>cases k<;>cases x<;>simp[bN]at h
   |cons y ys=>
    cases k<;>cases x<;>cases y<;>simp only[bN]at h<;>first|(simp at h;done)|skip
    ·split at h
     ·obtain⟨r',h1,_⟩:=Ct h;have:=ih h1;simp[this.1,this.2]
     ·simp at h
    ·obtain⟨r',h1,_⟩:=Ct h;have:=ih h1;simp[this.1,this.2]
    ·obtain⟨r',h1,_⟩:=Ct h;have:=ih h1;simp[this.1,this.2]
theorem tN:∀{k1 k2:List FK}{xs ys:List Value}{r:Bool},bN (k1++k2) xs ys=some r ->
 ∃r1 r2,bN k1 (xs.take k1.length) (ys.take k1.length)=some r1/\bN k2 (xs.drop k1.length) (ys.drop k1.length)=some r2/\r=(r1&&r2):=by
 intro k1
 induction k1 with
 |nil=>intro k2 xs ys r h;exact⟨true,r,rfl,h,rfl⟩
 |cons k k1 ih=>
  intro k2 xs ys r h;simp only[List.cons_append]at h
  cases xs with
  |nil=>cases k<;>simp[bN]at h
  |cons x xs=>
   cases ys with
   |nil=>cases k<;>cases x<;>simp[bN]at h
   |cons y ys=>
    have fin:∀(q:Bool)(h:(bN (k1++k2) xs ys).map (q && ·)=some r)(hq:∀X Y,bN (k::k1) (x::X) (y::Y)=(bN k1 X Y).map (q && ·)),∃r1 r2,bN (k::k1) ((x::xs).take (k::k1).length) ((y::ys).take (k::k1).length)=some r1/\bN k2 ((x::xs).drop (k::k1).length) ((y::ys).drop (k::k1).length)=some r2/\r=(r1&&r2):=by
     intro q h hq;obtain⟨r',h1,h2⟩:=Ct h;obtain⟨r1,r2,a1,a2,a3⟩:=ih h1;refine⟨q&&r1,r2,?_,by simpa using a2,by rw[<- h2,a3,Bool.and_assoc]⟩;simp only[oLC,List.take_succ_cons];rw[hq,a1];rfl
    cases k<;>cases x<;>cases y<;>simp only[bN]at h<;>first|(simp at h;done)|skip
    ·split at h
     ·rename_i e;exact fin _ h λX Y=>by simp only[bN,oIP e]
     ·simp at h
    ·exact fin _ h λX Y=>rfl
    ·exact fin _ h λX Y=>rfl
section
variable {P:Program} {w:World}
theorem sf{d D:Nat}{g:TypeId->Option (List FK)}
 (ih:∀t ks,g t=some ks->∀(xs ys:Array Value) off r,bN ks ((xs.toList.drop off).take ks.length) ((ys.toList.drop off).take ks.length)=some r->∃a b,(part t xs off).run P w=.ok a w/\(part t ys off).run P w=.ok b w/\(Op.equalIn D t a b).run P w=.ok r w)(xs ys:Array Value):
 ∀(fs:List Field)(o:Nat)(ks:List FK)(r:Bool),xU g o fs=some ks->bN ks (xs.toList.drop o) (ys.toList.drop o)=some r->(Op.eqFields D xs ys fs).run P w=.ok r w:=by
 intro fs
 induction fs with
 |nil=>
  intro o ks r h he;simp only[xU,oSJ]at h;subst h
  have hr:r=true:=by
   revert he;generalize xs.toList.drop o=X;generalize ys.toList.drop o=Y;intro he;cases X<;>cases Y<;>simp[bN]at he;exact he
  subst hr;rfl
 |cons f fs P9=>
  intro o ks r h he;simp only[xU]at h;split at h
  case isFalse=>simp at h
  rename_i hf;split at h
  case h_2=>simp at h
  rename_i k1 Yf;obtain⟨k2,XJ,rfl⟩:=Ct h;obtain⟨r1,r2,a1,a2,rfl⟩:=tN he;obtain⟨a,b,p1,p2,p3⟩:=ih f.type k1 Yf xs ys o r1 a1;rw[List.drop_drop,List.drop_drop]at a2;have ZL:=P9 (o+k1.length) k2 r2 XJ a2;simp only[Op.eqFields];rw[oIP hf.1,hf.2];simp only[Sem.run_bind,p1,p2,p3,Result.andThen_ok]
  cases r1 with
  |false=>simp
  |true=>simp_all
theorem ET:∀(d:Nat)(t:TypeId)(ks:List FK),mV P d t=some ks->∀D,d<=D->∀(xs ys:Array Value)(off:Nat)(r:Bool),bN ks ((xs.toList.drop off).take ks.length) ((ys.toList.drop off).take ks.length)=some r ->
 ∃a b,(part t xs off).run P w=.ok a w/\(part t ys off).run P w=.ok b w/\(Op.equalIn D t a b).run P w=.ok r w:=by
 intro d
 induction d with
 |zero=>intro t ks h;simp[mV]at h
 |succ d ih=>
  intro t ks h D hD xs ys off r he;obtain⟨D',rfl⟩:∃D',D=D'+1:=⟨D-1,by omega⟩;simp only[mV]at h
  have one:∀(Qi:TypeDesc)(k:FK),P.underlying t=some Qi->(∀f,Qi≠.struct f)->(∀n e,Qi≠.array n e)->ks=[k]->∃x y,xs[off]?=some x/\ys[off]?=some y/\bN [k] [x] [y]=some r/\(part t xs off).run P w=.ok x w/\(part t ys off).run P w=.ok y w:=by
   rintro Qi k hu h1 h2 rfl;obtain⟨l1,l2⟩:=zP he
   obtain⟨x,hx⟩:∃x,xs.toList.drop off=x::(xs.toList.drop (off+1)):=by
    have:off<xs.toList.length:=by simp at l1⊢;omega
    exact⟨_,List.drop_eq_getElem_cons this⟩
   obtain⟨y,hy⟩:∃y,ys.toList.drop off=y::(ys.toList.drop (off+1)):=by
    have:off<ys.toList.length:=by simp at l2⊢;omega
    exact⟨_,List.drop_eq_getElem_cons this⟩
   have We:xs[off]?=some x:=by
    have:=congrArg (λl=>l[0]?) hx;simpa using this
   have S5:ys[off]?=some y:=by
    have:=congrArg (λl=>l[0]?) hy;simpa using this
   rw[hx,hy]at he;exact⟨x,y,We,S5,by simpa using he,by simp[part,jR hu h1 h2,We],by simp[part,jR hu h1 h2,S5]⟩
  split at h
  ·rename_i hu
   injection h with h
   obtain⟨x,y,_,_,e,p1,p2⟩:=one _ .b hu (λ_ h=>by cases h) (λ_ _ h=>by cases h) h.symm;refine⟨x,y,p1,p2,?_⟩;cases x<;>cases y<;>simp[bN]at e;simp[Op.equalIn,run_underlying hu,e]
  ·rename_i k0 hu
   injection h with h
   obtain⟨x,y,_,_,e,p1,p2⟩:=one _ .i hu (λ_ h=>by cases h) (λ_ _ h=>by cases h) h.symm;refine⟨x,y,p1,p2,?_⟩
   cases x<;>cases y<;>simp only[bN]at e<;>first|(simp at e;done)|skip
   rename_i ka a kb b;split at e
   ·rename_i hk;subst hk;simp at e;simp[Op.equalIn,run_underlying hu,e]
   ·simp at e
  ·rename_i hu
   injection h with h
   obtain⟨x,y,_,_,e,p1,p2⟩:=one _ .s hu (λ_ h=>by cases h) (λ_ _ h=>by cases h) h.symm;refine⟨x,y,p1,p2,?_⟩;cases x<;>cases y<;>simp[bN]at e;simp[Op.equalIn,run_underlying hu,e]
  ·rename_i fs hu;split at h
   case isTrue=>simp at h
   rename_i hst;split at h
   case h_2=>simp at h
   rename_i TW Rl;split at h
   case isFalse=>simp at h
   rename_i hsz
   injection h with h
   subst h
   have YI:(sizeOf t).run P w=.ok TW.length w:=by
    unfold sizeOf typeInfo
    cases hi:P.info? t with
    |none=>simp[hi]at hsz
    |some i=>simp[hi]at hsz;simp[hi,hsz]
   have Uo:∀zs:Array Value,(part t zs off).run P w=.ok (.agg (zs.extract off (off+TW.length))) w:=λzs=>by
    simp[part,iW hu (.inl ⟨_,rfl⟩),YI]
   refine⟨_,_,Uo xs,Uo ys,?_⟩
   have Qq:P.fieldsOf t=fs:=by simp[Program.fieldsOf,hu]
   rw[run_equalIn_struct w D' t _ _ (by rw[Qq];exact hu) (by simpa using hst),Qq];refine sf (d:=d) (g:=mV P d) (λt ks h xs ys off r he=>ih t ks h D' (by omega) xs ys off r he) _ _ fs.toList 0 TW r Rl ?_
   have e:∀zs:Array Value,(zs.extract off (off+TW.length)).toList.drop 0=(zs.toList.drop off).take TW.length:=λzs=>by
    simp[List.extract_eq_take_drop]
   rw[e,e];exact he
  ·simp at h
theorem FD{d D:Nat}{t:TypeId}{ks:List FK}{fs:Array Field}(h:mV P (d+1) t=some ks)(hu:P.underlying t=some (.struct fs))(hD:d<=D){xs ys:Array Value}{r:Bool}(he:bN ks xs.toList ys.toList=some r):(Op.equalIn (D+1) t (.agg xs) (.agg ys)).run P w=.ok r w:=by
 simp only[mV,hu]at h;split at h
 case isTrue=>simp at h
 split at h
 case h_2=>simp at h
 rename_i TW Rl;split at h
 case isFalse=>simp at h
 have Qq:P.fieldsOf t=fs:=by simp[Program.fieldsOf,hu]
 rw[run_equalIn_struct w D t _ _ (by simp_all) (by simp_all),Qq];exact sf (d:=d) (λt ks h xs ys off r he=>ET d t ks h D hD xs ys off r he) _ _ fs.toList 0 TW r Rl (by simp_all)
variable {M:Fm} {σ σ':St} {G:Gh} {a:Act} {o:Oper}
theorem Hu{F:Nat->Prop}{V:Vs}{C:Cs}:∀{l:List TV}{vs:List Value},bA l=some vs->vs.length=l.length/\∀j (h:j<l.length)(h':j<vs.length)(x:Value),TmR w F V C G l[j] x->x=vs[j]:=by
 intro l
 induction l with
 |nil=>intro vs h;simp[bA]at h;subst h;exact⟨rfl,λj h=>by simp at h⟩
 |cons t l ih=>
  intro vs h
  cases t with
  |v z=>
   obtain⟨vs',h1,rfl⟩:=Ct h;have ⟨e,h2⟩:=ih h1;refine⟨by simp[e],λj hj ZT x hx=>?_⟩
   cases j with
   |zero=>exact hx.v_inv.1
   |succ j=>exact h2 j (by simp_all) (by simp_all) x hx
  |_=>simp[bA]at h
theorem xP{F:Nat->Prop}{V:Vs}{C:Cs}{l:List TV}{vs:List Value}{x:Value}(h:bA l=some vs)(hx:TmR w F V C G (.agg l) x):x=.agg vs.toArray:=by
 obtain⟨xs,rfl,hl,hj⟩:=Dj hx;obtain⟨e,h2⟩:=Hu h;congr 1;apply Array.ext
 ·simp_all
 ·intro j h1 h3;have:=h2 j (by omega) (by omega) _ (hj j (by omega))
  have e2:xs.getD j undef=xs[j]:=by simp[h1]
  simp_all
theorem D2(hI:Inv M σ [] [] a.tmps w G){d:Nat}(hd:o.dst=some d)(hN:d<M.N){x y:Opd}{x' y':Operand}{op:BinOp}{neg:Bool}{t yt:TypeId}{ks:List FK}{fs:Array Field}(hx:aZ x'=some x)(hy:aZ y'=some y)(ho:o.op=.binOp op t x' y' yt)(hop:(op=.eql/\neg=false)\/(op=.neq/\neg=true))
 (hu:P.underlying t=some (.struct fs))(hk:mV P 50 t=some ks)(Yj:P.eqGuardType P.depth t=false)(hr:(ev1 d (.eqa ks neg x y)).run σ=some ((),σ')):iv P M σ' a o w:=by
 obtain⟨t1,σ1,h1,h2⟩:=aS hr;obtain⟨rfl,ZY⟩:=bP hI.tmr hx h1;obtain⟨t2,σ2,h3,h4⟩:=aS h2;obtain⟨rfl,Xf⟩:=bP hI.tmr hy h3
 cases t1 with
 |agg l1=>
  cases t2 with
  |agg l2=>
   simp only at h4;obtain⟨N4,σ3,h5,h6⟩:=aS h4;obtain⟨e1,rfl⟩:=kw h5;obtain⟨QG,σ4,h7,h8⟩:=aS h6;obtain⟨e2,rfl⟩:=kw h7;obtain⟨r,σ5,h9,ZI⟩:=aS h8;obtain⟨e3,rfl⟩:=kw h9;have ex:=xP e1 ZY;have ey:=xP e2 Xf;have hq:(Op.equalIn 10000 t (.agg N4.toArray) (.agg QG.toArray)).run P w=.ok r w:=FD (d:=49) (D:=9999) hk hu (by omega) (by omega);have hg:(eqGuard op t x' y' (.agg N4.toArray) (.agg QG.toArray)).run P w=.ok () w:=run_eqGuard_agg w op t x' y' _ _ Yj;refine dW hI hd hN (.v rfl) ZI ?_
   rcases hop with⟨rfl,rfl⟩|⟨rfl,rfl⟩
   ·simp[execOp,ho,ex,ey,hg,run_eql_struct,hq]
   ·simp[execOp,ho,ex,ey,hg,run_neq_struct,hq]
  |_=>simp[SP.run]at h4
 |_=>simp[SP.run]at h4
end
section
variable {P:Program} {M:Fm} {σ σ':St} {H:List TV} {xs:List Value} {ts:Array Value} {w:World} {G:Gh} {a:Act} {o:Oper}
theorem CO(mx:Bool)(k:IntKind):∀(r:List Value)(x m:Int),qc mx k x r=some m->(r.foldlM (if mx then Builtin.max2 else Builtin.min2) (.int k x)).run P w=.ok (.int k m) w:=by
 intro r
 induction r with
 |nil=>
  intro x m h;simp[qc]at h
  simp_all
 |cons y r ih=>
  intro x m h
  cases y with
  |int k' b=>
   simp only[qc]at h;split at h
   ·rename_i hk;have:=ih _ _ h
    cases mx with
    |true=>
     simpa[Builtin.max2]using this
    |false=>
     simpa[Builtin.min2]using this
   ·simp at h
  |_=>simp[qc]at h
theorem Iv(hI:Inv M σ [] [] a.tmps w G){d:Nat}(hd:o.dst=some d)(hN:d<M.N){mx:Bool}{l:List Opd}{args:Array Operand}{Uz:Array TypeId}(hc:args.toList.map aZ=l.map some)(ho:o.op=.call { callee:=.builtin (if mx then .max else .min),args:=args,argTypes:=Uz })
 (hr:(ev1 d (.mm mx l)).run σ=some ((),σ')):iv P M σ' a o w:=by
 simp only[ev1]at hr;obtain⟨r,σ1,h1,h2⟩:=aS hr
 obtain⟨rfl,e2,e3⟩:=E6 (R:=λy x'=>y=a.eval x') (λx x' y σ' hx hy=>by
  obtain⟨t,σ2,q1,q2⟩:=aS hy;obtain⟨rfl,ht⟩:=bP hI.tmr hx q1;obtain⟨rfl,rfl⟩:=kr q2
  exact⟨rfl,(ht.v_inv).1.symm⟩) hc h1
 have TP:args.toList.map a.eval=r:=by
  apply List.ext_getElem
  ·simp[e2]
  ·simp_all
 split at h2
 case h_2=>simp[SP.run]at h2
 rename_i k x rest;obtain⟨m,σ2,h3,h4⟩:=aS h2;obtain⟨hm,rfl⟩:=kw h3;refine dW hI hd hN (x:=.int k m) (.v rfl) h4 ?_;have hf:=CO (P:=P) (w:=w) mx k rest x m hm
 cases mx with
 |true=>
  simp only[if_true]at hf ho;simp[execOp,ho,resolve,invoke,builtin,Builtin.max_,TP,hf]
 |false=>
  simp only[Bool.false_eq_true,if_false]at hf ho;simp[execOp,ho,resolve,invoke,builtin,Builtin.min_,TP,hf]
theorem GE(hI:Inv M σ [] [] a.tmps w G){d:Nat}(hd:o.dst=some d)(hN:d<M.N){x i:Opd}{x' i':Operand}{t e n sz:Nat}(hx:aZ x'=some x)(hi:aZ i'=some i)(ho:o.op=.indexAddr t x' i')
 (hu:P.underlying t=some (.array n e))(hs:(P.info? e).map (·.size)=some sz)(hr:(ev1 d (.idxa n sz x i)).run σ=some ((),σ')):iv P M σ' a o w:=by
 have YI:(sizeOf e).run P w=.ok sz w:=by
  unfold sizeOf typeInfo
  cases hi:P.info? e with
  |none=>simp[hi]at hs
  |some i=>simp[hi]at hs;simp[hi,hs]
 simp only[ev1]at hr;obtain⟨tx,σ1,h1,h2⟩:=aS hr;obtain⟨rfl,ZY⟩:=bP hI.tmr hx h1;obtain⟨ti,σ2,h3,h4⟩:=aS h2;obtain⟨rfl,UO⟩:=bP hI.tmr hi h3;obtain⟨k,σ3,h5,h6⟩:=aS h4;obtain⟨ik,m,rfl,Wl,hk,rfl⟩:=kA h5;obtain⟨ei,_⟩:=UO.v_inv
 cases tx with
 |ptr p vs=>
  simp only at h6;obtain⟨_,σ2,h7,h8⟩:=aS h6;have e1:σ2=σ3:=(bl h7).1;have e2:=(bl h7).2;subst e1;split at h8
  case isFalse=>simp[SP.run]at h8
  rename_i hc;simp only[oBA,oDE]at hc;obtain⟨Ry,hfit⟩:=hc;generalize hz:a.eval x'=z at ZY
  cases ZY with
  |ptr V0 h0 hv h=>
   obtain⟨Z4,ad,t0,ha,rfl,Zj⟩:=h e2
   have Qy:m<(n:Int):=by omega
   refine dW hI hd hN (x:=.pointer (some (ad.add (k*sz)))) ?_ h8 (by subst hk;simp[execOp,ho,hz,ei,Instr.indexAt,asIntOf,Instr.sureAddr,run_underlying hu,Wl,Qy,YI]);refine .ptr V0 h0 (by rw[Av];exact hv) λ_=>⟨by rw[ct];exact Z4,⟨ad.block,ad.off+k*sz,none⟩,?_⟩;have Zf:=ib ha
   have XH:ad.add (k*sz)=⟨ad.block,ad.off+k*sz,none⟩:=by
    obtain⟨b,ob,sp⟩:=ad;simp only at Zf;subst Zf;exact cr b ob (k*sz)
   rcases p.add_cases (k*sz)with⟨q1,q2⟩|⟨hs',i,sz',o',q1,q2⟩
   ·exact⟨bv M σ2 [] p.root (p.off+k*sz),jv _ ha,by rw[XH],by rw[q2];rfl⟩
   ·have hlt:o'+k*sz<sz':=by
     unfold bi.fits at hfit;rw[q1]at hfit;simpa using hfit
    rw[q1]at Zj;obtain⟨t',YQ⟩:=Bn Zj hlt;exact⟨t',jv _ ha,by rw[XH],by rw[q2];exact YQ⟩
 |_=>simp[SP.run]at h6
theorem I6(hI:Inv M σ [] [] a.tmps w G){d:Nat}(hd:o.dst=some d)(hN:d<M.N){x:Opd}{x':Operand}{s t e:TypeId}(hx:aZ x'=some x)(ho:o.op=.convert s t x')(hs:P.underlying s=some .string)(ht:P.underlying t=some (.slice e))(he:P.underlying e=some (.int .u8))
 (hr:(ev1 d (.s2b x)).run σ=some ((),σ')):iv P M σ' a o w:=by
 simp only[ev1]at hr;obtain⟨tx,σ1,h1,h2⟩:=aS hr;obtain⟨rfl,ZY⟩:=bP hI.tmr hx h1
 cases tx with
 |v y=>
  obtain⟨ex,_⟩:=ZY.v_inv
  cases y with
  |string str=>
   simp only at h2;split at h2
   case isFalse=>simp[SP.run]at h2
   rename_i hsz;obtain⟨n,hn⟩:∃n,n=w.tape w.drawn (.appendCap str.size 0 e):=⟨_,rfl⟩;obtain⟨cap,hcap⟩:∃cap,cap=str.size+n%(2 ^ 63-str.size):=⟨_,rfl⟩
   have Ni:str.size<=cap:=by omega
   have VD:cap<=maxLen:=by
    have:n%(2 ^ 63-str.size)<2 ^ 63-str.size:=Nat.mod_lt _ (by omega);show cap<=2 ^ 63-1;omega
   obtain⟨row,ZP⟩:∃row:Array Value,row=(str.data.map λb=>Value.int .u8 b.toNat)++Array.replicate (cap-str.size) (.int .u8 0):=⟨_,rfl⟩;obtain⟨w1,Vk⟩:∃w1,w1=w.drew.alloc (.cells row e):=⟨_,rfl⟩
   have Yk:w1.heap=w.heap.push (.cells row e):=by rw[Vk];rfl
   have hsh:w1.shape? w.heap.size=some (e,row.size):=by
    unfold World.shape?;rw[Yk];simp
   have hrun:(execOp a.eval o).run P w=.ok (.value (.slice (some ⟨w.heap.size,0,none⟩) str.size cap)) (w1.freeze ⟨w.heap.size,row.size,none⟩ 1):=by
    simp only[execOp,ho,ex,convert,Sem.run_bind,run_underlying hs,run_underlying ht,run_underlying he,Result.andThen_ok,Conv.stringToBytes,run_choose_drew,Question.forced,Bool.false_eq_true,if_false,Question.cut,newRow,run_newObj_alloc,Sem.run_pure];rw[<- hn,<- hcap,<- ZP];simp only[show w.drew.heap.size=w.heap.size from rfl,<- Vk,markStringish,Sem.run_bind,run_shape,Result.andThen_ok,hsh,run_freeze,Sem.run_pure]
   have ZD:∀k,k<w.heap.size->(w1.freeze ⟨w.heap.size,row.size,none⟩ 1).heap[k]?=w.heap[k]?:=by
    intro k hk;unfold World.freeze;rw[oIN (by decide)];simp only;rw[Array.getElem?_modify];rw[oIN (by omega),Yk];simp[Array.getElem?_push,show k≠w.heap.size by omega]
   have Zl:∃fz,(w1.freeze ⟨w.heap.size,row.size,none⟩ 1).heap[w.heap.size]?=some (.cells row e fz):=by
    unfold World.freeze;rw[oIN (by decide)];simp only;rw[Array.getElem?_modify,oIP rfl,Yk];exact⟨_,by simp only[Array.getElem?_push_size,oMS];rfl⟩
   obtain⟨fz,Zl⟩:=Zl;obtain⟨ZJ,_⟩:=hI.grow (w':=w1.freeze ⟨w.heap.size,row.size,none⟩ 1) ZD (by unfold World.freeze;rw[oIN (by decide)];simp[Yk]) (by rw[Vk];rfl) (by rw[Vk];rfl) (by rw[Vk];rfl);simp only[wr,SP.run,oSJ,oPJ,true_and]at h2;subst h2;refine⟨_,_,_,G,hrun,.inl rfl,?_⟩;rw[hd]
   have Q7:(ma str).length=str.size:=by unfold ma;rw[List.length_map,Array.length_toList];rfl
   refine ZJ.wrT hN (.sl ?_)
   have Wk:fm (w1.freeze ⟨w.heap.size,row.size,none⟩ 1) (G.F M.A) (.sl (ma str)) (.slice (some ⟨w.heap.size,0,none⟩) (ma str).length cap):=by
    refine .sl 1 (λi _=>.int .u8 (str.data.getD i 0).toNat) (λi h=>by simp[ma]) (by omega) VD (λh=>by simp at h) (λi j hi hj=>⟨w.heap.size,0,rfl,?_,?_⟩) λi j h h'=>?_
    ·exact⟨M.hA _ hI.fram.size,λr o h=>Nat.lt_irrefl _ (hI.core.live h),λr b o n hb e=>Nat.lt_irrefl _ (e▸hI.core.boxlt hb)⟩
    ·have Rv:j=0:=by omega
     subst Rv;rw[cell_of_row _ _ _ _ _ _ Zl]
     have ZK:i<str.data.size:=by rw[Q7]at hi;exact hi
     have hg:str.data[i]?=some str.data[i]:=Array.getElem?_eq_getElem ZK;rw[ZP];simp[Array.getElem?_append,show i<str.size from ZK,Array.getD_eq_getD_getElem?,hg]
    ·have Rv:j=0:=by simp[ma]at h';omega
     subst Rv
     have ZK:i<str.data.size:=by rw[Q7]at h;exact h
     have:(ma str)[i][0]=.v (.int .u8 (str.data.getD i 0).toNat):=by
      have hg:str.data[i]?=some str.data[i]:=Array.getElem?_eq_getElem ZK;simp[ma,Array.getD_eq_getD_getElem?,hg]
     rw[this];exact .v rfl
   rw[Q7]at Wk;exact Wk
  |_=>simp[SP.run]at h2
 |_=>simp[SP.run]at h2
theorem FX{c:List (List TV)}:∀{ns:List Int},tW c=some ns->ns.length=c.length/\∀i (h:i<c.length)(h':i<ns.length),c[i]=[.v (.int .u8 ns[i])]:=by
 induction c with
 |nil=>intro ns h;simp only[tW,oSJ]at h;subst h;exact⟨rfl,λi h=>by simp at h⟩
 |cons e c ih=>
  intro ns h;unfold tW at h;split at h
  ·simp_all
  ·rename_i n r h1
   injection h1 with h1 h2
   subst h1;subst h2
   cases hb:tW c with
   |none=>simp_all
   |some l=>
    simp[hb]at h;subst h;obtain⟨e1,e2⟩:=ih hb;refine⟨by simp[e1],λi hi ZK=>?_⟩
    cases i with
    |zero=>rfl
    |succ i=>simp_all
  ·simp at h
theorem Jn(hI:Inv M σ [] [] a.tmps w G){d:Nat}(hd:o.dst=some d)(hN:d<M.N){x:Opd}{x':Operand}{s t e:TypeId}(hx:aZ x'=some x)(ho:o.op=.convert s t x')(hs:P.underlying s=some (.slice e))(ht:P.underlying t=some .string)(he:P.underlying e=some (.int .u8))
 (hr:(ev1 d (.b2s x)).run σ=some ((),σ')):iv P M σ' a o w:=by
 simp only[ev1]at hr;obtain⟨tx,σ1,h1,h2⟩:=aS hr;obtain⟨rfl,ZY⟩:=bP hI.tmr hx h1;obtain⟨t',σ2,h3,h4⟩:=aS h2;obtain⟨G1,Z0,_⟩:=eE hI ZY h3;simp only[List.nil_append]at Z0;obtain⟨G2,ZH,_⟩:=Z0.1.drop
 have fin:∀str ad len cap,a.eval x'=.slice ad len cap->(Conv.bytesToString (.slice ad len cap)).run P w=.ok (.string str) w->(wr d (.v (.string str))).run σ2=some ((),σ')->iv P M σ' a o w:=by
  intro str ad len cap ex hrun hw;refine dW ZH.1 hd hN (x:=.string str) (.v rfl) hw ?_;simp only[execOp,ho,Sem.run_bind,ex]
  have:(convert s t (.slice ad len cap)).run P w=.ok (.string str) w:=by
   unfold convert;simp only[Sem.run_bind,run_underlying hs,run_underlying ht,run_underlying he,Result.andThen_ok];exact hrun
  rw[this];rfl
 have hown:=λh=>Z0.1.hand_own (j:=0) (by simp) h;split at h4
 ·rename_i c;obtain⟨str,σ3,h5,h6⟩:=aS h4;obtain⟨hb,rfl⟩:=kw h5;have hown:=hown (by simp);generalize hz:a.eval x'=z at hown
  cases hown with
  |sl hfp h=>
   cases h with
   | @sl _ ad cap sz u hsz hcap hmax hnil hcell hrec=>
    unfold bstr at hb
    cases hbn:tW c with
    |none=>simp[hbn]at hb
    |some ns=>
     simp only[hbn,oMS,oSJ]at hb;obtain⟨hl,Z3⟩:=FX hbn;refine fin str _ _ _ hz ?_ h6
     cases ad with
     |none=>
      have Wy:c.length=0:=by have:=hnil rfl;omega
      have hns:ns=[]:=oEN (by omega);subst hns;rw[<- hb];rfl
     |some ad=>
      rw[<- hb];refine run_bytesToString w ad c.length cap ns ?_
      have:=run_loadCells_list (P:=P) w ad (ns.map (Value.int .u8)) λj v hj=>by
       have hjl:j<ns.length:=by
        rcases Nat.lt_or_ge j ns.length with h|h
        ·exact h
        ·rw[oGN (by simpa using h)]at hj;simp at hj
       have SW:j<c.length:=by omega
       have e1:=Z3 j SW hjl
       have Zd:sz=1:=by rw[<- hsz j SW,e1];rfl
       subst Zd;obtain⟨b,o',Wx,hF,hcl⟩:=hcell j 0 SW (by omega)
       injection Wx with Wx
       subst Wx;have hr:=hrec j 0 SW (by rw[e1];simp)
       have e2:c[j][0]'(by rw[e1];simp)=.v (.int .u8 ns[j]):=by simp[e1]
       rw[e2]at hr
       have hu:u j 0=.int .u8 ns[j]:=by
        generalize u j 0=y at hr;cases hr;rfl
       have hv:v=.int .u8 ns[j]:=by simpa[hjl]using hj.symm
       rw[hv,<- hu,cr];simpa using hcl
      simpa[hl]using this
 ·have hown:=hown (by simp);generalize hz:a.eval x'=z at hown
  cases hown with
  | @nil _ ad hfp=>
   refine fin .empty _ _ _ hz ?_ h4
   cases ad with
   |none=>rfl
   |some ad=>
    have:=run_bytesToString (P:=P) w ad 0 0 [] (by simp[loadCells,loadCellsFrom]);simpa using this
  | @ow _ _ b cap cur e' sz' u f hfp hb hsz hcap hz0 hmax hcur hcell hrec hnb hdis=>
   refine fin .empty _ _ _ hz ?_ h4;have:=run_bytesToString (P:=P) w ⟨b,0,none⟩ 0 cap [] (by simp[loadCells,loadCellsFrom]);simpa using this
 ·simp[SP.run]at h4
theorem GI(hI:Inv M σ [] [] a.tmps w G){d:Nat}{mv:Bool}(hd:o.dst=some d)(hN:d<M.N){t e n sz:TypeId}{parts:Array (Nat×Operand)}{ps:List (Nat×Nat×Opd)}{z:List Value}(ho:o.op=.build t parts)(hu:P.underlying t=some (.array n e))
 (hz:(P.info? t).bind (·.zero.map (·.cells.toList))=some z)(hs:(P.info? e).map (·.size)=some sz)(hp1:parts.size=ps.length)
 (hp2:∀k (h:k<parts.size)(h':k<ps.length),aZ parts[k].2=some ps[k].2.2/\ps[k].1=parts[k].1*sz/\ps[k].2.1=sz/\ps[k].1+ps[k].2.1<=z.length)
 (hr:(ev1 d (.bld z mv ps)).run σ=some ((),σ')):iv P M σ' a o w:=by
 simp only[ev1]at hr;split at hr
 case isFalse=>simp[SP.run]at hr
 rename_i hok;obtain⟨l,σ1,h1,h2⟩:=aS hr;obtain⟨l',σ2,h3,h4⟩:=aS h2
 obtain⟨G1,g1,TN,Xu⟩:=lA (a:=a) (pv:=parts.toList.map (·.2)) hI (by
  apply List.ext_getElem
  ·simp[hp1]
  ·intro k hk YS;have:=(hp2 k (by simpa using hk) (by simpa using YS)).1
   simpa using this) h1
 obtain⟨G2,ZJ,_,Wa,X5⟩:=qR g1.1 TN h3;obtain⟨ys,Yb⟩:∃ys,ys=(parts.toList.map (·.2)).flatMap (λx=>(a.eval x).cells.toList):=⟨_,rfl⟩;rw[<- Yb]at g1 X5
 have hlen:l'.length=ys.length:=by rw[Wa];exact g1.1.hand
 have Xw:∀j (h:j<(z.map bO).length)(h':j<z.length),TmR w (G2.F M.A) σ2.v (bv M σ2 []) G2 (z.map bO)[j] z[j]:=λj h h'=>by simp only[List.getElem_map];exact n5 _
 obtain⟨r1,r2⟩:=kU (R:=TmR w (G2.F M.A) σ2.v (bv M σ2 []) G2) ps l' ys (z.map bO) z (by simp) Xw hlen (λj h h'=>by have:=X5 j h;simpa[h']using this);refine dW ZJ hd hN (x:=.agg (i6 z ps ys).toArray) (.agg (by simp[r1]) λj hj=>by have:=r2 j hj (by omega);simpa[show j<(i6 z ps ys).length by omega]using this) h4 ?_
 cases hi:P.info? t with
 |none=>simp[hi]at hz
 |some i=>
  simp only[hi,oBS]at hz
  cases hiz:i.zero with
  |none=>simp[hiz]at hz
  |some v=>
   simp only[hiz,oMS,oSJ]at hz
   have Vm:(zeroValue t).run P w=.ok v w:=by simp[zeroValue,typeInfo,hi,hiz]
   have YI:(sizeOf e).run P w=.ok sz w:=by
    unfold sizeOf typeInfo
    cases hi:P.info? e with
    |none=>simp[hi]at hs
    |some i=>simp_all
   have Yw:=sb (place:=λi=>some (i*sz,sz)) (parts.toList.map λp=>(p.1,a.eval p.2)) ps v.cells (by simp[hp1]) (λk h h'=>by
    have hk:k<parts.size:=by simpa using h
    obtain⟨q1,q2,q3,q5⟩:=hp2 k hk h';have q4:=Xu k h' (by simpa using hk);refine⟨by simp[q2,q3],by simpa using q4,?_⟩;rw[<- hz]at q5
    simpa using q5)
   have Zq:((parts.toList.map λp=>(p.1,a.eval p.2)).flatMap (·.2.cells.toList))=ys:=by rw[Yb];simp[List.flatMap_map]
   rw[Zq,hz]at Yw;simp only[execOp,ho,Instr.build,Sem.run_bind,Vm,Result.andThen_ok,run_underlying hu,YI,Array.toList_map];rw[Yw];simp
end
theorem pW{α:Type}{l:List α}{i:Nat}{x:α}{f g:α->α}(h:l[i]?=some x)(e:f x=g x):l.modify i f=l.modify i g:=by
 apply List.ext_getElem?
 grind
theorem zI{hs:List Hop}{i sz j:Nat}{c:List (List TV)}{el:List TV}{t1:TV}:∀{t:TV},bp t hs=some (.ow c)->c[i]?=some el->el.length=sz->el[j]?=some t1->bp t (hs++[(i,sz,j)])=some t1:=by
 induction hs with
 |nil=>
  intro t h h1 h2 h3;simp[bp]at h;subst h;simp[bp,h1,h2,h3]
 |cons hp hs ih=>
  intro t h h1 h2 h3;obtain⟨c0,el0,t0,rfl,k1,k2,k3,k4⟩:=dh h;simp[bp]
  simp_all
theorem yP{hs:List Hop}{i sz j:Nat}{c:List (List TV)}{x:TV}:∀{t:TV},bp t hs=some (.ow c)->dB t (hs++[(i,sz,j)]) x=dB t hs (.ow (c.modify i λel=>el.modify j λ_=>x)):=by
 induction hs with
 |nil=>
  intro t h;simp[bp]at h;subst h;simp[dB]
 |cons hp hs ih=>
  intro t h;obtain⟨c0,el0,t0,rfl,k1,k2,k3,k4⟩:=dh h;simp only[List.cons_append,dB];congr 1;refine pW k1 (pW k3 (ih k4))
theorem Ek{hs:List Hop}{x y:TV}:∀{t:TV},dB (dB t hs y) hs x=dB t hs x:=by
 induction hs with
 |nil=>intro t;rfl
 |cons hp hs ih=>
  obtain⟨a,b,d⟩:=hp;intro t
  cases t with
  |ow c=>
   simp only[dB];congr 1;apply List.ext_getElem?;intro k;simp only[List.getElem?_modify];by_cases hk:a=k
   ·subst hk
    cases c[a]? with
    |none=>rfl
    |some el=>
     simp only[if_true,Option.map_eq_map,oMS];congr 1;apply List.ext_getElem?;intro k;simp only[List.getElem?_modify,Option.map_eq_map];by_cases hk:d=k
     ·subst hk
      cases el[d]? with
      |none=>rfl
      |some t1=>simp[ih]
     ·cases el[k]?<;>simp[hk]
   ·cases c[k]?<;>simp[hk]
  |_=>rfl
theorem sJ{α:Type}(l:List (Nat×α))(i:Nat)(x y:α):dn (dn l i x) i y=dn l i y:=by
 induction l with
 |nil=>simp[dn]
 |cons h r ih=>
  have ⟨k,v⟩:=h;by_cases hk:k=i
  ·subst hk;simp[dn]
  ·simp[hk,dn,ih]
theorem yv{w:World}{hs:List Hop}{k sz n cap j:Nat}{ad:Addr}:∀{x:Value},hvT w x hs=some (.slice (some ad) n cap)->k<n->bE w x (hs++[(k,sz,j)])=some ⟨ad.block,ad.off+(k*sz+j),none⟩:=by
 induction hs with
 |nil=>
  intro x h hk;simp only[hvT,oSJ]at h;subst h;simp[bE,hk]
 |cons hp hs ih=>
  intro x h hk;simp only[hvT]at h
  cases x with
  |slice a l c=>
   cases a with
   |none=>cases hs<;>simp[bE]at h
   |some a=>
    obtain⟨hd,tl,WD⟩:∃hd tl,hs++[(k,sz,j)]=hd::tl:=by cases hs<;>exact⟨_,_,rfl⟩
    cases hs with
    |nil=>
     simp only[bE]at h;split at h
     ·rename_i hi;simp at h;simp only[List.cons_append,List.nil_append,bE,hi,if_true,h,hk]
     ·simp at h
    |cons hp2 Y2=>
     simp only[bE]at h;split at h
     ·rename_i hi;split at h
      ·rename_i y hy;rw[List.cons_append,WD];simp[bE,hi,if_true,hy];rw[<- WD];exact ih (by simpa[hvT]using h) hk
      ·simp at h
     ·simp at h
  |_=>cases hs<;>simp[bE]at h
section
variable {P:Program} {M:Fm} {σ σ':St} {H:List TV} {xs:List Value} {ts:Array Value} {w:World} {G:Gh} {a:Act} {o:Oper}
def St.sub(σ:St)(p:bi)(l:List TV)(t:TV):St:=⟨σ.tm,dn σ.ce p.root (l.set p.off (dB (σ.c p.root p.off) p.hops t)),σ.vr⟩
theorem yB{p:bi}{l:List TV}{t:TV}(hl:p.off<l.length):(σ.sub p l t).c p.root p.off=dB (σ.c p.root p.off) p.hops t:=by
 simp[St.c,St.sub,bM];simp[hl]
theorem GU(hI:Inv M σ [] [] ts w G){p:bi}{c:List (List TV)}{el:List TV}{b n cap i sz j:Nat}{old v:Value}(Z4:p.root≠1)(Zu:G.hv w p=some (.slice (some ⟨b,0,none⟩) n cap))(hg:bp (σ.c p.root p.off) p.hops=some (.ow c))(hin:i<n)
 (hi:c[i]?=some el)(hl:el.length=sz)(hj:el[j]?=some (.v old))(hv:ew v=true){l:List TV}(hal:bt σ.ce p.root=some l)(hol:p.off<l.length):
 ∃G',Inv M (σ.sub p l (.ow (c.modify i λel=>el.modify j λ_=>.v v))) [] [] ts (w.setCell ⟨b,i*sz+j,none⟩ v) G'/\(w.cell? ⟨b,i*sz+j,none⟩).isSome=true/\w.frozen? ⟨b,i*sz+j,none⟩=false/\G'.hv (w.setCell ⟨b,i*sz+j,none⟩ v) p=some (.slice (some ⟨b,0,none⟩) n cap):=by
 obtain⟨G1,Z0⟩:=hI.addHand (x:=v) (.v (λ_ h=>h) hv)
 have TC:bp (bv M σ [] p.root p.off) p.hops=some (.ow c):=by rw[bq (Z4)];exact hg
 obtain⟨c1,VL,_,_⟩:=Z0.2.2.1.hdr p _ c Z4 rfl Zu TC
 obtain⟨hd,tl,WD⟩:∃hd tl,p.hops++[(i,sz,j)]=hd::tl:=by cases p.hops<;>exact⟨_,_,rfl⟩
 have Z5:G1.addrB w ⟨p.root,p.off,p.hops++[(i,sz,j)]⟩=some ⟨b,i*sz+j,none⟩:=by
  have:=yv (sz:=sz) (j:=j) VL hin;unfold Gh.addrB
  simp_all
 have SU:=zI hg hi hl hj
 have Pm:bp (bv M σ [.v v] p.root p.off) (p.hops++[(i,sz,j)])=some (.v old):=by rw[bq (Z4)];exact SU
 have hrun:(sQ ⟨p.root,p.off,p.hops++[(i,sz,j)]⟩ (.v v)).run σ=some ((),σ.sub p l (.ow (c.modify i λel=>el.modify j λ_=>.v v))):=by
  simp only[sQ,SP.run,SU,ot,Bool.or_self,Bool.false_eq_true,if_false,hal,hol,if_true];rw[yP hg];rfl
 obtain⟨⟨u,hu⟩,XC,G2,ZJ,hm,Y',hβ⟩:=Z0.1.put (p:=⟨p.root,p.off,p.hops++[(i,sz,j)]⟩) (j:=0) Z4 Z5 Pm (by simp) (by simp) (by simpa using hrun)
 have WU:=ZJ.clear (by intro k hk;have:k=0:=by simp at hk;omega
                       simp)
 have Pi:bp (bv M σ [.v v] p.root p.off) p.hops=some (.ow c):=by rw[bq (Z4)];exact hg
 obtain⟨c2,Ys,_,_⟩:=hm.keeps.hdr p _ c Z4 rfl VL Pi;exact⟨G2,WU,by simp_all,XC,Ys⟩
theorem qD{c:List (List TV)}{i j i' j':Nat}{x:TV}{el:List TV}{y:TV}(h:c[i']?=some el)(hy:el[j']?=some y)(hne:¬(i'=i/\j'=j)):
 ∃Vq,(c.modify i λel=>el.modify j λ_=>x)[i']?=some Vq/\Vq[j']?=some y:=by
 by_cases hi:i=i'
 ·subst hi
  have hj:¬j=j':=by omega
  simp_all
 ·simp_all
theorem G9{p:bi}{b n cap sz:Nat}(Z4:p.root≠1)(hsz:0<sz):∀(vals:List Value)(c:List (List TV))(o:Nat)(σ:St)(w:World)(G:Gh)(l:List TV),vals≠[]->Inv M σ [] [] ts w G->G.hv w p=some (.slice (some ⟨b,0,none⟩) n cap)->bp (σ.c p.root p.off) p.hops=some (.ow c)->n=c.length ->
 (∀el∈c,el.length=sz)->(∀v∈vals,ew v=true)->(∀t,o<=t->t<o+vals.length->∃el y,c[t/sz]?=some el/\el[t%sz]?=some (.v y))->bt σ.ce p.root=some l->p.off<l.length ->
 (∃G',Inv M (σ.sub p l (.ow (jV sz c o vals))) [] [] ts (w.setCells b o vals) G')/\∀j,j<vals.length->(w.cell? ⟨b,o+j,none⟩).isSome=true/\w.frozen? ⟨b,o+j,none⟩=false:=by
 intro vals
 induction vals with
 |nil=>intro c o σ w G l h;exact absurd rfl h
 |cons v vals ih=>
  intro c o σ w G l _ hI Zu hg hn hlen NP Zq hal hol;obtain⟨el,y,h1,h2⟩:=Zq o (Nat.le_refl _) (by simp);have YZ:el.length=sz:=hlen el (List.mem_of_getElem? h1)
  have hio:o/sz<n:=by rw[hn];exact(oGS h1).1
  have ho:o/sz*sz+o%sz=o:=by rw[Nat.mul_comm];exact Nat.div_add_mod o sz
  obtain⟨G1,hI1,Zd,Pa,VL⟩:=GU hI Z4 Zu hg hio h1 YZ h2 (NP v (by simp)) hal hol;rw[ho]at hI1 Zd Pa VL
  cases vals with
  |nil=>
   refine⟨⟨G1,hI1⟩,λj hj=>?_⟩
   obtain rfl:j=0:=by simp at hj;omega
   exact⟨Zd,Pa⟩
  |cons v2 vals=>
   obtain⟨c1,Zp⟩:∃c1,c1=c.modify (o/sz) λel=>el.modify (o%sz) λ_=>.v v:=⟨_,rfl⟩;rw[<- Zp]at hI1;obtain⟨l1,TG⟩:∃l1,l1=l.set p.off (dB (σ.c p.root p.off) p.hops (.ow c1)):=⟨_,rfl⟩;have PP:(σ.sub p l (.ow c1)).c p.root p.off=dB (σ.c p.root p.off) p.hops (.ow c1):=yB hol
   obtain⟨⟨G2,ZJ⟩,Ze⟩:=ih c1 (o+1) (σ.sub p l (.ow c1)) _ G1 l1 (by simp) hI1 VL (by rw[PP];exact tK hg) (by rw[hn,Zp];simp) (λVq Tz=>by
    have Py:=jA c (o/sz) (o%sz) (λ_=>.v v);have:Vq.length∈c1.map List.length:=List.mem_map_of_mem Tz;rw[Zp,Py]at this;obtain⟨e3,e4,e5⟩:=List.mem_map.1 this
    rw[<- e5];exact hlen e3 e4) (λx hx=>NP x (by simp at hx⊢;exact .inr hx)) (λt U2 X5=>by
    obtain⟨Vq,y',q1,q2⟩:=Zq t (by omega) (by simp at X5⊢;omega)
    obtain⟨OB,q3,q4⟩:=qD (x:=.v v) q1 q2 (i:=o/sz) (j:=o%sz) (by
     rintro⟨e1,e2⟩;have h3:=Nat.div_add_mod t sz;have h4:=Nat.div_add_mod o sz;rw[e1,e2]at h3
     omega)
    exact⟨OB,y',by rw[Zp];exact q3,q4⟩) (by simp[St.sub,bM,TG]) (by rw[TG];simpa using hol)
   refine⟨⟨G2,?_⟩,λj hj=>?_⟩
   ·have e:(σ.sub p l (.ow c1)).sub p l1 (.ow (jV sz c1 (o+1) (v2::vals)))=σ.sub p l (.ow (jV sz c o (v::v2::vals))):=by
     unfold St.sub;have PQ:(St.c ⟨σ.tm,dn σ.ce p.root (l.set p.off (dB (σ.c p.root p.off) p.hops (.ow c1))),σ.vr⟩ p.root p.off)=dB (σ.c p.root p.off) p.hops (.ow c1):=PP;rw[PQ,Ek,sJ,TG,List.set_set];simp only[jV,<- Zp]
    rw[e]at ZJ;exact ZJ
   ·cases j with
    |zero=>exact⟨Zd,Pa⟩
    |succ j=>
     have:=Ze j (by simpa using hj);rw[show o+1+j=o+(j+1) by omega,World.frozen?_setCell]at this;refine⟨?_,this.2⟩
     have hne:(⟨b,o,none⟩:Addr)≠⟨b,o+(j+1),none⟩:=λe=>by have:=congrArg Addr.off e;simp at this
     rw[World.cell?_setCell_other w _ _ _ hne]at this;exact this.1
theorem xO:∀{l:List TV}{vs:List Value},bA l=some vs->vs.length=l.length/\∀j (h:j<l.length)(h':j<vs.length),l[j]=.v vs[j]:=by
 intro l
 induction l with
 |nil=>intro vs h;simp[bA]at h;subst h;exact⟨rfl,λj h=>by simp at h⟩
 |cons t l ih=>
  intro vs h
  cases t with
  |v x=>
   simp[bA]at h
   cases hl:bA l with
   |none=>simp_all
   |some r=>
    simp[hl]at h;subst h;have ⟨e1,e2⟩:=ih hl;refine⟨by simp[e1],λj hj ZT=>?_⟩
    cases j with
    |zero=>rfl
    |succ j=>simp_all
  |_=>simp[bA]at h
theorem wA{c:List (List TV)}{sz m:Nat}(hs:∀i (h:i<c.length),c[i].length=sz)(hm:m<=c.length):(c.take m).flatten.length=m*sz:=by
 rw[rY (sz:=sz) λi h=>by simp_all];simp[hm]
theorem pn{F fp:Nat->Prop}{t:TV}{v x:Value}{c c2:List (List TV)}{sz lo n cap:Nat}{ad:Option Addr}(h:d9 w F fp t v)(ht:t=.ow c\/t=.sl c)(hs:∀i (h:i<c.length),c[i].length=sz)(Z1:0<sz)(Ze:c2=(c.drop lo).take n)(Xd:lo+n<=c.length)
 (hx:x=.slice ad n cap)(Y0:0<n->∃b o len ZS,v=.slice (some ⟨b,o,none⟩) len ZS/\ad=some ⟨b,o+lo*sz,none⟩)(RH:ad=none->n=0){m:Nat}{vs:List Value}(hm:m<=c2.length)(hf:bA (c2.take m).flatten=some vs):(Builtin.firstCells sz m x).run P w=.ok vs.toArray w:=by
 subst hx
 have O1:c2.length=n:=by rw[Ze];simp;omega
 have Y2:∀i (h:i<c2.length),c2[i].length=sz:=λi h=>by
  subst Ze;simp only[List.getElem_take,List.getElem_drop];exact hs _ (by simp at h;omega)
 obtain⟨e1,e2⟩:=xO hf;have Zq:=wA Y2 hm
 cases ad with
 |none=>
  have hn:=RH rfl
  have SX:m=0:=by omega
  subst SX;have:vs=[]:=oEN (by rw[e1,Zq];omega);subst this;rfl
 |some ad=>
  show(loadCells ad (m*sz)).run P w=_;obtain⟨a,capX,vals,f,rfl,YC,ZV,hrec,_⟩:=h.rows ht hs
  have TS:vs.length=m*sz:=by rw[e1,Zq]
  have:=run_loadCells_list (P:=P) w ad vs λj y hj=>by
   have hjl:j<vs.length:=by
    rcases Nat.lt_or_ge j vs.length with h|h
    ·exact h
    ·rw[oGN h]at hj;simp at hj
   have Pr:j<m*sz:=by omega
   have hq:j/sz<m:=(Nat.div_lt_iff_lt_mul Z1).2 Pr;have hr:j%sz<sz:=Nat.mod_lt _ Z1
   have NH:j/sz<c2.length:=by omega
   have Wj:lo+j/sz<c.length:=by omega
   have UY:j%sz<(c[lo+j/sz]).length:=by rw[hs _ Wj];exact hr
   have YY:(lo+j/sz)*sz+j%sz=lo*sz+j:=by
    rw[Nat.add_mul];have:=Nat.div_add_mod j sz;rw[Nat.mul_comm]at this;omega
   have hown:=hrec (lo+j/sz) (j%sz) Wj UY;rw[YY]at hown
   have YZ:c[lo+j/sz][j%sz]=.v y:=by
    have h1:=e2 j (by rw[Zq];exact Pr) hjl;have h2:=gJ (c:=c2.take m) (sz:=sz) (λi h=>by simpa using Y2 i (by simp at h;omega)) (i:=j/sz) (j:=j%sz) (by simp;omega) (by rw[List.getElem_take,Y2 _ NH];exact hr);rw[show j/sz*sz+j%sz=j by rw[Nat.mul_comm];exact Nat.div_add_mod j sz,oGE (by rw[Zq];exact Pr),h1]at h2
    injection h2 with h2
    have h3:(c2.take m)[j/sz]'(by simp;omega)=c[lo+j/sz]:=by
     subst Ze;simp
    have hy:vs[j]=y:=by simpa[hjl]using hj
    rw[<- hy,h2];simp only[h3]
   rw[YZ]at hown
   have Wd:vals.getD (lo*sz+j) undef=y:=by
    cases hown with
    |v hfp Zq=>rfl
   have hlt:lo*sz+j<vals.length:=by
    rw[YC]
    have:(lo+j/sz)*sz+sz<=c.length*sz:=by
     have:(lo+j/sz+1)*sz<=c.length*sz:=Nat.mul_le_mul_right _ Wj;rw[Nat.add_mul,Nat.one_mul]at this;exact this
    omega
   obtain⟨b,o,Wx,hcl⟩:=ZV (lo*sz+j) y (by rw[oGE hlt];rw[oGD,oGE hlt]at Wd;simpa using Wd);obtain⟨b',o',len,ZS,YB,Tn⟩:=Y0 (by rw[<- O1];exact Nat.lt_of_le_of_lt (Nat.zero_le _) NH)
   injection YB with YB _ _
   rw[YB]at Wx
   injection Wx with Wx
   injection Wx with hb ho _
   subst hb;subst ho
   injection Tn with Tn
   rw[Tn,cr,show o'+lo*sz+j=o'+(lo*sz+j) by omega];exact hcl
  rw[TS]at this;exact this
theorem CX(hI:Inv M σ [] [] ts w G){u:TV}{v:Value}(hu:TmR w (G.F M.A) σ.v (bv M σ []) G u v){c2:List (List TV)}(hr:(contentOf u).run σ=some (c2,σ')):σ'=σ/\∀sz,0<sz->(∀i (h:i<c2.length),c2[i].length=sz)->
 ∃ad cap,v=.slice ad c2.length cap/\∀m vs,m<=c2.length->bA (c2.take m).flatten=some vs->(Builtin.firstCells sz m v).run P w=.ok vs.toArray w:=by
 cases u with
 |sl c=>
  simp only[contentOf,SP.run,oSJ,oPJ]at hr;obtain⟨rfl,rfl⟩:=hr;refine⟨rfl,λsz Z1 hs=>?_⟩
  cases hu with
  |sl h=>
   have hown:d9 w (G.F M.A) (λ_=>False) (.sl c) v:=.sl (λ_ h=>h) h;obtain⟨ad,cap,hv,_⟩:=h.hdr;refine⟨ad,cap,hv,λm vs hm hf=>pn (lo:=0) (n:=c.length) hown (.inr rfl) hs Z1 (by simp) (by simp) hv (λhn=>?_) (λhe=>?_) hm hf⟩
   ·cases h with
    | @sl _ a cap sz' u hsz hcap hmax hnil hcell hrec=>
     have e:sz'=sz:=by rw[<- hsz 0 hn,hs 0 hn]
     subst e;obtain⟨b,o,ha,_,_⟩:=hcell 0 0 hn Z1
     injection hv with hv _ _
     exact⟨b,o,_,_,by rw[ha],by rw[<- hv,ha];simp⟩
   ·cases h with
    | @sl _ a cap sz' u hsz hcap hmax hnil hcell hrec=>
     injection hv with hv _ _
     rw[hv]at hnil;have:=hnil he;omega
 |ow c=>
  cases hu with
  | @nil ad=>
   obtain⟨rfl,rfl⟩:=hr;refine⟨rfl,λsz Z1 hs=>⟨ad,0,rfl,λm vs hm hf=>?_⟩⟩
   have SX:m=0:=by simpa using hm
   subst SX;simp only[List.take_zero,List.flatten_nil,bA,oSJ]at hf;subst hf;cases ad<;>simp[Builtin.firstCells,loadCells,loadCellsFrom]
 |pk p vs=>
  simp only[contentOf]at hr;obtain⟨_,σ1,h1,h2⟩:=aS hr;have e1:σ1=σ:=(bl h1).1;have e2:=(bl h1).2;subst e1;obtain⟨tt,σ2,h3,h4⟩:=aS h2;obtain⟨e3,hg⟩:=cT h3;have e3:σ2=σ1:=e3;subst e3
  cases hu with
  |pk V0 h0 hv h=>
   obtain⟨Z4,c,Zu,ZF⟩:=h e2
   have Zk:bp (σ2.c p.root p.off) p.hops=some (.ow c):=by rw[bq (by exact Z4)]at ZF;exact ZF
   rw[Zk]at hg
   injection hg with hg
   subst hg;simp only[SP.run,oSJ,oPJ]at h4;obtain⟨rfl,rfl⟩:=h4;refine⟨rfl,λsz Z1 hs=>?_⟩;obtain⟨fp,hown⟩:=pU hI Zu ZF;obtain⟨ad,cap,YB,_⟩:=hown.hdr;refine⟨ad,cap,YB,λm vs hm hf=>pn (lo:=0) (n:=c.length) hown (.inl rfl) hs Z1 (by simp) (by simp) YB (λhn=>?_) (λhe=>?_) hm hf⟩
   ·cases hown with
    |nil=>simp at hn
    | @ow _ _ b cap cur e' sz' u f hfp hb hsz hcap hz0 hmax hcur hcell hrec hnb hdis=>
     injection YB with YB _ _
     exact⟨b,0,_,_,rfl,by rw[<- YB];simp⟩
   ·cases hown with
    |nil=>rfl
    | @ow _ _ b cap cur e' sz' u f hfp hb hsz hcap hz0 hmax hcur hcell hrec hnb hdis=>
     injection YB with YB _ _
     rw[he]at YB;simp at YB
 |pw p vs YL lo n=>
  simp only[contentOf]at hr;obtain⟨_,σ1,h1,h2⟩:=aS hr;have e1:σ1=σ:=(bl h1).1;have e2:=(bl h1).2;subst e1;obtain⟨tt,σ2,h3,h4⟩:=aS h2;obtain⟨e3,hg⟩:=cT h3;have e3:σ2=σ1:=e3;subst e3
  cases hu with
  |pw V0 h0 hv h=>
   obtain⟨Z4,c,hd,Zu,ZF,Xd,a,cap,hx,WG,W4,hnil,W7,Y0⟩:=h e2
   have Zk:bp (σ2.c p.root p.off) p.hops=some (.ow c):=by rw[bq (by exact Z4)]at ZF;exact ZF
   rw[Zk]at hg
   injection hg with hg
   subst hg;obtain⟨rfl,rfl⟩:=h4;refine⟨rfl,λsz Z1 hs=>?_⟩
   have Wa:((c.drop lo).take n).length=n:=by simp;omega
   obtain⟨fp,hown⟩:=pU hI Zu ZF;by_cases hn:n=0
   ·subst hn;refine⟨a,cap,by rw[Wa];exact hx,λm vs hm hf=>?_⟩
    have SX:m=0:=by omega
    subst SX;simp only[List.take_zero,List.flatten_nil,bA,oSJ]at hf;subst hf;rw[hx]
    cases a with
    |none=>rfl
    |some a=>simp[Builtin.firstCells,loadCells,loadCellsFrom]
   ·have PS:YL=sz:=by
     rw[<- hs 0 (by omega)];simp only[List.getElem_take,List.getElem_drop];exact(W7 _ (by omega)).symm
    subst PS;refine⟨a,cap,by rw[Wa];exact hx,λm vs hm hf=>pn (lo:=lo) (n:=n) hown (.inl rfl) W7 Z1 rfl Xd hx (λhn=>?_) (λhe=>?_) hm hf⟩
    ·obtain⟨b,len,ZS,q1,q2⟩:=Y0 hn;exact⟨b,0,len,ZS,q1,by rw[q2];simp⟩
    ·obtain⟨b,len,ZS,q1,q2⟩:=Y0 (by omega);rw[he]at q2;simp at q2
 |_=>simp[contentOf,SP.run]at hr
theorem nQ{t t' ty e:TypeId}{sz:Nat}(hu:P.underlying t=some (.slice e))(hs:(P.info? e).map (·.size)=some sz){v:Value}{Wr:Option Addr}{n2 Vp:Nat}(hv:v=.slice Wr n2 Vp){ad:Option Addr}{n cap:Nat}{vs:List Value}(hf:(Builtin.firstCells sz (min n2 n) v).run P w=.ok vs.toArray w)
 {w':World}(hst:match ad with|some a=>(storeCells a vs).run P w=.ok () w'|none=>w'=w):
 (Builtin.copy_ #[t,t'] ty #[.slice ad n cap,v]).run P w=.ok (goInt ((min n2 n:Nat):Int)) w':=by
 subst hv
 cases hq:P.info? e with
 |none=>simp_all
 |some i=>
  have hi:i.size=sz:=by simp_all
  cases ad with
  |none=>
   subst hst;simp[Builtin.copy_,run_underlying hu,Builtin.lenOf,sizeOf,typeInfo,hq,hi,hf]
  |some a=>
   simp[Builtin.copy_,run_underlying hu,Builtin.lenOf,sizeOf,typeInfo,hq,hi,hf,hst]
theorem Ji(hI:Inv M σ [] [] a.tmps w G){d:Nat}(hd:o.dst=some d)(hN:d<M.N){x y:Opd}{x' y':Operand}{t t' e sz:TypeId}(hx:aZ x'=some x)(hy:aZ y'=some y)(ho:o.op=.call { callee:=.builtin .copy,args:=#[x',y'],argTypes:=#[t,t'] })
 (hu:P.underlying t=some (.slice e))(hs:(P.info? e).map (·.size)=some sz)(hr:(ev1 d (.cpy sz x y)).run σ=some ((),σ')):iv P M σ' a o w:=by
 simp only[ev1]at hr;obtain⟨tx,σ1,h1,h2⟩:=aS hr;obtain⟨rfl,ZY⟩:=bP hI.tmr hx h1;obtain⟨ty,σ2,h3,h4⟩:=aS h2;obtain⟨rfl,Xf⟩:=bP hI.tmr hy h3;obtain⟨c2,σ3,h5,h6⟩:=aS h4;obtain⟨rfl,Uc⟩:=CX hI Xf h5
 have Yv:∀r w',(Builtin.copy_ #[t,t'] o.type #[a.eval x',a.eval y']).run P w=.ok r w'->(execOp a.eval o).run P w=.ok (.value r) w':=by
  intro r w' h;simp[execOp,ho,resolve,invoke,builtin,h]
 have fin:∀(p:bi)(c:List (List TV))(lo n:Nat)(vd SS:Value)(ad:Option Addr)(cap:Nat),p.root≠1->G.hv w p=some SS->bp (σ3.c p.root p.off) p.hops=some (.ow c)->a.eval x'=vd->vd=.slice ad n cap->lo+n<=c.length ->
  (∀b0 len ZS,SS=.slice (some ⟨b0,0,none⟩) len ZS->True)->(0<n->∃b len ZS,SS=.slice (some ⟨b,0,none⟩) len ZS/\len=c.length/\ad=some ⟨b,lo*sz,none⟩)->(vW d p (σ3.c p.root p.off) (HP sz c c2 lo n)).run σ3=some ((),σ')->iv P M σ' a o w:=by
  intro p c lo n vd SS ad cap Z4 Zu hg NO NQ Xd _ ZE hrun;unfold HP at hrun;split at hrun
  ·rename_i Zq;split at hrun
   case isFalse=>simp[vW,SP.run]at hrun
   rename_i Yr;simp only[oBA,oDE,List.all_eq_true,beq_iff_eq]at Yr;obtain⟨Wr,Vp,Sl,WW⟩:=Uc sz Yr.1 λi h=>Yr.2 _ (List.getElem_mem h);have hf:=WW (min c2.length n) [] (Nat.min_le_left _ _) Zq;have O7:=nQ (t':=t') (ty:=o.type) (ad:=ad) (n:=n) (cap:=cap) (w':=w) hu hs Sl hf (by cases ad<;>rfl);simp only[vW]at hrun;refine dW hI hd hN (.v rfl) hrun (Yv _ _ ?_);rw[NO,NQ];exact O7
  ·rename_i v vs Zq;split at hrun
   case isFalse=>simp[vW,SP.run]at hrun
   rename_i Yr;simp only[oBA,oDE,List.all_eq_true,beq_iff_eq]at Yr;obtain⟨⟨⟨⟨⟨k1,k2⟩,k3⟩,k4⟩,k5⟩,k6⟩:=Yr;have Xu:∀i (h:i<c2.length),c2[i].length=sz:=λi h=>k3 _ (List.getElem_mem h);obtain⟨Wr,Vp,Sl,WW⟩:=Uc sz k1 Xu;have hf:=WW (min c2.length n) (v::vs) (Nat.min_le_left _ _) Zq
   have YC:(v::vs).length=min c2.length n*sz:=by rw[(xO Zq).1,wA Xu (Nat.min_le_left _ _)]
   have Wl:0<n:=by
    rcases Nat.eq_zero_or_pos n with h|h
    ·subst h;simp at YC
    ·exact h
   obtain⟨b,len,ZS,Pn,hlen,Y0⟩:=ZE Wl;subst hlen;rw[Pn]at Zu;simp only[vW]at hrun;obtain⟨l,hl,hol,h7⟩:=bu hrun;have Qy:min c2.length n<=n:=Nat.min_le_right _ _
   obtain⟨⟨G1,hI1⟩,hcell⟩:=G9 Z4 k1 (v::vs) c (lo*sz) σ3 w G l (by simp) hI Zu hg rfl (λel YZ=>k2 el YZ) k6 (λt U2 X5=>by
    rw[YC]at X5;have Xe:lo<=t/sz:=(Nat.le_div_iff_mul_le k1).2 U2;have Ym:t/sz<lo+min c2.length n:=(Nat.div_lt_iff_lt_mul k1).2 (by rw[Nat.add_mul];exact X5);have TP:t%sz<sz:=Nat.mod_lt _ k1;have Ns:t/sz<c.length:=Nat.lt_of_lt_of_le Ym k4
    have ZB:c[t/sz]∈(c.drop lo).take (min c2.length n):=by
     obtain⟨q,hq⟩:∃q,t/sz=lo+q:=⟨t/sz-lo,by rw[Nat.add_sub_cancel' Xe]⟩;simp only[hq];rw[hq]at Ym;refine List.mem_of_getElem? (i:=q) ?_;rw[List.getElem?_take,oIP (Nat.lt_of_add_lt_add_left Ym),List.getElem?_drop];exact oGE _
    have hlt:t%sz<c[t/sz].length:=by rw[k2 _ (List.getElem_mem Ns)];exact TP
    have Ru:=k5 _ ZB _ (List.getElem_mem hlt);refine⟨c[t/sz],?_⟩
    cases hcv:c[t/sz][t%sz]with
    |v y=>exact⟨y,oGE Ns,by rw[oGE hlt,hcv]⟩
    |_=>rw[hcv]at Ru;simp[isV]at Ru) hl hol
   have hst:=run_storeCells_cells (P:=P) b (lo*sz) (v::vs) 0 w (λj hj=>by simpa using(hcell j hj).1) (λj hj=>by simpa using(hcell j hj).2) (λu hu=>nI (k6 u hu));have O7:=nQ (t':=t') (ty:=o.type) (ad:=ad) (n:=n) (cap:=cap) (w':=w.setCells b (lo*sz) (v::vs)) hu hs Sl hf (by rw[Y0];simpa using hst);have PM:=Yv _ _ (by rw[NO,NQ];exact O7);simp only[wr,SP.run,oSJ,oPJ,true_and]at h7;have e9:σ'={ σ3.sub p l (.ow (jV sz c (lo*sz) (v::vs)))with tm:=dn (σ3.sub p l (.ow (jV sz c (lo*sz) (v::vs)))).tm d (.v (.int .i64 ((min c2.length n:Nat):Int))) }:=h7.symm;rw[e9];refine⟨_,_,_,G1,PM,.inl rfl,?_⟩;rw[hd];exact hI1.wrT hN (.v rfl)
  ·simp[vW,SP.run]at hrun
 cases tx with
 |pk p vs=>
  simp only at h6;obtain⟨_,σ4,h7,h8⟩:=aS h6;have e1:σ4=σ3:=(bl h7).1;have e2:=(bl h7).2;subst e1;simp only[SP.run]at h8;generalize hz:a.eval x'=z at ZY
  cases ZY with
  |pk V0 h0 hv h=>
   obtain⟨Z4,c,Zu,ZF⟩:=h e2
   have Zk:bp (σ4.c p.root p.off) p.hops=some (.ow c):=by rw[bq (by exact Z4)]at ZF;exact ZF
   rw[Zk]at h8;simp only at h8;obtain⟨fp,hown⟩:=pU hI Zu ZF;obtain⟨ad,cap,Vm,_⟩:=hown.hdr;refine fin p c 0 c.length z z ad cap Z4 Zu Zk hz Vm (by simp) (λ_ _ _ _=>trivial) (λhn=>?_) h8
   cases hown with
   |nil=>simp at hn
   | @ow _ _ b cap0 cur e' sz' u f hfp hb hsz hcap hz0 hmax hcur hcell hrec hnb hdis=>
    injection Vm with Vm _ _
    exact⟨b,_,_,rfl,rfl,by rw[<- Vm];simp⟩
 |pw p vs sz' lo n=>
  simp only at h6;obtain⟨_,σ4,h7,h8⟩:=aS h6;have e1:σ4=σ3:=(bl h7).1;have e2:=(bl h7).2;subst e1;simp only[SP.run]at h8;generalize hz:a.eval x'=z at ZY
  cases ZY with
  |pw V0 h0 hv h=>
   obtain⟨Z4,c,hd',Zu,ZF,Xd,ad,cap,P3,WG,W4,hnil,W7,Y0⟩:=h e2
   have Zk:bp (σ4.c p.root p.off) p.hops=some (.ow c):=by rw[bq (by exact Z4)]at ZF;exact ZF
   rw[Zk]at h8;simp only at h8;split at h8
   case isFalse=>simp[SP.run]at h8
   rename_i Wm;subst Wm;obtain⟨fp,hown⟩:=pU hI Zu ZF;refine fin p c lo n z hd' ad cap Z4 Zu Zk hz P3 Xd (λ_ _ _ _=>trivial) (λhn=>?_) h8;obtain⟨b,len,ZS,q1,q2⟩:=Y0 hn;obtain⟨ad3,cap3,q3,_⟩:=hown.hdr;rw[q1]at q3
   injection q3 with _ q3 _
   exact⟨b,len,ZS,q1,q3,q2⟩
 |_=>simp[SP.run]at h6
end
def t8(P:Program)(t:TypeId):Option Nat:=(P.info? t).map (·.size)
def Im(P:Program)(t:TypeId):Option (List Value):=(P.info? t).bind (·.zero.map (·.cells.toList))
def xa(P:Program)(t:TypeId):Option (Option Nat):=
 match P.underlying t with
 |some (.struct _)=>(t8 P t).map some
 |some (.array _ _)=>(t8 P t).map some
 |some _=>some none
 |none=>none
def wV:Option Operand->Option (Option Opd)
 |none=>some none
 |some x=>(aZ x).map some
def lK{α β:Type}(f:α->Option β):List α->Option (List β)
 | []=>some []
 |x::r=>match f x,lK f r with|some y,some l=>some (y::l)|_,_=>none
def mU(b:Bool):Option Unit:=if b then some ()else none
def LU(mv n:Nat)(x:Opd):TOp:=if mv=3 then .boxi n x else .box n (mv==1) x
def dD(P:Program)(mv:Nat):Op->Option TOp
 |.move x=>match x with
  |.const (.agg cs)=>some (.asn true (.c (.agg cs)))
  |x=>(aZ x).map .mov
 |.assign x=>if mv=2 then(aZ x).map .mov else(aZ x).map (.asn (mv==1))
 |.pick c a b=>do some (.pick (<- aZ c) (<- aZ a) (<- aZ b))
 |.alloc e=>(Im P e).map .alloc
 |.box e x=>do some (LU mv (<- t8 P e) (<- aZ x))
 |.load t a=>do some (.load (<- xa P t) (<- aZ a))
 |.store t a x=>do
  let n <- t8 P t
  mU (decide (0<n))
  some (.store n (mv==1) (<- aZ a) (<- aZ x))
 |.nilCheck x=>(aZ x).map .nilc
 |.binOp op t x y _=>
  match P.underlying t with
  |some .bool=>match op with
   |.eql=>do some (.bnb false (<- aZ x) (<- aZ y))
   |.neq=>do some (.bnb true (<- aZ x) (<- aZ y))
   |_=>none
  |some (.int _)=>do some (.bin op (<- aZ x) (<- aZ y))
  |some .string=>do some (.bin op (<- aZ x) (<- aZ y))
  |some (.struct _)=>
   if P.eqGuardType P.depth t then none
   else match mV P 50 t with
    |some ks=>match op with
     |.eql=>do some (.eqa ks false (<- aZ x) (<- aZ y))
     |.neq=>do some (.eqa ks true (<- aZ x) (<- aZ y))
     |_=>none
    |none=>none
  |_=>none
 |.unOp op _ x=>(aZ x).map (.un op)
 |.convert s d x=>
  match P.underlying s,P.underlying d with
  |some (.int _),some (.int k)=>(aZ x).map (.conv k)
  |some .string,some (.slice e)=>match P.underlying e with
   |some (.int .u8)=>(aZ x).map .s2b
   |_=>none
  |some (.slice e),some .string=>match P.underlying e with
   |some (.int .u8)=>(aZ x).map .b2s
   |_=>none
  |_,_=>none
 |.fieldAddr s x f=>
  match P.underlying s with
  |some (.struct fs)=>match fs[f]? with
   |some fd=>match t8 P fd.type with
    |some (_+1)=>(aZ x).map (.fld fd.offset)
    |_=>none
   |none=>none
  |_=>none
 |.field s x f=>
  match P.underlying s with
  |some (.struct fs)=>match fs[f]? with
   |some fd=>do some (.fldv fd.offset (<- xa P fd.type) (<- aZ x))
   |none=>none
  |_=>none
 |.indexAddr t x i=>
  match P.underlying t with
  |some (.slice e)=>do some (.idx (<- t8 P e) (<- aZ x) (<- aZ i))
  |some (.array n e)=>do some (.idxa n (<- t8 P e) (<- aZ x) (<- aZ i))
  |_=>none
 |.index t x i=>
  match P.underlying t with
  |some .string=>do some (.ixs (<- aZ x) (<- aZ i))
  |_=>none
 |.extract x i=>(aZ x).map λx=>.ext x i
 |.makeSlice t l c=>
  match P.underlying t with
  |some (.slice e)=>match P.info? e with
   |some i=>match i.zero with
    |some z=>do
     mU (decide (i.bytes<=16777216*i.size)&&decide (0<i.size))
     some (.mks i.size z.cells.toList (<- aZ l) (<- aZ c))
    |none=>none
   |none=>none
  |_=>none
 |.slice t x lo hi mx=>
  match mx with
  |some m=>match hi,P.underlying t with
   |some h,some (.slice e)=>do
    mU (Dr lo&&q8 h&&q8 m)
    let _ <- t8 P e
    some (.emp (<- aZ x))
   |_,_=>none
  |none=>match P.underlying t with
   |some (.slice e)=>do some (.slc (<- t8 P e) (<- aZ x) (<- wV lo) (<- wV hi))
   |_=>none
 |.makeFunc fn first caps=>
  match fn with
  |.func f=>do
   mU (first.size==0)
   some (.mkf f (<- lK aZ caps.toList))
  |_=>none
 |.buildSlice t len parts=>
  match P.underlying t with
  |some (.slice e)=>match P.info? e with
   |some i=>do
    mU ((i.zero.isSome||len*i.size==0)&&decide (len*i.size<=16777216)&&decide (len<=16777216)&&parts.toList.map (·.1)==List.range len)
    some (.bsl i.size (mv==1) len (<- lK (λp=>aZ p.2) parts.toList))
   |none=>none
  |_=>none
 |.build t parts=>
  match P.underlying t,Im P t with
  |some (.struct fs),some z=>do
   mU (fs.toList.all λf=>(t8 P f.type).isSome)
   let ps <- lK (λp=>match fs[p.1]? with
    |some f=>match t8 P f.type,aZ p.2 with
     |some n,some x=>if f.offset+n<=z.length then some (f.offset,n,x)else none
     |_,_=>none
    |none=>none) parts.toList
   some (.bld z (mv==1) ps)
  |some (.array _ e),some z=>match t8 P e with
   |some sz=>do
    let ps <- lK (λp=>match aZ p.2 with
     |some x=>if p.1*sz+sz<=z.length then some (p.1*sz,sz,x)else none
     |none=>none) parts.toList
    some (.bld z (mv==1) ps)
   |none=>none
  |_,_=>none
 |.call c=>
  match c with
  | { callee:=.builtin .append,args,argTypes }=>match args.toList,argTypes.toList with
   | [s,x],[t,t']=>if t=t' then
    match P.underlying t with
    |some (.slice e)=>match P.info? e with
     |some i=>match i.zero with
      |some z=>do
       mU (z.cells.size==i.size&&decide (0<i.size))
       some (.app i.size i.bytes (mv==1) (z.cells.all ew) (<- aZ s) (<- aZ x))
      |none=>none
     |none=>none
    |_=>none
    else match P.underlying t,P.underlying t' with
     |some (.slice e),some (.int _)=>match P.info? e with
      |some i=>match i.zero with
       |some z=>do
        mU (decide (0<i.size))
        some (.apz i.size i.bytes z.cells.toList (<- aZ s) (<- aZ x))
       |none=>none
      |none=>none
     |_,_=>none
   |_,_=>none
  | { callee:=.builtin .copy,args,argTypes }=>match args.toList,argTypes.toList with
   | [x,y],[t,_]=>match P.underlying t with
    |some (.slice e)=>do some (.cpy (<- t8 P e) (<- aZ x) (<- aZ y))
    |_=>none
   |_,_=>none
  | { callee:=.builtin .min,args,argTypes:=_ }=>(lK aZ args.toList).map (.mm false)
  | { callee:=.builtin .max,args,argTypes:=_ }=>(lK aZ args.toList).map (.mm true)
  | { callee:=.builtin .len,args,argTypes }=>match args.toList,argTypes.toList with
   | [x],[t]=>match P.underlying t with
    |some (.slice _)=>(aZ x).map .len
    |some .string=>(aZ x).map .lens
    |_=>none
   |_,_=>none
  |_=>none
 |_=>none
theorem rG{P:Program}{t:TypeId}{n:Option Nat}(h:xa P t=some n):BM P t n:=by
 unfold xa at h;split at h
 ·rename_i f hu
  cases hs:t8 P t with
  |none=>simp_all
  |some k=>simp[hs]at h;subst h;exact⟨⟨_,hu,.inl ⟨_,rfl⟩⟩,hs⟩
 ·rename_i n e hu
  cases hs:t8 P t with
  |none=>simp_all
  |some k=>simp[hs]at h;subst h;exact⟨⟨_,hu,.inr ⟨_,_,rfl⟩⟩,hs⟩
 ·rename_i d X8 hd2 hu
  injection h with h
  subst h;exact⟨d,hu,λf e=>X8 f (by rw[<- e]),λn e' e=>hd2 n e' (by rw[<- e])⟩
 ·simp at h
theorem wU{x:Option Operand}{y:Option Opd}(h:wV x=some y):x.map aZ=y.map some:=by
 cases x with
 |none=>simp[wV]at h;subst h;rfl
 |some x=>
  simp[wV]at h
  cases hc:aZ x with
  |none=>simp_all
  |some z=>simp[hc]at h;subst h;simp[hc]
theorem jW{α β:Type}{f:α->Option β}:∀{l:List α}{r:List β},lK f l=some r->l.map f=r.map some:=by
 intro l
 induction l with
 |nil=>intro r h;simp[lK]at h;subst h;rfl
 |cons x l ih=>
  intro r h;simp[lK]at h
  cases hx:f x with
  |none=>simp_all
  |some y=>
   cases hl:lK f l with
   |none=>simp_all
   |some q=>simp[hx,hl]at h;subst h;simp[hx,ih hl]
theorem g9{b:Bool}{u:Unit}(h:mU b=some u):b=true:=by
 unfold mU at h
 simp_all
theorem bg{α β:Type}{x:Option α}{f:α->Option β}{y:β}(h:(x >>= f)=some y):∃a,x=some a/\f a=some y:=by
 cases x with
 |none=>simp_all
 |some a=>simp_all
theorem eK{α β:Type}{x:Option α}{f:α->β}{y:β}(h:x.map f=some y):∃a,x=some a/\f a=y:=by
 simp_all
section
variable {P:Program} {M:Fm} {σ σ':St} {ts:Array Value} {w:World} {G:Gh} {a:Act} {o:Oper}
theorem I8(hI:Inv M σ [] [] a.tmps w G){d:Nat}(hd:o.dst=some d)(hN:d<M.N)(YA:M.pr (2*d+2)=none){mv:Nat}{t:TOp}(hc:dD P mv o.op=some t)(hr:(ev1 d t).run σ=some ((),σ'))(hns:¬ ∃ty x y,o.op=.store ty x y):iv P M σ' a o w:=by
 cases ho:o.op with
 |move x=>
  rw[ho]at hc;simp only[dD]at hc;split at hc
  ·injection hc with hc
   subst hc;exact D7 hI hd hN rfl (.inr ho) hr
  ·obtain⟨y,hy,rfl⟩:=eK hc;exact DV hI hd hN hy (.inl ho) hr
 |assign x=>
  rw[ho]at hc;simp only[dD]at hc;split at hc
  ·obtain⟨y,hy,rfl⟩:=eK hc;exact DV hI hd hN hy (.inr ho) hr
  ·obtain⟨y,hy,rfl⟩:=eK hc;exact D7 hI hd hN hy (.inl ho) hr
 |pick c x y=>
  rw[ho]at hc;simp only[dD]at hc;obtain⟨c1,h1,hc⟩:=bg hc;obtain⟨x1,h2,hc⟩:=bg hc;obtain⟨y1,h3,hc⟩:=bg hc
  injection hc with hc
  subst hc;exact GA hI hd hN h1 h2 h3 ho hr
 |alloc e=>
  rw[ho]at hc;obtain⟨z,hz,rfl⟩:=eK hc;exact D8 hI hd hN YA ho hz hr
 |box e x=>
  rw[ho]at hc;simp only[dD]at hc;obtain⟨n,h1,hc⟩:=bg hc;obtain⟨y,h2,hc⟩:=bg hc
  injection hc with hc
  subst hc;unfold LU at hr;split at hr
  ·exact GH hI hd hN h2 ho hr
  ·exact Jk hI hd hN YA h2 ho hr
 |load t' x=>
  rw[ho]at hc;simp only[dD]at hc;obtain⟨n,h1,hc⟩:=bg hc;obtain⟨y,h2,hc⟩:=bg hc
  injection hc with hc
  subst hc;exact GC hI hd hN h2 ho (rG h1) hr
 |nilCheck x=>
  rw[ho]at hc;obtain⟨y,hy,rfl⟩:=eK hc;exact GB hI hd hN hy ho hr
 |binOp op ty x y yt=>
  rw[ho]at hc;simp only[dD]at hc
  have ZQ:(do some (TOp.bin op (<- aZ x) (<- aZ y)):Option TOp)=some t->iv P M σ' a o w:=by
   intro hc;obtain⟨x1,h2,hc⟩:=bg hc;obtain⟨y1,h3,hc⟩:=bg hc
   injection hc with hc
   subst hc;exact Jm hI hd hN h2 h3 ho hr
  split at hc
  ·rename_i hu;split at hc
   ·obtain⟨x1,h2,hc⟩:=bg hc;obtain⟨y1,h3,hc⟩:=bg hc
    injection hc with hc
    subst hc;exact D6 hI hd hN h2 h3 ho (.inl ⟨rfl,rfl⟩) hu hr
   ·obtain⟨x1,h2,hc⟩:=bg hc;obtain⟨y1,h3,hc⟩:=bg hc
    injection hc with hc
    subst hc;exact D6 hI hd hN h2 h3 ho (.inr ⟨rfl,rfl⟩) hu hr
   ·simp at hc
  ·exact ZQ hc
  ·exact ZQ hc
  ·rename_i fs hu;split at hc
   case isTrue=>simp at hc
   rename_i Yj;split at hc
   case h_2=>simp at hc
   rename_i ks hk;split at hc
   ·obtain⟨x1,h2,hc⟩:=bg hc;obtain⟨y1,h3,hc⟩:=bg hc
    injection hc with hc
    subst hc;exact D2 hI hd hN h2 h3 ho (.inl ⟨rfl,rfl⟩) hu hk (by simpa using Yj) hr
   ·obtain⟨x1,h2,hc⟩:=bg hc;obtain⟨y1,h3,hc⟩:=bg hc
    injection hc with hc
    subst hc;exact D2 hI hd hN h2 h3 ho (.inr ⟨rfl,rfl⟩) hu hk (by simpa using Yj) hr
   ·simp at hc
  ·simp at hc
 |unOp op ty x=>
  rw[ho]at hc;obtain⟨y,hy,rfl⟩:=eK hc;exact KQ hI hd hN hy ho hr
 |convert s dd x=>
  rw[ho]at hc;simp only[dD]at hc;split at hc
  ·rename_i ks k hs Vg;obtain⟨y,hy,rfl⟩:=eK hc;exact GG hI hd hN hy ho hs Vg hr
  ·rename_i e hs Vg;split at hc
   ·rename_i he;obtain⟨y,hy,rfl⟩:=eK hc;exact I6 hI hd hN hy ho hs Vg he hr
   ·simp at hc
  ·rename_i e hs Vg;split at hc
   ·rename_i he;obtain⟨y,hy,rfl⟩:=eK hc;exact Jn hI hd hN hy ho hs Vg he hr
   ·simp at hc
  ·simp at hc
 |fieldAddr s x f=>
  rw[ho]at hc;simp only[dD]at hc;split at hc
  ·rename_i fs hu;split at hc
   ·rename_i fd hf;split at hc
    ·rename_i n hs;obtain⟨y,hy,rfl⟩:=eK hc;exact Jf hI hd hN hy ho hu hf ⟨_,hs⟩ hr
    ·simp at hc
   ·simp at hc
  ·simp at hc
 |field s x f=>
  rw[ho]at hc;simp only[dD]at hc;split at hc
  ·rename_i fs hu;split at hc
   ·rename_i fd hf;obtain⟨n,h1,hc⟩:=bg hc;obtain⟨y,h2,hc⟩:=bg hc
    injection hc with hc
    subst hc;exact GF hI hd hN h2 ho hu hf (rG h1) hr
   ·simp at hc
  ·simp at hc
 |indexAddr ty x i=>
  rw[ho]at hc;simp only[dD]at hc;split at hc
  ·rename_i e hu;obtain⟨n,h1,hc⟩:=bg hc;obtain⟨y,h2,hc⟩:=bg hc;obtain⟨z,h3,hc⟩:=bg hc
   injection hc with hc
   subst hc;exact Je hI hd hN h2 h3 ho hu h1 hr
  ·rename_i n e hu;obtain⟨sz,h1,hc⟩:=bg hc;obtain⟨y,h2,hc⟩:=bg hc;obtain⟨z,h3,hc⟩:=bg hc
   injection hc with hc
   subst hc;exact GE hI hd hN h2 h3 ho hu h1 hr
  ·simp at hc
 |index ty x i=>
  rw[ho]at hc;simp only[dD]at hc;split at hc
  ·rename_i hu;obtain⟨y,h2,hc⟩:=bg hc;obtain⟨z,h3,hc⟩:=bg hc
   injection hc with hc
   subst hc;exact Jd hI hd hN h2 h3 ho hu hr
  ·simp at hc
 |extract x i=>
  rw[ho]at hc;obtain⟨y,hy,rfl⟩:=eK hc;exact Jg hI hd hN hy ho hr
 |makeSlice ty l c=>
  rw[ho]at hc;simp only[dD]at hc;split at hc
  ·rename_i e hu;split at hc
   ·rename_i i hi;split at hc
    ·rename_i z hz;obtain⟨u,h1,hc⟩:=bg hc;obtain⟨y,h2,hc⟩:=bg hc;obtain⟨y2,h3,hc⟩:=bg hc
     injection hc with hc
     subst hc;have hg:=g9 h1;simp only[oBA,oDE]at hg;exact Ja hI hd hN h2 h3 ho hu hi hz rfl rfl hg.1 hg.2 hr
    ·simp at hc
   ·simp at hc
  ·simp at hc
 |slice ty x lo hi mx=>
  rw[ho]at hc;simp only[dD]at hc;split at hc
  ·split at hc
   ·rename_i m h e hu;obtain⟨_,hg,hc⟩:=bg hc;obtain⟨n,h1,hc⟩:=bg hc;obtain⟨y,h2,hc⟩:=bg hc
    injection hc with hc
    subst hc;have hg:=g9 hg;simp only[oBA]at hg;exact Jh hI hd hN h2 ho hg.1.1 hg.1.2 hg.2 hu h1 hr
   ·simp at hc
  ·split at hc
   ·rename_i e hu;obtain⟨n,h1,hc⟩:=bg hc;obtain⟨y,h2,hc⟩:=bg hc;obtain⟨l1,h3,hc⟩:=bg hc;obtain⟨h4,h5,hc⟩:=bg hc
    injection hc with hc
    subst hc;exact I5 hI hd hN h2 (wU h3) (wU h5) ho hu h1 hr
   ·simp at hc
 |makeFunc fn first caps=>
  rw[ho]at hc;simp only[dD]at hc;split at hc
  ·rename_i f;obtain⟨u,h1,hc⟩:=bg hc;obtain⟨l,h2,hc⟩:=bg hc
   injection hc with hc
   subst hc;have hg:=g9 h1
   have hf:first=#[]:=by simpa using hg
   subst hf;exact Jb hI hd hN (jW h2) ho hr
  ·simp at hc
 |buildSlice ty len parts=>
  rw[ho]at hc;simp only[dD]at hc;split at hc
  ·rename_i e hu;split at hc
   ·rename_i i hi;obtain⟨u,h1,hc⟩:=bg hc;obtain⟨l,h2,hc⟩:=bg hc
    injection hc with hc
    subst hc;have hg:=g9 h1;simp only[oBA,Bool.or_eq_true,oDE,beq_iff_eq]at hg;obtain⟨⟨⟨g1,g2⟩,g3⟩,g4⟩:=hg;refine Jj hI hd hN ho hu hi rfl (λh0=>?_) g4 (jW h2) g2 g3 hr;rcases g1 with g1|g1
    ·exact Option.isSome_iff_exists.1 g1
    ·omega
   ·simp at hc
  ·simp at hc
 |build ty parts=>
  rw[ho]at hc;simp only[dD]at hc;split at hc
  ·rename_i fs z hu hz;obtain⟨u,h1,hc⟩:=bg hc;obtain⟨ps,h2,hc⟩:=bg hc
   injection hc with hc
   subst hc;have hg:=g9 h1;simp only[List.all_eq_true]at hg;have hm:=jW h2;refine Jl hI hd hN (szf:=λf=>(t8 P f.type).getD 0) ho hu hz (λf hf=>?_) ?_ (λk h h'=>?_) hr
   ·have:=hg f hf;obtain⟨n,hn⟩:=Option.isSome_iff_exists.1 this;rw[hn];exact hn
   ·have:=congrArg List.length hm;simpa using this
   ·have hk:(parts.toList.map (λp=>match fs[p.1]? with
     |some f=>match t8 P f.type,aZ p.2 with
      |some n,some x=>if f.offset+n<=z.length then some (f.offset,n,x)else none
      |_,_=>none
     |none=>none))[k]?=(ps.map some)[k]?:=by rw[hm]
    simp only[List.getElem?_map,oGE h',oMS,Array.getElem?_toList,Array.getElem?_eq_getElem h]at hk
    cases hf:fs[parts[k].1]? with
    |none=>simp[hf]at hk
    |some f=>
     cases hs:t8 P f.type with
     |none=>simp[hf,hs]at hk
     |some n=>
      cases hx:aZ parts[k].2 with
      |none=>simp[hf,hs,hx]at hk
      |some x=>
       simp only[hf,hs,hx,oSJ]at hk;split at hk
       ·rename_i YO
        injection hk with hk
        rw[<- hk];exact⟨rfl,by simp[hs],YO⟩
       ·simp at hk
  ·rename_i n e z hu hz;split at hc
   ·rename_i sz hsz;obtain⟨ps,h2,hc⟩:=bg hc
    injection hc with hc
    subst hc;have hm:=jW h2;refine GI hI hd hN ho hu hz hsz ?_ (λk h h'=>?_) hr
    ·have:=congrArg List.length hm;simpa using this
    ·have hk:(parts.toList.map (λp=>match aZ p.2 with
      |some x=>if p.1*sz+sz<=z.length then some (p.1*sz,sz,x)else none
      |none=>none))[k]?=(ps.map some)[k]?:=by rw[hm]
     simp only[List.getElem?_map,oGE h',oMS,Array.getElem?_toList,Array.getElem?_eq_getElem h]at hk
     cases hx:aZ parts[k].2 with
     |none=>simp[hx]at hk
     |some x=>
      simp only[hx,oSJ]at hk;split at hk
      ·rename_i YO
       injection hk with hk
       rw[<- hk];exact⟨rfl,rfl,rfl,YO⟩
      ·simp at hk
   ·simp at hc
  ·simp at hc
 |call c=>
  rw[ho]at hc;simp only[dD]at hc;split at hc
  ·rename_i args argTypes;split at hc
   ·rename_i s x t1 t2 ea et
    have ea:args=#[s,x]:=by rw[<- Array.toArray_toList (xs:=args),ea]
    have et:argTypes=#[t1,t2]:=by rw[<- Array.toArray_toList (xs:=argTypes),et]
    subst ea;subst et;split at hc
    ·rename_i PU;subst PU;split at hc
     ·rename_i e hu;split at hc
      ·rename_i i hi;split at hc
       ·rename_i z hz;obtain⟨u,h1,hc⟩:=bg hc;obtain⟨y,h2,hc⟩:=bg hc;obtain⟨y2,h3,hc⟩:=bg hc
        injection hc with hc
        subst hc;have hg:=g9 h1;simp only[oBA,oDE,beq_iff_eq]at hg;exact Jp hI hd hN h2 h3 ho hu hi hz hg.1 rfl rfl hg.2 hr
       ·simp at hc
      ·simp at hc
     ·simp at hc
    ·split at hc
     ·rename_i e kn hu Wb;split at hc
      ·rename_i i hi;split at hc
       ·rename_i z hz;obtain⟨u,h1,hc⟩:=bg hc;obtain⟨y,h2,hc⟩:=bg hc;obtain⟨y2,h3,hc⟩:=bg hc
        injection hc with hc
        subst hc;have hg:=g9 h1;exact Jo hI hd hN h2 h3 ho hu Wb hi hz rfl rfl rfl (of_decide_eq_true hg) hr
       ·simp at hc
      ·simp at hc
     ·simp at hc
   ·simp at hc
  ·rename_i args argTypes;split at hc
   ·rename_i x y t1 t2 ea et
    have ea:args=#[x,y]:=by rw[<- Array.toArray_toList (xs:=args),ea]
    have et:argTypes=#[t1,t2]:=by rw[<- Array.toArray_toList (xs:=argTypes),et]
    subst ea;subst et;split at hc
    ·rename_i e hu;obtain⟨sz,h1,hc⟩:=bg hc;obtain⟨y1,h2,hc⟩:=bg hc;obtain⟨y2,h3,hc⟩:=bg hc
     injection hc with hc
     subst hc;exact Ji hI hd hN h2 h3 ho hu h1 hr
    ·simp at hc
   ·simp at hc
  ·rename_i args argTypes;obtain⟨l,h1,rfl⟩:=eK hc;exact Iv (mx:=false) hI hd hN (jW h1) ho hr
  ·rename_i args argTypes;obtain⟨l,h1,rfl⟩:=eK hc;exact Iv (mx:=true) hI hd hN (jW h1) ho hr
  ·rename_i args argTypes;split at hc
   ·rename_i x t1 ea et
    have ea:args=#[x]:=by rw[<- Array.toArray_toList (xs:=args),ea]
    have et:argTypes=#[t1]:=by rw[<- Array.toArray_toList (xs:=argTypes),et]
    subst ea;subst et;split at hc
    ·rename_i e hu;obtain⟨y,hy,rfl⟩:=eK hc;exact Jc hI hd hN hy ho hu hr
    ·rename_i hu;obtain⟨y,hy,rfl⟩:=eK hc;exact GD hI hd hN hy ho hu hr
    ·simp at hc
   ·simp at hc
  ·simp at hc
 |store ty x y=>
  rw[ho]at hc;simp only[dD]at hc;obtain⟨n,h1,hc⟩:=bg hc;obtain⟨u,h2,hc⟩:=bg hc;obtain⟨x1,h3,hc⟩:=bg hc;obtain⟨y1,h4,hc⟩:=bg hc
  injection hc with hc
  subst hc;exact absurd hns (by simp[ho])
 |_=>rw[ho]at hc;simp[dD]at hc
end
inductive Loc where
 |t (i:Nat)
 |c (r o:Nat)
 |h (r o:Nat)
 |n (r:Nat)
 |v (q:Key)
 deriving DecidableEq
def Loc.hit:Loc->Loc->Bool
 |.t i,.t j=>i==j
 |.c r o,.c r' o'=>r==r'&&o==o'
 |.n r,.n r'=>r==r'
 |.n r,.c r' _=>r==r'
 |.h r o,.h r' o'=>r==r'&&o==o'
 |.n r,.h r' _=>r==r'
 |.v q,.v q'=>q==q'
 |_,_=>false
abbrev mE:=List Loc×List Loc
def hdW(r o:Nat)(t t':TV):List Loc:=if t'.hd=t.hd then[]else[.h r o]
def SP.foot{α:Type}:SP α->St->mE
 |.ret _,_=>([],[])
 |.fail,_=>([],[])
 |.rdT i k,σ=>(.t i::((k (σ.t i)).foot σ).1,((k (σ.t i)).foot σ).2)
 |.rdC r o k,σ=>(.c r o::((k (σ.c r o)).foot σ).1,((k (σ.c r o)).foot σ).2)
 |.rdH r o k,σ=>(.h r o::((k (σ.c r o).hd).foot σ).1,((k (σ.c r o).hd).foot σ).2)
 |.rdV q k,σ=>(.v q::((k (σ.v q)).foot σ).1,((k (σ.v q)).foot σ).2)
 |.wrT i t k,σ=>((k.foot { σ with tm:=dn σ.tm i t }).1,.t i::(k.foot { σ with tm:=dn σ.tm i t }).2)
 |.wrC r o t k,σ=>
  match bt σ.ce r with
  |some l=>if o<l.length then(.n r :: .h r o::(k.foot { σ with ce:=dn σ.ce r (l.set o t) }).1,.c r o::(hdW r o (σ.c r o) t++(k.foot { σ with ce:=dn σ.ce r (l.set o t) }).2))else([],[])
  |none=>([],[])
 |.new r l k,σ=>(.v (r,0,0)::(k.foot { σ with ce:=dn σ.ce r l,vr:=lu σ.vr (r,0,0) }).1,.n r :: .v (r,0,0)::(k.foot { σ with ce:=dn σ.ce r l,vr:=lu σ.vr (r,0,0) }).2)
 |.bump q k,σ=>(.v q::(k.foot { σ with vr:=lu σ.vr q }).1,.v q::(k.foot { σ with vr:=lu σ.vr q }).2)
def fq(σ σ':St):Loc->Prop
 |.t i=>bt σ.tm i=bt σ'.tm i
 |.c r o=>σ.c r o=σ'.c r o
 |.h r o=>(σ.c r o).hd=(σ'.c r o).hd
 |.n r=>(bt σ.ce r).map List.length=(bt σ'.ce r).map List.length
 |.v q=>σ.v q=σ'.v q
def Ki(σ σ':St):Prop:=∀x,fq σ σ' x
theorem fq.refl(σ:St)(x:Loc):fq σ σ x:=by cases x<;>rfl
theorem fq.symm{σ σ':St}{x:Loc}(h:fq σ σ' x):fq σ' σ x:=by cases x<;>exact Eq.symm h
theorem fq.trans{σ σ' σ'':St}{x:Loc}(h:fq σ σ' x)(h':fq σ' σ'' x):fq σ σ'' x:=by cases x<;>exact Eq.trans h h'
theorem Ge{σ:St}{r o:Nat}{t:TV}{l:List TV}(h:bt σ.ce r=some l)(ho:o<l.length)(r' o':Nat):St.c { σ with ce:=dn σ.ce r (l.set o t) } r' o'=if r'=r/\o'=o then t else σ.c r' o':=by
 have:=congrFun (congrFun (tY (t:=t) h ho) r') o';exact this
theorem L5{σ:St}{r:Nat}{l l':List TV}(h:bt σ.ce r=some l)(hl:l'.length=l.length)(r':Nat):(bt (dn σ.ce r l') r').map List.length=(bt σ.ce r').map List.length:=by
 rw[bM]
 grind
theorem Dd{σ:St}{r:Nat}{l:List TV}{vr:List (Key×Nat)}(r' o':Nat):St.c { σ with ce:=dn σ.ce r l,vr:=vr } r' o'=if r'=r then l.getD o' .dead else σ.c r' o':=by
 unfold St.c;simp[bM];by_cases e:r=r'
 ·simp_all
 ·rw[oIN e,oIN (Ne.symm e)]
theorem fS{α:Type}{s:SP α}:∀{σ:St}{a:α}{τ:St},s.run σ=some (a,τ)->∀x,(∀w∈(s.foot σ).2,w.hit x=false)->fq σ τ x:=by
 induction s with
 |ret a=>intro σ b τ h x _;simp only[SP.run,oSJ,oPJ]at h;rw[h.2];exact fq.refl _ _
 |fail=>intro σ b τ h;simp[SP.run]at h
 |rdT i k ih=>intro σ b τ h x hx;exact ih _ h x hx
 |rdC r o k ih=>intro σ b τ h x hx;exact ih _ h x hx
 |rdH r o k ih=>intro σ b τ h x hx;exact ih _ h x hx
 |rdV q k ih=>intro σ b τ h x hx;exact ih _ h x hx
 |wrT i t k ih=>
  intro σ b τ h x hx;refine fq.trans ?_ (ih h x λw hw=>hx w (by simp[SP.foot,hw]));have h1:=hx (.t i) (by simp[SP.foot])
  cases x with
  |t j=>
   simp only[Loc.hit,beq_eq_false_iff_ne,ne_eq]at h1;simp[fq,bM,h1]
  |_=>exact rfl
 |wrC r o t k ih=>
  intro σ b τ h x hx;obtain⟨l,hl,ho,h2⟩:=bu h;simp only[SP.foot,hl,ho,if_true]at hx;refine fq.trans ?_ (ih h2 x λw hw=>hx w (by simp[hw]));have h1:=hx (.c r o) (by simp)
  cases x with
  |c r' o'=>
   simp only[Loc.hit,Bool.and_eq_false_imp,beq_iff_eq,beq_eq_false_iff_ne,ne_eq]at h1;show σ.c r' o'=_;rw[Ge hl ho,oIN];omega
  |h r' o'=>
   show(σ.c r' o').hd=TV.hd (St.c _ r' o');rw[Ge hl ho];split
   ·rename_i e;obtain⟨e1,e2⟩:=e;subst e1;subst e2;by_cases hh:t.hd=(σ.c r' o').hd
    ·exact hh.symm
    ·have:=hx (.h r' o') (by simp[hdW,hh]);simp[Loc.hit]at this
   ·rfl
  |n r'=>exact(L5 hl (by simp) r').symm
  |_=>exact rfl
 |new r l k ih=>
  intro σ b τ h x hx;refine fq.trans ?_ (ih h x λw hw=>hx w (by simp[SP.foot,hw]));have h1:=hx (.n r) (by simp[SP.foot]);have h2:=hx (.v (r,0,0)) (by simp[SP.foot])
  cases x with
  |t j=>exact rfl
  |c r' o'=>
   simp only[Loc.hit,beq_eq_false_iff_ne,ne_eq]at h1;show σ.c r' o'=_;rw[Dd,oIN (Ne.symm h1)]
  |h r' o'=>
   simp only[Loc.hit,beq_eq_false_iff_ne,ne_eq]at h1;show(σ.c r' o').hd=TV.hd (St.c _ r' o');rw[Dd,oIN (Ne.symm h1)]
  |n r'=>
   simp only[Loc.hit,beq_eq_false_iff_ne,ne_eq]at h1;simp[fq,bM,h1]
  |v q=>
   simp only[Loc.hit,beq_eq_false_iff_ne,ne_eq]at h2;show nj σ.vr q=nj (lu σ.vr (r,0,0)) q;rw[dI,oIN h2];rfl
 |bump q k ih=>
  intro σ b τ h x hx;refine fq.trans ?_ (ih h x λw hw=>hx w (by simp[SP.foot,hw]));have h2:=hx (.v q) (by simp[SP.foot])
  cases x with
  |v q'=>
   simp only[Loc.hit,beq_eq_false_iff_ne,ne_eq]at h2;show nj σ.vr q'=nj (lu σ.vr q) q';rw[dI,oIN h2];rfl
  |_=>exact rfl
theorem iO{α:Type}{s:SP α}:∀{σ σ':St}{a:α}{τ:St},s.run σ=some (a,τ)->(∀x∈(s.foot σ).1,fq σ σ' x)->
 s.foot σ'=s.foot σ/\∃ τ',s.run σ'=some (a,τ')/\∀x,(fq σ σ' x\/∃w∈(s.foot σ).2,w.hit x=true)->fq τ τ' x:=by
 induction s with
 |ret a=>
  intro σ σ' b τ h hr;obtain⟨rfl,rfl⟩:=h;exact⟨rfl,σ',rfl,λx hx=>hx.elim id λ⟨w,hw,_⟩=>by simp[SP.foot]at hw⟩
 |fail=>intro σ σ' b τ h;simp[SP.run]at h
 |rdT i k ih=>
  intro σ σ' b τ h hr
  have h1:σ.t i=σ'.t i:=by
   have:bt σ.tm i=bt σ'.tm i:=hr (.t i) (by simp[SP.foot]);simp[St.t,this]
  obtain⟨e,τ',h2,h3⟩:=ih _ h λx hx=>hr x (by simp[SP.foot,hx]);refine⟨by simp only[SP.foot];rw[<- h1,e],τ',by simp only[SP.run];rw[<- h1];exact h2,h3⟩
 |rdC r o k ih=>
  intro σ σ' b τ h hr;have h1:σ.c r o=σ'.c r o:=hr (.c r o) (by simp[SP.foot]);obtain⟨e,τ',h2,h3⟩:=ih _ h λx hx=>hr x (by simp[SP.foot,hx]);refine⟨by simp only[SP.foot];rw[<- h1,e],τ',by simp only[SP.run];rw[<- h1];exact h2,h3⟩
 |rdH r o k ih=>
  intro σ σ' b τ h hr;have h1:(σ.c r o).hd=(σ'.c r o).hd:=hr (.h r o) (by simp[SP.foot]);obtain⟨e,τ',h2,h3⟩:=ih _ h λx hx=>hr x (by simp[SP.foot,hx]);refine⟨by simp only[SP.foot];rw[<- h1,e],τ',by simp only[SP.run];rw[<- h1];exact h2,h3⟩
 |rdV q k ih=>
  intro σ σ' b τ h hr;have h1:σ.v q=σ'.v q:=hr (.v q) (by simp[SP.foot]);obtain⟨e,τ',h2,h3⟩:=ih _ h λx hx=>hr x (by simp[SP.foot,hx]);refine⟨by simp only[SP.foot];rw[<- h1,e],τ',by simp only[SP.run];rw[<- h1];exact h2,h3⟩
 |wrT i t k ih=>
  intro σ σ' b τ h hr
  have hal:∀x,(fq σ σ' x\/x=.t i)->fq { σ with tm:=dn σ.tm i t } { σ' with tm:=dn σ'.tm i t } x:=by
   rintro x (hx|rfl)
   ·cases x with
    |t j=>
     show bt (dn σ.tm i t) j=bt (dn σ'.tm i t) j;rw[bM,bM];split
     ·rfl
     ·exact hx
    |_=>exact hx
   ·show bt (dn σ.tm i t) i=bt (dn σ'.tm i t) i;rw[bM,bM];simp
  obtain⟨e,τ',h2,h3⟩:=ih (σ':={ σ' with tm:=dn σ'.tm i t }) h λx hx=>hal x (.inl (hr x (by simp[SP.foot,hx])));refine⟨by simp only[SP.foot];rw[e],τ',h2,λx hx=>h3 x ?_⟩;rcases hx with hx|⟨w,hw,hh⟩
  ·exact .inl (hal x (.inl hx))
  ·simp only[SP.foot,List.mem_cons]at hw;rcases hw with rfl|hw
   ·left;refine hal x (.inr ?_);cases x<;>simp[Loc.hit]at hh;rw[hh]
   ·exact .inr ⟨w,hw,hh⟩
 |wrC r o t k ih=>
  intro σ σ' b τ h hr;obtain⟨l,hl,ho,h0⟩:=bu h;simp only[SP.foot,hl,ho,if_true]at hr⊢;have hn:(bt σ.ce r).map List.length=(bt σ'.ce r).map List.length:=hr (.n r) (by simp)
  obtain⟨l',X',RB⟩:∃l',bt σ'.ce r=some l'/\l'.length=l.length:=by
   rw[hl]at hn
   cases ha:bt σ'.ce r with
   |none=>rw[ha]at hn;simp at hn
   |some l'=>rw[ha]at hn;exact⟨l',rfl,by simpa using hn.symm⟩
  have Y7:o<l'.length:=by omega
  have hh:(σ.c r o).hd=(σ'.c r o).hd:=hr (.h r o) (by simp)
  have hW:hdW r o (σ'.c r o) t=hdW r o (σ.c r o) t:=by unfold hdW;rw[hh]
  have hal:∀x,(fq σ σ' x\/x=.c r o\/x=.h r o)->fq { σ with ce:=dn σ.ce r (l.set o t) } { σ' with ce:=dn σ'.ce r (l'.set o t) } x:=by
   rintro x (hx|rfl|rfl)
   ·cases x with
    |c r' o'=>
     show St.c _ r' o'=St.c _ r' o';rw[Ge hl ho,Ge X' Y7];split
     ·rfl
     ·exact hx
    |h r' o'=>
     show TV.hd (St.c _ r' o')=TV.hd (St.c _ r' o');rw[Ge hl ho,Ge X' Y7];split
     ·rfl
     ·exact hx
    |n r'=>
     show Option.map _ _=Option.map _ _;rw[L5 hl (by simp),L5 X' (by simp)];exact hx
    |_=>exact hx
   ·show St.c _ r o=St.c _ r o;rw[Ge hl ho,Ge X' Y7];simp
   ·show TV.hd (St.c _ r o)=TV.hd (St.c _ r o);rw[Ge hl ho,Ge X' Y7];simp
  obtain⟨e,τ',h2,h3⟩:=ih (σ':={ σ' with ce:=dn σ'.ce r (l'.set o t) }) h0 λx hx=>hal x (.inl (hr x (by simp[hx])));refine⟨by simp only[X',Y7,if_true];rw[e,hW],τ',by simp only[SP.run,X',Y7,if_true];exact h2,λx hx=>h3 x ?_⟩;rcases hx with hx|⟨w,hw,hh⟩
  ·exact .inl (hal x (.inl hx))
  ·simp only[List.mem_cons,List.mem_append]at hw;rcases hw with rfl|hw|hw
   ·left;refine hal x (.inr (.inl ?_));cases x<;>simp[Loc.hit]at hh;rw[hh.1,hh.2]
   ·left;refine hal x (.inr (.inr ?_));unfold hdW at hw;split at hw
    ·simp at hw
    ·simp only[List.mem_singleton]at hw;subst hw;cases x<;>simp[Loc.hit]at hh;rw[hh.1,hh.2]
   ·exact .inr ⟨w,hw,hh⟩
 |new r l k ih=>
  intro σ σ' b τ h hr;have hv:σ.v (r,0,0)=σ'.v (r,0,0):=hr (.v (r,0,0)) (by simp[SP.foot])
  have hal:∀x,(fq σ σ' x\/(Loc.n r).hit x=true)->fq { σ with ce:=dn σ.ce r l,vr:=lu σ.vr (r,0,0) } { σ' with ce:=dn σ'.ce r l,vr:=lu σ'.vr (r,0,0) } x:=by
   intro x hx
   cases x with
   |t j=>rcases hx with hx|hx
         ·exact hx
         ·simp[Loc.hit]at hx
   |c r' o'=>
    show St.c _ r' o'=St.c _ r' o';rw[Dd,Dd];split
    ·rfl
    ·rename_i e;rcases hx with hx|hx
     ·exact hx
     ·simp[Loc.hit]at hx;exact absurd hx.symm e
   |h r' o'=>
    show TV.hd (St.c _ r' o')=TV.hd (St.c _ r' o');rw[Dd,Dd];split
    ·rfl
    ·rename_i e;rcases hx with hx|hx
     ·exact hx
     ·simp[Loc.hit]at hx;exact absurd hx.symm e
   |n r'=>
    show Option.map _ (bt (dn _ _ _) _)=Option.map _ (bt (dn _ _ _) _);rw[bM,bM];split
    ·rfl
    ·rename_i e;rcases hx with hx|hx
     ·exact hx
     ·simp[Loc.hit]at hx;exact absurd hx e
   |v q=>
    show nj (lu _ _) q=nj (lu _ _) q;rw[dI,dI];rcases hx with hx|hx
    ·have hx:nj σ.vr q=nj σ'.vr q:=hx;rw[hx]
    ·simp[Loc.hit]at hx
  obtain⟨e,τ',h2,h3⟩:=ih (σ':={ σ' with ce:=dn σ'.ce r l,vr:=lu σ'.vr (r,0,0) }) h λx hx=>hal x (.inl (hr x (by simp[SP.foot,hx])));refine⟨by simp only[SP.foot];rw[e],τ',h2,λx hx=>h3 x ?_⟩;rcases hx with hx|⟨w,hw,hh⟩
  ·exact .inl (hal x (.inl hx))
  ·simp only[SP.foot,List.mem_cons]at hw;rcases hw with rfl|rfl|hw
   ·exact .inl (hal x (.inr hh))
   ·left;refine hal x (.inl ?_);cases x<;>simp[Loc.hit]at hh;rw[<- hh];exact hv
   ·exact .inr ⟨w,hw,hh⟩
 |bump q k ih=>
  intro σ σ' b τ h hr;have hv:σ.v q=σ'.v q:=hr (.v q) (by simp[SP.foot])
  have hal:∀x,fq σ σ' x->fq { σ with vr:=lu σ.vr q } { σ' with vr:=lu σ'.vr q } x:=by
   intro x hx
   cases x with
   |v q'=>
    show nj (lu _ _) q'=nj (lu _ _) q';rw[dI,dI];have hx:nj σ.vr q'=nj σ'.vr q':=hx;rw[hx]
   |_=>exact hx
  obtain⟨e,τ',h2,h3⟩:=ih (σ':={ σ' with vr:=lu σ'.vr q }) h λx hx=>hal x (hr x (by simp[SP.foot,hx]));refine⟨by simp only[SP.foot];rw[e],τ',h2,λx hx=>h3 x ?_⟩;rcases hx with hx|⟨w,hw,hh⟩
  ·exact .inl (hal x hx)
  ·simp only[SP.foot,List.mem_cons]at hw;rcases hw with rfl|hw
   ·left;refine hal x ?_;cases x<;>simp[Loc.hit]at hh;rw[<- hh];exact hv
   ·exact .inr ⟨w,hw,hh⟩
def CA(a b:List Loc):Bool:=a.any λw=>b.any λx=>w.hit x
def kF(a b:mE):Bool:=CA a.2 b.1||CA a.2 b.2||CA b.2 a.1||CA b.2 a.2
theorem mt{a b:List Loc}(h:CA a b=false):∀w∈a,∀x∈b,w.hit x=false:=by
 simp[CA]at h
 simp_all
theorem Hm{w w' x:Loc}(h:w.hit x=true)(h':w'.hit x=true):w.hit w'=true\/w'.hit w=true:=by
 cases x<;>cases w<;>simp[Loc.hit]at h<;>cases w'<;>simp[Loc.hit]at h'⊢<;>simp_all
theorem BQ{A B:SP Unit}{σ σ1 σ2:St}(hA:A.run σ=some ((),σ1))(hB:B.run σ1=some ((),σ2))(hc:kF (A.foot σ) (B.foot σ1)=false):
 ∃ σ1' σ2',B.run σ=some ((),σ1')/\A.run σ1'=some ((),σ2')/\Ki σ2 σ2'/\B.foot σ=B.foot σ1/\A.foot σ1'=A.foot σ:=by
 simp only[kF,Bool.or_eq_false_iff]at hc;obtain⟨⟨⟨c1,c2⟩,c3⟩,c4⟩:=hc;have hR:=λx hx=>(fS hA x λw hw=>mt c1 w hw x hx).symm;obtain⟨e1,σ1',Qj,M'⟩:=iO hB hR;have XC:∀x,(∀w∈(B.foot σ1).2,w.hit x=false)->fq σ σ1' x:=λx hx=>fS Qj x (by simp_all);have SO:=λx hx=>XC x λw hw=>mt c3 w hw x hx;obtain⟨e2,σ2',M8,hA2⟩:=iO hA SO;refine⟨σ1',σ2',Qj,M8,λx=>?_,e1,e2⟩;by_cases hx:∃w∈(B.foot σ1).2,w.hit x=true
 ·obtain⟨w,hw,hh⟩:=hx;refine fq.trans (M' x (.inr ⟨w,hw,hh⟩)) (fS M8 x λw' Sr=>?_);rw[e2]at Sr
  cases hh':w'.hit x with
  |false=>rfl
  |true=>
   rcases Hm hh hh' with h|h
   ·rw[mt c4 w hw w' Sr]at h;simp at h
   ·rw[mt c2 w' Sr w hw]at h;simp at h
 ·have hx':∀w∈(B.foot σ1).2,w.hit x=false:=λw hw=>by
   simp_all
  refine fq.trans (fS hB x hx').symm (hA2 x ?_)
  simp_all
theorem sS{α:Type}{s:SP α}{σ σ':St}{a:α}{τ:St}(h:s.run σ=some (a,τ))(hs:Ki σ σ'):s.foot σ'=s.foot σ/\∃ τ',s.run σ'=some (a,τ')/\Ki τ τ':=by
 have ⟨e,τ',h1,h2⟩:=iO h λx _=>hs x;exact⟨e,τ',h1,λx=>h2 x (.inl (hs x))⟩
def mF(pg:Nat->SP Unit):List Nat->St->Option (List (Nat×mE)×St)
 | [],σ=>some ([],σ)
 |i::r,σ=>((pg i).run σ).bind λx=>(mF pg r x.2).bind λy=>some ((i,(pg i).foot σ)::y.1,y.2)
theorem Cg{pg:Nat->SP Unit}:∀{L:List Nat}{σ σ':St}{fs:List (Nat×mE)}{τ:St},mF pg L σ=some (fs,τ)->Ki σ σ'->∃ τ',mF pg L σ'=some (fs,τ')/\Ki τ τ':=by
 intro L
 induction L with
 |nil=>
  intro σ σ' fs τ h hs;obtain⟨rfl,rfl⟩:=h;exact⟨σ',rfl,hs⟩
 |cons i L ih=>
  intro σ σ' fs τ h hs;have ⟨⟨u,σ1⟩,h1,h2⟩:=bg h;have ⟨⟨OE,τ0⟩,h3,h4⟩:=bg h2
  injection h4 with h4
  injection h4 with h4 h5
  subst h5;have ⟨e,σ1',k1,k2⟩:=sS h1 hs;have ⟨τ',k3,k4⟩:=ih h3 k2;exact⟨τ',by simp[mF,k1,k3,e];rw[h4],k4⟩
theorem yT{pg:Nat->SP Unit}{i:Nat}{post:List Nat}:∀{pre:List Nat}{σ:St}{fs:List (Nat×mE)}{τ:St},mF pg (pre++i::post) σ=some (fs,τ)->
 (∀XT F Wu,fs=XT++(i,F)::Wu->XT.map (·.1)=pre->∀y∈XT,kF y.2 F=false)->
 ∃ σ' τ' XT F Wu,fs=XT++(i,F)::Wu/\XT.map (·.1)=pre/\(pg i).run σ=some ((),σ')/\(pg i).foot σ=F/\mF pg (pre++post) σ'=some (XT++Wu,τ')/\Ki τ τ':=by
 intro pre
 induction pre with
 |nil=>
  intro σ fs τ h _;obtain⟨⟨u,σ1⟩,h1,h2⟩:=bg h;obtain⟨⟨OE,τ0⟩,h3,h4⟩:=bg h2
  injection h4 with h4
  injection h4 with h4 h5
  subst h5;exact⟨σ1,τ0,[],_,OE,h4.symm,rfl,h1,rfl,h3,λx=>fq.refl _ _⟩
 |cons j pre ih=>
  intro σ fs τ h hc;obtain⟨⟨u,σ1⟩,h1,h2⟩:=bg h;obtain⟨⟨OE,τ0⟩,h3,h4⟩:=bg h2
  injection h4 with h4
  injection h4 with h4 h5
  subst h5;obtain⟨σ2,τ',XT,F,Wu,e1,e2,k1,k2,k3,k4⟩:=ih h3 λXT F Wu e e' y hy=>hc ((j,(pg j).foot σ)::XT) F Wu (by rw[<- h4,e];rfl) (by simp[e']) y (by simp[hy])
  have hcl:kF ((pg j).foot σ) ((pg i).foot σ1)=false:=by
   rw[k2];exact hc ((j,(pg j).foot σ)::XT) F Wu (by rw[<- h4,e1];rfl) (by simp[e2]) (j,(pg j).foot σ) (by simp)
  obtain⟨σ1',σ2',m1,m2,m3,m4,m5⟩:=BQ h1 k1 hcl;obtain⟨τ2,n1,n2⟩:=Cg k3 m3;refine⟨σ1',τ2,(j,(pg j).foot σ)::XT,F,Wu,by rw[<- h4,e1];rfl,by simp[e2],m1,m4.trans k2,?_,λx=>(k4 x).trans (n2 x)⟩;simp only[List.cons_append,mF,m2,oBS,n1,m5]
def fh(deps:List (List Nat)):List (Nat×mE)->Bool
 | []=>true
 |(j,F)::r=>(r.all λy=>!kF F y.2||(deps.getD y.1 []).contains j)&&fh deps r
structure fj where
 dst:Option Nat
 guard:Option (Nat×Bool)
 op:TOp
inductive gu where
 |skip
 |nrm (pers:List Nat×List Nat)
 |reg (id:Nat) (draw:Option (List (List Nat))) (ops:List fj) (pers:List Nat×List Nat)
 |seq (a b:gu)
 |cond (c:Opd) (a b:gu)
 |block (id:Nat) (b:gu)
 |loop (b:gu)
 |exit (id:Nat)
 |ret
 |pre (l:List (Nat×Option Nat)) (a:gu)
 |post (a:gu) (l:List (Nat×Option Nat))
inductive gt where
 |normal
 |exit (id:Nat)
 |ret
def renorm0(L:List Nat)(σ:St):TV->TV
 |.ptr p vs=>if L.contains p.root&&vs==fU σ.v p.root p.off p.hops.length then .ptr p (fU (λ_=>0) p.root p.off p.hops.length)else .dead
 |.pk p vs=>if L.contains p.root&&vs==fU σ.v p.root p.off (p.hops.length+1)then .pk p (fU (λ_=>0) p.root p.off (p.hops.length+1))else .dead
 |.pw p vs sz lo n=>if L.contains p.root&&vs==fU σ.v p.root p.off (p.hops.length+1)then .pw p (fU (λ_=>0) p.root p.off (p.hops.length+1)) sz lo n else .dead
 |.v x=>.v x
 |.sl c=>.sl c
 |.ip cs=>.ip cs
 |.ow []=>.ow []
 |.tup []=>.tup []
 |_=>.dead
def renorm(L:List Nat)(σ:St):TV->TV
 |.agg l=>.agg (l.map (renorm0 L σ))
 |.fn f l=>.fn f (l.map (renorm0 L σ))
 |t=>renorm0 L σ t
def normT(L:List Nat)(σ:St):List Nat->List (Nat×TV)
 | []=>[]
 |i::r=>match bt σ.tm i with|some t=>(i,renorm L σ t)::normT L σ r|none=>normT L σ r
def normC(σ:St):List Nat->List (Nat×List TV)
 | []=>[]
 |r::l=>match bt σ.ce r with|some c=>(r,c)::normC σ l|none=>normC σ l
abbrev Prs:=List Nat×List Nat
def St.norm(σ:St)(pers:Prs):St:=⟨normT pers.2 σ pers.1,normC σ pers.2,[]⟩
def evop(call:Option Nat->TOp->SP Unit)(dst:Option Nat)(op:TOp):SP Unit:=
 match op with
 |.call k f args=>call dst (.call k f args)
 |.store n mv a x=>match dst with|none=>ev1 0 (.store n mv a x)|some _=>.fail
 |op=>match dst with|some d=>ev1 d op|none=>.fail
def uT(call:Option Nat->TOp->SP Unit)(o:fj)(σ:St):Option St:=
 match o.guard with
 |none=>((evop call o.dst o.op).run σ).map (·.2)
 |some (j,want)=>
  match σ.t j with
  |.v (.bool b)=>if b=want then((evop call o.dst o.op).run σ).map (·.2)else match o.dst with|some d=>some { σ with tm:=dn σ.tm d (.tup []) } |none=>some σ
  |.tup []=>match o.dst with|some d=>some { σ with tm:=dn σ.tm d (.tup []) } |none=>some σ
  |_=>none
def nR(call:Option Nat->TOp->SP Unit):List fj->St->Option St
 | [],σ=>some σ
 |o::r,σ=>(uT call o σ).bind (nR call r)
def setNo(dst:Option Nat):SP Unit:=match dst with|some d=>.wrT d (.tup []) (.ret ())|none=>.ret ()
def spOp(call:Option Nat->TOp->SP Unit)(o:fj):SP Unit:=
 match o.guard with
 |none=>evop call o.dst o.op
 |some (j,want)=>.rdT j λt=>match t with
  |.v (.bool b)=>if b=want then evop call o.dst o.op else setNo o.dst
  |.tup []=>setNo o.dst
  |_=>.fail
def yy:fj:=⟨none,none,.lens (.t 0)⟩
theorem AB{call:Option Nat->TOp->SP Unit}{o:fj}{σ σ':St}(h:(spOp call o).run σ=some ((),σ')):uT call o σ=some σ':=by
 have Yz:∀{σ'},(setNo o.dst).run σ=some ((),σ')->(match o.dst with|some d=>some { σ with tm:=dn σ.tm d (.tup []) } |none=>some σ)=some σ':=by
  intro σ' h;unfold setNo at h
  cases hd:o.dst with
  |none=>rw[hd]at h;simp only[SP.run,oSJ,oPJ,true_and]at h;simp[h]
  |some d=>rw[hd]at h;simp only[SP.run,oSJ,oPJ,true_and]at h;simp[h]
 unfold spOp at h;unfold uT
 cases hg:o.guard with
 |none=>simp_all
 |some g=>
  rw[hg]at h;simp[SP.run]at h⊢;split at h
  ·grind
  ·simp_all
  ·simp[SP.run]at h
def JT(f:St->Option (gt×St)):Nat->St->Option (gt×St)
 |0,_=>none
 |n+1,σ=>(f σ).bind λx=>match x.1 with|.normal=>JT f n x.2|e=>some (e,x.2)
def shr1(x:Nat×Option Nat):SP Unit:=.rdT x.1 λt=>match x.2,t with
 |none,.pk p vs=>(take1 false (.pk p vs)).bind λt'=>.wrT x.1 t'.imm (.ret ())
 |some off,.ptr p vs=>(chk p p.hops.length vs).bind λ_=>if p.fits off then(getPl (p.add off)).bind λt=>match t with
  |.ow c=>(peek1 (p.add off) (.ow c)).bind λt'=>(take1 false t').bind λ_=>.ret ()
  |_=>.ret ()
  else .fail
 |_,_=>.ret ()
def shrs:List (Nat×Option Nat)->SP Unit
 | []=>.ret ()
 |x::r=>(shr1 x).bind λ_=>shrs r
def St.anew(σ:St):St:=σ.norm (σ.tm.map (·.1),σ.ce.map (·.1))
def runC(call:Option Nat->TOp->SP Unit)(N:Nat):gu->St->Option (gt×St)
 |.skip,σ=>some (.normal,σ)
 |.nrm pers,σ=>some (.normal,σ.norm pers)
 |.reg _ draw ops pers,σ=>
  match draw with
  |none=>(nR call ops σ).map fun σ'=>(.normal,σ'.norm pers)
  |some deps=>(mF (λi=>spOp call (ops.getD i yy)) (List.range ops.length) σ).bind λx=>if fh deps x.1 then some (.normal,x.2.norm pers)else none
 |.seq a b,σ=>(runC call N a σ).bind λx=>match x.1 with|.normal=>runC call N b x.2|e=>some (e,x.2)
 |.cond c a b,σ=>((opd c).run σ).bind λx=>match x.1 with|.v (.bool true)=>runC call N a σ |.v (.bool false)=>runC call N b σ |_=>none
 |.block id b,σ=>(runC call N b σ).bind λx=>match x.1 with|.exit i=>if i=id then some (.normal,x.2)else some (.exit i,x.2)|e=>some (e,x.2)
 |.loop b,σ=>JT (runC call N b) N σ
 |.exit id,σ=>some (.exit id,σ)
 |.ret,σ=>some (.ret,σ)
 |.pre l a,σ=>((shrs l).run σ).bind λx=>runC call N a x.2.anew
 |.post a l,σ=>(runC call N a σ).bind λx=>((shrs l).run x.2).bind λy=>some (x.1,y.2.anew)
section norm
variable {M:Fm} {σ σ':St} {ts:Array Value} {w:World} {G:Gh}
theorem Dk(L:List Nat)(σ:St)(l:List Nat)(i:Nat):bt (normT L σ l) i=if i∈l then(bt σ.tm i).map (renorm L σ)else none:=by
 induction l with
 |nil=>simp[normT,bt]
 |cons j r ih=>
  simp[normT];by_cases hj:j=i
  ·subst hj
   cases h:bt σ.tm j with
   |none=>simp_all
   |some t=>simp[bt]
  ·cases h:bt σ.tm j with
   |none=>simp[ih,Ne.symm hj]
   |some t=>simp[bt,hj,ih,Ne.symm hj]
theorem pO(σ:St)(l:List Nat)(r:Nat):bt (normC σ l) r=if r∈l then bt σ.ce r else none:=by
 induction l with
 |nil=>simp[normC,bt]
 |cons j l ih=>
  simp[normC];by_cases hj:j=r
  ·subst hj
   cases h:bt σ.ce j with
   |none=>simp_all
   |some t=>simp[bt]
  ·cases h:bt σ.ce j with
   |none=>simp[ih,Ne.symm hj]
   |some t=>simp[bt,hj,ih,Ne.symm hj]
theorem Inv.norm(hI:Inv M σ [] [] ts w G)(pers:Prs):∃G',Inv M (σ.norm pers) [] [] ts w G':=by
 obtain⟨L,hL⟩:∃L,L=pers.2:=⟨_,rfl⟩
 have hc:∀r o,(σ.norm pers).c r o=if r∈L then σ.c r o else .dead:=by
  intro r o;unfold St.c St.norm;simp only[<- hL,pO];by_cases h:r∈L<;>simp[h]
 have hE:∀r o,bv M (σ.norm pers) [] r o=if r∈L then bv M σ [] r o else .dead:=by
  intro r o;unfold bv;by_cases h:r=M.hr
  ·simp[h]
  ·simp only[oIN h,hc]
 let G':Gh:=⟨G.β,G.η,λr o k=>if r∈L then G.φ r o k else False⟩
 have Z8:∀r o k,G'.φ r o k->G.φ r o k:=by
  intro r o k hk;simp only[G']at hk
  simp_all
 have XZ:=gQ.ghost (C':=bv M (σ.norm pers) []) (G':=G') hI.core rfl (λk ⟨r,o,h⟩=>⟨r,o,Z8 r o k h⟩) (λr1 o1 r2 o2 k h1 h2=>hI.core.dis _ _ _ _ k (Z8 _ _ k h1) (Z8 _ _ k h2))
  (λr b o0 n hb o ho=>by
   rw[hE];split
   ·exact hI.core.boxc r b o0 n hb o ho
   ·rfl)
  (λr o=>by
   by_cases h:r∈L
   ·left;exact⟨by rw[hE,oIP h],λk=>by simp[G',h],rfl⟩
   ·right;left;exact⟨by rw[hE,oIN h],λk hk=>by simp[G',h]at hk⟩)
 have hv0:(σ.norm pers).v=λ_=>0:=by funext q;rfl
 have TQ:∀{t:TV}{x:Value},TmR w (G.F M.A) σ.v (bv M σ []) G t x->TmR w (G'.F M.A) (σ.norm pers).v (bv M (σ.norm pers) []) G' (renorm0 L σ t) x:=by
  intro t x h;rw[hv0]
  cases h with
  |v h=>exact .v h
  |nil=>exact .nil
  |sl h=>exact .sl (h.frame (λ_ _ _=>rfl) λk hk _=>XZ.2 k hk)
  |dead=>exact .dead
  | @ptr p vs x V0 h0 hv hok=>
   simp only[renorm0];split
   ·rename_i hc;simp only[oBA,List.contains_iff_mem,beq_iff_eq]at hc;refine .ptr (λ_=>0) (λ_=>Nat.le_refl _) rfl λ_=>?_;obtain⟨h1,ad,t,h2,h3,h4⟩:=hok hc.2;exact⟨h1,ad,t,iI h2 rfl λ_=>rfl,h3,by rw[hE,oIP hc.1];exact h4⟩
   ·exact .dead
  |ip u hcl hr=>exact .ip u (λj hj=>⟨XZ.2 _ (hcl j hj).1,(hcl j hj).2⟩) λj hj=>(hr j hj).frame (λ_ _ _=>rfl) λk hk _=>XZ.2 k hk
  | @pk p vs x V0 h0 hv hok=>
   simp only[renorm0];split
   ·rename_i hc;simp only[oBA,List.contains_iff_mem,beq_iff_eq]at hc;refine .pk (λ_=>0) (λ_=>Nat.le_refl _) rfl λ_=>?_;obtain⟨h1,c,h2,h3⟩:=hok hc.2;exact⟨h1,c,h2,by rw[hE,oIP hc.1];exact h3⟩
   ·exact .dead
  | @pw p vs sz lo n x V0 h0 hv hok=>
   simp only[renorm0];split
   ·rename_i hc;simp at hc;refine .pw (λ_=>0) (λ_=>Nat.le_refl _) rfl λ_=>?_;obtain⟨h1,c,hd,h2,h3,h4⟩:=hok hc.2;exact⟨h1,c,hd,h2,by rw[hE,oIP hc.1];exact h3,h4⟩
   ·exact .dead
  |agg hl h=>exact .dead
  | @tup l xs hl h=>
   cases l with
   |nil=>exact .tup hl λj hj=>by simp at hj
   |cons=>exact .dead
  |fn hl h=>exact .dead
 have PM:∀{t:TV}{x:Value},TmR w (G.F M.A) σ.v (bv M σ []) G t x->TmR w (G'.F M.A) (σ.norm pers).v (bv M (σ.norm pers) []) G' (renorm L σ t) x:=by
  intro t x h;have h0:=TQ h
  cases h with
  | @agg l xs hl h=>exact .agg (by simpa using hl) λj hj=>by simpa using TQ (h j (by simpa using hj))
  | @fn f l xs hl h=>exact .fn (by simpa using hl) λj hj=>by simpa using TQ (h j (by simpa using hj))
  |_=>exact h0
 refine⟨G',XZ.1,λi=>?_,hI.fram.ghost rfl (λk ⟨r,o,h⟩=>⟨r,o,Z8 r o k h⟩),λr l h=>?_,hI.size,rfl,λj hj=>by simp at hj,λr b o n hb l h=>?_⟩
 ·have e:(σ.norm pers).t i=if i∈pers.1 then(match bt σ.tm i with|some t=>renorm L σ t|none=>.dead)else .dead:=by
   unfold St.t St.norm;simp only[<- hL,Dk];by_cases h:i∈pers.1
   ·simp only[h,if_true];cases bt σ.tm i<;>rfl
   ·simp[h]
  rw[e];split
  ·cases ha:bt σ.tm i with
   |none=>exact .dead
   |some t=>
    have:=hI.tmr i
    have et:σ.t i=t:=by simp[St.t,ha]
    rw[et]at this;exact PM this
  ·exact .dead
 ·have:bt (normC σ L) r=some l:=by rw[hL];exact h
  rw[pO]at this;split at this
  ·exact hI.keys r l this
  ·simp at this
 ·have:bt (normC σ L) r=some l:=by rw[hL];exact h
  rw[pO]at this;split at this
  ·exact hI.shape r b o n hb l this
  ·simp at this
end norm
def Kz(P:Program)(M:Fm)(σ':St)(a:Act)(o:Oper)(w:World):Prop:=
 ∀(K:Act->World->Prop)(Q:Exit->Act->World->Prop),(∀a' w' G',Inv M σ' [] [] a'.tmps w' G'->a'.defers=a.defers->K a' w')->o.wp P a w K Q
theorem jT(a:Act)(d:Option Tmp)(v:Value):(a.put d v).defers=a.defers:=by cases d<;>rfl
theorem iv.simO{P:Program}{M:Fm}{σ':St}{a:Act}{o:Oper}{w:World}(h:iv P M σ' a o w):Kz P M σ' a o w:=by
 have ⟨nx,x,w',G',hrun,RL,hI⟩:=h;intro K Q hK;unfold Oper.wp;rw[hrun];rcases RL with rfl|⟨rfl,rfl⟩
 all_goals exact hK _ w' G' hI (jT _ _ _)
structure qp (P:Program)(M:Fm)(isCall:Op->TOp->Prop)(ops:Array Oper)(o:Oper)(t:fj):Prop where
 dst:t.dst=o.dst
 lt:∀d,o.dst=some d->d<M.N/\M.pr (2*d+2)=none
 guard:(o.guard=none/\t.guard=none)\/∃j want dj,o.guard=some (j,want)/\t.guard=some (dj,want)/\(ops[j]?).bind (·.dst)=some dj
 op:(∃mv,dD P mv o.op=some t.op)\/isCall o.op t.op
def sO(P:Program)(M:Fm)(isCall:Op->TOp->Prop)(call:Option Nat->TOp->SP Unit):Prop:=
 ∀(o:Oper)(t:TOp)(σ σ':St)(a:Act)(w:World)(G:Gh),isCall o.op t->(∀d,o.dst=some d->d<M.N/\M.pr (2*d+2)=none)->Inv M σ [] [] a.tmps w G->(evop call o.dst t).run σ=some ((),σ')->Kz P M σ' a o w
section
variable {P:Program} {M:Fm} {σ σ':St} {w:World} {G:Gh} {a:Act} {o:Oper} {isCall:Op->TOp->Prop} {call:Option Nat->TOp->SP Unit} {ops:Array Oper}
theorem Ab{mv:Nat}{op:Op}{t:TOp}(h:dD P mv op=some t):∀k f args,t≠.call k f args:=by
 rintro k f args rfl;cases op<;>simp only[dD]at h
 case move x=>split at h<;>first|(simp at h;done)|(obtain⟨_,_,h⟩:=eK h;simp at h)
 case assign x=>split at h<;>(obtain⟨_,_,h⟩:=eK h;simp at h)
 case pick=>obtain⟨_,_,h⟩:=bg h;obtain⟨_,_,h⟩:=bg h;obtain⟨_,_,h⟩:=bg h;simp at h
 case alloc=>obtain⟨_,_,h⟩:=eK h;simp at h
 case box=>obtain⟨_,_,h⟩:=bg h;obtain⟨_,_,h⟩:=bg h;unfold LU at h;split at h<;>simp at h
 case build=>(repeat' split at h)<;>first|(simp at h;done)|(obtain⟨_,_,h⟩:=bg h;obtain⟨_,_,h⟩:=bg h;simp at h)|(obtain⟨_,_,h⟩:=bg h;simp at h)
 case buildSlice=>(repeat' split at h)<;>first|(simp at h;done)|(obtain⟨_,_,h⟩:=bg h;obtain⟨_,_,h⟩:=bg h;simp at h)
 case load=>obtain⟨_,_,h⟩:=bg h;obtain⟨_,_,h⟩:=bg h;simp at h
 case store=>obtain⟨_,_,h⟩:=bg h;obtain⟨_,_,h⟩:=bg h;obtain⟨_,_,h⟩:=bg h;obtain⟨_,_,h⟩:=bg h;simp at h
 case nilCheck=>obtain⟨_,_,h⟩:=eK h;simp at h
 case binOp=>(repeat' split at h)<;>first|(simp at h;done)|(obtain⟨_,_,h⟩:=bg h;obtain⟨_,_,h⟩:=bg h;simp at h)
 case unOp=>obtain⟨_,_,h⟩:=eK h;simp at h
 case convert=>(repeat' split at h)<;>first|(simp at h;done)|(obtain⟨_,_,h⟩:=eK h;simp at h)
 case makeFunc=>split at h<;>first|(simp at h;done)|(obtain⟨_,_,h⟩:=bg h;obtain⟨_,_,h⟩:=bg h;simp at h)
 case makeSlice=>(repeat' split at h)<;>first|(simp at h;done)|(obtain⟨_,_,h⟩:=bg h;obtain⟨_,_,h⟩:=bg h;obtain⟨_,_,h⟩:=bg h;simp at h)
 case slice=>(repeat' split at h)<;>first|(simp at h;done)|(obtain⟨_,_,h⟩:=bg h;obtain⟨_,_,h⟩:=bg h;obtain⟨_,_,h⟩:=bg h;simp at h;done)|(obtain⟨_,_,h⟩:=bg h;obtain⟨_,_,h⟩:=bg h;obtain⟨_,_,h⟩:=bg h;obtain⟨_,_,h⟩:=bg h;simp at h)
 case fieldAddr=>(repeat' split at h)<;>first|(simp at h;done)|(obtain⟨_,_,h⟩:=eK h;simp at h)
 case field=>(repeat' split at h)<;>first|(simp at h;done)|(obtain⟨_,_,h⟩:=bg h;obtain⟨_,_,h⟩:=bg h;simp at h)
 case indexAddr=>(repeat' split at h)<;>first|(simp at h;done)|(obtain⟨_,_,h⟩:=bg h;obtain⟨_,_,h⟩:=bg h;obtain⟨_,_,h⟩:=bg h;simp at h)
 case index=>(repeat' split at h)<;>first|(simp at h;done)|(obtain⟨_,_,h⟩:=bg h;obtain⟨_,_,h⟩:=bg h;simp at h)
 case extract=>simp_all
 case call=>(repeat' split at h)<;>first|(simp at h;done)|(obtain⟨_,_,h⟩:=bg h;obtain⟨_,_,h⟩:=bg h;obtain⟨_,_,h⟩:=bg h;simp at h)|(obtain⟨_,_,h⟩:=eK h;simp at h)
 all_goals simp at h
theorem AN(hI:Inv M σ [] [] a.tmps w G){t:fj}(hok:qp P M isCall ops o t)(Zh:sO P M isCall call)(hr:(evop call t.dst t.op).run σ=some ((),σ')):Kz P M σ' a o w:=by
 rcases hok.op with⟨mv,hc⟩|hc
 ·have QA:=Ab hc;by_cases hst:∃ty x y,o.op=.store ty x y
  ·obtain⟨ty,x,y,ho⟩:=hst;rw[ho]at hc;simp only[dD]at hc;obtain⟨n,h1,hc⟩:=bg hc;obtain⟨u,h2,hc⟩:=bg hc;obtain⟨x1,h3,hc⟩:=bg hc;obtain⟨y1,h4,hc⟩:=bg hc
   injection hc with hc
   rw[<- hc]at hr;simp only[evop]at hr
   cases hd:t.dst with
   |some d=>simp[hd,SP.run]at hr
   |none=>
    simp only[hd]at hr;have hg:=g9 h2;exact(DK hI (d:=0) (by rw[<- hok.dst,hd]) h3 h4 ho h1 (by simpa using hg) hr).simO
  ·cases hd:t.dst with
   |none=>
    exfalso;rw[hd]at hr
    cases ht:t.op<;>rw[ht]at hr<;>simp only[evop,SP.run]at hr<;>first|(simp at hr;done)|skip
    ·rename_i n NY a' x';rw[ht]at hc;cases ho:o.op<;>rw[ho]at hc hst<;>simp only[dD]at hc
     case store=>exact hst ⟨_,_,_,rfl⟩
     case move x=>split at hc<;>first|(simp at hc;done)|(obtain⟨_,_,h⟩:=eK hc;simp at h)
     case assign x=>split at hc<;>(obtain⟨_,_,h⟩:=eK hc;simp at h)
     case pick=>obtain⟨_,_,h⟩:=bg hc;obtain⟨_,_,h⟩:=bg h;obtain⟨_,_,h⟩:=bg h;simp at h
     case alloc=>obtain⟨_,_,h⟩:=eK hc;simp at h
     case box=>obtain⟨_,_,h⟩:=bg hc;obtain⟨_,_,h⟩:=bg h;unfold LU at h;split at h<;>simp at h
     case build=>(repeat' split at hc)<;>first|(simp at hc;done)|(obtain⟨_,_,h⟩:=bg hc;obtain⟨_,_,h⟩:=bg h;simp at h)|(obtain⟨_,_,h⟩:=bg hc;simp at h)
     case buildSlice=>(repeat' split at hc)<;>first|(simp at hc;done)|(obtain⟨_,_,h⟩:=bg hc;obtain⟨_,_,h⟩:=bg h;simp at h)
     case load=>obtain⟨_,_,h⟩:=bg hc;obtain⟨_,_,h⟩:=bg h;simp at h
     case nilCheck=>obtain⟨_,_,h⟩:=eK hc;simp at h
     case binOp=>(repeat' split at hc)<;>first|(simp at hc;done)|(obtain⟨_,_,h⟩:=bg hc;obtain⟨_,_,h⟩:=bg h;simp at h)
     case unOp=>obtain⟨_,_,h⟩:=eK hc;simp at h
     case convert=>(repeat' split at hc)<;>first|(simp at hc;done)|(obtain⟨_,_,h⟩:=eK hc;simp at h)
     case makeFunc=>split at hc<;>first|(simp at hc;done)|(obtain⟨_,_,h⟩:=bg hc;obtain⟨_,_,h⟩:=bg h;simp at h)
     case makeSlice=>(repeat' split at hc)<;>first|(simp at hc;done)|(obtain⟨_,_,h⟩:=bg hc;obtain⟨_,_,h⟩:=bg h;obtain⟨_,_,h⟩:=bg h;simp at h)
     case slice=>(repeat' split at hc)<;>first|(simp at hc;done)|(obtain⟨_,_,h⟩:=bg hc;obtain⟨_,_,h⟩:=bg h;obtain⟨_,_,h⟩:=bg h;simp at h;done)|(obtain⟨_,_,h⟩:=bg hc;obtain⟨_,_,h⟩:=bg h;obtain⟨_,_,h⟩:=bg h;obtain⟨_,_,h⟩:=bg h;simp at h)
     case fieldAddr=>(repeat' split at hc)<;>first|(simp at hc;done)|(obtain⟨_,_,h⟩:=eK hc;simp at h)
     case field=>(repeat' split at hc)<;>first|(simp at hc;done)|(obtain⟨_,_,h⟩:=bg hc;obtain⟨_,_,h⟩:=bg h;simp at h)
     case indexAddr=>(repeat' split at hc)<;>first|(simp at hc;done)|(obtain⟨_,_,h⟩:=bg hc;obtain⟨_,_,h⟩:=bg h;obtain⟨_,_,h⟩:=bg h;simp at h)
     case index=>(repeat' split at hc)<;>first|(simp at hc;done)|(obtain⟨_,_,h⟩:=bg hc;obtain⟨_,_,h⟩:=bg h;simp at h)
     case extract=>obtain⟨_,_,h⟩:=eK hc;simp at h
     case call=>(repeat' split at hc)<;>first|(simp at hc;done)|(obtain⟨_,_,h⟩:=bg hc;obtain⟨_,_,h⟩:=bg h;obtain⟨_,_,h⟩:=bg h;simp at h)|(obtain⟨_,_,h⟩:=eK hc;simp at h)
     all_goals simp at hc
    ·exact absurd ht (QA _ _ _)
   |some d=>
    have Vg:o.dst=some d:=by rw[<- hok.dst,hd]
    obtain⟨h1,h2⟩:=hok.lt d Vg
    have X3:(ev1 d t.op).run σ=some ((),σ'):=by
     rw[hd]at hr
     cases ht:t.op<;>rw[ht]at hr<;>simp only[evop]at hr<;>first|exact hr|(simp[SP.run]at hr;done)|exact absurd ht (QA _ _ _)
    exact(I8 hI Vg h1 h2 hc X3 hst).simO
 ·exact Zh o t.op σ σ' a w G hc hok.lt hI (by rw[<- hok.dst];exact hr)
theorem ww{F:Nat->Prop}{V:Vs}{C:Cs}:TmR w F V C G (.tup []) undef:=.tup (by simp) λj hj=>by simp at hj
theorem I7{tops:List fj}(hlen:tops.length=ops.size)(hok:∀i (h:i<ops.size)(h':i<tops.length),qp P M isCall ops ops[i] tops[i])(Zh:sO P M isCall call){Q:Exit->Act->World->Prop}:
 ∀(L:List Nat)(σ:St)(a:Act)(w:World)(G:Gh),(∀i∈L,i<ops.size)->Inv M σ [] [] a.tmps w G->nR call (L.map λi=>tops.getD i ⟨none,none,.lens (.t 0)⟩) σ=some σ' ->
  (∀a' w' G',Inv M σ' [] [] a'.tmps w' G'->a'.defers=a.defers->Q .normal a' w')->wpOps P ops Q L a w:=by
 intro L
 induction L with
 |nil=>
  intro σ a w G _ hI hr hQ;simp only[List.map_nil,nR,oSJ]at hr;subst hr;exact hQ a w G hI rfl
 |cons i L ih=>
  intro σ a w G hL hI hr hQ;have hi:i<ops.size:=hL i (by simp)
  have ZK:i<tops.length:=by omega
  simp only[List.map_cons,nR]at hr
  have e:tops.getD i ⟨none,none,.lens (.t 0)⟩=tops[i]:=by simp[ZK]
  rw[e]at hr
  cases hro:uT call tops[i] σ with
  |none=>simp[hro]at hr
  |some σ1=>
   simp only[hro,oBS]at hr;have hop:=hok i hi ZK;simp only[wpOps,Array.getElem?_eq_getElem hi]
   have go:(evop call tops[i].dst tops[i].op).run σ=some ((),σ1)->ops[i].wp P a w (wpOps P ops Q L) Q:=λh=>by
    refine AN hI hop Zh h _ _ λa' w' G' Zy hd=>?_;exact ih σ1 a' w' G' (λj hj=>hL j (by simp[hj])) Zy hr (λa2 w2 G2 h2 hd2=>hQ a2 w2 G2 h2 (hd2.trans hd))
   have skip:(match tops[i].dst with|some d=>some { σ with tm:=dn σ.tm d (.tup []) } |none=>some σ)=some σ1->wpOps P ops Q L (a.put ops[i].dst undef) w:=λh=>by
    rw[hop.dst]at h
    cases hd:ops[i].dst with
    |none=>
     rw[hd]at h
     injection h with h
     subst h;exact ih σ a w G (λj hj=>hL j (by simp[hj])) hI hr hQ
    |some d=>
     rw[hd]at h
     injection h with h
     subst h;exact ih _ (a.put (some d) undef) w G (λj hj=>hL j (by simp[hj])) (hI.wrT (hop.lt d hd).1 ww) hr (λa2 w2 G2 h2 hd2=>hQ a2 w2 G2 h2 hd2)
   unfold uT at hro
   rcases hop.guard with⟨g1,g2⟩|⟨j,want,dj,g1,g2,g3⟩
   ·rw[oIP (by simp[Region.wanted,g1])];left;simp only[g2]at hro;obtain⟨⟨u,σ2⟩,h1,h2⟩:=eK hro;exact go (by rw[h1];simp only at h2;rw[h2])
   ·simp only[g2]at hro
    have hy:yielded ops a.tmps j=match(a.tmps[dj]?:Option Value)with|some (.bool b)=>some b|_=>none:=by
     unfold yielded;rw[g3];rfl
    have Y':=hI.tmr dj
    cases hs:σ.t dj with
    |v x=>
     rw[hs]at Y' hro;obtain⟨hx,_⟩:=Y'.v_inv
     cases x with
     |bool b=>
      have Z3:a.tmps[dj]?=some (.bool b):=by
       rw[Array.getD_eq_getD_getElem?]at hx
       cases hq:a.tmps[dj]? with
       |none=>rw[hq]at hx;simp[undef]at hx
       |some v=>rw[hq]at hx;simp at hx;rw[hx]
      have VZ:yielded ops a.tmps j=some b:=by rw[hy,Z3]
      simp only at hro;by_cases hb:b=want
      ·rw[oIP hb]at hro;rw[oIP (by simp[Region.wanted,g1,VZ,hb])];left;obtain⟨⟨u,σ2⟩,h1,h2⟩:=eK hro;exact go (by rw[h1];simp only at h2;rw[h2])
      ·rw[oIN hb]at hro;rw[oIN (by simp[Region.wanted,g1,VZ,hb])];exact skip hro
     |_=>simp at hro
    |tup l=>
     rw[hs]at Y' hro
     cases l with
     |nil=>
      have hu:a.tmps.getD dj undef=undef:=by
       generalize a.tmps.getD dj undef=z at Y'
       cases Y' with
       | @tup _ xs hl _=>have:xs=#[]:=by apply Array.eq_empty_of_size_eq_zero;simpa using hl
                         rw[this];rfl
      have VZ:yielded ops a.tmps j=none:=by
       rw[hy];rw[Array.getD_eq_getD_getElem?]at hu
       cases hq:a.tmps[dj]? with
       |none=>rfl
       |some v=>
        rw[hq]at hu;simp only[Option.getD_some]at hu;rw[hu];rfl
      simp only at hro;rw[oIN (by simp[Region.wanted,g1,VZ])];exact skip hro
     |cons=>simp at hro
    |_=>rw[hs]at hro;simp at hro
end
section
variable {P:Program} {M:Fm} {σ σ':St} {H:List TV} {xs:List Value} {ts:Array Value} {w:World} {G:Gh} {a:Act} {o:Oper} {isCall:Op->TOp->Prop} {call:Option Nat->TOp->SP Unit} {ops:Array Oper}
theorem Inv.congr(hI:Inv M σ H xs ts w G)(hs:Ki σ σ'):Inv M σ' H xs ts w G:=by
 have hc:bv M σ' H=bv M σ H:=by
  funext r o;unfold bv;split
  ·rfl
  ·exact(hs (.c r o)).symm
 have hv:σ'.v=σ.v:=by funext q;exact(hs (.v q)).symm
 have hn:∀r l,bt σ'.ce r=some l->∃l0,bt σ.ce r=some l0/\l0.length=l.length:=by
  intro r l h;have h1:(bt σ.ce r).map List.length=(bt σ'.ce r).map List.length:=hs (.n r)
  simp_all
 refine⟨by rw[hc];exact hI.core,λi=>?_,hI.fram,λr l h=>?_,hI.size,hI.hand,hI.hval,λr b o n hb l h=>?_⟩
 ·have ht:σ'.t i=σ.t i:=by
   have:bt σ.tm i=bt σ'.tm i:=hs (.t i);simp[St.t,this]
  rw[hc,hv,ht];exact hI.tmr i
 ·have ⟨l0,h1,_⟩:=hn r l h;exact hI.keys r l0 h1
 ·have ⟨l0,h1,h2⟩:=hn r l h;rw[<- h2];exact hI.shape r b o n hb l0 h1
theorem Gr{t:fj}{i:Nat}{Q:Exit->Act->World->Prop}{K:Act->World->Prop}(hi:i<ops.size)(hop:qp P M isCall ops ops[i] t)(Zh:sO P M isCall call)(hI:Inv M σ [] [] a.tmps w G)(hro:uT call t σ=some σ')
 (hK:∀a' w' G',Inv M σ' [] [] a'.tmps w' G'->a'.defers=a.defers->K a' w'):wpOp P ops Q i K a w:=by
 unfold wpOp;simp only[Array.getElem?_eq_getElem hi]
 have go:(evop call t.dst t.op).run σ=some ((),σ')->ops[i].wp P a w K Q:=λh=>by
  exact AN hI hop Zh h _ _ hK
 have skip:(match t.dst with|some d=>some { σ with tm:=dn σ.tm d (.tup []) } |none=>some σ)=some σ'->K (a.put ops[i].dst undef) w:=λh=>by
  rw[hop.dst]at h
  cases hd:ops[i].dst with
  |none=>
   rw[hd]at h
   injection h with h
   subst h;exact hK a w G hI rfl
  |some d=>
   rw[hd]at h
   injection h with h
   subst h;exact hK (a.put (some d) undef) w G (hI.wrT (hop.lt d hd).1 ww) rfl
 unfold uT at hro
 rcases hop.guard with⟨g1,g2⟩|⟨j,want,dj,g1,g2,g3⟩
 ·rw[oIP (by simp[Region.wanted,g1])];left;simp only[g2]at hro;obtain⟨⟨u,σ2⟩,h1,h2⟩:=eK hro;exact go (by rw[h1];simp only at h2;rw[h2])
 ·simp only[g2]at hro
  have hy:yielded ops a.tmps j=match(a.tmps[dj]?:Option Value)with|some (.bool b)=>some b|_=>none:=by
   unfold yielded;rw[g3];rfl
  have Y':=hI.tmr dj
  cases hs:σ.t dj with
  |v x=>
   rw[hs]at Y' hro;obtain⟨hx,_⟩:=Y'.v_inv
   cases x with
   |bool b=>
    have Z3:a.tmps[dj]?=some (.bool b):=by
     rw[Array.getD_eq_getD_getElem?]at hx
     cases hq:a.tmps[dj]? with
     |none=>rw[hq]at hx;simp[undef]at hx
     |some v=>rw[hq]at hx;simp at hx;rw[hx]
    have VZ:yielded ops a.tmps j=some b:=by rw[hy,Z3]
    simp only at hro;by_cases hb:b=want
    ·rw[oIP hb]at hro;rw[oIP (by simp[Region.wanted,g1,VZ,hb])];left;obtain⟨⟨u,σ2⟩,h1,h2⟩:=eK hro
     simp_all
    ·rw[oIN hb]at hro;rw[oIN (by simp[Region.wanted,g1,VZ,hb])];exact skip hro
   |_=>simp at hro
  |tup l=>
   rw[hs]at Y' hro
   cases l with
   |nil=>
    have hu:a.tmps.getD dj undef=undef:=by
     generalize a.tmps.getD dj undef=z at Y'
     cases Y' with
     | @tup _ xs hl _=>have:xs=#[]:=by apply Array.eq_empty_of_size_eq_zero;simpa using hl
                       rw[this];rfl
    have VZ:yielded ops a.tmps j=none:=by
     rw[hy];rw[Array.getD_eq_getD_getElem?]at hu
     cases hq:a.tmps[dj]? with
     |none=>rfl
     |some v=>
      rw[hq]at hu;simp only[Option.getD_some]at hu;rw[hu];rfl
    rw[oIN (by simp[Region.wanted,g1,VZ])];exact skip hro
   |cons=>simp at hro
  |_=>rw[hs]at hro;simp at hro
structure sN (ops:Array Oper)(deps:List (List Nat)):Prop where
 back:∀i (h:i<ops.size),∀e∈ops[i].after,Region.binds .any e=true->e.on<i
 dep:∀i (h:i<ops.size),∀j∈deps.getD i [],∃e∈ops[i].after,Region.binds .any e=true/\(e.on=j\/j∈deps.getD e.on [])
theorem pV{deps:List (List Nat)}{x:Nat×mE}:∀{l l':List (Nat×mE)},fh deps (l++x::l')=true->fh deps (l++l')=true/\∀y∈l,kF y.2 x.2=false\/y.1∈deps.getD x.1 []:=by
 intro l
 induction l with
 |nil=>
  intro l' h;simp only[List.nil_append,fh,oBA]at h
  simp_all
 |cons z l ih=>
  intro l' h;simp only[List.cons_append,fh,oBA,List.all_eq_true]at h;obtain⟨h1,h2⟩:=ih h.2;refine⟨by simp only[List.cons_append,fh,oBA,List.all_eq_true];exact⟨λy hy=>h.1 y (by rcases List.mem_append.1 hy with hy|hy<;>simp[hy]),h1⟩,λy hy=>?_⟩;rcases List.mem_cons.1 hy with rfl|hy
  ·simp_all
  ·exact h2 y hy
theorem Jq{tops:List fj}{deps:List (List Nat)}(hlen:tops.length=ops.size)(hok:∀i (h:i<ops.size)(h':i<tops.length),qp P M isCall ops ops[i] tops[i])(Zh:sO P M isCall call)(Y1:sN ops deps){Q:Exit->Act->World->Prop}:
 ∀(n:Nat)(C:List Nat)(listed:Array Bool)(σ:St)(a:Act)(w:World)(G:Gh)(fs:List (Nat×mE))(τ:St),C.length=n->listed.size=ops.size->C.Pairwise (· < ·)->(∀j,j∈C↔j<ops.size/\listed.getD j true=false)->
  (∀i,listed.getD i false=true->∀j∈deps.getD i [],listed.getD j false=true)->Inv M σ [] [] a.tmps w G->mF (λi=>spOp call (tops.getD i yy)) C σ=some (fs,τ)->fh deps fs=true ->
  (∀a' w' G',Inv M τ [] [] a'.tmps w' G'->a'.defers=a.defers->Q .normal a' w')->wpAny P .any ops Q n listed a w:=by
 have Yj:∀{listed:Array Bool},listed.size=ops.size->∀j,j<ops.size->(listed.getD j true=false↔¬listed.getD j false=true):=by
  intro listed hs j hj
  have:j<listed.size:=by omega
  simp[Array.getD_eq_getD_getElem?,this]
 intro n
 induction n with
 |zero=>
  intro C listed σ a w G fs τ hC hs YJ ZB hcl hI hr hp hQ;have hC:C=[]:=oEN hC;subst hC;obtain⟨rfl,rfl⟩:=hr;refine⟨?_,hQ a w G hI rfl⟩;apply List.eq_nil_iff_forall_not_mem.2;intro j hj;obtain⟨h1,o,h2,_⟩:=mem_ready.1 hj;have:=(ZB j).2 ⟨(Array.getElem?_eq_some_iff.1 h2).1,h1⟩;simp at this
 |succ n ih=>
  intro C listed σ a w G fs τ hC hs YJ ZB hcl hI hr hp hQ;refine⟨λhnil=>?_,λi hi=>?_⟩
  ·exfalso
   cases C with
   |nil=>simp at hC
   |cons h C=>
    have hh:=(ZB h).1 (by simp)
    have:h∈Region.ready .any ops listed:=by
     refine mem_ready.2 ⟨hh.2,ops[h]'hh.1,Array.getElem?_eq_getElem hh.1,λe he hb=>?_⟩;have hlt:=Y1.back h hh.1 e he hb
     have Nl:e.on<ops.size:=by omega
     cases hl:listed.getD e.on false with
     |true=>rfl
     |false=>
      have hm:=(ZB e.on).2 ⟨Nl,(Yj hs _ Nl).2 (by rw[hl];simp)⟩;rcases List.mem_cons.1 hm with e1|e1
      ·omega
      ·have:=(List.pairwise_cons.1 YJ).1 _ e1;omega
    rw[hnil]at this;simp at this
  ·obtain⟨h1,o,h2,h3⟩:=mem_ready.1 hi;have Rt:i<ops.size:=(Array.getElem?_eq_some_iff.1 h2).1
   have hoe:o=ops[i]:=by rw[Array.getElem?_eq_getElem Rt]at h2;injection h2 with h2;exact h2.symm
   subst hoe;have hiC:=(ZB i).2 ⟨Rt,h1⟩;obtain⟨pre,post,rfl⟩:=List.append_of_mem hiC
   have Rc:∀j∈deps.getD i [],listed.getD j false=true:=λj hj=>by
    obtain⟨e,he,hb,h4⟩:=Y1.dep i Rt j hj;have hl:=h3 e he hb;rcases h4 with rfl|h4
    ·exact hl
    ·exact hcl _ hl j h4
   have Tx:∀XT F Wu,fs=XT++(i,F)::Wu->XT.map (·.1)=pre->∀y∈XT,kF y.2 F=false:=by
    rintro XT F Wu rfl RV y hy
    rcases(pV hp).2 y hy with h|h
    ·exact h
    ·have hyC:y.1∈pre++i::post:=by rw[<- RV];exact List.mem_append_left _ (List.mem_map_of_mem hy)
     have:=(ZB y.1).1 hyC;exact absurd (Rc _ h) ((Yj hs _ this.1).1 this.2)
   obtain⟨σ',τ',XT,F,Wu,rfl,RV,hrun,_,ZL,YH⟩:=yT hr Tx
   have ZK:i<tops.length:=by omega
   have e:tops.getD i yy=tops[i]:=by simp[ZK]
   simp only[e]at hrun;refine Gr Rt (hok i Rt ZK) Zh hI (AB hrun) λa' w' G' Zy hd=>?_
   have hne:∀j∈pre++post,j≠i:=λj hj e=>by
    subst e;rw[List.pairwise_append]at YJ;rcases List.mem_append.1 hj with hj|hj
    ·have:=YJ.2.2 j hj j (by simp);omega
    ·have:=(List.pairwise_cons.1 YJ.2.1).1 j hj;omega
   refine ih (pre++post) (listed.setIfInBounds i true) σ' a' w' G' (XT++Wu) τ' (by simp at hC⊢;omega) (by simp[hs]) ?_ (λj=>?_) (λk hk j hj=>?_) Zy ZL (pV hp).1 λa2 w2 G2 h4 h5=>hQ a2 w2 G2 (h4.congr λx=>(YH x).symm) (h5.trans hd)
   ·refine YJ.sublist ?_;exact List.Sublist.append_left (List.sublist_cons_self i post) pre
   ·constructor
    ·intro hj
     have hjC:j∈pre++i::post:=by rcases List.mem_append.1 hj with hj|hj<;>simp[hj]
     have:=(ZB j).1 hjC;exact⟨this.1,by rw[getD_set_ne true (Ne.symm (hne j hj))];exact this.2⟩
    ·rintro⟨hj1,X9⟩
     have Nu:j≠i:=by
      rintro rfl
      have:j<listed.size:=by omega
      simp[Array.getD_eq_getD_getElem?,this]at X9
     rw[getD_set_ne true (Ne.symm Nu)]at X9;have:=(ZB j).2 ⟨hj1,X9⟩;rcases List.mem_append.1 this with h|h
     ·exact List.mem_append_left _ h
     ·rcases List.mem_cons.1 h with h|h
      ·exact absurd h Nu
      ·exact List.mem_append_right _ h
   ·by_cases hki:k=i
    ·subst hki;exact getD_set_true (Rc j hj)
    ·rw[getD_set_ne false (Ne.symm hki)]at hk;exact getD_set_true (hcl k hk j hj)
theorem AO{tops:List fj}{deps:List (List Nat)}{id:Nat}(hm:P.follows .mixedOrders=true)(hlen:tops.length=ops.size)(hok:∀i (h:i<ops.size)(h':i<tops.length),qp P M isCall ops ops[i] tops[i])(Zh:sO P M isCall call)(Y1:sN ops deps)
 {Q:Exit->Act->World->Prop}{fs:List (Nat×mE)}{τ:St}(hI:Inv M σ [] [] a.tmps w G)(hr:mF (λi=>spOp call (tops.getD i yy)) (List.range tops.length) σ=some (fs,τ))(hp:fh deps fs=true)
 (hQ:∀a' w' G',Inv M τ [] [] a'.tmps w' G'->a'.defers=a.defers->Q .normal a' w'):(Code.region id ops true).wp P Q a w:=by
 refine wp_region_any hm ?_
 have Zy:Inv M σ [] [] a.tmps { w with drawn:=w.drawn+1 } G:=by
  exact(hI.grow (w':={ w with drawn:=w.drawn+1 }) (λ_ _=>rfl) (Nat.le_refl _) rfl rfl rfl).1
 refine Jq hlen hok Zh Y1 ops.size (List.range ops.size) _ σ a _ G fs τ (by simp) (by simp) List.pairwise_lt_range (λj=>?_) (λi hi=>?_) Zy (by simp_all) hp hQ
 ·simp_all
 ·exfalso;rw[Array.getD_eq_getD_getElem?,Array.getElem?_replicate]at hi;split at hi<;>simp at hi
end
def SP.quiet{α:Type}(d:Nat)(S:List Nat):SP α->Prop
 |.ret _=>True
 |.fail=>True
 |.rdT i k=>i∈S/\∀t,(k t).quiet d S
 |.rdC _ _ k=>∀t,(k t).quiet d S
 |.rdH _ _ k=>∀t,(k t).quiet d S
 |.rdV _ k=>∀n,(k n).quiet d S
 |.wrT i _ k=>i=d/\k.quiet d S
 |.wrC _ _ _ _=>False
 |.new _ _ _=>False
 |.bump _ _=>False
theorem aT{α β:Type}{d:Nat}{S:List Nat}{s:SP α}{f:α->SP β}(h:s.quiet d S)(hf:∀a,(f a).quiet d S):(s.bind f).quiet d S:=by
 induction s with
 |ret a=>exact hf a
 |fail=>exact trivial
 |rdT i k ih=>exact⟨h.1,λt=>ih t (h.2 t)⟩
 |rdC r o k ih=>exact λt=>ih t (h t)
 |rdH r o k ih=>exact λt=>ih t (h t)
 |rdV q k ih=>exact λn=>ih n (h n)
 |wrT i t k ih=>exact⟨h.1,ih h.2⟩
 |wrC r o t k ih=>exact h.elim
 |new r l k ih=>exact h.elim
 |bump q k ih=>exact h.elim
theorem kV{α:Type}{d:Nat}{S:List Nat}{s:SP α}(h:s.quiet d S)(σ:St):(∀x∈(s.foot σ).2,x=.t d)/\∀i,Loc.t i∈(s.foot σ).1->i∈S:=by
 induction s generalizing σ with
 |ret a=>exact⟨λx hx=>by simp[SP.foot]at hx,λi hi=>by simp[SP.foot]at hi⟩
 |fail=>exact⟨λx hx=>by simp[SP.foot]at hx,λi hi=>by simp[SP.foot]at hi⟩
 |rdT i k ih=>
  obtain⟨h1,h2⟩:=ih _ (h.2 (σ.t i)) σ;refine⟨h1,λj hj=>?_⟩;simp only[SP.foot,List.mem_cons]at hj;rcases hj with hj|hj
  ·injection hj with hj;subst hj;exact h.1
  ·exact h2 j hj
 |rdC r o k ih=>
  obtain⟨h1,h2⟩:=ih _ (h (σ.c r o)) σ;refine⟨h1,λj hj=>?_⟩;simp only[SP.foot]at hj
  simp_all
 |rdH r o k ih=>
  obtain⟨h1,h2⟩:=ih _ (h (σ.c r o).hd) σ;refine⟨h1,λj hj=>?_⟩;simp only[SP.foot,List.mem_cons]at hj
  simp_all
 |rdV q k ih=>
  obtain⟨h1,h2⟩:=ih _ (h (σ.v q)) σ;refine⟨h1,λj hj=>?_⟩;simp only[SP.foot,List.mem_cons]at hj
  simp_all
 |wrT i t k ih=>
  obtain⟨h1,h2⟩:=ih h.2 { σ with tm:=dn σ.tm i t };refine⟨λx hx=>?_,h2⟩;simp only[SP.foot,List.mem_cons]at hx;rcases hx with hx|hx
  ·rw[hx,h.1]
  ·exact h1 x hx
 |wrC r o t k ih=>exact h.elim
 |new r l k ih=>exact h.elim
 |bump q k ih=>exact h.elim
def dO:Opd->List Nat
 |.t i=>[i]
 |_=>[]
def dg:TOp->Option (List Nat)
 |.mov (.t i)=>some [i]
 |.mov (.c x)=>match pu x with|.v _=>some []|_=>none
 |.pick c a b=>some (dO c++(dO a++dO b))
 |.load _ a=>some (dO a)
 |.nilc x=>some (dO x)
 |.fld _ a=>some (dO a)
 |.fldv _ _ x=>some (dO x)
 |.idx _ x i=>some (dO x++dO i)
 |.idxa _ _ x i=>some (dO x++dO i)
 |.ext x _=>some (dO x)
 |.bin _ x y=>some (dO x++dO y)
 |.bnb _ x y=>some (dO x++dO y)
 |.eqa _ _ x y=>some (dO x++dO y)
 |.un _ x=>some (dO x)
 |.conv _ x=>some (dO x)
 |.len x=>some (dO x)
 |.lens x=>some (dO x)
 |.ixs x i=>some (dO x++dO i)
 |_=>none
section
variable {d:Nat} {S:List Nat}
theorem bI{x:Opd}(h:∀i∈dO x,i∈S):(opd x).quiet d S:=by
 cases x with
 |t i=>exact⟨h i (by simp[dO]),λ_=>trivial⟩
 |_=>exact trivial
theorem pt{l:List Key}:(rdVs l).quiet d S:=by
 induction l with
 |nil=>exact trivial
 |cons q l ih=>exact λn=>aT ih λ_=>trivial
theorem gY{p:bi}{n:Nat}{vs:List Nat}:(chk p n vs).quiet d S:=aT pt λl=>by split<;>exact trivial
theorem iZ{p:bi}:(getPl p).quiet d S:=λtv=>by
 show SP.quiet d S (match bp tv p.hops with|some t=>SP.ret t|none=>SP.fail);cases bp tv p.hops<;>exact trivial
theorem ui{p:bi}:(JY p).quiet d S:=by
 unfold JY;split
 ·exact λ_=>trivial
 ·exact aT iZ λ_=>trivial
theorem nu{p:bi}{t:TV}:(peek1 p t).quiet d S:=by
 cases t with
 |ow c=>exact aT pt λ_=>trivial
 |_=>exact trivial
theorem yZ{p:bi}:(peekP p).quiet d S:=by
 unfold peekP;split
 ·refine λh=>?_
  cases h with
  |some ls=>exact aT pt λ_=>trivial
  |none=>exact aT iZ λ_=>nu
 ·exact aT iZ λ_=>nu
theorem y8:∀{n:Nat}{p:bi},(peekL p n).quiet d S:=by
 intro n
 induction n with
 |zero=>intro p;exact trivial
 |succ n ih=>
  refine aT iZ λt=>aT nu λt'=>?_;split
  ·exact trivial
  ·split
   ·exact aT ih λ_=>trivial
   ·exact trivial
theorem bT{t:TV}:(wr d t).quiet d S:=⟨rfl,trivial⟩
theorem gF{t:TV}:(o9 t).quiet d S:=by cases t<;>exact trivial
theorem nv{t:TV}:(natOf t).quiet d S:=by
 cases t with
 |v x=>
  cases x with
  |int k n=>cases n<;>exact trivial
  |_=>exact trivial
 |_=>exact trivial
theorem iY{α:Type}{o:Option α}:(gn o).quiet d S:=by cases o<;>exact trivial
theorem wP{t:TV}:(j8 t).quiet d S:=by
 cases t with
 |pk p vs=>exact aT gY λ_=>aT ui λt=>by cases t<;>exact trivial
 |pw p vs sz lo n=>exact aT gY λ_=>trivial
 |ow c=>cases c<;>exact trivial
 |_=>exact trivial
theorem wQ{op:TOp}(h:dg op=some S):(ev1 d op).quiet d S:=by
 cases op with
 |mov x=>
  cases x with
  |t i=>
   simp only[dg,oSJ]at h;subst h;refine aT (bI λj hj=>by simpa[dO]using hj) λt=>?_
   cases t with
   |ow c=>exact trivial
   |agg l=>
    simp only;split
    ·exact trivial
    ·exact bT
   |_=>exact bT
  |c x=>
   simp only[dg]at h;split at h
   ·rename_i y hy
    have e:ev1 d (.mov (.c x))=wr d (.v y):=by simp only[ev1,opd,hy,SP.bind]
    rw[e];exact bT
   ·simp at h
  |f _=>simp[dg]at h
 |pick c a b=>
  simp only[dg,oSJ]at h;subst h;refine aT (bI λj hj=>by simp[hj]) λt=>?_;split
  ·rename_i bb
   refine aT ?_ λt=>by split<;>first|exact bT|exact trivial
   cases bb
   ·exact bI λj hj=>by simp at hj;simp[hj]
   ·exact bI λj hj=>by simp at hj;simp[hj]
  ·exact trivial
 |load n a=>
  simp only[dg,oSJ]at h;subst h;refine aT (bI λj hj=>by simpa using hj) λt=>?_;split
  ·refine aT gY λ_=>?_
   cases n with
   |none=>exact aT yZ λ_=>bT
   |some n=>exact aT y8 λ_=>bT
  ·split<;>first|exact bT|exact trivial
  ·exact trivial
 |nilc x=>
  simp only[dg,oSJ]at h;subst h;refine aT (bI λj hj=>by simpa using hj) λt=>?_;split
  ·exact aT gY λ_=>bT
  ·exact bT
  ·exact bT
  ·exact trivial
 |fld off a=>
  simp only[dg,oSJ]at h;subst h;refine aT (bI λj hj=>by simpa using hj) λt=>?_;split
  ·refine aT gY λ_=>?_
   split<;>first|exact bT|exact trivial
  ·split<;>first|exact bT|exact trivial
  ·exact trivial
 |fldv off n x=>
  simp only[dg,oSJ]at h;subst h;refine aT (bI λj hj=>by simpa using hj) λt=>?_
  (repeat' split)<;>first|exact bT|exact trivial
 |idx sz x i=>
  simp only[dg,oSJ]at h;subst h;refine aT (bI λj hj=>by simp[hj]) λt=>aT (bI λj hj=>by simp[hj]) λti=>aT nv λk=>?_;split
  ·exact aT gY λ_=>aT ui λt=>by(repeat' split)<;>first|exact bT|exact trivial
  ·exact aT gY λ_=>aT iZ λt=>by(repeat' split)<;>first|exact bT|exact trivial
  ·split<;>first|exact bT|exact trivial
  ·exact trivial
 |idxa n sz x i=>
  simp only[dg,oSJ]at h;subst h;refine aT (bI λj hj=>by simp[hj]) λt=>aT (bI λj hj=>by simp[hj]) λti=>aT nv λk=>?_;split
  ·exact aT gY λ_=>by split<;>first|exact bT|exact trivial
  ·exact trivial
 |ext x i=>
  simp only[dg,oSJ]at h;subst h;refine aT (bI λj hj=>by simpa using hj) λt=>?_
  (repeat' split)<;>first|exact bT|exact trivial
 |bin op x y=>
  simp only[dg,oSJ]at h;subst h;refine aT (bI λj hj=>by simp[hj]) λt=>aT (bI λj hj=>by simp[hj]) λti=>aT gF λ_=>aT gF λ_=>aT iY λr=>?_
  split<;>first|exact bT|exact trivial
 |bnb neg x y=>
  simp only[dg,oSJ]at h;subst h;refine aT (bI λj hj=>by simp[hj]) λt=>aT (bI λj hj=>by simp[hj]) λti=>aT gF λ_=>aT gF λ_=>?_
  split<;>first|exact bT|exact trivial
 |eqa ks neg x y=>
  simp only[dg,oSJ]at h;subst h;refine aT (bI λj hj=>by simp[hj]) λt=>aT (bI λj hj=>by simp[hj]) λti=>?_;split
  ·exact aT iY λ_=>aT iY λ_=>aT iY λ_=>bT
  ·exact trivial
 |un op x=>
  simp only[dg,oSJ]at h;subst h;refine aT (bI λj hj=>by simpa using hj) λt=>aT gF λ_=>aT iY λr=>?_
  split<;>first|exact bT|exact trivial
 |conv k x=>
  simp only[dg,oSJ]at h;subst h;refine aT (bI λj hj=>by simpa using hj) λt=>aT gF λ_=>?_
  split<;>first|exact bT|exact trivial
 |len x=>
  simp only[dg,oSJ]at h;subst h;exact aT (bI λj hj=>by simpa using hj) λt=>aT wP λ_=>bT
 |lens x=>
  simp only[dg,oSJ]at h;subst h;refine aT (bI λj hj=>by simpa using hj) λt=>?_
  split<;>first|exact bT|exact trivial
 |ixs x i=>
  simp only[dg,oSJ]at h;subst h;refine aT (bI λj hj=>by simp[hj]) λt=>aT (bI λj hj=>by simp[hj]) λti=>aT nv λk=>?_
  (repeat' split)<;>first|exact bT|exact trivial
 |_=>simp[dg]at h
end
def AX(t:fj):Option (Nat×List Nat):=
 match t.dst,dg t.op with
 |some d,some S=>some (d,(match t.guard with|some (j,_)=>j::S|none=>S))
 |_,_=>none
theorem qq{α:Type}{d:Nat}{S S':List Nat}(hs:∀i∈S,i∈S'){s:SP α}(h:s.quiet d S):s.quiet d S':=by
 induction s with
 |ret a=>exact trivial
 |fail=>exact trivial
 |rdT i k ih=>exact⟨hs i h.1,λt=>ih t (h.2 t)⟩
 |rdC r o k ih=>exact λt=>ih t (h t)
 |rdH r o k ih=>exact λt=>ih t (h t)
 |rdV q k ih=>exact λn=>ih n (h n)
 |wrT i t k ih=>exact⟨h.1,ih h.2⟩
 |wrC r o t k ih=>exact h.elim
 |new r l k ih=>exact h.elim
 |bump q k ih=>exact h.elim
theorem uh{call:Option Nat->TOp->SP Unit}{t:fj}{d:Nat}{S:List Nat}(h:AX t=some (d,S)):(spOp call t).quiet d S:=by
 unfold AX at h;split at h
 case h_2=>simp at h
 rename_i d' S' hd hq
 injection h with h
 injection h with h1 h2
 subst h1
 have XB:(evop call t.dst t.op)=ev1 d' t.op:=by
  rw[hd]
  cases hop:t.op<;>rw[hop]at hq<;>first|rfl|simp[dg]at hq
 have Yz:(setNo t.dst).quiet d' S:=by rw[hd];exact⟨rfl,trivial⟩
 unfold spOp
 cases hg:t.guard with
 |none=>
  rw[hg]at h2;subst h2;rw[XB];exact wQ hq
 |some g=>
  obtain⟨j,want⟩:=g;rw[hg]at h2;subst h2;refine⟨by simp,λtv=>?_⟩;show SP.quiet d' (j::S') (match tv with|.v (.bool b)=>if b=want then evop call t.dst t.op else setNo t.dst|.tup []=>setNo t.dst|_=>.fail);split
  ·split
   ·rw[XB];exact qq (by simp +contextual) (wQ hq)
   ·exact Yz
  ·exact Yz
  ·exact trivial
def IB(deps:List (List Nat))(tops:List fj)(i j:Nat):Bool:=
 (deps.getD j []).contains i||(match AX (tops.getD i yy),AX (tops.getD j yy)with
  |some (di,Si),some (dj,Sj)=>di != dj && !Sj.contains di && !Si.contains dj
  |_,_=>false)
def ua(deps:List (List Nat))(tops:List fj):List Nat->Bool
 | []=>true
 |i::r=>(r.all λj=>IB deps tops i j)&&ua deps tops r
theorem y9{a b:mE}{da db:Nat}{Sa Sb:List Nat}(ha:(∀x∈a.2,x=.t da)/\∀i,Loc.t i∈a.1->i∈Sa)(hb:(∀x∈b.2,x=.t db)/\∀i,Loc.t i∈b.1->i∈Sb)(h1:da≠db)(h2:da ∉ Sb)(h3:db ∉ Sa):kF a b=false:=by
 have hm:∀(l l':List Loc)(d d':Nat)(S:List Nat),(∀x∈l,x=.t d)->((∀x∈l',x=.t d')/\d≠d'\/(∀i,Loc.t i∈l'->i∈S)/\d ∉ S)->CA l l'=false:=by
  intro l l' d d' S hl X';unfold CA;simp;intro w hw x hx;rw[hl w hw]
  cases x with
  |t i=>
   simp[Loc.hit,beq_eq_false_iff_ne];intro e
   rcases X' with⟨q1,q2⟩|⟨q1,q2⟩
   ·have:=q1 _ hx;injection this with this;omega
   ·simp_all
  |_=>rfl
 unfold kF;rw[hm a.2 b.1 da 0 Sb ha.1 (.inr ⟨hb.2,h2⟩),hm a.2 b.2 da db [] ha.1 (.inl ⟨hb.1,h1⟩),hm b.2 a.1 db 0 Sa hb.1 (.inr ⟨ha.2,h3⟩),hm b.2 a.2 db da [] hb.1 (.inl ⟨ha.1,Ne.symm h1⟩)];rfl
theorem Cf{call:Option Nat->TOp->SP Unit}{tops:List fj}{deps:List (List Nat)}:∀{L:List Nat}{σ τ:St}{fs:List (Nat×mE)},ua deps tops L=true->mF (λi=>spOp call (tops.getD i yy)) L σ=some (fs,τ)->
 fh deps fs=true/\fs.map (·.1)=L/\∀y∈fs,∃ σ1,y.2=(spOp call (tops.getD y.1 yy)).foot σ1:=by
 intro L
 induction L with
 |nil=>
  intro σ τ fs _ hr;obtain⟨rfl,rfl⟩:=hr;exact⟨rfl,rfl,λy hy=>by simp at hy⟩
 |cons i L ih=>
  intro σ τ fs hs hr;simp only[ua,oBA,List.all_eq_true]at hs;simp only[mF]at hr;obtain⟨x,h1,h2⟩:=bg hr;obtain⟨y,h3,h4⟩:=bg h2;obtain⟨rfl,rfl⟩:=h4;obtain⟨XT,τ1⟩:=y;obtain⟨q1,q2,q3⟩:=ih hs.2 h3;refine⟨?_,by simp[q2],λz hz=>?_⟩
  ·simp only[fh,oBA,List.all_eq_true];refine⟨λz hz=>?_,q1⟩
   have Sy:z.1∈L:=by rw[<- q2];exact List.mem_map_of_mem hz
   have hp:=hs.1 z.1 Sy;unfold IB at hp;simp only[Bool.or_eq_true]at hp⊢;rcases hp with hp|hp
   ·exact .inr hp
   ·left;split at hp
    ·rename_i di Si dj Sj e1 e2;simp only[oBA,bne_iff_ne,ne_eq,Bool.not_eq_true',List.contains_eq_mem,decide_eq_false_iff_not]at hp;obtain⟨σ1,e3⟩:=q3 z hz;have:=y9 (kV (uh (call:=call) e1) σ) (kV (uh (call:=call) e2) σ1) hp.1.1 hp.1.2 hp.2
     simp_all
    ·simp at hp
  ·rcases List.mem_cons.1 hz with rfl|hz
   ·exact⟨σ,rfl⟩
   ·exact q3 z hz
theorem GO{call:Option Nat->TOp->SP Unit}{o:fj}{σ σ':St}(h:uT call o σ=some σ'):(spOp call o).run σ=some ((),σ'):=by
 have Yz:∀{σ'},(match o.dst with|some d=>some { σ with tm:=dn σ.tm d (.tup []) } |none=>some σ)=some σ'->(setNo o.dst).run σ=some ((),σ'):=by
  intro σ' h;unfold setNo
  cases hd:o.dst with
  |none=>rw[hd]at h;simp at h;simp[SP.run,h]
  |some d=>rw[hd]at h;simp at h;simp[SP.run,h]
 have hm:∀{s:SP Unit}{σ'},(s.run σ).map (·.2)=some σ'->s.run σ=some ((),σ'):=by simp_all
 unfold uT at h;unfold spOp
 cases hg:o.guard with
 |none=>rw[hg]at h;exact hm h
 |some g=>
  rw[hg]at h;simp only[SP.run]at h⊢;split at h
  ·split at h
   ·rename_i Tr;rw[oIP Tr];exact hm h
   ·rename_i Tr;rw[oIN Tr];exact Yz h
  ·exact Yz h
  ·simp at h
theorem Es{call:Option Nat->TOp->SP Unit}{tops:List fj}:∀{L:List Nat}{σ τ:St},nR call (L.map λi=>tops.getD i yy) σ=some τ->∃fs,mF (λi=>spOp call (tops.getD i yy)) L σ=some (fs,τ):=by
 intro L
 induction L with
 |nil=>intro σ τ h;simp[nR]at h;subst h;exact⟨[],rfl⟩
 |cons i L ih=>
  intro σ τ h;have ⟨σ1,h1,h2⟩:=bg h;have ⟨fs,h3⟩:=ih h2;refine⟨(i,(spOp call (tops.getD i yy)).foot σ)::fs,?_⟩;simp only[mF,GO h1,oBS,h3]
theorem Ci(tops:List fj):(List.range tops.length).map (λi=>tops.getD i yy)=tops:=by
 apply List.ext_getElem?;intro i;by_cases h:i<tops.length
 ·simp[h]
 ·simp_all
def ff(P:Program)(M:Fm)(isCall:Op->TOp->Prop):gu->Code->Prop
 |.skip,c=>c=.skip
 |.nrm _,c=>c=.skip
 |.reg _ draw tops _,c=>∃id ops dr,c=.region id ops dr/\tops.length=ops.size/\(∀i (h:i<ops.size)(h':i<tops.length),qp P M isCall ops ops[i] tops[i])/\match draw with
  |some deps=>dr=true/\sN ops deps/\P.follows .mixedOrders=true
  |none=>dr=true->∃deps,sN ops deps/\P.follows .mixedOrders=true/\ua deps tops (List.range tops.length)=true
 |.seq x y,c=>∃x' y',c=.seq x' y'/\ff P M isCall x x'/\ff P M isCall y y'
 |.cond k x y,c=>∃k' x' y',c=.cond k' x' y'/\aZ k'=some k/\ff P M isCall x x'/\ff P M isCall y y'
 |.block id x,c=>∃x',c=.block id x'/\ff P M isCall x x'
 |.loop x,c=>∃x',c=.loop x'/\ff P M isCall x x'
 |.exit id,c=>c=.exit id
 |.ret,c=>c=.ret
 |.pre l x,c=>(∀y∈l,y.1<M.N)/\ff P M isCall x c
 |.post x l,c=>(∀y∈l,y.1<M.N)/\ff P M isCall x c
def gt.toExit:gt->Exit
 |.normal=>.normal
 |.exit id=>.exit id
 |.ret=>.ret
section
variable {P:Program} {M:Fm} {isCall:Op->TOp->Prop} {call:Option Nat->TOp->SP Unit}
theorem fm.toTm{w:World}{F:Nat->Prop}{V:Vs}{C:Cs}{G:Gh}{t:TV}{x:Value}(h:fm w F t x):TmR w F V C G t x:=by
 exact(ImF.im h).toTm
theorem Jr{σ σ':St}{ts:Array Value}{w:World}{G:Gh}(hI:Inv M σ [] [] ts w G){x:Nat×Option Nat}(hx:x.1<M.N)(hr:(shr1 x).run σ=some ((),σ')):∃G',Inv M σ' [] [] ts w G':=by
 obtain⟨i,off⟩:=x
 have same:some ((),σ)=some ((),σ')->∃G',Inv M σ' [] [] ts w G':=λh=>by
  simp only[oSJ,oPJ,true_and]at h;exact⟨G,h▸hI⟩
 have Y':=hI.tmr i
 have drop:∀{t t':TV}{v:Value}{σ1:St}{H:List TV},TmR w (G.F M.A) σ.v (bv M σ []) G t v->(take1 false t).run σ=some (t',σ1)->t'≠.dead->∃G2,Inv M σ1 [] [] ts w G2/\TmR w (G2.F M.A) σ1.v (bv M σ1 []) G2 t'.imm v/\σ1.tm=σ.tm:=by
  intro t t' v σ1 H ht h1 ZN;obtain⟨G1,hg,_⟩:=eE hI ht h1
  obtain⟨G2,ZH,ZG⟩:=hg.1.dropImm (λj hj=>by
   obtain rfl:j=0:=by simpa using hj
   exact ZN)
  have h0:=ZG 0 (by simp);refine⟨G2,ZH.1,?_,ZH.2.2.2.trans hg.2.2.2⟩;exact h0.toTm
 unfold shr1 at hr;simp only[SP.run]at hr
 cases off with
 |none=>
  cases ht:σ.t i with
  |pk p vs=>
   rw[ht]at hr Y';simp only at hr;obtain⟨t',σ1,h1,h2⟩:=aS hr;simp only[SP.run,oSJ,oPJ,true_and]at h2
   have ZN:t'≠.dead:=by
    intro e
    rcases gD h1 with h|h<;>rw[e]at h<;>simp[bS,jd]at h
   obtain⟨G2,ZJ,X5,_⟩:=drop (H:=[]) Y' h1 ZN;refine⟨G2,?_⟩;rw[<- h2];have:=ZJ.wrT hx X5
   have e:ts.setIfInBounds i (ts.getD i undef)=ts:=by
    apply Array.ext
    ·simp
    ·intro j h3 h4;rw[Array.getElem_setIfInBounds (by simpa using h4)]
     simp_all
   rw[e]at this;exact this
  |_=>rw[ht]at hr;exact same hr
 |some off=>
  cases ht:σ.t i with
  |ptr p vs=>
   rw[ht]at hr Y';simp only at hr;obtain⟨_,σ1,h1,h2⟩:=aS hr;have e1:σ1=σ:=(bl h1).1;have e2:=(bl h1).2;subst e1;split at h2
   case isFalse=>simp[SP.run]at h2
   obtain⟨t,σ2,h3,h4⟩:=aS h2;obtain⟨e3,hg⟩:=cT h3;have e3:σ2=σ1:=e3;subst e3
   cases t with
   |ow c=>
    simp only at h4;obtain⟨t',σ3,h5,h6⟩:=aS h4;obtain⟨t2,σ4,h7,h8⟩:=aS h6;simp only[SP.run,oSJ,oPJ,true_and]at h8;subst h8
    cases Y' with
    |ptr V0 h0 hv h=>
     obtain⟨Z4,ad,t0,ha,_,_⟩:=h e2
     have TP:(p.add off).root≠1:=by rw[ct];exact Z4
     obtain⟨hB,u,fp,YT,hown,Sl⟩:=hI.named TP (jv off ha) hg (by simp);obtain⟨rfl,YQ⟩:=nY hI TP hg hown Sl h5
     have ZN:t2≠.dead:=by
      intro e
      rcases gD h7 with h|h<;>rw[e]at h<;>simp[bS,jd]at h
     obtain⟨G2,ZJ,_,_⟩:=drop (H:=[]) YQ h7 ZN;exact⟨G2,ZJ⟩
   |_=>exact same h4
  |_=>rw[ht]at hr;exact same hr
theorem D9{ts:Array Value}{w:World}:∀{l:List (Nat×Option Nat)}{σ σ':St}{G:Gh},Inv M σ [] [] ts w G->(∀y∈l,y.1<M.N)->(shrs l).run σ=some ((),σ')->∃G',Inv M σ' [] [] ts w G':=by
 intro l
 induction l with
 |nil=>
  intro σ σ' G hI _ hr;simp[shrs,SP.run]at hr;exact⟨G,hr▸hI⟩
 |cons x l ih=>
  intro σ σ' G hI hl hr;have ⟨_,σ1,h1,h2⟩:=aS hr;have ⟨G1,hI1⟩:=Jr hI (hl x (by simp)) h1;exact ih hI1 (λy hy=>hl y (by simp[hy])) h2
theorem AP(Zh:sO P M isCall call)(N:Nat):∀(tc:gu)(c:Code)(σ:St)(e:gt)(σ':St)(a:Act)(w:World)(G:Gh)(Q:Exit->Act->World->Prop),ff P M isCall tc c->runC call N tc σ=some (e,σ')->Inv M σ [] [] a.tmps w G ->
 (∀a' w' G',Inv M σ' [] [] a'.tmps w' G'->a'.defers=a.defers->Q e.toExit a' w')->c.wp P Q a w:=by
 intro tc
 induction tc with
 |skip=>
  intro c σ e σ' a w G Q hc hr hI hQ;simp only[ff]at hc;subst hc;simp only[runC,oSJ,oPJ]at hr;obtain⟨rfl,rfl⟩:=hr;exact wp_skip (hQ a w G hI rfl)
 |nrm pers=>
  intro c σ e σ' a w G Q hc hr hI hQ;simp only[ff]at hc;subst hc;obtain⟨rfl,rfl⟩:=hr;obtain⟨G2,ZJ⟩:=hI.norm pers;exact wp_skip (hQ a w G2 ZJ rfl)
 |reg id draw tops pers=>
  intro c σ e σ' a w G Q hc hr hI hQ;obtain⟨id',ops,dr,rfl,hlen,hok,hdr⟩:=hc;simp only[runC]at hr
  cases draw with
  |some deps=>
   simp only at hr;obtain⟨⟨fs,τ⟩,h1,h2⟩:=bg hr;simp only at h2;split at h2
   ·rename_i hp
    injection h2 with h2
    injection h2 with h2 h3
    subst h2;subst h3;obtain⟨rfl,Y1,hm⟩:=hdr;refine AO hm hlen hok Zh Y1 hI h1 hp λa' w' G' Zy hd'=>?_;obtain⟨G2,ZJ⟩:=Zy.norm pers;exact hQ a' w' G2 ZJ hd'
   ·simp at h2
  |none=>
   simp only at hr;obtain⟨σ1,h1,h2⟩:=eK hr
   injection h2 with h2 h3
   subst h2;subst h3
   cases dr with
   |true=>
    obtain⟨deps,Y1,hm,hst⟩:=hdr rfl;obtain⟨fs,Zq⟩:=Es (tops:=tops) (L:=List.range tops.length) (by rw[Ci];exact h1);refine AO hm hlen hok Zh Y1 hI Zq (Cf hst Zq).1 λa' w' G' Zy hd'=>?_;obtain⟨G2,ZJ⟩:=Zy.norm pers;exact hQ a' w' G2 ZJ hd'
   |false=>
   refine wp_region ?_
   have hm:(List.range ops.size).map (λi=>tops.getD i ⟨none,none,.lens (.t 0)⟩)=tops:=by
    apply List.ext_getElem?;intro i;by_cases h:i<ops.size
    ·simp[h,hlen]
    ·rw[oGN (by simpa using h),oGN (by omega)]
   refine I7 hlen hok Zh (List.range ops.size) σ a w G (λi hi=>by simpa using hi) hI (by rw[hm];exact h1) λa' w' G' Zy hd'=>?_;obtain⟨G2,ZJ⟩:=Zy.norm pers;exact hQ a' w' G2 ZJ hd'
 |seq x y W8 TU=>
  intro c σ e σ' a w G Q hc hr hI hQ;obtain⟨x',y',rfl,hx,hy⟩:=hc;simp only[runC]at hr;obtain⟨⟨e1,σ1⟩,h1,h2⟩:=bg hr;refine wp_seq (W8 x' σ e1 σ1 a w G _ hx h1 hI λa' w' G' Zy hd=>?_)
  cases e1 with
  |normal=>exact TU y' σ1 e σ' a' w' G' Q hy h2 Zy λa2 w2 G2 h3 h4=>hQ a2 w2 G2 h3 (h4.trans hd)
  |exit id=>
   simp only[oSJ,oPJ]at h2;obtain⟨rfl,rfl⟩:=h2;exact hQ a' w' G' Zy hd
  |ret=>
   simp only[oSJ,oPJ]at h2;obtain⟨rfl,rfl⟩:=h2;exact hQ a' w' G' Zy hd
 |cond k x y W8 TU=>
  intro c σ e σ' a w G Q hc hr hI hQ;obtain⟨k',x',y',rfl,hk,hx,hy⟩:=hc;simp only[runC]at hr;obtain⟨⟨t,σ1⟩,h1,h2⟩:=bg hr;obtain⟨rfl,ht⟩:=bP hI.tmr hk h1
  cases t with
  |v z=>
   obtain⟨hz,_⟩:=ht.v_inv
   cases z with
   |bool b=>
    cases b with
    |true=>exact wp_cond_true hz (W8 x' _ e σ' a w G Q hx h2 hI hQ)
    |false=>exact wp_cond_false hz (TU y' _ e σ' a w G Q hy h2 hI hQ)
   |_=>simp at h2
  |_=>simp at h2
 |block id x W8=>
  intro c σ e σ' a w G Q hc hr hI hQ;obtain⟨x',rfl,hx⟩:=hc;simp only[runC]at hr;obtain⟨⟨e1,σ1⟩,h1,h2⟩:=bg hr;refine wp_block (W8 x' σ e1 σ1 a w G _ hx h1 hI λa' w' G' Zy hd=>?_)
  cases e1 with
  |normal=>
   simp only[oSJ,oPJ]at h2;obtain⟨rfl,rfl⟩:=h2;exact hQ a' w' G' Zy hd
  |exit i=>
   simp only at h2;simp only[gt.toExit,Exit.inBlock];split at h2
   ·rename_i hi;simp only[oSJ,oPJ]at h2;obtain⟨rfl,rfl⟩:=h2;rw[oIP hi];exact hQ a' w' G' Zy hd
   ·rename_i hi;simp only[oSJ,oPJ]at h2;obtain⟨rfl,rfl⟩:=h2;rw[oIN hi];exact hQ a' w' G' Zy hd
  |ret=>
   simp only[oSJ,oPJ]at h2;obtain⟨rfl,rfl⟩:=h2;exact hQ a' w' G' Zy hd
 |loop x W8=>
  intro c σ e σ' a w G Q hc hr hI hQ;obtain⟨x',rfl,hx⟩:=hc;simp only[runC]at hr
  have ZQ:∀(n:Nat)(σ:St)(a:Act)(w:World)(G:Gh)(d:List Deferred),a.defers=d->JT (runC call N x) n σ=some (e,σ')->Inv M σ [] [] a.tmps w G->(∀a' w' G',Inv M σ' [] [] a'.tmps w' G'->a'.defers=d->Q e.toExit a' w')->Code.rounds P x' Q n a w:=by
   intro n
   induction n with
   |zero=>intro σ a w G d _ hr;simp[JT]at hr
   |succ n ih=>
    intro σ a w G d hd hr hI hQ;simp only[JT]at hr;obtain⟨⟨e1,σ1⟩,h1,h2⟩:=bg hr;rw[rounds_succ];refine W8 x' σ e1 σ1 a w G _ hx h1 hI λa' w' G' Zy hd'=>?_
    cases e1 with
    |normal=>exact ih σ1 a' w' G' d (hd'.trans hd) h2 Zy hQ
    |exit i=>
     simp only[oSJ,oPJ]at h2;obtain⟨rfl,rfl⟩:=h2;exact hQ a' w' G' Zy (hd'.trans hd)
    |ret=>
     simp only[oSJ,oPJ]at h2;obtain⟨rfl,rfl⟩:=h2;exact hQ a' w' G' Zy (hd'.trans hd)
  exact wp_loop_rounds N (ZQ N σ a w G a.defers rfl hr hI hQ)
 |exit id=>
  intro c σ e σ' a w G Q hc hr hI hQ;simp only[ff]at hc;subst hc;obtain⟨rfl,rfl⟩:=hr;exact wp_exit (hQ a w G hI rfl)
 |ret=>
  intro c σ e σ' a w G Q hc hr hI hQ;simp only[ff]at hc;subst hc;obtain⟨rfl,rfl⟩:=hr;exact wp_ret (hQ a w G hI rfl)
 |pre l x W8=>
  intro c σ e σ' a w G Q hc hr hI hQ;obtain⟨hl,hx⟩:=hc;simp only[runC]at hr;obtain⟨⟨u,σ1⟩,h1,h2⟩:=bg hr;obtain⟨G1,hI1⟩:=D9 hI hl h1;obtain⟨G2,ZJ⟩:=hI1.norm (σ1.tm.map (·.1),σ1.ce.map (·.1));exact W8 c σ1.anew e σ' a w G2 Q hx h2 ZJ hQ
 |post x l W8=>
  intro c σ e σ' a w G Q hc hr hI hQ;obtain⟨hl,hx⟩:=hc;simp only[runC]at hr;obtain⟨⟨e1,σ1⟩,h1,h2⟩:=bg hr;obtain⟨⟨u,σ2⟩,h3,h4⟩:=bg h2;simp only[oSJ,oPJ]at h4;obtain⟨rfl,rfl⟩:=h4;refine W8 c σ e1 σ1 a w G Q hx h1 hI λa' w' G' Zy hd=>?_;obtain⟨G2,ZJ⟩:=D9 Zy hl h3;obtain⟨G3,WU⟩:=ZJ.norm (σ2.tm.map (·.1),σ2.ce.map (·.1));exact hQ a' w' G3 WU hd
end
inductive TRs where
 |tmp (t:Nat)
 |cell (t:Nat) (n:Option Nat)
structure TFn where
 np:Nat
 pp:List Nat
 nt:Nat
 body:gu
 res:List TRs
def Lc(np r:Nat):Bool:=r%2==0&&decide (r<2*np+2)
def takeR1(np:Nat)(t:TV):SP TV:=
 match t with
 |.pk p vs=>take1 (!Lc np p.root) (.pk p vs)
 |t=>take1 true t
def takeRL(np:Nat):List TV->SP (List TV)
 | []=>.ret []
 |t::r=>(takeR1 np t).bind λt'=>(takeRL np r).bind λr'=>.ret (t'::r')
def takeRV(np:Nat)(t:TV):SP (List TV×RSh):=
 match t with
 |.agg l=>(takeRL np l).bind λl'=>.ret (l',.agg l'.length)
 |t=>(takeR1 np t).bind λt'=>.ret ([t'],.one)
def res1(np:Nat):TRs->SP (List TV×RSh)
 |.tmp t=>.rdT t λtv=>takeRV np tv
 |.cell t n=>.rdT t λtv=>match tv with
  |.ptr p vs=>(chk p p.hops.length vs).bind λ_=>match n with
   |none=>(getPl p).bind λt=>(peek1 p t).bind λt'=>takeRV np t'
   |some n=>(peekL p n).bind λl=>takeRV np (.agg l)
  |_=>.fail
def resL(np:Nat):List TRs->SP (List TV×List RSh)
 | []=>.ret ([],[])
 |r::rs=>(res1 np r).bind λx=>(resL np rs).bind λy=>.ret (x.1++y.1,x.2::y.2)
def yA:TV->Bool
 |.v x=>ew x
 |_=>false
def unV:TV->Value
 |.v x=>x
 |_=>undef
def onesOf:List TV->List RSh
 | []=>[]
 |_::r=>.one::onesOf r
def flatsR:List TRs->SP (List TV)
 | []=>.ret []
 |.tmp t::r=>.rdT t λtv=>if yA tv then(flatsR r).bind λl=>.ret (tv::l)else .fail
 |.cell _ _::_=>.fail
def resF(np:Nat):List TRs->SP (List TV×List RSh)
 |.tmp t::r=>.rdT t λtv=>match tv with
  |.ptr p vs=>(chk p p.hops.length vs).bind λ_=>(flatsR r).bind λl=>.ret (.ptr p vs::l,.ptr::onesOf l)
  |_=>resL np (.tmp t::r)
 |qs=>resL np qs
def AT(t:TV):List TV->TV
 | []=>t
 |y::l=>.tup (t::y::l)
def ue(x:Value):List Value->Value
 | []=>x
 |y::l=>.tuple (x::y::l).toArray
theorem Ed{w:World}{F:Nat->Prop}{V:Vs}{C:Cs}{G:Gh}{t:TV}{x:Value}(h:TmR w F V C G t x):∀{l:List TV},l.all yA=true->TmR w F V C G (AT t l) (ue x (l.map unV)):=by
 intro l hl
 have ZW:∀j (hj:j<l.length),TmR w F V C G l[j] (unV l[j]):=by
  intro j hj;have:=List.all_eq_true.1 hl l[j] (List.getElem_mem hj)
  cases hc:l[j]with
  |v y=>rw[hc]at this;exact .v this
  |_=>rw[hc]at this;simp[yA]at this
 cases l with
 |nil=>exact h
 |cons y l=>
  refine .tup (by simp) λj hj=>?_
  cases j with
  |zero=>exact h
  |succ j=>
   have ZT:j<(y::l).length:=by simp_all
   have e:(x::unV y::l.map unV).toArray.getD (j+1) undef=unV (y::l)[j]:=by
    have e0:((y::l).map unV)[j]?=some (unV (y::l)[j]):=by rw[List.getElem?_map,oGE ZT];rfl
    simp_all
   simp_all
def dP:List RSh->List Value->List Value
 | [],_=>[]
 |.one::r,ys=>ys.headD undef::dP r ys.tail
 |.agg n::r,ys=>.agg (ys.take n).toArray::dP r (ys.drop n)
 |.ptr::r,ys=>undef::dP r ys
def iX(sh:List RSh)(ys:List Value):Value:=
 match dP sh ys with
 | [x]=>x
 |l=>.tuple l.toArray
section
variable {P:Program} {M:Fm} {σ σ':St} {H:List TV} {xs:List Value} {ts:Array Value} {w:World} {G:Gh}
theorem wB(np:Nat)(t:TV):∃mv,takeR1 np t=take1 mv t:=by
 cases t<;>first|exact⟨true,rfl⟩|exact⟨_,rfl⟩
theorem Dx{np:Nat}:∀{l l':List TV}{ys:List Value}{σ σ':St}{H:List TV}{xs:List Value}{G:Gh},Inv M σ H xs ts w G->l.length=ys.length->(∀j (h:j<l.length),TmR w (G.F M.A) σ.v (bv M σ H) G l[j] (ys.getD j undef))->
 (takeRL np l).run σ=some (l',σ')->l'.length=l.length/\(∃G',iJ M w ts σ H G σ' (H++l') (xs++ys) G')/\∀j (h:j<l'.length),bS l'[j]=true\/jd l'[j]=true:=by
 intro l
 induction l with
 |nil=>
  intro l' ys σ σ' H xs G hI hl _ hr;obtain⟨rfl,rfl⟩:=hr;have:=oEN (by simpa using hl.symm);subst this;exact⟨rfl,⟨G,by simpa using iJ.refl hI⟩,λj h=>by simp at h⟩
 |cons t l ih=>
  intro l' ys σ σ' H xs G hI hl ht hr
  cases ys with
  |nil=>simp at hl
  |cons y ys=>
   obtain⟨t',σ1,h1,h2⟩:=aS hr;obtain⟨r',σ2,h3,h4⟩:=aS h2;obtain⟨rfl,rfl⟩:=h4;obtain⟨mv,W1⟩:=wB np t;rw[W1]at h1;obtain⟨G1,Z0,ho⟩:=eE hI (ht 0 (by simp)) h1;obtain⟨e,⟨G2,ZH⟩,hok⟩:=ih (l':=r') Z0.1 (by simpa using hl) (λj hj=>Z0.tm (by have:=ht (j+1) (by simpa using hj);simpa using this)) h3;refine⟨by simp[e],⟨G2,by simpa using Z0.trans ZH⟩,λj hj=>?_⟩
   cases j with
   |zero=>exact gD h1
   |succ j=>exact hok j (by simpa using hj)
theorem rj{np:Nat}{t:TV}{x:Value}{r:List TV×RSh}(hI:Inv M σ H xs ts w G)(hx:TmR w (G.F M.A) σ.v (bv M σ H) G t x)(hr:(takeRV np t).run σ=some (r,σ')):
 ∃ys G',iJ M w ts σ H G σ' (H++r.1) (xs++ys) G'/\r.1.length=ys.length/\(∀j (h:j<r.1.length),bS r.1[j]=true\/jd r.1[j]=true)/\∀(rest:List RSh)(zs:List Value),dP (r.2::rest) (ys++zs)=x::dP rest zs:=by
 by_cases ht:∃q,t=.agg q
 ·obtain⟨q,rfl⟩:=ht;obtain⟨l',σ1,h1,h2⟩:=aS hr;obtain⟨rfl,rfl⟩:=h2;obtain⟨vs,rfl,hl,hj⟩:=Dj hx;obtain⟨e1,⟨G',hg⟩,hok⟩:=Dx (ys:=vs.toList) hI (by simp[hl]) (λj h=>by simp_all) h1;refine⟨vs.toList,G',hg,by simp[e1,hl],hok,λrest zs=>?_⟩
  have hn:l'.length=vs.toList.length:=by simp_all
  simp only[dP,hn,List.take_left,List.drop_left,Array.toArray_toList]
 ·have e:takeRV np t=(takeR1 np t).bind λt'=>.ret ([t'],.one):=by
   cases t<;>first|rfl|exact absurd ⟨_,rfl⟩ ht
  rw[e]at hr;obtain⟨t',σ1,h1,h2⟩:=aS hr;obtain⟨rfl,rfl⟩:=h2;obtain⟨mv,W1⟩:=wB np t;rw[W1]at h1;obtain⟨G',hg,ho⟩:=eE hI hx h1;refine⟨[x],G',hg,rfl,λj hj=>?_,λrest zs=>rfl⟩
  obtain rfl:j=0:=by simp_all
  exact gD h1
def Ap(P:Program):TRs->ResultVar->Prop
 |.tmp t,r=>r=.tmp t
 |.cell t n,r=>∃ty,r=.cell t ty/\BM P ty n
theorem JG{np:Nat}{q:TRs}{q':ResultVar}{r:List TV×RSh}(hI:Inv M σ H xs ts w G)(hq:Ap P q q')(hr:(res1 np q).run σ=some (r,σ')):
 ∃x ys G',(match q' with|.tmp t=>(pure (ts.getD t undef):Sem Value)|.cell a t=>do loadVar t (<- asAddr (ts.getD a undef))).run P w=.ok x w/\iJ M w ts σ H G σ' (H++r.1) (xs++ys) G'/\r.1.length=ys.length /\
  (∀j (h:j<r.1.length),bS r.1[j]=true\/jd r.1[j]=true)/\∀(rest:List RSh)(zs:List Value),dP (r.2::rest) (ys++zs)=x::dP rest zs:=by
 cases q with
 |tmp t=>
  have hq:q'=.tmp t:=hq;subst hq;obtain⟨ys,G',h1,h2,h3,h4⟩:=rj hI (hI.tmr t) hr;exact⟨_,ys,G',rfl,h1,h2,h3,h4⟩
 |cell t n=>
  obtain⟨ty,rfl,hn⟩:=hq;simp only[res1,SP.run]at hr;have Y':=hI.tmr t
  cases hs:σ.t t with
  |ptr p vs=>
   rw[hs]at hr Y';simp only at hr;obtain⟨_,σ2,h3,h4⟩:=aS hr;have e1:σ2=σ:=(bl h3).1;have e2:=(bl h3).2;subst e1;generalize hz:ts.getD t undef=z at Y'
   cases Y' with
   |ptr V0 h0 hv h=>
    obtain⟨Z4,ad,t0,ha,rfl,_⟩:=h e2
    cases n with
    |none=>
     obtain⟨dd,hu,X8,hd2⟩:=hn;simp only at h4;obtain⟨t1,σ3,h5,h6⟩:=aS h4;obtain⟨e3,hg⟩:=cT h5;have e3:σ3=σ2:=e3;subst e3;obtain⟨t',σ4,h7,h8⟩:=aS h6;obtain⟨hB,u,fp,YT,hown,Zu⟩:=hI.named Z4 ha hg (mr h7);obtain⟨rfl,YQ⟩:=nY hI Z4 hg hown Zu h7;obtain⟨ys,G',k1,k2,k3,k4⟩:=rj hI YQ h8;refine⟨u,ys,G',?_,k1,k2,k3,k4⟩;show((do loadVar ty (<- asAddr (ts.getD t undef))):Sem Value).run P w=_;rw[hz];simp[asAddr,loadVar,jR hu X8 hd2,YT]
    |some n=>
     obtain⟨⟨dd,hu,X8⟩,hsz⟩:=hn;simp only at h4;obtain⟨l,σ3,h5,h6⟩:=aS h4;obtain⟨rfl,e3,us,e4,e5⟩:=Ba hI Z4 ha h5
     have OU:TmR w (G.F M.A) σ3.v (bv M σ3 H) G (.agg l) (.agg us.toArray):=.agg (by simp[e3,e4]) λj hj=>by have:=(e5 j hj (by omega)).2;simpa[show j<us.length by omega]using this
     obtain⟨ys,G',k1,k2,k3,k4⟩:=rj hI OU h6;refine⟨_,ys,G',?_,k1,k2,k3,k4⟩;have Zf:=ib ha
     have ZV:=run_loadCells_list (P:=P) w ad us λj v hj=>by
      obtain⟨hlt,rfl⟩:=oGS hj;have:=(e5 j (by omega) hlt).1;obtain⟨b,o,s⟩:=ad;simp only at Zf;subst Zf;rw[cr];exact this
     have YI:(sizeOf ty).run P w=.ok n w:=by
      unfold sizeOf typeInfo
      cases hi:P.info? ty with
      |none=>simp[hi]at hsz
      |some i=>simp[hi]at hsz;simp[hi,hsz]
     rw[e4]at ZV;show((do loadVar ty (<- asAddr (ts.getD t undef))):Sem Value).run P w=_;rw[hz];simp[asAddr,loadVar,iW hu X8,YI,ZV]
  |_=>rw[hs]at hr;simp[SP.run]at hr
theorem JF{np:Nat}:∀{qs:List TRs}{qs':List ResultVar}{r:List TV×List RSh}{σ σ':St}{H:List TV}{xs:List Value}{G:Gh},Inv M σ H xs ts w G->qs.length=qs'.length->(∀k (h:k<qs.length)(h':k<qs'.length),Ap P qs[k] qs'[k])->(resL np qs).run σ=some (r,σ')->
 ∃vs ys G',(qs'.mapM λ(q:ResultVar)=>(match q with|.tmp t=>(pure (ts.getD t undef):Sem Value)|.cell a t=>do loadVar t (<- asAddr (ts.getD a undef)))).run P w=.ok vs w/\iJ M w ts σ H G σ' (H++r.1) (xs++ys) G'/\r.1.length=ys.length /\
  (∀j (h:j<r.1.length),bS r.1[j]=true\/jd r.1[j]=true)/\dP r.2 ys=vs:=by
 intro qs
 induction qs with
 |nil=>
  intro qs' r σ σ' H xs G hI hl _ hr;have:qs'=[]:=oEN (by simpa using hl.symm);subst this;obtain⟨rfl,rfl⟩:=hr;exact⟨[],[],G,by simp,by simpa using iJ.refl hI,rfl,λj h=>by simp at h,rfl⟩
 |cons q qs ih=>
  intro qs' r σ σ' H xs G hI hl hok hr
  cases qs' with
  |nil=>simp at hl
  |cons q' qs'=>
   obtain⟨x,σ1,h1,h2⟩:=aS hr;obtain⟨y,σ2,h3,h4⟩:=aS h2;obtain⟨rfl,rfl⟩:=h4;obtain⟨v,ys,G1,k1,k2,k3,k4,k5⟩:=JG hI (hok 0 (by simp) (by simp)) h1;obtain⟨vs,zs,G2,l1,l2,l3,l4,l5⟩:=ih (qs':=qs') k2.1 (by simpa using hl) (λk h h'=>hok (k+1) (by simpa using h) (by simpa using h')) h3;refine⟨v::vs,ys++zs,G2,?_,by simpa using k2.trans l2,by simp[k3,l3],λj hj=>?_,?_⟩
   ·rw[List.mapM_cons,Sem.run_bind];refine(congrArg (λr=>Result.andThen r _) k1).trans ?_;simp only[Result.andThen_ok,Sem.run_bind,l1,Sem.run_pure]
   ·by_cases hjl:j<x.1.length
    ·rw[List.getElem_append_left hjl];exact k4 j hjl
    ·rw[List.getElem_append_right (by omega)];exact l4 _ _
   ·rw[k5,l5]
theorem Fz:∀{qs:List TRs}{qs':List ResultVar}{l:List TV}{σ σ':St}{G:Gh},Inv M σ [] [] ts w G->qs.length=qs'.length->(∀k (h:k<qs.length)(h':k<qs'.length),Ap P qs[k] qs'[k])->(flatsR qs).run σ=some (l,σ')->
 σ'=σ/\l.all yA=true/\(qs'.mapM λ(q:ResultVar)=>(match q with|.tmp t=>(pure (ts.getD t undef):Sem Value)|.cell a t=>do loadVar t (<- asAddr (ts.getD a undef)))).run P w=.ok (l.map unV) w:=by
 intro qs
 induction qs with
 |nil=>
  intro qs' l σ σ' G hI hl _ hr;have:qs'=[]:=oEN (by simpa using hl.symm);subst this;obtain⟨rfl,rfl⟩:=hr;exact⟨rfl,rfl,by simp⟩
 |cons q qs ih=>
  intro qs' l σ σ' G hI hl hok hr
  cases qs' with
  |nil=>simp at hl
  |cons q' qs'=>
   cases q with
   |cell t n=>simp[flatsR,SP.run]at hr
   |tmp t=>
    have hq:q'=.tmp t:=hok 0 (by simp) (by simp);subst hq;simp only[flatsR,SP.run]at hr;split at hr
    case isFalse=>simp[SP.run]at hr
    rename_i hf;obtain⟨r,σ1,h1,h2⟩:=aS hr;simp only[SP.run,oSJ,oPJ]at h2;obtain⟨rfl,rfl⟩:=h2;obtain⟨rfl,k2,k3⟩:=ih (qs':=qs') hI (by simpa using hl) (λk h h'=>hok (k+1) (by simpa using h) (by simpa using h')) h1;refine⟨rfl,by rw[List.all_cons,hf,k2];rfl,?_⟩;have hv:=hI.tmr t
    have e:ts.getD t undef=unV (σ1.t t):=by
     cases hc:σ1.t t with
     |v x=>
      rw[hc]at hv
      cases hv with
      |v _=>rfl
     |_=>rw[hc]at hf;simp[yA]at hf
    rw[List.mapM_cons,Sem.run_bind];simp only[Result.andThen_ok,Sem.run_bind,k3,Sem.run_pure];rw[e];rfl
end
section
variable {P:Program} {M:Fm} {σ σ':St} {H:List TV} {xs:List Value} {ts:Array Value} {w:World} {G:Gh}
theorem Inv.trunc(hI:Inv M σ H xs ts w G){k:Nat}(hd:∀j (h:j<H.length),k<=j->H[j]=.dead):Inv M σ (H.take k) (xs.take k) ts w G/\bv M σ (H.take k)=bv M σ H:=by
 have e:bv M σ (H.take k)=bv M σ H:=by
  funext r o;unfold bv;split
  ·simp
   grind
  ·rfl
 refine⟨⟨by rw[e];exact hI.core,λi=>by rw[e];exact hI.tmr i,hI.fram,hI.keys,hI.size,by simp[hI.hand],λj hj=>?_,hI.shape⟩,e⟩
 have h2:j<k/\j<xs.length:=by simp at hj;omega
 rw[hI.hval j h2.2]
 simp_all
theorem pi(b:Nat)(vs:List Value):∀(o:Nat)(w:World){k:Nat},k≠b->(w.setCells b o vs).heap[k]?=w.heap[k]?:=by
 induction vs with
 |nil=>intro o w k h;rfl
 |cons v r ih=>
  intro o w k h;simp[World.setCells];rw[ih _ _ h];exact bo w _ v h
theorem sV(b:Nat)(vs:List Value):∀(o:Nat)(w:World){cur:Array Value}{e:TypeId}{fz:Nat×Nat},w.heap[b]?=some (.cells cur e fz)->
 ∃Yq,(w.setCells b o vs).heap[b]?=some (.cells Yq e fz)/\Yq.size=cur.size/\∀j,Yq[j]?=if o<=j/\j<o+vs.length/\j<cur.size then vs[j-o]? else cur[j]?:=by
 induction vs with
 |nil=>intro o w cur e fz h;exact⟨cur,h,rfl,λj=>by rw[oIN (by simp;omega)]⟩
 |cons v r ih=>
  intro o w cur e fz h;obtain⟨Yq,h1,h2,h3⟩:=ih (o+1) _ (gc w b o v h);refine⟨Yq,h1,by rw[h2];simp,λj=>?_⟩;rw[h3];simp;by_cases hj:j=o
  ·subst hj;rw[oIN (by omega)];by_cases hs:j<cur.size
   ·rw[oIP (by omega)];simp[hs]
   ·rw[oIN (by omega)];simp[hs]
  ·by_cases hc:o+1<=j/\j<o+1+r.length/\j<cur.size
   ·rw[oIP hc,oIP (by omega)];rw[show j-o=(j-(o+1))+1 by omega];simp
   ·rw[oIN hc,oIN (by omega)];rw[Array.getElem?_setIfInBounds,oIN (Ne.symm hj)]
theorem uS(b:Nat)(vs:List Value):∀(o:Nat)(w:World),w.setCells b o vs={ w with heap:=(w.setCells b o vs).heap }:=by
 induction vs with
 |nil=>intro o w;rfl
 |cons v r ih=>
  intro o w;simp[World.setCells]
  have h:w.setCell ⟨b,o,none⟩ v={ w with heap:=(w.setCell ⟨b,o,none⟩ v).heap }:=by
   unfold World.setCell
   simp_all
  rw[ih];rw[h]
def eC(w W:World)(b:Nat):World:=match w.heap[b]? with|some x=>{ W with heap:=W.heap.setIfInBounds b x } |none=>W
theorem ml{w W:World}{b k:Nat}(h:k≠b):(eC w W b).heap[k]?=W.heap[k]?:=by
 unfold eC;split
 ·simp[Ne.symm h]
 ·rfl
theorem po{w W:World}{b:Nat}(h:b<W.heap.size)(h2:b<w.heap.size):(eC w W b).heap[b]?=w.heap[b]?:=by
 unfold eC
 simp_all
theorem jm{w W:World}{b:Nat}:(eC w W b).heap.size=W.heap.size:=by
 unfold eC
 grind
theorem pT{w W:World}{b:Nat}:(eC w W b).os=W.os/\(eC w W b).tape=W.tape/\(eC w W b).output=W.output/\(eC w W b).drawn=W.drawn:=by
 unfold eC
 grind
theorem qr{w W:World}{b o:Nat}{vs:List Value}{cur0 cur:Array Value}{e:TypeId}{fz:Nat×Nat}(h0:w.heap[b]?=some (.cells cur0 e fz))(h1:W.heap[b]?=some (.cells cur e fz))(hs:cur.size=cur0.size)
 (UW:∀j,(j<o\/o+vs.length<=j)->cur[j]?=cur0[j]?)(hin:∀j (h:j<vs.length),cur[o+j]?=some vs[j]):(eC w W b).setCells b o vs=W:=by
 have hbW:=(Array.getElem?_eq_some_iff.1 h1).1;have Tr:=(Array.getElem?_eq_some_iff.1 h0).1;rw[uS];obtain⟨r1,r2,r3,r4⟩:=pT (w:=w) (W:=W) (b:=b)
 have Yk:((eC w W b).setCells b o vs).heap=W.heap:=by
  apply Array.ext_getElem?;intro k;by_cases hk:k=b
  ·subst hk;obtain⟨Yq,e1,e2,e3⟩:=sV k vs o (eC w W k) ((po hbW Tr).trans h0);rw[e1,h1];congr 2;apply Array.ext_getElem?;intro j;rw[e3];split
   ·rename_i hj;have:=hin (j-o) (by omega)
    simp_all
   ·rename_i hj;by_cases hjs:j<cur0.size
    ·exact(UW j (by omega)).symm
    ·simp_all
  ·rw[pi b vs o _ hk,ml hk]
 simp_all
end
structure Dp (H:List TV)(xs:List Value)(w:World)(G:Gh)(A:Nat->Prop)(pr:Nat->Option (Nat×Nat×Nat))(bs:Nat->Nat)(ce:List (Nat×List TV))(ow:Nat->Option Nat):Prop where
 even:∀r b o n,pr r=some (b,o,n)->r%2=0/\0<n
 cells:∀r b o n,pr r=some (b,o,n)->∃l,bt ce r=some l/\l.length=n/\∀j (h:j<l.length),∃h':bs r+j<H.length,l[j]=H[bs r+j]/\l[j]≠.dead
 only:∀r l,bt ce r=some l->pr r≠none\/ow r≠none
 owc:∀r j,ow r=some j->r%2=1/\r≠1/\∃(c:List (List TV))(h:j<H.length),bt ce r=some [.ow c]/\H[j]=.ow c
 owa:∀r j r' b o n,ow r=some j->pr r'=some (b,o,n)->∀j',j'<n->bs r'+j'≠j
 owi:∀r r' j,ow r=some j->ow r'=some j->r=r'
 apart:∀r b o n r' b' o' n',pr r=some (b,o,n)->pr r'=some (b',o',n')->∀j j',j<n->j'<n'->bs r+j=bs r'+j'->r=r'
 inj:∀r b o n r' o' n',pr r=some (b,o,n)->pr r'=some (b,o',n')->r=r'
 notF:∀r b o n,pr r=some (b,o,n)->¬G.F A b
 notH:∀r b o n,pr r=some (b,o,n)->∀j,¬G.φ 1 j b
 here:∀r b o n,pr r=some (b,o,n)->∀j,j<n->w.cell? ⟨b,o+j,none⟩=some (xs.getD (bs r+j) undef)/\w.frozen? ⟨b,o+j,none⟩=false
def Fm.into(M:Fm)(w:World)(G:Gh)(pr:Nat->Option (Nat×Nat×Nat))(N:Nat):Fm where
 w0:=w
 A:=λk=>G.F M.A k\/(∃j,G.φ 1 j k)\/w.heap.size<=k
 W0:=λk=>∃j,G.φ 1 j k
 pr:=pr
 N:=N
 hA:=λk h=>.inr (.inr h)
def Gh.into(G:Gh)(pr:Nat->Option (Nat×Nat×Nat))(bs:Nat->Nat)(ow:Nat->Option Nat)(xs:List Value):Gh:=
 ⟨pr,λr _=>match ow r with|some j=>xs.getD j undef|none=>undef,λr o k=>(∃b o0 n,pr r=some (b,o0,n)/\o<n/\G.φ 1 (bs r+o) k)\/∃j,ow r=some j/\o=0/\G.φ 1 j k⟩
theorem fT{G:Gh}{pr:Nat->Option (Nat×Nat×Nat)}{bs:Nat->Nat}{ow:Nat->Option Nat}{xs:List Value}{r o k:Nat}(h:(G.into pr bs ow xs).φ r o k):∃j,G.φ 1 j k:=by
 rcases h with⟨_,_,_,_,_,h⟩|⟨_,_,_,h⟩<;>exact⟨_,h⟩
section
variable {P:Program} {M:Fm} {σ σ':St} {H:List TV} {xs:List Value} {ts:Array Value} {w:World} {G:Gh}
variable {pr:Nat->Option (Nat×Nat×Nat)} {bs:Nat->Nat} {ce:List (Nat×List TV)} {ow:Nat->Option Nat}
theorem Dp.F(hh:Dp H xs w G M.A pr bs ce ow){N k:Nat}(h:G.F M.A k):(G.into pr bs ow xs).F (M.into w G pr N).A k:=
 ⟨.inl h,λr o hφ=>by have ⟨j,h3⟩:=fT hφ;exact h.2.1 _ _ h3,λr b o n hb e=>hh.notF r b o n hb (e▸h)⟩
theorem mC{w:World}{b o:Nat}{v:Value}(h:w.cell? ⟨b,o,none⟩=some v):∃cur e fz,w.heap[b]?=some (.cells cur e fz)/\o<cur.size/\cur[o]?=some v:=by
 unfold World.cell? at h;split at h
 ·rename_i cur e fz hb
  grind
 ·simp at h
theorem Inv.enter(hI:Inv M σ H xs ts w G)(hh:Dp H xs w G M.A pr bs ce ow){tm:List (Nat×TV)}{Xy:Array Value}{N:Nat}(hN:Xy.size=N)
 (ht:∀i,TmR w ((G.into pr bs ow xs).F (M.into w G pr N).A) (λ_=>0) (bv (M.into w G pr N) ⟨tm,ce,[]⟩ []) (G.into pr bs ow xs) ((bt tm i).getD .dead) (Xy.getD i undef)):
 Inv (M.into w G pr N) ⟨tm,ce,[]⟩ [] [] Xy w (G.into pr bs ow xs):=by
 have XB:∀r b o n,pr r=some (b,o,n)->r≠1:=λr b o n h e=>by have:=(hh.even r b o n h).1;omega
 have Yz:∀r b o n,pr r=some (b,o,n)->ow r=none:=λr b o n h=>by
  cases e:ow r with
  |none=>rfl
  |some j=>have:=(hh.even r b o n h).1;have:=(hh.owc r j e).1;omega
 have hne:∀r l,bt ce r=some l->r≠1:=by
  intro r l h;rcases hh.only r l h with h1|h1
  ·cases hp:pr r with
   |none=>exact absurd hp h1
   |some x=>exact XB r _ _ _ hp
  ·cases hp:ow r with
   |none=>exact absurd hp h1
   |some j=>exact(hh.owc r j hp).2.1
 have hcell:∀r o,bv (M.into w G pr N) ⟨tm,ce,[]⟩ [] r o=match bt ce r with|some l=>l.getD o .dead|none=>.dead:=by
  intro r o;unfold bv;split
  ·rename_i e
   cases hc:bt ce r with
   |none=>simp
   |some l=>exact absurd e (hne r l hc)
  ·rfl
 refine⟨⟨λr o=>?_,λr b o0 n hb=>?_,λr b o0 n hb o ho=>?_,λr r' b o n o' n' h1 h2=>hh.inj r b o n r' o' n' h1 h2,λr b o n hb r' o' hφ=>by obtain⟨j,h3⟩:=fT hφ;exact hh.notH r b o n hb _ h3,λr1 o1 r2 o2 k Yf XJ=>?_,λr o k hφ=>.inr (.inl (fT hφ))⟩,ht,?_,λr l h=>hne r l h,hN,rfl,λj hj=>by simp at hj,λr b o n hb l hl=>?_⟩
 ·rw[hcell]
  cases hc:bt ce r with
  |none=>
   left;refine⟨rfl,λk hk=>?_⟩
   rcases hk with⟨b1,p1,n1,h1,h2,h3⟩|⟨j,h1,_⟩
   ·obtain⟨l,h4,_⟩:=hh.cells r _ _ _ h1;rw[hc]at h4;simp at h4
   ·obtain⟨_,_,c,_,h4,_⟩:=hh.owc r j h1;rw[hc]at h4;simp at h4
  |some l=>
   cases hp:pr r with
   |none=>
    obtain⟨j,hj⟩:∃j,ow r=some j:=by
     rcases hh.only r l hc with h1|h1
     ·exact absurd hp h1
     ·cases e:ow r with
      |none=>exact absurd e h1
      |some j=>exact⟨j,rfl⟩
    obtain⟨_,_,c,hjl,h4,h5⟩:=hh.owc r j hj;rw[hc]at h4
    injection h4 with h4
    subst h4
    cases o with
    |zero=>
     right;have hown:=hI.hand_own hjl (by rw[h5];simp)
     have hval:(G.into pr bs ow xs).val w r 0=xs.getD j undef:=by
      unfold Gh.val Gh.into;simp only[hp,hj]
     rw[hval];simp only[List.getD_cons_zero];rw[h5]at hown;refine(hown.frame (λ_ _=>rfl) (λ_ _ _=>rfl) λk hk _=>hh.F hk).refp λk=>?_;constructor
     ·intro hk;exact .inr ⟨j,hj,rfl,hk⟩
     ·rintro(⟨b1,p1,n1,h1,_,_⟩|⟨j',h1,_,hk⟩)
      ·rw[hp]at h1;simp at h1
      ·rw[hj]at h1;injection h1 with h1;rw[h1];exact hk
    |succ o=>
     left;refine⟨by simp,λk hk=>?_⟩
     rcases hk with⟨b1,p1,n1,h1,_,_⟩|⟨j',_,h1,_⟩
     ·rw[hp]at h1;simp at h1
     ·omega
   |some x=>
    obtain⟨b,o0,n⟩:=x;obtain⟨l',h4,h5,h6⟩:=hh.cells r _ _ _ hp;rw[hc]at h4
    injection h4 with h4
    subst h4;by_cases ho:o<l.length
    ·right;obtain⟨h7,h8,h9⟩:=h6 o ho;have hown:=hI.hand_own h7 (by rw[<- h8];exact h9)
     have hval:(G.into pr bs ow xs).val w r o=xs.getD (bs r+o) undef:=by
      unfold Gh.val Gh.into;simp only[hp];rw[(hh.here r _ _ _ hp o (by omega)).1];rfl
     rw[hval]
     have e:l.getD o .dead=l[o]:=by simp[ho]
     simp only[e];rw[h8];refine(hown.frame (λ_ _=>rfl) (λ_ _ _=>rfl) λk hk _=>hh.F hk).refp λk=>?_;constructor
     ·intro hk;exact .inl ⟨b,o0,n,hp,by omega,hk⟩
     ·rintro(⟨_,_,_,_,_,hk⟩|⟨j',h1,_,_⟩)
      ·exact hk
      ·rw[Yz r _ _ _ hp]at h1;simp at h1
    ·left;refine⟨by simp only[];rw[oGD,oGN (by omega)];rfl,λk hk=>?_⟩
     rcases hk with⟨b1,p1,n1,h1,h2,h3⟩|⟨j',h1,_,_⟩
     ·rw[hp]at h1
      injection h1 with h1
      injection h1 with _ h1
      injection h1 with _ h1
      omega
     ·rw[Yz r _ _ _ hp]at h1;simp at h1
 ·have hn:=(hh.even r _ _ _ hb).2;have YN:pr r=some (b,o0,n):=hb;obtain⟨cur,e,fz,h1,h2,h3⟩:=mC (hh.here r _ _ _ YN (n-1) (by omega)).1;exact⟨cur,e,fz,h1,by omega,λj hj=>(hh.here r _ _ _ YN j hj).2⟩
 ·have YN:pr r=some (b,o0,n):=hb;rw[hcell];obtain⟨l,h1,h2,_⟩:=hh.cells r _ _ _ YN;rw[h1];show l.getD o .dead=.dead;rw[oGD,oGN (by omega)];rfl
 ·rcases Yf with⟨b1,p1,n1,h1,h2,h3⟩|⟨j1,h1,h2,h3⟩<;>rcases XJ with⟨b2,p2,n2,k1,k2,k3⟩|⟨j2,k1,k2,k3⟩
  ·obtain⟨_,h5⟩:=hI.core.dis _ _ _ _ k h3 k3;have:=hh.apart _ _ _ _ _ _ _ _ h1 k1 _ _ h2 k2 h5;subst this;exact⟨rfl,by omega⟩
  ·obtain⟨_,h5⟩:=hI.core.dis _ _ _ _ k h3 k3;exact absurd h5 (hh.owa _ _ _ _ _ _ k1 h1 _ h2)
  ·obtain⟨_,h5⟩:=hI.core.dis _ _ _ _ k h3 k3;exact absurd h5.symm (hh.owa _ _ _ _ _ _ h1 k1 _ k2)
  ·obtain⟨_,h5⟩:=hI.core.dis _ _ _ _ k h3 k3;subst h5;exact⟨hh.owi _ _ _ h1 k1,by omega⟩
 ·refine⟨rfl,rfl,rfl,Nat.le_refl _,λ_ _ _ _=>rfl,λr b o n hp=>⟨hp,?_⟩,λr o k hφ=>.inl (fT hφ),λr b o n hb=>.inl hb,λr hb=>?_⟩
  ·have hn:=(hh.even r _ _ _ hp).2;obtain⟨cur,e,fz,h1,h2,h3⟩:=mC (hh.here r _ _ _ hp (n-1) (by omega)).1;exact⟨cur,cur,e,fz,h1,h1,rfl,λ_ _=>rfl⟩
  ·cases hp:pr r with
   |none=>exact absurd hp hb
   |some x=>exact(hh.even r _ _ _ hp).1
 ·obtain⟨l',h1,h2,_⟩:=hh.cells r _ _ _ hb;have X':bt ce r=some l:=hl;rw[X']at h1
  injection h1 with h1
  rw[h1];exact h2
end
structure IS (H2:List TV)(ys:List Value)(H':List TV)(xs':List Value)(C2:Cs)(G2:Gh)(w2:World)(pr:Nat->Option (Nat×Nat×Nat))(bs:Nat->Nat):Prop where
 len:H'.length=xs'.length
 low:∀j (h:j<H2.length),∃h':j<H'.length,H'[j]=H2[j]/\xs'.getD j undef=ys.getD j undef
 cells:∀r b o n,pr r=some (b,o,n)->∀t,t<n->∃h:bs r+t<H'.length,H2.length<=bs r+t/\H'[bs r+t]=C2 r t/\xs'.getD (bs r+t) undef=G2.val w2 r t
 cover:∀j,j<H'.length->j<H2.length\/∃r b o n t,pr r=some (b,o,n)/\t<n/\j=bs r+t
 apart:∀r b o n r' b' o' n',pr r=some (b,o,n)->pr r'=some (b',o',n')->∀j j',j<n->j'<n'->bs r+j=bs r'+j'->r=r'
section
variable {P:Program} {M:Fm} {σ σ2:St} {H H2 H':List TV} {xs ys xs':List Value} {ts ts2:Array Value} {w w2 w':World} {G G2:Gh}
variable {pr:Nat->Option (Nat×Nat×Nat)} {bs bs2:Nat->Nat} {ce:List (Nat×List TV)} {N:Nat} {ow:Nat->Option Nat}
theorem Inv.leave(hI:Inv M σ H xs ts w G)(hh:Dp H xs w G M.A pr bs ce ow)(h2:Inv (M.into w G pr N) σ2 H2 ys ts2 w2 G2)(Z':IS H2 ys H' xs' (bv (M.into w G pr N) σ2 H2) G2 w2 pr bs2)
 (hs:w'.heap.size=w2.heap.size)(ho:w'.os=w2.os)(htp:w'.tape=w2.tape)(hu:w'.output=w2.output)(YH:∀k,(∀r b o n,pr r=some (b,o,n)->k≠b)->w'.heap[k]?=w2.heap[k]?)
 (Yi:∀r b o n,pr r=some (b,o,n)->w'.heap[b]?=w.heap[b]?):∃G',Inv M σ H' xs' ts w' G'/\gl M w σ H G w' σ H' G'/\G'.β=G.β:=by
 have WT:=h2.fram
 let f:Nat->Nat->Prop:=λj k=>(j<H2.length/\G2.φ 1 j k)\/∃r b o n t,pr r=some (b,o,n)/\t<n/\j=bs2 r+t/\G2.φ r t k
 have hfφ:∀j k,f j k->∃r o,G2.φ r o k:=by
  rintro j k (⟨_,h⟩|⟨r,b,o,n,t,_,_,_,h⟩)
  ·exact⟨_,_,h⟩
  ·exact⟨_,_,h⟩
 have hβ2:=λr b o n h=>(WT.par r b o n h).1
 have Z4:∀r b o n,pr r=some (b,o,n)->r≠1:=λr b o n h e=>by have:=(hh.even r b o n h).1;omega
 have hφw:∀r o k,G2.φ r o k->w'.heap[k]?=w2.heap[k]?:=λr o k h=>YH k λr' b o' n hp e=>h2.core.boxf r' b o' n (hβ2 _ _ _ _ hp) _ _ (e▸h);have XU:∀k,G2.F (M.into w G pr N).A k->w'.heap[k]?=w2.heap[k]?:=λk h=>YH k λr' b o' n hp e=>h.2.2 r' b o' n (hβ2 _ _ _ _ hp) e
 obtain⟨G',a1,a2,a3,_⟩:=hI.rehandL (w':=w') (H':=H') (xs':=xs') (f:=f) (Fx:=G2.F (M.into w G pr N).A)
  (λk hk hn=>by
   by_cases hp:∃r b o n,pr r=some (b,o,n)/\k=b
   ·obtain⟨r,b,o,n,hp,rfl⟩:=hp;exact Yi r k o n hp
   ·have hp':∀r b o n,pr r=some (b,o,n)->k≠b:=λr b o n h e=>hp ⟨r,b,o,n,h,e⟩;rw[YH k hp']
    exact WT.old k hk (λ⟨j,hj⟩=>hn j hj) hp')
  (by rw[hs];exact WT.size) (ho.trans WT.os) (htp.trans WT.tape) (hu.trans WT.output) Z'.len
  (λj k h=>by
   refine⟨?_,?_⟩
   ·rcases h with⟨h,_⟩|⟨r,b,o,n,t,hp,ht,rfl,_⟩
    ·exact(Z'.low j h).1
    ·exact(Z'.cells r b o n hp t ht).1
   ·obtain⟨r,o,hφ⟩:=hfφ j k h
    exact WT.own r o k hφ)
  (λj j' k h h'=>by
   rcases h with⟨h1,h3⟩|⟨r,b,o,n,t,hp,ht,rfl,h3⟩
   ·rcases h' with⟨k1,k3⟩|⟨r',b',o',n',t',hp',YQ,rfl,k3⟩
    ·exact(h2.core.dis _ _ _ _ k h3 k3).2
    ·exact absurd (h2.core.dis _ _ _ _ k h3 k3).1.symm (Z4 _ _ _ _ hp')
   ·rcases h' with⟨k1,k3⟩|⟨r',b',o',n',t',hp',YQ,rfl,k3⟩
    ·exact absurd (h2.core.dis _ _ _ _ k h3 k3).1 (Z4 _ _ _ _ hp)
    ·obtain⟨e1,e2⟩:=h2.core.dis _ _ _ _ k h3 k3
     rw[e1,e2])
  (λk h=>⟨h.1,λj hf=>by obtain⟨r,o,hφ⟩:=hfφ j k hf;exact h.2.1 r o hφ⟩)
  (λj hj=>by
   rcases Z'.cover j hj with h|⟨r,b,o,n,t,hp,ht,rfl⟩
   ·obtain⟨_,e1,e2⟩:=Z'.low j h
    have Yz:∀k,f j k↔G2.φ 1 j k:=λk=>by
     constructor
     ·rintro(⟨_,h⟩|⟨r,b,o,n,t,hp,ht,e,_⟩)
      ·exact h
      ·have:=(Z'.cells r b o n hp t ht).2.1;omega
     ·exact λhk=>.inl ⟨h,hk⟩
    by_cases hd:H2[j]=.dead
    ·left;refine⟨e1.trans hd,λk hk=>?_⟩;refine h2.phi_dead (r:=1) (o:=j) ?_ k ((Yz k).1 hk);rw[show(1:Nat)=(M.into w G pr N).hr from rfl,i7];simp[h,hd]
    ·right;have:=h2.hand_own h hd;rw[e1,e2];exact(this.frame (λk hk=>hφw _ _ k hk) (λk hk _=>XU k hk) λk hk _=>hk).refp λk=>(Yz k).symm
   ·obtain⟨h1,h3,h4,h5⟩:=Z'.cells r b o n hp t ht
    have Yz:∀k,f (bs2 r+t) k↔G2.φ r t k:=λk=>by
     constructor
     ·rintro(⟨h,_⟩|⟨r',b',o',n',t',hp',YQ,e,hk⟩)
      ·omega
      ·have:=Z'.apart _ _ _ _ _ _ _ _ hp hp' _ _ ht YQ e
       simp_all
     ·exact λhk=>.inr ⟨r,b,o,n,t,hp,ht,rfl,hk⟩
    rw[h4,h5]
    rcases h2.core.cell r t with⟨c1,c2⟩|c1
    ·left;exact⟨c1,λk hk=>c2 k ((Yz k).1 hk)⟩
    ·right
     exact(c1.frame (λk hk=>hφw _ _ k hk) (λk hk _=>XU k hk) λk hk _=>hk).refp λk=>(Yz k).symm)
 exact⟨G',a1,a2,a3⟩
end
def mJ:TV->Bool
 |.v _=>true
 |.sl _=>true
 |.ip _=>true
 |.ow []=>true
 |.fn _ l=>l.all zx
 |.agg l=>l.all λt=>match t with|.v _=>true|.sl _=>true|_=>false
 |_=>false
def LS:TV->Bool
 |.pk _ _=>true
 |.ow []=>true
 |_=>false
def argV(x:Option Nat×Opd):SP TV:=(opd x.2).bind λt=>if x.1==some 0&&LS t then .ret t else match t with
 |.ip cs=>.ret (.ip cs)
 |.fn f cap=>.ret (.fn f cap)
 |.ptr p vs=>.ret (.ptr p vs)
 |t=>(takeV false t).bind λl=>.ret (kZ l.2 (l.1.map TV.imm))
def argVs:List (Option Nat×Opd)->SP (List TV)
 | []=>.ret []
 |x::r=>(argV x).bind λt=>(argVs r).bind λl=>.ret (t::l)
def takeOwns:Nat->List (Option Nat×TV)->SP (List (Nat×TV))
 |_,[]=>.ret []
 |i,(some 0,.pk p vs)::r=>(take1 true (.pk p vs)).bind λt=>if jd t then(takeOwns (i+1) r).bind λq=>.ret ((i,t)::q)else .fail
 |i,_::r=>takeOwns (i+1) r
structure GP where
 i:Nat
 p:bi
 vs:List Nat
 cells:List TV
def xJ(p:bi):Nat->SP (List TV)
 |0=>.ret []
 |n+1=>(getPl p).bind λt=>(peek1 p t).bind λt'=>(take1 true t').bind λt2=>match n with
  |0=>.ret [t2]
  |_=>if p.fits 1 then(xJ (p.add 1) n).bind λr=>.ret (t2::r)else .fail
def bi.base(p:bi):bi:=⟨p.root,p.off,[]⟩
def J6(p:bi)(n:Nat):Nat:=match p.hops with
 | []=>n
 |_::_=>1
def rooted(p:bi):SP Unit:=match p.hops with
 | []=>.ret ()
 |_::_=>.rdT ((p.root-2)/2) λt=>match t with
  |.ptr q ws=>if q.root==p.root&&q.hops.isEmpty then chk q 0 ws else .fail
  |_=>.fail
def grabs:Nat->List (Option Nat×TV)->SP (List GP)
 |_,[]=>.ret []
 |i,(some n,.ptr p vs)::r=>(chk p p.hops.length vs).bind λ_=>(rooted p).bind λ_=>(xJ p.base (J6 p n)).bind λl=>(grabs (i+1) r).bind λq=>.ret (⟨i,p.base,vs.take 1,l⟩::q)
 |i,(some 0,.pk _ _)::r=>grabs (i+1) r
 |i,(_,t)::r=>if mJ t then grabs (i+1) r else .fail
def touch(p:bi):SP Unit:=.rdC p.root p.off λtv=>.wrC p.root p.off tv (.ret ())
def rechk:List GP->SP Unit
 | []=>.ret ()
 |g::r=>(chk g.p g.p.hops.length g.vs).bind λ_=>(touch g.p).bind λ_=>rechk r
def jp:List Nat->Bool
 | []=>true
 |x::r=>!r.contains x&&jp r
def argT(i:Nat):TV->TV
 |.ptr p _=>.ptr ⟨2*i+2,0,p.hops⟩ (List.replicate (p.hops.length+1) 0)
 |.pk _ _=>.pk ⟨2*i+3,0,[]⟩ [0,0]
 |t=>t
def argTs:Nat->List TV->List TV
 |_,[]=>[]
 |i,t::r=>argT i t::argTs (i+1) r
def dF{α:Type}:Nat->List α->List (Nat×α)
 |_,[]=>[]
 |i,t::r=>(i,t)::dF (i+1) r
def mkSt(vals:List TV)(pts:Pts):St:=⟨dF 0 vals,pts,[]⟩
def Bg:TV->Bool
 |.dead=>true
 |_=>false
def putBack:List (GP×List TV)->SP Unit
 | []=>.ret ()
 |(g,l)::r=>(putBack r).bind λ_=>if l.length=g.cells.length&&l.all λt=>!Bg t then putL g.p l else .fail
def fN:List RSh->List TV->List TV
 | [],_=>[]
 |.one::r,l=>l.headD .dead::fN r l.tail
 |.agg n::r,l=>.agg (l.take n)::fN r (l.drop n)
 |.ptr::r,l=>.dead::fN r l
def nP(sh:List RSh)(l:List TV):TV:=
 match fN sh l with
 | [x]=>x
 |l=>.tup l
def lI:List RSh->Nat->Bool
 | [],n=>n==0
 |.one::r,n=>decide (0<n)&&lI r (n-1)
 |.agg m::r,n=>decide (m<=n)&&lI r (n-m)
 |.ptr::_,_=>false
def landR(dst:Option Nat)(res:sR):SP Unit:=
 match dst with
 |some d=>(names d res.cells).bind λl=>wr d (nP res.sh l)
 |none=>.ret ()
def isP(r:sR):Bool:=match r.sh,r.cells with
 |.ptr::_,.ptr _ _::_=>true
 |_,_=>false
def landP(dst:Option Nat)(q:List GP)(cells:List TV):SP Unit:=
 match dst with
 |none=>.ret ()
 |some d=>match cells,q with
  |.ptr pl _::l,[g]=>if pl.root==2*g.i+2&&g.p.hops.isEmpty then(rdVs (lM g.p.root (g.p.off+pl.off) pl.hops.length)).bind λvs=>wr d (AT (.ptr ⟨g.p.root,g.p.off+pl.off,pl.hops⟩ vs) l)else .fail
  |_,_=>.fail
def callV(F:cj)(dst:Option Nat)(f:FuncId)(ns:List (Option Nat))(vals:List TV):SP Unit:=
 (takeOwns 0 (ns.zip vals)).bind λow=>(grabs 0 (ns.zip vals)).bind λq=>(rechk q).bind λ_=>
  if jp (q.map (·.p.root))&&q.all (λg=>decide (0<g.cells.length))then
   (gn (F f (argTs 0 vals) (q.map (λg=>(2*g.i+2,g.cells))++ow.map λx=>(2*x.1+3,[x.2])))).bind λr=>
    if r.2.map (·.1)=q.map (λg=>2*g.i+2)++ow.map (λx=>2*x.1+3)&&(isP r.1||lI r.1.sh r.1.cells.length)then(putBack (q.zip (r.2.map (·.2)))).bind λ_=>if isP r.1 then landP dst q r.1.cells else landR dst r.1 else .fail
  else .fail
inductive BxC where
 |arg (i:Nat)
 |val (x:Value)
structure Env where
 box:FuncId->Option (Nat×List BxC)
 ps:FuncId->List (Option Nat)
def bxT(vals:List TV):BxC->TV
 |.arg i=>vals.getD i .dead
 |.val x=>.v x
def bxV(asq:List Value):BxC->Value
 |.arg i=>asq.getD i undef
 |.val x=>x
def evBox(dst:Option Nat)(tm:List BxC)(vals:List TV):SP Unit:=
 match dst with
 |some d=>(takeL false (tm.map (bxT vals))).bind λl=>.new (2*d+2) l (.rdV (2*d+2,0,0) λg=>wr d (.ptr ⟨2*d+2,0,[]⟩ [g]))
 |none=>.fail
def H7(E:Env)(f:FuncId)(n m:Nat):List (Option Nat):=(List.range m).map λk=>(E.ps f).getD (n+k) none
def see1:TV->SP TV
 |.v x=>.ret (.v x)
 |.sl c=>.ret (.sl c)
 |.ow []=>.ret (.sl [])
 |.pk p vs=>(chk p (p.hops.length+1) vs).bind λ_=>.rdC p.root p.off λtv=>match bp tv p.hops with|some (.ow c)=>.ret (TV.ow c).imm|_=>.fail
 |_=>.fail
def seeL:List TV->SP (List TV)
 | []=>.ret []
 |t::r=>(see1 t).bind λt'=>(seeL r).bind λl=>.ret (t'::l)
def seeA:TV->SP TV
 |.agg l=>(seeL l).bind λl'=>.ret (.agg l')
 |.ip cs=>.ret (.ip cs)
 |.fn f cap=>if cap.all zx then .ret (.fn f cap)else .fail
 |t=>see1 t
def seeAs:List Opd->SP (List TV)
 | []=>.ret []
 |x::r=>(opd x).bind λt=>(seeA t).bind λt'=>(seeAs r).bind λl=>.ret (t'::l)
def callB(F:cj)(dst:Option Nat)(f:FuncId)(vals:List TV):SP Unit:=
 (gn (F f vals [])).bind λr=>if r.2.length=0&&r.1.cells.all yA&&lI r.1.sh r.1.cells.length then(match dst with|some d=>wr d (nP r.1.sh r.1.cells)|none=>.ret ())else .fail
def evCall(E:Env)(F:cj)(dst:Option Nat):TOp->SP Unit
 |.call k (.f f) args=>
  if k then(argVs args).bind λvals=>match E.box f with
   |some x=>if vals.length=x.1 then evBox dst x.2 vals else .fail
   |none=>callV F dst f (args.map (·.1)) vals
  else(seeAs (args.map (·.2))).bind λvals=>callB F dst f vals
 |.call _ (.t i) args=>.rdT i λt=>match t with
  |.fn f caps=>(argVs args).bind λvals=>callV F dst f (args.map (·.1)++H7 E f args.length caps.length) (vals++caps)
  |_=>.fail
 |_=>.fail
section
variable {P:Program} {M:Fm} {σ σ':St} {H:List TV} {xs:List Value} {ts:Array Value} {w:World} {G:Gh} {a:Act} {o:Oper}
theorem Kb(hI:Inv M σ [] [] a.tmps w G){x:Option Nat×Opd}{x':Operand}(hx:aZ x'=some x.2){t:TV}(hr:(argV x).run σ=some (t,σ')):
 ∃G',iJ M w a.tmps σ [] G σ' [] [] G'/\TmR w (G'.F M.A) σ'.v (bv M σ' []) G' t (a.eval x'):=by
 unfold argV at hr;obtain⟨t0,σ1,h1,h2⟩:=aS hr;obtain⟨rfl,ht⟩:=bP hI.tmr hx h1
 have UB:∀(l:List TV×Bool)(σ2:St),(takeV false t0).run σ1=some (l,σ2)->t=kZ l.2 (l.1.map TV.imm)->σ'=σ2->∃G',iJ M w a.tmps σ1 [] G σ' [] [] G'/\TmR w (G'.F M.A) σ'.v (bv M σ' []) G' t (a.eval x'):=by
  rintro l σ2 h3 rfl rfl;obtain⟨xs,G1,hg,hsh,hok,Zr⟩:=AA hI ht h3;obtain⟨G2,ZH,ZG⟩:=hg.1.dropImm (pN hok);refine⟨G2,hg.trans ZH,?_⟩;have hlen:=hg.1.hand
  rcases hsh with⟨e1,e2⟩|⟨e1,y,e2,e3⟩
  ·rw[e1,e2];simp only[kZ,if_true];refine .agg (by simp[hlen]) λj hj=>?_
   have ZT:j<l.1.length:=by simpa using hj
   have:=ZG j ZT;simp only[List.getElem_map]
   have e:xs.toArray.getD j undef=xs.getD j undef:=by simp
   rw[e];exact this.toTm
  ·rw[e1,e3];subst e2
   have TG:l.1.length=1:=by simpa using hlen
   obtain⟨t1,U2⟩:∃t1,l.1=[t1]:=List.length_eq_one_iff.1 TG;have:=ZG 0 (by omega);simp only[U2,List.getElem_cons_zero,List.getD_cons_zero]at this;simp only[U2,kZ,List.map_cons,List.map_nil,List.headD_cons];exact this.toTm
 have XR:t=t0->σ'=σ1->∃G',iJ M w a.tmps σ1 [] G σ' [] [] G'/\TmR w (G'.F M.A) σ'.v (bv M σ' []) G' t (a.eval x'):=by
  rintro rfl rfl;exact⟨G,iJ.refl hI,ht⟩
 split at h2
 ·simp only[SP.run,oSJ,oPJ]at h2;exact XR h2.1.symm h2.2.symm
 cases t0 with
 |ip cs=>
  simp only[SP.run,oSJ,oPJ]at h2;exact XR h2.1.symm h2.2.symm
 |fn f cap=>
  simp only[SP.run,oSJ,oPJ]at h2;exact XR h2.1.symm h2.2.symm
 |ptr p vs=>
  simp only[SP.run,oSJ,oPJ]at h2;exact XR h2.1.symm h2.2.symm
 |_=>
  simp only at h2;obtain⟨l,σ2,h3,h4⟩:=aS h2;simp only[SP.run,oSJ,oPJ]at h4;exact UB l σ2 h3 h4.1.symm h4.2.symm
theorem BH:∀{l:List (Option Nat×Opd)}{l':List Operand}{Xy:List TV}{σ σ':St}{G:Gh},Inv M σ [] [] a.tmps w G->l'.length=l.length->(∀j (h:j<l.length)(h':j<l'.length),aZ l'[j]=some l[j].2)->(argVs l).run σ=some (Xy,σ')->
 ∃G',iJ M w a.tmps σ [] G σ' [] [] G'/\Xy.length=l.length/\∀j (h:j<Xy.length)(h':j<l'.length),TmR w (G'.F M.A) σ'.v (bv M σ' []) G' Xy[j] (a.eval l'[j]):=by
 intro l
 induction l with
 |nil=>
  intro l' Xy σ σ' G hI hl hc hr;obtain⟨rfl,rfl⟩:=hr;exact⟨G,iJ.refl hI,rfl,λj h=>by simp at h⟩
 |cons x l ih=>
  intro l' Xy σ σ' G hI hl hc hr
  cases l' with
  |nil=>simp at hl
  |cons x' l'=>
   simp only[argVs]at hr;obtain⟨t,σ1,h1,h2⟩:=aS hr;obtain⟨r,σ2,h3,h4⟩:=aS h2;obtain⟨rfl,rfl⟩:=h4;obtain⟨G1,Z0,U2⟩:=Kb hI (by have:=hc 0 (by simp) (by simp);simpa using this) h1;obtain⟨G2,ZH,e,Sk⟩:=ih (l':=l') Z0.1 (by simpa using hl) (λj h h'=>by have:=hc (j+1) (by simpa using h) (by simp_all);simpa using this) h3;refine⟨G2,Z0.trans ZH,by simp[e],λj h h'=>?_⟩
   cases j with
   |zero=>exact ZH.tm U2
   |succ j=>exact Sk j (by simpa using h) (by simp_all)
end
section
variable {P:Program} {M:Fm} {σ σ':St} {H:List TV} {xs:List Value} {ts:Array Value} {w:World} {G:Gh} {a:Act} {o:Oper}
theorem BS{t t' t2:TV}{p:bi}{y:TV×St}(hp:(peek1 p t).run σ=some (t',σ'))(hr:(take1 true t').run σ=some y):fU y.2.v p.root p.off p.hops.length=fU σ.v p.root p.off p.hops.length:=by
 cases t with
 |v x=>
  obtain⟨rfl,rfl⟩:=hp;simp only[take1,SP.run,oSJ]at hr;rw[<- hr]
 |sl c=>
  obtain⟨rfl,rfl⟩:=hp;simp only[take1,SP.run,oSJ]at hr;rw[<- hr]
 |ow c=>
  simp only[peek1]at hp;obtain⟨vs,σ1,h1,h2⟩:=aS hp;obtain⟨rfl,_⟩:=h2;obtain⟨_,σ2,h3,h4⟩:=aS hr;have e1:σ2=σ:=(bl h3).1;subst e1;simp only[SP.run]at h4;split at h4
  ·simp only[if_true]at h4;obtain⟨l,hl,ho,h5⟩:=bu h4;simp only[SP.run,oSJ]at h5;rw[gC]
   have hv:∀q,y.2.v q=σ2.v q+if(p.root,p.off,p.hops.length+1)=q then 1 else 0:=λq=>by rw[<- h5];exact dI σ2.vr _ q
   refine⟨by simp_all,λd hd=>?_⟩;rw[hv,oIN]
   ·omega
   ·intro e
    simp_all
  ·simp[SP.run]at h4
 |_=>simp[peek1,SP.run]at hp
theorem Hs:∀{n:Nat}{p:bi}{ad:Addr}{l:List TV}{σ σ':St}{H:List TV}{xs:List Value}{G:Gh},Inv M σ H xs ts w G->p.root≠1->G.addr w p=some ad->(xJ p n).run σ=some (l,σ')->
 l.length=n/\∃us G',iJ M w ts σ H G σ' (H++l) (xs++us) G'/\us.length=n/\(∀j (h:j<us.length),w.cell? ⟨ad.block,ad.off+j,none⟩=some us[j]/\w.frozen? ⟨ad.block,ad.off+j,none⟩=false)/\∀j (h:j<l.length),bS l[j]=true\/jd l[j]=true:=by
 intro n
 induction n with
 |zero=>
  intro p ad l σ σ' H xs G hI h1 ha hr;obtain⟨rfl,rfl⟩:=hr;exact⟨rfl,[],G,by simpa using iJ.refl hI,rfl,λj h=>by simp at h,λj h=>by simp at h⟩
 |succ n ih=>
  intro p ad l σ σ' H xs G hI h1 ha hr;simp only[xJ]at hr;obtain⟨t,σ1,h2,h3⟩:=aS hr;obtain⟨e1,hg⟩:=cT h2;have e1:σ1=σ:=e1;subst e1;obtain⟨t',σ2,h4,h5⟩:=aS h3;have hd:=mr h4;obtain⟨hB,u,fp,YT,hown,hv⟩:=hI.named h1 ha hg hd;obtain⟨rfl,YQ⟩:=nY hI h1 hg hown hv h4;obtain⟨t2,σ3,h6,h7⟩:=aS h5;have Xv:=BS (t2:=t2) h4 h6;obtain⟨G1,Z0,Zr⟩:=eE hI YQ h6
  have TC:bp (bv M σ2 H p.root p.off) p.hops=some t:=by rw[bq (by exact h1)];exact hg
  obtain⟨u0,Zt,Zf,hcu0,XC,_⟩:=hI.core.set p hB TC;obtain⟨_,SQ,_⟩:=Z0.2.2.1.ptr p ad t h1 Xv ha TC
  have Y0:(⟨ad.block,ad.off+0,none⟩:Addr)=ad:=by obtain⟨b,o,s⟩:=ad;simp only at Zf;subst Zf;rfl
  have hcell:=gD h6
  cases n with
  |zero=>
   obtain⟨rfl,rfl⟩:=h7;refine⟨rfl,[u],G1,Z0,rfl,λj h=>?_,λj h=>?_⟩
   ·obtain rfl:j=0:=by simp at h;omega
    rw[Y0];exact⟨YT,XC⟩
   ·obtain rfl:j=0:=by simp at h;omega
    exact hcell
  |succ n=>
   simp only at h7;split at h7
   ·obtain⟨r,σ4,h8,h9⟩:=aS h7;obtain⟨rfl,rfl⟩:=h9;obtain⟨e2,us,G2,ZH,e3,e4,e5⟩:=ih Z0.1 (by rw[ct];exact h1) (jv 1 SQ) h8;refine⟨by simp[e2],u::us,G2,by simpa using Z0.trans ZH,by simp[e3],λj h=>?_,λj h=>?_⟩
    ·cases j with
     |zero=>rw[Y0];exact⟨YT,XC⟩
     |succ j=>
      have:=e4 j (by simpa using h);simp only[List.getElem_cons_succ];rw[show ad.off+(j+1)=ad.off+1+j by omega];exact this
    ·cases j with
     |zero=>exact hcell
     |succ j=>exact e5 j (by simpa using h)
   ·simp[SP.run]at h7
theorem CM{r o:Nat}{c:List (List TV)}{l:List TV}(hc:σ.c r o=.ow c)(h:(xJ ⟨r,o,[]⟩ 1).run σ=some (l,σ')):l=[.ow c]:=by
 simp only[xJ]at h;obtain⟨t,σ1,h1,h2⟩:=aS h;obtain⟨e1,hg⟩:=cT h1;subst e1;simp only[hc,bp,oSJ]at hg;subst hg;obtain⟨t',σ2,h3,h4⟩:=aS h2;obtain⟨vs,σ3,h5,h6⟩:=aS h3;obtain⟨rfl,rfl⟩:=h6;rw[qM]at h5
 injection h5 with h5
 injection h5 with _ h5
 subst h5;obtain⟨t2,σ4,h7,h8⟩:=aS h4;simp only[SP.run,oSJ,oPJ]at h8;rw[<- h8.1];obtain⟨_,σ5,h9,ZI⟩:=aS h7;have e2:σ5=σ1:=(bl h9).1;subst e2;simp only[SP.run,hc,bp,if_true]at ZI;split at ZI
 ·simp_all
 ·cases ZI
theorem Ew(hI:Inv M σ H xs ts w G){p:bi}(h:(rooted p).run σ=some ((),σ')):σ'=σ/\(p.hops≠[]->∃b o n,G.β p.root=some (b,o,n)):=by
 obtain⟨r,o,hops⟩:=p
 cases hops with
 |nil=>
  simp only[rooted,SP.run,oSJ,oPJ,true_and]at h
  simp_all
 |cons hp hs=>
  simp only[rooted,SP.run]at h;have ht:=hI.tmr ((r-2)/2)
  cases hq:σ.t ((r-2)/2)with
  |ptr q ws=>
   rw[hq]at h ht;simp only at h;split at h
   ·rename_i hc;simp at hc;have e1:σ'=σ:=(bl h).1;have e2:=(bl h).2;refine⟨e1,λ_=>?_⟩
    cases ht with
    |ptr V0 h0 hv hok=>
     obtain⟨_,ad,t,ha,_,_⟩:=hok (by rw[hc.2];exact e2);unfold Gh.addr at ha;rw[hc.2]at ha;rw[<- hc.1]
     cases hb:G.β q.root with
     |none=>rw[hb]at ha;simp at ha
     |some y=>obtain⟨b,o,n⟩:=y;exact⟨b,o,n,rfl⟩
   ·simp[SP.run]at h
  |_=>rw[hq]at h;simp[SP.run]at h
inductive pR (w:World):Nat->List TV->List Value->List (GP×Addr)->List Value->Prop
 |nil (i:Nat):pR w i [] [] [] []
 |ptr {i:Nat} {p:bi} {hp:List Hop} {vs vs0:List Nat} {cells:List TV} {ad ad0:Addr} {u:List Value} {ts:List TV} {xs:List Value} {K:List (GP×Addr)} {us:List Value} (hr:p.root≠1) (hb:p.hops=[]) (hs:ad.spot=none) (h0:hp=[]->ad0=ad)
  (hh:hp≠[]->bE w ((w.cell? ⟨ad.block,ad.off,none⟩).getD undef) hp=some ad0/\∃t,bp (cells.getD 0 .dead) hp=some t)(hu:u.length=cells.length)
  (hc:∀j (h:j<u.length),w.cell? ⟨ad.block,ad.off+j,none⟩=some u[j]/\w.frozen? ⟨ad.block,ad.off+j,none⟩=false)(hok:∀j (h:j<cells.length),bS cells[j]=true\/jd cells[j]=true)
  (h:pR w (i+1) ts xs K us):pR w i (.ptr ⟨p.root,p.off,hp⟩ vs0::ts) (.pointer (some ad0)::xs) ((⟨i,p,vs,cells⟩,ad)::K) (u++us)
 |arg {i:Nat} {t:TV} {x:Value} {ts:List TV} {xs:List Value} {K:List (GP×Addr)} {us:List Value} (ha:mJ t=true) (h:pR w (i+1) ts xs K us):pR w i (t::ts) (x::xs) K us
 |own {i:Nat} {p:bi} {vs:List Nat} {x:Value} {ts:List TV} {xs:List Value} {K:List (GP×Addr)} {us:List Value} (h:pR w (i+1) ts xs K us):pR w i (.pk p vs::ts) (x::xs) K us
inductive Gg:Nat->List (Option Nat×TV)->List Value->List (Nat×TV)->List Value->Prop
 |nil (i:Nat):Gg i [] [] [] []
 |own {i:Nat} {p:bi} {vs:List Nat} {l:List (Option Nat×TV)} {x:Value} {xs:List Value} {c:List (List TV)} {ow:List (Nat×TV)} {zs:List Value} (h:Gg (i+1) l xs ow zs):Gg i ((some 0,.pk p vs)::l) (x::xs) ((i,.ow c)::ow) (x::zs)
 |skip {i:Nat} {y:Option Nat×TV} {l:List (Option Nat×TV)} {x:Value} {xs:List Value} {ow:List (Nat×TV)} {zs:List Value} (h:Gg (i+1) l xs ow zs):Gg i (y::l) (x::xs) ow zs
theorem uK{i:Nat}{y:Option Nat×TV}{l:List (Option Nat×TV)}(hn:∀p vs,y≠(some 0,.pk p vs)):takeOwns i (y::l)=takeOwns (i+1) l:=by
 have ⟨n,t⟩:=y
 cases t with
 |pk p vs=>
  cases n with
  |none=>rfl
  |some n=>
   cases n with
   |zero=>simp_all
   |succ n=>rfl
 |_=>cases n with
  |none=>rfl
  |some n=>cases n<;>rfl
theorem yF:∀{l:List (Option Nat×TV)}{asq:List Value}{i:Nat}{ow:List (Nat×TV)}{σ σ':St}{H:List TV}{xs:List Value}{G:Gh},Inv M σ H xs ts w G->asq.length=l.length->(∀j (h:j<l.length)(h':j<asq.length),TmR w (G.F M.A) σ.v (bv M σ H) G l[j].2 asq[j])->(takeOwns i l).run σ=some (ow,σ')->
 ∃zs G',iJ M w ts σ H G σ' (H++ow.map (·.2)) (xs++zs) G'/\Gg i l asq ow zs/\∀(j:Nat)(p:bi)(vs:List Nat),l[j]?=some (some 0,TV.pk p vs)->∃x∈ow,x.1=i+j:=by
 intro l
 induction l with
 |nil=>
  intro asq i ow σ σ' H xs G hI hl _ hr;obtain⟨rfl,rfl⟩:=hr;have:asq=[]:=oEN (by simpa using hl);subst this;exact⟨[],G,by simpa using iJ.refl hI,.nil i,λj p vs h=>by simp at h⟩
 |cons y l ih=>
  intro asq i ow σ σ' H xs G hI hl ht hr
  cases asq with
  |nil=>simp at hl
  |cons x asq=>
   have S1:=ht 0 (by simp) (by simp);simp only[List.getElem_cons_zero]at S1;by_cases hp:∃p vs,y=(some 0,.pk p vs)
   ·obtain⟨p,vs,rfl⟩:=hp;simp only[takeOwns]at hr;obtain⟨t,σ1,h1,h2⟩:=aS hr;split at h2
    case isFalse=>simp[SP.run]at h2
    rename_i how;obtain⟨q,σ2,h3,h4⟩:=aS h2;obtain⟨rfl,rfl⟩:=h4
    obtain⟨c,rfl⟩:∃c,t=.ow c:=by cases t<;>simp[jd]at how;exact⟨_,rfl⟩
    obtain⟨G1,Z0,_⟩:=eE hI S1 h1;obtain⟨zs,G2,ZH,k1,k2⟩:=ih (asq:=asq) Z0.1 (by simpa using hl) (λj h h'=>Z0.tm (by have:=ht (j+1) (by simpa using h) (by simpa using h');simpa only [List.getElem_cons_succ]using this)) h3;refine⟨x::zs,G2,by simpa[List.append_assoc]using Z0.trans ZH,.own k1,λj p vs h=>?_⟩
    cases j with
    |zero=>exact⟨_,List.mem_cons_self,rfl⟩
    |succ j=>
     obtain⟨z,h5,h6⟩:=k2 j p vs (by simpa using h);exact⟨z,List.mem_cons_of_mem _ h5,by omega⟩
   ·have hn:=λp vs e=>hp ⟨p,vs,e⟩;rw[uK hn]at hr;obtain⟨zs,G2,ZH,k1,k2⟩:=ih (asq:=asq) hI (by simpa using hl) (λj h h'=>by have:=ht (j+1) (by simpa using h) (by simpa using h');simpa only [List.getElem_cons_succ]using this) hr;refine⟨zs,G2,ZH,.skip k1,λj p vs h=>?_⟩
    cases j with
    |zero=>exact absurd (by simpa using h) (hn p vs)
    |succ j=>
     obtain⟨z,h5,h6⟩:=k2 j p vs (by simpa using h);exact⟨z,h5,by omega⟩
theorem Hq:∀{l:List (Option Nat×TV)}{i:Nat}{q:List GP}{σ σ':St},(grabs i l).run σ=some (q,σ')->∀(j:Nat)(n:Option Nat)(p:bi)(vs:List Nat),l[j]?=some (n,TV.pk p vs)->n=some 0:=by
 intro l
 induction l with
 |nil=>simp_all
 |cons y l ih=>
  intro i q σ σ' hr j n p vs h;obtain⟨m,t⟩:=y
  cases j with
  |zero=>
   simp at h;obtain⟨rfl,rfl⟩:=h
   cases m with
   |none=>simp[grabs,mJ,SP.run]at hr
   |some m=>
    cases m with
    |zero=>rfl
    |succ m=>simp[grabs,mJ,SP.run]at hr
  |succ j=>
   have hj:l[j]?=some (n,.pk p vs):=by simpa using h
   have step:∀{σ1 σ2:St}{q1:List GP},(grabs (i+1) l).run σ1=some (q1,σ2)->n=some 0:=λh1=>ih h1 j n p vs hj
   have arg:((if mJ t then grabs (i+1) l else .fail:SP (List GP))).run σ=some (q,σ')->n=some 0:=by
    intro h1;split at h1
    ·exact step h1
    ·simp[SP.run]at h1
   cases t with
   |ptr p2 QG=>
    cases m with
    |none=>exact arg hr
    |some m=>
     obtain⟨_,σ1,h1,h2⟩:=aS hr;obtain⟨_,σ0,_,h2⟩:=aS h2;obtain⟨cells,σ2,h3,h4⟩:=aS h2;obtain⟨q1,σ3,h5,h6⟩:=aS h4;exact step h5
   |pk p2 QG=>
    cases m with
    |none=>exact arg hr
    |some m=>
     cases m with
     |zero=>exact step hr
     |succ m=>exact arg hr
   |_=>cases m with
    |none=>exact arg hr
    |some m=>cases m<;>exact arg hr
theorem Hr:∀{l:List (Option Nat×TV)}{asq:List Value}{i:Nat}{q:List GP}{σ σ':St}{H:List TV}{xs:List Value}{G:Gh},Inv M σ H xs ts w G->asq.length=l.length->(∀j (h:j<l.length)(h':j<asq.length),TmR w (G.F M.A) σ.v (bv M σ H) G l[j].2 asq[j])->(grabs i l).run σ=some (q,σ')->
 ∃us G' K,iJ M w ts σ H G σ' (H++q.flatMap (·.cells)) (xs++us) G'/\K.map (·.1)=q/\pR w i (l.map (·.2)) asq K us/\∀x∈K,TmR w (G'.F M.A) σ'.v (bv M σ' (H++q.flatMap (·.cells))) G' (.ptr x.1.p x.1.vs) (.pointer (some x.2)):=by
 intro l
 induction l with
 |nil=>
  intro asq i q σ σ' H xs G hI hl _ hr;obtain⟨rfl,rfl⟩:=hr;have:asq=[]:=oEN (by simpa using hl);subst this;exact⟨[],G,[],by simpa using iJ.refl hI,rfl,.nil i,λx hx=>by simp at hx⟩
 |cons x l ih=>
  intro asq i q σ σ' H xs G hI hl ht hr
  cases asq with
  |nil=>simp at hl
  |cons y asq=>
   obtain⟨n,t⟩:=x;have S1:=ht 0 (by simp) (by simp);simp only[List.getElem_cons_zero]at S1
   have ZL:∀{σ1:St}{H1:List TV}{xs1:List Value}{G1:Gh},iJ M w ts σ H G σ1 H1 xs1 G1->∀j (h:j<l.length)(h':j<asq.length),TmR w (G1.F M.A) σ1.v (bv M σ1 H1) G1 l[j].2 asq[j]:=λhg j h h'=>
    hg.tm (by have:=ht (j+1) (by simpa using h) (by simpa using h');simpa only [List.getElem_cons_succ]using this)
   have other:(∀p vs,t≠.ptr p vs)->(∀p vs,(n,t)≠(some 0,.pk p vs))->∃us G' K,iJ M w ts σ H G σ' (H++q.flatMap (·.cells)) (xs++us) G'/\K.map (·.1)=q/\pR w i (((n,t)::l).map (·.2)) (y::asq) K us/\∀x∈K,TmR w (G'.F M.A) σ'.v (bv M σ' (H++q.flatMap (·.cells))) G' (.ptr x.1.p x.1.vs) (.pointer (some x.2)):=by
    intro hne TJ
    have X3:(if mJ t then grabs (i+1) l else .fail:SP (List GP)).run σ=some (q,σ'):=by
     cases n with
     |none=>cases t<;>exact hr
     |some n=>cases n<;>cases t<;>first|exact absurd rfl (hne _ _)|exact absurd rfl (TJ _ _)|exact hr
    split at X3
    ·rename_i UE;obtain⟨us,G',K,e1,e2,e3,e4⟩:=ih (asq:=asq) hI (by simpa using hl) (ZL (iJ.refl hI)) X3;exact⟨us,G',K,e1,e2,.arg UE e3,e4⟩
    ·simp[SP.run]at X3
   by_cases hp:∃p vs,t=.ptr p vs
   ·obtain⟨p,vs,rfl⟩:=hp
    cases n with
    |none=>simp[grabs,mJ,SP.run]at hr
    |some n=>
     simp only[grabs]at hr;obtain⟨_,σ1,h1,h2⟩:=aS hr;have e1:σ1=σ:=(bl h1).1;have e2:=(bl h1).2;subst e1;obtain⟨_,σr,hR,Ti⟩:=aS h2;obtain⟨rfl,Yx⟩:=Ew hI hR;obtain⟨cells,σ2,h3,h4⟩:=aS Ti;obtain⟨q1,σ3,h5,h6⟩:=aS h4;simp only[SP.run,oSJ,oPJ]at h6;obtain⟨rfl,rfl⟩:=h6;generalize hz:y=z at S1
     cases S1 with
     |ptr V0 h0 hv h=>
      obtain⟨Z4,ad0,t0,ha,rfl,Z3⟩:=h e2;obtain⟨r,o,hops⟩:=p
      have Wx:∃ad,G.addr w (⟨r,o,[]⟩:bi)=some ad/\(hops=[]->ad0=ad)/\(hops≠[]->bE w ((w.cell? ⟨ad.block,ad.off,none⟩).getD undef) hops=some ad0):=by
       cases hops with
       |nil=>exact⟨ad0,ha,λ_=>rfl,λe=>absurd rfl e⟩
       |cons hp1 hs=>
        obtain⟨b,o0,n0,hb⟩:=Yx (by simp);refine⟨⟨b,o0+o,none⟩,by simp only[Gh.addr];rw[hb],λe=>by simp at e,λ_=>?_⟩;have Ww:bE w (G.val w r o) (hp1::hs)=some ad0:=ha;unfold Gh.val at Ww;rw[hb]at Ww;exact Ww
      obtain⟨ad,OY,hb0,Qn⟩:=Wx;have hrb:(⟨r,o,hops⟩:bi).base.root≠1:=Z4;obtain⟨k1,u,G1,Z0,k2,k3,k4⟩:=Hs (p:=(⟨r,o,hops⟩:bi).base) hI hrb OY h3;obtain⟨us,G2,K,ZH,k5,k6,k7⟩:=ih (asq:=asq) Z0.1 (by simpa using hl) (ZL Z0) h5
      have Y':TmR w (G.F M.A) σr.v (bv M σr H) G (.ptr (⟨r,o,hops⟩:bi).base (vs.take 1)) (.pointer (some ad)):=
       .ptr V0 h0 (by rw[hv];simp[fU,bi.base]) λ_=>⟨Z4,ad,_,OY,rfl,rfl⟩
      refine⟨u++us,G2,(⟨i,(⟨r,o,hops⟩:bi).base,vs.take 1,cells⟩,ad)::K,by simpa[List.append_assoc]using Z0.trans ZH,by simp[k5],.ptr (p:=(⟨r,o,hops⟩:bi).base) (hp:=hops) Z4 rfl (ib OY) hb0 (λhne=>⟨Qn hne,?_⟩) (by omega) k3 k4 k6,λx hx=>?_⟩
      ·have WB:bp (σr.c r o) hops=some t0:=by
        have:=Z3;rw[bq (by exact Z4)]at this;exact this
       cases hops with
       |nil=>exact absurd rfl hne
       |cons h1 hs=>
        cases hc:σr.c r o with
        |ow c=>
         have:=CM hc h3;rw[this];rw[hc]at WB;exact⟨t0,WB⟩
        |_=>rw[hc]at WB;simp[bp]at WB
      ·have e3:H++(({ i:=i,p:=(⟨r,o,hops⟩:bi).base,vs:=vs.take 1,cells:=cells }:GP)::q1).flatMap (·.cells)=H++cells++q1.flatMap (·.cells):=by simp[List.append_assoc]
       rw[e3];rcases List.mem_cons.1 hx with rfl|hx
       ·exact ZH.tm (Z0.tm Y')
       ·exact k7 x hx
   ·by_cases hw:∃p vs,(n,t)=(some 0,.pk p vs)
    ·obtain⟨p,vs,hw⟩:=hw
     injection hw with h1 h2
     subst h1;subst h2;have X3:(grabs (i+1) l).run σ=some (q,σ'):=hr;obtain⟨us,G',K,e1,e2,e3,e4⟩:=ih (asq:=asq) hI (by simpa using hl) (ZL (iJ.refl hI)) X3;exact⟨us,G',K,e1,e2,.own e3,e4⟩
    ·exact other (λp vs e=>hp ⟨p,vs,e⟩) λp vs e=>hw ⟨p,vs,e⟩
theorem yp{α:Type}:∀{l:List (Nat×α)}{r:Nat}{x:α},bt l r=some x->dn l r x=l:=by
 intro l
 induction l with
 |nil=>intro r x h;simp[bt]at h
 |cons y l ih=>
  intro r x h;simp[bt]at h;simp[dn]
  grind
theorem Gj{p:bi}(hr:(touch p).run σ=some ((),σ')):σ'=σ/\∃l,bt σ.ce p.root=some l/\p.off<l.length:=by
 simp[touch]at hr;obtain⟨l,hl,ho,h2⟩:=bu (k:=.ret ()) (by simpa[SP.run]using hr);simp[SP.run]at h2;refine⟨?_,l,hl,ho⟩;rw[<- h2]
 have e:l.set p.off (σ.c p.root p.off)=l:=by
  have:σ.c p.root p.off=l[p.off]:=by simp[St.c,hl,ho]
  simp_all
 rw[e,yp hl]
theorem GT(hI:Inv M σ H xs ts w G):∀{q:List GP}{σ':St},(rechk q).run σ=some ((),σ')->σ'=σ/\∀g∈q,∀x,TmR w (G.F M.A) σ.v (bv M σ H) G (.ptr g.p g.vs) x->g.p.root≠1/\∃ad,x=.pointer (some ad)/\G.addr w g.p=some ad/\g.vs=fU σ.v g.p.root g.p.off g.p.hops.length/\(∃t,bp (bv M σ H g.p.root g.p.off) g.p.hops=some t)/\((∃o n,G.β g.p.root=some (ad.block,o,n))\/G.φ g.p.root g.p.off ad.block):=by
 intro q
 induction q with
 |nil=>
  intro σ' hr;simp only[rechk,SP.run,oPJ,true_and]at hr
  simp_all
 |cons g q ih=>
  intro σ' hr;obtain⟨_,σ1,h1,h2⟩:=aS hr;have e1:σ1=σ:=(bl h1).1;have e2:=(bl h1).2;subst e1;obtain⟨_,σ2,h3,h4⟩:=aS h2;obtain⟨rfl,l,hl,ho⟩:=Gj h3;obtain⟨rfl,hq⟩:=ih h4;refine⟨rfl,λg' UK x hx=>?_⟩;rcases List.mem_cons.1 UK with rfl|UK
  ·cases hx with
   |ptr V0 h0 hv h=>
    obtain⟨Z4,ad,t0,ha,hx,Z3⟩:=h e2
    have hB:G.addrB w g'.p=some ad:=by
     refine iP ha λhp b o0 n hb=>?_;have:=hI.shape _ _ _ _ hb l hl;omega
    refine⟨Z4,ad,hx,ha,e2,⟨t0,Z3⟩,?_⟩
    rcases hI.core.where_ g'.p hB Z3 with⟨_,b,o0,n,h5,_,h6⟩|⟨_,h5⟩
    ·left;exact⟨o0,n,by rw[h5,h6]⟩
    ·right;exact h5
  ·exact hq g' UK x hx
end
def prK:List (GP×Addr)->Nat->Option (Nat×Nat×Nat)
 | [],_=>none
 |(g,ad)::K,r=>if 2*g.i+2=r then some (ad.block,ad.off,g.cells.length)else prK K r
def bsK:List (GP×Addr)->Nat->Nat
 | [],_=>0
 |(g,_)::K,r=>if 2*g.i+2=r then 0 else g.cells.length+bsK K r
def ceK(K:List (GP×Addr)):List (Nat×List TV):=K.map λx=>(2*x.1.i+2,x.1.cells)
def ceO(ow:List (Nat×TV)):List (Nat×List TV):=ow.map λx=>(2*x.1+3,[x.2])
def owK:List (Nat×TV)->Nat->Option Nat
 | [],_=>none
 |(i,_)::q,r=>if 2*i+3=r then some 0 else(owK q r).map (· + 1)
def gx(K:List (GP×Addr)):List TV:=K.flatMap λx=>x.1.cells
section
theorem gO{K:List (GP×Addr)}{r b o n:Nat}(h:prK K r=some (b,o,n)):∃x∈K,r=2*x.1.i+2/\b=x.2.block/\o=x.2.off/\n=x.1.cells.length/\bt (ceK K) r=some x.1.cells/\∀j (_:j<x.1.cells.length),(gx K)[bsK K r+j]?=x.1.cells[j]?:=by
 induction K with
 |nil=>simp[prK]at h
 |cons y K ih=>
  obtain⟨g,ad⟩:=y;simp only[prK]at h;split at h
  ·rename_i e
   injection h with h
   injection h with h1 h
   injection h with h2 h3
   refine⟨(g,ad),by simp,e.symm,h1.symm,h2.symm,h3.symm,by simp[ceK,bt,e],λj hj=>?_⟩;simp only[bsK,e,if_true,gx,Nat.zero_add];exact List.getElem?_append_left hj
  ·rename_i e;obtain⟨x,h1,h2,h3,h4,h5,h6,h7⟩:=ih h;refine⟨x,by simp[h1],h2,h3,h4,h5,by simpa[ceK,bt,e]using h6,λj hj=>?_⟩;simp only[bsK,e,if_false,gx,List.flatMap_cons];rw[List.getElem?_append_right (by omega)];rw[show g.cells.length+bsK K r+j-g.cells.length=bsK K r+j by omega];exact h7 j hj
theorem BD{K:List (GP×Addr)}{r:Nat}{l:List TV}(h:bt (ceK K) r=some l):prK K r≠none:=by
 induction K with
 |nil=>simp[ceK,bt]at h
 |cons y K ih=>
  simp[ceK,bt]at h;simp[prK];split
  ·simp
  ·rename_i e;rw[oIN e]at h;exact ih h
theorem IP{K:List (GP×Addr)}:∀r b o n r' b' o' n',prK K r=some (b,o,n)->prK K r'=some (b',o',n')->∀j j',j<n->j'<n'->bsK K r+j=bsK K r'+j'->r=r':=by
 induction K with
 |nil=>intro r b o n r' b' o' n' h;simp[prK]at h
 |cons y K ih=>
  intro r b o n r' b' o' n' h h' j j' hj ZT e;simp[prK,bsK]at h h' e
  grind
theorem pR.slot{w:World}{i:Nat}{ts:List TV}{asq us:List Value}{K:List (GP×Addr)}(h:pR w i ts asq K us):∀x∈K,i<=x.1.i/\x.1.p.hops=[]/\∃p vs,ts[x.1.i-i]?=some (.ptr p vs):=by
 induction h with
 |nil=>intro x hx;simp at hx
 | @ptr i p hp vs vs0 cells ad ad0 u ts xs K us hr hb hs h0 hh hu hc hok h ih=>
  intro x hx;rcases List.mem_cons.1 hx with rfl|hx
  ·simp_all
  ·obtain⟨h1,h3,p,vs,h2⟩:=ih x hx;refine⟨by omega,h3,p,vs,?_⟩;rw[show x.1.i-i=(x.1.i-(i+1))+1 by omega];simpa using h2
 | @arg i t x0 ts xs K us ha h ih=>
  intro x hx;obtain⟨h1,h3,p,vs,h2⟩:=ih x hx;refine⟨by omega,h3,p,vs,?_⟩;rw[show x.1.i-i=(x.1.i-(i+1))+1 by omega];simpa using h2
 | @own i p0 vs0 x0 ts xs K us h ih=>
  intro x hx;obtain⟨h1,h3,p,vs,h2⟩:=ih x hx;refine⟨by omega,h3,p,vs,?_⟩;rw[show x.1.i-i=(x.1.i-(i+1))+1 by omega];simpa using h2
theorem pR.len{w:World}{i:Nat}{ts:List TV}{asq us:List Value}{K:List (GP×Addr)}(h:pR w i ts asq K us):ts.length=asq.length/\us.length=(gx K).length:=by
 induction h with
 |nil=>exact⟨rfl,rfl⟩
 |ptr hr hb hs h0 hh hu hc hok h ih=>exact⟨by simp_all,by simp[gx,hu]at ih⊢;exact ih.2⟩
 |arg ha h ih=>simp_all
 |own h ih=>simp_all
theorem pR.ok{w:World}{i:Nat}{ts:List TV}{asq us:List Value}{K:List (GP×Addr)}(h:pR w i ts asq K us):∀x∈K,∀j (h:j<x.1.cells.length),bS x.1.cells[j]=true\/jd x.1.cells[j]=true:=by
 induction h with
 |nil=>simp_all
 |ptr hr hb hs h0 hh hu hc hok h ih=>
  intro x hx;rcases List.mem_cons.1 hx with rfl|hx
  ·exact hok
  ·exact ih x hx
 |arg ha h ih=>exact ih
 |own h ih=>exact ih
theorem pR.here{w:World}{i:Nat}{ts:List TV}{asq us:List Value}{K:List (GP×Addr)}(h:pR w i ts asq K us):∀r b o n,prK K r=some (b,o,n)->∀j,j<n->w.cell? ⟨b,o+j,none⟩=some (us.getD (bsK K r+j) undef)/\w.frozen? ⟨b,o+j,none⟩=false:=by
 induction h with
 |nil=>intro r b o n h;simp[prK]at h
 | @ptr i p NA vs vs0 cells ad ad0 u ts xs K us hr hb hs h0 hh hu hc hok h ih=>
  intro r b o n hp j hj;simp only[prK]at hp;simp only[bsK];split at hp
  ·rename_i e
   injection hp with hp
   injection hp with h1 hp
   injection hp with h2 h3
   subst h1;subst h2;rw[oIP e,Nat.zero_add]
   have Ps:j<u.length:=by omega
   have:=hc j Ps;refine⟨?_,this.2⟩;rw[this.1,oGD,List.getElem?_append_left Ps,oGE Ps];rfl
  ·rename_i e;rw[oIN e];have:=ih r b o n hp j hj;refine⟨?_,this.2⟩;rw[this.1];simp;rw[List.getElem?_append_right (by omega)];rw[show cells.length+bsK K r+j-u.length=bsK K r+j by omega]
 |arg ha h ih=>exact ih
 |own h ih=>exact ih
end
theorem pz{α:Type}{f:α->Nat}:∀{l:List α},jp (l.map f)=true->∀{x y:α},x∈l->y∈l->f x=f y->x=y:=by
 intro l
 induction l with
 |nil=>simp_all
 |cons z l ih=>
  intro h x y hx hy e;simp only[List.map_cons,jp,oBA,Bool.not_eq_true',List.contains_eq_mem,decide_eq_false_iff_not]at h;rcases List.mem_cons.1 hx with ZY|ZY
  ·rcases List.mem_cons.1 hy with Xf|Xf
   ·rw[ZY,Xf]
   ·exact absurd (by rw[<- ZY,e];exact List.mem_map_of_mem Xf) h.1
  ·rcases List.mem_cons.1 hy with Xf|Xf
   ·simp_all
   ·exact ih h.2 ZY Xf e
section
variable {P:Program} {M:Fm} {σ σ':St} {H:List TV} {xs:List Value} {ts:Array Value} {w:World} {G:Gh} {a:Act} {o:Oper}
theorem kR{α:Type}:∀{a b:List (Nat×α)}{r:Nat},bt (a++b) r=match bt a r with|some x=>some x|none=>bt b r:=by
 intro a
 induction a with
 |nil=>intro b r;rfl
 |cons y a ih=>
  intro b r;simp[bt];split
  ·rfl
  ·exact ih
theorem nZ:∀{q:List (Nat×TV)}{r j:Nat},owK q r=some j->∃h:j<q.length,r=2*q[j].1+3/\bt (ceO q) r=some [q[j].2]:=by
 intro q
 induction q with
 |nil=>intro r j h;simp[owK]at h
 |cons y q ih=>
  intro r j h;obtain⟨i,t⟩:=y;simp only[owK]at h;split at h
  ·rename_i e
   injection h with h
   subst h;exact⟨by simp,e.symm,by simp[ceO,bt,e]⟩
  ·rename_i e
   cases hq:owK q r with
   |none=>simp_all
   |some k=>
    simp[hq,oMS]at h;subst h
    have:bt (ceO ((i,t)::q)) r=bt (ceO q) r:=by simp[ceO,bt,e]
    simp_all
theorem H6:∀{q:List (Nat×TV)}{r:Nat}{l:List TV},bt (ceO q) r=some l->owK q r≠none:=by
 intro q
 induction q with
 |nil=>intro r l h;simp[ceO,bt]at h
 |cons y q ih=>
  intro r l h;have ⟨i,t⟩:=y;simp[owK];split
  ·simp
  ·rename_i e
   have:bt (ceO ((i,t)::q)) r=bt (ceO q) r:=by simp[ceO,bt,e]
   simp_all
theorem Gg.facts{i:Nat}{l:List (Option Nat×TV)}{asq:List Value}{ow:List (Nat×TV)}{zs:List Value}(h:Gg i l asq ow zs):zs.length=ow.length/\(∀x∈ow,i<=x.1/\∃c,x.2=.ow c)/\∀x∈ow,∃k,owK ow (2*x.1+3)=some k/\asq[x.1-i]?=zs[k]?:=by
 induction h with
 |nil=>simp_all
 | @own i p vs l x xs c ow zs h ih=>
  obtain⟨h1,h2,h3⟩:=ih;refine⟨by simp[h1],λy hy=>?_,λy hy=>?_⟩
  ·rcases List.mem_cons.1 hy with rfl|hy
   ·exact⟨Nat.le_refl _,c,rfl⟩
   ·exact⟨by have:=(h2 y hy).1;omega,(h2 y hy).2⟩
  ·rcases List.mem_cons.1 hy with rfl|hy
   ·exact⟨0,by simp[owK],by simp⟩
   ·obtain⟨k,h4,h5⟩:=h3 y hy;have YO:=(h2 y hy).1;refine⟨k+1,by simp[owK];rw[oIN (by omega),h4];rfl,?_⟩;rw[show y.1-i=(y.1-(i+1))+1 by omega];simpa using h5
 | @skip i y0 l x xs ow zs h ih=>
  obtain⟨h1,h2,h3⟩:=ih;refine⟨h1,λy hy=>⟨by have:=(h2 y hy).1;omega,(h2 y hy).2⟩,λy hy=>?_⟩;obtain⟨k,h4,h5⟩:=h3 y hy;have YO:=(h2 y hy).1;refine⟨k,h4,?_⟩;rw[show y.1-i=(y.1-(i+1))+1 by omega];simpa using h5
theorem pR.hands{vals:List TV}{asq us:List Value}{K:List (GP×Addr)}{l:List (Option Nat×TV)}{ow:List (Nat×TV)}{zs:List Value}(hI:Inv M σ (ow.map (·.2)++gx K) (zs++us) ts w G)(h:pR w 0 vals asq K us)(ho:Gg 0 l asq ow zs)(ZN:jp ((K.map (·.1)).map (·.p.root))=true)(Z1:∀x∈K,0<x.1.cells.length)
 (Ut:∀x∈K,x.1.p.root≠1/\((∃o n,G.β x.1.p.root=some (x.2.block,o,n))\/G.φ x.1.p.root x.1.p.off x.2.block)):Dp (ow.map (·.2)++gx K) (zs++us) w G M.A (prK K) (λr=>ow.length+bsK K r) (ceK K++ceO ow) (owK ow):=by
 obtain⟨hz,Ya,_⟩:=ho.facts
 have TM:∀r,r%2=1->bt (ceK K) r=none:=λr hr=>by
  cases hc:bt (ceK K) r with
  |none=>rfl
  |some l=>
   cases hp:prK K r with
   |none=>exact absurd hp (BD hc)
   |some x=>obtain⟨b,o,n⟩:=x;obtain⟨x,_,h2,_⟩:=gO hp;omega
 refine⟨λr b o n hp=>?_,λr b o n hp=>?_,λr l hl=>?_,λr j hj=>?_,λr j r' b o n hj hp j' ZT=>by have:=(nZ hj).1;omega,λr r' j hj ZT=>?_,λr b o n r' b' o' n' h1 h2 j j' hj ZT e=>IP _ _ _ _ _ _ _ _ h1 h2 _ _ hj ZT (by omega),λr b o n r' o' n' h1 h2=>?_,λr b o n hp hF=>?_,λr b o n hp j hφ=>?_,λr b o n hp j hj=>?_⟩
 ·obtain⟨x,h1,h2,_,_,h5,_⟩:=gO hp;exact⟨by omega,by rw[h5];exact Z1 x h1⟩
 ·obtain⟨x,h1,h2,_,_,h5,h6,h7⟩:=gO hp;refine⟨_,by rw[kR,h6],h5.symm,λj hj=>?_⟩;have:=h7 j hj;rw[oGE hj]at this;obtain⟨k1,k2⟩:=oGS this;refine⟨by simp;omega,?_,pN (h.ok x h1) j hj⟩;rw[List.getElem_append_right (by simp;omega)];rw[<- k2];congr 1;simp;omega
 ·rw[kR]at hl
  cases hc:bt (ceK K) r with
  |some l2=>exact .inl (BD hc)
  |none=>rw[hc]at hl;exact .inr (H6 hl)
 ·obtain⟨h1,h2,h3⟩:=nZ hj;obtain⟨_,c,hc⟩:=Ya ow[j] (List.getElem_mem h1);refine⟨by omega,by omega,c,by simp;omega,?_,?_⟩
  ·rw[kR,TM r (by omega)];simp only;rw[h3,hc]
  ·rw[List.getElem_append_left (by simpa using h1)];simpa using hc
 ·obtain⟨_,h2,_⟩:=nZ hj;obtain⟨_,h3,_⟩:=nZ ZT;omega
 ·obtain⟨x,x1,x2,x3,x4,x5,_⟩:=gO h1;obtain⟨y,y1,y2,y3,y4,y5,_⟩:=gO h2
  have Z6:x.1.p.root=y.1.p.root:=by
   rcases(Ut x x1).2 with⟨o1,n1,ZX⟩|ZX
   ·rcases(Ut y y1).2 with⟨o2,n2,Z'⟩|Z'
    ·rw[<- y3]at Z';rw[<- x3]at ZX;exact hI.core.boxd _ _ _ _ _ _ _ ZX Z'
    ·rw[<- y3]at Z';rw[<- x3]at ZX;exact absurd Z' (hI.core.boxf _ _ _ _ ZX _ _)
   ·rcases(Ut y y1).2 with⟨o2,n2,Z'⟩|Z'
    ·rw[<- y3]at Z';rw[<- x3]at ZX;exact absurd ZX (hI.core.boxf _ _ _ _ Z' _ _)
    ·rw[<- y3]at Z';rw[<- x3]at ZX;exact(hI.core.dis _ _ _ _ _ ZX Z').1
  have S4:x.1=y.1:=pz ZN (List.mem_map_of_mem x1) (List.mem_map_of_mem y1) Z6;rw[x2,y2,S4]
 ·obtain⟨x,x1,x2,x3,x4,x5,_⟩:=gO hp;subst x3
  rcases(Ut x x1).2 with⟨o1,n1,ZX⟩|ZX
  ·exact hF.2.2 _ _ _ _ ZX rfl
  ·exact hF.2.1 _ _ ZX
 ·obtain⟨x,x1,x2,x3,x4,x5,_⟩:=gO hp;subst x3
  rcases(Ut x x1).2 with⟨o1,n1,ZX⟩|ZX
  ·exact hI.core.boxf _ _ _ _ ZX _ _ hφ
  ·exact(Ut x x1).1 (hI.core.dis _ _ _ _ _ ZX hφ).1
 ·have:=h.here _ _ _ _ hp j hj;refine⟨?_,this.2⟩;rw[this.1,oGD,oGD,List.getElem?_append_right (by omega)];rw[show ow.length+bsK K r+j-zs.length=bsK K r+j by omega]
theorem TmR.handed{F F':Nat->Prop}{V V':Vs}{C C':Cs}{G G':Gh}{t:TV}{x:Value}(h:TmR w F V C G t x)(ha:mJ t=true)(hF:∀k,F k->F' k):TmR w F' V' C' G' t x:=by
 cases h with
 |v h=>exact .v h
 |sl h=>exact .sl (h.frame (λ_ _ _=>rfl) λk hk _=>hF k hk)
 |nil=>exact .nil
 |ip u hc hr=>exact .ip u (λj hj=>⟨hF _ (hc j hj).1,(hc j hj).2⟩) λj hj=>(hr j hj).frame (λ_ _ _=>rfl) λk hk _=>hF k hk
 | @agg l xs hl h=>
  refine .agg hl λj hj=>?_;simp[mJ,List.all_eq_true]at ha;have h1:=ha _ (List.getElem_mem hj);have h2:=h j hj;generalize l[j]=e at h1 h2;generalize xs.getD j undef=y at h2
  cases h2 with
  |v h=>exact .v h
  |sl h=>exact .sl (h.frame (λ_ _ _=>rfl) λk hk _=>hF k hk)
  |_=>simp_all
 | @fn f l xs hl h=>
  simp[mJ]at ha;exact .fn hl λj hj=>(((h j hj).imC (ha _ (List.getElem_mem hj))).frame (λ_ _ _=>rfl) λk hk _=>hF k hk).toTm
 |_=>simp[mJ]at ha
theorem wk{α:Type}:∀{l:List α}{i j:Nat},bt (dF i l) j=if i<=j then l[j-i]? else none:=by
 intro l
 induction l with
 |nil=>intro i j;simp[dF,bt]
 |cons x l ih=>
  intro i j;simp[dF,bt];by_cases e:i=j
  ·simp_all
  ·rw[oIN e,ih]
   grind
theorem yr:∀{l:List TV}{i j:Nat},(argTs i l)[j]?=(l[j]?).map (argT (i+j)):=by
 intro l
 induction l with
 |nil=>intro i j;simp[argTs]
 |cons t l ih=>
  intro i j
  cases j with
  |zero=>simp[argTs]
  |succ j=>simp[argTs,ih];rw[show i+1+j=i+(j+1) by omega]
def Il(w:World)(K:List (GP×Addr))(x:GP×Addr)(t:TV)(y:Option Value):Prop:=
 ∃hp vs ad0,t=.ptr ⟨x.1.p.root,x.1.p.off,hp⟩ vs/\y=some (.pointer (some ad0))/\prK K (2*x.1.i+2)=some (x.2.block,x.2.off,x.1.cells.length)/\bt (ceK K) (2*x.1.i+2)=some x.1.cells/\x.2.spot=none/\(hp=[]->ad0=x.2)/\
  (hp≠[]->bE w ((w.cell? ⟨x.2.block,x.2.off,none⟩).getD undef) hp=some ad0/\∃t,bp (x.1.cells.getD 0 .dead) hp=some t)
theorem Il.cons{w:World}{K:List (GP×Addr)}{x z:GP×Addr}{t:TV}{y:Option Value}(h:Il w K x t y)(hne:z.1.i≠x.1.i):Il w (z::K) x t y:=by
 have ⟨hp,vs,ad0,h1,h2,h3,h4,h5,h6,h7⟩:=h;have ⟨g,ad⟩:=z;refine⟨hp,vs,ad0,h1,h2,?_,?_,h5,h6,h7⟩
 ·simp[prK];rw[oIN (by simp only at hne;omega)];exact h3
 ·simp[ceK,bt];rw[oIN (by simp only at hne;omega)];exact h4
theorem pR.slotArg{w:World}{i:Nat}{vals:List TV}{asq us:List Value}{K:List (GP×Addr)}(h:pR w i vals asq K us):∀j t,vals[j]?=some t->mJ t=true\/(∃p vs,t=.pk p vs)\/∃x∈K,x.1.i=i+j/\Il w K x t asq[j]?:=by
 induction h with
 |nil=>intro j t h;simp at h
 | @ptr i p hp vs vs0 cells ad ad0 u ts xs K us hr hb hs h0 hh hu hc hok h ih=>
  intro j t ht
  cases j with
  |zero=>
   right;right;refine⟨(⟨i,p,vs,cells⟩,ad),by simp,rfl,hp,vs0,ad0,?_,by simp,by simp[prK],by simp[ceK,bt],hs,h0,hh⟩;simpa using ht.symm
  |succ j=>
   rcases ih j t (by simpa using ht)with h1|h1|⟨x,h1,h2,h3⟩
   ·exact .inl h1
   ·exact .inr (.inl h1)
   ·right;right;exact⟨x,by simp[h1],by omega,by simpa using h3.cons (z:=(⟨i,p,vs,cells⟩,ad)) (by show i≠x.1.i;omega)⟩
 | @arg i t0 x0 ts xs K us ha h ih=>
  intro j t ht
  cases j with
  |zero=>simp_all
  |succ j=>
   rcases ih j t (by simpa using ht)with h1|h1|⟨x,h1,h2,h3⟩
   ·exact .inl h1
   ·exact .inr (.inl h1)
   ·exact .inr (.inr ⟨x,h1,by omega,by simpa using h3⟩)
 | @own i p0 vs0 x0 ts xs K us h ih=>
  intro j t ht
  cases j with
  |zero=>right;left;have:TV.pk p0 vs0=t:=by simpa using ht
         exact⟨p0,vs0,this.symm⟩
  |succ j=>
   rcases ih j t (by simpa using ht)with h1|h1|⟨x,h1,h2,h3⟩
   ·exact .inl h1
   ·exact .inr (.inl h1)
   ·exact .inr (.inr ⟨x,h1,by omega,by simpa using h3⟩)
theorem pR.enter{vals:List TV}{asq us:List Value}{K:List (GP×Addr)}{l:List (Option Nat×TV)}{ow:List (Nat×TV)}{zs:List Value}(hI:Inv M σ (ow.map (·.2)++gx K) (zs++us) ts w G)(h:pR w 0 vals asq K us)(ho:Gg 0 l asq ow zs)(SZ:∀j p vs,vals[j]?=some (.pk p vs)->∃x∈ow,x.1=j)
 (hh:Dp (ow.map (·.2)++gx K) (zs++us) w G M.A (prK K) (λr=>ow.length+bsK K r) (ceK K++ceO ow) (owK ow))
 (ht:∀j (h:j<vals.length)(h':j<asq.length),TmR w (G.F M.A) σ.v (bv M σ (ow.map (·.2)++gx K)) G vals[j] asq[j]){N:Nat}(hN:asq.length<=N):
 Inv (M.into w G (prK K) N) (mkSt (argTs 0 vals) (ceK K++ceO ow)) [] [] (asq.toArray++Array.replicate (N-asq.length) undef) w (G.into (prK K) (λr=>ow.length+bsK K r) (owK ow) (zs++us)):=by
 refine hI.enter hh (by simp;omega) λi=>?_;rw[wk];simp only[Nat.zero_le,if_true,Nat.sub_zero,yr,Nat.zero_add]
 cases hv:vals[i]? with
 |none=>exact .dead
 |some t=>
  obtain⟨hi,hvi⟩:=oGS hv
  have ZK:i<asq.length:=by rw[<- h.len.1];exact hi
  have hx:(asq.toArray++Array.replicate (N-asq.length) undef).getD i undef=asq[i]:=by
   simp[Array.getD_eq_getD_getElem?,Array.getElem?_append,ZK]
  rw[hx];have Y':=ht i hi ZK;rw[hvi]at Y';simp only[oMS,Option.getD_some];rcases h.slotArg i t hv with UE|⟨p,vs,rfl⟩|⟨x,x1,x2,hp,vs,ad0,rfl,x4,x5,N6,x6,x7,x8⟩
  ·have e:argT i t=t:=by cases t<;>first|rfl|simp[mJ]at UE
   rw[e];exact Y'.handed UE λk hk=>hh.F hk
  ·simp only[argT];obtain⟨x,ZY,rfl⟩:=SZ i p vs hv;obtain⟨hz,h2,h3⟩:=ho.facts;obtain⟨k,h4,h5⟩:=h3 x ZY;obtain⟨hk,_,h6⟩:=nZ h4;have TM:=(hh.owc _ _ h4);obtain⟨_,_,c',hj,h8,h9⟩:=TM;refine .pk (λ_=>0) (λ_=>Nat.le_refl _) rfl λ_=>⟨by simp,c',?_,?_⟩
   ·have hpn:prK K (2*x.1+3)=none:=by
     cases hp:prK K (2*x.1+3)with
     |none=>rfl
     |some y=>obtain⟨b,o,n⟩:=y;have:=(hh.even _ _ _ _ hp).1;omega
    simp only[Gh.hv,hvT];unfold Gh.val Gh.into;simp only[hpn,h4];rw[Nat.sub_zero,oGE ZK,oGE (by omega)]at h5
    injection h5 with h5
    rw[oGD,List.getElem?_append_left (by omega),oGE (by omega),h5];rfl
   ·have:bv (M.into w G (prK K) N) ⟨dF 0 (argTs 0 vals),ceK K++ceO ow,[]⟩ [] (2*x.1+3) 0=.ow c':=by
     rw[bq (by show 2*x.1+3≠1;omega)];simp[St.c,h8]
    rw[this];rfl
  ·simp only[argT]
   have e:asq[i]=.pointer (some ad0):=by
    rw[oGE ZK]at x4;injection x4
   rw[e]
   have hxi:x.1.i=i:=by omega
   rw[hxi]at x5 N6
   have Y0:(⟨x.2.block,x.2.off+0,none⟩:Addr)=x.2:=by
    obtain⟨g,ad⟩:=x;obtain⟨b,o,s⟩:=ad;simp only at x6⊢;subst x6;rfl
   have hcell:bv (M.into w G (prK K) N) ⟨dF 0 (argTs 0 vals),ceK K++ceO ow,[]⟩ [] (2*i+2) 0=x.1.cells.getD 0 .dead:=by
    rw[bq (by show 2*i+2≠1;omega)];simp only[St.c,kR,N6]
   refine .ptr (λ_=>0) (λ_=>Nat.le_refl _) (by simp[fU,List.replicate_succ,List.map_const']) λ_=>?_
   cases hp with
   |nil=>
    refine⟨by simp,x.2,(bv (M.into w G (prK K) N) ⟨dF 0 (argTs 0 vals),ceK K++ceO ow,[]⟩ [] (2*i+2) 0),?_,by rw[x7 rfl],rfl⟩;unfold Gh.addr Gh.into;simp only[x5];rw[Y0]
   |cons h1 hs=>
    obtain⟨x9,t0,x10⟩:=x8 (by simp);refine⟨by simp,ad0,t0,?_,rfl,by show bp (bv _ _ [] (2*i+2) 0) (h1::hs)=_;rw[hcell];exact x10⟩;show bE w (Gh.val _ w (2*i+2) 0) (h1::hs)=some ad0;unfold Gh.val Gh.into;simp only[x5];exact x9
end
theorem xT{α:Type}{f:GP×Addr->List α}{K:List (GP×Addr)}(hf:∀x∈K,(f x).length=x.1.cells.length){r b o n:Nat}(h:prK K r=some (b,o,n)):∃x∈K,r=2*x.1.i+2/\b=x.2.block/\o=x.2.off/\n=x.1.cells.length/\bt (K.map λx=>(2*x.1.i+2,f x)) r=some (f x)/\∀j,j<n->(K.flatMap f)[bsK K r+j]?=(f x)[j]?:=by
 induction K with
 |nil=>simp[prK]at h
 |cons y K ih=>
  obtain⟨g,ad⟩:=y;simp only[prK]at h;split at h
  ·rename_i e
   injection h with h
   injection h with h1 h
   injection h with h2 h3
   have hl:=hf (g,ad) (by simp);simp only at hl;refine⟨(g,ad),by simp,e.symm,h1.symm,h2.symm,h3.symm,by simp[bt,e],λj hj=>?_⟩;simp only[bsK,e,if_true,Nat.zero_add];exact List.getElem?_append_left (by omega)
  ·rename_i e;obtain⟨x,h1,h2,h3,h4,h5,h6,h7⟩:=ih (λx hx=>hf x (by simp[hx])) h;have hl:=hf (g,ad) (by simp);simp only at hl;refine⟨x,by simp[h1],h2,h3,h4,h5,by simpa[bt,e]using h6,λj hj=>?_⟩;simp only[bsK,e,if_false,List.flatMap_cons];rw[List.getElem?_append_right (by omega)];rw[show g.cells.length+bsK K r+j-(f (g,ad)).length=bsK K r+j by omega];exact h7 j hj
theorem Lw{K:List (GP×Addr)}(ZN:jp (K.map λx=>x.1.i)=true){j:Nat}(h:j<(gx K).length):∃r b o n t,prK K r=some (b,o,n)/\t<n/\j=bsK K r+t:=by
 induction K generalizing j with
 |nil=>simp[gx]at h
 |cons y K ih=>
  obtain⟨g,ad⟩:=y;simp only[List.map_cons,jp,oBA,Bool.not_eq_true',List.contains_eq_mem,decide_eq_false_iff_not]at ZN;simp only[gx,List.flatMap_cons,List.length_append]at h;by_cases hj:j<g.cells.length
  ·exact⟨2*g.i+2,ad.block,ad.off,g.cells.length,j,by simp[prK],hj,by simp[bsK]⟩
  ·obtain⟨r,b,o,n,t,h1,h2,h3⟩:=ih ZN.2 (j:=j-g.cells.length) (by simp only[gx];omega)
   have hne:2*g.i+2≠r:=λe=>by
    obtain⟨x,x1,x2,_⟩:=gO h1;exact ZN.1 (List.mem_map.2 ⟨x,x1,by omega⟩)
   exact⟨r,b,o,n,t,by simp[prK,hne,h1],h2,by simp[bsK,hne];omega⟩
def RWs(w:World):List (GP×Addr)->World->World
 | [],W=>W
 |x::K,W=>RWs w K (eC w W x.2.block)
theorem Ih{w:World}{K:List (GP×Addr)}:∀{W:World},(RWs w K W).heap.size=W.heap.size:=by
 induction K with
 |nil=>intro W;rfl
 |cons x K ih=>intro W;simp[RWs];rw[ih,jm]
theorem wl{w:World}{K:List (GP×Addr)}:∀{W:World},(RWs w K W).os=W.os/\(RWs w K W).tape=W.tape/\(RWs w K W).output=W.output:=by
 induction K with
 |nil=>intro W;exact⟨rfl,rfl,rfl⟩
 |cons x K ih=>
  intro W;simp[RWs];have ⟨r1,r2,r3,_⟩:=pT (w:=w) (W:=W) (b:=x.2.block)
  simp_all
theorem LE{w:World}{K:List (GP×Addr)}{k:Nat}:∀{W:World},(∀x∈K,k≠x.2.block)->(RWs w K W).heap[k]?=W.heap[k]?:=by
 induction K with
 |nil=>intro W h;rfl
 |cons x K ih=>
  intro W h;simp[RWs];rw[ih λy hy=>h y (by simp[hy]),ml (h x (by simp))]
theorem Ii{w:World}{K:List (GP×Addr)}{k:Nat}(h2:k<w.heap.size):∀{W:World},k<W.heap.size->W.heap[k]?=w.heap[k]?->(RWs w K W).heap[k]?=w.heap[k]?:=by
 induction K with
 |nil=>intro W h1 h;exact h
 |cons x K ih=>
  intro W h1 h;refine ih (by rw[jm];exact h1) ?_;by_cases e:k=x.2.block
  ·rw[<- e];exact po h1 h2
  ·rw[ml e];exact h
theorem LF{w:World}{K:List (GP×Addr)}{k:Nat}(h2:k<w.heap.size):∀{W:World},k<W.heap.size->(∃x∈K,k=x.2.block)->(RWs w K W).heap[k]?=w.heap[k]?:=by
 induction K with
 |nil=>simp_all
 |cons x K ih=>
  intro W h1 h;simp[RWs];have ⟨y,hy,e⟩:=h;rcases List.mem_cons.1 hy with rfl|hy
  ·exact Ii h2 (by rw[jm];exact h1) (by rw[e];rw[e]at h1 h2;exact po h1 h2)
  ·exact ih (by rw[jm];exact h1) ⟨y,hy,e⟩
section
variable {P:Program} {M:Fm} {σ σ':St} {H:List TV} {xs:List Value} {ts:Array Value} {w:World} {G:Gh} {a:Act} {o:Oper}
theorem ED{p:bi}{t:TV}(h:(sQ p t).run σ=some ((),σ')){r:Nat}(hr:r≠p.root)(o n:Nat):fU σ'.v r o n=fU σ.v r o n:=by
 unfold sQ at h;simp only[SP.run]at h
 have bump:∀{vr:List (Key×Nat)},σ'.vr=vr->(∀q,nj vr q=nj σ.vr q+if(p.root,p.off,p.hops.length+1)=q then 1 else 0)->fU σ'.v r o n=fU σ.v r o n:=by
  intro vr e hv
  have YB:∀q,σ'.v q=σ.v q+if(p.root,p.off,p.hops.length+1)=q then 1 else 0:=λq=>by unfold St.v;rw[e];exact hv q
  rw[gC]
  have hne:∀o' d,((p.root,p.off,p.hops.length+1):Key)≠(r,o',d):=λo' d e=>by
   simp_all
  simp_all
 cases hg:bp (σ.c p.root p.off) p.hops with
 |none=>simp[hg,SP.run]at h
 |some old=>
  simp only[hg]at h;split at h
  ·split at h
   ·obtain⟨l,hl,ho,h3⟩:=bu h;simp only[SP.run,oSJ,oPJ,true_and]at h3;exact bump (vr:=lu σ.vr (p.root,p.off,p.hops.length+1)) (by rw[<- h3]) λq=>dI _ _ _
   ·simp[SP.run]at h
  ·obtain⟨l,hl,ho,h3⟩:=bu h;simp only[SP.run,oSJ,oPJ,true_and]at h3
   have hv:σ'.v=σ.v:=by rw[<- h3];rfl
   rw[hv]
theorem EF:∀{l:List TV}{p:bi}{σ σ':St},(putL p l).run σ=some ((),σ')->∀{r:Nat},r≠p.root->∀o n,fU σ'.v r o n=fU σ.v r o n:=by
 intro l
 induction l with
 |nil=>
  intro p σ σ' h r hr o n;simp[putL,SP.run]at h;rw[h]
 |cons t l ih=>
  intro p σ σ' h r hr o n;have ⟨_,σ1,h1,h2⟩:=aS h;rw[<- ED h1 hr o n]
  cases l with
  |nil=>
   simp[SP.run]at h2;rw[h2]
  |cons t2 l=>
   simp only at h2;split at h2
   ·exact ih h2 (by rw[ct];exact hr) o n
   ·simp[SP.run]at h2
theorem wR:∀{q:List (GP×List TV)}{σ σ':St},(putBack q).run σ=some ((),σ')->∀{r:Nat},(∀x∈q,r≠x.1.p.root)->∀o n,fU σ'.v r o n=fU σ.v r o n:=by
 intro q
 induction q with
 |nil=>
  intro σ σ' h r hr o n;simp[putBack,SP.run]at h;rw[h]
 |cons x q ih=>
  intro σ σ' h r hr o n;have ⟨g,l⟩:=x;have ⟨_,σ1,h1,h2⟩:=aS h;split at h2
  ·rw[EF h2 (hr (g,l) (by simp)) o n];exact ih h1 (λx hx=>hr x (by simp[hx])) o n
  ·simp[SP.run]at h2
def Seg(w W:World)(x:GP×Addr)(vs:List Value):Prop:=
 ∃cur0 cur e fz,w.heap[x.2.block]?=some (.cells cur0 e fz)/\W.heap[x.2.block]?=some (.cells cur e fz)/\cur.size=cur0.size/\(∀j,(j<x.2.off\/x.2.off+vs.length<=j)->cur[j]?=cur0[j]?)/\∀j (h:j<vs.length),cur[x.2.off+j]?=some vs[j]
theorem Cj{f:GP×Addr->List TV}{v:GP×Addr->List Value}(hfv:∀x,(f x).length=(v x).length):∀{K:List (GP×Addr)}{σ σ':St}{H0:List TV}{x0:List Value}{W:World}{G:Gh},H0.length=x0.length ->
 Inv M σ (H0++K.flatMap f) (x0++K.flatMap v) ts (RWs w K W) G->(∀x∈K,Seg w W x (v x))->(∀x∈K,f x≠[])->(∀x∈K,∀y∈K,x.2.block=y.2.block->x=y)->jp (K.map λx=>x.1.p.root)=true ->
 (∀x∈K,x.1.p.root≠1/\G.addr (RWs w K W) x.1.p=some x.2/\∃t,bp (bv M σ (H0++K.flatMap f) x.1.p.root x.1.p.off) x.1.p.hops=some t)->
 (putBack (K.map λx=>(x.1,f x))).run σ=some ((),σ')->∃G',Inv M σ' H0 x0 ts W G'/\σ'.tm=σ.tm/\gl M (RWs w K W) σ (H0++K.flatMap f) G W σ' H0 G'/\G'.β=G.β:=by
 intro K
 induction K with
 |nil=>
  intro σ σ' H0 x0 W G WY hI _ _ _ _ _ hr;simp only[List.map_nil,putBack,SP.run,oSJ,oPJ,true_and]at hr;subst hr;have hI:Inv M σ (H0++[]) (x0++[]) ts W G:=hI;rw[List.append_nil,List.append_nil]at hI;refine⟨G,hI,rfl,?_,rfl⟩;show gl M W σ (H0++[]) G W σ H0 G;rw[List.append_nil];exact gl.refl _ _ _ _ _
 |cons x K ih=>
  intro σ σ' H0 x0 W G WY hI R9 hne UP ZN Z5 hr;simp only[List.map_cons,putBack]at hr;obtain⟨_,σ1,h1,h2⟩:=aS hr;split at h2
  case isFalse=>simp[SP.run]at h2
  rename_i Yr;simp at Yr;simp only[List.map_cons,jp,oBA,Bool.not_eq_true',List.contains_eq_mem,decide_eq_false_iff_not]at ZN;have NS:∀y∈K,y.1.p.root≠x.1.p.root:=λy hy e=>ZN.1 (by rw[<- e];exact List.mem_map.2 ⟨y,hy,rfl⟩)
  have OX:∀y∈K,x.2.block≠y.2.block:=λy hy e=>by
   have:=UP x (by simp) y (by simp[hy]) e;exact NS y hy (by rw[this])
  have Zy:Inv M σ ((H0++f x)++K.flatMap f) ((x0++v x)++K.flatMap v) ts (RWs w K (eC w W x.2.block)) G:=by
   simpa[RWs,List.append_assoc]using hI
  obtain⟨G1,hI1,PV,Nz,hβ1⟩:=ih (W:=eC w W x.2.block) (by simp[WY,hfv]) Zy (λy hy=>by
   obtain⟨cur0,cur,e,fz,s1,s2,s3⟩:=R9 y (by simp[hy])
   exact⟨cur0,cur,e,fz,s1,by rw[ml (Ne.symm (OX y hy))];exact s2,s3⟩) (λy hy=>hne y (by simp[hy])) (λy hy z hz=>UP y (by simp[hy]) z (by simp[hz])) ZN.2
   (λy hy=>by have:=Z5 y (by simp[hy]);simpa[RWs,List.append_assoc]using this) h1
  obtain⟨Z4,ha,t0,Z3⟩:=Z5 x (by simp)
  have Xv:=wR h1 (r:=x.1.p.root) (λy hy=>by
   obtain⟨z,hz,rfl⟩:=List.mem_map.1 hy
   exact Ne.symm (NS z hz)) x.1.p.off x.1.p.hops.length
  obtain⟨t1,SQ,No⟩:=Nz.keeps.ptr x.1.p x.2 t0 Z4 Xv (by simpa[RWs]using ha) (by simpa[List.append_assoc]using Z3)
  have XX:(H0++f x).drop H0.length=f x:=by simp
  obtain⟨_,G2,H2,ZJ,e1,e2,e3,e4,e5,e6⟩:=EG (k:=H0.length) hI1 Z4 SQ XX (hne x (by simp)) (λj hj hk=>by
   intro e
   have ZT:j-H0.length<(f x).length:=by simp at hj;omega
   have:(H0++f x)[j]=(f x)[j-H0.length]:=by rw[List.getElem_append_right hk]
   rw[this]at e;have:=Yr.2 _ (List.getElem_mem ZT);rw[e]at this
   simp[Bg]at this) h2
  obtain⟨cur0,cur,e,fz,s1,s2,s3,s4,s5⟩:=R9 x (by simp)
  have S3:(x0++v x).drop H0.length=v x:=by rw[WY];simp
  rw[S3,qr s1 s2 s3 s4 s5]at ZJ e5;obtain⟨WU,e7⟩:=ZJ.trunc (k:=H0.length) e2
  have hT:H2.take H0.length=H0:=by
   apply List.ext_getElem
   ·simp[e1]
   ·intro j hj ZT;rw[List.getElem_take];rw[e3 j (by rw[e1];simp;omega) (by simp;omega) ZT];rw[List.getElem_append_left ZT]
  have hX:(x0++v x).take H0.length=x0:=by rw[WY];simp
  rw[hT]at WU e7;rw[hX]at WU;refine⟨G2,WU,e4.trans PV,?_,e6.trans hβ1⟩;have hm2:gl M (eC w W x.2.block) σ1 (H0++f x) G1 W σ' H0 G2:=⟨e5.size,by rw[e7];exact e5.keeps,e5.heap,e5.free⟩;have:=Nz.trans hm2;simpa[RWs,List.append_assoc]using this
end
def gA(P:Program)(f:FuncId):Prop:=∀args w,(callFunc f args).run P w=.ok (.enter f args) w
theorem i8{P:Program}{f:FuncId}{fn:Func}{c:Code}(hf:P.funcs[f]?=some fn)(Uj:(fn.name=="runtime.NumGoroutine")=false)(hb:fn.body=some c):gA P f:=by
 intro args w;unfold callFunc
 simp_all
def LY(M:Fm)(res:sR)(v:Value)(σ2:St)(w2:World):Prop:=
 (∃ys ts2 G2,v=iX res.sh ys/\Inv M σ2 res.cells ys ts2 w2 G2/\∀j (h:j<res.cells.length),bS res.cells[j]=true\/jd res.cells[j]=true)\/
 ∃q vs l pv ts2 G2,res.cells=.ptr q vs::l/\(∃sh,res.sh=.ptr::sh)/\l.all yA=true/\v=ue pv (l.map unV)/\Inv M σ2 [] [] ts2 w2 G2/\LG w2 (bv M σ2 []) G2 q pv
def ee(P:Program)(F:cj):Prop:=
 ∀f vals pts res Zs,F f vals pts=some (res,Zs)->gA P f/\∃N,vals.length<=N/\∀(M:Fm)(asq:List Value)(w:World)(G:Gh),asq.length=vals.length->M.N=N->M.w0=w->(∀r,M.pr r≠none->∃i p vs,vals[i]?=some (.ptr p vs)/\r=2*i+2)->
  Inv M (mkSt vals pts) [] [] (asq.toArray++Array.replicate (N-asq.length) undef) w G ->
  Calls P f asq.toArray w λe w2=>∃v σ2,e=.returned v/\LY M res v σ2 w2/\Zs=pts.map λx=>(x.1,(bt σ2.ce x.1).getD [])
def Dq(P:Program)(E:Env):Prop:=
 ∀f n tm,E.box f=some (n,tm)->gA P f/\(∀x,.val x∈tm->ew x=true)/\∃ty,∀(asq:List Value)(w:World),asq.length=n->(∀y∈tm.map (bxV asq),y.oneCell'=true)->
  Calls P f asq.toArray w λe w'=>e=.returned (.pointer (some ⟨w.heap.size,0,none⟩))/\w'=w.alloc (.cells (tm.map (bxV asq)).toArray ty)
def lP:Op->TOp->Prop
 |.call ⟨.value f,args,_⟩,.call _ f' args'=>aZ f=some f'/\args'.length=args.size/\∀j (h:j<args'.length)(h':j<args.size),aZ args[j]=some args'[j].2
 |_,_=>False
def J8:TOp:=.call false (.c undef) []
def ge(op:Op)(t:TOp):Prop:=t=J8\/lP op t
section
variable {P:Program} {M:Fm} {σ σ':St} {H:List TV} {xs:List Value} {ts:Array Value} {w:World} {G:Gh} {a:Act} {o:Oper}
theorem yq:∀{l:List TV}{i:Nat},(argTs i l).length=l.length:=by
 intro l
 induction l with
 |nil=>intro i;rfl
 |cons t l ih=>intro i;simp[argTs,ih]
theorem Eb{F:Nat->Prop}{V:Vs}{C:Cs}:∀{sh:List RSh}{l:List TV}{ys:List Value},lI sh l.length=true->l.length=ys.length->(∀j (h:j<l.length),TmR w F V C G l[j] (ys.getD j undef))->
 (fN sh l).length=(dP sh ys).length/\∀j (h:j<(fN sh l).length),TmR w F V C G (fN sh l)[j] ((dP sh ys).getD j undef):=by
 intro sh
 induction sh with
 |nil=>intro l ys _ _ _;exact⟨rfl,λj h=>by simp[fN]at h⟩
 |cons s sh ih=>
  intro l ys hs hl ht
  cases s with
  |one=>
   simp only[lI,oBA,oDE]at hs
   cases l with
   |nil=>simp at hs
   |cons t l=>
    cases ys with
    |nil=>simp at hl
    |cons y ys=>
     obtain⟨e,h2⟩:=ih (l:=l) (ys:=ys) (by simpa using hs.2) (by simpa using hl) λj h=>by have:=ht (j+1) (by simpa using h);simpa using this
     refine⟨by simp[fN,dP,e],λj h=>?_⟩
     cases j with
     |zero=>have:=ht 0 (by simp);simpa[fN,dP]using this
     |succ j=>have:=h2 j (by simpa[fN]using h);simpa[fN,dP]using this
  |agg n=>
   simp only[lI,oBA,oDE]at hs
   obtain⟨e,h2⟩:=ih (l:=l.drop n) (ys:=ys.drop n) (by simpa using hs.2) (by simp[hl]) λj h=>by
    have h':n+j<l.length:=by simp at h;omega
    simp_all
   refine⟨by simp[fN,dP,e],λj h=>?_⟩
   cases j with
   |zero=>
    refine .agg (by simp;omega) λj hj=>?_
    have ZT:j<n/\j<l.length:=by simp at hj;omega
    simp_all
   |succ j=>have:=h2 j (by simpa[fN]using h);simpa[fN,dP]using this
  |ptr=>simp[lI]at hs
theorem wI{F:Nat->Prop}{V:Vs}{C:Cs}{sh:List RSh}{l:List TV}{ys:List Value}(hs:lI sh l.length=true)(hl:l.length=ys.length)(ht:∀j (h:j<l.length),TmR w F V C G l[j] (ys.getD j undef)):TmR w F V C G (nP sh l) (iX sh ys):=by
 obtain⟨e,h2⟩:=Eb hs hl ht;by_cases h1:∃x,fN sh l=[x]
 ·obtain⟨x,hx⟩:=h1;have ⟨y,hy⟩:∃y,dP sh ys=[y]:=List.length_eq_one_iff.1 (by simp_all)
  have e1:nP sh l=x:=by unfold nP;rw[hx]
  have e2:iX sh ys=y:=by unfold iX;rw[hy]
  simp_all
 ·have hne:¬ ∃y,dP sh ys=[y]:=λ⟨y,hy⟩=>h1 (List.length_eq_one_iff.1 (by rw[e,hy];rfl))
  have e1:nP sh l=TV.tup (fN sh l):=by
   unfold nP
   simp_all
  have e2:iX sh ys=Value.tuple (dP sh ys).toArray:=by
   unfold iX
   simp_all
  rw[e1,e2];refine .tup (by simp[e]) λj hj=>?_;have:=h2 j hj
  simp_all
theorem JR{res:sR}{ys:List Value}(hI:Inv M σ res.cells ys ts w G)(hok:∀j (h:j<res.cells.length),bS res.cells[j]=true\/jd res.cells[j]=true)(hs:lI res.sh res.cells.length=true)
 {dst:Option Nat}(hd:∀d,dst=some d->d<M.N)(hr:(landR dst res).run σ=some ((),σ')):∃G',Inv M σ' [] [] (match dst with|some d=>ts.setIfInBounds d (iX res.sh ys)|none=>ts) w G':=by
 cases dst with
 |none=>
  simp[landR,SP.run]at hr;subst hr;have ⟨G',hg,_⟩:=hI.drop;exact⟨G',hg.1⟩
 |some d=>
  have ⟨l,σ1,h1,h2⟩:=aS hr;have ⟨G1,hI1,_,hl,ht⟩:=qR hI hok h1;simp[wr,SP.run]at h2;subst h2;exact⟨G1,hI1.wrT (hd d rfl) (wI (by simp_all) (by rw[hl];exact hI.hand) ht)⟩
end
def frM(w:World)(N:Nat):Fm:=⟨w,λ_=>True,λ_=>False,λ_=>none,N,λ_ _=>trivial⟩
def frG:Gh:=⟨λ_=>none,λ_ _=>undef,λ_ _ _=>False⟩
theorem jo(l:List TV):∀i k,bt (dF i l) k=if k<i then none else l[k-i]?:=by
 induction l with
 |nil=>intro i k;simp[dF,bt]
 |cons t l ih=>
  simp[dF,bt]
  grind
def yw(w:World)(t:TV)(x:Value):Prop:=∀F V C G,(∀k,F k)->TmR w F V C G t x
theorem fm.plain{w:World}{F:Nat->Prop}{t:TV}{x:Value}(h:fm w F t x):yw w t x:=λ_ _ _ _ hF=>(h.frame (λ_ _ _=>rfl) λk _ _=>hF k).toTm
theorem calls_flat{P:Program}{F:cj}(hF:ee P F){f:FuncId}{vals:List TV}{avs:List Value}{res:sR}{w:World}(h:F f vals []=some (res,[]))(Zq:res.cells.all yA=true)(hl:avs.length=vals.length)
 (hv:∀j (h:j<vals.length)(h':j<avs.length),yw w vals[j] avs[j]):gA P f/\Calls P f avs.toArray w λe w'=>e=.returned (iX res.sh (res.cells.map unV))/\Below w.heap.size w w':=by
 obtain⟨Y9,N,hN,hc⟩:=hF f vals [] _ _ h;refine⟨Y9,?_⟩;have Y8:∀k,frG.F (frM w N).A k:=λk=>⟨trivial,λ_ _ h=>h,λ_ _ _ _ h=>by simp[frG]at h⟩
 have hst:∀i,(mkSt vals []).t i=vals.getD i .dead:=by
  intro i;simp[St.t,mkSt,jo]
 have hE:∀r o,bv (frM w N) (mkSt vals []) [] r o=.dead:=by
  intro r o;unfold bv;split
  ·simp
  ·rfl
 have hI:Inv (frM w N) (mkSt vals []) [] [] (avs.toArray++Array.replicate (N-avs.length) undef) w frG:=by
  refine⟨⟨λr o=>.inl ⟨hE r o,λ_ h=>h⟩,λ_ _ _ _ h=>by simp[frG]at h,λ_ _ _ _ h=>by simp[frG]at h,λ_ _ _ _ _ _ _ h=>by simp[frG]at h,λ_ _ _ _ h=>by simp[frG]at h,λ_ _ _ _ _ h=>h.elim,λ_ _ _ h=>h.elim⟩,λi=>?_,⟨rfl,rfl,rfl,Nat.le_refl _,λ_ _ _ _=>rfl,λ_ _ _ _ h=>by simp[frM]at h,λ_ _ _ h=>h.elim,λ_ _ _ _ h=>by simp[frG]at h,λ_ h=>by simp[frG]at h⟩,λr l h=>by simp[mkSt,bt]at h,?_,rfl,λj hj=>by simp at hj,λ_ _ _ _ h=>by simp[frG]at h⟩
  ·rw[hst];by_cases hi:i<vals.length
   ·have ZK:i<avs.length:=by omega
    have e1:vals.getD i .dead=vals[i]:=by simp[hi]
    have e2:(avs.toArray++Array.replicate (N-avs.length) undef).getD i undef=avs[i]:=by
     simp[Array.getElem?_append,ZK]
    rw[e1,e2];exact hv i hi ZK _ _ _ frG Y8
   ·have e1:vals.getD i .dead=.dead:=by rw[oGD,oGN (by omega)];rfl
    rw[e1];exact .dead
  ·show(avs.toArray++Array.replicate (N-avs.length) undef).size=N;simp;omega
 refine(hc (frM w N) avs w frG hl rfl rfl (λr hr=>by simp[frM]at hr) hI).mono λe w2 ⟨v,σ2,he,Yi,_⟩=>?_
 rcases Yi with⟨ys,ts2,G2,rfl,ZJ,_⟩|⟨q,vs,l,pv,ts2,G2,ZV,_⟩
 rotate_left
 ·rw[ZV]at Zq;simp[yA]at Zq
 have Yb:ys=res.cells.map unV:=by
  have hlen:res.cells.length=ys.length:=ZJ.hand;apply List.ext_getElem
  ·rw[List.length_map,hlen]
  ·intro j h1 h2
   have hj:j<res.cells.length:=by omega
   have Wd:=List.all_eq_true.1 Zq res.cells[j] (List.getElem_mem hj)
   have hown:=ZJ.hand_own (j:=j) hj (by
    intro e;rw[e]at Wd
    simp[yA]at Wd)
   rw[List.getElem_map]
   have e1:ys.getD j undef=ys[j]:=by simp[oGD,h1]
   rw[e1]at hown
   cases hc:res.cells[j]with
   |v x=>
    rw[hc]at hown
    cases hown with
    |v _ _=>rfl
   |_=>rw[hc]at Wd;simp[yA]at Wd
 subst Yb;exact⟨he,⟨ZJ.fram.os,ZJ.fram.tape,ZJ.fram.output,ZJ.fram.size,λk hk=>ZJ.fram.old k hk (λh=>h) λ_ _ _ _ h=>by simp[frM]at h⟩⟩
section
variable {P:Program} {M:Fm} {σ σ':St} {H:List TV} {xs:List Value} {ts:Array Value} {w:World} {G:Gh} {a:Act} {o:Oper}
theorem Eo{t t':TV}{x:Value}(hI:Inv M σ H xs ts w G)(hx:TmR w (G.F M.A) σ.v (bv M σ H) G t x)(hr:(see1 t).run σ=some (t',σ')):σ'=σ/\fm w (λ_=>True) t' x:=by
 cases hx with
 |v h=>
  obtain⟨rfl,rfl⟩:=hr;exact⟨rfl,.v h⟩
 |nil=>
  obtain⟨rfl,rfl⟩:=hr;exact⟨rfl,.sl 1 (λ_ _=>.nilFunc) (λi h=>by simp at h) (Nat.le_refl _) (Nat.zero_le _) (λ_=>rfl) (λi j h=>by simp at h) (λi j h=>by simp at h)⟩
 |sl h=>
  obtain⟨rfl,rfl⟩:=hr;exact⟨rfl,h.frame (λ_ _ _=>rfl) λ_ _ _=>trivial⟩
 |dead=>simp[see1,SP.run]at hr
 |ptr=>simp[see1,SP.run]at hr
 |ip=>simp[see1,SP.run]at hr
 |agg=>simp[see1,SP.run]at hr
 |tup=>simp[see1,SP.run]at hr
 |fn=>simp[see1,SP.run]at hr
 |pw=>simp[see1,SP.run]at hr
 | @pk p vs x V0 h0 hv hok=>
  obtain⟨_,σ1,h1,h2⟩:=aS hr;have e1:=(bl h1).1;have e2:=(bl h1).2;subst e1;obtain⟨_,c,Zu,Z3⟩:=hok e2;simp only[SP.run]at h2
  have Z6:p.root≠M.hr:=by
   intro e;rw[e]at h2;rw[hI.hr_dead]at h2;cases hp:p.hops<;>rw[hp]at h2<;>simp[bp,SP.run]at h2
  obtain⟨u,fp,h4,h5,_⟩:=hI.core.hv_own p Z3 (by simp);rw[bq Z6]at Z3;rw[Z3]at h2;obtain⟨rfl,rfl⟩:=h2;rw[Zu]at h4
  injection h4 with h4
  subst h4;exact⟨rfl,h5.share'.frame (λ_ _ _=>rfl) λ_ _ _=>trivial⟩
theorem Jx:∀{l l':List TV}{ys:List Value},Inv M σ H xs ts w G->l.length=ys.length->(∀j (h:j<l.length),TmR w (G.F M.A) σ.v (bv M σ H) G l[j] (ys.getD j undef))->(seeL l).run σ=some (l',σ')->
 σ'=σ/\l'.length=l.length/\∀j (h:j<l'.length),fm w (λ_=>True) l'[j] (ys.getD j undef):=by
 intro l
 induction l generalizing σ σ' with
 |nil=>
  intro l' ys hI hl _ hr;simp only[seeL,SP.run,oSJ,oPJ]at hr
  simp_all
 |cons t l ih=>
  intro l' ys hI hl ht hr
  cases ys with
  |nil=>simp at hl
  |cons y ys=>
   obtain⟨t',σ1,h1,h2⟩:=aS hr;have ⟨r',σ2,h3,h4⟩:=aS h2;obtain⟨rfl,rfl⟩:=h4;obtain⟨rfl,k1⟩:=Eo hI (by have:=ht 0 (by simp);simpa using this) h1;obtain⟨rfl,k2,k3⟩:=ih hI (by simpa using hl) (λj h=>by have:=ht (j+1) (by simpa using h);simpa using this) h3;refine⟨rfl,by simp[k2],λj h=>?_⟩
   cases j with
   |zero=>simpa using k1
   |succ j=>have:=k3 j (by simpa using h);simpa using this
theorem Jy{t t':TV}{x:Value}(hI:Inv M σ H xs ts w G)(hx:TmR w (G.F M.A) σ.v (bv M σ H) G t x)(hr:(seeA t).run σ=some (t',σ')):σ'=σ/\yw w t' x:=by
 have one:(see1 t).run σ=some (t',σ')->σ'=σ/\yw w t' x:=λh=>by
  obtain⟨e,k⟩:=Eo hI hx h;exact⟨e,k.plain⟩
 cases t with
 |agg l=>
  obtain⟨l',σ1,h1,h2⟩:=aS hr;obtain⟨rfl,rfl⟩:=h2
  cases hx with
  | @agg _ ys hl ht=>
   obtain⟨e,k1,k2⟩:=Jx (ys:=ys.toList) hI (by simp_all) (λj h=>by simp_all) h1;refine⟨e,λF V C G' hF=>.agg (by rw[hl,k1]) λj hj=>?_⟩;have:=k2 j hj
   have e3:ys.getD j undef=ys.toList.getD j undef:=by simp_all
   rw[e3];exact this.plain F V C G' hF
 |ip cs=>
  obtain⟨rfl,rfl⟩:=hr
  cases hx with
  |ip u hc hr=>exact⟨rfl,λF V C G' hF=>.ip u (λj hj=>⟨hF _,(hc j hj).2⟩) λj hj=>(hr j hj).frame (λ_ _ _=>rfl) λk _ _=>hF k⟩
 |fn f cap=>
  simp only[seeA]at hr;split at hr
  ·rename_i hc;obtain⟨rfl,rfl⟩:=hr;rw[List.all_eq_true]at hc
   cases hx with
   |fn hl ht=>exact⟨rfl,λF V C G' hF=>.fn hl λj hj=>(((ht j hj).imC (hc _ (List.getElem_mem hj))).frame (λ_ _ _=>rfl) λk _ _=>hF k).toTm⟩
  ·simp[SP.run]at hr
 |_=>exact one hr
theorem GN:∀{l:List Opd}{l':List Operand}{Xy:List TV}{σ σ':St},Inv M σ [] [] a.tmps w G->l'.length=l.length->(∀j (h:j<l.length)(h':j<l'.length),aZ l'[j]=some l[j])->(seeAs l).run σ=some (Xy,σ')->
 σ'=σ/\Xy.length=l.length/\∀j (h:j<Xy.length)(h':j<l'.length),yw w Xy[j] (a.eval l'[j]):=by
 intro l
 induction l with
 |nil=>
  intro l' Xy σ σ' hI hl hc hr;simp[seeAs,SP.run]at hr
  simp_all
 |cons x l ih=>
  intro l' Xy σ σ' hI hl hc hr
  cases l' with
  |nil=>simp at hl
  |cons x' l'=>
   obtain⟨t,σ1,h1,h2⟩:=aS hr;obtain⟨t',σ2,h3,h4⟩:=aS h2;obtain⟨r,σ3,h5,h6⟩:=aS h4;obtain⟨rfl,rfl⟩:=h6;obtain⟨rfl,ht⟩:=bP hI.tmr (by have:=hc 0 (by simp) (by simp);simpa using this) h1;obtain⟨rfl,k1⟩:=Jy hI ht h3;obtain⟨rfl,k2,k3⟩:=ih (l':=l') hI (by simpa using hl) (λj h h'=>by have:=hc (j+1) (by simpa using h) (by simpa using h');simpa using this) h5;refine⟨rfl,by simp[k2],λj h h'=>?_⟩
   cases j with
   |zero=>exact k1
   |succ j=>exact k3 j (by simpa using h) (by simpa using h')
theorem H8{F:cj}(hF:ee P F){asq:List Value}{vals:List TV}{YV:FuncId}(hd:∀d,o.dst=some d->d<M.N/\M.pr (2*d+2)=none)(hI1:Inv M σ [] [] a.tmps w G)(hal:asq.length=vals.length)
 (Wn:∀j (h:j<vals.length)(h':j<asq.length),yw w vals[j] asq[j])(h2:(callB F o.dst YV vals).run σ=some ((),σ'))(Yv:gA P YV->(execOp a.eval o).run P w=.ok (.enter YV asq.toArray) w):Kz P M σ' a o w:=by
 intro K' Q hK;obtain⟨r,σ1,h3,h4⟩:=aS h2
 have WT:F YV vals []=some r/\σ1=σ:=by
  cases hq:F YV vals []with
  |none=>rw[hq]at h3;simp[gn,SP.run]at h3
  |some y=>
   rw[hq]at h3;simp only[gn,SP.run,oSJ,oPJ]at h3
   simp_all
 obtain⟨WT,rfl⟩:=WT;split at h4
 case isFalse=>simp[SP.run]at h4
 rename_i Yr;simp only[oBA,oDE]at Yr;obtain⟨res,Zs⟩:=r;obtain rfl:Zs=[]:=oEN Yr.1.1;obtain⟨Y9,VC⟩:=calls_flat hF WT Yr.1.2 hal Wn;unfold Oper.wp;rw[Yv Y9,Oper.upon_enter];refine VC.mono λe w2 ⟨he,hb⟩=>?_;subst he;simp only;have ZJ:=(hI1.grow (w':=w2) (λk hk=>hb.block k hk) hb.size hb.os hb.tape hb.output).1;refine hK (a.put o.dst (iX res.sh (res.cells.map unV))) w2 G ?_ (jT _ _ _)
 cases hdst:o.dst with
 |none=>
  rw[hdst]at h4;simp only[SP.run,oSJ,oPJ,true_and]at h4;rw[<- h4];exact ZJ
 |some d=>
  rw[hdst]at h4;simp only[wr,SP.run,oSJ,oPJ,true_and]at h4;rw[<- h4];refine ZJ.wrT (hd d hdst).1 (wI Yr.2 (by simp) λj hj=>?_);have Wd:=List.all_eq_true.1 Yr.1.2 res.cells[j] (List.getElem_mem hj)
  have e1:(res.cells.map unV).getD j undef=unV res.cells[j]:=by simp[oGD,hj]
  rw[e1]
  cases hc:res.cells[j]with
  |v x=>rw[hc]at Wd;exact .v Wd
  |_=>rw[hc]at Wd;simp[yA]at Wd
end
section
variable {P:Program} {M:Fm} {σ σ':St} {H:List TV} {xs:List Value} {ts:Array Value} {w:World} {G:Gh} {a:Act} {o:Oper}
theorem za:∀{q:List (GP×List TV)}{σ σ':St},(putBack q).run σ=some ((),σ')->∀x∈q,x.2.length=x.1.cells.length:=by
 intro q
 induction q with
 |nil=>simp_all
 |cons y q ih=>
  intro σ σ' h x hx;have ⟨_,σ1,h1,h2⟩:=aS h;split at h2
  ·rename_i Yr;rcases List.mem_cons.1 hx with rfl|hx
   ·simp_all
   ·exact ih h1 x hx
  ·simp[SP.run]at h2
theorem pR.nodup{i:Nat}{vals:List TV}{asq us:List Value}{K:List (GP×Addr)}(h:pR w i vals asq K us):jp (K.map λx=>x.1.i)=true/\∀x∈K,i<=x.1.i:=by
 induction h with
 |nil=>exact⟨rfl,λx hx=>by simp_all⟩
 |ptr hr hb hs h0 hh hu hc hok h ih=>
  refine⟨?_,λx hx=>?_⟩
  ·simp only[List.map_cons,jp,oBA,Bool.not_eq_true',List.contains_eq_mem,decide_eq_false_iff_not];refine⟨λhm=>?_,ih.1⟩;have ⟨y,hy,e⟩:=List.mem_map.1 hm;have:=ih.2 y hy;omega
  ·rcases List.mem_cons.1 hx with rfl|hx
   ·simp_all
   ·have:=ih.2 x hx;omega
 |arg ha h ih=>exact⟨ih.1,λx hx=>by have:=ih.2 x hx;omega⟩
 |own h ih=>exact⟨ih.1,λx hx=>by have:=ih.2 x hx;omega⟩
theorem JK{K:List (GP×Addr)}(ZN:jp (K.map λx=>x.1.i)=true):∀x∈K,prK K (2*x.1.i+2)=some (x.2.block,x.2.off,x.1.cells.length):=by
 induction K with
 |nil=>simp_all
 |cons y K ih=>
  intro x hx;simp only[List.map_cons,jp,oBA,Bool.not_eq_true',List.contains_eq_mem,decide_eq_false_iff_not]at ZN;simp[prK];rcases List.mem_cons.1 hx with rfl|hx
  ·simp
  ·rw[oIN]
   ·exact ih ZN.2 x hx
   ·intro e;exact ZN.1 (List.mem_map.2 ⟨x,hx,by omega⟩)
theorem Bq{α β:Type}{K:List (GP×Addr)}{f:GP×Addr->List α}{g:GP×Addr->List β}(h:∀x∈K,(f x).length=(g x).length):(K.flatMap f).length=(K.flatMap g).length:=by
 induction K with
 |nil=>rfl
 |cons x K ih=>simp_all
theorem wo{α β:Type}:∀{a:List α}{b c:List β},a.length<=b.length->a.zip (b++c)=a.zip b:=by
 intro a
 induction a with
 |nil=>simp_all
 |cons x a ih=>
  intro b c h
  cases b with
  |nil=>simp at h
  |cons y b=>simp_all
def oV(σ:St)(x:GP×Addr):List TV:=(bt σ.ce (2*x.1.i+2)).getD []
def tX(σ:St)(G:Gh)(w:World)(x:GP×Addr):List Value:=(List.range (oV σ x).length).map (G.val w (2*x.1.i+2))
theorem pR.hands2{vals:List TV}{asq us:List Value}{K:List (GP×Addr)}{N:Nat}{σ2:St}{res ys:_}{ts2:Array Value}{w2:World}{G2:Gh}(h:pR w 0 vals asq K us)(Z1:∀x∈K,0<x.1.cells.length)
 (h2:Inv (M.into w G (prK K) N) σ2 res ys ts2 w2 G2)(hlen:∀x∈K,(oV σ2 x).length=x.1.cells.length):
 IS res ys (res++K.flatMap (oV σ2)) (ys++K.flatMap (tX σ2 G2 w2)) (bv (M.into w G (prK K) N) σ2 res) G2 w2 (prK K) (λr=>res.length+bsK K r):=by
 have Ny:∀x∈K,(tX σ2 G2 w2 x).length=x.1.cells.length:=λx hx=>by simp[tX,hlen x hx]
 refine⟨?_,λj hj=>⟨by simp;omega,List.getElem_append_left hj,?_⟩,λr b o n hp t ht=>?_,λj hj=>?_,λr b o n r' b' o' n' hp hp' j j' hj ZT e=>IP _ _ _ _ _ _ _ _ hp hp' j j' hj ZT (by omega)⟩
 ·rw[List.length_append,List.length_append,h2.hand,Bq (f:=oV σ2) (g:=tX σ2 G2 w2) λx hx=>by rw[hlen x hx,Ny x hx]]
 ·rw[oGD,oGD,List.getElem?_append_left (by rw[<- h2.hand];exact hj)]
 ·obtain⟨x,x1,x2,x3,x4,x5,x6,x7⟩:=xT hlen hp;obtain⟨y,y1,y2,y3,y4,y5,y6,y7⟩:=xT Ny hp;have S4:x=y:=pz h.nodup.1 x1 y1 (by omega);subst S4
  have U3:t<(oV σ2 x).length:=by rw[hlen x x1];omega
  have e1:=x7 t ht;rw[oGE U3]at e1;obtain⟨k1,k2⟩:=oGS e1;refine⟨by rw[List.length_append];omega,by omega,?_,?_⟩
  ·have e2:(res++K.flatMap (oV σ2))[res.length+bsK K r+t]'(by rw[List.length_append];omega)=(K.flatMap (oV σ2))[bsK K r+t]:=by
    rw[List.getElem_append_right (by omega)];congr 1;omega
   rw[e2,k2]
   rw[bq (by have:r≠1:=by omega
             exact this)]
   unfold St.c
   have hb:oV σ2 x=(bt σ2.ce r).getD []:=by rw[x2];rfl
   cases ha:bt σ2.ce r with
   |none=>rw[hb,ha]at U3;simp at U3
   |some l=>
    simp only[hb,ha,Option.getD_some]at U3⊢;simp[U3]
  ·have e3:=y7 t ht;rw[oGD,List.getElem?_append_right (by rw[<- h2.hand];omega)];rw[show res.length+bsK K r+t-ys.length=bsK K r+t by rw[<- h2.hand];omega];rw[e3,x2];simp[tX,U3]
 ·by_cases hj1:j<res.length
  ·exact .inl hj1
  ·right;have hc:(K.flatMap (oV σ2)).length=(gx K).length:=Bq hlen;obtain⟨r,b,o,n,t,c1,c2,c3⟩:=Lw h.nodup.1 (j:=j-res.length) (by rw[List.length_append]at hj;omega);exact⟨r,b,o,n,t,c1,c2,by omega⟩
theorem EI:∀{l:List TV}{p:bi}{σ σ':St},p.hops=[]->(putL p l).run σ=some ((),σ')->(∀o,o<p.off->σ'.c p.root o=σ.c p.root o)/\∀t (h:t<l.length),σ'.c p.root (p.off+t)=l[t]:=by
 intro l
 induction l with
 |nil=>
  intro p σ σ' _ h;simp only[putL,SP.run,oSJ,oPJ,true_and]at h
  simp_all
 |cons y l ih=>
  intro p σ σ' hp h;obtain⟨r,off,hops⟩:=p;simp only at hp;subst hp;simp only[putL]at h;obtain⟨_,σ1,h1,h2⟩:=aS h
  have Zr:(∀o,o≠off->σ1.c r o=σ.c r o)/\σ1.c r off=y:=by
   obtain⟨old,l1,vr,hg,hl,ho,hσ1,_⟩:=AY h1;subst hσ1;refine⟨λo hne=>?_,?_⟩
   ·simp only[St.c,bM,if_true,hl];simp[List.getElem?_set,Ne.symm hne]
   ·simp only[St.c,bM,if_true];simp[dB,List.getElem?_set,ho]
  cases l with
  |nil=>
   simp only[SP.run,oSJ,oPJ,true_and]at h2;subst h2;refine⟨λo ho=>Zr.1 o (by simp only at ho;omega),λt ht=>?_⟩
   have:t=0:=by simp at ht;omega
   subst this;exact Zr.2
  |cons y2 l=>
   have XH:(⟨r,off,[]⟩:bi).add 1=⟨r,off+1,[]⟩:=rfl;rw[XH]at h2;obtain⟨k1,k2⟩:=ih (p:=⟨r,off+1,[]⟩) rfl h2;refine⟨λo ho=>?_,λt ht=>?_⟩
   ·simp only at ho;exact(k1 o (by show o<off+1;omega)).trans (Zr.1 o (by omega))
   ·cases t with
    |zero=>simp_all
    |succ t=>
     have:=k2 t (by simpa using ht);rw[show off+(t+1)=off+1+t by omega];simpa using this
theorem wS{x:GP×Addr}{f:GP×Addr->List TV}(hx:x.1.p.hops=[])(h:(putBack ([x].map λx=>(x.1,f x))).run σ=some ((),σ')):∀t,t<(f x).length->σ'.c x.1.p.root (x.1.p.off+t)=(f x).getD t .dead:=by
 intro t ht;have ⟨_,σ1,h1,h2⟩:=aS h;split at h2
 ·rw[(EI hx h2).2 t ht];simp[ht]
 ·simp[SP.run]at h2
theorem BF{F:cj}(hF:ee P F){asq:List Value}{vals:List TV}{ns:List (Option Nat)}{YV:FuncId}{σ1:St}{G1:Gh}(hd:∀d,o.dst=some d->d<M.N/\M.pr (2*d+2)=none)(hI1:Inv M σ1 [] [] a.tmps w G1)(hns:ns.length=vals.length)(hal:asq.length=vals.length)
 (Wn:∀j (h:j<vals.length)(h':j<asq.length),TmR w (G1.F M.A) σ1.v (bv M σ1 []) G1 vals[j] asq[j])(h2:(callV F o.dst YV ns vals).run σ1=some ((),σ'))(Yv:gA P YV->(execOp a.eval o).run P w=.ok (.enter YV asq.toArray) w):Kz P M σ' a o w:=by
 intro K' Q hK;unfold callV at h2;obtain⟨ow,σ0,h3o,h2⟩:=aS h2;obtain⟨q,σ2,h3,h4⟩:=aS h2
 have Vl:(ns.zip vals).length=vals.length:=by simp[hns]
 have Uu:(ns.zip vals).map (·.2)=vals:=by
  rw[List.map_snd_zip];omega
 have NX:∀{σ1:St}{H1:List TV}{G1:Gh},(∀j (h:j<vals.length)(h':j<asq.length),TmR w (G1.F M.A) σ1.v (bv M σ1 H1) G1 vals[j] asq[j])->∀j (h:j<(ns.zip vals).length)(h':j<asq.length),TmR w (G1.F M.A) σ1.v (bv M σ1 H1) G1 (ns.zip vals)[j].2 asq[j]:=λh j h1 h2=>by
  have hj:j<vals.length:=by rw[<- Vl];exact h1
  have:=h j hj h2;simpa using this
 obtain⟨zs,G0,Zj,PF,RM⟩:=yF hI1 (by omega) (NX Wn) h3o;obtain⟨us,G2,K,Pe,UC,hrel,Sg⟩:=Hr (asq:=asq) Zj.1 (by omega) (NX λj h h'=>Zj.tm (Wn j h h')) h3;have SZ:=Hq h3;have ZH:=Zj.trans Pe;rw[Uu]at hrel;obtain⟨_,σ3,h5,h6⟩:=aS h4
 have T4:([]:List TV)++ow.map (·.2)++q.flatMap (·.cells)=ow.map (·.2)++gx K:=by rw[<- UC];simp[gx,List.flatMap_map]
 rw[T4,List.nil_append]at ZH;rw[T4]at Sg;have hz:zs.length=ow.length:=PF.facts.1
 have PH:∀j p vs,vals[j]?=some (.pk p vs)->∃x∈ow,x.1=j:=λj p vs hj=>by
  obtain⟨hjl,hje⟩:=oGS hj
  have XD:j<ns.length:=by omega
  have P8:(ns.zip vals)[j]?=some (ns[j],.pk p vs):=by
   rw[oGE (by omega)];simp[hje]
  have hn:=SZ j _ p vs P8;rw[hn]at P8;obtain⟨x,h7,h8⟩:=RM j p vs P8;exact⟨x,h7,by omega⟩
 obtain⟨rfl,hre⟩:=GT ZH.1 h5;split at h6
 case isFalse=>simp[SP.run]at h6
 rename_i Yr;simp only[oBA,List.all_eq_true,oDE]at Yr;obtain⟨ZN,Z1⟩:=Yr;have WI:∀x∈K,0<x.1.cells.length:=λx hx=>Z1 x.1 (by rw[<- UC];exact List.mem_map_of_mem hx)
 have X6:=λj h h'=>by
  have:=ZH.tm (Wn j h (by omega));simpa using this
 have WA:∀x∈K,x.1.p.root≠1/\G2.addr w x.1.p=some x.2/\(∃t,bp (bv M σ3 (ow.map (·.2)++gx K) x.1.p.root x.1.p.off) x.1.p.hops=some t)/\((∃o n,G2.β x.1.p.root=some (x.2.block,o,n))\/G2.φ x.1.p.root x.1.p.off x.2.block):=λx hx=>by
  obtain⟨r1,ad,r2,r3,_,r4,r5⟩:=hre x.1 (by rw[<- UC];exact List.mem_map_of_mem hx) _ (Sg x hx)
  injection r2 with r2
  injection r2 with r2
  subst r2;exact⟨r1,r3,r4,r5⟩
 have hh:=hrel.hands ZH.1 PF (by rw[UC];exact ZN) WI λx hx=>⟨(WA x hx).1,(WA x hx).2.2.2⟩;obtain⟨r,σ4,h7,h8⟩:=aS h6
 have WT:F YV (argTs 0 vals) (q.map (λg=>(2*g.i+2,g.cells))++ow.map λx=>(2*x.1+3,[x.2]))=some r/\σ4=σ3:=by
  cases hq:F YV (argTs 0 vals) (q.map (λg=>(2*g.i+2,g.cells))++ow.map λx=>(2*x.1+3,[x.2]))with
  |none=>rw[hq]at h7;simp[gn,SP.run]at h7
  |some r'=>
   rw[hq]at h7;simp only[gn,SP.run,oSJ,oPJ]at h7;exact⟨by rw[h7.1],h7.2.symm⟩
 obtain⟨WT,rfl⟩:=WT;obtain⟨res,Zs⟩:=r;simp only at h8;split at h8
 case isFalse=>simp[SP.run]at h8
 rename_i UI;simp only[oBA,oDE]at UI;obtain⟨_,σ5,h9,ZI⟩:=aS h8;obtain⟨Y9,N,hN,VC⟩:=hF YV _ _ _ _ WT;rw[yq]at hN
 have RW:(q.map (λg=>(2*g.i+2,g.cells))++ow.map λx=>(2*x.1+3,[x.2]))=ceK K++ceO ow:=by rw[<- UC];simp[ceK,ceO]
 have hin:=hrel.enter ZH.1 PF PH hh X6 (N:=N) (by omega)
 have Ts:=VC (M.into w G2 (prK K) N) asq w (G2.into (prK K) (λr=>ow.length+bsK K r) (owK ow) (zs++us)) (by rw[yq];exact hal) rfl rfl (λr hr=>by
  have hr:prK K r≠none:=hr
  cases hp:prK K r with
  |none=>exact absurd hp hr
  |some y=>
   obtain⟨b,o,n⟩:=y;obtain⟨x,x1,x2,_⟩:=gO hp;obtain⟨_,_,p,vs,s1⟩:=hrel.slot x x1;refine⟨x.1.i,⟨2*x.1.i+2,0,p.hops⟩,List.replicate (p.hops.length+1) 0,?_,x2⟩;rw[yr];have s1:vals[x.1.i]?=some (.ptr p vs):=s1;rw[s1]
   simp[argT]) (by rw[RW];exact hin)
 have hrun:=Yv Y9;unfold Oper.wp;rw[hrun,Oper.upon_enter];refine Ts.mono λe w2 ⟨v,σc,he,Yi,RX⟩=>?_;subst he;simp only
 have P7:q.zip (Zs.map (·.2))=K.map λx=>(x.1,oV σc x):=by
  rw[RX,RW,<- UC];simp only[ceK,List.map_append,List.map_map];rw[wo (by simp),List.zip_map'];rfl
 rw[P7]at h9;have WE:∀x∈K,(oV σc x).length=x.1.cells.length:=λx hx=>za h9 _ (List.mem_map.2 ⟨x,hx,rfl⟩);have ZB:=JK hrel.nodup.1
 have hlt:∀x∈K,x.2.block<w.heap.size:=λx hx=>by
  obtain⟨cur,e,fz,hb,_⟩:=mC (hh.here _ _ _ _ (ZB x hx) 0 (WI x hx)).1;exact(Array.getElem?_eq_some_iff.1 hb).1
 have UP:∀x∈K,∀y∈K,x.2.block=y.2.block->x=y:=λx hx y hy e=>by
  have h1:=ZB x hx;have h2:=ZB y hy;rw[<- e]at h2;have:=hh.inj _ _ _ _ _ _ _ h1 h2;exact pz hrel.nodup.1 hx hy (by omega)
 have back:∀{Hc:List TV}{ys:List Value}{ts2:Array Value}{Gc:Gh},Inv (M.into w G2 (prK K) N) σc Hc ys ts2 w2 Gc->∃G4,Inv M σ5 Hc ys a.tmps w2 G4/\G4.β=G2.β:=by
  intro Hc ys ts2 Gc V8;have hH2:=hrel.hands2 (M:=M) (G:=G2) (N:=N) WI V8 WE;have hsz:w.heap.size<=w2.heap.size:=V8.fram.size
  obtain⟨G3,WU,hm3,hβ3⟩:=ZH.1.leave hh V8 hH2 (w':=RWs w K w2) Ih wl.1 wl.2.1 wl.2.2 (λk hk=>LE λx hx=>hk _ _ _ _ (ZB x hx)) (λr b o n hp=>by
   obtain⟨x,x1,x2,x3,_⟩:=gO hp;rw[x3]
   exact LF (hlt x x1) (Nat.lt_of_lt_of_le (hlt x x1) hsz) ⟨x,x1,rfl⟩)
  obtain⟨G4,T5,htm4,hm4,hβ4⟩:=Cj (w:=w) (f:=oV σc) (v:=tX σc Gc w2) (λx=>by simp[tX]) (K:=K) (W:=w2) V8.hand WU (λx hx=>by
   have hp:=ZB x hx;obtain⟨hβ,cur0,cur,e,fz,p1,p2,p3,p4⟩:=V8.fram.par _ _ _ _ hp
   have TS:(tX σc Gc w2 x).length=x.1.cells.length:=by simp[tX,WE x hx]
   refine⟨cur0,cur,e,fz,p1,p2,p3,λj hj=>p4 j (by rw[TS]at hj;exact hj),λj hj=>?_⟩;have UG:=V8.core.boxcell hβ (o:=j) (by omega);obtain⟨Yq,e',fz',c1,c2,c3⟩:=mC UG;rw[p2]at c1
   injection c1 with c1
   injection c1 with c1 _ _
   subst c1;rw[c3]
   simp[tX]) (λx hx e=>by have h1:=WE x hx;have h2:=WI x hx;rw[e,List.length_nil]at h1;omega) UP (by rw[<- UC]at ZN;simpa[Function.comp_def]using ZN) (λx hx=>by
   obtain⟨r1,r2,⟨t,r3⟩,_⟩:=WA x hx;obtain⟨t',k1,k2⟩:=hm3.keeps.ptr x.1.p x.2 t r1 rfl r2 r3
   exact⟨r1,k1,t',k2⟩) h9
  exact⟨G4,T5,hβ4.trans hβ3⟩
 rcases Yi with⟨ys,ts2,Gc,rfl,V8,RO⟩|⟨pl,pvs,fl,pv,ts2,Gc,ZV,⟨shr,hsh⟩,Zq,rfl,V8,Up⟩
 ·obtain⟨G4,T5,_⟩:=back V8
  have hP:isP res=false:=by
   cases hp:isP res with
   |false=>rfl
   |true=>
    unfold isP at hp;split at hp
    ·rename_i sh1 p vs l1 e1 e2;have:=RO 0 (by rw[e2];simp);simp[e2,bS,jd]at this
    ·cases hp
  rw[hP]at ZI UI;simp only[Bool.false_eq_true,if_false,Bool.false_or]at ZI UI;obtain⟨G5,V7⟩:=JR T5 RO UI.2 (dst:=o.dst) (λd hd'=>(hd d hd').1) ZI;refine hK (a.put o.dst (iX res.sh ys)) w2 G5 ?_ (jT _ _ _)
  cases hdst:o.dst with
  |none=>rw[hdst]at V7;exact V7
  |some d=>rw[hdst]at V7;exact V7
 ·obtain⟨G4,T5,hβ4⟩:=back V8
  have hP:isP res=true:=by unfold isP;rw[ZV,hsh]
  rw[hP]at ZI;simp only[if_true]at ZI
  have Pb:∃G5,Inv M σ' [] [] (match o.dst with|some d=>a.tmps.setIfInBounds d (ue pv (fl.map unV))|none=>a.tmps) w2 G5:=by
   cases hdst:o.dst with
   |none=>
    rw[hdst]at ZI;simp only[landP,SP.run,oSJ,oPJ,true_and]at ZI;subst ZI;exact⟨G4,T5⟩
   |some d=>
    rw[hdst,ZV]at ZI;simp only[landP]at ZI;split at ZI
    case h_2=>simp[SP.run]at ZI
    rename_i pl' vs' l' g Xe Ym
    injection Xe with Xe hql
    injection Xe with Xe _
    subst Xe;subst hql;split at ZI
    case isFalse=>simp[SP.run]at ZI
    rename_i Q8;simp only[oBA,beq_iff_eq,List.isEmpty_iff]at Q8;obtain⟨Z6,XZ⟩:=Q8;obtain⟨nvs,σ6,Wv,SL⟩:=aS ZI;rw[qM,nw]at Wv
    injection Wv with Wv
    injection Wv with Wv h13
    subst Wv;subst h13;simp only[wr,SP.run,oSJ,oPJ,true_and]at SL;subst SL;obtain⟨x,rfl⟩:∃x,K=[x]:=List.length_eq_one_iff.1 (by have:=congrArg List.length UC;simpa using this)
    have P0:x.1=g:=by simpa using UC
    have P1:x∈[x]:=by simp
    obtain⟨r1,r2,_,_⟩:=WA x P1;have hp:=ZB x P1;obtain⟨hβc,_⟩:=V8.fram.par _ _ _ _ hp
    have Nr:x.1.p.hops=[]:=by rw[P0];exact XZ
    have XL:pl.root=2*x.1.i+2:=by rw[P0];exact Z6
    obtain⟨b0,o0,n0,hβ0,Q5⟩:∃b0 o0 n0,G4.β x.1.p.root=some (b0,o0,n0)/\x.2=⟨b0,o0+x.1.p.off,none⟩:=by
     rw[hβ4];unfold Gh.addr at r2;rw[Nr]at r2;simp only at r2
     cases hb:G2.β x.1.p.root with
     |none=>rw[hb]at r2;simp at r2
     |some y=>
      obtain⟨b0,o0,n0⟩:=y;rw[hb]at r2
      injection r2 with r2
      exact⟨b0,o0,n0,rfl,r2.symm⟩
    have VF:=wS Nr h9;refine⟨G4,T5.wrT (hd d hdst).1 (Ed (.ptr _ (λ_=>Nat.le_refl _) rfl λ_=>?_) Zq)⟩;rw[<- P0];obtain⟨_,ad,t,ha,hv,ht⟩:=Up;refine⟨r1,ad,?_⟩
    have hval:G4.val w2 x.1.p.root (x.1.p.off+pl.off)=Gc.val w2 pl.root pl.off:=by
     unfold Gh.val;rw[hβ0,XL,hβc];simp only[Q5,Nat.add_assoc]
    cases hho:pl.hops with
    |nil=>
     rw[hho]at ht;refine⟨_,?_,hv,rfl⟩;rw[<- ha];unfold Gh.addr;simp only[hho,hβ0,XL,hβc,Q5,Nat.add_assoc]
    |cons h1 hs=>
     rw[hho]at ht;refine⟨t,?_,hv,?_⟩
     ·rw[<- ha];unfold Gh.addr;simp only[hho];rw[hval]
     ·have PC:x.1.p.root≠M.hr:=r1;rw[bq PC]
      have YY:pl.off<x.1.cells.length:=by
       rcases Nat.lt_or_ge pl.off x.1.cells.length with h|h
       ·exact h
       ·have:=V8.core.boxc _ _ _ _ hβc pl.off h;rw[XL]at ht;rw[this]at ht;simp[bp]at ht
      have Ze:=VF pl.off (by rw[WE x P1];exact YY)
      have Vf:bv (M.into w G2 (prK [x]) N) σc [] pl.root pl.off=(oV σc x).getD pl.off .dead:=by
       rw[XL,bq (by show 2*x.1.i+2≠1;omega)];unfold oV St.c
       cases bt σc.ce (2*x.1.i+2)with
       |none=>simp
       |some l=>rfl
      rw[Vf]at ht;rw[Ze];exact ht
  obtain⟨G5,V7⟩:=Pb;refine hK (a.put o.dst (ue pv (fl.map unV))) w2 G5 ?_ (jT _ _ _)
  cases hdst:o.dst with
  |none=>rw[hdst]at V7;exact V7
  |some d=>rw[hdst]at V7;exact V7
theorem lF{YV:FuncId}{args':Array Operand}{caps:Array Value}{fo:Operand}{Uz:Array TypeId}(ho:o.op=.call ⟨.value fo,args',Uz⟩)(hv:a.eval fo=.func (.func YV) #[] caps)(Y9:gA P YV):
 (execOp a.eval o).run P w=.ok (.enter YV (args'.map a.eval++caps)) w:=by
 unfold execOp;simp only[resolve];simp[Deferred.ofValue,invoke];have:=Y9 (args'.map a.eval++caps) w
 simp_all
theorem Hx{E:Env}(hB:Dq P E){asq:List Value}{vals:List TV}{YV:FuncId}{n:Nat}{tm:List BxC}(O0:E.box YV=some (n,tm))(hn:vals.length=n){σ1:St}{G1:Gh}(hd:∀d,o.dst=some d->d<M.N/\M.pr (2*d+2)=none)(hI1:Inv M σ1 [] [] a.tmps w G1)(hal:asq.length=vals.length)
 (Wn:∀j (h:j<vals.length)(h':j<asq.length),TmR w (G1.F M.A) σ1.v (bv M σ1 []) G1 vals[j] asq[j])(h2:(evBox o.dst tm vals).run σ1=some ((),σ'))(Yv:gA P YV->(execOp a.eval o).run P w=.ok (.enter YV asq.toArray) w):Kz P M σ' a o w:=by
 intro K' Q hK;obtain⟨Y9,Zq,ty,VC⟩:=hB YV n tm O0
 cases hdst:o.dst with
 |none=>rw[hdst]at h2;simp[evBox,SP.run]at h2
 |some d=>
  rw[hdst]at h2;obtain⟨hdN,YA⟩:=hd d hdst;obtain⟨l,σ2,h3,h4⟩:=aS h2
  obtain⟨RB,Zr,G2,ZH⟩:=mi (ys:=tm.map (bxV asq)) hI1 (by simp) (λj h=>by
   have hj:j<tm.length:=by simpa using h
   simp only[List.getElem_map,oGD,List.getElem?_map,oGE hj,oMS,Option.getD_some]
   cases hb:tm[j]with
   |val x=>exact .v (Zq x (by rw[<- hb];exact List.getElem_mem hj))
   |arg i=>
    simp only[bxT,bxV];by_cases hi:i<vals.length
    ·simp_all
    ·have:vals.getD i .dead=.dead:=by simp[oGD,oGN (by omega:vals.length<=i)]
     rw[this];exact .dead) h3
  obtain⟨G3,WU,_,hβ⟩:=ZH.1.newBox (2*d+2) ty (by omega) YA (by omega);have X3:(wr d (.ptr ⟨2*d+2,0,[]⟩ [(σ2.root (2*d+2) l).v (2*d+2,0,0)])).run (σ2.root (2*d+2) l)=some ((),σ'):=h4;simp only[wr,SP.run,oSJ,oPJ,true_and]at X3;subst X3;unfold Oper.wp;rw[Yv Y9,Oper.upon_enter];refine(VC asq w (by omega) Zr).mono λe w2 ⟨he,hw⟩=>?_;subst he;subst hw;simp only;refine hK (a.put o.dst (.pointer (some ⟨w.heap.size,0,none⟩))) _ G3 ?_ (jT _ _ _);rw[hdst];refine WU.wrT hdN (.ptr (σ2.root (2*d+2) l).v (λ_=>Nat.le_refl _) (by simp[fU]) λ_=>⟨by simp_all,⟨w.heap.size,0,none⟩,_,?_,rfl,rfl⟩);unfold Gh.addr
  simp_all
theorem AQ{E:Env}{F:cj}(hB:Dq P E)(hF:ee P F):sO P M ge (evCall E F):=by
 intro o t σ σ' a w G hc hd hI hr;rcases hc with rfl|hc
 ·simp[evop,evCall,J8,SP.run]at hr
 cases ho:o.op with
 |call c=>
  rw[ho]at hc;obtain⟨callee,args,Uz⟩:=c
  cases callee with
  |value fo=>
   cases t with
   |call k f' args'=>
    simp only[lP]at hc;obtain⟨hf,hlen,VA⟩:=hc;simp only[evop]at hr
    cases f' with
    |f YV=>
     have Ri:fo=.func YV:=by cases fo<;>simp[aZ]at hf;rw[hf]
     have VI:∀YV,fo=.func YV->gA P YV->(execOp a.eval o).run P w=.ok (.enter YV (args.toList.map a.eval).toArray) w:=λYV Ri Y9=>by
      have:=lF (a:=a) (w:=w) ho (by rw[Ri];rfl:a.eval fo=.func (.func YV) #[] #[]) Y9
      have ea:(args.toList.map a.eval).toArray=args.map a.eval:=by apply Array.ext';rw[Array.toList_map]
      rw[ea];simpa using this
     have VI:=VI YV Ri;simp only[evCall]at hr
     cases k with
     |false=>
      simp only[Bool.false_eq_true,if_false]at hr;obtain⟨vals,σ1,h1,h2⟩:=aS hr;obtain⟨rfl,YC,Wn⟩:=GN (l':=args.toList) hI (by simp[hlen]) (λj h h'=>by have:=VA j (by simpa using h) (by simpa using h');simpa using this) h1
      have Sn:vals.length=args'.length:=by rw[YC];simp
      exact H8 hF hd hI (by simp;omega) (λj h h'=>by have:=Wn j h (by simpa using h');simpa using this) h2 VI
     |true=>
     simp only[if_true]at hr;obtain⟨vals,σ1,h1,h2⟩:=aS hr;obtain⟨G1,Z0,YC,Wn⟩:=BH (l':=args.toList) hI (by simp[hlen]) (λj h h'=>by have:=VA j (by simpa using h) (by simpa using h');simpa using this) h1;have Sn:vals.length=args'.length:=YC;split at h2
     ·rename_i x O0;split at h2
      case isFalse=>simp[SP.run]at h2
      rename_i hn;exact Hx hB O0 hn hd Z0.1 (by simp;omega) (λj h h'=>by have:=Wn j h (by simpa using h');simpa using this) h2 VI
     ·exact BF hF hd Z0.1 (by simp;omega) (by simp;omega) (λj h h'=>by have:=Wn j h (by simpa using h');simpa using this) h2 VI
    |t i=>
     simp only[evCall,SP.run]at hr;split at hr
     case h_2=>simp[SP.run]at hr
     rename_i YV caps htv;obtain⟨vals,σ1,h1,h2⟩:=aS hr;obtain⟨G1,Z0,YC,Wn⟩:=BH (l':=args.toList) hI (by simp[hlen]) (λj h h'=>by have:=VA j (by simpa using h) (by simpa using h');simpa using this) h1;have Sn:vals.length=args'.length:=YC
     have Ri:fo=.tmp i:=by cases fo<;>simp[aZ]at hf;rw[hf]
     have Y':=hI.tmr i;rw[htv]at Y'
     have XB:a.eval fo=a.tmps.getD i undef:=by rw[Ri];rfl
     generalize hz:a.tmps.getD i undef=z at Y' XB
     cases Y' with
     | @fn _ _ xs hcl Rb=>
      have VI:gA P YV->(execOp a.eval o).run P w=.ok (.enter YV (args.toList.map a.eval++xs.toList).toArray) w:=λY9=>by
       have:=lF (a:=a) (w:=w) ho XB Y9
       have ea:(args.toList.map a.eval++xs.toList).toArray=args.map a.eval++xs:=by apply Array.ext';simp
       rw[ea];exact this
      have Q9:xs.toList.length=caps.length:=by simpa using hcl
      exact BF hF hd Z0.1 (by simp[H7];omega) (by simp;omega) (λj h h'=>by
       by_cases hj:j<vals.length
       ·have:=Wn j hj (by simp;omega);simpa[List.getElem_append_left,hj,List.getElem_append,show j<args.size by omega]using this
       ·have X9:j-vals.length<caps.length:=by simp at h;omega
        have:=Z0.tm (Rb (j-vals.length) X9)
        have TF:¬j<args.size:=by omega
        have e1:args.size=vals.length:=by omega
        simp only[List.getElem_append,hj,dite_false,List.length_map,Array.length_toList,TF,Array.getElem_toList];simp only[e1]
        have e2:xs.getD (j-vals.length) undef=xs[j-vals.length]:=by simp[Array.getD_eq_getD_getElem?,show j-vals.length<xs.size by omega]
        rw[<- e2]
        exact this) h2 VI
    |_=>simp[evCall,SP.run]at hr
   |_=>simp[lP]at hc
  |_=>cases t<;>simp[lP]at hc
 |_=>rw[ho]at hc;cases t<;>simp[lP]at hc
end
theorem mh{P:Program}{ops:Array Oper}{Q:Exit->Act->World->Prop}{i:Nat}{L:List Nat}{a:Act}{w:World}{o:Oper}{v:Value}(ho:ops[i]?=some o)(hg:o.guard=none)(hrun:(execOp a.eval o).run P w=.ok (.value v) w)(h:wpOps P ops Q L (a.put o.dst v) w):wpOps P ops Q (i::L) a w:=by
 simp[wpOps,ho];rw[oIP (by simp[Region.wanted,hg])];left;unfold Oper.wp;rw[hrun];exact h
structure Gb (P:Program)(c rest:Code):Prop where
 ex:∃(i0 i1 i2:Nat)(o0 o1 o2 o3:Oper)(ty ty2 e:TypeId),c=.seq (.region i0 #[o0] false) (.seq (.seq (.region i1 #[o1,o2] false) (.cond (.tmp 4) (.seq (.region i2 #[o3] false) .ret) .skip)) rest)/\
  (o0.dst=some 2/\o0.guard=none/\o0.op=.assign (.const (.slice none 0 0)))/\(o1.dst=some 3/\o1.guard=none/\o1.op=.move (.tmp 0))/\
  (o2.dst=some 4/\o2.guard=none/\o2.op=.binOp .eql ty (.tmp 3) (.const (.slice none 0 0)) ty2)/\(o3.dst=some 2/\o3.guard=none/\o3.op=.assign (.const (.slice none 0 0)))/\P.underlying ty=some (.slice e)
def sr(ts:Array Value)(x:Value)(b:Bool):Array Value:=((ts.setIfInBounds 2 (.slice none 0 0)).setIfInBounds 3 x).setIfInBounds 4 (.bool b)
theorem H4{P:Program}{c rest:Code}(hc:Gb P c rest){ad:Option Addr}{n cap:Nat}{ts:Array Value}{w:World}{Q:Exit->Act->World->Prop}(h0:ts.getD 0 undef=.slice ad n cap)(hN:4<ts.size)
 (hnil:ad=none->Q .ret ⟨(sr ts (.slice ad n cap) true).setIfInBounds 2 (.slice none 0 0),[]⟩ w)(ZL:ad≠none->rest.wp P Q ⟨sr ts (.slice ad n cap) false,[]⟩ w):c.wp P Q ⟨ts,[]⟩ w:=by
 obtain⟨i0,i1,i2,o0,o1,o2,o3,ty,ty2,e,rfl,⟨d0,g0,p0⟩,⟨d1,g1,p1⟩,⟨d2,g2,p2⟩,⟨d3,g3,p3⟩,hu⟩:=hc.ex
 have V4:∀{o:Oper}{a:Act}{x:Operand},(o.op=.assign x\/o.op=.move x)->(execOp a.eval o).run P w=.ok (.value (a.eval x)) w:=λho=>by rcases ho with ho|ho<;>simp[execOp,ho]
 refine wp_seq (wp_region ?_);show wpOps P #[o0] _ [0] _ w;refine mh (o:=o0) rfl g0 (V4 (.inl p0)) ?_;rw[d0];refine wp_seq (wp_seq (wp_region ?_));show wpOps P #[o1,o2] _ [0,1] _ w;refine mh (o:=o1) rfl g1 (V4 (.inr p1)) ?_;rw[d1]
 have e0:(ts.setIfInBounds 2 (.slice none 0 0)).getD 0 undef=.slice ad n cap:=by
  rw[<- h0];simp[Array.getD_eq_getD_getElem?,Array.getElem?_setIfInBounds]
 have e3:((ts.setIfInBounds 2 (.slice none 0 0)).setIfInBounds 3 (.slice ad n cap)).getD 3 undef=.slice ad n cap:=by
  simp[Array.getD_eq_getD_getElem?,Array.getElem?_setIfInBounds,show 3<ts.size by omega]
 have WJ:(execOp (Act.mk ((ts.setIfInBounds 2 (.slice none 0 0)).setIfInBounds 3 (.slice ad n cap)) []).eval o2).run P w=.ok (.value (.bool ad.isNone)) w:=by
  have hb:=Lib.run_eql_slice_nil (P:=P) w ty e ad n cap 0 0 hu;have ex:(Act.mk ((ts.setIfInBounds 2 (.slice none 0 0)).setIfInBounds 3 (.slice ad n cap)) []).eval (.tmp 3)=.slice ad n cap:=e3;have ey:∀a:Act,a.eval (.const (.slice none 0 0))=.slice none 0 0:=λ_=>rfl;have hg:(eqGuard .eql ty (.tmp 3) (.const (.slice none 0 0)) (.slice ad n cap) (.slice none 0 0)).run P w=.ok () w:=rfl;simp[execOp,p2,ex,ey,hb,hg]
 refine mh (o:=o2) (v:=.bool ad.isNone) rfl g2 ?_ ?_
 ·show(execOp (Act.mk ((ts.setIfInBounds 2 (.slice none 0 0)).setIfInBounds 3 ((ts.setIfInBounds 2 (.slice none 0 0)).getD 0 undef)) []).eval o2).run P w=_;rw[e0];exact WJ
 rw[d2];show(Code.cond (.tmp 4) _ _).wp P _ ⟨((ts.setIfInBounds 2 (.slice none 0 0)).setIfInBounds 3 ((ts.setIfInBounds 2 (.slice none 0 0)).getD 0 undef)).setIfInBounds 4 (.bool ad.isNone),[]⟩ w;rw[e0]
 have e4:∀b,(sr ts (.slice ad n cap) b).getD 4 undef=.bool b:=λb=>by
  unfold sr;simp[Array.getD_eq_getD_getElem?,Array.getElem?_setIfInBounds,hN]
 cases ad with
 |none=>
  refine wp_cond_true (e4 true) (wp_seq (wp_region ?_));show wpOps P #[o3] _ [0] _ w;refine mh (o:=o3) rfl g3 (V4 (.inl p3)) ?_;rw[d3];exact wp_ret (hnil rfl)
 |some ad=>exact wp_cond_false (e4 false) (wp_skip (ZL (by simp)))
def yh(sz:Nat)(b:Bool)(bytes:Nat)(mv fl:Bool)(id:Nat):gu:=
 .seq (.reg id none [⟨some 5,none,.bsl sz b 0 []⟩,⟨some 6,none,.mov (.t 0)⟩,⟨some 7,none,.app sz bytes mv fl (.t 5) (.t 6)⟩,⟨some 2,none,.asn true (.t 7)⟩] ([2],[7])) .ret
def ye(call:Option Nat->TOp->SP Unit)(N:Nat)(tc:gu):Option (List TV×List RSh):=(runC call N tc (mkSt [.sl []] [])).bind λx=>match x.1 with|.exit _=>none|_=>((resF 1 [.tmp 2]).run x.2).map (·.1)
theorem C8(call:Option Nat->TOp->SP Unit)(N sz:Nat)(b:Bool)(bytes:Nat)(mv fl:Bool)(id:Nat):ye call N (yh sz b bytes mv fl id)=ye (λ_ _=>.fail) 0 (yh sz b bytes mv fl id):=rfl
def qX(tc:gu):Bool:=match ye (λ_ _=>.fail) 0 tc with
 |some ([.ow []],[.one])=>true
 |_=>false
theorem Ai{tc:gu}(h:qX tc=true):ye (λ_ _=>.fail) 0 tc=some ([.ow []],[.one]):=by
 unfold qX at h
 grind
def jn(pp:List Nat):Nat->List TV->Bool
 |_,[]=>true
 |i,.ptr _ _::r=>pp.contains i&&jn pp (i+1) r
 |i,.sl _::r=>jn pp (i+1) r
 |i,_::r=>!pp.contains (1000+i)&&jn pp (i+1) r
theorem EN{pp:List Nat}:∀{l:List TV}{i:Nat},jn pp i l=true->∀j p vs,l[j]?=some (.ptr p vs)->i+j∈pp:=by
 intro l
 induction l with
 |nil=>simp_all
 |cons t l ih=>
  intro i h j p vs hj
  have hr:jn pp (i+1) l=true:=by
   cases t<;>simp only[jn,oBA]at h<;>first|exact h.2|exact h
  cases j with
  |zero=>
   have:t=.ptr p vs:=by simp_all
   subst this;simp[jn,List.contains_eq_mem,oDE]at h;exact h.1
  |succ j=>
   have:=ih hr j p vs (by simp_all);rw[show i+(j+1)=i+1+j by omega];exact this
def runT(E:Env)(F:cj)(n:Nat)(tf:TFn)(vals:List TV)(pts:Pts):Option (sR×Pts):=
 if vals.length=tf.np/\(jn tf.pp 0 vals&&(!tf.pp.contains 1000||pts.isEmpty))=true then
  (runC (evCall E F) n tf.body (mkSt vals pts)).bind λx=>match x.1 with
   |.exit _=>none
   |_=>((resF tf.np tf.res).run x.2).bind λy=>some (⟨y.1.1,y.1.2⟩,pts.map λx=>(x.1,(bt y.2.ce x.1).getD []))
 else none
def yJ(E:Env)(T:FuncId->Option TFn)(B F:cj)(n:Nat):cj:=λf vals pts=>
 match T f with
 |none=>B f vals pts
 |some tf=>runT E F n tf vals pts
def runF(E:Env)(T:FuncId->Option TFn)(B:cj):Nat->cj
 |0=>λ_ _ _=>none
 |n+1=>yJ E T B (runF E T B n) n
def Ga(P:Program)(tf:TFn)(c:Code):Prop:=
 tf.np=1/\tf.pp=[1000]/\tf.nt=8/\tf.res=[.tmp 2]/\qX tf.body=true/\(∃sz b bytes mv fl id,tf.body=yh sz b bytes mv fl id)/\
  ∃rest,Gb P c rest/\∀M:Fm,M.N=tf.nt->(∀r,M.pr r≠none->∃i∈tf.pp,r=2*i+2)->ff P M ge tf.body rest
def Dn(P:Program)(T:FuncId->Option TFn):Prop:=
 ∀f tf,T f=some tf->∃fn c,P.funcs[f]?=some fn/\(fn.name=="runtime.NumGoroutine")=false/\fn.body=some c/\fn.ntmps=tf.nt/\tf.np<=tf.nt /\
  ((∀M:Fm,M.N=tf.nt->(∀r,M.pr r≠none->∃i∈tf.pp,r=2*i+2)->ff P M ge tf.body c)\/Ga P tf c)/\tf.res.length=fn.results.size/\∀k (h:k<tf.res.length)(h':k<fn.results.size),Ap P tf.res[k] fn.results[k]
section
variable {P:Program} {E:Env} {T:FuncId->Option TFn} {B F:cj}
def LT(tf:TFn)(pts:Pts)(x:gt×St):Option (sR×Pts):=match x.1 with
 |.exit _=>none
 |_=>((resF tf.np tf.res).run x.2).bind λy=>some ((⟨y.1.1,y.1.2⟩:sR),pts.map λ(x:Nat×List TV)=>(x.1,(bt y.2.ce x.1).getD []))
theorem Al{tf:TFn}{fn:Func}{M:Fm}{σ1:St}{a':Act}{w':World}{G':Gh}{pts Zs:Pts}{res:sR}{e:gt}(UY:tf.res.length=fn.results.size)(Yt:∀k (h:k<tf.res.length)(h':k<fn.results.size),Ap P tf.res[k] fn.results[k])
 (Zy:Inv M σ1 [] [] a'.tmps w' G')(hd:a'.defers=[])(h2:LT tf pts (e,σ1)=some (res,Zs)):
 bodyPost P fn (λe w2=>∃v σ2,e=.returned v/\LY M res v σ2 w2/\Zs=pts.map λ(x:Nat×List TV)=>(x.1,(bt σ2.ce x.1).getD [])) e.toExit a' w':=by
 unfold LT at h2
 have SA:∀y,(resL tf.np tf.res).run σ1=some y->some ((⟨y.1.1,y.1.2⟩:sR),pts.map λx=>(x.1,(bt y.2.ce x.1).getD []))=some (res,Zs)->a'.defers=[]/\∃v,(results fn a'.tmps).run P w'=.ok v w' /\
  ∃v' σ2,Ending.returned v=.returned v'/\LY M res v' σ2 w'/\Zs=pts.map λx=>(x.1,(bt σ2.ce x.1).getD []):=by
  rintro⟨r,σ2⟩ hr he;obtain⟨vs,ys,G2,hrun,hg,hl,hok,hrv⟩:=JF (qs':=fn.results.toList) Zy (by simpa using UY) (λk h h'=>by have:=Yt k h (by simpa using h');simpa using this) hr
  injection he with he
  injection he with Rf O8
  subst Rf;subst O8;refine⟨hd,iX r.2 ys,?_,iX r.2 ys,σ2,rfl,.inl ⟨ys,a'.tmps,G2,rfl,by simpa using hg.1,hok⟩,rfl⟩;unfold results;rw[Array.mapM_eq_mapM_toList];simp only[Sem.run_bind,Sem.run_map]
  erw[hrun]
  unfold iX;rw[hrv]
  cases vs with
  |nil=>rfl
  |cons v vs=>
   cases vs with
   |nil=>rfl
   |cons v2 vs=>rfl
 have ZQ:∀y,(resF tf.np tf.res).run σ1=some y->some ((⟨y.1.1,y.1.2⟩:sR),pts.map λx=>(x.1,(bt y.2.ce x.1).getD []))=some (res,Zs)->a'.defers=[]/\∃v,(results fn a'.tmps).run P w'=.ok v w' /\
  ∃v' σ2,Ending.returned v=.returned v'/\LY M res v' σ2 w'/\Zs=pts.map λx=>(x.1,(bt σ2.ce x.1).getD []):=by
  intro y hr he;unfold resF at hr;split at hr
  ·rename_i t rs Se;simp only[SP.run]at hr;split at hr
   ·rename_i p vs htv;obtain⟨_,σ2,h3,h4⟩:=aS hr;have e1:σ2=σ1:=(bl h3).1;have e2:=(bl h3).2;subst e1;obtain⟨fl,σ3,h5,h6⟩:=aS h4;simp only[SP.run,oSJ]at h6;subst h6
    injection he with he
    injection he with Rf O8
    subst Rf;subst O8;have Y':=Zy.tmr t;rw[htv]at Y'
    obtain⟨q0,qs',QC⟩:∃q0 qs',fn.results.toList=q0::qs':=by
     have hlen:fn.results.toList.length=rs.length+1:=by rw[Array.length_toList,<- UY,Se];rfl
     cases hl:fn.results.toList with
     |nil=>rw[hl]at hlen;simp at hlen
     |cons q0 qs'=>exact⟨q0,qs',rfl⟩
    have Ur:∀(L:List TRs)(L':List ResultVar),tf.res=L->fn.results.toList=L'->∀k (h:k<L.length)(h':k<L'.length),Ap P L[k] L'[k]:=by
     rintro _ _ rfl rfl k h h';have:=Yt k h (by simpa using h');simpa using this
    have hq0:q0=.tmp t:=Ur _ _ Se QC 0 (by simp) (by simp)
    have RA:rs.length=qs'.length:=by
     have h7:fn.results.toList.length=rs.length+1:=by rw[Array.length_toList,<- UY,Se];rfl
     rw[QC]at h7;simpa using h7.symm
    obtain⟨rfl,ZW,hrun⟩:=Fz (qs':=qs') Zy RA (λk h h'=>Ur _ _ Se QC (k+1) (by simpa using h) (by simpa using h')) h5
    have WJ:(fn.results.toList.mapM λ(q:ResultVar)=>(match q with|.tmp t=>(pure (a'.tmps.getD t undef):Sem Value)|.cell a t=>do loadVar t (<- asAddr (a'.tmps.getD a undef)))).run P w'=.ok (a'.tmps.getD t undef::fl.map unV) w':=by
     rw[QC,hq0,List.mapM_cons,Sem.run_bind];show Result.andThen (.ok (a'.tmps.getD t undef) w') _=_;simp only[Result.andThen_ok,Sem.run_bind];refine(congrArg (λr=>Result.andThen r _) hrun).trans ?_;simp
    generalize a'.tmps.getD t undef=z at Y' WJ
    cases Y' with
    |ptr V0 h0 hv hok=>
     have hp:=hok e2;refine⟨hd,ue z (fl.map unV),?_,ue z (fl.map unV),σ3,rfl,.inr ⟨p,vs,fl,z,a'.tmps,G',rfl,⟨_,rfl⟩,ZW,rfl,Zy,hp⟩,rfl⟩;unfold results;rw[Array.mapM_eq_mapM_toList];simp only[Sem.run_bind,Sem.run_map]
     erw[WJ]
     cases fl with
     |nil=>rfl
     |cons y l=>rfl
   ·exact SA y (by rw[Se];exact hr) he
  ·exact SA y hr he
 cases e with
 |exit i=>simp at h2
 |normal=>
  simp only at h2;obtain⟨y,h3,h4⟩:=bg h2;exact ZQ y h3 h4
 |ret=>
  simp only at h2;obtain⟨y,h3,h4⟩:=bg h2;exact ZQ y h3 h4
theorem Gl(hT:Dn P T)(hE:Dq P E)(hB:ee P B)(hF:ee P F)(n:Nat):ee P (yJ E T B F n):=by
 intro f vals pts res Zs h;unfold yJ at h
 cases ht:T f with
 |none=>rw[ht]at h;exact hB f vals pts res Zs h
 |some tf=>
  rw[ht]at h;simp only[runT]at h;split at h
  case isFalse=>simp at h
  rename_i hnp;obtain⟨hnp,RT⟩:=hnp;simp only[oBA]at RT;obtain⟨PI,NB⟩:=RT;obtain⟨⟨e,σ1⟩,h1,h2⟩:=bg h;obtain⟨fn,c,hf,Uj,hb,hnt,YO,Xo,UY,Yt⟩:=hT f tf ht;refine⟨i8 hf Uj hb,tf.nt,by omega,λM asq w G hal hN QD YA hI=>?_⟩;refine calls_of_wp hf hb ?_
  have hN2:fn.ntmps-asq.toArray.size=tf.nt-asq.length:=by rw[hnt];simp
  rw[hN2]
  have RU:∀r,M.pr r≠none->∃i∈tf.pp,r=2*i+2:=λr hr=>by obtain⟨i,p,vs,h3,h4⟩:=YA r hr;exact⟨i,by simpa using EN PI i p vs h3,h4⟩
  rcases Xo with Xo|⟨c1,c2,c3,c4,c5,⟨sz,b,bytes,mv,fl,id,c6⟩,rest,hcl,Xo⟩
  ·exact AP (AQ hE hF) n tf.body c _ e σ1 ⟨asq.toArray++Array.replicate (tf.nt-asq.length) undef,[]⟩ w G _ (Xo M hN RU) h1 hI λa' w' G' Zy hd=>Al UY Yt Zy hd h2
  ·
   obtain⟨v0,rfl⟩:∃v,vals=[v]:=List.length_eq_one_iff.1 (by rw[hnp,c1]);obtain⟨x0,rfl⟩:∃x,asq=[x]:=List.length_eq_one_iff.1 (by rw[hal];rfl)
   have NA:pts=[]:=by rw[c2]at NB;simpa using NB
   subst NA
   obtain⟨l0,rfl⟩:∃l,v0=.sl l:=by
    rw[c2]at PI;cases v0<;>simp[jn]at PI;exact⟨_,rfl⟩
   have hv:=hI.tmr 0;have e0:(mkSt [TV.sl l0] ([]:Pts)).t 0=.sl l0:=rfl
   have e1:(#[x0]++Array.replicate (tf.nt-1) undef).getD 0 undef=x0:=by simp[Array.getD_eq_getD_getElem?,Array.getElem?_append]
   have hv:TmR w (G.F M.A) (mkSt [TV.sl l0] ([]:Pts)).v (bv M (mkSt [TV.sl l0] ([]:Pts)) []) G (.sl l0) x0:=by
    have:=hI.tmr 0;rw[e0]at this;rw[show([x0]:List Value).toArray=#[x0]from rfl,show([x0]:List Value).length=1 from rfl,e1]at this;exact this
   cases hv with
   |sl hs=>
    cases hs with
    | @sl _ ad cap zz u hsz hcap hmax RG hcell hrec=>
     have hdead:∀(H:List TV)(xs:List Value)(ts:Array Value)(d:Nat)(v:Value),0<d->Inv M (mkSt [TV.sl l0] []) H xs ts w G->Inv M (mkSt [TV.sl l0] []) H xs (ts.setIfInBounds d v) w G:=by
      intro H xs ts d v hd hI;refine⟨hI.core,λi=>?_,hI.fram,hI.keys,by rw[Array.size_setIfInBounds];exact hI.size,hI.hand,hI.hval,hI.shape⟩;by_cases hi:i=d
      ·subst hi
       have:(mkSt [TV.sl l0] ([]:Pts)).t i=.dead:=by
        simp[St.t,mkSt,dF,bt,show ¬ 0=i by omega]
       rw[this];exact .dead
      ·have:(ts.setIfInBounds d v).getD i undef=ts.getD i undef:=by simp[Array.getD_eq_getD_getElem?,Array.getElem?_setIfInBounds,Ne.symm hi]
       rw[this];exact hI.tmr i
     refine H4 hcl (ad:=ad) (n:=l0.length) (cap:=cap) (by simp[Array.getD_eq_getD_getElem?,Array.getElem?_append]) (by simp[c3]) (λY0=>?_) (λ_=>?_)
     ·have WU:=hdead _ _ _ 4 (.bool true) (by decide) (hdead _ _ _ 3 (.slice ad l0.length cap) (by decide) (hdead _ _ _ 2 (.slice none 0 0) (by decide) hI));subst Y0;have Ub:=RG rfl;have WY:l0=[]:=oEN (by omega);subst WY;have T5:=WU.wrT (d:=2) (by omega) (t:=.ow []) (x:=.slice none 0 0) .nil;have hrun:=Ai c5;rw[c6,<- C8 (evCall E F) n,<- c6]at hrun;unfold ye at hrun;rw[h1]at hrun;simp only[oBS]at hrun h2
      have R1:res=⟨[.ow []],[.one]⟩/\Zs=[]:=by
       cases e with
       |exit i=>simp at hrun
       |normal=>
        simp only[c1,c4]at h2;simp only at hrun;obtain⟨y,hy,S5⟩:=eK hrun;rw[hy]at h2;simp only[oBS,oSJ,oPJ]at h2;rw[S5]at h2;exact⟨h2.1.symm,by simpa using h2.2.symm⟩
       |ret=>
        simp only[c1,c4]at h2;simp only at hrun;obtain⟨y,hy,S5⟩:=eK hrun;rw[hy]at h2;simp only[oBS,oSJ,oPJ]at h2;rw[S5]at h2;exact⟨h2.1.symm,by simpa using h2.2.symm⟩
      obtain⟨rfl,rfl⟩:=R1
      have h5:LT tf [] (.ret,{ mkSt [TV.sl []] ([]:Pts)with tm:=dn (mkSt [TV.sl []] ([]:Pts)).tm 2 (.ow []) })=some (⟨[.ow []],[.one]⟩,[]):=by
       unfold LT;simp only[c1,c4];rfl
      obtain⟨T,hT⟩:∃T:Array Value,T=(sr ([Value.slice none ([]:List (List TV)).length cap].toArray++Array.replicate (tf.nt - [Value.slice none ([]:List (List TV)).length cap].length) undef) (.slice none ([]:List (List TV)).length cap) true).setIfInBounds 2 (.slice none 0 0):=⟨_,rfl⟩;have V7:=T5;unfold sr at hT;rw[<- hT]at V7;have h7:=Al (tf:=tf) (fn:=fn) (P:=P) (pts:=[]) (e:=.ret) (a':=⟨T,[]⟩) (w':=w) (G':=G) UY Yt V7 rfl h5;rw[hT]at h7;exact h7
     ·have ZJ:=hdead _ _ _ 4 (.bool false) (by decide) (hdead _ _ _ 3 (.slice ad l0.length cap) (by decide) (hdead _ _ _ 2 (.slice none 0 0) (by decide) hI));exact AP (AQ hE hF) n tf.body rest _ e σ1 ⟨sr _ (.slice ad l0.length cap) false,[]⟩ w G _ (Xo M hN RU) h1 ZJ λa' w' G' Zy hd=>Al UY Yt Zy hd h2
theorem runF_ok(hT:Dn P T)(hE:Dq P E)(hB:ee P B):∀n,ee P (runF E T B n):=by
 intro n
 induction n with
 |zero=>intro f vals pts res Zs h;simp[runF]at h
 |succ n ih=>exact Gl hT hE hB ih n
end
end Go.Proofs.Ytbdhpgelkfncpaa
