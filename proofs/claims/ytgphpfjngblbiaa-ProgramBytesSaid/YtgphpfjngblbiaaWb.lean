/- Part of the proof; no condition. -/
import Derived.Test.YtgphpfjngblbiaaWa
import Derived.Laws.StructEq
import Derived.Laws.BytesString
import Derived.Laws.NewFold
import Derived.Laws.IdiomCopy
import Derived.LoopN
import Derived.Orders
import Derived.Lib.SliceRun
set_option linter.unusedVariables false
set_option linter.unusedSimpArgs false
namespace Go.Proofs.Ytgphpfjngblbiaa
open Go.RowKit
def sZ(g:TypeId->Option (List FK)):Nat->List Field->Option (List FK)
 |_,[]=>some []
 |off,f::fs=>
  if f.name≠"_"/\f.offset=off then
   match g f.type with
   |some ks=>(sZ g (off+ks.length) fs).map (ks++·)
   |none=>none
  else none
def j9(P:Program):Nat->TypeId->Option (List FK)
 |0,_=>none
 |d+1,t=>
  match P.underlying t with
  |some .bool=>some [.b]
  |some (.int _)=>some [.i]
  |some .string=>some [.s]
  |some (.struct fs)=>
   if P.stoodInHeld t then none
   else match sZ (j9 P d) 0 fs.toList with
    |some ks=>if(P.info? t).map (·.size)=some ks.length then some ks else none
    |none=>none
  |_=>none
theorem wM{α β:Type}{f:α->β}{o:Option α}{b:β}(h:o.map f=some b):∃a,o=some a/\f a=b:=by
 simp_all
theorem uA:∀{ks:List FK}{xs ys:List Value}{r:Bool},co ks xs ys=some r->xs.length=ks.length/\ys.length=ks.length:=by
 intro ks
 induction ks with
 |nil=>
  intro xs ys r h;cases xs<;>cases ys<;>simp[co]at h⊢
 |cons k ks ih=>
  intro xs ys r h
  cases xs with
  |nil=>cases k<;>simp[co]at h
  |cons x xs=>
   cases ys with
   |nil=>cases k<;>cases x<;>simp[co]at h
   |cons y ys=>
    cases k<;>cases x<;>cases y<;>simp only[co]at h<;>first|(simp at h;done)|skip
    ·split at h
     ·obtain⟨r',h1,_⟩:=wM h;have:=ih h1;simp[this.1,this.2]
     ·simp at h
    ·obtain⟨r',h1,_⟩:=wM h;have:=ih h1;simp[this.1,this.2]
    ·obtain⟨r',h1,_⟩:=wM h;have:=ih h1;simp[this.1,this.2]
theorem pI:∀{k1 k2:List FK}{xs ys:List Value}{r:Bool},co (k1++k2) xs ys=some r ->
 ∃r1 r2,co k1 (xs.take k1.length) (ys.take k1.length)=some r1/\co k2 (xs.drop k1.length) (ys.drop k1.length)=some r2/\r=(r1&&r2):=by
 intro k1
 induction k1 with
 |nil=>intro k2 xs ys r h;exact⟨true,r,rfl,h,rfl⟩
 |cons k k1 ih=>
  intro k2 xs ys r h;simp only[List.cons_append]at h
  cases xs with
  |nil=>cases k<;>simp[co]at h
  |cons x xs=>
   cases ys with
   |nil=>cases k<;>cases x<;>simp[co]at h
   |cons y ys=>
    have ZB:∀(q:Bool)(h:(co (k1++k2) xs ys).map (q && ·)=some r)(hq:∀X Y,co (k::k1) (x::X) (y::Y)=(co k1 X Y).map (q && ·)),∃r1 r2,co (k::k1) ((x::xs).take (k::k1).length) ((y::ys).take (k::k1).length)=some r1/\co k2 ((x::xs).drop (k::k1).length) ((y::ys).drop (k::k1).length)=some r2/\r=(r1&&r2):=by
     intro q h hq;obtain⟨r',h1,h2⟩:=wM h;obtain⟨r1,r2,a1,a2,a3⟩:=ih h1;refine⟨q&&r1,r2,?_,by simpa using a2,by rw[<- h2,a3,Bool.and_assoc]⟩;simp only[oLC,List.take_succ_cons];rw[hq,a1];rfl
    cases k<;>cases x<;>cases y<;>simp only[co]at h<;>first|(simp at h;done)|skip
    ·split at h
     ·rename_i e;exact ZB _ h λX Y=>by simp only[co,oIP e]
     ·simp at h
    ·exact ZB _ h λX Y=>rfl
    ·exact ZB _ h λX Y=>rfl
section
variable {P:Program} {w:World}
theorem oF{d D:Nat}{g:TypeId->Option (List FK)}
 (ih:∀t ks,g t=some ks->∀(xs ys:Array Value) off r,co ks ((xs.toList.drop off).take ks.length) ((ys.toList.drop off).take ks.length)=some r->∃a b,(part t xs off).run P w=.ok a w/\(part t ys off).run P w=.ok b w/\(Op.equalIn D t a b).run P w=.ok r w)(xs ys:Array Value):
 ∀(fs:List Field)(o:Nat)(ks:List FK)(r:Bool),sZ g o fs=some ks->co ks (xs.toList.drop o) (ys.toList.drop o)=some r->(Op.eqFields D xs ys fs).run P w=.ok r w:=by
 intro fs
 induction fs with
 |nil=>
  intro o ks r h he;simp only[sZ,oSJ]at h;subst h
  have hr:r=true:=by
   revert he;generalize xs.toList.drop o=X;generalize ys.toList.drop o=Y;intro he;cases X<;>cases Y<;>simp[co]at he;exact he
  subst hr;rfl
 |cons f fs SY=>
  intro o ks r h he;simp only[sZ]at h;split at h
  case isFalse=>simp at h
  rename_i hf;split at h
  case h_2=>simp at h
  rename_i k1 Ys;obtain⟨k2,XE,rfl⟩:=wM h;obtain⟨r1,r2,a1,a2,rfl⟩:=pI he;obtain⟨a,b,p1,p2,p3⟩:=ih f.type k1 Ys xs ys o r1 a1;rw[List.drop_drop,List.drop_drop]at a2;have ZW:=SY (o+k1.length) k2 r2 XE a2;simp only[Op.eqFields];rw[oIP hf.1,hf.2];simp only[Sem.run_bind,p1,p2,p3,Result.andThen_ok]
  cases r1 with
  |false=>simp
  |true=>simp_all
theorem yT:∀(d:Nat)(t:TypeId)(ks:List FK),j9 P d t=some ks->∀D,d<=D->∀(xs ys:Array Value)(off:Nat)(r:Bool),co ks ((xs.toList.drop off).take ks.length) ((ys.toList.drop off).take ks.length)=some r ->
 ∃a b,(part t xs off).run P w=.ok a w/\(part t ys off).run P w=.ok b w/\(Op.equalIn D t a b).run P w=.ok r w:=by
 intro d
 induction d with
 |zero=>intro t ks h;simp[j9]at h
 |succ d ih=>
  intro t ks h D hD xs ys off r he;obtain⟨D',rfl⟩:∃D',D=D'+1:=⟨D-1,by omega⟩;simp only[j9]at h
  have one:∀(S5:TypeDesc)(k:FK),P.underlying t=some S5->(∀f,S5≠.struct f)->(∀n e,S5≠.array n e)->ks=[k]->∃x y,xs[off]?=some x/\ys[off]?=some y/\co [k] [x] [y]=some r/\(part t xs off).run P w=.ok x w/\(part t ys off).run P w=.ok y w:=by
   rintro S5 k hu h1 h2 rfl;obtain⟨l1,l2⟩:=uA he
   obtain⟨x,hx⟩:∃x,xs.toList.drop off=x::(xs.toList.drop (off+1)):=by
    have:off<xs.toList.length:=by simp at l1⊢;omega
    exact⟨_,List.drop_eq_getElem_cons this⟩
   obtain⟨y,hy⟩:∃y,ys.toList.drop off=y::(ys.toList.drop (off+1)):=by
    have:off<ys.toList.length:=by simp at l2⊢;omega
    exact⟨_,List.drop_eq_getElem_cons this⟩
   have Xm:xs[off]?=some x:=by
    have:=congrArg (λl=>l[0]?) hx;simpa using this
   have Vq:ys[off]?=some y:=by
    have:=congrArg (λl=>l[0]?) hy;simpa using this
   rw[hx,hy]at he;exact⟨x,y,Xm,Vq,by simpa using he,by simp[part,ij hu h1 h2,Xm],by simp[part,ij hu h1 h2,Vq]⟩
  split at h
  ·rename_i hu
   injection h with h
   obtain⟨x,y,_,_,e,p1,p2⟩:=one _ .b hu (λ_ h=>by cases h) (λ_ _ h=>by cases h) h.symm;refine⟨x,y,p1,p2,?_⟩;cases x<;>cases y<;>simp[co]at e;simp[Op.equalIn,run_underlying hu,e]
  ·rename_i k0 hu
   injection h with h
   obtain⟨x,y,_,_,e,p1,p2⟩:=one _ .i hu (λ_ h=>by cases h) (λ_ _ h=>by cases h) h.symm;refine⟨x,y,p1,p2,?_⟩
   cases x<;>cases y<;>simp only[co]at e<;>first|(simp at e;done)|skip
   rename_i ka a kb b;split at e
   ·rename_i hk;subst hk;simp at e;simp[Op.equalIn,run_underlying hu,e]
   ·simp at e
  ·rename_i hu
   injection h with h
   obtain⟨x,y,_,_,e,p1,p2⟩:=one _ .s hu (λ_ h=>by cases h) (λ_ _ h=>by cases h) h.symm;refine⟨x,y,p1,p2,?_⟩;cases x<;>cases y<;>simp[co]at e;simp[Op.equalIn,run_underlying hu,e]
  ·rename_i fs hu;split at h
   case isTrue=>simp at h
   rename_i hst;split at h
   case h_2=>simp at h
   rename_i Vu RV;split at h
   case isFalse=>simp at h
   rename_i hsz
   injection h with h
   subst h
   have Y0:(sizeOf t).run P w=.ok Vu.length w:=by
    unfold sizeOf typeInfo
    cases hi:P.info? t with
    |none=>simp[hi]at hsz
    |some i=>simp[hi]at hsz;simp[hi,hsz]
   have VO:∀zs:Array Value,(part t zs off).run P w=.ok (.agg (zs.extract off (off+Vu.length))) w:=λzs=>by
    simp[part,gq hu (.inl ⟨_,rfl⟩),Y0]
   refine⟨_,_,VO xs,VO ys,?_⟩
   have Tf:P.fieldsOf t=fs:=by simp[Program.fieldsOf,hu]
   rw[run_equalIn_struct w D' t _ _ (by rw[Tf];exact hu) (by simpa using hst),Tf];refine oF (d:=d) (g:=j9 P d) (λt ks h xs ys off r he=>ih t ks h D' (by omega) xs ys off r he) _ _ fs.toList 0 Vu r RV ?_
   have e:∀zs:Array Value,(zs.extract off (off+Vu.length)).toList.drop 0=(zs.toList.drop off).take Vu.length:=λzs=>by
    simp[List.extract_eq_take_drop]
   rw[e,e];exact he
  ·simp at h
theorem zE{d D:Nat}{t:TypeId}{ks:List FK}{fs:Array Field}(h:j9 P (d+1) t=some ks)(hu:P.underlying t=some (.struct fs))(hD:d<=D){xs ys:Array Value}{r:Bool}(he:co ks xs.toList ys.toList=some r):(Op.equalIn (D+1) t (.agg xs) (.agg ys)).run P w=.ok r w:=by
 simp only[j9,hu]at h;split at h
 case isTrue=>simp at h
 split at h
 case h_2=>simp at h
 rename_i Vu RV;split at h
 case isFalse=>simp at h
 have Tf:P.fieldsOf t=fs:=by simp[Program.fieldsOf,hu]
 rw[run_equalIn_struct w D t _ _ (by simp_all) (by simp_all),Tf];exact oF (d:=d) (λt ks h xs ys off r he=>yT d t ks h D hD xs ys off r he) _ _ fs.toList 0 Vu r RV (by simp_all)
variable {M:Fm} {σ σ':St} {G:Gh} {a:Act} {o:Oper}
theorem A9{F:Nat->Prop}{V:Vs}{C:Cs}:∀{l:List TV}{vs:List Value},cc l=some vs->vs.length=l.length/\∀j (h:j<l.length)(h':j<vs.length)(x:Value),TmR w F V C G l[j] x->x=vs[j]:=by
 intro l
 induction l with
 |nil=>intro vs h;simp[cc]at h;subst h;exact⟨rfl,λj h=>by simp at h⟩
 |cons t l ih=>
  intro vs h
  cases t with
  |v z=>
   obtain⟨Qj,h1,rfl⟩:=wM h;have ⟨e,h2⟩:=ih h1;refine⟨by simp[e],λj hj ZY x hx=>?_⟩
   cases j with
   |zero=>exact hx.v_inv.1
   |succ j=>exact h2 j (by simp_all) (by simp_all) x hx
  |_=>simp[cc]at h
theorem sX{F:Nat->Prop}{V:Vs}{C:Cs}{l:List TV}{vs:List Value}{x:Value}(h:cc l=some vs)(hx:TmR w F V C G (.agg l) x):x=.agg vs.toArray:=by
 obtain⟨xs,rfl,hl,hj⟩:=xp hx;obtain⟨e,h2⟩:=A9 h;congr 1;apply Array.ext
 ·simp_all
 ·intro j h1 h3;have:=h2 j (by omega) (by omega) _ (hj j (by omega))
  have e2:xs.getD j undef=xs[j]:=by simp[h1]
  simp_all
theorem yg(hI:Inv M σ [] [] a.tmps w G){d:Nat}(hd:o.dst=some d)(hN:d<M.N){x y:Opd}{x' y':Operand}{op:BinOp}{neg:Bool}{t yt:TypeId}{ks:List FK}{fs:Array Field}(hx:bJ x'=some x)(hy:bJ y'=some y)(ho:o.op=.binOp op t x' y' yt)(hop:(op=.eql/\neg=false)\/(op=.neq/\neg=true))
 (hu:P.underlying t=some (.struct fs))(hk:j9 P 50 t=some ks)(Xe:P.eqGuardType P.depth t=false)(hr:(ev1 d (.eqa ks neg x y)).run σ=some ((),σ')):fX P M σ' a o w:=by
 obtain⟨t1,σ1,h1,h2⟩:=bG hr;obtain⟨rfl,Z4⟩:=cr hI.tmr hx h1;obtain⟨t2,σ2,h3,h4⟩:=bG h2;obtain⟨rfl,XJ⟩:=cr hI.tmr hy h3
 cases t1 with
 |agg l1=>
  cases t2 with
  |agg l2=>
   simp only at h4;obtain⟨Ri,σ3,h5,h6⟩:=bG h4;obtain⟨e1,rfl⟩:=iM h5;obtain⟨To,σ4,h7,h8⟩:=bG h6;obtain⟨e2,rfl⟩:=iM h7;obtain⟨r,σ5,h9,ZS⟩:=bG h8;obtain⟨e3,rfl⟩:=iM h9;have ex:=sX e1 Z4;have ey:=sX e2 XJ;have hq:(Op.equalIn 10000 t (.agg Ri.toArray) (.agg To.toArray)).run P w=.ok r w:=zE (d:=49) (D:=9999) hk hu (by omega) (by omega);have hg:(eqGuard op t x' y' (.agg Ri.toArray) (.agg To.toArray)).run P w=.ok () w:=run_eqGuard_agg w op t x' y' _ _ Xe;refine dH hI hd hN (.v rfl) ZS ?_
   rcases hop with⟨rfl,rfl⟩|⟨rfl,rfl⟩
   ·simp[execOp,ho,ex,ey,hg,run_eql_struct,hq]
   ·simp[execOp,ho,ex,ey,hg,run_neq_struct,hq]
  |_=>simp[SP.run]at h4
 |_=>simp[SP.run]at h4
end
section
variable {P:Program} {M:Fm} {σ σ':St} {H:List TV} {xs:List Value} {ts:Array Value} {w:World} {G:Gh} {a:Act} {o:Oper}
theorem w5(mx:Bool)(k:IntKind):∀(r:List Value)(x m:Int),mF mx k x r=some m->(r.foldlM (if mx then Builtin.max2 else Builtin.min2) (.int k x)).run P w=.ok (.int k m) w:=by
 intro r
 induction r with
 |nil=>
  intro x m h;simp[mF]at h
  simp_all
 |cons y r ih=>
  intro x m h
  cases y with
  |int k' b=>
   simp only[mF]at h;split at h
   ·rename_i hk;have:=ih _ _ h
    cases mx with
    |true=>
     simpa[Builtin.max2]using this
    |false=>
     simpa[Builtin.min2]using this
   ·simp at h
  |_=>simp[mF]at h
theorem BK(hI:Inv M σ [] [] a.tmps w G){d:Nat}(hd:o.dst=some d)(hN:d<M.N){mx:Bool}{l:List Opd}{args:Array Operand}{VU:Array TypeId}(hc:args.toList.map bJ=l.map some)(ho:o.op=.call { callee:=.builtin (if mx then .max else .min),args:=args,argTypes:=VU })
 (hr:(ev1 d (.mm mx l)).run σ=some ((),σ')):fX P M σ' a o w:=by
 simp only[ev1]at hr;obtain⟨r,σ1,h1,h2⟩:=bG hr
 obtain⟨rfl,e2,e3⟩:=y8 (R:=λy x'=>y=a.eval x') (λx x' y σ' hx hy=>by
  obtain⟨t,σ2,q1,q2⟩:=bG hy;obtain⟨rfl,ht⟩:=cr hI.tmr hx q1;obtain⟨rfl,rfl⟩:=iH q2
  exact⟨rfl,(ht.v_inv).1.symm⟩) hc h1
 have Vk:args.toList.map a.eval=r:=by
  apply List.ext_getElem
  ·simp[e2]
  ·simp_all
 split at h2
 case h_2=>simp[SP.run]at h2
 rename_i k x rest;obtain⟨m,σ2,h3,h4⟩:=bG h2;obtain⟨hm,rfl⟩:=iM h3;refine dH hI hd hN (x:=.int k m) (.v rfl) h4 ?_;have hf:=w5 (P:=P) (w:=w) mx k rest x m hm
 cases mx with
 |true=>
  simp only[if_true]at hf ho;simp[execOp,ho,resolve,invoke,builtin,Builtin.max_,Vk,hf]
 |false=>
  simp only[Bool.false_eq_true,if_false]at hf ho;simp[execOp,ho,resolve,invoke,builtin,Builtin.min_,Vk,hf]
theorem Aq(hI:Inv M σ [] [] a.tmps w G){d:Nat}(hd:o.dst=some d)(hN:d<M.N){x i:Opd}{x' i':Operand}{t e n sz:Nat}(hx:bJ x'=some x)(hi:bJ i'=some i)(ho:o.op=.indexAddr t x' i')
 (hu:P.underlying t=some (.array n e))(hs:(P.info? e).map (·.size)=some sz)(hr:(ev1 d (.idxa n sz x i)).run σ=some ((),σ')):fX P M σ' a o w:=by
 have Y0:(sizeOf e).run P w=.ok sz w:=by
  unfold sizeOf typeInfo
  cases hi:P.info? e with
  |none=>simp[hi]at hs
  |some i=>simp[hi]at hs;simp[hi,hs]
 simp only[ev1]at hr;obtain⟨tx,σ1,h1,h2⟩:=bG hr;obtain⟨rfl,Z4⟩:=cr hI.tmr hx h1;obtain⟨ti,σ2,h3,h4⟩:=bG h2;obtain⟨rfl,V7⟩:=cr hI.tmr hi h3;obtain⟨k,σ3,h5,h6⟩:=bG h4;obtain⟨ik,m,rfl,X',hk,rfl⟩:=iO h5;obtain⟨ei,_⟩:=V7.v_inv
 cases tx with
 |ptr p vs=>
  simp only at h6;obtain⟨_,σ2,h7,h8⟩:=bG h6;have e1:σ2=σ3:=(bS h7).1;have e2:=(bS h7).2;subst e1;split at h8
  case isFalse=>simp[SP.run]at h8
  rename_i hc;simp only[oBA,oDE]at hc;obtain⟨Se,ZT⟩:=hc;generalize hz:a.eval x'=z at Z4
  cases Z4 with
  |ptr V0 h0 hv h=>
   obtain⟨Z6,ad,t0,ha,rfl,V5⟩:=h e2
   have Sk:m<(n:Int):=by omega
   refine dH hI hd hN (x:=.pointer (some (ad.add (k*sz)))) ?_ h8 (by subst hk;simp[execOp,ho,hz,ei,Instr.indexAt,asIntOf,Instr.sureAddr,run_underlying hu,X',Sk,Y0]);refine .ptr V0 h0 (by rw[uS];exact hv) λ_=>⟨by rw[cJ];exact Z6,⟨ad.block,ad.off+k*sz,none⟩,?_⟩;have Zr:=fR ha
   have X8:ad.add (k*sz)=⟨ad.block,ad.off+k*sz,none⟩:=by
    obtain⟨b,ob,sp⟩:=ad;simp only at Zr;subst Zr;exact cB b ob (k*sz)
   rcases p.add_cases (k*sz)with⟨q1,q2⟩|⟨hs',i,sz',o',q1,q2⟩
   ·exact⟨b8 M σ2 [] p.root (p.off+k*sz),gX _ ha,by rw[X8],by rw[q2];rfl⟩
   ·have hlt:o'+k*sz<sz':=by
     unfold bQ.fits at ZT;rw[q1]at ZT;simpa using ZT
    rw[q1]at V5;obtain⟨t',YM⟩:=vD V5 hlt;exact⟨t',gX _ ha,by rw[X8],by rw[q2];exact YM⟩
 |_=>simp[SP.run]at h6
theorem Cf(hI:Inv M σ [] [] a.tmps w G){d:Nat}(hd:o.dst=some d)(hN:d<M.N){x:Opd}{x':Operand}{s t e:TypeId}(hx:bJ x'=some x)(ho:o.op=.convert s t x')(hs:P.underlying s=some .string)(ht:P.underlying t=some (.slice e))(he:P.underlying e=some (.int .u8))
 (hr:(ev1 d (.s2b x)).run σ=some ((),σ')):fX P M σ' a o w:=by
 simp only[ev1]at hr;obtain⟨tx,σ1,h1,h2⟩:=bG hr;obtain⟨rfl,Z4⟩:=cr hI.tmr hx h1
 cases tx with
 |v y=>
  obtain⟨ex,_⟩:=Z4.v_inv
  cases y with
  |string str=>
   simp only at h2;split at h2
   case isFalse=>simp[SP.run]at h2
   rename_i hsz;obtain⟨n,hn⟩:∃n,n=w.tape w.drawn (.appendCap str.size 0 e):=⟨_,rfl⟩;obtain⟨cap,hcap⟩:∃cap,cap=str.size+n%(2 ^ 63-str.size):=⟨_,rfl⟩
   have QH:str.size<=cap:=by omega
   have Tw:cap<=maxLen:=by
    have:n%(2 ^ 63-str.size)<2 ^ 63-str.size:=Nat.mod_lt _ (by omega);show cap<=2 ^ 63-1;omega
   obtain⟨row,W5⟩:∃row:Array Value,row=(str.data.map λb=>Value.int .u8 b.toNat)++Array.replicate (cap-str.size) (.int .u8 0):=⟨_,rfl⟩;obtain⟨w1,XB⟩:∃w1,w1=w.drew.alloc (.cells row e):=⟨_,rfl⟩
   have Yu:w1.heap=w.heap.push (.cells row e):=by rw[XB];rfl
   have hsh:w1.shape? w.heap.size=some (e,row.size):=by
    unfold World.shape?;rw[Yu];simp
   have hrun:(execOp a.eval o).run P w=.ok (.value (.slice (some ⟨w.heap.size,0,none⟩) str.size cap)) (w1.freeze ⟨w.heap.size,row.size,none⟩ 1):=by
    simp only[execOp,ho,ex,convert,Sem.run_bind,run_underlying hs,run_underlying ht,run_underlying he,Result.andThen_ok,Conv.stringToBytes,run_choose_drew,Question.forced,Bool.false_eq_true,if_false,Question.cut,newRow,run_newObj_alloc,Sem.run_pure];rw[<- hn,<- hcap,<- W5];simp only[show w.drew.heap.size=w.heap.size from rfl,<- XB,markStringish,Sem.run_bind,run_shape,Result.andThen_ok,hsh,run_freeze,Sem.run_pure]
   have ZO:∀k,k<w.heap.size->(w1.freeze ⟨w.heap.size,row.size,none⟩ 1).heap[k]?=w.heap[k]?:=by
    intro k hk;unfold World.freeze;rw[oIN (by decide)];simp only;rw[Array.getElem?_modify];rw[oIN (by omega),Yu];simp[Array.getElem?_push,show k≠w.heap.size by omega]
   have Zx:∃fz,(w1.freeze ⟨w.heap.size,row.size,none⟩ 1).heap[w.heap.size]?=some (.cells row e fz):=by
    unfold World.freeze;rw[oIN (by decide)];simp only;rw[Array.getElem?_modify,oIP rfl,Yu];exact⟨_,by simp only[Array.getElem?_push_size,oMS];rfl⟩
   obtain⟨fz,Zx⟩:=Zx;obtain⟨ZQ,_⟩:=hI.grow (w':=w1.freeze ⟨w.heap.size,row.size,none⟩ 1) ZO (by unfold World.freeze;rw[oIN (by decide)];simp[Yu]) (by rw[XB];rfl) (by rw[XB];rfl) (by rw[XB];rfl);simp only[wr,SP.run,oSJ,oPJ,true_and]at h2;subst h2;refine⟨_,_,_,G,hrun,.inl rfl,?_⟩;rw[hd]
   have Xo:(jz str).length=str.size:=by unfold jz;rw[List.length_map,Array.length_toList];rfl
   refine ZQ.wrT hN (.sl ?_)
   have V9:fj (w1.freeze ⟨w.heap.size,row.size,none⟩ 1) (G.F M.A) (.sl (jz str)) (.slice (some ⟨w.heap.size,0,none⟩) (jz str).length cap):=by
    refine .sl 1 (λi _=>.int .u8 (str.data.getD i 0).toNat) (λi h=>by simp[jz]) (by omega) Tw (λh=>by simp at h) (λi j hi hj=>⟨w.heap.size,0,rfl,?_,?_⟩) λi j h h'=>?_
    ·exact⟨M.hA _ hI.fram.size,λr o h=>Nat.lt_irrefl _ (hI.core.live h),λr b o n hb e=>Nat.lt_irrefl _ (e▸hI.core.boxlt hb)⟩
    ·have TU:j=0:=by omega
     subst TU;rw[cell_of_row _ _ _ _ _ _ Zx]
     have ZF:i<str.data.size:=by rw[Xo]at hi;exact hi
     have hg:str.data[i]?=some str.data[i]:=Array.getElem?_eq_getElem ZF;rw[W5];simp[Array.getElem?_append,show i<str.size from ZF,Array.getD_eq_getD_getElem?,hg]
    ·have TU:j=0:=by simp[jz]at h';omega
     subst TU
     have ZF:i<str.data.size:=by rw[Xo]at h;exact h
     have:(jz str)[i][0]=.v (.int .u8 (str.data.getD i 0).toNat):=by
      have hg:str.data[i]?=some str.data[i]:=Array.getElem?_eq_getElem ZF;simp[jz,Array.getD_eq_getD_getElem?,hg]
     rw[this];exact .v rfl
   rw[Xo]at V9;exact V9
  |_=>simp[SP.run]at h2
 |_=>simp[SP.run]at h2
theorem zQ{c:List (List TV)}:∀{ns:List Int},pL c=some ns->ns.length=c.length/\∀i (h:i<c.length)(h':i<ns.length),c[i]=[.v (.int .u8 ns[i])]:=by
 induction c with
 |nil=>intro ns h;simp only[pL,oSJ]at h;subst h;exact⟨rfl,λi h=>by simp at h⟩
 |cons e c ih=>
  intro ns h;unfold pL at h;split at h
  ·simp_all
  ·rename_i n r h1
   injection h1 with h1 h2
   subst h1;subst h2
   cases hb:pL c with
   |none=>simp_all
   |some l=>
    simp[hb]at h;subst h;obtain⟨e1,e2⟩:=ih hb;refine⟨by simp[e1],λi hi ZF=>?_⟩
    cases i with
    |zero=>rfl
    |succ i=>simp_all
  ·simp at h
theorem Cx(hI:Inv M σ [] [] a.tmps w G){d:Nat}(hd:o.dst=some d)(hN:d<M.N){x:Opd}{x':Operand}{s t e:TypeId}(hx:bJ x'=some x)(ho:o.op=.convert s t x')(hs:P.underlying s=some (.slice e))(ht:P.underlying t=some .string)(he:P.underlying e=some (.int .u8))
 (hr:(ev1 d (.b2s x)).run σ=some ((),σ')):fX P M σ' a o w:=by
 simp only[ev1]at hr;obtain⟨tx,σ1,h1,h2⟩:=bG hr;obtain⟨rfl,Z4⟩:=cr hI.tmr hx h1;obtain⟨t',σ2,h3,h4⟩:=bG h2;obtain⟨G1,ZN,_⟩:=dS hI Z4 h3;simp only[List.nil_append]at ZN;obtain⟨G2,ZM,_⟩:=ZN.1.drop
 have ZB:∀str ad len cap,a.eval x'=.slice ad len cap->(Conv.bytesToString (.slice ad len cap)).run P w=.ok (.string str) w->(wr d (.v (.string str))).run σ2=some ((),σ')->fX P M σ' a o w:=by
  intro str ad len cap ex hrun hw;refine dH ZM.1 hd hN (x:=.string str) (.v rfl) hw ?_;simp only[execOp,ho,Sem.run_bind,ex]
  have:(convert s t (.slice ad len cap)).run P w=.ok (.string str) w:=by
   unfold convert;simp only[Sem.run_bind,run_underlying hs,run_underlying ht,run_underlying he,Result.andThen_ok];exact hrun
  rw[this];rfl
 have hown:=λh=>ZN.1.hand_own (j:=0) (by simp) h;split at h4
 ·rename_i c;obtain⟨str,σ3,h5,h6⟩:=bG h4;obtain⟨hb,rfl⟩:=iM h5;have hown:=hown (by simp);generalize hz:a.eval x'=z at hown
  cases hown with
  |sl hfp h=>
   cases h with
   | @sl _ ad cap sz u hsz hcap hmax hnil hcell hrec=>
    unfold bstr at hb
    cases hbn:pL c with
    |none=>simp[hbn]at hb
    |some ns=>
     simp only[hbn,oMS,oSJ]at hb;obtain⟨hl,Z7⟩:=zQ hbn;refine ZB str _ _ _ hz ?_ h6
     cases ad with
     |none=>
      have Wv:c.length=0:=by have:=hnil rfl;omega
      have hns:ns=[]:=oEN (by omega);subst hns;rw[<- hb];rfl
     |some ad=>
      rw[<- hb];refine run_bytesToString w ad c.length cap ns ?_
      have:=run_loadCells_list (P:=P) w ad (ns.map (Value.int .u8)) λj v hj=>by
       have hjl:j<ns.length:=by
        rcases Nat.lt_or_ge j ns.length with h|h
        ·exact h
        ·rw[oGN (by simpa using h)]at hj;simp at hj
       have UN:j<c.length:=by omega
       have e1:=Z7 j UN hjl
       have Y':sz=1:=by rw[<- hsz j UN,e1];rfl
       subst Y';obtain⟨b,o',Wn,hF,Zf⟩:=hcell j 0 UN (by omega)
       injection Wn with Wn
       subst Wn;have hr:=hrec j 0 UN (by rw[e1];simp)
       have e2:c[j][0]'(by rw[e1];simp)=.v (.int .u8 ns[j]):=by simp[e1]
       rw[e2]at hr
       have hu:u j 0=.int .u8 ns[j]:=by
        generalize u j 0=y at hr;cases hr;rfl
       have hv:v=.int .u8 ns[j]:=by simpa[hjl]using hj.symm
       rw[hv,<- hu,cB];simpa using Zf
      simpa[hl]using this
 ·have hown:=hown (by simp);generalize hz:a.eval x'=z at hown
  cases hown with
  | @nil _ ad hfp=>
   refine ZB .empty _ _ _ hz ?_ h4
   cases ad with
   |none=>rfl
   |some ad=>
    have:=run_bytesToString (P:=P) w ad 0 0 [] (by simp[loadCells,loadCellsFrom]);simpa using this
  | @ow _ _ b cap cur e' sz' u f hfp hb hsz hcap hz0 hmax hcur hcell hrec hnb hdis=>
   refine ZB .empty _ _ _ hz ?_ h4;have:=run_bytesToString (P:=P) w ⟨b,0,none⟩ 0 cap [] (by simp[loadCells,loadCellsFrom]);simpa using this
 ·simp[SP.run]at h4
theorem Au(hI:Inv M σ [] [] a.tmps w G){d:Nat}{mv:Bool}(hd:o.dst=some d)(hN:d<M.N){t e n sz:TypeId}{parts:Array (Nat×Operand)}{ps:List (Nat×Nat×Opd)}{z:List Value}(ho:o.op=.build t parts)(hu:P.underlying t=some (.array n e))
 (hz:(P.info? t).bind (·.zero.map (·.cells.toList))=some z)(hs:(P.info? e).map (·.size)=some sz)(hp1:parts.size=ps.length)
 (hp2:∀k (h:k<parts.size)(h':k<ps.length),bJ parts[k].2=some ps[k].2.2/\ps[k].1=parts[k].1*sz/\ps[k].2.1=sz/\ps[k].1+ps[k].2.1<=z.length)
 (hr:(ev1 d (.bld z mv ps)).run σ=some ((),σ')):fX P M σ' a o w:=by
 simp only[ev1]at hr;split at hr
 case isFalse=>simp[SP.run]at hr
 rename_i hok;obtain⟨l,σ1,h1,h2⟩:=bG hr;obtain⟨l',σ2,h3,h4⟩:=bG h2
 obtain⟨G1,g1,Vi,X1⟩:=jc (a:=a) (pv:=parts.toList.map (·.2)) hI (by
  apply List.ext_getElem
  ·simp[hp1]
  ·intro k hk YW;have:=(hp2 k (by simpa using hk) (by simpa using YW)).1
   simpa using this) h1
 obtain⟨G2,ZQ,_,Xv,Ym⟩:=nk g1.1 Vi h3;obtain⟨ys,Vr⟩:∃ys,ys=(parts.toList.map (·.2)).flatMap (λx=>(a.eval x).cells.toList):=⟨_,rfl⟩;rw[<- Vr]at g1 Ym
 have hlen:l'.length=ys.length:=by rw[Xv];exact g1.1.hand
 have Wk:∀j (h:j<(z.map cq).length)(h':j<z.length),TmR w (G2.F M.A) σ2.v (b8 M σ2 []) G2 (z.map cq)[j] z[j]:=λj h h'=>by simp only[List.getElem_map];exact lj _
 obtain⟨r1,r2⟩:=iZ (R:=TmR w (G2.F M.A) σ2.v (b8 M σ2 []) G2) ps l' ys (z.map cq) z (by simp) Wk hlen (λj h h'=>by have:=Ym j h;simpa[h']using this);refine dH ZQ hd hN (x:=.agg (gx z ps ys).toArray) (.agg (by simp[r1]) λj hj=>by have:=r2 j hj (by omega);simpa[show j<(gx z ps ys).length by omega]using this) h4 ?_
 cases hi:P.info? t with
 |none=>simp[hi]at hz
 |some i=>
  simp only[hi,oBS]at hz
  cases hiz:i.zero with
  |none=>simp[hiz]at hz
  |some v=>
   simp only[hiz,oMS,oSJ]at hz
   have Wp:(zeroValue t).run P w=.ok v w:=by simp[zeroValue,typeInfo,hi,hiz]
   have Y0:(sizeOf e).run P w=.ok sz w:=by
    unfold sizeOf typeInfo
    cases hi:P.info? e with
    |none=>simp[hi]at hs
    |some i=>simp_all
   have YJ:=oz (place:=λi=>some (i*sz,sz)) (parts.toList.map λp=>(p.1,a.eval p.2)) ps v.cells (by simp[hp1]) (λk h h'=>by
    have hk:k<parts.size:=by simpa using h
    obtain⟨q1,q2,q3,q5⟩:=hp2 k hk h';have q4:=X1 k h' (by simpa using hk);refine⟨by simp[q2,q3],by simpa using q4,?_⟩;rw[<- hz]at q5
    simpa using q5)
   have Zp:((parts.toList.map λp=>(p.1,a.eval p.2)).flatMap (·.2.cells.toList))=ys:=by rw[Vr];simp[List.flatMap_map]
   rw[Zp,hz]at YJ;simp only[execOp,ho,Instr.build,Sem.run_bind,Wp,Result.andThen_ok,run_underlying hu,Y0,Array.toList_map];rw[YJ];simp
end
theorem mA{α:Type}{l:List α}{i:Nat}{x:α}{f g:α->α}(h:l[i]?=some x)(e:f x=g x):l.modify i f=l.modify i g:=by
 apply List.ext_getElem?
 grind
theorem uv{hs:List Hop}{i sz j:Nat}{c:List (List TV)}{el:List TV}{t1:TV}:∀{t:TV},bY t hs=some (.ow c)->c[i]?=some el->el.length=sz->el[j]?=some t1->bY t (hs++[(i,sz,j)])=some t1:=by
 induction hs with
 |nil=>
  intro t h h1 h2 h3;simp[bY]at h;subst h;simp[bY,h1,h2,h3]
 |cons hp hs ih=>
  intro t h h1 h2 h3;obtain⟨c0,O0,t0,rfl,k1,k2,k3,k4⟩:=cZ h;simp[bY]
  simp_all
theorem tT{hs:List Hop}{i sz j:Nat}{c:List (List TV)}{x:TV}:∀{t:TV},bY t hs=some (.ow c)->dk t (hs++[(i,sz,j)]) x=dk t hs (.ow (c.modify i λel=>el.modify j λ_=>x)):=by
 induction hs with
 |nil=>
  intro t h;simp[bY]at h;subst h;simp[dk]
 |cons hp hs ih=>
  intro t h;obtain⟨c0,O0,t0,rfl,k1,k2,k3,k4⟩:=cZ h;simp only[List.cons_append,dk];congr 1;refine mA k1 (mA k3 (ih k4))
theorem yr{hs:List Hop}{x y:TV}:∀{t:TV},dk (dk t hs y) hs x=dk t hs x:=by
 induction hs with
 |nil=>intro t;rfl
 |cons hp hs ih=>
  obtain⟨a,b,d⟩:=hp;intro t
  cases t with
  |ow c=>
   simp only[dk];congr 1;apply List.ext_getElem?;intro k;simp only[List.getElem?_modify];by_cases hk:a=k
   ·subst hk
    cases c[a]? with
    |none=>rfl
    |some el=>
     simp only[if_true,Option.map_eq_map,oMS];congr 1;apply List.ext_getElem?;intro k;simp only[List.getElem?_modify,Option.map_eq_map];by_cases hk:d=k
     ·subst hk
      cases el[d]? with
      |none=>rfl
      |some t1=>simp[ih]
     ·cases el[k]?<;>simp[hk]
   ·cases c[k]?<;>simp[hk]
  |_=>rfl
theorem oQ{α:Type}(l:List (Nat×α))(i:Nat)(x y:α):c7 (c7 l i x) i y=c7 l i y:=by
 induction l with
 |nil=>simp[c7]
 |cons h r ih=>
  have ⟨k,v⟩:=h;by_cases hk:k=i
  ·subst hk;simp[c7]
  ·simp[hk,c7,ih]
theorem tz{w:World}{hs:List Hop}{k sz n cap j:Nat}{ad:Addr}:∀{x:Value},hvT w x hs=some (.slice (some ad) n cap)->k<n->cj w x (hs++[(k,sz,j)])=some ⟨ad.block,ad.off+(k*sz+j),none⟩:=by
 induction hs with
 |nil=>
  intro x h hk;simp only[hvT,oSJ]at h;subst h;simp[cj,hk]
 |cons hp hs ih=>
  intro x h hk;simp only[hvT]at h
  cases x with
  |slice a l c=>
   cases a with
   |none=>cases hs<;>simp[cj]at h
   |some a=>
    obtain⟨hd,tl,Xg⟩:∃hd tl,hs++[(k,sz,j)]=hd::tl:=by cases hs<;>exact⟨_,_,rfl⟩
    cases hs with
    |nil=>
     simp only[cj]at h;split at h
     ·rename_i hi;simp at h;simp only[List.cons_append,List.nil_append,cj,hi,if_true,h,hk]
     ·simp at h
    |cons hp2 YE=>
     simp only[cj]at h;split at h
     ·rename_i hi;split at h
      ·rename_i y hy;rw[List.cons_append,Xg];simp[cj,hi,if_true,hy];rw[<- Xg];exact ih (by simpa[hvT]using h) hk
      ·simp at h
     ·simp at h
  |_=>cases hs<;>simp[cj]at h
section
variable {P:Program} {M:Fm} {σ σ':St} {H:List TV} {xs:List Value} {ts:Array Value} {w:World} {G:Gh} {a:Act} {o:Oper}
def St.sub(σ:St)(p:bQ)(l:List TV)(t:TV):St:=⟨σ.tm,c7 σ.ce p.root (l.set p.off (dk (σ.c p.root p.off) p.hops t)),σ.vr⟩
theorem tE{p:bQ}{l:List TV}{t:TV}(hl:p.off<l.length):(σ.sub p l t).c p.root p.off=dk (σ.c p.root p.off) p.hops t:=by
 simp[St.c,St.sub,cn];simp[hl]
theorem AC(hI:Inv M σ [] [] ts w G){p:bQ}{c:List (List TV)}{el:List TV}{b n cap i sz j:Nat}{old v:Value}(Z6:p.root≠1)(ZI:G.hv w p=some (.slice (some ⟨b,0,none⟩) n cap))(hg:bY (σ.c p.root p.off) p.hops=some (.ow c))(hin:i<n)
 (hi:c[i]?=some el)(hl:el.length=sz)(hj:el[j]?=some (.v old))(hv:dP v=true){l:List TV}(hal:b6 σ.ce p.root=some l)(hol:p.off<l.length):
 ∃G',Inv M (σ.sub p l (.ow (c.modify i λel=>el.modify j λ_=>.v v))) [] [] ts (w.setCell ⟨b,i*sz+j,none⟩ v) G'/\(w.cell? ⟨b,i*sz+j,none⟩).isSome=true/\w.frozen? ⟨b,i*sz+j,none⟩=false/\G'.hv (w.setCell ⟨b,i*sz+j,none⟩ v) p=some (.slice (some ⟨b,0,none⟩) n cap):=by
 obtain⟨G1,ZN⟩:=hI.addHand (x:=v) (.v (λ_ h=>h) hv)
 have Va:bY (b8 M σ [] p.root p.off) p.hops=some (.ow c):=by rw[bZ (Z6)];exact hg
 obtain⟨c1,WC,_,_⟩:=ZN.2.2.1.hdr p _ c Z6 rfl ZI Va
 obtain⟨hd,tl,Xg⟩:∃hd tl,p.hops++[(i,sz,j)]=hd::tl:=by cases p.hops<;>exact⟨_,_,rfl⟩
 have Z8:G1.addrB w ⟨p.root,p.off,p.hops++[(i,sz,j)]⟩=some ⟨b,i*sz+j,none⟩:=by
  have:=tz (sz:=sz) (j:=j) WC hin;unfold Gh.addrB
  simp_all
 have QN:=uv hg hi hl hj
 have R3:bY (b8 M σ [.v v] p.root p.off) (p.hops++[(i,sz,j)])=some (.v old):=by rw[bZ (Z6)];exact QN
 have hrun:(oW ⟨p.root,p.off,p.hops++[(i,sz,j)]⟩ (.v v)).run σ=some ((),σ.sub p l (.ow (c.modify i λel=>el.modify j λ_=>.v v))):=by
  simp only[oW,SP.run,QN,ly,Bool.or_self,Bool.false_eq_true,if_false,hal,hol,if_true];rw[tT hg];rfl
 obtain⟨⟨u,hu⟩,Xs,G2,ZQ,hm,Zn,hβ⟩:=ZN.1.put (p:=⟨p.root,p.off,p.hops++[(i,sz,j)]⟩) (j:=0) Z6 Z8 R3 (by simp) (by simp) (by simpa using hrun)
 have WX:=ZQ.clear (by intro k hk;have:k=0:=by simp at hk;omega
                       simp)
 have RY:bY (b8 M σ [.v v] p.root p.off) p.hops=some (.ow c):=by rw[bZ (Z6)];exact hg
 obtain⟨c2,YC,_,_⟩:=hm.keeps.hdr p _ c Z6 rfl WC RY;exact⟨G2,WX,by simp_all,Xs,YC⟩
theorem nc{c:List (List TV)}{i j i' j':Nat}{x:TV}{el:List TV}{y:TV}(h:c[i']?=some el)(hy:el[j']?=some y)(hne:¬(i'=i/\j'=j)):
 ∃Wq,(c.modify i λel=>el.modify j λ_=>x)[i']?=some Wq/\Wq[j']?=some y:=by
 by_cases hi:i=i'
 ·subst hi
  have hj:¬j=j':=by omega
  simp_all
 ·simp_all
theorem AI{p:bQ}{b n cap sz:Nat}(Z6:p.root≠1)(hsz:0<sz):∀(vals:List Value)(c:List (List TV))(o:Nat)(σ:St)(w:World)(G:Gh)(l:List TV),vals≠[]->Inv M σ [] [] ts w G->G.hv w p=some (.slice (some ⟨b,0,none⟩) n cap)->bY (σ.c p.root p.off) p.hops=some (.ow c)->n=c.length ->
 (∀el∈c,el.length=sz)->(∀v∈vals,dP v=true)->(∀t,o<=t->t<o+vals.length->∃el y,c[t/sz]?=some el/\el[t%sz]?=some (.v y))->b6 σ.ce p.root=some l->p.off<l.length ->
 (∃G',Inv M (σ.sub p l (.ow (iv sz c o vals))) [] [] ts (w.setCells b o vals) G')/\∀j,j<vals.length->(w.cell? ⟨b,o+j,none⟩).isSome=true/\w.frozen? ⟨b,o+j,none⟩=false:=by
 intro vals
 induction vals with
 |nil=>intro c o σ w G l h;exact absurd rfl h
 |cons v vals ih=>
  intro c o σ w G l _ hI ZI hg hn hlen Q8 Zp hal hol;obtain⟨el,y,h1,h2⟩:=Zp o (Nat.le_refl _) (by simp);have Y8:el.length=sz:=hlen el (List.mem_of_getElem? h1)
  have PA:o/sz<n:=by rw[hn];exact(oGS h1).1
  have ho:o/sz*sz+o%sz=o:=by rw[Nat.mul_comm];exact Nat.div_add_mod o sz
  obtain⟨G1,hI1,Y',RR,WC⟩:=AC hI Z6 ZI hg PA h1 Y8 h2 (Q8 v (by simp)) hal hol;rw[ho]at hI1 Y' RR WC
  cases vals with
  |nil=>
   refine⟨⟨G1,hI1⟩,λj hj=>?_⟩
   obtain rfl:j=0:=by simp at hj;omega
   exact⟨Y',RR⟩
  |cons v2 vals=>
   obtain⟨c1,Zz⟩:∃c1,c1=c.modify (o/sz) λel=>el.modify (o%sz) λ_=>.v v:=⟨_,rfl⟩;rw[<- Zz]at hI1;obtain⟨l1,Vc⟩:∃l1,l1=l.set p.off (dk (σ.c p.root p.off) p.hops (.ow c1)):=⟨_,rfl⟩;have Q3:(σ.sub p l (.ow c1)).c p.root p.off=dk (σ.c p.root p.off) p.hops (.ow c1):=tE hol
   obtain⟨⟨G2,ZQ⟩,Zv⟩:=ih c1 (o+1) (σ.sub p l (.ow c1)) _ G1 l1 (by simp) hI1 WC (by rw[Q3];exact pE hg) (by rw[hn,Zz];simp) (λWq U9=>by
    have Ve:=g9 c (o/sz) (o%sz) (λ_=>.v v);have:Wq.length∈c1.map List.length:=List.mem_map_of_mem U9;rw[Zz,Ve]at this;obtain⟨e3,e4,e5⟩:=List.mem_map.1 this
    rw[<- e5];exact hlen e3 e4) (λx hx=>Q8 x (by simp at hx⊢;exact .inr hx)) (λt Wi Ym=>by
    obtain⟨Wq,y',q1,q2⟩:=Zp t (by omega) (by simp at Ym⊢;omega)
    obtain⟨Rn,q3,q4⟩:=nc (x:=.v v) q1 q2 (i:=o/sz) (j:=o%sz) (by
     rintro⟨e1,e2⟩;have h3:=Nat.div_add_mod t sz;have h4:=Nat.div_add_mod o sz;rw[e1,e2]at h3
     omega)
    exact⟨Rn,y',by rw[Zz];exact q3,q4⟩) (by simp[St.sub,cn,Vc]) (by rw[Vc];simpa using hol)
   refine⟨⟨G2,?_⟩,λj hj=>?_⟩
   ·have e:(σ.sub p l (.ow c1)).sub p l1 (.ow (iv sz c1 (o+1) (v2::vals)))=σ.sub p l (.ow (iv sz c o (v::v2::vals))):=by
     unfold St.sub;have SA:(St.c ⟨σ.tm,c7 σ.ce p.root (l.set p.off (dk (σ.c p.root p.off) p.hops (.ow c1))),σ.vr⟩ p.root p.off)=dk (σ.c p.root p.off) p.hops (.ow c1):=Q3;rw[SA,yr,oQ,Vc,List.set_set];simp only[iv,<- Zz]
    rw[e]at ZQ;exact ZQ
   ·cases j with
    |zero=>exact⟨Y',RR⟩
    |succ j=>
     have:=Zv j (by simpa using hj);rw[show o+1+j=o+(j+1) by omega,World.frozen?_setCell]at this;refine⟨?_,this.2⟩
     have hne:(⟨b,o,none⟩:Addr)≠⟨b,o+(j+1),none⟩:=λe=>by have:=congrArg Addr.off e;simp at this
     rw[World.cell?_setCell_other w _ _ _ hne]at this;exact this.1
theorem sW:∀{l:List TV}{vs:List Value},cc l=some vs->vs.length=l.length/\∀j (h:j<l.length)(h':j<vs.length),l[j]=.v vs[j]:=by
 intro l
 induction l with
 |nil=>intro vs h;simp[cc]at h;subst h;exact⟨rfl,λj h=>by simp at h⟩
 |cons t l ih=>
  intro vs h
  cases t with
  |v x=>
   simp[cc]at h
   cases hl:cc l with
   |none=>simp_all
   |some r=>
    simp[hl]at h;subst h;have ⟨e1,e2⟩:=ih hl;refine⟨by simp[e1],λj hj ZY=>?_⟩
    cases j with
    |zero=>rfl
    |succ j=>simp_all
  |_=>simp[cc]at h
theorem rQ{c:List (List TV)}{sz m:Nat}(hs:∀i (h:i<c.length),c[i].length=sz)(hm:m<=c.length):(c.take m).flatten.length=m*sz:=by
 rw[ox (sz:=sz) λi h=>by simp_all];simp[hm]
theorem l8{F fp:Nat->Prop}{t:TV}{v x:Value}{c c2:List (List TV)}{sz lo n cap:Nat}{ad:Option Addr}(h:dL w F fp t v)(ht:t=.ow c\/t=.sl c)(hs:∀i (h:i<c.length),c[i].length=sz)(Z3:0<sz)(Zv:c2=(c.drop lo).take n)(XF:lo+n<=c.length)
 (hx:x=.slice ad n cap)(Ze:0<n->∃b o len Z2,v=.slice (some ⟨b,o,none⟩) len Z2/\ad=some ⟨b,o+lo*sz,none⟩)(T5:ad=none->n=0){m:Nat}{vs:List Value}(hm:m<=c2.length)(hf:cc (c2.take m).flatten=some vs):(Builtin.firstCells sz m x).run P w=.ok vs.toArray w:=by
 subst hx
 have RF:c2.length=n:=by rw[Zv];simp;omega
 have YE:∀i (h:i<c2.length),c2[i].length=sz:=λi h=>by
  subst Zv;simp only[List.getElem_take,List.getElem_drop];exact hs _ (by simp at h;omega)
 obtain⟨e1,e2⟩:=sW hf;have Zp:=rQ YE hm
 cases ad with
 |none=>
  have hn:=T5 rfl
  have X6:m=0:=by omega
  subst X6;have:vs=[]:=oEN (by rw[e1,Zp];omega);subst this;rfl
 |some ad=>
  show(loadCells ad (m*sz)).run P w=_;obtain⟨a,capX,vals,f,rfl,YU,ZU,hrec,_⟩:=h.rows ht hs
  have Vn:vs.length=m*sz:=by rw[e1,Zp]
  have:=run_loadCells_list (P:=P) w ad vs λj y hj=>by
   have hjl:j<vs.length:=by
    rcases Nat.lt_or_ge j vs.length with h|h
    ·exact h
    ·rw[oGN h]at hj;simp at hj
   have R8:j<m*sz:=by omega
   have hq:j/sz<m:=(Nat.div_lt_iff_lt_mul Z3).2 R8;have hr:j%sz<sz:=Nat.mod_lt _ Z3
   have Q1:j/sz<c2.length:=by omega
   have X9:lo+j/sz<c.length:=by omega
   have Xy:j%sz<(c[lo+j/sz]).length:=by rw[hs _ X9];exact hr
   have Zb:(lo+j/sz)*sz+j%sz=lo*sz+j:=by
    rw[Nat.add_mul];have:=Nat.div_add_mod j sz;rw[Nat.mul_comm]at this;omega
   have hown:=hrec (lo+j/sz) (j%sz) X9 Xy;rw[Zb]at hown
   have Y8:c[lo+j/sz][j%sz]=.v y:=by
    have h1:=e2 j (by rw[Zp];exact R8) hjl;have h2:=fB (c:=c2.take m) (sz:=sz) (λi h=>by simpa using YE i (by simp at h;omega)) (i:=j/sz) (j:=j%sz) (by simp;omega) (by rw[List.getElem_take,YE _ Q1];exact hr);rw[show j/sz*sz+j%sz=j by rw[Nat.mul_comm];exact Nat.div_add_mod j sz,oGE (by rw[Zp];exact R8),h1]at h2
    injection h2 with h2
    have h3:(c2.take m)[j/sz]'(by simp;omega)=c[lo+j/sz]:=by
     subst Zv;simp
    have hy:vs[j]=y:=by simpa[hjl]using hj
    rw[<- hy,h2];simp only[h3]
   rw[Y8]at hown
   have WW:vals.getD (lo*sz+j) undef=y:=by
    cases hown with
    |v hfp Zp=>rfl
   have hlt:lo*sz+j<vals.length:=by
    rw[YU]
    have:(lo+j/sz)*sz+sz<=c.length*sz:=by
     have:(lo+j/sz+1)*sz<=c.length*sz:=Nat.mul_le_mul_right _ X9;rw[Nat.add_mul,Nat.one_mul]at this;exact this
    omega
   obtain⟨b,o,Wn,Zf⟩:=ZU (lo*sz+j) y (by rw[oGE hlt];rw[oGD,oGE hlt]at WW;simpa using WW);obtain⟨b',o',len,Z2,YF,U2⟩:=Ze (by rw[<- RF];exact Nat.lt_of_le_of_lt (Nat.zero_le _) Q1)
   injection YF with YF _ _
   rw[YF]at Wn
   injection Wn with Wn
   injection Wn with hb ho _
   subst hb;subst ho
   injection U2 with U2
   rw[U2,cB,show o'+lo*sz+j=o'+(lo*sz+j) by omega];exact Zf
  rw[Vn]at this;exact this
theorem xf(hI:Inv M σ [] [] ts w G){u:TV}{v:Value}(hu:TmR w (G.F M.A) σ.v (b8 M σ []) G u v){c2:List (List TV)}(hr:(contentOf u).run σ=some (c2,σ')):σ'=σ/\∀sz,0<sz->(∀i (h:i<c2.length),c2[i].length=sz)->
 ∃ad cap,v=.slice ad c2.length cap/\∀m vs,m<=c2.length->cc (c2.take m).flatten=some vs->(Builtin.firstCells sz m v).run P w=.ok vs.toArray w:=by
 cases u with
 |sl c=>
  simp only[contentOf,SP.run,oSJ,oPJ]at hr;obtain⟨rfl,rfl⟩:=hr;refine⟨rfl,λsz Z3 hs=>?_⟩
  cases hu with
  |sl h=>
   have hown:dL w (G.F M.A) (λ_=>False) (.sl c) v:=.sl (λ_ h=>h) h;obtain⟨ad,cap,hv,_⟩:=h.hdr;refine⟨ad,cap,hv,λm vs hm hf=>l8 (lo:=0) (n:=c.length) hown (.inr rfl) hs Z3 (by simp) (by simp) hv (λhn=>?_) (λhe=>?_) hm hf⟩
   ·cases h with
    | @sl _ a cap sz' u hsz hcap hmax hnil hcell hrec=>
     have e:sz'=sz:=by rw[<- hsz 0 hn,hs 0 hn]
     subst e;obtain⟨b,o,ha,_,_⟩:=hcell 0 0 hn Z3
     injection hv with hv _ _
     exact⟨b,o,_,_,by rw[ha],by rw[<- hv,ha];simp⟩
   ·cases h with
    | @sl _ a cap sz' u hsz hcap hmax hnil hcell hrec=>
     injection hv with hv _ _
     rw[hv]at hnil;have:=hnil he;omega
 |ow c=>
  cases hu with
  | @nil ad=>
   obtain⟨rfl,rfl⟩:=hr;refine⟨rfl,λsz Z3 hs=>⟨ad,0,rfl,λm vs hm hf=>?_⟩⟩
   have X6:m=0:=by simpa using hm
   subst X6;simp only[List.take_zero,List.flatten_nil,cc,oSJ]at hf;subst hf;cases ad<;>simp[Builtin.firstCells,loadCells,loadCellsFrom]
 |pk p vs=>
  simp only[contentOf]at hr;obtain⟨_,σ1,h1,h2⟩:=bG hr;have e1:σ1=σ:=(bS h1).1;have e2:=(bS h1).2;subst e1;obtain⟨tt,σ2,h3,h4⟩:=bG h2;obtain⟨e3,hg⟩:=cP h3;have e3:σ2=σ1:=e3;subst e3
  cases hu with
  |pk V0 h0 hv h=>
   obtain⟨Z6,c,ZI,ZC⟩:=h e2
   have Zw:bY (σ2.c p.root p.off) p.hops=some (.ow c):=by rw[bZ (by exact Z6)]at ZC;exact ZC
   rw[Zw]at hg
   injection hg with hg
   subst hg;simp only[SP.run,oSJ,oPJ]at h4;obtain⟨rfl,rfl⟩:=h4;refine⟨rfl,λsz Z3 hs=>?_⟩;obtain⟨fp,hown⟩:=mw hI ZI ZC;obtain⟨ad,cap,YF,_⟩:=hown.hdr;refine⟨ad,cap,YF,λm vs hm hf=>l8 (lo:=0) (n:=c.length) hown (.inl rfl) hs Z3 (by simp) (by simp) YF (λhn=>?_) (λhe=>?_) hm hf⟩
   ·cases hown with
    |nil=>simp at hn
    | @ow _ _ b cap cur e' sz' u f hfp hb hsz hcap hz0 hmax hcur hcell hrec hnb hdis=>
     injection YF with YF _ _
     exact⟨b,0,_,_,rfl,by rw[<- YF];simp⟩
   ·cases hown with
    |nil=>rfl
    | @ow _ _ b cap cur e' sz' u f hfp hb hsz hcap hz0 hmax hcur hcell hrec hnb hdis=>
     injection YF with YF _ _
     rw[he]at YF;simp at YF
 |pw p vs Y1 lo n=>
  simp only[contentOf]at hr;obtain⟨_,σ1,h1,h2⟩:=bG hr;have e1:σ1=σ:=(bS h1).1;have e2:=(bS h1).2;subst e1;obtain⟨tt,σ2,h3,h4⟩:=bG h2;obtain⟨e3,hg⟩:=cP h3;have e3:σ2=σ1:=e3;subst e3
  cases hu with
  |pw V0 h0 hv h=>
   obtain⟨Z6,c,hd,ZI,ZC,XF,a,cap,hx,Xj,XG,hnil,Xz,Ze⟩:=h e2
   have Zw:bY (σ2.c p.root p.off) p.hops=some (.ow c):=by rw[bZ (by exact Z6)]at ZC;exact ZC
   rw[Zw]at hg
   injection hg with hg
   subst hg;obtain⟨rfl,rfl⟩:=h4;refine⟨rfl,λsz Z3 hs=>?_⟩
   have Xv:((c.drop lo).take n).length=n:=by simp;omega
   obtain⟨fp,hown⟩:=mw hI ZI ZC;by_cases hn:n=0
   ·subst hn;refine⟨a,cap,by rw[Xv];exact hx,λm vs hm hf=>?_⟩
    have X6:m=0:=by omega
    subst X6;simp only[List.take_zero,List.flatten_nil,cc,oSJ]at hf;subst hf;rw[hx]
    cases a with
    |none=>rfl
    |some a=>simp[Builtin.firstCells,loadCells,loadCellsFrom]
   ·have SE:Y1=sz:=by
     rw[<- hs 0 (by omega)];simp only[List.getElem_take,List.getElem_drop];exact(Xz _ (by omega)).symm
    subst SE;refine⟨a,cap,by rw[Xv];exact hx,λm vs hm hf=>l8 (lo:=lo) (n:=n) hown (.inl rfl) Xz Z3 rfl XF hx (λhn=>?_) (λhe=>?_) hm hf⟩
    ·obtain⟨b,len,Z2,q1,q2⟩:=Ze hn;exact⟨b,0,len,Z2,q1,by rw[q2];simp⟩
    ·obtain⟨b,len,Z2,q1,q2⟩:=Ze (by omega);rw[he]at q2;simp at q2
 |_=>simp[contentOf,SP.run]at hr
theorem lc{t t' ty e:TypeId}{sz:Nat}(hu:P.underlying t=some (.slice e))(hs:(P.info? e).map (·.size)=some sz){v:Value}{W':Option Addr}{n2 ZG:Nat}(hv:v=.slice W' n2 ZG){ad:Option Addr}{n cap:Nat}{vs:List Value}(hf:(Builtin.firstCells sz (min n2 n) v).run P w=.ok vs.toArray w)
 {w':World}(hst:match ad with|some a=>(storeCells a vs).run P w=.ok () w'|none=>w'=w):
 (Builtin.copy_ #[t,t'] ty #[.slice ad n cap,v]).run P w=.ok (goInt ((min n2 n:Nat):Int)) w':=by
 subst hv
 cases hq:P.info? e with
 |none=>simp_all
 |some i=>
  have hi:i.size=sz:=by simp_all
  cases ad with
  |none=>
   subst hst;simp[Builtin.copy_,run_underlying hu,Builtin.lenOf,sizeOf,typeInfo,hq,hi,hf]
  |some a=>
   simp[Builtin.copy_,run_underlying hu,Builtin.lenOf,sizeOf,typeInfo,hq,hi,hf,hst]
theorem Cr(hI:Inv M σ [] [] a.tmps w G){d:Nat}(hd:o.dst=some d)(hN:d<M.N){x y:Opd}{x' y':Operand}{t t' e sz:TypeId}(hx:bJ x'=some x)(hy:bJ y'=some y)(ho:o.op=.call { callee:=.builtin .copy,args:=#[x',y'],argTypes:=#[t,t'] })
 (hu:P.underlying t=some (.slice e))(hs:(P.info? e).map (·.size)=some sz)(hr:(ev1 d (.cpy sz x y)).run σ=some ((),σ')):fX P M σ' a o w:=by
 simp only[ev1]at hr;obtain⟨tx,σ1,h1,h2⟩:=bG hr;obtain⟨rfl,Z4⟩:=cr hI.tmr hx h1;obtain⟨ty,σ2,h3,h4⟩:=bG h2;obtain⟨rfl,XJ⟩:=cr hI.tmr hy h3;obtain⟨c2,σ3,h5,h6⟩:=bG h4;obtain⟨rfl,VD⟩:=xf hI XJ h5
 have YI:∀r w',(Builtin.copy_ #[t,t'] o.type #[a.eval x',a.eval y']).run P w=.ok r w'->(execOp a.eval o).run P w=.ok (.value r) w':=by
  intro r w' h;simp[execOp,ho,resolve,invoke,builtin,h]
 have ZB:∀(p:bQ)(c:List (List TV))(lo n:Nat)(vd UM:Value)(ad:Option Addr)(cap:Nat),p.root≠1->G.hv w p=some UM->bY (σ3.c p.root p.off) p.hops=some (.ow c)->a.eval x'=vd->vd=.slice ad n cap->lo+n<=c.length ->
  (∀b0 len Z2,UM=.slice (some ⟨b0,0,none⟩) len Z2->True)->(0<n->∃b len Z2,UM=.slice (some ⟨b,0,none⟩) len Z2/\len=c.length/\ad=some ⟨b,lo*sz,none⟩)->(rr d p (σ3.c p.root p.off) (Bj sz c c2 lo n)).run σ3=some ((),σ')->fX P M σ' a o w:=by
  intro p c lo n vd UM ad cap Z6 ZI hg Q7 Q9 XF _ YH hrun;unfold Bj at hrun;split at hrun
  ·rename_i Zp;split at hrun
   case isFalse=>simp[rr,SP.run]at hrun
   rename_i YB;simp only[oBA,oDE,List.all_eq_true,beq_iff_eq]at YB;obtain⟨W',ZG,Ur,Xr⟩:=VD sz YB.1 λi h=>YB.2 _ (List.getElem_mem h);have hf:=Xr (min c2.length n) [] (Nat.min_le_left _ _) Zp;have RN:=lc (t':=t') (ty:=o.type) (ad:=ad) (n:=n) (cap:=cap) (w':=w) hu hs Ur hf (by cases ad<;>rfl);simp only[rr]at hrun;refine dH hI hd hN (.v rfl) hrun (YI _ _ ?_);rw[Q7,Q9];exact RN
  ·rename_i v vs Zp;split at hrun
   case isFalse=>simp[rr,SP.run]at hrun
   rename_i YB;simp only[oBA,oDE,List.all_eq_true,beq_iff_eq]at YB;obtain⟨⟨⟨⟨⟨k1,k2⟩,k3⟩,k4⟩,k5⟩,k6⟩:=YB;have X1:∀i (h:i<c2.length),c2[i].length=sz:=λi h=>k3 _ (List.getElem_mem h);obtain⟨W',ZG,Ur,Xr⟩:=VD sz k1 X1;have hf:=Xr (min c2.length n) (v::vs) (Nat.min_le_left _ _) Zp
   have YU:(v::vs).length=min c2.length n*sz:=by rw[(sW Zp).1,rQ X1 (Nat.min_le_left _ _)]
   have X':0<n:=by
    rcases Nat.eq_zero_or_pos n with h|h
    ·subst h;simp at YU
    ·exact h
   obtain⟨b,len,Z2,R5,hlen,Ze⟩:=YH X';subst hlen;rw[R5]at ZI;simp only[rr]at hrun;obtain⟨l,hl,hol,h7⟩:=b7 hrun;have Sk:min c2.length n<=n:=Nat.min_le_right _ _
   obtain⟨⟨G1,hI1⟩,hcell⟩:=AI Z6 k1 (v::vs) c (lo*sz) σ3 w G l (by simp) hI ZI hg rfl (λel Y8=>k2 el Y8) k6 (λt Wi Ym=>by
    rw[YU]at Ym;have Vj:lo<=t/sz:=(Nat.le_div_iff_mul_le k1).2 Wi;have XY:t/sz<lo+min c2.length n:=(Nat.div_lt_iff_lt_mul k1).2 (by rw[Nat.add_mul];exact Ym);have Vk:t%sz<sz:=Nat.mod_lt _ k1;have QQ:t/sz<c.length:=Nat.lt_of_lt_of_le XY k4
    have Zq:c[t/sz]∈(c.drop lo).take (min c2.length n):=by
     obtain⟨q,hq⟩:∃q,t/sz=lo+q:=⟨t/sz-lo,by rw[Nat.add_sub_cancel' Vj]⟩;simp only[hq];rw[hq]at XY;refine List.mem_of_getElem? (i:=q) ?_;rw[List.getElem?_take,oIP (Nat.lt_of_add_lt_add_left XY),List.getElem?_drop];exact oGE _
    have hlt:t%sz<c[t/sz].length:=by rw[k2 _ (List.getElem_mem QQ)];exact Vk
    have TS:=k5 _ Zq _ (List.getElem_mem hlt);refine⟨c[t/sz],?_⟩
    cases hcv:c[t/sz][t%sz]with
    |v y=>exact⟨y,oGE QQ,by rw[oGE hlt,hcv]⟩
    |_=>rw[hcv]at TS;simp[isV]at TS) hl hol
   have hst:=run_storeCells_cells (P:=P) b (lo*sz) (v::vs) 0 w (λj hj=>by simpa using(hcell j hj).1) (λj hj=>by simpa using(hcell j hj).2) (λu hu=>kU (k6 u hu));have RN:=lc (t':=t') (ty:=o.type) (ad:=ad) (n:=n) (cap:=cap) (w':=w.setCells b (lo*sz) (v::vs)) hu hs Ur hf (by rw[Ze];simpa using hst);have Sy:=YI _ _ (by rw[Q7,Q9];exact RN);simp only[wr,SP.run,oSJ,oPJ,true_and]at h7;have e9:σ'={ σ3.sub p l (.ow (iv sz c (lo*sz) (v::vs)))with tm:=c7 (σ3.sub p l (.ow (iv sz c (lo*sz) (v::vs)))).tm d (.v (.int .i64 ((min c2.length n:Nat):Int))) }:=h7.symm;rw[e9];refine⟨_,_,_,G1,Sy,.inl rfl,?_⟩;rw[hd];exact hI1.wrT hN (.v rfl)
  ·simp[rr,SP.run]at hrun
 cases tx with
 |pk p vs=>
  simp only at h6;obtain⟨_,σ4,h7,h8⟩:=bG h6;have e1:σ4=σ3:=(bS h7).1;have e2:=(bS h7).2;subst e1;simp only[SP.run]at h8;generalize hz:a.eval x'=z at Z4
  cases Z4 with
  |pk V0 h0 hv h=>
   obtain⟨Z6,c,ZI,ZC⟩:=h e2
   have Zw:bY (σ4.c p.root p.off) p.hops=some (.ow c):=by rw[bZ (by exact Z6)]at ZC;exact ZC
   rw[Zw]at h8;simp only at h8;obtain⟨fp,hown⟩:=mw hI ZI ZC;obtain⟨ad,cap,Wp,_⟩:=hown.hdr;refine ZB p c 0 c.length z z ad cap Z6 ZI Zw hz Wp (by simp) (λ_ _ _ _=>trivial) (λhn=>?_) h8
   cases hown with
   |nil=>simp at hn
   | @ow _ _ b OR cur e' sz' u f hfp hb hsz hcap hz0 hmax hcur hcell hrec hnb hdis=>
    injection Wp with Wp _ _
    exact⟨b,_,_,rfl,rfl,by rw[<- Wp];simp⟩
 |pw p vs sz' lo n=>
  simp only at h6;obtain⟨_,σ4,h7,h8⟩:=bG h6;have e1:σ4=σ3:=(bS h7).1;have e2:=(bS h7).2;subst e1;simp only[SP.run]at h8;generalize hz:a.eval x'=z at Z4
  cases Z4 with
  |pw V0 h0 hv h=>
   obtain⟨Z6,c,hd',ZI,ZC,XF,ad,cap,SR,Xj,XG,hnil,Xz,Ze⟩:=h e2
   have Zw:bY (σ4.c p.root p.off) p.hops=some (.ow c):=by rw[bZ (by exact Z6)]at ZC;exact ZC
   rw[Zw]at h8;simp only at h8;split at h8
   case isFalse=>simp[SP.run]at h8
   rename_i WK;subst WK;obtain⟨fp,hown⟩:=mw hI ZI ZC;refine ZB p c lo n z hd' ad cap Z6 ZI Zw hz SR XF (λ_ _ _ _=>trivial) (λhn=>?_) h8;obtain⟨b,len,Z2,q1,q2⟩:=Ze hn;obtain⟨Of,Zm,q3,_⟩:=hown.hdr;rw[q1]at q3
   injection q3 with _ q3 _
   exact⟨b,len,Z2,q1,q3,q2⟩
 |_=>simp[SP.run]at h6
end
def pS(P:Program)(t:TypeId):Option Nat:=(P.info? t).map (·.size)
def BF(P:Program)(t:TypeId):Option (List Value):=(P.info? t).bind (·.zero.map (·.cells.toList))
def sr(P:Program)(t:TypeId):Option (Option Nat):=
 match P.underlying t with
 |some (.struct _)=>(pS P t).map some
 |some (.array _ _)=>(pS P t).map some
 |some _=>some none
 |none=>none
def sm:Option Operand->Option (Option Opd)
 |none=>some none
 |some x=>(bJ x).map some
def jm{α β:Type}(f:α->Option β):List α->Option (List β)
 | []=>some []
 |x::r=>match f x,jm f r with|some y,some l=>some (y::l)|_,_=>none
def j8(b:Bool):Option Unit:=if b then some ()else none
def EI(mv n:Nat)(x:Opd):TOp:=if mv=3 then .boxi n x else .box n (mv==1) x
def dn(P:Program)(mv:Nat):Op->Option TOp
 |.move x=>match x with
  |.const (.agg cs)=>some (.asn true (.c (.agg cs)))
  |x=>(bJ x).map .mov
 |.assign x=>if mv=2 then(bJ x).map .mov else(bJ x).map (.asn (mv==1))
 |.pick c a b=>do some (.pick (<- bJ c) (<- bJ a) (<- bJ b))
 |.alloc e=>(BF P e).map .alloc
 |.box e x=>do some (EI mv (<- pS P e) (<- bJ x))
 |.load t a=>do some (.load (<- sr P t) (<- bJ a))
 |.store t a x=>do
  let n <- pS P t
  j8 (decide (0<n))
  some (.store n (mv==1) (<- bJ a) (<- bJ x))
 |.nilCheck x=>(bJ x).map .nilc
 |.binOp op t x y _=>
  match P.underlying t with
  |some .bool=>match op with
   |.eql=>do some (.bnb false (<- bJ x) (<- bJ y))
   |.neq=>do some (.bnb true (<- bJ x) (<- bJ y))
   |_=>none
  |some (.int _)=>do some (.bin op (<- bJ x) (<- bJ y))
  |some .string=>do some (.bin op (<- bJ x) (<- bJ y))
  |some (.struct _)=>
   if P.eqGuardType P.depth t then none
   else match j9 P 50 t with
    |some ks=>match op with
     |.eql=>do some (.eqa ks false (<- bJ x) (<- bJ y))
     |.neq=>do some (.eqa ks true (<- bJ x) (<- bJ y))
     |_=>none
    |none=>none
  |_=>none
 |.unOp op _ x=>(bJ x).map (.un op)
 |.convert s d x=>
  match P.underlying s,P.underlying d with
  |some (.int _),some (.int k)=>(bJ x).map (.conv k)
  |some .string,some (.slice e)=>match P.underlying e with
   |some (.int .u8)=>(bJ x).map .s2b
   |_=>none
  |some (.slice e),some .string=>match P.underlying e with
   |some (.int .u8)=>(bJ x).map .b2s
   |_=>none
  |_,_=>none
 |.fieldAddr s x f=>
  match P.underlying s with
  |some (.struct fs)=>match fs[f]? with
   |some fd=>match pS P fd.type with
    |some (_+1)=>(bJ x).map (.fld fd.offset)
    |_=>none
   |none=>none
  |_=>none
 |.field s x f=>
  match P.underlying s with
  |some (.struct fs)=>match fs[f]? with
   |some fd=>do some (.fldv fd.offset (<- sr P fd.type) (<- bJ x))
   |none=>none
  |_=>none
 |.indexAddr t x i=>
  match P.underlying t with
  |some (.slice e)=>do some (.idx (<- pS P e) (<- bJ x) (<- bJ i))
  |some (.array n e)=>do some (.idxa n (<- pS P e) (<- bJ x) (<- bJ i))
  |_=>none
 |.index t x i=>
  match P.underlying t with
  |some .string=>do some (.ixs (<- bJ x) (<- bJ i))
  |_=>none
 |.extract x i=>(bJ x).map λx=>.ext x i
 |.makeSlice t l c=>
  match P.underlying t with
  |some (.slice e)=>match P.info? e with
   |some i=>match i.zero with
    |some z=>do
     j8 (decide (i.bytes<=16777216*i.size)&&decide (0<i.size))
     some (.mks i.size z.cells.toList (<- bJ l) (<- bJ c))
    |none=>none
   |none=>none
  |_=>none
 |.slice t x lo hi mx=>
  match mx with
  |some m=>match hi,P.underlying t with
   |some h,some (.slice e)=>do
    j8 (xz lo&&nC h&&nC m)
    let _ <- pS P e
    some (.emp (<- bJ x))
   |_,_=>none
  |none=>match P.underlying t with
   |some (.slice e)=>do some (.slc (<- pS P e) (<- bJ x) (<- sm lo) (<- sm hi))
   |_=>none
 |.makeFunc fn first caps=>
  match fn with
  |.func f=>do
   j8 (first.size==0)
   some (.mkf f (<- jm bJ caps.toList))
  |_=>none
 |.buildSlice t len parts=>
  match P.underlying t with
  |some (.slice e)=>match P.info? e with
   |some i=>do
    j8 ((i.zero.isSome||len*i.size==0)&&decide (len*i.size<=16777216)&&decide (len<=16777216)&&parts.toList.map (·.1)==List.range len)
    some (.bsl i.size (mv==1) len (<- jm (λp=>bJ p.2) parts.toList))
   |none=>none
  |_=>none
 |.build t parts=>
  match P.underlying t,BF P t with
  |some (.struct fs),some z=>do
   j8 (fs.toList.all λf=>(pS P f.type).isSome)
   let ps <- jm (λp=>match fs[p.1]? with
    |some f=>match pS P f.type,bJ p.2 with
     |some n,some x=>if f.offset+n<=z.length then some (f.offset,n,x)else none
     |_,_=>none
    |none=>none) parts.toList
   some (.bld z (mv==1) ps)
  |some (.array _ e),some z=>match pS P e with
   |some sz=>do
    let ps <- jm (λp=>match bJ p.2 with
     |some x=>if p.1*sz+sz<=z.length then some (p.1*sz,sz,x)else none
     |none=>none) parts.toList
    some (.bld z (mv==1) ps)
   |none=>none
  |_,_=>none
 |.call c=>
  match c with
  | { callee:=.builtin .append,args,argTypes }=>match args.toList,argTypes.toList with
   | [s,x],[t,t']=>if t=t' then
    match P.underlying t with
    |some (.slice e)=>match P.info? e with
     |some i=>match i.zero with
      |some z=>do
       j8 (z.cells.size==i.size&&decide (0<i.size))
       some (.app i.size i.bytes (mv==1) (z.cells.all dP) (<- bJ s) (<- bJ x))
      |none=>none
     |none=>none
    |_=>none
    else match P.underlying t,P.underlying t' with
     |some (.slice e),some (.int _)=>match P.info? e with
      |some i=>match i.zero with
       |some z=>do
        j8 (decide (0<i.size))
        some (.apz i.size i.bytes z.cells.toList (<- bJ s) (<- bJ x))
       |none=>none
      |none=>none
     |_,_=>none
   |_,_=>none
  | { callee:=.builtin .copy,args,argTypes }=>match args.toList,argTypes.toList with
   | [x,y],[t,_]=>match P.underlying t with
    |some (.slice e)=>do some (.cpy (<- pS P e) (<- bJ x) (<- bJ y))
    |_=>none
   |_,_=>none
  | { callee:=.builtin .min,args,argTypes:=_ }=>(jm bJ args.toList).map (.mm false)
  | { callee:=.builtin .max,args,argTypes:=_ }=>(jm bJ args.toList).map (.mm true)
  | { callee:=.builtin .len,args,argTypes }=>match args.toList,argTypes.toList with
   | [x],[t]=>match P.underlying t with
    |some (.slice _)=>(bJ x).map .len
    |some .string=>(bJ x).map .lens
    |_=>none
   |_,_=>none
  |_=>none
 |_=>none
theorem og{P:Program}{t:TypeId}{n:Option Nat}(h:sr P t=some n):wb P t n:=by
 unfold sr at h;split at h
 ·rename_i f hu
  cases hs:pS P t with
  |none=>simp_all
  |some k=>simp[hs]at h;subst h;exact⟨⟨_,hu,.inl ⟨_,rfl⟩⟩,hs⟩
 ·rename_i n e hu
  cases hs:pS P t with
  |none=>simp_all
  |some k=>simp[hs]at h;subst h;exact⟨⟨_,hu,.inr ⟨_,_,rfl⟩⟩,hs⟩
 ·rename_i d Yp hd2 hu
  injection h with h
  subst h;exact⟨d,hu,λf e=>Yp f (by rw[<- e]),λn e' e=>hd2 n e' (by rw[<- e])⟩
 ·simp at h
theorem sk{x:Option Operand}{y:Option Opd}(h:sm x=some y):x.map bJ=y.map some:=by
 cases x with
 |none=>simp[sm]at h;subst h;rfl
 |some x=>
  simp[sm]at h
  cases hc:bJ x with
  |none=>simp_all
  |some z=>simp[hc]at h;subst h;simp[hc]
theorem iw{α β:Type}{f:α->Option β}:∀{l:List α}{r:List β},jm f l=some r->l.map f=r.map some:=by
 intro l
 induction l with
 |nil=>intro r h;simp[jm]at h;subst h;rfl
 |cons x l ih=>
  intro r h;simp[jm]at h
  cases hx:f x with
  |none=>simp_all
  |some y=>
   cases hl:jm f l with
   |none=>simp_all
   |some q=>simp[hx,hl]at h;subst h;simp[hx,ih hl]
theorem fP{b:Bool}{u:Unit}(h:j8 b=some u):b=true:=by
 unfold j8 at h
 simp_all
theorem bN{α β:Type}{x:Option α}{f:α->Option β}{y:β}(h:(x >>= f)=some y):∃a,x=some a/\f a=some y:=by
 cases x with
 |none=>simp_all
 |some a=>simp_all
theorem dV{α β:Type}{x:Option α}{f:α->β}{y:β}(h:x.map f=some y):∃a,x=some a/\f a=y:=by
 simp_all
section
variable {P:Program} {M:Fm} {σ σ':St} {ts:Array Value} {w:World} {G:Gh} {a:Act} {o:Oper}
theorem Ch(hI:Inv M σ [] [] a.tmps w G){d:Nat}(hd:o.dst=some d)(hN:d<M.N)(YL:M.pr (2*d+2)=none){mv:Nat}{t:TOp}(hc:dn P mv o.op=some t)(hr:(ev1 d t).run σ=some ((),σ'))(hns:¬ ∃ty x y,o.op=.store ty x y):fX P M σ' a o w:=by
 cases ho:o.op with
 |move x=>
  rw[ho]at hc;simp only[dn]at hc;split at hc
  ·injection hc with hc
   subst hc;exact yl hI hd hN rfl (.inr ho) hr
  ·obtain⟨y,hy,rfl⟩:=dV hc;exact xZ hI hd hN hy (.inl ho) hr
 |assign x=>
  rw[ho]at hc;simp only[dn]at hc;split at hc
  ·obtain⟨y,hy,rfl⟩:=dV hc;exact xZ hI hd hN hy (.inr ho) hr
  ·obtain⟨y,hy,rfl⟩:=dV hc;exact yl hI hd hN hy (.inl ho) hr
 |pick c x y=>
  rw[ho]at hc;simp only[dn]at hc;obtain⟨c1,h1,hc⟩:=bN hc;obtain⟨x1,h2,hc⟩:=bN hc;obtain⟨y1,h3,hc⟩:=bN hc
  injection hc with hc
  subst hc;exact Am hI hd hN h1 h2 h3 ho hr
 |alloc e=>
  rw[ho]at hc;obtain⟨z,hz,rfl⟩:=dV hc;exact ym hI hd hN YL ho hz hr
 |box e x=>
  rw[ho]at hc;simp only[dn]at hc;obtain⟨n,h1,hc⟩:=bN hc;obtain⟨y,h2,hc⟩:=bN hc
  injection hc with hc
  subst hc;unfold EI at hr;split at hr
  ·exact At hI hd hN h2 ho hr
  ·exact Cu hI hd hN YL h2 ho hr
 |load t' x=>
  rw[ho]at hc;simp only[dn]at hc;obtain⟨n,h1,hc⟩:=bN hc;obtain⟨y,h2,hc⟩:=bN hc
  injection hc with hc
  subst hc;exact Ao hI hd hN h2 ho (og h1) hr
 |nilCheck x=>
  rw[ho]at hc;obtain⟨y,hy,rfl⟩:=dV hc;exact An hI hd hN hy ho hr
 |binOp op ty x y yt=>
  rw[ho]at hc;simp only[dn]at hc
  have ZZ:(do some (TOp.bin op (<- bJ x) (<- bJ y)):Option TOp)=some t->fX P M σ' a o w:=by
   intro hc;obtain⟨x1,h2,hc⟩:=bN hc;obtain⟨y1,h3,hc⟩:=bN hc
   injection hc with hc
   subst hc;exact Cw hI hd hN h2 h3 ho hr
  split at hc
  ·rename_i hu;split at hc
   ·obtain⟨x1,h2,hc⟩:=bN hc;obtain⟨y1,h3,hc⟩:=bN hc
    injection hc with hc
    subst hc;exact yk hI hd hN h2 h3 ho (.inl ⟨rfl,rfl⟩) hu hr
   ·obtain⟨x1,h2,hc⟩:=bN hc;obtain⟨y1,h3,hc⟩:=bN hc
    injection hc with hc
    subst hc;exact yk hI hd hN h2 h3 ho (.inr ⟨rfl,rfl⟩) hu hr
   ·simp at hc
  ·exact ZZ hc
  ·exact ZZ hc
  ·rename_i fs hu;split at hc
   case isTrue=>simp at hc
   rename_i Xe;split at hc
   case h_2=>simp at hc
   rename_i ks hk;split at hc
   ·obtain⟨x1,h2,hc⟩:=bN hc;obtain⟨y1,h3,hc⟩:=bN hc
    injection hc with hc
    subst hc;exact yg hI hd hN h2 h3 ho (.inl ⟨rfl,rfl⟩) hu hk (by simpa using Xe) hr
   ·obtain⟨x1,h2,hc⟩:=bN hc;obtain⟨y1,h3,hc⟩:=bN hc
    injection hc with hc
    subst hc;exact yg hI hd hN h2 h3 ho (.inr ⟨rfl,rfl⟩) hu hk (by simpa using Xe) hr
   ·simp at hc
  ·simp at hc
 |unOp op ty x=>
  rw[ho]at hc;obtain⟨y,hy,rfl⟩:=dV hc;exact DT hI hd hN hy ho hr
 |convert s dd x=>
  rw[ho]at hc;simp only[dn]at hc;split at hc
  ·rename_i ks k hs WT;obtain⟨y,hy,rfl⟩:=dV hc;exact As hI hd hN hy ho hs WT hr
  ·rename_i e hs WT;split at hc
   ·rename_i he;obtain⟨y,hy,rfl⟩:=dV hc;exact Cf hI hd hN hy ho hs WT he hr
   ·simp at hc
  ·rename_i e hs WT;split at hc
   ·rename_i he;obtain⟨y,hy,rfl⟩:=dV hc;exact Cx hI hd hN hy ho hs WT he hr
   ·simp at hc
  ·simp at hc
 |fieldAddr s x f=>
  rw[ho]at hc;simp only[dn]at hc;split at hc
  ·rename_i fs hu;split at hc
   ·rename_i fd hf;split at hc
    ·rename_i n hs;obtain⟨y,hy,rfl⟩:=dV hc;exact Co hI hd hN hy ho hu hf ⟨_,hs⟩ hr
    ·simp at hc
   ·simp at hc
  ·simp at hc
 |field s x f=>
  rw[ho]at hc;simp only[dn]at hc;split at hc
  ·rename_i fs hu;split at hc
   ·rename_i fd hf;obtain⟨n,h1,hc⟩:=bN hc;obtain⟨y,h2,hc⟩:=bN hc
    injection hc with hc
    subst hc;exact Ar hI hd hN h2 ho hu hf (og h1) hr
   ·simp at hc
  ·simp at hc
 |indexAddr ty x i=>
  rw[ho]at hc;simp only[dn]at hc;split at hc
  ·rename_i e hu;obtain⟨n,h1,hc⟩:=bN hc;obtain⟨y,h2,hc⟩:=bN hc;obtain⟨z,h3,hc⟩:=bN hc
   injection hc with hc
   subst hc;exact Cn hI hd hN h2 h3 ho hu h1 hr
  ·rename_i n e hu;obtain⟨sz,h1,hc⟩:=bN hc;obtain⟨y,h2,hc⟩:=bN hc;obtain⟨z,h3,hc⟩:=bN hc
   injection hc with hc
   subst hc;exact Aq hI hd hN h2 h3 ho hu h1 hr
  ·simp at hc
 |index ty x i=>
  rw[ho]at hc;simp only[dn]at hc;split at hc
  ·rename_i hu;obtain⟨y,h2,hc⟩:=bN hc;obtain⟨z,h3,hc⟩:=bN hc
   injection hc with hc
   subst hc;exact Cm hI hd hN h2 h3 ho hu hr
  ·simp at hc
 |extract x i=>
  rw[ho]at hc;obtain⟨y,hy,rfl⟩:=dV hc;exact Cp hI hd hN hy ho hr
 |makeSlice ty l c=>
  rw[ho]at hc;simp only[dn]at hc;split at hc
  ·rename_i e hu;split at hc
   ·rename_i i hi;split at hc
    ·rename_i z hz;obtain⟨u,h1,hc⟩:=bN hc;obtain⟨y,h2,hc⟩:=bN hc;obtain⟨y2,h3,hc⟩:=bN hc
     injection hc with hc
     subst hc;have hg:=fP h1;simp only[oBA,oDE]at hg;exact Cj hI hd hN h2 h3 ho hu hi hz rfl rfl hg.1 hg.2 hr
    ·simp at hc
   ·simp at hc
  ·simp at hc
 |slice ty x lo hi mx=>
  rw[ho]at hc;simp only[dn]at hc;split at hc
  ·split at hc
   ·rename_i m h e hu;obtain⟨_,hg,hc⟩:=bN hc;obtain⟨n,h1,hc⟩:=bN hc;obtain⟨y,h2,hc⟩:=bN hc
    injection hc with hc
    subst hc;have hg:=fP hg;simp only[oBA]at hg;exact Cq hI hd hN h2 ho hg.1.1 hg.1.2 hg.2 hu h1 hr
   ·simp at hc
  ·split at hc
   ·rename_i e hu;obtain⟨n,h1,hc⟩:=bN hc;obtain⟨y,h2,hc⟩:=bN hc;obtain⟨l1,h3,hc⟩:=bN hc;obtain⟨h4,h5,hc⟩:=bN hc
    injection hc with hc
    subst hc;exact Ce hI hd hN h2 (sk h3) (sk h5) ho hu h1 hr
   ·simp at hc
 |makeFunc fn first caps=>
  rw[ho]at hc;simp only[dn]at hc;split at hc
  ·rename_i f;obtain⟨u,h1,hc⟩:=bN hc;obtain⟨l,h2,hc⟩:=bN hc
   injection hc with hc
   subst hc;have hg:=fP h1
   have hf:first=#[]:=by simpa using hg
   subst hf;exact Ck hI hd hN (iw h2) ho hr
  ·simp at hc
 |buildSlice ty len parts=>
  rw[ho]at hc;simp only[dn]at hc;split at hc
  ·rename_i e hu;split at hc
   ·rename_i i hi;obtain⟨u,h1,hc⟩:=bN hc;obtain⟨l,h2,hc⟩:=bN hc
    injection hc with hc
    subst hc;have hg:=fP h1;simp only[oBA,Bool.or_eq_true,oDE,beq_iff_eq]at hg;obtain⟨⟨⟨g1,g2⟩,g3⟩,g4⟩:=hg;refine Ct hI hd hN ho hu hi rfl (λh0=>?_) g4 (iw h2) g2 g3 hr;rcases g1 with g1|g1
    ·exact Option.isSome_iff_exists.1 g1
    ·omega
   ·simp at hc
  ·simp at hc
 |build ty parts=>
  rw[ho]at hc;simp only[dn]at hc;split at hc
  ·rename_i fs z hu hz;obtain⟨u,h1,hc⟩:=bN hc;obtain⟨ps,h2,hc⟩:=bN hc
   injection hc with hc
   subst hc;have hg:=fP h1;simp only[List.all_eq_true]at hg;have hm:=iw h2;refine Cv hI hd hN (szf:=λf=>(pS P f.type).getD 0) ho hu hz (λf hf=>?_) ?_ (λk h h'=>?_) hr
   ·have:=hg f hf;obtain⟨n,hn⟩:=Option.isSome_iff_exists.1 this;rw[hn];exact hn
   ·have:=congrArg List.length hm;simpa using this
   ·have hk:(parts.toList.map (λp=>match fs[p.1]? with
     |some f=>match pS P f.type,bJ p.2 with
      |some n,some x=>if f.offset+n<=z.length then some (f.offset,n,x)else none
      |_,_=>none
     |none=>none))[k]?=(ps.map some)[k]?:=by rw[hm]
    simp only[List.getElem?_map,oGE h',oMS,Array.getElem?_toList,Array.getElem?_eq_getElem h]at hk
    cases hf:fs[parts[k].1]? with
    |none=>simp[hf]at hk
    |some f=>
     cases hs:pS P f.type with
     |none=>simp[hf,hs]at hk
     |some n=>
      cases hx:bJ parts[k].2 with
      |none=>simp[hf,hs,hx]at hk
      |some x=>
       simp only[hf,hs,hx,oSJ]at hk;split at hk
       ·rename_i XQ
        injection hk with hk
        rw[<- hk];exact⟨rfl,by simp[hs],XQ⟩
       ·simp at hk
  ·rename_i n e z hu hz;split at hc
   ·rename_i sz hsz;obtain⟨ps,h2,hc⟩:=bN hc
    injection hc with hc
    subst hc;have hm:=iw h2;refine Au hI hd hN ho hu hz hsz ?_ (λk h h'=>?_) hr
    ·have:=congrArg List.length hm;simpa using this
    ·have hk:(parts.toList.map (λp=>match bJ p.2 with
      |some x=>if p.1*sz+sz<=z.length then some (p.1*sz,sz,x)else none
      |none=>none))[k]?=(ps.map some)[k]?:=by rw[hm]
     simp only[List.getElem?_map,oGE h',oMS,Array.getElem?_toList,Array.getElem?_eq_getElem h]at hk
     cases hx:bJ parts[k].2 with
     |none=>simp[hx]at hk
     |some x=>
      simp only[hx,oSJ]at hk;split at hk
      ·rename_i XQ
       injection hk with hk
       rw[<- hk];exact⟨rfl,rfl,rfl,XQ⟩
      ·simp at hk
   ·simp at hc
  ·simp at hc
 |call c=>
  rw[ho]at hc;simp only[dn]at hc;split at hc
  ·rename_i args argTypes;split at hc
   ·rename_i s x t1 t2 ea et
    have ea:args=#[s,x]:=by rw[<- Array.toArray_toList (xs:=args),ea]
    have et:argTypes=#[t1,t2]:=by rw[<- Array.toArray_toList (xs:=argTypes),et]
    subst ea;subst et;split at hc
    ·rename_i SG;subst SG;split at hc
     ·rename_i e hu;split at hc
      ·rename_i i hi;split at hc
       ·rename_i z hz;obtain⟨u,h1,hc⟩:=bN hc;obtain⟨y,h2,hc⟩:=bN hc;obtain⟨y2,h3,hc⟩:=bN hc
        injection hc with hc
        subst hc;have hg:=fP h1;simp only[oBA,oDE,beq_iff_eq]at hg;exact Cz hI hd hN h2 h3 ho hu hi hz hg.1 rfl rfl hg.2 hr
       ·simp at hc
      ·simp at hc
     ·simp at hc
    ·split at hc
     ·rename_i e kn hu XI;split at hc
      ·rename_i i hi;split at hc
       ·rename_i z hz;obtain⟨u,h1,hc⟩:=bN hc;obtain⟨y,h2,hc⟩:=bN hc;obtain⟨y2,h3,hc⟩:=bN hc
        injection hc with hc
        subst hc;have hg:=fP h1;exact Cy hI hd hN h2 h3 ho hu XI hi hz rfl rfl rfl (of_decide_eq_true hg) hr
       ·simp at hc
      ·simp at hc
     ·simp at hc
   ·simp at hc
  ·rename_i args argTypes;split at hc
   ·rename_i x y t1 t2 ea et
    have ea:args=#[x,y]:=by rw[<- Array.toArray_toList (xs:=args),ea]
    have et:argTypes=#[t1,t2]:=by rw[<- Array.toArray_toList (xs:=argTypes),et]
    subst ea;subst et;split at hc
    ·rename_i e hu;obtain⟨sz,h1,hc⟩:=bN hc;obtain⟨y1,h2,hc⟩:=bN hc;obtain⟨y2,h3,hc⟩:=bN hc
     injection hc with hc
     subst hc;exact Cr hI hd hN h2 h3 ho hu h1 hr
    ·simp at hc
   ·simp at hc
  ·rename_i args argTypes;obtain⟨l,h1,rfl⟩:=dV hc;exact BK (mx:=false) hI hd hN (iw h1) ho hr
  ·rename_i args argTypes;obtain⟨l,h1,rfl⟩:=dV hc;exact BK (mx:=true) hI hd hN (iw h1) ho hr
  ·rename_i args argTypes;split at hc
   ·rename_i x t1 ea et
    have ea:args=#[x]:=by rw[<- Array.toArray_toList (xs:=args),ea]
    have et:argTypes=#[t1]:=by rw[<- Array.toArray_toList (xs:=argTypes),et]
    subst ea;subst et;split at hc
    ·rename_i e hu;obtain⟨y,hy,rfl⟩:=dV hc;exact Cl hI hd hN hy ho hu hr
    ·rename_i hu;obtain⟨y,hy,rfl⟩:=dV hc;exact Ap hI hd hN hy ho hu hr
    ·simp at hc
   ·simp at hc
  ·simp at hc
 |store ty x y=>
  rw[ho]at hc;simp only[dn]at hc;obtain⟨n,h1,hc⟩:=bN hc;obtain⟨u,h2,hc⟩:=bN hc;obtain⟨x1,h3,hc⟩:=bN hc;obtain⟨y1,h4,hc⟩:=bN hc
  injection hc with hc
  subst hc;exact absurd hns (by simp[ho])
 |_=>rw[ho]at hc;simp[dn]at hc
end
inductive Loc where
 |t (i:Nat)
 |c (r o:Nat)
 |h (r o:Nat)
 |n (r:Nat)
 |v (q:Key)
 deriving DecidableEq
def Loc.hit:Loc->Loc->Bool
 |.t i,.t j=>i==j
 |.c r o,.c r' o'=>r==r'&&o==o'
 |.n r,.n r'=>r==r'
 |.n r,.c r' _=>r==r'
 |.h r o,.h r' o'=>r==r'&&o==o'
 |.n r,.h r' _=>r==r'
 |.v q,.v q'=>q==q'
 |_,_=>false
abbrev jQ:=List Loc×List Loc
def hdW(r o:Nat)(t t':TV):List Loc:=if t'.hd=t.hd then[]else[.h r o]
def SP.foot{α:Type}:SP α->St->jQ
 |.ret _,_=>([],[])
 |.fail,_=>([],[])
 |.rdT i k,σ=>(.t i::((k (σ.t i)).foot σ).1,((k (σ.t i)).foot σ).2)
 |.rdC r o k,σ=>(.c r o::((k (σ.c r o)).foot σ).1,((k (σ.c r o)).foot σ).2)
 |.rdH r o k,σ=>(.h r o::((k (σ.c r o).hd).foot σ).1,((k (σ.c r o).hd).foot σ).2)
 |.rdV q k,σ=>(.v q::((k (σ.v q)).foot σ).1,((k (σ.v q)).foot σ).2)
 |.wrT i t k,σ=>((k.foot { σ with tm:=c7 σ.tm i t }).1,.t i::(k.foot { σ with tm:=c7 σ.tm i t }).2)
 |.wrC r o t k,σ=>
  match b6 σ.ce r with
  |some l=>if o<l.length then(.n r :: .h r o::(k.foot { σ with ce:=c7 σ.ce r (l.set o t) }).1,.c r o::(hdW r o (σ.c r o) t++(k.foot { σ with ce:=c7 σ.ce r (l.set o t) }).2))else([],[])
  |none=>([],[])
 |.new r l k,σ=>(.v (r,0,0)::(k.foot { σ with ce:=c7 σ.ce r l,vr:=jb σ.vr (r,0,0) }).1,.n r :: .v (r,0,0)::(k.foot { σ with ce:=c7 σ.ce r l,vr:=jb σ.vr (r,0,0) }).2)
 |.bump q k,σ=>(.v q::(k.foot { σ with vr:=jb σ.vr q }).1,.v q::(k.foot { σ with vr:=jb σ.vr q }).2)
def ej(σ σ':St):Loc->Prop
 |.t i=>b6 σ.tm i=b6 σ'.tm i
 |.c r o=>σ.c r o=σ'.c r o
 |.h r o=>(σ.c r o).hd=(σ'.c r o).hd
 |.n r=>(b6 σ.ce r).map List.length=(b6 σ'.ce r).map List.length
 |.v q=>σ.v q=σ'.v q
def Du(σ σ':St):Prop:=∀x,ej σ σ' x
theorem ej.refl(σ:St)(x:Loc):ej σ σ x:=by cases x<;>rfl
theorem ej.symm{σ σ':St}{x:Loc}(h:ej σ σ' x):ej σ' σ x:=by cases x<;>exact Eq.symm h
theorem ej.trans{σ σ' σ'':St}{x:Loc}(h:ej σ σ' x)(h':ej σ' σ'' x):ej σ σ'' x:=by cases x<;>exact Eq.trans h h'
theorem z3{σ:St}{r o:Nat}{t:TV}{l:List TV}(h:b6 σ.ce r=some l)(ho:o<l.length)(r' o':Nat):St.c { σ with ce:=c7 σ.ce r (l.set o t) } r' o'=if r'=r/\o'=o then t else σ.c r' o':=by
 have:=congrFun (congrFun (pO (t:=t) h ho) r') o';exact this
theorem EP{σ:St}{r:Nat}{l l':List TV}(h:b6 σ.ce r=some l)(hl:l'.length=l.length)(r':Nat):(b6 (c7 σ.ce r l') r').map List.length=(b6 σ.ce r').map List.length:=by
 rw[cn]
 grind
theorem xo{σ:St}{r:Nat}{l:List TV}{vr:List (Key×Nat)}(r' o':Nat):St.c { σ with ce:=c7 σ.ce r l,vr:=vr } r' o'=if r'=r then l.getD o' .dead else σ.c r' o':=by
 unfold St.c;simp[cn];by_cases e:r=r'
 ·simp_all
 ·rw[oIN e,oIN (Ne.symm e)]
theorem eI{α:Type}{s:SP α}:∀{σ:St}{a:α}{τ:St},s.run σ=some (a,τ)->∀x,(∀w∈(s.foot σ).2,w.hit x=false)->ej σ τ x:=by
 induction s with
 |ret a=>intro σ b τ h x _;simp only[SP.run,oSJ,oPJ]at h;rw[h.2];exact ej.refl _ _
 |fail=>intro σ b τ h;simp[SP.run]at h
 |rdT i k ih=>intro σ b τ h x hx;exact ih _ h x hx
 |rdC r o k ih=>intro σ b τ h x hx;exact ih _ h x hx
 |rdH r o k ih=>intro σ b τ h x hx;exact ih _ h x hx
 |rdV q k ih=>intro σ b τ h x hx;exact ih _ h x hx
 |wrT i t k ih=>
  intro σ b τ h x hx;refine ej.trans ?_ (ih h x λw hw=>hx w (by simp[SP.foot,hw]));have h1:=hx (.t i) (by simp[SP.foot])
  cases x with
  |t j=>
   simp only[Loc.hit,beq_eq_false_iff_ne,ne_eq]at h1;simp[ej,cn,h1]
  |_=>exact rfl
 |wrC r o t k ih=>
  intro σ b τ h x hx;obtain⟨l,hl,ho,h2⟩:=b7 h;simp only[SP.foot,hl,ho,if_true]at hx;refine ej.trans ?_ (ih h2 x λw hw=>hx w (by simp[hw]));have h1:=hx (.c r o) (by simp)
  cases x with
  |c r' o'=>
   simp only[Loc.hit,Bool.and_eq_false_imp,beq_iff_eq,beq_eq_false_iff_ne,ne_eq]at h1;show σ.c r' o'=_;rw[z3 hl ho,oIN];omega
  |h r' o'=>
   show(σ.c r' o').hd=TV.hd (St.c _ r' o');rw[z3 hl ho];split
   ·rename_i e;obtain⟨e1,e2⟩:=e;subst e1;subst e2;by_cases hh:t.hd=(σ.c r' o').hd
    ·exact hh.symm
    ·have:=hx (.h r' o') (by simp[hdW,hh]);simp[Loc.hit]at this
   ·rfl
  |n r'=>exact(EP hl (by simp) r').symm
  |_=>exact rfl
 |new r l k ih=>
  intro σ b τ h x hx;refine ej.trans ?_ (ih h x λw hw=>hx w (by simp[SP.foot,hw]));have h1:=hx (.n r) (by simp[SP.foot]);have h2:=hx (.v (r,0,0)) (by simp[SP.foot])
  cases x with
  |t j=>exact rfl
  |c r' o'=>
   simp only[Loc.hit,beq_eq_false_iff_ne,ne_eq]at h1;show σ.c r' o'=_;rw[xo,oIN (Ne.symm h1)]
  |h r' o'=>
   simp only[Loc.hit,beq_eq_false_iff_ne,ne_eq]at h1;show(σ.c r' o').hd=TV.hd (St.c _ r' o');rw[xo,oIN (Ne.symm h1)]
  |n r'=>
   simp only[Loc.hit,beq_eq_false_iff_ne,ne_eq]at h1;simp[ej,cn,h1]
  |v q=>
   simp only[Loc.hit,beq_eq_false_iff_ne,ne_eq]at h2;show kB σ.vr q=kB (jb σ.vr (r,0,0)) q;rw[dx,oIN h2];rfl
 |bump q k ih=>
  intro σ b τ h x hx;refine ej.trans ?_ (ih h x λw hw=>hx w (by simp[SP.foot,hw]));have h2:=hx (.v q) (by simp[SP.foot])
  cases x with
  |v q'=>
   simp only[Loc.hit,beq_eq_false_iff_ne,ne_eq]at h2;show kB σ.vr q'=kB (jb σ.vr q) q';rw[dx,oIN h2];rfl
  |_=>exact rfl
theorem gh{α:Type}{s:SP α}:∀{σ σ':St}{a:α}{τ:St},s.run σ=some (a,τ)->(∀x∈(s.foot σ).1,ej σ σ' x)->
 s.foot σ'=s.foot σ/\∃ τ',s.run σ'=some (a,τ')/\∀x,(ej σ σ' x\/∃w∈(s.foot σ).2,w.hit x=true)->ej τ τ' x:=by
 induction s with
 |ret a=>
  intro σ σ' b τ h hr;obtain⟨rfl,rfl⟩:=h;exact⟨rfl,σ',rfl,λx hx=>hx.elim id λ⟨w,hw,_⟩=>by simp[SP.foot]at hw⟩
 |fail=>intro σ σ' b τ h;simp[SP.run]at h
 |rdT i k ih=>
  intro σ σ' b τ h hr
  have h1:σ.t i=σ'.t i:=by
   have:b6 σ.tm i=b6 σ'.tm i:=hr (.t i) (by simp[SP.foot]);simp[St.t,this]
  obtain⟨e,τ',h2,h3⟩:=ih _ h λx hx=>hr x (by simp[SP.foot,hx]);refine⟨by simp only[SP.foot];rw[<- h1,e],τ',by simp only[SP.run];rw[<- h1];exact h2,h3⟩
 |rdC r o k ih=>
  intro σ σ' b τ h hr;have h1:σ.c r o=σ'.c r o:=hr (.c r o) (by simp[SP.foot]);obtain⟨e,τ',h2,h3⟩:=ih _ h λx hx=>hr x (by simp[SP.foot,hx]);refine⟨by simp only[SP.foot];rw[<- h1,e],τ',by simp only[SP.run];rw[<- h1];exact h2,h3⟩
 |rdH r o k ih=>
  intro σ σ' b τ h hr;have h1:(σ.c r o).hd=(σ'.c r o).hd:=hr (.h r o) (by simp[SP.foot]);obtain⟨e,τ',h2,h3⟩:=ih _ h λx hx=>hr x (by simp[SP.foot,hx]);refine⟨by simp only[SP.foot];rw[<- h1,e],τ',by simp only[SP.run];rw[<- h1];exact h2,h3⟩
 |rdV q k ih=>
  intro σ σ' b τ h hr;have h1:σ.v q=σ'.v q:=hr (.v q) (by simp[SP.foot]);obtain⟨e,τ',h2,h3⟩:=ih _ h λx hx=>hr x (by simp[SP.foot,hx]);refine⟨by simp only[SP.foot];rw[<- h1,e],τ',by simp only[SP.run];rw[<- h1];exact h2,h3⟩
 |wrT i t k ih=>
  intro σ σ' b τ h hr
  have hal:∀x,(ej σ σ' x\/x=.t i)->ej { σ with tm:=c7 σ.tm i t } { σ' with tm:=c7 σ'.tm i t } x:=by
   rintro x (hx|rfl)
   ·cases x with
    |t j=>
     show b6 (c7 σ.tm i t) j=b6 (c7 σ'.tm i t) j;rw[cn,cn];split
     ·rfl
     ·exact hx
    |_=>exact hx
   ·show b6 (c7 σ.tm i t) i=b6 (c7 σ'.tm i t) i;rw[cn,cn];simp
  obtain⟨e,τ',h2,h3⟩:=ih (σ':={ σ' with tm:=c7 σ'.tm i t }) h λx hx=>hal x (.inl (hr x (by simp[SP.foot,hx])));refine⟨by simp only[SP.foot];rw[e],τ',h2,λx hx=>h3 x ?_⟩;rcases hx with hx|⟨w,hw,hh⟩
  ·exact .inl (hal x (.inl hx))
  ·simp only[SP.foot,List.mem_cons]at hw;rcases hw with rfl|hw
   ·left;refine hal x (.inr ?_);cases x<;>simp[Loc.hit]at hh;rw[hh]
   ·exact .inr ⟨w,hw,hh⟩
 |wrC r o t k ih=>
  intro σ σ' b τ h hr;obtain⟨l,hl,ho,h0⟩:=b7 h;simp only[SP.foot,hl,ho,if_true]at hr⊢;have hn:(b6 σ.ce r).map List.length=(b6 σ'.ce r).map List.length:=hr (.n r) (by simp)
  obtain⟨l',Yz,Sg⟩:∃l',b6 σ'.ce r=some l'/\l'.length=l.length:=by
   rw[hl]at hn
   cases ha:b6 σ'.ce r with
   |none=>rw[ha]at hn;simp at hn
   |some l'=>rw[ha]at hn;exact⟨l',rfl,by simpa using hn.symm⟩
  have Zl:o<l'.length:=by omega
  have hh:(σ.c r o).hd=(σ'.c r o).hd:=hr (.h r o) (by simp)
  have hW:hdW r o (σ'.c r o) t=hdW r o (σ.c r o) t:=by unfold hdW;rw[hh]
  have hal:∀x,(ej σ σ' x\/x=.c r o\/x=.h r o)->ej { σ with ce:=c7 σ.ce r (l.set o t) } { σ' with ce:=c7 σ'.ce r (l'.set o t) } x:=by
   rintro x (hx|rfl|rfl)
   ·cases x with
    |c r' o'=>
     show St.c _ r' o'=St.c _ r' o';rw[z3 hl ho,z3 Yz Zl];split
     ·rfl
     ·exact hx
    |h r' o'=>
     show TV.hd (St.c _ r' o')=TV.hd (St.c _ r' o');rw[z3 hl ho,z3 Yz Zl];split
     ·rfl
     ·exact hx
    |n r'=>
     show Option.map _ _=Option.map _ _;rw[EP hl (by simp),EP Yz (by simp)];exact hx
    |_=>exact hx
   ·show St.c _ r o=St.c _ r o;rw[z3 hl ho,z3 Yz Zl];simp
   ·show TV.hd (St.c _ r o)=TV.hd (St.c _ r o);rw[z3 hl ho,z3 Yz Zl];simp
  obtain⟨e,τ',h2,h3⟩:=ih (σ':={ σ' with ce:=c7 σ'.ce r (l'.set o t) }) h0 λx hx=>hal x (.inl (hr x (by simp[hx])));refine⟨by simp only[Yz,Zl,if_true];rw[e,hW],τ',by simp only[SP.run,Yz,Zl,if_true];exact h2,λx hx=>h3 x ?_⟩;rcases hx with hx|⟨w,hw,hh⟩
  ·exact .inl (hal x (.inl hx))
  ·simp only[List.mem_cons,List.mem_append]at hw;rcases hw with rfl|hw|hw
   ·left;refine hal x (.inr (.inl ?_));cases x<;>simp[Loc.hit]at hh;rw[hh.1,hh.2]
   ·left;refine hal x (.inr (.inr ?_));unfold hdW at hw;split at hw
    ·simp at hw
    ·simp only[List.mem_singleton]at hw;subst hw;cases x<;>simp[Loc.hit]at hh;rw[hh.1,hh.2]
   ·exact .inr ⟨w,hw,hh⟩
 |new r l k ih=>
  intro σ σ' b τ h hr;have hv:σ.v (r,0,0)=σ'.v (r,0,0):=hr (.v (r,0,0)) (by simp[SP.foot])
  have hal:∀x,(ej σ σ' x\/(Loc.n r).hit x=true)->ej { σ with ce:=c7 σ.ce r l,vr:=jb σ.vr (r,0,0) } { σ' with ce:=c7 σ'.ce r l,vr:=jb σ'.vr (r,0,0) } x:=by
   intro x hx
   cases x with
   |t j=>rcases hx with hx|hx
         ·exact hx
         ·simp[Loc.hit]at hx
   |c r' o'=>
    show St.c _ r' o'=St.c _ r' o';rw[xo,xo];split
    ·rfl
    ·rename_i e;rcases hx with hx|hx
     ·exact hx
     ·simp[Loc.hit]at hx;exact absurd hx.symm e
   |h r' o'=>
    show TV.hd (St.c _ r' o')=TV.hd (St.c _ r' o');rw[xo,xo];split
    ·rfl
    ·rename_i e;rcases hx with hx|hx
     ·exact hx
     ·simp[Loc.hit]at hx;exact absurd hx.symm e
   |n r'=>
    show Option.map _ (b6 (c7 _ _ _) _)=Option.map _ (b6 (c7 _ _ _) _);rw[cn,cn];split
    ·rfl
    ·rename_i e;rcases hx with hx|hx
     ·exact hx
     ·simp[Loc.hit]at hx;exact absurd hx e
   |v q=>
    show kB (jb _ _) q=kB (jb _ _) q;rw[dx,dx];rcases hx with hx|hx
    ·have hx:kB σ.vr q=kB σ'.vr q:=hx;rw[hx]
    ·simp[Loc.hit]at hx
  obtain⟨e,τ',h2,h3⟩:=ih (σ':={ σ' with ce:=c7 σ'.ce r l,vr:=jb σ'.vr (r,0,0) }) h λx hx=>hal x (.inl (hr x (by simp[SP.foot,hx])));refine⟨by simp only[SP.foot];rw[e],τ',h2,λx hx=>h3 x ?_⟩;rcases hx with hx|⟨w,hw,hh⟩
  ·exact .inl (hal x (.inl hx))
  ·simp only[SP.foot,List.mem_cons]at hw;rcases hw with rfl|rfl|hw
   ·exact .inl (hal x (.inr hh))
   ·left;refine hal x (.inl ?_);cases x<;>simp[Loc.hit]at hh;rw[<- hh];exact hv
   ·exact .inr ⟨w,hw,hh⟩
 |bump q k ih=>
  intro σ σ' b τ h hr;have hv:σ.v q=σ'.v q:=hr (.v q) (by simp[SP.foot])
  have hal:∀x,ej σ σ' x->ej { σ with vr:=jb σ.vr q } { σ' with vr:=jb σ'.vr q } x:=by
   intro x hx
   cases x with
   |v q'=>
    show kB (jb _ _) q'=kB (jb _ _) q';rw[dx,dx];have hx:kB σ.vr q'=kB σ'.vr q':=hx;rw[hx]
   |_=>exact hx
  obtain⟨e,τ',h2,h3⟩:=ih (σ':={ σ' with vr:=jb σ'.vr q }) h λx hx=>hal x (hr x (by simp[SP.foot,hx]));refine⟨by simp only[SP.foot];rw[e],τ',h2,λx hx=>h3 x ?_⟩;rcases hx with hx|⟨w,hw,hh⟩
  ·exact .inl (hal x hx)
  ·simp only[SP.foot,List.mem_cons]at hw;rcases hw with rfl|hw
   ·left;refine hal x ?_;cases x<;>simp[Loc.hit]at hh;rw[<- hh];exact hv
   ·exact .inr ⟨w,hw,hh⟩
def wR(a b:List Loc):Bool:=a.any λw=>b.any λx=>w.hit x
def iR(a b:jQ):Bool:=wR a.2 b.1||wR a.2 b.2||wR b.2 a.1||wR b.2 a.2
theorem jI{a b:List Loc}(h:wR a b=false):∀w∈a,∀x∈b,w.hit x=false:=by
 simp[wR]at h
 simp_all
theorem AW{w w' x:Loc}(h:w.hit x=true)(h':w'.hit x=true):w.hit w'=true\/w'.hit w=true:=by
 cases x<;>cases w<;>simp[Loc.hit]at h<;>cases w'<;>simp[Loc.hit]at h'⊢<;>simp_all
theorem wd{A B:SP Unit}{σ σ1 σ2:St}(hA:A.run σ=some ((),σ1))(hB:B.run σ1=some ((),σ2))(hc:iR (A.foot σ) (B.foot σ1)=false):
 ∃ σ1' σ2',B.run σ=some ((),σ1')/\A.run σ1'=some ((),σ2')/\Du σ2 σ2'/\B.foot σ=B.foot σ1/\A.foot σ1'=A.foot σ:=by
 simp only[iR,Bool.or_eq_false_iff]at hc;obtain⟨⟨⟨c1,c2⟩,c3⟩,c4⟩:=hc;have hR:=λx hx=>(eI hA x λw hw=>jI c1 w hw x hx).symm;obtain⟨e1,σ1',Ta,UZ⟩:=gh hB hR;have Xs:∀x,(∀w∈(B.foot σ1).2,w.hit x=false)->ej σ σ1' x:=λx hx=>eI Ta x (by simp_all);have U1:=λx hx=>Xs x λw hw=>jI c3 w hw x hx;obtain⟨e2,σ2',Qy,O6⟩:=gh hA U1;refine⟨σ1',σ2',Ta,Qy,λx=>?_,e1,e2⟩;by_cases hx:∃w∈(B.foot σ1).2,w.hit x=true
 ·obtain⟨w,hw,hh⟩:=hx;refine ej.trans (UZ x (.inr ⟨w,hw,hh⟩)) (eI Qy x λw' SM=>?_);rw[e2]at SM
  cases hh':w'.hit x with
  |false=>rfl
  |true=>
   rcases AW hh hh' with h|h
   ·rw[jI c4 w hw w' SM]at h;simp at h
   ·rw[jI c2 w' SM w hw]at h;simp at h
 ·have P6:∀w∈(B.foot σ1).2,w.hit x=false:=λw hw=>by
   simp_all
  refine ej.trans (eI hB x P6).symm (O6 x ?_)
  simp_all
theorem oY{α:Type}{s:SP α}{σ σ':St}{a:α}{τ:St}(h:s.run σ=some (a,τ))(hs:Du σ σ'):s.foot σ'=s.foot σ/\∃ τ',s.run σ'=some (a,τ')/\Du τ τ':=by
 have ⟨e,τ',h1,h2⟩:=gh h λx _=>hs x;exact⟨e,τ',h1,λx=>h2 x (.inl (hs x))⟩
def jR(pg:Nat->SP Unit):List Nat->St->Option (List (Nat×jQ)×St)
 | [],σ=>some ([],σ)
 |i::r,σ=>((pg i).run σ).bind λx=>(jR pg r x.2).bind λy=>some ((i,(pg i).foot σ)::y.1,y.2)
theorem wC{pg:Nat->SP Unit}:∀{L:List Nat}{σ σ':St}{fs:List (Nat×jQ)}{τ:St},jR pg L σ=some (fs,τ)->Du σ σ'->∃ τ',jR pg L σ'=some (fs,τ')/\Du τ τ':=by
 intro L
 induction L with
 |nil=>
  intro σ σ' fs τ h hs;obtain⟨rfl,rfl⟩:=h;exact⟨σ',rfl,hs⟩
 |cons i L ih=>
  intro σ σ' fs τ h hs;have ⟨⟨u,σ1⟩,h1,h2⟩:=bN h;have ⟨⟨Ro,τ0⟩,h3,h4⟩:=bN h2
  injection h4 with h4
  injection h4 with h4 h5
  subst h5;have ⟨e,σ1',k1,k2⟩:=oY h1 hs;have ⟨τ',k3,k4⟩:=ih h3 k2;exact⟨τ',by simp[jR,k1,k3,e];rw[h4],k4⟩
theorem tW{pg:Nat->SP Unit}{i:Nat}{post:List Nat}:∀{pre:List Nat}{σ:St}{fs:List (Nat×jQ)}{τ:St},jR pg (pre++i::post) σ=some (fs,τ)->
 (∀Ye F Xb,fs=Ye++(i,F)::Xb->Ye.map (·.1)=pre->∀y∈Ye,iR y.2 F=false)->
 ∃ σ' τ' Ye F Xb,fs=Ye++(i,F)::Xb/\Ye.map (·.1)=pre/\(pg i).run σ=some ((),σ')/\(pg i).foot σ=F/\jR pg (pre++post) σ'=some (Ye++Xb,τ')/\Du τ τ':=by
 intro pre
 induction pre with
 |nil=>
  intro σ fs τ h _;obtain⟨⟨u,σ1⟩,h1,h2⟩:=bN h;obtain⟨⟨Ro,τ0⟩,h3,h4⟩:=bN h2
  injection h4 with h4
  injection h4 with h4 h5
  subst h5;exact⟨σ1,τ0,[],_,Ro,h4.symm,rfl,h1,rfl,h3,λx=>ej.refl _ _⟩
 |cons j pre ih=>
  intro σ fs τ h hc;obtain⟨⟨u,σ1⟩,h1,h2⟩:=bN h;obtain⟨⟨Ro,τ0⟩,h3,h4⟩:=bN h2
  injection h4 with h4
  injection h4 with h4 h5
  subst h5;obtain⟨σ2,τ',Ye,F,Xb,e1,e2,k1,k2,k3,k4⟩:=ih h3 λYe F Xb e e' y hy=>hc ((j,(pg j).foot σ)::Ye) F Xb (by rw[<- h4,e];rfl) (by simp[e']) y (by simp[hy])
  have Zf:iR ((pg j).foot σ) ((pg i).foot σ1)=false:=by
   rw[k2];exact hc ((j,(pg j).foot σ)::Ye) F Xb (by rw[<- h4,e1];rfl) (by simp[e2]) (j,(pg j).foot σ) (by simp)
  obtain⟨σ1',σ2',m1,m2,m3,m4,m5⟩:=wd h1 k1 Zf;obtain⟨τ2,n1,n2⟩:=wC k3 m3;refine⟨σ1',τ2,(j,(pg j).foot σ)::Ye,F,Xb,by rw[<- h4,e1];rfl,by simp[e2],m1,m4.trans k2,?_,λx=>(k4 x).trans (n2 x)⟩;simp only[List.cons_append,jR,m2,oBS,n1,m5]
def ee(deps:List (List Nat)):List (Nat×jQ)->Bool
 | []=>true
 |(j,F)::r=>(r.all λy=>!iR F y.2||(deps.getD y.1 []).contains j)&&ee deps r
structure ef where
 dst:Option Nat
 guard:Option (Nat×Bool)
 op:TOp
inductive ff where
 |skip
 |nrm (pers:List Nat×List Nat)
 |reg (id:Nat) (draw:Option (List (List Nat))) (ops:List ef) (pers:List Nat×List Nat)
 |seq (a b:ff)
 |cond (c:Opd) (a b:ff)
 |block (id:Nat) (b:ff)
 |loop (b:ff)
 |exit (id:Nat)
 |ret
 |pre (l:List (Nat×Option Nat)) (a:ff)
 |post (a:ff) (l:List (Nat×Option Nat))
inductive fe where
 |normal
 |exit (id:Nat)
 |ret
def renorm0(L:List Nat)(σ:St):TV->TV
 |.ptr p vs=>if L.contains p.root&&vs==eK σ.v p.root p.off p.hops.length then .ptr p (eK (λ_=>0) p.root p.off p.hops.length)else .dead
 |.pk p vs=>if L.contains p.root&&vs==eK σ.v p.root p.off (p.hops.length+1)then .pk p (eK (λ_=>0) p.root p.off (p.hops.length+1))else .dead
 |.pw p vs sz lo n=>if L.contains p.root&&vs==eK σ.v p.root p.off (p.hops.length+1)then .pw p (eK (λ_=>0) p.root p.off (p.hops.length+1)) sz lo n else .dead
 |.v x=>.v x
 |.sl c=>.sl c
 |.ip cs=>.ip cs
 |.ow []=>.ow []
 |.tup []=>.tup []
 |_=>.dead
def renorm(L:List Nat)(σ:St):TV->TV
 |.agg l=>.agg (l.map (renorm0 L σ))
 |.fn f l=>.fn f (l.map (renorm0 L σ))
 |t=>renorm0 L σ t
def normT(L:List Nat)(σ:St):List Nat->List (Nat×TV)
 | []=>[]
 |i::r=>match b6 σ.tm i with|some t=>(i,renorm L σ t)::normT L σ r|none=>normT L σ r
def normC(σ:St):List Nat->List (Nat×List TV)
 | []=>[]
 |r::l=>match b6 σ.ce r with|some c=>(r,c)::normC σ l|none=>normC σ l
abbrev Prs:=List Nat×List Nat
def St.norm(σ:St)(pers:Prs):St:=⟨normT pers.2 σ pers.1,normC σ pers.2,[]⟩
def evop(call:Option Nat->TOp->SP Unit)(dst:Option Nat)(op:TOp):SP Unit:=
 match op with
 |.call k f args=>call dst (.call k f args)
 |.store n mv a x=>match dst with|none=>ev1 0 (.store n mv a x)|some _=>.fail
 |op=>match dst with|some d=>ev1 d op|none=>.fail
def qz(call:Option Nat->TOp->SP Unit)(o:ef)(σ:St):Option St:=
 match o.guard with
 |none=>((evop call o.dst o.op).run σ).map (·.2)
 |some (j,want)=>
  match σ.t j with
  |.v (.bool b)=>if b=want then((evop call o.dst o.op).run σ).map (·.2)else match o.dst with|some d=>some { σ with tm:=c7 σ.tm d (.tup []) } |none=>some σ
  |.tup []=>match o.dst with|some d=>some { σ with tm:=c7 σ.tm d (.tup []) } |none=>some σ
  |_=>none
def ld(call:Option Nat->TOp->SP Unit):List ef->St->Option St
 | [],σ=>some σ
 |o::r,σ=>(qz call o σ).bind (ld call r)
def setNo(dst:Option Nat):SP Unit:=match dst with|some d=>.wrT d (.tup []) (.ret ())|none=>.ret ()
def spOp(call:Option Nat->TOp->SP Unit)(o:ef):SP Unit:=
 match o.guard with
 |none=>evop call o.dst o.op
 |some (j,want)=>.rdT j λt=>match t with
  |.v (.bool b)=>if b=want then evop call o.dst o.op else setNo o.dst
  |.tup []=>setNo o.dst
  |_=>.fail
def tC:ef:=⟨none,none,.lens (.t 0)⟩
theorem uX{call:Option Nat->TOp->SP Unit}{o:ef}{σ σ':St}(h:(spOp call o).run σ=some ((),σ')):qz call o σ=some σ':=by
 have YQ:∀{σ'},(setNo o.dst).run σ=some ((),σ')->(match o.dst with|some d=>some { σ with tm:=c7 σ.tm d (.tup []) } |none=>some σ)=some σ':=by
  intro σ' h;unfold setNo at h
  cases hd:o.dst with
  |none=>rw[hd]at h;simp only[SP.run,oSJ,oPJ,true_and]at h;simp[h]
  |some d=>rw[hd]at h;simp only[SP.run,oSJ,oPJ,true_and]at h;simp[h]
 unfold spOp at h;unfold qz
 cases hg:o.guard with
 |none=>simp_all
 |some g=>
  rw[hg]at h;simp[SP.run]at h⊢;split at h
  ·grind
  ·simp_all
  ·simp[SP.run]at h
def C1(f:St->Option (fe×St)):Nat->St->Option (fe×St)
 |0,_=>none
 |n+1,σ=>(f σ).bind λx=>match x.1 with|.normal=>C1 f n x.2|e=>some (e,x.2)
def shr1(x:Nat×Option Nat):SP Unit:=.rdT x.1 λt=>match x.2,t with
 |none,.pk p vs=>(take1 false (.pk p vs)).bind λt'=>.wrT x.1 t'.imm (.ret ())
 |some off,.ptr p vs=>(chk p p.hops.length vs).bind λ_=>if p.fits off then(getPl (p.add off)).bind λt=>match t with
  |.ow c=>(peek1 (p.add off) (.ow c)).bind λt'=>(take1 false t').bind λ_=>.ret ()
  |_=>.ret ()
  else .fail
 |_,_=>.ret ()
def shrs:List (Nat×Option Nat)->SP Unit
 | []=>.ret ()
 |x::r=>(shr1 x).bind λ_=>shrs r
def St.anew(σ:St):St:=σ.norm (σ.tm.map (·.1),σ.ce.map (·.1))
def runC(call:Option Nat->TOp->SP Unit)(N:Nat):ff->St->Option (fe×St)
 |.skip,σ=>some (.normal,σ)
 |.nrm pers,σ=>some (.normal,σ.norm pers)
 |.reg _ draw ops pers,σ=>
  match draw with
  |none=>(ld call ops σ).map fun σ'=>(.normal,σ'.norm pers)
  |some deps=>(jR (λi=>spOp call (ops.getD i tC)) (List.range ops.length) σ).bind λx=>if ee deps x.1 then some (.normal,x.2.norm pers)else none
 |.seq a b,σ=>(runC call N a σ).bind λx=>match x.1 with|.normal=>runC call N b x.2|e=>some (e,x.2)
 |.cond c a b,σ=>((opd c).run σ).bind λx=>match x.1 with|.v (.bool true)=>runC call N a σ |.v (.bool false)=>runC call N b σ |_=>none
 |.block id b,σ=>(runC call N b σ).bind λx=>match x.1 with|.exit i=>if i=id then some (.normal,x.2)else some (.exit i,x.2)|e=>some (e,x.2)
 |.loop b,σ=>C1 (runC call N b) N σ
 |.exit id,σ=>some (.exit id,σ)
 |.ret,σ=>some (.ret,σ)
 |.pre l a,σ=>((shrs l).run σ).bind λx=>runC call N a x.2.anew
 |.post a l,σ=>(runC call N a σ).bind λx=>((shrs l).run x.2).bind λy=>some (x.1,y.2.anew)
section norm
variable {M:Fm} {σ σ':St} {ts:Array Value} {w:World} {G:Gh}
theorem xq(L:List Nat)(σ:St)(l:List Nat)(i:Nat):b6 (normT L σ l) i=if i∈l then(b6 σ.tm i).map (renorm L σ)else none:=by
 induction l with
 |nil=>simp[normT,b6]
 |cons j r ih=>
  simp[normT];by_cases hj:j=i
  ·subst hj
   cases h:b6 σ.tm j with
   |none=>simp_all
   |some t=>simp[b6]
  ·cases h:b6 σ.tm j with
   |none=>simp[ih,Ne.symm hj]
   |some t=>simp[b6,hj,ih,Ne.symm hj]
theorem mo(σ:St)(l:List Nat)(r:Nat):b6 (normC σ l) r=if r∈l then b6 σ.ce r else none:=by
 induction l with
 |nil=>simp[normC,b6]
 |cons j l ih=>
  simp[normC];by_cases hj:j=r
  ·subst hj
   cases h:b6 σ.ce j with
   |none=>simp_all
   |some t=>simp[b6]
  ·cases h:b6 σ.ce j with
   |none=>simp[ih,Ne.symm hj]
   |some t=>simp[b6,hj,ih,Ne.symm hj]
theorem Inv.norm(hI:Inv M σ [] [] ts w G)(pers:Prs):∃G',Inv M (σ.norm pers) [] [] ts w G':=by
 obtain⟨L,hL⟩:∃L,L=pers.2:=⟨_,rfl⟩
 have hc:∀r o,(σ.norm pers).c r o=if r∈L then σ.c r o else .dead:=by
  intro r o;unfold St.c St.norm;simp only[<- hL,mo];by_cases h:r∈L<;>simp[h]
 have hE:∀r o,b8 M (σ.norm pers) [] r o=if r∈L then b8 M σ [] r o else .dead:=by
  intro r o;unfold b8;by_cases h:r=M.hr
  ·simp[h]
  ·simp only[oIN h,hc]
 let G':Gh:=⟨G.β,G.η,λr o k=>if r∈L then G.φ r o k else False⟩
 have Z':∀r o k,G'.φ r o k->G.φ r o k:=by
  intro r o k hk;simp only[G']at hk
  simp_all
 have Yi:=fJ.ghost (C':=b8 M (σ.norm pers) []) (G':=G') hI.core rfl (λk ⟨r,o,h⟩=>⟨r,o,Z' r o k h⟩) (λr1 o1 r2 o2 k h1 h2=>hI.core.dis _ _ _ _ k (Z' _ _ k h1) (Z' _ _ k h2))
  (λr b o0 n hb o ho=>by
   rw[hE];split
   ·exact hI.core.boxc r b o0 n hb o ho
   ·rfl)
  (λr o=>by
   by_cases h:r∈L
   ·left;exact⟨by rw[hE,oIP h],λk=>by simp[G',h],rfl⟩
   ·right;left;exact⟨by rw[hE,oIN h],λk hk=>by simp[G',h]at hk⟩)
 have Tk:(σ.norm pers).v=λ_=>0:=by funext q;rfl
 have Vl:∀{t:TV}{x:Value},TmR w (G.F M.A) σ.v (b8 M σ []) G t x->TmR w (G'.F M.A) (σ.norm pers).v (b8 M (σ.norm pers) []) G' (renorm0 L σ t) x:=by
  intro t x h;rw[Tk]
  cases h with
  |v h=>exact .v h
  |nil=>exact .nil
  |sl h=>exact .sl (h.frame (λ_ _ _=>rfl) λk hk _=>Yi.2 k hk)
  |dead=>exact .dead
  | @ptr p vs x V0 h0 hv hok=>
   simp only[renorm0];split
   ·rename_i hc;simp only[oBA,List.contains_iff_mem,beq_iff_eq]at hc;refine .ptr (λ_=>0) (λ_=>Nat.le_refl _) rfl λ_=>?_;obtain⟨h1,ad,t,h2,h3,h4⟩:=hok hc.2;exact⟨h1,ad,t,gb h2 rfl λ_=>rfl,h3,by rw[hE,oIP hc.1];exact h4⟩
   ·exact .dead
  |ip u Zf hr=>exact .ip u (λj hj=>⟨Yi.2 _ (Zf j hj).1,(Zf j hj).2⟩) λj hj=>(hr j hj).frame (λ_ _ _=>rfl) λk hk _=>Yi.2 k hk
  | @pk p vs x V0 h0 hv hok=>
   simp only[renorm0];split
   ·rename_i hc;simp only[oBA,List.contains_iff_mem,beq_iff_eq]at hc;refine .pk (λ_=>0) (λ_=>Nat.le_refl _) rfl λ_=>?_;obtain⟨h1,c,h2,h3⟩:=hok hc.2;exact⟨h1,c,h2,by rw[hE,oIP hc.1];exact h3⟩
   ·exact .dead
  | @pw p vs sz lo n x V0 h0 hv hok=>
   simp only[renorm0];split
   ·rename_i hc;simp at hc;refine .pw (λ_=>0) (λ_=>Nat.le_refl _) rfl λ_=>?_;obtain⟨h1,c,hd,h2,h3,h4⟩:=hok hc.2;exact⟨h1,c,hd,h2,by rw[hE,oIP hc.1];exact h3,h4⟩
   ·exact .dead
  |agg hl h=>exact .dead
  | @tup l xs hl h=>
   cases l with
   |nil=>exact .tup hl λj hj=>by simp at hj
   |cons=>exact .dead
  |fn hl h=>exact .dead
 have Sy:∀{t:TV}{x:Value},TmR w (G.F M.A) σ.v (b8 M σ []) G t x->TmR w (G'.F M.A) (σ.norm pers).v (b8 M (σ.norm pers) []) G' (renorm L σ t) x:=by
  intro t x h;have h0:=Vl h
  cases h with
  | @agg l xs hl h=>exact .agg (by simpa using hl) λj hj=>by simpa using Vl (h j (by simpa using hj))
  | @fn f l xs hl h=>exact .fn (by simpa using hl) λj hj=>by simpa using Vl (h j (by simpa using hj))
  |_=>exact h0
 refine⟨G',Yi.1,λi=>?_,hI.fram.ghost rfl (λk ⟨r,o,h⟩=>⟨r,o,Z' r o k h⟩),λr l h=>?_,hI.size,rfl,λj hj=>by simp at hj,λr b o n hb l h=>?_⟩
 ·have e:(σ.norm pers).t i=if i∈pers.1 then(match b6 σ.tm i with|some t=>renorm L σ t|none=>.dead)else .dead:=by
   unfold St.t St.norm;simp only[<- hL,xq];by_cases h:i∈pers.1
   ·simp only[h,if_true];cases b6 σ.tm i<;>rfl
   ·simp[h]
  rw[e];split
  ·cases ha:b6 σ.tm i with
   |none=>exact .dead
   |some t=>
    have:=hI.tmr i
    have et:σ.t i=t:=by simp[St.t,ha]
    rw[et]at this;exact Sy this
  ·exact .dead
 ·have:b6 (normC σ L) r=some l:=by rw[hL];exact h
  rw[mo]at this;split at this
  ·exact hI.keys r l this
  ·simp at this
 ·have:b6 (normC σ L) r=some l:=by rw[hL];exact h
  rw[mo]at this;split at this
  ·exact hI.shape r b o n hb l this
  ·simp at this
end norm
def DG(P:Program)(M:Fm)(σ':St)(a:Act)(o:Oper)(w:World):Prop:=
 ∀(K:Act->World->Prop)(Q:Exit->Act->World->Prop),(∀a' w' G',Inv M σ' [] [] a'.tmps w' G'->a'.defers=a.defers->K a' w')->o.wp P a w K Q
theorem is(a:Act)(d:Option Tmp)(v:Value):(a.put d v).defers=a.defers:=by cases d<;>rfl
theorem fX.simO{P:Program}{M:Fm}{σ':St}{a:Act}{o:Oper}{w:World}(h:fX P M σ' a o w):DG P M σ' a o w:=by
 have ⟨nx,x,w',G',hrun,T7,hI⟩:=h;intro K Q hK;unfold Oper.wp;rw[hrun];rcases T7 with rfl|⟨rfl,rfl⟩
 all_goals exact hK _ w' G' hI (is _ _ _)
structure mS (P:Program)(M:Fm)(isCall:Op->TOp->Prop)(ops:Array Oper)(o:Oper)(t:ef):Prop where
 dst:t.dst=o.dst
 lt:∀d,o.dst=some d->d<M.N/\M.pr (2*d+2)=none
 guard:(o.guard=none/\t.guard=none)\/∃j want dj,o.guard=some (j,want)/\t.guard=some (dj,want)/\(ops[j]?).bind (·.dst)=some dj
 op:(∃mv,dn P mv o.op=some t.op)\/isCall o.op t.op
def oV(P:Program)(M:Fm)(isCall:Op->TOp->Prop)(call:Option Nat->TOp->SP Unit):Prop:=
 ∀(o:Oper)(t:TOp)(σ σ':St)(a:Act)(w:World)(G:Gh),isCall o.op t->(∀d,o.dst=some d->d<M.N/\M.pr (2*d+2)=none)->Inv M σ [] [] a.tmps w G->(evop call o.dst t).run σ=some ((),σ')->DG P M σ' a o w
section
variable {P:Program} {M:Fm} {σ σ':St} {w:World} {G:Gh} {a:Act} {o:Oper} {isCall:Op->TOp->Prop} {call:Option Nat->TOp->SP Unit} {ops:Array Oper}
theorem uF{mv:Nat}{op:Op}{t:TOp}(h:dn P mv op=some t):∀k f args,t≠.call k f args:=by
 rintro k f args rfl;cases op<;>simp only[dn]at h
 case move x=>split at h<;>first|(simp at h;done)|(obtain⟨_,_,h⟩:=dV h;simp at h)
 case assign x=>split at h<;>(obtain⟨_,_,h⟩:=dV h;simp at h)
 case pick=>obtain⟨_,_,h⟩:=bN h;obtain⟨_,_,h⟩:=bN h;obtain⟨_,_,h⟩:=bN h;simp at h
 case alloc=>obtain⟨_,_,h⟩:=dV h;simp at h
 case box=>obtain⟨_,_,h⟩:=bN h;obtain⟨_,_,h⟩:=bN h;unfold EI at h;split at h<;>simp at h
 case build=>(repeat' split at h)<;>first|(simp at h;done)|(obtain⟨_,_,h⟩:=bN h;obtain⟨_,_,h⟩:=bN h;simp at h)|(obtain⟨_,_,h⟩:=bN h;simp at h)
 case buildSlice=>(repeat' split at h)<;>first|(simp at h;done)|(obtain⟨_,_,h⟩:=bN h;obtain⟨_,_,h⟩:=bN h;simp at h)
 case load=>obtain⟨_,_,h⟩:=bN h;obtain⟨_,_,h⟩:=bN h;simp at h
 case store=>obtain⟨_,_,h⟩:=bN h;obtain⟨_,_,h⟩:=bN h;obtain⟨_,_,h⟩:=bN h;obtain⟨_,_,h⟩:=bN h;simp at h
 case nilCheck=>obtain⟨_,_,h⟩:=dV h;simp at h
 case binOp=>(repeat' split at h)<;>first|(simp at h;done)|(obtain⟨_,_,h⟩:=bN h;obtain⟨_,_,h⟩:=bN h;simp at h)
 case unOp=>obtain⟨_,_,h⟩:=dV h;simp at h
 case convert=>(repeat' split at h)<;>first|(simp at h;done)|(obtain⟨_,_,h⟩:=dV h;simp at h)
 case makeFunc=>split at h<;>first|(simp at h;done)|(obtain⟨_,_,h⟩:=bN h;obtain⟨_,_,h⟩:=bN h;simp at h)
 case makeSlice=>(repeat' split at h)<;>first|(simp at h;done)|(obtain⟨_,_,h⟩:=bN h;obtain⟨_,_,h⟩:=bN h;obtain⟨_,_,h⟩:=bN h;simp at h)
 case slice=>(repeat' split at h)<;>first|(simp at h;done)|(obtain⟨_,_,h⟩:=bN h;obtain⟨_,_,h⟩:=bN h;obtain⟨_,_,h⟩:=bN h;simp at h;done)|(obtain⟨_,_,h⟩:=bN h;obtain⟨_,_,h⟩:=bN h;obtain⟨_,_,h⟩:=bN h;obtain⟨_,_,h⟩:=bN h;simp at h)
 case fieldAddr=>(repeat' split at h)<;>first|(simp at h;done)|(obtain⟨_,_,h⟩:=dV h;simp at h)
 case field=>(repeat' split at h)<;>first|(simp at h;done)|(obtain⟨_,_,h⟩:=bN h;obtain⟨_,_,h⟩:=bN h;simp at h)
 case indexAddr=>(repeat' split at h)<;>first|(simp at h;done)|(obtain⟨_,_,h⟩:=bN h;obtain⟨_,_,h⟩:=bN h;obtain⟨_,_,h⟩:=bN h;simp at h)
 case index=>(repeat' split at h)<;>first|(simp at h;done)|(obtain⟨_,_,h⟩:=bN h;obtain⟨_,_,h⟩:=bN h;simp at h)
 case extract=>simp_all
 case call=>(repeat' split at h)<;>first|(simp at h;done)|(obtain⟨_,_,h⟩:=bN h;obtain⟨_,_,h⟩:=bN h;obtain⟨_,_,h⟩:=bN h;simp at h)|(obtain⟨_,_,h⟩:=dV h;simp at h)
 all_goals simp at h
theorem u9(hI:Inv M σ [] [] a.tmps w G){t:ef}(hok:mS P M isCall ops o t)(Zs:oV P M isCall call)(hr:(evop call t.dst t.op).run σ=some ((),σ')):DG P M σ' a o w:=by
 rcases hok.op with⟨mv,hc⟩|hc
 ·have Ti:=uF hc;by_cases hst:∃ty x y,o.op=.store ty x y
  ·obtain⟨ty,x,y,ho⟩:=hst;rw[ho]at hc;simp only[dn]at hc;obtain⟨n,h1,hc⟩:=bN hc;obtain⟨u,h2,hc⟩:=bN hc;obtain⟨x1,h3,hc⟩:=bN hc;obtain⟨y1,h4,hc⟩:=bN hc
   injection hc with hc
   rw[<- hc]at hr;simp only[evop]at hr
   cases hd:t.dst with
   |some d=>simp[hd,SP.run]at hr
   |none=>
    simp only[hd]at hr;have hg:=fP h2;exact(xO hI (d:=0) (by rw[<- hok.dst,hd]) h3 h4 ho h1 (by simpa using hg) hr).simO
  ·cases hd:t.dst with
   |none=>
    exfalso;rw[hd]at hr
    cases ht:t.op<;>rw[ht]at hr<;>simp only[evop,SP.run]at hr<;>first|(simp at hr;done)|skip
    ·rename_i n Rd a' x';rw[ht]at hc;cases ho:o.op<;>rw[ho]at hc hst<;>simp only[dn]at hc
     case store=>exact hst ⟨_,_,_,rfl⟩
     case move x=>split at hc<;>first|(simp at hc;done)|(obtain⟨_,_,h⟩:=dV hc;simp at h)
     case assign x=>split at hc<;>(obtain⟨_,_,h⟩:=dV hc;simp at h)
     case pick=>obtain⟨_,_,h⟩:=bN hc;obtain⟨_,_,h⟩:=bN h;obtain⟨_,_,h⟩:=bN h;simp at h
     case alloc=>obtain⟨_,_,h⟩:=dV hc;simp at h
     case box=>obtain⟨_,_,h⟩:=bN hc;obtain⟨_,_,h⟩:=bN h;unfold EI at h;split at h<;>simp at h
     case build=>(repeat' split at hc)<;>first|(simp at hc;done)|(obtain⟨_,_,h⟩:=bN hc;obtain⟨_,_,h⟩:=bN h;simp at h)|(obtain⟨_,_,h⟩:=bN hc;simp at h)
     case buildSlice=>(repeat' split at hc)<;>first|(simp at hc;done)|(obtain⟨_,_,h⟩:=bN hc;obtain⟨_,_,h⟩:=bN h;simp at h)
     case load=>obtain⟨_,_,h⟩:=bN hc;obtain⟨_,_,h⟩:=bN h;simp at h
     case nilCheck=>obtain⟨_,_,h⟩:=dV hc;simp at h
     case binOp=>(repeat' split at hc)<;>first|(simp at hc;done)|(obtain⟨_,_,h⟩:=bN hc;obtain⟨_,_,h⟩:=bN h;simp at h)
     case unOp=>obtain⟨_,_,h⟩:=dV hc;simp at h
     case convert=>(repeat' split at hc)<;>first|(simp at hc;done)|(obtain⟨_,_,h⟩:=dV hc;simp at h)
     case makeFunc=>split at hc<;>first|(simp at hc;done)|(obtain⟨_,_,h⟩:=bN hc;obtain⟨_,_,h⟩:=bN h;simp at h)
     case makeSlice=>(repeat' split at hc)<;>first|(simp at hc;done)|(obtain⟨_,_,h⟩:=bN hc;obtain⟨_,_,h⟩:=bN h;obtain⟨_,_,h⟩:=bN h;simp at h)
     case slice=>(repeat' split at hc)<;>first|(simp at hc;done)|(obtain⟨_,_,h⟩:=bN hc;obtain⟨_,_,h⟩:=bN h;obtain⟨_,_,h⟩:=bN h;simp at h;done)|(obtain⟨_,_,h⟩:=bN hc;obtain⟨_,_,h⟩:=bN h;obtain⟨_,_,h⟩:=bN h;obtain⟨_,_,h⟩:=bN h;simp at h)
     case fieldAddr=>(repeat' split at hc)<;>first|(simp at hc;done)|(obtain⟨_,_,h⟩:=dV hc;simp at h)
     case field=>(repeat' split at hc)<;>first|(simp at hc;done)|(obtain⟨_,_,h⟩:=bN hc;obtain⟨_,_,h⟩:=bN h;simp at h)
     case indexAddr=>(repeat' split at hc)<;>first|(simp at hc;done)|(obtain⟨_,_,h⟩:=bN hc;obtain⟨_,_,h⟩:=bN h;obtain⟨_,_,h⟩:=bN h;simp at h)
     case index=>(repeat' split at hc)<;>first|(simp at hc;done)|(obtain⟨_,_,h⟩:=bN hc;obtain⟨_,_,h⟩:=bN h;simp at h)
     case extract=>obtain⟨_,_,h⟩:=dV hc;simp at h
     case call=>(repeat' split at hc)<;>first|(simp at hc;done)|(obtain⟨_,_,h⟩:=bN hc;obtain⟨_,_,h⟩:=bN h;obtain⟨_,_,h⟩:=bN h;simp at h)|(obtain⟨_,_,h⟩:=dV hc;simp at h)
     all_goals simp at hc
    ·exact absurd ht (Ti _ _ _)
   |some d=>
    have WT:o.dst=some d:=by rw[<- hok.dst,hd]
    obtain⟨h1,h2⟩:=hok.lt d WT
    have XH:(ev1 d t.op).run σ=some ((),σ'):=by
     rw[hd]at hr
     cases ht:t.op<;>rw[ht]at hr<;>simp only[evop]at hr<;>first|exact hr|(simp[SP.run]at hr;done)|exact absurd ht (Ti _ _ _)
    exact(Ch hI WT h1 h2 hc XH hst).simO
 ·exact Zs o t.op σ σ' a w G hc hok.lt hI (by rw[<- hok.dst];exact hr)
theorem rO{F:Nat->Prop}{V:Vs}{C:Cs}:TmR w F V C G (.tup []) undef:=.tup (by simp) λj hj=>by simp at hj
theorem Cg{tops:List ef}(hlen:tops.length=ops.size)(hok:∀i (h:i<ops.size)(h':i<tops.length),mS P M isCall ops ops[i] tops[i])(Zs:oV P M isCall call){Q:Exit->Act->World->Prop}:
 ∀(L:List Nat)(σ:St)(a:Act)(w:World)(G:Gh),(∀i∈L,i<ops.size)->Inv M σ [] [] a.tmps w G->ld call (L.map λi=>tops.getD i ⟨none,none,.lens (.t 0)⟩) σ=some σ' ->
  (∀a' w' G',Inv M σ' [] [] a'.tmps w' G'->a'.defers=a.defers->Q .normal a' w')->wpOps P ops Q L a w:=by
 intro L
 induction L with
 |nil=>
  intro σ a w G _ hI hr hQ;simp only[List.map_nil,ld,oSJ]at hr;subst hr;exact hQ a w G hI rfl
 |cons i L ih=>
  intro σ a w G hL hI hr hQ;have hi:i<ops.size:=hL i (by simp)
  have ZF:i<tops.length:=by omega
  simp only[List.map_cons,ld]at hr
  have e:tops.getD i ⟨none,none,.lens (.t 0)⟩=tops[i]:=by simp[ZF]
  rw[e]at hr
  cases hro:qz call tops[i] σ with
  |none=>simp[hro]at hr
  |some σ1=>
   simp only[hro,oBS]at hr;have hop:=hok i hi ZF;simp only[wpOps,Array.getElem?_eq_getElem hi]
   have go:(evop call tops[i].dst tops[i].op).run σ=some ((),σ1)->ops[i].wp P a w (wpOps P ops Q L) Q:=λh=>by
    refine u9 hI hop Zs h _ _ λa' w' G' ZL hd=>?_;exact ih σ1 a' w' G' (λj hj=>hL j (by simp[hj])) ZL hr (λa2 w2 G2 h2 hd2=>hQ a2 w2 G2 h2 (hd2.trans hd))
   have skip:(match tops[i].dst with|some d=>some { σ with tm:=c7 σ.tm d (.tup []) } |none=>some σ)=some σ1->wpOps P ops Q L (a.put ops[i].dst undef) w:=λh=>by
    rw[hop.dst]at h
    cases hd:ops[i].dst with
    |none=>
     rw[hd]at h
     injection h with h
     subst h;exact ih σ a w G (λj hj=>hL j (by simp[hj])) hI hr hQ
    |some d=>
     rw[hd]at h
     injection h with h
     subst h;exact ih _ (a.put (some d) undef) w G (λj hj=>hL j (by simp[hj])) (hI.wrT (hop.lt d hd).1 rO) hr (λa2 w2 G2 h2 hd2=>hQ a2 w2 G2 h2 hd2)
   unfold qz at hro
   rcases hop.guard with⟨g1,g2⟩|⟨j,want,dj,g1,g2,g3⟩
   ·rw[oIP (by simp[Region.wanted,g1])];left;simp only[g2]at hro;obtain⟨⟨u,σ2⟩,h1,h2⟩:=dV hro;exact go (by rw[h1];simp only at h2;rw[h2])
   ·simp only[g2]at hro
    have hy:yielded ops a.tmps j=match(a.tmps[dj]?:Option Value)with|some (.bool b)=>some b|_=>none:=by
     unfold yielded;rw[g3];rfl
    have Zn:=hI.tmr dj
    cases hs:σ.t dj with
    |v x=>
     rw[hs]at Zn hro;obtain⟨hx,_⟩:=Zn.v_inv
     cases x with
     |bool b=>
      have Z7:a.tmps[dj]?=some (.bool b):=by
       rw[Array.getD_eq_getD_getElem?]at hx
       cases hq:a.tmps[dj]? with
       |none=>rw[hq]at hx;simp[undef]at hx
       |some v=>rw[hq]at hx;simp at hx;rw[hx]
      have Wj:yielded ops a.tmps j=some b:=by rw[hy,Z7]
      simp only at hro;by_cases hb:b=want
      ·rw[oIP hb]at hro;rw[oIP (by simp[Region.wanted,g1,Wj,hb])];left;obtain⟨⟨u,σ2⟩,h1,h2⟩:=dV hro;exact go (by rw[h1];simp only at h2;rw[h2])
      ·rw[oIN hb]at hro;rw[oIN (by simp[Region.wanted,g1,Wj,hb])];exact skip hro
     |_=>simp at hro
    |tup l=>
     rw[hs]at Zn hro
     cases l with
     |nil=>
      have hu:a.tmps.getD dj undef=undef:=by
       generalize a.tmps.getD dj undef=z at Zn
       cases Zn with
       | @tup _ xs hl _=>have:xs=#[]:=by apply Array.eq_empty_of_size_eq_zero;simpa using hl
                         rw[this];rfl
      have Wj:yielded ops a.tmps j=none:=by
       rw[hy];rw[Array.getD_eq_getD_getElem?]at hu
       cases hq:a.tmps[dj]? with
       |none=>rfl
       |some v=>
        rw[hq]at hu;simp only[Option.getD_some]at hu;rw[hu];rfl
      simp only at hro;rw[oIN (by simp[Region.wanted,g1,Wj])];exact skip hro
     |cons=>simp at hro
    |_=>rw[hs]at hro;simp at hro
end
section
variable {P:Program} {M:Fm} {σ σ':St} {H:List TV} {xs:List Value} {ts:Array Value} {w:World} {G:Gh} {a:Act} {o:Oper} {isCall:Op->TOp->Prop} {call:Option Nat->TOp->SP Unit} {ops:Array Oper}
theorem Inv.congr(hI:Inv M σ H xs ts w G)(hs:Du σ σ'):Inv M σ' H xs ts w G:=by
 have hc:b8 M σ' H=b8 M σ H:=by
  funext r o;unfold b8;split
  ·rfl
  ·exact(hs (.c r o)).symm
 have hv:σ'.v=σ.v:=by funext q;exact(hs (.v q)).symm
 have hn:∀r l,b6 σ'.ce r=some l->∃l0,b6 σ.ce r=some l0/\l0.length=l.length:=by
  intro r l h;have h1:(b6 σ.ce r).map List.length=(b6 σ'.ce r).map List.length:=hs (.n r)
  simp_all
 refine⟨by rw[hc];exact hI.core,λi=>?_,hI.fram,λr l h=>?_,hI.size,hI.hand,hI.hval,λr b o n hb l h=>?_⟩
 ·have ht:σ'.t i=σ.t i:=by
   have:b6 σ.tm i=b6 σ'.tm i:=hs (.t i);simp[St.t,this]
  rw[hc,hv,ht];exact hI.tmr i
 ·have ⟨l0,h1,_⟩:=hn r l h;exact hI.keys r l0 h1
 ·have ⟨l0,h1,h2⟩:=hn r l h;rw[<- h2];exact hI.shape r b o n hb l0 h1
theorem Ad{t:ef}{i:Nat}{Q:Exit->Act->World->Prop}{K:Act->World->Prop}(hi:i<ops.size)(hop:mS P M isCall ops ops[i] t)(Zs:oV P M isCall call)(hI:Inv M σ [] [] a.tmps w G)(hro:qz call t σ=some σ')
 (hK:∀a' w' G',Inv M σ' [] [] a'.tmps w' G'->a'.defers=a.defers->K a' w'):wpOp P ops Q i K a w:=by
 unfold wpOp;simp only[Array.getElem?_eq_getElem hi]
 have go:(evop call t.dst t.op).run σ=some ((),σ')->ops[i].wp P a w K Q:=λh=>by
  exact u9 hI hop Zs h _ _ hK
 have skip:(match t.dst with|some d=>some { σ with tm:=c7 σ.tm d (.tup []) } |none=>some σ)=some σ'->K (a.put ops[i].dst undef) w:=λh=>by
  rw[hop.dst]at h
  cases hd:ops[i].dst with
  |none=>
   rw[hd]at h
   injection h with h
   subst h;exact hK a w G hI rfl
  |some d=>
   rw[hd]at h
   injection h with h
   subst h;exact hK (a.put (some d) undef) w G (hI.wrT (hop.lt d hd).1 rO) rfl
 unfold qz at hro
 rcases hop.guard with⟨g1,g2⟩|⟨j,want,dj,g1,g2,g3⟩
 ·rw[oIP (by simp[Region.wanted,g1])];left;simp only[g2]at hro;obtain⟨⟨u,σ2⟩,h1,h2⟩:=dV hro;exact go (by rw[h1];simp only at h2;rw[h2])
 ·simp only[g2]at hro
  have hy:yielded ops a.tmps j=match(a.tmps[dj]?:Option Value)with|some (.bool b)=>some b|_=>none:=by
   unfold yielded;rw[g3];rfl
  have Zn:=hI.tmr dj
  cases hs:σ.t dj with
  |v x=>
   rw[hs]at Zn hro;obtain⟨hx,_⟩:=Zn.v_inv
   cases x with
   |bool b=>
    have Z7:a.tmps[dj]?=some (.bool b):=by
     rw[Array.getD_eq_getD_getElem?]at hx
     cases hq:a.tmps[dj]? with
     |none=>rw[hq]at hx;simp[undef]at hx
     |some v=>rw[hq]at hx;simp at hx;rw[hx]
    have Wj:yielded ops a.tmps j=some b:=by rw[hy,Z7]
    simp only at hro;by_cases hb:b=want
    ·rw[oIP hb]at hro;rw[oIP (by simp[Region.wanted,g1,Wj,hb])];left;obtain⟨⟨u,σ2⟩,h1,h2⟩:=dV hro
     simp_all
    ·rw[oIN hb]at hro;rw[oIN (by simp[Region.wanted,g1,Wj,hb])];exact skip hro
   |_=>simp at hro
  |tup l=>
   rw[hs]at Zn hro
   cases l with
   |nil=>
    have hu:a.tmps.getD dj undef=undef:=by
     generalize a.tmps.getD dj undef=z at Zn
     cases Zn with
     | @tup _ xs hl _=>have:xs=#[]:=by apply Array.eq_empty_of_size_eq_zero;simpa using hl
                       rw[this];rfl
    have Wj:yielded ops a.tmps j=none:=by
     rw[hy];rw[Array.getD_eq_getD_getElem?]at hu
     cases hq:a.tmps[dj]? with
     |none=>rfl
     |some v=>
      rw[hq]at hu;simp only[Option.getD_some]at hu;rw[hu];rfl
    rw[oIN (by simp[Region.wanted,g1,Wj])];exact skip hro
   |cons=>simp at hro
  |_=>rw[hs]at hro;simp at hro
structure oU (ops:Array Oper)(deps:List (List Nat)):Prop where
 back:∀i (h:i<ops.size),∀e∈ops[i].after,Region.binds .any e=true->e.on<i
 dep:∀i (h:i<ops.size),∀j∈deps.getD i [],∃e∈ops[i].after,Region.binds .any e=true/\(e.on=j\/j∈deps.getD e.on [])
theorem my{deps:List (List Nat)}{x:Nat×jQ}:∀{l l':List (Nat×jQ)},ee deps (l++x::l')=true->ee deps (l++l')=true/\∀y∈l,iR y.2 x.2=false\/y.1∈deps.getD x.1 []:=by
 intro l
 induction l with
 |nil=>
  intro l' h;simp only[List.nil_append,ee,oBA]at h
  simp_all
 |cons z l ih=>
  intro l' h;simp only[List.cons_append,ee,oBA,List.all_eq_true]at h;obtain⟨h1,h2⟩:=ih h.2;refine⟨by simp only[List.cons_append,ee,oBA,List.all_eq_true];exact⟨λy hy=>h.1 y (by rcases List.mem_append.1 hy with hy|hy<;>simp[hy]),h1⟩,λy hy=>?_⟩;rcases List.mem_cons.1 hy with rfl|hy
  ·simp_all
  ·exact h2 y hy
theorem CA{tops:List ef}{deps:List (List Nat)}(hlen:tops.length=ops.size)(hok:∀i (h:i<ops.size)(h':i<tops.length),mS P M isCall ops ops[i] tops[i])(Zs:oV P M isCall call)(Zg:oU ops deps){Q:Exit->Act->World->Prop}:
 ∀(n:Nat)(C:List Nat)(listed:Array Bool)(σ:St)(a:Act)(w:World)(G:Gh)(fs:List (Nat×jQ))(τ:St),C.length=n->listed.size=ops.size->C.Pairwise (· < ·)->(∀j,j∈C↔j<ops.size/\listed.getD j true=false)->
  (∀i,listed.getD i false=true->∀j∈deps.getD i [],listed.getD j false=true)->Inv M σ [] [] a.tmps w G->jR (λi=>spOp call (tops.getD i tC)) C σ=some (fs,τ)->ee deps fs=true ->
  (∀a' w' G',Inv M τ [] [] a'.tmps w' G'->a'.defers=a.defers->Q .normal a' w')->wpAny P .any ops Q n listed a w:=by
 have Xe:∀{listed:Array Bool},listed.size=ops.size->∀j,j<ops.size->(listed.getD j true=false↔¬listed.getD j false=true):=by
  intro listed hs j hj
  have:j<listed.size:=by omega
  simp[Array.getD_eq_getD_getElem?,this]
 intro n
 induction n with
 |zero=>
  intro C listed σ a w G fs τ hC hs Yk Zq Zf hI hr hp hQ;have hC:C=[]:=oEN hC;subst hC;obtain⟨rfl,rfl⟩:=hr;refine⟨?_,hQ a w G hI rfl⟩;apply List.eq_nil_iff_forall_not_mem.2;intro j hj;obtain⟨h1,o,h2,_⟩:=mem_ready.1 hj;have:=(Zq j).2 ⟨(Array.getElem?_eq_some_iff.1 h2).1,h1⟩;simp at this
 |succ n ih=>
  intro C listed σ a w G fs τ hC hs Yk Zq Zf hI hr hp hQ;refine⟨λhnil=>?_,λi hi=>?_⟩
  ·exfalso
   cases C with
   |nil=>simp at hC
   |cons h C=>
    have hh:=(Zq h).1 (by simp)
    have:h∈Region.ready .any ops listed:=by
     refine mem_ready.2 ⟨hh.2,ops[h]'hh.1,Array.getElem?_eq_getElem hh.1,λe he hb=>?_⟩;have hlt:=Zg.back h hh.1 e he hb
     have QJ:e.on<ops.size:=by omega
     cases hl:listed.getD e.on false with
     |true=>rfl
     |false=>
      have hm:=(Zq e.on).2 ⟨QJ,(Xe hs _ QJ).2 (by rw[hl];simp)⟩;rcases List.mem_cons.1 hm with e1|e1
      ·omega
      ·have:=(List.pairwise_cons.1 Yk).1 _ e1;omega
    rw[hnil]at this;simp at this
  ·obtain⟨h1,o,h2,h3⟩:=mem_ready.1 hi;have TR:i<ops.size:=(Array.getElem?_eq_some_iff.1 h2).1
   have PL:o=ops[i]:=by rw[Array.getElem?_eq_getElem TR]at h2;injection h2 with h2;exact h2.symm
   subst PL;have Pz:=(Zq i).2 ⟨TR,h1⟩;obtain⟨pre,post,rfl⟩:=List.append_of_mem Pz
   have TD:∀j∈deps.getD i [],listed.getD j false=true:=λj hj=>by
    obtain⟨e,he,hb,h4⟩:=Zg.dep i TR j hj;have hl:=h3 e he hb;rcases h4 with rfl|h4
    ·exact hl
    ·exact Zf _ hl j h4
   have U6:∀Ye F Xb,fs=Ye++(i,F)::Xb->Ye.map (·.1)=pre->∀y∈Ye,iR y.2 F=false:=by
    rintro Ye F Xb rfl Uf y hy
    rcases(my hp).2 y hy with h|h
    ·exact h
    ·have P8:y.1∈pre++i::post:=by rw[<- Uf];exact List.mem_append_left _ (List.mem_map_of_mem hy)
     have:=(Zq y.1).1 P8;exact absurd (TD _ h) ((Xe hs _ this.1).1 this.2)
   obtain⟨σ',τ',Ye,F,Xb,rfl,Uf,hrun,_,ZW,YZ⟩:=tW hr U6
   have ZF:i<tops.length:=by omega
   have e:tops.getD i tC=tops[i]:=by simp[ZF]
   simp only[e]at hrun;refine Ad TR (hok i TR ZF) Zs hI (uX hrun) λa' w' G' ZL hd=>?_
   have hne:∀j∈pre++post,j≠i:=λj hj e=>by
    subst e;rw[List.pairwise_append]at Yk;rcases List.mem_append.1 hj with hj|hj
    ·have:=Yk.2.2 j hj j (by simp);omega
    ·have:=(List.pairwise_cons.1 Yk.2.1).1 j hj;omega
   refine ih (pre++post) (listed.setIfInBounds i true) σ' a' w' G' (Ye++Xb) τ' (by simp at hC⊢;omega) (by simp[hs]) ?_ (λj=>?_) (λk hk j hj=>?_) ZL ZW (my hp).1 λa2 w2 G2 h4 h5=>hQ a2 w2 G2 (h4.congr λx=>(YZ x).symm) (h5.trans hd)
   ·refine Yk.sublist ?_;exact List.Sublist.append_left (List.sublist_cons_self i post) pre
   ·constructor
    ·intro hj
     have PB:j∈pre++i::post:=by rcases List.mem_append.1 hj with hj|hj<;>simp[hj]
     have:=(Zq j).1 PB;exact⟨this.1,by rw[getD_set_ne true (Ne.symm (hne j hj))];exact this.2⟩
    ·rintro⟨hj1,Yv⟩
     have hji:j≠i:=by
      rintro rfl
      have:j<listed.size:=by omega
      simp[Array.getD_eq_getD_getElem?,this]at Yv
     rw[getD_set_ne true (Ne.symm hji)]at Yv;have:=(Zq j).2 ⟨hj1,Yv⟩;rcases List.mem_append.1 this with h|h
     ·exact List.mem_append_left _ h
     ·rcases List.mem_cons.1 h with h|h
      ·exact absurd h hji
      ·exact List.mem_append_right _ h
   ·by_cases hki:k=i
    ·subst hki;exact getD_set_true (TD j hj)
    ·rw[getD_set_ne false (Ne.symm hki)]at hk;exact getD_set_true (Zf k hk j hj)
theorem va{tops:List ef}{deps:List (List Nat)}{id:Nat}(hm:P.follows .mixedOrders=true)(hlen:tops.length=ops.size)(hok:∀i (h:i<ops.size)(h':i<tops.length),mS P M isCall ops ops[i] tops[i])(Zs:oV P M isCall call)(Zg:oU ops deps)
 {Q:Exit->Act->World->Prop}{fs:List (Nat×jQ)}{τ:St}(hI:Inv M σ [] [] a.tmps w G)(hr:jR (λi=>spOp call (tops.getD i tC)) (List.range tops.length) σ=some (fs,τ))(hp:ee deps fs=true)
 (hQ:∀a' w' G',Inv M τ [] [] a'.tmps w' G'->a'.defers=a.defers->Q .normal a' w'):(Code.region id ops true).wp P Q a w:=by
 refine wp_region_any hm ?_
 have ZL:Inv M σ [] [] a.tmps { w with drawn:=w.drawn+1 } G:=by
  exact(hI.grow (w':={ w with drawn:=w.drawn+1 }) (λ_ _=>rfl) (Nat.le_refl _) rfl rfl rfl).1
 refine CA hlen hok Zs Zg ops.size (List.range ops.size) _ σ a _ G fs τ (by simp) (by simp) List.pairwise_lt_range (λj=>?_) (λi hi=>?_) ZL (by simp_all) hp hQ
 ·simp_all
 ·exfalso;rw[Array.getD_eq_getD_getElem?,Array.getElem?_replicate]at hi;split at hi<;>simp at hi
end
def SP.quiet{α:Type}(d:Nat)(S:List Nat):SP α->Prop
 |.ret _=>True
 |.fail=>True
 |.rdT i k=>i∈S/\∀t,(k t).quiet d S
 |.rdC _ _ k=>∀t,(k t).quiet d S
 |.rdH _ _ k=>∀t,(k t).quiet d S
 |.rdV _ k=>∀n,(k n).quiet d S
 |.wrT i _ k=>i=d/\k.quiet d S
 |.wrC _ _ _ _=>False
 |.new _ _ _=>False
 |.bump _ _=>False
theorem bH{α β:Type}{d:Nat}{S:List Nat}{s:SP α}{f:α->SP β}(h:s.quiet d S)(hf:∀a,(f a).quiet d S):(s.bind f).quiet d S:=by
 induction s with
 |ret a=>exact hf a
 |fail=>exact trivial
 |rdT i k ih=>exact⟨h.1,λt=>ih t (h.2 t)⟩
 |rdC r o k ih=>exact λt=>ih t (h t)
 |rdH r o k ih=>exact λt=>ih t (h t)
 |rdV q k ih=>exact λn=>ih n (h n)
 |wrT i t k ih=>exact⟨h.1,ih h.2⟩
 |wrC r o t k ih=>exact h.elim
 |new r l k ih=>exact h.elim
 |bump q k ih=>exact h.elim
theorem i3{α:Type}{d:Nat}{S:List Nat}{s:SP α}(h:s.quiet d S)(σ:St):(∀x∈(s.foot σ).2,x=.t d)/\∀i,Loc.t i∈(s.foot σ).1->i∈S:=by
 induction s generalizing σ with
 |ret a=>exact⟨λx hx=>by simp[SP.foot]at hx,λi hi=>by simp[SP.foot]at hi⟩
 |fail=>exact⟨λx hx=>by simp[SP.foot]at hx,λi hi=>by simp[SP.foot]at hi⟩
 |rdT i k ih=>
  obtain⟨h1,h2⟩:=ih _ (h.2 (σ.t i)) σ;refine⟨h1,λj hj=>?_⟩;simp only[SP.foot,List.mem_cons]at hj;rcases hj with hj|hj
  ·injection hj with hj;subst hj;exact h.1
  ·exact h2 j hj
 |rdC r o k ih=>
  obtain⟨h1,h2⟩:=ih _ (h (σ.c r o)) σ;refine⟨h1,λj hj=>?_⟩;simp only[SP.foot]at hj
  simp_all
 |rdH r o k ih=>
  obtain⟨h1,h2⟩:=ih _ (h (σ.c r o).hd) σ;refine⟨h1,λj hj=>?_⟩;simp only[SP.foot,List.mem_cons]at hj
  simp_all
 |rdV q k ih=>
  obtain⟨h1,h2⟩:=ih _ (h (σ.v q)) σ;refine⟨h1,λj hj=>?_⟩;simp only[SP.foot,List.mem_cons]at hj
  simp_all
 |wrT i t k ih=>
  obtain⟨h1,h2⟩:=ih h.2 { σ with tm:=c7 σ.tm i t };refine⟨λx hx=>?_,h2⟩;simp only[SP.foot,List.mem_cons]at hx;rcases hx with hx|hx
  ·rw[hx,h.1]
  ·exact h1 x hx
 |wrC r o t k ih=>exact h.elim
 |new r l k ih=>exact h.elim
 |bump q k ih=>exact h.elim
def dA:Opd->List Nat
 |.t i=>[i]
 |_=>[]
def cY:TOp->Option (List Nat)
 |.mov (.t i)=>some [i]
 |.mov (.c x)=>match md x with|.v _=>some []|_=>none
 |.pick c a b=>some (dA c++(dA a++dA b))
 |.load _ a=>some (dA a)
 |.nilc x=>some (dA x)
 |.fld _ a=>some (dA a)
 |.fldv _ _ x=>some (dA x)
 |.idx _ x i=>some (dA x++dA i)
 |.idxa _ _ x i=>some (dA x++dA i)
 |.ext x _=>some (dA x)
 |.bin _ x y=>some (dA x++dA y)
 |.bnb _ x y=>some (dA x++dA y)
 |.eqa _ _ x y=>some (dA x++dA y)
 |.un _ x=>some (dA x)
 |.conv _ x=>some (dA x)
 |.len x=>some (dA x)
 |.lens x=>some (dA x)
 |.ixs x i=>some (dA x++dA i)
 |_=>none
section
variable {d:Nat} {S:List Nat}
theorem ck{x:Opd}(h:∀i∈dA x,i∈S):(opd x).quiet d S:=by
 cases x with
 |t i=>exact⟨h i (by simp[dA]),λ_=>trivial⟩
 |_=>exact trivial
theorem mb{l:List Key}:(rdVs l).quiet d S:=by
 induction l with
 |nil=>exact trivial
 |cons q l ih=>exact λn=>bH ih λ_=>trivial
theorem fO{p:bQ}{n:Nat}{vs:List Nat}:(chk p n vs).quiet d S:=bH mb λl=>by split<;>exact trivial
theorem gt{p:bQ}:(getPl p).quiet d S:=λtv=>by
 show SP.quiet d S (match bY tv p.hops with|some t=>SP.ret t|none=>SP.fail);cases bY tv p.hops<;>exact trivial
theorem p6{p:bQ}:(C9 p).quiet d S:=by
 unfold C9;split
 ·exact λ_=>trivial
 ·exact bH gt λ_=>trivial
theorem kF{p:bQ}{t:TV}:(peek1 p t).quiet d S:=by
 cases t with
 |ow c=>exact bH mb λ_=>trivial
 |_=>exact trivial
theorem tY{p:bQ}:(peekP p).quiet d S:=by
 unfold peekP;split
 ·refine λh=>?_
  cases h with
  |some ls=>exact bH mb λ_=>trivial
  |none=>exact bH gt λ_=>kF
 ·exact bH gt λ_=>kF
theorem tZ:∀{n:Nat}{p:bQ},(peekL p n).quiet d S:=by
 intro n
 induction n with
 |zero=>intro p;exact trivial
 |succ n ih=>
  refine bH gt λt=>bH kF λt'=>?_;split
  ·exact trivial
  ·split
   ·exact bH ih λ_=>trivial
   ·exact trivial
theorem cz{t:TV}:(wr d t).quiet d S:=⟨rfl,trivial⟩
theorem fu{t:TV}:(lR t).quiet d S:=by cases t<;>exact trivial
theorem kG{t:TV}:(natOf t).quiet d S:=by
 cases t with
 |v x=>
  cases x with
  |int k n=>cases n<;>exact trivial
  |_=>exact trivial
 |_=>exact trivial
theorem gr{α:Type}{o:Option α}:(fb o).quiet d S:=by cases o<;>exact trivial
theorem sc{t:TV}:(ix t).quiet d S:=by
 cases t with
 |pk p vs=>exact bH fO λ_=>bH p6 λt=>by cases t<;>exact trivial
 |pw p vs sz lo n=>exact bH fO λ_=>trivial
 |ow c=>cases c<;>exact trivial
 |_=>exact trivial
theorem sd{op:TOp}(h:cY op=some S):(ev1 d op).quiet d S:=by
 cases op with
 |mov x=>
  cases x with
  |t i=>
   simp only[cY,oSJ]at h;subst h;refine bH (ck λj hj=>by simpa[dA]using hj) λt=>?_
   cases t with
   |ow c=>exact trivial
   |agg l=>
    simp only;split
    ·exact trivial
    ·exact cz
   |_=>exact cz
  |c x=>
   simp only[cY]at h;split at h
   ·rename_i y hy
    have e:ev1 d (.mov (.c x))=wr d (.v y):=by simp only[ev1,opd,hy,SP.bind]
    rw[e];exact cz
   ·simp at h
  |f _=>simp[cY]at h
 |pick c a b=>
  simp only[cY,oSJ]at h;subst h;refine bH (ck λj hj=>by simp[hj]) λt=>?_;split
  ·rename_i bb
   refine bH ?_ λt=>by split<;>first|exact cz|exact trivial
   cases bb
   ·exact ck λj hj=>by simp at hj;simp[hj]
   ·exact ck λj hj=>by simp at hj;simp[hj]
  ·exact trivial
 |load n a=>
  simp only[cY,oSJ]at h;subst h;refine bH (ck λj hj=>by simpa using hj) λt=>?_;split
  ·refine bH fO λ_=>?_
   cases n with
   |none=>exact bH tY λ_=>cz
   |some n=>exact bH tZ λ_=>cz
  ·split<;>first|exact cz|exact trivial
  ·exact trivial
 |nilc x=>
  simp only[cY,oSJ]at h;subst h;refine bH (ck λj hj=>by simpa using hj) λt=>?_;split
  ·exact bH fO λ_=>cz
  ·exact cz
  ·exact cz
  ·exact trivial
 |fld off a=>
  simp only[cY,oSJ]at h;subst h;refine bH (ck λj hj=>by simpa using hj) λt=>?_;split
  ·refine bH fO λ_=>?_
   split<;>first|exact cz|exact trivial
  ·split<;>first|exact cz|exact trivial
  ·exact trivial
 |fldv off n x=>
  simp only[cY,oSJ]at h;subst h;refine bH (ck λj hj=>by simpa using hj) λt=>?_
  (repeat' split)<;>first|exact cz|exact trivial
 |idx sz x i=>
  simp only[cY,oSJ]at h;subst h;refine bH (ck λj hj=>by simp[hj]) λt=>bH (ck λj hj=>by simp[hj]) λti=>bH kG λk=>?_;split
  ·exact bH fO λ_=>bH p6 λt=>by(repeat' split)<;>first|exact cz|exact trivial
  ·exact bH fO λ_=>bH gt λt=>by(repeat' split)<;>first|exact cz|exact trivial
  ·split<;>first|exact cz|exact trivial
  ·exact trivial
 |idxa n sz x i=>
  simp only[cY,oSJ]at h;subst h;refine bH (ck λj hj=>by simp[hj]) λt=>bH (ck λj hj=>by simp[hj]) λti=>bH kG λk=>?_;split
  ·exact bH fO λ_=>by split<;>first|exact cz|exact trivial
  ·exact trivial
 |ext x i=>
  simp only[cY,oSJ]at h;subst h;refine bH (ck λj hj=>by simpa using hj) λt=>?_
  (repeat' split)<;>first|exact cz|exact trivial
 |bin op x y=>
  simp only[cY,oSJ]at h;subst h;refine bH (ck λj hj=>by simp[hj]) λt=>bH (ck λj hj=>by simp[hj]) λti=>bH fu λ_=>bH fu λ_=>bH gr λr=>?_
  split<;>first|exact cz|exact trivial
 |bnb neg x y=>
  simp only[cY,oSJ]at h;subst h;refine bH (ck λj hj=>by simp[hj]) λt=>bH (ck λj hj=>by simp[hj]) λti=>bH fu λ_=>bH fu λ_=>?_
  split<;>first|exact cz|exact trivial
 |eqa ks neg x y=>
  simp only[cY,oSJ]at h;subst h;refine bH (ck λj hj=>by simp[hj]) λt=>bH (ck λj hj=>by simp[hj]) λti=>?_;split
  ·exact bH gr λ_=>bH gr λ_=>bH gr λ_=>cz
  ·exact trivial
 |un op x=>
  simp only[cY,oSJ]at h;subst h;refine bH (ck λj hj=>by simpa using hj) λt=>bH fu λ_=>bH gr λr=>?_
  split<;>first|exact cz|exact trivial
 |conv k x=>
  simp only[cY,oSJ]at h;subst h;refine bH (ck λj hj=>by simpa using hj) λt=>bH fu λ_=>?_
  split<;>first|exact cz|exact trivial
 |len x=>
  simp only[cY,oSJ]at h;subst h;exact bH (ck λj hj=>by simpa using hj) λt=>bH sc λ_=>cz
 |lens x=>
  simp only[cY,oSJ]at h;subst h;refine bH (ck λj hj=>by simpa using hj) λt=>?_
  split<;>first|exact cz|exact trivial
 |ixs x i=>
  simp only[cY,oSJ]at h;subst h;refine bH (ck λj hj=>by simp[hj]) λt=>bH (ck λj hj=>by simp[hj]) λti=>bH kG λk=>?_
  (repeat' split)<;>first|exact cz|exact trivial
 |_=>simp[cY]at h
end
def vi(t:ef):Option (Nat×List Nat):=
 match t.dst,cY t.op with
 |some d,some S=>some (d,(match t.guard with|some (j,_)=>j::S|none=>S))
 |_,_=>none
theorem mT{α:Type}{d:Nat}{S S':List Nat}(hs:∀i∈S,i∈S'){s:SP α}(h:s.quiet d S):s.quiet d S':=by
 induction s with
 |ret a=>exact trivial
 |fail=>exact trivial
 |rdT i k ih=>exact⟨hs i h.1,λt=>ih t (h.2 t)⟩
 |rdC r o k ih=>exact λt=>ih t (h t)
 |rdH r o k ih=>exact λt=>ih t (h t)
 |rdV q k ih=>exact λn=>ih n (h n)
 |wrT i t k ih=>exact⟨h.1,ih h.2⟩
 |wrC r o t k ih=>exact h.elim
 |new r l k ih=>exact h.elim
 |bump q k ih=>exact h.elim
theorem pZ{call:Option Nat->TOp->SP Unit}{t:ef}{d:Nat}{S:List Nat}(h:vi t=some (d,S)):(spOp call t).quiet d S:=by
 unfold vi at h;split at h
 case h_2=>simp at h
 rename_i d' S' hd hq
 injection h with h
 injection h with h1 h2
 subst h1
 have X5:(evop call t.dst t.op)=ev1 d' t.op:=by
  rw[hd]
  cases hop:t.op<;>rw[hop]at hq<;>first|rfl|simp[cY]at hq
 have YQ:(setNo t.dst).quiet d' S:=by rw[hd];exact⟨rfl,trivial⟩
 unfold spOp
 cases hg:t.guard with
 |none=>
  rw[hg]at h2;subst h2;rw[X5];exact sd hq
 |some g=>
  obtain⟨j,want⟩:=g;rw[hg]at h2;subst h2;refine⟨by simp,λtv=>?_⟩;show SP.quiet d' (j::S') (match tv with|.v (.bool b)=>if b=want then evop call t.dst t.op else setNo t.dst|.tup []=>setNo t.dst|_=>.fail);split
  ·split
   ·rw[X5];exact mT (by simp +contextual) (sd hq)
   ·exact YQ
  ·exact YQ
  ·exact trivial
def BN(deps:List (List Nat))(tops:List ef)(i j:Nat):Bool:=
 (deps.getD j []).contains i||(match vi (tops.getD i tC),vi (tops.getD j tC)with
  |some (di,Si),some (dj,Sj)=>di != dj && !Sj.contains di && !Si.contains dj
  |_,_=>false)
def pT(deps:List (List Nat))(tops:List ef):List Nat->Bool
 | []=>true
 |i::r=>(r.all λj=>BN deps tops i j)&&pT deps tops r
theorem t6{a b:jQ}{da db:Nat}{Sa Sb:List Nat}(ha:(∀x∈a.2,x=.t da)/\∀i,Loc.t i∈a.1->i∈Sa)(hb:(∀x∈b.2,x=.t db)/\∀i,Loc.t i∈b.1->i∈Sb)(h1:da≠db)(h2:da ∉ Sb)(h3:db ∉ Sa):iR a b=false:=by
 have hm:∀(l l':List Loc)(d d':Nat)(S:List Nat),(∀x∈l,x=.t d)->((∀x∈l',x=.t d')/\d≠d'\/(∀i,Loc.t i∈l'->i∈S)/\d ∉ S)->wR l l'=false:=by
  intro l l' d d' S hl Yz;unfold wR;simp;intro w hw x hx;rw[hl w hw]
  cases x with
  |t i=>
   simp[Loc.hit,beq_eq_false_iff_ne];intro e
   rcases Yz with⟨q1,q2⟩|⟨q1,q2⟩
   ·have:=q1 _ hx;injection this with this;omega
   ·simp_all
  |_=>rfl
 unfold iR;rw[hm a.2 b.1 da 0 Sb ha.1 (.inr ⟨hb.2,h2⟩),hm a.2 b.2 da db [] ha.1 (.inl ⟨hb.1,h1⟩),hm b.2 a.1 db 0 Sa hb.1 (.inr ⟨ha.2,h3⟩),hm b.2 a.2 db da [] hb.1 (.inl ⟨ha.1,Ne.symm h1⟩)];rfl
theorem wA{call:Option Nat->TOp->SP Unit}{tops:List ef}{deps:List (List Nat)}:∀{L:List Nat}{σ τ:St}{fs:List (Nat×jQ)},pT deps tops L=true->jR (λi=>spOp call (tops.getD i tC)) L σ=some (fs,τ)->
 ee deps fs=true/\fs.map (·.1)=L/\∀y∈fs,∃ σ1,y.2=(spOp call (tops.getD y.1 tC)).foot σ1:=by
 intro L
 induction L with
 |nil=>
  intro σ τ fs _ hr;obtain⟨rfl,rfl⟩:=hr;exact⟨rfl,rfl,λy hy=>by simp at hy⟩
 |cons i L ih=>
  intro σ τ fs hs hr;simp only[pT,oBA,List.all_eq_true]at hs;simp only[jR]at hr;obtain⟨x,h1,h2⟩:=bN hr;obtain⟨y,h3,h4⟩:=bN h2;obtain⟨rfl,rfl⟩:=h4;obtain⟨Ye,τ1⟩:=y;obtain⟨q1,q2,q3⟩:=ih hs.2 h3;refine⟨?_,by simp[q2],λz hz=>?_⟩
  ·simp only[ee,oBA,List.all_eq_true];refine⟨λz hz=>?_,q1⟩
   have P9:z.1∈L:=by rw[<- q2];exact List.mem_map_of_mem hz
   have hp:=hs.1 z.1 P9;unfold BN at hp;simp only[Bool.or_eq_true]at hp⊢;rcases hp with hp|hp
   ·exact .inr hp
   ·left;split at hp
    ·rename_i di Si dj Sj e1 e2;simp only[oBA,bne_iff_ne,ne_eq,Bool.not_eq_true',List.contains_eq_mem,decide_eq_false_iff_not]at hp;obtain⟨σ1,e3⟩:=q3 z hz;have:=t6 (i3 (pZ (call:=call) e1) σ) (i3 (pZ (call:=call) e2) σ1) hp.1.1 hp.1.2 hp.2
     simp_all
    ·simp at hp
  ·rcases List.mem_cons.1 hz with rfl|hz
   ·exact⟨σ,rfl⟩
   ·exact q3 z hz
theorem Az{call:Option Nat->TOp->SP Unit}{o:ef}{σ σ':St}(h:qz call o σ=some σ'):(spOp call o).run σ=some ((),σ'):=by
 have YQ:∀{σ'},(match o.dst with|some d=>some { σ with tm:=c7 σ.tm d (.tup []) } |none=>some σ)=some σ'->(setNo o.dst).run σ=some ((),σ'):=by
  intro σ' h;unfold setNo
  cases hd:o.dst with
  |none=>rw[hd]at h;simp at h;simp[SP.run,h]
  |some d=>rw[hd]at h;simp at h;simp[SP.run,h]
 have hm:∀{s:SP Unit}{σ'},(s.run σ).map (·.2)=some σ'->s.run σ=some ((),σ'):=by simp_all
 unfold qz at h;unfold spOp
 cases hg:o.guard with
 |none=>rw[hg]at h;exact hm h
 |some g=>
  rw[hg]at h;simp only[SP.run]at h⊢;split at h
  ·split at h
   ·rename_i U4;rw[oIP U4];exact hm h
   ·rename_i U4;rw[oIN U4];exact YQ h
  ·exact YQ h
  ·simp at h
theorem yy{call:Option Nat->TOp->SP Unit}{tops:List ef}:∀{L:List Nat}{σ τ:St},ld call (L.map λi=>tops.getD i tC) σ=some τ->∃fs,jR (λi=>spOp call (tops.getD i tC)) L σ=some (fs,τ):=by
 intro L
 induction L with
 |nil=>intro σ τ h;simp[ld]at h;subst h;exact⟨[],rfl⟩
 |cons i L ih=>
  intro σ τ h;have ⟨σ1,h1,h2⟩:=bN h;have ⟨fs,h3⟩:=ih h2;refine⟨(i,(spOp call (tops.getD i tC)).foot σ)::fs,?_⟩;simp only[jR,Az h1,oBS,h3]
theorem wD(tops:List ef):(List.range tops.length).map (λi=>tops.getD i tC)=tops:=by
 apply List.ext_getElem?;intro i;by_cases h:i<tops.length
 ·simp[h]
 ·simp_all
def d7(P:Program)(M:Fm)(isCall:Op->TOp->Prop):ff->Code->Prop
 |.skip,c=>c=.skip
 |.nrm _,c=>c=.skip
 |.reg _ draw tops _,c=>∃id ops dr,c=.region id ops dr/\tops.length=ops.size/\(∀i (h:i<ops.size)(h':i<tops.length),mS P M isCall ops ops[i] tops[i])/\match draw with
  |some deps=>dr=true/\oU ops deps/\P.follows .mixedOrders=true
  |none=>dr=true->∃deps,oU ops deps/\P.follows .mixedOrders=true/\pT deps tops (List.range tops.length)=true
 |.seq x y,c=>∃x' y',c=.seq x' y'/\d7 P M isCall x x'/\d7 P M isCall y y'
 |.cond k x y,c=>∃k' x' y',c=.cond k' x' y'/\bJ k'=some k/\d7 P M isCall x x'/\d7 P M isCall y y'
 |.block id x,c=>∃x',c=.block id x'/\d7 P M isCall x x'
 |.loop x,c=>∃x',c=.loop x'/\d7 P M isCall x x'
 |.exit id,c=>c=.exit id
 |.ret,c=>c=.ret
 |.pre l x,c=>(∀y∈l,y.1<M.N)/\d7 P M isCall x c
 |.post x l,c=>(∀y∈l,y.1<M.N)/\d7 P M isCall x c
def fe.toExit:fe->Exit
 |.normal=>.normal
 |.exit id=>.exit id
 |.ret=>.ret
section
variable {P:Program} {M:Fm} {isCall:Op->TOp->Prop} {call:Option Nat->TOp->SP Unit}
theorem fj.toTm{w:World}{F:Nat->Prop}{V:Vs}{C:Cs}{G:Gh}{t:TV}{x:Value}(h:fj w F t x):TmR w F V C G t x:=by
 exact(ImF.im h).toTm
theorem CC{σ σ':St}{ts:Array Value}{w:World}{G:Gh}(hI:Inv M σ [] [] ts w G){x:Nat×Option Nat}(hx:x.1<M.N)(hr:(shr1 x).run σ=some ((),σ')):∃G',Inv M σ' [] [] ts w G':=by
 obtain⟨i,off⟩:=x
 have same:some ((),σ)=some ((),σ')->∃G',Inv M σ' [] [] ts w G':=λh=>by
  simp only[oSJ,oPJ,true_and]at h;exact⟨G,h▸hI⟩
 have Zn:=hI.tmr i
 have drop:∀{t t':TV}{v:Value}{σ1:St}{H:List TV},TmR w (G.F M.A) σ.v (b8 M σ []) G t v->(take1 false t).run σ=some (t',σ1)->t'≠.dead->∃G2,Inv M σ1 [] [] ts w G2/\TmR w (G2.F M.A) σ1.v (b8 M σ1 []) G2 t'.imm v/\σ1.tm=σ.tm:=by
  intro t t' v σ1 H ht h1 Zu;obtain⟨G1,hg,_⟩:=dS hI ht h1
  obtain⟨G2,ZM,ZR⟩:=hg.1.dropImm (λj hj=>by
   obtain rfl:j=0:=by simpa using hj
   exact Zu)
  have h0:=ZR 0 (by simp);refine⟨G2,ZM.1,?_,ZM.2.2.2.trans hg.2.2.2⟩;exact h0.toTm
 unfold shr1 at hr;simp only[SP.run]at hr
 cases off with
 |none=>
  cases ht:σ.t i with
  |pk p vs=>
   rw[ht]at hr Zn;simp only at hr;obtain⟨t',σ1,h1,h2⟩:=bG hr;simp only[SP.run,oSJ,oPJ,true_and]at h2
   have Zu:t'≠.dead:=by
    intro e
    rcases fm h1 with h|h<;>rw[e]at h<;>simp[cy,gD]at h
   obtain⟨G2,ZQ,Ym,_⟩:=drop (H:=[]) Zn h1 Zu;refine⟨G2,?_⟩;rw[<- h2];have:=ZQ.wrT hx Ym
   have e:ts.setIfInBounds i (ts.getD i undef)=ts:=by
    apply Array.ext
    ·simp
    ·intro j h3 h4;rw[Array.getElem_setIfInBounds (by simpa using h4)]
     simp_all
   rw[e]at this;exact this
  |_=>rw[ht]at hr;exact same hr
 |some off=>
  cases ht:σ.t i with
  |ptr p vs=>
   rw[ht]at hr Zn;simp only at hr;obtain⟨_,σ1,h1,h2⟩:=bG hr;have e1:σ1=σ:=(bS h1).1;have e2:=(bS h1).2;subst e1;split at h2
   case isFalse=>simp[SP.run]at h2
   obtain⟨t,σ2,h3,h4⟩:=bG h2;obtain⟨e3,hg⟩:=cP h3;have e3:σ2=σ1:=e3;subst e3
   cases t with
   |ow c=>
    simp only at h4;obtain⟨t',σ3,h5,h6⟩:=bG h4;obtain⟨t2,σ4,h7,h8⟩:=bG h6;simp only[SP.run,oSJ,oPJ,true_and]at h8;subst h8
    cases Zn with
    |ptr V0 h0 hv h=>
     obtain⟨Z6,ad,t0,ha,_,_⟩:=h e2
     have Vk:(p.add off).root≠1:=by rw[cJ];exact Z6
     obtain⟨hB,u,fp,Y7,hown,Ur⟩:=hI.named Vk (gX off ha) hg (by simp);obtain⟨rfl,YM⟩:=lh hI Vk hg hown Ur h5
     have Zu:t2≠.dead:=by
      intro e
      rcases fm h7 with h|h<;>rw[e]at h<;>simp[cy,gD]at h
     obtain⟨G2,ZQ,_,_⟩:=drop (H:=[]) YM h7 Zu;exact⟨G2,ZQ⟩
   |_=>exact same h4
  |_=>rw[ht]at hr;exact same hr
theorem yn{ts:Array Value}{w:World}:∀{l:List (Nat×Option Nat)}{σ σ':St}{G:Gh},Inv M σ [] [] ts w G->(∀y∈l,y.1<M.N)->(shrs l).run σ=some ((),σ')->∃G',Inv M σ' [] [] ts w G':=by
 intro l
 induction l with
 |nil=>
  intro σ σ' G hI _ hr;simp[shrs,SP.run]at hr;exact⟨G,hr▸hI⟩
 |cons x l ih=>
  intro σ σ' G hI hl hr;have ⟨_,σ1,h1,h2⟩:=bG hr;have ⟨G1,hI1⟩:=CC hI (hl x (by simp)) h1;exact ih hI1 (λy hy=>hl y (by simp[hy])) h2
theorem vb(Zs:oV P M isCall call)(N:Nat):∀(tc:ff)(c:Code)(σ:St)(e:fe)(σ':St)(a:Act)(w:World)(G:Gh)(Q:Exit->Act->World->Prop),d7 P M isCall tc c->runC call N tc σ=some (e,σ')->Inv M σ [] [] a.tmps w G ->
 (∀a' w' G',Inv M σ' [] [] a'.tmps w' G'->a'.defers=a.defers->Q e.toExit a' w')->c.wp P Q a w:=by
 intro tc
 induction tc with
 |skip=>
  intro c σ e σ' a w G Q hc hr hI hQ;simp only[d7]at hc;subst hc;simp only[runC,oSJ,oPJ]at hr;obtain⟨rfl,rfl⟩:=hr;exact wp_skip (hQ a w G hI rfl)
 |nrm pers=>
  intro c σ e σ' a w G Q hc hr hI hQ;simp only[d7]at hc;subst hc;obtain⟨rfl,rfl⟩:=hr;obtain⟨G2,ZQ⟩:=hI.norm pers;exact wp_skip (hQ a w G2 ZQ rfl)
 |reg id draw tops pers=>
  intro c σ e σ' a w G Q hc hr hI hQ;obtain⟨OJ,ops,dr,rfl,hlen,hok,hdr⟩:=hc;simp only[runC]at hr
  cases draw with
  |some deps=>
   simp only at hr;obtain⟨⟨fs,τ⟩,h1,h2⟩:=bN hr;simp only at h2;split at h2
   ·rename_i hp
    injection h2 with h2
    injection h2 with h2 h3
    subst h2;subst h3;obtain⟨rfl,Zg,hm⟩:=hdr;refine va hm hlen hok Zs Zg hI h1 hp λa' w' G' ZL hd'=>?_;obtain⟨G2,ZQ⟩:=ZL.norm pers;exact hQ a' w' G2 ZQ hd'
   ·simp at h2
  |none=>
   simp only at hr;obtain⟨σ1,h1,h2⟩:=dV hr
   injection h2 with h2 h3
   subst h2;subst h3
   cases dr with
   |true=>
    obtain⟨deps,Zg,hm,hst⟩:=hdr rfl;obtain⟨fs,Zp⟩:=yy (tops:=tops) (L:=List.range tops.length) (by rw[wD];exact h1);refine va hm hlen hok Zs Zg hI Zp (wA hst Zp).1 λa' w' G' ZL hd'=>?_;obtain⟨G2,ZQ⟩:=ZL.norm pers;exact hQ a' w' G2 ZQ hd'
   |false=>
   refine wp_region ?_
   have hm:(List.range ops.size).map (λi=>tops.getD i ⟨none,none,.lens (.t 0)⟩)=tops:=by
    apply List.ext_getElem?;intro i;by_cases h:i<ops.size
    ·simp[h,hlen]
    ·rw[oGN (by simpa using h),oGN (by omega)]
   refine Cg hlen hok Zs (List.range ops.size) σ a w G (λi hi=>by simpa using hi) hI (by rw[hm];exact h1) λa' w' G' ZL hd'=>?_;obtain⟨G2,ZQ⟩:=ZL.norm pers;exact hQ a' w' G2 ZQ hd'
 |seq x y XC Vt=>
  intro c σ e σ' a w G Q hc hr hI hQ;obtain⟨x',y',rfl,hx,hy⟩:=hc;simp only[runC]at hr;obtain⟨⟨e1,σ1⟩,h1,h2⟩:=bN hr;refine wp_seq (XC x' σ e1 σ1 a w G _ hx h1 hI λa' w' G' ZL hd=>?_)
  cases e1 with
  |normal=>exact Vt y' σ1 e σ' a' w' G' Q hy h2 ZL λa2 w2 G2 h3 h4=>hQ a2 w2 G2 h3 (h4.trans hd)
  |exit id=>
   simp only[oSJ,oPJ]at h2;obtain⟨rfl,rfl⟩:=h2;exact hQ a' w' G' ZL hd
  |ret=>
   simp only[oSJ,oPJ]at h2;obtain⟨rfl,rfl⟩:=h2;exact hQ a' w' G' ZL hd
 |cond k x y XC Vt=>
  intro c σ e σ' a w G Q hc hr hI hQ;obtain⟨k',x',y',rfl,hk,hx,hy⟩:=hc;simp only[runC]at hr;obtain⟨⟨t,σ1⟩,h1,h2⟩:=bN hr;obtain⟨rfl,ht⟩:=cr hI.tmr hk h1
  cases t with
  |v z=>
   obtain⟨hz,_⟩:=ht.v_inv
   cases z with
   |bool b=>
    cases b with
    |true=>exact wp_cond_true hz (XC x' _ e σ' a w G Q hx h2 hI hQ)
    |false=>exact wp_cond_false hz (Vt y' _ e σ' a w G Q hy h2 hI hQ)
   |_=>simp at h2
  |_=>simp at h2
 |block id x XC=>
  intro c σ e σ' a w G Q hc hr hI hQ;obtain⟨x',rfl,hx⟩:=hc;simp only[runC]at hr;obtain⟨⟨e1,σ1⟩,h1,h2⟩:=bN hr;refine wp_block (XC x' σ e1 σ1 a w G _ hx h1 hI λa' w' G' ZL hd=>?_)
  cases e1 with
  |normal=>
   simp only[oSJ,oPJ]at h2;obtain⟨rfl,rfl⟩:=h2;exact hQ a' w' G' ZL hd
  |exit i=>
   simp only at h2;simp only[fe.toExit,Exit.inBlock];split at h2
   ·rename_i hi;simp only[oSJ,oPJ]at h2;obtain⟨rfl,rfl⟩:=h2;rw[oIP hi];exact hQ a' w' G' ZL hd
   ·rename_i hi;simp only[oSJ,oPJ]at h2;obtain⟨rfl,rfl⟩:=h2;rw[oIN hi];exact hQ a' w' G' ZL hd
  |ret=>
   simp only[oSJ,oPJ]at h2;obtain⟨rfl,rfl⟩:=h2;exact hQ a' w' G' ZL hd
 |loop x XC=>
  intro c σ e σ' a w G Q hc hr hI hQ;obtain⟨x',rfl,hx⟩:=hc;simp only[runC]at hr
  have ZZ:∀(n:Nat)(σ:St)(a:Act)(w:World)(G:Gh)(d:List Deferred),a.defers=d->C1 (runC call N x) n σ=some (e,σ')->Inv M σ [] [] a.tmps w G->(∀a' w' G',Inv M σ' [] [] a'.tmps w' G'->a'.defers=d->Q e.toExit a' w')->Code.rounds P x' Q n a w:=by
   intro n
   induction n with
   |zero=>intro σ a w G d _ hr;simp[C1]at hr
   |succ n ih=>
    intro σ a w G d hd hr hI hQ;simp only[C1]at hr;obtain⟨⟨e1,σ1⟩,h1,h2⟩:=bN hr;rw[rounds_succ];refine XC x' σ e1 σ1 a w G _ hx h1 hI λa' w' G' ZL hd'=>?_
    cases e1 with
    |normal=>exact ih σ1 a' w' G' d (hd'.trans hd) h2 ZL hQ
    |exit i=>
     simp only[oSJ,oPJ]at h2;obtain⟨rfl,rfl⟩:=h2;exact hQ a' w' G' ZL (hd'.trans hd)
    |ret=>
     simp only[oSJ,oPJ]at h2;obtain⟨rfl,rfl⟩:=h2;exact hQ a' w' G' ZL (hd'.trans hd)
  exact wp_loop_rounds N (ZZ N σ a w G a.defers rfl hr hI hQ)
 |exit id=>
  intro c σ e σ' a w G Q hc hr hI hQ;simp only[d7]at hc;subst hc;obtain⟨rfl,rfl⟩:=hr;exact wp_exit (hQ a w G hI rfl)
 |ret=>
  intro c σ e σ' a w G Q hc hr hI hQ;simp only[d7]at hc;subst hc;obtain⟨rfl,rfl⟩:=hr;exact wp_ret (hQ a w G hI rfl)
 |pre l x XC=>
  intro c σ e σ' a w G Q hc hr hI hQ;obtain⟨hl,hx⟩:=hc;simp only[runC]at hr;obtain⟨⟨u,σ1⟩,h1,h2⟩:=bN hr;obtain⟨G1,hI1⟩:=yn hI hl h1;obtain⟨G2,ZQ⟩:=hI1.norm (σ1.tm.map (·.1),σ1.ce.map (·.1));exact XC c σ1.anew e σ' a w G2 Q hx h2 ZQ hQ
 |post x l XC=>
  intro c σ e σ' a w G Q hc hr hI hQ;obtain⟨hl,hx⟩:=hc;simp only[runC]at hr;obtain⟨⟨e1,σ1⟩,h1,h2⟩:=bN hr;obtain⟨⟨u,σ2⟩,h3,h4⟩:=bN h2;simp only[oSJ,oPJ]at h4;obtain⟨rfl,rfl⟩:=h4;refine XC c σ e1 σ1 a w G Q hx h1 hI λa' w' G' ZL hd=>?_;obtain⟨G2,ZQ⟩:=yn ZL hl h3;obtain⟨G3,WX⟩:=ZQ.norm (σ2.tm.map (·.1),σ2.ce.map (·.1));exact hQ a' w' G3 WX hd
end
inductive TRs where
 |tmp (t:Nat)
 |cell (t:Nat) (n:Option Nat)
structure TFn where
 np:Nat
 pp:List Nat
 nt:Nat
 body:ff
 res:List TRs
def D6(np r:Nat):Bool:=r%2==0&&decide (r<2*np+2)
def takeR1(np:Nat)(t:TV):SP TV:=
 match t with
 |.pk p vs=>take1 (!D6 np p.root) (.pk p vs)
 |t=>take1 true t
def takeRL(np:Nat):List TV->SP (List TV)
 | []=>.ret []
 |t::r=>(takeR1 np t).bind λt'=>(takeRL np r).bind λr'=>.ret (t'::r')
def takeRV(np:Nat)(t:TV):SP (List TV×RSh):=
 match t with
 |.agg l=>(takeRL np l).bind λl'=>.ret (l',.agg l'.length)
 |t=>(takeR1 np t).bind λt'=>.ret ([t'],.one)
def res1(np:Nat):TRs->SP (List TV×RSh)
 |.tmp t=>.rdT t λtv=>takeRV np tv
 |.cell t n=>.rdT t λtv=>match tv with
  |.ptr p vs=>(chk p p.hops.length vs).bind λ_=>match n with
   |none=>(getPl p).bind λt=>(peek1 p t).bind λt'=>takeRV np t'
   |some n=>(peekL p n).bind λl=>takeRV np (.agg l)
  |_=>.fail
def resL(np:Nat):List TRs->SP (List TV×List RSh)
 | []=>.ret ([],[])
 |r::rs=>(res1 np r).bind λx=>(resL np rs).bind λy=>.ret (x.1++y.1,x.2::y.2)
def tD:TV->Bool
 |.v x=>dP x
 |_=>false
def unV:TV->Value
 |.v x=>x
 |_=>undef
def onesOf:List TV->List RSh
 | []=>[]
 |_::r=>.one::onesOf r
def flatsR:List TRs->SP (List TV)
 | []=>.ret []
 |.tmp t::r=>.rdT t λtv=>if tD tv then(flatsR r).bind λl=>.ret (tv::l)else .fail
 |.cell _ _::_=>.fail
def resF(np:Nat):List TRs->SP (List TV×List RSh)
 |.tmp t::r=>.rdT t λtv=>match tv with
  |.ptr p vs=>(chk p p.hops.length vs).bind λ_=>(flatsR r).bind λl=>.ret (.ptr p vs::l,.ptr::onesOf l)
  |_=>resL np (.tmp t::r)
 |qs=>resL np qs
def vf(t:TV):List TV->TV
 | []=>t
 |y::l=>.tup (t::y::l)
def pX(x:Value):List Value->Value
 | []=>x
 |y::l=>.tuple (x::y::l).toArray
theorem yq{w:World}{F:Nat->Prop}{V:Vs}{C:Cs}{G:Gh}{t:TV}{x:Value}(h:TmR w F V C G t x):∀{l:List TV},l.all tD=true->TmR w F V C G (vf t l) (pX x (l.map unV)):=by
 intro l hl
 have ZX:∀j (hj:j<l.length),TmR w F V C G l[j] (unV l[j]):=by
  intro j hj;have:=List.all_eq_true.1 hl l[j] (List.getElem_mem hj)
  cases hc:l[j]with
  |v y=>rw[hc]at this;exact .v this
  |_=>rw[hc]at this;simp[tD]at this
 cases l with
 |nil=>exact h
 |cons y l=>
  refine .tup (by simp) λj hj=>?_
  cases j with
  |zero=>exact h
  |succ j=>
   have ZY:j<(y::l).length:=by simp_all
   have e:(x::unV y::l.map unV).toArray.getD (j+1) undef=unV (y::l)[j]:=by
    have e0:((y::l).map unV)[j]?=some (unV (y::l)[j]):=by rw[List.getElem?_map,oGE ZY];rfl
    simp_all
   simp_all
def dC:List RSh->List Value->List Value
 | [],_=>[]
 |.one::r,ys=>ys.headD undef::dC r ys.tail
 |.agg n::r,ys=>.agg (ys.take n).toArray::dC r (ys.drop n)
 |.ptr::r,ys=>undef::dC r ys
def ir(sh:List RSh)(ys:List Value):Value:=
 match dC sh ys with
 | [x]=>x
 |l=>.tuple l.toArray
section
variable {P:Program} {M:Fm} {σ σ':St} {H:List TV} {xs:List Value} {ts:Array Value} {w:World} {G:Gh}
theorem rR(np:Nat)(t:TV):∃mv,takeR1 np t=take1 mv t:=by
 cases t<;>first|exact⟨true,rfl⟩|exact⟨_,rfl⟩
theorem xH{np:Nat}:∀{l l':List TV}{ys:List Value}{σ σ':St}{H:List TV}{xs:List Value}{G:Gh},Inv M σ H xs ts w G->l.length=ys.length->(∀j (h:j<l.length),TmR w (G.F M.A) σ.v (b8 M σ H) G l[j] (ys.getD j undef))->
 (takeRL np l).run σ=some (l',σ')->l'.length=l.length/\(∃G',gc M w ts σ H G σ' (H++l') (xs++ys) G')/\∀j (h:j<l'.length),cy l'[j]=true\/gD l'[j]=true:=by
 intro l
 induction l with
 |nil=>
  intro l' ys σ σ' H xs G hI hl _ hr;obtain⟨rfl,rfl⟩:=hr;have:=oEN (by simpa using hl.symm);subst this;exact⟨rfl,⟨G,by simpa using gc.refl hI⟩,λj h=>by simp at h⟩
 |cons t l ih=>
  intro l' ys σ σ' H xs G hI hl ht hr
  cases ys with
  |nil=>simp at hl
  |cons y ys=>
   obtain⟨t',σ1,h1,h2⟩:=bG hr;obtain⟨r',σ2,h3,h4⟩:=bG h2;obtain⟨rfl,rfl⟩:=h4;obtain⟨mv,Sl⟩:=rR np t;rw[Sl]at h1;obtain⟨G1,ZN,ho⟩:=dS hI (ht 0 (by simp)) h1;obtain⟨e,⟨G2,ZM⟩,hok⟩:=ih (l':=r') ZN.1 (by simpa using hl) (λj hj=>ZN.tm (by have:=ht (j+1) (by simpa using hj);simpa using this)) h3;refine⟨by simp[e],⟨G2,by simpa using ZN.trans ZM⟩,λj hj=>?_⟩
   cases j with
   |zero=>exact fm h1
   |succ j=>exact hok j (by simpa using hj)
theorem nI{np:Nat}{t:TV}{x:Value}{r:List TV×RSh}(hI:Inv M σ H xs ts w G)(hx:TmR w (G.F M.A) σ.v (b8 M σ H) G t x)(hr:(takeRV np t).run σ=some (r,σ')):
 ∃ys G',gc M w ts σ H G σ' (H++r.1) (xs++ys) G'/\r.1.length=ys.length/\(∀j (h:j<r.1.length),cy r.1[j]=true\/gD r.1[j]=true)/\∀(rest:List RSh)(zs:List Value),dC (r.2::rest) (ys++zs)=x::dC rest zs:=by
 by_cases ht:∃q,t=.agg q
 ·obtain⟨q,rfl⟩:=ht;obtain⟨l',σ1,h1,h2⟩:=bG hr;obtain⟨rfl,rfl⟩:=h2;obtain⟨vs,rfl,hl,hj⟩:=xp hx;obtain⟨e1,⟨G',hg⟩,hok⟩:=xH (ys:=vs.toList) hI (by simp[hl]) (λj h=>by simp_all) h1;refine⟨vs.toList,G',hg,by simp[e1,hl],hok,λrest zs=>?_⟩
  have hn:l'.length=vs.toList.length:=by simp_all
  simp only[dC,hn,List.take_left,List.drop_left,Array.toArray_toList]
 ·have e:takeRV np t=(takeR1 np t).bind λt'=>.ret ([t'],.one):=by
   cases t<;>first|rfl|exact absurd ⟨_,rfl⟩ ht
  rw[e]at hr;obtain⟨t',σ1,h1,h2⟩:=bG hr;obtain⟨rfl,rfl⟩:=h2;obtain⟨mv,Sl⟩:=rR np t;rw[Sl]at h1;obtain⟨G',hg,ho⟩:=dS hI hx h1;refine⟨[x],G',hg,rfl,λj hj=>?_,λrest zs=>rfl⟩
  obtain rfl:j=0:=by simp_all
  exact fm h1
def uQ(P:Program):TRs->ResultVar->Prop
 |.tmp t,r=>r=.tmp t
 |.cell t n,r=>∃ty,r=.cell t ty/\wb P ty n
theorem CO{np:Nat}{q:TRs}{q':ResultVar}{r:List TV×RSh}(hI:Inv M σ H xs ts w G)(hq:uQ P q q')(hr:(res1 np q).run σ=some (r,σ')):
 ∃x ys G',(match q' with|.tmp t=>(pure (ts.getD t undef):Sem Value)|.cell a t=>do loadVar t (<- asAddr (ts.getD a undef))).run P w=.ok x w/\gc M w ts σ H G σ' (H++r.1) (xs++ys) G'/\r.1.length=ys.length /\
  (∀j (h:j<r.1.length),cy r.1[j]=true\/gD r.1[j]=true)/\∀(rest:List RSh)(zs:List Value),dC (r.2::rest) (ys++zs)=x::dC rest zs:=by
 cases q with
 |tmp t=>
  have hq:q'=.tmp t:=hq;subst hq;obtain⟨ys,G',h1,h2,h3,h4⟩:=nI hI (hI.tmr t) hr;exact⟨_,ys,G',rfl,h1,h2,h3,h4⟩
 |cell t n=>
  obtain⟨ty,rfl,hn⟩:=hq;simp only[res1,SP.run]at hr;have Zn:=hI.tmr t
  cases hs:σ.t t with
  |ptr p vs=>
   rw[hs]at hr Zn;simp only at hr;obtain⟨_,σ2,h3,h4⟩:=bG hr;have e1:σ2=σ:=(bS h3).1;have e2:=(bS h3).2;subst e1;generalize hz:ts.getD t undef=z at Zn
   cases Zn with
   |ptr V0 h0 hv h=>
    obtain⟨Z6,ad,t0,ha,rfl,_⟩:=h e2
    cases n with
    |none=>
     obtain⟨dd,hu,Yp,hd2⟩:=hn;simp only at h4;obtain⟨t1,σ3,h5,h6⟩:=bG h4;obtain⟨e3,hg⟩:=cP h5;have e3:σ3=σ2:=e3;subst e3;obtain⟨t',σ4,h7,h8⟩:=bG h6;obtain⟨hB,u,fp,Y7,hown,ZI⟩:=hI.named Z6 ha hg (jG h7);obtain⟨rfl,YM⟩:=lh hI Z6 hg hown ZI h7;obtain⟨ys,G',k1,k2,k3,k4⟩:=nI hI YM h8;refine⟨u,ys,G',?_,k1,k2,k3,k4⟩;show((do loadVar ty (<- asAddr (ts.getD t undef))):Sem Value).run P w=_;rw[hz];simp[asAddr,loadVar,ij hu Yp hd2,Y7]
    |some n=>
     obtain⟨⟨dd,hu,Yp⟩,hsz⟩:=hn;simp only at h4;obtain⟨l,σ3,h5,h6⟩:=bG h4;obtain⟨rfl,e3,us,e4,e5⟩:=vl hI Z6 ha h5
     have Rz:TmR w (G.F M.A) σ3.v (b8 M σ3 H) G (.agg l) (.agg us.toArray):=.agg (by simp[e3,e4]) λj hj=>by have:=(e5 j hj (by omega)).2;simpa[show j<us.length by omega]using this
     obtain⟨ys,G',k1,k2,k3,k4⟩:=nI hI Rz h6;refine⟨_,ys,G',?_,k1,k2,k3,k4⟩;have Zr:=fR ha
     have ZU:=run_loadCells_list (P:=P) w ad us λj v hj=>by
      obtain⟨hlt,rfl⟩:=oGS hj;have:=(e5 j (by omega) hlt).1;obtain⟨b,o,s⟩:=ad;simp only at Zr;subst Zr;rw[cB];exact this
     have Y0:(sizeOf ty).run P w=.ok n w:=by
      unfold sizeOf typeInfo
      cases hi:P.info? ty with
      |none=>simp[hi]at hsz
      |some i=>simp[hi]at hsz;simp[hi,hsz]
     rw[e4]at ZU;show((do loadVar ty (<- asAddr (ts.getD t undef))):Sem Value).run P w=_;rw[hz];simp[asAddr,loadVar,gq hu Yp,Y0,ZU]
  |_=>rw[hs]at hr;simp[SP.run]at hr
theorem CN{np:Nat}:∀{qs:List TRs}{qs':List ResultVar}{r:List TV×List RSh}{σ σ':St}{H:List TV}{xs:List Value}{G:Gh},Inv M σ H xs ts w G->qs.length=qs'.length->(∀k (h:k<qs.length)(h':k<qs'.length),uQ P qs[k] qs'[k])->(resL np qs).run σ=some (r,σ')->
 ∃vs ys G',(qs'.mapM λ(q:ResultVar)=>(match q with|.tmp t=>(pure (ts.getD t undef):Sem Value)|.cell a t=>do loadVar t (<- asAddr (ts.getD a undef)))).run P w=.ok vs w/\gc M w ts σ H G σ' (H++r.1) (xs++ys) G'/\r.1.length=ys.length /\
  (∀j (h:j<r.1.length),cy r.1[j]=true\/gD r.1[j]=true)/\dC r.2 ys=vs:=by
 intro qs
 induction qs with
 |nil=>
  intro qs' r σ σ' H xs G hI hl _ hr;have:qs'=[]:=oEN (by simpa using hl.symm);subst this;obtain⟨rfl,rfl⟩:=hr;exact⟨[],[],G,by simp,by simpa using gc.refl hI,rfl,λj h=>by simp at h,rfl⟩
 |cons q qs ih=>
  intro qs' r σ σ' H xs G hI hl hok hr
  cases qs' with
  |nil=>simp at hl
  |cons q' qs'=>
   obtain⟨x,σ1,h1,h2⟩:=bG hr;obtain⟨y,σ2,h3,h4⟩:=bG h2;obtain⟨rfl,rfl⟩:=h4;obtain⟨v,ys,G1,k1,k2,k3,k4,k5⟩:=CO hI (hok 0 (by simp) (by simp)) h1;obtain⟨vs,zs,G2,l1,l2,l3,l4,l5⟩:=ih (qs':=qs') k2.1 (by simpa using hl) (λk h h'=>hok (k+1) (by simpa using h) (by simpa using h')) h3;refine⟨v::vs,ys++zs,G2,?_,by simpa using k2.trans l2,by simp[k3,l3],λj hj=>?_,?_⟩
   ·rw[List.mapM_cons,Sem.run_bind];refine(congrArg (λr=>Result.andThen r _) k1).trans ?_;simp only[Result.andThen_ok,Sem.run_bind,l1,Sem.run_pure]
   ·by_cases hjl:j<x.1.length
    ·rw[List.getElem_append_left hjl];exact k4 j hjl
    ·rw[List.getElem_append_right (by omega)];exact l4 _ _
   ·rw[k5,l5]
theorem zA:∀{qs:List TRs}{qs':List ResultVar}{l:List TV}{σ σ':St}{G:Gh},Inv M σ [] [] ts w G->qs.length=qs'.length->(∀k (h:k<qs.length)(h':k<qs'.length),uQ P qs[k] qs'[k])->(flatsR qs).run σ=some (l,σ')->
 σ'=σ/\l.all tD=true/\(qs'.mapM λ(q:ResultVar)=>(match q with|.tmp t=>(pure (ts.getD t undef):Sem Value)|.cell a t=>do loadVar t (<- asAddr (ts.getD a undef)))).run P w=.ok (l.map unV) w:=by
 intro qs
 induction qs with
 |nil=>
  intro qs' l σ σ' G hI hl _ hr;have:qs'=[]:=oEN (by simpa using hl.symm);subst this;obtain⟨rfl,rfl⟩:=hr;exact⟨rfl,rfl,by simp⟩
 |cons q qs ih=>
  intro qs' l σ σ' G hI hl hok hr
  cases qs' with
  |nil=>simp at hl
  |cons q' qs'=>
   cases q with
   |cell t n=>simp[flatsR,SP.run]at hr
   |tmp t=>
    have hq:q'=.tmp t:=hok 0 (by simp) (by simp);subst hq;simp only[flatsR,SP.run]at hr;split at hr
    case isFalse=>simp[SP.run]at hr
    rename_i hf;obtain⟨r,σ1,h1,h2⟩:=bG hr;simp only[SP.run,oSJ,oPJ]at h2;obtain⟨rfl,rfl⟩:=h2;obtain⟨rfl,k2,k3⟩:=ih (qs':=qs') hI (by simpa using hl) (λk h h'=>hok (k+1) (by simpa using h) (by simpa using h')) h1;refine⟨rfl,by rw[List.all_cons,hf,k2];rfl,?_⟩;have hv:=hI.tmr t
    have e:ts.getD t undef=unV (σ1.t t):=by
     cases hc:σ1.t t with
     |v x=>
      rw[hc]at hv
      cases hv with
      |v _=>rfl
     |_=>rw[hc]at hf;simp[tD]at hf
    rw[List.mapM_cons,Sem.run_bind];simp only[Result.andThen_ok,Sem.run_bind,k3,Sem.run_pure];rw[e];rfl
end
section
variable {P:Program} {M:Fm} {σ σ':St} {H:List TV} {xs:List Value} {ts:Array Value} {w:World} {G:Gh}
theorem Inv.trunc(hI:Inv M σ H xs ts w G){k:Nat}(hd:∀j (h:j<H.length),k<=j->H[j]=.dead):Inv M σ (H.take k) (xs.take k) ts w G/\b8 M σ (H.take k)=b8 M σ H:=by
 have e:b8 M σ (H.take k)=b8 M σ H:=by
  funext r o;unfold b8;split
  ·simp
   grind
  ·rfl
 refine⟨⟨by rw[e];exact hI.core,λi=>by rw[e];exact hI.tmr i,hI.fram,hI.keys,hI.size,by simp[hI.hand],λj hj=>?_,hI.shape⟩,e⟩
 have h2:j<k/\j<xs.length:=by simp at hj;omega
 rw[hI.hval j h2.2]
 simp_all
theorem l7(b:Nat)(vs:List Value):∀(o:Nat)(w:World){k:Nat},k≠b->(w.setCells b o vs).heap[k]?=w.heap[k]?:=by
 induction vs with
 |nil=>intro o w k h;rfl
 |cons v r ih=>
  intro o w k h;simp[World.setCells];rw[ih _ _ h];exact bW w _ v h
theorem oZ(b:Nat)(vs:List Value):∀(o:Nat)(w:World){cur:Array Value}{e:TypeId}{fz:Nat×Nat},w.heap[b]?=some (.cells cur e fz)->
 ∃YN,(w.setCells b o vs).heap[b]?=some (.cells YN e fz)/\YN.size=cur.size/\∀j,YN[j]?=if o<=j/\j<o+vs.length/\j<cur.size then vs[j-o]? else cur[j]?:=by
 induction vs with
 |nil=>intro o w cur e fz h;exact⟨cur,h,rfl,λj=>by rw[oIN (by simp;omega)]⟩
 |cons v r ih=>
  intro o w cur e fz h;obtain⟨YN,h1,h2,h3⟩:=ih (o+1) _ (eT w b o v h);refine⟨YN,h1,by rw[h2];simp,λj=>?_⟩;rw[h3];simp;by_cases hj:j=o
  ·subst hj;rw[oIN (by omega)];by_cases hs:j<cur.size
   ·rw[oIP (by omega)];simp[hs]
   ·rw[oIN (by omega)];simp[hs]
  ·by_cases hc:o+1<=j/\j<o+1+r.length/\j<cur.size
   ·rw[oIP hc,oIP (by omega)];rw[show j-o=(j-(o+1))+1 by omega];simp
   ·rw[oIN hc,oIN (by omega)];rw[Array.getElem?_setIfInBounds,oIN (Ne.symm hj)]
theorem qy(b:Nat)(vs:List Value):∀(o:Nat)(w:World),w.setCells b o vs={ w with heap:=(w.setCells b o vs).heap }:=by
 induction vs with
 |nil=>intro o w;rfl
 |cons v r ih=>
  intro o w;simp[World.setCells]
  have h:w.setCell ⟨b,o,none⟩ v={ w with heap:=(w.setCell ⟨b,o,none⟩ v).heap }:=by
   unfold World.setCell
   simp_all
  rw[ih];rw[h]
def dQ(w W:World)(b:Nat):World:=match w.heap[b]? with|some x=>{ W with heap:=W.heap.setIfInBounds b x } |none=>W
theorem jF{w W:World}{b k:Nat}(h:k≠b):(dQ w W b).heap[k]?=W.heap[k]?:=by
 unfold dQ;split
 ·simp[Ne.symm h]
 ·rfl
theorem l9{w W:World}{b:Nat}(h:b<W.heap.size)(h2:b<w.heap.size):(dQ w W b).heap[b]?=w.heap[b]?:=by
 unfold dQ
 simp_all
theorem gP{w W:World}{b:Nat}:(dQ w W b).heap.size=W.heap.size:=by
 unfold dQ
 grind
theorem mu{w W:World}{b:Nat}:(dQ w W b).os=W.os/\(dQ w W b).tape=W.tape/\(dQ w W b).output=W.output/\(dQ w W b).drawn=W.drawn:=by
 unfold dQ
 grind
theorem m6{w W:World}{b o:Nat}{vs:List Value}{cur0 cur:Array Value}{e:TypeId}{fz:Nat×Nat}(h0:w.heap[b]?=some (.cells cur0 e fz))(h1:W.heap[b]?=some (.cells cur e fz))(hs:cur.size=cur0.size)
 (Sr:∀j,(j<o\/o+vs.length<=j)->cur[j]?=cur0[j]?)(hin:∀j (h:j<vs.length),cur[o+j]?=some vs[j]):(dQ w W b).setCells b o vs=W:=by
 have Pg:=(Array.getElem?_eq_some_iff.1 h1).1;have U4:=(Array.getElem?_eq_some_iff.1 h0).1;rw[qy];obtain⟨r1,r2,r3,r4⟩:=mu (w:=w) (W:=W) (b:=b)
 have Yu:((dQ w W b).setCells b o vs).heap=W.heap:=by
  apply Array.ext_getElem?;intro k;by_cases hk:k=b
  ·subst hk;obtain⟨YN,e1,e2,e3⟩:=oZ k vs o (dQ w W k) ((l9 Pg U4).trans h0);rw[e1,h1];congr 2;apply Array.ext_getElem?;intro j;rw[e3];split
   ·rename_i hj;have:=hin (j-o) (by omega)
    simp_all
   ·rename_i hj;by_cases hjs:j<cur0.size
    ·exact(Sr j (by omega)).symm
    ·simp_all
  ·rw[l7 b vs o _ hk,jF hk]
 simp_all
end
structure xw (H:List TV)(xs:List Value)(w:World)(G:Gh)(A:Nat->Prop)(pr:Nat->Option (Nat×Nat×Nat))(bs:Nat->Nat)(ce:List (Nat×List TV))(ow:Nat->Option Nat):Prop where
 even:∀r b o n,pr r=some (b,o,n)->r%2=0/\0<n
 cells:∀r b o n,pr r=some (b,o,n)->∃l,b6 ce r=some l/\l.length=n/\∀j (h:j<l.length),∃h':bs r+j<H.length,l[j]=H[bs r+j]/\l[j]≠.dead
 only:∀r l,b6 ce r=some l->pr r≠none\/ow r≠none
 owc:∀r j,ow r=some j->r%2=1/\r≠1/\∃(c:List (List TV))(h:j<H.length),b6 ce r=some [.ow c]/\H[j]=.ow c
 owa:∀r j r' b o n,ow r=some j->pr r'=some (b,o,n)->∀j',j'<n->bs r'+j'≠j
 owi:∀r r' j,ow r=some j->ow r'=some j->r=r'
 apart:∀r b o n r' b' o' n',pr r=some (b,o,n)->pr r'=some (b',o',n')->∀j j',j<n->j'<n'->bs r+j=bs r'+j'->r=r'
 inj:∀r b o n r' o' n',pr r=some (b,o,n)->pr r'=some (b,o',n')->r=r'
 notF:∀r b o n,pr r=some (b,o,n)->¬G.F A b
 notH:∀r b o n,pr r=some (b,o,n)->∀j,¬G.φ 1 j b
 here:∀r b o n,pr r=some (b,o,n)->∀j,j<n->w.cell? ⟨b,o+j,none⟩=some (xs.getD (bs r+j) undef)/\w.frozen? ⟨b,o+j,none⟩=false
def Fm.into(M:Fm)(w:World)(G:Gh)(pr:Nat->Option (Nat×Nat×Nat))(N:Nat):Fm where
 w0:=w
 A:=λk=>G.F M.A k\/(∃j,G.φ 1 j k)\/w.heap.size<=k
 W0:=λk=>∃j,G.φ 1 j k
 pr:=pr
 N:=N
 hA:=λk h=>.inr (.inr h)
def Gh.into(G:Gh)(pr:Nat->Option (Nat×Nat×Nat))(bs:Nat->Nat)(ow:Nat->Option Nat)(xs:List Value):Gh:=
 ⟨pr,λr _=>match ow r with|some j=>xs.getD j undef|none=>undef,λr o k=>(∃b o0 n,pr r=some (b,o0,n)/\o<n/\G.φ 1 (bs r+o) k)\/∃j,ow r=some j/\o=0/\G.φ 1 j k⟩
theorem eJ{G:Gh}{pr:Nat->Option (Nat×Nat×Nat)}{bs:Nat->Nat}{ow:Nat->Option Nat}{xs:List Value}{r o k:Nat}(h:(G.into pr bs ow xs).φ r o k):∃j,G.φ 1 j k:=by
 rcases h with⟨_,_,_,_,_,h⟩|⟨_,_,_,h⟩<;>exact⟨_,h⟩
section
variable {P:Program} {M:Fm} {σ σ':St} {H:List TV} {xs:List Value} {ts:Array Value} {w:World} {G:Gh}
variable {pr:Nat->Option (Nat×Nat×Nat)} {bs:Nat->Nat} {ce:List (Nat×List TV)} {ow:Nat->Option Nat}
theorem xw.F(hh:xw H xs w G M.A pr bs ce ow){N k:Nat}(h:G.F M.A k):(G.into pr bs ow xs).F (M.into w G pr N).A k:=
 ⟨.inl h,λr o hφ=>by have ⟨j,h3⟩:=eJ hφ;exact h.2.1 _ _ h3,λr b o n hb e=>hh.notF r b o n hb (e▸h)⟩
theorem jO{w:World}{b o:Nat}{v:Value}(h:w.cell? ⟨b,o,none⟩=some v):∃cur e fz,w.heap[b]?=some (.cells cur e fz)/\o<cur.size/\cur[o]?=some v:=by
 unfold World.cell? at h;split at h
 ·rename_i cur e fz hb
  grind
 ·simp at h
theorem Inv.enter(hI:Inv M σ H xs ts w G)(hh:xw H xs w G M.A pr bs ce ow){tm:List (Nat×TV)}{X4:Array Value}{N:Nat}(hN:X4.size=N)
 (ht:∀i,TmR w ((G.into pr bs ow xs).F (M.into w G pr N).A) (λ_=>0) (b8 (M.into w G pr N) ⟨tm,ce,[]⟩ []) (G.into pr bs ow xs) ((b6 tm i).getD .dead) (X4.getD i undef)):
 Inv (M.into w G pr N) ⟨tm,ce,[]⟩ [] [] X4 w (G.into pr bs ow xs):=by
 have X5:∀r b o n,pr r=some (b,o,n)->r≠1:=λr b o n h e=>by have:=(hh.even r b o n h).1;omega
 have YQ:∀r b o n,pr r=some (b,o,n)->ow r=none:=λr b o n h=>by
  cases e:ow r with
  |none=>rfl
  |some j=>have:=(hh.even r b o n h).1;have:=(hh.owc r j e).1;omega
 have hne:∀r l,b6 ce r=some l->r≠1:=by
  intro r l h;rcases hh.only r l h with h1|h1
  ·cases hp:pr r with
   |none=>exact absurd hp h1
   |some x=>exact X5 r _ _ _ hp
  ·cases hp:ow r with
   |none=>exact absurd hp h1
   |some j=>exact(hh.owc r j hp).2.1
 have hcell:∀r o,b8 (M.into w G pr N) ⟨tm,ce,[]⟩ [] r o=match b6 ce r with|some l=>l.getD o .dead|none=>.dead:=by
  intro r o;unfold b8;split
  ·rename_i e
   cases hc:b6 ce r with
   |none=>simp
   |some l=>exact absurd e (hne r l hc)
  ·rfl
 refine⟨⟨λr o=>?_,λr b o0 n hb=>?_,λr b o0 n hb o ho=>?_,λr r' b o n o' n' h1 h2=>hh.inj r b o n r' o' n' h1 h2,λr b o n hb r' o' hφ=>by obtain⟨j,h3⟩:=eJ hφ;exact hh.notH r b o n hb _ h3,λr1 o1 r2 o2 k Ys XE=>?_,λr o k hφ=>.inr (.inl (eJ hφ))⟩,ht,?_,λr l h=>hne r l h,hN,rfl,λj hj=>by simp at hj,λr b o n hb l hl=>?_⟩
 ·rw[hcell]
  cases hc:b6 ce r with
  |none=>
   left;refine⟨rfl,λk hk=>?_⟩
   rcases hk with⟨b1,p1,n1,h1,h2,h3⟩|⟨j,h1,_⟩
   ·obtain⟨l,h4,_⟩:=hh.cells r _ _ _ h1;rw[hc]at h4;simp at h4
   ·obtain⟨_,_,c,_,h4,_⟩:=hh.owc r j h1;rw[hc]at h4;simp at h4
  |some l=>
   cases hp:pr r with
   |none=>
    obtain⟨j,hj⟩:∃j,ow r=some j:=by
     rcases hh.only r l hc with h1|h1
     ·exact absurd hp h1
     ·cases e:ow r with
      |none=>exact absurd e h1
      |some j=>exact⟨j,rfl⟩
    obtain⟨_,_,c,hjl,h4,h5⟩:=hh.owc r j hj;rw[hc]at h4
    injection h4 with h4
    subst h4
    cases o with
    |zero=>
     right;have hown:=hI.hand_own hjl (by rw[h5];simp)
     have hval:(G.into pr bs ow xs).val w r 0=xs.getD j undef:=by
      unfold Gh.val Gh.into;simp only[hp,hj]
     rw[hval];simp only[List.getD_cons_zero];rw[h5]at hown;refine(hown.frame (λ_ _=>rfl) (λ_ _ _=>rfl) λk hk _=>hh.F hk).refp λk=>?_;constructor
     ·intro hk;exact .inr ⟨j,hj,rfl,hk⟩
     ·rintro(⟨b1,p1,n1,h1,_,_⟩|⟨j',h1,_,hk⟩)
      ·rw[hp]at h1;simp at h1
      ·rw[hj]at h1;injection h1 with h1;rw[h1];exact hk
    |succ o=>
     left;refine⟨by simp,λk hk=>?_⟩
     rcases hk with⟨b1,p1,n1,h1,_,_⟩|⟨j',_,h1,_⟩
     ·rw[hp]at h1;simp at h1
     ·omega
   |some x=>
    obtain⟨b,o0,n⟩:=x;obtain⟨l',h4,h5,h6⟩:=hh.cells r _ _ _ hp;rw[hc]at h4
    injection h4 with h4
    subst h4;by_cases ho:o<l.length
    ·right;obtain⟨h7,h8,h9⟩:=h6 o ho;have hown:=hI.hand_own h7 (by rw[<- h8];exact h9)
     have hval:(G.into pr bs ow xs).val w r o=xs.getD (bs r+o) undef:=by
      unfold Gh.val Gh.into;simp only[hp];rw[(hh.here r _ _ _ hp o (by omega)).1];rfl
     rw[hval]
     have e:l.getD o .dead=l[o]:=by simp[ho]
     simp only[e];rw[h8];refine(hown.frame (λ_ _=>rfl) (λ_ _ _=>rfl) λk hk _=>hh.F hk).refp λk=>?_;constructor
     ·intro hk;exact .inl ⟨b,o0,n,hp,by omega,hk⟩
     ·rintro(⟨_,_,_,_,_,hk⟩|⟨j',h1,_,_⟩)
      ·exact hk
      ·rw[YQ r _ _ _ hp]at h1;simp at h1
    ·left;refine⟨by simp only[];rw[oGD,oGN (by omega)];rfl,λk hk=>?_⟩
     rcases hk with⟨b1,p1,n1,h1,h2,h3⟩|⟨j',h1,_,_⟩
     ·rw[hp]at h1
      injection h1 with h1
      injection h1 with _ h1
      injection h1 with _ h1
      omega
     ·rw[YQ r _ _ _ hp]at h1;simp at h1
 ·have hn:=(hh.even r _ _ _ hb).2;have YS:pr r=some (b,o0,n):=hb;obtain⟨cur,e,fz,h1,h2,h3⟩:=jO (hh.here r _ _ _ YS (n-1) (by omega)).1;exact⟨cur,e,fz,h1,by omega,λj hj=>(hh.here r _ _ _ YS j hj).2⟩
 ·have YS:pr r=some (b,o0,n):=hb;rw[hcell];obtain⟨l,h1,h2,_⟩:=hh.cells r _ _ _ YS;rw[h1];show l.getD o .dead=.dead;rw[oGD,oGN (by omega)];rfl
 ·rcases Ys with⟨b1,p1,n1,h1,h2,h3⟩|⟨j1,h1,h2,h3⟩<;>rcases XE with⟨b2,p2,n2,k1,k2,k3⟩|⟨j2,k1,k2,k3⟩
  ·obtain⟨_,h5⟩:=hI.core.dis _ _ _ _ k h3 k3;have:=hh.apart _ _ _ _ _ _ _ _ h1 k1 _ _ h2 k2 h5;subst this;exact⟨rfl,by omega⟩
  ·obtain⟨_,h5⟩:=hI.core.dis _ _ _ _ k h3 k3;exact absurd h5 (hh.owa _ _ _ _ _ _ k1 h1 _ h2)
  ·obtain⟨_,h5⟩:=hI.core.dis _ _ _ _ k h3 k3;exact absurd h5.symm (hh.owa _ _ _ _ _ _ h1 k1 _ k2)
  ·obtain⟨_,h5⟩:=hI.core.dis _ _ _ _ k h3 k3;subst h5;exact⟨hh.owi _ _ _ h1 k1,by omega⟩
 ·refine⟨rfl,rfl,rfl,Nat.le_refl _,λ_ _ _ _=>rfl,λr b o n hp=>⟨hp,?_⟩,λr o k hφ=>.inl (eJ hφ),λr b o n hb=>.inl hb,λr hb=>?_⟩
  ·have hn:=(hh.even r _ _ _ hp).2;obtain⟨cur,e,fz,h1,h2,h3⟩:=jO (hh.here r _ _ _ hp (n-1) (by omega)).1;exact⟨cur,cur,e,fz,h1,h1,rfl,λ_ _=>rfl⟩
  ·cases hp:pr r with
   |none=>exact absurd hp hb
   |some x=>exact(hh.even r _ _ _ hp).1
 ·obtain⟨l',h1,h2,_⟩:=hh.cells r _ _ _ hb;have Yz:b6 ce r=some l:=hl;rw[Yz]at h1
  injection h1 with h1
  rw[h1];exact h2
end
structure B3 (H2:List TV)(ys:List Value)(H':List TV)(xs':List Value)(C2:Cs)(G2:Gh)(w2:World)(pr:Nat->Option (Nat×Nat×Nat))(bs:Nat->Nat):Prop where
 len:H'.length=xs'.length
 low:∀j (h:j<H2.length),∃h':j<H'.length,H'[j]=H2[j]/\xs'.getD j undef=ys.getD j undef
 cells:∀r b o n,pr r=some (b,o,n)->∀t,t<n->∃h:bs r+t<H'.length,H2.length<=bs r+t/\H'[bs r+t]=C2 r t/\xs'.getD (bs r+t) undef=G2.val w2 r t
 cover:∀j,j<H'.length->j<H2.length\/∃r b o n t,pr r=some (b,o,n)/\t<n/\j=bs r+t
 apart:∀r b o n r' b' o' n',pr r=some (b,o,n)->pr r'=some (b',o',n')->∀j j',j<n->j'<n'->bs r+j=bs r'+j'->r=r'
section
variable {P:Program} {M:Fm} {σ σ2:St} {H H2 H':List TV} {xs ys xs':List Value} {ts ts2:Array Value} {w w2 w':World} {G G2:Gh}
variable {pr:Nat->Option (Nat×Nat×Nat)} {bs bs2:Nat->Nat} {ce:List (Nat×List TV)} {N:Nat} {ow:Nat->Option Nat}
theorem Inv.leave(hI:Inv M σ H xs ts w G)(hh:xw H xs w G M.A pr bs ce ow)(h2:Inv (M.into w G pr N) σ2 H2 ys ts2 w2 G2)(Z0:B3 H2 ys H' xs' (b8 (M.into w G pr N) σ2 H2) G2 w2 pr bs2)
 (hs:w'.heap.size=w2.heap.size)(ho:w'.os=w2.os)(PZ:w'.tape=w2.tape)(hu:w'.output=w2.output)(YZ:∀k,(∀r b o n,pr r=some (b,o,n)->k≠b)->w'.heap[k]?=w2.heap[k]?)
 (XN:∀r b o n,pr r=some (b,o,n)->w'.heap[b]?=w.heap[b]?):∃G',Inv M σ H' xs' ts w' G'/\eZ M w σ H G w' σ H' G'/\G'.β=G.β:=by
 have Xn:=h2.fram
 let f:Nat->Nat->Prop:=λj k=>(j<H2.length/\G2.φ 1 j k)\/∃r b o n t,pr r=some (b,o,n)/\t<n/\j=bs2 r+t/\G2.φ r t k
 have hfφ:∀j k,f j k->∃r o,G2.φ r o k:=by
  rintro j k (⟨_,h⟩|⟨r,b,o,n,t,_,_,_,h⟩)
  ·exact⟨_,_,h⟩
  ·exact⟨_,_,h⟩
 have hβ2:=λr b o n h=>(Xn.par r b o n h).1
 have Z6:∀r b o n,pr r=some (b,o,n)->r≠1:=λr b o n h e=>by have:=(hh.even r b o n h).1;omega
 have hφw:∀r o k,G2.φ r o k->w'.heap[k]?=w2.heap[k]?:=λr o k h=>YZ k λr' b o' n hp e=>h2.core.boxf r' b o' n (hβ2 _ _ _ _ hp) _ _ (e▸h);have Yf:∀k,G2.F (M.into w G pr N).A k->w'.heap[k]?=w2.heap[k]?:=λk h=>YZ k λr' b o' n hp e=>h.2.2 r' b o' n (hβ2 _ _ _ _ hp) e
 obtain⟨G',a1,a2,a3,_⟩:=hI.rehandL (w':=w') (H':=H') (xs':=xs') (f:=f) (Fx:=G2.F (M.into w G pr N).A)
  (λk hk hn=>by
   by_cases hp:∃r b o n,pr r=some (b,o,n)/\k=b
   ·obtain⟨r,b,o,n,hp,rfl⟩:=hp;exact XN r k o n hp
   ·have hp':∀r b o n,pr r=some (b,o,n)->k≠b:=λr b o n h e=>hp ⟨r,b,o,n,h,e⟩;rw[YZ k hp']
    exact Xn.old k hk (λ⟨j,hj⟩=>hn j hj) hp')
  (by rw[hs];exact Xn.size) (ho.trans Xn.os) (PZ.trans Xn.tape) (hu.trans Xn.output) Z0.len
  (λj k h=>by
   refine⟨?_,?_⟩
   ·rcases h with⟨h,_⟩|⟨r,b,o,n,t,hp,ht,rfl,_⟩
    ·exact(Z0.low j h).1
    ·exact(Z0.cells r b o n hp t ht).1
   ·obtain⟨r,o,hφ⟩:=hfφ j k h
    exact Xn.own r o k hφ)
  (λj j' k h h'=>by
   rcases h with⟨h1,h3⟩|⟨r,b,o,n,t,hp,ht,rfl,h3⟩
   ·rcases h' with⟨k1,k3⟩|⟨r',b',o',n',t',hp',YM,rfl,k3⟩
    ·exact(h2.core.dis _ _ _ _ k h3 k3).2
    ·exact absurd (h2.core.dis _ _ _ _ k h3 k3).1.symm (Z6 _ _ _ _ hp')
   ·rcases h' with⟨k1,k3⟩|⟨r',b',o',n',t',hp',YM,rfl,k3⟩
    ·exact absurd (h2.core.dis _ _ _ _ k h3 k3).1 (Z6 _ _ _ _ hp)
    ·obtain⟨e1,e2⟩:=h2.core.dis _ _ _ _ k h3 k3
     rw[e1,e2])
  (λk h=>⟨h.1,λj hf=>by obtain⟨r,o,hφ⟩:=hfφ j k hf;exact h.2.1 r o hφ⟩)
  (λj hj=>by
   rcases Z0.cover j hj with h|⟨r,b,o,n,t,hp,ht,rfl⟩
   ·obtain⟨_,e1,e2⟩:=Z0.low j h
    have YQ:∀k,f j k↔G2.φ 1 j k:=λk=>by
     constructor
     ·rintro(⟨_,h⟩|⟨r,b,o,n,t,hp,ht,e,_⟩)
      ·exact h
      ·have:=(Z0.cells r b o n hp t ht).2.1;omega
     ·exact λhk=>.inl ⟨h,hk⟩
    by_cases hd:H2[j]=.dead
    ·left;refine⟨e1.trans hd,λk hk=>?_⟩;refine h2.phi_dead (r:=1) (o:=j) ?_ k ((YQ k).1 hk);rw[show(1:Nat)=(M.into w G pr N).hr from rfl,gy];simp[h,hd]
    ·right;have:=h2.hand_own h hd;rw[e1,e2];exact(this.frame (λk hk=>hφw _ _ k hk) (λk hk _=>Yf k hk) λk hk _=>hk).refp λk=>(YQ k).symm
   ·obtain⟨h1,h3,h4,h5⟩:=Z0.cells r b o n hp t ht
    have YQ:∀k,f (bs2 r+t) k↔G2.φ r t k:=λk=>by
     constructor
     ·rintro(⟨h,_⟩|⟨r',b',o',n',t',hp',YM,e,hk⟩)
      ·omega
      ·have:=Z0.apart _ _ _ _ _ _ _ _ hp hp' _ _ ht YM e
       simp_all
     ·exact λhk=>.inr ⟨r,b,o,n,t,hp,ht,rfl,hk⟩
    rw[h4,h5]
    rcases h2.core.cell r t with⟨c1,c2⟩|c1
    ·left;exact⟨c1,λk hk=>c2 k ((YQ k).1 hk)⟩
    ·right
     exact(c1.frame (λk hk=>hφw _ _ k hk) (λk hk _=>Yf k hk) λk hk _=>hk).refp λk=>(YQ k).symm)
 exact⟨G',a1,a2,a3⟩
end
def jS:TV->Bool
 |.v _=>true
 |.sl _=>true
 |.ip _=>true
 |.ow []=>true
 |.fn _ l=>l.all um
 |.agg l=>l.all λt=>match t with|.v _=>true|.sl _=>true|_=>false
 |_=>false
def EF:TV->Bool
 |.pk _ _=>true
 |.ow []=>true
 |_=>false
def argV(x:Option Nat×Opd):SP TV:=(opd x.2).bind λt=>if x.1==some 0&&EF t then .ret t else match t with
 |.ip cs=>.ret (.ip cs)
 |.fn f cap=>.ret (.fn f cap)
 |.ptr p vs=>.ret (.ptr p vs)
 |t=>(takeV false t).bind λl=>.ret (i7 l.2 (l.1.map TV.imm))
def argVs:List (Option Nat×Opd)->SP (List TV)
 | []=>.ret []
 |x::r=>(argV x).bind λt=>(argVs r).bind λl=>.ret (t::l)
def takeOwns:Nat->List (Option Nat×TV)->SP (List (Nat×TV))
 |_,[]=>.ret []
 |i,(some 0,.pk p vs)::r=>(take1 true (.pk p vs)).bind λt=>if gD t then(takeOwns (i+1) r).bind λq=>.ret ((i,t)::q)else .fail
 |i,_::r=>takeOwns (i+1) r
structure GP where
 i:Nat
 p:bQ
 vs:List Nat
 cells:List TV
def sT(p:bQ):Nat->SP (List TV)
 |0=>.ret []
 |n+1=>(getPl p).bind λt=>(peek1 p t).bind λt'=>(take1 true t').bind λt2=>match n with
  |0=>.ret [t2]
  |_=>if p.fits 1 then(sT (p.add 1) n).bind λr=>.ret (t2::r)else .fail
def bQ.base(p:bQ):bQ:=⟨p.root,p.off,[]⟩
def Dl(p:bQ)(n:Nat):Nat:=match p.hops with
 | []=>n
 |_::_=>1
def rooted(p:bQ):SP Unit:=match p.hops with
 | []=>.ret ()
 |_::_=>.rdT ((p.root-2)/2) λt=>match t with
  |.ptr q ws=>if q.root==p.root&&q.hops.isEmpty then chk q 0 ws else .fail
  |_=>.fail
def grabs:Nat->List (Option Nat×TV)->SP (List GP)
 |_,[]=>.ret []
 |i,(some n,.ptr p vs)::r=>(chk p p.hops.length vs).bind λ_=>(rooted p).bind λ_=>(sT p.base (Dl p n)).bind λl=>(grabs (i+1) r).bind λq=>.ret (⟨i,p.base,vs.take 1,l⟩::q)
 |i,(some 0,.pk _ _)::r=>grabs (i+1) r
 |i,(_,t)::r=>if jS t then grabs (i+1) r else .fail
def touch(p:bQ):SP Unit:=.rdC p.root p.off λtv=>.wrC p.root p.off tv (.ret ())
def rechk:List GP->SP Unit
 | []=>.ret ()
 |g::r=>(chk g.p g.p.hops.length g.vs).bind λ_=>(touch g.p).bind λ_=>rechk r
def gR:List Nat->Bool
 | []=>true
 |x::r=>!r.contains x&&gR r
def argT(i:Nat):TV->TV
 |.ptr p _=>.ptr ⟨2*i+2,0,p.hops⟩ (List.replicate (p.hops.length+1) 0)
 |.pk _ _=>.pk ⟨2*i+3,0,[]⟩ [0,0]
 |t=>t
def argTs:Nat->List TV->List TV
 |_,[]=>[]
 |i,t::r=>argT i t::argTs (i+1) r
def dp{α:Type}:Nat->List α->List (Nat×α)
 |_,[]=>[]
 |i,t::r=>(i,t)::dp (i+1) r
def mkSt(vals:List TV)(pts:Pts):St:=⟨dp 0 vals,pts,[]⟩
def vv:TV->Bool
 |.dead=>true
 |_=>false
def putBack:List (GP×List TV)->SP Unit
 | []=>.ret ()
 |(g,l)::r=>(putBack r).bind λ_=>if l.length=g.cells.length&&l.all λt=>!vv t then putL g.p l else .fail
def eG:List RSh->List TV->List TV
 | [],_=>[]
 |.one::r,l=>l.headD .dead::eG r l.tail
 |.agg n::r,l=>.agg (l.take n)::eG r (l.drop n)
 |.ptr::r,l=>.dead::eG r l
def lb(sh:List RSh)(l:List TV):TV:=
 match eG sh l with
 | [x]=>x
 |l=>.tup l
def jk:List RSh->Nat->Bool
 | [],n=>n==0
 |.one::r,n=>decide (0<n)&&jk r (n-1)
 |.agg m::r,n=>decide (m<=n)&&jk r (n-m)
 |.ptr::_,_=>false
def landR(dst:Option Nat)(res:uP):SP Unit:=
 match dst with
 |some d=>(names d res.cells).bind λl=>wr d (lb res.sh l)
 |none=>.ret ()
def isP(r:uP):Bool:=match r.sh,r.cells with
 |.ptr::_,.ptr _ _::_=>true
 |_,_=>false
def landP(dst:Option Nat)(q:List GP)(cells:List TV):SP Unit:=
 match dst with
 |none=>.ret ()
 |some d=>match cells,q with
  |.ptr pl _::l,[g]=>if pl.root==2*g.i+2&&g.p.hops.isEmpty then(rdVs (jp g.p.root (g.p.off+pl.off) pl.hops.length)).bind λvs=>wr d (vf (.ptr ⟨g.p.root,g.p.off+pl.off,pl.hops⟩ vs) l)else .fail
  |_,_=>.fail
def callV(F:cM)(dst:Option Nat)(f:FuncId)(ns:List (Option Nat))(vals:List TV):SP Unit:=
 (takeOwns 0 (ns.zip vals)).bind λow=>(grabs 0 (ns.zip vals)).bind λq=>(rechk q).bind λ_=>
  if gR (q.map (·.p.root))&&q.all (λg=>decide (0<g.cells.length))then
   (fb (F f (argTs 0 vals) (q.map (λg=>(2*g.i+2,g.cells))++ow.map λx=>(2*x.1+3,[x.2])))).bind λr=>
    if r.2.map (·.1)=q.map (λg=>2*g.i+2)++ow.map (λx=>2*x.1+3)&&(isP r.1||jk r.1.sh r.1.cells.length)then(putBack (q.zip (r.2.map (·.2)))).bind λ_=>if isP r.1 then landP dst q r.1.cells else landR dst r.1 else .fail
  else .fail
inductive BxC where
 |arg (i:Nat)
 |val (x:Value)
structure Env where
 box:FuncId->Option (Nat×List BxC)
 ps:FuncId->List (Option Nat)
def bxT(vals:List TV):BxC->TV
 |.arg i=>vals.getD i .dead
 |.val x=>.v x
def bxV(asq:List Value):BxC->Value
 |.arg i=>asq.getD i undef
 |.val x=>x
def evBox(dst:Option Nat)(tm:List BxC)(vals:List TV):SP Unit:=
 match dst with
 |some d=>(takeL false (tm.map (bxT vals))).bind λl=>.new (2*d+2) l (.rdV (2*d+2,0,0) λg=>wr d (.ptr ⟨2*d+2,0,[]⟩ [g]))
 |none=>.fail
def Bp(E:Env)(f:FuncId)(n m:Nat):List (Option Nat):=(List.range m).map λk=>(E.ps f).getD (n+k) none
def see1:TV->SP TV
 |.v x=>.ret (.v x)
 |.sl c=>.ret (.sl c)
 |.ow []=>.ret (.sl [])
 |.pk p vs=>(chk p (p.hops.length+1) vs).bind λ_=>.rdC p.root p.off λtv=>match bY tv p.hops with|some (.ow c)=>.ret (TV.ow c).imm|_=>.fail
 |_=>.fail
def seeL:List TV->SP (List TV)
 | []=>.ret []
 |t::r=>(see1 t).bind λt'=>(seeL r).bind λl=>.ret (t'::l)
def seeA:TV->SP TV
 |.agg l=>(seeL l).bind λl'=>.ret (.agg l')
 |.ip cs=>.ret (.ip cs)
 |.fn f cap=>if cap.all um then .ret (.fn f cap)else .fail
 |t=>see1 t
def seeAs:List Opd->SP (List TV)
 | []=>.ret []
 |x::r=>(opd x).bind λt=>(seeA t).bind λt'=>(seeAs r).bind λl=>.ret (t'::l)
def callB(F:cM)(dst:Option Nat)(f:FuncId)(vals:List TV):SP Unit:=
 (fb (F f vals [])).bind λr=>if r.2.length=0&&r.1.cells.all tD&&jk r.1.sh r.1.cells.length then(match dst with|some d=>wr d (lb r.1.sh r.1.cells)|none=>.ret ())else .fail
def evCall(E:Env)(F:cM)(dst:Option Nat):TOp->SP Unit
 |.call k (.f f) args=>
  if k then(argVs args).bind λvals=>match E.box f with
   |some x=>if vals.length=x.1 then evBox dst x.2 vals else .fail
   |none=>callV F dst f (args.map (·.1)) vals
  else(seeAs (args.map (·.2))).bind λvals=>callB F dst f vals
 |.call _ (.t i) args=>.rdT i λt=>match t with
  |.fn f caps=>(argVs args).bind λvals=>callV F dst f (args.map (·.1)++Bp E f args.length caps.length) (vals++caps)
  |_=>.fail
 |_=>.fail
section
variable {P:Program} {M:Fm} {σ σ':St} {H:List TV} {xs:List Value} {ts:Array Value} {w:World} {G:Gh} {a:Act} {o:Oper}
theorem Dp(hI:Inv M σ [] [] a.tmps w G){x:Option Nat×Opd}{x':Operand}(hx:bJ x'=some x.2){t:TV}(hr:(argV x).run σ=some (t,σ')):
 ∃G',gc M w a.tmps σ [] G σ' [] [] G'/\TmR w (G'.F M.A) σ'.v (b8 M σ' []) G' t (a.eval x'):=by
 unfold argV at hr;obtain⟨t0,σ1,h1,h2⟩:=bG hr;obtain⟨rfl,ht⟩:=cr hI.tmr hx h1
 have VX:∀(l:List TV×Bool)(σ2:St),(takeV false t0).run σ1=some (l,σ2)->t=i7 l.2 (l.1.map TV.imm)->σ'=σ2->∃G',gc M w a.tmps σ1 [] G σ' [] [] G'/\TmR w (G'.F M.A) σ'.v (b8 M σ' []) G' t (a.eval x'):=by
  rintro l σ2 h3 rfl rfl;obtain⟨xs,G1,hg,hsh,hok,ZJ⟩:=uV hI ht h3;obtain⟨G2,ZM,ZR⟩:=hg.1.dropImm (mn hok);refine⟨G2,hg.trans ZM,?_⟩;have hlen:=hg.1.hand
  rcases hsh with⟨e1,e2⟩|⟨e1,y,e2,e3⟩
  ·rw[e1,e2];simp only[i7,if_true];refine .agg (by simp[hlen]) λj hj=>?_
   have ZY:j<l.1.length:=by simpa using hj
   have:=ZR j ZY;simp only[List.getElem_map]
   have e:xs.toArray.getD j undef=xs.getD j undef:=by simp
   rw[e];exact this.toTm
  ·rw[e1,e3];subst e2
   have Vc:l.1.length=1:=by simpa using hlen
   obtain⟨t1,Wi⟩:∃t1,l.1=[t1]:=List.length_eq_one_iff.1 Vc;have:=ZR 0 (by omega);simp only[Wi,List.getElem_cons_zero,List.getD_cons_zero]at this;simp only[Wi,i7,List.map_cons,List.map_nil,List.headD_cons];exact this.toTm
 have Yc:t=t0->σ'=σ1->∃G',gc M w a.tmps σ1 [] G σ' [] [] G'/\TmR w (G'.F M.A) σ'.v (b8 M σ' []) G' t (a.eval x'):=by
  rintro rfl rfl;exact⟨G,gc.refl hI,ht⟩
 split at h2
 ·simp only[SP.run,oSJ,oPJ]at h2;exact Yc h2.1.symm h2.2.symm
 cases t0 with
 |ip cs=>
  simp only[SP.run,oSJ,oPJ]at h2;exact Yc h2.1.symm h2.2.symm
 |fn f cap=>
  simp only[SP.run,oSJ,oPJ]at h2;exact Yc h2.1.symm h2.2.symm
 |ptr p vs=>
  simp only[SP.run,oSJ,oPJ]at h2;exact Yc h2.1.symm h2.2.symm
 |_=>
  simp only at h2;obtain⟨l,σ2,h3,h4⟩:=bG h2;simp only[SP.run,oSJ,oPJ]at h4;exact VX l σ2 h3 h4.1.symm h4.2.symm
theorem vY:∀{l:List (Option Nat×Opd)}{l':List Operand}{X4:List TV}{σ σ':St}{G:Gh},Inv M σ [] [] a.tmps w G->l'.length=l.length->(∀j (h:j<l.length)(h':j<l'.length),bJ l'[j]=some l[j].2)->(argVs l).run σ=some (X4,σ')->
 ∃G',gc M w a.tmps σ [] G σ' [] [] G'/\X4.length=l.length/\∀j (h:j<X4.length)(h':j<l'.length),TmR w (G'.F M.A) σ'.v (b8 M σ' []) G' X4[j] (a.eval l'[j]):=by
 intro l
 induction l with
 |nil=>
  intro l' X4 σ σ' G hI hl hc hr;obtain⟨rfl,rfl⟩:=hr;exact⟨G,gc.refl hI,rfl,λj h=>by simp at h⟩
 |cons x l ih=>
  intro l' X4 σ σ' G hI hl hc hr
  cases l' with
  |nil=>simp at hl
  |cons x' l'=>
   simp only[argVs]at hr;obtain⟨t,σ1,h1,h2⟩:=bG hr;obtain⟨r,σ2,h3,h4⟩:=bG h2;obtain⟨rfl,rfl⟩:=h4;obtain⟨G1,ZN,Wi⟩:=Dp hI (by have:=hc 0 (by simp) (by simp);simpa using this) h1;obtain⟨G2,ZM,e,SI⟩:=ih (l':=l') ZN.1 (by simpa using hl) (λj h h'=>by have:=hc (j+1) (by simpa using h) (by simp_all);simpa using this) h3;refine⟨G2,ZN.trans ZM,by simp[e],λj h h'=>?_⟩
   cases j with
   |zero=>exact ZM.tm Wi
   |succ j=>exact SI j (by simpa using h) (by simp_all)
end
section
variable {P:Program} {M:Fm} {σ σ':St} {H:List TV} {xs:List Value} {ts:Array Value} {w:World} {G:Gh} {a:Act} {o:Oper}
theorem wj{t t' t2:TV}{p:bQ}{y:TV×St}(hp:(peek1 p t).run σ=some (t',σ'))(hr:(take1 true t').run σ=some y):eK y.2.v p.root p.off p.hops.length=eK σ.v p.root p.off p.hops.length:=by
 cases t with
 |v x=>
  obtain⟨rfl,rfl⟩:=hp;simp only[take1,SP.run,oSJ]at hr;rw[<- hr]
 |sl c=>
  obtain⟨rfl,rfl⟩:=hp;simp only[take1,SP.run,oSJ]at hr;rw[<- hr]
 |ow c=>
  simp only[peek1]at hp;obtain⟨vs,σ1,h1,h2⟩:=bG hp;obtain⟨rfl,_⟩:=h2;obtain⟨_,σ2,h3,h4⟩:=bG hr;have e1:σ2=σ:=(bS h3).1;subst e1;simp only[SP.run]at h4;split at h4
  ·simp only[if_true]at h4;obtain⟨l,hl,ho,h5⟩:=b7 h4;simp only[SP.run,oSJ]at h5;rw[fk]
   have hv:∀q,y.2.v q=σ2.v q+if(p.root,p.off,p.hops.length+1)=q then 1 else 0:=λq=>by rw[<- h5];exact dx σ2.vr _ q
   refine⟨by simp_all,λd hd=>?_⟩;rw[hv,oIN]
   ·omega
   ·intro e
    simp_all
  ·simp[SP.run]at h4
 |_=>simp[peek1,SP.run]at hp
theorem A6:∀{n:Nat}{p:bQ}{ad:Addr}{l:List TV}{σ σ':St}{H:List TV}{xs:List Value}{G:Gh},Inv M σ H xs ts w G->p.root≠1->G.addr w p=some ad->(sT p n).run σ=some (l,σ')->
 l.length=n/\∃us G',gc M w ts σ H G σ' (H++l) (xs++us) G'/\us.length=n/\(∀j (h:j<us.length),w.cell? ⟨ad.block,ad.off+j,none⟩=some us[j]/\w.frozen? ⟨ad.block,ad.off+j,none⟩=false)/\∀j (h:j<l.length),cy l[j]=true\/gD l[j]=true:=by
 intro n
 induction n with
 |zero=>
  intro p ad l σ σ' H xs G hI h1 ha hr;obtain⟨rfl,rfl⟩:=hr;exact⟨rfl,[],G,by simpa using gc.refl hI,rfl,λj h=>by simp at h,λj h=>by simp at h⟩
 |succ n ih=>
  intro p ad l σ σ' H xs G hI h1 ha hr;simp only[sT]at hr;obtain⟨t,σ1,h2,h3⟩:=bG hr;obtain⟨e1,hg⟩:=cP h2;have e1:σ1=σ:=e1;subst e1;obtain⟨t',σ2,h4,h5⟩:=bG h3;have hd:=jG h4;obtain⟨hB,u,fp,Y7,hown,hv⟩:=hI.named h1 ha hg hd;obtain⟨rfl,YM⟩:=lh hI h1 hg hown hv h4;obtain⟨t2,σ3,h6,h7⟩:=bG h5;have X2:=wj (t2:=t2) h4 h6;obtain⟨G1,ZN,ZJ⟩:=dS hI YM h6
  have Va:bY (b8 M σ2 H p.root p.off) p.hops=some t:=by rw[bZ (by exact h1)];exact hg
  obtain⟨u0,ZH,Zr,Pj,Xs,_⟩:=hI.core.set p hB Va;obtain⟨_,WY,_⟩:=ZN.2.2.1.ptr p ad t h1 X2 ha Va
  have Ze:(⟨ad.block,ad.off+0,none⟩:Addr)=ad:=by obtain⟨b,o,s⟩:=ad;simp only at Zr;subst Zr;rfl
  have hcell:=fm h6
  cases n with
  |zero=>
   obtain⟨rfl,rfl⟩:=h7;refine⟨rfl,[u],G1,ZN,rfl,λj h=>?_,λj h=>?_⟩
   ·obtain rfl:j=0:=by simp at h;omega
    rw[Ze];exact⟨Y7,Xs⟩
   ·obtain rfl:j=0:=by simp at h;omega
    exact hcell
  |succ n=>
   simp only at h7;split at h7
   ·obtain⟨r,σ4,h8,h9⟩:=bG h7;obtain⟨rfl,rfl⟩:=h9;obtain⟨e2,us,G2,ZM,e3,e4,e5⟩:=ih ZN.1 (by rw[cJ];exact h1) (gX 1 WY) h8;refine⟨by simp[e2],u::us,G2,by simpa using ZN.trans ZM,by simp[e3],λj h=>?_,λj h=>?_⟩
    ·cases j with
     |zero=>rw[Ze];exact⟨Y7,Xs⟩
     |succ j=>
      have:=e4 j (by simpa using h);simp only[List.getElem_cons_succ];rw[show ad.off+(j+1)=ad.off+1+j by omega];exact this
    ·cases j with
     |zero=>exact hcell
     |succ j=>exact e5 j (by simpa using h)
   ·simp[SP.run]at h7
theorem w3{r o:Nat}{c:List (List TV)}{l:List TV}(hc:σ.c r o=.ow c)(h:(sT ⟨r,o,[]⟩ 1).run σ=some (l,σ')):l=[.ow c]:=by
 simp only[sT]at h;obtain⟨t,σ1,h1,h2⟩:=bG h;obtain⟨e1,hg⟩:=cP h1;subst e1;simp only[hc,bY,oSJ]at hg;subst hg;obtain⟨t',σ2,h3,h4⟩:=bG h2;obtain⟨vs,σ3,h5,h6⟩:=bG h3;obtain⟨rfl,rfl⟩:=h6;rw[nh]at h5
 injection h5 with h5
 injection h5 with _ h5
 subst h5;obtain⟨t2,σ4,h7,h8⟩:=bG h4;simp only[SP.run,oSJ,oPJ]at h8;rw[<- h8.1];obtain⟨_,σ5,h9,ZS⟩:=bG h7;have e2:σ5=σ1:=(bS h9).1;subst e2;simp only[SP.run,hc,bY,if_true]at ZS;split at ZS
 ·simp_all
 ·cases ZS
theorem yA(hI:Inv M σ H xs ts w G){p:bQ}(h:(rooted p).run σ=some ((),σ')):σ'=σ/\(p.hops≠[]->∃b o n,G.β p.root=some (b,o,n)):=by
 obtain⟨r,o,hops⟩:=p
 cases hops with
 |nil=>
  simp only[rooted,SP.run,oSJ,oPJ,true_and]at h
  simp_all
 |cons hp hs=>
  simp only[rooted,SP.run]at h;have ht:=hI.tmr ((r-2)/2)
  cases hq:σ.t ((r-2)/2)with
  |ptr q ws=>
   rw[hq]at h ht;simp only at h;split at h
   ·rename_i hc;simp at hc;have e1:σ'=σ:=(bS h).1;have e2:=(bS h).2;refine⟨e1,λ_=>?_⟩
    cases ht with
    |ptr V0 h0 hv hok=>
     obtain⟨_,ad,t,ha,_,_⟩:=hok (by rw[hc.2];exact e2);unfold Gh.addr at ha;rw[hc.2]at ha;rw[<- hc.1]
     cases hb:G.β q.root with
     |none=>rw[hb]at ha;simp at ha
     |some y=>obtain⟨b,o,n⟩:=y;exact⟨b,o,n,rfl⟩
   ·simp[SP.run]at h
  |_=>rw[hq]at h;simp[SP.run]at h
inductive mq (w:World):Nat->List TV->List Value->List (GP×Addr)->List Value->Prop
 |nil (i:Nat):mq w i [] [] [] []
 |ptr {i:Nat} {p:bQ} {hp:List Hop} {vs vs0:List Nat} {cells:List TV} {ad ad0:Addr} {u:List Value} {ts:List TV} {xs:List Value} {K:List (GP×Addr)} {us:List Value} (hr:p.root≠1) (hb:p.hops=[]) (hs:ad.spot=none) (h0:hp=[]->ad0=ad)
  (hh:hp≠[]->cj w ((w.cell? ⟨ad.block,ad.off,none⟩).getD undef) hp=some ad0/\∃t,bY (cells.getD 0 .dead) hp=some t)(hu:u.length=cells.length)
  (hc:∀j (h:j<u.length),w.cell? ⟨ad.block,ad.off+j,none⟩=some u[j]/\w.frozen? ⟨ad.block,ad.off+j,none⟩=false)(hok:∀j (h:j<cells.length),cy cells[j]=true\/gD cells[j]=true)
  (h:mq w (i+1) ts xs K us):mq w i (.ptr ⟨p.root,p.off,hp⟩ vs0::ts) (.pointer (some ad0)::xs) ((⟨i,p,vs,cells⟩,ad)::K) (u++us)
 |arg {i:Nat} {t:TV} {x:Value} {ts:List TV} {xs:List Value} {K:List (GP×Addr)} {us:List Value} (ha:jS t=true) (h:mq w (i+1) ts xs K us):mq w i (t::ts) (x::xs) K us
 |own {i:Nat} {p:bQ} {vs:List Nat} {x:Value} {ts:List TV} {xs:List Value} {K:List (GP×Addr)} {us:List Value} (h:mq w (i+1) ts xs K us):mq w i (.pk p vs::ts) (x::xs) K us
inductive z5:Nat->List (Option Nat×TV)->List Value->List (Nat×TV)->List Value->Prop
 |nil (i:Nat):z5 i [] [] [] []
 |own {i:Nat} {p:bQ} {vs:List Nat} {l:List (Option Nat×TV)} {x:Value} {xs:List Value} {c:List (List TV)} {ow:List (Nat×TV)} {zs:List Value} (h:z5 (i+1) l xs ow zs):z5 i ((some 0,.pk p vs)::l) (x::xs) ((i,.ow c)::ow) (x::zs)
 |skip {i:Nat} {y:Option Nat×TV} {l:List (Option Nat×TV)} {x:Value} {xs:List Value} {ow:List (Nat×TV)} {zs:List Value} (h:z5 (i+1) l xs ow zs):z5 i (y::l) (x::xs) ow zs
theorem qp{i:Nat}{y:Option Nat×TV}{l:List (Option Nat×TV)}(hn:∀p vs,y≠(some 0,.pk p vs)):takeOwns i (y::l)=takeOwns (i+1) l:=by
 have ⟨n,t⟩:=y
 cases t with
 |pk p vs=>
  cases n with
  |none=>rfl
  |some n=>
   cases n with
   |zero=>simp_all
   |succ n=>rfl
 |_=>cases n with
  |none=>rfl
  |some n=>cases n<;>rfl
theorem tM:∀{l:List (Option Nat×TV)}{asq:List Value}{i:Nat}{ow:List (Nat×TV)}{σ σ':St}{H:List TV}{xs:List Value}{G:Gh},Inv M σ H xs ts w G->asq.length=l.length->(∀j (h:j<l.length)(h':j<asq.length),TmR w (G.F M.A) σ.v (b8 M σ H) G l[j].2 asq[j])->(takeOwns i l).run σ=some (ow,σ')->
 ∃zs G',gc M w ts σ H G σ' (H++ow.map (·.2)) (xs++zs) G'/\z5 i l asq ow zs/\∀(j:Nat)(p:bQ)(vs:List Nat),l[j]?=some (some 0,TV.pk p vs)->∃x∈ow,x.1=i+j:=by
 intro l
 induction l with
 |nil=>
  intro asq i ow σ σ' H xs G hI hl _ hr;obtain⟨rfl,rfl⟩:=hr;have:asq=[]:=oEN (by simpa using hl);subst this;exact⟨[],G,by simpa using gc.refl hI,.nil i,λj p vs h=>by simp at h⟩
 |cons y l ih=>
  intro asq i ow σ σ' H xs G hI hl ht hr
  cases asq with
  |nil=>simp at hl
  |cons x asq=>
   have UP:=ht 0 (by simp) (by simp);simp only[List.getElem_cons_zero]at UP;by_cases hp:∃p vs,y=(some 0,.pk p vs)
   ·obtain⟨p,vs,rfl⟩:=hp;simp only[takeOwns]at hr;obtain⟨t,σ1,h1,h2⟩:=bG hr;split at h2
    case isFalse=>simp[SP.run]at h2
    rename_i PN;obtain⟨q,σ2,h3,h4⟩:=bG h2;obtain⟨rfl,rfl⟩:=h4
    obtain⟨c,rfl⟩:∃c,t=.ow c:=by cases t<;>simp[gD]at PN;exact⟨_,rfl⟩
    obtain⟨G1,ZN,_⟩:=dS hI UP h1;obtain⟨zs,G2,ZM,k1,k2⟩:=ih (asq:=asq) ZN.1 (by simpa using hl) (λj h h'=>ZN.tm (by have:=ht (j+1) (by simpa using h) (by simpa using h');simpa only [List.getElem_cons_succ]using this)) h3;refine⟨x::zs,G2,by simpa[List.append_assoc]using ZN.trans ZM,.own k1,λj p vs h=>?_⟩
    cases j with
    |zero=>exact⟨_,List.mem_cons_self,rfl⟩
    |succ j=>
     obtain⟨z,h5,h6⟩:=k2 j p vs (by simpa using h);exact⟨z,List.mem_cons_of_mem _ h5,by omega⟩
   ·have hn:=λp vs e=>hp ⟨p,vs,e⟩;rw[qp hn]at hr;obtain⟨zs,G2,ZM,k1,k2⟩:=ih (asq:=asq) hI (by simpa using hl) (λj h h'=>by have:=ht (j+1) (by simpa using h) (by simpa using h');simpa only [List.getElem_cons_succ]using this) hr;refine⟨zs,G2,ZM,.skip k1,λj p vs h=>?_⟩
    cases j with
    |zero=>exact absurd (by simpa using h) (hn p vs)
    |succ j=>
     obtain⟨z,h5,h6⟩:=k2 j p vs (by simpa using h);exact⟨z,h5,by omega⟩
theorem A4:∀{l:List (Option Nat×TV)}{i:Nat}{q:List GP}{σ σ':St},(grabs i l).run σ=some (q,σ')->∀(j:Nat)(n:Option Nat)(p:bQ)(vs:List Nat),l[j]?=some (n,TV.pk p vs)->n=some 0:=by
 intro l
 induction l with
 |nil=>simp_all
 |cons y l ih=>
  intro i q σ σ' hr j n p vs h;obtain⟨m,t⟩:=y
  cases j with
  |zero=>
   simp at h;obtain⟨rfl,rfl⟩:=h
   cases m with
   |none=>simp[grabs,jS,SP.run]at hr
   |some m=>
    cases m with
    |zero=>rfl
    |succ m=>simp[grabs,jS,SP.run]at hr
  |succ j=>
   have hj:l[j]?=some (n,.pk p vs):=by simpa using h
   have step:∀{σ1 σ2:St}{q1:List GP},(grabs (i+1) l).run σ1=some (q1,σ2)->n=some 0:=λh1=>ih h1 j n p vs hj
   have arg:((if jS t then grabs (i+1) l else .fail:SP (List GP))).run σ=some (q,σ')->n=some 0:=by
    intro h1;split at h1
    ·exact step h1
    ·simp[SP.run]at h1
   cases t with
   |ptr p2 To=>
    cases m with
    |none=>exact arg hr
    |some m=>
     obtain⟨_,σ1,h1,h2⟩:=bG hr;obtain⟨_,σ0,_,h2⟩:=bG h2;obtain⟨cells,σ2,h3,h4⟩:=bG h2;obtain⟨q1,σ3,h5,h6⟩:=bG h4;exact step h5
   |pk p2 To=>
    cases m with
    |none=>exact arg hr
    |some m=>
     cases m with
     |zero=>exact step hr
     |succ m=>exact arg hr
   |_=>cases m with
    |none=>exact arg hr
    |some m=>cases m<;>exact arg hr
theorem A5:∀{l:List (Option Nat×TV)}{asq:List Value}{i:Nat}{q:List GP}{σ σ':St}{H:List TV}{xs:List Value}{G:Gh},Inv M σ H xs ts w G->asq.length=l.length->(∀j (h:j<l.length)(h':j<asq.length),TmR w (G.F M.A) σ.v (b8 M σ H) G l[j].2 asq[j])->(grabs i l).run σ=some (q,σ')->
 ∃us G' K,gc M w ts σ H G σ' (H++q.flatMap (·.cells)) (xs++us) G'/\K.map (·.1)=q/\mq w i (l.map (·.2)) asq K us/\∀x∈K,TmR w (G'.F M.A) σ'.v (b8 M σ' (H++q.flatMap (·.cells))) G' (.ptr x.1.p x.1.vs) (.pointer (some x.2)):=by
 intro l
 induction l with
 |nil=>
  intro asq i q σ σ' H xs G hI hl _ hr;obtain⟨rfl,rfl⟩:=hr;have:asq=[]:=oEN (by simpa using hl);subst this;exact⟨[],G,[],by simpa using gc.refl hI,rfl,.nil i,λx hx=>by simp at hx⟩
 |cons x l ih=>
  intro asq i q σ σ' H xs G hI hl ht hr
  cases asq with
  |nil=>simp at hl
  |cons y asq=>
   obtain⟨n,t⟩:=x;have UP:=ht 0 (by simp) (by simp);simp only[List.getElem_cons_zero]at UP
   have ZW:∀{σ1:St}{H1:List TV}{Ql:List Value}{G1:Gh},gc M w ts σ H G σ1 H1 Ql G1->∀j (h:j<l.length)(h':j<asq.length),TmR w (G1.F M.A) σ1.v (b8 M σ1 H1) G1 l[j].2 asq[j]:=λhg j h h'=>
    hg.tm (by have:=ht (j+1) (by simpa using h) (by simpa using h');simpa only [List.getElem_cons_succ]using this)
   have other:(∀p vs,t≠.ptr p vs)->(∀p vs,(n,t)≠(some 0,.pk p vs))->∃us G' K,gc M w ts σ H G σ' (H++q.flatMap (·.cells)) (xs++us) G'/\K.map (·.1)=q/\mq w i (((n,t)::l).map (·.2)) (y::asq) K us/\∀x∈K,TmR w (G'.F M.A) σ'.v (b8 M σ' (H++q.flatMap (·.cells))) G' (.ptr x.1.p x.1.vs) (.pointer (some x.2)):=by
    intro hne Vg
    have XH:(if jS t then grabs (i+1) l else .fail:SP (List GP)).run σ=some (q,σ'):=by
     cases n with
     |none=>cases t<;>exact hr
     |some n=>cases n<;>cases t<;>first|exact absurd rfl (hne _ _)|exact absurd rfl (Vg _ _)|exact hr
    split at XH
    ·rename_i VZ;obtain⟨us,G',K,e1,e2,e3,e4⟩:=ih (asq:=asq) hI (by simpa using hl) (ZW (gc.refl hI)) XH;exact⟨us,G',K,e1,e2,.arg VZ e3,e4⟩
    ·simp[SP.run]at XH
   by_cases hp:∃p vs,t=.ptr p vs
   ·obtain⟨p,vs,rfl⟩:=hp
    cases n with
    |none=>simp[grabs,jS,SP.run]at hr
    |some n=>
     simp only[grabs]at hr;obtain⟨_,σ1,h1,h2⟩:=bG hr;have e1:σ1=σ:=(bS h1).1;have e2:=(bS h1).2;subst e1;obtain⟨_,σr,hR,UX⟩:=bG h2;obtain⟨rfl,YO⟩:=yA hI hR;obtain⟨cells,σ2,h3,h4⟩:=bG UX;obtain⟨q1,σ3,h5,h6⟩:=bG h4;simp only[SP.run,oSJ,oPJ]at h6;obtain⟨rfl,rfl⟩:=h6;generalize hz:y=z at UP
     cases UP with
     |ptr V0 h0 hv h=>
      obtain⟨Z6,ad0,t0,ha,rfl,Z7⟩:=h e2;obtain⟨r,o,hops⟩:=p
      have Wn:∃ad,G.addr w (⟨r,o,[]⟩:bQ)=some ad/\(hops=[]->ad0=ad)/\(hops≠[]->cj w ((w.cell? ⟨ad.block,ad.off,none⟩).getD undef) hops=some ad0):=by
       cases hops with
       |nil=>exact⟨ad0,ha,λ_=>rfl,λe=>absurd rfl e⟩
       |cons hp1 hs=>
        obtain⟨b,o0,n0,hb⟩:=YO (by simp);refine⟨⟨b,o0+o,none⟩,by simp only[Gh.addr];rw[hb],λe=>by simp at e,λ_=>?_⟩;have Rw:cj w (G.val w r o) (hp1::hs)=some ad0:=ha;unfold Gh.val at Rw;rw[hb]at Rw;exact Rw
      obtain⟨ad,RB,VA,Tb⟩:=Wn;have PR:(⟨r,o,hops⟩:bQ).base.root≠1:=Z6;obtain⟨k1,u,G1,ZN,k2,k3,k4⟩:=A6 (p:=(⟨r,o,hops⟩:bQ).base) hI PR RB h3;obtain⟨us,G2,K,ZM,k5,k6,k7⟩:=ih (asq:=asq) ZN.1 (by simpa using hl) (ZW ZN) h5
      have Zn:TmR w (G.F M.A) σr.v (b8 M σr H) G (.ptr (⟨r,o,hops⟩:bQ).base (vs.take 1)) (.pointer (some ad)):=
       .ptr V0 h0 (by rw[hv];simp[eK,bQ.base]) λ_=>⟨Z6,ad,_,RB,rfl,rfl⟩
      refine⟨u++us,G2,(⟨i,(⟨r,o,hops⟩:bQ).base,vs.take 1,cells⟩,ad)::K,by simpa[List.append_assoc]using ZN.trans ZM,by simp[k5],.ptr (p:=(⟨r,o,hops⟩:bQ).base) (hp:=hops) Z6 rfl (fR RB) VA (λhne=>⟨Tb hne,?_⟩) (by omega) k3 k4 k6,λx hx=>?_⟩
      ·have Xf:bY (σr.c r o) hops=some t0:=by
        have:=Z7;rw[bZ (by exact Z6)]at this;exact this
       cases hops with
       |nil=>exact absurd rfl hne
       |cons h1 hs=>
        cases hc:σr.c r o with
        |ow c=>
         have:=w3 hc h3;rw[this];rw[hc]at Xf;exact⟨t0,Xf⟩
        |_=>rw[hc]at Xf;simp[bY]at Xf
      ·have e3:H++(({ i:=i,p:=(⟨r,o,hops⟩:bQ).base,vs:=vs.take 1,cells:=cells }:GP)::q1).flatMap (·.cells)=H++cells++q1.flatMap (·.cells):=by simp[List.append_assoc]
       rw[e3];rcases List.mem_cons.1 hx with rfl|hx
       ·exact ZM.tm (ZN.tm Zn)
       ·exact k7 x hx
   ·by_cases hw:∃p vs,(n,t)=(some 0,.pk p vs)
    ·obtain⟨p,vs,hw⟩:=hw
     injection hw with h1 h2
     subst h1;subst h2;have XH:(grabs (i+1) l).run σ=some (q,σ'):=hr;obtain⟨us,G',K,e1,e2,e3,e4⟩:=ih (asq:=asq) hI (by simpa using hl) (ZW (gc.refl hI)) XH;exact⟨us,G',K,e1,e2,.own e3,e4⟩
    ·exact other (λp vs e=>hp ⟨p,vs,e⟩) λp vs e=>hw ⟨p,vs,e⟩
theorem tr{α:Type}:∀{l:List (Nat×α)}{r:Nat}{x:α},b6 l r=some x->c7 l r x=l:=by
 intro l
 induction l with
 |nil=>intro r x h;simp[b6]at h
 |cons y l ih=>
  intro r x h;simp[b6]at h;simp[c7]
  grind
theorem z8{p:bQ}(hr:(touch p).run σ=some ((),σ')):σ'=σ/\∃l,b6 σ.ce p.root=some l/\p.off<l.length:=by
 simp[touch]at hr;obtain⟨l,hl,ho,h2⟩:=b7 (k:=.ret ()) (by simpa[SP.run]using hr);simp[SP.run]at h2;refine⟨?_,l,hl,ho⟩;rw[<- h2]
 have e:l.set p.off (σ.c p.root p.off)=l:=by
  have:σ.c p.root p.off=l[p.off]:=by simp[St.c,hl,ho]
  simp_all
 rw[e,tr hl]
theorem AB(hI:Inv M σ H xs ts w G):∀{q:List GP}{σ':St},(rechk q).run σ=some ((),σ')->σ'=σ/\∀g∈q,∀x,TmR w (G.F M.A) σ.v (b8 M σ H) G (.ptr g.p g.vs) x->g.p.root≠1/\∃ad,x=.pointer (some ad)/\G.addr w g.p=some ad/\g.vs=eK σ.v g.p.root g.p.off g.p.hops.length/\(∃t,bY (b8 M σ H g.p.root g.p.off) g.p.hops=some t)/\((∃o n,G.β g.p.root=some (ad.block,o,n))\/G.φ g.p.root g.p.off ad.block):=by
 intro q
 induction q with
 |nil=>
  intro σ' hr;simp only[rechk,SP.run,oPJ,true_and]at hr
  simp_all
 |cons g q ih=>
  intro σ' hr;obtain⟨_,σ1,h1,h2⟩:=bG hr;have e1:σ1=σ:=(bS h1).1;have e2:=(bS h1).2;subst e1;obtain⟨_,σ2,h3,h4⟩:=bG h2;obtain⟨rfl,l,hl,ho⟩:=z8 h3;obtain⟨rfl,hq⟩:=ih h4;refine⟨rfl,λg' TM x hx=>?_⟩;rcases List.mem_cons.1 TM with rfl|TM
  ·cases hx with
   |ptr V0 h0 hv h=>
    obtain⟨Z6,ad,t0,ha,hx,Z7⟩:=h e2
    have hB:G.addrB w g'.p=some ad:=by
     refine gj ha λhp b o0 n hb=>?_;have:=hI.shape _ _ _ _ hb l hl;omega
    refine⟨Z6,ad,hx,ha,e2,⟨t0,Z7⟩,?_⟩
    rcases hI.core.where_ g'.p hB Z7 with⟨_,b,o0,n,h5,_,h6⟩|⟨_,h5⟩
    ·left;exact⟨o0,n,by rw[h5,h6]⟩
    ·right;exact h5
  ·exact hq g' TM x hx
end
def prK:List (GP×Addr)->Nat->Option (Nat×Nat×Nat)
 | [],_=>none
 |(g,ad)::K,r=>if 2*g.i+2=r then some (ad.block,ad.off,g.cells.length)else prK K r
def bsK:List (GP×Addr)->Nat->Nat
 | [],_=>0
 |(g,_)::K,r=>if 2*g.i+2=r then 0 else g.cells.length+bsK K r
def ceK(K:List (GP×Addr)):List (Nat×List TV):=K.map λx=>(2*x.1.i+2,x.1.cells)
def ceO(ow:List (Nat×TV)):List (Nat×List TV):=ow.map λx=>(2*x.1+3,[x.2])
def owK:List (Nat×TV)->Nat->Option Nat
 | [],_=>none
 |(i,_)::q,r=>if 2*i+3=r then some 0 else(owK q r).map (· + 1)
def fi(K:List (GP×Addr)):List TV:=K.flatMap λx=>x.1.cells
section
theorem fI{K:List (GP×Addr)}{r b o n:Nat}(h:prK K r=some (b,o,n)):∃x∈K,r=2*x.1.i+2/\b=x.2.block/\o=x.2.off/\n=x.1.cells.length/\b6 (ceK K) r=some x.1.cells/\∀j (_:j<x.1.cells.length),(fi K)[bsK K r+j]?=x.1.cells[j]?:=by
 induction K with
 |nil=>simp[prK]at h
 |cons y K ih=>
  obtain⟨g,ad⟩:=y;simp only[prK]at h;split at h
  ·rename_i e
   injection h with h
   injection h with h1 h
   injection h with h2 h3
   refine⟨(g,ad),by simp,e.symm,h1.symm,h2.symm,h3.symm,by simp[ceK,b6,e],λj hj=>?_⟩;simp only[bsK,e,if_true,fi,Nat.zero_add];exact List.getElem?_append_left hj
  ·rename_i e;obtain⟨x,h1,h2,h3,h4,h5,h6,h7⟩:=ih h;refine⟨x,by simp[h1],h2,h3,h4,h5,by simpa[ceK,b6,e]using h6,λj hj=>?_⟩;simp only[bsK,e,if_false,fi,List.flatMap_cons];rw[List.getElem?_append_right (by omega)];rw[show g.cells.length+bsK K r+j-g.cells.length=bsK K r+j by omega];exact h7 j hj
theorem vQ{K:List (GP×Addr)}{r:Nat}{l:List TV}(h:b6 (ceK K) r=some l):prK K r≠none:=by
 induction K with
 |nil=>simp[ceK,b6]at h
 |cons y K ih=>
  simp[ceK,b6]at h;simp[prK];split
  ·simp
  ·rename_i e;rw[oIN e]at h;exact ih h
theorem B0{K:List (GP×Addr)}:∀r b o n r' b' o' n',prK K r=some (b,o,n)->prK K r'=some (b',o',n')->∀j j',j<n->j'<n'->bsK K r+j=bsK K r'+j'->r=r':=by
 induction K with
 |nil=>intro r b o n r' b' o' n' h;simp[prK]at h
 |cons y K ih=>
  intro r b o n r' b' o' n' h h' j j' hj ZY e;simp[prK,bsK]at h h' e
  grind
theorem mq.slot{w:World}{i:Nat}{ts:List TV}{asq us:List Value}{K:List (GP×Addr)}(h:mq w i ts asq K us):∀x∈K,i<=x.1.i/\x.1.p.hops=[]/\∃p vs,ts[x.1.i-i]?=some (.ptr p vs):=by
 induction h with
 |nil=>intro x hx;simp at hx
 | @ptr i p hp vs vs0 cells ad ad0 u ts xs K us hr hb hs h0 hh hu hc hok h ih=>
  intro x hx;rcases List.mem_cons.1 hx with rfl|hx
  ·simp_all
  ·obtain⟨h1,h3,p,vs,h2⟩:=ih x hx;refine⟨by omega,h3,p,vs,?_⟩;rw[show x.1.i-i=(x.1.i-(i+1))+1 by omega];simpa using h2
 | @arg i t x0 ts xs K us ha h ih=>
  intro x hx;obtain⟨h1,h3,p,vs,h2⟩:=ih x hx;refine⟨by omega,h3,p,vs,?_⟩;rw[show x.1.i-i=(x.1.i-(i+1))+1 by omega];simpa using h2
 | @own i p0 vs0 x0 ts xs K us h ih=>
  intro x hx;obtain⟨h1,h3,p,vs,h2⟩:=ih x hx;refine⟨by omega,h3,p,vs,?_⟩;rw[show x.1.i-i=(x.1.i-(i+1))+1 by omega];simpa using h2
theorem mq.len{w:World}{i:Nat}{ts:List TV}{asq us:List Value}{K:List (GP×Addr)}(h:mq w i ts asq K us):ts.length=asq.length/\us.length=(fi K).length:=by
 induction h with
 |nil=>exact⟨rfl,rfl⟩
 |ptr hr hb hs h0 hh hu hc hok h ih=>exact⟨by simp_all,by simp[fi,hu]at ih⊢;exact ih.2⟩
 |arg ha h ih=>simp_all
 |own h ih=>simp_all
theorem mq.ok{w:World}{i:Nat}{ts:List TV}{asq us:List Value}{K:List (GP×Addr)}(h:mq w i ts asq K us):∀x∈K,∀j (h:j<x.1.cells.length),cy x.1.cells[j]=true\/gD x.1.cells[j]=true:=by
 induction h with
 |nil=>simp_all
 |ptr hr hb hs h0 hh hu hc hok h ih=>
  intro x hx;rcases List.mem_cons.1 hx with rfl|hx
  ·exact hok
  ·exact ih x hx
 |arg ha h ih=>exact ih
 |own h ih=>exact ih
theorem mq.here{w:World}{i:Nat}{ts:List TV}{asq us:List Value}{K:List (GP×Addr)}(h:mq w i ts asq K us):∀r b o n,prK K r=some (b,o,n)->∀j,j<n->w.cell? ⟨b,o+j,none⟩=some (us.getD (bsK K r+j) undef)/\w.frozen? ⟨b,o+j,none⟩=false:=by
 induction h with
 |nil=>intro r b o n h;simp[prK]at h
 | @ptr i p QX vs vs0 cells ad ad0 u ts xs K us hr hb hs h0 hh hu hc hok h ih=>
  intro r b o n hp j hj;simp only[prK]at hp;simp only[bsK];split at hp
  ·rename_i e
   injection hp with hp
   injection hp with h1 hp
   injection hp with h2 h3
   subst h1;subst h2;rw[oIP e,Nat.zero_add]
   have R':j<u.length:=by omega
   have:=hc j R';refine⟨?_,this.2⟩;rw[this.1,oGD,List.getElem?_append_left R',oGE R'];rfl
  ·rename_i e;rw[oIN e];have:=ih r b o n hp j hj;refine⟨?_,this.2⟩;rw[this.1];simp;rw[List.getElem?_append_right (by omega)];rw[show cells.length+bsK K r+j-u.length=bsK K r+j by omega]
 |arg ha h ih=>exact ih
 |own h ih=>exact ih
end
theorem me{α:Type}{f:α->Nat}:∀{l:List α},gR (l.map f)=true->∀{x y:α},x∈l->y∈l->f x=f y->x=y:=by
 intro l
 induction l with
 |nil=>simp_all
 |cons z l ih=>
  intro h x y hx hy e;simp only[List.map_cons,gR,oBA,Bool.not_eq_true',List.contains_eq_mem,decide_eq_false_iff_not]at h;rcases List.mem_cons.1 hx with Z4|Z4
  ·rcases List.mem_cons.1 hy with XJ|XJ
   ·rw[Z4,XJ]
   ·exact absurd (by rw[<- Z4,e];exact List.mem_map_of_mem XJ) h.1
  ·rcases List.mem_cons.1 hy with XJ|XJ
   ·simp_all
   ·exact ih h.2 Z4 XJ e
section
variable {P:Program} {M:Fm} {σ σ':St} {H:List TV} {xs:List Value} {ts:Array Value} {w:World} {G:Gh} {a:Act} {o:Oper}
theorem iX{α:Type}:∀{a b:List (Nat×α)}{r:Nat},b6 (a++b) r=match b6 a r with|some x=>some x|none=>b6 b r:=by
 intro a
 induction a with
 |nil=>intro b r;rfl
 |cons y a ih=>
  intro b r;simp[b6];split
  ·rfl
  ·exact ih
theorem li:∀{q:List (Nat×TV)}{r j:Nat},owK q r=some j->∃h:j<q.length,r=2*q[j].1+3/\b6 (ceO q) r=some [q[j].2]:=by
 intro q
 induction q with
 |nil=>intro r j h;simp[owK]at h
 |cons y q ih=>
  intro r j h;obtain⟨i,t⟩:=y;simp only[owK]at h;split at h
  ·rename_i e
   injection h with h
   subst h;exact⟨by simp,e.symm,by simp[ceO,b6,e]⟩
  ·rename_i e
   cases hq:owK q r with
   |none=>simp_all
   |some k=>
    simp[hq,oMS]at h;subst h
    have:b6 (ceO ((i,t)::q)) r=b6 (ceO q) r:=by simp[ceO,b6,e]
    simp_all
theorem Bo:∀{q:List (Nat×TV)}{r:Nat}{l:List TV},b6 (ceO q) r=some l->owK q r≠none:=by
 intro q
 induction q with
 |nil=>intro r l h;simp[ceO,b6]at h
 |cons y q ih=>
  intro r l h;have ⟨i,t⟩:=y;simp[owK];split
  ·simp
  ·rename_i e
   have:b6 (ceO ((i,t)::q)) r=b6 (ceO q) r:=by simp[ceO,b6,e]
   simp_all
theorem z5.facts{i:Nat}{l:List (Option Nat×TV)}{asq:List Value}{ow:List (Nat×TV)}{zs:List Value}(h:z5 i l asq ow zs):zs.length=ow.length/\(∀x∈ow,i<=x.1/\∃c,x.2=.ow c)/\∀x∈ow,∃k,owK ow (2*x.1+3)=some k/\asq[x.1-i]?=zs[k]?:=by
 induction h with
 |nil=>simp_all
 | @own i p vs l x xs c ow zs h ih=>
  obtain⟨h1,h2,h3⟩:=ih;refine⟨by simp[h1],λy hy=>?_,λy hy=>?_⟩
  ·rcases List.mem_cons.1 hy with rfl|hy
   ·exact⟨Nat.le_refl _,c,rfl⟩
   ·exact⟨by have:=(h2 y hy).1;omega,(h2 y hy).2⟩
  ·rcases List.mem_cons.1 hy with rfl|hy
   ·exact⟨0,by simp[owK],by simp⟩
   ·obtain⟨k,h4,h5⟩:=h3 y hy;have XQ:=(h2 y hy).1;refine⟨k+1,by simp[owK];rw[oIN (by omega),h4];rfl,?_⟩;rw[show y.1-i=(y.1-(i+1))+1 by omega];simpa using h5
 | @skip i y0 l x xs ow zs h ih=>
  obtain⟨h1,h2,h3⟩:=ih;refine⟨h1,λy hy=>⟨by have:=(h2 y hy).1;omega,(h2 y hy).2⟩,λy hy=>?_⟩;obtain⟨k,h4,h5⟩:=h3 y hy;have XQ:=(h2 y hy).1;refine⟨k,h4,?_⟩;rw[show y.1-i=(y.1-(i+1))+1 by omega];simpa using h5
theorem mq.hands{vals:List TV}{asq us:List Value}{K:List (GP×Addr)}{l:List (Option Nat×TV)}{ow:List (Nat×TV)}{zs:List Value}(hI:Inv M σ (ow.map (·.2)++fi K) (zs++us) ts w G)(h:mq w 0 vals asq K us)(ho:z5 0 l asq ow zs)(Zu:gR ((K.map (·.1)).map (·.p.root))=true)(Z3:∀x∈K,0<x.1.cells.length)
 (VR:∀x∈K,x.1.p.root≠1/\((∃o n,G.β x.1.p.root=some (x.2.block,o,n))\/G.φ x.1.p.root x.1.p.off x.2.block)):xw (ow.map (·.2)++fi K) (zs++us) w G M.A (prK K) (λr=>ow.length+bsK K r) (ceK K++ceO ow) (owK ow):=by
 obtain⟨hz,YT,_⟩:=ho.facts
 have Vh:∀r,r%2=1->b6 (ceK K) r=none:=λr hr=>by
  cases hc:b6 (ceK K) r with
  |none=>rfl
  |some l=>
   cases hp:prK K r with
   |none=>exact absurd hp (vQ hc)
   |some x=>obtain⟨b,o,n⟩:=x;obtain⟨x,_,h2,_⟩:=fI hp;omega
 refine⟨λr b o n hp=>?_,λr b o n hp=>?_,λr l hl=>?_,λr j hj=>?_,λr j r' b o n hj hp j' ZY=>by have:=(li hj).1;omega,λr r' j hj ZY=>?_,λr b o n r' b' o' n' h1 h2 j j' hj ZY e=>B0 _ _ _ _ _ _ _ _ h1 h2 _ _ hj ZY (by omega),λr b o n r' o' n' h1 h2=>?_,λr b o n hp hF=>?_,λr b o n hp j hφ=>?_,λr b o n hp j hj=>?_⟩
 ·obtain⟨x,h1,h2,_,_,h5,_⟩:=fI hp;exact⟨by omega,by rw[h5];exact Z3 x h1⟩
 ·obtain⟨x,h1,h2,_,_,h5,h6,h7⟩:=fI hp;refine⟨_,by rw[iX,h6],h5.symm,λj hj=>?_⟩;have:=h7 j hj;rw[oGE hj]at this;obtain⟨k1,k2⟩:=oGS this;refine⟨by simp;omega,?_,mn (h.ok x h1) j hj⟩;rw[List.getElem_append_right (by simp;omega)];rw[<- k2];congr 1;simp;omega
 ·rw[iX]at hl
  cases hc:b6 (ceK K) r with
  |some l2=>exact .inl (vQ hc)
  |none=>rw[hc]at hl;exact .inr (Bo hl)
 ·obtain⟨h1,h2,h3⟩:=li hj;obtain⟨_,c,hc⟩:=YT ow[j] (List.getElem_mem h1);refine⟨by omega,by omega,c,by simp;omega,?_,?_⟩
  ·rw[iX,Vh r (by omega)];simp only;rw[h3,hc]
  ·rw[List.getElem_append_left (by simpa using h1)];simpa using hc
 ·obtain⟨_,h2,_⟩:=li hj;obtain⟨_,h3,_⟩:=li ZY;omega
 ·obtain⟨x,x1,x2,x3,x4,x5,_⟩:=fI h1;obtain⟨y,y1,y2,y3,y4,y5,_⟩:=fI h2
  have Z9:x.1.p.root=y.1.p.root:=by
   rcases(VR x x1).2 with⟨o1,n1,ZV⟩|ZV
   ·rcases(VR y y1).2 with⟨o2,n2,Z0⟩|Z0
    ·rw[<- y3]at Z0;rw[<- x3]at ZV;exact hI.core.boxd _ _ _ _ _ _ _ ZV Z0
    ·rw[<- y3]at Z0;rw[<- x3]at ZV;exact absurd Z0 (hI.core.boxf _ _ _ _ ZV _ _)
   ·rcases(VR y y1).2 with⟨o2,n2,Z0⟩|Z0
    ·rw[<- y3]at Z0;rw[<- x3]at ZV;exact absurd ZV (hI.core.boxf _ _ _ _ Z0 _ _)
    ·rw[<- y3]at Z0;rw[<- x3]at ZV;exact(hI.core.dis _ _ _ _ _ ZV Z0).1
  have ST:x.1=y.1:=me Zu (List.mem_map_of_mem x1) (List.mem_map_of_mem y1) Z9;rw[x2,y2,ST]
 ·obtain⟨x,x1,x2,x3,x4,x5,_⟩:=fI hp;subst x3
  rcases(VR x x1).2 with⟨o1,n1,ZV⟩|ZV
  ·exact hF.2.2 _ _ _ _ ZV rfl
  ·exact hF.2.1 _ _ ZV
 ·obtain⟨x,x1,x2,x3,x4,x5,_⟩:=fI hp;subst x3
  rcases(VR x x1).2 with⟨o1,n1,ZV⟩|ZV
  ·exact hI.core.boxf _ _ _ _ ZV _ _ hφ
  ·exact(VR x x1).1 (hI.core.dis _ _ _ _ _ ZV hφ).1
 ·have:=h.here _ _ _ _ hp j hj;refine⟨?_,this.2⟩;rw[this.1,oGD,oGD,List.getElem?_append_right (by omega)];rw[show ow.length+bsK K r+j-zs.length=bsK K r+j by omega]
theorem TmR.handed{F F':Nat->Prop}{V V':Vs}{C C':Cs}{G G':Gh}{t:TV}{x:Value}(h:TmR w F V C G t x)(ha:jS t=true)(hF:∀k,F k->F' k):TmR w F' V' C' G' t x:=by
 cases h with
 |v h=>exact .v h
 |sl h=>exact .sl (h.frame (λ_ _ _=>rfl) λk hk _=>hF k hk)
 |nil=>exact .nil
 |ip u hc hr=>exact .ip u (λj hj=>⟨hF _ (hc j hj).1,(hc j hj).2⟩) λj hj=>(hr j hj).frame (λ_ _ _=>rfl) λk hk _=>hF k hk
 | @agg l xs hl h=>
  refine .agg hl λj hj=>?_;simp[jS,List.all_eq_true]at ha;have h1:=ha _ (List.getElem_mem hj);have h2:=h j hj;generalize l[j]=e at h1 h2;generalize xs.getD j undef=y at h2
  cases h2 with
  |v h=>exact .v h
  |sl h=>exact .sl (h.frame (λ_ _ _=>rfl) λk hk _=>hF k hk)
  |_=>simp_all
 | @fn f l xs hl h=>
  simp[jS]at ha;exact .fn hl λj hj=>(((h j hj).imC (ha _ (List.getElem_mem hj))).frame (λ_ _ _=>rfl) λk hk _=>hF k hk).toTm
 |_=>simp[jS]at ha
theorem rF{α:Type}:∀{l:List α}{i j:Nat},b6 (dp i l) j=if i<=j then l[j-i]? else none:=by
 intro l
 induction l with
 |nil=>intro i j;simp[dp,b6]
 |cons x l ih=>
  intro i j;simp[dp,b6];by_cases e:i=j
  ·simp_all
  ·rw[oIN e,ih]
   grind
theorem tw:∀{l:List TV}{i j:Nat},(argTs i l)[j]?=(l[j]?).map (argT (i+j)):=by
 intro l
 induction l with
 |nil=>intro i j;simp[argTs]
 |cons t l ih=>
  intro i j
  cases j with
  |zero=>simp[argTs]
  |succ j=>simp[argTs,ih];rw[show i+1+j=i+(j+1) by omega]
def BD(w:World)(K:List (GP×Addr))(x:GP×Addr)(t:TV)(y:Option Value):Prop:=
 ∃hp vs ad0,t=.ptr ⟨x.1.p.root,x.1.p.off,hp⟩ vs/\y=some (.pointer (some ad0))/\prK K (2*x.1.i+2)=some (x.2.block,x.2.off,x.1.cells.length)/\b6 (ceK K) (2*x.1.i+2)=some x.1.cells/\x.2.spot=none/\(hp=[]->ad0=x.2)/\
  (hp≠[]->cj w ((w.cell? ⟨x.2.block,x.2.off,none⟩).getD undef) hp=some ad0/\∃t,bY (x.1.cells.getD 0 .dead) hp=some t)
theorem BD.cons{w:World}{K:List (GP×Addr)}{x z:GP×Addr}{t:TV}{y:Option Value}(h:BD w K x t y)(hne:z.1.i≠x.1.i):BD w (z::K) x t y:=by
 have ⟨hp,vs,ad0,h1,h2,h3,h4,h5,h6,h7⟩:=h;have ⟨g,ad⟩:=z;refine⟨hp,vs,ad0,h1,h2,?_,?_,h5,h6,h7⟩
 ·simp[prK];rw[oIN (by simp only at hne;omega)];exact h3
 ·simp[ceK,b6];rw[oIN (by simp only at hne;omega)];exact h4
theorem mq.slotArg{w:World}{i:Nat}{vals:List TV}{asq us:List Value}{K:List (GP×Addr)}(h:mq w i vals asq K us):∀j t,vals[j]?=some t->jS t=true\/(∃p vs,t=.pk p vs)\/∃x∈K,x.1.i=i+j/\BD w K x t asq[j]?:=by
 induction h with
 |nil=>intro j t h;simp at h
 | @ptr i p hp vs vs0 cells ad ad0 u ts xs K us hr hb hs h0 hh hu hc hok h ih=>
  intro j t ht
  cases j with
  |zero=>
   right;right;refine⟨(⟨i,p,vs,cells⟩,ad),by simp,rfl,hp,vs0,ad0,?_,by simp,by simp[prK],by simp[ceK,b6],hs,h0,hh⟩;simpa using ht.symm
  |succ j=>
   rcases ih j t (by simpa using ht)with h1|h1|⟨x,h1,h2,h3⟩
   ·exact .inl h1
   ·exact .inr (.inl h1)
   ·right;right;exact⟨x,by simp[h1],by omega,by simpa using h3.cons (z:=(⟨i,p,vs,cells⟩,ad)) (by show i≠x.1.i;omega)⟩
 | @arg i t0 x0 ts xs K us ha h ih=>
  intro j t ht
  cases j with
  |zero=>simp_all
  |succ j=>
   rcases ih j t (by simpa using ht)with h1|h1|⟨x,h1,h2,h3⟩
   ·exact .inl h1
   ·exact .inr (.inl h1)
   ·exact .inr (.inr ⟨x,h1,by omega,by simpa using h3⟩)
 | @own i p0 vs0 x0 ts xs K us h ih=>
  intro j t ht
  cases j with
  |zero=>right;left;have:TV.pk p0 vs0=t:=by simpa using ht
         exact⟨p0,vs0,this.symm⟩
  |succ j=>
   rcases ih j t (by simpa using ht)with h1|h1|⟨x,h1,h2,h3⟩
   ·exact .inl h1
   ·exact .inr (.inl h1)
   ·exact .inr (.inr ⟨x,h1,by omega,by simpa using h3⟩)
theorem mq.enter{vals:List TV}{asq us:List Value}{K:List (GP×Addr)}{l:List (Option Nat×TV)}{ow:List (Nat×TV)}{zs:List Value}(hI:Inv M σ (ow.map (·.2)++fi K) (zs++us) ts w G)(h:mq w 0 vals asq K us)(ho:z5 0 l asq ow zs)(UO:∀j p vs,vals[j]?=some (.pk p vs)->∃x∈ow,x.1=j)
 (hh:xw (ow.map (·.2)++fi K) (zs++us) w G M.A (prK K) (λr=>ow.length+bsK K r) (ceK K++ceO ow) (owK ow))
 (ht:∀j (h:j<vals.length)(h':j<asq.length),TmR w (G.F M.A) σ.v (b8 M σ (ow.map (·.2)++fi K)) G vals[j] asq[j]){N:Nat}(hN:asq.length<=N):
 Inv (M.into w G (prK K) N) (mkSt (argTs 0 vals) (ceK K++ceO ow)) [] [] (asq.toArray++Array.replicate (N-asq.length) undef) w (G.into (prK K) (λr=>ow.length+bsK K r) (owK ow) (zs++us)):=by
 refine hI.enter hh (by simp;omega) λi=>?_;rw[rF];simp only[Nat.zero_le,if_true,Nat.sub_zero,tw,Nat.zero_add]
 cases hv:vals[i]? with
 |none=>exact .dead
 |some t=>
  obtain⟨hi,P1⟩:=oGS hv
  have ZF:i<asq.length:=by rw[<- h.len.1];exact hi
  have hx:(asq.toArray++Array.replicate (N-asq.length) undef).getD i undef=asq[i]:=by
   simp[Array.getD_eq_getD_getElem?,Array.getElem?_append,ZF]
  rw[hx];have Zn:=ht i hi ZF;rw[P1]at Zn;simp only[oMS,Option.getD_some];rcases h.slotArg i t hv with VZ|⟨p,vs,rfl⟩|⟨x,x1,x2,hp,vs,ad0,rfl,x4,x5,Rj,x6,x7,x8⟩
  ·have e:argT i t=t:=by cases t<;>first|rfl|simp[jS]at VZ
   rw[e];exact Zn.handed VZ λk hk=>hh.F hk
  ·simp only[argT];obtain⟨x,Z4,rfl⟩:=UO i p vs hv;obtain⟨hz,h2,h3⟩:=ho.facts;obtain⟨k,h4,h5⟩:=h3 x Z4;obtain⟨hk,_,h6⟩:=li h4;have Vh:=(hh.owc _ _ h4);obtain⟨_,_,c',hj,h8,h9⟩:=Vh;refine .pk (λ_=>0) (λ_=>Nat.le_refl _) rfl λ_=>⟨by simp,c',?_,?_⟩
   ·have PO:prK K (2*x.1+3)=none:=by
     cases hp:prK K (2*x.1+3)with
     |none=>rfl
     |some y=>obtain⟨b,o,n⟩:=y;have:=(hh.even _ _ _ _ hp).1;omega
    simp only[Gh.hv,hvT];unfold Gh.val Gh.into;simp only[PO,h4];rw[Nat.sub_zero,oGE ZF,oGE (by omega)]at h5
    injection h5 with h5
    rw[oGD,List.getElem?_append_left (by omega),oGE (by omega),h5];rfl
   ·have:b8 (M.into w G (prK K) N) ⟨dp 0 (argTs 0 vals),ceK K++ceO ow,[]⟩ [] (2*x.1+3) 0=.ow c':=by
     rw[bZ (by show 2*x.1+3≠1;omega)];simp[St.c,h8]
    rw[this];rfl
  ·simp only[argT]
   have e:asq[i]=.pointer (some ad0):=by
    rw[oGE ZF]at x4;injection x4
   rw[e]
   have P7:x.1.i=i:=by omega
   rw[P7]at x5 Rj
   have Ze:(⟨x.2.block,x.2.off+0,none⟩:Addr)=x.2:=by
    obtain⟨g,ad⟩:=x;obtain⟨b,o,s⟩:=ad;simp only at x6⊢;subst x6;rfl
   have hcell:b8 (M.into w G (prK K) N) ⟨dp 0 (argTs 0 vals),ceK K++ceO ow,[]⟩ [] (2*i+2) 0=x.1.cells.getD 0 .dead:=by
    rw[bZ (by show 2*i+2≠1;omega)];simp only[St.c,iX,Rj]
   refine .ptr (λ_=>0) (λ_=>Nat.le_refl _) (by simp[eK,List.replicate_succ,List.map_const']) λ_=>?_
   cases hp with
   |nil=>
    refine⟨by simp,x.2,(b8 (M.into w G (prK K) N) ⟨dp 0 (argTs 0 vals),ceK K++ceO ow,[]⟩ [] (2*i+2) 0),?_,by rw[x7 rfl],rfl⟩;unfold Gh.addr Gh.into;simp only[x5];rw[Ze]
   |cons h1 hs=>
    obtain⟨x9,t0,x10⟩:=x8 (by simp);refine⟨by simp,ad0,t0,?_,rfl,by show bY (b8 _ _ [] (2*i+2) 0) (h1::hs)=_;rw[hcell];exact x10⟩;show cj w (Gh.val _ w (2*i+2) 0) (h1::hs)=some ad0;unfold Gh.val Gh.into;simp only[x5];exact x9
end
theorem sY{α:Type}{f:GP×Addr->List α}{K:List (GP×Addr)}(hf:∀x∈K,(f x).length=x.1.cells.length){r b o n:Nat}(h:prK K r=some (b,o,n)):∃x∈K,r=2*x.1.i+2/\b=x.2.block/\o=x.2.off/\n=x.1.cells.length/\b6 (K.map λx=>(2*x.1.i+2,f x)) r=some (f x)/\∀j,j<n->(K.flatMap f)[bsK K r+j]?=(f x)[j]?:=by
 induction K with
 |nil=>simp[prK]at h
 |cons y K ih=>
  obtain⟨g,ad⟩:=y;simp only[prK]at h;split at h
  ·rename_i e
   injection h with h
   injection h with h1 h
   injection h with h2 h3
   have hl:=hf (g,ad) (by simp);simp only at hl;refine⟨(g,ad),by simp,e.symm,h1.symm,h2.symm,h3.symm,by simp[b6,e],λj hj=>?_⟩;simp only[bsK,e,if_true,Nat.zero_add];exact List.getElem?_append_left (by omega)
  ·rename_i e;obtain⟨x,h1,h2,h3,h4,h5,h6,h7⟩:=ih (λx hx=>hf x (by simp[hx])) h;have hl:=hf (g,ad) (by simp);simp only at hl;refine⟨x,by simp[h1],h2,h3,h4,h5,by simpa[b6,e]using h6,λj hj=>?_⟩;simp only[bsK,e,if_false,List.flatMap_cons];rw[List.getElem?_append_right (by omega)];rw[show g.cells.length+bsK K r+j-(f (g,ad)).length=bsK K r+j by omega];exact h7 j hj
theorem El{K:List (GP×Addr)}(Zu:gR (K.map λx=>x.1.i)=true){j:Nat}(h:j<(fi K).length):∃r b o n t,prK K r=some (b,o,n)/\t<n/\j=bsK K r+t:=by
 induction K generalizing j with
 |nil=>simp[fi]at h
 |cons y K ih=>
  obtain⟨g,ad⟩:=y;simp only[List.map_cons,gR,oBA,Bool.not_eq_true',List.contains_eq_mem,decide_eq_false_iff_not]at Zu;simp only[fi,List.flatMap_cons,List.length_append]at h;by_cases hj:j<g.cells.length
  ·exact⟨2*g.i+2,ad.block,ad.off,g.cells.length,j,by simp[prK],hj,by simp[bsK]⟩
  ·obtain⟨r,b,o,n,t,h1,h2,h3⟩:=ih Zu.2 (j:=j-g.cells.length) (by simp only[fi];omega)
   have hne:2*g.i+2≠r:=λe=>by
    obtain⟨x,x1,x2,_⟩:=fI h1;exact Zu.1 (List.mem_map.2 ⟨x,x1,by omega⟩)
   exact⟨r,b,o,n,t,by simp[prK,hne,h1],h2,by simp[bsK,hne];omega⟩
def RWs(w:World):List (GP×Addr)->World->World
 | [],W=>W
 |x::K,W=>RWs w K (dQ w W x.2.block)
theorem BB{w:World}{K:List (GP×Addr)}:∀{W:World},(RWs w K W).heap.size=W.heap.size:=by
 induction K with
 |nil=>intro W;rfl
 |cons x K ih=>intro W;simp[RWs];rw[ih,gP]
theorem rG{w:World}{K:List (GP×Addr)}:∀{W:World},(RWs w K W).os=W.os/\(RWs w K W).tape=W.tape/\(RWs w K W).output=W.output:=by
 induction K with
 |nil=>intro W;exact⟨rfl,rfl,rfl⟩
 |cons x K ih=>
  intro W;simp[RWs];have ⟨r1,r2,r3,_⟩:=mu (w:=w) (W:=W) (b:=x.2.block)
  simp_all
theorem Es{w:World}{K:List (GP×Addr)}{k:Nat}:∀{W:World},(∀x∈K,k≠x.2.block)->(RWs w K W).heap[k]?=W.heap[k]?:=by
 induction K with
 |nil=>intro W h;rfl
 |cons x K ih=>
  intro W h;simp[RWs];rw[ih λy hy=>h y (by simp[hy]),jF (h x (by simp))]
theorem BC{w:World}{K:List (GP×Addr)}{k:Nat}(h2:k<w.heap.size):∀{W:World},k<W.heap.size->W.heap[k]?=w.heap[k]?->(RWs w K W).heap[k]?=w.heap[k]?:=by
 induction K with
 |nil=>intro W h1 h;exact h
 |cons x K ih=>
  intro W h1 h;refine ih (by rw[gP];exact h1) ?_;by_cases e:k=x.2.block
  ·rw[<- e];exact l9 h1 h2
  ·rw[jF e];exact h
theorem Et{w:World}{K:List (GP×Addr)}{k:Nat}(h2:k<w.heap.size):∀{W:World},k<W.heap.size->(∃x∈K,k=x.2.block)->(RWs w K W).heap[k]?=w.heap[k]?:=by
 induction K with
 |nil=>simp_all
 |cons x K ih=>
  intro W h1 h;simp[RWs];have ⟨y,hy,e⟩:=h;rcases List.mem_cons.1 hy with rfl|hy
  ·exact BC h2 (by rw[gP];exact h1) (by rw[e];rw[e]at h1 h2;exact l9 h1 h2)
  ·exact ih (by rw[gP];exact h1) ⟨y,hy,e⟩
section
variable {P:Program} {M:Fm} {σ σ':St} {H:List TV} {xs:List Value} {ts:Array Value} {w:World} {G:Gh} {a:Act} {o:Oper}
theorem yG{p:bQ}{t:TV}(h:(oW p t).run σ=some ((),σ')){r:Nat}(hr:r≠p.root)(o n:Nat):eK σ'.v r o n=eK σ.v r o n:=by
 unfold oW at h;simp only[SP.run]at h
 have bump:∀{vr:List (Key×Nat)},σ'.vr=vr->(∀q,kB vr q=kB σ.vr q+if(p.root,p.off,p.hops.length+1)=q then 1 else 0)->eK σ'.v r o n=eK σ.v r o n:=by
  intro vr e hv
  have YF:∀q,σ'.v q=σ.v q+if(p.root,p.off,p.hops.length+1)=q then 1 else 0:=λq=>by unfold St.v;rw[e];exact hv q
  rw[fk]
  have hne:∀o' d,((p.root,p.off,p.hops.length+1):Key)≠(r,o',d):=λo' d e=>by
   simp_all
  simp_all
 cases hg:bY (σ.c p.root p.off) p.hops with
 |none=>simp[hg,SP.run]at h
 |some old=>
  simp only[hg]at h;split at h
  ·split at h
   ·obtain⟨l,hl,ho,h3⟩:=b7 h;simp only[SP.run,oSJ,oPJ,true_and]at h3;exact bump (vr:=jb σ.vr (p.root,p.off,p.hops.length+1)) (by rw[<- h3]) λq=>dx _ _ _
   ·simp[SP.run]at h
  ·obtain⟨l,hl,ho,h3⟩:=b7 h;simp only[SP.run,oSJ,oPJ,true_and]at h3
   have hv:σ'.v=σ.v:=by rw[<- h3];rfl
   rw[hv]
theorem yI:∀{l:List TV}{p:bQ}{σ σ':St},(putL p l).run σ=some ((),σ')->∀{r:Nat},r≠p.root->∀o n,eK σ'.v r o n=eK σ.v r o n:=by
 intro l
 induction l with
 |nil=>
  intro p σ σ' h r hr o n;simp[putL,SP.run]at h;rw[h]
 |cons t l ih=>
  intro p σ σ' h r hr o n;have ⟨_,σ1,h1,h2⟩:=bG h;rw[<- yG h1 hr o n]
  cases l with
  |nil=>
   simp[SP.run]at h2;rw[h2]
  |cons t2 l=>
   simp only at h2;split at h2
   ·exact ih h2 (by rw[cJ];exact hr) o n
   ·simp[SP.run]at h2
theorem se:∀{q:List (GP×List TV)}{σ σ':St},(putBack q).run σ=some ((),σ')->∀{r:Nat},(∀x∈q,r≠x.1.p.root)->∀o n,eK σ'.v r o n=eK σ.v r o n:=by
 intro q
 induction q with
 |nil=>
  intro σ σ' h r hr o n;simp[putBack,SP.run]at h;rw[h]
 |cons x q ih=>
  intro σ σ' h r hr o n;have ⟨g,l⟩:=x;have ⟨_,σ1,h1,h2⟩:=bG h;split at h2
  ·rw[yI h2 (hr (g,l) (by simp)) o n];exact ih h1 (λx hx=>hr x (by simp[hx])) o n
  ·simp[SP.run]at h2
def Seg(w W:World)(x:GP×Addr)(vs:List Value):Prop:=
 ∃cur0 cur e fz,w.heap[x.2.block]?=some (.cells cur0 e fz)/\W.heap[x.2.block]?=some (.cells cur e fz)/\cur.size=cur0.size/\(∀j,(j<x.2.off\/x.2.off+vs.length<=j)->cur[j]?=cur0[j]?)/\∀j (h:j<vs.length),cur[x.2.off+j]?=some vs[j]
theorem wE{f:GP×Addr->List TV}{v:GP×Addr->List Value}(Pn:∀x,(f x).length=(v x).length):∀{K:List (GP×Addr)}{σ σ':St}{H0:List TV}{x0:List Value}{W:World}{G:Gh},H0.length=x0.length ->
 Inv M σ (H0++K.flatMap f) (x0++K.flatMap v) ts (RWs w K W) G->(∀x∈K,Seg w W x (v x))->(∀x∈K,f x≠[])->(∀x∈K,∀y∈K,x.2.block=y.2.block->x=y)->gR (K.map λx=>x.1.p.root)=true ->
 (∀x∈K,x.1.p.root≠1/\G.addr (RWs w K W) x.1.p=some x.2/\∃t,bY (b8 M σ (H0++K.flatMap f) x.1.p.root x.1.p.off) x.1.p.hops=some t)->
 (putBack (K.map λx=>(x.1,f x))).run σ=some ((),σ')->∃G',Inv M σ' H0 x0 ts W G'/\σ'.tm=σ.tm/\eZ M (RWs w K W) σ (H0++K.flatMap f) G W σ' H0 G'/\G'.β=G.β:=by
 intro K
 induction K with
 |nil=>
  intro σ σ' H0 x0 W G WD hI _ _ _ _ _ hr;simp only[List.map_nil,putBack,SP.run,oSJ,oPJ,true_and]at hr;subst hr;have hI:Inv M σ (H0++[]) (x0++[]) ts W G:=hI;rw[List.append_nil,List.append_nil]at hI;refine⟨G,hI,rfl,?_,rfl⟩;show eZ M W σ (H0++[]) G W σ H0 G;rw[List.append_nil];exact eZ.refl _ _ _ _ _
 |cons x K ih=>
  intro σ σ' H0 x0 W G WD hI Ul hne Wa Zu Z8 hr;simp only[List.map_cons,putBack]at hr;obtain⟨_,σ1,h1,h2⟩:=bG hr;split at h2
  case isFalse=>simp[SP.run]at h2
  rename_i YB;simp at YB;simp only[List.map_cons,gR,oBA,Bool.not_eq_true',List.contains_eq_mem,decide_eq_false_iff_not]at Zu;have Q':∀y∈K,y.1.p.root≠x.1.p.root:=λy hy e=>Zu.1 (by rw[<- e];exact List.mem_map.2 ⟨y,hy,rfl⟩)
  have Pf:∀y∈K,x.2.block≠y.2.block:=λy hy e=>by
   have:=Wa x (by simp) y (by simp[hy]) e;exact Q' y hy (by rw[this])
  have ZL:Inv M σ ((H0++f x)++K.flatMap f) ((x0++v x)++K.flatMap v) ts (RWs w K (dQ w W x.2.block)) G:=by
   simpa[RWs,List.append_assoc]using hI
  obtain⟨G1,hI1,SH,QV,hβ1⟩:=ih (W:=dQ w W x.2.block) (by simp[WD,Pn]) ZL (λy hy=>by
   obtain⟨cur0,cur,e,fz,s1,s2,s3⟩:=Ul y (by simp[hy])
   exact⟨cur0,cur,e,fz,s1,by rw[jF (Ne.symm (Pf y hy))];exact s2,s3⟩) (λy hy=>hne y (by simp[hy])) (λy hy z hz=>Wa y (by simp[hy]) z (by simp[hz])) Zu.2
   (λy hy=>by have:=Z8 y (by simp[hy]);simpa[RWs,List.append_assoc]using this) h1
  obtain⟨Z6,ha,t0,Z7⟩:=Z8 x (by simp)
  have X2:=se h1 (r:=x.1.p.root) (λy hy=>by
   obtain⟨z,hz,rfl⟩:=List.mem_map.1 hy
   exact Ne.symm (Q' z hz)) x.1.p.off x.1.p.hops.length
  obtain⟨t1,WY,QM⟩:=QV.keeps.ptr x.1.p x.2 t0 Z6 X2 (by simpa[RWs]using ha) (by simpa[List.append_assoc]using Z7)
  have Yg:(H0++f x).drop H0.length=f x:=by simp
  obtain⟨_,G2,H2,ZQ,e1,e2,e3,e4,e5,e6⟩:=yJ (k:=H0.length) hI1 Z6 WY Yg (hne x (by simp)) (λj hj hk=>by
   intro e
   have ZY:j-H0.length<(f x).length:=by simp at hj;omega
   have:(H0++f x)[j]=(f x)[j-H0.length]:=by rw[List.getElem_append_right hk]
   rw[this]at e;have:=YB.2 _ (List.getElem_mem ZY);rw[e]at this
   simp[vv]at this) h2
  obtain⟨cur0,cur,e,fz,s1,s2,s3,s4,s5⟩:=Ul x (by simp)
  have UR:(x0++v x).drop H0.length=v x:=by rw[WD];simp
  rw[UR,m6 s1 s2 s3 s4 s5]at ZQ e5;obtain⟨WX,e7⟩:=ZQ.trunc (k:=H0.length) e2
  have hT:H2.take H0.length=H0:=by
   apply List.ext_getElem
   ·simp[e1]
   ·intro j hj ZY;rw[List.getElem_take];rw[e3 j (by rw[e1];simp;omega) (by simp;omega) ZY];rw[List.getElem_append_left ZY]
  have hX:(x0++v x).take H0.length=x0:=by rw[WD];simp
  rw[hT]at WX e7;rw[hX]at WX;refine⟨G2,WX,e4.trans SH,?_,e6.trans hβ1⟩;have hm2:eZ M (dQ w W x.2.block) σ1 (H0++f x) G1 W σ' H0 G2:=⟨e5.size,by rw[e7];exact e5.keeps,e5.heap,e5.free⟩;have:=QV.trans hm2;simpa[RWs,List.append_assoc]using this
end
def iE(P:Program)(f:FuncId):Prop:=∀args w,(callFunc f args).run P w=.ok (.enter f args) w
theorem oG{P:Program}{f:FuncId}{fn:Func}{c:Code}(hf:P.funcs[f]?=some fn)(VI:(fn.name=="runtime.NumGoroutine")=false)(hb:fn.body=some c):iE P f:=by
 intro args w;unfold callFunc
 simp_all
def Ez(M:Fm)(res:uP)(v:Value)(σ2:St)(w2:World):Prop:=
 (∃ys ts2 G2,v=ir res.sh ys/\Inv M σ2 res.cells ys ts2 w2 G2/\∀j (h:j<res.cells.length),cy res.cells[j]=true\/gD res.cells[j]=true)\/
 ∃q vs l pv ts2 G2,res.cells=.ptr q vs::l/\(∃sh,res.sh=.ptr::sh)/\l.all tD=true/\v=pX pv (l.map unV)/\Inv M σ2 [] [] ts2 w2 G2/\Ev w2 (b8 M σ2 []) G2 q pv
def fa(P:Program)(F:cM):Prop:=
 ∀f vals pts res ZE,F f vals pts=some (res,ZE)->iE P f/\∃N,vals.length<=N/\∀(M:Fm)(asq:List Value)(w:World)(G:Gh),asq.length=vals.length->M.N=N->M.w0=w->(∀r,M.pr r≠none->∃i p vs,vals[i]?=some (.ptr p vs)/\r=2*i+2)->
  Inv M (mkSt vals pts) [] [] (asq.toArray++Array.replicate (N-asq.length) undef) w G ->
  Calls P f asq.toArray w λe w2=>∃v σ2,e=.returned v/\Ez M res v σ2 w2/\ZE=pts.map λx=>(x.1,(b6 σ2.ce x.1).getD [])
def xx(P:Program)(E:Env):Prop:=
 ∀f n tm,E.box f=some (n,tm)->iE P f/\(∀x,.val x∈tm->dP x=true)/\∃ty,∀(asq:List Value)(w:World),asq.length=n->(∀y∈tm.map (bxV asq),y.oneCell'=true)->
  Calls P f asq.toArray w λe w'=>e=.returned (.pointer (some ⟨w.heap.size,0,none⟩))/\w'=w.alloc (.cells (tm.map (bxV asq)).toArray ty)
def jr:Op->TOp->Prop
 |.call ⟨.value f,args,_⟩,.call _ f' args'=>bJ f=some f'/\args'.length=args.size/\∀j (h:j<args'.length)(h':j<args.size),bJ args[j]=some args'[j].2
 |_,_=>False
def Dn:TOp:=.call false (.c undef) []
def eV(op:Op)(t:TOp):Prop:=t=Dn\/jr op t
section
variable {P:Program} {M:Fm} {σ σ':St} {H:List TV} {xs:List Value} {ts:Array Value} {w:World} {G:Gh} {a:Act} {o:Oper}
theorem tu:∀{l:List TV}{i:Nat},(argTs i l).length=l.length:=by
 intro l
 induction l with
 |nil=>intro i;rfl
 |cons t l ih=>intro i;simp[argTs,ih]
theorem yo{F:Nat->Prop}{V:Vs}{C:Cs}:∀{sh:List RSh}{l:List TV}{ys:List Value},jk sh l.length=true->l.length=ys.length->(∀j (h:j<l.length),TmR w F V C G l[j] (ys.getD j undef))->
 (eG sh l).length=(dC sh ys).length/\∀j (h:j<(eG sh l).length),TmR w F V C G (eG sh l)[j] ((dC sh ys).getD j undef):=by
 intro sh
 induction sh with
 |nil=>intro l ys _ _ _;exact⟨rfl,λj h=>by simp[eG]at h⟩
 |cons s sh ih=>
  intro l ys hs hl ht
  cases s with
  |one=>
   simp only[jk,oBA,oDE]at hs
   cases l with
   |nil=>simp at hs
   |cons t l=>
    cases ys with
    |nil=>simp at hl
    |cons y ys=>
     obtain⟨e,h2⟩:=ih (l:=l) (ys:=ys) (by simpa using hs.2) (by simpa using hl) λj h=>by have:=ht (j+1) (by simpa using h);simpa using this
     refine⟨by simp[eG,dC,e],λj h=>?_⟩
     cases j with
     |zero=>have:=ht 0 (by simp);simpa[eG,dC]using this
     |succ j=>have:=h2 j (by simpa[eG]using h);simpa[eG,dC]using this
  |agg n=>
   simp only[jk,oBA,oDE]at hs
   obtain⟨e,h2⟩:=ih (l:=l.drop n) (ys:=ys.drop n) (by simpa using hs.2) (by simp[hl]) λj h=>by
    have h':n+j<l.length:=by simp at h;omega
    simp_all
   refine⟨by simp[eG,dC,e],λj h=>?_⟩
   cases j with
   |zero=>
    refine .agg (by simp;omega) λj hj=>?_
    have ZY:j<n/\j<l.length:=by simp at hj;omega
    simp_all
   |succ j=>have:=h2 j (by simpa[eG]using h);simpa[eG,dC]using this
  |ptr=>simp[jk]at hs
theorem sa{F:Nat->Prop}{V:Vs}{C:Cs}{sh:List RSh}{l:List TV}{ys:List Value}(hs:jk sh l.length=true)(hl:l.length=ys.length)(ht:∀j (h:j<l.length),TmR w F V C G l[j] (ys.getD j undef)):TmR w F V C G (lb sh l) (ir sh ys):=by
 obtain⟨e,h2⟩:=yo hs hl ht;by_cases h1:∃x,eG sh l=[x]
 ·obtain⟨x,hx⟩:=h1;have ⟨y,hy⟩:∃y,dC sh ys=[y]:=List.length_eq_one_iff.1 (by simp_all)
  have e1:lb sh l=x:=by unfold lb;rw[hx]
  have e2:ir sh ys=y:=by unfold ir;rw[hy]
  simp_all
 ·have hne:¬ ∃y,dC sh ys=[y]:=λ⟨y,hy⟩=>h1 (List.length_eq_one_iff.1 (by rw[e,hy];rfl))
  have e1:lb sh l=TV.tup (eG sh l):=by
   unfold lb
   simp_all
  have e2:ir sh ys=Value.tuple (dC sh ys).toArray:=by
   unfold ir
   simp_all
  rw[e1,e2];refine .tup (by simp[e]) λj hj=>?_;have:=h2 j hj
  simp_all
theorem CZ{res:uP}{ys:List Value}(hI:Inv M σ res.cells ys ts w G)(hok:∀j (h:j<res.cells.length),cy res.cells[j]=true\/gD res.cells[j]=true)(hs:jk res.sh res.cells.length=true)
 {dst:Option Nat}(hd:∀d,dst=some d->d<M.N)(hr:(landR dst res).run σ=some ((),σ')):∃G',Inv M σ' [] [] (match dst with|some d=>ts.setIfInBounds d (ir res.sh ys)|none=>ts) w G':=by
 cases dst with
 |none=>
  simp[landR,SP.run]at hr;subst hr;have ⟨G',hg,_⟩:=hI.drop;exact⟨G',hg.1⟩
 |some d=>
  have ⟨l,σ1,h1,h2⟩:=bG hr;have ⟨G1,hI1,_,hl,ht⟩:=nk hI hok h1;simp[wr,SP.run]at h2;subst h2;exact⟨G1,hI1.wrT (hd d rfl) (sa (by simp_all) (by rw[hl];exact hI.hand) ht)⟩
end
def frM(w:World)(N:Nat):Fm:=⟨w,λ_=>True,λ_=>False,λ_=>none,N,λ_ _=>trivial⟩
def frG:Gh:=⟨λ_=>none,λ_ _=>undef,λ_ _ _=>False⟩
theorem mz(l:List TV):∀i k,b6 (dp i l) k=if k<i then none else l[k-i]?:=by
 induction l with
 |nil=>intro i k;simp[dp,b6]
 |cons t l ih=>
  simp[dp,b6]
  grind
def tA(w:World)(t:TV)(x:Value):Prop:=∀F V C G,(∀k,F k)->TmR w F V C G t x
theorem fj.plain{w:World}{F:Nat->Prop}{t:TV}{x:Value}(h:fj w F t x):tA w t x:=λ_ _ _ _ hF=>(h.frame (λ_ _ _=>rfl) λk _ _=>hF k).toTm
theorem calls_flat{P:Program}{F:cM}(hF:fa P F){f:FuncId}{vals:List TV}{avs:List Value}{res:uP}{w:World}(h:F f vals []=some (res,[]))(Zp:res.cells.all tD=true)(hl:avs.length=vals.length)
 (hv:∀j (h:j<vals.length)(h':j<avs.length),tA w vals[j] avs[j]):iE P f/\Calls P f avs.toArray w λe w'=>e=.returned (ir res.sh (res.cells.map unV))/\Below w.heap.size w w':=by
 obtain⟨YP,N,hN,hc⟩:=hF f vals [] _ _ h;refine⟨YP,?_⟩;have Zd:∀k,frG.F (frM w N).A k:=λk=>⟨trivial,λ_ _ h=>h,λ_ _ _ _ h=>by simp[frG]at h⟩
 have hst:∀i,(mkSt vals []).t i=vals.getD i .dead:=by
  intro i;simp[St.t,mkSt,mz]
 have hE:∀r o,b8 (frM w N) (mkSt vals []) [] r o=.dead:=by
  intro r o;unfold b8;split
  ·simp
  ·rfl
 have hI:Inv (frM w N) (mkSt vals []) [] [] (avs.toArray++Array.replicate (N-avs.length) undef) w frG:=by
  refine⟨⟨λr o=>.inl ⟨hE r o,λ_ h=>h⟩,λ_ _ _ _ h=>by simp[frG]at h,λ_ _ _ _ h=>by simp[frG]at h,λ_ _ _ _ _ _ _ h=>by simp[frG]at h,λ_ _ _ _ h=>by simp[frG]at h,λ_ _ _ _ _ h=>h.elim,λ_ _ _ h=>h.elim⟩,λi=>?_,⟨rfl,rfl,rfl,Nat.le_refl _,λ_ _ _ _=>rfl,λ_ _ _ _ h=>by simp[frM]at h,λ_ _ _ h=>h.elim,λ_ _ _ _ h=>by simp[frG]at h,λ_ h=>by simp[frG]at h⟩,λr l h=>by simp[mkSt,b6]at h,?_,rfl,λj hj=>by simp at hj,λ_ _ _ _ h=>by simp[frG]at h⟩
  ·rw[hst];by_cases hi:i<vals.length
   ·have ZF:i<avs.length:=by omega
    have e1:vals.getD i .dead=vals[i]:=by simp[hi]
    have e2:(avs.toArray++Array.replicate (N-avs.length) undef).getD i undef=avs[i]:=by
     simp[Array.getElem?_append,ZF]
    rw[e1,e2];exact hv i hi ZF _ _ _ frG Zd
   ·have e1:vals.getD i .dead=.dead:=by rw[oGD,oGN (by omega)];rfl
    rw[e1];exact .dead
  ·show(avs.toArray++Array.replicate (N-avs.length) undef).size=N;simp;omega
 refine(hc (frM w N) avs w frG hl rfl rfl (λr hr=>by simp[frM]at hr) hI).mono λe w2 ⟨v,σ2,he,XN,_⟩=>?_
 rcases XN with⟨ys,ts2,G2,rfl,ZQ,_⟩|⟨q,vs,l,pv,ts2,G2,ZU,_⟩
 rotate_left
 ·rw[ZU]at Zp;simp[tD]at Zp
 have Vr:ys=res.cells.map unV:=by
  have hlen:res.cells.length=ys.length:=ZQ.hand;apply List.ext_getElem
  ·rw[List.length_map,hlen]
  ·intro j h1 h2
   have hj:j<res.cells.length:=by omega
   have WW:=List.all_eq_true.1 Zp res.cells[j] (List.getElem_mem hj)
   have hown:=ZQ.hand_own (j:=j) hj (by
    intro e;rw[e]at WW
    simp[tD]at WW)
   rw[List.getElem_map]
   have e1:ys.getD j undef=ys[j]:=by simp[oGD,h1]
   rw[e1]at hown
   cases hc:res.cells[j]with
   |v x=>
    rw[hc]at hown
    cases hown with
    |v _ _=>rfl
   |_=>rw[hc]at WW;simp[tD]at WW
 subst Vr;exact⟨he,⟨ZQ.fram.os,ZQ.fram.tape,ZQ.fram.output,ZQ.fram.size,λk hk=>ZQ.fram.old k hk (λh=>h) λ_ _ _ _ h=>by simp[frM]at h⟩⟩
section
variable {P:Program} {M:Fm} {σ σ':St} {H:List TV} {xs:List Value} {ts:Array Value} {w:World} {G:Gh} {a:Act} {o:Oper}
theorem yv{t t':TV}{x:Value}(hI:Inv M σ H xs ts w G)(hx:TmR w (G.F M.A) σ.v (b8 M σ H) G t x)(hr:(see1 t).run σ=some (t',σ')):σ'=σ/\fj w (λ_=>True) t' x:=by
 cases hx with
 |v h=>
  obtain⟨rfl,rfl⟩:=hr;exact⟨rfl,.v h⟩
 |nil=>
  obtain⟨rfl,rfl⟩:=hr;exact⟨rfl,.sl 1 (λ_ _=>.nilFunc) (λi h=>by simp at h) (Nat.le_refl _) (Nat.zero_le _) (λ_=>rfl) (λi j h=>by simp at h) (λi j h=>by simp at h)⟩
 |sl h=>
  obtain⟨rfl,rfl⟩:=hr;exact⟨rfl,h.frame (λ_ _ _=>rfl) λ_ _ _=>trivial⟩
 |dead=>simp[see1,SP.run]at hr
 |ptr=>simp[see1,SP.run]at hr
 |ip=>simp[see1,SP.run]at hr
 |agg=>simp[see1,SP.run]at hr
 |tup=>simp[see1,SP.run]at hr
 |fn=>simp[see1,SP.run]at hr
 |pw=>simp[see1,SP.run]at hr
 | @pk p vs x V0 h0 hv hok=>
  obtain⟨_,σ1,h1,h2⟩:=bG hr;have e1:=(bS h1).1;have e2:=(bS h1).2;subst e1;obtain⟨_,c,ZI,Z7⟩:=hok e2;simp only[SP.run]at h2
  have Z9:p.root≠M.hr:=by
   intro e;rw[e]at h2;rw[hI.hr_dead]at h2;cases hp:p.hops<;>rw[hp]at h2<;>simp[bY,SP.run]at h2
  obtain⟨u,fp,h4,h5,_⟩:=hI.core.hv_own p Z7 (by simp);rw[bZ Z9]at Z7;rw[Z7]at h2;obtain⟨rfl,rfl⟩:=h2;rw[ZI]at h4
  injection h4 with h4
  subst h4;exact⟨rfl,h5.share'.frame (λ_ _ _=>rfl) λ_ _ _=>trivial⟩
theorem CG:∀{l l':List TV}{ys:List Value},Inv M σ H xs ts w G->l.length=ys.length->(∀j (h:j<l.length),TmR w (G.F M.A) σ.v (b8 M σ H) G l[j] (ys.getD j undef))->(seeL l).run σ=some (l',σ')->
 σ'=σ/\l'.length=l.length/\∀j (h:j<l'.length),fj w (λ_=>True) l'[j] (ys.getD j undef):=by
 intro l
 induction l generalizing σ σ' with
 |nil=>
  intro l' ys hI hl _ hr;simp only[seeL,SP.run,oSJ,oPJ]at hr
  simp_all
 |cons t l ih=>
  intro l' ys hI hl ht hr
  cases ys with
  |nil=>simp at hl
  |cons y ys=>
   obtain⟨t',σ1,h1,h2⟩:=bG hr;have ⟨r',σ2,h3,h4⟩:=bG h2;obtain⟨rfl,rfl⟩:=h4;obtain⟨rfl,k1⟩:=yv hI (by have:=ht 0 (by simp);simpa using this) h1;obtain⟨rfl,k2,k3⟩:=ih hI (by simpa using hl) (λj h=>by have:=ht (j+1) (by simpa using h);simpa using this) h3;refine⟨rfl,by simp[k2],λj h=>?_⟩
   cases j with
   |zero=>simpa using k1
   |succ j=>have:=k3 j (by simpa using h);simpa using this
theorem CH{t t':TV}{x:Value}(hI:Inv M σ H xs ts w G)(hx:TmR w (G.F M.A) σ.v (b8 M σ H) G t x)(hr:(seeA t).run σ=some (t',σ')):σ'=σ/\tA w t' x:=by
 have one:(see1 t).run σ=some (t',σ')->σ'=σ/\tA w t' x:=λh=>by
  obtain⟨e,k⟩:=yv hI hx h;exact⟨e,k.plain⟩
 cases t with
 |agg l=>
  obtain⟨l',σ1,h1,h2⟩:=bG hr;obtain⟨rfl,rfl⟩:=h2
  cases hx with
  | @agg _ ys hl ht=>
   obtain⟨e,k1,k2⟩:=CG (ys:=ys.toList) hI (by simp_all) (λj h=>by simp_all) h1;refine⟨e,λF V C G' hF=>.agg (by rw[hl,k1]) λj hj=>?_⟩;have:=k2 j hj
   have e3:ys.getD j undef=ys.toList.getD j undef:=by simp_all
   rw[e3];exact this.plain F V C G' hF
 |ip cs=>
  obtain⟨rfl,rfl⟩:=hr
  cases hx with
  |ip u hc hr=>exact⟨rfl,λF V C G' hF=>.ip u (λj hj=>⟨hF _,(hc j hj).2⟩) λj hj=>(hr j hj).frame (λ_ _ _=>rfl) λk _ _=>hF k⟩
 |fn f cap=>
  simp only[seeA]at hr;split at hr
  ·rename_i hc;obtain⟨rfl,rfl⟩:=hr;rw[List.all_eq_true]at hc
   cases hx with
   |fn hl ht=>exact⟨rfl,λF V C G' hF=>.fn hl λj hj=>(((ht j hj).imC (hc _ (List.getElem_mem hj))).frame (λ_ _ _=>rfl) λk _ _=>hF k).toTm⟩
  ·simp[SP.run]at hr
 |_=>exact one hr
theorem Ay:∀{l:List Opd}{l':List Operand}{X4:List TV}{σ σ':St},Inv M σ [] [] a.tmps w G->l'.length=l.length->(∀j (h:j<l.length)(h':j<l'.length),bJ l'[j]=some l[j])->(seeAs l).run σ=some (X4,σ')->
 σ'=σ/\X4.length=l.length/\∀j (h:j<X4.length)(h':j<l'.length),tA w X4[j] (a.eval l'[j]):=by
 intro l
 induction l with
 |nil=>
  intro l' X4 σ σ' hI hl hc hr;simp[seeAs,SP.run]at hr
  simp_all
 |cons x l ih=>
  intro l' X4 σ σ' hI hl hc hr
  cases l' with
  |nil=>simp at hl
  |cons x' l'=>
   obtain⟨t,σ1,h1,h2⟩:=bG hr;obtain⟨t',σ2,h3,h4⟩:=bG h2;obtain⟨r,σ3,h5,h6⟩:=bG h4;obtain⟨rfl,rfl⟩:=h6;obtain⟨rfl,ht⟩:=cr hI.tmr (by have:=hc 0 (by simp) (by simp);simpa using this) h1;obtain⟨rfl,k1⟩:=CH hI ht h3;obtain⟨rfl,k2,k3⟩:=ih (l':=l') hI (by simpa using hl) (λj h h'=>by have:=hc (j+1) (by simpa using h) (by simpa using h');simpa using this) h5;refine⟨rfl,by simp[k2],λj h h'=>?_⟩
   cases j with
   |zero=>exact k1
   |succ j=>exact k3 j (by simpa using h) (by simpa using h')
theorem Bq{F:cM}(hF:fa P F){asq:List Value}{vals:List TV}{Za:FuncId}(hd:∀d,o.dst=some d->d<M.N/\M.pr (2*d+2)=none)(hI1:Inv M σ [] [] a.tmps w G)(hal:asq.length=vals.length)
 (W6:∀j (h:j<vals.length)(h':j<asq.length),tA w vals[j] asq[j])(h2:(callB F o.dst Za vals).run σ=some ((),σ'))(YI:iE P Za->(execOp a.eval o).run P w=.ok (.enter Za asq.toArray) w):DG P M σ' a o w:=by
 intro K' Q hK;obtain⟨r,σ1,h3,h4⟩:=bG h2
 have Xn:F Za vals []=some r/\σ1=σ:=by
  cases hq:F Za vals []with
  |none=>rw[hq]at h3;simp[fb,SP.run]at h3
  |some y=>
   rw[hq]at h3;simp only[fb,SP.run,oSJ,oPJ]at h3
   simp_all
 obtain⟨Xn,rfl⟩:=Xn;split at h4
 case isFalse=>simp[SP.run]at h4
 rename_i YB;simp only[oBA,oDE]at YB;obtain⟨res,ZE⟩:=r;obtain rfl:ZE=[]:=oEN YB.1.1;obtain⟨YP,Ww⟩:=calls_flat hF Xn YB.1.2 hal W6;unfold Oper.wp;rw[YI YP,Oper.upon_enter];refine Ww.mono λe w2 ⟨he,hb⟩=>?_;subst he;simp only;have ZQ:=(hI1.grow (w':=w2) (λk hk=>hb.block k hk) hb.size hb.os hb.tape hb.output).1;refine hK (a.put o.dst (ir res.sh (res.cells.map unV))) w2 G ?_ (is _ _ _)
 cases hdst:o.dst with
 |none=>
  rw[hdst]at h4;simp only[SP.run,oSJ,oPJ,true_and]at h4;rw[<- h4];exact ZQ
 |some d=>
  rw[hdst]at h4;simp only[wr,SP.run,oSJ,oPJ,true_and]at h4;rw[<- h4];refine ZQ.wrT (hd d hdst).1 (sa YB.2 (by simp) λj hj=>?_);have WW:=List.all_eq_true.1 YB.1.2 res.cells[j] (List.getElem_mem hj)
  have e1:(res.cells.map unV).getD j undef=unV res.cells[j]:=by simp[oGD,hj]
  rw[e1]
  cases hc:res.cells[j]with
  |v x=>rw[hc]at WW;exact .v WW
  |_=>rw[hc]at WW;simp[tD]at WW
end
section
variable {P:Program} {M:Fm} {σ σ':St} {H:List TV} {xs:List Value} {ts:Array Value} {w:World} {G:Gh} {a:Act} {o:Oper}
theorem t7:∀{q:List (GP×List TV)}{σ σ':St},(putBack q).run σ=some ((),σ')->∀x∈q,x.2.length=x.1.cells.length:=by
 intro q
 induction q with
 |nil=>simp_all
 |cons y q ih=>
  intro σ σ' h x hx;have ⟨_,σ1,h1,h2⟩:=bG h;split at h2
  ·rename_i YB;rcases List.mem_cons.1 hx with rfl|hx
   ·simp_all
   ·exact ih h1 x hx
  ·simp[SP.run]at h2
theorem mq.nodup{i:Nat}{vals:List TV}{asq us:List Value}{K:List (GP×Addr)}(h:mq w i vals asq K us):gR (K.map λx=>x.1.i)=true/\∀x∈K,i<=x.1.i:=by
 induction h with
 |nil=>exact⟨rfl,λx hx=>by simp_all⟩
 |ptr hr hb hs h0 hh hu hc hok h ih=>
  refine⟨?_,λx hx=>?_⟩
  ·simp only[List.map_cons,gR,oBA,Bool.not_eq_true',List.contains_eq_mem,decide_eq_false_iff_not];refine⟨λhm=>?_,ih.1⟩;have ⟨y,hy,e⟩:=List.mem_map.1 hm;have:=ih.2 y hy;omega
  ·rcases List.mem_cons.1 hx with rfl|hx
   ·simp_all
   ·have:=ih.2 x hx;omega
 |arg ha h ih=>exact⟨ih.1,λx hx=>by have:=ih.2 x hx;omega⟩
 |own h ih=>exact⟨ih.1,λx hx=>by have:=ih.2 x hx;omega⟩
theorem CQ{K:List (GP×Addr)}(Zu:gR (K.map λx=>x.1.i)=true):∀x∈K,prK K (2*x.1.i+2)=some (x.2.block,x.2.off,x.1.cells.length):=by
 induction K with
 |nil=>simp_all
 |cons y K ih=>
  intro x hx;simp only[List.map_cons,gR,oBA,Bool.not_eq_true',List.contains_eq_mem,decide_eq_false_iff_not]at Zu;simp[prK];rcases List.mem_cons.1 hx with rfl|hx
  ·simp
  ·rw[oIN]
   ·exact ih Zu.2 x hx
   ·intro e;exact Zu.1 (List.mem_map.2 ⟨x,hx,by omega⟩)
theorem vF{α β:Type}{K:List (GP×Addr)}{f:GP×Addr->List α}{g:GP×Addr->List β}(h:∀x∈K,(f x).length=(g x).length):(K.flatMap f).length=(K.flatMap g).length:=by
 induction K with
 |nil=>rfl
 |cons x K ih=>simp_all
theorem rJ{α β:Type}:∀{a:List α}{b c:List β},a.length<=b.length->a.zip (b++c)=a.zip b:=by
 intro a
 induction a with
 |nil=>simp_all
 |cons x a ih=>
  intro b c h
  cases b with
  |nil=>simp at h
  |cons y b=>simp_all
def lN(σ:St)(x:GP×Addr):List TV:=(b6 σ.ce (2*x.1.i+2)).getD []
def pM(σ:St)(G:Gh)(w:World)(x:GP×Addr):List Value:=(List.range (lN σ x).length).map (G.val w (2*x.1.i+2))
theorem mq.hands2{vals:List TV}{asq us:List Value}{K:List (GP×Addr)}{N:Nat}{σ2:St}{res ys:_}{ts2:Array Value}{w2:World}{G2:Gh}(h:mq w 0 vals asq K us)(Z3:∀x∈K,0<x.1.cells.length)
 (h2:Inv (M.into w G (prK K) N) σ2 res ys ts2 w2 G2)(hlen:∀x∈K,(lN σ2 x).length=x.1.cells.length):
 B3 res ys (res++K.flatMap (lN σ2)) (ys++K.flatMap (pM σ2 G2 w2)) (b8 (M.into w G (prK K) N) σ2 res) G2 w2 (prK K) (λr=>res.length+bsK K r):=by
 have QU:∀x∈K,(pM σ2 G2 w2 x).length=x.1.cells.length:=λx hx=>by simp[pM,hlen x hx]
 refine⟨?_,λj hj=>⟨by simp;omega,List.getElem_append_left hj,?_⟩,λr b o n hp t ht=>?_,λj hj=>?_,λr b o n r' b' o' n' hp hp' j j' hj ZY e=>B0 _ _ _ _ _ _ _ _ hp hp' j j' hj ZY (by omega)⟩
 ·rw[List.length_append,List.length_append,h2.hand,vF (f:=lN σ2) (g:=pM σ2 G2 w2) λx hx=>by rw[hlen x hx,QU x hx]]
 ·rw[oGD,oGD,List.getElem?_append_left (by rw[<- h2.hand];exact hj)]
 ·obtain⟨x,x1,x2,x3,x4,x5,x6,x7⟩:=sY hlen hp;obtain⟨y,y1,y2,y3,y4,y5,y6,y7⟩:=sY QU hp;have ST:x=y:=me h.nodup.1 x1 y1 (by omega);subst ST
  have UQ:t<(lN σ2 x).length:=by rw[hlen x x1];omega
  have e1:=x7 t ht;rw[oGE UQ]at e1;obtain⟨k1,k2⟩:=oGS e1;refine⟨by rw[List.length_append];omega,by omega,?_,?_⟩
  ·have e2:(res++K.flatMap (lN σ2))[res.length+bsK K r+t]'(by rw[List.length_append];omega)=(K.flatMap (lN σ2))[bsK K r+t]:=by
    rw[List.getElem_append_right (by omega)];congr 1;omega
   rw[e2,k2]
   rw[bZ (by have:r≠1:=by omega
             exact this)]
   unfold St.c
   have hb:lN σ2 x=(b6 σ2.ce r).getD []:=by rw[x2];rfl
   cases ha:b6 σ2.ce r with
   |none=>rw[hb,ha]at UQ;simp at UQ
   |some l=>
    simp only[hb,ha,Option.getD_some]at UQ⊢;simp[UQ]
  ·have e3:=y7 t ht;rw[oGD,List.getElem?_append_right (by rw[<- h2.hand];omega)];rw[show res.length+bsK K r+t-ys.length=bsK K r+t by rw[<- h2.hand];omega];rw[e3,x2];simp[pM,UQ]
 ·by_cases hj1:j<res.length
  ·exact .inl hj1
  ·right;have hc:(K.flatMap (lN σ2)).length=(fi K).length:=vF hlen;obtain⟨r,b,o,n,t,c1,c2,c3⟩:=El h.nodup.1 (j:=j-res.length) (by rw[List.length_append]at hj;omega);exact⟨r,b,o,n,t,c1,c2,by omega⟩
theorem yL:∀{l:List TV}{p:bQ}{σ σ':St},p.hops=[]->(putL p l).run σ=some ((),σ')->(∀o,o<p.off->σ'.c p.root o=σ.c p.root o)/\∀t (h:t<l.length),σ'.c p.root (p.off+t)=l[t]:=by
 intro l
 induction l with
 |nil=>
  intro p σ σ' _ h;simp only[putL,SP.run,oSJ,oPJ,true_and]at h
  simp_all
 |cons y l ih=>
  intro p σ σ' hp h;obtain⟨r,off,hops⟩:=p;simp only at hp;subst hp;simp only[putL]at h;obtain⟨_,σ1,h1,h2⟩:=bG h
  have ZJ:(∀o,o≠off->σ1.c r o=σ.c r o)/\σ1.c r off=y:=by
   obtain⟨old,l1,vr,hg,hl,ho,hσ1,_⟩:=vj h1;subst hσ1;refine⟨λo hne=>?_,?_⟩
   ·simp only[St.c,cn,if_true,hl];simp[List.getElem?_set,Ne.symm hne]
   ·simp only[St.c,cn,if_true];simp[dk,List.getElem?_set,ho]
  cases l with
  |nil=>
   simp only[SP.run,oSJ,oPJ,true_and]at h2;subst h2;refine⟨λo ho=>ZJ.1 o (by simp only at ho;omega),λt ht=>?_⟩
   have:t=0:=by simp at ht;omega
   subst this;exact ZJ.2
  |cons y2 l=>
   have X8:(⟨r,off,[]⟩:bQ).add 1=⟨r,off+1,[]⟩:=rfl;rw[X8]at h2;obtain⟨k1,k2⟩:=ih (p:=⟨r,off+1,[]⟩) rfl h2;refine⟨λo ho=>?_,λt ht=>?_⟩
   ·simp only at ho;exact(k1 o (by show o<off+1;omega)).trans (ZJ.1 o (by omega))
   ·cases t with
    |zero=>simp_all
    |succ t=>
     have:=k2 t (by simpa using ht);rw[show off+(t+1)=off+1+t by omega];simpa using this
theorem sf{x:GP×Addr}{f:GP×Addr->List TV}(hx:x.1.p.hops=[])(h:(putBack ([x].map λx=>(x.1,f x))).run σ=some ((),σ')):∀t,t<(f x).length->σ'.c x.1.p.root (x.1.p.off+t)=(f x).getD t .dead:=by
 intro t ht;have ⟨_,σ1,h1,h2⟩:=bG h;split at h2
 ·rw[(yL hx h2).2 t ht];simp[ht]
 ·simp[SP.run]at h2
theorem vT{F:cM}(hF:fa P F){asq:List Value}{vals:List TV}{ns:List (Option Nat)}{Za:FuncId}{σ1:St}{G1:Gh}(hd:∀d,o.dst=some d->d<M.N/\M.pr (2*d+2)=none)(hI1:Inv M σ1 [] [] a.tmps w G1)(hns:ns.length=vals.length)(hal:asq.length=vals.length)
 (W6:∀j (h:j<vals.length)(h':j<asq.length),TmR w (G1.F M.A) σ1.v (b8 M σ1 []) G1 vals[j] asq[j])(h2:(callV F o.dst Za ns vals).run σ1=some ((),σ'))(YI:iE P Za->(execOp a.eval o).run P w=.ok (.enter Za asq.toArray) w):DG P M σ' a o w:=by
 intro K' Q hK;unfold callV at h2;obtain⟨ow,σ0,O4,h2⟩:=bG h2;obtain⟨q,σ2,h3,h4⟩:=bG h2
 have W8:(ns.zip vals).length=vals.length:=by simp[hns]
 have VT:(ns.zip vals).map (·.2)=vals:=by
  rw[List.map_snd_zip];omega
 have Rb:∀{σ1:St}{H1:List TV}{G1:Gh},(∀j (h:j<vals.length)(h':j<asq.length),TmR w (G1.F M.A) σ1.v (b8 M σ1 H1) G1 vals[j] asq[j])->∀j (h:j<(ns.zip vals).length)(h':j<asq.length),TmR w (G1.F M.A) σ1.v (b8 M σ1 H1) G1 (ns.zip vals)[j].2 asq[j]:=λh j h1 h2=>by
  have hj:j<vals.length:=by rw[<- W8];exact h1
  have:=h j hj h2;simpa using this
 obtain⟨zs,G0,V5,Sq,T8⟩:=tM hI1 (by omega) (Rb W6) O4;obtain⟨us,G2,K,RX,VY,Xx,Uq⟩:=A5 (asq:=asq) V5.1 (by omega) (Rb λj h h'=>V5.tm (W6 j h h')) h3;have UO:=A4 h3;have ZM:=V5.trans RX;rw[VT]at Xx;obtain⟨_,σ3,h5,h6⟩:=bG h4
 have Vx:([]:List TV)++ow.map (·.2)++q.flatMap (·.cells)=ow.map (·.2)++fi K:=by rw[<- VY];simp[fi,List.flatMap_map]
 rw[Vx,List.nil_append]at ZM;rw[Vx]at Uq;have hz:zs.length=ow.length:=Sq.facts.1
 have Sv:∀j p vs,vals[j]?=some (.pk p vs)->∃x∈ow,x.1=j:=λj p vs hj=>by
  obtain⟨hjl,PC⟩:=oGS hj
  have R9:j<ns.length:=by omega
  have SX:(ns.zip vals)[j]?=some (ns[j],.pk p vs):=by
   rw[oGE (by omega)];simp[PC]
  have hn:=UO j _ p vs SX;rw[hn]at SX;obtain⟨x,h7,h8⟩:=T8 j p vs SX;exact⟨x,h7,by omega⟩
 obtain⟨rfl,PS⟩:=AB ZM.1 h5;split at h6
 case isFalse=>simp[SP.run]at h6
 rename_i YB;simp only[oBA,List.all_eq_true,oDE]at YB;obtain⟨Zu,Z3⟩:=YB;have Xk:∀x∈K,0<x.1.cells.length:=λx hx=>Z3 x.1 (by rw[<- VY];exact List.mem_map_of_mem hx)
 have Yn:=λj h h'=>by
  have:=ZM.tm (W6 j h (by omega));simpa using this
 have Xd:∀x∈K,x.1.p.root≠1/\G2.addr w x.1.p=some x.2/\(∃t,bY (b8 M σ3 (ow.map (·.2)++fi K) x.1.p.root x.1.p.off) x.1.p.hops=some t)/\((∃o n,G2.β x.1.p.root=some (x.2.block,o,n))\/G2.φ x.1.p.root x.1.p.off x.2.block):=λx hx=>by
  obtain⟨r1,ad,r2,r3,_,r4,r5⟩:=PS x.1 (by rw[<- VY];exact List.mem_map_of_mem hx) _ (Uq x hx)
  injection r2 with r2
  injection r2 with r2
  subst r2;exact⟨r1,r3,r4,r5⟩
 have hh:=Xx.hands ZM.1 Sq (by rw[VY];exact Zu) Xk λx hx=>⟨(Xd x hx).1,(Xd x hx).2.2.2⟩;obtain⟨r,σ4,h7,h8⟩:=bG h6
 have Xn:F Za (argTs 0 vals) (q.map (λg=>(2*g.i+2,g.cells))++ow.map λx=>(2*x.1+3,[x.2]))=some r/\σ4=σ3:=by
  cases hq:F Za (argTs 0 vals) (q.map (λg=>(2*g.i+2,g.cells))++ow.map λx=>(2*x.1+3,[x.2]))with
  |none=>rw[hq]at h7;simp[fb,SP.run]at h7
  |some r'=>
   rw[hq]at h7;simp only[fb,SP.run,oSJ,oPJ]at h7;exact⟨by rw[h7.1],h7.2.symm⟩
 obtain⟨Xn,rfl⟩:=Xn;obtain⟨res,ZE⟩:=r;simp only at h8;split at h8
 case isFalse=>simp[SP.run]at h8
 rename_i V3;simp only[oBA,oDE]at V3;obtain⟨_,σ5,h9,ZS⟩:=bG h8;obtain⟨YP,N,hN,Ww⟩:=hF Za _ _ _ _ Xn;rw[tu]at hN
 have Ug:(q.map (λg=>(2*g.i+2,g.cells))++ow.map λx=>(2*x.1+3,[x.2]))=ceK K++ceO ow:=by rw[<- VY];simp[ceK,ceO]
 have hin:=Xx.enter ZM.1 Sq Sv hh Yn (N:=N) (by omega)
 have U5:=Ww (M.into w G2 (prK K) N) asq w (G2.into (prK K) (λr=>ow.length+bsK K r) (owK ow) (zs++us)) (by rw[tu];exact hal) rfl rfl (λr hr=>by
  have hr:prK K r≠none:=hr
  cases hp:prK K r with
  |none=>exact absurd hp hr
  |some y=>
   obtain⟨b,o,n⟩:=y;obtain⟨x,x1,x2,_⟩:=fI hp;obtain⟨_,_,p,vs,s1⟩:=Xx.slot x x1;refine⟨x.1.i,⟨2*x.1.i+2,0,p.hops⟩,List.replicate (p.hops.length+1) 0,?_,x2⟩;rw[tw];have s1:vals[x.1.i]?=some (.ptr p vs):=s1;rw[s1]
   simp[argT]) (by rw[Ug];exact hin)
 have hrun:=YI YP;unfold Oper.wp;rw[hrun,Oper.upon_enter];refine U5.mono λe w2 ⟨v,σc,he,XN,Uh⟩=>?_;subst he;simp only
 have SW:q.zip (ZE.map (·.2))=K.map λx=>(x.1,lN σc x):=by
  rw[Uh,Ug,<- VY];simp only[ceK,List.map_append,List.map_map];rw[rJ (by simp),List.zip_map'];rfl
 rw[SW]at h9;have Xi:∀x∈K,(lN σc x).length=x.1.cells.length:=λx hx=>t7 h9 _ (List.mem_map.2 ⟨x,hx,rfl⟩);have Zq:=CQ Xx.nodup.1
 have hlt:∀x∈K,x.2.block<w.heap.size:=λx hx=>by
  obtain⟨cur,e,fz,hb,_⟩:=jO (hh.here _ _ _ _ (Zq x hx) 0 (Xk x hx)).1;exact(Array.getElem?_eq_some_iff.1 hb).1
 have Wa:∀x∈K,∀y∈K,x.2.block=y.2.block->x=y:=λx hx y hy e=>by
  have h1:=Zq x hx;have h2:=Zq y hy;rw[<- e]at h2;have:=hh.inj _ _ _ _ _ _ _ h1 h2;exact me Xx.nodup.1 hx hy (by omega)
 have back:∀{Hc:List TV}{ys:List Value}{ts2:Array Value}{Gc:Gh},Inv (M.into w G2 (prK K) N) σc Hc ys ts2 w2 Gc->∃G4,Inv M σ5 Hc ys a.tmps w2 G4/\G4.β=G2.β:=by
  intro Hc ys ts2 Gc WS;have O':=Xx.hands2 (M:=M) (G:=G2) (N:=N) Xk WS Xi;have hsz:w.heap.size<=w2.heap.size:=WS.fram.size
  obtain⟨G3,WX,PG,hβ3⟩:=ZM.1.leave hh WS O' (w':=RWs w K w2) BB rG.1 rG.2.1 rG.2.2 (λk hk=>Es λx hx=>hk _ _ _ _ (Zq x hx)) (λr b o n hp=>by
   obtain⟨x,x1,x2,x3,_⟩:=fI hp;rw[x3]
   exact Et (hlt x x1) (Nat.lt_of_lt_of_le (hlt x x1) hsz) ⟨x,x1,rfl⟩)
  obtain⟨G4,Vy,PY,OD,hβ4⟩:=wE (w:=w) (f:=lN σc) (v:=pM σc Gc w2) (λx=>by simp[pM]) (K:=K) (W:=w2) WS.hand WX (λx hx=>by
   have hp:=Zq x hx;obtain⟨hβ,cur0,cur,e,fz,p1,p2,p3,p4⟩:=WS.fram.par _ _ _ _ hp
   have Vn:(pM σc Gc w2 x).length=x.1.cells.length:=by simp[pM,Xi x hx]
   refine⟨cur0,cur,e,fz,p1,p2,p3,λj hj=>p4 j (by rw[Vn]at hj;exact hj),λj hj=>?_⟩;have V1:=WS.core.boxcell hβ (o:=j) (by omega);obtain⟨YN,e',Ou,c1,c2,c3⟩:=jO V1;rw[p2]at c1
   injection c1 with c1
   injection c1 with c1 _ _
   subst c1;rw[c3]
   simp[pM]) (λx hx e=>by have h1:=Xi x hx;have h2:=Xk x hx;rw[e,List.length_nil]at h1;omega) Wa (by rw[<- VY]at Zu;simpa[Function.comp_def]using Zu) (λx hx=>by
   obtain⟨r1,r2,⟨t,r3⟩,_⟩:=Xd x hx;obtain⟨t',k1,k2⟩:=PG.keeps.ptr x.1.p x.2 t r1 rfl r2 r3
   exact⟨r1,k1,t',k2⟩) h9
  exact⟨G4,Vy,hβ4.trans hβ3⟩
 rcases XN with⟨ys,ts2,Gc,rfl,WS,T'⟩|⟨pl,OO,fl,pv,ts2,Gc,ZU,⟨shr,hsh⟩,Zp,rfl,WS,VP⟩
 ·obtain⟨G4,Vy,_⟩:=back WS
  have hP:isP res=false:=by
   cases hp:isP res with
   |false=>rfl
   |true=>
    unfold isP at hp;split at hp
    ·rename_i OP p vs l1 e1 e2;have:=T' 0 (by rw[e2];simp);simp[e2,cy,gD]at this
    ·cases hp
  rw[hP]at ZS V3;simp only[Bool.false_eq_true,if_false,Bool.false_or]at ZS V3;obtain⟨G5,WR⟩:=CZ Vy T' V3.2 (dst:=o.dst) (λd hd'=>(hd d hd').1) ZS;refine hK (a.put o.dst (ir res.sh ys)) w2 G5 ?_ (is _ _ _)
  cases hdst:o.dst with
  |none=>rw[hdst]at WR;exact WR
  |some d=>rw[hdst]at WR;exact WR
 ·obtain⟨G4,Vy,hβ4⟩:=back WS
  have hP:isP res=true:=by unfold isP;rw[ZU,hsh]
  rw[hP]at ZS;simp only[if_true]at ZS
  have RT:∃G5,Inv M σ' [] [] (match o.dst with|some d=>a.tmps.setIfInBounds d (pX pv (fl.map unV))|none=>a.tmps) w2 G5:=by
   cases hdst:o.dst with
   |none=>
    rw[hdst]at ZS;simp only[landP,SP.run,oSJ,oPJ,true_and]at ZS;subst ZS;exact⟨G4,Vy⟩
   |some d=>
    rw[hdst,ZU]at ZS;simp only[landP]at ZS;split at ZS
    case h_2=>simp[SP.run]at ZS
    rename_i ON Qj l' g Vj XY
    injection Vj with Vj Q2
    injection Vj with Vj _
    subst Vj;subst Q2;split at ZS
    case isFalse=>simp[SP.run]at ZS
    rename_i Tx;simp only[oBA,beq_iff_eq,List.isEmpty_iff]at Tx;obtain⟨Z9,Yi⟩:=Tx;obtain⟨OL,σ6,Xc,UF⟩:=bG ZS;rw[nh,kI]at Xc
    injection Xc with Xc
    injection Xc with Xc O3
    subst Xc;subst O3;simp only[wr,SP.run,oSJ,oPJ,true_and]at UF;subst UF;obtain⟨x,rfl⟩:∃x,K=[x]:=List.length_eq_one_iff.1 (by have:=congrArg List.length VY;simpa using this)
    have SN:x.1=g:=by simpa using VY
    have SO:x∈[x]:=by simp
    obtain⟨r1,r2,_,_⟩:=Xd x SO;have hp:=Zq x SO;obtain⟨hβc,_⟩:=WS.fram.par _ _ _ _ hp
    have QP:x.1.p.hops=[]:=by rw[SN];exact Yi
    have Ya:pl.root=2*x.1.i+2:=by rw[SN];exact Z9
    obtain⟨b0,o0,n0,hβ0,Tt⟩:∃b0 o0 n0,G4.β x.1.p.root=some (b0,o0,n0)/\x.2=⟨b0,o0+x.1.p.off,none⟩:=by
     rw[hβ4];unfold Gh.addr at r2;rw[QP]at r2;simp only at r2
     cases hb:G2.β x.1.p.root with
     |none=>rw[hb]at r2;simp at r2
     |some y=>
      obtain⟨b0,o0,n0⟩:=y;rw[hb]at r2
      injection r2 with r2
      exact⟨b0,o0,n0,rfl,r2.symm⟩
    have Wy:=sf QP h9;refine⟨G4,Vy.wrT (hd d hdst).1 (yq (.ptr _ (λ_=>Nat.le_refl _) rfl λ_=>?_) Zp)⟩;rw[<- SN];obtain⟨_,ad,t,ha,hv,ht⟩:=VP;refine⟨r1,ad,?_⟩
    have hval:G4.val w2 x.1.p.root (x.1.p.off+pl.off)=Gc.val w2 pl.root pl.off:=by
     unfold Gh.val;rw[hβ0,Ya,hβc];simp only[Tt,Nat.add_assoc]
    cases hho:pl.hops with
    |nil=>
     rw[hho]at ht;refine⟨_,?_,hv,rfl⟩;rw[<- ha];unfold Gh.addr;simp only[hho,hβ0,Ya,hβc,Tt,Nat.add_assoc]
    |cons h1 hs=>
     rw[hho]at ht;refine⟨t,?_,hv,?_⟩
     ·rw[<- ha];unfold Gh.addr;simp only[hho];rw[hval]
     ·have Sm:x.1.p.root≠M.hr:=r1;rw[bZ Sm]
      have Zb:pl.off<x.1.cells.length:=by
       rcases Nat.lt_or_ge pl.off x.1.cells.length with h|h
       ·exact h
       ·have:=WS.core.boxc _ _ _ _ hβc pl.off h;rw[Ya]at ht;rw[this]at ht;simp[bY]at ht
      have Zv:=Wy pl.off (by rw[Xi x SO];exact Zb)
      have UL:b8 (M.into w G2 (prK [x]) N) σc [] pl.root pl.off=(lN σc x).getD pl.off .dead:=by
       rw[Ya,bZ (by show 2*x.1.i+2≠1;omega)];unfold lN St.c
       cases b6 σc.ce (2*x.1.i+2)with
       |none=>simp
       |some l=>rfl
      rw[UL]at ht;rw[Zv];exact ht
  obtain⟨G5,WR⟩:=RT;refine hK (a.put o.dst (pX pv (fl.map unV))) w2 G5 ?_ (is _ _ _)
  cases hdst:o.dst with
  |none=>rw[hdst]at WR;exact WR
  |some d=>rw[hdst]at WR;exact WR
theorem ji{Za:FuncId}{args':Array Operand}{caps:Array Value}{fo:Operand}{VU:Array TypeId}(ho:o.op=.call ⟨.value fo,args',VU⟩)(hv:a.eval fo=.func (.func Za) #[] caps)(YP:iE P Za):
 (execOp a.eval o).run P w=.ok (.enter Za (args'.map a.eval++caps)) w:=by
 unfold execOp;simp only[resolve];simp[Deferred.ofValue,invoke];have:=YP (args'.map a.eval++caps) w
 simp_all
theorem Bb{E:Env}(hB:xx P E){asq:List Value}{vals:List TV}{Za:FuncId}{n:Nat}{tm:List BxC}(RE:E.box Za=some (n,tm))(hn:vals.length=n){σ1:St}{G1:Gh}(hd:∀d,o.dst=some d->d<M.N/\M.pr (2*d+2)=none)(hI1:Inv M σ1 [] [] a.tmps w G1)(hal:asq.length=vals.length)
 (W6:∀j (h:j<vals.length)(h':j<asq.length),TmR w (G1.F M.A) σ1.v (b8 M σ1 []) G1 vals[j] asq[j])(h2:(evBox o.dst tm vals).run σ1=some ((),σ'))(YI:iE P Za->(execOp a.eval o).run P w=.ok (.enter Za asq.toArray) w):DG P M σ' a o w:=by
 intro K' Q hK;obtain⟨YP,Zp,ty,Ww⟩:=hB Za n tm RE
 cases hdst:o.dst with
 |none=>rw[hdst]at h2;simp[evBox,SP.run]at h2
 |some d=>
  rw[hdst]at h2;obtain⟨Pl,YL⟩:=hd d hdst;obtain⟨l,σ2,h3,h4⟩:=bG h2
  obtain⟨Sg,ZJ,G2,ZM⟩:=jD (ys:=tm.map (bxV asq)) hI1 (by simp) (λj h=>by
   have hj:j<tm.length:=by simpa using h
   simp only[List.getElem_map,oGD,List.getElem?_map,oGE hj,oMS,Option.getD_some]
   cases hb:tm[j]with
   |val x=>exact .v (Zp x (by rw[<- hb];exact List.getElem_mem hj))
   |arg i=>
    simp only[bxT,bxV];by_cases hi:i<vals.length
    ·simp_all
    ·have:vals.getD i .dead=.dead:=by simp[oGD,oGN (by omega:vals.length<=i)]
     rw[this];exact .dead) h3
  obtain⟨G3,WX,_,hβ⟩:=ZM.1.newBox (2*d+2) ty (by omega) YL (by omega);have XH:(wr d (.ptr ⟨2*d+2,0,[]⟩ [(σ2.root (2*d+2) l).v (2*d+2,0,0)])).run (σ2.root (2*d+2) l)=some ((),σ'):=h4;simp only[wr,SP.run,oSJ,oPJ,true_and]at XH;subst XH;unfold Oper.wp;rw[YI YP,Oper.upon_enter];refine(Ww asq w (by omega) ZJ).mono λe w2 ⟨he,hw⟩=>?_;subst he;subst hw;simp only;refine hK (a.put o.dst (.pointer (some ⟨w.heap.size,0,none⟩))) _ G3 ?_ (is _ _ _);rw[hdst];refine WX.wrT Pl (.ptr (σ2.root (2*d+2) l).v (λ_=>Nat.le_refl _) (by simp[eK]) λ_=>⟨by simp_all,⟨w.heap.size,0,none⟩,_,?_,rfl,rfl⟩);unfold Gh.addr
  simp_all
theorem vc{E:Env}{F:cM}(hB:xx P E)(hF:fa P F):oV P M eV (evCall E F):=by
 intro o t σ σ' a w G hc hd hI hr;rcases hc with rfl|hc
 ·simp[evop,evCall,Dn,SP.run]at hr
 cases ho:o.op with
 |call c=>
  rw[ho]at hc;obtain⟨callee,args,VU⟩:=c
  cases callee with
  |value fo=>
   cases t with
   |call k f' args'=>
    simp only[jr]at hc;obtain⟨hf,hlen,Wu⟩:=hc;simp only[evop]at hr
    cases f' with
    |f Za=>
     have TI:fo=.func Za:=by cases fo<;>simp[bJ]at hf;rw[hf]
     have U':∀Za,fo=.func Za->iE P Za->(execOp a.eval o).run P w=.ok (.enter Za (args.toList.map a.eval).toArray) w:=λZa TI YP=>by
      have:=ji (a:=a) (w:=w) ho (by rw[TI];rfl:a.eval fo=.func (.func Za) #[] #[]) YP
      have ea:(args.toList.map a.eval).toArray=args.map a.eval:=by apply Array.ext';rw[Array.toList_map]
      rw[ea];simpa using this
     have U':=U' Za TI;simp only[evCall]at hr
     cases k with
     |false=>
      simp only[Bool.false_eq_true,if_false]at hr;obtain⟨vals,σ1,h1,h2⟩:=bG hr;obtain⟨rfl,YU,W6⟩:=Ay (l':=args.toList) hI (by simp[hlen]) (λj h h'=>by have:=Wu j (by simpa using h) (by simpa using h');simpa using this) h1
      have Us:vals.length=args'.length:=by rw[YU];simp
      exact Bq hF hd hI (by simp;omega) (λj h h'=>by have:=W6 j h (by simpa using h');simpa using this) h2 U'
     |true=>
     simp only[if_true]at hr;obtain⟨vals,σ1,h1,h2⟩:=bG hr;obtain⟨G1,ZN,YU,W6⟩:=vY (l':=args.toList) hI (by simp[hlen]) (λj h h'=>by have:=Wu j (by simpa using h) (by simpa using h');simpa using this) h1;have Us:vals.length=args'.length:=YU;split at h2
     ·rename_i x RE;split at h2
      case isFalse=>simp[SP.run]at h2
      rename_i hn;exact Bb hB RE hn hd ZN.1 (by simp;omega) (λj h h'=>by have:=W6 j h (by simpa using h');simpa using this) h2 U'
     ·exact vT hF hd ZN.1 (by simp;omega) (by simp;omega) (λj h h'=>by have:=W6 j h (by simpa using h');simpa using this) h2 U'
    |t i=>
     simp only[evCall,SP.run]at hr;split at hr
     case h_2=>simp[SP.run]at hr
     rename_i Za caps htv;obtain⟨vals,σ1,h1,h2⟩:=bG hr;obtain⟨G1,ZN,YU,W6⟩:=vY (l':=args.toList) hI (by simp[hlen]) (λj h h'=>by have:=Wu j (by simpa using h) (by simpa using h');simpa using this) h1;have Us:vals.length=args'.length:=YU
     have TI:fo=.tmp i:=by cases fo<;>simp[bJ]at hf;rw[hf]
     have Zn:=hI.tmr i;rw[htv]at Zn
     have X5:a.eval fo=a.tmps.getD i undef:=by rw[TI];rfl
     generalize hz:a.tmps.getD i undef=z at Zn X5
     cases Zn with
     | @fn _ _ xs Zf TC=>
      have U':iE P Za->(execOp a.eval o).run P w=.ok (.enter Za (args.toList.map a.eval++xs.toList).toArray) w:=λYP=>by
       have:=ji (a:=a) (w:=w) ho X5 YP
       have ea:(args.toList.map a.eval++xs.toList).toArray=args.map a.eval++xs:=by apply Array.ext';simp
       rw[ea];exact this
      have Ty:xs.toList.length=caps.length:=by simpa using Zf
      exact vT hF hd ZN.1 (by simp[Bp];omega) (by simp;omega) (λj h h'=>by
       by_cases hj:j<vals.length
       ·have:=W6 j hj (by simp;omega);simpa[List.getElem_append_left,hj,List.getElem_append,show j<args.size by omega]using this
       ·have Yv:j-vals.length<caps.length:=by simp at h;omega
        have:=ZN.tm (TC (j-vals.length) Yv)
        have VG:¬j<args.size:=by omega
        have e1:args.size=vals.length:=by omega
        simp only[List.getElem_append,hj,dite_false,List.length_map,Array.length_toList,VG,Array.getElem_toList];simp only[e1]
        have e2:xs.getD (j-vals.length) undef=xs[j-vals.length]:=by simp[Array.getD_eq_getD_getElem?,show j-vals.length<xs.size by omega]
        rw[<- e2]
        exact this) h2 U'
    |_=>simp[evCall,SP.run]at hr
   |_=>simp[jr]at hc
  |_=>cases t<;>simp[jr]at hc
 |_=>rw[ho]at hc;cases t<;>simp[jr]at hc
end
theorem jC{P:Program}{ops:Array Oper}{Q:Exit->Act->World->Prop}{i:Nat}{L:List Nat}{a:Act}{w:World}{o:Oper}{v:Value}(ho:ops[i]?=some o)(hg:o.guard=none)(hrun:(execOp a.eval o).run P w=.ok (.value v) w)(h:wpOps P ops Q L (a.put o.dst v) w):wpOps P ops Q (i::L) a w:=by
 simp[wpOps,ho];rw[oIP (by simp[Region.wanted,hg])];left;unfold Oper.wp;rw[hrun];exact h
structure z1 (P:Program)(c rest:Code):Prop where
 ex:∃(i0 i1 i2:Nat)(o0 o1 o2 o3:Oper)(ty ty2 e:TypeId),c=.seq (.region i0 #[o0] false) (.seq (.seq (.region i1 #[o1,o2] false) (.cond (.tmp 4) (.seq (.region i2 #[o3] false) .ret) .skip)) rest)/\
  (o0.dst=some 2/\o0.guard=none/\o0.op=.assign (.const (.slice none 0 0)))/\(o1.dst=some 3/\o1.guard=none/\o1.op=.move (.tmp 0))/\
  (o2.dst=some 4/\o2.guard=none/\o2.op=.binOp .eql ty (.tmp 3) (.const (.slice none 0 0)) ty2)/\(o3.dst=some 2/\o3.guard=none/\o3.op=.assign (.const (.slice none 0 0)))/\P.underlying ty=some (.slice e)
def oK(ts:Array Value)(x:Value)(b:Bool):Array Value:=((ts.setIfInBounds 2 (.slice none 0 0)).setIfInBounds 3 x).setIfInBounds 4 (.bool b)
theorem Bm{P:Program}{c rest:Code}(hc:z1 P c rest){ad:Option Addr}{n cap:Nat}{ts:Array Value}{w:World}{Q:Exit->Act->World->Prop}(h0:ts.getD 0 undef=.slice ad n cap)(hN:4<ts.size)
 (hnil:ad=none->Q .ret ⟨(oK ts (.slice ad n cap) true).setIfInBounds 2 (.slice none 0 0),[]⟩ w)(ZW:ad≠none->rest.wp P Q ⟨oK ts (.slice ad n cap) false,[]⟩ w):c.wp P Q ⟨ts,[]⟩ w:=by
 obtain⟨i0,i1,i2,o0,o1,o2,o3,ty,ty2,e,rfl,⟨d0,g0,p0⟩,⟨d1,g1,p1⟩,⟨d2,g2,p2⟩,⟨d3,g3,p3⟩,hu⟩:=hc.ex
 have WQ:∀{o:Oper}{a:Act}{x:Operand},(o.op=.assign x\/o.op=.move x)->(execOp a.eval o).run P w=.ok (.value (a.eval x)) w:=λho=>by rcases ho with ho|ho<;>simp[execOp,ho]
 refine wp_seq (wp_region ?_);show wpOps P #[o0] _ [0] _ w;refine jC (o:=o0) rfl g0 (WQ (.inl p0)) ?_;rw[d0];refine wp_seq (wp_seq (wp_region ?_));show wpOps P #[o1,o2] _ [0,1] _ w;refine jC (o:=o1) rfl g1 (WQ (.inr p1)) ?_;rw[d1]
 have e0:(ts.setIfInBounds 2 (.slice none 0 0)).getD 0 undef=.slice ad n cap:=by
  rw[<- h0];simp[Array.getD_eq_getD_getElem?,Array.getElem?_setIfInBounds]
 have e3:((ts.setIfInBounds 2 (.slice none 0 0)).setIfInBounds 3 (.slice ad n cap)).getD 3 undef=.slice ad n cap:=by
  simp[Array.getD_eq_getD_getElem?,Array.getElem?_setIfInBounds,show 3<ts.size by omega]
 have Xl:(execOp (Act.mk ((ts.setIfInBounds 2 (.slice none 0 0)).setIfInBounds 3 (.slice ad n cap)) []).eval o2).run P w=.ok (.value (.bool ad.isNone)) w:=by
  have hb:=Lib.run_eql_slice_nil (P:=P) w ty e ad n cap 0 0 hu;have ex:(Act.mk ((ts.setIfInBounds 2 (.slice none 0 0)).setIfInBounds 3 (.slice ad n cap)) []).eval (.tmp 3)=.slice ad n cap:=e3;have ey:∀a:Act,a.eval (.const (.slice none 0 0))=.slice none 0 0:=λ_=>rfl;have hg:(eqGuard .eql ty (.tmp 3) (.const (.slice none 0 0)) (.slice ad n cap) (.slice none 0 0)).run P w=.ok () w:=rfl;simp[execOp,p2,ex,ey,hb,hg]
 refine jC (o:=o2) (v:=.bool ad.isNone) rfl g2 ?_ ?_
 ·show(execOp (Act.mk ((ts.setIfInBounds 2 (.slice none 0 0)).setIfInBounds 3 ((ts.setIfInBounds 2 (.slice none 0 0)).getD 0 undef)) []).eval o2).run P w=_;rw[e0];exact Xl
 rw[d2];show(Code.cond (.tmp 4) _ _).wp P _ ⟨((ts.setIfInBounds 2 (.slice none 0 0)).setIfInBounds 3 ((ts.setIfInBounds 2 (.slice none 0 0)).getD 0 undef)).setIfInBounds 4 (.bool ad.isNone),[]⟩ w;rw[e0]
 have e4:∀b,(oK ts (.slice ad n cap) b).getD 4 undef=.bool b:=λb=>by
  unfold oK;simp[Array.getD_eq_getD_getElem?,Array.getElem?_setIfInBounds,hN]
 cases ad with
 |none=>
  refine wp_cond_true (e4 true) (wp_seq (wp_region ?_));show wpOps P #[o3] _ [0] _ w;refine jC (o:=o3) rfl g3 (WQ (.inl p3)) ?_;rw[d3];exact wp_ret (hnil rfl)
 |some ad=>exact wp_cond_false (e4 false) (wp_skip (ZW (by simp)))
def tj(sz:Nat)(b:Bool)(bytes:Nat)(mv fl:Bool)(id:Nat):ff:=
 .seq (.reg id none [⟨some 5,none,.bsl sz b 0 []⟩,⟨some 6,none,.mov (.t 0)⟩,⟨some 7,none,.app sz bytes mv fl (.t 5) (.t 6)⟩,⟨some 2,none,.asn true (.t 7)⟩] ([2],[7])) .ret
def th(call:Option Nat->TOp->SP Unit)(N:Nat)(tc:ff):Option (List TV×List RSh):=(runC call N tc (mkSt [.sl []] [])).bind λx=>match x.1 with|.exit _=>none|_=>((resF 1 [.tmp 2]).run x.2).map (·.1)
theorem xk(call:Option Nat->TOp->SP Unit)(N sz:Nat)(b:Bool)(bytes:Nat)(mv fl:Bool)(id:Nat):th call N (tj sz b bytes mv fl id)=th (λ_ _=>.fail) 0 (tj sz b bytes mv fl id):=rfl
def nz(tc:ff):Bool:=match th (λ_ _=>.fail) 0 tc with
 |some ([.ow []],[.one])=>true
 |_=>false
theorem uJ{tc:ff}(h:nz tc=true):th (λ_ _=>.fail) 0 tc=some ([.ow []],[.one]):=by
 unfold nz at h
 grind
def gQ(pp:List Nat):Nat->List TV->Bool
 |_,[]=>true
 |i,.ptr _ _::r=>pp.contains i&&gQ pp (i+1) r
 |i,.sl _::r=>gQ pp (i+1) r
 |i,_::r=>!pp.contains (1000+i)&&gQ pp (i+1) r
theorem yO{pp:List Nat}:∀{l:List TV}{i:Nat},gQ pp i l=true->∀j p vs,l[j]?=some (.ptr p vs)->i+j∈pp:=by
 intro l
 induction l with
 |nil=>simp_all
 |cons t l ih=>
  intro i h j p vs hj
  have hr:gQ pp (i+1) l=true:=by
   cases t<;>simp only[gQ,oBA]at h<;>first|exact h.2|exact h
  cases j with
  |zero=>
   have:t=.ptr p vs:=by simp_all
   subst this;simp[gQ,List.contains_eq_mem,oDE]at h;exact h.1
  |succ j=>
   have:=ih hr j p vs (by simp_all);rw[show i+(j+1)=i+1+j by omega];exact this
def runT(E:Env)(F:cM)(n:Nat)(tf:TFn)(vals:List TV)(pts:Pts):Option (uP×Pts):=
 if vals.length=tf.np/\(gQ tf.pp 0 vals&&(!tf.pp.contains 1000||pts.isEmpty))=true then
  (runC (evCall E F) n tf.body (mkSt vals pts)).bind λx=>match x.1 with
   |.exit _=>none
   |_=>((resF tf.np tf.res).run x.2).bind λy=>some (⟨y.1.1,y.1.2⟩,pts.map λx=>(x.1,(b6 y.2.ce x.1).getD []))
 else none
def tN(E:Env)(T:FuncId->Option TFn)(B F:cM)(n:Nat):cM:=λf vals pts=>
 match T f with
 |none=>B f vals pts
 |some tf=>runT E F n tf vals pts
def runF(E:Env)(T:FuncId->Option TFn)(B:cM):Nat->cM
 |0=>λ_ _ _=>none
 |n+1=>tN E T B (runF E T B n) n
def z0(P:Program)(tf:TFn)(c:Code):Prop:=
 tf.np=1/\tf.pp=[1000]/\tf.nt=8/\tf.res=[.tmp 2]/\nz tf.body=true/\(∃sz b bytes mv fl id,tf.body=tj sz b bytes mv fl id)/\
  ∃rest,z1 P c rest/\∀M:Fm,M.N=tf.nt->(∀r,M.pr r≠none->∃i∈tf.pp,r=2*i+2)->d7 P M eV tf.body rest
def xu(P:Program)(T:FuncId->Option TFn):Prop:=
 ∀f tf,T f=some tf->∃fn c,P.funcs[f]?=some fn/\(fn.name=="runtime.NumGoroutine")=false/\fn.body=some c/\fn.ntmps=tf.nt/\tf.np<=tf.nt /\
  ((∀M:Fm,M.N=tf.nt->(∀r,M.pr r≠none->∃i∈tf.pp,r=2*i+2)->d7 P M eV tf.body c)\/z0 P tf c)/\tf.res.length=fn.results.size/\∀k (h:k<tf.res.length)(h':k<fn.results.size),uQ P tf.res[k] fn.results[k]
section
variable {P:Program} {E:Env} {T:FuncId->Option TFn} {B F:cM}
def EH(tf:TFn)(pts:Pts)(x:fe×St):Option (uP×Pts):=match x.1 with
 |.exit _=>none
 |_=>((resF tf.np tf.res).run x.2).bind λy=>some ((⟨y.1.1,y.1.2⟩:uP),pts.map λ(x:Nat×List TV)=>(x.1,(b6 y.2.ce x.1).getD []))
theorem uN{tf:TFn}{fn:Func}{M:Fm}{σ1:St}{a':Act}{w':World}{G':Gh}{pts ZE:Pts}{res:uP}{e:fe}(Xy:tf.res.length=fn.results.size)(YD:∀k (h:k<tf.res.length)(h':k<fn.results.size),uQ P tf.res[k] fn.results[k])
 (ZL:Inv M σ1 [] [] a'.tmps w' G')(hd:a'.defers=[])(h2:EH tf pts (e,σ1)=some (res,ZE)):
 bodyPost P fn (λe w2=>∃v σ2,e=.returned v/\Ez M res v σ2 w2/\ZE=pts.map λ(x:Nat×List TV)=>(x.1,(b6 σ2.ce x.1).getD [])) e.toExit a' w':=by
 unfold EH at h2
 have Uy:∀y,(resL tf.np tf.res).run σ1=some y->some ((⟨y.1.1,y.1.2⟩:uP),pts.map λx=>(x.1,(b6 y.2.ce x.1).getD []))=some (res,ZE)->a'.defers=[]/\∃v,(results fn a'.tmps).run P w'=.ok v w' /\
  ∃v' σ2,Ending.returned v=.returned v'/\Ez M res v' σ2 w'/\ZE=pts.map λx=>(x.1,(b6 σ2.ce x.1).getD []):=by
  rintro⟨r,σ2⟩ hr he;obtain⟨vs,ys,G2,hrun,hg,hl,hok,PT⟩:=CN (qs':=fn.results.toList) ZL (by simpa using Xy) (λk h h'=>by have:=YD k h (by simpa using h');simpa using this) hr
  injection he with he
  injection he with TF RO
  subst TF;subst RO;refine⟨hd,ir r.2 ys,?_,ir r.2 ys,σ2,rfl,.inl ⟨ys,a'.tmps,G2,rfl,by simpa using hg.1,hok⟩,rfl⟩;unfold results;rw[Array.mapM_eq_mapM_toList];simp only[Sem.run_bind,Sem.run_map]
  erw[hrun]
  unfold ir;rw[PT]
  cases vs with
  |nil=>rfl
  |cons v vs=>
   cases vs with
   |nil=>rfl
   |cons v2 vs=>rfl
 have ZZ:∀y,(resF tf.np tf.res).run σ1=some y->some ((⟨y.1.1,y.1.2⟩:uP),pts.map λx=>(x.1,(b6 y.2.ce x.1).getD []))=some (res,ZE)->a'.defers=[]/\∃v,(results fn a'.tmps).run P w'=.ok v w' /\
  ∃v' σ2,Ending.returned v=.returned v'/\Ez M res v' σ2 w'/\ZE=pts.map λx=>(x.1,(b6 σ2.ce x.1).getD []):=by
  intro y hr he;unfold resF at hr;split at hr
  ·rename_i t rs Up;simp only[SP.run]at hr;split at hr
   ·rename_i p vs htv;obtain⟨_,σ2,h3,h4⟩:=bG hr;have e1:σ2=σ1:=(bS h3).1;have e2:=(bS h3).2;subst e1;obtain⟨fl,σ3,h5,h6⟩:=bG h4;simp only[SP.run,oSJ]at h6;subst h6
    injection he with he
    injection he with TF RO
    subst TF;subst RO;have Zn:=ZL.tmr t;rw[htv]at Zn
    obtain⟨q0,qs',Vm⟩:∃q0 qs',fn.results.toList=q0::qs':=by
     have hlen:fn.results.toList.length=rs.length+1:=by rw[Array.length_toList,<- Xy,Up];rfl
     cases hl:fn.results.toList with
     |nil=>rw[hl]at hlen;simp at hlen
     |cons q0 qs'=>exact⟨q0,qs',rfl⟩
    have VQ:∀(L:List TRs)(L':List ResultVar),tf.res=L->fn.results.toList=L'->∀k (h:k<L.length)(h':k<L'.length),uQ P L[k] L'[k]:=by
     rintro _ _ rfl rfl k h h';have:=YD k h (by simpa using h');simpa using this
    have PP:q0=.tmp t:=VQ _ _ Up Vm 0 (by simp) (by simp)
    have XR:rs.length=qs'.length:=by
     have h7:fn.results.toList.length=rs.length+1:=by rw[Array.length_toList,<- Xy,Up];rfl
     rw[Vm]at h7;simpa using h7.symm
    obtain⟨rfl,ZX,hrun⟩:=zA (qs':=qs') ZL XR (λk h h'=>VQ _ _ Up Vm (k+1) (by simpa using h) (by simpa using h')) h5
    have Xl:(fn.results.toList.mapM λ(q:ResultVar)=>(match q with|.tmp t=>(pure (a'.tmps.getD t undef):Sem Value)|.cell a t=>do loadVar t (<- asAddr (a'.tmps.getD a undef)))).run P w'=.ok (a'.tmps.getD t undef::fl.map unV) w':=by
     rw[Vm,PP,List.mapM_cons,Sem.run_bind];show Result.andThen (.ok (a'.tmps.getD t undef) w') _=_;simp only[Result.andThen_ok,Sem.run_bind];refine(congrArg (λr=>Result.andThen r _) hrun).trans ?_;simp
    generalize a'.tmps.getD t undef=z at Zn Xl
    cases Zn with
    |ptr V0 h0 hv hok=>
     have hp:=hok e2;refine⟨hd,pX z (fl.map unV),?_,pX z (fl.map unV),σ3,rfl,.inr ⟨p,vs,fl,z,a'.tmps,G',rfl,⟨_,rfl⟩,ZX,rfl,ZL,hp⟩,rfl⟩;unfold results;rw[Array.mapM_eq_mapM_toList];simp only[Sem.run_bind,Sem.run_map]
     erw[Xl]
     cases fl with
     |nil=>rfl
     |cons y l=>rfl
   ·exact Uy y (by rw[Up];exact hr) he
  ·exact Uy y hr he
 cases e with
 |exit i=>simp at h2
 |normal=>
  simp only at h2;obtain⟨y,h3,h4⟩:=bN h2;exact ZZ y h3 h4
 |ret=>
  simp only at h2;obtain⟨y,h3,h4⟩:=bN h2;exact ZZ y h3 h4
theorem Aa(hT:xu P T)(hE:xx P E)(hB:fa P B)(hF:fa P F)(n:Nat):fa P (tN E T B F n):=by
 intro f vals pts res ZE h;unfold tN at h
 cases ht:T f with
 |none=>rw[ht]at h;exact hB f vals pts res ZE h
 |some tf=>
  rw[ht]at h;simp only[runT]at h;split at h
  case isFalse=>simp at h
  rename_i hnp;obtain⟨hnp,Ud⟩:=hnp;simp only[oBA]at Ud;obtain⟨Sw,QY⟩:=Ud;obtain⟨⟨e,σ1⟩,h1,h2⟩:=bN h;obtain⟨fn,c,hf,VI,hb,PK,XQ,YV,Xy,YD⟩:=hT f tf ht;refine⟨oG hf VI hb,tf.nt,by omega,λM asq w G hal hN Vo YL hI=>?_⟩;refine calls_of_wp hf hb ?_
  have Pc:fn.ntmps-asq.toArray.size=tf.nt-asq.length:=by rw[PK];simp
  rw[Pc]
  have Ue:∀r,M.pr r≠none->∃i∈tf.pp,r=2*i+2:=λr hr=>by obtain⟨i,p,vs,h3,h4⟩:=YL r hr;exact⟨i,by simpa using yO Sw i p vs h3,h4⟩
  rcases YV with YV|⟨c1,c2,c3,c4,c5,⟨sz,b,bytes,mv,fl,id,c6⟩,rest,Zf,YV⟩
  ·exact vb (vc hE hF) n tf.body c _ e σ1 ⟨asq.toArray++Array.replicate (tf.nt-asq.length) undef,[]⟩ w G _ (YV M hN Ue) h1 hI λa' w' G' ZL hd=>uN Xy YD ZL hd h2
  ·
   obtain⟨v0,rfl⟩:∃v,vals=[v]:=List.length_eq_one_iff.1 (by rw[hnp,c1]);obtain⟨x0,rfl⟩:∃x,asq=[x]:=List.length_eq_one_iff.1 (by rw[hal];rfl)
   have QX:pts=[]:=by rw[c2]at QY;simpa using QY
   subst QX
   obtain⟨l0,rfl⟩:∃l,v0=.sl l:=by
    rw[c2]at Sw;cases v0<;>simp[gQ]at Sw;exact⟨_,rfl⟩
   have hv:=hI.tmr 0;have e0:(mkSt [TV.sl l0] ([]:Pts)).t 0=.sl l0:=rfl
   have e1:(#[x0]++Array.replicate (tf.nt-1) undef).getD 0 undef=x0:=by simp[Array.getD_eq_getD_getElem?,Array.getElem?_append]
   have hv:TmR w (G.F M.A) (mkSt [TV.sl l0] ([]:Pts)).v (b8 M (mkSt [TV.sl l0] ([]:Pts)) []) G (.sl l0) x0:=by
    have:=hI.tmr 0;rw[e0]at this;rw[show([x0]:List Value).toArray=#[x0]from rfl,show([x0]:List Value).length=1 from rfl,e1]at this;exact this
   cases hv with
   |sl hs=>
    cases hs with
    | @sl _ ad cap zz u hsz hcap hmax T4 hcell hrec=>
     have hdead:∀(H:List TV)(xs:List Value)(ts:Array Value)(d:Nat)(v:Value),0<d->Inv M (mkSt [TV.sl l0] []) H xs ts w G->Inv M (mkSt [TV.sl l0] []) H xs (ts.setIfInBounds d v) w G:=by
      intro H xs ts d v hd hI;refine⟨hI.core,λi=>?_,hI.fram,hI.keys,by rw[Array.size_setIfInBounds];exact hI.size,hI.hand,hI.hval,hI.shape⟩;by_cases hi:i=d
      ·subst hi
       have:(mkSt [TV.sl l0] ([]:Pts)).t i=.dead:=by
        simp[St.t,mkSt,dp,b6,show ¬ 0=i by omega]
       rw[this];exact .dead
      ·have:(ts.setIfInBounds d v).getD i undef=ts.getD i undef:=by simp[Array.getD_eq_getD_getElem?,Array.getElem?_setIfInBounds,Ne.symm hi]
       rw[this];exact hI.tmr i
     refine Bm Zf (ad:=ad) (n:=l0.length) (cap:=cap) (by simp[Array.getD_eq_getD_getElem?,Array.getElem?_append]) (by simp[c3]) (λZe=>?_) (λ_=>?_)
     ·have WX:=hdead _ _ _ 4 (.bool true) (by decide) (hdead _ _ _ 3 (.slice ad l0.length cap) (by decide) (hdead _ _ _ 2 (.slice none 0 0) (by decide) hI));subst Ze;have VC:=T4 rfl;have WD:l0=[]:=oEN (by omega);subst WD;have Vy:=WX.wrT (d:=2) (by omega) (t:=.ow []) (x:=.slice none 0 0) .nil;have hrun:=uJ c5;rw[c6,<- xk (evCall E F) n,<- c6]at hrun;unfold th at hrun;rw[h1]at hrun;simp only[oBS]at hrun h2
      have Uk:res=⟨[.ow []],[.one]⟩/\ZE=[]:=by
       cases e with
       |exit i=>simp at hrun
       |normal=>
        simp only[c1,c4]at h2;simp only at hrun;obtain⟨y,hy,Vq⟩:=dV hrun;rw[hy]at h2;simp only[oBS,oSJ,oPJ]at h2;rw[Vq]at h2;exact⟨h2.1.symm,by simpa using h2.2.symm⟩
       |ret=>
        simp only[c1,c4]at h2;simp only at hrun;obtain⟨y,hy,Vq⟩:=dV hrun;rw[hy]at h2;simp only[oBS,oSJ,oPJ]at h2;rw[Vq]at h2;exact⟨h2.1.symm,by simpa using h2.2.symm⟩
      obtain⟨rfl,rfl⟩:=Uk
      have h5:EH tf [] (.ret,{ mkSt [TV.sl []] ([]:Pts)with tm:=c7 (mkSt [TV.sl []] ([]:Pts)).tm 2 (.ow []) })=some (⟨[.ow []],[.one]⟩,[]):=by
       unfold EH;simp only[c1,c4];rfl
      obtain⟨T,hT⟩:∃T:Array Value,T=(oK ([Value.slice none ([]:List (List TV)).length cap].toArray++Array.replicate (tf.nt - [Value.slice none ([]:List (List TV)).length cap].length) undef) (.slice none ([]:List (List TV)).length cap) true).setIfInBounds 2 (.slice none 0 0):=⟨_,rfl⟩;have WR:=Vy;unfold oK at hT;rw[<- hT]at WR;have h7:=uN (tf:=tf) (fn:=fn) (P:=P) (pts:=[]) (e:=.ret) (a':=⟨T,[]⟩) (w':=w) (G':=G) Xy YD WR rfl h5;rw[hT]at h7;exact h7
     ·have ZQ:=hdead _ _ _ 4 (.bool false) (by decide) (hdead _ _ _ 3 (.slice ad l0.length cap) (by decide) (hdead _ _ _ 2 (.slice none 0 0) (by decide) hI));exact vb (vc hE hF) n tf.body rest _ e σ1 ⟨oK _ (.slice ad l0.length cap) false,[]⟩ w G _ (YV M hN Ue) h1 ZQ λa' w' G' ZL hd=>uN Xy YD ZL hd h2
theorem runF_ok(hT:xu P T)(hE:xx P E)(hB:fa P B):∀n,fa P (runF E T B n):=by
 intro n
 induction n with
 |zero=>intro f vals pts res ZE h;simp[runF]at h
 |succ n ih=>exact Aa hT hE hB ih n
end
end Go.Proofs.Ytgphpfjngblbiaa
