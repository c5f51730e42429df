/- Part of the proof; no condition. -/
import Derived.Test.YteonljfnncdijaaGa
import Derived.Laws.StructEq
import Derived.Laws.BytesString
import Derived.Laws.NewFold
import Derived.Laws.IdiomCopy
import Derived.LoopN
import Derived.Orders
import Derived.Lib.SliceRun
set_option linter.unusedVariables false
set_option linter.unusedSimpArgs false
namespace Go.Proofs.Yteonljfnncdijaa
open Go.RowKit
def qn(g:TypeId->Option (List FK)):Nat->List Field->Option (List FK)
 | _,[]=>some []
 | off,f :: fs=>
  if f.name≠"_"/\f.offset=off then
   match g f.type with
   | some ks=>(qn g (off+ks.length) fs).map (ks++·)
   | none=>none
  else none
def jd(P:Program):Nat->TypeId->Option (List FK)
 | 0,_=>none
 | d+1,t=>
  match P.underlying t with
  | some .bool=>some [.b]
  | some (.int _)=>some [.i]
  | some .string=>some [.s]
  | some (.struct fs)=>
   if P.stoodInHeld t then none
   else match qn (jd P d) 0 fs.toList with
    | some ks=>if (P.info? t).map (·.size)=some ks.length then some ks else none
    | none=>none
  | _=>none
theorem uh{α β:Type}{f:α->β}{o:Option α}{b:β}(h:o.map f=some b):∃a,o=some a/\f a=b:=by
 simp_all
theorem rL:∀{ks:List FK}{xs ys:List Value}{r:Bool},bz ks xs ys=some r->xs.length=ks.length/\ys.length=ks.length:=by
 intro ks
 induction ks with
 | nil=>
  intro xs ys r h;cases xs<;>cases ys<;>simp[bz] at h ⊢
 | cons k ks ih=>
  intro xs ys r h
  cases xs with
  | nil=>cases k<;>simp[bz] at h
  | cons x xs=>
   cases ys with
   | nil=>cases k<;>cases x<;>simp[bz] at h
   | cons y ys=>
    cases k<;>cases x<;>cases y<;>simp only[bz] at h<;>first | (simp at h;done) | skip
    ·split at h
     ·obtain⟨r',h1,_⟩:=uh h;have:=ih h1;simp[this.1,this.2]
     ·simp at h
    ·obtain⟨r',h1,_⟩:=uh h;have:=ih h1;simp[this.1,this.2]
    ·obtain⟨r',h1,_⟩:=uh h;have:=ih h1;simp[this.1,this.2]
theorem nB:∀{k1 k2:List FK}{xs ys:List Value}{r:Bool},bz (k1++k2) xs ys=some r ->
 ∃r1 r2,bz k1 (xs.take k1.length) (ys.take k1.length)=some r1/\bz k2 (xs.drop k1.length) (ys.drop k1.length)=some r2/\r=(r1 && r2):=by
 intro k1
 induction k1 with
 | nil=>intro k2 xs ys r h;exact⟨true,r,rfl,h,rfl⟩
 | cons k k1 ih=>
  intro k2 xs ys r h;simp only[List.cons_append] at h
  cases xs with
  | nil=>cases k<;>simp[bz] at h
  | cons x xs=>
   cases ys with
   | nil=>cases k<;>cases x<;>simp[bz] at h
   | cons y ys=>
    have fin:∀(q:Bool) (h:(bz (k1++k2) xs ys).map (q && ·)=some r) (hq:∀X Y,bz (k :: k1) (x :: X) (y :: Y)=(bz k1 X Y).map (q && ·)),∃r1 r2,bz (k :: k1) ((x :: xs).take (k :: k1).length) ((y :: ys).take (k :: k1).length)=some r1/\bz k2 ((x :: xs).drop (k :: k1).length) ((y :: ys).drop (k :: k1).length)=some r2/\r=(r1 && r2):=by
     intro q h hq;obtain⟨r',h1,h2⟩:=uh h;obtain⟨r1,r2,a1,a2,a3⟩:=ih h1;refine⟨q && r1,r2,?_,by simpa using a2,by rw[<- h2,a3,Bool.and_assoc]⟩;simp only[oLC,List.take_succ_cons];rw[hq,a1];rfl
    cases k<;>cases x<;>cases y<;>simp only[bz] at h<;>first | (simp at h;done) | skip
    ·split at h
     ·rename_i e;exact fin _ h λX Y=>by simp only[bz,oIP e]
     ·simp at h
    ·exact fin _ h λX Y=>rfl
    ·exact fin _ h λX Y=>rfl
section
variable {P:Program} {w:World}
theorem mO{d D:Nat}{g:TypeId->Option (List FK)}
 (ih:∀t ks,g t=some ks->∀(xs ys:Array Value) off r,bz ks ((xs.toList.drop off).take ks.length) ((ys.toList.drop off).take ks.length)=some r->∃a b,(part t xs off).run P w=.ok a w/\(part t ys off).run P w=.ok b w/\(Op.equalIn D t a b).run P w=.ok r w) (xs ys:Array Value) :
 ∀(fs:List Field) (o:Nat) (ks:List FK) (r:Bool),qn g o fs=some ks->bz ks (xs.toList.drop o) (ys.toList.drop o)=some r->(Op.eqFields D xs ys fs).run P w=.ok r w:=by
 intro fs
 induction fs with
 | nil=>
  intro o ks r h he;simp only[qn,oSJ] at h;subst h
  have hr:r=true:=by
   revert he;generalize xs.toList.drop o=X;generalize ys.toList.drop o=Y;intro he;cases X<;>cases Y<;>simp[bz] at he;exact he
  subst hr;rfl
 | cons f fs Tu=>
  intro o ks r h he;simp only[qn] at h;split at h
  case isFalse=>simp at h
  rename_i hf;split at h
  case h_2=>simp at h
  rename_i k1 Zf;obtain⟨k2,YG,rfl⟩:=uh h;obtain⟨r1,r2,a1,a2,rfl⟩:=nB he;obtain⟨a,b,p1,p2,p3⟩:=ih f.type k1 Zf xs ys o r1 a1;rw[List.drop_drop,List.drop_drop] at a2;have ZX:=Tu (o+k1.length) k2 r2 YG a2;simp only[Op.eqFields];rw[oIP hf.1,hf.2];simp only[Sem.run_bind,p1,p2,p3,Result.andThen_ok]
  cases r1 with
  | false=>simp
  | true=>simp_all
theorem wC:∀(d:Nat) (t:TypeId) (ks:List FK),jd P d t=some ks->∀D,d<=D->∀(xs ys:Array Value) (off:Nat) (r:Bool),bz ks ((xs.toList.drop off).take ks.length) ((ys.toList.drop off).take ks.length)=some r ->
 ∃a b,(part t xs off).run P w=.ok a w/\(part t ys off).run P w=.ok b w/\(Op.equalIn D t a b).run P w=.ok r w:=by
 intro d
 induction d with
 | zero=>intro t ks h;simp[jd] at h
 | succ d ih=>
  intro t ks h D hD xs ys off r he;obtain⟨D',rfl⟩:∃D',D=D'+1:=⟨D - 1,by omega⟩;simp only[jd] at h
  have one:∀(TG:TypeDesc) (k:FK),P.underlying t=some TG->(∀f,TG≠.struct f)->(∀n e,TG≠.array n e)->ks=[k]->∃x y,xs[off]?=some x/\ys[off]?=some y/\bz [k] [x] [y]=some r/\(part t xs off).run P w=.ok x w/\(part t ys off).run P w=.ok y w:=by
   rintro TG k hu h1 h2 rfl;obtain⟨l1,l2⟩:=rL he
   obtain⟨x,hx⟩:∃x,xs.toList.drop off=x :: (xs.toList.drop (off+1)):=by
    have:off < xs.toList.length:=by simp at l1 ⊢;omega
    exact⟨_,List.drop_eq_getElem_cons this⟩
   obtain⟨y,hy⟩:∃y,ys.toList.drop off=y :: (ys.toList.drop (off+1)):=by
    have:off < ys.toList.length:=by simp at l2 ⊢;omega
    exact⟨_,List.drop_eq_getElem_cons this⟩
   have Xn:xs[off]?=some x:=by
    have:=congrArg (λl=>l[0]?) hx;simpa using this
   have Vk:ys[off]?=some y:=by
    have:=congrArg (λl=>l[0]?) hy;simpa using this
   rw[hx,hy] at he;exact⟨x,y,Xn,Vk,by simpa using he,by simp[part,gk hu h1 h2,Xn],by simp[part,gk hu h1 h2,Vk]⟩
  split at h
  ·rename_i hu
   injection h with h
   obtain⟨x,y,_,_,e,p1,p2⟩:=one _ .b hu (λ_ h=>by cases h) (λ_ _ h=>by cases h) h.symm;refine⟨x,y,p1,p2,?_⟩;cases x<;>cases y<;>simp[bz] at e;simp[Op.equalIn,run_underlying hu,e]
  ·rename_i k0 hu
   injection h with h
   obtain⟨x,y,_,_,e,p1,p2⟩:=one _ .i hu (λ_ h=>by cases h) (λ_ _ h=>by cases h) h.symm;refine⟨x,y,p1,p2,?_⟩
   cases x<;>cases y<;>simp only[bz] at e<;>first | (simp at e;done) | skip
   rename_i ka a kb b;split at e
   ·rename_i hk;subst hk;simp at e;simp[Op.equalIn,run_underlying hu,e]
   ·simp at e
  ·rename_i hu
   injection h with h
   obtain⟨x,y,_,_,e,p1,p2⟩:=one _ .s hu (λ_ h=>by cases h) (λ_ _ h=>by cases h) h.symm;refine⟨x,y,p1,p2,?_⟩;cases x<;>cases y<;>simp[bz] at e;simp[Op.equalIn,run_underlying hu,e]
  ·rename_i fs hu;split at h
   case isTrue=>simp at h
   rename_i hst;split at h
   case h_2=>simp at h
   rename_i VP SN;split at h
   case isFalse=>simp at h
   rename_i hsz
   injection h with h
   subst h
   have Y1:(sizeOf t).run P w=.ok VP.length w:=by
    unfold sizeOf typeInfo
    cases hi:P.info? t with
    | none=>simp[hi] at hsz
    | some i=>simp[hi] at hsz;simp[hi,hsz]
   have V6:∀zs:Array Value,(part t zs off).run P w=.ok (.agg (zs.extract off (off+VP.length))) w:=λzs=>by
    simp[part,fB hu (.inl ⟨_,rfl⟩),Y1]
   refine⟨_,_,V6 xs,V6 ys,?_⟩
   have TM:P.fieldsOf t=fs:=by simp[Program.fieldsOf,hu]
   rw[run_equalIn_struct w D' t _ _ (by rw[TM];exact hu) (by simpa using hst),TM];refine mO (d:=d) (g:=jd P d) (λt ks h xs ys off r he=>ih t ks h D' (by omega) xs ys off r he) _ _ fs.toList 0 VP r SN ?_
   have e:∀zs:Array Value,(zs.extract off (off+VP.length)).toList.drop 0=(zs.toList.drop off).take VP.length:=λzs=>by
    simp[List.extract_eq_take_drop]
   rw[e,e];exact he
  ·simp at h
theorem xg{d D:Nat}{t:TypeId}{ks:List FK}{fs:Array Field}(h:jd P (d+1) t=some ks) (hu:P.underlying t=some (.struct fs)) (hD:d<=D) {xs ys:Array Value}{r:Bool}(he:bz ks xs.toList ys.toList=some r):(Op.equalIn (D+1) t (.agg xs) (.agg ys)).run P w=.ok r w:=by
 simp only[jd,hu] at h;split at h
 case isTrue=>simp at h
 split at h
 case h_2=>simp at h
 rename_i VP SN;split at h
 case isFalse=>simp at h
 have TM:P.fieldsOf t=fs:=by simp[Program.fieldsOf,hu]
 rw[run_equalIn_struct w D t _ _ (by simp_all) (by simp_all),TM];exact mO (d:=d) (λt ks h xs ys off r he=>wC d t ks h D hD xs ys off r he) _ _ fs.toList 0 VP r SN (by simp_all)
variable {M:Fm} {σ σ':St} {G:Gh} {a:Act} {o:Oper}
theorem zj{F:Nat->Prop}{V:Vs}{C:Cs}:∀{l:List TV}{vs:List Value},bn l=some vs->vs.length=l.length/\∀j (h:j < l.length) (h':j < vs.length) (x:Value),TmR w F V C G l[j] x->x=vs[j]:=by
 intro l
 induction l with
 | nil=>intro vs h;simp[bn] at h;subst h;exact⟨rfl,λj h=>by simp at h⟩
 | cons t l ih=>
  intro vs h
  cases t with
  | v z=>
   obtain⟨Q3,h1,rfl⟩:=uh h;have ⟨e,h2⟩:=ih h1;refine⟨by simp[e],λj hj ZZ x hx=>?_⟩
   cases j with
   | zero=>exact hx.v_inv.1
   | succ j=>exact h2 j (by simp_all) (by simp_all) x hx
  | _=>simp[bn] at h
theorem qi{F:Nat->Prop}{V:Vs}{C:Cs}{l:List TV}{vs:List Value}{x:Value}(h:bn l=some vs) (hx:TmR w F V C G (.agg l) x):x=.agg vs.toArray:=by
 obtain⟨xs,rfl,hl,hj⟩:=uV hx;obtain⟨e,h2⟩:=zj h;congr 1;apply Array.ext
 ·simp_all
 ·intro j h1 h3;have:=h2 j (by omega) (by omega) _ (hj j (by omega))
  have e2:xs.getD j undef=xs[j]:=by simp[h1]
  simp_all
theorem vI(hI:Inv M σ [] [] a.tmps w G) {d:Nat}(hd:o.dst=some d) (hN:d < M.N) {x y:Opd}{x' y':Operand}{op:BinOp}{neg:Bool}{t yt:TypeId}{ks:List FK}{fs:Array Field}(hx:aW x'=some x) (hy:aW y'=some y) (ho:o.op=.binOp op t x' y' yt) (hop:(op=.eql/\neg=false)\/(op=.neq/\neg=true))
 (hu:P.underlying t=some (.struct fs)) (hk:jd P 50 t=some ks) (Xi:P.eqGuardType P.depth t=false) (hr:(ev1 d (.eqa ks neg x y)).run σ=some ((),σ')):eZ P M σ' a o w:=by
 obtain⟨t1,σ1,h1,h2⟩:=aT hr;obtain⟨rfl,Z3⟩:=bB hI.tmr hx h1;obtain⟨t2,σ2,h3,h4⟩:=aT h2;obtain⟨rfl,X9⟩:=bB hI.tmr hy h3
 cases t1 with
 | agg l1=>
  cases t2 with
  | agg l2=>
   simp only at h4;obtain⟨R3,σ3,h5,h6⟩:=aT h4;obtain⟨e1,rfl⟩:=gG h5;obtain⟨TU,σ4,h7,h8⟩:=aT h6;obtain⟨e2,rfl⟩:=gG h7;obtain⟨r,σ5,h9,ZS⟩:=aT h8;obtain⟨e3,rfl⟩:=gG h9;have ex:=qi e1 Z3;have ey:=qi e2 X9;have hq:(Op.equalIn 10000 t (.agg R3.toArray) (.agg TU.toArray)).run P w=.ok r w:=xg (d:=49) (D:=9999) hk hu (by omega) (by omega);have hg:(eqGuard op t x' y' (.agg R3.toArray) (.agg TU.toArray)).run P w=.ok () w:=run_eqGuard_agg w op t x' y' _ _ Xi;refine cS hI hd hN (.v rfl) ZS ?_;rcases hop with ⟨rfl,rfl⟩ | ⟨rfl,rfl⟩
   ·simp[execOp,ho,ex,ey,hg,run_eql_struct,hq]
   ·simp[execOp,ho,ex,ey,hg,run_neq_struct,hq]
  | _=>simp[SP.run] at h4
 | _=>simp[SP.run] at h4
end
section
variable {P:Program} {M:Fm} {σ σ':St} {H:List TV} {xs:List Value} {ts:Array Value} {w:World} {G:Gh} {a:Act} {o:Oper}
theorem ux(mx:Bool) (k:IntKind):∀(r:List Value) (x m:Int),la mx k x r=some m->(r.foldlM (if mx then Builtin.max2 else Builtin.min2) (.int k x)).run P w=.ok (.int k m) w:=by
 intro r
 induction r with
 | nil=>
  intro x m h;simp[la] at h
  simp_all
 | cons y r ih=>
  intro x m h
  cases y with
  | int k' b=>
   simp only[la] at h;split at h
   ·rename_i hk;have:=ih _ _ h
    cases mx with
    | true=>
     simpa [Builtin.max2] using this
    | false=>
     simpa [Builtin.min2] using this
   ·simp at h
  | _=>simp[la] at h
theorem zN(hI:Inv M σ [] [] a.tmps w G) {d:Nat}(hd:o.dst=some d) (hN:d < M.N) {mx:Bool}{l:List Opd}{args:Array Operand}{Wb:Array TypeId}(hc:args.toList.map aW=l.map some) (ho:o.op=.call { callee:=.builtin (if mx then .max else .min),args:=args,argTypes:=Wb })
 (hr:(ev1 d (.mm mx l)).run σ=some ((),σ')):eZ P M σ' a o w:=by
 simp only[ev1] at hr;obtain⟨r,σ1,h1,h2⟩:=aT hr
 obtain⟨rfl,e2,e3⟩:=wK (R:=λy x'=>y=a.eval x') (λx x' y σ' hx hy=>by
  obtain⟨t,σ2,q1,q2⟩:=aT hy;obtain⟨rfl,ht⟩:=bB hI.tmr hx q1;obtain⟨rfl,rfl⟩:=gC q2
  exact⟨rfl,(ht.v_inv).1.symm⟩) hc h1
 have W6:args.toList.map a.eval=r:=by
  apply List.ext_getElem
  ·simp[e2]
  ·simp_all
 split at h2
 case h_2=>simp[SP.run] at h2
 rename_i k x rest;obtain⟨m,σ2,h3,h4⟩:=aT h2;obtain⟨hm,rfl⟩:=gG h3;refine cS hI hd hN (x:=.int k m) (.v rfl) h4 ?_;have hf:=ux (P:=P) (w:=w) mx k rest x m hm
 cases mx with
 | true=>
  simp only[if_true] at hf ho;simp[execOp,ho,resolve,invoke,builtin,Builtin.max_,W6,hf]
 | false=>
  simp only[Bool.false_eq_true,if_false] at hf ho;simp[execOp,ho,resolve,invoke,builtin,Builtin.min_,W6,hf]
theorem yv(hI:Inv M σ [] [] a.tmps w G) {d:Nat}(hd:o.dst=some d) (hN:d < M.N) {x i:Opd}{x' i':Operand}{t e n sz:Nat}(hx:aW x'=some x) (hi:aW i'=some i) (ho:o.op=.indexAddr t x' i')
 (hu:P.underlying t=some (.array n e)) (hs:(P.info? e).map (·.size)=some sz) (hr:(ev1 d (.idxa n sz x i)).run σ=some ((),σ')):eZ P M σ' a o w:=by
 have Y1:(sizeOf e).run P w=.ok sz w:=by
  unfold sizeOf typeInfo
  cases hi:P.info? e with
  | none=>simp[hi] at hs
  | some i=>simp[hi] at hs;simp[hi,hs]
 simp only[ev1] at hr;obtain⟨tx,σ1,h1,h2⟩:=aT hr;obtain⟨rfl,Z3⟩:=bB hI.tmr hx h1;obtain⟨ti,σ2,h3,h4⟩:=aT h2;obtain⟨rfl,Wp⟩:=bB hI.tmr hi h3;obtain⟨k,σ3,h5,h6⟩:=aT h4;obtain⟨ik,m,rfl,Xr,hk,rfl⟩:=gH h5;obtain⟨ei,_⟩:=Wp.v_inv
 cases tx with
 | ptr p vs=>
  simp only at h6;obtain⟨_,σ2,h7,h8⟩:=aT h6;have e1:σ2=σ3:=(bf h7).1;have e2:=(bf h7).2;subst e1;split at h8
  case isFalse=>simp[SP.run] at h8
  rename_i hc;simp only[oBA,oDE] at hc;obtain⟨S1,Zx⟩:=hc;generalize hz:a.eval x'=z at Z3
  cases Z3 with
  | ptr V0 h0 hv h=>
   obtain⟨Z7,ad,t0,ha,rfl,Wn⟩:=h e2
   have RF:m < (n:Int):=by omega
   refine cS hI hd hN (x:=.pointer (some (ad.add (k*sz)))) ?_ h8 (by subst hk;simp[execOp,ho,hz,ei,Instr.indexAt,asIntOf,Instr.sureAddr,run_underlying hu,Xr,RF,Y1]);refine .ptr V0 h0 (by rw[sd];exact hv) λ_=>⟨by rw[bP];exact Z7,⟨ad.block,ad.off+k*sz,none⟩,?_⟩;have Zu:=eR ha
   have Yl:ad.add (k*sz)=⟨ad.block,ad.off+k*sz,none⟩:=by
    obtain⟨b,ob,sp⟩:=ad;simp only at Zu;subst Zu;exact b4 b ob (k*sz)
   rcases p.add_cases (k*sz) with ⟨q1,q2⟩ | ⟨hs',i,sz',o',q1,q2⟩
   ·exact⟨bl M σ2 [] p.root (p.off+k*sz),f7 _ ha,by rw[Yl],by rw[q2];rfl⟩
   ·have hlt:o'+k*sz < sz':=by
     unfold ba.fits at Zx;rw[q1] at Zx;simpa using Zx
    rw[q1] at Wn;obtain⟨t',Y6⟩:=sY Wn hlt;exact⟨t',f7 _ ha,by rw[Yl],by rw[q2];exact Y6⟩
 | _=>simp[SP.run] at h6
theorem Ak(hI:Inv M σ [] [] a.tmps w G) {d:Nat}(hd:o.dst=some d) (hN:d < M.N) {x:Opd}{x':Operand}{s t e:TypeId}(hx:aW x'=some x) (ho:o.op=.convert s t x') (hs:P.underlying s=some .string) (ht:P.underlying t=some (.slice e)) (he:P.underlying e=some (.int .u8))
 (hr:(ev1 d (.s2b x)).run σ=some ((),σ')):eZ P M σ' a o w:=by
 simp only[ev1] at hr;obtain⟨tx,σ1,h1,h2⟩:=aT hr;obtain⟨rfl,Z3⟩:=bB hI.tmr hx h1
 cases tx with
 | v y=>
  obtain⟨ex,_⟩:=Z3.v_inv
  cases y with
  | string str=>
   simp only at h2;split at h2
   case isFalse=>simp[SP.run] at h2
   rename_i hsz;obtain⟨n,hn⟩:∃n,n=w.tape w.drawn (.appendCap str.size 0 e):=⟨_,rfl⟩;obtain⟨cap,hcap⟩:∃cap,cap=str.size+n % (2 ^ 63 - str.size):=⟨_,rfl⟩
   have Ro:str.size<=cap:=by omega
   have WR:cap<=maxLen:=by
    have:n % (2 ^ 63 - str.size) < 2 ^ 63 - str.size:=Nat.mod_lt _ (by omega);show cap<=2 ^ 63 - 1;omega
   obtain⟨row,Yn⟩:∃row:Array Value,row=(str.data.map λb=>Value.int .u8 b.toNat)++Array.replicate (cap - str.size) (.int .u8 0):=⟨_,rfl⟩;obtain⟨w1,WH⟩:∃w1,w1=w.drew.alloc (.cells row e):=⟨_,rfl⟩
   have YF:w1.heap=w.heap.push (.cells row e):=by rw[WH];rfl
   have hsh:w1.shape? w.heap.size=some (e,row.size):=by
    unfold World.shape?;rw[YF];simp
   have hrun:(execOp a.eval o).run P w=.ok (.value (.slice (some ⟨w.heap.size,0,none⟩) str.size cap)) (w1.freeze ⟨w.heap.size,row.size,none⟩ 1):=by
    simp only[execOp,ho,ex,convert,Sem.run_bind,run_underlying hs,run_underlying ht,run_underlying he,Result.andThen_ok,Conv.stringToBytes,run_choose_drew,Question.forced,Bool.false_eq_true,if_false,Question.cut,newRow,run_newObj_alloc,Sem.run_pure];rw[<- hn,<- hcap,<- Yn];simp only[show w.drew.heap.size=w.heap.size from rfl,<- WH,markStringish,Sem.run_bind,run_shape,Result.andThen_ok,hsh,run_freeze,Sem.run_pure]
   have ZL:∀k,k < w.heap.size->(w1.freeze ⟨w.heap.size,row.size,none⟩ 1).heap[k]?=w.heap[k]?:=by
    intro k hk;unfold World.freeze;rw[oIN (by decide)];simp only;rw[Array.getElem?_modify];rw[oIN (by omega),YF];simp[Array.getElem?_push,show k≠w.heap.size by omega]
   have ZC:∃fz,(w1.freeze ⟨w.heap.size,row.size,none⟩ 1).heap[w.heap.size]?=some (.cells row e fz):=by
    unfold World.freeze;rw[oIN (by decide)];simp only;rw[Array.getElem?_modify,oIP rfl,YF];exact⟨_,by simp only[Array.getElem?_push_size,oMS];rfl⟩
   obtain⟨fz,ZC⟩:=ZC;obtain⟨ZQ,_⟩:=hI.grow (w':=w1.freeze ⟨w.heap.size,row.size,none⟩ 1) ZL (by unfold World.freeze;rw[oIN (by decide)];simp[YF]) (by rw[WH];rfl) (by rw[WH];rfl) (by rw[WH];rfl);simp only[wr,SP.run,oSJ,oPJ,true_and] at h2;subst h2;refine⟨_,_,_,G,hrun,.inl rfl,?_⟩;rw[hd]
   have T2:(iG str).length=str.size:=by unfold iG;rw[List.length_map,Array.length_toList];rfl
   refine ZQ.wrT hN (.sl ?_)
   have Wq:fh (w1.freeze ⟨w.heap.size,row.size,none⟩ 1) (G.F M.A) (.sl (iG str)) (.slice (some ⟨w.heap.size,0,none⟩) (iG str).length cap):=by
    refine .sl 1 (λi _=>.int .u8 (str.data.getD i 0).toNat) (λi h=>by simp[iG]) (by omega) WR (λh=>by simp at h) (λi j hi hj=>⟨w.heap.size,0,rfl,?_,?_⟩) λi j h h'=>?_
    ·exact⟨M.hA _ hI.fram.size,λr o h=>Nat.lt_irrefl _ (hI.core.live h),λr b o n hb e=>Nat.lt_irrefl _ (e ▸ hI.core.boxlt hb)⟩
    ·have Un:j=0:=by omega
     subst Un;rw[cell_of_row _ _ _ _ _ _ ZC]
     have ZW:i < str.data.size:=by rw[T2] at hi;exact hi
     have hg:str.data[i]?=some str.data[i]:=Array.getElem?_eq_getElem ZW;rw[Yn];simp[Array.getElem?_append,show i < str.size from ZW,Array.getD_eq_getD_getElem?,hg]
    ·have Un:j=0:=by simp[iG] at h';omega
     subst Un
     have ZW:i < str.data.size:=by rw[T2] at h;exact h
     have:(iG str)[i][0]=.v (.int .u8 (str.data.getD i 0).toNat):=by
      have hg:str.data[i]?=some str.data[i]:=Array.getElem?_eq_getElem ZW;simp[iG,Array.getD_eq_getD_getElem?,hg]
     rw[this];exact .v rfl
   rw[T2] at Wq;exact Wq
  | _=>simp[SP.run] at h2
 | _=>simp[SP.run] at h2
theorem xB{c:List (List TV)}:∀{ns:List Int},nE c=some ns->ns.length=c.length/\∀i (h:i < c.length) (h':i < ns.length),c[i]=[.v (.int .u8 ns[i])]:=by
 induction c with
 | nil=>intro ns h;simp only[nE,oSJ] at h;subst h;exact⟨rfl,λi h=>by simp at h⟩
 | cons e c ih=>
  intro ns h;unfold nE at h;split at h
  ·simp_all
  ·rename_i n r h1
   injection h1 with h1 h2
   subst h1;subst h2
   cases hb:nE c with
   | none=>simp_all
   | some l=>
    simp[hb] at h;subst h;obtain⟨e1,e2⟩:=ih hb;refine⟨by simp[e1],λi hi ZW=>?_⟩
    cases i with
    | zero=>rfl
    | succ i=>simp_all
  ·simp at h
theorem AB(hI:Inv M σ [] [] a.tmps w G) {d:Nat}(hd:o.dst=some d) (hN:d < M.N) {x:Opd}{x':Operand}{s t e:TypeId}(hx:aW x'=some x) (ho:o.op=.convert s t x') (hs:P.underlying s=some (.slice e)) (ht:P.underlying t=some .string) (he:P.underlying e=some (.int .u8))
 (hr:(ev1 d (.b2s x)).run σ=some ((),σ')):eZ P M σ' a o w:=by
 simp only[ev1] at hr;obtain⟨tx,σ1,h1,h2⟩:=aT hr;obtain⟨rfl,Z3⟩:=bB hI.tmr hx h1;obtain⟨t',σ2,h3,h4⟩:=aT h2;obtain⟨G1,ZH,_⟩:=c9 hI Z3 h3;simp only[List.nil_append] at ZH;obtain⟨G2,ZM,_⟩:=ZH.1.drop
 have fin:∀str ad len cap,a.eval x'=.slice ad len cap->(Conv.bytesToString (.slice ad len cap)).run P w=.ok (.string str) w->(wr d (.v (.string str))).run σ2=some ((),σ')->eZ P M σ' a o w:=by
  intro str ad len cap ex hrun hw;refine cS ZM.1 hd hN (x:=.string str) (.v rfl) hw ?_;simp only[execOp,ho,Sem.run_bind,ex]
  have:(convert s t (.slice ad len cap)).run P w=.ok (.string str) w:=by
   unfold convert;simp only[Sem.run_bind,run_underlying hs,run_underlying ht,run_underlying he,Result.andThen_ok];exact hrun
  rw[this];rfl
 have hown:=λh=>ZH.1.hand_own (j:=0) (by simp) h;split at h4
 ·rename_i c;obtain⟨str,σ3,h5,h6⟩:=aT h4;obtain⟨hb,rfl⟩:=gG h5;have hown:=hown (by simp);generalize hz:a.eval x'=z at hown
  cases hown with
  | sl hfp h=>
   cases h with
   | @sl _ ad cap sz u hsz hcap hmax hnil hcell hrec=>
    unfold bstr at hb
    cases hbn:nE c with
    | none=>simp[hbn] at hb
    | some ns=>
     simp only[hbn,oMS,oSJ] at hb;obtain⟨hl,Z6⟩:=xB hbn;refine fin str _ _ _ hz ?_ h6
     cases ad with
     | none=>
      have Sz:c.length=0:=by have:=hnil rfl;omega
      have hns:ns=[]:=oEN (by omega);subst hns;rw[<- hb];rfl
     | some ad=>
      rw[<- hb];refine run_bytesToString w ad c.length cap ns ?_
      have:=run_loadCells_list (P:=P) w ad (ns.map (Value.int .u8)) λj v hj=>by
       have hjl:j < ns.length:=by
        rcases Nat.lt_or_ge j ns.length with h | h
        ·exact h
        ·rw[oGN (by simpa using h)] at hj;simp at hj
       have Vc:j < c.length:=by omega
       have e1:=Z6 j Vc hjl
       have YM:sz=1:=by rw[<- hsz j Vc,e1];rfl
       subst YM;obtain⟨b,o',WF,hF,Y7⟩:=hcell j 0 Vc (by omega)
       injection WF with WF
       subst WF;have hr:=hrec j 0 Vc (by rw[e1];simp)
       have e2:c[j][0]'(by rw[e1];simp)=.v (.int .u8 ns[j]):=by simp[e1]
       rw[e2] at hr
       have hu:u j 0=.int .u8 ns[j]:=by
        generalize u j 0=y at hr;cases hr;rfl
       have hv:v=.int .u8 ns[j]:=by simpa [hjl] using hj.symm
       rw[hv,<- hu,b4];simpa using Y7
      simpa [hl] using this
 ·have hown:=hown (by simp);generalize hz:a.eval x'=z at hown
  cases hown with
  | @nil _ ad hfp=>
   refine fin .empty _ _ _ hz ?_ h4
   cases ad with
   | none=>rfl
   | some ad=>
    have:=run_bytesToString (P:=P) w ad 0 0 [] (by simp[loadCells,loadCellsFrom]);simpa using this
  | @ow _ _ b cap cur e' sz' u f hfp hb hsz hcap hz0 hmax hcur hcell hrec hnb hdis=>
   refine fin .empty _ _ _ hz ?_ h4;have:=run_bytesToString (P:=P) w ⟨b,0,none⟩ 0 cap [] (by simp[loadCells,loadCellsFrom]);simpa using this
 ·simp[SP.run] at h4
theorem yz(hI:Inv M σ [] [] a.tmps w G) {d:Nat}{mv:Bool}(hd:o.dst=some d) (hN:d < M.N) {t e n sz:TypeId}{parts:Array (Nat×Operand)}{ps:List (Nat×Nat×Opd)}{z:List Value}(ho:o.op=.build t parts) (hu:P.underlying t=some (.array n e))
 (hz:(P.info? t).bind (·.zero.map (·.cells.toList))=some z) (hs:(P.info? e).map (·.size)=some sz) (hp1:parts.size=ps.length)
 (hp2:∀k (h:k < parts.size) (h':k < ps.length),aW parts[k].2=some ps[k].2.2/\ps[k].1=parts[k].1*sz/\ps[k].2.1=sz/\ps[k].1+ps[k].2.1<=z.length)
 (hr:(ev1 d (.bld z mv ps)).run σ=some ((),σ')):eZ P M σ' a o w:=by
 simp only[ev1] at hr;split at hr
 case isFalse=>simp[SP.run] at hr
 rename_i hok;obtain⟨l,σ1,h1,h2⟩:=aT hr;obtain⟨l',σ2,h3,h4⟩:=aT h2
 obtain⟨G1,g1,VJ,Yg⟩:=ia (a:=a) (pv:=parts.toList.map (·.2)) hI (by
  apply List.ext_getElem
  ·simp[hp1]
  ·intro k hk Y9;have:=(hp2 k (by simpa using hk) (by simpa using Y9)).1
   simpa using this) h1
 obtain⟨G2,ZQ,_,Xj,Yz⟩:=lI g1.1 VJ h3;obtain⟨ys,VN⟩:∃ys,ys=(parts.toList.map (·.2)).flatMap (λx=>(a.eval x).cells.toList):=⟨_,rfl⟩;rw[<- VN] at g1 Yz
 have hlen:l'.length=ys.length:=by rw[Xj];exact g1.1.hand
 have XQ:∀j (h:j < (z.map bA).length) (h':j < z.length),TmR w (G2.F M.A) σ2.v (bl M σ2 []) G2 (z.map bA)[j] z[j]:=λj h h'=>by simp only[List.getElem_map];exact jH _
 obtain⟨r1,r2⟩:=gV (R:=TmR w (G2.F M.A) σ2.v (bl M σ2 []) G2) ps l' ys (z.map bA) z (by simp) XQ hlen (λj h h'=>by have:=Yz j h;simpa [h'] using this);refine cS ZQ hd hN (x:=.agg (fH z ps ys).toArray) (.agg (by simp[r1]) λj hj=>by have:=r2 j hj (by omega);simpa [show j < (fH z ps ys).length by omega] using this) h4 ?_
 cases hi:P.info? t with
 | none=>simp[hi] at hz
 | some i=>
  simp only[hi,oBS] at hz
  cases hiz:i.zero with
  | none=>simp[hiz] at hz
  | some v=>
   simp only[hiz,oMS,oSJ] at hz
   have WJ:(zeroValue t).run P w=.ok v w:=by simp[zeroValue,typeInfo,hi,hiz]
   have Y1:(sizeOf e).run P w=.ok sz w:=by
    unfold sizeOf typeInfo
    cases hi:P.info? e with
    | none=>simp[hi] at hs
    | some i=>simp_all
   have YP:=mK (place:=λi=>some (i*sz,sz)) (parts.toList.map λp=>(p.1,a.eval p.2)) ps v.cells (by simp[hp1]) (λk h h'=>by
    have hk:k < parts.size:=by simpa using h
    obtain⟨q1,q2,q3,q5⟩:=hp2 k hk h';have q4:=Yg k h' (by simpa using hk);refine⟨by simp[q2,q3],by simpa using q4,?_⟩;rw[<- hz] at q5
    simpa using q5)
   have Zs:((parts.toList.map λp=>(p.1,a.eval p.2)).flatMap (·.2.cells.toList))=ys:=by rw[VN];simp[List.flatMap_map]
   rw[Zs,hz] at YP;simp only[execOp,ho,Instr.build,Sem.run_bind,WJ,Result.andThen_ok,run_underlying hu,Y1,Array.toList_map];rw[YP];simp
end
theorem kT{α:Type}{l:List α}{i:Nat}{x:α}{f g:α->α}(h:l[i]?=some x) (e:f x=g x):l.modify i f=l.modify i g:=by
 apply List.ext_getElem?
 grind
theorem rF{hs:List Hop}{i sz j:Nat}{c:List (List TV)}{el:List TV}{t1:TV}:∀{t:TV},bh t hs=some (.ow c)->c[i]?=some el->el.length=sz->el[j]?=some t1->bh t (hs++[(i,sz,j)])=some t1:=by
 induction hs with
 | nil=>
  intro t h h1 h2 h3;simp[bh] at h;subst h;simp[bh,h1,h2,h3]
 | cons hp hs ih=>
  intro t h h1 h2 h3;obtain⟨c0,Pz,t0,rfl,k1,k2,k3,k4⟩:=cr h;simp[bh]
  simp_all
theorem qW{hs:List Hop}{i sz j:Nat}{c:List (List TV)}{x:TV}:∀{t:TV},bh t hs=some (.ow c)->cF t (hs++[(i,sz,j)]) x=cF t hs (.ow (c.modify i λel=>el.modify j λ_=>x)):=by
 induction hs with
 | nil=>
  intro t h;simp[bh] at h;subst h;simp[cF]
 | cons hp hs ih=>
  intro t h;obtain⟨c0,Pz,t0,rfl,k1,k2,k3,k4⟩:=cr h;simp only[List.cons_append,cF];congr 1;refine kT k1 (kT k3 (ih k4))
theorem vU{hs:List Hop}{x y:TV}:∀{t:TV},cF (cF t hs y) hs x=cF t hs x:=by
 induction hs with
 | nil=>intro t;rfl
 | cons hp hs ih=>
  obtain⟨a,b,d⟩:=hp;intro t
  cases t with
  | ow c=>
   simp only[cF];congr 1;apply List.ext_getElem?;intro k;simp only[List.getElem?_modify];by_cases hk:a=k
   ·subst hk
    cases c[a]? with
    | none=>rfl
    | some el=>
     simp only[if_true,Option.map_eq_map,oMS];congr 1;apply List.ext_getElem?;intro k;simp only[List.getElem?_modify,Option.map_eq_map];by_cases hk:d=k
     ·subst hk
      cases el[d]? with
      | none=>rfl
      | some t1=>simp[ih]
     ·cases el[k]?<;>simp[hk]
   ·cases c[k]?<;>simp[hk]
  | _=>rfl
theorem m9{α:Type}(l:List (Nat×α)) (i:Nat) (x y:α):ct (ct l i x) i y=ct l i y:=by
 induction l with
 | nil=>simp[ct]
 | cons h r ih=>
  have ⟨k,v⟩:=h;by_cases hk:k=i
  ·subst hk;simp[ct]
  ·simp[hk,ct,ih]
theorem qF{w:World}{hs:List Hop}{k sz n cap j:Nat}{ad:Addr}:∀{x:Value},hvT w x hs=some (.slice (some ad) n cap)->k < n->bu w x (hs++[(k,sz,j)])=some ⟨ad.block,ad.off+(k*sz+j),none⟩:=by
 induction hs with
 | nil=>
  intro x h hk;simp only[hvT,oSJ] at h;subst h;simp[bu,hk]
 | cons hp hs ih=>
  intro x h hk;simp only[hvT] at h
  cases x with
  | slice a l c=>
   cases a with
   | none=>cases hs<;>simp[bu] at h
   | some a=>
    obtain⟨hd,tl,XF⟩:∃hd tl,hs++[(k,sz,j)]=hd :: tl:=by cases hs<;>exact⟨_,_,rfl⟩
    cases hs with
    | nil=>
     simp only[bu] at h;split at h
     ·rename_i hi;simp at h;simp only[List.cons_append,List.nil_append,bu,hi,if_true,h,hk]
     ·simp at h
    | cons hp2 YN=>
     simp only[bu] at h;split at h
     ·rename_i hi;split at h
      ·rename_i y hy;rw[List.cons_append,XF];simp only[bu,hi,if_true,hy];rw[<- XF];exact ih (by simpa [hvT] using h) hk
      ·simp at h
     ·simp at h
  | _=>cases hs<;>simp[bu] at h
section
variable {P:Program} {M:Fm} {σ σ':St} {H:List TV} {xs:List Value} {ts:Array Value} {w:World} {G:Gh} {a:Act} {o:Oper}
def St.sub(σ:St) (p:ba) (l:List TV) (t:TV):St:=⟨σ.tm,ct σ.ce p.root (l.set p.off (cF (σ.c p.root p.off) p.hops t)),σ.vr⟩
theorem qJ{p:ba}{l:List TV}{t:TV}(hl:p.off < l.length):(σ.sub p l t).c p.root p.off=cF (σ.c p.root p.off) p.hops t:=by
 simp[St.c,St.sub,bx];simp[hl]
theorem yH(hI:Inv M σ [] [] ts w G) {p:ba}{c:List (List TV)}{el:List TV}{b n cap i sz j:Nat}{old v:Value}(Z7:p.root≠1) (ZK:G.hv w p=some (.slice (some ⟨b,0,none⟩) n cap)) (hg:bh (σ.c p.root p.off) p.hops=some (.ow c)) (hin:i < n)
 (hi:c[i]?=some el) (hl:el.length=sz) (hj:el[j]?=some (.v old)) (hv:cZ v=true) {l:List TV} (hal:bk σ.ce p.root=some l) (hol:p.off < l.length) :
 ∃G',Inv M (σ.sub p l (.ow (c.modify i λel=>el.modify j λ_=>.v v))) [] [] ts (w.setCell ⟨b,i*sz+j,none⟩ v) G'/\(w.cell? ⟨b,i*sz+j,none⟩).isSome=true/\w.frozen? ⟨b,i*sz+j,none⟩=false/\G'.hv (w.setCell ⟨b,i*sz+j,none⟩ v) p=some (.slice (some ⟨b,0,none⟩) n cap):=by
 obtain⟨G1,ZH⟩:=hI.addHand (t:=.v v) (x:=v) (.v (λ_ h=>h) hv)
 have VC:bh (bl M σ [] p.root p.off) p.hops=some (.ow c):=by rw[bi (by exact Z7)];exact hg
 obtain⟨c1,WX,_,_⟩:=ZH.2.2.1.hdr p _ c Z7 rfl ZK VC
 obtain⟨hd,tl,XF⟩:∃hd tl,p.hops++[(i,sz,j)]=hd :: tl:=by cases p.hops<;>exact⟨_,_,rfl⟩
 have Z8:G1.addrB w ⟨p.root,p.off,p.hops++[(i,sz,j)]⟩=some ⟨b,i*sz+j,none⟩:=by
  have:=qF (sz:=sz) (j:=j) WX hin;unfold Gh.addrB
  simp_all
 have Ru:=rF hg hi hl hj
 have SS:bh (bl M σ [.v v] p.root p.off) (p.hops++[(i,sz,j)])=some (.v old):=by rw[bi (by exact Z7)];exact Ru
 have hrun:(ne ⟨p.root,p.off,p.hops++[(i,sz,j)]⟩ (.v v)).run σ=some ((),σ.sub p l (.ow (c.modify i λel=>el.modify j λ_=>.v v))):=by
  simp only[ne,SP.run,Ru,jS,Bool.or_self,Bool.false_eq_true,if_false,hal,hol,if_true];rw[qW hg];rfl
 obtain⟨⟨u,hu⟩,XW,G2,ZQ,hm,Zq,hβ⟩:=ZH.1.put (p:=⟨p.root,p.off,p.hops++[(i,sz,j)]⟩) (j:=0) Z7 Z8 SS (by simp) (by simp) (by simpa using hrun)
 have Xo:=ZQ.clear (by intro k hk;have:k=0:=by simp at hk;omega
                       simp)
 have SR:bh (bl M σ [.v v] p.root p.off) p.hops=some (.ow c):=by rw[bi (by exact Z7)];exact hg
 obtain⟨c2,YK,_,_⟩:=hm.keeps.hdr p _ c Z7 rfl WX SR;exact⟨G2,Xo,by simp_all,XW,YK⟩
theorem lz{c:List (List TV)}{i j i' j':Nat}{x:TV}{el:List TV}{y:TV}(h:c[i']?=some el) (hy:el[j']?=some y) (hne:¬ (i'=i/\j'=j)) :
 ∃WL,(c.modify i λel=>el.modify j λ_=>x)[i']?=some WL/\WL[j']?=some y:=by
 by_cases hi:i=i'
 ·subst hi
  have hj:¬ j=j':=by omega
  simp_all
 ·simp_all
theorem yM{p:ba}{b n cap sz:Nat}(Z7:p.root≠1) (hsz:0 < sz):∀(vals:List Value) (c:List (List TV)) (o:Nat) (σ:St) (w:World) (G:Gh) (l:List TV),vals≠[]->Inv M σ [] [] ts w G->G.hv w p=some (.slice (some ⟨b,0,none⟩) n cap)->bh (σ.c p.root p.off) p.hops=some (.ow c)->n=c.length ->
 (∀el∈c,el.length=sz)->(∀v∈vals,cZ v=true)->(∀t,o<=t->t < o+vals.length->∃el y,c[t / sz]?=some el/\el[t % sz]?=some (.v y))->bk σ.ce p.root=some l->p.off < l.length ->
 (∃G',Inv M (σ.sub p l (.ow (gq sz c o vals))) [] [] ts (w.setCells b o vals) G')/\∀j,j < vals.length->(w.cell? ⟨b,o+j,none⟩).isSome=true/\w.frozen? ⟨b,o+j,none⟩=false:=by
 intro vals
 induction vals with
 | nil=>intro c o σ w G l h;exact absurd rfl h
 | cons v vals ih=>
  intro c o σ w G l _ hI ZK hg hn hlen RU Zs hal hol;obtain⟨el,y,h1,h2⟩:=Zs o (Nat.le_refl _) (by simp);have Zc:el.length=sz:=hlen el (List.mem_of_getElem? h1)
  have Qd:o / sz < n:=by rw[hn];exact (oGS h1).1
  have ho:o / sz*sz+o % sz=o:=by rw[Nat.mul_comm];exact Nat.div_add_mod o sz
  obtain⟨G1,hI1,YM,SK,WX⟩:=yH hI Z7 ZK hg Qd h1 Zc h2 (RU v (by simp)) hal hol;rw[ho] at hI1 YM SK WX
  cases vals with
  | nil=>
   refine⟨⟨G1,hI1⟩,λj hj=>?_⟩
   obtain rfl:j=0:=by simp at hj;omega
   exact⟨YM,SK⟩
  | cons v2 vals=>
   obtain⟨c1,Zp⟩:∃c1,c1=c.modify (o / sz) λel=>el.modify (o % sz) λ_=>.v v:=⟨_,rfl⟩;rw[<- Zp] at hI1;obtain⟨l1,VF⟩:∃l1,l1=l.set p.off (cF (σ.c p.root p.off) p.hops (.ow c1)):=⟨_,rfl⟩;have RN:(σ.sub p l (.ow c1)).c p.root p.off=cF (σ.c p.root p.off) p.hops (.ow c1):=qJ hol
   obtain⟨⟨G2,ZQ⟩,Zk⟩:=ih c1 (o+1) (σ.sub p l (.ow c1)) _ G1 l1 (by simp) hI1 WX (by rw[RN];exact ny hg) (by rw[hn,Zp];simp) (λWL VB=>by
    have Qn:=ga c (o / sz) (o % sz) (λ_=>.v v);have:WL.length∈c1.map List.length:=List.mem_map_of_mem VB;rw[Zp,Qn] at this;obtain⟨e3,e4,e5⟩:=List.mem_map.1 this
    rw[<- e5];exact hlen e3 e4) (λx hx=>RU x (by simp only[List.mem_cons] at hx ⊢;exact .inr hx)) (λt WD Yz=>by
    obtain⟨WL,y',q1,q2⟩:=Zs t (by omega) (by simp at Yz ⊢;omega)
    obtain⟨R8,q3,q4⟩:=lz (x:=.v v) q1 q2 (i:=o / sz) (j:=o % sz) (by
     rintro⟨e1,e2⟩;have h3:=Nat.div_add_mod t sz;have h4:=Nat.div_add_mod o sz;rw[e1,e2] at h3
     omega)
    exact⟨R8,y',by rw[Zp];exact q3,q4⟩) (by simp[St.sub,bx,VF]) (by rw[VF];simpa using hol)
   refine⟨⟨G2,?_⟩,λj hj=>?_⟩
   ·have e:(σ.sub p l (.ow c1)).sub p l1 (.ow (gq sz c1 (o+1) (v2 :: vals)))=σ.sub p l (.ow (gq sz c o (v :: v2 :: vals))):=by
     unfold St.sub;have Te:(St.c ⟨σ.tm,ct σ.ce p.root (l.set p.off (cF (σ.c p.root p.off) p.hops (.ow c1))),σ.vr⟩ p.root p.off)=cF (σ.c p.root p.off) p.hops (.ow c1):=RN;rw[Te,vU,m9,VF,List.set_set];simp only[gq,<- Zp]
    rw[e] at ZQ;exact ZQ
   ·cases j with
    | zero=>exact⟨YM,SK⟩
    | succ j=>
     have:=Zk j (by simpa using hj);rw[show o+1+j=o+(j+1) by omega,World.frozen?_setCell] at this;refine⟨?_,this.2⟩
     have hne:(⟨b,o,none⟩:Addr)≠⟨b,o+(j+1),none⟩:=λe=>by have:=congrArg Addr.off e;simp at this
     rw[World.cell?_setCell_other w _ _ _ hne] at this;exact this.1
theorem qh:∀{l:List TV}{vs:List Value},bn l=some vs->vs.length=l.length/\∀j (h:j < l.length) (h':j < vs.length),l[j]=.v vs[j]:=by
 intro l
 induction l with
 | nil=>intro vs h;simp[bn] at h;subst h;exact⟨rfl,λj h=>by simp at h⟩
 | cons t l ih=>
  intro vs h
  cases t with
  | v x=>
   simp[bn] at h
   cases hl:bn l with
   | none=>simp_all
   | some r=>
    simp[hl] at h;subst h;have ⟨e1,e2⟩:=ih hl;refine⟨by simp[e1],λj hj ZZ=>?_⟩
    cases j with
    | zero=>rfl
    | succ j=>simp_all
  | _=>simp[bn] at h
theorem px{c:List (List TV)}{sz m:Nat}(hs:∀i (h:i < c.length),c[i].length=sz) (hm:m<=c.length):(c.take m).flatten.length=m*sz:=by
 rw[mF (sz:=sz) λi h=>by simp_all];simp[hm]
theorem ku{F fp:Nat->Prop}{t:TV}{v x:Value}{c c2:List (List TV)}{sz lo n cap:Nat}{ad:Option Addr}(h:cW w F fp t v) (ht:t=.ow c\/t=.sl c) (hs:∀i (h:i < c.length),c[i].length=sz) (Z4:0 < sz) (Zk:c2=(c.drop lo).take n) (X6:lo+n<=c.length)
 (hx:x=.slice ad n cap) (Zj:0 < n->∃b o len Z0,v=.slice (some ⟨b,o,none⟩) len Z0/\ad=some ⟨b,o+lo*sz,none⟩) (Uu:ad=none->n=0) {m:Nat} {vs:List Value} (hm:m<=c2.length) (hf:bn (c2.take m).flatten=some vs):(Builtin.firstCells sz m x).run P w=.ok vs.toArray w:=by
 subst hx
 have SA:c2.length=n:=by rw[Zk];simp;omega
 have YN:∀i (h:i < c2.length),c2[i].length=sz:=λi h=>by
  subst Zk;simp only[List.getElem_take,List.getElem_drop];exact hs _ (by simp at h;omega)
 obtain⟨e1,e2⟩:=qh hf;have Zs:=px YN hm
 cases ad with
 | none=>
  have hn:=Uu rfl
  have Vd:m=0:=by omega
  subst Vd;have:vs=[]:=oEN (by rw[e1,Zs];omega);subst this;rfl
 | some ad=>
  show (loadCells ad (m*sz)).run P w=_;obtain⟨a,capX,vals,f,rfl,YX,ZV,hrec,_⟩:=h.rows ht hs
  have VM:vs.length=m*sz:=by rw[e1,Zs]
  have:=run_loadCells_list (P:=P) w ad vs λj y hj=>by
   have hjl:j < vs.length:=by
    rcases Nat.lt_or_ge j vs.length with h | h
    ·exact h
    ·rw[oGN h] at hj;simp at hj
   have SX:j < m*sz:=by omega
   have hq:j / sz < m:=(Nat.div_lt_iff_lt_mul Z4).2 SX;have hr:j % sz < sz:=Nat.mod_lt _ Z4
   have RM:j / sz < c2.length:=by omega
   have Xq:lo+j / sz < c.length:=by omega
   have Wz:j % sz < (c[lo+j / sz]).length:=by rw[hs _ Xq];exact hr
   have Zg:(lo+j / sz)*sz+j % sz=lo*sz+j:=by
    rw[Nat.add_mul];have:=Nat.div_add_mod j sz;rw[Nat.mul_comm] at this;omega
   have hown:=hrec (lo+j / sz) (j % sz) Xq Wz;rw[Zg] at hown
   have Zc:c[lo+j / sz][j % sz]=.v y:=by
    have h1:=e2 j (by rw[Zs];exact SX) hjl;have h2:=gK (c:=c2.take m) (sz:=sz) (λi h=>by simpa using YN i (by simp at h;omega)) (i:=j / sz) (j:=j % sz) (by simp;omega) (by rw[List.getElem_take,YN _ RM];exact hr);rw[show j / sz*sz+j % sz=j by rw[Nat.mul_comm];exact Nat.div_add_mod j sz,oGE (by rw[Zs];exact SX),h1] at h2
    injection h2 with h2
    have h3:(c2.take m)[j / sz]'(by simp;omega)=c[lo+j / sz]:=by
     subst Zk;simp
    have hy:vs[j]=y:=by simpa [hjl] using hj
    rw[<- hy,h2];simp only[h3]
   rw[Zc] at hown
   have Xm:vals.getD (lo*sz+j) undef=y:=by
    cases hown with
    | v hfp Zs=>rfl
   have hlt:lo*sz+j < vals.length:=by
    rw[YX]
    have:(lo+j / sz)*sz+sz<=c.length*sz:=by
     have:(lo+j / sz+1)*sz<=c.length*sz:=Nat.mul_le_mul_right _ Xq;rw[Nat.add_mul,Nat.one_mul] at this;exact this
    omega
   obtain⟨b,o,WF,Y7⟩:=ZV (lo*sz+j) y (by rw[oGE hlt];rw[oGD,oGE hlt] at Xm;simpa using Xm);obtain⟨b',o',len,Z0,YV,Vv⟩:=Zj (by rw[<- SA];exact Nat.lt_of_le_of_lt (Nat.zero_le _) RM)
   injection YV with YV _ _
   rw[YV] at WF
   injection WF with WF
   injection WF with hb ho _
   subst hb;subst ho
   injection Vv with Vv
   rw[Vv,b4,show o'+lo*sz+j=o'+(lo*sz+j) by omega];exact Y7
  rw[VM] at this;exact this
theorem uC(hI:Inv M σ [] [] ts w G) {u:TV}{v:Value}(hu:TmR w (G.F M.A) σ.v (bl M σ []) G u v) {c2:List (List TV)}(hr:(contentOf u).run σ=some (c2,σ')):σ'=σ/\∀sz,0 < sz->(∀i (h:i < c2.length),c2[i].length=sz) ->
 ∃ad cap,v=.slice ad c2.length cap/\∀m vs,m<=c2.length->bn (c2.take m).flatten=some vs->(Builtin.firstCells sz m v).run P w=.ok vs.toArray w:=by
 cases u with
 | sl c=>
  simp only[contentOf,SP.run,oSJ,oPJ] at hr;obtain⟨rfl,rfl⟩:=hr;refine⟨rfl,λsz Z4 hs=>?_⟩
  cases hu with
  | sl h=>
   have hown:cW w (G.F M.A) (λ_=>False) (.sl c) v:=.sl (λ_ h=>h) h;obtain⟨ad,cap,hv,_⟩:=h.hdr;refine⟨ad,cap,hv,λm vs hm hf=>ku (lo:=0) (n:=c.length) hown (.inr rfl) hs Z4 (by simp) (by simp) hv (λhn=>?_) (λhe=>?_) hm hf⟩
   ·cases h with
    | @sl _ a cap sz' u hsz hcap hmax hnil hcell hrec=>
     have e:sz'=sz:=by rw[<- hsz 0 hn,hs 0 hn]
     subst e;obtain⟨b,o,ha,_,_⟩:=hcell 0 0 hn Z4
     injection hv with hv _ _
     exact⟨b,o,_,_,by rw[ha],by rw[<- hv,ha];simp⟩
   ·cases h with
    | @sl _ a cap sz' u hsz hcap hmax hnil hcell hrec=>
     injection hv with hv _ _
     rw[hv] at hnil;have:=hnil he;omega
 | ow c=>
  cases hu with
  | @nil ad=>
   obtain⟨rfl,rfl⟩:=hr;refine⟨rfl,λsz Z4 hs=>⟨ad,0,rfl,λm vs hm hf=>?_⟩⟩
   have Vd:m=0:=by simpa using hm
   subst Vd;simp only[List.take_zero,List.flatten_nil,bn,oSJ] at hf;subst hf;cases ad<;>simp[Builtin.firstCells,loadCells,loadCellsFrom]
 | pk p vs=>
  simp only[contentOf] at hr;obtain⟨_,σ1,h1,h2⟩:=aT hr;have e1:σ1=σ:=(bf h1).1;have e2:=(bf h1).2;subst e1;obtain⟨tt,σ2,h3,h4⟩:=aT h2;obtain⟨e3,hg⟩:=cc h3;have e3:σ2=σ1:=e3;subst e3
  cases hu with
  | pk V0 h0 hv h=>
   obtain⟨Z7,c,ZK,ZF⟩:=h e2
   have ZB:bh (σ2.c p.root p.off) p.hops=some (.ow c):=by rw[bi (by exact Z7)] at ZF;exact ZF
   rw[ZB] at hg
   injection hg with hg
   subst hg;simp only[SP.run,oSJ,oPJ] at h4;obtain⟨rfl,rfl⟩:=h4;refine⟨rfl,λsz Z4 hs=>?_⟩;obtain⟨fp,hown⟩:=kQ hI ZK ZF;obtain⟨ad,cap,YV,_⟩:=hown.hdr;refine⟨ad,cap,YV,λm vs hm hf=>ku (lo:=0) (n:=c.length) hown (.inl rfl) hs Z4 (by simp) (by simp) YV (λhn=>?_) (λhe=>?_) hm hf⟩
   ·cases hown with
    | nil=>simp at hn
    | @ow _ _ b cap cur e' sz' u f hfp hb hsz hcap hz0 hmax hcur hcell hrec hnb hdis=>
     injection YV with YV _ _
     exact⟨b,0,_,_,rfl,by rw[<- YV];simp⟩
   ·cases hown with
    | nil=>rfl
    | @ow _ _ b cap cur e' sz' u f hfp hb hsz hcap hz0 hmax hcur hcell hrec hnb hdis=>
     injection YV with YV _ _
     rw[he] at YV;simp at YV
 | pw p vs Y4 lo n=>
  simp only[contentOf] at hr;obtain⟨_,σ1,h1,h2⟩:=aT hr;have e1:σ1=σ:=(bf h1).1;have e2:=(bf h1).2;subst e1;obtain⟨tt,σ2,h3,h4⟩:=aT h2;obtain⟨e3,hg⟩:=cc h3;have e3:σ2=σ1:=e3;subst e3
  cases hu with
  | pw V0 h0 hv h=>
   obtain⟨Z7,c,hd,ZK,ZF,X6,a,cap,hx,XI,XZ,hnil,X1,Zj⟩:=h e2
   have ZB:bh (σ2.c p.root p.off) p.hops=some (.ow c):=by rw[bi (by exact Z7)] at ZF;exact ZF
   rw[ZB] at hg
   injection hg with hg
   subst hg;simp only[SP.run,oSJ,oPJ] at h4;obtain⟨rfl,rfl⟩:=h4;refine⟨rfl,λsz Z4 hs=>?_⟩
   have Xj:((c.drop lo).take n).length=n:=by simp;omega
   obtain⟨fp,hown⟩:=kQ hI ZK ZF;by_cases hn:n=0
   ·subst hn;refine⟨a,cap,by rw[Xj];exact hx,λm vs hm hf=>?_⟩
    have Vd:m=0:=by omega
    subst Vd;simp only[List.take_zero,List.flatten_nil,bn,oSJ] at hf;subst hf;rw[hx]
    cases a with
    | none=>rfl
    | some a=>simp[Builtin.firstCells,loadCells,loadCellsFrom]
   ·have Tg:Y4=sz:=by
     rw[<- hs 0 (by omega)];simp only[List.getElem_take,List.getElem_drop];exact (X1 _ (by omega)).symm
    subst Tg;refine⟨a,cap,by rw[Xj];exact hx,λm vs hm hf=>ku (lo:=lo) (n:=n) hown (.inl rfl) X1 Z4 rfl X6 hx (λhn=>?_) (λhe=>?_) hm hf⟩
    ·obtain⟨b,len,Z0,q1,q2⟩:=Zj hn;exact⟨b,0,len,Z0,q1,by rw[q2];simp⟩
    ·obtain⟨b,len,Z0,q1,q2⟩:=Zj (by omega);rw[he] at q2;simp at q2
 | _=>simp[contentOf,SP.run] at hr
theorem jz{t t' ty e:TypeId}{sz:Nat}(hu:P.underlying t=some (.slice e)) (hs:(P.info? e).map (·.size)=some sz) {v:Value}{Xy:Option Addr}{n2 WK:Nat}(hv:v=.slice Xy n2 WK) {ad:Option Addr}{n cap:Nat}{vs:List Value}(hf:(Builtin.firstCells sz (min n2 n) v).run P w=.ok vs.toArray w)
 {w':World} (hst:match ad with | some a=>(storeCells a vs).run P w=.ok () w' | none=>w'=w) :
 (Builtin.copy_ #[t,t'] ty #[.slice ad n cap,v]).run P w=.ok (goInt ((min n2 n:Nat):Int)) w':=by
 subst hv
 cases hq:P.info? e with
 | none=>simp_all
 | some i=>
  have hi:i.size=sz:=by simp_all
  have S4:Nat.min n2 n=min n2 n:=rfl
  cases ad with
  | none=>
   subst hst;simp[Builtin.copy_,run_underlying hu,Builtin.lenOf,sizeOf,typeInfo,hq,hi,S4,hf]
  | some a=>
   simp[Builtin.copy_,run_underlying hu,Builtin.lenOf,sizeOf,typeInfo,hq,hi,hf,hst]
theorem Aw(hI:Inv M σ [] [] a.tmps w G) {d:Nat}(hd:o.dst=some d) (hN:d < M.N) {x y:Opd}{x' y':Operand}{t t' e sz:TypeId}(hx:aW x'=some x) (hy:aW y'=some y) (ho:o.op=.call { callee:=.builtin .copy,args:=#[x',y'],argTypes:=#[t,t'] })
 (hu:P.underlying t=some (.slice e)) (hs:(P.info? e).map (·.size)=some sz) (hr:(ev1 d (.cpy sz x y)).run σ=some ((),σ')):eZ P M σ' a o w:=by
 simp only[ev1] at hr;obtain⟨tx,σ1,h1,h2⟩:=aT hr;obtain⟨rfl,Z3⟩:=bB hI.tmr hx h1;obtain⟨ty,σ2,h3,h4⟩:=aT h2;obtain⟨rfl,X9⟩:=bB hI.tmr hy h3;obtain⟨c2,σ3,h5,h6⟩:=aT h4;obtain⟨rfl,VW⟩:=uC hI X9 h5
 have YO:∀r w',(Builtin.copy_ #[t,t'] o.type #[a.eval x',a.eval y']).run P w=.ok r w'->(execOp a.eval o).run P w=.ok (.value r) w':=by
  intro r w' h;simp[execOp,ho,resolve,invoke,builtin,h]
 have fin:∀(p:ba) (c:List (List TV)) (lo n:Nat) (vd U9:Value) (ad:Option Addr) (cap:Nat),p.root≠1->G.hv w p=some U9->bh (σ3.c p.root p.off) p.hops=some (.ow c)->a.eval x'=vd->vd=.slice ad n cap->lo+n<=c.length ->
  (∀b0 len Z0,U9=.slice (some ⟨b0,0,none⟩) len Z0->True)->(0 < n->∃b len Z0,U9=.slice (some ⟨b,0,none⟩) len Z0/\len=c.length/\ad=some ⟨b,lo*sz,none⟩)->(o9 d p (σ3.c p.root p.off) (zp sz c c2 lo n)).run σ3=some ((),σ')->eZ P M σ' a o w:=by
  intro p c lo n vd U9 ad cap Z7 ZK hg RT RV X6 _ Ys hrun;unfold zp at hrun;split at hrun
  ·rename_i Zs;split at hrun
   case isFalse=>simp[o9,SP.run] at hrun
   rename_i YJ;simp only[oBA,oDE,List.all_eq_true,beq_iff_eq] at YJ;obtain⟨Xy,WK,UQ,XU⟩:=VW sz YJ.1 λi h=>YJ.2 _ (List.getElem_mem h);have hf:=XU (min c2.length n) [] (Nat.min_le_left _ _) Zs;have SG:=jz (t':=t') (ty:=o.type) (ad:=ad) (n:=n) (cap:=cap) (w':=w) hu hs UQ hf (by cases ad<;>rfl);simp only[o9] at hrun;refine cS hI hd hN (.v rfl) hrun (YO _ _ ?_);rw[RT,RV];exact SG
  ·rename_i v vs Zs;split at hrun
   case isFalse=>simp[o9,SP.run] at hrun
   rename_i YJ;simp only[oBA,oDE,List.all_eq_true,beq_iff_eq] at YJ;obtain⟨⟨⟨⟨⟨k1,k2⟩,k3⟩,k4⟩,k5⟩,k6⟩:=YJ;have Yg:∀i (h:i < c2.length),c2[i].length=sz:=λi h=>k3 _ (List.getElem_mem h);obtain⟨Xy,WK,UQ,XU⟩:=VW sz k1 Yg;have hf:=XU (min c2.length n) (v :: vs) (Nat.min_le_left _ _) Zs
   have YX:(v :: vs).length=min c2.length n*sz:=by rw[(qh Zs).1,px Yg (Nat.min_le_left _ _)]
   have Xr:0 < n:=by
    rcases Nat.eq_zero_or_pos n with h | h
    ·subst h;simp at YX
    ·exact h
   obtain⟨b,len,Z0,ST,hlen,Zj⟩:=Ys Xr;subst hlen;rw[ST] at ZK;simp only[o9] at hrun;obtain⟨l,hl,hol,h7⟩:=bj hrun;have RF:min c2.length n<=n:=Nat.min_le_right _ _
   obtain⟨⟨G1,hI1⟩,hcell⟩:=yM Z7 k1 (v :: vs) c (lo*sz) σ3 w G l (by simp) hI ZK hg rfl (λel Zc=>k2 el Zc) k6 (λt WD Yz=>by
    rw[YX] at Yz;have VK:lo<=t / sz:=(Nat.le_div_iff_mul_le k1).2 WD;have Xs:t / sz < lo+min c2.length n:=(Nat.div_lt_iff_lt_mul k1).2 (by rw[Nat.add_mul];exact Yz);have W6:t % sz < sz:=Nat.mod_lt _ k1;have Rx:t / sz < c.length:=Nat.lt_of_lt_of_le Xs k4
    have Zy:c[t / sz]∈(c.drop lo).take (min c2.length n):=by
     obtain⟨q,hq⟩:∃q,t / sz=lo+q:=⟨t / sz - lo,by rw[Nat.add_sub_cancel' VK]⟩;simp only[hq];rw[hq] at Xs;refine List.mem_of_getElem? (i:=q) ?_;rw[List.getElem?_take,oIP (Nat.lt_of_add_lt_add_left Xs),List.getElem?_drop];exact oGE _
    have hlt:t % sz < c[t / sz].length:=by rw[k2 _ (List.getElem_mem Rx)];exact W6
    have Um:=k5 _ Zy _ (List.getElem_mem hlt);refine⟨c[t / sz],?_⟩
    cases hcv:c[t / sz][t % sz] with
    | v y=>exact⟨y,oGE Rx,by rw[oGE hlt,hcv]⟩
    | _=>rw[hcv] at Um;simp[isV] at Um) hl hol
   have hst:=run_storeCells_cells (P:=P) b (lo*sz) (v :: vs) 0 w (λj hj=>by simpa using (hcell j hj).1) (λj hj=>by simpa using (hcell j hj).2) (λu hu=>jr (k6 u hu));have SG:=jz (t':=t') (ty:=o.type) (ad:=ad) (n:=n) (cap:=cap) (w':=w.setCells b (lo*sz) (v :: vs)) hu hs UQ hf (by rw[Zj];simpa using hst);have Tc:=YO _ _ (by rw[RT,RV];exact SG);simp only[wr,SP.run,oSJ,oPJ,true_and] at h7;have e9:σ'={ σ3.sub p l (.ow (gq sz c (lo*sz) (v :: vs))) with tm:=ct (σ3.sub p l (.ow (gq sz c (lo*sz) (v :: vs)))).tm d (.v (.int .i64 ((min c2.length n:Nat):Int))) }:=h7.symm;rw[e9];refine⟨_,_,_,G1,Tc,.inl rfl,?_⟩;rw[hd];exact hI1.wrT hN (.v rfl)
  ·simp[o9,SP.run] at hrun
 cases tx with
 | pk p vs=>
  simp only at h6;obtain⟨_,σ4,h7,h8⟩:=aT h6;have e1:σ4=σ3:=(bf h7).1;have e2:=(bf h7).2;subst e1;simp only[SP.run] at h8;generalize hz:a.eval x'=z at Z3
  cases Z3 with
  | pk V0 h0 hv h=>
   obtain⟨Z7,c,ZK,ZF⟩:=h e2
   have ZB:bh (σ4.c p.root p.off) p.hops=some (.ow c):=by rw[bi (by exact Z7)] at ZF;exact ZF
   rw[ZB] at h8;simp only at h8;obtain⟨fp,hown⟩:=kQ hI ZK ZF;obtain⟨ad,cap,WJ,_⟩:=hown.hdr;refine fin p c 0 c.length z z ad cap Z7 ZK ZB hz WJ (by simp) (λ_ _ _ _=>trivial) (λhn=>?_) h8
   cases hown with
   | nil=>simp at hn
   | @ow _ _ b Pu cur e' sz' u f hfp hb hsz hcap hz0 hmax hcur hcell hrec hnb hdis=>
    injection WJ with WJ _ _
    exact⟨b,_,_,rfl,rfl,by rw[<- WJ];simp⟩
 | pw p vs sz' lo n=>
  simp only at h6;obtain⟨_,σ4,h7,h8⟩:=aT h6;have e1:σ4=σ3:=(bf h7).1;have e2:=(bf h7).2;subst e1;simp only[SP.run] at h8;generalize hz:a.eval x'=z at Z3
  cases Z3 with
  | pw V0 h0 hv h=>
   obtain⟨Z7,c,hd',ZK,ZF,X6,ad,cap,Tq,XI,XZ,hnil,X1,Zj⟩:=h e2
   have ZB:bh (σ4.c p.root p.off) p.hops=some (.ow c):=by rw[bi (by exact Z7)] at ZF;exact ZF
   rw[ZB] at h8;simp only at h8;split at h8
   case isFalse=>simp[SP.run] at h8
   rename_i Xt;subst Xt;obtain⟨fp,hown⟩:=kQ hI ZK ZF;refine fin p c lo n z hd' ad cap Z7 ZK ZB hz Tq X6 (λ_ _ _ _=>trivial) (λhn=>?_) h8;obtain⟨b,len,Z0,q1,q2⟩:=Zj hn;obtain⟨OR,Pv,q3,_⟩:=hown.hdr;rw[q1] at q3
   injection q3 with _ q3 _
   exact⟨b,len,Z0,q1,q3,q2⟩
 | _=>simp[SP.run] at h6
end
def nL(P:Program) (t:TypeId):Option Nat:=(P.info? t).map (·.size)
def zI(P:Program) (t:TypeId):Option (List Value):=(P.info? t).bind (·.zero.map (·.cells.toList))
def pS(P:Program) (t:TypeId):Option (Option Nat):=
 match P.underlying t with
 | some (.struct _)=>(nL P t).map some
 | some (.array _ _)=>(nL P t).map some
 | some _=>some none
 | none=>none
def pN:Option Operand->Option (Option Opd)
 | none=>some none
 | some x=>(aW x).map some
def iq{α β:Type}(f:α->Option β):List α->Option (List β)
 | []=>some []
 | x :: r=>match f x,iq f r with | some y,some l=>some (y :: l) | _,_=>none
def jc(b:Bool):Option Unit:=if b then some () else none
def Cv(mv n:Nat) (x:Opd):TOp:=if mv=3 then .boxi n x else .box n (mv==1) x
def cH(P:Program) (mv:Nat):Op->Option TOp
 | .move x=>match x with
  | .const (.agg cs)=>some (.asn true (.c (.agg cs)))
  | x=>(aW x).map .mov
 | .assign x=>if mv=2 then (aW x).map .mov else (aW x).map (.asn (mv==1))
 | .pick c a b=>do some (.pick (<- aW c) (<- aW a) (<- aW b))
 | .alloc e=>(zI P e).map .alloc
 | .box e x=>do some (Cv mv (<- nL P e) (<- aW x))
 | .load t a=>do some (.load (<- pS P t) (<- aW a))
 | .store t a x=>do
  let n <- nL P t
  jc (decide (0 < n))
  some (.store n (mv==1) (<- aW a) (<- aW x))
 | .nilCheck x=>(aW x).map .nilc
 | .binOp op t x y _=>
  match P.underlying t with
  | some .bool=>match op with
   | .eql=>do some (.bnb false (<- aW x) (<- aW y))
   | .neq=>do some (.bnb true (<- aW x) (<- aW y))
   | _=>none
  | some (.int _)=>do some (.bin op (<- aW x) (<- aW y))
  | some .string=>do some (.bin op (<- aW x) (<- aW y))
  | some (.struct _)=>
   if P.eqGuardType P.depth t then none
   else match jd P 50 t with
    | some ks=>match op with
     | .eql=>do some (.eqa ks false (<- aW x) (<- aW y))
     | .neq=>do some (.eqa ks true (<- aW x) (<- aW y))
     | _=>none
    | none=>none
  | _=>none
 | .unOp op _ x=>(aW x).map (.un op)
 | .convert s d x=>
  match P.underlying s,P.underlying d with
  | some (.int _),some (.int k)=>(aW x).map (.conv k)
  | some .string,some (.slice e)=>match P.underlying e with
   | some (.int .u8)=>(aW x).map .s2b
   | _=>none
  | some (.slice e),some .string=>match P.underlying e with
   | some (.int .u8)=>(aW x).map .b2s
   | _=>none
  | _,_=>none
 | .fieldAddr s x f=>
  match P.underlying s with
  | some (.struct fs)=>match fs[f]? with
   | some fd=>match nL P fd.type with
    | some (_+1)=>(aW x).map (.fld fd.offset)
    | _=>none
   | none=>none
  | _=>none
 | .field s x f=>
  match P.underlying s with
  | some (.struct fs)=>match fs[f]? with
   | some fd=>do some (.fldv fd.offset (<- pS P fd.type) (<- aW x))
   | none=>none
  | _=>none
 | .indexAddr t x i=>
  match P.underlying t with
  | some (.slice e)=>do some (.idx (<- nL P e) (<- aW x) (<- aW i))
  | some (.array n e)=>do some (.idxa n (<- nL P e) (<- aW x) (<- aW i))
  | _=>none
 | .index t x i=>
  match P.underlying t with
  | some .string=>do some (.ixs (<- aW x) (<- aW i))
  | _=>none
 | .extract x i=>(aW x).map λx=>.ext x i
 | .makeSlice t l c=>
  match P.underlying t with
  | some (.slice e)=>match P.info? e with
   | some i=>match i.zero with
    | some z=>do
     jc (decide (i.bytes<=16777216*i.size) && decide (0 < i.size))
     some (.mks i.size z.cells.toList (<- aW l) (<- aW c))
    | none=>none
   | none=>none
  | _=>none
 | .slice t x lo hi mx=>
  match mx with
  | some m=>match hi,P.underlying t with
   | some h,some (.slice e)=>do
    jc (u7 lo && lU h && lU m)
    let _ <- nL P e
    some (.emp (<- aW x))
   | _,_=>none
  | none=>match P.underlying t with
   | some (.slice e)=>do some (.slc (<- nL P e) (<- aW x) (<- pN lo) (<- pN hi))
   | _=>none
 | .makeFunc fn first caps=>
  match fn with
  | .func f=>do
   jc (first.size==0)
   some (.mkf f (<- iq aW caps.toList))
  | _=>none
 | .buildSlice t len parts=>
  match P.underlying t with
  | some (.slice e)=>match P.info? e with
   | some i=>do
    jc ((i.zero.isSome || len*i.size==0) && decide (len*i.size<=16777216) && decide (len<=16777216) && parts.toList.map (·.1)==List.range len)
    some (.bsl i.size (mv==1) len (<- iq (λp=>aW p.2) parts.toList))
   | none=>none
  | _=>none
 | .build t parts=>
  match P.underlying t,zI P t with
  | some (.struct fs),some z=>do
   jc (fs.toList.all λf=>(nL P f.type).isSome)
   let ps <- iq (λp=>match fs[p.1]? with
    | some f=>match nL P f.type,aW p.2 with
     | some n,some x=>if f.offset+n<=z.length then some (f.offset,n,x) else none
     | _,_=>none
    | none=>none) parts.toList
   some (.bld z (mv==1) ps)
  | some (.array _ e),some z=>match nL P e with
   | some sz=>do
    let ps <- iq (λp=>match aW p.2 with
     | some x=>if p.1*sz+sz<=z.length then some (p.1*sz,sz,x) else none
     | none=>none) parts.toList
    some (.bld z (mv==1) ps)
   | none=>none
  | _,_=>none
 | .call c=>
  match c with
  | { callee:=.builtin .append,args,argTypes }=>match args.toList,argTypes.toList with
   | [s,x],[t,t']=>if t=t' then
    match P.underlying t with
    | some (.slice e)=>match P.info? e with
     | some i=>match i.zero with
      | some z=>do
       jc (z.cells.size==i.size && decide (0 < i.size))
       some (.app i.size i.bytes (mv==1) (z.cells.all cZ) (<- aW s) (<- aW x))
      | none=>none
     | none=>none
    | _=>none
    else match P.underlying t,P.underlying t' with
     | some (.slice e),some (.int _)=>match P.info? e with
      | some i=>match i.zero with
       | some z=>do
        jc (decide (0 < i.size))
        some (.apz i.size i.bytes z.cells.toList (<- aW s) (<- aW x))
       | none=>none
      | none=>none
     | _,_=>none
   | _,_=>none
  | { callee:=.builtin .copy,args,argTypes }=>match args.toList,argTypes.toList with
   | [x,y],[t,_]=>match P.underlying t with
    | some (.slice e)=>do some (.cpy (<- nL P e) (<- aW x) (<- aW y))
    | _=>none
   | _,_=>none
  | { callee:=.builtin .min,args,argTypes:=_ }=>(iq aW args.toList).map (.mm false)
  | { callee:=.builtin .max,args,argTypes:=_ }=>(iq aW args.toList).map (.mm true)
  | { callee:=.builtin .len,args,argTypes }=>match args.toList,argTypes.toList with
   | [x],[t]=>match P.underlying t with
    | some (.slice _)=>(aW x).map .len
    | some .string=>(aW x).map .lens
    | _=>none
   | _,_=>none
  | _=>none
 | _=>none
theorem mt{P:Program}{t:TypeId}{n:Option Nat}(h:pS P t=some n):tG P t n:=by
 unfold pS at h;split at h
 ·rename_i f hu
  cases hs:nL P t with
  | none=>simp_all
  | some k=>simp[hs] at h;subst h;exact⟨⟨_,hu,.inl ⟨_,rfl⟩⟩,hs⟩
 ·rename_i n e hu
  cases hs:nL P t with
  | none=>simp_all
  | some k=>simp[hs] at h;subst h;exact⟨⟨_,hu,.inr ⟨_,_,rfl⟩⟩,hs⟩
 ·rename_i d YB hd2 hu
  injection h with h
  subst h;exact⟨d,hu,λf e=>YB f (by rw[<- e]),λn e' e=>hd2 n e' (by rw[<- e])⟩
 ·simp at h
theorem pM{x:Option Operand}{y:Option Opd}(h:pN x=some y):x.map aW=y.map some:=by
 cases x with
 | none=>simp[pN] at h;subst h;rfl
 | some x=>
  simp[pN] at h
  cases hc:aW x with
  | none=>simp_all
  | some z=>simp[hc] at h;subst h;simp[hc]
theorem gr{α β:Type}{f:α->Option β}:∀{l:List α}{r:List β},iq f l=some r->l.map f=r.map some:=by
 intro l
 induction l with
 | nil=>intro r h;simp[iq] at h;subst h;rfl
 | cons x l ih=>
  intro r h;simp[iq] at h
  cases hx:f x with
  | none=>simp_all
  | some y=>
   cases hl:iq f l with
   | none=>simp_all
   | some q=>simp[hx,hl] at h;subst h;simp[hx,ih hl]
theorem eN{b:Bool}{u:Unit}(h:jc b=some u):b=true:=by
 unfold jc at h
 simp_all
theorem aZ{α β:Type}{x:Option α}{f:α->Option β}{y:β}(h:(x >>= f)=some y):∃a,x=some a/\f a=some y:=by
 cases x with
 | none=>simp_all
 | some a=>simp_all
theorem de{α β:Type}{x:Option α}{f:α->β}{y:β}(h:x.map f=some y):∃a,x=some a/\f a=y:=by
 simp_all
section
variable {P:Program} {M:Fm} {σ σ':St} {ts:Array Value} {w:World} {G:Gh} {a:Act} {o:Oper}
theorem Am(hI:Inv M σ [] [] a.tmps w G) {d:Nat}(hd:o.dst=some d) (hN:d < M.N) (YS:M.pr (2*d+2)=none) {mv:Nat}{t:TOp}(hc:cH P mv o.op=some t) (hr:(ev1 d t).run σ=some ((),σ')) (hns:¬ ∃ty x y,o.op=.store ty x y):eZ P M σ' a o w:=by
 cases ho:o.op with
 | move x=>
  rw[ho] at hc;simp only[cH] at hc;split at hc
  ·injection hc with hc
   subst hc;exact vN hI hd hN rfl (.inr ho) hr
  ·obtain⟨y,hy,rfl⟩:=de hc;exact vB hI hd hN hy (.inl ho) hr
 | assign x=>
  rw[ho] at hc;simp only[cH] at hc;split at hc
  ·obtain⟨y,hy,rfl⟩:=de hc;exact vB hI hd hN hy (.inr ho) hr
  ·obtain⟨y,hy,rfl⟩:=de hc;exact vN hI hd hN hy (.inl ho) hr
 | pick c x y=>
  rw[ho] at hc;simp only[cH] at hc;obtain⟨c1,h1,hc⟩:=aZ hc;obtain⟨x1,h2,hc⟩:=aZ hc;obtain⟨y1,h3,hc⟩:=aZ hc
  injection hc with hc
  subst hc;exact yp hI hd hN h1 h2 h3 ho hr
 | alloc e=>
  rw[ho] at hc;obtain⟨z,hz,rfl⟩:=de hc;exact vO hI hd hN YS ho hz hr
 | box e x=>
  rw[ho] at hc;simp only[cH] at hc;obtain⟨n,h1,hc⟩:=aZ hc;obtain⟨y,h2,hc⟩:=aZ hc
  injection hc with hc
  subst hc;unfold Cv at hr;split at hr
  ·exact yy hI hd hN h2 ho hr
  ·exact Ay hI hd hN YS h2 ho hr
 | load t' x=>
  rw[ho] at hc;simp only[cH] at hc;obtain⟨n,h1,hc⟩:=aZ hc;obtain⟨y,h2,hc⟩:=aZ hc
  injection hc with hc
  subst hc;exact yr hI hd hN h2 ho (mt h1) hr
 | nilCheck x=>
  rw[ho] at hc;obtain⟨y,hy,rfl⟩:=de hc;exact yq hI hd hN hy ho hr
 | binOp op ty x y yt=>
  rw[ho] at hc;simp only[cH] at hc
  have ZY:(do some (TOp.bin op (<- aW x) (<- aW y)):Option TOp)=some t->eZ P M σ' a o w:=by
   intro hc;obtain⟨x1,h2,hc⟩:=aZ hc;obtain⟨y1,h3,hc⟩:=aZ hc
   injection hc with hc
   subst hc;exact AA hI hd hN h2 h3 ho hr
  split at hc
  ·rename_i hu;split at hc
   ·obtain⟨x1,h2,hc⟩:=aZ hc;obtain⟨y1,h3,hc⟩:=aZ hc
    injection hc with hc
    subst hc;exact vM hI hd hN h2 h3 ho (.inl ⟨rfl,rfl⟩) hu hr
   ·obtain⟨x1,h2,hc⟩:=aZ hc;obtain⟨y1,h3,hc⟩:=aZ hc
    injection hc with hc
    subst hc;exact vM hI hd hN h2 h3 ho (.inr ⟨rfl,rfl⟩) hu hr
   ·simp at hc
  ·exact ZY hc
  ·exact ZY hc
  ·rename_i fs hu;split at hc
   case isTrue=>simp at hc
   rename_i Xi;split at hc
   case h_2=>simp at hc
   rename_i ks hk;split at hc
   ·obtain⟨x1,h2,hc⟩:=aZ hc;obtain⟨y1,h3,hc⟩:=aZ hc
    injection hc with hc
    subst hc;exact vI hI hd hN h2 h3 ho (.inl ⟨rfl,rfl⟩) hu hk (by simpa using Xi) hr
   ·obtain⟨x1,h2,hc⟩:=aZ hc;obtain⟨y1,h3,hc⟩:=aZ hc
    injection hc with hc
    subst hc;exact vI hI hd hN h2 h3 ho (.inr ⟨rfl,rfl⟩) hu hk (by simpa using Xi) hr
   ·simp at hc
  ·simp at hc
 | unOp op ty x=>
  rw[ho] at hc;obtain⟨y,hy,rfl⟩:=de hc;exact BJ hI hd hN hy ho hr
 | convert s dd x=>
  rw[ho] at hc;simp only[cH] at hc;split at hc
  ·rename_i ks k hs WG;obtain⟨y,hy,rfl⟩:=de hc;exact yx hI hd hN hy ho hs WG hr
  ·rename_i e hs WG;split at hc
   ·rename_i he;obtain⟨y,hy,rfl⟩:=de hc;exact Ak hI hd hN hy ho hs WG he hr
   ·simp at hc
  ·rename_i e hs WG;split at hc
   ·rename_i he;obtain⟨y,hy,rfl⟩:=de hc;exact AB hI hd hN hy ho hs WG he hr
   ·simp at hc
  ·simp at hc
 | fieldAddr s x f=>
  rw[ho] at hc;simp only[cH] at hc;split at hc
  ·rename_i fs hu;split at hc
   ·rename_i fd hf;split at hc
    ·rename_i n hs;obtain⟨y,hy,rfl⟩:=de hc;exact At hI hd hN hy ho hu hf ⟨_,hs⟩ hr
    ·simp at hc
   ·simp at hc
  ·simp at hc
 | field s x f=>
  rw[ho] at hc;simp only[cH] at hc;split at hc
  ·rename_i fs hu;split at hc
   ·rename_i fd hf;obtain⟨n,h1,hc⟩:=aZ hc;obtain⟨y,h2,hc⟩:=aZ hc
    injection hc with hc
    subst hc;exact yw hI hd hN h2 ho hu hf (mt h1) hr
   ·simp at hc
  ·simp at hc
 | indexAddr ty x i=>
  rw[ho] at hc;simp only[cH] at hc;split at hc
  ·rename_i e hu;obtain⟨n,h1,hc⟩:=aZ hc;obtain⟨y,h2,hc⟩:=aZ hc;obtain⟨z,h3,hc⟩:=aZ hc
   injection hc with hc
   subst hc;exact As hI hd hN h2 h3 ho hu h1 hr
  ·rename_i n e hu;obtain⟨sz,h1,hc⟩:=aZ hc;obtain⟨y,h2,hc⟩:=aZ hc;obtain⟨z,h3,hc⟩:=aZ hc
   injection hc with hc
   subst hc;exact yv hI hd hN h2 h3 ho hu h1 hr
  ·simp at hc
 | index ty x i=>
  rw[ho] at hc;simp only[cH] at hc;split at hc
  ·rename_i hu;obtain⟨y,h2,hc⟩:=aZ hc;obtain⟨z,h3,hc⟩:=aZ hc
   injection hc with hc
   subst hc;exact Ar hI hd hN h2 h3 ho hu hr
  ·simp at hc
 | extract x i=>
  rw[ho] at hc;obtain⟨y,hy,rfl⟩:=de hc;exact Au hI hd hN hy ho hr
 | makeSlice ty l c=>
  rw[ho] at hc;simp only[cH] at hc;split at hc
  ·rename_i e hu;split at hc
   ·rename_i i hi;split at hc
    ·rename_i z hz;obtain⟨u,h1,hc⟩:=aZ hc;obtain⟨y,h2,hc⟩:=aZ hc;obtain⟨y2,h3,hc⟩:=aZ hc
     injection hc with hc
     subst hc;have hg:=eN h1;simp only[oBA,oDE] at hg;exact Ao hI hd hN h2 h3 ho hu hi hz rfl rfl hg.1 hg.2 hr
    ·simp at hc
   ·simp at hc
  ·simp at hc
 | slice ty x lo hi mx=>
  rw[ho] at hc;simp only[cH] at hc;split at hc
  ·split at hc
   ·rename_i m h e hu;obtain⟨_,hg,hc⟩:=aZ hc;obtain⟨n,h1,hc⟩:=aZ hc;obtain⟨y,h2,hc⟩:=aZ hc
    injection hc with hc
    subst hc;have hg:=eN hg;simp only[oBA] at hg;exact Av hI hd hN h2 ho hg.1.1 hg.1.2 hg.2 hu h1 hr
   ·simp at hc
  ·split at hc
   ·rename_i e hu;obtain⟨n,h1,hc⟩:=aZ hc;obtain⟨y,h2,hc⟩:=aZ hc;obtain⟨l1,h3,hc⟩:=aZ hc;obtain⟨h4,h5,hc⟩:=aZ hc
    injection hc with hc
    subst hc;exact Aj hI hd hN h2 (pM h3) (pM h5) ho hu h1 hr
   ·simp at hc
 | makeFunc fn first caps=>
  rw[ho] at hc;simp only[cH] at hc;split at hc
  ·rename_i f;obtain⟨u,h1,hc⟩:=aZ hc;obtain⟨l,h2,hc⟩:=aZ hc
   injection hc with hc
   subst hc;have hg:=eN h1
   have hf:first=#[]:=by simpa using hg
   subst hf;exact Ap hI hd hN (gr h2) ho hr
  ·simp at hc
 | buildSlice ty len parts=>
  rw[ho] at hc;simp only[cH] at hc;split at hc
  ·rename_i e hu;split at hc
   ·rename_i i hi;obtain⟨u,h1,hc⟩:=aZ hc;obtain⟨l,h2,hc⟩:=aZ hc
    injection hc with hc
    subst hc;have hg:=eN h1;simp only[oBA,Bool.or_eq_true,oDE,beq_iff_eq] at hg;obtain⟨⟨⟨g1,g2⟩,g3⟩,g4⟩:=hg;refine Ax hI hd hN ho hu hi rfl (λh0=>?_) g4 (gr h2) g2 g3 hr;rcases g1 with g1 | g1
    ·exact Option.isSome_iff_exists.1 g1
    ·omega
   ·simp at hc
  ·simp at hc
 | build ty parts=>
  rw[ho] at hc;simp only[cH] at hc;split at hc
  ·rename_i fs z hu hz;obtain⟨u,h1,hc⟩:=aZ hc;obtain⟨ps,h2,hc⟩:=aZ hc
   injection hc with hc
   subst hc;have hg:=eN h1;simp only[List.all_eq_true] at hg;have hm:=gr h2;refine Az hI hd hN (szf:=λf=>(nL P f.type).getD 0) ho hu hz (λf hf=>?_) ?_ (λk h h'=>?_) hr
   ·have:=hg f hf;obtain⟨n,hn⟩:=Option.isSome_iff_exists.1 this;rw[hn];exact hn
   ·have:=congrArg List.length hm;simpa using this
   ·have hk:(parts.toList.map (λp=>match fs[p.1]? with
     | some f=>match nL P f.type,aW p.2 with
      | some n,some x=>if f.offset+n<=z.length then some (f.offset,n,x) else none
      | _,_=>none
     | none=>none))[k]?=(ps.map some)[k]?:=by rw[hm]
    simp only[List.getElem?_map,oGE h',oMS,Array.getElem?_toList,Array.getElem?_eq_getElem h] at hk
    cases hf:fs[parts[k].1]? with
    | none=>simp[hf] at hk
    | some f=>
     cases hs:nL P f.type with
     | none=>simp[hf,hs] at hk
     | some n=>
      cases hx:aW parts[k].2 with
      | none=>simp[hf,hs,hx] at hk
      | some x=>
       simp only[hf,hs,hx,oSJ] at hk;split at hk
       ·rename_i YQ
        injection hk with hk
        rw[<- hk];exact⟨rfl,by simp[hs],YQ⟩
       ·simp at hk
  ·rename_i n e z hu hz;split at hc
   ·rename_i sz hsz;obtain⟨ps,h2,hc⟩:=aZ hc
    injection hc with hc
    subst hc;have hm:=gr h2;refine yz hI hd hN ho hu hz hsz ?_ (λk h h'=>?_) hr
    ·have:=congrArg List.length hm;simpa using this
    ·have hk:(parts.toList.map (λp=>match aW p.2 with
      | some x=>if p.1*sz+sz<=z.length then some (p.1*sz,sz,x) else none
      | none=>none))[k]?=(ps.map some)[k]?:=by rw[hm]
     simp only[List.getElem?_map,oGE h',oMS,Array.getElem?_toList,Array.getElem?_eq_getElem h] at hk
     cases hx:aW parts[k].2 with
     | none=>simp[hx] at hk
     | some x=>
      simp only[hx,oSJ] at hk;split at hk
      ·rename_i YQ
       injection hk with hk
       rw[<- hk];exact⟨rfl,rfl,rfl,YQ⟩
      ·simp at hk
   ·simp at hc
  ·simp at hc
 | call c=>
  rw[ho] at hc;simp only[cH] at hc;split at hc
  ·rename_i args argTypes;split at hc
   ·rename_i s x t1 t2 ea et
    have ea:args=#[s,x]:=by rw[<- Array.toArray_toList (xs:=args),ea]
    have et:argTypes=#[t1,t2]:=by rw[<- Array.toArray_toList (xs:=argTypes),et]
    subst ea;subst et;split at hc
    ·rename_i Ti;subst Ti;split at hc
     ·rename_i e hu;split at hc
      ·rename_i i hi;split at hc
       ·rename_i z hz;obtain⟨u,h1,hc⟩:=aZ hc;obtain⟨y,h2,hc⟩:=aZ hc;obtain⟨y2,h3,hc⟩:=aZ hc
        injection hc with hc
        subst hc;have hg:=eN h1;simp only[oBA,oDE,beq_iff_eq] at hg;exact AD hI hd hN h2 h3 ho hu hi hz hg.1 rfl rfl hg.2 hr
       ·simp at hc
      ·simp at hc
     ·simp at hc
    ·split at hc
     ·rename_i e kn hu Xk;split at hc
      ·rename_i i hi;split at hc
       ·rename_i z hz;obtain⟨u,h1,hc⟩:=aZ hc;obtain⟨y,h2,hc⟩:=aZ hc;obtain⟨y2,h3,hc⟩:=aZ hc
        injection hc with hc
        subst hc;have hg:=eN h1;exact AC hI hd hN h2 h3 ho hu Xk hi hz rfl rfl rfl (of_decide_eq_true hg) hr
       ·simp at hc
      ·simp at hc
     ·simp at hc
   ·simp at hc
  ·rename_i args argTypes;split at hc
   ·rename_i x y t1 t2 ea et
    have ea:args=#[x,y]:=by rw[<- Array.toArray_toList (xs:=args),ea]
    have et:argTypes=#[t1,t2]:=by rw[<- Array.toArray_toList (xs:=argTypes),et]
    subst ea;subst et;split at hc
    ·rename_i e hu;obtain⟨sz,h1,hc⟩:=aZ hc;obtain⟨y1,h2,hc⟩:=aZ hc;obtain⟨y2,h3,hc⟩:=aZ hc
     injection hc with hc
     subst hc;exact Aw hI hd hN h2 h3 ho hu h1 hr
    ·simp at hc
   ·simp at hc
  ·rename_i args argTypes;obtain⟨l,h1,rfl⟩:=de hc;exact zN (mx:=false) hI hd hN (gr h1) ho hr
  ·rename_i args argTypes;obtain⟨l,h1,rfl⟩:=de hc;exact zN (mx:=true) hI hd hN (gr h1) ho hr
  ·rename_i args argTypes;split at hc
   ·rename_i x t1 ea et
    have ea:args=#[x]:=by rw[<- Array.toArray_toList (xs:=args),ea]
    have et:argTypes=#[t1]:=by rw[<- Array.toArray_toList (xs:=argTypes),et]
    subst ea;subst et;split at hc
    ·rename_i e hu;obtain⟨y,hy,rfl⟩:=de hc;exact Aq hI hd hN hy ho hu hr
    ·rename_i hu;obtain⟨y,hy,rfl⟩:=de hc;exact yu hI hd hN hy ho hu hr
    ·simp at hc
   ·simp at hc
  ·simp at hc
 | store ty x y=>
  rw[ho] at hc;simp only[cH] at hc;obtain⟨n,h1,hc⟩:=aZ hc;obtain⟨u,h2,hc⟩:=aZ hc;obtain⟨x1,h3,hc⟩:=aZ hc;obtain⟨y1,h4,hc⟩:=aZ hc
  injection hc with hc
  subst hc;exact absurd hns (by simp[ho])
 | _=>rw[ho] at hc;simp[cH] at hc
end
inductive Loc where
 | t (i:Nat)
 | c (r o:Nat)
 | h (r o:Nat)
 | n (r:Nat)
 | v (q:Key)
 deriving DecidableEq
def Loc.hit:Loc->Loc->Bool
 | .t i,.t j=>i==j
 | .c r o,.c r' o'=>r==r' && o==o'
 | .n r,.n r'=>r==r'
 | .n r,.c r' _=>r==r'
 | .h r o,.h r' o'=>r==r' && o==o'
 | .n r,.h r' _=>r==r'
 | .v q,.v q'=>q==q'
 | _,_=>false
abbrev iW:=List Loc×List Loc
def hdW(r o:Nat) (t t':TV):List Loc:=if t'.hd=t.hd then [] else [.h r o]
def SP.foot{α:Type}:SP α->St->iW
 | .ret _,_=>([],[])
 | .fail,_=>([],[])
 | .rdT i k,σ=>(.t i :: ((k (σ.t i)).foot σ).1,((k (σ.t i)).foot σ).2)
 | .rdC r o k,σ=>(.c r o :: ((k (σ.c r o)).foot σ).1,((k (σ.c r o)).foot σ).2)
 | .rdH r o k,σ=>(.h r o :: ((k (σ.c r o).hd).foot σ).1,((k (σ.c r o).hd).foot σ).2)
 | .rdV q k,σ=>(.v q :: ((k (σ.v q)).foot σ).1,((k (σ.v q)).foot σ).2)
 | .wrT i t k,σ=>((k.foot { σ with tm:=ct σ.tm i t }).1,.t i :: (k.foot { σ with tm:=ct σ.tm i t }).2)
 | .wrC r o t k,σ=>
  match bk σ.ce r with
  | some l=>if o < l.length then (.n r :: .h r o :: (k.foot { σ with ce:=ct σ.ce r (l.set o t) }).1,.c r o :: (hdW r o (σ.c r o) t++(k.foot { σ with ce:=ct σ.ce r (l.set o t) }).2)) else ([],[])
  | none=>([],[])
 | .new r l k,σ=>(.v (r,0,0) :: (k.foot { σ with ce:=ct σ.ce r l,vr:=hZ σ.vr (r,0,0) }).1,.n r :: .v (r,0,0) :: (k.foot { σ with ce:=ct σ.ce r l,vr:=hZ σ.vr (r,0,0) }).2)
 | .bump q k,σ=>(.v q :: (k.foot { σ with vr:=hZ σ.vr q }).1,.v q :: (k.foot { σ with vr:=hZ σ.vr q }).2)
def dq(σ σ':St):Loc->Prop
 | .t i=>bk σ.tm i=bk σ'.tm i
 | .c r o=>σ.c r o=σ'.c r o
 | .h r o=>(σ.c r o).hd=(σ'.c r o).hd
 | .n r=>(bk σ.ce r).map List.length=(bk σ'.ce r).map List.length
 | .v q=>σ.v q=σ'.v q
def Bk(σ σ':St):Prop:=∀x,dq σ σ' x
theorem dq.refl(σ:St) (x:Loc):dq σ σ x:=by cases x<;>rfl
theorem dq.symm{σ σ':St}{x:Loc}(h:dq σ σ' x):dq σ' σ x:=by cases x<;>exact Eq.symm h
theorem dq.trans{σ σ' σ'':St}{x:Loc}(h:dq σ σ' x) (h':dq σ' σ'' x):dq σ σ'' x:=by cases x<;>exact Eq.trans h h'
theorem xT{σ:St}{r o:Nat}{t:TV}{l:List TV}(h:bk σ.ce r=some l) (ho:o < l.length) (r' o':Nat):St.c { σ with ce:=ct σ.ce r (l.set o t) } r' o'=if r'=r/\o'=o then t else σ.c r' o':=by
 have:=congrFun (congrFun (nG (t:=t) h ho) r') o';exact this
theorem CH{σ:St}{r:Nat}{l l':List TV}(h:bk σ.ce r=some l) (hl:l'.length=l.length) (r':Nat):(bk (ct σ.ce r l') r').map List.length=(bk σ.ce r').map List.length:=by
 rw[bx]
 grind
theorem uP{σ:St}{r:Nat}{l:List TV}{vr:List (Key×Nat)}(r' o':Nat):St.c { σ with ce:=ct σ.ce r l,vr:=vr } r' o'=if r'=r then l.getD o' .dead else σ.c r' o':=by
 unfold St.c;simp[bx];by_cases e:r=r'
 ·simp_all
 ·rw[oIN e,oIN (Ne.symm e)]
theorem dO{α:Type}{s:SP α}:∀{σ:St}{a:α}{τ:St},s.run σ=some (a,τ)->∀x,(∀w∈(s.foot σ).2,w.hit x=false)->dq σ τ x:=by
 induction s with
 | ret a=>intro σ b τ h x _;simp only[SP.run,oSJ,oPJ] at h;rw[h.2];exact dq.refl _ _
 | fail=>intro σ b τ h;simp[SP.run] at h
 | rdT i k ih=>intro σ b τ h x hx;exact ih _ h x hx
 | rdC r o k ih=>intro σ b τ h x hx;exact ih _ h x hx
 | rdH r o k ih=>intro σ b τ h x hx;exact ih _ h x hx
 | rdV q k ih=>intro σ b τ h x hx;exact ih _ h x hx
 | wrT i t k ih=>
  intro σ b τ h x hx;refine dq.trans ?_ (ih h x λw hw=>hx w (by simp[SP.foot,hw]));have h1:=hx (.t i) (by simp[SP.foot])
  cases x with
  | t j=>
   simp only[Loc.hit,beq_eq_false_iff_ne,ne_eq] at h1;simp[dq,bx,h1]
  | _=>exact rfl
 | wrC r o t k ih=>
  intro σ b τ h x hx;obtain⟨l,hl,ho,h2⟩:=bj h;simp only[SP.foot,hl,ho,if_true] at hx;refine dq.trans ?_ (ih h2 x λw hw=>hx w (by simp[hw]));have h1:=hx (.c r o) (by simp)
  cases x with
  | c r' o'=>
   simp only[Loc.hit,Bool.and_eq_false_imp,beq_iff_eq,beq_eq_false_iff_ne,ne_eq] at h1;show σ.c r' o'=_;rw[xT hl ho,oIN];omega
  | h r' o'=>
   show (σ.c r' o').hd=TV.hd (St.c _ r' o');rw[xT hl ho];split
   ·rename_i e;obtain⟨e1,e2⟩:=e;subst e1;subst e2;by_cases hh:t.hd=(σ.c r' o').hd
    ·exact hh.symm
    ·have:=hx (.h r' o') (by simp[hdW,hh]);simp[Loc.hit] at this
   ·rfl
  | n r'=>exact (CH hl (by simp) r').symm
  | _=>exact rfl
 | new r l k ih=>
  intro σ b τ h x hx;refine dq.trans ?_ (ih h x λw hw=>hx w (by simp[SP.foot,hw]));have h1:=hx (.n r) (by simp[SP.foot]);have h2:=hx (.v (r,0,0)) (by simp[SP.foot])
  cases x with
  | t j=>exact rfl
  | c r' o'=>
   simp only[Loc.hit,beq_eq_false_iff_ne,ne_eq] at h1;show σ.c r' o'=_;rw[uP,oIN (Ne.symm h1)]
  | h r' o'=>
   simp only[Loc.hit,beq_eq_false_iff_ne,ne_eq] at h1;show (σ.c r' o').hd=TV.hd (St.c _ r' o');rw[uP,oIN (Ne.symm h1)]
  | n r'=>
   simp only[Loc.hit,beq_eq_false_iff_ne,ne_eq] at h1;simp[dq,bx,h1]
  | v q=>
   simp only[Loc.hit,beq_eq_false_iff_ne,ne_eq] at h2;show jh σ.vr q=jh (hZ σ.vr (r,0,0)) q;rw[cL,oIN h2];rfl
 | bump q k ih=>
  intro σ b τ h x hx;refine dq.trans ?_ (ih h x λw hw=>hx w (by simp[SP.foot,hw]));have h2:=hx (.v q) (by simp[SP.foot])
  cases x with
  | v q'=>
   simp only[Loc.hit,beq_eq_false_iff_ne,ne_eq] at h2;show jh σ.vr q'=jh (hZ σ.vr q) q';rw[cL,oIN h2];rfl
  | _=>exact rfl
theorem fq{α:Type}{s:SP α}:∀{σ σ':St}{a:α}{τ:St},s.run σ=some (a,τ)->(∀x∈(s.foot σ).1,dq σ σ' x) ->
 s.foot σ'=s.foot σ/\∃ τ',s.run σ'=some (a,τ')/\∀x,(dq σ σ' x\/∃w∈(s.foot σ).2,w.hit x=true)->dq τ τ' x:=by
 induction s with
 | ret a=>
  intro σ σ' b τ h hr;obtain⟨rfl,rfl⟩:=h;exact⟨rfl,σ',rfl,λx hx=>hx.elim id λ⟨w,hw,_⟩=>by simp[SP.foot] at hw⟩
 | fail=>intro σ σ' b τ h;simp[SP.run] at h
 | rdT i k ih=>
  intro σ σ' b τ h hr
  have h1:σ.t i=σ'.t i:=by
   have:bk σ.tm i=bk σ'.tm i:=hr (.t i) (by simp[SP.foot]);simp[St.t,this]
  obtain⟨e,τ',h2,h3⟩:=ih _ h λx hx=>hr x (by simp[SP.foot,hx]);refine⟨by simp only[SP.foot];rw[<- h1,e],τ',by simp only[SP.run];rw[<- h1];exact h2,h3⟩
 | rdC r o k ih=>
  intro σ σ' b τ h hr;have h1:σ.c r o=σ'.c r o:=hr (.c r o) (by simp[SP.foot]);obtain⟨e,τ',h2,h3⟩:=ih _ h λx hx=>hr x (by simp[SP.foot,hx]);refine⟨by simp only[SP.foot];rw[<- h1,e],τ',by simp only[SP.run];rw[<- h1];exact h2,h3⟩
 | rdH r o k ih=>
  intro σ σ' b τ h hr;have h1:(σ.c r o).hd=(σ'.c r o).hd:=hr (.h r o) (by simp[SP.foot]);obtain⟨e,τ',h2,h3⟩:=ih _ h λx hx=>hr x (by simp[SP.foot,hx]);refine⟨by simp only[SP.foot];rw[<- h1,e],τ',by simp only[SP.run];rw[<- h1];exact h2,h3⟩
 | rdV q k ih=>
  intro σ σ' b τ h hr;have h1:σ.v q=σ'.v q:=hr (.v q) (by simp[SP.foot]);obtain⟨e,τ',h2,h3⟩:=ih _ h λx hx=>hr x (by simp[SP.foot,hx]);refine⟨by simp only[SP.foot];rw[<- h1,e],τ',by simp only[SP.run];rw[<- h1];exact h2,h3⟩
 | wrT i t k ih=>
  intro σ σ' b τ h hr
  have hal:∀x,(dq σ σ' x\/x=.t i)->dq { σ with tm:=ct σ.tm i t } { σ' with tm:=ct σ'.tm i t } x:=by
   rintro x (hx | rfl)
   ·cases x with
    | t j=>
     show bk (ct σ.tm i t) j=bk (ct σ'.tm i t) j;rw[bx,bx];split
     ·rfl
     ·exact hx
    | _=>exact hx
   ·show bk (ct σ.tm i t) i=bk (ct σ'.tm i t) i;rw[bx,bx];simp
  obtain⟨e,τ',h2,h3⟩:=ih (σ':={ σ' with tm:=ct σ'.tm i t }) h λx hx=>hal x (.inl (hr x (by simp[SP.foot,hx])));refine⟨by simp only[SP.foot];rw[e],τ',h2,λx hx=>h3 x ?_⟩;rcases hx with hx | ⟨w,hw,hh⟩
  ·exact .inl (hal x (.inl hx))
  ·simp only[SP.foot,List.mem_cons] at hw;rcases hw with rfl | hw
   ·left;refine hal x (.inr ?_);cases x<;>simp[Loc.hit] at hh;rw[hh]
   ·exact .inr ⟨w,hw,hh⟩
 | wrC r o t k ih=>
  intro σ σ' b τ h hr;obtain⟨l,hl,ho,h0⟩:=bj h;simp only[SP.foot,hl,ho,if_true] at hr ⊢;have hn:(bk σ.ce r).map List.length=(bk σ'.ce r).map List.length:=hr (.n r) (by simp)
  obtain⟨l',YC,Up⟩:∃l',bk σ'.ce r=some l'/\l'.length=l.length:=by
   rw[hl] at hn
   cases ha:bk σ'.ce r with
   | none=>rw[ha] at hn;simp at hn
   | some l'=>rw[ha] at hn;exact⟨l',rfl,by simpa using hn.symm⟩
  have Zo:o < l'.length:=by omega
  have hh:(σ.c r o).hd=(σ'.c r o).hd:=hr (.h r o) (by simp)
  have hW:hdW r o (σ'.c r o) t=hdW r o (σ.c r o) t:=by unfold hdW;rw[hh]
  have hal:∀x,(dq σ σ' x\/x=.c r o\/x=.h r o)->dq { σ with ce:=ct σ.ce r (l.set o t) } { σ' with ce:=ct σ'.ce r (l'.set o t) } x:=by
   rintro x (hx | rfl | rfl)
   ·cases x with
    | c r' o'=>
     show St.c _ r' o'=St.c _ r' o';rw[xT hl ho,xT YC Zo];split
     ·rfl
     ·exact hx
    | h r' o'=>
     show TV.hd (St.c _ r' o')=TV.hd (St.c _ r' o');rw[xT hl ho,xT YC Zo];split
     ·rfl
     ·exact hx
    | n r'=>
     show Option.map _ _=Option.map _ _;rw[CH hl (by simp),CH YC (by simp)];exact hx
    | _=>exact hx
   ·show St.c _ r o=St.c _ r o;rw[xT hl ho,xT YC Zo];simp
   ·show TV.hd (St.c _ r o)=TV.hd (St.c _ r o);rw[xT hl ho,xT YC Zo];simp
  obtain⟨e,τ',h2,h3⟩:=ih (σ':={ σ' with ce:=ct σ'.ce r (l'.set o t) }) h0 λx hx=>hal x (.inl (hr x (by simp[hx])));refine⟨by simp only[YC,Zo,if_true];rw[e,hW],τ',by simp only[SP.run,YC,Zo,if_true];exact h2,λx hx=>h3 x ?_⟩;rcases hx with hx | ⟨w,hw,hh⟩
  ·exact .inl (hal x (.inl hx))
  ·simp only[List.mem_cons,List.mem_append] at hw;rcases hw with rfl | hw | hw
   ·left;refine hal x (.inr (.inl ?_));cases x<;>simp[Loc.hit] at hh;rw[hh.1,hh.2]
   ·left;refine hal x (.inr (.inr ?_));unfold hdW at hw;split at hw
    ·simp at hw
    ·simp only[List.mem_singleton] at hw;subst hw;cases x<;>simp[Loc.hit] at hh;rw[hh.1,hh.2]
   ·exact .inr ⟨w,hw,hh⟩
 | new r l k ih=>
  intro σ σ' b τ h hr;have hv:σ.v (r,0,0)=σ'.v (r,0,0):=hr (.v (r,0,0)) (by simp[SP.foot])
  have hal:∀x,(dq σ σ' x\/(Loc.n r).hit x=true)->dq { σ with ce:=ct σ.ce r l,vr:=hZ σ.vr (r,0,0) } { σ' with ce:=ct σ'.ce r l,vr:=hZ σ'.vr (r,0,0) } x:=by
   intro x hx
   cases x with
   | t j=>rcases hx with hx | hx
          ·exact hx
          ·simp[Loc.hit] at hx
   | c r' o'=>
    show St.c _ r' o'=St.c _ r' o';rw[uP,uP];split
    ·rfl
    ·rename_i e;rcases hx with hx | hx
     ·exact hx
     ·simp[Loc.hit] at hx;exact absurd hx.symm e
   | h r' o'=>
    show TV.hd (St.c _ r' o')=TV.hd (St.c _ r' o');rw[uP,uP];split
    ·rfl
    ·rename_i e;rcases hx with hx | hx
     ·exact hx
     ·simp[Loc.hit] at hx;exact absurd hx.symm e
   | n r'=>
    show Option.map _ (bk (ct _ _ _) _)=Option.map _ (bk (ct _ _ _) _);rw[bx,bx];split
    ·rfl
    ·rename_i e;rcases hx with hx | hx
     ·exact hx
     ·simp[Loc.hit] at hx;exact absurd hx e
   | v q=>
    show jh (hZ _ _) q=jh (hZ _ _) q;rw[cL,cL];rcases hx with hx | hx
    ·have hx:jh σ.vr q=jh σ'.vr q:=hx;rw[hx]
    ·simp[Loc.hit] at hx
  obtain⟨e,τ',h2,h3⟩:=ih (σ':={ σ' with ce:=ct σ'.ce r l,vr:=hZ σ'.vr (r,0,0) }) h λx hx=>hal x (.inl (hr x (by simp[SP.foot,hx])));refine⟨by simp only[SP.foot];rw[e],τ',h2,λx hx=>h3 x ?_⟩;rcases hx with hx | ⟨w,hw,hh⟩
  ·exact .inl (hal x (.inl hx))
  ·simp only[SP.foot,List.mem_cons] at hw;rcases hw with rfl | rfl | hw
   ·exact .inl (hal x (.inr hh))
   ·left;refine hal x (.inl ?_);cases x<;>simp[Loc.hit] at hh;rw[<- hh];exact hv
   ·exact .inr ⟨w,hw,hh⟩
 | bump q k ih=>
  intro σ σ' b τ h hr;have hv:σ.v q=σ'.v q:=hr (.v q) (by simp[SP.foot])
  have hal:∀x,dq σ σ' x->dq { σ with vr:=hZ σ.vr q } { σ' with vr:=hZ σ'.vr q } x:=by
   intro x hx
   cases x with
   | v q'=>
    show jh (hZ _ _) q'=jh (hZ _ _) q';rw[cL,cL];have hx:jh σ.vr q'=jh σ'.vr q':=hx;rw[hx]
   | _=>exact hx
  obtain⟨e,τ',h2,h3⟩:=ih (σ':={ σ' with vr:=hZ σ'.vr q }) h λx hx=>hal x (hr x (by simp[SP.foot,hx]));refine⟨by simp only[SP.foot];rw[e],τ',h2,λx hx=>h3 x ?_⟩;rcases hx with hx | ⟨w,hw,hh⟩
  ·exact .inl (hal x hx)
  ·simp only[SP.foot,List.mem_cons] at hw;rcases hw with rfl | hw
   ·left;refine hal x ?_;cases x<;>simp[Loc.hit] at hh;rw[<- hh];exact hv
   ·exact .inr ⟨w,hw,hh⟩
def um(a b:List Loc):Bool:=a.any λw=>b.any λx=>w.hit x
def gM(a b:iW):Bool:=um a.2 b.1 || um a.2 b.2 || um b.2 a.1 || um b.2 a.2
theorem iQ{a b:List Loc}(h:um a b=false):∀w∈a,∀x∈b,w.hit x=false:=by
 simp[um] at h
 simp_all
theorem y8{w w' x:Loc}(h:w.hit x=true) (h':w'.hit x=true):w.hit w'=true\/w'.hit w=true:=by
 cases x<;>cases w<;>simp[Loc.hit] at h<;>cases w'<;>simp[Loc.hit] at h' ⊢<;>simp_all
theorem tI{A B:SP Unit}{σ σ1 σ2:St}(hA:A.run σ=some ((),σ1)) (hB:B.run σ1=some ((),σ2)) (hc:gM (A.foot σ) (B.foot σ1)=false) :
 ∃ σ1' σ2',B.run σ=some ((),σ1')/\A.run σ1'=some ((),σ2')/\Bk σ2 σ2'/\B.foot σ=B.foot σ1/\A.foot σ1'=A.foot σ:=by
 simp only[gM,Bool.or_eq_false_iff] at hc;obtain⟨⟨⟨c1,c2⟩,c3⟩,c4⟩:=hc;have hR:=λx hx=>(dO hA x λw hw=>iQ c1 w hw x hx).symm;obtain⟨e1,σ1',TH,PJ⟩:=fq hB hR;have XW:∀x,(∀w∈(B.foot σ1).2,w.hit x=false)->dq σ σ1' x:=λx hx=>dO TH x (by simp_all);have PR:=λx hx=>XW x λw hw=>iQ c3 w hw x hx;obtain⟨e2,σ2',Rj,PI⟩:=fq hA PR;refine⟨σ1',σ2',TH,Rj,λx=>?_,e1,e2⟩;by_cases hx:∃w∈(B.foot σ1).2,w.hit x=true
 ·obtain⟨w,hw,hh⟩:=hx;refine dq.trans (PJ x (.inr ⟨w,hw,hh⟩)) (dO Rj x λw' Tn=>?_);rw[e2] at Tn
  cases hh':w'.hit x with
  | false=>rfl
  | true=>
   rcases y8 hh hh' with h | h
   ·rw[iQ c4 w hw w' Tn] at h;simp at h
   ·rw[iQ c2 w' Tn w hw] at h;simp at h
 ·have QN:∀w∈(B.foot σ1).2,w.hit x=false:=λw hw=>by
   simp_all
  refine dq.trans (dO hB x QN).symm (PI x ?_)
  simp_all
theorem ng{α:Type}{s:SP α}{σ σ':St}{a:α}{τ:St}(h:s.run σ=some (a,τ)) (hs:Bk σ σ'):s.foot σ'=s.foot σ/\∃ τ',s.run σ'=some (a,τ')/\Bk τ τ':=by
 have ⟨e,τ',h1,h2⟩:=fq h λx _=>hs x;exact⟨e,τ',h1,λx=>h2 x (.inl (hs x))⟩
def iY(pg:Nat->SP Unit):List Nat->St->Option (List (Nat×iW)×St)
 | [],σ=>some ([],σ)
 | i :: r,σ=>((pg i).run σ).bind λx=>(iY pg r x.2).bind λy=>some ((i,(pg i).foot σ) :: y.1,y.2)
theorem t8{pg:Nat->SP Unit}:∀{L:List Nat}{σ σ':St}{fs:List (Nat×iW)}{τ:St},iY pg L σ=some (fs,τ)->Bk σ σ'->∃ τ',iY pg L σ'=some (fs,τ')/\Bk τ τ':=by
 intro L
 induction L with
 | nil=>
  intro σ σ' fs τ h hs;obtain⟨rfl,rfl⟩:=h;exact⟨σ',rfl,hs⟩
 | cons i L ih=>
  intro σ σ' fs τ h hs;have ⟨⟨u,σ1⟩,h1,h2⟩:=aZ h;have ⟨⟨R',τ0⟩,h3,h4⟩:=aZ h2
  injection h4 with h4
  injection h4 with h4 h5
  subst h5;have ⟨e,σ1',k1,k2⟩:=ng h1 hs;have ⟨τ',k3,k4⟩:=ih h3 k2;exact⟨τ',by simp[iY,k1,k3,e];rw[h4],k4⟩
theorem qZ{pg:Nat->SP Unit}{i:Nat}{post:List Nat}:∀{pre:List Nat}{σ:St}{fs:List (Nat×iW)}{τ:St},iY pg (pre++i :: post) σ=some (fs,τ) ->
 (∀Yq F XA,fs=Yq++(i,F) :: XA->Yq.map (·.1)=pre->∀y∈Yq,gM y.2 F=false) ->
 ∃ σ' τ' Yq F XA,fs=Yq++(i,F) :: XA/\Yq.map (·.1)=pre/\(pg i).run σ=some ((),σ')/\(pg i).foot σ=F/\iY pg (pre++post) σ'=some (Yq++XA,τ')/\Bk τ τ':=by
 intro pre
 induction pre with
 | nil=>
  intro σ fs τ h _;obtain⟨⟨u,σ1⟩,h1,h2⟩:=aZ h;obtain⟨⟨R',τ0⟩,h3,h4⟩:=aZ h2
  injection h4 with h4
  injection h4 with h4 h5
  subst h5;exact⟨σ1,τ0,[],_,R',h4.symm,rfl,h1,rfl,h3,λx=>dq.refl _ _⟩
 | cons j pre ih=>
  intro σ fs τ h hc;obtain⟨⟨u,σ1⟩,h1,h2⟩:=aZ h;obtain⟨⟨R',τ0⟩,h3,h4⟩:=aZ h2
  injection h4 with h4
  injection h4 with h4 h5
  subst h5;obtain⟨σ2,τ',Yq,F,XA,e1,e2,k1,k2,k3,k4⟩:=ih h3 λYq F XA e e' y hy=>hc ((j,(pg j).foot σ) :: Yq) F XA (by rw[<- h4,e];rfl) (by simp[e']) y (by simp[hy])
  have Y7:gM ((pg j).foot σ) ((pg i).foot σ1)=false:=by
   rw[k2];exact hc ((j,(pg j).foot σ) :: Yq) F XA (by rw[<- h4,e1];rfl) (by simp[e2]) (j,(pg j).foot σ) (by simp)
  obtain⟨σ1',σ2',m1,m2,m3,m4,m5⟩:=tI h1 k1 Y7;obtain⟨τ2,n1,n2⟩:=t8 k3 m3;refine⟨σ1',τ2,(j,(pg j).foot σ) :: Yq,F,XA,by rw[<- h4,e1];rfl,by simp[e2],m1,m4.trans k2,?_,λx=>(k4 x).trans (n2 x)⟩;simp only[List.cons_append,iY,m2,oBS,n1,m5]
def dm(deps:List (List Nat)):List (Nat×iW)->Bool
 | []=>true
 | (j,F) :: r=>(r.all λy=>!gM F y.2 || (deps.getD y.1 []).contains j) && dm deps r
structure dp where
 dst:Option Nat
 guard:Option (Nat×Bool)
 op:TOp
inductive ee where
 | skip
 | nrm (pers:List Nat×List Nat)
 | reg (id:Nat) (draw:Option (List (List Nat))) (ops:List dp) (pers:List Nat×List Nat)
 | seq (a b:ee)
 | cond (c:Opd) (a b:ee)
 | block (id:Nat) (b:ee)
 | loop (b:ee)
 | exit (id:Nat)
 | ret
 | pre (l:List (Nat×Option Nat)) (a:ee)
 | post (a:ee) (l:List (Nat×Option Nat))
inductive eb where
 | normal
 | exit (id:Nat)
 | ret
def renorm0(L:List Nat) (σ:St):TV->TV
 | .ptr p vs=>if L.contains p.root && vs==dQ σ.v p.root p.off p.hops.length then .ptr p (dQ (λ_=>0) p.root p.off p.hops.length) else .dead
 | .pk p vs=>if L.contains p.root && vs==dQ σ.v p.root p.off (p.hops.length+1) then .pk p (dQ (λ_=>0) p.root p.off (p.hops.length+1)) else .dead
 | .pw p vs sz lo n=>if L.contains p.root && vs==dQ σ.v p.root p.off (p.hops.length+1) then .pw p (dQ (λ_=>0) p.root p.off (p.hops.length+1)) sz lo n else .dead
 | .v x=>.v x
 | .sl c=>.sl c
 | .ip cs=>.ip cs
 | .ow []=>.ow []
 | .tup []=>.tup []
 | _=>.dead
def renorm(L:List Nat) (σ:St):TV->TV
 | .agg l=>.agg (l.map (renorm0 L σ))
 | .fn f l=>.fn f (l.map (renorm0 L σ))
 | t=>renorm0 L σ t
def normT(L:List Nat) (σ:St):List Nat->List (Nat×TV)
 | []=>[]
 | i :: r=>match bk σ.tm i with | some t=>(i,renorm L σ t) :: normT L σ r | none=>normT L σ r
def normC(σ:St):List Nat->List (Nat×List TV)
 | []=>[]
 | r :: l=>match bk σ.ce r with | some c=>(r,c) :: normC σ l | none=>normC σ l
abbrev Prs:=List Nat×List Nat
def St.norm(σ:St) (pers:Prs):St:=⟨normT pers.2 σ pers.1,normC σ pers.2,[]⟩
def evop(call:Option Nat->TOp->SP Unit) (dst:Option Nat) (op:TOp):SP Unit:=
 match op with
 | .call k f args=>call dst (.call k f args)
 | .store n mv a x=>match dst with | none=>ev1 0 (.store n mv a x) | some _=>.fail
 | op=>match dst with | some d=>ev1 d op | none=>.fail
def oB(call:Option Nat->TOp->SP Unit) (o:dp) (σ:St):Option St:=
 match o.guard with
 | none=>((evop call o.dst o.op).run σ).map (·.2)
 | some (j,want)=>
  match σ.t j with
  | .v (.bool b)=>if b=want then ((evop call o.dst o.op).run σ).map (·.2) else match o.dst with | some d=>some { σ with tm:=ct σ.tm d (.tup []) } | none=>some σ
  | .tup []=>match o.dst with | some d=>some { σ with tm:=ct σ.tm d (.tup []) } | none=>some σ
  | _=>none
def jA(call:Option Nat->TOp->SP Unit):List dp->St->Option St
 | [],σ=>some σ
 | o :: r,σ=>(oB call o σ).bind (jA call r)
def setNo(dst:Option Nat):SP Unit:=match dst with | some d=>.wrT d (.tup []) (.ret ()) | none=>.ret ()
def spOp(call:Option Nat->TOp->SP Unit) (o:dp):SP Unit:=
 match o.guard with
 | none=>evop call o.dst o.op
 | some (j,want)=>.rdT j λt=>match t with
  | .v (.bool b)=>if b=want then evop call o.dst o.op else setNo o.dst
  | .tup []=>setNo o.dst
  | _=>.fail
def qH:dp:=⟨none,none,.lens (.t 0)⟩
theorem sk{call:Option Nat->TOp->SP Unit}{o:dp}{σ σ':St}(h:(spOp call o).run σ=some ((),σ')):oB call o σ=some σ':=by
 have YU:∀{σ'},(setNo o.dst).run σ=some ((),σ')->(match o.dst with | some d=>some { σ with tm:=ct σ.tm d (.tup []) } | none=>some σ)=some σ':=by
  intro σ' h;unfold setNo at h
  cases hd:o.dst with
  | none=>rw[hd] at h;simp only[SP.run,oSJ,oPJ,true_and] at h;simp[h]
  | some d=>rw[hd] at h;simp only[SP.run,oSJ,oPJ,true_and] at h;simp[h]
 unfold spOp at h;unfold oB
 cases hg:o.guard with
 | none=>simp_all
 | some g=>
  rw[hg] at h;simp[SP.run] at h ⊢;split at h
  ·grind
  ·simp_all
  ·simp[SP.run] at h
def AZ(f:St->Option (eb×St)):Nat->St->Option (eb×St)
 | 0,_=>none
 | n+1,σ=>(f σ).bind λx=>match x.1 with | .normal=>AZ f n x.2 | e=>some (e,x.2)
def shr1(x:Nat×Option Nat):SP Unit:=.rdT x.1 λt=>match x.2,t with
 | none,.pk p vs=>(take1 false (.pk p vs)).bind λt'=>.wrT x.1 t'.imm (.ret ())
 | some off,.ptr p vs=>(chk p p.hops.length vs).bind λ_=>if p.fits off then (getPl (p.add off)).bind λt=>match t with
  | .ow c=>(peek1 (p.add off) (.ow c)).bind λt'=>(take1 false t').bind λ_=>.ret ()
  | _=>.ret ()
  else .fail
 | _,_=>.ret ()
def shrs:List (Nat×Option Nat)->SP Unit
 | []=>.ret ()
 | x :: r=>(shr1 x).bind λ_=>shrs r
def St.anew(σ:St):St:=σ.norm (σ.tm.map (·.1),σ.ce.map (·.1))
def runC(call:Option Nat->TOp->SP Unit) (N:Nat):ee->St->Option (eb×St)
 | .skip,σ=>some (.normal,σ)
 | .nrm pers,σ=>some (.normal,σ.norm pers)
 | .reg _ draw ops pers,σ=>
  match draw with
  | none=>(jA call ops σ).map fun σ'=>(.normal,σ'.norm pers)
  | some deps=>(iY (λi=>spOp call (ops.getD i qH)) (List.range ops.length) σ).bind λx=>if dm deps x.1 then some (.normal,x.2.norm pers) else none
 | .seq a b,σ=>(runC call N a σ).bind λx=>match x.1 with | .normal=>runC call N b x.2 | e=>some (e,x.2)
 | .cond c a b,σ=>((opd c).run σ).bind λx=>match x.1 with | .v (.bool true)=>runC call N a σ | .v (.bool false)=>runC call N b σ | _=>none
 | .block id b,σ=>(runC call N b σ).bind λx=>match x.1 with | .exit i=>if i=id then some (.normal,x.2) else some (.exit i,x.2) | e=>some (e,x.2)
 | .loop b,σ=>AZ (runC call N b) N σ
 | .exit id,σ=>some (.exit id,σ)
 | .ret,σ=>some (.ret,σ)
 | .pre l a,σ=>((shrs l).run σ).bind λx=>runC call N a x.2.anew
 | .post a l,σ=>(runC call N a σ).bind λx=>((shrs l).run x.2).bind λy=>some (x.1,y.2.anew)
section norm
variable {M:Fm} {σ σ':St} {ts:Array Value} {w:World} {G:Gh}
theorem uW(L:List Nat) (σ:St) (l:List Nat) (i:Nat):bk (normT L σ l) i=if i∈l then (bk σ.tm i).map (renorm L σ) else none:=by
 induction l with
 | nil=>simp[normT,bk]
 | cons j r ih=>
  simp[normT];by_cases hj:j=i
  ·subst hj
   cases h:bk σ.tm j with
   | none=>simp_all
   | some t=>simp[bk]
  ·cases h:bk σ.tm j with
   | none=>simp[ih,Ne.symm hj]
   | some t=>simp[bk,hj,ih,Ne.symm hj]
theorem kK(σ:St) (l:List Nat) (r:Nat):bk (normC σ l) r=if r∈l then bk σ.ce r else none:=by
 induction l with
 | nil=>simp[normC,bk]
 | cons j l ih=>
  simp[normC];by_cases hj:j=r
  ·subst hj
   cases h:bk σ.ce j with
   | none=>simp_all
   | some t=>simp[bk]
  ·cases h:bk σ.ce j with
   | none=>simp[ih,Ne.symm hj]
   | some t=>simp[bk,hj,ih,Ne.symm hj]
theorem Inv.norm(hI:Inv M σ [] [] ts w G) (pers:Prs):∃G',Inv M (σ.norm pers) [] [] ts w G':=by
 obtain⟨L,hL⟩:∃L,L=pers.2:=⟨_,rfl⟩
 have hc:∀r o,(σ.norm pers).c r o=if r∈L then σ.c r o else .dead:=by
  intro r o;unfold St.c St.norm;simp only[<- hL,kK];by_cases h:r∈L<;>simp[h]
 have hE:∀r o,bl M (σ.norm pers) [] r o=if r∈L then bl M σ [] r o else .dead:=by
  intro r o;unfold bl;by_cases h:r=M.hr
  ·simp[h]
  ·simp only[oIN h,hc]
 let G':Gh:=⟨G.β,G.η,λr o k=>if r∈L then G.φ r o k else False⟩
 have Z':∀r o k,G'.φ r o k->G.φ r o k:=by
  intro r o k hk;simp only[G'] at hk
  simp_all
 have Yv:=eG.ghost (C':=bl M (σ.norm pers) []) (G':=G') hI.core rfl (λk ⟨r,o,h⟩=>⟨r,o,Z' r o k h⟩) (λr1 o1 r2 o2 k h1 h2=>hI.core.dis _ _ _ _ k (Z' _ _ k h1) (Z' _ _ k h2))
  (λr b o0 n hb o ho=>by
   rw[hE];split
   ·exact hI.core.boxc r b o0 n hb o ho
   ·rfl)
  (λr o=>by
   by_cases h:r∈L
   ·left;exact⟨by rw[hE,oIP h],λk=>by simp[G',h],rfl⟩
   ·right;left;exact⟨by rw[hE,oIN h],λk hk=>by simp[G',h] at hk⟩)
 have QI:(σ.norm pers).v=λ_=>0:=by funext q;rfl
 have VL:∀{t:TV} {x:Value},TmR w (G.F M.A) σ.v (bl M σ []) G t x->TmR w (G'.F M.A) (σ.norm pers).v (bl M (σ.norm pers) []) G' (renorm0 L σ t) x:=by
  intro t x h;rw[QI]
  cases h with
  | v h=>exact .v h
  | nil=>exact .nil
  | sl h=>exact .sl (h.frame (λ_ _ _=>rfl) λk hk _=>Yv.2 k hk)
  | dead=>exact .dead
  | @ptr p vs x V0 h0 hv hok=>
   simp only[renorm0];split
   ·rename_i hc;simp only[oBA,List.contains_iff_mem,beq_iff_eq] at hc;refine .ptr (λ_=>0) (λ_=>Nat.le_refl _) rfl λ_=>?_;obtain⟨h1,ad,t,h2,h3,h4⟩:=hok hc.2;exact⟨h1,ad,t,ff h2 rfl λ_=>rfl,h3,by rw[hE,oIP hc.1];exact h4⟩
   ·exact .dead
  | ip u Y7 hr=>exact .ip u (λj hj=>⟨Yv.2 _ (Y7 j hj).1,(Y7 j hj).2⟩) λj hj=>(hr j hj).frame (λ_ _ _=>rfl) λk hk _=>Yv.2 k hk
  | @pk p vs x V0 h0 hv hok=>
   simp only[renorm0];split
   ·rename_i hc;simp only[oBA,List.contains_iff_mem,beq_iff_eq] at hc;refine .pk (λ_=>0) (λ_=>Nat.le_refl _) rfl λ_=>?_;obtain⟨h1,c,h2,h3⟩:=hok hc.2;exact⟨h1,c,h2,by rw[hE,oIP hc.1];exact h3⟩
   ·exact .dead
  | @pw p vs sz lo n x V0 h0 hv hok=>
   simp only[renorm0];split
   ·rename_i hc;simp at hc;refine .pw (λ_=>0) (λ_=>Nat.le_refl _) rfl λ_=>?_;obtain⟨h1,c,hd,h2,h3,h4⟩:=hok hc.2;exact⟨h1,c,hd,h2,by rw[hE,oIP hc.1];exact h3,h4⟩
   ·exact .dead
  | agg hl h=>exact .dead
  | @tup l xs hl h=>
   cases l with
   | nil=>exact .tup hl λj hj=>by simp at hj
   | cons=>exact .dead
  | fn hl h=>exact .dead
 have Tc:∀{t:TV} {x:Value},TmR w (G.F M.A) σ.v (bl M σ []) G t x->TmR w (G'.F M.A) (σ.norm pers).v (bl M (σ.norm pers) []) G' (renorm L σ t) x:=by
  intro t x h;have h0:=VL h
  cases h with
  | @agg l xs hl h=>exact .agg (by simpa using hl) λj hj=>by simpa using VL (h j (by simpa using hj))
  | @fn f l xs hl h=>exact .fn (by simpa using hl) λj hj=>by simpa using VL (h j (by simpa using hj))
  | _=>exact h0
 refine⟨G',Yv.1,λi=>?_,hI.fram.ghost rfl (λk ⟨r,o,h⟩=>⟨r,o,Z' r o k h⟩),λr l h=>?_,hI.size,rfl,λj hj=>by simp at hj,λr b o n hb l h=>?_⟩
 ·have e:(σ.norm pers).t i=if i∈pers.1 then (match bk σ.tm i with | some t=>renorm L σ t | none=>.dead) else .dead:=by
   unfold St.t St.norm;simp only[<- hL,uW];by_cases h:i∈pers.1
   ·simp only[h,if_true];cases bk σ.tm i<;>rfl
   ·simp[h]
  rw[e];split
  ·cases ha:bk σ.tm i with
   | none=>exact .dead
   | some t=>
    have:=hI.tmr i
    have et:σ.t i=t:=by simp[St.t,ha]
    rw[et] at this;exact Tc this
  ·exact .dead
 ·have:bk (normC σ L) r=some l:=by rw[hL];exact h
  rw[kK] at this;split at this
  ·exact hI.keys r l this
  ·simp at this
 ·have:bk (normC σ L) r=some l:=by rw[hL];exact h
  rw[kK] at this;split at this
  ·exact hI.shape r b o n hb l this
  ·simp at this
end norm
def By(P:Program) (M:Fm) (σ':St) (a:Act) (o:Oper) (w:World):Prop:=
 ∀(K:Act->World->Prop) (Q:Exit->Act->World->Prop),(∀a' w' G',Inv M σ' [] [] a'.tmps w' G'->a'.defers=a.defers->K a' w')->o.wp P a w K Q
theorem gn(a:Act) (d:Option Tmp) (v:Value):(a.put d v).defers=a.defers:=by cases d<;>rfl
theorem eZ.simO{P:Program}{M:Fm}{σ':St}{a:Act}{o:Oper}{w:World}(h:eZ P M σ' a o w):By P M σ' a o w:=by
 have ⟨nx,x,w',G',hrun,Uw,hI⟩:=h;intro K Q hK;unfold Oper.wp;rw[hrun];rcases Uw with rfl | ⟨rfl,rfl⟩
 all_goals exact hK _ w' G' hI (gn _ _ _)
structure lk (P:Program) (M:Fm) (isCall:Op->TOp->Prop) (ops:Array Oper) (o:Oper) (t:dp):Prop where
 dst:t.dst=o.dst
 lt:∀d,o.dst=some d->d < M.N/\M.pr (2*d+2)=none
 guard:(o.guard=none/\t.guard=none)\/∃j want dj,o.guard=some (j,want)/\t.guard=some (dj,want)/\(ops[j]?).bind (·.dst)=some dj
 op:(∃mv,cH P mv o.op=some t.op)\/isCall o.op t.op
def nd(P:Program) (M:Fm) (isCall:Op->TOp->Prop) (call:Option Nat->TOp->SP Unit):Prop:=
 ∀(o:Oper) (t:TOp) (σ σ':St) (a:Act) (w:World) (G:Gh),isCall o.op t->(∀d,o.dst=some d->d < M.N/\M.pr (2*d+2)=none)->Inv M σ [] [] a.tmps w G->(evop call o.dst t).run σ=some ((),σ')->By P M σ' a o w
section
variable {P:Program} {M:Fm} {σ σ':St} {w:World} {G:Gh} {a:Act} {o:Oper} {isCall:Op->TOp->Prop} {call:Option Nat->TOp->SP Unit} {ops:Array Oper}
theorem rT{mv:Nat}{op:Op}{t:TOp}(h:cH P mv op=some t):∀k f args,t≠.call k f args:=by
 rintro k f args rfl;cases op<;>simp only[cH] at h
 case move x=>split at h<;>first | (simp at h;done) | (obtain⟨_,_,h⟩:=de h;simp at h)
 case assign x=>split at h<;>(obtain⟨_,_,h⟩:=de h;simp at h)
 case pick=>obtain⟨_,_,h⟩:=aZ h;obtain⟨_,_,h⟩:=aZ h;obtain⟨_,_,h⟩:=aZ h;simp at h
 case alloc=>obtain⟨_,_,h⟩:=de h;simp at h
 case box=>obtain⟨_,_,h⟩:=aZ h;obtain⟨_,_,h⟩:=aZ h;unfold Cv at h;split at h<;>simp at h
 case build=>(repeat' split at h)<;>first | (simp at h;done) | (obtain⟨_,_,h⟩:=aZ h;obtain⟨_,_,h⟩:=aZ h;simp at h) | (obtain⟨_,_,h⟩:=aZ h;simp at h)
 case buildSlice=>(repeat' split at h)<;>first | (simp at h;done) | (obtain⟨_,_,h⟩:=aZ h;obtain⟨_,_,h⟩:=aZ h;simp at h)
 case load=>obtain⟨_,_,h⟩:=aZ h;obtain⟨_,_,h⟩:=aZ h;simp at h
 case store=>obtain⟨_,_,h⟩:=aZ h;obtain⟨_,_,h⟩:=aZ h;obtain⟨_,_,h⟩:=aZ h;obtain⟨_,_,h⟩:=aZ h;simp at h
 case nilCheck=>obtain⟨_,_,h⟩:=de h;simp at h
 case binOp=>(repeat' split at h)<;>first | (simp at h;done) | (obtain⟨_,_,h⟩:=aZ h;obtain⟨_,_,h⟩:=aZ h;simp at h)
 case unOp=>obtain⟨_,_,h⟩:=de h;simp at h
 case convert=>(repeat' split at h)<;>first | (simp at h;done) | (obtain⟨_,_,h⟩:=de h;simp at h)
 case makeFunc=>split at h<;>first | (simp at h;done) | (obtain⟨_,_,h⟩:=aZ h;obtain⟨_,_,h⟩:=aZ h;simp at h)
 case makeSlice=>(repeat' split at h)<;>first | (simp at h;done) | (obtain⟨_,_,h⟩:=aZ h;obtain⟨_,_,h⟩:=aZ h;obtain⟨_,_,h⟩:=aZ h;simp at h)
 case slice=>(repeat' split at h)<;>first | (simp at h;done) | (obtain⟨_,_,h⟩:=aZ h;obtain⟨_,_,h⟩:=aZ h;obtain⟨_,_,h⟩:=aZ h;simp at h;done) | (obtain⟨_,_,h⟩:=aZ h;obtain⟨_,_,h⟩:=aZ h;obtain⟨_,_,h⟩:=aZ h;obtain⟨_,_,h⟩:=aZ h;simp at h)
 case fieldAddr=>(repeat' split at h)<;>first | (simp at h;done) | (obtain⟨_,_,h⟩:=de h;simp at h)
 case field=>(repeat' split at h)<;>first | (simp at h;done) | (obtain⟨_,_,h⟩:=aZ h;obtain⟨_,_,h⟩:=aZ h;simp at h)
 case indexAddr=>(repeat' split at h)<;>first | (simp at h;done) | (obtain⟨_,_,h⟩:=aZ h;obtain⟨_,_,h⟩:=aZ h;obtain⟨_,_,h⟩:=aZ h;simp at h)
 case index=>(repeat' split at h)<;>first | (simp at h;done) | (obtain⟨_,_,h⟩:=aZ h;obtain⟨_,_,h⟩:=aZ h;simp at h)
 case extract=>simp_all
 case call=>(repeat' split at h)<;>first | (simp at h;done) | (obtain⟨_,_,h⟩:=aZ h;obtain⟨_,_,h⟩:=aZ h;obtain⟨_,_,h⟩:=aZ h;simp at h) | (obtain⟨_,_,h⟩:=de h;simp at h)
 all_goals simp at h
theorem sx(hI:Inv M σ [] [] a.tmps w G) {t:dp}(hok:lk P M isCall ops o t) (Zv:nd P M isCall call) (hr:(evop call t.dst t.op).run σ=some ((),σ')):By P M σ' a o w:=by
 rcases hok.op with ⟨mv,hc⟩ | hc
 ·have TP:=rT hc;by_cases hst:∃ty x y,o.op=.store ty x y
  ·obtain⟨ty,x,y,ho⟩:=hst;rw[ho] at hc;simp only[cH] at hc;obtain⟨n,h1,hc⟩:=aZ hc;obtain⟨u,h2,hc⟩:=aZ hc;obtain⟨x1,h3,hc⟩:=aZ hc;obtain⟨y1,h4,hc⟩:=aZ hc
   injection hc with hc
   rw[<- hc] at hr;simp only[evop] at hr
   cases hd:t.dst with
   | some d=>simp[hd,SP.run] at hr
   | none=>
    simp only[hd] at hr;have hg:=eN h2;exact (vn hI (d:=0) (by rw[<- hok.dst,hd]) h3 h4 ho h1 (by simpa using hg) hr).simO
  ·cases hd:t.dst with
   | none=>
    exfalso;rw[hd] at hr
    cases ht:t.op<;>rw[ht] at hr<;>simp only[evop,SP.run] at hr<;>first | (simp at hr;done) | skip
    ·rename_i n R0 a' x';rw[ht] at hc;cases ho:o.op<;>rw[ho] at hc hst<;>simp only[cH] at hc
     case store=>exact hst ⟨_,_,_,rfl⟩
     case move x=>split at hc<;>first | (simp at hc;done) | (obtain⟨_,_,h⟩:=de hc;simp at h)
     case assign x=>split at hc<;>(obtain⟨_,_,h⟩:=de hc;simp at h)
     case pick=>obtain⟨_,_,h⟩:=aZ hc;obtain⟨_,_,h⟩:=aZ h;obtain⟨_,_,h⟩:=aZ h;simp at h
     case alloc=>obtain⟨_,_,h⟩:=de hc;simp at h
     case box=>obtain⟨_,_,h⟩:=aZ hc;obtain⟨_,_,h⟩:=aZ h;unfold Cv at h;split at h<;>simp at h
     case build=>(repeat' split at hc)<;>first | (simp at hc;done) | (obtain⟨_,_,h⟩:=aZ hc;obtain⟨_,_,h⟩:=aZ h;simp at h) | (obtain⟨_,_,h⟩:=aZ hc;simp at h)
     case buildSlice=>(repeat' split at hc)<;>first | (simp at hc;done) | (obtain⟨_,_,h⟩:=aZ hc;obtain⟨_,_,h⟩:=aZ h;simp at h)
     case load=>obtain⟨_,_,h⟩:=aZ hc;obtain⟨_,_,h⟩:=aZ h;simp at h
     case nilCheck=>obtain⟨_,_,h⟩:=de hc;simp at h
     case binOp=>(repeat' split at hc)<;>first | (simp at hc;done) | (obtain⟨_,_,h⟩:=aZ hc;obtain⟨_,_,h⟩:=aZ h;simp at h)
     case unOp=>obtain⟨_,_,h⟩:=de hc;simp at h
     case convert=>(repeat' split at hc)<;>first | (simp at hc;done) | (obtain⟨_,_,h⟩:=de hc;simp at h)
     case makeFunc=>split at hc<;>first | (simp at hc;done) | (obtain⟨_,_,h⟩:=aZ hc;obtain⟨_,_,h⟩:=aZ h;simp at h)
     case makeSlice=>(repeat' split at hc)<;>first | (simp at hc;done) | (obtain⟨_,_,h⟩:=aZ hc;obtain⟨_,_,h⟩:=aZ h;obtain⟨_,_,h⟩:=aZ h;simp at h)
     case slice=>(repeat' split at hc)<;>first | (simp at hc;done) | (obtain⟨_,_,h⟩:=aZ hc;obtain⟨_,_,h⟩:=aZ h;obtain⟨_,_,h⟩:=aZ h;simp at h;done) | (obtain⟨_,_,h⟩:=aZ hc;obtain⟨_,_,h⟩:=aZ h;obtain⟨_,_,h⟩:=aZ h;obtain⟨_,_,h⟩:=aZ h;simp at h)
     case fieldAddr=>(repeat' split at hc)<;>first | (simp at hc;done) | (obtain⟨_,_,h⟩:=de hc;simp at h)
     case field=>(repeat' split at hc)<;>first | (simp at hc;done) | (obtain⟨_,_,h⟩:=aZ hc;obtain⟨_,_,h⟩:=aZ h;simp at h)
     case indexAddr=>(repeat' split at hc)<;>first | (simp at hc;done) | (obtain⟨_,_,h⟩:=aZ hc;obtain⟨_,_,h⟩:=aZ h;obtain⟨_,_,h⟩:=aZ h;simp at h)
     case index=>(repeat' split at hc)<;>first | (simp at hc;done) | (obtain⟨_,_,h⟩:=aZ hc;obtain⟨_,_,h⟩:=aZ h;simp at h)
     case extract=>obtain⟨_,_,h⟩:=de hc;simp at h
     case call=>(repeat' split at hc)<;>first | (simp at hc;done) | (obtain⟨_,_,h⟩:=aZ hc;obtain⟨_,_,h⟩:=aZ h;obtain⟨_,_,h⟩:=aZ h;simp at h) | (obtain⟨_,_,h⟩:=de hc;simp at h)
     all_goals simp at hc
    ·exact absurd ht (TP _ _ _)
   | some d=>
    have WG:o.dst=some d:=by rw[<- hok.dst,hd]
    obtain⟨h1,h2⟩:=hok.lt d WG
    have X8:(ev1 d t.op).run σ=some ((),σ'):=by
     rw[hd] at hr
     cases ht:t.op<;>rw[ht] at hr<;>simp only[evop] at hr<;>first | exact hr | (simp[SP.run] at hr;done) | exact absurd ht (TP _ _ _)
    exact (Am hI WG h1 h2 hc X8 hst).simO
 ·exact Zv o t.op σ σ' a w G hc hok.lt hI (by rw[<- hok.dst];exact hr)
theorem pt{F:Nat->Prop}{V:Vs}{C:Cs}:TmR w F V C G (.tup []) undef:=.tup (by simp) λj hj=>by simp at hj
theorem Al{tops:List dp}(hlen:tops.length=ops.size) (hok:∀i (h:i < ops.size) (h':i < tops.length),lk P M isCall ops ops[i] tops[i]) (Zv:nd P M isCall call) {Q:Exit->Act->World->Prop} :
 ∀(L:List Nat) (σ:St) (a:Act) (w:World) (G:Gh),(∀i∈L,i < ops.size)->Inv M σ [] [] a.tmps w G->jA call (L.map λi=>tops.getD i ⟨none,none,.lens (.t 0)⟩) σ=some σ' ->
  (∀a' w' G',Inv M σ' [] [] a'.tmps w' G'->a'.defers=a.defers->Q .normal a' w')->wpOps P ops Q L a w:=by
 intro L
 induction L with
 | nil=>
  intro σ a w G _ hI hr hQ;simp only[List.map_nil,jA,oSJ] at hr;subst hr;exact hQ a w G hI rfl
 | cons i L ih=>
  intro σ a w G hL hI hr hQ;have hi:i < ops.size:=hL i (by simp)
  have ZW:i < tops.length:=by omega
  simp only[List.map_cons,jA] at hr
  have e:tops.getD i ⟨none,none,.lens (.t 0)⟩=tops[i]:=by simp[ZW]
  rw[e] at hr
  cases hro:oB call tops[i] σ with
  | none=>simp[hro] at hr
  | some σ1=>
   simp only[hro,oBS] at hr;have hop:=hok i hi ZW;simp only[wpOps,Array.getElem?_eq_getElem hi]
   have go:(evop call tops[i].dst tops[i].op).run σ=some ((),σ1)->ops[i].wp P a w (wpOps P ops Q L) Q:=λh=>by
    refine sx hI hop Zv h _ _ λa' w' G' ZO hd=>?_;exact ih σ1 a' w' G' (λj hj=>hL j (by simp[hj])) ZO hr (λa2 w2 G2 h2 hd2=>hQ a2 w2 G2 h2 (hd2.trans hd))
   have skip:(match tops[i].dst with | some d=>some { σ with tm:=ct σ.tm d (.tup []) } | none=>some σ)=some σ1->wpOps P ops Q L (a.put ops[i].dst undef) w:=λh=>by
    rw[hop.dst] at h
    cases hd:ops[i].dst with
    | none=>
     rw[hd] at h
     injection h with h
     subst h;exact ih σ a w G (λj hj=>hL j (by simp[hj])) hI hr hQ
    | some d=>
     rw[hd] at h
     injection h with h
     subst h;exact ih _ (a.put (some d) undef) w G (λj hj=>hL j (by simp[hj])) (hI.wrT (hop.lt d hd).1 pt) hr (λa2 w2 G2 h2 hd2=>hQ a2 w2 G2 h2 hd2)
   unfold oB at hro;rcases hop.guard with ⟨g1,g2⟩ | ⟨j,want,dj,g1,g2,g3⟩
   ·rw[oIP (by simp[Region.wanted,g1])];left;simp only[g2] at hro;obtain⟨⟨u,σ2⟩,h1,h2⟩:=de hro;exact go (by rw[h1];simp only at h2;rw[h2])
   ·simp only[g2] at hro
    have hy:yielded ops a.tmps j=match (a.tmps[dj]?:Option Value) with | some (.bool b)=>some b | _=>none:=by
     unfold yielded;rw[g3];rfl
    have Zq:=hI.tmr dj
    cases hs:σ.t dj with
    | v x=>
     rw[hs] at Zq hro;obtain⟨hx,_⟩:=Zq.v_inv
     cases x with
     | bool b=>
      have Z6:a.tmps[dj]?=some (.bool b):=by
       rw[Array.getD_eq_getD_getElem?] at hx
       cases hq:a.tmps[dj]? with
       | none=>rw[hq] at hx;simp[undef] at hx
       | some v=>rw[hq] at hx;simp at hx;rw[hx]
      have WE:yielded ops a.tmps j=some b:=by rw[hy,Z6]
      simp only at hro;by_cases hb:b=want
      ·rw[oIP hb] at hro;rw[oIP (by simp[Region.wanted,g1,WE,hb])];left;obtain⟨⟨u,σ2⟩,h1,h2⟩:=de hro;exact go (by rw[h1];simp only at h2;rw[h2])
      ·rw[oIN hb] at hro;rw[oIN (by simp[Region.wanted,g1,WE,hb])];exact skip hro
     | _=>simp at hro
    | tup l=>
     rw[hs] at Zq hro
     cases l with
     | nil=>
      have hu:a.tmps.getD dj undef=undef:=by
       generalize a.tmps.getD dj undef=z at Zq
       cases Zq with
       | @tup _ xs hl _=>have:xs=#[]:=by apply Array.eq_empty_of_size_eq_zero;simpa using hl
                         rw[this];rfl
      have WE:yielded ops a.tmps j=none:=by
       rw[hy];rw[Array.getD_eq_getD_getElem?] at hu
       cases hq:a.tmps[dj]? with
       | none=>rfl
       | some v=>
        rw[hq] at hu;simp only[Option.getD_some] at hu;rw[hu];rfl
      simp only at hro;rw[oIN (by simp[Region.wanted,g1,WE])];exact skip hro
     | cons=>simp at hro
    | _=>rw[hs] at hro;simp at hro
end
section
variable {P:Program} {M:Fm} {σ σ':St} {H:List TV} {xs:List Value} {ts:Array Value} {w:World} {G:Gh} {a:Act} {o:Oper} {isCall:Op->TOp->Prop} {call:Option Nat->TOp->SP Unit} {ops:Array Oper}
theorem Inv.congr(hI:Inv M σ H xs ts w G) (hs:Bk σ σ'):Inv M σ' H xs ts w G:=by
 have hc:bl M σ' H=bl M σ H:=by
  funext r o;unfold bl;split
  ·rfl
  ·exact (hs (.c r o)).symm
 have hv:σ'.v=σ.v:=by funext q;exact (hs (.v q)).symm
 have hn:∀r l,bk σ'.ce r=some l->∃l0,bk σ.ce r=some l0/\l0.length=l.length:=by
  intro r l h;have h1:(bk σ.ce r).map List.length=(bk σ'.ce r).map List.length:=hs (.n r)
  simp_all
 refine⟨by rw[hc];exact hI.core,λi=>?_,hI.fram,λr l h=>?_,hI.size,hI.hand,hI.hval,λr b o n hb l h=>?_⟩
 ·have ht:σ'.t i=σ.t i:=by
   have:bk σ.tm i=bk σ'.tm i:=hs (.t i);simp[St.t,this]
  rw[hc,hv,ht];exact hI.tmr i
 ·have ⟨l0,h1,_⟩:=hn r l h;exact hI.keys r l0 h1
 ·have ⟨l0,h1,h2⟩:=hn r l h;rw[<- h2];exact hI.shape r b o n hb l0 h1
theorem yg{t:dp}{i:Nat}{Q:Exit->Act->World->Prop}{K:Act->World->Prop}(hi:i < ops.size) (hop:lk P M isCall ops ops[i] t) (Zv:nd P M isCall call) (hI:Inv M σ [] [] a.tmps w G) (hro:oB call t σ=some σ')
 (hK:∀a' w' G',Inv M σ' [] [] a'.tmps w' G'->a'.defers=a.defers->K a' w'):wpOp P ops Q i K a w:=by
 unfold wpOp;simp only[Array.getElem?_eq_getElem hi]
 have go:(evop call t.dst t.op).run σ=some ((),σ')->ops[i].wp P a w K Q:=λh=>by
  exact sx hI hop Zv h _ _ hK
 have skip:(match t.dst with | some d=>some { σ with tm:=ct σ.tm d (.tup []) } | none=>some σ)=some σ'->K (a.put ops[i].dst undef) w:=λh=>by
  rw[hop.dst] at h
  cases hd:ops[i].dst with
  | none=>
   rw[hd] at h
   injection h with h
   subst h;exact hK a w G hI rfl
  | some d=>
   rw[hd] at h
   injection h with h
   subst h;exact hK (a.put (some d) undef) w G (hI.wrT (hop.lt d hd).1 pt) rfl
 unfold oB at hro;rcases hop.guard with ⟨g1,g2⟩ | ⟨j,want,dj,g1,g2,g3⟩
 ·rw[oIP (by simp[Region.wanted,g1])];left;simp only[g2] at hro;obtain⟨⟨u,σ2⟩,h1,h2⟩:=de hro;exact go (by rw[h1];simp only at h2;rw[h2])
 ·simp only[g2] at hro
  have hy:yielded ops a.tmps j=match (a.tmps[dj]?:Option Value) with | some (.bool b)=>some b | _=>none:=by
   unfold yielded;rw[g3];rfl
  have Zq:=hI.tmr dj
  cases hs:σ.t dj with
  | v x=>
   rw[hs] at Zq hro;obtain⟨hx,_⟩:=Zq.v_inv
   cases x with
   | bool b=>
    have Z6:a.tmps[dj]?=some (.bool b):=by
     rw[Array.getD_eq_getD_getElem?] at hx
     cases hq:a.tmps[dj]? with
     | none=>rw[hq] at hx;simp[undef] at hx
     | some v=>rw[hq] at hx;simp at hx;rw[hx]
    have WE:yielded ops a.tmps j=some b:=by rw[hy,Z6]
    simp only at hro;by_cases hb:b=want
    ·rw[oIP hb] at hro;rw[oIP (by simp[Region.wanted,g1,WE,hb])];left;obtain⟨⟨u,σ2⟩,h1,h2⟩:=de hro
     simp_all
    ·rw[oIN hb] at hro;rw[oIN (by simp[Region.wanted,g1,WE,hb])];exact skip hro
   | _=>simp at hro
  | tup l=>
   rw[hs] at Zq hro
   cases l with
   | nil=>
    have hu:a.tmps.getD dj undef=undef:=by
     generalize a.tmps.getD dj undef=z at Zq
     cases Zq with
     | @tup _ xs hl _=>have:xs=#[]:=by apply Array.eq_empty_of_size_eq_zero;simpa using hl
                       rw[this];rfl
    have WE:yielded ops a.tmps j=none:=by
     rw[hy];rw[Array.getD_eq_getD_getElem?] at hu
     cases hq:a.tmps[dj]? with
     | none=>rfl
     | some v=>
      rw[hq] at hu;simp only[Option.getD_some] at hu;rw[hu];rfl
    rw[oIN (by simp[Region.wanted,g1,WE])];exact skip hro
   | cons=>simp at hro
  | _=>rw[hs] at hro;simp at hro
structure nc (ops:Array Oper) (deps:List (List Nat)):Prop where
 back:∀i (h:i < ops.size),∀e∈ops[i].after,Region.binds .any e=true->e.on < i
 dep:∀i (h:i < ops.size),∀j∈deps.getD i [],∃e∈ops[i].after,Region.binds .any e=true/\(e.on=j\/j∈deps.getD e.on [])
theorem kR{deps:List (List Nat)}{x:Nat×iW}:∀{l l':List (Nat×iW)},dm deps (l++x :: l')=true->dm deps (l++l')=true/\∀y∈l,gM y.2 x.2=false\/y.1∈deps.getD x.1 []:=by
 intro l
 induction l with
 | nil=>
  intro l' h;simp only[List.nil_append,dm,oBA] at h
  simp_all
 | cons z l ih=>
  intro l' h;simp only[List.cons_append,dm,oBA,List.all_eq_true] at h;obtain⟨h1,h2⟩:=ih h.2;refine⟨by simp only[List.cons_append,dm,oBA,List.all_eq_true];exact⟨λy hy=>h.1 y (by rcases List.mem_append.1 hy with hy | hy<;>simp[hy]),h1⟩,λy hy=>?_⟩;rcases List.mem_cons.1 hy with rfl | hy
  ·simp_all
  ·exact h2 y hy
theorem AE{tops:List dp}{deps:List (List Nat)}(hlen:tops.length=ops.size) (hok:∀i (h:i < ops.size) (h':i < tops.length),lk P M isCall ops ops[i] tops[i]) (Zv:nd P M isCall call) (Zl:nc ops deps) {Q:Exit->Act->World->Prop} :
 ∀(n:Nat) (C:List Nat) (listed:Array Bool) (σ:St) (a:Act) (w:World) (G:Gh) (fs:List (Nat×iW)) (τ:St),C.length=n->listed.size=ops.size->C.Pairwise (· < ·)->(∀j,j∈C↔j < ops.size/\listed.getD j true=false) ->
  (∀i,listed.getD i false=true->∀j∈deps.getD i [],listed.getD j false=true)->Inv M σ [] [] a.tmps w G->iY (λi=>spOp call (tops.getD i qH)) C σ=some (fs,τ)->dm deps fs=true ->
  (∀a' w' G',Inv M τ [] [] a'.tmps w' G'->a'.defers=a.defers->Q .normal a' w')->wpAny P .any ops Q n listed a w:=by
 have Xi:∀{listed:Array Bool},listed.size=ops.size->∀j,j < ops.size->(listed.getD j true=false↔¬ listed.getD j false=true):=by
  intro listed hs j hj
  have:j < listed.size:=by omega
  simp[Array.getD_eq_getD_getElem?,this]
 intro n
 induction n with
 | zero=>
  intro C listed σ a w G fs τ hC hs Y2 Zy Y7 hI hr hp hQ;have hC:C=[]:=oEN hC;subst hC;obtain⟨rfl,rfl⟩:=hr;refine⟨?_,hQ a w G hI rfl⟩;apply List.eq_nil_iff_forall_not_mem.2;intro j hj;obtain⟨h1,o,h2,_⟩:=mem_ready.1 hj;have:=(Zy j).2 ⟨(Array.getElem?_eq_some_iff.1 h2).1,h1⟩;simp at this
 | succ n ih=>
  intro C listed σ a w G fs τ hC hs Y2 Zy Y7 hI hr hp hQ;refine⟨λhnil=>?_,λi hi=>?_⟩
  ·exfalso
   cases C with
   | nil=>simp at hC
   | cons h C=>
    have hh:=(Zy h).1 (by simp)
    have:h∈Region.ready .any ops listed:=by
     refine mem_ready.2 ⟨hh.2,ops[h]'hh.1,Array.getElem?_eq_getElem hh.1,λe he hb=>?_⟩;have hlt:=Zl.back h hh.1 e he hb
     have Rr:e.on < ops.size:=by omega
     cases hl:listed.getD e.on false with
     | true=>rfl
     | false=>
      have hm:=(Zy e.on).2 ⟨Rr,(Xi hs _ Rr).2 (by rw[hl];simp)⟩;rcases List.mem_cons.1 hm with e1 | e1
      ·omega
      ·have:=(List.pairwise_cons.1 Y2).1 _ e1;omega
    rw[hnil] at this;simp at this
  ·obtain⟨h1,o,h2,h3⟩:=mem_ready.1 hi;have Ul:i < ops.size:=(Array.getElem?_eq_some_iff.1 h2).1
   have Qs:o=ops[i]:=by rw[Array.getElem?_eq_getElem Ul] at h2;injection h2 with h2;exact h2.symm
   subst Qs;have Qc:=(Zy i).2 ⟨Ul,h1⟩;obtain⟨pre,post,rfl⟩:=List.append_of_mem Qc
   have T9:∀j∈deps.getD i [],listed.getD j false=true:=λj hj=>by
    obtain⟨e,he,hb,h4⟩:=Zl.dep i Ul j hj;have hl:=h3 e he hb;rcases h4 with rfl | h4
    ·exact hl
    ·exact Y7 _ hl j h4
   have Vz:∀Yq F XA,fs=Yq++(i,F) :: XA->Yq.map (·.1)=pre->∀y∈Yq,gM y.2 F=false:=by
    rintro Yq F XA rfl UF y hy;rcases (kR hp).2 y hy with h | h
    ·exact h
    ·have QQ:y.1∈pre++i :: post:=by rw[<- UF];exact List.mem_append_left _ (List.mem_map_of_mem hy)
     have:=(Zy y.1).1 QQ;exact absurd (T9 _ h) ((Xi hs _ this.1).1 this.2)
   obtain⟨σ',τ',Yq,F,XA,rfl,UF,hrun,_,ZX,Y0⟩:=qZ hr Vz
   have ZW:i < tops.length:=by omega
   have e:tops.getD i qH=tops[i]:=by simp[ZW]
   simp only[e] at hrun;refine yg Ul (hok i Ul ZW) Zv hI (sk hrun) λa' w' G' ZO hd=>?_
   have hne:∀j∈pre++post,j≠i:=λj hj e=>by
    subst e;rw[List.pairwise_append] at Y2;rcases List.mem_append.1 hj with hj | hj
    ·have:=Y2.2.2 j hj j (by simp);omega
    ·have:=(List.pairwise_cons.1 Y2.2.1).1 j hj;omega
   refine ih (pre++post) (listed.setIfInBounds i true) σ' a' w' G' (Yq++XA) τ' (by simp at hC ⊢;omega) (by simp[hs]) ?_ (λj=>?_) (λk hk j hj=>?_) ZO ZX (kR hp).1 λa2 w2 G2 h4 h5=>hQ a2 w2 G2 (h4.congr λx=>(Y0 x).symm) (h5.trans hd)
   ·refine Y2.sublist ?_;exact List.Sublist.append_left (List.sublist_cons_self i post) pre
   ·constructor
    ·intro hj
     have Qe:j∈pre++i :: post:=by rcases List.mem_append.1 hj with hj | hj<;>simp[hj]
     have:=(Zy j).1 Qe;exact⟨this.1,by rw[getD_set_ne true (Ne.symm (hne j hj))];exact this.2⟩
    ·rintro⟨hj1,XY⟩
     have Ry:j≠i:=by
      rintro rfl
      have:j < listed.size:=by omega
      simp[Array.getD_eq_getD_getElem?,this] at XY
     rw[getD_set_ne true (Ne.symm Ry)] at XY;have:=(Zy j).2 ⟨hj1,XY⟩;rcases List.mem_append.1 this with h | h
     ·exact List.mem_append_left _ h
     ·rcases List.mem_cons.1 h with h | h
      ·exact absurd h Ry
      ·exact List.mem_append_right _ h
   ·by_cases hki:k=i
    ·subst hki;exact getD_set_true (T9 j hj)
    ·rw[getD_set_ne false (Ne.symm hki)] at hk;exact getD_set_true (Y7 k hk j hj)
theorem sy{tops:List dp}{deps:List (List Nat)}{id:Nat}(hm:P.follows .mixedOrders=true) (hlen:tops.length=ops.size) (hok:∀i (h:i < ops.size) (h':i < tops.length),lk P M isCall ops ops[i] tops[i]) (Zv:nd P M isCall call) (Zl:nc ops deps)
 {Q:Exit->Act->World->Prop} {fs:List (Nat×iW)} {τ:St} (hI:Inv M σ [] [] a.tmps w G) (hr:iY (λi=>spOp call (tops.getD i qH)) (List.range tops.length) σ=some (fs,τ)) (hp:dm deps fs=true)
 (hQ:∀a' w' G',Inv M τ [] [] a'.tmps w' G'->a'.defers=a.defers->Q .normal a' w'):(Code.region id ops true).wp P Q a w:=by
 refine wp_region_any hm ?_
 have ZO:Inv M σ [] [] a.tmps { w with drawn:=w.drawn+1 } G:=by
  exact (hI.grow (w':={ w with drawn:=w.drawn+1 }) (λ_ _=>rfl) (Nat.le_refl _) rfl rfl rfl).1
 refine AE hlen hok Zv Zl ops.size (List.range ops.size) _ σ a _ G fs τ (by simp) (by simp) List.pairwise_lt_range (λj=>?_) (λi hi=>?_) ZO (by simp_all) hp hQ
 ·simp_all
 ·exfalso;rw[Array.getD_eq_getD_getElem?,Array.getElem?_replicate] at hi;split at hi<;>simp at hi
end
def SP.quiet{α:Type}(d:Nat) (S:List Nat):SP α->Prop
 | .ret _=>True
 | .fail=>True
 | .rdT i k=>i∈S/\∀t,(k t).quiet d S
 | .rdC _ _ k=>∀t,(k t).quiet d S
 | .rdH _ _ k=>∀t,(k t).quiet d S
 | .rdV _ k=>∀n,(k n).quiet d S
 | .wrT i _ k=>i=d/\k.quiet d S
 | .wrC _ _ _ _=>False
 | .new _ _ _=>False
 | .bump _ _=>False
theorem aU{α β:Type}{d:Nat}{S:List Nat}{s:SP α}{f:α->SP β}(h:s.quiet d S) (hf:∀a,(f a).quiet d S):(s.bind f).quiet d S:=by
 induction s with
 | ret a=>exact hf a
 | fail=>exact trivial
 | rdT i k ih=>exact⟨h.1,λt=>ih t (h.2 t)⟩
 | rdC r o k ih=>exact λt=>ih t (h t)
 | rdH r o k ih=>exact λt=>ih t (h t)
 | rdV q k ih=>exact λn=>ih n (h n)
 | wrT i t k ih=>exact⟨h.1,ih h.2⟩
 | wrC r o t k ih=>exact h.elim
 | new r l k ih=>exact h.elim
 | bump q k ih=>exact h.elim
theorem gW{α:Type}{d:Nat}{S:List Nat}{s:SP α}(h:s.quiet d S) (σ:St):(∀x∈(s.foot σ).2,x=.t d)/\∀i,Loc.t i∈(s.foot σ).1->i∈S:=by
 induction s generalizing σ with
 | ret a=>exact⟨λx hx=>by simp[SP.foot] at hx,λi hi=>by simp[SP.foot] at hi⟩
 | fail=>exact⟨λx hx=>by simp[SP.foot] at hx,λi hi=>by simp[SP.foot] at hi⟩
 | rdT i k ih=>
  obtain⟨h1,h2⟩:=ih _ (h.2 (σ.t i)) σ;refine⟨h1,λj hj=>?_⟩;simp only[SP.foot,List.mem_cons] at hj;rcases hj with hj | hj
  ·injection hj with hj;subst hj;exact h.1
  ·exact h2 j hj
 | rdC r o k ih=>
  obtain⟨h1,h2⟩:=ih _ (h (σ.c r o)) σ;refine⟨h1,λj hj=>?_⟩;simp only[SP.foot] at hj
  simp_all
 | rdH r o k ih=>
  obtain⟨h1,h2⟩:=ih _ (h (σ.c r o).hd) σ;refine⟨h1,λj hj=>?_⟩;simp only[SP.foot,List.mem_cons] at hj
  simp_all
 | rdV q k ih=>
  obtain⟨h1,h2⟩:=ih _ (h (σ.v q)) σ;refine⟨h1,λj hj=>?_⟩;simp only[SP.foot,List.mem_cons] at hj
  simp_all
 | wrT i t k ih=>
  obtain⟨h1,h2⟩:=ih h.2 { σ with tm:=ct σ.tm i t };refine⟨λx hx=>?_,h2⟩;simp only[SP.foot,List.mem_cons] at hx;rcases hx with hx | hx
  ·rw[hx,h.1]
  ·exact h1 x hx
 | wrC r o t k ih=>exact h.elim
 | new r l k ih=>exact h.elim
 | bump q k ih=>exact h.elim
def cO:Opd->List Nat
 | .t i=>[i]
 | _=>[]
def cq:TOp->Option (List Nat)
 | .mov (.t i)=>some [i]
 | .mov (.c x)=>match ky x with | .v _=>some [] | _=>none
 | .pick c a b=>some (cO c++(cO a++cO b))
 | .load _ a=>some (cO a)
 | .nilc x=>some (cO x)
 | .fld _ a=>some (cO a)
 | .fldv _ _ x=>some (cO x)
 | .idx _ x i=>some (cO x++cO i)
 | .idxa _ _ x i=>some (cO x++cO i)
 | .ext x _=>some (cO x)
 | .bin _ x y=>some (cO x++cO y)
 | .bnb _ x y=>some (cO x++cO y)
 | .eqa _ _ x y=>some (cO x++cO y)
 | .un _ x=>some (cO x)
 | .conv _ x=>some (cO x)
 | .len x=>some (cO x)
 | .lens x=>some (cO x)
 | .ixs x i=>some (cO x++cO i)
 | _=>none
section
variable {d:Nat} {S:List Nat}
theorem bv{x:Opd}(h:∀i∈cO x,i∈S):(opd x).quiet d S:=by
 cases x with
 | t i=>exact⟨h i (by simp[cO]),λ_=>trivial⟩
 | _=>exact trivial
theorem kx{l:List Key}:(rdVs l).quiet d S:=by
 induction l with
 | nil=>exact trivial
 | cons q l ih=>exact λn=>aU ih λ_=>trivial
theorem eL{p:ba}{n:Nat}{vs:List Nat}:(chk p n vs).quiet d S:=aU kx λl=>by split<;>exact trivial
theorem fD{p:ba}:(getPl p).quiet d S:=λtv=>by
 show SP.quiet d S (match bh tv p.hops with | some t=>SP.ret t | none=>SP.fail);cases bh tv p.hops<;>exact trivial
theorem nU{p:ba}:(A4 p).quiet d S:=by
 unfold A4;split
 ·exact λ_=>trivial
 ·exact aU fD λ_=>trivial
theorem jj{p:ba}{t:TV}:(peek1 p t).quiet d S:=by
 cases t with
 | ow c=>exact aU kx λ_=>trivial
 | _=>exact trivial
theorem q8{p:ba}:(peekP p).quiet d S:=by
 unfold peekP;split
 ·refine λh=>?_
  cases h with
  | some ls=>exact aU kx λ_=>trivial
  | none=>exact aU fD λ_=>jj
 ·exact aU fD λ_=>jj
theorem q9:∀{n:Nat}{p:ba},(peekL p n).quiet d S:=by
 intro n
 induction n with
 | zero=>intro p;exact trivial
 | succ n ih=>
  refine aU fD λt=>aU jj λt'=>?_;split
  ·exact trivial
  ·split
   ·exact aU ih λ_=>trivial
   ·exact trivial
theorem bE{t:TV}:(wr d t).quiet d S:=⟨rfl,trivial⟩
theorem eq{t:TV}:(kg t).quiet d S:=by cases t<;>exact trivial
theorem jk{t:TV}:(natOf t).quiet d S:=by
 cases t with
 | v x=>
  cases x with
  | int k n=>cases n<;>exact trivial
  | _=>exact trivial
 | _=>exact trivial
theorem fC{α:Type}{o:Option α}:(d8 o).quiet d S:=by cases o<;>exact trivial
theorem pI{t:TV}:(gt t).quiet d S:=by
 cases t with
 | pk p vs=>exact aU eL λ_=>aU nU λt=>by cases t<;>exact trivial
 | pw p vs sz lo n=>exact aU eL λ_=>trivial
 | ow c=>cases c<;>exact trivial
 | _=>exact trivial
theorem pJ{op:TOp}(h:cq op=some S):(ev1 d op).quiet d S:=by
 cases op with
 | mov x=>
  cases x with
  | t i=>
   simp only[cq,oSJ] at h;subst h;refine aU (bv λj hj=>by simpa [cO] using hj) λt=>?_
   cases t with
   | ow c=>exact trivial
   | agg l=>
    simp only;split
    ·exact trivial
    ·exact bE
   | _=>exact bE
  | c x=>
   simp only[cq] at h;split at h
   ·rename_i y hy
    have e:ev1 d (.mov (.c x))=wr d (.v y):=by simp only[ev1,opd,hy,SP.bind]
    rw[e];exact bE
   ·simp at h
  | f _=>simp[cq] at h
 | pick c a b=>
  simp only[cq,oSJ] at h;subst h;refine aU (bv λj hj=>by simp[hj]) λt=>?_;split
  ·rename_i bb
   refine aU ?_ λt=>by split<;>first | exact bE | exact trivial
   cases bb
   ·exact bv λj hj=>by simp at hj;simp[hj]
   ·exact bv λj hj=>by simp at hj;simp[hj]
  ·exact trivial
 | load n a=>
  simp only[cq,oSJ] at h;subst h;refine aU (bv λj hj=>by simpa using hj) λt=>?_;split
  ·refine aU eL λ_=>?_
   cases n with
   | none=>exact aU q8 λ_=>bE
   | some n=>exact aU q9 λ_=>bE
  ·split<;>first | exact bE | exact trivial
  ·exact trivial
 | nilc x=>
  simp only[cq,oSJ] at h;subst h;refine aU (bv λj hj=>by simpa using hj) λt=>?_;split
  ·exact aU eL λ_=>bE
  ·exact bE
  ·exact bE
  ·exact trivial
 | fld off a=>
  simp only[cq,oSJ] at h;subst h;refine aU (bv λj hj=>by simpa using hj) λt=>?_;split
  ·refine aU eL λ_=>?_
   split<;>first | exact bE | exact trivial
  ·split<;>first | exact bE | exact trivial
  ·exact trivial
 | fldv off n x=>
  simp only[cq,oSJ] at h;subst h;refine aU (bv λj hj=>by simpa using hj) λt=>?_
  (repeat' split)<;>first | exact bE | exact trivial
 | idx sz x i=>
  simp only[cq,oSJ] at h;subst h;refine aU (bv λj hj=>by simp[hj]) λt=>aU (bv λj hj=>by simp[hj]) λti=>aU jk λk=>?_;split
  ·exact aU eL λ_=>aU nU λt=>by (repeat' split)<;>first | exact bE | exact trivial
  ·exact aU eL λ_=>aU fD λt=>by (repeat' split)<;>first | exact bE | exact trivial
  ·split<;>first | exact bE | exact trivial
  ·exact trivial
 | idxa n sz x i=>
  simp only[cq,oSJ] at h;subst h;refine aU (bv λj hj=>by simp[hj]) λt=>aU (bv λj hj=>by simp[hj]) λti=>aU jk λk=>?_;split
  ·exact aU eL λ_=>by split<;>first | exact bE | exact trivial
  ·exact trivial
 | ext x i=>
  simp only[cq,oSJ] at h;subst h;refine aU (bv λj hj=>by simpa using hj) λt=>?_
  (repeat' split)<;>first | exact bE | exact trivial
 | bin op x y=>
  simp only[cq,oSJ] at h;subst h;refine aU (bv λj hj=>by simp[hj]) λt=>aU (bv λj hj=>by simp[hj]) λti=>aU eq λ_=>aU eq λ_=>aU fC λr=>?_
  split<;>first | exact bE | exact trivial
 | bnb neg x y=>
  simp only[cq,oSJ] at h;subst h;refine aU (bv λj hj=>by simp[hj]) λt=>aU (bv λj hj=>by simp[hj]) λti=>aU eq λ_=>aU eq λ_=>?_
  split<;>first | exact bE | exact trivial
 | eqa ks neg x y=>
  simp only[cq,oSJ] at h;subst h;refine aU (bv λj hj=>by simp[hj]) λt=>aU (bv λj hj=>by simp[hj]) λti=>?_;split
  ·exact aU fC λ_=>aU fC λ_=>aU fC λ_=>bE
  ·exact trivial
 | un op x=>
  simp only[cq,oSJ] at h;subst h;refine aU (bv λj hj=>by simpa using hj) λt=>aU eq λ_=>aU fC λr=>?_
  split<;>first | exact bE | exact trivial
 | conv k x=>
  simp only[cq,oSJ] at h;subst h;refine aU (bv λj hj=>by simpa using hj) λt=>aU eq λ_=>?_
  split<;>first | exact bE | exact trivial
 | len x=>
  simp only[cq,oSJ] at h;subst h;exact aU (bv λj hj=>by simpa using hj) λt=>aU pI λ_=>bE
 | lens x=>
  simp only[cq,oSJ] at h;subst h;refine aU (bv λj hj=>by simpa using hj) λt=>?_
  split<;>first | exact bE | exact trivial
 | ixs x i=>
  simp only[cq,oSJ] at h;subst h;refine aU (bv λj hj=>by simp[hj]) λt=>aU (bv λj hj=>by simp[hj]) λti=>aU jk λk=>?_
  (repeat' split)<;>first | exact bE | exact trivial
 | _=>simp[cq] at h
end
def sG(t:dp):Option (Nat×List Nat):=
 match t.dst,cq t.op with
 | some d,some S=>some (d,(match t.guard with | some (j,_)=>j :: S | none=>S))
 | _,_=>none
theorem ll{α:Type}{d:Nat}{S S':List Nat}(hs:∀i∈S,i∈S') {s:SP α}(h:s.quiet d S):s.quiet d S':=by
 induction s with
 | ret a=>exact trivial
 | fail=>exact trivial
 | rdT i k ih=>exact⟨hs i h.1,λt=>ih t (h.2 t)⟩
 | rdC r o k ih=>exact λt=>ih t (h t)
 | rdH r o k ih=>exact λt=>ih t (h t)
 | rdV q k ih=>exact λn=>ih n (h n)
 | wrT i t k ih=>exact⟨h.1,ih h.2⟩
 | wrC r o t k ih=>exact h.elim
 | new r l k ih=>exact h.elim
 | bump q k ih=>exact h.elim
theorem nT{call:Option Nat->TOp->SP Unit}{t:dp}{d:Nat}{S:List Nat}(h:sG t=some (d,S)):(spOp call t).quiet d S:=by
 unfold sG at h;split at h
 case h_2=>simp at h
 rename_i d' S' hd hq
 injection h with h
 injection h with h1 h2
 subst h1
 have Yj:(evop call t.dst t.op)=ev1 d' t.op:=by
  rw[hd]
  cases hop:t.op<;>rw[hop] at hq<;>first | rfl | simp[cq] at hq
 have YU:(setNo t.dst).quiet d' S:=by rw[hd];exact⟨rfl,trivial⟩
 unfold spOp
 cases hg:t.guard with
 | none=>
  rw[hg] at h2;subst h2;rw[Yj];exact pJ hq
 | some g=>
  obtain⟨j,want⟩:=g;rw[hg] at h2;subst h2;refine⟨by simp,λtv=>?_⟩;show SP.quiet d' (j :: S') (match tv with | .v (.bool b)=>if b=want then evop call t.dst t.op else setNo t.dst | .tup []=>setNo t.dst | _=>.fail);split
  ·split
   ·rw[Yj];exact ll (by simp +contextual) (pJ hq)
   ·exact YU
  ·exact YU
  ·exact trivial
def zP(deps:List (List Nat)) (tops:List dp) (i j:Nat):Bool:=
 (deps.getD j []).contains i || (match sG (tops.getD i qH),sG (tops.getD j qH) with
  | some (di,Si),some (dj,Sj)=>di != dj && !Sj.contains di && !Si.contains dj
  | _,_=>false)
def nM(deps:List (List Nat)) (tops:List dp):List Nat->Bool
 | []=>true
 | i :: r=>(r.all λj=>zP deps tops i j) && nM deps tops r
theorem ra{a b:iW}{da db:Nat}{Sa Sb:List Nat}(ha:(∀x∈a.2,x=.t da)/\∀i,Loc.t i∈a.1->i∈Sa) (hb:(∀x∈b.2,x=.t db)/\∀i,Loc.t i∈b.1->i∈Sb) (h1:da≠db) (h2:da ∉ Sb) (h3:db ∉ Sa):gM a b=false:=by
 have hm:∀(l l':List Loc) (d d':Nat) (S:List Nat),(∀x∈l,x=.t d)->((∀x∈l',x=.t d')/\d≠d'\/(∀i,Loc.t i∈l'->i∈S)/\d ∉ S)->um l l'=false:=by
  intro l l' d d' S hl YC;unfold um;simp;intro w hw x hx;rw[hl w hw]
  cases x with
  | t i=>
   simp[Loc.hit,beq_eq_false_iff_ne];intro e;rcases YC with ⟨q1,q2⟩ | ⟨q1,q2⟩
   ·have:=q1 _ hx;injection this with this;omega
   ·simp_all
  | _=>rfl
 unfold gM;rw[hm a.2 b.1 da 0 Sb ha.1 (.inr ⟨hb.2,h2⟩),hm a.2 b.2 da db [] ha.1 (.inl ⟨hb.1,h1⟩),hm b.2 a.1 db 0 Sa hb.1 (.inr ⟨ha.2,h3⟩),hm b.2 a.2 db da [] hb.1 (.inl ⟨ha.1,Ne.symm h1⟩)];rfl
theorem t7{call:Option Nat->TOp->SP Unit}{tops:List dp}{deps:List (List Nat)}:∀{L:List Nat}{σ τ:St}{fs:List (Nat×iW)},nM deps tops L=true->iY (λi=>spOp call (tops.getD i qH)) L σ=some (fs,τ) ->
 dm deps fs=true/\fs.map (·.1)=L/\∀y∈fs,∃ σ1,y.2=(spOp call (tops.getD y.1 qH)).foot σ1:=by
 intro L
 induction L with
 | nil=>
  intro σ τ fs _ hr;obtain⟨rfl,rfl⟩:=hr;exact⟨rfl,rfl,λy hy=>by simp at hy⟩
 | cons i L ih=>
  intro σ τ fs hs hr;simp only[nM,oBA,List.all_eq_true] at hs;simp only[iY] at hr;obtain⟨x,h1,h2⟩:=aZ hr;obtain⟨y,h3,h4⟩:=aZ h2;obtain⟨rfl,rfl⟩:=h4;obtain⟨Yq,τ1⟩:=y;obtain⟨q1,q2,q3⟩:=ih hs.2 h3;refine⟨?_,by simp[q2],λz hz=>?_⟩
  ·simp only[dm,oBA,List.all_eq_true];refine⟨λz hz=>?_,q1⟩
   have QR:z.1∈L:=by rw[<- q2];exact List.mem_map_of_mem hz
   have hp:=hs.1 z.1 QR;unfold zP at hp;simp only[Bool.or_eq_true] at hp ⊢;rcases hp with hp | hp
   ·exact .inr hp
   ·left;split at hp
    ·rename_i di Si dj Sj e1 e2;simp only[oBA,bne_iff_ne,ne_eq,Bool.not_eq_true',List.contains_eq_mem,decide_eq_false_iff_not] at hp;obtain⟨σ1,e3⟩:=q3 z hz;have:=ra (gW (nT (call:=call) e1) σ) (gW (nT (call:=call) e2) σ1) hp.1.1 hp.1.2 hp.2
     simp_all
    ·simp at hp
  ·rcases List.mem_cons.1 hz with rfl | hz
   ·exact⟨σ,rfl⟩
   ·exact q3 z hz
theorem yD{call:Option Nat->TOp->SP Unit}{o:dp}{σ σ':St}(h:oB call o σ=some σ'):(spOp call o).run σ=some ((),σ'):=by
 have YU:∀{σ'},(match o.dst with | some d=>some { σ with tm:=ct σ.tm d (.tup []) } | none=>some σ)=some σ'->(setNo o.dst).run σ=some ((),σ'):=by
  intro σ' h;unfold setNo
  cases hd:o.dst with
  | none=>rw[hd] at h;simp at h;simp[SP.run,h]
  | some d=>rw[hd] at h;simp at h;simp[SP.run,h]
 have hm:∀{s:SP Unit} {σ'},(s.run σ).map (·.2)=some σ'->s.run σ=some ((),σ'):=by simp_all
 unfold oB at h;unfold spOp
 cases hg:o.guard with
 | none=>rw[hg] at h;exact hm h
 | some g=>
  rw[hg] at h;simp only[SP.run] at h ⊢;split at h
  ·split at h
   ·rename_i Vx;rw[oIP Vx];exact hm h
   ·rename_i Vx;rw[oIN Vx];exact YU h
  ·exact YU h
  ·simp at h
theorem wc{call:Option Nat->TOp->SP Unit}{tops:List dp}:∀{L:List Nat}{σ τ:St},jA call (L.map λi=>tops.getD i qH) σ=some τ->∃fs,iY (λi=>spOp call (tops.getD i qH)) L σ=some (fs,τ):=by
 intro L
 induction L with
 | nil=>intro σ τ h;simp[jA] at h;subst h;exact⟨[],rfl⟩
 | cons i L ih=>
  intro σ τ h;have ⟨σ1,h1,h2⟩:=aZ h;have ⟨fs,h3⟩:=ih h2;refine⟨(i,(spOp call (tops.getD i qH)).foot σ) :: fs,?_⟩;simp only[iY,yD h1,oBS,h3]
theorem ua(tops:List dp):(List.range tops.length).map (λi=>tops.getD i qH)=tops:=by
 apply List.ext_getElem?;intro i;by_cases h:i < tops.length
 ·simp[h]
 ·simp_all
def dl(P:Program) (M:Fm) (isCall:Op->TOp->Prop):ee->Code->Prop
 | .skip,c=>c=.skip
 | .nrm _,c=>c=.skip
 | .reg _ draw tops _,c=>∃id ops dr,c=.region id ops dr/\tops.length=ops.size/\(∀i (h:i < ops.size) (h':i < tops.length),lk P M isCall ops ops[i] tops[i])/\match draw with
  | some deps=>dr=true/\nc ops deps/\P.follows .mixedOrders=true
  | none=>dr=true->∃deps,nc ops deps/\P.follows .mixedOrders=true/\nM deps tops (List.range tops.length)=true
 | .seq x y,c=>∃x' y',c=.seq x' y'/\dl P M isCall x x'/\dl P M isCall y y'
 | .cond k x y,c=>∃k' x' y',c=.cond k' x' y'/\aW k'=some k/\dl P M isCall x x'/\dl P M isCall y y'
 | .block id x,c=>∃x',c=.block id x'/\dl P M isCall x x'
 | .loop x,c=>∃x',c=.loop x'/\dl P M isCall x x'
 | .exit id,c=>c=.exit id
 | .ret,c=>c=.ret
 | .pre l x,c=>(∀y∈l,y.1 < M.N)/\dl P M isCall x c
 | .post x l,c=>(∀y∈l,y.1 < M.N)/\dl P M isCall x c
def eb.toExit:eb->Exit
 | .normal=>.normal
 | .exit id=>.exit id
 | .ret=>.ret
section
variable {P:Program} {M:Fm} {isCall:Op->TOp->Prop} {call:Option Nat->TOp->SP Unit}
theorem fh.toTm{w:World}{F:Nat->Prop}{V:Vs}{C:Cs}{G:Gh}{t:TV}{x:Value}(h:fh w F t x):TmR w F V C G t x:=by
 exact (ImF.im h).toTm
theorem AF{σ σ':St}{ts:Array Value}{w:World}{G:Gh}(hI:Inv M σ [] [] ts w G) {x:Nat×Option Nat}(hx:x.1 < M.N) (hr:(shr1 x).run σ=some ((),σ')):∃G',Inv M σ' [] [] ts w G':=by
 obtain⟨i,off⟩:=x
 have Xw:some ((),σ)=some ((),σ')->∃G',Inv M σ' [] [] ts w G':=λh=>by
  simp only[oSJ,oPJ,true_and] at h;exact⟨G,h ▸ hI⟩
 have Zq:=hI.tmr i
 have drop:∀{t t':TV} {v:Value} {σ1:St} {H:List TV},TmR w (G.F M.A) σ.v (bl M σ []) G t v->(take1 false t).run σ=some (t',σ1)->t'≠.dead->∃G2,Inv M σ1 [] [] ts w G2/\TmR w (G2.F M.A) σ1.v (bl M σ1 []) G2 t'.imm v/\σ1.tm=σ.tm:=by
  intro t t' v σ1 H ht h1 Zz;obtain⟨G1,hg,_⟩:=c9 hI ht h1
  obtain⟨G2,ZM,ZR⟩:=hg.1.dropImm (λj hj=>by
   obtain rfl:j=0:=by simpa using hj
   exact Zz)
  have h0:=ZR 0 (by simp);refine⟨G2,ZM.1,?_,ZM.2.2.2.trans hg.2.2.2⟩;exact h0.toTm
 unfold shr1 at hr;simp only[SP.run] at hr
 cases off with
 | none=>
  cases ht:σ.t i with
  | pk p vs=>
   rw[ht] at hr Zq;simp only at hr;obtain⟨t',σ1,h1,h2⟩:=aT hr;simp only[SP.run,oSJ,oPJ,true_and] at h2
   have Zz:t'≠.dead:=by
    intro e
    rcases em h1 with h | h<;>rw[e] at h<;>simp[bC,fK] at h
   obtain⟨G2,ZQ,Yz,_⟩:=drop (H:=[]) Zq h1 Zz;refine⟨G2,?_⟩;rw[<- h2];have:=ZQ.wrT hx Yz
   have e:ts.setIfInBounds i (ts.getD i undef)=ts:=by
    apply Array.ext
    ·simp
    ·intro j h3 h4;rw[Array.getElem_setIfInBounds (by simpa using h4)]
     simp_all
   rw[e] at this;exact this
  | _=>rw[ht] at hr;exact Xw hr
 | some off=>
  cases ht:σ.t i with
  | ptr p vs=>
   rw[ht] at hr Zq;simp only at hr;obtain⟨_,σ1,h1,h2⟩:=aT hr;have e1:σ1=σ:=(bf h1).1;have e2:=(bf h1).2;subst e1;split at h2
   case isFalse=>simp[SP.run] at h2
   obtain⟨t,σ2,h3,h4⟩:=aT h2;obtain⟨e3,hg⟩:=cc h3;have e3:σ2=σ1:=e3;subst e3
   cases t with
   | ow c=>
    simp only at h4;obtain⟨t',σ3,h5,h6⟩:=aT h4;obtain⟨t2,σ4,h7,h8⟩:=aT h6;simp only[SP.run,oSJ,oPJ,true_and] at h8;subst h8
    cases Zq with
    | ptr V0 h0 hv h=>
     obtain⟨Z7,ad,t0,ha,_,_⟩:=h e2
     have W6:(p.add off).root≠1:=by rw[bP];exact Z7
     obtain⟨hB,u,fp,Zb,hown,UQ⟩:=hI.named W6 (f7 off ha) hg (by simp);obtain⟨rfl,Y6⟩:=jF hI W6 hg hown UQ h5
     have Zz:t2≠.dead:=by
      intro e
      rcases em h7 with h | h<;>rw[e] at h<;>simp[bC,fK] at h
     obtain⟨G2,ZQ,_,_⟩:=drop (H:=[]) Y6 h7 Zz;exact⟨G2,ZQ⟩
   | _=>exact Xw h4
  | _=>rw[ht] at hr;exact Xw hr
theorem vP{ts:Array Value}{w:World}:∀{l:List (Nat×Option Nat)}{σ σ':St}{G:Gh},Inv M σ [] [] ts w G->(∀y∈l,y.1 < M.N)->(shrs l).run σ=some ((),σ')->∃G',Inv M σ' [] [] ts w G':=by
 intro l
 induction l with
 | nil=>
  intro σ σ' G hI _ hr;simp[shrs,SP.run] at hr;exact⟨G,hr ▸ hI⟩
 | cons x l ih=>
  intro σ σ' G hI hl hr;have ⟨_,σ1,h1,h2⟩:=aT hr;have ⟨G1,hI1⟩:=AF hI (hl x (by simp)) h1;exact ih hI1 (λy hy=>hl y (by simp[hy])) h2
theorem sA(Zv:nd P M isCall call) (N:Nat):∀(tc:ee) (c:Code) (σ:St) (e:eb) (σ':St) (a:Act) (w:World) (G:Gh) (Q:Exit->Act->World->Prop),dl P M isCall tc c->runC call N tc σ=some (e,σ')->Inv M σ [] [] a.tmps w G ->
 (∀a' w' G',Inv M σ' [] [] a'.tmps w' G'->a'.defers=a.defers->Q e.toExit a' w')->c.wp P Q a w:=by
 intro tc
 induction tc with
 | skip=>
  intro c σ e σ' a w G Q hc hr hI hQ;simp only[dl] at hc;subst hc;simp only[runC,oSJ,oPJ] at hr;obtain⟨rfl,rfl⟩:=hr;exact wp_skip (hQ a w G hI rfl)
 | nrm pers=>
  intro c σ e σ' a w G Q hc hr hI hQ;simp only[dl] at hc;subst hc;obtain⟨rfl,rfl⟩:=hr;obtain⟨G2,ZQ⟩:=hI.norm pers;exact wp_skip (hQ a w G2 ZQ rfl)
 | reg id draw tops pers=>
  intro c σ e σ' a w G Q hc hr hI hQ;obtain⟨Pf,ops,dr,rfl,hlen,hok,hdr⟩:=hc;simp only[runC] at hr
  cases draw with
  | some deps=>
   simp only at hr;obtain⟨⟨fs,τ⟩,h1,h2⟩:=aZ hr;simp only at h2;split at h2
   ·rename_i hp
    injection h2 with h2
    injection h2 with h2 h3
    subst h2;subst h3;obtain⟨rfl,Zl,hm⟩:=hdr;refine sy hm hlen hok Zv Zl hI h1 hp λa' w' G' ZO hd'=>?_;obtain⟨G2,ZQ⟩:=ZO.norm pers;exact hQ a' w' G2 ZQ hd'
   ·simp at h2
  | none=>
   simp only at hr;obtain⟨σ1,h1,h2⟩:=de hr
   injection h2 with h2 h3
   subst h2;subst h3
   cases dr with
   | true=>
    obtain⟨deps,Zl,hm,hst⟩:=hdr rfl;obtain⟨fs,Zs⟩:=wc (tops:=tops) (L:=List.range tops.length) (by rw[ua];exact h1);refine sy hm hlen hok Zv Zl hI Zs (t7 hst Zs).1 λa' w' G' ZO hd'=>?_;obtain⟨G2,ZQ⟩:=ZO.norm pers;exact hQ a' w' G2 ZQ hd'
   | false=>
   refine wp_region ?_
   have hm:(List.range ops.size).map (λi=>tops.getD i ⟨none,none,.lens (.t 0)⟩)=tops:=by
    apply List.ext_getElem?;intro i;by_cases h:i < ops.size
    ·simp[h,hlen]
    ·rw[oGN (by simpa using h),oGN (by omega)]
   refine Al hlen hok Zv (List.range ops.size) σ a w G (λi hi=>by simpa using hi) hI (by rw[hm];exact h1) λa' w' G' ZO hd'=>?_;obtain⟨G2,ZQ⟩:=ZO.norm pers;exact hQ a' w' G2 ZQ hd'
 | seq x y X2 VO=>
  intro c σ e σ' a w G Q hc hr hI hQ;obtain⟨x',y',rfl,hx,hy⟩:=hc;simp only[runC] at hr;obtain⟨⟨e1,σ1⟩,h1,h2⟩:=aZ hr;refine wp_seq (X2 x' σ e1 σ1 a w G _ hx h1 hI λa' w' G' ZO hd=>?_)
  cases e1 with
  | normal=>exact VO y' σ1 e σ' a' w' G' Q hy h2 ZO λa2 w2 G2 h3 h4=>hQ a2 w2 G2 h3 (h4.trans hd)
  | exit id=>
   simp only[oSJ,oPJ] at h2;obtain⟨rfl,rfl⟩:=h2;exact hQ a' w' G' ZO hd
  | ret=>
   simp only[oSJ,oPJ] at h2;obtain⟨rfl,rfl⟩:=h2;exact hQ a' w' G' ZO hd
 | cond k x y X2 VO=>
  intro c σ e σ' a w G Q hc hr hI hQ;obtain⟨k',x',y',rfl,hk,hx,hy⟩:=hc;simp only[runC] at hr;obtain⟨⟨t,σ1⟩,h1,h2⟩:=aZ hr;obtain⟨rfl,ht⟩:=bB hI.tmr hk h1
  cases t with
  | v z=>
   obtain⟨hz,_⟩:=ht.v_inv
   cases z with
   | bool b=>
    cases b with
    | true=>exact wp_cond_true hz (X2 x' _ e σ' a w G Q hx h2 hI hQ)
    | false=>exact wp_cond_false hz (VO y' _ e σ' a w G Q hy h2 hI hQ)
   | _=>simp at h2
  | _=>simp at h2
 | block id x X2=>
  intro c σ e σ' a w G Q hc hr hI hQ;obtain⟨x',rfl,hx⟩:=hc;simp only[runC] at hr;obtain⟨⟨e1,σ1⟩,h1,h2⟩:=aZ hr;refine wp_block (X2 x' σ e1 σ1 a w G _ hx h1 hI λa' w' G' ZO hd=>?_)
  cases e1 with
  | normal=>
   simp only[oSJ,oPJ] at h2;obtain⟨rfl,rfl⟩:=h2;exact hQ a' w' G' ZO hd
  | exit i=>
   simp only at h2;simp only[eb.toExit,Exit.inBlock];split at h2
   ·rename_i hi;simp only[oSJ,oPJ] at h2;obtain⟨rfl,rfl⟩:=h2;rw[oIP hi];exact hQ a' w' G' ZO hd
   ·rename_i hi;simp only[oSJ,oPJ] at h2;obtain⟨rfl,rfl⟩:=h2;rw[oIN hi];exact hQ a' w' G' ZO hd
  | ret=>
   simp only[oSJ,oPJ] at h2;obtain⟨rfl,rfl⟩:=h2;exact hQ a' w' G' ZO hd
 | loop x X2=>
  intro c σ e σ' a w G Q hc hr hI hQ;obtain⟨x',rfl,hx⟩:=hc;simp only[runC] at hr
  have ZY:∀(n:Nat) (σ:St) (a:Act) (w:World) (G:Gh) (d:List Deferred),a.defers=d->AZ (runC call N x) n σ=some (e,σ')->Inv M σ [] [] a.tmps w G->(∀a' w' G',Inv M σ' [] [] a'.tmps w' G'->a'.defers=d->Q e.toExit a' w')->Code.rounds P x' Q n a w:=by
   intro n
   induction n with
   | zero=>intro σ a w G d _ hr;simp[AZ] at hr
   | succ n ih=>
    intro σ a w G d hd hr hI hQ;simp only[AZ] at hr;obtain⟨⟨e1,σ1⟩,h1,h2⟩:=aZ hr;rw[rounds_succ];refine X2 x' σ e1 σ1 a w G _ hx h1 hI λa' w' G' ZO hd'=>?_
    cases e1 with
    | normal=>exact ih σ1 a' w' G' d (hd'.trans hd) h2 ZO hQ
    | exit i=>
     simp only[oSJ,oPJ] at h2;obtain⟨rfl,rfl⟩:=h2;exact hQ a' w' G' ZO (hd'.trans hd)
    | ret=>
     simp only[oSJ,oPJ] at h2;obtain⟨rfl,rfl⟩:=h2;exact hQ a' w' G' ZO (hd'.trans hd)
  exact wp_loop_rounds N (ZY N σ a w G a.defers rfl hr hI hQ)
 | exit id=>
  intro c σ e σ' a w G Q hc hr hI hQ;simp only[dl] at hc;subst hc;obtain⟨rfl,rfl⟩:=hr;exact wp_exit (hQ a w G hI rfl)
 | ret=>
  intro c σ e σ' a w G Q hc hr hI hQ;simp only[dl] at hc;subst hc;obtain⟨rfl,rfl⟩:=hr;exact wp_ret (hQ a w G hI rfl)
 | pre l x X2=>
  intro c σ e σ' a w G Q hc hr hI hQ;obtain⟨hl,hx⟩:=hc;simp only[runC] at hr;obtain⟨⟨u,σ1⟩,h1,h2⟩:=aZ hr;obtain⟨G1,hI1⟩:=vP hI hl h1;obtain⟨G2,ZQ⟩:=hI1.norm (σ1.tm.map (·.1),σ1.ce.map (·.1));exact X2 c σ1.anew e σ' a w G2 Q hx h2 ZQ hQ
 | post x l X2=>
  intro c σ e σ' a w G Q hc hr hI hQ;obtain⟨hl,hx⟩:=hc;simp only[runC] at hr;obtain⟨⟨e1,σ1⟩,h1,h2⟩:=aZ hr;obtain⟨⟨u,σ2⟩,h3,h4⟩:=aZ h2;simp only[oSJ,oPJ] at h4;obtain⟨rfl,rfl⟩:=h4;refine X2 c σ e1 σ1 a w G Q hx h1 hI λa' w' G' ZO hd=>?_;obtain⟨G2,ZQ⟩:=vP ZO hl h3;obtain⟨G3,Xo⟩:=ZQ.norm (σ2.tm.map (·.1),σ2.ce.map (·.1));exact hQ a' w' G3 Xo hd
end
inductive TRs where
 | tmp (t:Nat)
 | cell (t:Nat) (n:Option Nat)
structure TFn where
 np:Nat
 pp:List Nat
 nt:Nat
 body:ee
 res:List TRs
def B1(np r:Nat):Bool:=r % 2==0 && decide (r < 2*np+2)
def takeR1(np:Nat) (t:TV):SP TV:=
 match t with
 | .pk p vs=>take1 (!B1 np p.root) (.pk p vs)
 | t=>take1 true t
def takeRL(np:Nat):List TV->SP (List TV)
 | []=>.ret []
 | t :: r=>(takeR1 np t).bind λt'=>(takeRL np r).bind λr'=>.ret (t' :: r')
def takeRV(np:Nat) (t:TV):SP (List TV×RSh):=
 match t with
 | .agg l=>(takeRL np l).bind λl'=>.ret (l',.agg l'.length)
 | t=>(takeR1 np t).bind λt'=>.ret ([t'],.one)
def res1(np:Nat):TRs->SP (List TV×RSh)
 | .tmp t=>.rdT t λtv=>takeRV np tv
 | .cell t n=>.rdT t λtv=>match tv with
  | .ptr p vs=>(chk p p.hops.length vs).bind λ_=>match n with
   | none=>(getPl p).bind λt=>(peek1 p t).bind λt'=>takeRV np t'
   | some n=>(peekL p n).bind λl=>takeRV np (.agg l)
  | _=>.fail
def resL(np:Nat):List TRs->SP (List TV×List RSh)
 | []=>.ret ([],[])
 | r :: rs=>(res1 np r).bind λx=>(resL np rs).bind λy=>.ret (x.1++y.1,x.2 :: y.2)
def qI:TV->Bool
 | .v x=>cZ x
 | _=>false
def unV:TV->Value
 | .v x=>x
 | _=>undef
def onesOf:List TV->List RSh
 | []=>[]
 | _ :: r=>.one :: onesOf r
def flatsR:List TRs->SP (List TV)
 | []=>.ret []
 | .tmp t :: r=>.rdT t λtv=>if qI tv then (flatsR r).bind λl=>.ret (tv :: l) else .fail
 | .cell _ _ :: _=>.fail
def resF(np:Nat):List TRs->SP (List TV×List RSh)
 | .tmp t :: r=>.rdT t λtv=>match tv with
  | .ptr p vs=>(chk p p.hops.length vs).bind λ_=>(flatsR r).bind λl=>.ret (.ptr p vs :: l,.ptr :: onesOf l)
  | _=>resL np (.tmp t :: r)
 | qs=>resL np qs
def sE(t:TV):List TV->TV
 | []=>t
 | y :: l=>.tup (t :: y :: l)
def nQ(x:Value):List Value->Value
 | []=>x
 | y :: l=>.tuple (x :: y :: l).toArray
theorem vT{w:World}{F:Nat->Prop}{V:Vs}{C:Cs}{G:Gh}{t:TV}{x:Value}(h:TmR w F V C G t x):∀{l:List TV},l.all qI=true->TmR w F V C G (sE t l) (nQ x (l.map unV)):=by
 intro l hl
 have ZU:∀j (hj:j < l.length),TmR w F V C G l[j] (unV l[j]):=by
  intro j hj;have:=List.all_eq_true.1 hl l[j] (List.getElem_mem hj)
  cases hc:l[j] with
  | v y=>rw[hc] at this;exact .v this
  | _=>rw[hc] at this;simp[qI] at this
 cases l with
 | nil=>exact h
 | cons y l=>
  refine .tup (by simp) λj hj=>?_
  cases j with
  | zero=>exact h
  | succ j=>
   have ZZ:j < (y :: l).length:=by simp_all
   have e:(x :: unV y :: l.map unV).toArray.getD (j+1) undef=unV (y :: l)[j]:=by
    have e0:((y :: l).map unV)[j]?=some (unV (y :: l)[j]):=by rw[List.getElem?_map,oGE ZZ];rfl
    simp_all
   simp_all
def cP:List RSh->List Value->List Value
 | [],_=>[]
 | .one :: r,ys=>ys.headD undef :: cP r ys.tail
 | .agg n :: r,ys=>.agg (ys.take n).toArray :: cP r (ys.drop n)
 | .ptr :: r,ys=>undef :: cP r ys
def gm(sh:List RSh) (ys:List Value):Value:=
 match cP sh ys with
 | [x]=>x
 | l=>.tuple l.toArray
section
variable {P:Program} {M:Fm} {σ σ':St} {H:List TV} {xs:List Value} {ts:Array Value} {w:World} {G:Gh}
theorem py(np:Nat) (t:TV):∃mv,takeR1 np t=take1 mv t:=by
 cases t<;>first | exact⟨true,rfl⟩ | exact⟨_,rfl⟩
theorem vb{np:Nat}:∀{l l':List TV}{ys:List Value}{σ σ':St}{H:List TV}{xs:List Value}{G:Gh},Inv M σ H xs ts w G->l.length=ys.length->(∀j (h:j < l.length),TmR w (G.F M.A) σ.v (bl M σ H) G l[j] (ys.getD j undef)) ->
 (takeRL np l).run σ=some (l',σ')->l'.length=l.length/\(∃G',fi M w ts σ H G σ' (H++l') (xs++ys) G')/\∀j (h:j < l'.length),bC l'[j]=true\/fK l'[j]=true:=by
 intro l
 induction l with
 | nil=>
  intro l' ys σ σ' H xs G hI hl _ hr;obtain⟨rfl,rfl⟩:=hr;have:=oEN (by simpa using hl.symm);subst this;exact⟨rfl,⟨G,by simpa using fi.refl hI⟩,λj h=>by simp at h⟩
 | cons t l ih=>
  intro l' ys σ σ' H xs G hI hl ht hr
  cases ys with
  | nil=>simp at hl
  | cons y ys=>
   obtain⟨t',σ1,h1,h2⟩:=aT hr;obtain⟨r',σ2,h3,h4⟩:=aT h2;obtain⟨rfl,rfl⟩:=h4;obtain⟨mv,S5⟩:=py np t;rw[S5] at h1;obtain⟨G1,ZH,ho⟩:=c9 hI (ht 0 (by simp)) h1;obtain⟨e,⟨G2,ZM⟩,hok⟩:=ih (l':=r') ZH.1 (by simpa using hl) (λj hj=>ZH.tm (by have:=ht (j+1) (by simpa using hj);simpa using this)) h3;refine⟨by simp[e],⟨G2,by simpa using ZH.trans ZM⟩,λj hj=>?_⟩
   cases j with
   | zero=>exact em h1
   | succ j=>exact hok j (by simpa using hj)
theorem l6{np:Nat}{t:TV}{x:Value}{r:List TV×RSh}(hI:Inv M σ H xs ts w G) (hx:TmR w (G.F M.A) σ.v (bl M σ H) G t x) (hr:(takeRV np t).run σ=some (r,σ')) :
 ∃ys G',fi M w ts σ H G σ' (H++r.1) (xs++ys) G'/\r.1.length=ys.length/\(∀j (h:j < r.1.length),bC r.1[j]=true\/fK r.1[j]=true)/\∀(rest:List RSh) (zs:List Value),cP (r.2 :: rest) (ys++zs)=x :: cP rest zs:=by
 by_cases ht:∃q,t=.agg q
 ·obtain⟨q,rfl⟩:=ht;obtain⟨l',σ1,h1,h2⟩:=aT hr;obtain⟨rfl,rfl⟩:=h2;obtain⟨vs,rfl,hl,hj⟩:=uV hx;obtain⟨e1,⟨G',hg⟩,hok⟩:=vb (ys:=vs.toList) hI (by simp[hl]) (λj h=>by simp_all) h1;refine⟨vs.toList,G',hg,by simp[e1,hl],hok,λrest zs=>?_⟩
  have hn:l'.length=vs.toList.length:=by simp_all
  simp only[cP,hn,List.take_left,List.drop_left,Array.toArray_toList]
 ·have e:takeRV np t=(takeR1 np t).bind λt'=>.ret ([t'],.one):=by
   cases t<;>first | rfl | exact absurd ⟨_,rfl⟩ ht
  rw[e] at hr;obtain⟨t',σ1,h1,h2⟩:=aT hr;obtain⟨rfl,rfl⟩:=h2;obtain⟨mv,S5⟩:=py np t;rw[S5] at h1;obtain⟨G',hg,ho⟩:=c9 hI hx h1;refine⟨[x],G',hg,rfl,λj hj=>?_,λrest zs=>rfl⟩
  obtain rfl:j=0:=by simp_all
  exact em h1
def sb(P:Program):TRs->ResultVar->Prop
 | .tmp t,r=>r=.tmp t
 | .cell t n,r=>∃ty,r=.cell t ty/\tG P ty n
theorem AQ{np:Nat}{q:TRs}{q':ResultVar}{r:List TV×RSh}(hI:Inv M σ H xs ts w G) (hq:sb P q q') (hr:(res1 np q).run σ=some (r,σ')) :
 ∃x ys G',(match q' with | .tmp t=>(pure (ts.getD t undef):Sem Value) | .cell a t=>do loadVar t (<- asAddr (ts.getD a undef))).run P w=.ok x w/\fi M w ts σ H G σ' (H++r.1) (xs++ys) G'/\r.1.length=ys.length /\
  (∀j (h:j < r.1.length),bC r.1[j]=true\/fK r.1[j]=true)/\∀(rest:List RSh) (zs:List Value),cP (r.2 :: rest) (ys++zs)=x :: cP rest zs:=by
 cases q with
 | tmp t=>
  have hq:q'=.tmp t:=hq;subst hq;obtain⟨ys,G',h1,h2,h3,h4⟩:=l6 hI (hI.tmr t) hr;exact⟨_,ys,G',rfl,h1,h2,h3,h4⟩
 | cell t n=>
  obtain⟨ty,rfl,hn⟩:=hq;simp only[res1,SP.run] at hr;have Zq:=hI.tmr t
  cases hs:σ.t t with
  | ptr p vs=>
   rw[hs] at hr Zq;simp only at hr;obtain⟨_,σ2,h3,h4⟩:=aT hr;have e1:σ2=σ:=(bf h3).1;have e2:=(bf h3).2;subst e1;generalize hz:ts.getD t undef=z at Zq
   cases Zq with
   | ptr V0 h0 hv h=>
    obtain⟨Z7,ad,t0,ha,rfl,_⟩:=h e2
    cases n with
    | none=>
     obtain⟨dd,hu,YB,hd2⟩:=hn;simp only at h4;obtain⟨t1,σ3,h5,h6⟩:=aT h4;obtain⟨e3,hg⟩:=cc h5;have e3:σ3=σ2:=e3;subst e3;obtain⟨t',σ4,h7,h8⟩:=aT h6;obtain⟨hB,u,fp,Zb,hown,ZK⟩:=hI.named Z7 ha hg (iO h7);obtain⟨rfl,Y6⟩:=jF hI Z7 hg hown ZK h7;obtain⟨ys,G',k1,k2,k3,k4⟩:=l6 hI Y6 h8;refine⟨u,ys,G',?_,k1,k2,k3,k4⟩;show ((do loadVar ty (<- asAddr (ts.getD t undef))):Sem Value).run P w=_;rw[hz];simp[asAddr,loadVar,gk hu YB hd2,Zb]
    | some n=>
     obtain⟨⟨dd,hu,YB⟩,hsz⟩:=hn;simp only at h4;obtain⟨l,σ3,h5,h6⟩:=aT h4;obtain⟨rfl,e3,us,e4,e5⟩:=sK hI Z7 ha h5
     have Sr:TmR w (G.F M.A) σ3.v (bl M σ3 H) G (.agg l) (.agg us.toArray):=.agg (by simp[e3,e4]) λj hj=>by have:=(e5 j hj (by omega)).2;simpa [show j < us.length by omega] using this
     obtain⟨ys,G',k1,k2,k3,k4⟩:=l6 hI Sr h6;refine⟨_,ys,G',?_,k1,k2,k3,k4⟩;have Zu:=eR ha
     have ZV:=run_loadCells_list (P:=P) w ad us λj v hj=>by
      obtain⟨hlt,rfl⟩:=oGS hj;have:=(e5 j (by omega) hlt).1;obtain⟨b,o,s⟩:=ad;simp only at Zu;subst Zu;rw[b4];exact this
     have Y1:(sizeOf ty).run P w=.ok n w:=by
      unfold sizeOf typeInfo
      cases hi:P.info? ty with
      | none=>simp[hi] at hsz
      | some i=>simp[hi] at hsz;simp[hi,hsz]
     rw[e4] at ZV;show ((do loadVar ty (<- asAddr (ts.getD t undef))):Sem Value).run P w=_;rw[hz];simp[asAddr,loadVar,fB hu YB,Y1,ZV]
  | _=>rw[hs] at hr;simp[SP.run] at hr
theorem AP{np:Nat}:∀{qs:List TRs}{qs':List ResultVar}{r:List TV×List RSh}{σ σ':St}{H:List TV}{xs:List Value}{G:Gh},Inv M σ H xs ts w G->qs.length=qs'.length->(∀k (h:k < qs.length) (h':k < qs'.length),sb P qs[k] qs'[k])->(resL np qs).run σ=some (r,σ') ->
 ∃vs ys G',(qs'.mapM λ(q:ResultVar)=>(match q with | .tmp t=>(pure (ts.getD t undef):Sem Value) | .cell a t=>do loadVar t (<- asAddr (ts.getD a undef)))).run P w=.ok vs w/\fi M w ts σ H G σ' (H++r.1) (xs++ys) G'/\r.1.length=ys.length /\
  (∀j (h:j < r.1.length),bC r.1[j]=true\/fK r.1[j]=true)/\cP r.2 ys=vs:=by
 intro qs
 induction qs with
 | nil=>
  intro qs' r σ σ' H xs G hI hl _ hr;have:qs'=[]:=oEN (by simpa using hl.symm);subst this;obtain⟨rfl,rfl⟩:=hr;exact⟨[],[],G,by simp,by simpa using fi.refl hI,rfl,λj h=>by simp at h,rfl⟩
 | cons q qs ih=>
  intro qs' r σ σ' H xs G hI hl hok hr
  cases qs' with
  | nil=>simp at hl
  | cons q' qs'=>
   obtain⟨x,σ1,h1,h2⟩:=aT hr;obtain⟨y,σ2,h3,h4⟩:=aT h2;obtain⟨rfl,rfl⟩:=h4;obtain⟨v,ys,G1,k1,k2,k3,k4,k5⟩:=AQ hI (hok 0 (by simp) (by simp)) h1;obtain⟨vs,zs,G2,l1,l2,l3,l4,l5⟩:=ih (qs':=qs') k2.1 (by simpa using hl) (λk h h'=>hok (k+1) (by simpa using h) (by simpa using h')) h3;refine⟨v :: vs,ys++zs,G2,?_,by simpa using k2.trans l2,by simp[k3,l3],λj hj=>?_,?_⟩
   ·rw[List.mapM_cons,Sem.run_bind];refine (congrArg (λr=>Result.andThen r _) k1).trans ?_;simp only[Result.andThen_ok,Sem.run_bind,l1,Sem.run_pure]
   ·by_cases hjl:j < x.1.length
    ·rw[List.getElem_append_left hjl];exact k4 j hjl
    ·rw[List.getElem_append_right (by omega)];exact l4 _ _
   ·rw[k5,l5]
theorem w8:∀{qs:List TRs}{qs':List ResultVar}{l:List TV}{σ σ':St}{G:Gh},Inv M σ [] [] ts w G->qs.length=qs'.length->(∀k (h:k < qs.length) (h':k < qs'.length),sb P qs[k] qs'[k])->(flatsR qs).run σ=some (l,σ') ->
 σ'=σ/\l.all qI=true/\(qs'.mapM λ(q:ResultVar)=>(match q with | .tmp t=>(pure (ts.getD t undef):Sem Value) | .cell a t=>do loadVar t (<- asAddr (ts.getD a undef)))).run P w=.ok (l.map unV) w:=by
 intro qs
 induction qs with
 | nil=>
  intro qs' l σ σ' G hI hl _ hr;have:qs'=[]:=oEN (by simpa using hl.symm);subst this;obtain⟨rfl,rfl⟩:=hr;exact⟨rfl,rfl,by simp⟩
 | cons q qs ih=>
  intro qs' l σ σ' G hI hl hok hr
  cases qs' with
  | nil=>simp at hl
  | cons q' qs'=>
   cases q with
   | cell t n=>simp[flatsR,SP.run] at hr
   | tmp t=>
    have hq:q'=.tmp t:=hok 0 (by simp) (by simp);subst hq;simp only[flatsR,SP.run] at hr;split at hr
    case isFalse=>simp[SP.run] at hr
    rename_i hf;obtain⟨r,σ1,h1,h2⟩:=aT hr;simp only[SP.run,oSJ,oPJ] at h2;obtain⟨rfl,rfl⟩:=h2;obtain⟨rfl,k2,k3⟩:=ih (qs':=qs') hI (by simpa using hl) (λk h h'=>hok (k+1) (by simpa using h) (by simpa using h')) h1;refine⟨rfl,by rw[List.all_cons,hf,k2];rfl,?_⟩;have hv:=hI.tmr t
    have e:ts.getD t undef=unV (σ1.t t):=by
     cases hc:σ1.t t with
     | v x=>
      rw[hc] at hv
      cases hv with
      | v _=>rfl
     | _=>rw[hc] at hf;simp[qI] at hf
    rw[List.mapM_cons,Sem.run_bind];simp only[Result.andThen_ok,Sem.run_bind,k3,Sem.run_pure];rw[e];rfl
end
section
variable {P:Program} {M:Fm} {σ σ':St} {H:List TV} {xs:List Value} {ts:Array Value} {w:World} {G:Gh}
theorem Inv.trunc(hI:Inv M σ H xs ts w G) {k:Nat}(hd:∀j (h:j < H.length),k<=j->H[j]=.dead):Inv M σ (H.take k) (xs.take k) ts w G/\bl M σ (H.take k)=bl M σ H:=by
 have e:bl M σ (H.take k)=bl M σ H:=by
  funext r o;unfold bl;split
  ·simp
   grind
  ·rfl
 refine⟨⟨by rw[e];exact hI.core,λi=>by rw[e];exact hI.tmr i,hI.fram,hI.keys,hI.size,by simp[hI.hand],λj hj=>?_,hI.shape⟩,e⟩
 have h2:j < k/\j < xs.length:=by simp at hj;omega
 rw[hI.hval j h2.2]
 simp_all
theorem kr(b:Nat) (vs:List Value):∀(o:Nat) (w:World) {k:Nat},k≠b->(w.setCells b o vs).heap[k]?=w.heap[k]?:=by
 induction vs with
 | nil=>intro o w k h;rfl
 | cons v r ih=>
  intro o w k h;simp[World.setCells];rw[ih _ _ h];exact bg w _ v h
theorem ni(b:Nat) (vs:List Value):∀(o:Nat) (w:World) {cur:Array Value}{e:TypeId}{fz:Nat×Nat},w.heap[b]?=some (.cells cur e fz) ->
 ∃YI,(w.setCells b o vs).heap[b]?=some (.cells YI e fz)/\YI.size=cur.size/\∀j,YI[j]?=if o<=j/\j < o+vs.length/\j < cur.size then vs[j - o]? else cur[j]?:=by
 induction vs with
 | nil=>intro o w cur e fz h;exact⟨cur,h,rfl,λj=>by rw[oIN (by simp;omega)]⟩
 | cons v r ih=>
  intro o w cur e fz h;obtain⟨YI,h1,h2,h3⟩:=ih (o+1) _ (dW w b o v h);refine⟨YI,h1,by rw[h2];simp,λj=>?_⟩;rw[h3];simp;by_cases hj:j=o
  ·subst hj;rw[oIN (by omega)];by_cases hs:j < cur.size
   ·rw[oIP (by omega)];simp[hs]
   ·rw[oIN (by omega)];simp[hs]
  ·by_cases hc:o+1<=j/\j < o+1+r.length/\j < cur.size
   ·rw[oIP hc,oIP (by omega)];rw[show j - o=(j - (o+1))+1 by omega];simp
   ·rw[oIN hc,oIN (by omega)];rw[Array.getElem?_setIfInBounds,oIN (Ne.symm hj)]
theorem oA(b:Nat) (vs:List Value):∀(o:Nat) (w:World),w.setCells b o vs={ w with heap:=(w.setCells b o vs).heap }:=by
 induction vs with
 | nil=>intro o w;rfl
 | cons v r ih=>
  intro o w;simp[World.setCells]
  have h:w.setCell ⟨b,o,none⟩ v={ w with heap:=(w.setCell ⟨b,o,none⟩ v).heap }:=by
   unfold World.setCell
   simp_all
  rw[ih];rw[h]
def c8(w W:World) (b:Nat):World:=match w.heap[b]? with | some x=>{ W with heap:=W.heap.setIfInBounds b x } | none=>W
theorem iL{w W:World}{b k:Nat}(h:k≠b):(c8 w W b).heap[k]?=W.heap[k]?:=by
 unfold c8;split
 ·simp[Ne.symm h]
 ·rfl
theorem kv{w W:World}{b:Nat}(h:b < W.heap.size) (h2:b < w.heap.size):(c8 w W b).heap[b]?=w.heap[b]?:=by
 unfold c8
 simp_all
theorem fR{w W:World}{b:Nat}:(c8 w W b).heap.size=W.heap.size:=by
 unfold c8
 grind
theorem kP{w W:World}{b:Nat}:(c8 w W b).os=W.os/\(c8 w W b).tape=W.tape/\(c8 w W b).output=W.output/\(c8 w W b).drawn=W.drawn:=by
 unfold c8
 grind
theorem lm{w W:World}{b o:Nat}{vs:List Value}{cur0 cur:Array Value}{e:TypeId}{fz:Nat×Nat}(h0:w.heap[b]?=some (.cells cur0 e fz)) (h1:W.heap[b]?=some (.cells cur e fz)) (hs:cur.size=cur0.size)
 (Wx:∀j,(j < o\/o+vs.length<=j)->cur[j]?=cur0[j]?) (hin:∀j (h:j < vs.length),cur[o+j]?=some vs[j]):(c8 w W b).setCells b o vs=W:=by
 have PX:=(Array.getElem?_eq_some_iff.1 h1).1;have Vx:=(Array.getElem?_eq_some_iff.1 h0).1;rw[oA];obtain⟨r1,r2,r3,r4⟩:=kP (w:=w) (W:=W) (b:=b)
 have YF:((c8 w W b).setCells b o vs).heap=W.heap:=by
  apply Array.ext_getElem?;intro k;by_cases hk:k=b
  ·subst hk;obtain⟨YI,e1,e2,e3⟩:=ni k vs o (c8 w W k) ((kv PX Vx).trans h0);rw[e1,h1];congr 2;apply Array.ext_getElem?;intro j;rw[e3];split
   ·rename_i hj;have:=hin (j - o) (by omega)
    simp_all
   ·rename_i hj;by_cases hjs:j < cur0.size
    ·exact (Wx j (by omega)).symm
    ·simp_all
  ·rw[kr b vs o _ hk,iL hk]
 simp_all
end
structure u4 (H:List TV) (xs:List Value) (w:World) (G:Gh) (A:Nat->Prop) (pr:Nat->Option (Nat×Nat×Nat)) (bs:Nat->Nat) (ce:List (Nat×List TV)) (ow:Nat->Option Nat):Prop where
 even:∀r b o n,pr r=some (b,o,n)->r % 2=0/\0 < n
 cells:∀r b o n,pr r=some (b,o,n)->∃l,bk ce r=some l/\l.length=n/\∀j (h:j < l.length),∃h':bs r+j < H.length,l[j]=H[bs r+j]/\l[j]≠.dead
 only:∀r l,bk ce r=some l->pr r≠none\/ow r≠none
 owc:∀r j,ow r=some j->r % 2=1/\r≠1/\∃(c:List (List TV)) (h:j < H.length),bk ce r=some [.ow c]/\H[j]=.ow c
 owa:∀r j r' b o n,ow r=some j->pr r'=some (b,o,n)->∀j',j' < n->bs r'+j'≠j
 owi:∀r r' j,ow r=some j->ow r'=some j->r=r'
 apart:∀r b o n r' b' o' n',pr r=some (b,o,n)->pr r'=some (b',o',n')->∀j j',j < n->j' < n'->bs r+j=bs r'+j'->r=r'
 inj:∀r b o n r' o' n',pr r=some (b,o,n)->pr r'=some (b,o',n')->r=r'
 notF:∀r b o n,pr r=some (b,o,n)->¬ G.F A b
 notH:∀r b o n,pr r=some (b,o,n)->∀j,¬ G.φ 1 j b
 here:∀r b o n,pr r=some (b,o,n)->∀j,j < n->w.cell? ⟨b,o+j,none⟩=some (xs.getD (bs r+j) undef)/\w.frozen? ⟨b,o+j,none⟩=false
def Fm.into(M:Fm) (w:World) (G:Gh) (pr:Nat->Option (Nat×Nat×Nat)) (N:Nat):Fm where
 w0:=w
 A:=λk=>G.F M.A k\/(∃j,G.φ 1 j k)\/w.heap.size<=k
 W0:=λk=>∃j,G.φ 1 j k
 pr:=pr
 N:=N
 hA:=λk h=>.inr (.inr h)
def Gh.into(G:Gh) (pr:Nat->Option (Nat×Nat×Nat)) (bs:Nat->Nat) (ow:Nat->Option Nat) (xs:List Value):Gh:=
 ⟨pr,λr _=>match ow r with | some j=>xs.getD j undef | none=>undef,λr o k=>(∃b o0 n,pr r=some (b,o0,n)/\o < n/\G.φ 1 (bs r+o) k)\/∃j,ow r=some j/\o=0/\G.φ 1 j k⟩
theorem dP{G:Gh}{pr:Nat->Option (Nat×Nat×Nat)}{bs:Nat->Nat}{ow:Nat->Option Nat}{xs:List Value}{r o k:Nat}(h:(G.into pr bs ow xs).φ r o k):∃j,G.φ 1 j k:=by
 rcases h with ⟨_,_,_,_,_,h⟩ | ⟨_,_,_,h⟩<;>exact⟨_,h⟩
section
variable {P:Program} {M:Fm} {σ σ':St} {H:List TV} {xs:List Value} {ts:Array Value} {w:World} {G:Gh}
variable {pr:Nat->Option (Nat×Nat×Nat)} {bs:Nat->Nat} {ce:List (Nat×List TV)} {ow:Nat->Option Nat}
theorem u4.F(hh:u4 H xs w G M.A pr bs ce ow) {N k:Nat}(h:G.F M.A k):(G.into pr bs ow xs).F (M.into w G pr N).A k:=
 ⟨.inl h,λr o hφ=>by have ⟨j,h3⟩:=dP hφ;exact h.2.1 _ _ h3,λr b o n hb e=>hh.notF r b o n hb (e ▸ h)⟩
theorem iU{w:World}{b o:Nat}{v:Value}(h:w.cell? ⟨b,o,none⟩=some v):∃cur e fz,w.heap[b]?=some (.cells cur e fz)/\o < cur.size/\cur[o]?=some v:=by
 unfold World.cell? at h;split at h
 ·rename_i cur e fz hb
  grind
 ·simp at h
theorem Inv.enter(hI:Inv M σ H xs ts w G) (hh:u4 H xs w G M.A pr bs ce ow) {tm:List (Nat×TV)}{Yi:Array Value}{N:Nat}(hN:Yi.size=N)
 (ht:∀i,TmR w ((G.into pr bs ow xs).F (M.into w G pr N).A) (λ_=>0) (bl (M.into w G pr N) ⟨tm,ce,[]⟩ []) (G.into pr bs ow xs) ((bk tm i).getD .dead) (Yi.getD i undef)) :
 Inv (M.into w G pr N) ⟨tm,ce,[]⟩ [] [] Yi w (G.into pr bs ow xs):=by
 have Yj:∀r b o n,pr r=some (b,o,n)->r≠1:=λr b o n h e=>by have:=(hh.even r b o n h).1;omega
 have YU:∀r b o n,pr r=some (b,o,n)->ow r=none:=λr b o n h=>by
  cases e:ow r with
  | none=>rfl
  | some j=>have:=(hh.even r b o n h).1;have:=(hh.owc r j e).1;omega
 have hne:∀r l,bk ce r=some l->r≠1:=by
  intro r l h;rcases hh.only r l h with h1 | h1
  ·cases hp:pr r with
   | none=>exact absurd hp h1
   | some x=>exact Yj r _ _ _ hp
  ·cases hp:ow r with
   | none=>exact absurd hp h1
   | some j=>exact (hh.owc r j hp).2.1
 have hcell:∀r o,bl (M.into w G pr N) ⟨tm,ce,[]⟩ [] r o=match bk ce r with | some l=>l.getD o .dead | none=>.dead:=by
  intro r o;unfold bl;split
  ·rename_i e
   cases hc:bk ce r with
   | none=>simp
   | some l=>exact absurd e (hne r l hc)
  ·rfl
 refine⟨⟨λr o=>?_,λr b o0 n hb=>?_,λr b o0 n hb o ho=>?_,λr r' b o n o' n' h1 h2=>hh.inj r b o n r' o' n' h1 h2,λr b o n hb r' o' hφ=>by obtain⟨j,h3⟩:=dP hφ;exact hh.notH r b o n hb _ h3,λr1 o1 r2 o2 k Zf YG=>?_,λr o k hφ=>.inr (.inl (dP hφ))⟩,ht,?_,λr l h=>hne r l h,hN,rfl,λj hj=>by simp at hj,λr b o n hb l hl=>?_⟩
 ·rw[hcell]
  cases hc:bk ce r with
  | none=>
   left;refine⟨rfl,λk hk=>?_⟩;rcases hk with ⟨b1,p1,n1,h1,h2,h3⟩ | ⟨j,h1,_⟩
   ·obtain⟨l,h4,_⟩:=hh.cells r _ _ _ h1;rw[hc] at h4;simp at h4
   ·obtain⟨_,_,c,_,h4,_⟩:=hh.owc r j h1;rw[hc] at h4;simp at h4
  | some l=>
   cases hp:pr r with
   | none=>
    obtain⟨j,hj⟩:∃j,ow r=some j:=by
     rcases hh.only r l hc with h1 | h1
     ·exact absurd hp h1
     ·cases e:ow r with
      | none=>exact absurd e h1
      | some j=>exact⟨j,rfl⟩
    obtain⟨_,_,c,hjl,h4,h5⟩:=hh.owc r j hj;rw[hc] at h4
    injection h4 with h4
    subst h4
    cases o with
    | zero=>
     right;have hown:=hI.hand_own hjl (by rw[h5];simp)
     have hval:(G.into pr bs ow xs).val w r 0=xs.getD j undef:=by
      unfold Gh.val Gh.into;simp only[hp,hj]
     rw[hval];simp only[List.getD_cons_zero];rw[h5] at hown;refine (hown.frame (λ_ _=>rfl) (λ_ _ _=>rfl) λk hk _=>hh.F hk).refp λk=>?_;constructor
     ·intro hk;exact .inr ⟨j,hj,rfl,hk⟩
     ·rintro (⟨b1,p1,n1,h1,_,_⟩ | ⟨j',h1,_,hk⟩)
      ·rw[hp] at h1;simp at h1
      ·rw[hj] at h1;injection h1 with h1;rw[h1];exact hk
    | succ o=>
     left;refine⟨by simp,λk hk=>?_⟩;rcases hk with ⟨b1,p1,n1,h1,_,_⟩ | ⟨j',_,h1,_⟩
     ·rw[hp] at h1;simp at h1
     ·omega
   | some x=>
    obtain⟨b,o0,n⟩:=x;obtain⟨l',h4,h5,h6⟩:=hh.cells r _ _ _ hp;rw[hc] at h4
    injection h4 with h4
    subst h4;by_cases ho:o < l.length
    ·right;obtain⟨h7,h8,h9⟩:=h6 o ho;have hown:=hI.hand_own h7 (by rw[<- h8];exact h9)
     have hval:(G.into pr bs ow xs).val w r o=xs.getD (bs r+o) undef:=by
      unfold Gh.val Gh.into;simp only[hp];rw[(hh.here r _ _ _ hp o (by omega)).1];rfl
     rw[hval]
     have e:l.getD o .dead=l[o]:=by simp[ho]
     simp only[e];rw[h8];refine (hown.frame (λ_ _=>rfl) (λ_ _ _=>rfl) λk hk _=>hh.F hk).refp λk=>?_;constructor
     ·intro hk;exact .inl ⟨b,o0,n,hp,by omega,hk⟩
     ·rintro (⟨_,_,_,_,_,hk⟩ | ⟨j',h1,_,_⟩)
      ·exact hk
      ·rw[YU r _ _ _ hp] at h1;simp at h1
    ·left;refine⟨by simp only[];rw[oGD,oGN (by omega)];rfl,λk hk=>?_⟩;rcases hk with ⟨b1,p1,n1,h1,h2,h3⟩ | ⟨j',h1,_,_⟩
     ·rw[hp] at h1
      injection h1 with h1
      injection h1 with _ h1
      injection h1 with _ h1
      omega
     ·rw[YU r _ _ _ hp] at h1;simp at h1
 ·have hn:=(hh.even r _ _ _ hb).2;have YW:pr r=some (b,o0,n):=hb;obtain⟨cur,e,fz,h1,h2,h3⟩:=iU (hh.here r _ _ _ YW (n - 1) (by omega)).1;exact⟨cur,e,fz,h1,by omega,λj hj=>(hh.here r _ _ _ YW j hj).2⟩
 ·have YW:pr r=some (b,o0,n):=hb;rw[hcell];obtain⟨l,h1,h2,_⟩:=hh.cells r _ _ _ YW;rw[h1];show l.getD o .dead=.dead;rw[oGD,oGN (by omega)];rfl
 ·rcases Zf with ⟨b1,p1,n1,h1,h2,h3⟩ | ⟨j1,h1,h2,h3⟩<;>rcases YG with ⟨b2,p2,n2,k1,k2,k3⟩ | ⟨j2,k1,k2,k3⟩
  ·obtain⟨_,h5⟩:=hI.core.dis _ _ _ _ k h3 k3;have:=hh.apart _ _ _ _ _ _ _ _ h1 k1 _ _ h2 k2 h5;subst this;exact⟨rfl,by omega⟩
  ·obtain⟨_,h5⟩:=hI.core.dis _ _ _ _ k h3 k3;exact absurd h5 (hh.owa _ _ _ _ _ _ k1 h1 _ h2)
  ·obtain⟨_,h5⟩:=hI.core.dis _ _ _ _ k h3 k3;exact absurd h5.symm (hh.owa _ _ _ _ _ _ h1 k1 _ k2)
  ·obtain⟨_,h5⟩:=hI.core.dis _ _ _ _ k h3 k3;subst h5;exact⟨hh.owi _ _ _ h1 k1,by omega⟩
 ·refine⟨rfl,rfl,rfl,Nat.le_refl _,λ_ _ _ _=>rfl,λr b o n hp=>⟨hp,?_⟩,λr o k hφ=>.inl (dP hφ),λr b o n hb=>.inl hb,λr hb=>?_⟩
  ·have hn:=(hh.even r _ _ _ hp).2;obtain⟨cur,e,fz,h1,h2,h3⟩:=iU (hh.here r _ _ _ hp (n - 1) (by omega)).1;exact⟨cur,cur,e,fz,h1,h1,rfl,λ_ _=>rfl⟩
  ·cases hp:pr r with
   | none=>exact absurd hp hb
   | some x=>exact (hh.even r _ _ _ hp).1
 ·obtain⟨l',h1,h2,_⟩:=hh.cells r _ _ _ hb;have YC:bk ce r=some l:=hl;rw[YC] at h1
  injection h1 with h1
  rw[h1];exact h2
end
structure z8 (H2:List TV) (ys:List Value) (H':List TV) (xs':List Value) (C2:Cs) (G2:Gh) (w2:World) (pr:Nat->Option (Nat×Nat×Nat)) (bs:Nat->Nat):Prop where
 len:H'.length=xs'.length
 low:∀j (h:j < H2.length),∃h':j < H'.length,H'[j]=H2[j]/\xs'.getD j undef=ys.getD j undef
 cells:∀r b o n,pr r=some (b,o,n)->∀t,t < n->∃h:bs r+t < H'.length,H2.length<=bs r+t/\H'[bs r+t]=C2 r t/\xs'.getD (bs r+t) undef=G2.val w2 r t
 cover:∀j,j < H'.length->j < H2.length\/∃r b o n t,pr r=some (b,o,n)/\t < n/\j=bs r+t
 apart:∀r b o n r' b' o' n',pr r=some (b,o,n)->pr r'=some (b',o',n')->∀j j',j < n->j' < n'->bs r+j=bs r'+j'->r=r'
section
variable {P:Program} {M:Fm} {σ σ2:St} {H H2 H':List TV} {xs ys xs':List Value} {ts ts2:Array Value} {w w2 w':World} {G G2:Gh}
variable {pr:Nat->Option (Nat×Nat×Nat)} {bs bs2:Nat->Nat} {ce:List (Nat×List TV)} {N:Nat} {ow:Nat->Option Nat}
theorem Inv.leave(hI:Inv M σ H xs ts w G) (hh:u4 H xs w G M.A pr bs ce ow) (h2:Inv (M.into w G pr N) σ2 H2 ys ts2 w2 G2) (Z2:z8 H2 ys H' xs' (bl (M.into w G pr N) σ2 H2) G2 w2 pr bs2)
 (hs:w'.heap.size=w2.heap.size) (ho:w'.os=w2.os) (QH:w'.tape=w2.tape) (hu:w'.output=w2.output) (Y0:∀k,(∀r b o n,pr r=some (b,o,n)->k≠b)->w'.heap[k]?=w2.heap[k]?)
 (Ya:∀r b o n,pr r=some (b,o,n)->w'.heap[b]?=w.heap[b]?):∃G',Inv M σ H' xs' ts w' G'/\d6 M w σ H G w' σ H' G'/\G'.β=G.β:=by
 have XR:=h2.fram
 let f:Nat->Nat->Prop:=λj k=>(j < H2.length/\G2.φ 1 j k)\/∃r b o n t,pr r=some (b,o,n)/\t < n/\j=bs2 r+t/\G2.φ r t k
 have hfφ:∀j k,f j k->∃r o,G2.φ r o k:=by
  rintro j k (⟨_,h⟩ | ⟨r,b,o,n,t,_,_,_,h⟩)
  ·exact⟨_,_,h⟩
  ·exact⟨_,_,h⟩
 have hβ2:=λr b o n h=>(XR.par r b o n h).1
 have Z7:∀r b o n,pr r=some (b,o,n)->r≠1:=λr b o n h e=>by have:=(hh.even r b o n h).1;omega
 have hφw:∀r o k,G2.φ r o k->w'.heap[k]?=w2.heap[k]?:=λr o k h=>Y0 k λr' b o' n hp e=>h2.core.boxf r' b o' n (hβ2 _ _ _ _ hp) _ _ (e ▸ h);have Yr:∀k,G2.F (M.into w G pr N).A k->w'.heap[k]?=w2.heap[k]?:=λk h=>Y0 k λr' b o' n hp e=>h.2.2 r' b o' n (hβ2 _ _ _ _ hp) e
 obtain⟨G',a1,a2,a3,_⟩:=hI.rehandL (w':=w') (H':=H') (xs':=xs') (f:=f) (Fx:=G2.F (M.into w G pr N).A)
  (λk hk hn=>by
   by_cases hp:∃r b o n,pr r=some (b,o,n)/\k=b
   ·obtain⟨r,b,o,n,hp,rfl⟩:=hp;exact Ya r k o n hp
   ·have hp':∀r b o n,pr r=some (b,o,n)->k≠b:=λr b o n h e=>hp ⟨r,b,o,n,h,e⟩;rw[Y0 k hp']
    exact XR.old k hk (λ⟨j,hj⟩=>hn j hj) hp')
  (by rw[hs];exact XR.size) (ho.trans XR.os) (QH.trans XR.tape) (hu.trans XR.output) Z2.len
  (λj k h=>by
   refine⟨?_,?_⟩
   ·rcases h with ⟨h,_⟩ | ⟨r,b,o,n,t,hp,ht,rfl,_⟩
    ·exact (Z2.low j h).1
    ·exact (Z2.cells r b o n hp t ht).1
   ·obtain⟨r,o,hφ⟩:=hfφ j k h
    exact XR.own r o k hφ)
  (λj j' k h h'=>by
   rcases h with ⟨h1,h3⟩ | ⟨r,b,o,n,t,hp,ht,rfl,h3⟩
   ·rcases h' with ⟨k1,k3⟩ | ⟨r',b',o',n',t',hp',Y6,rfl,k3⟩
    ·exact (h2.core.dis _ _ _ _ k h3 k3).2
    ·exact absurd (h2.core.dis _ _ _ _ k h3 k3).1.symm (Z7 _ _ _ _ hp')
   ·rcases h' with ⟨k1,k3⟩ | ⟨r',b',o',n',t',hp',Y6,rfl,k3⟩
    ·exact absurd (h2.core.dis _ _ _ _ k h3 k3).1 (Z7 _ _ _ _ hp)
    ·obtain⟨e1,e2⟩:=h2.core.dis _ _ _ _ k h3 k3
     rw[e1,e2])
  (λk h=>⟨h.1,λj hf=>by obtain⟨r,o,hφ⟩:=hfφ j k hf;exact h.2.1 r o hφ⟩)
  (λj hj=>by
   rcases Z2.cover j hj with h | ⟨r,b,o,n,t,hp,ht,rfl⟩
   ·obtain⟨_,e1,e2⟩:=Z2.low j h
    have YU:∀k,f j k↔G2.φ 1 j k:=λk=>by
     constructor
     ·rintro (⟨_,h⟩ | ⟨r,b,o,n,t,hp,ht,e,_⟩)
      ·exact h
      ·have:=(Z2.cells r b o n hp t ht).2.1;omega
     ·exact λhk=>.inl ⟨h,hk⟩
    by_cases hd:H2[j]=.dead
    ·left;refine⟨e1.trans hd,λk hk=>?_⟩;refine h2.phi_dead (r:=1) (o:=j) ?_ k ((YU k).1 hk);rw[show (1:Nat)=(M.into w G pr N).hr from rfl,fI];simp[h,hd]
    ·right;have:=h2.hand_own h hd;rw[e1,e2];exact (this.frame (λk hk=>hφw _ _ k hk) (λk hk _=>Yr k hk) λk hk _=>hk).refp λk=>(YU k).symm
   ·obtain⟨h1,h3,h4,h5⟩:=Z2.cells r b o n hp t ht
    have YU:∀k,f (bs2 r+t) k↔G2.φ r t k:=λk=>by
     constructor
     ·rintro (⟨h,_⟩ | ⟨r',b',o',n',t',hp',Y6,e,hk⟩)
      ·omega
      ·have:=Z2.apart _ _ _ _ _ _ _ _ hp hp' _ _ ht Y6 e
       simp_all
     ·exact λhk=>.inr ⟨r,b,o,n,t,hp,ht,rfl,hk⟩
    rw[h4,h5];rcases h2.core.cell r t with ⟨c1,c2⟩ | c1
    ·left;exact⟨c1,λk hk=>c2 k ((YU k).1 hk)⟩
    ·right
     exact (c1.frame (λk hk=>hφw _ _ k hk) (λk hk _=>Yr k hk) λk hk _=>hk).refp λk=>(YU k).symm)
 exact⟨G',a1,a2,a3⟩
end
def i3:TV->Bool
 | .v _=>true
 | .sl _=>true
 | .ip _=>true
 | .ow []=>true
 | .fn _ l=>l.all ru
 | .agg l=>l.all λt=>match t with | .v _=>true | .sl _=>true | _=>false
 | _=>false
def Ct:TV->Bool
 | .pk _ _=>true
 | .ow []=>true
 | _=>false
def argV(x:Option Nat×Opd):SP TV:=(opd x.2).bind λt=>if x.1==some 0 && Ct t then .ret t else match t with
 | .ip cs=>.ret (.ip cs)
 | .fn f cap=>.ret (.fn f cap)
 | .ptr p vs=>.ret (.ptr p vs)
 | t=>(takeV false t).bind λl=>.ret (gY l.2 (l.1.map TV.imm))
def argVs:List (Option Nat×Opd)->SP (List TV)
 | []=>.ret []
 | x :: r=>(argV x).bind λt=>(argVs r).bind λl=>.ret (t :: l)
def takeOwns:Nat->List (Option Nat×TV)->SP (List (Nat×TV))
 | _,[]=>.ret []
 | i,(some 0,.pk p vs) :: r=>(take1 true (.pk p vs)).bind λt=>if fK t then (takeOwns (i+1) r).bind λq=>.ret ((i,t) :: q) else .fail
 | i,_ :: r=>takeOwns (i+1) r
structure GP where
 i:Nat
 p:ba
 vs:List Nat
 cells:List TV
def qd(p:ba):Nat->SP (List TV)
 | 0=>.ret []
 | n+1=>(getPl p).bind λt=>(peek1 p t).bind λt'=>(take1 true t').bind λt2=>match n with
  | 0=>.ret [t2]
  | _=>if p.fits 1 then (qd (p.add 1) n).bind λr=>.ret (t2 :: r) else .fail
def ba.base(p:ba):ba:=⟨p.root,p.off,[]⟩
def Bc(p:ba) (n:Nat):Nat:=match p.hops with
 | []=>n
 | _ :: _=>1
def rooted(p:ba):SP Unit:=match p.hops with
 | []=>.ret ()
 | _ :: _=>.rdT ((p.root - 2) / 2) λt=>match t with
  | .ptr q ws=>if q.root==p.root && q.hops.isEmpty then chk q 0 ws else .fail
  | _=>.fail
def grabs:Nat->List (Option Nat×TV)->SP (List GP)
 | _,[]=>.ret []
 | i,(some n,.ptr p vs) :: r=>(chk p p.hops.length vs).bind λ_=>(rooted p).bind λ_=>(qd p.base (Bc p n)).bind λl=>(grabs (i+1) r).bind λq=>.ret (⟨i,p.base,vs.take 1,l⟩ :: q)
 | i,(some 0,.pk _ _) :: r=>grabs (i+1) r
 | i,(_,t) :: r=>if i3 t then grabs (i+1) r else .fail
def touch(p:ba):SP Unit:=.rdC p.root p.off λtv=>.wrC p.root p.off tv (.ret ())
def rechk:List GP->SP Unit
 | []=>.ret ()
 | g :: r=>(chk g.p g.p.hops.length g.vs).bind λ_=>(touch g.p).bind λ_=>rechk r
def fT:List Nat->Bool
 | []=>true
 | x :: r=>!r.contains x && fT r
def argT(i:Nat):TV->TV
 | .ptr p _=>.ptr ⟨2*i+2,0,p.hops⟩ (List.replicate (p.hops.length+1) 0)
 | .pk _ _=>.pk ⟨2*i+3,0,[]⟩ [0,0]
 | t=>t
def argTs:Nat->List TV->List TV
 | _,[]=>[]
 | i,t :: r=>argT i t :: argTs (i+1) r
def cJ{α:Type}:Nat->List α->List (Nat×α)
 | _,[]=>[]
 | i,t :: r=>(i,t) :: cJ (i+1) r
def mkSt(vals:List TV) (pts:Pts):St:=⟨cJ 0 vals,pts,[]⟩
def sS:TV->Bool
 | .dead=>true
 | _=>false
def putBack:List (GP×List TV)->SP Unit
 | []=>.ret ()
 | (g,l) :: r=>(putBack r).bind λ_=>if l.length=g.cells.length && l.all λt=>!sS t then putL g.p l else .fail
def dK:List RSh->List TV->List TV
 | [],_=>[]
 | .one :: r,l=>l.headD .dead :: dK r l.tail
 | .agg n :: r,l=>.agg (l.take n) :: dK r (l.drop n)
 | .ptr :: r,l=>.dead :: dK r l
def jy(sh:List RSh) (l:List TV):TV:=
 match dK sh l with
 | [x]=>x
 | l=>.tup l
def io:List RSh->Nat->Bool
 | [],n=>n==0
 | .one :: r,n=>decide (0 < n) && io r (n - 1)
 | .agg m :: r,n=>decide (m<=n) && io r (n - m)
 | .ptr :: _,_=>false
def landR(dst:Option Nat) (res:uZ):SP Unit:=
 match dst with
 | some d=>(names d res.cells).bind λl=>wr d (jy res.sh l)
 | none=>.ret ()
def isP(r:uZ):Bool:=match r.sh,r.cells with
 | .ptr :: _,.ptr _ _ :: _=>true
 | _,_=>false
def landP(dst:Option Nat) (q:List GP) (cells:List TV):SP Unit:=
 match dst with
 | none=>.ret ()
 | some d=>match cells,q with
  | .ptr pl _ :: l,[g]=>if pl.root==2*g.i+2 && g.p.hops.isEmpty then (rdVs (is g.p.root (g.p.off+pl.off) pl.hops.length)).bind λvs=>wr d (sE (.ptr ⟨g.p.root,g.p.off+pl.off,pl.hops⟩ vs) l) else .fail
  | _,_=>.fail
def callV(F:b5) (dst:Option Nat) (f:FuncId) (ns:List (Option Nat)) (vals:List TV):SP Unit:=
 (takeOwns 0 (ns.zip vals)).bind λow=>(grabs 0 (ns.zip vals)).bind λq=>(rechk q).bind λ_=>
  if fT (q.map (·.p.root)) && q.all (λg=>decide (0 < g.cells.length)) then
   (d8 (F f (argTs 0 vals) (q.map (λg=>(2*g.i+2,g.cells))++ow.map λx=>(2*x.1+3,[x.2])))).bind λr=>
    if r.2.map (·.1)=q.map (λg=>2*g.i+2)++ow.map (λx=>2*x.1+3) && (isP r.1 || io r.1.sh r.1.cells.length) then (putBack (q.zip (r.2.map (·.2)))).bind λ_=>if isP r.1 then landP dst q r.1.cells else landR dst r.1 else .fail
  else .fail
inductive BxC where
 | arg (i:Nat)
 | val (x:Value)
structure Env where
 box:FuncId->Option (Nat×List BxC)
 ps:FuncId->List (Option Nat)
def bxT(vals:List TV):BxC->TV
 | .arg i=>vals.getD i .dead
 | .val x=>.v x
def bxV(asq:List Value):BxC->Value
 | .arg i=>asq.getD i undef
 | .val x=>x
def evBox(dst:Option Nat) (tm:List BxC) (vals:List TV):SP Unit:=
 match dst with
 | some d=>(takeL false (tm.map (bxT vals))).bind λl=>.new (2*d+2) l (.rdV (2*d+2,0,0) λg=>wr d (.ptr ⟨2*d+2,0,[]⟩ [g]))
 | none=>.fail
def zw(E:Env) (f:FuncId) (n m:Nat):List (Option Nat):=(List.range m).map λk=>(E.ps f).getD (n+k) none
def see1:TV->SP TV
 | .v x=>.ret (.v x)
 | .sl c=>.ret (.sl c)
 | .ow []=>.ret (.sl [])
 | .pk p vs=>(chk p (p.hops.length+1) vs).bind λ_=>.rdC p.root p.off λtv=>match bh tv p.hops with | some (.ow c)=>.ret (TV.ow c).imm | _=>.fail
 | _=>.fail
def seeL:List TV->SP (List TV)
 | []=>.ret []
 | t :: r=>(see1 t).bind λt'=>(seeL r).bind λl=>.ret (t' :: l)
def seeA:TV->SP TV
 | .agg l=>(seeL l).bind λl'=>.ret (.agg l')
 | .ip cs=>.ret (.ip cs)
 | .fn f cap=>if cap.all ru then .ret (.fn f cap) else .fail
 | t=>see1 t
def seeAs:List Opd->SP (List TV)
 | []=>.ret []
 | x :: r=>(opd x).bind λt=>(seeA t).bind λt'=>(seeAs r).bind λl=>.ret (t' :: l)
def callB(F:b5) (dst:Option Nat) (f:FuncId) (vals:List TV):SP Unit:=
 (d8 (F f vals [])).bind λr=>if r.2.length=0 && r.1.cells.all qI && io r.1.sh r.1.cells.length then (match dst with | some d=>wr d (jy r.1.sh r.1.cells) | none=>.ret ()) else .fail
def evCall(E:Env) (F:b5) (dst:Option Nat):TOp->SP Unit
 | .call k (.f f) args=>
  if k then (argVs args).bind λvals=>match E.box f with
   | some x=>if vals.length=x.1 then evBox dst x.2 vals else .fail
   | none=>callV F dst f (args.map (·.1)) vals
  else (seeAs (args.map (·.2))).bind λvals=>callB F dst f vals
 | .call _ (.t i) args=>.rdT i λt=>match t with
  | .fn f caps=>(argVs args).bind λvals=>callV F dst f (args.map (·.1)++zw E f args.length caps.length) (vals++caps)
  | _=>.fail
 | _=>.fail
section
variable {P:Program} {M:Fm} {σ σ':St} {H:List TV} {xs:List Value} {ts:Array Value} {w:World} {G:Gh} {a:Act} {o:Oper}
theorem Bg(hI:Inv M σ [] [] a.tmps w G) {x:Option Nat×Opd}{x':Operand}(hx:aW x'=some x.2) {t:TV}(hr:(argV x).run σ=some (t,σ')) :
 ∃G',fi M w a.tmps σ [] G σ' [] [] G'/\TmR w (G'.F M.A) σ'.v (bl M σ' []) G' t (a.eval x'):=by
 unfold argV at hr;obtain⟨t0,σ1,h1,h2⟩:=aT hr;obtain⟨rfl,ht⟩:=bB hI.tmr hx h1
 have Wd:∀(l:List TV×Bool) (σ2:St),(takeV false t0).run σ1=some (l,σ2)->t=gY l.2 (l.1.map TV.imm)->σ'=σ2->∃G',fi M w a.tmps σ1 [] G σ' [] [] G'/\TmR w (G'.F M.A) σ'.v (bl M σ' []) G' t (a.eval x'):=by
  rintro l σ2 h3 rfl rfl;obtain⟨xs,G1,hg,hsh,hok,ZJ⟩:=sg hI ht h3;obtain⟨G2,ZM,ZR⟩:=hg.1.dropImm (kJ hok);refine⟨G2,hg.trans ZM,?_⟩;have hlen:=hg.1.hand;rcases hsh with ⟨e1,e2⟩ | ⟨e1,y,e2,e3⟩
  ·rw[e1,e2];simp only[gY,if_true];refine .agg (by simp[hlen]) λj hj=>?_
   have ZZ:j < l.1.length:=by simpa using hj
   have:=ZR j ZZ;simp only[List.getElem_map]
   have e:xs.toArray.getD j undef=xs.getD j undef:=by simp
   rw[e];exact this.toTm
  ·rw[e1,e3];subst e2
   have VF:l.1.length=1:=by simpa using hlen
   obtain⟨t1,WD⟩:∃t1,l.1=[t1]:=List.length_eq_one_iff.1 VF;have:=ZR 0 (by omega);simp only[WD,List.getElem_cons_zero,List.getD_cons_zero] at this;simp only[WD,gY,List.map_cons,List.map_nil,List.headD_cons];exact this.toTm
 have Yp:t=t0->σ'=σ1->∃G',fi M w a.tmps σ1 [] G σ' [] [] G'/\TmR w (G'.F M.A) σ'.v (bl M σ' []) G' t (a.eval x'):=by
  rintro rfl rfl;exact⟨G,fi.refl hI,ht⟩
 split at h2
 ·simp only[SP.run,oSJ,oPJ] at h2;exact Yp h2.1.symm h2.2.symm
 cases t0 with
 | ip cs=>
  simp only[SP.run,oSJ,oPJ] at h2;exact Yp h2.1.symm h2.2.symm
 | fn f cap=>
  simp only[SP.run,oSJ,oPJ] at h2;exact Yp h2.1.symm h2.2.symm
 | ptr p vs=>
  simp only[SP.run,oSJ,oPJ] at h2;exact Yp h2.1.symm h2.2.symm
 | _=>
  simp only at h2;obtain⟨l,σ2,h3,h4⟩:=aT h2;simp only[SP.run,oSJ,oPJ] at h4;exact Wd l σ2 h3 h4.1.symm h4.2.symm
theorem tD:∀{l:List (Option Nat×Opd)}{l':List Operand}{Yi:List TV}{σ σ':St}{G:Gh},Inv M σ [] [] a.tmps w G->l'.length=l.length->(∀j (h:j < l.length) (h':j < l'.length),aW l'[j]=some l[j].2)->(argVs l).run σ=some (Yi,σ') ->
 ∃G',fi M w a.tmps σ [] G σ' [] [] G'/\Yi.length=l.length/\∀j (h:j < Yi.length) (h':j < l'.length),TmR w (G'.F M.A) σ'.v (bl M σ' []) G' Yi[j] (a.eval l'[j]):=by
 intro l
 induction l with
 | nil=>
  intro l' Yi σ σ' G hI hl hc hr;obtain⟨rfl,rfl⟩:=hr;exact⟨G,fi.refl hI,rfl,λj h=>by simp at h⟩
 | cons x l ih=>
  intro l' Yi σ σ' G hI hl hc hr
  cases l' with
  | nil=>simp at hl
  | cons x' l'=>
   simp only[argVs] at hr;obtain⟨t,σ1,h1,h2⟩:=aT hr;obtain⟨r,σ2,h3,h4⟩:=aT h2;obtain⟨rfl,rfl⟩:=h4;obtain⟨G1,ZH,WD⟩:=Bg hI (by have:=hc 0 (by simp) (by simp);simpa using this) h1;obtain⟨G2,ZM,e,Tk⟩:=ih (l':=l') ZH.1 (by simpa using hl) (λj h h'=>by have:=hc (j+1) (by simpa using h) (by simp_all);simpa using this) h3;refine⟨G2,ZH.trans ZM,by simp[e],λj h h'=>?_⟩
   cases j with
   | zero=>exact ZM.tm WD
   | succ j=>exact Tk j (by simpa using h) (by simp_all)
end
section
variable {P:Program} {M:Fm} {σ σ':St} {H:List TV} {xs:List Value} {ts:Array Value} {w:World} {G:Gh} {a:Act} {o:Oper}
theorem tK{t t' t2:TV}{p:ba}{y:TV×St}(hp:(peek1 p t).run σ=some (t',σ')) (hr:(take1 true t').run σ=some y):dQ y.2.v p.root p.off p.hops.length=dQ σ.v p.root p.off p.hops.length:=by
 cases t with
 | v x=>
  obtain⟨rfl,rfl⟩:=hp;simp only[take1,SP.run,oSJ] at hr;rw[<- hr]
 | sl c=>
  obtain⟨rfl,rfl⟩:=hp;simp only[take1,SP.run,oSJ] at hr;rw[<- hr]
 | ow c=>
  simp only[peek1] at hp;obtain⟨vs,σ1,h1,h2⟩:=aT hp;obtain⟨rfl,_⟩:=h2;obtain⟨_,σ2,h3,h4⟩:=aT hr;have e1:σ2=σ:=(bf h3).1;subst e1;simp only[SP.run] at h4;split at h4
  ·simp only[if_true] at h4;obtain⟨l,hl,ho,h5⟩:=bj h4;simp only[SP.run,oSJ] at h5;rw[ek]
   have hv:∀q,y.2.v q=σ2.v q+if (p.root,p.off,p.hops.length+1)=q then 1 else 0:=λq=>by rw[<- h5];exact cL σ2.vr _ q
   refine⟨by simp_all,λd hd=>?_⟩;rw[hv,oIN]
   ·omega
   ·intro e
    simp_all
  ·simp[SP.run] at h4
 | _=>simp[peek1,SP.run] at hp
theorem zh:∀{n:Nat}{p:ba}{ad:Addr}{l:List TV}{σ σ':St}{H:List TV}{xs:List Value}{G:Gh},Inv M σ H xs ts w G->p.root≠1->G.addr w p=some ad->(qd p n).run σ=some (l,σ') ->
 l.length=n/\∃us G',fi M w ts σ H G σ' (H++l) (xs++us) G'/\us.length=n/\(∀j (h:j < us.length),w.cell? ⟨ad.block,ad.off+j,none⟩=some us[j]/\w.frozen? ⟨ad.block,ad.off+j,none⟩=false)/\∀j (h:j < l.length),bC l[j]=true\/fK l[j]=true:=by
 intro n
 induction n with
 | zero=>
  intro p ad l σ σ' H xs G hI h1 ha hr;obtain⟨rfl,rfl⟩:=hr;exact⟨rfl,[],G,by simpa using fi.refl hI,rfl,λj h=>by simp at h,λj h=>by simp at h⟩
 | succ n ih=>
  intro p ad l σ σ' H xs G hI h1 ha hr;simp only[qd] at hr;obtain⟨t,σ1,h2,h3⟩:=aT hr;obtain⟨e1,hg⟩:=cc h2;have e1:σ1=σ:=e1;subst e1;obtain⟨t',σ2,h4,h5⟩:=aT h3;have hd:=iO h4;obtain⟨hB,u,fp,Zb,hown,hv⟩:=hI.named h1 ha hg hd;obtain⟨rfl,Y6⟩:=jF hI h1 hg hown hv h4;obtain⟨t2,σ3,h6,h7⟩:=aT h5;have Yh:=tK (t2:=t2) h4 h6;obtain⟨G1,ZH,ZJ⟩:=c9 hI Y6 h6
  have VC:bh (bl M σ2 H p.root p.off) p.hops=some t:=by rw[bi (by exact h1)];exact hg
  obtain⟨u0,ZI,Zu,PZ,XW,_⟩:=hI.core.set p hB VC;obtain⟨_,U6,_⟩:=ZH.2.2.1.ptr p ad t h1 Yh ha VC
  have Zj:(⟨ad.block,ad.off+0,none⟩:Addr)=ad:=by obtain⟨b,o,s⟩:=ad;simp only at Zu;subst Zu;rfl
  have hcell:=em h6
  cases n with
  | zero=>
   obtain⟨rfl,rfl⟩:=h7;refine⟨rfl,[u],G1,ZH,rfl,λj h=>?_,λj h=>?_⟩
   ·obtain rfl:j=0:=by simp at h;omega
    rw[Zj];exact⟨Zb,XW⟩
   ·obtain rfl:j=0:=by simp at h;omega
    exact hcell
  | succ n=>
   simp only at h7;split at h7
   ·obtain⟨r,σ4,h8,h9⟩:=aT h7;obtain⟨rfl,rfl⟩:=h9;obtain⟨e2,us,G2,ZM,e3,e4,e5⟩:=ih ZH.1 (by rw[bP];exact h1) (f7 1 U6) h8;refine⟨by simp[e2],u :: us,G2,by simpa using ZH.trans ZM,by simp[e3],λj h=>?_,λj h=>?_⟩
    ·cases j with
     | zero=>rw[Zj];exact⟨Zb,XW⟩
     | succ j=>
      have:=e4 j (by simpa using h);simp only[List.getElem_cons_succ];rw[show ad.off+(j+1)=ad.off+1+j by omega];exact this
    ·cases j with
     | zero=>exact hcell
     | succ j=>exact e5 j (by simpa using h)
   ·simp[SP.run] at h7
theorem uv{r o:Nat}{c:List (List TV)}{l:List TV}(hc:σ.c r o=.ow c) (h:(qd ⟨r,o,[]⟩ 1).run σ=some (l,σ')):l=[.ow c]:=by
 simp only[qd] at h;obtain⟨t,σ1,h1,h2⟩:=aT h;obtain⟨e1,hg⟩:=cc h1;subst e1;simp only[hc,bh,oSJ] at hg;subst hg;obtain⟨t',σ2,h3,h4⟩:=aT h2;obtain⟨vs,σ3,h5,h6⟩:=aT h3;obtain⟨rfl,rfl⟩:=h6;rw[lE] at h5
 injection h5 with h5
 injection h5 with _ h5
 subst h5;obtain⟨t2,σ4,h7,h8⟩:=aT h4;simp only[SP.run,oSJ,oPJ] at h8;rw[<- h8.1];obtain⟨_,σ5,h9,ZS⟩:=aT h7;have e2:σ5=σ1:=(bf h9).1;subst e2;simp only[SP.run,hc,bh,if_true] at ZS;split at ZS
 ·simp_all
 ·cases ZS
theorem wh(hI:Inv M σ H xs ts w G) {p:ba}(h:(rooted p).run σ=some ((),σ')):σ'=σ/\(p.hops≠[]->∃b o n,G.β p.root=some (b,o,n)):=by
 obtain⟨r,o,hops⟩:=p
 cases hops with
 | nil=>
  simp only[rooted,SP.run,oSJ,oPJ,true_and] at h
  simp_all
 | cons hp hs=>
  simp only[rooted,SP.run] at h;have ht:=hI.tmr ((r - 2) / 2)
  cases hq:σ.t ((r - 2) / 2) with
  | ptr q ws=>
   rw[hq] at h ht;simp only at h;split at h
   ·rename_i hc;simp at hc;have e1:σ'=σ:=(bf h).1;have e2:=(bf h).2;refine⟨e1,λ_=>?_⟩
    cases ht with
    | ptr V0 h0 hv hok=>
     obtain⟨_,ad,t,ha,_,_⟩:=hok (by rw[hc.2];exact e2);unfold Gh.addr at ha;rw[hc.2] at ha;rw[<- hc.1]
     cases hb:G.β q.root with
     | none=>rw[hb] at ha;simp at ha
     | some y=>obtain⟨b,o,n⟩:=y;exact⟨b,o,n,rfl⟩
   ·simp[SP.run] at h
  | _=>rw[hq] at h;simp[SP.run] at h
inductive kM (w:World):Nat->List TV->List Value->List (GP×Addr)->List Value->Prop
 | nil (i:Nat):kM w i [] [] [] []
 | ptr {i:Nat} {p:ba} {hp:List Hop} {vs vs0:List Nat} {cells:List TV} {ad ad0:Addr} {u:List Value} {ts:List TV} {xs:List Value} {K:List (GP×Addr)} {us:List Value} (hr:p.root≠1) (hb:p.hops=[]) (hs:ad.spot=none) (h0:hp=[]->ad0=ad)
  (hh:hp≠[]->bu w ((w.cell? ⟨ad.block,ad.off,none⟩).getD undef) hp=some ad0/\∃t,bh (cells.getD 0 .dead) hp=some t) (hu:u.length=cells.length)
  (hc:∀j (h:j < u.length),w.cell? ⟨ad.block,ad.off+j,none⟩=some u[j]/\w.frozen? ⟨ad.block,ad.off+j,none⟩=false) (hok:∀j (h:j < cells.length),bC cells[j]=true\/fK cells[j]=true)
  (h:kM w (i+1) ts xs K us):kM w i (.ptr ⟨p.root,p.off,hp⟩ vs0 :: ts) (.pointer (some ad0) :: xs) ((⟨i,p,vs,cells⟩,ad) :: K) (u++us)
 | arg {i:Nat} {t:TV} {x:Value} {ts:List TV} {xs:List Value} {K:List (GP×Addr)} {us:List Value} (ha:i3 t=true) (h:kM w (i+1) ts xs K us):kM w i (t :: ts) (x :: xs) K us
 | own {i:Nat} {p:ba} {vs:List Nat} {x:Value} {ts:List TV} {xs:List Value} {K:List (GP×Addr)} {us:List Value} (h:kM w (i+1) ts xs K us):kM w i (.pk p vs :: ts) (x :: xs) K us
inductive xV:Nat->List (Option Nat×TV)->List Value->List (Nat×TV)->List Value->Prop
 | nil (i:Nat):xV i [] [] [] []
 | own {i:Nat} {p:ba} {vs:List Nat} {l:List (Option Nat×TV)} {x:Value} {xs:List Value} {c:List (List TV)} {ow:List (Nat×TV)} {zs:List Value} (h:xV (i+1) l xs ow zs):xV i ((some 0,.pk p vs) :: l) (x :: xs) ((i,.ow c) :: ow) (x :: zs)
 | skip {i:Nat} {y:Option Nat×TV} {l:List (Option Nat×TV)} {x:Value} {xs:List Value} {ow:List (Nat×TV)} {zs:List Value} (h:xV (i+1) l xs ow zs):xV i (y :: l) (x :: xs) ow zs
theorem ot{i:Nat}{y:Option Nat×TV}{l:List (Option Nat×TV)}(hn:∀p vs,y≠(some 0,.pk p vs)):takeOwns i (y :: l)=takeOwns (i+1) l:=by
 have ⟨n,t⟩:=y
 cases t with
 | pk p vs=>
  cases n with
  | none=>rfl
  | some n=>
   cases n with
   | zero=>simp_all
   | succ n=>rfl
 | _=>cases n with
  | none=>rfl
  | some n=>cases n<;>rfl
theorem qM:∀{l:List (Option Nat×TV)}{asq:List Value}{i:Nat}{ow:List (Nat×TV)}{σ σ':St}{H:List TV}{xs:List Value}{G:Gh},Inv M σ H xs ts w G->asq.length=l.length->(∀j (h:j < l.length) (h':j < asq.length),TmR w (G.F M.A) σ.v (bl M σ H) G l[j].2 asq[j])->(takeOwns i l).run σ=some (ow,σ') ->
 ∃zs G',fi M w ts σ H G σ' (H++ow.map (·.2)) (xs++zs) G'/\xV i l asq ow zs/\∀(j:Nat) (p:ba) (vs:List Nat),l[j]?=some (some 0,TV.pk p vs)->∃x∈ow,x.1=i+j:=by
 intro l
 induction l with
 | nil=>
  intro asq i ow σ σ' H xs G hI hl _ hr;obtain⟨rfl,rfl⟩:=hr;have:asq=[]:=oEN (by simpa using hl);subst this;exact⟨[],G,by simpa using fi.refl hI,.nil i,λj p vs h=>by simp at h⟩
 | cons y l ih=>
  intro asq i ow σ σ' H xs G hI hl ht hr
  cases asq with
  | nil=>simp at hl
  | cons x asq=>
   have Vg:=ht 0 (by simp) (by simp);simp only[List.getElem_cons_zero] at Vg;by_cases hp:∃p vs,y=(some 0,.pk p vs)
   ·obtain⟨p,vs,rfl⟩:=hp;simp only[takeOwns] at hr;obtain⟨t,σ1,h1,h2⟩:=aT hr;split at h2
    case isFalse=>simp[SP.run] at h2
    rename_i Qu;obtain⟨q,σ2,h3,h4⟩:=aT h2;obtain⟨rfl,rfl⟩:=h4
    obtain⟨c,rfl⟩:∃c,t=.ow c:=by cases t<;>simp[fK] at Qu;exact⟨_,rfl⟩
    obtain⟨G1,ZH,_⟩:=c9 hI Vg h1;obtain⟨zs,G2,ZM,k1,k2⟩:=ih (asq:=asq) ZH.1 (by simpa using hl) (λj h h'=>ZH.tm (by have:=ht (j+1) (by simpa using h) (by simpa using h');simpa only [List.getElem_cons_succ] using this)) h3;refine⟨x :: zs,G2,by simpa [List.append_assoc] using ZH.trans ZM,.own k1,λj p vs h=>?_⟩
    cases j with
    | zero=>exact⟨_,List.mem_cons_self,rfl⟩
    | succ j=>
     obtain⟨z,h5,h6⟩:=k2 j p vs (by simpa using h);exact⟨z,List.mem_cons_of_mem _ h5,by omega⟩
   ·have hn:=λp vs e=>hp ⟨p,vs,e⟩;rw[ot hn] at hr;obtain⟨zs,G2,ZM,k1,k2⟩:=ih (asq:=asq) hI (by simpa using hl) (λj h h'=>by have:=ht (j+1) (by simpa using h) (by simpa using h');simpa only [List.getElem_cons_succ] using this) hr;refine⟨zs,G2,ZM,.skip k1,λj p vs h=>?_⟩
    cases j with
    | zero=>exact absurd (by simpa using h) (hn p vs)
    | succ j=>
     obtain⟨z,h5,h6⟩:=k2 j p vs (by simpa using h);exact⟨z,h5,by omega⟩
theorem zf:∀{l:List (Option Nat×TV)}{i:Nat}{q:List GP}{σ σ':St},(grabs i l).run σ=some (q,σ')->∀(j:Nat) (n:Option Nat) (p:ba) (vs:List Nat),l[j]?=some (n,TV.pk p vs)->n=some 0:=by
 intro l
 induction l with
 | nil=>simp_all
 | cons y l ih=>
  intro i q σ σ' hr j n p vs h;obtain⟨m,t⟩:=y
  cases j with
  | zero=>
   simp at h;obtain⟨rfl,rfl⟩:=h
   cases m with
   | none=>simp[grabs,i3,SP.run] at hr
   | some m=>
    cases m with
    | zero=>rfl
    | succ m=>simp[grabs,i3,SP.run] at hr
  | succ j=>
   have hj:l[j]?=some (n,.pk p vs):=by simpa using h
   have step:∀{σ1 σ2:St} {q1:List GP},(grabs (i+1) l).run σ1=some (q1,σ2)->n=some 0:=λh1=>ih h1 j n p vs hj
   have arg:((if i3 t then grabs (i+1) l else .fail:SP (List GP))).run σ=some (q,σ')->n=some 0:=by
    intro h1;split at h1
    ·exact step h1
    ·simp[SP.run] at h1
   cases t with
   | ptr p2 TU=>
    cases m with
    | none=>exact arg hr
    | some m=>
     obtain⟨_,σ1,h1,h2⟩:=aT hr;obtain⟨_,σ0,_,h2⟩:=aT h2;obtain⟨cells,σ2,h3,h4⟩:=aT h2;obtain⟨q1,σ3,h5,h6⟩:=aT h4;exact step h5
   | pk p2 TU=>
    cases m with
    | none=>exact arg hr
    | some m=>
     cases m with
     | zero=>exact step hr
     | succ m=>exact arg hr
   | _=>cases m with
    | none=>exact arg hr
    | some m=>cases m<;>exact arg hr
theorem zg:∀{l:List (Option Nat×TV)}{asq:List Value}{i:Nat}{q:List GP}{σ σ':St}{H:List TV}{xs:List Value}{G:Gh},Inv M σ H xs ts w G->asq.length=l.length->(∀j (h:j < l.length) (h':j < asq.length),TmR w (G.F M.A) σ.v (bl M σ H) G l[j].2 asq[j])->(grabs i l).run σ=some (q,σ') ->
 ∃us G' K,fi M w ts σ H G σ' (H++q.flatMap (·.cells)) (xs++us) G'/\K.map (·.1)=q/\kM w i (l.map (·.2)) asq K us/\∀x∈K,TmR w (G'.F M.A) σ'.v (bl M σ' (H++q.flatMap (·.cells))) G' (.ptr x.1.p x.1.vs) (.pointer (some x.2)):=by
 intro l
 induction l with
 | nil=>
  intro asq i q σ σ' H xs G hI hl _ hr;obtain⟨rfl,rfl⟩:=hr;have:asq=[]:=oEN (by simpa using hl);subst this;exact⟨[],G,[],by simpa using fi.refl hI,rfl,.nil i,λx hx=>by simp at hx⟩
 | cons x l ih=>
  intro asq i q σ σ' H xs G hI hl ht hr
  cases asq with
  | nil=>simp at hl
  | cons y asq=>
   obtain⟨n,t⟩:=x;have Vg:=ht 0 (by simp) (by simp);simp only[List.getElem_cons_zero] at Vg
   have ZX:∀{σ1:St} {H1:List TV} {Q7:List Value} {G1:Gh},fi M w ts σ H G σ1 H1 Q7 G1->∀j (h:j < l.length) (h':j < asq.length),TmR w (G1.F M.A) σ1.v (bl M σ1 H1) G1 l[j].2 asq[j]:=λhg j h h'=>
    hg.tm (by have:=ht (j+1) (by simpa using h) (by simpa using h');simpa only [List.getElem_cons_succ] using this)
   have Zn:(∀p vs,t≠.ptr p vs)->(∀p vs,(n,t)≠(some 0,.pk p vs))->∃us G' K,fi M w ts σ H G σ' (H++q.flatMap (·.cells)) (xs++us) G'/\K.map (·.1)=q/\kM w i (((n,t) :: l).map (·.2)) (y :: asq) K us/\∀x∈K,TmR w (G'.F M.A) σ'.v (bl M σ' (H++q.flatMap (·.cells))) G' (.ptr x.1.p x.1.vs) (.pointer (some x.2)):=by
    intro hne VG
    have X8:(if i3 t then grabs (i+1) l else .fail:SP (List GP)).run σ=some (q,σ'):=by
     cases n with
     | none=>cases t<;>exact hr
     | some n=>cases n<;>cases t<;>first | exact absurd rfl (hne _ _) | exact absurd rfl (VG _ _) | exact hr
    split at X8
    ·rename_i Wg;obtain⟨us,G',K,e1,e2,e3,e4⟩:=ih (asq:=asq) hI (by simpa using hl) (ZX (fi.refl hI)) X8;exact⟨us,G',K,e1,e2,.arg Wg e3,e4⟩
    ·simp[SP.run] at X8
   by_cases hp:∃p vs,t=.ptr p vs
   ·obtain⟨p,vs,rfl⟩:=hp
    cases n with
    | none=>simp[grabs,i3,SP.run] at hr
    | some n=>
     simp only[grabs] at hr;obtain⟨_,σ1,h1,h2⟩:=aT hr;have e1:σ1=σ:=(bf h1).1;have e2:=(bf h1).2;subst e1;obtain⟨_,σr,hR,Vp⟩:=aT h2;obtain⟨rfl,YT⟩:=wh hI hR;obtain⟨cells,σ2,h3,h4⟩:=aT Vp;obtain⟨q1,σ3,h5,h6⟩:=aT h4;simp only[SP.run,oSJ,oPJ] at h6;obtain⟨rfl,rfl⟩:=h6;generalize hz:y=z at Vg
     cases Vg with
     | ptr V0 h0 hv h=>
      obtain⟨Z7,ad0,t0,ha,rfl,Z6⟩:=h e2;obtain⟨r,o,hops⟩:=p
      have WF:∃ad,G.addr w (⟨r,o,[]⟩:ba)=some ad/\(hops=[]->ad0=ad)/\(hops≠[]->bu w ((w.cell? ⟨ad.block,ad.off,none⟩).getD undef) hops=some ad0):=by
       cases hops with
       | nil=>exact⟨ad0,ha,λ_=>rfl,λe=>absurd rfl e⟩
       | cons hp1 hs=>
        obtain⟨b,o0,n0,hb⟩:=YT (by simp);refine⟨⟨b,o0+o,none⟩,by simp only[Gh.addr];rw[hb],λe=>by simp at e,λ_=>?_⟩;have Vu:bu w (G.val w r o) (hp1 :: hs)=some ad0:=ha;unfold Gh.val at Vu;rw[hb] at Vu;exact Vu
      obtain⟨ad,Sw,PU,TJ⟩:=WF;have Qz:(⟨r,o,hops⟩:ba).base.root≠1:=Z7;obtain⟨k1,u,G1,ZH,k2,k3,k4⟩:=zh (p:=(⟨r,o,hops⟩:ba).base) hI Qz Sw h3;obtain⟨us,G2,K,ZM,k5,k6,k7⟩:=ih (asq:=asq) ZH.1 (by simpa using hl) (ZX ZH) h5
      have Zq:TmR w (G.F M.A) σr.v (bl M σr H) G (.ptr (⟨r,o,hops⟩:ba).base (vs.take 1)) (.pointer (some ad)):=
       .ptr V0 h0 (by rw[hv];simp[dQ,ba.base]) λ_=>⟨Z7,ad,_,Sw,rfl,rfl⟩
      refine⟨u++us,G2,(⟨i,(⟨r,o,hops⟩:ba).base,vs.take 1,cells⟩,ad) :: K,by simpa [List.append_assoc] using ZH.trans ZM,by simp[k5],.ptr (p:=(⟨r,o,hops⟩:ba).base) (hp:=hops) Z7 rfl (eR Sw) PU (λhne=>⟨TJ hne,?_⟩) (by omega) k3 k4 k6,λx hx=>?_⟩
      ·have XE:bh (σr.c r o) hops=some t0:=by
        have:=Z6;rw[bi (by exact Z7)] at this;exact this
       cases hops with
       | nil=>exact absurd rfl hne
       | cons h1 hs=>
        cases hc:σr.c r o with
        | ow c=>
         have:=uv hc h3;rw[this];rw[hc] at XE;exact⟨t0,XE⟩
        | _=>rw[hc] at XE;simp[bh] at XE
      ·have e3:H++(({ i:=i,p:=(⟨r,o,hops⟩:ba).base,vs:=vs.take 1,cells:=cells }:GP) :: q1).flatMap (·.cells)=H++cells++q1.flatMap (·.cells):=by simp[List.append_assoc]
       rw[e3];rcases List.mem_cons.1 hx with rfl | hx
       ·exact ZM.tm (ZH.tm Zq)
       ·exact k7 x hx
   ·by_cases hw:∃p vs,(n,t)=(some 0,.pk p vs)
    ·obtain⟨p,vs,hw⟩:=hw
     injection hw with h1 h2
     subst h1;subst h2;have X8:(grabs (i+1) l).run σ=some (q,σ'):=hr;obtain⟨us,G',K,e1,e2,e3,e4⟩:=ih (asq:=asq) hI (by simpa using hl) (ZX (fi.refl hI)) X8;exact⟨us,G',K,e1,e2,.own e3,e4⟩
    ·exact Zn (λp vs e=>hp ⟨p,vs,e⟩) λp vs e=>hw ⟨p,vs,e⟩
theorem qB{α:Type}:∀{l:List (Nat×α)}{r:Nat}{x:α},bk l r=some x->ct l r x=l:=by
 intro l
 induction l with
 | nil=>intro r x h;simp[bk] at h
 | cons y l ih=>
  intro r x h;simp[bk] at h;simp[ct]
  grind
theorem xW{p:ba}(hr:(touch p).run σ=some ((),σ')):σ'=σ/\∃l,bk σ.ce p.root=some l/\p.off < l.length:=by
 simp[touch] at hr;obtain⟨l,hl,ho,h2⟩:=bj (k:=.ret ()) (by simpa [SP.run] using hr);simp[SP.run] at h2;refine⟨?_,l,hl,ho⟩;rw[<- h2]
 have e:l.set p.off (σ.c p.root p.off)=l:=by
  have:σ.c p.root p.off=l[p.off]:=by simp[St.c,hl,ho]
  simp_all
 rw[e,qB hl]
theorem yG(hI:Inv M σ H xs ts w G):∀{q:List GP}{σ':St},(rechk q).run σ=some ((),σ')->σ'=σ/\∀g∈q,∀x,TmR w (G.F M.A) σ.v (bl M σ H) G (.ptr g.p g.vs) x->g.p.root≠1/\∃ad,x=.pointer (some ad)/\G.addr w g.p=some ad/\g.vs=dQ σ.v g.p.root g.p.off g.p.hops.length/\(∃t,bh (bl M σ H g.p.root g.p.off) g.p.hops=some t)/\((∃o n,G.β g.p.root=some (ad.block,o,n))\/G.φ g.p.root g.p.off ad.block):=by
 intro q
 induction q with
 | nil=>
  intro σ' hr;simp only[rechk,SP.run,oPJ,true_and] at hr
  simp_all
 | cons g q ih=>
  intro σ' hr;obtain⟨_,σ1,h1,h2⟩:=aT hr;have e1:σ1=σ:=(bf h1).1;have e2:=(bf h1).2;subst e1;obtain⟨_,σ2,h3,h4⟩:=aT h2;obtain⟨rfl,l,hl,ho⟩:=xW h3;obtain⟨rfl,hq⟩:=ih h4;refine⟨rfl,λg' SO x hx=>?_⟩;rcases List.mem_cons.1 SO with rfl | SO
  ·cases hx with
   | ptr V0 h0 hv h=>
    obtain⟨Z7,ad,t0,ha,hx,Z6⟩:=h e2
    have hB:G.addrB w g'.p=some ad:=by
     refine fr ha λhp b o0 n hb=>?_;have:=hI.shape _ _ _ _ hb l hl;omega
    refine⟨Z7,ad,hx,ha,e2,⟨t0,Z6⟩,?_⟩;rcases hI.core.where_ g'.p hB Z6 with ⟨_,b,o0,n,h5,_,h6⟩ | ⟨_,h5⟩
    ·left;exact⟨o0,n,by rw[h5,h6]⟩
    ·right;exact h5
  ·exact hq g' SO x hx
end
def prK:List (GP×Addr)->Nat->Option (Nat×Nat×Nat)
 | [],_=>none
 | (g,ad) :: K,r=>if 2*g.i+2=r then some (ad.block,ad.off,g.cells.length) else prK K r
def bsK:List (GP×Addr)->Nat->Nat
 | [],_=>0
 | (g,_) :: K,r=>if 2*g.i+2=r then 0 else g.cells.length+bsK K r
def ceK(K:List (GP×Addr)):List (Nat×List TV):=K.map λx=>(2*x.1.i+2,x.1.cells)
def ceO(ow:List (Nat×TV)):List (Nat×List TV):=ow.map λx=>(2*x.1+3,[x.2])
def owK:List (Nat×TV)->Nat->Option Nat
 | [],_=>none
 | (i,_) :: q,r=>if 2*i+3=r then some 0 else (owK q r).map (· + 1)
def ef(K:List (GP×Addr)):List TV:=K.flatMap λx=>x.1.cells
section
theorem eF{K:List (GP×Addr)}{r b o n:Nat}(h:prK K r=some (b,o,n)):∃x∈K,r=2*x.1.i+2/\b=x.2.block/\o=x.2.off/\n=x.1.cells.length/\bk (ceK K) r=some x.1.cells/\∀j (_:j < x.1.cells.length),(ef K)[bsK K r+j]?=x.1.cells[j]?:=by
 induction K with
 | nil=>simp[prK] at h
 | cons y K ih=>
  obtain⟨g,ad⟩:=y;simp only[prK] at h;split at h
  ·rename_i e
   injection h with h
   injection h with h1 h
   injection h with h2 h3
   refine⟨(g,ad),by simp,e.symm,h1.symm,h2.symm,h3.symm,by simp[ceK,bk,e],λj hj=>?_⟩;simp only[bsK,e,if_true,ef,Nat.zero_add];exact List.getElem?_append_left hj
  ·rename_i e;obtain⟨x,h1,h2,h3,h4,h5,h6,h7⟩:=ih h;refine⟨x,by simp[h1],h2,h3,h4,h5,by simpa [ceK,bk,e] using h6,λj hj=>?_⟩;simp only[bsK,e,if_false,ef,List.flatMap_cons];rw[List.getElem?_append_right (by omega)];rw[show g.cells.length+bsK K r+j - g.cells.length=bsK K r+j by omega];exact h7 j hj
theorem tu{K:List (GP×Addr)}{r:Nat}{l:List TV}(h:bk (ceK K) r=some l):prK K r≠none:=by
 induction K with
 | nil=>simp[ceK,bk] at h
 | cons y K ih=>
  simp[ceK,bk] at h;simp[prK];split
  ·simp
  ·rename_i e;rw[oIN e] at h;exact ih h
theorem z6{K:List (GP×Addr)}:∀r b o n r' b' o' n',prK K r=some (b,o,n)->prK K r'=some (b',o',n')->∀j j',j < n->j' < n'->bsK K r+j=bsK K r'+j'->r=r':=by
 induction K with
 | nil=>intro r b o n r' b' o' n' h;simp[prK] at h
 | cons y K ih=>
  intro r b o n r' b' o' n' h h' j j' hj ZZ e;simp[prK,bsK] at h h' e
  grind
theorem kM.slot{w:World}{i:Nat}{ts:List TV}{asq us:List Value}{K:List (GP×Addr)}(h:kM w i ts asq K us):∀x∈K,i<=x.1.i/\x.1.p.hops=[]/\∃p vs,ts[x.1.i - i]?=some (.ptr p vs):=by
 induction h with
 | nil=>intro x hx;simp at hx
 | @ptr i p hp vs vs0 cells ad ad0 u ts xs K us hr hb hs h0 hh hu hc hok h ih=>
  intro x hx;rcases List.mem_cons.1 hx with rfl | hx
  ·simp_all
  ·obtain⟨h1,h3,p,vs,h2⟩:=ih x hx;refine⟨by omega,h3,p,vs,?_⟩;rw[show x.1.i - i=(x.1.i - (i+1))+1 by omega];simpa using h2
 | @arg i t x0 ts xs K us ha h ih=>
  intro x hx;obtain⟨h1,h3,p,vs,h2⟩:=ih x hx;refine⟨by omega,h3,p,vs,?_⟩;rw[show x.1.i - i=(x.1.i - (i+1))+1 by omega];simpa using h2
 | @own i p0 vs0 x0 ts xs K us h ih=>
  intro x hx;obtain⟨h1,h3,p,vs,h2⟩:=ih x hx;refine⟨by omega,h3,p,vs,?_⟩;rw[show x.1.i - i=(x.1.i - (i+1))+1 by omega];simpa using h2
theorem kM.len{w:World}{i:Nat}{ts:List TV}{asq us:List Value}{K:List (GP×Addr)}(h:kM w i ts asq K us):ts.length=asq.length/\us.length=(ef K).length:=by
 induction h with
 | nil=>exact⟨rfl,rfl⟩
 | ptr hr hb hs h0 hh hu hc hok h ih=>exact⟨by simp_all,by simp[ef,hu] at ih ⊢;exact ih.2⟩
 | arg ha h ih=>simp_all
 | own h ih=>simp_all
theorem kM.ok{w:World}{i:Nat}{ts:List TV}{asq us:List Value}{K:List (GP×Addr)}(h:kM w i ts asq K us):∀x∈K,∀j (h:j < x.1.cells.length),bC x.1.cells[j]=true\/fK x.1.cells[j]=true:=by
 induction h with
 | nil=>simp_all
 | ptr hr hb hs h0 hh hu hc hok h ih=>
  intro x hx;rcases List.mem_cons.1 hx with rfl | hx
  ·exact hok
  ·exact ih x hx
 | arg ha h ih=>exact ih
 | own h ih=>exact ih
theorem kM.here{w:World}{i:Nat}{ts:List TV}{asq us:List Value}{K:List (GP×Addr)}(h:kM w i ts asq K us):∀r b o n,prK K r=some (b,o,n)->∀j,j < n->w.cell? ⟨b,o+j,none⟩=some (us.getD (bsK K r+j) undef)/\w.frozen? ⟨b,o+j,none⟩=false:=by
 induction h with
 | nil=>intro r b o n h;simp[prK] at h
 | @ptr i p RH vs vs0 cells ad ad0 u ts xs K us hr hb hs h0 hh hu hc hok h ih=>
  intro r b o n hp j hj;simp only[prK] at hp;simp only[bsK];split at hp
  ·rename_i e
   injection hp with hp
   injection hp with h1 hp
   injection hp with h2 h3
   subst h1;subst h2;rw[oIP e,Nat.zero_add]
   have SZ:j < u.length:=by omega
   have:=hc j SZ;refine⟨?_,this.2⟩;rw[this.1,oGD,List.getElem?_append_left SZ,oGE SZ];rfl
  ·rename_i e;rw[oIN e];have:=ih r b o n hp j hj;refine⟨?_,this.2⟩;rw[this.1];simp;rw[List.getElem?_append_right (by omega)];rw[show cells.length+bsK K r+j - u.length=bsK K r+j by omega]
 | arg ha h ih=>exact ih
 | own h ih=>exact ih
end
theorem kz{α:Type}{f:α->Nat}:∀{l:List α},fT (l.map f)=true->∀{x y:α},x∈l->y∈l->f x=f y->x=y:=by
 intro l
 induction l with
 | nil=>simp_all
 | cons z l ih=>
  intro h x y hx hy e;simp only[List.map_cons,fT,oBA,Bool.not_eq_true',List.contains_eq_mem,decide_eq_false_iff_not] at h;rcases List.mem_cons.1 hx with Z3 | Z3
  ·rcases List.mem_cons.1 hy with X9 | X9
   ·rw[Z3,X9]
   ·exact absurd (by rw[<- Z3,e];exact List.mem_map_of_mem X9) h.1
  ·rcases List.mem_cons.1 hy with X9 | X9
   ·simp_all
   ·exact ih h.2 Z3 X9 e
section
variable {P:Program} {M:Fm} {σ σ':St} {H:List TV} {xs:List Value} {ts:Array Value} {w:World} {G:Gh} {a:Act} {o:Oper}
theorem gS{α:Type}:∀{a b:List (Nat×α)}{r:Nat},bk (a++b) r=match bk a r with | some x=>some x | none=>bk b r:=by
 intro a
 induction a with
 | nil=>intro b r;rfl
 | cons y a ih=>
  intro b r;simp[bk];split
  ·rfl
  ·exact ih
theorem jG:∀{q:List (Nat×TV)}{r j:Nat},owK q r=some j->∃h:j < q.length,r=2*q[j].1+3/\bk (ceO q) r=some [q[j].2]:=by
 intro q
 induction q with
 | nil=>intro r j h;simp[owK] at h
 | cons y q ih=>
  intro r j h;obtain⟨i,t⟩:=y;simp only[owK] at h;split at h
  ·rename_i e
   injection h with h
   subst h;exact⟨by simp,e.symm,by simp[ceO,bk,e]⟩
  ·rename_i e
   cases hq:owK q r with
   | none=>simp_all
   | some k=>
    simp[hq,oMS] at h;subst h
    have:bk (ceO ((i,t) :: q)) r=bk (ceO q) r:=by simp[ceO,bk,e]
    simp_all
theorem zu:∀{q:List (Nat×TV)}{r:Nat}{l:List TV},bk (ceO q) r=some l->owK q r≠none:=by
 intro q
 induction q with
 | nil=>intro r l h;simp[ceO,bk] at h
 | cons y q ih=>
  intro r l h;have ⟨i,t⟩:=y;simp[owK];split
  ·simp
  ·rename_i e
   have:bk (ceO ((i,t) :: q)) r=bk (ceO q) r:=by simp[ceO,bk,e]
   simp_all
theorem xV.facts{i:Nat}{l:List (Option Nat×TV)}{asq:List Value}{ow:List (Nat×TV)}{zs:List Value}(h:xV i l asq ow zs):zs.length=ow.length/\(∀x∈ow,i<=x.1/\∃c,x.2=.ow c)/\∀x∈ow,∃k,owK ow (2*x.1+3)=some k/\asq[x.1 - i]?=zs[k]?:=by
 induction h with
 | nil=>simp_all
 | @own i p vs l x xs c ow zs h ih=>
  obtain⟨h1,h2,h3⟩:=ih;refine⟨by simp[h1],λy hy=>?_,λy hy=>?_⟩
  ·rcases List.mem_cons.1 hy with rfl | hy
   ·exact⟨Nat.le_refl _,c,rfl⟩
   ·exact⟨by have:=(h2 y hy).1;omega,(h2 y hy).2⟩
  ·rcases List.mem_cons.1 hy with rfl | hy
   ·exact⟨0,by simp[owK],by simp⟩
   ·obtain⟨k,h4,h5⟩:=h3 y hy;have YQ:=(h2 y hy).1;refine⟨k+1,by simp[owK];rw[oIN (by omega),h4];rfl,?_⟩;rw[show y.1 - i=(y.1 - (i+1))+1 by omega];simpa using h5
 | @skip i y0 l x xs ow zs h ih=>
  obtain⟨h1,h2,h3⟩:=ih;refine⟨h1,λy hy=>⟨by have:=(h2 y hy).1;omega,(h2 y hy).2⟩,λy hy=>?_⟩;obtain⟨k,h4,h5⟩:=h3 y hy;have YQ:=(h2 y hy).1;refine⟨k,h4,?_⟩;rw[show y.1 - i=(y.1 - (i+1))+1 by omega];simpa using h5
theorem kM.hands{vals:List TV}{asq us:List Value}{K:List (GP×Addr)}{l:List (Option Nat×TV)}{ow:List (Nat×TV)}{zs:List Value}(hI:Inv M σ (ow.map (·.2)++ef K) (zs++us) ts w G) (h:kM w 0 vals asq K us) (ho:xV 0 l asq ow zs) (Zz:fT ((K.map (·.1)).map (·.p.root))=true) (Z4:∀x∈K,0 < x.1.cells.length)
 (V9:∀x∈K,x.1.p.root≠1/\((∃o n,G.β x.1.p.root=some (x.2.block,o,n))\/G.φ x.1.p.root x.1.p.off x.2.block)):u4 (ow.map (·.2)++ef K) (zs++us) w G M.A (prK K) (λr=>ow.length+bsK K r) (ceK K++ceO ow) (owK ow):=by
 obtain⟨hz,XK,_⟩:=ho.facts
 have VI:∀r,r % 2=1->bk (ceK K) r=none:=λr hr=>by
  cases hc:bk (ceK K) r with
  | none=>rfl
  | some l=>
   cases hp:prK K r with
   | none=>exact absurd hp (tu hc)
   | some x=>obtain⟨b,o,n⟩:=x;obtain⟨x,_,h2,_⟩:=eF hp;omega
 refine⟨λr b o n hp=>?_,λr b o n hp=>?_,λr l hl=>?_,λr j hj=>?_,λr j r' b o n hj hp j' ZZ=>by have:=(jG hj).1;omega,λr r' j hj ZZ=>?_,λr b o n r' b' o' n' h1 h2 j j' hj ZZ e=>z6 _ _ _ _ _ _ _ _ h1 h2 _ _ hj ZZ (by omega),λr b o n r' o' n' h1 h2=>?_,λr b o n hp hF=>?_,λr b o n hp j hφ=>?_,λr b o n hp j hj=>?_⟩
 ·obtain⟨x,h1,h2,_,_,h5,_⟩:=eF hp;exact⟨by omega,by rw[h5];exact Z4 x h1⟩
 ·obtain⟨x,h1,h2,_,_,h5,h6,h7⟩:=eF hp;refine⟨_,by rw[gS,h6],h5.symm,λj hj=>?_⟩;have:=h7 j hj;rw[oGE hj] at this;obtain⟨k1,k2⟩:=oGS this;refine⟨by simp;omega,?_,kJ (h.ok x h1) j hj⟩;rw[List.getElem_append_right (by simp;omega)];rw[<- k2];congr 1;simp;omega
 ·rw[gS] at hl
  cases hc:bk (ceK K) r with
  | some l2=>exact .inl (tu hc)
  | none=>rw[hc] at hl;exact .inr (zu hl)
 ·obtain⟨h1,h2,h3⟩:=jG hj;obtain⟨_,c,hc⟩:=XK ow[j] (List.getElem_mem h1);refine⟨by omega,by omega,c,by simp;omega,?_,?_⟩
  ·rw[gS,VI r (by omega)];simp only;rw[h3,hc]
  ·rw[List.getElem_append_left (by simpa using h1)];simpa using hc
 ·obtain⟨_,h2,_⟩:=jG hj;obtain⟨_,h3,_⟩:=jG ZZ;omega
 ·obtain⟨x,x1,x2,x3,x4,x5,_⟩:=eF h1;obtain⟨y,y1,y2,y3,y4,y5,_⟩:=eF h2
  have Z9:x.1.p.root=y.1.p.root:=by
   rcases (V9 x x1).2 with ⟨o1,n1,ZT⟩ | ZT
   ·rcases (V9 y y1).2 with ⟨o2,n2,Z2⟩ | Z2
    ·rw[<- y3] at Z2;rw[<- x3] at ZT;exact hI.core.boxd _ _ _ _ _ _ _ ZT Z2
    ·rw[<- y3] at Z2;rw[<- x3] at ZT;exact absurd Z2 (hI.core.boxf _ _ _ _ ZT _ _)
   ·rcases (V9 y y1).2 with ⟨o2,n2,Z2⟩ | Z2
    ·rw[<- y3] at Z2;rw[<- x3] at ZT;exact absurd ZT (hI.core.boxf _ _ _ _ Z2 _ _)
    ·rw[<- y3] at Z2;rw[<- x3] at ZT;exact (hI.core.dis _ _ _ _ _ ZT Z2).1
  have Vj:x.1=y.1:=kz Zz (List.mem_map_of_mem x1) (List.mem_map_of_mem y1) Z9;rw[x2,y2,Vj]
 ·obtain⟨x,x1,x2,x3,x4,x5,_⟩:=eF hp;subst x3;rcases (V9 x x1).2 with ⟨o1,n1,ZT⟩ | ZT
  ·exact hF.2.2 _ _ _ _ ZT rfl
  ·exact hF.2.1 _ _ ZT
 ·obtain⟨x,x1,x2,x3,x4,x5,_⟩:=eF hp;subst x3;rcases (V9 x x1).2 with ⟨o1,n1,ZT⟩ | ZT
  ·exact hI.core.boxf _ _ _ _ ZT _ _ hφ
  ·exact (V9 x x1).1 (hI.core.dis _ _ _ _ _ ZT hφ).1
 ·have:=h.here _ _ _ _ hp j hj;refine⟨?_,this.2⟩;rw[this.1,oGD,oGD,List.getElem?_append_right (by omega)];rw[show ow.length+bsK K r+j - zs.length=bsK K r+j by omega]
theorem TmR.handed{F F':Nat->Prop}{V V':Vs}{C C':Cs}{G G':Gh}{t:TV}{x:Value}(h:TmR w F V C G t x) (ha:i3 t=true) (hF:∀k,F k->F' k):TmR w F' V' C' G' t x:=by
 cases h with
 | v h=>exact .v h
 | sl h=>exact .sl (h.frame (λ_ _ _=>rfl) λk hk _=>hF k hk)
 | nil=>exact .nil
 | ip u hc hr=>exact .ip u (λj hj=>⟨hF _ (hc j hj).1,(hc j hj).2⟩) λj hj=>(hr j hj).frame (λ_ _ _=>rfl) λk hk _=>hF k hk
 | @agg l xs hl h=>
  refine .agg hl λj hj=>?_;simp[i3,List.all_eq_true] at ha;have h1:=ha _ (List.getElem_mem hj);have h2:=h j hj;generalize l[j]=e at h1 h2;generalize xs.getD j undef=y at h2
  cases h2 with
  | v h=>exact .v h
  | sl h=>exact .sl (h.frame (λ_ _ _=>rfl) λk hk _=>hF k hk)
  | _=>simp_all
 | @fn f l xs hl h=>
  simp[i3] at ha;exact .fn hl λj hj=>(((h j hj).imC (ha _ (List.getElem_mem hj))).frame (λ_ _ _=>rfl) λk hk _=>hF k hk).toTm
 | _=>simp[i3] at ha
theorem pi{α:Type}:∀{l:List α}{i j:Nat},bk (cJ i l) j=if i<=j then l[j - i]? else none:=by
 intro l
 induction l with
 | nil=>intro i j;simp[cJ,bk]
 | cons x l ih=>
  intro i j;simp[cJ,bk];by_cases e:i=j
  ·simp_all
  ·rw[oIN e,ih]
   grind
theorem qD:∀{l:List TV}{i j:Nat},(argTs i l)[j]?=(l[j]?).map (argT (i+j)):=by
 intro l
 induction l with
 | nil=>intro i j;simp[argTs]
 | cons t l ih=>
  intro i j
  cases j with
  | zero=>simp[argTs]
  | succ j=>simp[argTs,ih];rw[show i+1+j=i+(j+1) by omega]
def zH(w:World) (K:List (GP×Addr)) (x:GP×Addr) (t:TV) (y:Option Value):Prop:=
 ∃hp vs ad0,t=.ptr ⟨x.1.p.root,x.1.p.off,hp⟩ vs/\y=some (.pointer (some ad0))/\prK K (2*x.1.i+2)=some (x.2.block,x.2.off,x.1.cells.length)/\bk (ceK K) (2*x.1.i+2)=some x.1.cells/\x.2.spot=none/\(hp=[]->ad0=x.2) /\
  (hp≠[]->bu w ((w.cell? ⟨x.2.block,x.2.off,none⟩).getD undef) hp=some ad0/\∃t,bh (x.1.cells.getD 0 .dead) hp=some t)
theorem zH.cons{w:World}{K:List (GP×Addr)}{x z:GP×Addr}{t:TV}{y:Option Value}(h:zH w K x t y) (hne:z.1.i≠x.1.i):zH w (z :: K) x t y:=by
 have ⟨hp,vs,ad0,h1,h2,h3,h4,h5,h6,h7⟩:=h;have ⟨g,ad⟩:=z;refine⟨hp,vs,ad0,h1,h2,?_,?_,h5,h6,h7⟩
 ·simp[prK];rw[oIN (by simp only at hne;omega)];exact h3
 ·simp[ceK,bk];rw[oIN (by simp only at hne;omega)];exact h4
theorem kM.slotArg{w:World}{i:Nat}{vals:List TV}{asq us:List Value}{K:List (GP×Addr)}(h:kM w i vals asq K us):∀j t,vals[j]?=some t->i3 t=true\/(∃p vs,t=.pk p vs)\/∃x∈K,x.1.i=i+j/\zH w K x t asq[j]?:=by
 induction h with
 | nil=>intro j t h;simp at h
 | @ptr i p hp vs vs0 cells ad ad0 u ts xs K us hr hb hs h0 hh hu hc hok h ih=>
  intro j t ht
  cases j with
  | zero=>
   right;right;refine⟨(⟨i,p,vs,cells⟩,ad),by simp,rfl,hp,vs0,ad0,?_,by simp,by simp[prK],by simp[ceK,bk],hs,h0,hh⟩;simpa using ht.symm
  | succ j=>
   rcases ih j t (by simpa using ht) with h1 | h1 | ⟨x,h1,h2,h3⟩
   ·exact .inl h1
   ·exact .inr (.inl h1)
   ·right;right;exact⟨x,by simp[h1],by omega,by simpa using h3.cons (z:=(⟨i,p,vs,cells⟩,ad)) (by show i≠x.1.i;omega)⟩
 | @arg i t0 x0 ts xs K us ha h ih=>
  intro j t ht
  cases j with
  | zero=>simp_all
  | succ j=>
   rcases ih j t (by simpa using ht) with h1 | h1 | ⟨x,h1,h2,h3⟩
   ·exact .inl h1
   ·exact .inr (.inl h1)
   ·exact .inr (.inr ⟨x,h1,by omega,by simpa using h3⟩)
 | @own i p0 vs0 x0 ts xs K us h ih=>
  intro j t ht
  cases j with
  | zero=>right;left;have:TV.pk p0 vs0=t:=by simpa using ht
          exact⟨p0,vs0,this.symm⟩
  | succ j=>
   rcases ih j t (by simpa using ht) with h1 | h1 | ⟨x,h1,h2,h3⟩
   ·exact .inl h1
   ·exact .inr (.inl h1)
   ·exact .inr (.inr ⟨x,h1,by omega,by simpa using h3⟩)
theorem kM.enter{vals:List TV}{asq us:List Value}{K:List (GP×Addr)}{l:List (Option Nat×TV)}{ow:List (Nat×TV)}{zs:List Value}(hI:Inv M σ (ow.map (·.2)++ef K) (zs++us) ts w G) (h:kM w 0 vals asq K us) (ho:xV 0 l asq ow zs) (Ve:∀j p vs,vals[j]?=some (.pk p vs)->∃x∈ow,x.1=j)
 (hh:u4 (ow.map (·.2)++ef K) (zs++us) w G M.A (prK K) (λr=>ow.length+bsK K r) (ceK K++ceO ow) (owK ow))
 (ht:∀j (h:j < vals.length) (h':j < asq.length),TmR w (G.F M.A) σ.v (bl M σ (ow.map (·.2)++ef K)) G vals[j] asq[j]) {N:Nat} (hN:asq.length<=N) :
 Inv (M.into w G (prK K) N) (mkSt (argTs 0 vals) (ceK K++ceO ow)) [] [] (asq.toArray++Array.replicate (N - asq.length) undef) w (G.into (prK K) (λr=>ow.length+bsK K r) (owK ow) (zs++us)):=by
 refine hI.enter hh (by simp;omega) λi=>?_;rw[pi];simp only[Nat.zero_le,if_true,Nat.sub_zero,qD,Nat.zero_add]
 cases hv:vals[i]? with
 | none=>exact .dead
 | some t=>
  obtain⟨hi,QL⟩:=oGS hv
  have ZW:i < asq.length:=by rw[<- h.len.1];exact hi
  have hx:(asq.toArray++Array.replicate (N - asq.length) undef).getD i undef=asq[i]:=by
   simp[Array.getD_eq_getD_getElem?,Array.getElem?_append,ZW]
  rw[hx];have Zq:=ht i hi ZW;rw[QL] at Zq;simp only[oMS,Option.getD_some];rcases h.slotArg i t hv with Wg | ⟨p,vs,rfl⟩ | ⟨x,x1,x2,hp,vs,ad0,rfl,x4,x5,R4,x6,x7,x8⟩
  ·have e:argT i t=t:=by cases t<;>first | rfl | simp[i3] at Wg
   rw[e];exact Zq.handed Wg λk hk=>hh.F hk
  ·simp only[argT];obtain⟨x,Z3,rfl⟩:=Ve i p vs hv;obtain⟨hz,h2,h3⟩:=ho.facts;obtain⟨k,h4,h5⟩:=h3 x Z3;obtain⟨hk,_,h6⟩:=jG h4;have VI:=(hh.owc _ _ h4);obtain⟨_,_,c',hj,h8,h9⟩:=VI;refine .pk (λ_=>0) (λ_=>Nat.le_refl _) rfl λ_=>⟨by simp,c',?_,?_⟩
   ·have Qv:prK K (2*x.1+3)=none:=by
     cases hp:prK K (2*x.1+3) with
     | none=>rfl
     | some y=>obtain⟨b,o,n⟩:=y;have:=(hh.even _ _ _ _ hp).1;omega
    simp only[Gh.hv,hvT];unfold Gh.val Gh.into;simp only[Qv,h4];rw[Nat.sub_zero,oGE ZW,oGE (by omega)] at h5
    injection h5 with h5
    rw[oGD,List.getElem?_append_left (by omega),oGE (by omega),h5];rfl
   ·have:bl (M.into w G (prK K) N) ⟨cJ 0 (argTs 0 vals),ceK K++ceO ow,[]⟩ [] (2*x.1+3) 0=.ow c':=by
     rw[bi (by show 2*x.1+3≠1;omega)];simp[St.c,h8]
    rw[this];rfl
  ·simp only[argT]
   have e:asq[i]=.pointer (some ad0):=by
    rw[oGE ZW] at x4;injection x4
   rw[e]
   have QO:x.1.i=i:=by omega
   rw[QO] at x5 R4
   have Zj:(⟨x.2.block,x.2.off+0,none⟩:Addr)=x.2:=by
    obtain⟨g,ad⟩:=x;obtain⟨b,o,s⟩:=ad;simp only at x6 ⊢;subst x6;rfl
   have hcell:bl (M.into w G (prK K) N) ⟨cJ 0 (argTs 0 vals),ceK K++ceO ow,[]⟩ [] (2*i+2) 0=x.1.cells.getD 0 .dead:=by
    rw[bi (by show 2*i+2≠1;omega)];simp only[St.c,gS,R4]
   refine .ptr (λ_=>0) (λ_=>Nat.le_refl _) (by simp[dQ,List.replicate_succ,List.map_const']) λ_=>?_
   cases hp with
   | nil=>
    refine⟨by simp,x.2,(bl (M.into w G (prK K) N) ⟨cJ 0 (argTs 0 vals),ceK K++ceO ow,[]⟩ [] (2*i+2) 0),?_,by rw[x7 rfl],rfl⟩;unfold Gh.addr Gh.into;simp only[x5];rw[Zj]
   | cons h1 hs=>
    obtain⟨x9,t0,x10⟩:=x8 (by simp);refine⟨by simp,ad0,t0,?_,rfl,by show bh (bl _ _ [] (2*i+2) 0) (h1 :: hs)=_;rw[hcell];exact x10⟩;show bu w (Gh.val _ w (2*i+2) 0) (h1 :: hs)=some ad0;unfold Gh.val Gh.into;simp only[x5];exact x9
end
theorem qm{α:Type}{f:GP×Addr->List α}{K:List (GP×Addr)}(hf:∀x∈K,(f x).length=x.1.cells.length) {r b o n:Nat}(h:prK K r=some (b,o,n)):∃x∈K,r=2*x.1.i+2/\b=x.2.block/\o=x.2.off/\n=x.1.cells.length/\bk (K.map λx=>(2*x.1.i+2,f x)) r=some (f x)/\∀j,j < n->(K.flatMap f)[bsK K r+j]?=(f x)[j]?:=by
 induction K with
 | nil=>simp[prK] at h
 | cons y K ih=>
  obtain⟨g,ad⟩:=y;simp only[prK] at h;split at h
  ·rename_i e
   injection h with h
   injection h with h1 h
   injection h with h2 h3
   have hl:=hf (g,ad) (by simp);simp only at hl;refine⟨(g,ad),by simp,e.symm,h1.symm,h2.symm,h3.symm,by simp[bk,e],λj hj=>?_⟩;simp only[bsK,e,if_true,Nat.zero_add];exact List.getElem?_append_left (by omega)
  ·rename_i e;obtain⟨x,h1,h2,h3,h4,h5,h6,h7⟩:=ih (λx hx=>hf x (by simp[hx])) h;have hl:=hf (g,ad) (by simp);simp only at hl;refine⟨x,by simp[h1],h2,h3,h4,h5,by simpa [bk,e] using h6,λj hj=>?_⟩;simp only[bsK,e,if_false,List.flatMap_cons];rw[List.getElem?_append_right (by omega)];rw[show g.cells.length+bsK K r+j - (f (g,ad)).length=bsK K r+j by omega];exact h7 j hj
theorem Cc{K:List (GP×Addr)}(Zz:fT (K.map λx=>x.1.i)=true) {j:Nat}(h:j < (ef K).length):∃r b o n t,prK K r=some (b,o,n)/\t < n/\j=bsK K r+t:=by
 induction K generalizing j with
 | nil=>simp[ef] at h
 | cons y K ih=>
  obtain⟨g,ad⟩:=y;simp only[List.map_cons,fT,oBA,Bool.not_eq_true',List.contains_eq_mem,decide_eq_false_iff_not] at Zz;simp only[ef,List.flatMap_cons,List.length_append] at h;by_cases hj:j < g.cells.length
  ·exact⟨2*g.i+2,ad.block,ad.off,g.cells.length,j,by simp[prK],hj,by simp[bsK]⟩
  ·obtain⟨r,b,o,n,t,h1,h2,h3⟩:=ih Zz.2 (j:=j - g.cells.length) (by simp only[ef];omega)
   have hne:2*g.i+2≠r:=λe=>by
    obtain⟨x,x1,x2,_⟩:=eF h1;exact Zz.1 (List.mem_map.2 ⟨x,x1,by omega⟩)
   exact⟨r,b,o,n,t,by simp[prK,hne,h1],h2,by simp[bsK,hne];omega⟩
def RWs(w:World):List (GP×Addr)->World->World
 | [],W=>W
 | x :: K,W=>RWs w K (c8 w W x.2.block)
theorem zF{w:World}{K:List (GP×Addr)}:∀{W:World},(RWs w K W).heap.size=W.heap.size:=by
 induction K with
 | nil=>intro W;rfl
 | cons x K ih=>intro W;simp[RWs];rw[ih,fR]
theorem pj{w:World}{K:List (GP×Addr)}:∀{W:World},(RWs w K W).os=W.os/\(RWs w K W).tape=W.tape/\(RWs w K W).output=W.output:=by
 induction K with
 | nil=>intro W;exact⟨rfl,rfl,rfl⟩
 | cons x K ih=>
  intro W;simp[RWs];have ⟨r1,r2,r3,_⟩:=kP (w:=w) (W:=W) (b:=x.2.block)
  simp_all
theorem Ch{w:World}{K:List (GP×Addr)}{k:Nat}:∀{W:World},(∀x∈K,k≠x.2.block)->(RWs w K W).heap[k]?=W.heap[k]?:=by
 induction K with
 | nil=>intro W h;rfl
 | cons x K ih=>
  intro W h;simp[RWs];rw[ih λy hy=>h y (by simp[hy]),iL (h x (by simp))]
theorem zG{w:World}{K:List (GP×Addr)}{k:Nat}(h2:k < w.heap.size):∀{W:World},k < W.heap.size->W.heap[k]?=w.heap[k]?->(RWs w K W).heap[k]?=w.heap[k]?:=by
 induction K with
 | nil=>intro W h1 h;exact h
 | cons x K ih=>
  intro W h1 h;refine ih (by rw[fR];exact h1) ?_;by_cases e:k=x.2.block
  ·rw[<- e];exact kv h1 h2
  ·rw[iL e];exact h
theorem Ci{w:World}{K:List (GP×Addr)}{k:Nat}(h2:k < w.heap.size):∀{W:World},k < W.heap.size->(∃x∈K,k=x.2.block)->(RWs w K W).heap[k]?=w.heap[k]?:=by
 induction K with
 | nil=>simp_all
 | cons x K ih=>
  intro W h1 h;simp[RWs];have ⟨y,hy,e⟩:=h;rcases List.mem_cons.1 hy with rfl | hy
  ·exact zG h2 (by rw[fR];exact h1) (by rw[e];rw[e] at h1 h2;exact kv h1 h2)
  ·exact ih (by rw[fR];exact h1) ⟨y,hy,e⟩
section
variable {P:Program} {M:Fm} {σ σ':St} {H:List TV} {xs:List Value} {ts:Array Value} {w:World} {G:Gh} {a:Act} {o:Oper}
theorem wl{p:ba}{t:TV}(h:(ne p t).run σ=some ((),σ')) {r:Nat}(hr:r≠p.root) (o n:Nat):dQ σ'.v r o n=dQ σ.v r o n:=by
 unfold ne at h;simp only[SP.run] at h
 have bump:∀{vr:List (Key×Nat)},σ'.vr=vr->(∀q,jh vr q=jh σ.vr q+if (p.root,p.off,p.hops.length+1)=q then 1 else 0)->dQ σ'.v r o n=dQ σ.v r o n:=by
  intro vr e hv
  have YV:∀q,σ'.v q=σ.v q+if (p.root,p.off,p.hops.length+1)=q then 1 else 0:=λq=>by unfold St.v;rw[e];exact hv q
  rw[ek]
  have hne:∀o' d,((p.root,p.off,p.hops.length+1):Key)≠(r,o',d):=λo' d e=>by
   simp_all
  simp_all
 cases hg:bh (σ.c p.root p.off) p.hops with
 | none=>simp[hg,SP.run] at h
 | some old=>
  simp only[hg] at h;split at h
  ·split at h
   ·obtain⟨l,hl,ho,h3⟩:=bj h;simp only[SP.run,oSJ,oPJ,true_and] at h3;exact bump (vr:=hZ σ.vr (p.root,p.off,p.hops.length+1)) (by rw[<- h3]) λq=>cL _ _ _
   ·simp[SP.run] at h
  ·obtain⟨l,hl,ho,h3⟩:=bj h;simp only[SP.run,oSJ,oPJ,true_and] at h3
   have hv:σ'.v=σ.v:=by rw[<- h3];rfl
   rw[hv]
theorem wn:∀{l:List TV}{p:ba}{σ σ':St},(putL p l).run σ=some ((),σ')->∀{r:Nat},r≠p.root->∀o n,dQ σ'.v r o n=dQ σ.v r o n:=by
 intro l
 induction l with
 | nil=>
  intro p σ σ' h r hr o n;simp[putL,SP.run] at h;rw[h]
 | cons t l ih=>
  intro p σ σ' h r hr o n;have ⟨_,σ1,h1,h2⟩:=aT h;rw[<- wl h1 hr o n]
  cases l with
  | nil=>
   simp[SP.run] at h2;rw[h2]
  | cons t2 l=>
   simp only at h2;split at h2
   ·exact ih h2 (by rw[bP];exact hr) o n
   ·simp[SP.run] at h2
theorem pK:∀{q:List (GP×List TV)}{σ σ':St},(putBack q).run σ=some ((),σ')->∀{r:Nat},(∀x∈q,r≠x.1.p.root)->∀o n,dQ σ'.v r o n=dQ σ.v r o n:=by
 intro q
 induction q with
 | nil=>
  intro σ σ' h r hr o n;simp[putBack,SP.run] at h;rw[h]
 | cons x q ih=>
  intro σ σ' h r hr o n;have ⟨g,l⟩:=x;have ⟨_,σ1,h1,h2⟩:=aT h;split at h2
  ·rw[wn h2 (hr (g,l) (by simp)) o n];exact ih h1 (λx hx=>hr x (by simp[hx])) o n
  ·simp[SP.run] at h2
def Seg(w W:World) (x:GP×Addr) (vs:List Value):Prop:=
 ∃cur0 cur e fz,w.heap[x.2.block]?=some (.cells cur0 e fz)/\W.heap[x.2.block]?=some (.cells cur e fz)/\cur.size=cur0.size/\(∀j,(j < x.2.off\/x.2.off+vs.length<=j)->cur[j]?=cur0[j]?)/\∀j (h:j < vs.length),cur[x.2.off+j]?=some vs[j]
theorem ub{f:GP×Addr->List TV}{v:GP×Addr->List Value}(P4:∀x,(f x).length=(v x).length):∀{K:List (GP×Addr)}{σ σ':St}{H0:List TV}{x0:List Value}{W:World}{G:Gh},H0.length=x0.length ->
 Inv M σ (H0++K.flatMap f) (x0++K.flatMap v) ts (RWs w K W) G->(∀x∈K,Seg w W x (v x))->(∀x∈K,f x≠[])->(∀x∈K,∀y∈K,x.2.block=y.2.block->x=y)->fT (K.map λx=>x.1.p.root)=true ->
 (∀x∈K,x.1.p.root≠1/\G.addr (RWs w K W) x.1.p=some x.2/\∃t,bh (bl M σ (H0++K.flatMap f) x.1.p.root x.1.p.off) x.1.p.hops=some t) ->
 (putBack (K.map λx=>(x.1,f x))).run σ=some ((),σ')->∃G',Inv M σ' H0 x0 ts W G'/\σ'.tm=σ.tm/\d6 M (RWs w K W) σ (H0++K.flatMap f) G W σ' H0 G'/\G'.β=G.β:=by
 intro K
 induction K with
 | nil=>
  intro σ σ' H0 x0 W G WY hI _ _ _ _ _ hr;simp only[List.map_nil,putBack,SP.run,oSJ,oPJ,true_and] at hr;subst hr;have hI:Inv M σ (H0++[]) (x0++[]) ts W G:=hI;rw[List.append_nil,List.append_nil] at hI;refine⟨G,hI,rfl,?_,rfl⟩;show d6 M W σ (H0++[]) G W σ H0 G;rw[List.append_nil];exact d6.refl _ _ _ _ _
 | cons x K ih=>
  intro σ σ' H0 x0 W G WY hI UL hne Wr Zz Z8 hr;simp only[List.map_cons,putBack] at hr;obtain⟨_,σ1,h1,h2⟩:=aT hr;split at h2
  case isFalse=>simp[SP.run] at h2
  rename_i YJ;simp at YJ;simp only[List.map_cons,fT,oBA,Bool.not_eq_true',List.contains_eq_mem,decide_eq_false_iff_not] at Zz;have RX:∀y∈K,y.1.p.root≠x.1.p.root:=λy hy e=>Zz.1 (by rw[<- e];exact List.mem_map.2 ⟨y,hy,rfl⟩)
  have PW:∀y∈K,x.2.block≠y.2.block:=λy hy e=>by
   have:=Wr x (by simp) y (by simp[hy]) e;exact RX y hy (by rw[this])
  have ZO:Inv M σ ((H0++f x)++K.flatMap f) ((x0++v x)++K.flatMap v) ts (RWs w K (c8 w W x.2.block)) G:=by
   simpa [RWs,List.append_assoc] using hI
  obtain⟨G1,hI1,Tj,RE,hβ1⟩:=ih (W:=c8 w W x.2.block) (by simp[WY,P4]) ZO (λy hy=>by
   obtain⟨cur0,cur,e,fz,s1,s2,s3⟩:=UL y (by simp[hy])
   exact⟨cur0,cur,e,fz,s1,by rw[iL (Ne.symm (PW y hy))];exact s2,s3⟩) (λy hy=>hne y (by simp[hy])) (λy hy z hz=>Wr y (by simp[hy]) z (by simp[hz])) Zz.2
   (λy hy=>by have:=Z8 y (by simp[hy]);simpa [RWs,List.append_assoc] using this) h1
  obtain⟨Z7,ha,t0,Z6⟩:=Z8 x (by simp)
  have Yh:=pK h1 (r:=x.1.p.root) (λy hy=>by
   obtain⟨z,hz,rfl⟩:=List.mem_map.1 hy
   exact Ne.symm (RX z hz)) x.1.p.off x.1.p.hops.length
  obtain⟨t1,U6,Rt⟩:=RE.keeps.ptr x.1.p x.2 t0 Z7 Yh (by simpa [RWs] using ha) (by simpa [List.append_assoc] using Z6)
  have Yt:(H0++f x).drop H0.length=f x:=by simp
  obtain⟨_,G2,H2,ZQ,e1,e2,e3,e4,e5,e6⟩:=wo (k:=H0.length) hI1 Z7 U6 Yt (hne x (by simp)) (λj hj hk=>by
   intro e
   have ZZ:j - H0.length < (f x).length:=by simp at hj;omega
   have:(H0++f x)[j]=(f x)[j - H0.length]:=by rw[List.getElem_append_right hk]
   rw[this] at e;have:=YJ.2 _ (List.getElem_mem ZZ);rw[e] at this
   simp[sS] at this) h2
  obtain⟨cur0,cur,e,fz,s1,s2,s3,s4,s5⟩:=UL x (by simp)
  have Vi:(x0++v x).drop H0.length=v x:=by rw[WY];simp
  rw[Vi,lm s1 s2 s3 s4 s5] at ZQ e5;obtain⟨Xo,e7⟩:=ZQ.trunc (k:=H0.length) e2
  have hT:H2.take H0.length=H0:=by
   apply List.ext_getElem
   ·simp[e1]
   ·intro j hj ZZ;rw[List.getElem_take];rw[e3 j (by rw[e1];simp;omega) (by simp;omega) ZZ];rw[List.getElem_append_left ZZ]
  have hX:(x0++v x).take H0.length=x0:=by rw[WY];simp
  rw[hT] at Xo e7;rw[hX] at Xo;refine⟨G2,Xo,e4.trans Tj,?_,e6.trans hβ1⟩;have hm2:d6 M (c8 w W x.2.block) σ1 (H0++f x) G1 W σ' H0 G2:=⟨e5.size,by rw[e7];exact e5.keeps,e5.heap,e5.free⟩;have:=RE.trans hm2;simpa [RWs,List.append_assoc] using this
end
def f8(P:Program) (f:FuncId):Prop:=∀args w,(callFunc f args).run P w=.ok (.enter f args) w
theorem iz{P:Program}{f:FuncId}{fn:Func}{c:Code}(hf:P.funcs[f]?=some fn) (V1:(fn.name=="runtime.NumGoroutine")=false) (hb:fn.body=some c):f8 P f:=by
 intro args w;unfold callFunc
 simp_all
def CA(M:Fm) (res:uZ) (v:Value) (σ2:St) (w2:World):Prop:=
 (∃ys ts2 G2,v=gm res.sh ys/\Inv M σ2 res.cells ys ts2 w2 G2/\∀j (h:j < res.cells.length),bC res.cells[j]=true\/fK res.cells[j]=true) \/
 ∃q vs l pv ts2 G2,res.cells=.ptr q vs :: l/\(∃sh,res.sh=.ptr :: sh)/\l.all qI=true/\v=nQ pv (l.map unV)/\Inv M σ2 [] [] ts2 w2 G2/\Cj w2 (bl M σ2 []) G2 q pv
def d7(P:Program) (F:b5):Prop:=
 ∀f vals pts res Zt,F f vals pts=some (res,Zt)->f8 P f/\∃N,vals.length<=N/\∀(M:Fm) (asq:List Value) (w:World) (G:Gh),asq.length=vals.length->M.N=N->M.w0=w->(∀r,M.pr r≠none->∃i p vs,vals[i]?=some (.ptr p vs)/\r=2*i+2) ->
  Inv M (mkSt vals pts) [] [] (asq.toArray++Array.replicate (N - asq.length) undef) w G ->
  Calls P f asq.toArray w λe w2=>∃v σ2,e=.returned v/\CA M res v σ2 w2/\Zt=pts.map λx=>(x.1,(bk σ2.ce x.1).getD [])
def xR(P:Program) (E:Env):Prop:=
 ∀f n tm,E.box f=some (n,tm)->f8 P f/\(∀x,.val x∈tm->cZ x=true)/\∃ty,∀(asq:List Value) (w:World),asq.length=n->(∀y∈tm.map (bxV asq),y.oneCell'=true) ->
  Calls P f asq.toArray w λe w'=>e=.returned (.pointer (some ⟨w.heap.size,0,none⟩))/\w'=w.alloc (.cells (tm.map (bxV asq)).toArray ty)
def ix:Op->TOp->Prop
 | .call ⟨.value f,args,_⟩,.call _ f' args'=>aW f=some f'/\args'.length=args.size/\∀j (h:j < args'.length) (h':j < args.size),aW args[j]=some args'[j].2
 | _,_=>False
def Be:TOp:=.call false (.c undef) []
def dY(op:Op) (t:TOp):Prop:=t=Be\/ix op t
section
variable {P:Program} {M:Fm} {σ σ':St} {H:List TV} {xs:List Value} {ts:Array Value} {w:World} {G:Gh} {a:Act} {o:Oper}
theorem qC:∀{l:List TV}{i:Nat},(argTs i l).length=l.length:=by
 intro l
 induction l with
 | nil=>intro i;rfl
 | cons t l ih=>intro i;simp[argTs,ih]
theorem vQ{F:Nat->Prop}{V:Vs}{C:Cs}:∀{sh:List RSh}{l:List TV}{ys:List Value},io sh l.length=true->l.length=ys.length->(∀j (h:j < l.length),TmR w F V C G l[j] (ys.getD j undef)) ->
 (dK sh l).length=(cP sh ys).length/\∀j (h:j < (dK sh l).length),TmR w F V C G (dK sh l)[j] ((cP sh ys).getD j undef):=by
 intro sh
 induction sh with
 | nil=>intro l ys _ _ _;exact⟨rfl,λj h=>by simp[dK] at h⟩
 | cons s sh ih=>
  intro l ys hs hl ht
  cases s with
  | one=>
   simp only[io,oBA,oDE] at hs
   cases l with
   | nil=>simp at hs
   | cons t l=>
    cases ys with
    | nil=>simp at hl
    | cons y ys=>
     obtain⟨e,h2⟩:=ih (l:=l) (ys:=ys) (by simpa using hs.2) (by simpa using hl) λj h=>by have:=ht (j+1) (by simpa using h);simpa using this
     refine⟨by simp[dK,cP,e],λj h=>?_⟩
     cases j with
     | zero=>have:=ht 0 (by simp);simpa [dK,cP] using this
     | succ j=>have:=h2 j (by simpa [dK] using h);simpa [dK,cP] using this
  | agg n=>
   simp only[io,oBA,oDE] at hs
   obtain⟨e,h2⟩:=ih (l:=l.drop n) (ys:=ys.drop n) (by simpa using hs.2) (by simp[hl]) λj h=>by
    have h':n+j < l.length:=by simp at h;omega
    simp_all
   refine⟨by simp[dK,cP,e],λj h=>?_⟩
   cases j with
   | zero=>
    refine .agg (by simp;omega) λj hj=>?_
    have ZZ:j < n/\j < l.length:=by simp at hj;omega
    simp_all
   | succ j=>have:=h2 j (by simpa [dK] using h);simpa [dK,cP] using this
  | ptr=>simp[io] at hs
theorem pF{F:Nat->Prop}{V:Vs}{C:Cs}{sh:List RSh}{l:List TV}{ys:List Value}(hs:io sh l.length=true) (hl:l.length=ys.length) (ht:∀j (h:j < l.length),TmR w F V C G l[j] (ys.getD j undef)):TmR w F V C G (jy sh l) (gm sh ys):=by
 obtain⟨e,h2⟩:=vQ hs hl ht;by_cases h1:∃x,dK sh l=[x]
 ·obtain⟨x,hx⟩:=h1;have ⟨y,hy⟩:∃y,cP sh ys=[y]:=List.length_eq_one_iff.1 (by simp_all)
  have e1:jy sh l=x:=by unfold jy;rw[hx]
  have e2:gm sh ys=y:=by unfold gm;rw[hy]
  simp_all
 ·have hne:¬ ∃y,cP sh ys=[y]:=λ⟨y,hy⟩=>h1 (List.length_eq_one_iff.1 (by rw[e,hy];rfl))
  have e1:jy sh l=TV.tup (dK sh l):=by
   unfold jy
   simp_all
  have e2:gm sh ys=Value.tuple (cP sh ys).toArray:=by
   unfold gm
   simp_all
  rw[e1,e2];refine .tup (by simp[e]) λj hj=>?_;have:=h2 j hj
  simp_all
theorem AY{res:uZ}{ys:List Value}(hI:Inv M σ res.cells ys ts w G) (hok:∀j (h:j < res.cells.length),bC res.cells[j]=true\/fK res.cells[j]=true) (hs:io res.sh res.cells.length=true)
 {dst:Option Nat} (hd:∀d,dst=some d->d < M.N) (hr:(landR dst res).run σ=some ((),σ')):∃G',Inv M σ' [] [] (match dst with | some d=>ts.setIfInBounds d (gm res.sh ys) | none=>ts) w G':=by
 cases dst with
 | none=>
  simp[landR,SP.run] at hr;subst hr;have ⟨G',hg,_⟩:=hI.drop;exact⟨G',hg.1⟩
 | some d=>
  have ⟨l,σ1,h1,h2⟩:=aT hr;have ⟨G1,hI1,_,hl,ht⟩:=lI hI hok h1;simp[wr,SP.run] at h2;subst h2;exact⟨G1,hI1.wrT (hd d rfl) (pF (by simp_all) (by rw[hl];exact hI.hand) ht)⟩
end
def frM(w:World) (N:Nat):Fm:=⟨w,λ_=>True,λ_=>False,λ_=>none,N,λ_ _=>trivial⟩
def frG:Gh:=⟨λ_=>none,λ_ _=>undef,λ_ _ _=>False⟩
theorem kS(l:List TV):∀i k,bk (cJ i l) k=if k < i then none else l[k - i]?:=by
 induction l with
 | nil=>intro i k;simp[cJ,bk]
 | cons t l ih=>
  simp[cJ,bk]
  grind
def sc(w:World) (t:TV) (x:Value):Prop:=∀F V C G,(∀k,F k)->TmR w F V C G t x
theorem fh.plain{w:World}{F:Nat->Prop}{t:TV}{x:Value}(h:fh w F t x):sc w t x:=λ_ _ _ _ hF=>(h.frame (λ_ _ _=>rfl) λk _ _=>hF k).toTm
theorem calls_flat{P:Program}{F:b5}(hF:d7 P F) {f:FuncId}{vals:List TV}{avs:List Value}{res:uZ}{w:World}(h:F f vals []=some (res,[])) (Zs:res.cells.all qI=true) (hl:avs.length=vals.length)
 (hv:∀j (h:j < vals.length) (h':j < avs.length),sc w vals[j] avs[j]):f8 P f/\Calls P f avs.toArray w λe w'=>e=.returned (gm res.sh (res.cells.map unV))/\Below w.heap.size w w':=by
 obtain⟨Y8,N,hN,hc⟩:=hF f vals [] _ _ h;refine⟨Y8,?_⟩;have Zi:∀k,frG.F (frM w N).A k:=λk=>⟨trivial,λ_ _ h=>h,λ_ _ _ _ h=>by simp[frG] at h⟩
 have hst:∀i,(mkSt vals []).t i=vals.getD i .dead:=by
  intro i;simp[St.t,mkSt,kS]
 have hE:∀r o,bl (frM w N) (mkSt vals []) [] r o=.dead:=by
  intro r o;unfold bl;split
  ·simp
  ·rfl
 have hI:Inv (frM w N) (mkSt vals []) [] [] (avs.toArray++Array.replicate (N - avs.length) undef) w frG:=by
  refine⟨⟨λr o=>.inl ⟨hE r o,λ_ h=>h⟩,λ_ _ _ _ h=>by simp[frG] at h,λ_ _ _ _ h=>by simp[frG] at h,λ_ _ _ _ _ _ _ h=>by simp[frG] at h,λ_ _ _ _ h=>by simp[frG] at h,λ_ _ _ _ _ h=>h.elim,λ_ _ _ h=>h.elim⟩,λi=>?_,⟨rfl,rfl,rfl,Nat.le_refl _,λ_ _ _ _=>rfl,λ_ _ _ _ h=>by simp[frM] at h,λ_ _ _ h=>h.elim,λ_ _ _ _ h=>by simp[frG] at h,λ_ h=>by simp[frG] at h⟩,λr l h=>by simp[mkSt,bk] at h,?_,rfl,λj hj=>by simp at hj,λ_ _ _ _ h=>by simp[frG] at h⟩
  ·rw[hst];by_cases hi:i < vals.length
   ·have ZW:i < avs.length:=by omega
    have e1:vals.getD i .dead=vals[i]:=by simp[hi]
    have e2:(avs.toArray++Array.replicate (N - avs.length) undef).getD i undef=avs[i]:=by
     simp[Array.getElem?_append,ZW]
    rw[e1,e2];exact hv i hi ZW _ _ _ frG Zi
   ·have e1:vals.getD i .dead=.dead:=by rw[oGD,oGN (by omega)];rfl
    rw[e1];exact .dead
  ·show (avs.toArray++Array.replicate (N - avs.length) undef).size=N;simp;omega
 refine (hc (frM w N) avs w frG hl rfl rfl (λr hr=>by simp[frM] at hr) hI).mono λe w2 ⟨v,σ2,he,Ya,_⟩=>?_;rcases Ya with ⟨ys,ts2,G2,rfl,ZQ,_⟩ | ⟨q,vs,l,pv,ts2,G2,ZV,_⟩
 rotate_left
 ·rw[ZV] at Zs;simp[qI] at Zs
 have VN:ys=res.cells.map unV:=by
  have hlen:res.cells.length=ys.length:=ZQ.hand;apply List.ext_getElem
  ·rw[List.length_map,hlen]
  ·intro j h1 h2
   have hj:j < res.cells.length:=by omega
   have Xm:=List.all_eq_true.1 Zs res.cells[j] (List.getElem_mem hj)
   have hown:=ZQ.hand_own (j:=j) hj (by
    intro e;rw[e] at Xm
    simp[qI] at Xm)
   rw[List.getElem_map]
   have e1:ys.getD j undef=ys[j]:=by simp[oGD,h1]
   rw[e1] at hown
   cases hc:res.cells[j] with
   | v x=>
    rw[hc] at hown
    cases hown with
    | v _ _=>rfl
   | _=>rw[hc] at Xm;simp[qI] at Xm
 subst VN;exact⟨he,⟨ZQ.fram.os,ZQ.fram.tape,ZQ.fram.output,ZQ.fram.size,λk hk=>ZQ.fram.old k hk (λh=>h) λ_ _ _ _ h=>by simp[frM] at h⟩⟩
section
variable {P:Program} {M:Fm} {σ σ':St} {H:List TV} {xs:List Value} {ts:Array Value} {w:World} {G:Gh} {a:Act} {o:Oper}
theorem vW{t t':TV}{x:Value}(hI:Inv M σ H xs ts w G) (hx:TmR w (G.F M.A) σ.v (bl M σ H) G t x) (hr:(see1 t).run σ=some (t',σ')):σ'=σ/\fh w (λ_=>True) t' x:=by
 cases hx with
 | v h=>
  obtain⟨rfl,rfl⟩:=hr;exact⟨rfl,.v h⟩
 | nil=>
  obtain⟨rfl,rfl⟩:=hr;exact⟨rfl,.sl 1 (λ_ _=>.nilFunc) (λi h=>by simp at h) (Nat.le_refl _) (Nat.zero_le _) (λ_=>rfl) (λi j h=>by simp at h) (λi j h=>by simp at h)⟩
 | sl h=>
  obtain⟨rfl,rfl⟩:=hr;exact⟨rfl,h.frame (λ_ _ _=>rfl) λ_ _ _=>trivial⟩
 | dead=>simp[see1,SP.run] at hr
 | ptr=>simp[see1,SP.run] at hr
 | ip=>simp[see1,SP.run] at hr
 | agg=>simp[see1,SP.run] at hr
 | tup=>simp[see1,SP.run] at hr
 | fn=>simp[see1,SP.run] at hr
 | pw=>simp[see1,SP.run] at hr
 | @pk p vs x V0 h0 hv hok=>
  obtain⟨_,σ1,h1,h2⟩:=aT hr;have e1:=(bf h1).1;have e2:=(bf h1).2;subst e1;obtain⟨_,c,ZK,Z6⟩:=hok e2;simp only[SP.run] at h2
  have Z9:p.root≠M.hr:=by
   intro e;rw[e] at h2;rw[hI.hr_dead] at h2;cases hp:p.hops<;>rw[hp] at h2<;>simp[bh,SP.run] at h2
  obtain⟨u,fp,h4,h5,_⟩:=hI.core.hv_own p Z6 (by simp);rw[bi Z9] at Z6;rw[Z6] at h2;obtain⟨rfl,rfl⟩:=h2;rw[ZK] at h4
  injection h4 with h4
  subst h4;exact⟨rfl,h5.share'.frame (λ_ _ _=>rfl) λ_ _ _=>trivial⟩
theorem AI:∀{l l':List TV}{ys:List Value},Inv M σ H xs ts w G->l.length=ys.length->(∀j (h:j < l.length),TmR w (G.F M.A) σ.v (bl M σ H) G l[j] (ys.getD j undef))->(seeL l).run σ=some (l',σ') ->
 σ'=σ/\l'.length=l.length/\∀j (h:j < l'.length),fh w (λ_=>True) l'[j] (ys.getD j undef):=by
 intro l
 induction l generalizing σ σ' with
 | nil=>
  intro l' ys hI hl _ hr;simp only[seeL,SP.run,oSJ,oPJ] at hr
  simp_all
 | cons t l ih=>
  intro l' ys hI hl ht hr
  cases ys with
  | nil=>simp at hl
  | cons y ys=>
   obtain⟨t',σ1,h1,h2⟩:=aT hr;have ⟨r',σ2,h3,h4⟩:=aT h2;obtain⟨rfl,rfl⟩:=h4;obtain⟨rfl,k1⟩:=vW hI (by have:=ht 0 (by simp);simpa using this) h1;obtain⟨rfl,k2,k3⟩:=ih hI (by simpa using hl) (λj h=>by have:=ht (j+1) (by simpa using h);simpa using this) h3;refine⟨rfl,by simp[k2],λj h=>?_⟩
   cases j with
   | zero=>simpa using k1
   | succ j=>have:=k3 j (by simpa using h);simpa using this
theorem AJ{t t':TV}{x:Value}(hI:Inv M σ H xs ts w G) (hx:TmR w (G.F M.A) σ.v (bl M σ H) G t x) (hr:(seeA t).run σ=some (t',σ')):σ'=σ/\sc w t' x:=by
 have one:(see1 t).run σ=some (t',σ')->σ'=σ/\sc w t' x:=λh=>by
  obtain⟨e,k⟩:=vW hI hx h;exact⟨e,k.plain⟩
 cases t with
 | agg l=>
  obtain⟨l',σ1,h1,h2⟩:=aT hr;obtain⟨rfl,rfl⟩:=h2
  cases hx with
  | @agg _ ys hl ht=>
   obtain⟨e,k1,k2⟩:=AI (ys:=ys.toList) hI (by simp_all) (λj h=>by simp_all) h1;refine⟨e,λF V C G' hF=>.agg (by rw[hl,k1]) λj hj=>?_⟩;have:=k2 j hj
   have e3:ys.getD j undef=ys.toList.getD j undef:=by simp_all
   rw[e3];exact this.plain F V C G' hF
 | ip cs=>
  obtain⟨rfl,rfl⟩:=hr
  cases hx with
  | ip u hc hr=>exact⟨rfl,λF V C G' hF=>.ip u (λj hj=>⟨hF _,(hc j hj).2⟩) λj hj=>(hr j hj).frame (λ_ _ _=>rfl) λk _ _=>hF k⟩
 | fn f cap=>
  simp only[seeA] at hr;split at hr
  ·rename_i hc;obtain⟨rfl,rfl⟩:=hr;rw[List.all_eq_true] at hc
   cases hx with
   | fn hl ht=>exact⟨rfl,λF V C G' hF=>.fn hl λj hj=>(((ht j hj).imC (hc _ (List.getElem_mem hj))).frame (λ_ _ _=>rfl) λk _ _=>hF k).toTm⟩
  ·simp[SP.run] at hr
 | _=>exact one hr
theorem yC:∀{l:List Opd}{l':List Operand}{Yi:List TV}{σ σ':St},Inv M σ [] [] a.tmps w G->l'.length=l.length->(∀j (h:j < l.length) (h':j < l'.length),aW l'[j]=some l[j])->(seeAs l).run σ=some (Yi,σ') ->
 σ'=σ/\Yi.length=l.length/\∀j (h:j < Yi.length) (h':j < l'.length),sc w Yi[j] (a.eval l'[j]):=by
 intro l
 induction l with
 | nil=>
  intro l' Yi σ σ' hI hl hc hr;simp[seeAs,SP.run] at hr
  simp_all
 | cons x l ih=>
  intro l' Yi σ σ' hI hl hc hr
  cases l' with
  | nil=>simp at hl
  | cons x' l'=>
   obtain⟨t,σ1,h1,h2⟩:=aT hr;obtain⟨t',σ2,h3,h4⟩:=aT h2;obtain⟨r,σ3,h5,h6⟩:=aT h4;obtain⟨rfl,rfl⟩:=h6;obtain⟨rfl,ht⟩:=bB hI.tmr (by have:=hc 0 (by simp) (by simp);simpa using this) h1;obtain⟨rfl,k1⟩:=AJ hI ht h3;obtain⟨rfl,k2,k3⟩:=ih (l':=l') hI (by simpa using hl) (λj h h'=>by have:=hc (j+1) (by simpa using h) (by simpa using h');simpa using this) h5;refine⟨rfl,by simp[k2],λj h h'=>?_⟩
   cases j with
   | zero=>exact k1
   | succ j=>exact k3 j (by simpa using h) (by simpa using h')
theorem zx{F:b5}(hF:d7 P F) {asq:List Value}{vals:List TV}{Ze:FuncId}(hd:∀d,o.dst=some d->d < M.N/\M.pr (2*d+2)=none) (hI1:Inv M σ [] [] a.tmps w G) (hal:asq.length=vals.length)
 (Xu:∀j (h:j < vals.length) (h':j < asq.length),sc w vals[j] asq[j]) (h2:(callB F o.dst Ze vals).run σ=some ((),σ')) (YO:f8 P Ze->(execOp a.eval o).run P w=.ok (.enter Ze asq.toArray) w):By P M σ' a o w:=by
 intro K' Q hK;obtain⟨r,σ1,h3,h4⟩:=aT h2
 have XR:F Ze vals []=some r/\σ1=σ:=by
  cases hq:F Ze vals [] with
  | none=>rw[hq] at h3;simp[d8,SP.run] at h3
  | some y=>
   rw[hq] at h3;simp only[d8,SP.run,oSJ,oPJ] at h3
   simp_all
 obtain⟨XR,rfl⟩:=XR;split at h4
 case isFalse=>simp[SP.run] at h4
 rename_i YJ;simp only[oBA,oDE] at YJ;obtain⟨res,Zt⟩:=r;obtain rfl:Zt=[]:=oEN YJ.1.1;obtain⟨Y8,WQ⟩:=calls_flat hF XR YJ.1.2 hal Xu;unfold Oper.wp;rw[YO Y8,Oper.upon_enter];refine WQ.mono λe w2 ⟨he,hb⟩=>?_;subst he;simp only;have ZQ:=(hI1.grow (w':=w2) (λk hk=>hb.block k hk) hb.size hb.os hb.tape hb.output).1;refine hK (a.put o.dst (gm res.sh (res.cells.map unV))) w2 G ?_ (gn _ _ _)
 cases hdst:o.dst with
 | none=>
  rw[hdst] at h4;simp only[SP.run,oSJ,oPJ,true_and] at h4;rw[<- h4];exact ZQ
 | some d=>
  rw[hdst] at h4;simp only[wr,SP.run,oSJ,oPJ,true_and] at h4;rw[<- h4];refine ZQ.wrT (hd d hdst).1 (pF YJ.2 (by simp) λj hj=>?_);have Xm:=List.all_eq_true.1 YJ.1.2 res.cells[j] (List.getElem_mem hj)
  have e1:(res.cells.map unV).getD j undef=unV res.cells[j]:=by simp[oGD,hj]
  rw[e1]
  cases hc:res.cells[j] with
  | v x=>rw[hc] at Xm;exact .v Xm
  | _=>rw[hc] at Xm;simp[qI] at Xm
end
section
variable {P:Program} {M:Fm} {σ σ':St} {H:List TV} {xs:List Value} {ts:Array Value} {w:World} {G:Gh} {a:Act} {o:Oper}
theorem rb:∀{q:List (GP×List TV)}{σ σ':St},(putBack q).run σ=some ((),σ')->∀x∈q,x.2.length=x.1.cells.length:=by
 intro q
 induction q with
 | nil=>simp_all
 | cons y q ih=>
  intro σ σ' h x hx;have ⟨_,σ1,h1,h2⟩:=aT h;split at h2
  ·rename_i YJ;rcases List.mem_cons.1 hx with rfl | hx
   ·simp_all
   ·exact ih h1 x hx
  ·simp[SP.run] at h2
theorem kM.nodup{i:Nat}{vals:List TV}{asq us:List Value}{K:List (GP×Addr)}(h:kM w i vals asq K us):fT (K.map λx=>x.1.i)=true/\∀x∈K,i<=x.1.i:=by
 induction h with
 | nil=>exact⟨rfl,λx hx=>by simp_all⟩
 | ptr hr hb hs h0 hh hu hc hok h ih=>
  refine⟨?_,λx hx=>?_⟩
  ·simp only[List.map_cons,fT,oBA,Bool.not_eq_true',List.contains_eq_mem,decide_eq_false_iff_not];refine⟨λhm=>?_,ih.1⟩;have ⟨y,hy,e⟩:=List.mem_map.1 hm;have:=ih.2 y hy;omega
  ·rcases List.mem_cons.1 hx with rfl | hx
   ·simp_all
   ·have:=ih.2 x hx;omega
 | arg ha h ih=>exact⟨ih.1,λx hx=>by have:=ih.2 x hx;omega⟩
 | own h ih=>exact⟨ih.1,λx hx=>by have:=ih.2 x hx;omega⟩
theorem AS{K:List (GP×Addr)}(Zz:fT (K.map λx=>x.1.i)=true):∀x∈K,prK K (2*x.1.i+2)=some (x.2.block,x.2.off,x.1.cells.length):=by
 induction K with
 | nil=>simp_all
 | cons y K ih=>
  intro x hx;simp only[List.map_cons,fT,oBA,Bool.not_eq_true',List.contains_eq_mem,decide_eq_false_iff_not] at Zz;simp[prK];rcases List.mem_cons.1 hx with rfl | hx
  ·simp
  ·rw[oIN]
   ·exact ih Zz.2 x hx
   ·intro e;exact Zz.1 (List.mem_map.2 ⟨x,hx,by omega⟩)
theorem s7{α β:Type}{K:List (GP×Addr)}{f:GP×Addr->List α}{g:GP×Addr->List β}(h:∀x∈K,(f x).length=(g x).length):(K.flatMap f).length=(K.flatMap g).length:=by
 induction K with
 | nil=>rfl
 | cons x K ih=>simp_all
theorem pn{α β:Type}:∀{a:List α}{b c:List β},a.length<=b.length->a.zip (b++c)=a.zip b:=by
 intro a
 induction a with
 | nil=>simp_all
 | cons x a ih=>
  intro b c h
  cases b with
  | nil=>simp at h
  | cons y b=>simp_all
def j8(σ:St) (x:GP×Addr):List TV:=(bk σ.ce (2*x.1.i+2)).getD []
def nF(σ:St) (G:Gh) (w:World) (x:GP×Addr):List Value:=(List.range (j8 σ x).length).map (G.val w (2*x.1.i+2))
theorem kM.hands2{vals:List TV}{asq us:List Value}{K:List (GP×Addr)}{N:Nat}{σ2:St}{res ys:_}{ts2:Array Value}{w2:World}{G2:Gh}(h:kM w 0 vals asq K us) (Z4:∀x∈K,0 < x.1.cells.length)
 (h2:Inv (M.into w G (prK K) N) σ2 res ys ts2 w2 G2) (hlen:∀x∈K,(j8 σ2 x).length=x.1.cells.length) :
 z8 res ys (res++K.flatMap (j8 σ2)) (ys++K.flatMap (nF σ2 G2 w2)) (bl (M.into w G (prK K) N) σ2 res) G2 w2 (prK K) (λr=>res.length+bsK K r):=by
 have RC:∀x∈K,(nF σ2 G2 w2 x).length=x.1.cells.length:=λx hx=>by simp[nF,hlen x hx]
 refine⟨?_,λj hj=>⟨by simp;omega,List.getElem_append_left hj,?_⟩,λr b o n hp t ht=>?_,λj hj=>?_,λr b o n r' b' o' n' hp hp' j j' hj ZZ e=>z6 _ _ _ _ _ _ _ _ hp hp' j j' hj ZZ (by omega)⟩
 ·rw[List.length_append,List.length_append,h2.hand,s7 (f:=j8 σ2) (g:=nF σ2 G2 w2) λx hx=>by rw[hlen x hx,RC x hx]]
 ·rw[oGD,oGD,List.getElem?_append_left (by rw[<- h2.hand];exact hj)]
 ·obtain⟨x,x1,x2,x3,x4,x5,x6,x7⟩:=qm hlen hp;obtain⟨y,y1,y2,y3,y4,y5,y6,y7⟩:=qm RC hp;have Vj:x=y:=kz h.nodup.1 x1 y1 (by omega);subst Vj
  have Vh:t < (j8 σ2 x).length:=by rw[hlen x x1];omega
  have e1:=x7 t ht;rw[oGE Vh] at e1;obtain⟨k1,k2⟩:=oGS e1;refine⟨by rw[List.length_append];omega,by omega,?_,?_⟩
  ·have e2:(res++K.flatMap (j8 σ2))[res.length+bsK K r+t]'(by rw[List.length_append];omega)=(K.flatMap (j8 σ2))[bsK K r+t]:=by
    rw[List.getElem_append_right (by omega)];congr 1;omega
   rw[e2,k2]
   rw[bi (by have:r≠1:=by omega
             exact this)]
   unfold St.c
   have hb:j8 σ2 x=(bk σ2.ce r).getD []:=by rw[x2];rfl
   cases ha:bk σ2.ce r with
   | none=>rw[hb,ha] at Vh;simp at Vh
   | some l=>
    simp only[hb,ha,Option.getD_some] at Vh ⊢;simp[Vh]
  ·have e3:=y7 t ht;rw[oGD,List.getElem?_append_right (by rw[<- h2.hand];omega)];rw[show res.length+bsK K r+t - ys.length=bsK K r+t by rw[<- h2.hand];omega];rw[e3,x2];simp[nF,Vh]
 ·by_cases hj1:j < res.length
  ·exact .inl hj1
  ·right;have hc:(K.flatMap (j8 σ2)).length=(ef K).length:=s7 hlen;obtain⟨r,b,o,n,t,c1,c2,c3⟩:=Cc h.nodup.1 (j:=j - res.length) (by rw[List.length_append] at hj;omega);exact⟨r,b,o,n,t,c1,c2,by omega⟩
theorem wt:∀{l:List TV}{p:ba}{σ σ':St},p.hops=[]->(putL p l).run σ=some ((),σ')->(∀o,o < p.off->σ'.c p.root o=σ.c p.root o)/\∀t (h:t < l.length),σ'.c p.root (p.off+t)=l[t]:=by
 intro l
 induction l with
 | nil=>
  intro p σ σ' _ h;simp only[putL,SP.run,oSJ,oPJ,true_and] at h
  simp_all
 | cons y l ih=>
  intro p σ σ' hp h;obtain⟨r,off,hops⟩:=p;simp only at hp;subst hp;simp only[putL] at h;obtain⟨_,σ1,h1,h2⟩:=aT h
  have ZJ:(∀o,o≠off->σ1.c r o=σ.c r o)/\σ1.c r off=y:=by
   obtain⟨old,l1,vr,hg,hl,ho,hσ1,_⟩:=sH h1;simp only at hl ho hσ1;subst hσ1;refine⟨λo hne=>?_,?_⟩
   ·simp only[St.c,bx,if_true,hl];simp[List.getElem?_set,Ne.symm hne]
   ·simp only[St.c,bx,if_true];simp[cF,List.getElem?_set,ho]
  cases l with
  | nil=>
   simp only[SP.run,oSJ,oPJ,true_and] at h2;subst h2;refine⟨λo ho=>ZJ.1 o (by simp only at ho;omega),λt ht=>?_⟩
   have:t=0:=by simp at ht;omega
   subst this;exact ZJ.2
  | cons y2 l=>
   have Yl:(⟨r,off,[]⟩:ba).add 1=⟨r,off+1,[]⟩:=rfl;rw[Yl] at h2;obtain⟨k1,k2⟩:=ih (p:=⟨r,off+1,[]⟩) rfl h2;refine⟨λo ho=>?_,λt ht=>?_⟩
   ·simp only at ho;exact (k1 o (by show o < off+1;omega)).trans (ZJ.1 o (by omega))
   ·cases t with
    | zero=>exact (k1 off (by show off < off+1;omega)).trans ZJ.2
    | succ t=>
     have:=k2 t (by simpa using ht);rw[show off+(t+1)=off+1+t by omega];simpa using this
theorem pL{x:GP×Addr}{f:GP×Addr->List TV}(hx:x.1.p.hops=[]) (h:(putBack ([x].map λx=>(x.1,f x))).run σ=some ((),σ')):∀t,t < (f x).length->σ'.c x.1.p.root (x.1.p.off+t)=(f x).getD t .dead:=by
 intro t ht;have ⟨_,σ1,h1,h2⟩:=aT h;split at h2
 ·rw[(wt hx h2).2 t ht];simp[ht]
 ·simp[SP.run] at h2
theorem tz{F:b5}(hF:d7 P F) {asq:List Value}{vals:List TV}{ns:List (Option Nat)}{Ze:FuncId}{σ1:St}{G1:Gh}(hd:∀d,o.dst=some d->d < M.N/\M.pr (2*d+2)=none) (hI1:Inv M σ1 [] [] a.tmps w G1) (hns:ns.length=vals.length) (hal:asq.length=vals.length)
 (Xu:∀j (h:j < vals.length) (h':j < asq.length),TmR w (G1.F M.A) σ1.v (bl M σ1 []) G1 vals[j] asq[j]) (h2:(callV F o.dst Ze ns vals).run σ1=some ((),σ')) (YO:f8 P Ze->(execOp a.eval o).run P w=.ok (.enter Ze asq.toArray) w):By P M σ' a o w:=by
 intro K' Q hK;unfold callV at h2;obtain⟨ow,σ0,PF,h2⟩:=aT h2;obtain⟨q,σ2,h3,h4⟩:=aT h2
 have WI:(ns.zip vals).length=vals.length:=by simp[hns]
 have Wa:(ns.zip vals).map (·.2)=vals:=by
  rw[List.map_snd_zip];omega
 have RZ:∀{σ1:St} {H1:List TV} {G1:Gh},(∀j (h:j < vals.length) (h':j < asq.length),TmR w (G1.F M.A) σ1.v (bl M σ1 H1) G1 vals[j] asq[j])->∀j (h:j < (ns.zip vals).length) (h':j < asq.length),TmR w (G1.F M.A) σ1.v (bl M σ1 H1) G1 (ns.zip vals)[j].2 asq[j]:=λh j h1 h2=>by
  have hj:j < vals.length:=by rw[<- WI];exact h1
  have:=h j hj h2;simpa using this
 obtain⟨zs,G0,Wn,S9,Ux⟩:=qM hI1 (by omega) (RZ Xu) PF;obtain⟨us,G2,K,SQ,We,hrel,UP⟩:=zg (asq:=asq) Wn.1 (by omega) (RZ λj h h'=>Wn.tm (Xu j h h')) h3;have Ve:=zf h3;have ZM:=Wn.trans SQ;rw[Wa] at hrel;obtain⟨_,σ3,h5,h6⟩:=aT h4
 have VS:([]:List TV)++ow.map (·.2)++q.flatMap (·.cells)=ow.map (·.2)++ef K:=by rw[<- We];simp[ef,List.flatMap_map]
 rw[VS,List.nil_append] at ZM;rw[VS] at UP;have hz:zs.length=ow.length:=S9.facts.1
 have Ta:∀j p vs,vals[j]?=some (.pk p vs)->∃x∈ow,x.1=j:=λj p vs hj=>by
  obtain⟨hjl,Qf⟩:=oGS hj
  have SY:j < ns.length:=by omega
  have Tt:(ns.zip vals)[j]?=some (ns[j],.pk p vs):=by
   rw[oGE (by omega)];simp[Qf]
  have hn:=Ve j _ p vs Tt;rw[hn] at Tt;obtain⟨x,h7,h8⟩:=Ux j p vs Tt;exact⟨x,h7,by omega⟩
 obtain⟨rfl,QA⟩:=yG ZM.1 h5;split at h6
 case isFalse=>simp[SP.run] at h6
 rename_i YJ;simp only[oBA,List.all_eq_true,oDE] at YJ;obtain⟨Zz,Z4⟩:=YJ;have XL:∀x∈K,0 < x.1.cells.length:=λx hx=>Z4 x.1 (by rw[<- We];exact List.mem_map_of_mem hx)
 have YA:=λj h h'=>by
  have:=ZM.tm (Xu j h (by omega));simpa using this
 have XD:∀x∈K,x.1.p.root≠1/\G2.addr w x.1.p=some x.2/\(∃t,bh (bl M σ3 (ow.map (·.2)++ef K) x.1.p.root x.1.p.off) x.1.p.hops=some t)/\((∃o n,G2.β x.1.p.root=some (x.2.block,o,n))\/G2.φ x.1.p.root x.1.p.off x.2.block):=λx hx=>by
  obtain⟨r1,ad,r2,r3,_,r4,r5⟩:=QA x.1 (by rw[<- We];exact List.mem_map_of_mem hx) _ (UP x hx)
  injection r2 with r2
  injection r2 with r2
  subst r2;exact⟨r1,r3,r4,r5⟩
 have hh:=hrel.hands ZM.1 S9 (by rw[We];exact Zz) XL λx hx=>⟨(XD x hx).1,(XD x hx).2.2.2⟩;obtain⟨r,σ4,h7,h8⟩:=aT h6
 have XR:F Ze (argTs 0 vals) (q.map (λg=>(2*g.i+2,g.cells))++ow.map λx=>(2*x.1+3,[x.2]))=some r/\σ4=σ3:=by
  cases hq:F Ze (argTs 0 vals) (q.map (λg=>(2*g.i+2,g.cells))++ow.map λx=>(2*x.1+3,[x.2])) with
  | none=>rw[hq] at h7;simp[d8,SP.run] at h7
  | some r'=>
   rw[hq] at h7;simp only[d8,SP.run,oSJ,oPJ] at h7;exact⟨by rw[h7.1],h7.2.symm⟩
 obtain⟨XR,rfl⟩:=XR;obtain⟨res,Zt⟩:=r;simp only at h8;split at h8
 case isFalse=>simp[SP.run] at h8
 rename_i Wj;simp only[oBA,oDE] at Wj;obtain⟨_,σ5,h9,ZS⟩:=aT h8;obtain⟨Y8,N,hN,WQ⟩:=hF Ze _ _ _ _ XR;rw[qC] at hN
 have UG:(q.map (λg=>(2*g.i+2,g.cells))++ow.map λx=>(2*x.1+3,[x.2]))=ceK K++ceO ow:=by rw[<- We];simp[ceK,ceO]
 have hin:=hrel.enter ZM.1 S9 Ta hh YA (N:=N) (by omega)
 have Vy:=WQ (M.into w G2 (prK K) N) asq w (G2.into (prK K) (λr=>ow.length+bsK K r) (owK ow) (zs++us)) (by rw[qC];exact hal) rfl rfl (λr hr=>by
  have hr:prK K r≠none:=hr
  cases hp:prK K r with
  | none=>exact absurd hp hr
  | some y=>
   obtain⟨b,o,n⟩:=y;obtain⟨x,x1,x2,_⟩:=eF hp;obtain⟨_,_,p,vs,s1⟩:=hrel.slot x x1;refine⟨x.1.i,⟨2*x.1.i+2,0,p.hops⟩,List.replicate (p.hops.length+1) 0,?_,x2⟩;rw[qD];have s1:vals[x.1.i]?=some (.ptr p vs):=s1;rw[s1]
   simp[argT]) (by rw[UG];exact hin)
 have hrun:=YO Y8;unfold Oper.wp;rw[hrun,Oper.upon_enter];refine Vy.mono λe w2 ⟨v,σc,he,Ya,UH⟩=>?_;subst he;simp only
 have Ts:q.zip (Zt.map (·.2))=K.map λx=>(x.1,j8 σc x):=by
  rw[UH,UG,<- We];simp only[ceK,List.map_append,List.map_map];rw[pn (by simp),List.zip_map'];rfl
 rw[Ts] at h9;have XH:∀x∈K,(j8 σc x).length=x.1.cells.length:=λx hx=>rb h9 _ (List.mem_map.2 ⟨x,hx,rfl⟩);have Zy:=AS hrel.nodup.1
 have hlt:∀x∈K,x.2.block < w.heap.size:=λx hx=>by
  obtain⟨cur,e,fz,hb,_⟩:=iU (hh.here _ _ _ _ (Zy x hx) 0 (XL x hx)).1;exact (Array.getElem?_eq_some_iff.1 hb).1
 have Wr:∀x∈K,∀y∈K,x.2.block=y.2.block->x=y:=λx hx y hy e=>by
  have h1:=Zy x hx;have h2:=Zy y hy;rw[<- e] at h2;have:=hh.inj _ _ _ _ _ _ _ h1 h2;exact kz hrel.nodup.1 hx hy (by omega)
 have back:∀{Hc:List TV} {ys:List Value} {ts2:Array Value} {Gc:Gh},Inv (M.into w G2 (prK K) N) σc Hc ys ts2 w2 Gc->∃G4,Inv M σ5 Hc ys a.tmps w2 G4/\G4.β=G2.β:=by
  intro Hc ys ts2 Gc Xh;have PO:=hrel.hands2 (M:=M) (G:=G2) (N:=N) XL Xh XH;have hsz:w.heap.size<=w2.heap.size:=Xh.fram.size
  obtain⟨G3,Xo,Ql,hβ3⟩:=ZM.1.leave hh Xh PO (w':=RWs w K w2) zF pj.1 pj.2.1 pj.2.2 (λk hk=>Ch λx hx=>hk _ _ _ _ (Zy x hx)) (λr b o n hp=>by
   obtain⟨x,x1,x2,x3,_⟩:=eF hp;rw[x3]
   exact Ci (hlt x x1) (Nat.lt_of_lt_of_le (hlt x x1) hsz) ⟨x,x1,rfl⟩)
  obtain⟨G4,VT,QG,Pb,hβ4⟩:=ub (w:=w) (f:=j8 σc) (v:=nF σc Gc w2) (λx=>by simp[nF]) (K:=K) (W:=w2) Xh.hand Xo (λx hx=>by
   have hp:=Zy x hx;obtain⟨hβ,cur0,cur,e,fz,p1,p2,p3,p4⟩:=Xh.fram.par _ _ _ _ hp
   have VM:(nF σc Gc w2 x).length=x.1.cells.length:=by simp[nF,XH x hx]
   refine⟨cur0,cur,e,fz,p1,p2,p3,λj hj=>p4 j (by rw[VM] at hj;exact hj),λj hj=>?_⟩;have PY:=Xh.core.boxcell hβ (o:=j) (by omega);obtain⟨YI,e',O5,c1,c2,c3⟩:=iU PY;rw[p2] at c1
   injection c1 with c1
   injection c1 with c1 _ _
   subst c1;rw[c3]
   simp[nF]) (λx hx e=>by have h1:=XH x hx;have h2:=XL x hx;rw[e,List.length_nil] at h1;omega) Wr (by rw[<- We] at Zz;simpa [Function.comp_def] using Zz) (λx hx=>by
   obtain⟨r1,r2,⟨t,r3⟩,_⟩:=XD x hx;obtain⟨t',k1,k2⟩:=Ql.keeps.ptr x.1.p x.2 t r1 rfl r2 r3
   exact⟨r1,k1,t',k2⟩) h9
  exact⟨G4,VT,hβ4.trans hβ3⟩
 rcases Ya with ⟨ys,ts2,Gc,rfl,Xh,Uz⟩ | ⟨pl,Pk,fl,pv,ts2,Gc,ZV,⟨shr,hsh⟩,Zs,rfl,Xh,Vf⟩
 ·obtain⟨G4,VT,_⟩:=back Xh
  have hP:isP res=false:=by
   cases hp:isP res with
   | false=>rfl
   | true=>
    unfold isP at hp;split at hp
    ·rename_i Pl p vs l1 e1 e2;have:=Uz 0 (by rw[e2];simp);simp[e2,bC,fK] at this
    ·cases hp
  rw[hP] at ZS Wj;simp only[Bool.false_eq_true,if_false,Bool.false_or] at ZS Wj;obtain⟨G5,Xg⟩:=AY VT Uz Wj.2 (dst:=o.dst) (λd hd'=>(hd d hd').1) ZS;refine hK (a.put o.dst (gm res.sh ys)) w2 G5 ?_ (gn _ _ _)
  cases hdst:o.dst with
  | none=>rw[hdst] at Xg;exact Xg
  | some d=>rw[hdst] at Xg;exact Xg
 ·obtain⟨G4,VT,hβ4⟩:=back Xh
  have hP:isP res=true:=by unfold isP;rw[ZV,hsh]
  rw[hP] at ZS;simp only[if_true] at ZS
  have SL:∃G5,Inv M σ' [] [] (match o.dst with | some d=>a.tmps.setIfInBounds d (nQ pv (fl.map unV)) | none=>a.tmps) w2 G5:=by
   cases hdst:o.dst with
   | none=>
    rw[hdst] at ZS;simp only[landP,SP.run,oSJ,oPJ,true_and] at ZS;subst ZS;exact⟨G4,VT⟩
   | some d=>
    rw[hdst,ZV] at ZS;simp only[landP] at ZS;split at ZS
    case h_2=>simp[SP.run] at ZS
    rename_i Pj Q3 l' g VK Xs
    injection VK with VK Qx
    injection VK with VK _
    subst VK;subst Qx;split at ZS
    case isFalse=>simp[SP.run] at ZS
    rename_i T4;simp only[oBA,beq_iff_eq,List.isEmpty_iff] at T4;obtain⟨Z9,Yv⟩:=T4;obtain⟨Ph,σ6,XB,U3⟩:=aT ZS;rw[lE,jl] at XB
    injection XB with XB
    injection XB with XB PE
    subst XB;subst PE;simp only[wr,SP.run,oSJ,oPJ,true_and] at U3;subst U3;obtain⟨x,rfl⟩:∃x,K=[x]:=List.length_eq_one_iff.1 (by have:=congrArg List.length We;simpa using this)
    have To:x.1=g:=by simpa using We
    have Tp:x∈[x]:=by simp
    obtain⟨r1,r2,_,_⟩:=XD x Tp;have hp:=Zy x Tp;obtain⟨hβc,_⟩:=Xh.fram.par _ _ _ _ hp
    have Rw:x.1.p.hops=[]:=by rw[To];exact Yv
    have Ym:pl.root=2*x.1.i+2:=by rw[To];exact Z9
    obtain⟨b0,o0,n0,hβ0,T0⟩:∃b0 o0 n0,G4.β x.1.p.root=some (b0,o0,n0)/\x.2=⟨b0,o0+x.1.p.off,none⟩:=by
     rw[hβ4];unfold Gh.addr at r2;rw[Rw] at r2;simp only at r2
     cases hb:G2.β x.1.p.root with
     | none=>rw[hb] at r2;simp at r2
     | some y=>
      obtain⟨b0,o0,n0⟩:=y;rw[hb] at r2
      injection r2 with r2
      exact⟨b0,o0,n0,rfl,r2.symm⟩
    have WT:=pL Rw h9;refine⟨G4,VT.wrT (hd d hdst).1 (vT (.ptr _ (λ_=>Nat.le_refl _) rfl λ_=>?_) Zs)⟩;rw[<- To];obtain⟨_,ad,t,ha,hv,ht⟩:=Vf;refine⟨r1,ad,?_⟩
    have hval:G4.val w2 x.1.p.root (x.1.p.off+pl.off)=Gc.val w2 pl.root pl.off:=by
     unfold Gh.val;rw[hβ0,Ym,hβc];simp only[T0,Nat.add_assoc]
    cases hho:pl.hops with
    | nil=>
     rw[hho] at ht;refine⟨_,?_,hv,rfl⟩;rw[<- ha];unfold Gh.addr;simp only[hho,hβ0,Ym,hβc,T0,Nat.add_assoc]
    | cons h1 hs=>
     rw[hho] at ht;refine⟨t,?_,hv,?_⟩
     ·rw[<- ha];unfold Gh.addr;simp only[hho];rw[hval]
     ·have S6:x.1.p.root≠M.hr:=r1;rw[bi S6]
      have Zg:pl.off < x.1.cells.length:=by
       rcases Nat.lt_or_ge pl.off x.1.cells.length with h | h
       ·exact h
       ·have:=Xh.core.boxc _ _ _ _ hβc pl.off h;rw[Ym] at ht;rw[this] at ht;simp[bh] at ht
      have Zk:=WT pl.off (by rw[XH x Tp];exact Zg)
      have U8:bl (M.into w G2 (prK [x]) N) σc [] pl.root pl.off=(j8 σc x).getD pl.off .dead:=by
       rw[Ym,bi (by show 2*x.1.i+2≠1;omega)];unfold j8 St.c
       cases bk σc.ce (2*x.1.i+2) with
       | none=>simp
       | some l=>rfl
      rw[U8] at ht;rw[Zk];exact ht
  obtain⟨G5,Xg⟩:=SL;refine hK (a.put o.dst (nQ pv (fl.map unV))) w2 G5 ?_ (gn _ _ _)
  cases hdst:o.dst with
  | none=>rw[hdst] at Xg;exact Xg
  | some d=>rw[hdst] at Xg;exact Xg
theorem ii{Ze:FuncId}{args':Array Operand}{caps:Array Value}{fo:Operand}{Wb:Array TypeId}(ho:o.op=.call ⟨.value fo,args',Wb⟩) (hv:a.eval fo=.func (.func Ze) #[] caps) (Y8:f8 P Ze) :
 (execOp a.eval o).run P w=.ok (.enter Ze (args'.map a.eval++caps)) w:=by
 unfold execOp;simp only[resolve];simp only[Deferred.ofValue,Sem.run_pure,invoke];have:=Y8 (args'.map a.eval++caps) w
 simp_all
theorem zl{E:Env}(hB:xR P E) {asq:List Value}{vals:List TV}{Ze:FuncId}{n:Nat}{tm:List BxC}(Sy:E.box Ze=some (n,tm)) (hn:vals.length=n) {σ1:St}{G1:Gh}(hd:∀d,o.dst=some d->d < M.N/\M.pr (2*d+2)=none) (hI1:Inv M σ1 [] [] a.tmps w G1) (hal:asq.length=vals.length)
 (Xu:∀j (h:j < vals.length) (h':j < asq.length),TmR w (G1.F M.A) σ1.v (bl M σ1 []) G1 vals[j] asq[j]) (h2:(evBox o.dst tm vals).run σ1=some ((),σ')) (YO:f8 P Ze->(execOp a.eval o).run P w=.ok (.enter Ze asq.toArray) w):By P M σ' a o w:=by
 intro K' Q hK;obtain⟨Y8,Zs,ty,WQ⟩:=hB Ze n tm Sy
 cases hdst:o.dst with
 | none=>rw[hdst] at h2;simp[evBox,SP.run] at h2
 | some d=>
  rw[hdst] at h2;obtain⟨P0,YS⟩:=hd d hdst;simp only[evBox] at h2;obtain⟨l,σ2,h3,h4⟩:=aT h2
  obtain⟨Up,ZJ,G2,ZM⟩:=iJ (ys:=tm.map (bxV asq)) hI1 (by simp) (λj h=>by
   have hj:j < tm.length:=by simpa using h
   simp only[List.getElem_map,oGD,List.getElem?_map,oGE hj,oMS,Option.getD_some]
   cases hb:tm[j] with
   | val x=>exact .v (Zs x (by rw[<- hb];exact List.getElem_mem hj))
   | arg i=>
    simp only[bxT,bxV];by_cases hi:i < vals.length
    ·simp_all
    ·have:vals.getD i .dead=.dead:=by simp[oGD,oGN (by omega:vals.length<=i)]
     rw[this];exact .dead) h3
  obtain⟨G3,Xo,_,hβ⟩:=ZM.1.newBox (2*d+2) ty (by omega) YS (by omega);have X8:(wr d (.ptr ⟨2*d+2,0,[]⟩ [(σ2.root (2*d+2) l).v (2*d+2,0,0)])).run (σ2.root (2*d+2) l)=some ((),σ'):=h4;simp only[wr,SP.run,oSJ,oPJ,true_and] at X8;subst X8;unfold Oper.wp;rw[YO Y8,Oper.upon_enter];refine (WQ asq w (by omega) ZJ).mono λe w2 ⟨he,hw⟩=>?_;subst he;subst hw;simp only;refine hK (a.put o.dst (.pointer (some ⟨w.heap.size,0,none⟩))) _ G3 ?_ (gn _ _ _);rw[hdst];refine Xo.wrT P0 (.ptr (σ2.root (2*d+2) l).v (λ_=>Nat.le_refl _) (by simp[dQ]) λ_=>⟨by show (2*d+2:Nat)≠1;omega,⟨w.heap.size,0,none⟩,_,?_,rfl,rfl⟩);unfold Gh.addr;simp only[hβ]
theorem sB{E:Env}{F:b5}(hB:xR P E) (hF:d7 P F):nd P M dY (evCall E F):=by
 intro o t σ σ' a w G hc hd hI hr;rcases hc with rfl | hc
 ·simp[evop,evCall,Be,SP.run] at hr
 cases ho:o.op with
 | call c=>
  rw[ho] at hc;obtain⟨callee,args,Wb⟩:=c
  cases callee with
  | value fo=>
   cases t with
   | call k f' args'=>
    simp only[ix] at hc;obtain⟨hf,hlen,WO⟩:=hc;simp only[evop] at hr
    cases f' with
    | f Ze=>
     have Ue:fo=.func Ze:=by cases fo<;>simp[aW] at hf;rw[hf]
     have Wm:∀Ze,fo=.func Ze->f8 P Ze->(execOp a.eval o).run P w=.ok (.enter Ze (args.toList.map a.eval).toArray) w:=λZe Ue Y8=>by
      have:=ii (a:=a) (w:=w) ho (by rw[Ue];rfl:a.eval fo=.func (.func Ze) #[] #[]) Y8
      have ea:(args.toList.map a.eval).toArray=args.map a.eval:=by apply Array.ext';rw[Array.toList_map]
      rw[ea];simpa using this
     have Wm:=Wm Ze Ue;simp only[evCall] at hr
     cases k with
     | false=>
      simp only[Bool.false_eq_true,if_false] at hr;obtain⟨vals,σ1,h1,h2⟩:=aT hr;obtain⟨rfl,YX,Xu⟩:=yC (l':=args.toList) hI (by simp[hlen]) (λj h h'=>by have:=WO j (by simpa using h) (by simpa using h');simpa using this) h1
      have UR:vals.length=args'.length:=by rw[YX];simp
      exact zx hF hd hI (by simp;omega) (λj h h'=>by have:=Xu j h (by simpa using h');simpa using this) h2 Wm
     | true=>
     simp only[if_true] at hr;obtain⟨vals,σ1,h1,h2⟩:=aT hr;obtain⟨G1,ZH,YX,Xu⟩:=tD (l':=args.toList) hI (by simp[hlen]) (λj h h'=>by have:=WO j (by simpa using h) (by simpa using h');simpa using this) h1;have UR:vals.length=args'.length:=YX;split at h2
     ·rename_i x Sy;split at h2
      case isFalse=>simp[SP.run] at h2
      rename_i hn;exact zl hB Sy hn hd ZH.1 (by simp;omega) (λj h h'=>by have:=Xu j h (by simpa using h');simpa using this) h2 Wm
     ·exact tz hF hd ZH.1 (by simp;omega) (by simp;omega) (λj h h'=>by have:=Xu j h (by simpa using h');simpa using this) h2 Wm
    | t i=>
     simp only[evCall,SP.run] at hr;split at hr
     case h_2=>simp[SP.run] at hr
     rename_i Ze caps htv;obtain⟨vals,σ1,h1,h2⟩:=aT hr;obtain⟨G1,ZH,YX,Xu⟩:=tD (l':=args.toList) hI (by simp[hlen]) (λj h h'=>by have:=WO j (by simpa using h) (by simpa using h');simpa using this) h1;have UR:vals.length=args'.length:=YX
     have Ue:fo=.tmp i:=by cases fo<;>simp[aW] at hf;rw[hf]
     have Zq:=hI.tmr i;rw[htv] at Zq
     have Yj:a.eval fo=a.tmps.getD i undef:=by rw[Ue];rfl
     generalize hz:a.tmps.getD i undef=z at Zq Yj
     cases Zq with
     | @fn _ _ xs Y7 T8=>
      have Wm:f8 P Ze->(execOp a.eval o).run P w=.ok (.enter Ze (args.toList.map a.eval++xs.toList).toArray) w:=λY8=>by
       have:=ii (a:=a) (w:=w) ho Yj Y8
       have ea:(args.toList.map a.eval++xs.toList).toArray=args.map a.eval++xs:=by apply Array.ext';simp
       rw[ea];exact this
      have T5:xs.toList.length=caps.length:=by simpa using Y7
      exact tz hF hd ZH.1 (by simp[zw];omega) (by simp;omega) (λj h h'=>by
       by_cases hj:j < vals.length
       ·have:=Xu j hj (by simp;omega);simpa [List.getElem_append_left,hj,List.getElem_append,show j < args.size by omega] using this
       ·have XY:j - vals.length < caps.length:=by simp at h;omega
        have:=ZH.tm (T8 (j - vals.length) XY)
        have Vb:¬ j < args.size:=by omega
        have e1:args.size=vals.length:=by omega
        simp only[List.getElem_append,hj,dite_false,List.length_map,Array.length_toList,Vb,Array.getElem_toList];simp only[e1]
        have e2:xs.getD (j - vals.length) undef=xs[j - vals.length]:=by simp[Array.getD_eq_getD_getElem?,show j - vals.length < xs.size by omega]
        rw[<- e2]
        exact this) h2 Wm
    | _=>simp[evCall,SP.run] at hr
   | _=>simp[ix] at hc
  | _=>cases t<;>simp[ix] at hc
 | _=>rw[ho] at hc;cases t<;>simp[ix] at hc
end
theorem iI{P:Program}{ops:Array Oper}{Q:Exit->Act->World->Prop}{i:Nat}{L:List Nat}{a:Act}{w:World}{o:Oper}{v:Value}(ho:ops[i]?=some o) (hg:o.guard=none) (hrun:(execOp a.eval o).run P w=.ok (.value v) w) (h:wpOps P ops Q L (a.put o.dst v) w):wpOps P ops Q (i :: L) a w:=by
 simp[wpOps,ho];rw[oIP (by simp[Region.wanted,hg])];left;unfold Oper.wp;rw[hrun];exact h
structure xQ (P:Program) (c rest:Code):Prop where
 ex:∃(i0 i1 i2:Nat) (o0 o1 o2 o3:Oper) (ty ty2 e:TypeId),c=.seq (.region i0 #[o0] false) (.seq (.seq (.region i1 #[o1,o2] false) (.cond (.tmp 4) (.seq (.region i2 #[o3] false) .ret) .skip)) rest) /\
  (o0.dst=some 2/\o0.guard=none/\o0.op=.assign (.const (.slice none 0 0)))/\(o1.dst=some 3/\o1.guard=none/\o1.op=.move (.tmp 0)) /\
  (o2.dst=some 4/\o2.guard=none/\o2.op=.binOp .eql ty (.tmp 3) (.const (.slice none 0 0)) ty2)/\(o3.dst=some 2/\o3.guard=none/\o3.op=.assign (.const (.slice none 0 0)))/\P.underlying ty=some (.slice e)
def mS(ts:Array Value) (x:Value) (b:Bool):Array Value:=((ts.setIfInBounds 2 (.slice none 0 0)).setIfInBounds 3 x).setIfInBounds 4 (.bool b)
theorem zt{P:Program}{c rest:Code}(hc:xQ P c rest) {ad:Option Addr}{n cap:Nat}{ts:Array Value}{w:World}{Q:Exit->Act->World->Prop}(h0:ts.getD 0 undef=.slice ad n cap) (hN:4 < ts.size)
 (hnil:ad=none->Q .ret ⟨(mS ts (.slice ad n cap) true).setIfInBounds 2 (.slice none 0 0),[]⟩ w) (ZX:ad≠none->rest.wp P Q ⟨mS ts (.slice ad n cap) false,[]⟩ w):c.wp P Q ⟨ts,[]⟩ w:=by
 obtain⟨i0,i1,i2,o0,o1,o2,o3,ty,ty2,e,rfl,⟨d0,g0,p0⟩,⟨d1,g1,p1⟩,⟨d2,g2,p2⟩,⟨d3,g3,p3⟩,hu⟩:=hc.ex
 have Xc:∀{o:Oper} {a:Act} {x:Operand},(o.op=.assign x\/o.op=.move x)->(execOp a.eval o).run P w=.ok (.value (a.eval x)) w:=λho=>by rcases ho with ho | ho<;>simp[execOp,ho]
 refine wp_seq (wp_region ?_);show wpOps P #[o0] _ [0] _ w;refine iI (o:=o0) rfl g0 (Xc (.inl p0)) ?_;rw[d0];refine wp_seq (wp_seq (wp_region ?_));show wpOps P #[o1,o2] _ [0,1] _ w;refine iI (o:=o1) rfl g1 (Xc (.inr p1)) ?_;rw[d1]
 have e0:(ts.setIfInBounds 2 (.slice none 0 0)).getD 0 undef=.slice ad n cap:=by
  rw[<- h0];simp[Array.getD_eq_getD_getElem?,Array.getElem?_setIfInBounds]
 have e3:((ts.setIfInBounds 2 (.slice none 0 0)).setIfInBounds 3 (.slice ad n cap)).getD 3 undef=.slice ad n cap:=by
  simp[Array.getD_eq_getD_getElem?,Array.getElem?_setIfInBounds,show 3 < ts.size by omega]
 have XN:(execOp (Act.mk ((ts.setIfInBounds 2 (.slice none 0 0)).setIfInBounds 3 (.slice ad n cap)) []).eval o2).run P w=.ok (.value (.bool ad.isNone)) w:=by
  have hb:=Lib.run_eql_slice_nil (P:=P) w ty e ad n cap 0 0 hu;have ex:(Act.mk ((ts.setIfInBounds 2 (.slice none 0 0)).setIfInBounds 3 (.slice ad n cap)) []).eval (.tmp 3)=.slice ad n cap:=e3;have ey:∀a:Act,a.eval (.const (.slice none 0 0))=.slice none 0 0:=λ_=>rfl;have hg:(eqGuard .eql ty (.tmp 3) (.const (.slice none 0 0)) (.slice ad n cap) (.slice none 0 0)).run P w=.ok () w:=rfl;simp[execOp,p2,ex,ey,hb,hg]
 refine iI (o:=o2) (v:=.bool ad.isNone) rfl g2 ?_ ?_
 ·show (execOp (Act.mk ((ts.setIfInBounds 2 (.slice none 0 0)).setIfInBounds 3 ((ts.setIfInBounds 2 (.slice none 0 0)).getD 0 undef)) []).eval o2).run P w=_;rw[e0];exact XN
 rw[d2];show (Code.cond (.tmp 4) _ _).wp P _ ⟨((ts.setIfInBounds 2 (.slice none 0 0)).setIfInBounds 3 ((ts.setIfInBounds 2 (.slice none 0 0)).getD 0 undef)).setIfInBounds 4 (.bool ad.isNone),[]⟩ w;rw[e0]
 have e4:∀b,(mS ts (.slice ad n cap) b).getD 4 undef=.bool b:=λb=>by
  unfold mS;simp[Array.getD_eq_getD_getElem?,Array.getElem?_setIfInBounds,hN]
 cases ad with
 | none=>
  refine wp_cond_true (e4 true) (wp_seq (wp_region ?_));show wpOps P #[o3] _ [0] _ w;refine iI (o:=o3) rfl g3 (Xc (.inl p3)) ?_;rw[d3];exact wp_ret (hnil rfl)
 | some ad=>exact wp_cond_false (e4 false) (wp_skip (ZX (by simp)))
def qx(sz:Nat) (b:Bool) (bytes:Nat) (mv fl:Bool) (id:Nat):ee:=
 .seq (.reg id none [⟨some 5,none,.bsl sz b 0 []⟩,⟨some 6,none,.mov (.t 0)⟩,⟨some 7,none,.app sz bytes mv fl (.t 5) (.t 6)⟩,⟨some 2,none,.asn true (.t 7)⟩] ([2],[7])) .ret
def qv(call:Option Nat->TOp->SP Unit) (N:Nat) (tc:ee):Option (List TV×List RSh):=(runC call N tc (mkSt [.sl []] [])).bind λx=>match x.1 with | .exit _=>none | _=>((resF 1 [.tmp 2]).run x.2).map (·.1)
theorem uK(call:Option Nat->TOp->SP Unit) (N sz:Nat) (b:Bool) (bytes:Nat) (mv fl:Bool) (id:Nat):qv call N (qx sz b bytes mv fl id)=qv (λ_ _=>.fail) 0 (qx sz b bytes mv fl id):=rfl
def lQ(tc:ee):Bool:=match qv (λ_ _=>.fail) 0 tc with
 | some ([.ow []],[.one])=>true
 | _=>false
theorem rY{tc:ee}(h:lQ tc=true):qv (λ_ _=>.fail) 0 tc=some ([.ow []],[.one]):=by
 unfold lQ at h
 grind
def fS(pp:List Nat):Nat->List TV->Bool
 | _,[]=>true
 | i,.ptr _ _ :: r=>pp.contains i && fS pp (i+1) r
 | i,.sl _ :: r=>fS pp (i+1) r
 | i,_ :: r=>!pp.contains (1000+i) && fS pp (i+1) r
theorem ww{pp:List Nat}:∀{l:List TV}{i:Nat},fS pp i l=true->∀j p vs,l[j]?=some (.ptr p vs)->i+j∈pp:=by
 intro l
 induction l with
 | nil=>simp_all
 | cons t l ih=>
  intro i h j p vs hj
  have hr:fS pp (i+1) l=true:=by
   cases t<;>simp only[fS,oBA] at h<;>first | exact h.2 | exact h
  cases j with
  | zero=>
   have:t=.ptr p vs:=by simp_all
   subst this;simp[fS,List.contains_eq_mem,oDE] at h;exact h.1
  | succ j=>
   have:=ih hr j p vs (by simp_all);rw[show i+(j+1)=i+1+j by omega];exact this
def runT(E:Env) (F:b5) (n:Nat) (tf:TFn) (vals:List TV) (pts:Pts):Option (uZ×Pts):=
 if vals.length=tf.np/\(fS tf.pp 0 vals && (!tf.pp.contains 1000 || pts.isEmpty))=true then
  (runC (evCall E F) n tf.body (mkSt vals pts)).bind λx=>match x.1 with
   | .exit _=>none
   | _=>((resF tf.np tf.res).run x.2).bind λy=>some (⟨y.1.1,y.1.2⟩,pts.map λx=>(x.1,(bk y.2.ce x.1).getD []))
 else none
def qP(E:Env) (T:FuncId->Option TFn) (B F:b5) (n:Nat):b5:=λf vals pts=>
 match T f with
 | none=>B f vals pts
 | some tf=>runT E F n tf vals pts
def runF(E:Env) (T:FuncId->Option TFn) (B:b5):Nat->b5
 | 0=>λ_ _ _=>none
 | n+1=>qP E T B (runF E T B n) n
def xP(P:Program) (tf:TFn) (c:Code):Prop:=
 tf.np=1/\tf.pp=[1000]/\tf.nt=8/\tf.res=[.tmp 2]/\lQ tf.body=true/\(∃sz b bytes mv fl id,tf.body=qx sz b bytes mv fl id) /\
  ∃rest,xQ P c rest/\∀M:Fm,M.N=tf.nt->(∀r,M.pr r≠none->∃i∈tf.pp,r=2*i+2)->dl P M dY tf.body rest
def xM(P:Program) (T:FuncId->Option TFn):Prop:=
 ∀f tf,T f=some tf->∃fn c,P.funcs[f]?=some fn/\(fn.name=="runtime.NumGoroutine")=false/\fn.body=some c/\fn.ntmps=tf.nt/\tf.np<=tf.nt /\
  ((∀M:Fm,M.N=tf.nt->(∀r,M.pr r≠none->∃i∈tf.pp,r=2*i+2)->dl P M dY tf.body c)\/xP P tf c)/\tf.res.length=fn.results.size/\∀k (h:k < tf.res.length) (h':k < fn.results.size),sb P tf.res[k] fn.results[k]
section
variable {P:Program} {E:Env} {T:FuncId->Option TFn} {B F:b5}
def Cu(tf:TFn) (pts:Pts) (x:eb×St):Option (uZ×Pts):=match x.1 with
 | .exit _=>none
 | _=>((resF tf.np tf.res).run x.2).bind λy=>some ((⟨y.1.1,y.1.2⟩:uZ),pts.map λ(x:Nat×List TV)=>(x.1,(bk y.2.ce x.1).getD []))
theorem r7{tf:TFn}{fn:Func}{M:Fm}{σ1:St}{a':Act}{w':World}{G':Gh}{pts Zt:Pts}{res:uZ}{e:eb}(Wz:tf.res.length=fn.results.size) (YL:∀k (h:k < tf.res.length) (h':k < fn.results.size),sb P tf.res[k] fn.results[k])
 (ZO:Inv M σ1 [] [] a'.tmps w' G') (hd:a'.defers=[]) (h2:Cu tf pts (e,σ1)=some (res,Zt)) :
 bodyPost P fn (λe w2=>∃v σ2,e=.returned v/\CA M res v σ2 w2/\Zt=pts.map λ(x:Nat×List TV)=>(x.1,(bk σ2.ce x.1).getD [])) e.toExit a' w':=by
 unfold Cu at h2
 have UY:∀y,(resL tf.np tf.res).run σ1=some y->some ((⟨y.1.1,y.1.2⟩:uZ),pts.map λx=>(x.1,(bk y.2.ce x.1).getD []))=some (res,Zt)->a'.defers=[]/\∃v,(results fn a'.tmps).run P w'=.ok v w' /\
  ∃v' σ2,Ending.returned v=.returned v'/\CA M res v' σ2 w'/\Zt=pts.map λx=>(x.1,(bk σ2.ce x.1).getD []):=by
  rintro⟨r,σ2⟩ hr he;obtain⟨vs,ys,G2,hrun,hg,hl,hok,QB⟩:=AP (qs':=fn.results.toList) ZO (by simpa using Wz) (λk h h'=>by have:=YL k h (by simpa using h');simpa using this) hr
  injection he with he
  injection he with Ub SH
  subst Ub;subst SH;refine⟨hd,gm r.2 ys,?_,gm r.2 ys,σ2,rfl,.inl ⟨ys,a'.tmps,G2,rfl,by simpa using hg.1,hok⟩,rfl⟩;unfold results;rw[Array.mapM_eq_mapM_toList];simp only[Sem.run_bind,Sem.run_map]
  erw[hrun]
  unfold gm;rw[QB]
  cases vs with
  | nil=>rfl
  | cons v vs=>
   cases vs with
   | nil=>rfl
   | cons v2 vs=>rfl
 have ZY:∀y,(resF tf.np tf.res).run σ1=some y->some ((⟨y.1.1,y.1.2⟩:uZ),pts.map λx=>(x.1,(bk y.2.ce x.1).getD []))=some (res,Zt)->a'.defers=[]/\∃v,(results fn a'.tmps).run P w'=.ok v w' /\
  ∃v' σ2,Ending.returned v=.returned v'/\CA M res v' σ2 w'/\Zt=pts.map λx=>(x.1,(bk σ2.ce x.1).getD []):=by
  intro y hr he;unfold resF at hr;split at hr
  ·rename_i t rs UO;simp only[SP.run] at hr;split at hr
   ·rename_i p vs htv;obtain⟨_,σ2,h3,h4⟩:=aT hr;have e1:σ2=σ1:=(bf h3).1;have e2:=(bf h3).2;subst e1;obtain⟨fl,σ3,h5,h6⟩:=aT h4;simp only[SP.run,oSJ] at h6;subst h6
    injection he with he
    injection he with Ub SH
    subst Ub;subst SH;have Zq:=ZO.tmr t;rw[htv] at Zq
    obtain⟨q0,qs',TR⟩:∃q0 qs',fn.results.toList=q0 :: qs':=by
     have hlen:fn.results.toList.length=rs.length+1:=by rw[Array.length_toList,<- Wz,UO];rfl
     cases hl:fn.results.toList with
     | nil=>rw[hl] at hlen;simp at hlen
     | cons q0 qs'=>exact⟨q0,qs',rfl⟩
    have V7:∀(L:List TRs) (L':List ResultVar),tf.res=L->fn.results.toList=L'->∀k (h:k < L.length) (h':k < L'.length),sb P L[k] L'[k]:=by
     rintro _ _ rfl rfl k h h';have:=YL k h (by simpa using h');simpa using this
    have Qw:q0=.tmp t:=V7 _ _ UO TR 0 (by simp) (by simp)
    have Uo:rs.length=qs'.length:=by
     have h7:fn.results.toList.length=rs.length+1:=by rw[Array.length_toList,<- Wz,UO];rfl
     rw[TR] at h7;simpa using h7.symm
    obtain⟨rfl,ZU,hrun⟩:=w8 (qs':=qs') ZO Uo (λk h h'=>V7 _ _ UO TR (k+1) (by simpa using h) (by simpa using h')) h5
    have XN:(fn.results.toList.mapM λ(q:ResultVar)=>(match q with | .tmp t=>(pure (a'.tmps.getD t undef):Sem Value) | .cell a t=>do loadVar t (<- asAddr (a'.tmps.getD a undef)))).run P w'=.ok (a'.tmps.getD t undef :: fl.map unV) w':=by
     rw[TR,Qw,List.mapM_cons,Sem.run_bind];show Result.andThen (.ok (a'.tmps.getD t undef) w') _=_;simp only[Result.andThen_ok,Sem.run_bind];refine (congrArg (λr=>Result.andThen r _) hrun).trans ?_;simp
    generalize a'.tmps.getD t undef=z at Zq XN
    cases Zq with
    | ptr V0 h0 hv hok=>
     have hp:=hok e2;refine⟨hd,nQ z (fl.map unV),?_,nQ z (fl.map unV),σ3,rfl,.inr ⟨p,vs,fl,z,a'.tmps,G',rfl,⟨_,rfl⟩,ZU,rfl,ZO,hp⟩,rfl⟩;unfold results;rw[Array.mapM_eq_mapM_toList];simp only[Sem.run_bind,Sem.run_map]
     erw[XN]
     cases fl with
     | nil=>rfl
     | cons y l=>rfl
   ·exact UY y (by rw[UO];exact hr) he
  ·exact UY y hr he
 cases e with
 | exit i=>simp at h2
 | normal=>
  simp only at h2;obtain⟨y,h3,h4⟩:=aZ h2;exact ZY y h3 h4
 | ret=>
  simp only at h2;obtain⟨y,h3,h4⟩:=aZ h2;exact ZY y h3 h4
theorem xY(hT:xM P T) (hE:xR P E) (hB:d7 P B) (hF:d7 P F) (n:Nat):d7 P (qP E T B F n):=by
 intro f vals pts res Zt h;unfold qP at h
 cases ht:T f with
 | none=>rw[ht] at h;exact hB f vals pts res Zt h
 | some tf=>
  rw[ht] at h;simp only[runT] at h;split at h
  case isFalse=>simp at h
  rename_i hnp;obtain⟨hnp,UD⟩:=hnp;simp only[oBA] at UD;obtain⟨Tb,RJ⟩:=UD;obtain⟨⟨e,σ1⟩,h1,h2⟩:=aZ h;obtain⟨fn,c,hf,V1,hb,Qr,YQ,Yb,Wz,YL⟩:=hT f tf ht;refine⟨iz hf V1 hb,tf.nt,by omega,λM asq w G hal hN RW YS hI=>?_⟩;refine calls_of_wp hf hb ?_
  have PQ:fn.ntmps - asq.toArray.size=tf.nt - asq.length:=by rw[Qr];simp
  rw[PQ]
  have UE:∀r,M.pr r≠none->∃i∈tf.pp,r=2*i+2:=λr hr=>by obtain⟨i,p,vs,h3,h4⟩:=YS r hr;exact⟨i,by simpa using ww Tb i p vs h3,h4⟩
  rcases Yb with Yb | ⟨c1,c2,c3,c4,c5,⟨sz,b,bytes,mv,fl,id,c6⟩,rest,Y7,Yb⟩
  ·exact sA (sB hE hF) n tf.body c _ e σ1 ⟨asq.toArray++Array.replicate (tf.nt - asq.length) undef,[]⟩ w G _ (Yb M hN UE) h1 hI λa' w' G' ZO hd=>r7 Wz YL ZO hd h2
  ·
   obtain⟨v0,rfl⟩:∃v,vals=[v]:=List.length_eq_one_iff.1 (by rw[hnp,c1]);obtain⟨x0,rfl⟩:∃x,asq=[x]:=List.length_eq_one_iff.1 (by rw[hal];rfl)
   have RH:pts=[]:=by rw[c2] at RJ;simpa using RJ
   subst RH
   obtain⟨l0,rfl⟩:∃l,v0=.sl l:=by
    rw[c2] at Tb;cases v0<;>simp[fS] at Tb;exact⟨_,rfl⟩
   have hv:=hI.tmr 0;have e0:(mkSt [TV.sl l0] ([]:Pts)).t 0=.sl l0:=rfl
   have e1:(#[x0]++Array.replicate (tf.nt - 1) undef).getD 0 undef=x0:=by simp[Array.getD_eq_getD_getElem?,Array.getElem?_append]
   have hv:TmR w (G.F M.A) (mkSt [TV.sl l0] ([]:Pts)).v (bl M (mkSt [TV.sl l0] ([]:Pts)) []) G (.sl l0) x0:=by
    have:=hI.tmr 0;rw[e0] at this;rw[show ([x0]:List Value).toArray=#[x0] from rfl,show ([x0]:List Value).length=1 from rfl,e1] at this;exact this
   cases hv with
   | sl hs=>
    cases hs with
    | @sl _ ad cap zz u hsz hcap hmax Ut hcell hrec=>
     have hdead:∀(H:List TV) (xs:List Value) (ts:Array Value) (d:Nat) (v:Value),0 < d->Inv M (mkSt [TV.sl l0] []) H xs ts w G->Inv M (mkSt [TV.sl l0] []) H xs (ts.setIfInBounds d v) w G:=by
      intro H xs ts d v hd hI;refine⟨hI.core,λi=>?_,hI.fram,hI.keys,by rw[Array.size_setIfInBounds];exact hI.size,hI.hand,hI.hval,hI.shape⟩;by_cases hi:i=d
      ·subst hi
       have:(mkSt [TV.sl l0] ([]:Pts)).t i=.dead:=by
        simp[St.t,mkSt,cJ,bk,show ¬ 0=i by omega]
       rw[this];exact .dead
      ·have:(ts.setIfInBounds d v).getD i undef=ts.getD i undef:=by simp[Array.getD_eq_getD_getElem?,Array.getElem?_setIfInBounds,Ne.symm hi]
       rw[this];exact hI.tmr i
     refine zt Y7 (ad:=ad) (n:=l0.length) (cap:=cap) (by simp[Array.getD_eq_getD_getElem?,Array.getElem?_append]) (by simp[c3]) (λZj=>?_) (λ_=>?_)
     ·have Xo:=hdead _ _ _ 4 (.bool true) (by decide) (hdead _ _ _ 3 (.slice ad l0.length cap) (by decide) (hdead _ _ _ 2 (.slice none 0 0) (by decide) hI));subst Zj;have VV:=Ut rfl;have WY:l0=[]:=oEN (by omega);subst WY;have VT:=Xo.wrT (d:=2) (by omega) (t:=.ow []) (x:=.slice none 0 0) .nil;have hrun:=rY c5;rw[c6,<- uK (evCall E F) n,<- c6] at hrun;unfold qv at hrun;rw[h1] at hrun;simp only[oBS] at hrun h2
      have UJ:res=⟨[.ow []],[.one]⟩/\Zt=[]:=by
       cases e with
       | exit i=>simp at hrun
       | normal=>
        simp only[c1,c4] at h2;simp only at hrun;obtain⟨y,hy,Vk⟩:=de hrun;rw[hy] at h2;simp only[oBS,oSJ,oPJ] at h2;rw[Vk] at h2;exact⟨h2.1.symm,by simpa using h2.2.symm⟩
       | ret=>
        simp only[c1,c4] at h2;simp only at hrun;obtain⟨y,hy,Vk⟩:=de hrun;rw[hy] at h2;simp only[oBS,oSJ,oPJ] at h2;rw[Vk] at h2;exact⟨h2.1.symm,by simpa using h2.2.symm⟩
      obtain⟨rfl,rfl⟩:=UJ
      have h5:Cu tf [] (.ret,{ mkSt [TV.sl []] ([]:Pts) with tm:=ct (mkSt [TV.sl []] ([]:Pts)).tm 2 (.ow []) })=some (⟨[.ow []],[.one]⟩,[]):=by
       unfold Cu;simp only[c1,c4];rfl
      obtain⟨T,hT⟩:∃T:Array Value,T=(mS ([Value.slice none ([]:List (List TV)).length cap].toArray++Array.replicate (tf.nt - [Value.slice none ([]:List (List TV)).length cap].length) undef) (.slice none ([]:List (List TV)).length cap) true).setIfInBounds 2 (.slice none 0 0):=⟨_,rfl⟩;have Xg:=VT;unfold mS at hT;rw[<- hT] at Xg;have h7:=r7 (tf:=tf) (fn:=fn) (P:=P) (pts:=[]) (e:=.ret) (a':=⟨T,[]⟩) (w':=w) (G':=G) Wz YL Xg rfl h5;rw[hT] at h7;exact h7
     ·have ZQ:=hdead _ _ _ 4 (.bool false) (by decide) (hdead _ _ _ 3 (.slice ad l0.length cap) (by decide) (hdead _ _ _ 2 (.slice none 0 0) (by decide) hI));exact sA (sB hE hF) n tf.body rest _ e σ1 ⟨mS _ (.slice ad l0.length cap) false,[]⟩ w G _ (Yb M hN UE) h1 ZQ λa' w' G' ZO hd=>r7 Wz YL ZO hd h2
theorem runF_ok(hT:xM P T) (hE:xR P E) (hB:d7 P B):∀n,d7 P (runF E T B n):=by
 intro n
 induction n with
 | zero=>intro f vals pts res Zt h;simp[runF] at h
 | succ n ih=>exact xY hT hE hB ih n
end
end Go.Proofs.Yteonljfnncdijaa
