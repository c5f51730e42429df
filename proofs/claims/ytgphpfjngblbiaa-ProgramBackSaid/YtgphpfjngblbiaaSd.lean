/- Part of the proof; no condition. -/
import Derived.Test.YtgphpfjngblbiaaSc
import Derived.Test.YtgphpfjngblbiaaProg
import Derived.KernelRfl
import Derived.WalkKit
import Derived.WalkSpells
import Derived.Handy
import Derived.OpenShut
import Derived.Deep.Slices
set_option linter.unusedVariables false
set_option linter.unusedSimpArgs false
namespace Go.Proofs.Ytgphpfjngblbiaa
open Go.RowKit
section
variable {α β γ δ Y:Type}
theorem pm(np:Nat) (t:XV den):Sim (Y:=Y) (X.takeR1 bI np t) (takeR1 np (er t)) er:=by
 have key:Sim (Y:=Y) (X.take1 bI true t) (take1 true (er t)) er:=dO true t
 cases t with
 | pk p vs=>exact dO _ (.pk p vs)
 | d t y=>cases t with
  | row o t=>cases o<;>exact key
  | nilr o=>cases o<;>exact key
  | _=>exact key
 | _=>exact key
theorem vl(np:Nat):∀l:List (XV den),Sim (Y:=Y) (X.takeRL bI np l) (takeRL np (erL l)) erL:=by
 intro l
 induction l with
 | nil=>exact .ret rfl
 | cons t l ih=>exact (pm np t).bind λt'=>ih.bind λr'=>.ret rfl
theorem lT(np:Nat) (t:XV den):Sim (Y:=Y) (X.takeRV bI np t) (takeRV np (er t)) λx=>(erL x.1,x.2):=by
 have one:∀t:XV den,Sim (Y:=Y) (X.bind (X.takeR1 bI np t) λt'=>X.ret ([t'],RSh.one)) ((takeR1 np (er t)).bind λt'=>.ret ([t'],.one)) λx=>(erL x.1,x.2):=λt=>(pm np t).bind λt'=>.ret rfl;have key:=one t
 cases t with
 | agg l=>exact (vl np l).bind λl'=>.ret (by simp only[dh])
 | d t y=>cases t with
  | row o t=>cases o<;>exact key
  | nilr o=>cases o<;>exact key
  | _=>exact key
 | _=>exact key
theorem zB(np:Nat) (q:TRs):Sim (Y:=Y) (X.res1 bI np q) (res1 np q) λx=>(erL x.1,x.2):=by
 cases q with
 | tmp t=>exact Sim.rdT λtv=>lT np tv
 | cell t n=>
  refine Sim.rdT λtv=>?_
  cases tv with
  | ptr p vs=>
   refine (dm p _ vs).bind λ_=>?_
   cases n with
   | none=>exact (fE p).bind λt=>(fD p t).bind λt'=>lT np t'
   | some n=>exact (rq p n).bind λl=>lT np (.agg l)
  | d t y=>cases t with
   | row o t=>cases o<;>exact .fail
   | nilr o=>cases o<;>exact .fail
   | _=>exact .fail
  | _=>exact .fail
theorem zy(np:Nat):∀l:List TRs,Sim (Y:=Y) (X.resL bI np l) (resL np l) λx=>(erL x.1,x.2):=by
 intro l
 induction l with
 | nil=>exact .ret rfl
 | cons q l ih=>exact (zB np q).bind λx=>ih.bind λy=>.ret (by simp only[j6])
theorem xW(l:List (XV den)):onesOf (erL l)=X.onesOf l:=by
 induction l with
 | nil=>rfl
 | cons t l ih=>simp only[erL,onesOf,X.onesOf,ih]
theorem vo:∀l:List TRs,Sim (Y:=Y) (X.flatsR bI l) (flatsR l) erL:=by
 intro l
 induction l with
 | nil=>exact .ret rfl
 | cons q l ih=>cases q with
  | cell t n=>exact .fail
  | tmp t=>
   refine Sim.rdT λtv=>Sim.ite (λhc=>?_) λ_=>.fail
   have h1:sQ (er tv)=true:=by
    have:=uS (l:=[tv]) (by simpa using hc);simpa [erL] using this
   rw[oIP h1];exact ih.bind λl=>.ret rfl
theorem zA(np:Nat) (l:List TRs):Sim (Y:=Y) (X.resF bI np l) (resF np l) λx=>(erL x.1,x.2):=by
 have base:=zy (Y:=Y) np l
 cases l with
 | nil=>exact base
 | cons q r=>cases q with
  | cell t n=>exact base
  | tmp t=>
   refine Sim.rdT λtv=>?_;have base:Sim (Y:=Y) (X.resL bI np (.tmp t :: r)) (resL np (.tmp t :: r)) λx=>(erL x.1,x.2):=base
   cases tv with
   | ptr p vs=>exact (dm p _ vs).bind λ_=>(vo r).bind λl=>.ret (by simp only[xW];rfl)
   | d ty y=>cases ty with
    | row o ty=>cases o<;>exact base
    | nilr o=>cases o<;>exact base
    | _=>exact base
   | _=>exact base
theorem yk(t:XV den):(∃p vs,t=.ptr p vs)\/(X.isPtrX t=false/\∀p vs,er t≠.ptr p vs):=by
 cases t with
 | ptr p vs=>exact .inl ⟨p,vs,rfl⟩
 | d t y=>cases t with
  | row o t=>cases o<;>exact .inr ⟨rfl,by simp[er,er1]⟩
  | nilr o=>cases o<;>exact .inr ⟨rfl,by simp[er,er1]⟩
  | _=>exact .inr ⟨rfl,by simp[er,er1]⟩
 | gap t x i o=>exact .inr ⟨rfl,λp vs h=>by cases h⟩
 | _=>exact .inr ⟨rfl,by simp[er]⟩
theorem Ad{t:XV den}(h:X.isShX t=true):∃c,er t=.sl c:=by
 cases t with
 | d t y=>cases t with
  | row o t=>cases o with
   | false=>exact⟨_,rfl⟩
   | true=>cases h
  | nilr o=>cases o with
   | false=>exact⟨_,rfl⟩
   | true=>cases h
  | _=>cases h
 | _=>cases h
theorem vI{pp:List Nat}:∀{l:List (XV den)}{i:Nat},X.ptrsInX pp i l=true->iw pp i (erL l)=true:=by
 intro l
 induction l with
 | nil=>intro i _;rfl
 | cons t l ih=>
  intro i h;simp only[X.ptrsInX,oBA] at h;obtain⟨⟨h0,hs⟩,hr⟩:=h;rcases yk t with ⟨p,vs,rfl⟩ | ⟨h1,h2⟩
  ·show (pp.contains i && iw pp (i+1) (erL l))=true;rw[ih hr,Bool.and_true];simpa [X.isPtrX] using h0
  ·show iw pp i (er t :: erL l)=true;rw[h1,Bool.false_or] at hs
   cases hsh:X.isShX t with
   | true=>
    obtain⟨c,hc⟩:=Ad hsh;rw[hc];exact ih hr
   | false=>
    rw[hsh,Bool.false_or] at hs
    cases he:er t with
    | ptr p vs=>exact absurd he (h2 p vs)
    | sl c=>exact ih hr
    | _=>show (!pp.contains (1000+i) && iw pp (i+1) (erL l))=true;rw[hs,ih hr];rfl
theorem tk(l:List (XV den)):∀i,(dD i l).map (λx=>(x.1,er x.2))=dD i (erL l):=by
 induction l with
 | nil=>intro i;rfl
 | cons t l ih=>intro i;simp only[dD,List.map_cons,erL,ih]
theorem BZ(vals:List (XV den)) (pts:List (Nat×List (XV den))):erS (X.mkSt vals pts)=mkSt (erL vals) (erC pts):=by
 unfold X.mkSt mkSt erS;simp only[tk]
theorem zW(σ:XS den) (pts:List (Nat×List (XV den))):erC (X.ptsOf σ pts)=(erC pts).map λx=>(x.1,(ca (erS σ).ce x.1).getD []):=by
 induction pts with
 | nil=>rfl
 | cons x pts ih=>
  show (x.1,erL ((ca σ.ce x.1).getD [])) :: erC (X.ptsOf σ pts)=(x.1,(ca (erS σ).ce x.1).getD []) :: _;rw[ih,pC];cases ca σ.ce x.1<;>rfl
theorem BJ{F:cS}{C:X.Cfg}(hTB:∀c∈C.TB,mn F c) (u:HL den []) {N:Nat}(hN:NN<=N) {tf:TFn}{outs:List XO}{vals:List (XV den)}{pts:List (Nat×List (XV den))}{o:pM (outs.map lvO)}(h:X.runT bI C u tf outs vals pts=some o) :
 ∃x,gq (outs.map lvO) o (λi ho=>gD outs i ho)=some x/\runT C.E F N tf (erL vals) (erC pts)=some (⟨erL x.1,x.2.1⟩,erC x.2.2):=by
 unfold X.runT at h;split at h
 case isFalse=>cases h
 rename_i hc;obtain⟨e,σ1,r1,h1⟩:=zx hTB u hN tf.body 0 _ _ o h
 have key:X.resF bI tf.np tf.res σ1 (λy σ'=>X.onOut bI (X.injO bI y.1 y.2 (X.ptsOf σ' pts) u outs) λx=>bI.out (outs.map lvO) x.1 x.2)=some o ->
  ∃x,gq (outs.map lvO) o (λi ho=>gD outs i ho)=some x/\(((resF tf.np tf.res).run (erS σ1)).bind λy=>some ((⟨y.1.1,y.1.2⟩:wE),(erC pts).map λx=>(x.1,(ca y.2.ce x.1).getD [])))=some (⟨erL x.1,x.2.1⟩,erC x.2.2):=by
  intro h2;obtain⟨y,σ2,r2,_,h3⟩:=zA tf.np tf.res σ1 _ o h2
  cases hi:X.injO bI y.1 y.2 (X.ptsOf σ2 pts) u outs with
  | none=>rw[hi] at h3;cases h3
  | some z=>
   rw[hi] at h3;obtain⟨i,ho⟩:=z;obtain⟨x,hf,e1,e2,e3⟩:=Ca hi;refine⟨x,?_,?_⟩
   ·rw[pE _ (show mb (outs.map lvO) i ho=some o from h3)];exact hf
   ·rw[r2];simp only[oBS];rw[e1,e2,e3,zW]
 have hcond:(erL vals).length=tf.np/\(iw tf.pp 0 (erL vals) && (!tf.pp.contains 1000 || (erC pts).isEmpty))=true:=by
  have h2:=hc.2;rw[oBA] at h2;refine⟨by rw[dh];exact hc.1,?_⟩;rw[vI h2.1,Bool.true_and];have h3:=h2.2
  cases pts with
  | nil=>simp[erC]
  | cons x pts=>simpa [erC] using h3
 unfold runT;rw[oIP hcond,<- BZ,r1];simp only[oBS]
 cases e with
 | exit j=>cases h1
 | normal=>exact key h1
 | ret=>exact key h1
end
theorem Au{E:Env}{T:FuncId->Option TFn}{B F:cS}{N:Nat}(hN:NN<=N) {C:X.Cfg}(hE:C.E=E) (hTB:∀c∈C.TB,mn F c) {c:Ctr}{tf:TFn}(hT:T c.f=some tf)
 (hg:∀h,X.runT bI C () tf c.outs (eM c.ins _ h).1 (lr c.pts [] (eM c.ins _ h).2).1=c.g h):mn (vj E T B F N) c:=by
 intro h o x ho hx;rw[vi hT];rw[<- hg h] at ho;obtain⟨x',h1,h2⟩:=BJ hTB () hN ho;rw[hx] at h1
 injection h1 with h1
 rw[<- h1,hE] at h2;exact h2
def Lvl(E:Env) (T:FuncId->Option TFn) (B:cS) (n:Nat) (c:Ctr):Prop:=∀k,n<=k->mn (runF E T B (NN+k)) c
def vc(E:Env) (T:FuncId->Option TFn) (B:cS) (n:Nat):List Ctr->Prop
 | []=>True
 | c :: r=>Lvl E T B n c/\vc E T B n r
theorem Lvl.mono{E:Env}{T:FuncId->Option TFn}{B:cS}{n m:Nat}{c:Ctr}(h:Lvl E T B n c) (hm:n<=m):Lvl E T B m c:=λk hk=>h k (Nat.le_trans hm hk)
theorem vc.get{E:Env}{T:FuncId->Option TFn}{B:cS}{n:Nat}:∀{l:List Ctr},vc E T B n l->∀c∈l,Lvl E T B n c:=by
 intro l
 induction l with
 | nil=>intro _ c hc;simp at hc
 | cons x l ih=>
  intro h c hc;rcases List.mem_cons.1 hc with rfl | hc
  ·exact h.1
  ·exact ih h.2 c hc
theorem Ds{E:Env}{T:FuncId->Option TFn}{B:cS}{n:Nat}{C:X.Cfg}(hE:C.E=E) (hTB:vc E T B n C.TB) {c:Ctr}{tf:TFn}(hT:T c.f=some tf)
 (hg:∀h,X.runT bI C () tf c.outs (eM c.ins _ h).1 (lr c.pts [] (eM c.ins _ h).2).1=c.g h):Lvl E T B (n+1) c:=by
 intro k hk;obtain⟨k,rfl⟩:∃k',k=k'+1:=⟨k - 1,by omega⟩;exact Au (F:=runF E T B (NN+k)) (N:=NN+k) (Nat.le_add_right _ _) hE (λc hc=>hTB.get c hc k (by omega)) hT hg
theorem wq{P:Program}{H:Nat->List (Nat×Option Nat)}{f:FuncId}{tf:TFn}(h:mh P H f=some tf):∃fn,P.funcs[f]?=some fn/\tf.np=fn.params.size/\tf.nt=fn.ntmps:=by
 unfold mh at h;split at h
 case h_2=>simp at h
 rename_i fn hf;split at h
 case h_2=>simp at h
 split at h
 ·rename_i tf' hcl
  injection h with h
  subst h;obtain⟨_,g2,g3,_⟩:=mF hcl;exact⟨fn,hf,g3,g2⟩
 simp only at h;split at h
 ·injection h with h
  subst h;exact⟨fn,hf,rfl,rfl⟩
 ·simp at h
theorem Bf{P:Program}(H:FuncId->Nat->List (Nat×Option Nat)) (hall:(P.funcs.all λfn=>decide (fn.params.size<=fn.ntmps) && !(fn.name=="runtime.NumGoroutine"))=true):y8 P λf=>mh P (H f) f:=by
 refine zm λf tf h=>?_;obtain⟨fn,hf,e1,e2⟩:=wq h;obtain⟨hlt,he⟩:=Array.getElem?_eq_some_iff.1 hf;have:=Array.all_eq_true.1 hall f hlt;rw[he] at this;simp only[oBA,oDE,Bool.not_eq_true'] at this;refine⟨⟨H f,h⟩,by rw[e1,e2];exact this.1,λfn' hf'=>?_⟩;rw[hf] at hf'
 injection hf' with hf'
 subst hf';exact this.2
def DY:TFn:=⟨0,[],0,.skip,[]⟩
theorem DA{o:Option TFn}(h:o.isSome=true):o=some (o.getD DY):=by
 cases o with
 | none=>simp at h
 | some x=>rfl
def DV(P:Program) (f:FuncId):List (Option Nat):=match P.funcs[f]? with
 | some fn=>fn.params.toList.map λt=>match P.underlying t with | some (.pointer e)=>ph P e | _=>none
 | none=>[]
def noB:cS:=λ_ _ _=>none
theorem noB_ok{P:Program}:ga P noB:=λf vals pts res pts' h=>by simp[noB] at h
abbrev I64:CT:=.int .i64
def w64(x:Int):Int:=IntKind.wrap .i64 x
def wk(k:IntKind) (x:Int):Int:=IntKind.wrap k x
def bytes(l:List Nat):ByteArray:=⟨(l.map UInt8.ofNat).toArray⟩
end Go.Proofs.Ytgphpfjngblbiaa
namespace Go.Proofs.Ytgphpfjngblbiaa
open Go.RowKit
set_option maxRecDepth 100000
noncomputable section
abbrev KCe:CT:=(.pair (.int .u8) (.int .u16))
abbrev KCn:CT:=(.pair (.int .u8) (.pair (.int .u16) (.pair I64 I64)))
abbrev KIn:CT:=(.pair I64 (.pair I64 (.pair I64 (.pair I64 I64))))
abbrev Ec:CT:=(.pair I64 (.pair .bool (.row false KCe)))
abbrev Eb:CT:=(.pair I64 (.pair (.row false KCe) (.pair I64 (.pair I64 (.pair I64 (.pair I64 (.pair I64 (.int .u16))))))))
abbrev rb:CT:=(.pair I64 (.pair I64 (.pair I64 (.pair I64 (.pair I64 (.pair I64 (.pair (.int .u16) (.row false KCn))))))))
abbrev DU:CT:=(.pair I64 (.pair .bool (.row true KCe)))
abbrev DO:CT:=(.pair I64 (.pair (.row true KCe) (.pair I64 (.pair I64 (.pair I64 (.pair I64 (.pair I64 (.int .u16))))))))
abbrev CC:CT:=(.pair I64 (.pair I64 (.pair I64 (.pair I64 (.pair I64 (.pair I64 (.pair (.int .u16) (.row true KCn))))))))
abbrev eJ:CT:=(.row false KIn)
abbrev kS:CT:=(.row false KCn)
abbrev RW:CT:=(.row false (.int .u16))
abbrev RI:CT:=(.row false I64)
abbrev ke:CT:=(.row false KCe)
abbrev m7:CT:=(.row false Ec)
abbrev CA:CT:=(.row true DU)
abbrev sR:CT:=(.row false Eb)
abbrev Dx:CT:=(.row true DO)
abbrev DCe:Type:=(Int×Int)
abbrev DCn:Type:=(Int×Int×Int×Int)
abbrev DIn:Type:=(Int×Int×Int×Int×Int)
abbrev DLn:Type:=(Int×Bool×List DCe)
abbrev DTh:Type:=(Int×(List DCe)×Int×Int×Int×Int×Int×Int)
abbrev DTs:Type:=(Int×Int×Int×Int×Int×Int×Int×List DCn)
def HH(f i:Nat):List (Nat×Option Nat):=if f=40 then (if i=0 then [(8,none)] else []) else if f=12 then (if i=2 then [(3,some 1)] else if i=3 then [(3,some 0)] else []) else if f=17 then (if i=0 then [(4,some 0),(4,some 2),(4,some 3)] else []) else if f=68 then (if i=0 then [(4,none)] else []) else if f=18 then (if i=0 then [(4,some 0),(4,some 2),(4,some 3)] else []) else []
def TT (f:FuncId):Option TFn:=mh Try.prog (HH f) f
def E0:Env:=⟨λf=>if f=11 then some (1,[.arg 0,.val (.int .i64 0)]) else none,λf=>DV Try.prog f⟩
theorem tt_ok:y8 Try.prog TT:=Bf HH (by kernel_rfl)
abbrev qE:Shs:=⟨[],[],[],([],[])⟩
abbrev qS(s:List (Nat×Sh))(c:List (Nat×List Sh)):Shs:=⟨s,c,[],([],[])⟩
abbrev N1:CT:=.nilr true
abbrev N0:CT:=.nilr false
abbrev CW:CT:=.int .u16
abbrev CB:CT:=.int .u8
abbrev uL(l:List CT):List Sh:=l.map fun c=>.d c ()
abbrev pP(t r:Nat):Nat×Sh:=(t,.ptr ⟨r,0,[]⟩ [0])
abbrev sP(t:Nat)(c:CT):Nat×Sh:=(t,.d c ())
abbrev Lk(n:Nat)(c:Ctr):Prop:=Lvl E0 TT noB n c
theorem aN{m:Nat}:vc E0 TT noB m []:=trivial
theorem aC{n m:Nat}{c:Ctr}{l:List Ctr}(h:Lk n c)(r:vc E0 TT noB m l)(hm:n≤m:=by decide):vc E0 TT noB m (c::l):=⟨h.mono hm,r⟩
abbrev lx(i n:Nat)(s:List (Nat×Sh))(c:List (Nat×List Sh))(b:Nat):sM:=⟨i,n,⟨s,c,[],([],[])⟩,[(.exit 0,⟨s++[(b,.d .bool ())],c,[],([],[])⟩)]⟩
abbrev LI:Type:=List Int
abbrev LLI:Type:=List (List Int)
abbrev LDCe:Type:=List DCe
abbrev LDCn:Type:=List DCn
abbrev LDIn:Type:=List DIn
abbrev LDLn:Type:=List DLn
abbrev LDTh:Type:=List DTh
abbrev LDTs:Type:=List DTs
abbrev LLCn:Type:=List (List DCn)
abbrev T00:Type:=Bool×LI×Unit
abbrev T01:Type:=Int×Int×Unit
abbrev T02:Type:=Int×LI×Unit
abbrev T03:Type:=Int×LLCn×Unit
abbrev T04:Type:=LDCe×LDLn×Unit
abbrev T05:Type:=LI×Bool×Unit
abbrev T06:Type:=LI×Int×Unit
abbrev T07:Type:=LI×LLI×Unit
abbrev T08:Type:=LLCn×LDTs×Unit
abbrev T09:Type:=Int×Int×Bool×Unit
abbrev T0a:Type:=Int×T01
abbrev T0b:Type:=Int×Int×LDLn×Unit
abbrev T0c:Type:=Int×T02
abbrev T0d:Type:=Int×T03
abbrev T0e:Type:=Int×T06
abbrev T0f:Type:=LDIn×T07
abbrev T0g:Type:=LI×T01
abbrev T0h:Type:=LI×T02
abbrev T0i:Type:=Bool×Bool×Bool×Bool×Unit
abbrev T0j:Type:=Int×Bool×T06
abbrev T0k:Type:=Int×Int×Bool×LLCn×Unit
abbrev T0l:Type:=Int×T0a
abbrev T0m:Type:=Int×T0e
abbrev T0n:Type:=Int×T0h
abbrev T0o:Type:=LDIn×LI×LLI×LI×Unit
abbrev T0p:Type:=LDTh×T0c
abbrev T0q:Type:=LI×T0a
abbrev T0r:Type:=LI×T0g
abbrev T0s:Type:=LI×LLI×T05
abbrev T0t:Type:=LLCn×LDTs×T08
abbrev T0u:Type:=Unit×T0e
abbrev T0v:Type:=Int×T0j
abbrev T0w:Type:=Int×T0l
abbrev T0x:Type:=Int×Int×T0f
abbrev T0y:Type:=LDCe×LDLn×LI×T03
abbrev T0z:Type:=LI×T0m
abbrev T0A:Type:=LI×Int×LDCe×LDLn×LDTh×Unit
abbrev T0B:Type:=Int×Int×Bool×T0f
abbrev T0C:Type:=Int×T0w
abbrev T0D:Type:=Int×Int×T0m
abbrev T0E:Type:=Int×Int×T0o
abbrev T0F:Type:=Int×Int×T0t
abbrev T0G:Type:=LDCe×LDLn×LI×Int×LLCn×LDCn×Unit
abbrev T0H:Type:=LDIn×T0x
abbrev T0I:Type:=LDIn×LI×LLI×T0f
abbrev T0J:Type:=LI×T0v
abbrev T0K:Type:=LI×T0z
abbrev T0L:Type:=LLI×T0x
abbrev T0M:Type:=Bool×T0I
abbrev T0N:Type:=Int×Int×Bool×T0o
abbrev T0O:Type:=Int×Int×Bool×T0t
abbrev T0P:Type:=Int×Int×LDCn×T0k
abbrev T0Q:Type:=Int×T0H
abbrev T0R:Type:=LDIn×T0B
abbrev T0S:Type:=LDIn×T0E
abbrev T0T:Type:=LDTs×T0F
abbrev T0U:Type:=LLI×T0B
abbrev T0V:Type:=Int×Int×T0I
abbrev T0W:Type:=Int×LDCe×T0C
abbrev T0X:Type:=Int×T0R
abbrev T0Y:Type:=LDTh×Int×Int×T0A
abbrev T0Z:Type:=LDTs×T0O
abbrev T10:Type:=LI×Int×Unit×Unit×Unit×T0f
abbrev T11:Type:=LI×Int×Unit×Unit×Unit×Unit×T07
abbrev T12:Type:=Unit×Unit×Unit×LDIn×T0s
abbrev T13:Type:=Unit×Unit×Unit×Unit×T0s
abbrev T14:Type:=Int×Int×T0M
abbrev T15:Type:=Int×LI×Int×Int×Bool×T0q
abbrev T16:Type:=Int×T10
abbrev T17:Type:=Int×T13
abbrev T18:Type:=LDIn×LI×LLI×LI×Int×Unit×Unit×T04
abbrev T19:Type:=LI×Int×Int×T0J
abbrev T1a:Type:=LI×Int×LI×Int×Int×T0q
abbrev T1b:Type:=LI×LI×Int×Int×T0y
abbrev T1c:Type:=Bool×Int×T12
abbrev T1d:Type:=Int×Bool×T10
abbrev T1e:Type:=Int×Int×Int×Int×Int×Bool×Bool×Bool×T00
abbrev T1f:Type:=Int×T16
abbrev T1g:Type:=Int×Int×T11
abbrev T1h:Type:=LI×Int×Int×Int×Int×Int×T0u
abbrev T1i:Type:=LI×Int×Int×LI×T0D
abbrev T1j:Type:=Unit×Int×Unit×Unit×Unit×T0A
abbrev T1k:Type:=Int×Int×Int×T0V
abbrev T1l:Type:=Int×Int×T18
abbrev T1m:Type:=Int×T1j
abbrev T1n:Type:=LDCe×Int×Int×T0W
abbrev T1o:Type:=LI×Int×Int×LI×Int×Int×T0v
abbrev T1p:Type:=LI×Int×Int×LI×Int×Int×T0z
abbrev T1q:Type:=Int×Bool×T1j
abbrev T1r:Type:=Int×Int×Bool×T18
abbrev T1s:Type:=Int×Int×T1e
abbrev T1t:Type:=LDIn×LI×LLI×LI×Int×LDCe×LDLn×LDTh×Unit×Unit×T08
abbrev T1u:Type:=LI×Int×Int×T19
abbrev T1v:Type:=LLI×T1l
abbrev T1w:Type:=Int×Int×Bool×T1e
abbrev T1x:Type:=LI×Int×LI×Int×Int×Int×Int×T0G
abbrev T1y:Type:=LLI×T1r
abbrev T1z:Type:=LDTh×Int×Int×T1t
abbrev T1A:Type:=Int×LLI×Int×Int×LI×T1l
abbrev T1B:Type:=Int×Int×LI×Int×Int×Int×Int×Int×Int×Int×Int×Int×Int×Int×T0i
abbrev T1C:Type:=LDIn×LI×LLI×LI×Int×LDCe×LDLn×LDTh×Unit×Unit×LLCn×LDTs×Int×LDCe×Int×Int×Int×Int×Int×Int×Int×Int×Int×Int×Int×Int×Int×LDCn×Unit
abbrev T1D:Type:=LDTh×Int×Int×LDCe×Int×Int×T1C
abbrev ap1{A0 D R:Type}(f:A0→R)(h:A0×D):R:=f h.1
abbrev ap2{A0 A1 D R:Type}(f:A0→A1→R)(h:A0×A1×D):R:=f h.1 h.2.1
abbrev ap3{A0 A1 A2 D R:Type}(f:A0→A1→A2→R)(h:A0×A1×A2×D):R:=f h.1 h.2.1 h.2.2.1
abbrev ap4{A0 A1 A2 A3 D R:Type}(f:A0→A1→A2→A3→R)(h:A0×A1×A2×A3×D):R:=f h.1 h.2.1 h.2.2.1 h.2.2.2.1
abbrev ap5{A0 A1 A2 A3 A4 D R:Type}(f:A0→A1→A2→A3→A4→R)(h:A0×A1×A2×A3×A4×D):R:=f h.1 h.2.1 h.2.2.1 h.2.2.2.1 h.2.2.2.2.1
abbrev ap6{A0 A1 A2 A3 A4 A5 D R:Type}(f:A0→A1→A2→A3→A4→A5→R)(h:A0×A1×A2×A3×A4×A5×D):R:=f h.1 h.2.1 h.2.2.1 h.2.2.2.1 h.2.2.2.2.1 h.2.2.2.2.2.1
abbrev ap8{A0 A1 A2 A3 A4 A5 A6 A7 D R:Type}(f:A0→A1→A2→A3→A4→A5→A6→A7→R)(h:A0×A1×A2×A3×A4×A5×A6×A7×D):R:=f h.1 h.2.1 h.2.2.1 h.2.2.2.1 h.2.2.2.2.1 h.2.2.2.2.2.1 h.2.2.2.2.2.2.1 h.2.2.2.2.2.2.2.1
theorem ls{n:Nat}{C:X.Cfg}(hE:C.E=E0)(hT:vc E0 TT noB n C.TB){c:Ctr}(h1:(TT c.f).isSome=true)(hg:∀h,X.runT bI C () ((TT c.f).getD DY) c.outs (eM c.ins _ h).1 (lr c.pts [] (eM c.ins _ h).2).1=c.g h):Lk (n+1) c:=Ds (n:=n) (C:=C) hE hT (DA h1) hg
def fQ(a0:Int) (a1:Int):Option (Int×Unit):=
bif (a1 != 0) then let x0:Int:=(Int.tmod a0 a1);
(bif decide (x0 < 0) then (let x1:Int:=(w64 (x0+a1));
some (x1,())) else
some (x0,()):Option (Int×Unit)).bind λ(x1,_)=>
some (x1,()) else none
def tF:X.Cfg:=⟨E0,[],[],[⟨2,0,qE,[(.normal,(qS [(sP 5 I64)] []))]⟩]⟩
def ou:Ctr:=⟨55,0,(uL [I64,I64]),[],[⟨(uL [I64]),[.one],[]⟩],ap2 fQ⟩
theorem tA:Lk 1 ou:=ls (C:=tF) rfl aN (by kernel_rfl) λh=>by kernel_rfl
def jX(a0:Int) (a1:Int):Option (Int×Unit):=
(fQ a0 a1).bind λ(x0,_)=>
some (x0,())
def Aj:X.Cfg:=⟨E0,[ou],[],[]⟩
def q8:Ctr:=⟨21,1,(uL [I64,I64]),[],[⟨(uL [I64]),[.one],[]⟩],ap2 jX⟩
theorem uJ:Lk 2 q8:=ls (C:=Aj) rfl (aC tA aN) (by kernel_rfl) λh=>by kernel_rfl
def bK(a0:Int) (a1:List (Int)) (a2:Int):Option (T0e):=
let x0:=bN a1.length;
bif decide (a2>=x0) then (some (0,a1,a2,())) else
let x1:=w64 (a2+1);
let x2:=w64 (x1 - 1);
(cM x2).bind λx3=>
(bY a1 x3).bind λx4=>
(jX x4 a0).bind λ(x5,_)=>
some (x5,a1,x1,())
def tI:X.Cfg:=⟨E0,[q8],[],[]⟩
def eu:Ctr:=⟨36,2,[.ptr ⟨2,0,[]⟩ [0],shU I64],[(2,(uL [RI,I64]))],[⟨(uL [I64]),[.one],[(2,(uL [RI,I64]))]⟩],ap3 bK⟩
theorem eV:Lk 3 eu:=ls (C:=tI) rfl (aC uJ aN) (by kernel_rfl) λh=>by kernel_rfl
def jv:T0n->Option (T0n⊕(Int×Bool×T0h)):=λ(v0,v1,v2,v3,_)=>
bif decide (v0 > 0) then (let x0:List (Int):=[6,12,32];
(bK 3 v1 v2).bind λ(x1,x2,x3,_)=>
(cM x1).bind λx4=>
(bY x0 x4).bind λx5=>
(bY x0 x4).bind λx6=>
(bK x6 x2 x3).bind λ(x7,x8,x9,_)=>
let ac:=w64 (1+x7);
bif (cx 8 v3.length (List.length [ac])) then let ae:List (Int):=(List.append v3 [ac]);
let af:=w64 (v0 - 1);
some (.inl (af,x8,x9,ae,())) else none) else
some (.inr (v0,false,v1,v2,v3,()))
def is(a0:List (Int)) (a1:Int):Option (LI×T06):=
(bK 9 a0 a1).bind λ(x0,x1,x2,_)=>
let x3:=w64 (4+x0);
(bK 4 x1 x2).bind λ(x4,x5,x6,_)=>
(bR jv NN (x4,x5,x6,[x3],())).bind λ(x7,x8,x9,ac,ae,_)=>
some (ae,x9,ac,())
def sm:X.Cfg:=⟨E0,[eu],[],[(lx 4 0 [(pP 0 2),(3,.pk ⟨9,0,[]⟩ [0,0]),(sP 4 I64)] [(2,(uL [RI,I64])),(9,(uL [(.row true I64)]))] 12)]⟩
def mO:Ctr:=⟨38,3,[.ptr ⟨2,0,[]⟩ [0]],[(2,(uL [RI,I64]))],[⟨(uL [(.row true I64)]),[.one],[(2,(uL [RI,I64]))]⟩],ap2 is⟩
theorem rZ:Lk 4 mO:=ls (C:=sm) rfl (aC eV aN) (by kernel_rfl) λh=>by kernel_rfl
def eT(a0:List (Int)) (a1:Int):Option (T0e):=
(bK 5 a0 a1).bind λ(x0,x1)=>
(bif (x0==0) then (some (x0,true,x1)) else
bif (x0==1) then (some (x0,true,x1)) else
some (x0,(x0==2),x1):Option (T0j)).bind λ(x3,x4,x5,x6,_)=>
bif x4 then ((bK 8 x5 x6).bind λ(x7,x8,x9,_)=>
let ac:=wk .u16 x7;
some (ac,x8,x9,())) else
bif (x3==3) then ((bK 3 x5 x6).bind λ(x7,x8,x9,_)=>
let ac:=w64 (65535 - x7);
let ae:=wk .u16 ac;
some (ae,x8,x9,())) else
(bK 65536 x5 x6).bind λ(x7,x8,x9,_)=>
let ac:=wk .u16 x7;
some (ac,x8,x9,())
def tH:X.Cfg:=⟨E0,[eu],[],[⟨3,0,qE,[(.normal,(qS [(pP 0 2),(sP 4 I64),(sP 5 .bool)] [(2,(uL [RI,I64]))]))]⟩]⟩
def je:Ctr:=⟨74,4,[.ptr ⟨2,0,[]⟩ [0]],[(2,(uL [RI,I64]))],[⟨(uL [CW]),[.one],[(2,(uL [RI,I64]))]⟩],ap2 eT⟩
theorem kM:Lk 4 je:=ls (C:=tH) rfl (aC eV aN) (by kernel_rfl) λh=>by kernel_rfl
def ju:T0n->Option (T0n⊕(Int×Bool×T0h)):=λ(v0,v1,v2,v3,_)=>
bif decide (v0 > 0) then ((eT v1 v2).bind λ(x0,x1,x2,_)=>
bif (cx 2 v3.length (List.length [x0])) then let x3:List (Int):=(List.append v3 [x0]);
let x4:=w64 (v0 - 1);
some (.inl (x4,x1,x2,x3,())) else none) else
some (.inr (v0,false,v1,v2,v3,()))
def ir(a0:Int) (a1:List (Int)) (a2:Int):Option (LI×T06):=
let x0:=w64 (a0+1);
(bK x0 a1 a2).bind λ(x1,x2,x3,_)=>
(bR ju NN (x1,x2,x3,[],())).bind λ(x4,x5,x6,x7,x8,_)=>
some (x8,x6,x7,())
def sk:X.Cfg:=⟨E0,[eu,je],[],[(lx 4 0 [(pP 0 2),(5,.pk ⟨13,0,[]⟩ [0,0]),(sP 6 I64)] [(2,(uL [RI,I64])),(13,(uL [(.row true CW)]))] 12)]⟩
def mN:Ctr:=⟨39,5,[.ptr ⟨2,0,[]⟩ [0],shU I64],[(2,(uL [RI,I64]))],[⟨(uL [(.row true CW)]),[.one],[(2,(uL [RI,I64]))]⟩],ap3 ir⟩
theorem rY:Lk 5 mN:=ls (C:=sk) rfl (aC eV (aC kM aN)) (by kernel_rfl) λh=>by kernel_rfl
def en(a0:Int) (a1:Int):Option (T0w):=
some (1,a0,0,0,a1,())
def Cd:X.Cfg:=⟨E0,[],[],[]⟩
def tY:Ctr:=⟨41,6,(uL [I64,I64]),[],[⟨(uL [I64,I64,I64,I64,I64]),[.agg 5],[]⟩],ap2 en⟩
theorem yh:Lk 1 tY:=ls (C:=Cd) rfl aN (by kernel_rfl) λh=>by kernel_rfl
def dW(a0:Int):Option (T0w):=
some (23,0,0,0,a0,())
def Ah:X.Cfg:=⟨E0,[],[],[]⟩
def q7:Ctr:=⟨42,7,(uL [I64]),[],[⟨(uL [I64,I64,I64,I64,I64]),[.agg 5],[]⟩],ap1 dW⟩
theorem uI:Lk 1 q7:=ls (C:=Ah) rfl aN (by kernel_rfl) λh=>by kernel_rfl
def gx(a0:Int) (a1:Int):Option (T0w):=
some (2,a0,a1,0,0,())
def Ai:X.Cfg:=⟨E0,[],[],[]⟩
def u5:Ctr:=⟨77,8,(uL [I64,I64]),[],[⟨(uL [I64,I64,I64,I64,I64]),[.agg 5],[]⟩],ap2 gx⟩
theorem Ab:Lk 1 u5:=ls (C:=Ai) rfl aN (by kernel_rfl) λh=>by kernel_rfl
def ek(a0:Int):Option (T0i):=
(bif (a0==1) then (some (a0,true,false,false,false,false,())) else
bif (a0==15) then (some (a0,true,false,false,false,false,())) else
bif (a0==19) then (some (a0,true,false,false,false,false,())) else
bif (a0==20) then (some (a0,true,false,false,false,false,())) else
some (a0,(a0==21),false,false,false,false,()):Option (Int×Bool×T0i)).bind λ(x0,x1,_)=>
bif x1 then (some (true,false,false,true,())) else
bif (x0==2) then (some (true,true,false,false,())) else
bif (x0==16) then (some (true,true,false,true,())) else
bif (x0==17) then (some (true,true,false,true,())) else
bif (x0==18) then (some (false,false,false,true,())) else
bif (x0==23) then (some (false,false,false,true,())) else
bif (x0==22) then (some (true,false,false,false,())) else
bif (x0==0) then (some (false,false,false,false,())) else
bif (x0==24) then (some (false,false,false,false,())) else
some (true,true,true,false,())
def se:X.Cfg:=⟨E0,[],[],[⟨3,0,qE,[(.normal,(qS [(pP 2 6),(sP 3 I64),(sP 4 .bool)] [(6,(uL [.bool,.bool,.bool,.bool]))]))]⟩]⟩
def jL:Ctr:=⟨73,9,(uL [I64]),[],[⟨(uL [.bool,.bool,.bool,.bool]),[.agg 4],[]⟩],ap1 ek⟩
theorem mz:Lk 1 jL:=ls (C:=se) rfl aN (by kernel_rfl) λh=>by kernel_rfl
def dx(a0:Int):Option (Bool×Unit):=
bif (a0==18) then (some (true,())) else
bif (a0==19) then (some (true,())) else
bif (a0==20) then (some (true,())) else
some ((a0==21),())
def sf:X.Cfg:=⟨E0,[],[],[]⟩
def gg:Ctr:=⟨43,10,(uL [I64]),[],[⟨(uL [.bool]),[.one],[]⟩],ap1 dx⟩
theorem iy:Lk 1 gg:=ls (C:=sf) rfl aN (by kernel_rfl) λh=>by kernel_rfl
def it(a0:Int) (a1:Int) (a2:List (Int)) (a3:Int):Option (Int×T0D):=
(bK 25 a2 a3).bind λ(x0,x1,x2,_)=>
(ek x0).bind λ(x3,x4)=>
(bif x3 then ((bK 8 x1 x2).bind λ(x7,x8,x9,_)=>
some (a0,a1,x8,x9,0,0,0,0,0,x0,x7,0,0,0,x3,x4)) else
some (a0,a1,x1,x2,0,0,0,0,0,x0,0,0,0,0,x3,x4):Option (T1B)).bind λ(x7,x8,x9,ac,ae,af,ag,ah,ai,aj,ak,am,an,ap,aq,av,ax)=>
(bif av then ((bK 8 x9 ac).bind λ(az,aA,aB,_)=>
some (x7,x8,aA,aB,ae,af,ag,ah,ai,aj,ak,az,an,ap,aq,av,ax)) else
some (x7,x8,x9,ac,ae,af,ag,ah,ai,aj,ak,am,an,ap,aq,av,ax):Option (T1B)).bind λ(az,aA,aB,aD,aE,aF,aG,aH,aI,aJ,aK,aL,aM,aO,aP,aQ,aR,aS,_)=>
(bif aR then ((bK 8 aB aD).bind λ(aT,aU,aV,_)=>
some (az,aA,aU,aV,aE,aF,aG,aH,aI,aJ,aK,aL,aT,aO,aP,aQ,aR,aS,())) else
some (az,aA,aB,aD,aE,aF,aG,aH,aI,aJ,aK,aL,aM,aO,aP,aQ,aR,aS,()):Option (T1B)).bind λ(aT,aU,aV,aW,aY,aZ,ba,bc,bd,be,bf,bg,bh,bi,bj,bk,bm,bn,_)=>
((dx be).bind λ(bo,_)=>
bif bo then ((bK aU aV aW).bind λ(bp,bq,bt,_)=>
some (bq,bt,aY,aZ,ba,bc,bd,be,bf,bg,bh,bp,())) else
bif (be==15) then ((bK aT aV aW).bind λ(bp,bq,bt,_)=>
some (bq,bt,aY,aZ,ba,bc,bd,be,bf,bg,bh,bp,())) else
bif (be==23) then ((bK 16 aV aW).bind λ(bp,bq,bt,_)=>
some (bq,bt,aY,aZ,ba,bc,bd,be,bf,bg,bh,bp,())) else
bif bn then ((eT aV aW).bind λ(bp,bq,bt,_)=>
let bv:=wk .i64 bp;
some (bq,bt,aY,aZ,ba,bc,bd,be,bf,bg,bh,bv,())) else
some (aV,aW,aY,aZ,ba,bc,bd,be,bf,bg,bh,bi,()):Option (LI×Int×Int×Int×Int×Int×T0C)).bind λ(bo,bp,bq,bt,bv,bx,bA,bB,bC,bD,bE,bF,_)=>
some (bB,bC,bD,bE,bF,bo,bp,())
def sn:X.Cfg:=⟨E0,[eu,jL,gg,je],[],[⟨3,0,qE,[(.normal,(qS [(pP 0 2),(sP 1 I64),(sP 2 I64),(pP 6 14),(pP 7 16),(pP 8 18)] [(2,(uL [RI,I64])),(14,(uL [I64,I64,I64,I64,I64])),(16,(uL [I64,I64,I64,I64,I64])),(18,(uL [.bool,.bool,.bool,.bool]))]))]⟩,⟨5,1,qE,[(.normal,(qS [(pP 0 2),(sP 1 I64),(sP 2 I64),(pP 6 14),(pP 7 16),(pP 8 18)] [(2,(uL [RI,I64])),(14,(uL [I64,I64,I64,I64,I64])),(16,(uL [I64,I64,I64,I64,I64])),(18,(uL [.bool,.bool,.bool,.bool]))]))]⟩,⟨7,2,qE,[(.normal,(qS [(pP 0 2),(sP 1 I64),(sP 2 I64),(pP 6 14),(pP 7 16),(pP 8 18)] [(2,(uL [RI,I64])),(14,(uL [I64,I64,I64,I64,I64])),(16,(uL [I64,I64,I64,I64,I64])),(18,(uL [.bool,.bool,.bool,.bool]))]))]⟩,⟨9,3,qE,[(.normal,(qS [(pP 0 2),(pP 6 14),(pP 7 16)] [(2,(uL [RI,I64])),(14,(uL [I64,I64,I64,I64,I64])),(16,(uL [I64,I64,I64,I64,I64]))]))]⟩]⟩
def mP:Ctr:=⟨35,11,[.ptr ⟨2,0,[]⟩ [0],shU I64,shU I64],[(2,(uL [RI,I64]))],[⟨(uL [I64,I64,I64,I64,I64]),[.agg 5],[(2,(uL [RI,I64]))]⟩],ap4 it⟩
theorem r6:Lk 5 mP:=ls (C:=sn) rfl (aC eV (aC mz (aC iy (aC kM aN)))) (by kernel_rfl) λh=>by kernel_rfl
def i4(a0:List (Int)) (a1:Int) (a2:Int) (a3:List (Int)) (a4:Int):Option (LDIn×T06):=
let x0:=bN a0.length;
(bK x0 a3 a4).bind λ(x1,x2,x3,_)=>
(cM x1).bind λx4=>
(bY a0 x4).bind λx5=>
let x6:=w64 (x5+1);
let x7:=mmR false 5 x6;
(bK x7 x2 x3).bind λ(x8,x9,ac,_)=>
(en 2 x8).bind λ(ae,af,ag,ah,ai,_)=>
let aj:LDIn:=[(15,(1,(0,(0,x1)))),(ae,(af,(ag,(ah,ai))))];
(bK 20 x9 ac).bind λ(ak,am,an,_)=>
bif (ak==0) then ((bK 3 am an).bind λ(ap,aq,av,_)=>
let ax:=w64 (3+ap);
(eT aq av).bind λ(ay,az,aA,_)=>
let aB:=wk .i64 ay;
(en ax aB).bind λ(aD,aE,aF,aG,aH,_)=>
let aI:LDIn:=[(aD,(aE,(aF,(aG,aH))))];
some (aI,az,aA,())) else
bif (ak==1) then (let ap:List (Int):=[3,4,5,10,13,14,11,9];
(bK 8 am an).bind λ(aq,av,ax,_)=>
(cM aq).bind λay=>
(bY ap ay).bind λaz=>
(bY ap ay).bind λaA=>
(bK 3 av ax).bind λ(aB,aD,aE,_)=>
let aF:=w64 (3+aB);
(bK 3 aD aE).bind λ(aG,aH,aI,_)=>
let aJ:=w64 (3+aG);
(bK 3 aH aI).bind λ(aK,aL,aM,_)=>
let aO:=w64 (3+aK);
let aP:LDIn:=[(aA,(aF,(aJ,(aO,0))))];
some (aP,aL,aM,())) else
bif (ak==2) then (let ap:LDIn:=[(15,(6,(0,(0,x1))))];
some (ap,am,an,())) else
bif (ak==3) then ((bK 5 am an).bind λ(ap,aq,av,_)=>
let ax:=w64 (3+ap);
(cM x1).bind λay=>
(bY a0 ay).bind λaz=>
(bK az aq av).bind λ(aA,aB,aD,_)=>
let aE:LDIn:=[(15,(6,(0,(0,x1)))),(17,(6,(ax,(0,aA))))];
some (aE,aB,aD,())) else
bif (ak==4) then ((bK 5 am an).bind λ(ap,aq,av,_)=>
let ax:=w64 (3+ap);
(cM x1).bind λay=>
(bY a0 ay).bind λaz=>
(bK az aq av).bind λ(aA,aB,aD,_)=>
let aE:LDIn:=[(15,(6,(0,(0,x1)))),(17,(6,(ax,(0,aA))))];
some (aE,aB,aD,())) else
bif (ak==5) then ((bK 4 am an).bind λ(ap,aq,av,_)=>
let ax:=w64 (3+ap);
(cM x1).bind λay=>
(bY a0 ay).bind λaz=>
(bK az aq av).bind λ(aA,aB,aD,_)=>
let aE:LDIn:=[(15,(6,(0,(0,x1)))),(16,(ax,(6,(0,aA))))];
some (aE,aB,aD,())) else
bif (ak==6) then ((bK 4 am an).bind λ(ap,aq,av,_)=>
let ax:=w64 (3+ap);
(cM x1).bind λay=>
(bY a0 ay).bind λaz=>
(bK az aq av).bind λ(aA,aB,aD,_)=>
let aE:LDIn:=[(15,(6,(0,(0,x1)))),(16,(ax,(6,(0,aA))))];
some (aE,aB,aD,())) else
bif (ak==7) then ((bK 3 am an).bind λ(ap,aq,av,_)=>
(en 0 ap).bind λ(ax,ay,az,aA,aB,_)=>
let aD:LDIn:=[(ax,(ay,(az,(aA,aB))))];
bif (cx 40 aD.length aj.length) then let aE:LDIn:=(List.append aD aj);
(dW 13).bind λ(aF,aG,aH,aI,aJ,_)=>
let aK:LDIn:=[(aF,(aG,(aH,(aI,aJ))))];
bif (cx 40 aE.length aK.length) then let aL:LDIn:=(List.append aE aK);
some (aL,aq,av,()) else none else none) else
bif (ak==8) then ((bK 3 am an).bind λ(ap,aq,av,_)=>
(en 0 ap).bind λ(ax,ay,az,aA,aB,_)=>
let aD:LDIn:=[(ax,(ay,(az,(aA,aB))))];
bif (cx 40 aD.length aj.length) then let aE:LDIn:=(List.append aD aj);
(dW 13).bind λ(aF,aG,aH,aI,aJ,_)=>
let aK:LDIn:=[(aF,(aG,(aH,(aI,aJ))))];
bif (cx 40 aE.length aK.length) then let aL:LDIn:=(List.append aE aK);
some (aL,aq,av,()) else none else none) else
bif (ak==9) then ((bK 3 am an).bind λ(ap,aq,av,_)=>
(en 0 ap).bind λ(ax,ay,az,aA,aB,_)=>
let aD:LDIn:=[(ax,(ay,(az,(aA,aB))))];
bif (cx 40 aD.length aj.length) then let aE:LDIn:=(List.append aD aj);
(dW 14).bind λ(aF,aG,aH,aI,aJ,_)=>
(gx 3 0).bind λ(aK,aL,aM,aO,aP,_)=>
let aQ:LDIn:=[(aF,(aG,(aH,(aI,aJ)))),(aK,(aL,(aM,(aO,aP))))];
bif (cx 40 aE.length aQ.length) then let aR:LDIn:=(List.append aE aQ);
some (aR,aq,av,()) else none else none) else
bif (ak==10) then ((bK 3 am an).bind λ(ap,aq,av,_)=>
(en 0 ap).bind λ(ax,ay,az,aA,aB,_)=>
(bK 4 aq av).bind λ(aD,aE,aF,_)=>
(en 1 aD).bind λ(aG,aH,aI,aJ,aK,_)=>
(dW 3).bind λ(aL,aM,aO,aP,aQ,_)=>
(gx 7 0).bind λ(aR,aS,aT,aU,aV,_)=>
let aW:LDIn:=[(ax,(ay,(az,(aA,aB)))),(aG,(aH,(aI,(aJ,aK)))),(aL,(aM,(aO,(aP,aQ)))),(aR,(aS,(aT,(aU,aV))))];
some (aW,aE,aF,())) else
bif (ak==11) then ((gx 0 7).bind λ(ap,aq,av,ax,ay,_)=>
let az:LDIn:=[(ap,(aq,(av,(ax,ay))))];
bif (cx 40 az.length aj.length) then let aA:LDIn:=(List.append az aj);
let aB:List (Int):=[1,2];
(bK 2 am an).bind λ(aD,aE,aF,_)=>
(cM aD).bind λaG=>
(bY aB aG).bind λaH=>
(bY aB aG).bind λaI=>
(dW aI).bind λ(aJ,aK,aL,aM,aO,_)=>
let aP:LDIn:=[(aJ,(aK,(aL,(aM,aO))))];
bif (cx 40 aA.length aP.length) then let aQ:LDIn:=(List.append aA aP);
some (aQ,aE,aF,()) else none else none) else
bif (ak==12) then ((gx 0 7).bind λ(ap,aq,av,ax,ay,_)=>
(dW 4).bind λ(az,aA,aB,aD,aE,_)=>
let aF:LDIn:=[(ap,(aq,(av,(ax,ay)))),(az,(aA,(aB,(aD,aE))))];
(gx 0 7).bind λ(aG,aH,aI,aJ,aK,_)=>
(bK 4 am an).bind λ(aL,aM,aO,_)=>
(en 1 aL).bind λ(aP,aQ,aR,aS,aT,_)=>
(dW 5).bind λ(aU,aV,aW,aY,aZ,_)=>
let ba:LDIn:=[(aG,(aH,(aI,(aJ,aK)))),(aP,(aQ,(aR,(aS,aT)))),(aU,(aV,(aW,(aY,aZ))))];
let bc:List LDIn:=[aF,ba];
(bK 2 aM aO).bind λ(bd,be)=>
(cM bd).bind λbg=>
(bY bc bg).bind λbh=>
(bY bc bg).bind λbi=>
(bY bc bg).bind λbj=>
some (bj,be)) else
bif (ak==13) then (let ap:List (Int):=[6,7,15];
(bK 3 am an).bind λ(aq,av,ax,_)=>
(cM aq).bind λay=>
(bY ap ay).bind λaz=>
(bY ap ay).bind λaA=>
(dW aA).bind λ(aB,aD,aE,aF,aG,_)=>
(bK 3 av ax).bind λ(aH,aI,aJ,_)=>
let aK:=w64 (3+aH);
(gx aK 0).bind λ(aL,aM,aO,aP,aQ,_)=>
let aR:LDIn:=[(aB,(aD,(aE,(aF,aG)))),(aL,(aM,(aO,(aP,aQ))))];
some (aR,aI,aJ,())) else
bif (ak==14) then ((bK 3 am an).bind λ(ap,aq,av,_)=>
(en 0 ap).bind λ(ax,ay,az,aA,aB,_)=>
let aD:List (Int):=[8,9];
(bK 2 aq av).bind λ(aE,aF,aG,_)=>
(cM aE).bind λaH=>
(bY aD aH).bind λaI=>
(bY aD aH).bind λaJ=>
(dW aJ).bind λ(aK,aL,aM,aO,aP,_)=>
let aQ:LDIn:=[(ax,(ay,(az,(aA,aB)))),(aK,(aL,(aM,(aO,aP))))];
some (aQ,aF,aG,())) else
bif (ak==15) then ((bK 3 am an).bind λ(ap,aq,av,_)=>
(en 0 ap).bind λ(ax,ay,az,aA,aB,_)=>
let aD:List (Int):=[8,9];
(bK 2 aq av).bind λ(aE,aF,aG,_)=>
(cM aE).bind λaH=>
(bY aD aH).bind λaI=>
(bY aD aH).bind λaJ=>
(dW aJ).bind λ(aK,aL,aM,aO,aP,_)=>
let aQ:LDIn:=[(ax,(ay,(az,(aA,aB)))),(aK,(aL,(aM,(aO,aP))))];
some (aQ,aF,aG,())) else
bif (ak==16) then ((bK a1 am an).bind λ(ap,aq,av,_)=>
(en 0 ap).bind λ(ax,ay,az,aA,aB,_)=>
(gx 1 3).bind λ(aD,aE,aF,aG,aH,_)=>
(dW 10).bind λ(aI,aJ,aK,aL,aM,_)=>
let aO:LDIn:=[(ax,(ay,(az,(aA,aB)))),(aD,(aE,(aF,(aG,aH)))),(aI,(aJ,(aK,(aL,aM))))];
some (aO,aq,av,())) else
bif (ak==17) then (let ap:List (Int):=[a1,5];
(bK 2 am an).bind λ(aq,av,ax,_)=>
(cM aq).bind λay=>
(bY ap ay).bind λaz=>
(bY ap ay).bind λaA=>
(bK aA av ax).bind λ(aB,aD,aE,_)=>
(en 0 aB).bind λ(aF,aG,aH,aI,aJ,_)=>
let aK:List (Int):=[12,11];
(bK 2 aD aE).bind λ(aL,aM,aO,_)=>
(cM aL).bind λaP=>
(bY aK aP).bind λaQ=>
(bY aK aP).bind λaR=>
(dW aR).bind λ(aS,aT,aU,aV,aW,_)=>
let aY:LDIn:=[(aF,(aG,(aH,(aI,aJ)))),(aS,(aT,(aU,(aV,aW))))];
some (aY,aM,aO,())) else
bif (ak==18) then ((bK 4 am an).bind λ(ap,aq,av,_)=>
let ax:=w64 (1+ap);
(en 5 ax).bind λ(ay,az,aA,aB,aD,_)=>
(en 4 1).bind λ(aE,aF,aG,aH,aI,_)=>
let aJ:=w64 (a2+2);
let aK:LDIn:=[(ay,(az,(aA,(aB,aD)))),(aE,(aF,(aG,(aH,aI)))),(4,(5,(5,(4,0)))),(20,(5,(0,(0,aJ))))];
some (aK,aq,av,())) else
let ap:=bN a0.length;
(it ap a1 am an).bind λ(aq,av,ax,ay,az,aA,aB,_)=>
let aD:LDIn:=[(aq,(av,(ax,(ay,az))))];
some (aD,aA,aB,())
def tG:X.Cfg:=⟨E0,[eu,tY,je,q7,u5,mP],[(156,(.row true KIn))],[]⟩
def ov:Ctr:=⟨40,12,[.ptr ⟨2,0,[]⟩ [0],shU RI,shU I64,shU I64],[(2,(uL [RI,I64]))],[⟨(uL [eJ]),[.one],[(2,(uL [RI,I64]))]⟩],ap5 i4⟩
theorem tB:Lk 6 ov:=ls (C:=tG) rfl (aC eV (aC yh (aC kM (aC uI (aC Ab (aC r6 aN)))))) (by kernel_rfl) λh=>by kernel_rfl
def iM:T1g->Option (T1g⊕(Int×Int×Bool×T11)):=λ(v0,v1,v2,v3,v4,v5,v6,v7,v8,v9,_)=>
bif decide (v1 < v0) then ((cM v1).bind λx0=>
(bY v8 x0).bind λx1=>
(bY v8 x0).bind λx2=>
(ir x2 v2 v3).bind λ(x3,x4,x5,_)=>
bif (cx 24 v9.length (List.length [x3])) then let x6:List LI:=(List.append v9 [x3]);
let x7:=w64 (v1+1);
some (.inl (v0,x7,x4,x5,v4,v5,v6,v7,v8,x6,())) else none) else
some (.inr (v0,v1,false,v2,v3,v4,v5,v6,v7,v8,v9,()))
def iL:T16->Option (T16⊕T1d):=λ(v0,v1,v2,v3,v4,v5,v6,v7,v8,_)=>
bif decide (v0 > 0) then ((let x0:Int:=(bN v6.length);
let x1:=w64 (x0+1);
let x2:=bN v6.length;
(i4 v7 x1 x2 v1 v2).bind λ(x3,x4,x5,_)=>
let x6:=bN v6.length;
let x7:=bN x3.length;
let x8:=w64 (x6+x7);
bif decide (x8<=62) then (bif (cx 40 v6.length x3.length) then let x9:LDIn:=(List.append v6 x3);
some (v0,x4,x5,v3,v4,v5,x9,v7,v8,()) else none) else
some (v0,x4,x5,v3,v4,v5,v6,v7,v8,()):Option (T16)).bind λ(x0,x1,x2,x3,x4,x5,x6,x7,x8,_)=>
let x9:=w64 (x0 - 1);
some (.inl (x9,x1,x2,x3,x4,x5,x6,x7,x8,()))) else
some (.inr (v0,false,v1,v2,v3,v4,v5,v6,v7,v8,()))
def cX:T1f->Option (T1f⊕(Int×T1d)):=λ(v0,v1,v2,v3,v4,v5,v6,v7,v8)=>
bif decide (v1 < v0) then (((cM v1).bind λx0=>
(bY v7 x0).bind λx1=>
(dx x1.1).bind λ(x2,_)=>
bif x2 then ((cM v1).bind λx3=>
(bY v7 x3).bind λx4=>
let x5:=bN v7.length;
bif decide (x4.2.2.2.2>=x5) then ((cM v1).bind λx6=>
(bY v7 x6).bind λx7=>
none) else
some (v0,v1,v2,v3,v4,v5,v6,v7,v8)) else
some (v0,v1,v2,v3,v4,v5,v6,v7,v8):Option (T1f)).bind λ(x0,x1,x2,x3,x4,x5,x6,x7,x8)=>
let ac:=w64 (x1+1);
some (.inl (x0,ac,x2,x3,x4,x5,x6,x7,x8))) else
some (.inr (v0,v1,false,v2,v3,v4,v5,v6,v7,v8))
def eL(a0:List (Int)) (a1:Int):Option (LDIn×LI×LLI×T06):=
(is a0 a1).bind λ(x0,x1,x2,_)=>
let x3:=bN x0.length;
(bR iM NN (x3,0,x1,x2,(),(),(),(),x0,[],())).bind λ(x4,x5,x6,x7,x8,x9,ac,ae,af,ag)=>
(bK 12 x7 x8).bind λ(ai,aj,ak,_)=>
let am:=w64 (1+ai);
(bR iL NN (am,aj,ak,x9,ac,ae,[],ag)).bind λ(an,ap,aq,av,ax,ay,az,aA,aB)=>
((bK 4 aq av).bind λ(aE,aF,aG,_)=>
bif (aE==0) then (let aH:Int:=(bN aA.length);
let aI:=w64 (aH+1);
(bK aI aF aG).bind λ(aJ,aK,aL,_)=>
let aM:LDIn:=[(18,(0,(0,(0,aJ))))];
bif (cx 40 aA.length aM.length) then let aO:LDIn:=(List.append aA aM);
some (aK,aL,ax,ay,az,aO,aB) else none) else
bif (aE==1) then (let aH:LDIn:=[(24,(0,(0,(0,0))))];
bif (cx 40 aA.length aH.length) then let aI:LDIn:=(List.append aA aH);
some (aF,aG,ax,ay,az,aI,aB) else none) else
some (aF,aG,ax,ay,az,aA,aB):Option (T10)).bind λ(aE,aF,aG,aH,aI,aJ,aK,aL,_)=>
(bK 9 aE aF).bind λ(aM,aO,aP,_)=>
(en 0 aM).bind λ(aQ,aR,aS,aT,aU,_)=>
(dW 0).bind λ(aV,aW,aY,aZ,ba,_)=>
let bc:LDIn:=[(aQ,(aR,(aS,(aT,aU)))),(aV,(aW,(aY,(aZ,ba))))];
bif (cx 40 aJ.length bc.length) then let bd:LDIn:=(List.append aJ bc);
let be:=bN bd.length;
bif decide (be > 64) then (bif (hJ 0 64 bd.length) then let bf:LDIn:=(lN bd 0 (Nat.sub 64 0));
let bg:=bN bf.length;
(bR cX NN (bg,0,aO,aP,aG,aH,aI,bf,aK,aL,())).bind λ(bh,bi,bj,bk,bm,bn,bo,bp,bq,bt,bv,_)=>
some (bq,bt,bv,bk,bm,()) else none) else
let bf:=bN bd.length;
(bR cX NN (bf,0,aO,aP,aG,aH,aI,bd,aK,aL,())).bind λ(bg,bh,bi,bj,bk,bm,bn,bo,bp,bq,bt,_)=>
some (bp,bq,bt,bj,bk,()) else none
def oV:X.Cfg:=⟨E0,[mO,mN,eu,ov,tY,q7,gg],[(24,(.row true CW)),(25,(.row true CW))],[(lx 4 0 [(pP 0 2),(pP 2 6),(pP 3 8),(13,.pk ⟨8,1,[]⟩ [0,0]),(sP 14 I64),(sP 15 I64)] [(2,(uL [RI,I64])),(6,(uL [N1,N1,N1])),(8,(uL [N1,(.row true I64),(.row true (.row true CW))]))] 16),⟨14,1,qE,[(.normal,(qS [(pP 0 2),(pP 2 6),(pP 3 8),(sP 6 I64)] [(2,(uL [RI,I64])),(6,(uL [N1,N1,N1])),(8,(uL [(.row true KIn),RI,(.row true (.row true CW))]))]))]⟩,⟨11,2,(qS [(pP 0 2),(pP 2 6),(pP 3 8),(sP 6 I64)] [(2,(uL [RI,I64])),(6,(uL [N1,N1,N1])),(8,(uL [(.row true KIn),RI,(.row true (.row true CW))]))]),[(.exit 2,(qS [(pP 0 2),(pP 2 6),(pP 3 8),(sP 6 I64),(sP 32 .bool)] [(2,(uL [RI,I64])),(6,(uL [N1,N1,N1])),(8,(uL [(.row true KIn),RI,(.row true (.row true CW))]))]))]⟩,⟨17,3,qE,[(.normal,(qS [(pP 0 2),(pP 2 6),(pP 3 8)] [(2,(uL [RI,I64])),(6,(uL [N1,N1,N1])),(8,(uL [(.row true KIn),RI,(.row true (.row true CW))]))]))]⟩,⟨29,4,qE,[(.normal,(qS [(pP 0 2),(pP 2 6),(pP 3 8),(sP 101 I64),(sP 102 I64)] [(2,(uL [RI,I64])),(6,(uL [N1,N1,N1])),(8,(uL [eJ,RI,(.row true (.row true CW))]))]))]⟩,⟨26,5,(qS [(pP 0 2),(pP 2 6),(pP 3 8),(sP 101 I64),(sP 102 I64)] [(2,(uL [RI,I64])),(6,(uL [N1,N1,N1])),(8,(uL [eJ,RI,(.row true (.row true CW))]))]),[(.exit 5,(qS [(pP 0 2),(pP 2 6),(pP 3 8),(sP 101 I64),(sP 102 I64),(sP 103 .bool)] [(2,(uL [RI,I64])),(6,(uL [N1,N1,N1])),(8,(uL [eJ,RI,(.row true (.row true CW))]))]))]⟩]⟩
def iI:Ctr:=⟨12,13,[.ptr ⟨2,0,[]⟩ [0]],[(2,(uL [RI,I64]))],[⟨(uL [eJ,RI,(.row true (.row true CW))]),[.agg 3],[(2,(uL [RI,I64]))]⟩],ap2 eL⟩
theorem kv:Lk 7 iI:=ls (C:=oV) rfl (aC rZ (aC rY (aC eV (aC tB (aC yh (aC uI (aC iy aN))))))) (by kernel_rfl) λh=>by kernel_rfl
def gn:T0r->Option (T0r⊕((Bool×Unit)⊕(LI×LI×T09))):=λ(v0,v1,v2,v3,_)=>
bif decide (v3 < v2) then ((cM v3).bind λx0=>
(bY v1 x0).bind λx1=>
bif decide (x1 < 1) then (some (.inr (.inl (false,())))) else
bif decide (x1 > 32) then (some (.inr (.inl (false,())))) else
let x2:=w64 (v3+1);
some (.inl (v0,v1,v2,x2,()))) else
some (.inr (.inr (v0,v1,v2,v3,false,())))
def cT(a0:List (Int)):Option (Bool×Unit):=
let x0:=bN a0.length;
(match bR gn NN (a0,a0,x0,0,()) with
| none=>none
| some (.inl (x1,_))=>
some (x1,())
| some (.inr (x1,_))=>
let x6:=bN x1.length;
bif decide (x6>=1) then (let x7:Int:=(bN x1.length);
some ((decide (x7<=4)),())) else
some (false,()))
def qD:X.Cfg:=⟨E0,[],[],[⟨3,0,(qS [(sP 0 RI),(sP 5 RI),(sP 6 I64),(sP 7 I64)] []),[(.ret,(qS [(sP 2 .bool)] [])),(.exit 0,(qS [(sP 0 RI),(sP 5 RI),(sP 6 I64),(sP 7 I64),(sP 8 .bool)] []))]⟩]⟩
def gE:Ctr:=⟨45,14,(uL [RI]),[],[⟨(uL [.bool]),[.one],[]⟩],ap1 cT⟩
theorem i6:Lk 1 gE:=ls (C:=qD) rfl aN (by kernel_rfl) λh=>by kernel_rfl
def jt:T1h->Option (T1h⊕(LI×Int×Int×Int×Int×Int×Bool×T0u)):=λ(v0,v1,v2,v3,v4,v5,v6,v7,v8,v9,_)=>
bif decide (v5 < v4) then (let x0:Int:=(w64 (v5+v1));
bif (v2 != 0) then let x1:Int:=(Int.tmod x0 v2);
(cM x1).bind λx2=>
(bY v8 x2).bind λx3=>
(bY v8 x2).bind λx4=>
let x5:=List.modify v8 x2 λe=>v3;
(cM x1).bind λx6=>
(bY v0 x6).bind λx7=>
let x8:=w64 (x7+1);
let x9:=w64 (50*v2);
bif (x9 != 0) then let ac:Int:=(w64 (Int.tdiv v1 x9));
let ae:=Int.tmod ac 40;
let af:=w64 (x8+ae);
let ag:=w64 (v3+af);
let ah:=w64 (v5+1);
some (.inl (v0,v1,v2,ag,v4,ah,v6,v7,x5,v9,())) else none else none) else
some (.inr (v0,v1,v2,v3,v4,v5,false,v6,v7,v8,v9,()))
def ge(a0:List (Int)) (a1:Int):Option (T0g):=
((cT a0).bind λ(x0,_)=>
bif (!x0) then (some (a0,a1,true,(),0,())) else
bif decide (a1 < 0) then (some (a0,a1,true,(),0,())) else
some (a0,a1,(decide (a1 > 1073741824)),(),0,()):Option (LI×Int×Bool×Unit×Int×Unit)).bind λ(x0,x1,x2,x3,x4,_)=>
bif x2 then (some ([],0,1,())) else
let x5:=bN x0.length;
(cM x5).bind λx6=>
(cM x5).bind λx7=>
bif (kK x6 x7 1) then let x8:List (Int):=(List.replicate x6 0);
let x9:=w64 (40503*x1);
let ac:=wk .u16 x9;
bif (x5 != 0) then let ae:Int:=(w64 (Int.tdiv x1 x5));
let af:=Int.tmod ae 50;
let ag:=w64 (1+af);
(bR jt NN (x0,x1,x5,ag,x5,0,x3,x4,x8,ac,())).bind λ(ah,ai,aj,ak,am,an,ap,aq,av,ax,ay,_)=>
some (ax,ay,0,()) else none else none
def si:X.Cfg:=⟨E0,[gE],[],[⟨2,0,qE,[(.normal,(qS [(sP 0 RI),(sP 1 I64),(pP 4 10),(sP 21 .bool)] [(10,(uL [N1,CW]))]))]⟩,(lx 9 1 [(sP 0 RI),(sP 1 I64),(pP 4 10),(sP 6 I64),(pP 7 16),(sP 8 I64),(sP 36 I64),(sP 37 I64)] [(10,(uL [N1,CW])),(16,(uL [(.row true I64),CW]))] 38)]⟩
def jO:Ctr:=⟨20,15,(uL [RI,I64]),[],[⟨(uL [(.row true I64),CW,I64]),[.agg 2,.one],[]⟩],ap2 ge⟩
theorem mA:Lk 2 jO:=ls (C:=si) rfl (aC i6 aN) (by kernel_rfl) λh=>by kernel_rfl
def gC(a0:List (Int)) (a1:List (Int)) (a2:Int):Option (LI×T0e):=
(bK 1048576 a1 a2).bind λ(x0,x1)=>
(ge a0 x0).bind λ(x3,x4,x5,_)=>
some (x3,x4,x1)
def qM:X.Cfg:=⟨E0,[eu,jO],[],[]⟩
def lK:Ctr:=⟨13,16,[.ptr ⟨2,0,[]⟩ [0],shU RI],[(2,(uL [RI,I64]))],[⟨(uL [(.row true I64),CW]),[.agg 2],[(2,(uL [RI,I64]))]⟩],ap3 gC⟩
theorem qp:Lk 4 lK:=ls (C:=qM) rfl (aC eV (aC mA aN)) (by kernel_rfl) λh=>by kernel_rfl
def lR:T0r->Option (T0r⊕((Bool×Unit)⊕(LI×LI×T09))):=λ(v0,v1,v2,v3,_)=>
bif decide (v3 < v2) then ((cM v3).bind λx0=>
(bY v1 x0).bind λx1=>
bif decide (x1 < 1) then (some (.inr (.inl (false,())))) else
bif decide (x1 > 32) then (some (.inr (.inl (false,())))) else
let x2:=w64 (v3+1);
some (.inl (v0,v1,v2,x2,()))) else
some (.inr (.inr (v0,v1,v2,v3,false,())))
def fV(a0:List (Int)):Option (Bool×Unit):=
let x0:=bN a0.length;
(match bR lR NN (a0,a0,x0,0,()) with
| none=>none
| some (.inl (x1,_))=>
some (x1,())
| some (.inr (x1,_))=>
let x6:=bN x1.length;
bif decide (x6>=1) then (let x7:Int:=(bN x1.length);
some ((decide (x7<=4)),())) else
some (false,()))
def oO:X.Cfg:=⟨E0,[],[],[⟨3,0,(qS [(sP 0 RI),(sP 5 RI),(sP 6 I64),(sP 7 I64)] []),[(.ret,(qS [(sP 2 .bool)] [])),(.exit 0,(qS [(sP 0 RI),(sP 5 RI),(sP 6 I64),(sP 7 I64),(sP 8 .bool)] []))]⟩]⟩
def iH:Ctr:=⟨78,17,(uL [RI]),[],[⟨(uL [.bool]),[.one],[]⟩],ap1 fV⟩
theorem kt:Lk 1 iH:=ls (C:=oO) rfl aN (by kernel_rfl) λh=>by kernel_rfl
def iF(a0:Int):Option (T0i):=
(bif (a0==1) then (some (a0,true,false,false,false,false,())) else
bif (a0==15) then (some (a0,true,false,false,false,false,())) else
bif (a0==19) then (some (a0,true,false,false,false,false,())) else
bif (a0==20) then (some (a0,true,false,false,false,false,())) else
some (a0,(a0==21),false,false,false,false,()):Option (Int×Bool×T0i)).bind λ(x0,x1,_)=>
bif x1 then (some (true,false,false,true,())) else
bif (x0==2) then (some (true,true,false,false,())) else
bif (x0==16) then (some (true,true,false,true,())) else
bif (x0==17) then (some (true,true,false,true,())) else
bif (x0==18) then (some (false,false,false,true,())) else
bif (x0==23) then (some (false,false,false,true,())) else
bif (x0==22) then (some (true,false,false,false,())) else
bif (x0==0) then (some (false,false,false,false,())) else
bif (x0==24) then (some (false,false,false,false,())) else
some (true,true,true,false,())
def oR:X.Cfg:=⟨E0,[],[],[⟨3,0,qE,[(.normal,(qS [(pP 2 6),(sP 3 I64),(sP 4 .bool)] [(6,(uL [.bool,.bool,.bool,.bool]))]))]⟩]⟩
def kB:Ctr:=⟨100,18,(uL [I64]),[],[⟨(uL [.bool,.bool,.bool,.bool]),[.agg 4],[]⟩],ap1 iF⟩
theorem oJ:Lk 1 kB:=ls (C:=oR) rfl aN (by kernel_rfl) λh=>by kernel_rfl
def dc(a0:Bool) (a1:Int) (a2:Int):Option (Bool×Unit):=
bif (a1==0) then (some (true,())) else
bif a0 then (bif decide (a1 > 0) then (some ((decide (a1<=a2)),())) else
some (false,())) else
some (false,())
def n6:X.Cfg:=⟨E0,[],[],[]⟩
def jP:Ctr:=⟨101,19,(uL [.bool,I64,I64]),[],[⟨(uL [.bool]),[.one],[]⟩],ap3 dc⟩
theorem nU:Lk 1 jP:=ls (C:=n6) rfl aN (by kernel_rfl) λh=>by kernel_rfl
def gA(a0:Int):Option (Bool×Unit):=
bif (a0==18) then (some (true,())) else
bif (a0==19) then (some (true,())) else
bif (a0==20) then (some (true,())) else
some ((a0==21),())
def qK:X.Cfg:=⟨E0,[],[],[]⟩
def jd:Ctr:=⟨80,20,(uL [I64]),[],[⟨(uL [.bool]),[.one],[]⟩],ap1 gA⟩
theorem lk:Lk 1 jd:=ls (C:=qK) rfl aN (by kernel_rfl) λh=>by kernel_rfl
def iq(a0:Int):Option (Int×Unit):=
(gA a0).bind λ(x0,_)=>
bif x0 then (some (63,())) else
bif (a0==15) then (some (3,())) else
bif (a0==23) then (some (15,())) else
some (65535,())
def sj:X.Cfg:=⟨E0,[jd],[],[]⟩
def mM:Ctr:=⟨102,21,(uL [I64]),[],[⟨(uL [I64]),[.one],[]⟩],ap1 iq⟩
theorem rX:Lk 2 mM:=ls (C:=sj) rfl (aC lk aN) (by kernel_rfl) λh=>by kernel_rfl
def dC(a0:Int) (a1:Int) (a2:Int) (a3:Int) (a4:Int):Option (Bool×Unit):=
bif decide (a0 < 0) then (some (false,())) else
bif decide (a0 > 24) then (some (false,())) else
(iF a0).bind λ(x0,x1,x2,x3,_)=>
(dc x0 a1 7).bind λ(x4,_)=>
bif x4 then ((dc x1 a2 7).bind λ(x5,_)=>
bif x5 then ((dc x2 a3 7).bind λ(x6,_)=>
bif x6 then ((iq a0).bind λ(x7,_)=>
(dc x3 a4 x7).bind λ(x8,_)=>
some (x8,())) else
some (false,())) else
some (false,())) else
some (false,())
def qJ:X.Cfg:=⟨E0,[kB,jP,mM],[],[]⟩
def gF:Ctr:=⟨79,22,[.agg (uL [I64,I64,I64,I64,I64])],[],[⟨(uL [.bool]),[.one],[]⟩],ap5 dC⟩
theorem i7:Lk 3 gF:=ls (C:=qJ) rfl (aC oJ (aC nU (aC rX aN))) (by kernel_rfl) λh=>by kernel_rfl
def jk:T0L->Option (T0L⊕((Int×Unit)⊕T0U)):=λ(v0,v1,v2,v3,v4,v5,_)=>
bif decide (v2 < v1) then ((cM v2).bind λx0=>
(bY v0 x0).bind λx1=>
let x2:=bN x1.length;
(cM v2).bind λx3=>
(bY v4 x3).bind λx4=>
bif decide (x2 > x4) then (some (.inr (.inl (1,())))) else
let x5:=w64 (v2+1);
some (.inl (v0,v1,x5,v3,v4,v5,()))) else
some (.inr (.inr (v0,v1,v2,false,v3,v4,v5,())))
def dp:T0Q->Option (T0Q⊕((Int×Unit)⊕T0X)):=λ(v0,v1,v2,v3,v4,v5,v6,_)=>
bif decide (v3 < v2) then ((match ((cM v3).bind λx0=>
(bY v1 x0).bind λx1=>
(dC x1.1 x1.2.1 x1.2.2.1 x1.2.2.2.1 x1.2.2.2.2).bind λ(x2,_)=>
bif (!x2) then (some (.inl (5,()))) else
((gA x1.1).bind λ(x3,_)=>
bif x3 then (let x4:Int:=(bN v4.length);
bif decide (x1.2.2.2.2>=x4) then (some (v0,v1,v2,v3,true,v4,v5,v6,())) else
bif (x1.1==15) then (let x5:Int:=(bN v5.length);
some (v0,v1,v2,v3,(decide (x1.2.2.2.2>=x5)),v4,v5,v6,())) else
some (v0,v1,v2,v3,false,v4,v5,v6,())) else
bif (x1.1==15) then (let x4:Int:=(bN v5.length);
some (v0,v1,v2,v3,(decide (x1.2.2.2.2>=x4)),v4,v5,v6,())) else
some (v0,v1,v2,v3,false,v4,v5,v6,()):Option (T0X)).bind λ(x3,x4,x5,x6,x7,x8)=>
bif x7 then (some (.inr (6,x4,x5,x6,x8))) else
some (.inr (x3,x4,x5,x6,x8)):Option ((Int×Unit)⊕T0Q)) with
| none=>none
| some (.inl (x0,_))=>
some (.inr (.inl (x0,())))
| some (.inr (x0,x1,x2,x3,x4,x5,x6,_))=>
let x7:=w64 (x3+1);
some (.inl (x0,x1,x2,x7,x4,x5,x6,())))) else
some (.inr (.inr (v0,v1,v2,v3,false,v4,v5,v6,())))
def gB(a0:LDIn) (a1:List (Int)) (a2:List LI):Option (Int×Unit):=
(fV a1).bind λ(x0,_)=>
bif (!x0) then (some (1,())) else
let x1:=bN a2.length;
let x2:=bN a1.length;
bif (x1 != x2) then (some (1,())) else
let x3:=bN a2.length;
(match bR jk NN (a2,x3,0,a0,a1,a2,()) with
| none=>none
| some (.inl (x4,_))=>
some (x4,())
| some (.inr (x4,x5,x6,x7,x8,x9))=>
let ae:=bN x8.length;
bif (ae==0) then (some (3,())) else
let af:=bN x8.length;
bif decide (af > 64) then (some (3,())) else
let ag:=bN x8.length;
(match bR dp NN (0,x8,ag,0,x8,x9) with
| none=>none
| some (.inl (ah,_))=>
some (ah,())
| some (.inr (ah,_))=>
some (ah,())))
def qL:X.Cfg:=⟨E0,[iH,gF,jd],[],[⟨6,0,(qS [(pP 1 4),(sP 22 (.row false RW)),(sP 23 I64),(sP 24 I64)] [(4,(uL [eJ,RI,(.row false RW)]))]),[(.ret,(qS [(sP 2 I64)] [])),(.exit 0,(qS [(pP 1 4),(sP 22 (.row false RW)),(sP 23 I64),(sP 24 I64),(sP 25 .bool)] [(4,(uL [eJ,RI,(.row false RW)]))]))]⟩,⟨27,1,qE,[(.normal,(qS [(pP 1 4),(sP 5 I64),(sP 49 eJ),(sP 50 I64),(sP 51 I64),(sP 81 .bool)] [(4,(uL [eJ,RI,(.row false RW)]))]))]⟩,⟨22,2,qE,[(.ret,(qS [(sP 2 I64)] [])),(.normal,(qS [(pP 1 4),(sP 5 I64),(sP 49 eJ),(sP 50 I64),(sP 51 I64)] [(4,(uL [eJ,RI,(.row false RW)]))]))]⟩,⟨19,3,(qS [(pP 1 4),(sP 5 I64),(sP 49 eJ),(sP 50 I64),(sP 51 I64)] [(4,(uL [eJ,RI,(.row false RW)]))]),[(.ret,(qS [(sP 2 I64)] [])),(.exit 2,(qS [(pP 1 4),(sP 5 I64),(sP 49 eJ),(sP 50 I64),(sP 51 I64),(sP 52 .bool)] [(4,(uL [eJ,RI,(.row false RW)]))]))]⟩]⟩
def lJ:Ctr:=⟨44,23,[.agg (uL [eJ,RI,(.row false RW)])],[],[⟨(uL [I64]),[.one],[]⟩],ap3 gB⟩
theorem qo:Lk 4 lJ:=ls (C:=qL) rfl (aC kt (aC i7 (aC lk aN))) (by kernel_rfl) λh=>by kernel_rfl
def cD(a0:LDIn) (a1:List (Int)) (a2:List LI):Option (Int×Unit):=
(gB a0 a1 a2).bind λ(x0,_)=>
some (x0,())
def n5:X.Cfg:=⟨E0,[lJ],[],[]⟩
def eq:Ctr:=⟨15,24,[.agg (uL [eJ,RI,(.row false RW)])],[],[⟨(uL [I64]),[.one],[]⟩],ap3 cD⟩
theorem fG:Lk 5 eq:=ls (C:=n5) rfl (aC qo aN) (by kernel_rfl) λh=>by kernel_rfl
def cW:T1i->Option (T1i⊕((Bool×Unit)⊕T1o)):=λ(v0,v1,v2,v3,v4,v5,v6,v7,v8,v9,_)=>
bif decide (v7 < v6) then ((match ((cM v7).bind λx0=>
(bY v8 x0).bind λx1=>
(cM v7).bind λx2=>
(bY v0 x2).bind λx3=>
let x4:=w64 (x1+x3);
bif decide (v2<=x4) then ((cM v7).bind λx5=>
(bY v8 x5).bind λx6=>
(cM v1).bind λx7=>
(bY v0 x7).bind λx8=>
let x9:=w64 (v2+x8);
bif decide (x6<=x9) then (some (.inl (false,()))) else
some (.inr (v0,v1,v2,v3,v4,v5,v6,v7,false,v8,v9,()))) else
some (.inr (v0,v1,v2,v3,v4,v5,v6,v7,false,v8,v9,())):Option ((Bool×Unit)⊕T1o)) with
| none=>none
| some (.inl (x0,_))=>
some (.inr (.inl (x0,())))
| some (.inr (x0,x1,x2,x3,x4,x5,x6,x7,x8,x9,ac,_))=>
let ae:=w64 (x7+1);
some (.inl (x0,x1,x2,x3,x4,x5,x6,ae,x9,ac,())))) else
some (.inr (.inr (v0,v1,v2,v3,v4,v5,v6,v7,false,v8,v9,())))
def cV:T0K->Option (T0K⊕((Bool×Unit)⊕(LI×T0J))):=λ(v0,v1,v2,v3,v4)=>
bif decide (v3 < v2) then ((cM v3).bind λx0=>
(bY v1 x0).bind λx1=>
(bif decide (x1 < 0) then (some (v0,v3,x1,v1,v2,v3,true,v4)) else
bif decide (x1>=512) then (some (v0,v3,x1,v1,v2,v3,true,v4)) else
(cM v3).bind λx2=>
(bY v0 x2).bind λx3=>
let x4:=w64 (x1+x3);
some (v0,v3,x1,v1,v2,v3,(decide (x4 > 512)),v4):Option (T19)).bind λ(x2,x3,x4,x5,x6,x7,x8,x9)=>
bif x8 then (some (.inr (.inl (false,())))) else
(match bR cW NN (x2,x3,x4,x5,x6,x7,x3,0,x9) with
| none=>none
| some (.inl (ae,_))=>
some (.inr (.inl (ae,())))
| some (.inr (ae,af,ag,ah,ai,aj,ak,am,an,ap))=>
let av:=w64 (aj+1);
some (.inl (ae,ah,ai,av,ap)))) else
some (.inr (.inr (v0,v1,v2,v3,false,v4)))
def fX(a0:List (Int)) (a1:Int) (a2:List (Int)):Option (Bool×Unit):=
(fV a2).bind λ(x0,_)=>
bif (!x0) then (some (false,())) else
let x1:=bN a0.length;
let x2:=bN a2.length;
bif (x1 != x2) then (some (false,())) else
let x3:=bN a0.length;
(match bR cV NN (a2,a0,x3,0,a0,a1,()) with
| none=>none
| some (.inl (x4,_))=>
some (x4,())
| some (.inr (x4,_))=>
some (true,()))
def oQ:X.Cfg:=⟨E0,[iH],[],[⟨12,0,qE,[(.normal,(qS [(sP 1 RI),(pP 2 6),(sP 5 I64),(sP 6 I64),(sP 20 RI),(sP 21 I64),(sP 22 I64),(sP 41 .bool)] [(6,(uL [RI,CW]))]))]⟩,⟨18,1,qE,[(.ret,(qS [(sP 4 .bool)] [])),(.normal,(qS [(sP 1 RI),(pP 2 6),(sP 5 I64),(sP 6 I64),(sP 20 RI),(sP 21 I64),(sP 22 I64),(sP 42 I64),(sP 43 I64),(sP 71 .bool)] [(6,(uL [RI,CW]))]))]⟩,⟨15,2,(qS [(sP 1 RI),(pP 2 6),(sP 5 I64),(sP 6 I64),(sP 20 RI),(sP 21 I64),(sP 22 I64),(sP 42 I64),(sP 43 I64)] [(6,(uL [RI,CW]))]),[(.ret,(qS [(sP 4 .bool)] [])),(.exit 2,(qS [(sP 1 RI),(pP 2 6),(sP 5 I64),(sP 6 I64),(sP 20 RI),(sP 21 I64),(sP 22 I64),(sP 42 I64),(sP 43 I64),(sP 44 .bool)] [(6,(uL [RI,CW]))]))]⟩,⟨6,3,(qS [(sP 1 RI),(pP 2 6),(sP 20 RI),(sP 21 I64),(sP 22 I64)] [(6,(uL [RI,CW]))]),[(.ret,(qS [(sP 4 .bool)] [])),(.exit 0,(qS [(sP 1 RI),(pP 2 6),(sP 20 RI),(sP 21 I64),(sP 22 I64),(sP 23 .bool)] [(6,(uL [RI,CW]))]))]⟩]⟩
def kA:Ctr:=⟨81,25,[.agg (uL [RI,CW]),shU RI],[],[⟨(uL [.bool]),[.one],[]⟩],ap3 fX⟩
theorem oI:Lk 2 kA:=ls (C:=oQ) rfl (aC kt aN) (by kernel_rfl) λh=>by kernel_rfl
def lS:T0b->Option (T0b⊕(Int×Int×Bool×LDLn×Unit)):=λ(v0,v1,v2,_)=>
bif decide (v1 < v0) then ((cM v1).bind λx0=>
(bY v2 x0).bind λx1=>
(bY v2 x0).bind λx2=>
let x3:=(List.modify v2 x0 λe=>((-1),e.2));
let x4:=w64 (v1+1);
some (.inl (v0,x4,x3,()))) else
some (.inr (v0,v1,false,v2,()))
def iE:Option (LDLn×Unit):=
bif (kK 4 4 3) then let x0:LDLn:=(List.replicate 4 (0,(false,[])));
let x1:=bN x0.length;
(bR lS NN (x1,0,x0,())).bind λ(x2,x3,x4,x5,_)=>
some (x5,()) else none
def oP:X.Cfg:=⟨E0,[],[(3,DU)],[(lx 4 0 [(1,.pk ⟨5,0,[]⟩ [0,0]),(sP 5 I64),(sP 6 I64)] [(5,(uL [CA]))] 7)]⟩
def kz:Ctr:=⟨82,26,[],[],[⟨(uL [CA]),[.one],[]⟩],λh=>iE⟩
theorem oH:Lk 1 kz:=ls (C:=oP) rfl aN (by kernel_rfl) λh=>by kernel_rfl
def dK:LI×Int×Int×LDCe×Unit->Option ((LI×Int×Int×LDCe×Unit)⊕(LI×Int×Int×Bool×LDCe×Unit)):=λ(v0,v1,v2,v3,_)=>
bif decide (v2 < v1) then ((cM v2).bind λx0=>
(bY v0 x0).bind λx1=>
let x2:LDCe:=[(0,x1)];
bif (cx 4 v3.length x2.length) then let x3:LDCe:=(List.append v3 x2);
let x4:=w64 (v2+1);
some (.inl (v0,v1,x4,x3,())) else none) else
some (.inr (v0,v1,v2,false,v3,()))
def fU(a0:List (Int)):Option (LDCe×Unit):=
let x0:=bN a0.length;
(bR dK NN (a0,x0,0,[],())).bind λ(x1,x2,x3,x4,x5,_)=>
some (x5,())
def oN:X.Cfg:=⟨E0,[],[],[(lx 4 0 [(3,.pk ⟨9,0,[]⟩ [0,0]),(sP 6 RW),(sP 7 I64),(sP 8 I64)] [(9,(uL [(.row true KCe)]))] 9)]⟩
def ky:Ctr:=⟨83,27,(uL [RW]),[],[⟨(uL [(.row true KCe)]),[.one],[]⟩],ap1 fU⟩
theorem oG:Lk 1 ky:=ls (C:=oN) rfl aN (by kernel_rfl) λh=>by kernel_rfl
def gp:T1v->Option (T1v⊕((Int×Unit×Unit×Unit)⊕T1y)):=λ(v0,v1,v2,v3,v4,v5,v6,v7,v8,v9,v10,v11,_)=>
bif decide (v2 < v1) then ((match ((cM v2).bind λx0=>
(bY v0 x0).bind λx1=>
let x2:=bN x1.length;
(cM v2).bind λx3=>
(bY v4 x3).bind λx4=>
bif decide (x2 > x4) then (some (.inl (1,(),(),()))) else
(cM v2).bind λx5=>
(bY v6 x5).bind λx6=>
(cM x6).bind λx7=>
bif (hJ x7 v10.length v10.length) then (fU x1).bind λ(x8,_)=>
bif (hJ x7 (Nat.add x7 (Nat.min x8.length (Nat.sub v10.length x7))) v10.length) then bif (Nat.blt 0 (Nat.min x8.length (Nat.sub v10.length x7))) then (let x9:LDCe:=(nF v10 x7 (Nat.min x8.length (Nat.sub v10.length x7)) x8);
let ac:=(bN (Nat.min x8.length (Nat.sub v10.length x7)));
some (.inr (v0,v1,v2,v3,v4,v5,v6,v7,v8,v9,x9,v11,()))) else
let x9:=(bN (Nat.min x8.length (Nat.sub v10.length x7)));
some (.inr (v0,v1,v2,v3,v4,v5,v6,v7,v8,v9,v10,v11,())) else none else none:Option ((Int×Unit×Unit×Unit)⊕T1v)) with
| none=>none
| some (.inl (x0,x1,x2,_))=>
some (.inr (.inl (x0,x1,x2,())))
| some (.inr (x0,x1,x2,x3,x4,x5,x6,x7,x8,x9,ac,ae,_))=>
let af:=w64 (x2+1);
some (.inl (x0,x1,af,x3,x4,x5,x6,x7,x8,x9,ac,ae,())))) else
some (.inr (.inr (v0,v1,v2,false,v3,v4,v5,v6,v7,v8,v9,v10,v11,())))
def gy(a0:LDIn) (a1:List (Int)) (a2:List LI) (a3:List (Int)) (a4:Int):Option (LDCe×LDLn×Int×Unit):=
(fX a3 a4 a1).bind λ(x0,_)=>
bif (!x0) then (some ([],[],1,())) else
let x1:=bN a2.length;
let x2:=bN a1.length;
bif (x1 != x2) then (some ([],[],1,())) else
bif (kK 512 512 2) then let x3:LDCe:=(List.replicate 512 (0,0));
(iE).bind λ(x4,_)=>
let x5:=bN a2.length;
(match bR gp NN (a2,x5,0,a0,a1,a2,a3,a4,(),(),x3,x4,()) with
| none=>none
| some (.inl (x6,x7,x8,_))=>
some ([],[],x6,())
| some (.inr (x6,x7,x8,x9,ac,ae,af,ag,ah,ai,aj,ak,am,_))=>
some (ak,am,0,())) else none
def qG:X.Cfg:=⟨E0,[kA,kz,ky],[],[⟨10,0,qE,[(.ret,(qS [(pP 4 10),(sP 5 I64)] [(10,(uL [N1,N1]))])),(.normal,(qS [(pP 2 6),(pP 3 8),(pP 4 10),(pP 6 14),(sP 28 (.row false RW)),(sP 29 I64),(sP 30 I64)] [(6,(uL [eJ,RI,(.row false RW)])),(8,(uL [RI,CW])),(10,(uL [N1,N1])),(14,(uL [(.row true KCe),CA]))]))]⟩,⟨7,1,(qS [(pP 2 6),(pP 3 8),(pP 4 10),(pP 6 14),(sP 28 (.row false RW)),(sP 29 I64),(sP 30 I64)] [(6,(uL [eJ,RI,(.row false RW)])),(8,(uL [RI,CW])),(10,(uL [N1,N1])),(14,(uL [(.row true KCe),CA]))]),[(.ret,(qS [(pP 4 10),(sP 5 I64)] [(10,(uL [N1,N1]))])),(.exit 0,(qS [(pP 2 6),(pP 3 8),(pP 4 10),(pP 6 14),(sP 28 (.row false RW)),(sP 29 I64),(sP 30 I64),(sP 31 .bool)] [(6,(uL [eJ,RI,(.row false RW)])),(8,(uL [RI,CW])),(10,(uL [N1,N1])),(14,(uL [(.row true KCe),CA]))]))]⟩]⟩
def lH:Ctr:=⟨47,28,[.agg (uL [eJ,RI,(.row false RW)]),.agg (uL [RI,CW])],[],[⟨(uL [(.row true KCe),CA,I64]),[.agg 2,.one],[]⟩],ap5 gy⟩
theorem qm:Lk 3 lH:=ls (C:=qG) rfl (aC oI (aC oH (aC oG aN))) (by kernel_rfl) λh=>by kernel_rfl
def eb(a0:List (Int)):Option (LI×Unit):=
bif (cx 8 0 a0.length) then let x0:List (Int):=(List.append [] a0);
some (x0,()) else none
def lp:X.Cfg:=⟨E0,[],[],[]⟩
def iC:Ctr:=⟨84,29,(uL [RI]),[],[⟨(uL [(.row true I64)]),[.one],[]⟩],ap1 eb⟩
theorem lf:Lk 1 iC:=ls (C:=lp) rfl aN (by kernel_rfl) λh=>by kernel_rfl
def gz(a0:List (Int)) (a1:Int):Option (T06):=
(eb a0).bind λ(x0,_)=>
some (x0,a1,())
def qH:X.Cfg:=⟨E0,[iC],[],[]⟩
def lI:Ctr:=⟨48,30,[.agg (uL [RI,CW])],[],[⟨(uL [(.row true I64),CW]),[.agg 2],[]⟩],ap2 gz⟩
theorem qn:Lk 2 lI:=ls (C:=qH) rfl (aC lf aN) (by kernel_rfl) λh=>by kernel_rfl
def km:Option (T0W):=
bif (kK 8 8 2) then let x0:LDCe:=(List.replicate 8 (0,0));
some (0,x0,0,0,(-1),(-1),0,0,()) else none
def oU:X.Cfg:=⟨E0,[],[],[]⟩
def kE:Ctr:=⟨49,31,[],[],[⟨(uL [I64,(.row true KCe),I64,I64,I64,I64,I64,CW]),[.agg 8],[]⟩],λh=>km⟩
theorem oM:Lk 1 kE:=ls (C:=oU) rfl aN (by kernel_rfl) λh=>by kernel_rfl
def io:T1m->Option (T1m⊕T1q):=λ(v0,v1,v2,v3,v4,v5,v6,v7,v8,v9,v10,_)=>
bif decide (v0 < 4) then ((km).bind λ(x0,x1,x2,x3,x4,x5,x6,x7,_)=>
let x8:LDTh:=[(x0,(x1,(x2,(x3,(x4,(x5,(x6,x7)))))))];
bif (cx 80 v10.length x8.length) then let x9:LDTh:=(List.append v10 x8);
let ac:=w64 (v0+1);
some (.inl (ac,v1,v2,v3,v4,v5,v6,v7,v8,v9,x9,())) else none) else
some (.inr (v0,false,v1,v2,v3,v4,v5,v6,v7,v8,v9,v10,()))
def cY(a0:LDIn) (a1:List (Int)) (a2:List LI) (a3:List (Int)) (a4:Int):Option (LI×Int×LDCe×LDLn×LDTh×Int×Unit):=
(cD a0 a1 a2).bind λ(x0,_)=>
bif (x0 != 0) then (some ([],0,[],[],[],x0,())) else
(gy a0 a1 a2 a3 a4).bind λ(x1,x2,x3,_)=>
bif (x3 != 0) then (some ([],0,[],[],[],x3,())) else
(gz a3 a4).bind λ(x4,x5,_)=>
(bR io NN (0,(),0,(),(),(),x4,x5,x1,x2,[],())).bind λ(x6,x7,x8,x9,ac,ae,af,ag,ah,ai,aj,ak,_)=>
(bY ak 0).bind λam=>
(bY ak 0).bind λan=>
let ap:=List.modify ak 0 λe=>(1,e.2);
some (ag,ah,ai,aj,ap,0,())
def nZ:X.Cfg:=⟨E0,[eq,lH,lI,kE],[(35,DO),(36,DO)],[(lx 12 0 [(pP 4 10),(pP 9 20),(sP 30 I64)] [(10,(uL [N1,CW,N1,N1,N1])),(20,(uL [RI,CW,ke,m7,Dx]))] 31)]⟩
def gZ:Ctr:=⟨17,32,[.agg (uL [eJ,RI,(.row false RW)]),.agg (uL [RI,CW])],[],[⟨(uL [RI,CW,ke,m7,Dx,I64]),[.agg 5,.one],[]⟩],ap5 cY⟩
theorem jF:Lk 6 gZ:=ls (C:=nZ) rfl (aC fG (aC qm (aC qn (aC oM aN)))) (by kernel_rfl) λh=>by kernel_rfl
def cz:T1s->Option (T1s⊕((Bool×Unit)⊕T1w)):=λ(v0,v1,v2,v3,v4,v5,v6,v7,v8,v9,v10,v11,_)=>
bif decide (v1 < v0) then ((cM v1).bind λx0=>
(bY v11 x0).bind λx1=>
(bY v11 x0).bind λx2=>
(bif decide (x2 < 0) then (some (v0,v1,true,v2,v3,v4,v5,v6,v7,v8,v9,v10,v11,())) else
bif decide (x2>=8) then (some (v0,v1,true,v2,v3,v4,v5,v6,v7,v8,v9,v10,v11,())) else
(cM v1).bind λx3=>
bif (Nat.beq x3 0) then (bif (!v7) then (some (v0,v1,(x2 != 0),v2,v3,v4,v5,v6,v7,v8,v9,v10,v11,())) else
some (v0,v1,false,v2,v3,v4,v5,v6,v7,v8,v9,v10,v11,())) else
bif (Nat.beq x3 1) then (bif (!v8) then (some (v0,v1,(x2 != 0),v2,v3,v4,v5,v6,v7,v8,v9,v10,v11,())) else
some (v0,v1,false,v2,v3,v4,v5,v6,v7,v8,v9,v10,v11,())) else
bif (Nat.beq x3 2) then (bif (!v9) then (some (v0,v1,(x2 != 0),v2,v3,v4,v5,v6,v7,v8,v9,v10,v11,())) else
some (v0,v1,false,v2,v3,v4,v5,v6,v7,v8,v9,v10,v11,())) else
bif (Nat.beq x3 3) then bif (!v10) then (some (v0,v1,(x2 != 0),v2,v3,v4,v5,v6,v7,v8,v9,v10,v11,())) else
some (v0,v1,false,v2,v3,v4,v5,v6,v7,v8,v9,v10,v11,()) else none:Option (T1w)).bind λ(x3,x4,x5,x6)=>
bif x5 then (some (.inr (.inl (false,())))) else
let aj:=w64 (x4+1);
some (.inl (x3,aj,x6))) else
some (.inr (.inr (v0,v1,false,v2,v3,v4,v5,v6,v7,v8,v9,v10,v11,())))
def dV(a0:Int) (a1:Int) (a2:Int) (a3:Int) (a4:Int):Option (Bool×Unit):=
bif decide (a0 < 0) then (some (false,())) else
bif decide (a0 > 24) then (some (false,())) else
(ek a0).bind λ(x0,x1,x2,x3,_)=>
let x4:List (Int):=[a1,a2,a3];
let x5:=bN x4.length;
(match bR cz NN (x5,0,a0,a1,a2,a3,a4,x0,x1,x2,x3,x4,()) with
| none=>none
| some (.inl (x6,_))=>
some (x6,())
| some (.inr (x6,x7,x8,x9,ac,ae,af,ag,ah,ai,aj,ak,am,_))=>
(bif decide (ag < 0) then (some (true,x9,ac,ae,af,ag,())) else
bif decide (ag > 65535) then (some (true,x9,ac,ae,af,ag,())) else
bif (!ak) then (some ((ag != 0),x9,ac,ae,af,ag,())) else
some (false,x9,ac,ae,af,ag,()):Option (Bool×T0w)).bind λ(an,ap,aq,av,ax,ay,_)=>
bif an then (some (false,())) else
(dx ap).bind λ(az,_)=>
bif az then (some ((decide (ay < 64)),())) else
bif (ap==15) then (some ((decide (ay < 4)),())) else
bif (ap==23) then (some ((decide (ay<=15)),())) else
some (true,()))
def qz:X.Cfg:=⟨E0,[jL,gg],[],[⟨12,0,qE,[(.normal,(qS [(pP 1 4),(pP 3 8),(23,.pk ⟨49,0,[]⟩ [0,0]),(sP 24 I64),(sP 25 I64),(sP 45 .bool)] [(4,(uL [I64,I64,I64,I64,I64])),(8,(uL [.bool,.bool,.bool,.bool])),(49,(uL [(.row true I64)]))]))]⟩,⟨7,1,(qS [(pP 1 4),(pP 3 8),(23,.pk ⟨49,0,[]⟩ [0,0]),(sP 24 I64),(sP 25 I64)] [(4,(uL [I64,I64,I64,I64,I64])),(8,(uL [.bool,.bool,.bool,.bool])),(49,(uL [(.row true I64)]))]),[(.ret,(qS [(sP 2 .bool)] [])),(.exit 0,(qS [(pP 1 4),(pP 3 8),(23,.pk ⟨49,0,[]⟩ [0,0]),(sP 24 I64),(sP 25 I64),(sP 26 .bool)] [(4,(uL [I64,I64,I64,I64,I64])),(8,(uL [.bool,.bool,.bool,.bool])),(49,(uL [(.row true I64)]))]))]⟩,⟨15,2,qE,[(.normal,(qS [(pP 1 4),(sP 64 .bool)] [(4,(uL [I64,I64,I64,I64,I64]))]))]⟩]⟩
def lE:Ctr:=⟨46,33,[.agg (uL [I64,I64,I64,I64,I64])],[],[⟨(uL [.bool]),[.one],[]⟩],ap5 dV⟩
theorem qj:Lk 2 lE:=ls (C:=qz) rfl (aC mz (aC iy aN)) (by kernel_rfl) λh=>by kernel_rfl
def cy:T0L->Option (T0L⊕((Int×Unit)⊕T0U)):=λ(v0,v1,v2,v3,v4,v5,_)=>
bif decide (v2 < v1) then ((cM v2).bind λx0=>
(bY v0 x0).bind λx1=>
let x2:=bN x1.length;
(cM v2).bind λx3=>
(bY v4 x3).bind λx4=>
bif decide (x2 > x4) then (some (.inr (.inl (1,())))) else
let x5:=w64 (v2+1);
some (.inl (v0,v1,x5,v3,v4,v5,()))) else
some (.inr (.inr (v0,v1,v2,false,v3,v4,v5,())))
def cF:T0H->Option (T0H⊕((Int×Unit)⊕T0R)):=λ(v0,v1,v2,v3)=>
bif decide (v2 < v1) then ((cM v2).bind λx0=>
(bY v0 x0).bind λx1=>
(dV x1.1 x1.2.1 x1.2.2.1 x1.2.2.2.1 x1.2.2.2.2).bind λ(x2,_)=>
bif (!x2) then (some (.inr (.inl (5,())))) else
let x3:=w64 (v2+1);
some (.inl (v0,v1,x3,v3))) else
some (.inr (.inr (v0,v1,v2,false,v3)))
def cE:T0H->Option (T0H⊕((Int×Unit)⊕T0R)):=λ(v0,v1,v2,v3,v4,v5,_)=>
bif decide (v2 < v1) then ((cM v2).bind λx0=>
(bY v0 x0).bind λx1=>
((dx x1.1).bind λ(x2,_)=>
bif x2 then (let x3:Int:=(bN v3.length);
bif decide (x1.2.2.2.2>=x3) then (some (v0,v1,v2,true,v3,v4,v5,())) else
bif (x1.1==15) then (let x4:Int:=(bN v4.length);
some (v0,v1,v2,(decide (x1.2.2.2.2>=x4)),v3,v4,v5,())) else
some (v0,v1,v2,false,v3,v4,v5,())) else
bif (x1.1==15) then (let x3:Int:=(bN v4.length);
some (v0,v1,v2,(decide (x1.2.2.2.2>=x3)),v3,v4,v5,())) else
some (v0,v1,v2,false,v3,v4,v5,()):Option (T0R)).bind λ(x2,x3,x4,x5,x6)=>
bif x5 then (some (.inr (.inl (6,())))) else
let x9:=w64 (x4+1);
some (.inl (x2,x3,x9,x6))) else
some (.inr (.inr (v0,v1,v2,false,v3,v4,v5,())))
def dU(a0:LDIn) (a1:List (Int)) (a2:List LI):Option (Int×Unit):=
(cT a1).bind λ(x0,_)=>
bif (!x0) then (some (1,())) else
let x1:=bN a2.length;
let x2:=bN a1.length;
bif (x1 != x2) then (some (1,())) else
let x3:=bN a2.length;
(match bR cy NN (a2,x3,0,a0,a1,a2,()) with
| none=>none
| some (.inl (x4,_))=>
some (x4,())
| some (.inr (x4,x5,x6,x7,x8,x9))=>
let ae:=bN x8.length;
bif decide (ae < 1) then (some (3,())) else
let af:=bN x8.length;
bif decide (af > 64) then (some (3,())) else
let ag:=bN x8.length;
(match bR cF NN (x8,ag,0,x8,x9) with
| none=>none
| some (.inl (ah,_))=>
some (ah,())
| some (.inr (ah,ai,aj,ak,am,an))=>
let aq:=bN am.length;
(match bR cE NN (am,aq,0,am,an) with
| none=>none
| some (.inl (av,_))=>
some (av,())
| some (.inr (av,_))=>
some (0,()))))
def qy:X.Cfg:=⟨E0,[gE,lE,gg],[],[⟨6,0,(qS [(pP 1 4),(sP 23 (.row false RW)),(sP 24 I64),(sP 25 I64)] [(4,(uL [eJ,RI,(.row false RW)]))]),[(.ret,(qS [(sP 2 I64)] [])),(.exit 0,(qS [(pP 1 4),(sP 23 (.row false RW)),(sP 24 I64),(sP 25 I64),(sP 26 .bool)] [(4,(uL [eJ,RI,(.row false RW)]))]))]⟩,⟨18,1,(qS [(pP 1 4),(sP 50 eJ),(sP 51 I64),(sP 52 I64)] [(4,(uL [eJ,RI,(.row false RW)]))]),[(.ret,(qS [(sP 2 I64)] [])),(.exit 2,(qS [(pP 1 4),(sP 50 eJ),(sP 51 I64),(sP 52 I64),(sP 53 .bool)] [(4,(uL [eJ,RI,(.row false RW)]))]))]⟩,⟨32,2,qE,[(.normal,(qS [(pP 1 4),(sP 61 eJ),(sP 62 I64),(sP 63 I64),(sP 90 .bool)] [(4,(uL [eJ,RI,(.row false RW)]))]))]⟩,⟨27,3,(qS [(pP 1 4),(sP 61 eJ),(sP 62 I64),(sP 63 I64)] [(4,(uL [eJ,RI,(.row false RW)]))]),[(.ret,(qS [(sP 2 I64)] [])),(.exit 4,(qS [(pP 1 4),(sP 61 eJ),(sP 62 I64),(sP 63 I64),(sP 64 .bool)] [(4,(uL [eJ,RI,(.row false RW)]))]))]⟩]⟩
def lD:Ctr:=⟨16,34,[.agg (uL [eJ,RI,(.row false RW)])],[],[⟨(uL [I64]),[.one],[]⟩],ap3 dU⟩
theorem qi:Lk 3 lD:=ls (C:=qy) rfl (aC i6 (aC qj (aC iy aN))) (by kernel_rfl) λh=>by kernel_rfl
def cH:T1p->Option (T1p⊕((Bool×Unit)⊕T1u)):=λ(v0,v1,v2,v3,v4,v5,v6,v7,v8,v9)=>
bif decide (v8 < v7) then ((match ((cM v8).bind λx0=>
(bY v6 x0).bind λx1=>
(cM v1).bind λx2=>
(bY v0 x2).bind λx3=>
let x4:=w64 (v2+x3);
bif decide (x4>=x1) then ((cM v8).bind λx5=>
(bY v0 x5).bind λx6=>
let x7:=w64 (x1+x6);
bif decide (x7>=v2) then (some (.inl (false,()))) else
some (.inr (v0,v1,v2,v3,v4,v5,v6,v7,v8,false,v9))) else
some (.inr (v0,v1,v2,v3,v4,v5,v6,v7,v8,false,v9)):Option ((Bool×Unit)⊕T1u)) with
| none=>none
| some (.inl (x0,_))=>
some (.inr (.inl (x0,())))
| some (.inr (x0,x1,x2,x3,x4,x5,x6,x7,x8,x9,ac))=>
let af:=w64 (x8+1);
some (.inl (x0,x1,x2,x3,x4,x5,x6,x7,af,ac)))) else
some (.inr (.inr (v0,v1,v2,v3,v4,v5,v6,v7,v8,false,v9)))
def cG:T0K->Option (T0K⊕((Bool×Unit)⊕(LI×T0J))):=λ(v0,v1,v2,v3,v4,v5,_)=>
bif decide (v3 < v2) then ((cM v3).bind λx0=>
(bY v1 x0).bind λx1=>
bif decide (x1 < 0) then (some (.inr (.inl (false,())))) else
(cM v3).bind λx2=>
(bY v0 x2).bind λx3=>
let x4:=w64 (512 - x3);
bif decide (x1 > x4) then (some (.inr (.inl (false,())))) else
(cM v3).bind λx5=>
bif (hJ 0 x5 v4.length) then let x6:List (Int):=(lN v4 0 (Nat.sub x5 0));
let x7:=bN x6.length;
(match bR cH NN (v0,v3,x1,v1,v2,v3,x6,x7,0,v4,v5,()) with
| none=>none
| some (.inl (x8,_))=>
some (.inr (.inl (x8,())))
| some (.inr (x8,x9,ac,ae,af,ag,ah,ai,aj,ak,am))=>
let ap:=w64 (ag+1);
some (.inl (x8,ae,af,ap,am))) else none) else
some (.inr (.inr (v0,v1,v2,v3,false,v4,v5,())))
def dA(a0:List (Int)) (a1:Int) (a2:List (Int)):Option (Bool×Unit):=
(cT a2).bind λ(x0,_)=>
bif (!x0) then (some (false,())) else
let x1:=bN a0.length;
let x2:=bN a2.length;
bif (x1 != x2) then (some (false,())) else
let x3:=bN a0.length;
(match bR cG NN (a2,a0,x3,0,a0,a1,()) with
| none=>none
| some (.inl (x4,_))=>
some (x4,())
| some (.inr (x4,_))=>
some (true,()))
def qB:X.Cfg:=⟨E0,[gE],[],[⟨18,0,qE,[(.ret,(qS [(sP 4 .bool)] [])),(.normal,(qS [(sP 1 RI),(pP 2 6),(sP 5 I64),(sP 6 I64),(sP 21 RI),(sP 22 I64),(sP 23 I64),(sP 42 RI),(sP 43 I64),(sP 44 I64),(sP 66 .bool)] [(6,(uL [RI,CW]))]))]⟩,⟨15,1,(qS [(sP 1 RI),(pP 2 6),(sP 5 I64),(sP 6 I64),(sP 21 RI),(sP 22 I64),(sP 23 I64),(sP 42 RI),(sP 43 I64),(sP 44 I64)] [(6,(uL [RI,CW]))]),[(.ret,(qS [(sP 4 .bool)] [])),(.exit 2,(qS [(sP 1 RI),(pP 2 6),(sP 5 I64),(sP 6 I64),(sP 21 RI),(sP 22 I64),(sP 23 I64),(sP 42 RI),(sP 43 I64),(sP 44 I64),(sP 45 .bool)] [(6,(uL [RI,CW]))]))]⟩,⟨6,2,(qS [(sP 1 RI),(pP 2 6),(sP 21 RI),(sP 22 I64),(sP 23 I64)] [(6,(uL [RI,CW]))]),[(.ret,(qS [(sP 4 .bool)] [])),(.exit 0,(qS [(sP 1 RI),(pP 2 6),(sP 21 RI),(sP 22 I64),(sP 23 I64),(sP 24 .bool)] [(6,(uL [RI,CW]))]))]⟩]⟩
def lG:Ctr:=⟨50,35,[.agg (uL [RI,CW]),shU RI],[],[⟨(uL [.bool]),[.one],[]⟩],ap3 dA⟩
theorem ql:Lk 2 lG:=ls (C:=qB) rfl (aC i6 aN) (by kernel_rfl) λh=>by kernel_rfl
def fB(a0:Int) (a1:Int):Option (Bool×Unit):=
some ((decide (a0<=2)),())
def qF:X.Cfg:=⟨E0,[],[],[]⟩
def jb:Ctr:=⟨88,36,[.agg (uL [CB,CW])],[],[⟨(uL [.bool]),[.one],[]⟩],ap2 fB⟩
theorem li:Lk 1 jb:=ls (C:=qF) rfl aN (by kernel_rfl) λh=>by kernel_rfl
def fW:LDCe×T01->Option ((LDCe×T01)⊕((Bool×Unit)⊕(LDCe×T09))):=λ(v0,v1,v2,_)=>
bif decide (v2 < v1) then ((cM v2).bind λx0=>
(bY v0 x0).bind λx1=>
(fB x1.1 x1.2).bind λ(x2,_)=>
bif (!x2) then (some (.inr (.inl (false,())))) else
let x3:=w64 (v2+1);
some (.inl (v0,v1,x3,()))) else
some (.inr (.inr (v0,v1,v2,false,())))
def gO(a0:LDCe):Option (Bool×Unit):=
let x0:=bN a0.length;
(match bR fW NN (a0,x0,0,()) with
| none=>none
| some (.inl (x1,_))=>
some (x1,())
| some (.inr (x1,_))=>
some (true,()))
def tE:X.Cfg:=⟨E0,[jb],[],[⟨3,0,(qS [(sP 5 ke),(sP 6 I64),(sP 7 I64)] []),[(.ret,(qS [(sP 2 .bool)] [])),(.exit 0,(qS [(sP 5 ke),(sP 6 I64),(sP 7 I64),(sP 8 .bool)] []))]⟩]⟩
def ot:Ctr:=⟨87,37,(uL [ke]),[],[⟨(uL [.bool]),[.one],[]⟩],ap1 gO⟩
theorem tz:Lk 2 ot:=ls (C:=tE) rfl (aC li aN) (by kernel_rfl) λh=>by kernel_rfl
def eQ:LDLn×Int×Int×T04->Option ((LDLn×Int×Int×T04)⊕((Bool×Unit)⊕(LDLn×Int×Int×Bool×T04))):=λ(v0,v1,v2,v3)=>
bif decide (v2 < v1) then ((cM v2).bind λx0=>
(bY v0 x0).bind λx1=>
bif (x1.1==(-1)) then (bif x1.2.1 then (some (.inr (.inl (false,())))) else
let x2:=bN x1.2.2.length;
bif decide (x2 > 0) then (some (.inr (.inl (false,())))) else
let x3:=w64 (v2+1);
some (.inl (v0,v1,x3,v3))) else
(bif decide (x1.1 < 0) then (some (v0,v1,v2,true,v3)) else
bif decide (x1.1>=128) then (some (v0,v1,v2,true,v3)) else
let x2:=Int.tmod x1.1 4;
bif (x2 != v2) then (some (v0,v1,v2,true,v3)) else
let x3:=bN x1.2.2.length;
bif (x3 != 4) then (some (v0,v1,v2,true,v3)) else
(gO x1.2.2).bind λ(x4,_)=>
some (v0,v1,v2,(!x4),v3):Option (LDLn×Int×Int×Bool×T04)).bind λ(x2,x3,x4,x5,x6)=>
bif x5 then (some (.inr (.inl (false,())))) else
let x8:=w64 (x4+1);
some (.inl (x2,x3,x8,x6))) else
some (.inr (.inr (v0,v1,v2,false,v3)))
def gw(a0:LDCe) (a1:LDLn):Option (Bool×Unit):=
(let x0:=bN a0.length;
bif (x0 != 512) then (some (true,a0,a1,())) else
let x1:=bN a1.length;
bif (x1 != 4) then (some (true,a0,a1,())) else
(gO a0).bind λ(x2,_)=>
some ((!x2),a0,a1,()):Option (Bool×T04)).bind λ(x0,x1,x2,_)=>
bif x0 then (some (false,())) else
let x3:=bN x2.length;
(match bR eQ NN (x2,x3,0,x1,x2,()) with
| none=>none
| some (.inl (x4,_))=>
some (x4,())
| some (.inr (x4,_))=>
some (true,()))
def qA:X.Cfg:=⟨E0,[ot],[],[⟨2,0,qE,[(.normal,(qS [(pP 1 4),(sP 20 .bool)] [(4,(uL [ke,m7]))]))]⟩,⟨16,1,qE,[(.normal,(qS [(sP 22 m7),(sP 23 I64),(sP 24 I64),(sP 66 .bool)] [(4,(uL [ke,m7]))]))]⟩,⟨6,2,(qS [(sP 22 m7),(sP 23 I64),(sP 24 I64)] [(4,(uL [ke,m7]))]),[(.ret,(qS [(sP 2 .bool)] [])),(.exit 0,(qS [(sP 22 m7),(sP 23 I64),(sP 24 I64),(sP 25 .bool)] [(4,(uL [ke,m7]))]))]⟩]⟩
def lF:Ctr:=⟨56,38,[.agg (uL [ke,m7])],[],[⟨(uL [.bool]),[.one],[]⟩],ap2 gw⟩
theorem qk:Lk 3 lF:=ls (C:=qA) rfl (aC tz aN) (by kernel_rfl) λh=>by kernel_rfl
def eP:T1n->Option (T1n⊕((Bool×Unit)⊕(LDCe×Int×Int×Bool×T0W))):=λ(v0,v1,v2,v3)=>
bif decide (v2 < v1) then ((cM v2).bind λx0=>
(bY v0 x0).bind λx1=>
(fB x1.1 x1.2).bind λ(x2,_)=>
bif (!x2) then (some (.inr (.inl (false,())))) else
let x3:=w64 (v2+1);
some (.inl (v0,v1,x3,v3))) else
some (.inr (.inr (v0,v1,v2,false,v3)))
def gv(a0:Int) (a1:LDCe) (a2:Int) (a3:Int) (a4:Int) (a5:Int) (a6:Int) (a7:Int):Option (Bool×Unit):=
let x0:=bN a1.length;
(match bR eP NN (a1,x0,0,a0,a1,a2,a3,a4,a5,a6,a7,()) with
| none=>none
| some (.inl (x1,_))=>
some (x1,())
| some (.inr (x1,x2,x3,x4,x5,x6,x7,x8,x9,ac,ae,af,_))=>
bif decide (x5>=0) then (bif decide (x5<=4) then (let ag:Int:=(bN x6.length);
bif (ag==8) then (bif decide (x7>=0) then (bif decide (x7<=255) then (bif decide (x8>=0) then (bif decide (x8<=1099511627776) then (bif (decide (x9>=(-1))) then (bif decide (x9<=255) then (bif (decide (ac>=(-1))) then (bif decide (ac<=255) then (bif decide (ae>=0) then (some ((decide (ae<=6)),())) else
some (false,())) else
some (false,())) else
some (false,())) else
some (false,())) else
some (false,())) else
some (false,())) else
some (false,())) else
some (false,())) else
some (false,())) else
some (false,())) else
some (false,())) else
some (false,()))
def qw:X.Cfg:=⟨E0,[jb],[],[⟨3,0,(qS [(pP 1 4),(sP 6 ke),(sP 7 I64),(sP 8 I64)] [(4,(uL [I64,ke,I64,I64,I64,I64,I64,CW]))]),[(.ret,(qS [(sP 2 .bool)] [])),(.exit 0,(qS [(pP 1 4),(sP 6 ke),(sP 7 I64),(sP 8 I64),(sP 9 .bool)] [(4,(uL [I64,ke,I64,I64,I64,I64,I64,CW]))]))]⟩]⟩
def lB:Ctr:=⟨57,39,[.agg (uL [I64,ke,I64,I64,I64,I64,I64,CW])],[],[⟨(uL [.bool]),[.one],[]⟩],ap8 gv⟩
theorem qg:Lk 2 lB:=ls (C:=qw) rfl (aC li aN) (by kernel_rfl) λh=>by kernel_rfl
def gk:T0Y->Option (T0Y⊕((Bool×Unit)⊕(LDTh×Int×Int×Bool×T0A))):=λ(v0,v1,v2,v3)=>
bif decide (v2 < v1) then ((cM v2).bind λx0=>
(bY v0 x0).bind λx1=>
(gv x1.1 x1.2.1 x1.2.2.1 x1.2.2.2.1 x1.2.2.2.2.1 x1.2.2.2.2.2.1 x1.2.2.2.2.2.2.1 x1.2.2.2.2.2.2.2).bind λ(x2,_)=>
bif (!x2) then (some (.inr (.inl (false,())))) else
let x3:=w64 (v2+1);
some (.inl (v0,v1,x3,v3))) else
some (.inr (.inr (v0,v1,v2,false,v3)))
def fm(a0:LDIn) (a1:List (Int)) (a2:List LI) (a3:List (Int)) (a4:Int) (a5:LDCe) (a6:LDLn) (a7:LDTh):Option (Bool×Unit):=
((dU a0 a1 a2).bind λ(x0,_)=>
bif (x0 != 0) then (some (true,a3,a4,a5,a6,a7,())) else
(dA a3 a4 a1).bind λ(x1,_)=>
bif (!x1) then (some (true,a3,a4,a5,a6,a7,())) else
(gw a5 a6).bind λ(x2,_)=>
bif (!x2) then (some (true,a3,a4,a5,a6,a7,())) else
let x3:=bN a7.length;
some ((x3 != 4),a3,a4,a5,a6,a7,()):Option (Bool×T0A)).bind λ(x0,x1,x2,x3,x4,x5,_)=>
bif x0 then (some (false,())) else
let x6:=bN x5.length;
(match bR gk NN (x5,x6,0,x1,x2,x3,x4,x5,()) with
| none=>none
| some (.inl (x7,_))=>
some (x7,())
| some (.inr (x7,_))=>
some (true,()))
def qv:X.Cfg:=⟨E0,[lD,lG,lF,lB],[],[⟨2,0,qE,[(.normal,(qS [(pP 3 8),(sP 29 .bool)] [(8,(uL [RI,CW,ke,m7,sR]))]))]⟩,⟨6,1,(qS [(sP 31 sR),(sP 32 I64),(sP 33 I64)] [(8,(uL [RI,CW,ke,m7,sR]))]),[(.ret,(qS [(sP 4 .bool)] [])),(.exit 0,(qS [(sP 31 sR),(sP 32 I64),(sP 33 I64),(sP 34 .bool)] [(8,(uL [RI,CW,ke,m7,sR]))]))]⟩]⟩
def lA:Ctr:=⟨22,40,[.agg (uL [eJ,RI,(.row false RW)]),.agg (uL [RI,CW,ke,m7,sR])],[],[⟨(uL [.bool]),[.one],[]⟩],ap8 fm⟩
theorem qf:Lk 4 lA:=ls (C:=qv) rfl (aC qi (aC ql (aC qk (aC qg aN)))) (by kernel_rfl) λh=>by kernel_rfl
def im(a0:LDCe) (a1:LDLn) (a2:Int):Option (T01):=
let x0:=w64 (Int.tdiv a2 4);
let x1:=Int.tmod x0 4;
(cM x1).bind λx2=>
(bY a1 x2).bind λx3=>
bif (x3.1==x0) then (let x4:Int:=(Int.tmod a2 4);
(cM x4).bind λx5=>
(bY x3.2.2 x5).bind λx6=>
some (x6.1,x6.2,())) else
(cM a2).bind λx4=>
(bY a0 x4).bind λx5=>
some (x5.1,x5.2,())
def sg:X.Cfg:=⟨E0,[],[],[]⟩
def mL:Ctr:=⟨89,41,[.agg (uL [ke,m7]),shU I64],[],[⟨(uL [CB,CW]),[.agg 2],[]⟩],ap3 im⟩
theorem rW:Lk 1 mL:=ls (C:=sg) rfl aN (by kernel_rfl) λh=>by kernel_rfl
def ck:T1a->Option (T1a⊕((Bool×T01)⊕(LI×T15))):=λ(v0,v1,v2,v3,v4,v5)=>
bif decide (v4 < v3) then ((match ((cM v4).bind λx0=>
(bY v2 x0).bind λx1=>
bif decide (v1>=x1) then ((cM v4).bind λx2=>
(bY v0 x2).bind λx3=>
let x4:=w64 (x1+x3);
bif decide (v1 < x4) then (let x5:Int:=(w64 (v1 - x1));
some (.inl (true,v4,x5,()))) else
some (.inr (v0,v1,v4,x1,v2,v3,v4,false,v5))) else
some (.inr (v0,v1,v4,x1,v2,v3,v4,false,v5)):Option ((Bool×T01)⊕(LI×Int×Int×T15))) with
| none=>none
| some (.inl (x0,x1,x2,_))=>
some (.inr (.inl (x0,x1,x2,())))
| some (.inr (x0,x1,x2,x3,x4,x5,x6,x7,x8))=>
let af:=w64 (x6+1);
some (.inl (x0,x1,x4,x5,af,x8)))) else
some (.inr (.inr (v0,v1,v2,v3,v4,false,v5)))
def fw(a0:List (Int)) (a1:Int) (a2:List (Int)) (a3:Int):Option (T09):=
let x0:=bN a0.length;
(match bR ck NN (a2,a3,a0,x0,0,a0,a1,0,0,()) with
| none=>none
| some (.inl (x1,x2,x3,_))=>
some (x2,x3,x1,())
| some (.inr (x1,x2,x3,_))=>
some (0,0,false,()))
def nY:X.Cfg:=⟨E0,[],[],[⟨6,0,qE,[(.ret,(qS [(pP 6 14),(sP 7 .bool)] [(14,(uL [I64,I64]))])),(.normal,(qS [(sP 1 RI),(sP 2 I64),(pP 6 14),(sP 8 I64),(sP 9 I64),(sP 11 RI),(sP 12 I64),(sP 13 I64),(sP 30 .bool)] [(8,(uL [RI,CW])),(14,(uL [I64,I64]))]))]⟩,⟨3,1,(qS [(sP 1 RI),(sP 2 I64),(pP 6 14),(sP 11 RI),(sP 12 I64),(sP 13 I64)] [(8,(uL [RI,CW])),(14,(uL [I64,I64]))]),[(.ret,(qS [(pP 6 14),(sP 7 .bool)] [(14,(uL [I64,I64]))])),(.exit 0,(qS [(sP 1 RI),(sP 2 I64),(pP 6 14),(sP 11 RI),(sP 12 I64),(sP 13 I64),(sP 14 .bool)] [(8,(uL [RI,CW])),(14,(uL [I64,I64]))]))]⟩]⟩
def jN:Ctr:=⟨90,42,[.agg (uL [RI,CW]),shU RI,shU I64],[],[⟨(uL [I64,I64,.bool]),[.agg 2,.one],[]⟩],ap4 fw⟩
theorem nT:Lk 1 jN:=ls (C:=nY) rfl aN (by kernel_rfl) λh=>by kernel_rfl
def fA(a0:List (Int)) (a1:Int) (a2:List (Int)) (a3:Int) (a4:Int):Option (T0l):=
bif (a3==0) then (some (0,a4,0,0,())) else
bif (a3==2) then (let x0:Int:=(wk .u16 (a4 - a1));
some (2,x0,0,0,())) else
let x0:=wk .i64 a4;
(fw a0 a1 a2 x0).bind λ(x1,x2,x3,_)=>
bif x3 then (some (1,0,x1,x2,())) else
let x4:=wk .i64 a4;
some (1,0,(-1),x4,())
def qC:X.Cfg:=⟨E0,[jN],[],[]⟩
def ja:Ctr:=⟨59,43,[.agg (uL [RI,CW]),shU RI,.agg (uL [CB,CW])],[],[⟨(uL [CB,CW,I64,I64]),[.agg 4],[]⟩],ap5 fA⟩
theorem lh:Lk 2 ja:=ls (C:=qC) rfl (aC nT aN) (by kernel_rfl) λh=>by kernel_rfl
def dz:T1x->Option (T1x⊕(LI×Int×LI×Int×Int×Int×Int×Bool×T0G)):=λ(v0,v1,v2,v3,v4,v5,v6,v7,v8,v9,v10,v11,v12,_)=>
bif decide (v6 < v5) then ((cM v1).bind λx0=>
(bY v9 x0).bind λx1=>
let x2:=w64 (x1+v6);
(im v7 v8 x2).bind λ(x3,x4,_)=>
(fA v9 v10 v0 x3 x4).bind λ(x5,x6,x7,x8,_)=>
let x9:LDCn:=[(x5,(x6,(x7,x8)))];
bif (cx 24 v12.length x9.length) then let ac:LDCn:=(List.append v12 x9);
let ae:=w64 (v6+1);
some (.inl (v0,v1,v2,v3,v4,v5,ae,v7,v8,v9,v10,v11,ac,())) else none) else
some (.inr (v0,v1,v2,v3,v4,v5,v6,false,v7,v8,v9,v10,v11,v12,()))
def dy:T1b->Option (T1b⊕(LI×LI×Int×Int×Bool×T0y)):=λ(v0,v1,v2,v3,v4,v5,v6,v7,v8,_)=>
bif decide (v3 < v2) then ((cM v3).bind λx0=>
(bY v1 x0).bind λx1=>
(bR dz NN (v0,v3,v1,v2,v3,x1,0,v4,v5,v6,v7,v8,[],())).bind λ(x2,x3,x4,x5,x6,x7,x8,x9,ac,ae,af,ag,ah,ai,_)=>
bif (cx 24 ah.length (List.length [ai])) then let aj:List LDCn:=(List.append ah [ai]);
let ak:=w64 (x6+1);
some (.inl (x2,x4,x5,ak,ac,ae,af,ag,aj,())) else none) else
some (.inr (v0,v1,v2,v3,false,v4,v5,v6,v7,v8,()))
def fv(a0:LDCe) (a1:LDLn) (a2:List (Int)) (a3:Int) (a4:List (Int)):Option (LLCn×Unit):=
let x0:=bN a4.length;
(bR dy NN (a4,a4,x0,0,a0,a1,a2,a3,[],())).bind λ(x1,x2,x3,x4,x5,x6,x7,x8,x9,ac,_)=>
some (ac,())
def nX:X.Cfg:=⟨E0,[mL,ja],[(41,(.row true KCn)),(42,(.row true KCn))],[⟨12,0,(qS [(sP 2 RI),(pP 3 8),(pP 4 10),(7,.pk ⟨17,0,[]⟩ [0,0]),(sP 8 I64),(10,.pk ⟨23,0,[]⟩ [0,0]),(sP 12 RI),(sP 13 I64),(sP 14 I64),(sP 19 I64),(sP 20 I64)] [(8,(uL [ke,m7])),(10,(uL [RI,CW])),(17,(uL [(.row true (.row true KCn))])),(23,(uL [(.row true KCn)]))]),[(.exit 2,(qS [(sP 2 RI),(pP 3 8),(pP 4 10),(7,.pk ⟨17,0,[]⟩ [0,0]),(sP 8 I64),(10,.pk ⟨23,0,[]⟩ [0,0]),(sP 12 RI),(sP 13 I64),(sP 14 I64),(sP 19 I64),(sP 20 I64),(sP 21 .bool)] [(8,(uL [ke,m7])),(10,(uL [RI,CW])),(17,(uL [(.row true (.row true KCn))])),(23,(uL [(.row true KCn)]))]))]⟩,(lx 4 1 [(sP 2 RI),(pP 3 8),(pP 4 10),(7,.pk ⟨17,0,[]⟩ [0,0]),(sP 12 RI),(sP 13 I64),(sP 14 I64)] [(8,(uL [ke,m7])),(10,(uL [RI,CW])),(17,(uL [(.row true (.row true KCn))]))] 15)]⟩
def jM:Ctr:=⟨58,44,[.agg (uL [ke,m7]),.agg (uL [RI,CW]),shU RI],[],[⟨(uL [(.row true (.row true KCn))]),[.one],[]⟩],ap5 fv⟩
theorem nS:Lk 3 jM:=ls (C:=nX) rfl (aC rW (aC lh aN)) (by kernel_rfl) λh=>by kernel_rfl
def d5:T1D->Option (T1D⊕(LDTh×Int×Int×LDCe×Int×Int×Bool×T1C)):=λ(v0,v1,v2,v3,v4,v5,v6,v7,v8,v9,v10,v11,v12,v13,v14,v15,v16,v17,v18,v19,v20,v21,v22,v23,v24,v25,v26,v27,v28,v29,v30,v31,v32,v33,_)=>
bif decide (v5 < v4) then ((cM v5).bind λx0=>
(bY v3 x0).bind λx1=>
(fA v9 v10 v7 x1.1 x1.2).bind λ(x2,x3,x4,x5,_)=>
let x6:LDCn:=[(x2,(x3,(x4,x5)))];
bif (cx 24 v33.length x6.length) then let x7:LDCn:=(List.append v33 x6);
let x8:=w64 (v5+1);
some (.inl (v0,v1,v2,v3,v4,x8,v6,v7,v8,v9,v10,v11,v12,v13,v14,v15,v16,v17,v18,v19,v20,v21,v22,v23,v24,v25,v26,v27,v28,v29,v30,v31,v32,x7,())) else none) else
some (.inr (v0,v1,v2,v3,v4,v5,false,v6,v7,v8,v9,v10,v11,v12,v13,v14,v15,v16,v17,v18,v19,v20,v21,v22,v23,v24,v25,v26,v27,v28,v29,v30,v31,v32,v33,()))
def dZ:T1z->Option (T1z⊕(LDTh×Int×Int×Bool×T1t)):=λ(v0,v1,v2,v3,v4,v5,v6,v7,v8,v9,v10,v11,v12,v13,v14,_)=>
bif decide (v2 < v1) then ((cM v2).bind λx0=>
(bY v0 x0).bind λx1=>
let x2:=bN x1.2.1.length;
(bR d5 NN (v0,v1,v2,x1.2.1,x2,0,v3,v4,v5,v6,v7,v8,v9,v10,v11,v12,v13,v14,x1.1,x1.2.1,x1.2.2.1,x1.2.2.2.1,x1.2.2.2.2.1,x1.2.2.2.2.2.1,x1.2.2.2.2.2.2.1,x1.2.2.2.2.2.2.2,x1.1,x1.2.2.1,x1.2.2.2.1,x1.2.2.2.2.1,x1.2.2.2.2.2.1,x1.2.2.2.2.2.2.1,x1.2.2.2.2.2.2.2,[],())).bind λ(x3,x4,x5,x6,x7,x8,x9,ac,ae,af,ag,ah,ai,aj,ak,am,an,ap,aq,av,ax,ay,az,aA,aB,aD,aE,aF,aG,aH,aI,aJ,aK,aL,aM,_)=>
let aO:LDTs:=[(aF,(aG,(aH,(aI,(aJ,(aK,(aL,aM)))))))];
bif (cx 80 aq.length aO.length) then let aP:LDTs:=(List.append aq aO);
let aQ:=w64 (x5+1);
some (.inl (x3,x4,aQ,ac,ae,af,ag,ah,ai,aj,ak,am,an,ap,aP,())) else none) else
some (.inr (v0,v1,v2,false,v3,v4,v5,v6,v7,v8,v9,v10,v11,v12,v13,v14,()))
def fi(a0:LDIn) (a1:List (Int)) (a2:List LI) (a3:List (Int)) (a4:Int) (a5:LDCe) (a6:LDLn) (a7:LDTh):Option (T08):=
(fv a5 a6 a3 a4 a1).bind λ(x0,_)=>
let x1:=bN a7.length;
(bR dZ NN (a7,x1,0,a0,a1,a2,a3,a4,a5,a6,a7,(),(),x0,[],())).bind λ(x2,x3,x4,x5,x6,x7,x8,x9,ac,ae,af,ag,ah,ai,aj)=>
some (aj)
def qu:X.Cfg:=⟨E0,[jM,ja],[(63,CC),(64,CC)],[⟨12,0,(qS [(pP 2 6),(pP 3 8),(pP 4 10),(pP 5 12),(pP 8 18),(sP 20 sR),(sP 21 I64),(sP 22 I64),(sP 42 ke),(sP 43 I64),(sP 44 I64)] [(6,(uL [eJ,RI,(.row false RW)])),(8,(uL [RI,CW,ke,m7,sR])),(10,(uL [N1,N1])),(12,(uL [(.row true (.row true KCn)),(.row true CC)])),(16,(uL [I64,ke,I64,I64,I64,I64,I64,CW])),(18,(uL [I64,I64,I64,I64,I64,I64,CW,(.row true KCn)]))]),[(.exit 2,(qS [(pP 2 6),(pP 3 8),(pP 4 10),(pP 5 12),(pP 8 18),(sP 20 sR),(sP 21 I64),(sP 22 I64),(sP 42 ke),(sP 43 I64),(sP 44 I64),(sP 45 .bool)] [(6,(uL [eJ,RI,(.row false RW)])),(8,(uL [RI,CW,ke,m7,sR])),(10,(uL [N1,N1])),(12,(uL [(.row true (.row true KCn)),(.row true CC)])),(16,(uL [I64,ke,I64,I64,I64,I64,I64,CW])),(18,(uL [I64,I64,I64,I64,I64,I64,CW,(.row true KCn)]))]))]⟩,(lx 4 1 [(pP 2 6),(pP 3 8),(pP 4 10),(pP 5 12),(sP 20 sR),(sP 21 I64),(sP 22 I64)] [(6,(uL [eJ,RI,(.row false RW)])),(8,(uL [RI,CW,ke,m7,sR])),(10,(uL [N1,N1])),(12,(uL [(.row true (.row true KCn)),(.row true CC)]))] 23)]⟩
def lz:Ctr:=⟨23,45,[.agg (uL [eJ,RI,(.row false RW)]),.agg (uL [RI,CW,ke,m7,sR])],[],[⟨(uL [(.row true (.row true KCn)),(.row true CC)]),[.agg 2],[]⟩],ap8 fi⟩
theorem qe:Lk 4 lz:=ls (C:=qu) rfl (aC nS (aC lh aN)) (by kernel_rfl) λh=>by kernel_rfl
def dH:LDCn×LDCn×T01->Option ((LDCn×LDCn×T01)⊕((Bool×Unit)⊕(LDCn×LDCn×T09))):=λ(v0,v1,v2,v3,_)=>
bif decide (v3 < v2) then ((cM v3).bind λx0=>
(bY v0 x0).bind λx1=>
(cM v3).bind λx2=>
(bY v1 x2).bind λx3=>
let x4:Bool:=(!((x1.1==x3.1) && ((x1.2.1==x3.2.1) && ((x1.2.2.1==x3.2.2.1) && ((x1.2.2.2==x3.2.2.2) && true)))));
bif x4 then (some (.inr (.inl (false,())))) else
let x5:=w64 (v3+1);
some (.inl (v0,v1,v2,x5,()))) else
some (.inr (.inr (v0,v1,v2,v3,false,())))
def dM(a0:LDCn) (a1:LDCn):Option (Bool×Unit):=
let x0:=bN a0.length;
let x1:=bN a1.length;
bif (x0 != x1) then (some (false,())) else
let x2:=bN a0.length;
(match bR dH NN (a0,a1,x2,0,()) with
| none=>none
| some (.inl (x3,_))=>
some (x3,())
| some (.inr (x3,_))=>
some (true,()))
def mf:X.Cfg:=⟨E0,[],[],[⟨6,0,(qS [(sP 0 kS),(sP 1 kS),(sP 12 I64),(sP 13 I64)] []),[(.ret,(qS [(sP 4 .bool)] [])),(.exit 0,(qS [(sP 0 kS),(sP 1 kS),(sP 12 I64),(sP 13 I64),(sP 14 .bool)] []))]⟩]⟩
def iW:Ctr:=⟨60,46,(uL [kS,kS]),[],[⟨(uL [.bool]),[.one],[]⟩],ap2 dM⟩
theorem md:Lk 1 iW:=ls (C:=mf) rfl aN (by kernel_rfl) λh=>by kernel_rfl
def fk:T0F->Option (T0F⊕((Bool×Unit)⊕T0O)):=λ(v0,v1,v2,v3,v4,v5,_)=>
bif decide (v1 < v0) then ((cM v1).bind λx0=>
(bY v2 x0).bind λx1=>
(cM v1).bind λx2=>
(bY v4 x2).bind λx3=>
(dM x1 x3).bind λ(x4,_)=>
bif (!x4) then (some (.inr (.inl (false,())))) else
let x5:=w64 (v1+1);
some (.inl (v0,x5,v2,v3,v4,v5,()))) else
some (.inr (.inr (v0,v1,false,v2,v3,v4,v5,())))
def fj:T0T->Option (T0T⊕((Bool×Unit)⊕T0Z)):=λ(v0,v1,v2,v3,v4,v5,v6,_)=>
bif decide (v2 < v1) then ((cM v2).bind λx0=>
(bY v0 x0).bind λx1=>
(cM v2).bind λx2=>
(bY v6 x2).bind λx3=>
(bif (x1.1 != x3.1) then (some (v0,v1,v2,true,v3,v4,v5,v6,())) else
bif (x1.2.1 != x3.2.1) then (some (v0,v1,v2,true,v3,v4,v5,v6,())) else
bif (x1.2.2.1 != x3.2.2.1) then (some (v0,v1,v2,true,v3,v4,v5,v6,())) else
bif (x1.2.2.2.1 != x3.2.2.2.1) then (some (v0,v1,v2,true,v3,v4,v5,v6,())) else
bif (x1.2.2.2.2.1 != x3.2.2.2.2.1) then (some (v0,v1,v2,true,v3,v4,v5,v6,())) else
bif (x1.2.2.2.2.2.1 != x3.2.2.2.2.2.1) then (some (v0,v1,v2,true,v3,v4,v5,v6,())) else
bif (x1.2.2.2.2.2.2.1 != x3.2.2.2.2.2.2.1) then (some (v0,v1,v2,true,v3,v4,v5,v6,())) else
(dM x1.2.2.2.2.2.2.2 x3.2.2.2.2.2.2.2).bind λ(x4,_)=>
some (v0,v1,v2,(!x4),v3,v4,v5,v6,()):Option (T0Z)).bind λ(x4,x5,x6,x7,x8)=>
bif x7 then (some (.inr (.inl (false,())))) else
let af:=w64 (x6+1);
some (.inl (x4,x5,af,x8))) else
some (.inr (.inr (v0,v1,v2,false,v3,v4,v5,v6,())))
def ii(a0:List LDCn) (a1:LDTs) (a2:List LDCn) (a3:LDTs):Option (Bool×Unit):=
let x0:=bN a0.length;
let x1:=bN a2.length;
bif (x0 != x1) then (some (false,())) else
let x2:=bN a1.length;
let x3:=bN a3.length;
bif (x2 != x3) then (some (false,())) else
let x4:=bN a0.length;
(match bR fk NN (x4,0,a0,a1,a2,a3,()) with
| none=>none
| some (.inl (x5,_))=>
some (x5,())
| some (.inr (x5,x6,x7,x8,x9,ac))=>
let af:=bN x9.length;
(match bR fj NN (x9,af,0,x8,x9,ac) with
| none=>none
| some (.inl (ag,_))=>
some (ag,())
| some (.inr (ag,_))=>
some (true,())))
def sc:X.Cfg:=⟨E0,[iW],[],[⟨6,0,(qS [(pP 2 6),(pP 3 8),(sP 27 I64),(sP 28 I64)] [(6,(uL [(.row false kS),(.row false rb)])),(8,(uL [(.row false kS),(.row false rb)]))]),[(.ret,(qS [(sP 4 .bool)] [])),(.exit 0,(qS [(pP 2 6),(pP 3 8),(sP 27 I64),(sP 28 I64),(sP 29 .bool)] [(6,(uL [(.row false kS),(.row false rb)])),(8,(uL [(.row false kS),(.row false rb)]))]))]⟩,⟨21,1,qE,[(.normal,(qS [(pP 3 8),(sP 45 (.row false rb)),(sP 46 I64),(sP 47 I64),(sP 111 .bool)] [(6,(uL [(.row false kS),(.row false rb)])),(8,(uL [(.row false kS),(.row false rb)]))]))]⟩,⟨15,2,(qS [(pP 3 8),(sP 45 (.row false rb)),(sP 46 I64),(sP 47 I64)] [(6,(uL [(.row false kS),(.row false rb)])),(8,(uL [(.row false kS),(.row false rb)]))]),[(.ret,(qS [(sP 4 .bool)] [])),(.exit 2,(qS [(pP 3 8),(sP 45 (.row false rb)),(sP 46 I64),(sP 47 I64),(sP 48 .bool)] [(6,(uL [(.row false kS),(.row false rb)])),(8,(uL [(.row false kS),(.row false rb)]))]))]⟩]⟩
def mJ:Ctr:=⟨24,47,[.agg (uL [(.row false kS),(.row false rb)]),.agg (uL [(.row false kS),(.row false rb)])],[],[⟨(uL [.bool]),[.one],[]⟩],ap4 ii⟩
theorem rU:Lk 2 mJ:=ls (C:=sc) rfl (aC md aN) (by kernel_rfl) λh=>by kernel_rfl
def dY:LDTs×Int×Int×LLCn×LDTs×LLCn×Unit->Option ((LDTs×Int×Int×LLCn×LDTs×LLCn×Unit)⊕(LDTs×Int×Int×Bool×LLCn×LDTs×LLCn×Unit)):=λ(v0,v1,v2,v3,v4,v5,_)=>
bif decide (v2 < v1) then ((cM v2).bind λx0=>
(bY v0 x0).bind λx1=>
let x2:List LDCn:=[x1.2.2.2.2.2.2.2];
bif (cx 24 v5.length x2.length) then let x3:List LDCn:=(List.append v5 x2);
let x4:=w64 (v2+1);
some (.inl (v0,v1,x4,v3,v4,x3,())) else none) else
some (.inr (v0,v1,v2,false,v3,v4,v5,()))
def gu(a0:List LDCn) (a1:LDTs):Option (LLCn×Unit):=
bif (cx 24 0 a0.length) then let x0:List LDCn:=(List.append [] a0);
let x1:=bN a1.length;
(bR dY NN (a1,x1,0,a0,a1,x0,())).bind λ(x2,x3,x4,x5,x6,x7,x8,_)=>
some (x8,()) else none
def qt:X.Cfg:=⟨E0,[],[(8,(.row true KCn)),(19,(.row true KCn)),(20,(.row true KCn))],[(lx 4 0 [(3,.pk ⟨9,0,[]⟩ [0,0]),(sP 10 (.row false rb)),(sP 11 I64),(sP 12 I64)] [(4,(uL [(.row false kS),(.row false rb)])),(9,(uL [(.row true kS)]))] 13)]⟩
def ly:Ctr:=⟨61,48,[.agg (uL [(.row false kS),(.row false rb)])],[],[⟨(uL [(.row true kS)]),[.one],[]⟩],ap2 gu⟩
theorem qd:Lk 1 ly:=ls (C:=qt) rfl aN (by kernel_rfl) λh=>by kernel_rfl
def fh:Int×Int×LDCn×T0d->Option ((Int×Int×LDCn×T0d)⊕((Bool×Unit)⊕T0P)):=λ(v0,v1,v2,v3,v4,v5,_)=>
bif decide (v4 < v3) then ((match ((cM v4).bind λx0=>
(bY v2 x0).bind λx1=>
bif (x1.1==1) then (bif (x1.2.2.1==(-1)) then (some (.inl (true,()))) else
some (.inr (v0,v1,v2,v3,v4,false,v5,()))) else
some (.inr (v0,v1,v2,v3,v4,false,v5,())):Option ((Bool×Unit)⊕T0P)) with
| none=>none
| some (.inl (x0,_))=>
some (.inr (.inl (x0,())))
| some (.inr (x0,x1,x2,x3,x4,x5,x6,_))=>
let x7:=w64 (x4+1);
some (.inl (x0,x1,x2,x3,x7,x6,())))) else
some (.inr (.inr (v0,v1,v2,v3,v4,false,v5,())))
def ff:T0d->Option (T0d⊕((Bool×Unit)⊕T0k)):=λ(v0,v1,v2,_)=>
bif decide (v1 < v0) then ((cM v1).bind λx0=>
(bY v2 x0).bind λx1=>
(bY v2 x0).bind λx2=>
let x3:=bN x2.length;
(match bR fh NN (v0,v1,x2,x3,0,v2,()) with
| none=>none
| some (.inl (x4,_))=>
some (.inr (.inl (x4,())))
| some (.inr (x4,x5,x6,x7,x8,x9,ac,_))=>
let ae:=w64 (x5+1);
some (.inl (x4,ae,ac,())))) else
some (.inr (.inr (v0,v1,false,v2,())))
def ig(a0:List LDCn) (a1:LDTs):Option (Bool×Unit):=
(gu a0 a1).bind λ(x0,_)=>
let x1:=bN x0.length;
(match bR ff NN (x1,0,x0,()) with
| none=>none
| some (.inl (x2,_))=>
some (x2,())
| some (.inr (x2,_))=>
some (false,()))
def sb:X.Cfg:=⟨E0,[ly],[],[⟨12,0,qE,[(.ret,(qS [(sP 2 .bool)] [])),(.normal,(qS [(8,.pk ⟨19,0,[]⟩ [0,0]),(sP 9 I64),(sP 10 I64),(sP 14 kS),(sP 15 I64),(sP 16 I64),(sP 27 .bool)] [(19,(uL [(.row true kS)]))]))]⟩,⟨9,1,(qS [(8,.pk ⟨19,0,[]⟩ [0,0]),(sP 9 I64),(sP 10 I64),(sP 14 kS),(sP 15 I64),(sP 16 I64)] [(19,(uL [(.row true kS)]))]),[(.ret,(qS [(sP 2 .bool)] [])),(.exit 2,(qS [(8,.pk ⟨19,0,[]⟩ [0,0]),(sP 9 I64),(sP 10 I64),(sP 14 kS),(sP 15 I64),(sP 16 I64),(sP 17 .bool)] [(19,(uL [(.row true kS)]))]))]⟩,⟨3,2,(qS [(8,.pk ⟨19,0,[]⟩ [0,0]),(sP 9 I64),(sP 10 I64)] [(19,(uL [(.row true kS)]))]),[(.ret,(qS [(sP 2 .bool)] [])),(.exit 0,(qS [(8,.pk ⟨19,0,[]⟩ [0,0]),(sP 9 I64),(sP 10 I64),(sP 11 .bool)] [(19,(uL [(.row true kS)]))]))]⟩]⟩
def mI:Ctr:=⟨25,49,[.agg (uL [(.row false kS),(.row false rb)])],[],[⟨(uL [.bool]),[.one],[]⟩],ap2 ig⟩
theorem rT:Lk 2 mI:=ls (C:=sb) rfl (aC qd aN) (by kernel_rfl) λh=>by kernel_rfl
def mS:T0p->Option (T0p⊕(LDTh×Int×Int×T00)):=λ(v0,v1,v2,v3,_)=>
bif decide (v2 < v1) then (((cM v2).bind λx0=>
(bY v0 x0).bind λx1=>
bif (x1.1==1) then (bif (cx 8 v3.length (List.length [v2])) then let x2:List (Int):=(List.append v3 [v2]);
some (v0,v1,v2,x2,()) else none) else
some (v0,v1,v2,v3,()):Option (T0p)).bind λ(x0,x1,x2,x3,_)=>
let x4:=w64 (x2+1);
some (.inl (x0,x1,x4,x3,()))) else
some (.inr (v0,v1,v2,false,v3,()))
def i3(a0:LDTh):Option (LI×Unit):=
let x0:=bN a0.length;
(bR mS NN (a0,x0,0,[],())).bind λ(x1,x2,x3,x4,x5,_)=>
some (x5,())
def qx:X.Cfg:=⟨E0,[],[],[⟨7,0,qE,[(.normal,(qS [(3,.pk ⟨9,0,[]⟩ [0,0]),(sP 6 sR),(sP 7 I64),(sP 8 I64)] [(9,(uL [(.row true I64)]))]))]⟩,(lx 4 1 [(3,.pk ⟨9,0,[]⟩ [0,0]),(sP 6 sR),(sP 7 I64),(sP 8 I64)] [(9,(uL [(.row true I64)]))] 9)]⟩
def lC:Ctr:=⟨26,50,(uL [sR]),[],[⟨(uL [(.row true I64)]),[.one],[]⟩],ap1 i3⟩
theorem qh:Lk 1 lC:=ls (C:=qx) rfl aN (by kernel_rfl) λh=>by kernel_rfl
def ej:LI×T0c->Option ((LI×T0c)⊕(LI×Int×Int×T00)):=λ(v0,v1,v2,v3,_)=>
bif decide (v2 < v1) then ((cM v2).bind λx0=>
(bY v0 x0).bind λx1=>
let x2:Int:=(shR .shr .u16 x1 8);
let x3:=wk .u8 x2;
let x4:=wk .u8 x1;
let x5:List (Int):=[x3,x4];
bif (cx 1 v3.length x5.length) then let x6:List (Int):=(List.append v3 x5);
let x7:=w64 (v2+1);
some (.inl (v0,v1,x7,x6,())) else none) else
some (.inr (v0,v1,v2,false,v3,()))
def ie(a0:List (Int)):Option (LI×Unit):=
let x0:=bN a0.length;
(bR ej NN (a0,x0,0,[],())).bind λ(x1,x2,x3,x4,x5,_)=>
some (x5,())
def r9:X.Cfg:=⟨E0,[],[],[(lx 4 0 [(3,.pk ⟨9,0,[]⟩ [0,0]),(sP 6 RW),(sP 7 I64),(sP 8 I64)] [(9,(uL [(.row true CB)]))] 9)]⟩
def mH:Ctr:=⟨62,51,(uL [RW]),[],[⟨(uL [(.row true CB)]),[.one],[]⟩],ap1 ie⟩
theorem rS:Lk 1 mH:=ls (C:=r9) rfl aN (by kernel_rfl) λh=>by kernel_rfl
def fY(a0:Int) (a1:Int) (a2:Int) (a3:Int) (a4:Int):Option (T06):=
(dC a0 a1 a2 a3 a4).bind λ(x0,_)=>
bif (!x0) then (some ([],1,())) else
let x1:=wk .u8 a0;
let x2:=wk .u8 a1;
let x3:=wk .u8 a2;
let x4:=wk .u8 a3;
let x5:Int:=(shR .shr .i64 a4 8);
let x6:=wk .u8 x5;
let x7:=wk .u8 a4;
let x8:List (Int):=[x1,x2,x3,x4,x6,x7];
some (x8,0,())
def oS:X.Cfg:=⟨E0,[gF],[],[]⟩
def kC:Ctr:=⟨63,52,[.agg (uL [I64,I64,I64,I64,I64])],[],[⟨(uL [(.row true CB),I64]),[.one,.one],[]⟩],ap5 fY⟩
theorem oK:Lk 4 kC:=ls (C:=oS) rfl (aC i7 aN) (by kernel_rfl) λh=>by kernel_rfl
def c7:LI×T0E->Option ((LI×T0E)⊕(LI×T0N)):=λ(v0,v1,v2,v3,v4,v5,v6,_)=>
bif decide (v2 < v1) then ((cM v2).bind λx0=>
(bY v0 x0).bind λx1=>
let x2:=wk .u8 x1;
(cM v2).bind λx3=>
(bY v5 x3).bind λx4=>
let x5:=bN x4.length;
let x6:=wk .u8 x5;
let x7:List (Int):=[x2,x6];
bif (cx 1 v6.length x7.length) then let x8:List (Int):=(List.append v6 x7);
(cM v2).bind λx9=>
(bY v5 x9).bind λac=>
(ie ac).bind λ(ae,_)=>
bif (cx 1 x8.length ae.length) then let af:List (Int):=(List.append x8 ae);
let ag:=w64 (v2+1);
some (.inl (v0,v1,ag,v3,v4,v5,af,())) else none else none) else
some (.inr (v0,v1,v2,false,v3,v4,v5,v6,()))
def cZ:T0S->Option (T0S⊕(LDIn×T0N)):=λ(v0,v1,v2,v3,v4,v5,v6,_)=>
bif decide (v2 < v1) then ((cM v2).bind λx0=>
(bY v0 x0).bind λx1=>
(fY x1.1 x1.2.1 x1.2.2.1 x1.2.2.2.1 x1.2.2.2.2).bind λ(x2,x3,_)=>
bif (cx 1 v6.length x2.length) then let x4:List (Int):=(List.append v6 x2);
let x5:=w64 (v2+1);
some (.inl (v0,v1,x5,v3,v4,v5,x4,())) else none) else
some (.inr (v0,v1,v2,false,v3,v4,v5,v6,()))
def d6(a0:LDIn) (a1:List (Int)) (a2:List LI):Option (T06):=
(cD a0 a1 a2).bind λ(x0,_)=>
bif (x0 != 0) then (some ([],x0,())) else
let x1:=bN a1.length;
let x2:=wk .u8 x1;
let x3:=bN a1.length;
(bR c7 NN (a1,x3,0,a0,a1,a2,[x2],())).bind λ(x4,x5,x6,x7,x8,x9,ac,ae,_)=>
let af:=bN x8.length;
let ag:=wk .u8 af;
bif (cx 1 ae.length (List.length [ag])) then let ah:List (Int):=(List.append ae [ag]);
let ai:=bN x8.length;
(bR cZ NN (x8,ai,0,x8,x9,ac,ah,())).bind λ(aj,ak,am,an,ap,aq,av,ax,_)=>
some (ax,0,()) else none
def mY:X.Cfg:=⟨E0,[eq,mH,kC],[],[(lx 8 0 [(pP 1 4),(5,.pk ⟨13,0,[]⟩ [0,0]),(sP 23 RI),(sP 24 I64),(sP 25 I64)] [(4,(uL [eJ,RI,(.row false RW)])),(13,(uL [(.row true CB)]))] 26),⟨17,1,(qS [(5,.pk ⟨13,0,[]⟩ [0,0]),(sP 59 eJ),(sP 60 I64),(sP 61 I64)] [(4,(uL [eJ,RI,(.row false RW)])),(13,(uL [(.row true CB)]))]),[(.exit 2,(qS [(5,.pk ⟨13,0,[]⟩ [0,0]),(sP 59 eJ),(sP 60 I64),(sP 61 I64),(sP 62 .bool)] [(4,(uL [eJ,RI,(.row false RW)])),(13,(uL [(.row true CB)]))]))]⟩]⟩
def gr:Ctr:=⟨27,53,[.agg (uL [eJ,RI,(.row false RW)])],[],[⟨(uL [(.row true CB),I64]),[.one,.one],[]⟩],ap3 d6⟩
theorem jm:Lk 6 gr:=ls (C:=mY) rfl (aC fG (aC rS (aC oK aN))) (by kernel_rfl) λh=>by kernel_rfl
def fC:Option (Bool×Unit):=
let x0:LDIn:=[(0,(0,(0,(0,0))))];
(d6 x0 [1] [[]]).bind λ(x1,x2,_)=>
(cY x0 [1] [[]] [3] 0).bind λ(x3,x4,x5,x6,x7,x8,_)=>
bif (x2==0) then (bif (x8==0) then (let x9:ByteArray:=(wy x1);
bif (Du x9 (bytes [1,1,0,1,0,0,0,0,0,0])) then (let ac:Int:=(bN x7.length);
bif (ac==4) then ((bY x7 0).bind λae=>
(bY x7 0).bind λaf=>
bif (af.1==1) then ((bY x7 1).bind λag=>
(bY x7 1).bind λah=>
some ((ah.1==0),())) else
some (false,())) else
some (false,())) else
some (false,())) else
some (false,())) else
some (false,())
def qI:X.Cfg:=⟨E0,[gr,gZ],[(9,(.row true CW))],[]⟩
def jc:Ctr:=⟨10,54,[],[],[⟨(uL [.bool]),[.one],[]⟩],λh=>fC⟩
theorem lj:Lk 7 jc:=ls (C:=qI) rfl (aC jm (aC jF aN)) (by kernel_rfl) λh=>by kernel_rfl
def eo(a0:List (Int)) (a1:Int):Option (Bool×Unit):=
(eL a0 0).bind λ(x0,x1,x2,x3,x4,_)=>
(gC x1 x3 x4).bind λ(x5,x6,_)=>
(jX a1 1048576).bind λ(x9,_)=>
(ge x1 x9).bind λ(ac,ae,af,_)=>
(cY x0 x1 x2 x5 x6).bind λ(ag,ah,ai,aj,ak,am,_)=>
(cY x0 x1 x2 ac ae).bind λ(an,ap,aq,av,ax,ay,_)=>
(bif (am != 0) then (some (true,x0,x1,x2,ag,ah,ai,aj,ak,an,ap,aq,av,ax,())) else
bif (ay != 0) then (some (true,x0,x1,x2,ag,ah,ai,aj,ak,an,ap,aq,av,ax,())) else
(fm x0 x1 x2 ag ah ai aj ak).bind λ(az,_)=>
bif (!az) then (some (true,x0,x1,x2,ag,ah,ai,aj,ak,an,ap,aq,av,ax,())) else
(fm x0 x1 x2 an ap aq av ax).bind λ(aA,_)=>
some ((!aA),x0,x1,x2,ag,ah,ai,aj,ak,an,ap,aq,av,ax,()):Option (Bool×LDIn×LI×LLI×LI×Int×LDCe×LDLn×LDTh×T0A)).bind λ(az,aA,aB,aD,aE,aF,aG,aH,aI,aJ,aK,aL,aM,aO,_)=>
bif az then (some (false,())) else
(fi aA aB aD aE aF aG aH aI).bind λ(aP,aQ,_)=>
(fi aA aB aD aJ aK aL aM aO).bind λ(aR,aS,_)=>
(ii aP aQ aR aS).bind λ(aT,_)=>
bif aT then ((ig aP aQ).bind λ(aU,_)=>
bif (!aU) then ((i3 aI).bind λ(aV,_)=>
let aW:=bN aV.length;
bif (aW==1) then ((fC).bind λ(aY,_)=>
some (aY,())) else
some (false,())) else
some (false,())) else
some (false,())
def jI:X.Cfg:=⟨E0,[iI,lK,q8,jO,gZ,lA,lz,mJ,mI,lC,jc],[],[⟨8,0,qE,[(.normal,(qS [(pP 6 14),(pP 10 22),(pP 12 26),(sP 60 .bool)] [(14,(uL [eJ,RI,(.row false RW)])),(22,(uL [RI,CW,ke,m7,Dx])),(26,(uL [RI,CW,ke,m7,Dx]))]))]⟩]⟩
def gh:Ctr:=⟨4,55,(uL [RI,I64]),[],[⟨(uL [.bool]),[.one],[]⟩],ap2 eo⟩
theorem k_law08_ProgramStarts:Lk 8 gh:=ls (C:=jI) rfl (aC kv (aC qp (aC uJ (aC mA (aC jF (aC qf (aC qe (aC rU (aC rT (aC qh (aC lj aN))))))))))) (by kernel_rfl) λh=>by kernel_rfl
def b9(a0:Int) (a1:List (Int)) (a2:Bool):Option (LI×T05):=
bif a2 then ((cM a0).bind λx0=>
(cM a0).bind λx1=>
bif (kK x0 x1 1) then let x2:List (Int):=(List.replicate x0 0);
some (x2,a1,true,()) else none) else
let x0:=bN a1.length;
bif decide (a0 > x0) then ((cM a0).bind λx1=>
(cM a0).bind λx2=>
bif (kK x1 x2 1) then let x3:List (Int):=(List.replicate x1 0);
some (x3,a1,true,()) else none) else
(cM a0).bind λx1=>
bif (hJ 0 x1 a1.length) then let x2:List (Int):=(lN a1 0 (Nat.sub x1 0));
(cM a0).bind λx3=>
bif (hJ x3 a1.length a1.length) then let x4:List (Int):=(lN a1 x3 (Nat.sub a1.length x3));
some (x2,x4,a2,()) else none else none
def iT:X.Cfg:=⟨E0,[],[],[]⟩
def dS:Ctr:=⟨68,56,[.ptr ⟨2,0,[]⟩ [0],shU I64],[(2,(uL [(.row false CB),.bool]))],[⟨(uL [(.row false CB)]),[.one],[(2,(uL [(.row false CB),.bool]))]⟩],ap3 b9⟩
theorem eY:Lk 1 dS:=ls (C:=iT) rfl aN (by kernel_rfl) λh=>by kernel_rfl
def cc(a0:List (Int)) (a1:Bool):Option (Int×T05):=
(b9 1 a0 a1).bind λ(x0,x1)=>
(bY x0 0).bind λx3=>
let x4:=wk .i64 x3;
some (x4,x1)
def hY:X.Cfg:=⟨E0,[dS],[],[]⟩
def eF:Ctr:=⟨66,57,[.ptr ⟨2,0,[]⟩ [0]],[(2,(uL [(.row false CB),.bool]))],[⟨(uL [I64]),[.one],[(2,(uL [(.row false CB),.bool]))]⟩],ap2 cc⟩
theorem hU:Lk 2 eF:=ls (C:=hY) rfl (aC eY aN) (by kernel_rfl) λh=>by kernel_rfl
def ef:T0h->Option (T0h⊕(LI×Int×T00)):=λ(v0,v1,v2,_)=>
let x0:=bN v0.length;
bif decide (v1 < x0) then ((cM v1).bind λx1=>
(bY v0 x1).bind λx2=>
let x3:=wk .u16 x2;
let x4:Int:=(shR .shl .u16 x3 8);
let x5:=w64 (v1+1);
(cM x5).bind λx6=>
(bY v0 x6).bind λx7=>
let x8:=wk .u16 x7;
let x9:Int:=(arR .or .u16 x4 x8);
bif (cx 2 v2.length (List.length [x9])) then let ac:List (Int):=(List.append v2 [x9]);
let ae:=w64 (v1+2);
some (.inl (v0,ae,ac,())) else none) else
some (.inr (v0,v1,false,v2,()))
def ic(a0:List (Int)):Option (T06):=
let x0:=bN a0.length;
let x1:=Int.tmod x0 2;
bif (x1 != 0) then (some ([],5,())) else
(bR ef NN (a0,0,[],())).bind λ(x2,x3,x4,x5,_)=>
some (x5,0,())
def r8:X.Cfg:=⟨E0,[],[],[(lx 7 0 [(sP 0 (.row false CB)),(4,.pk ⟨11,0,[]⟩ [0,0]),(sP 5 I64)] [(11,(uL [(.row true CW)]))] 13)]⟩
def mG:Ctr:=⟨67,58,(uL [(.row false CB)]),[],[⟨(uL [(.row true CW),I64]),[.one,.one],[]⟩],ap1 ic⟩
theorem rR:Lk 1 mG:=ls (C:=r8) rfl aN (by kernel_rfl) λh=>by kernel_rfl
def fZ(a0:List (Int)):Option (T0C):=
let x0:=bN a0.length;
bif decide (x0 < 6) then (some (0,0,0,0,0,4,())) else
(bY a0 0).bind λx1=>
let x2:=wk .i64 x1;
(bY a0 1).bind λx3=>
let x4:=wk .i64 x3;
(bY a0 2).bind λx5=>
let x6:=wk .i64 x5;
(bY a0 3).bind λx7=>
let x8:=wk .i64 x7;
(bY a0 4).bind λx9=>
let ac:=wk .i64 x9;
let ae:Int:=(shR .shl .i64 ac 8);
(bY a0 5).bind λaf=>
let ag:=wk .i64 af;
let ah:Int:=(arR .or .i64 ae ag);
let ai:=bN a0.length;
bif decide (ai > 6) then (some (0,0,0,0,0,5,())) else
(dC x2 x4 x6 x8 ah).bind λ(aj,_)=>
bif (!aj) then (some (0,0,0,0,0,5,())) else
some (x2,x4,x6,x8,ah,0,())
def oT:X.Cfg:=⟨E0,[gF],[],[]⟩
def kD:Ctr:=⟨69,59,(uL [(.row false CB)]),[],[⟨(uL [I64,I64,I64,I64,I64,I64]),[.agg 5,.one],[]⟩],ap1 fZ⟩
theorem oL:Lk 4 kD:=ls (C:=oT) rfl (aC i7 aN) (by kernel_rfl) λh=>by kernel_rfl
def c9:T17->Option (T17⊕(Int×Bool×T13)):=λ(v0,v1,v2,v3,v4,v5,v6,v7,v8,_)=>
bif decide (v0 > 0) then ((cc v7 v8).bind λ(x0,x1,x2,_)=>
bif (cx 8 v5.length (List.length [x0])) then let x3:List (Int):=(List.append v5 [x0]);
(cc x1 x2).bind λ(x4,x5,x6,_)=>
let x7:=w64 (2*x4);
(b9 x7 x5 x6).bind λ(x8,x9)=>
(ic x8).bind λ(ae,af,_)=>
bif (cx 24 v6.length (List.length [ae])) then let ag:List LI:=(List.append v6 [ae]);
let ah:=w64 (v0 - 1);
some (.inl (ah,v1,v2,v3,v4,x3,ag,x9)) else none else none) else
some (.inr (v0,false,v1,v2,v3,v4,v5,v6,v7,v8,()))
def c8:T1c->Option (T1c⊕(Bool×Int×Bool×T12)):=λ(v0,v1,v2,v3,v4,v5,v6,v7,v8,v9,_)=>
bif decide (v1 > 0) then ((b9 6 v8 v9).bind λ(x0,x1)=>
(fZ x0).bind λ(x3,x4,x5,x6,x7,x8,_)=>
bif v0 then (let x9:LDIn:=[(x3,(x4,(x5,(x6,x7))))];
bif (cx 40 v5.length x9.length) then let ac:LDIn:=(List.append v5 x9);
let ae:=w64 (v1 - 1);
some (.inl (true,ae,v2,v3,v4,ac,v6,v7,x1)) else none) else
let x9:LDIn:=[(x3,(x4,(x5,(x6,x7))))];
bif (cx 40 v5.length x9.length) then let ac:LDIn:=(List.append v5 x9);
let ae:=w64 (v1 - 1);
some (.inl ((x8 != 0),ae,v2,v3,v4,ac,v6,v7,x1)) else none) else
some (.inr (v0,v1,false,v2,v3,v4,v5,v6,v7,v8,v9,()))
def eR(a0:List (Int)):Option (LDIn×LI×LLI×Int×Unit):=
(cc a0 false).bind λ(x0,x1)=>
(bR c9 NN (x0,(),(),(),(),[],[],x1)).bind λ(x3,x4,x5,x6,x7,x8,x9,ac,ae,af,_)=>
(cc ae af).bind λ(ag,ah)=>
(bR c8 NN (false,ag,x5,x6,x7,[],x9,ac,ah)).bind λ(aj,ak,am,an,ap,aq,av,ax,ay,az,aA,_)=>
bif aA then (some ([],[],[],4,())) else
bif aj then (some ([],[],[],5,())) else
let aB:=bN az.length;
bif decide (aB > 0) then (some ([],[],[],5,())) else
(cD av ax ay).bind λ(aD,_)=>
bif (aD != 0) then (some ([],[],[],aD,())) else
some (av,ax,ay,0,())
def mZ:X.Cfg:=⟨E0,[eF,dS,mG,kD,eq],[(42,(.row true CW)),(43,(.row true CW))],[(lx 5 0 [(pP 2 6),(pP 4 34),(pP 5 12),(sP 6 I64)] [(6,(uL [N1,N1,N1])),(12,(uL [N1,(.row true I64),(.row true (.row true CW))])),(34,(uL [(.row false CB),.bool]))] 20),⟨14,1,(qS [(pP 2 6),(pP 4 34),(pP 5 12),(sP 9 .bool),(sP 10 I64)] [(6,(uL [N1,N1,N1])),(12,(uL [(.row true KIn),(.row true I64),(.row true (.row true CW))])),(34,(uL [(.row false CB),.bool]))]),[(.exit 2,(qS [(pP 2 6),(pP 4 34),(pP 5 12),(sP 9 .bool),(sP 10 I64),(sP 48 .bool)] [(6,(uL [N1,N1,N1])),(12,(uL [(.row true KIn),(.row true I64),(.row true (.row true CW))])),(34,(uL [(.row false CB),.bool]))]))]⟩]⟩
def jn:Ctr:=⟨29,60,(uL [(.row false CB)]),[],[⟨(uL [(.row true KIn),(.row true I64),(.row true (.row true CW)),I64]),[.agg 3,.one],[]⟩],ap1 eR⟩
theorem mX:Lk 6 jn:=ls (C:=mZ) rfl (aC hU (aC eY (aC rR (aC oL (aC fG aN))))) (by kernel_rfl) λh=>by kernel_rfl
def fu:T0V->Option (T0V⊕((Bool×Unit)⊕T14)):=λ(v0,v1,v2,v3,v4,v5,v6)=>
bif decide (v1 < v0) then ((cM v1).bind λx0=>
(bY v2 x0).bind λx1=>
(cM v1).bind λx2=>
(bY v5 x2).bind λx3=>
let x4:Bool:=(!((x1.1==x3.1) && ((x1.2.1==x3.2.1) && ((x1.2.2.1==x3.2.2.1) && ((x1.2.2.2.1==x3.2.2.2.1) && ((x1.2.2.2.2==x3.2.2.2.2) && true))))));
bif x4 then (some (.inr (.inl (false,())))) else
let x5:=w64 (v1+1);
some (.inl (v0,x5,v2,v3,v4,v5,v6))) else
some (.inr (.inr (v0,v1,false,v2,v3,v4,v5,v6)))
def ft:T0V->Option (T0V⊕((Bool×Unit)⊕T14)):=λ(v0,v1,v2,v3,v4,v5,v6,v7,_)=>
bif decide (v1 < v0) then ((cM v1).bind λx0=>
(bY v3 x0).bind λx1=>
(cM v1).bind λx2=>
(bY v6 x2).bind λx3=>
bif (x1 != x3) then (some (.inr (.inl (false,())))) else
let x4:=w64 (v1+1);
some (.inl (v0,x4,v2,v3,v4,v5,v6,v7,()))) else
some (.inr (.inr (v0,v1,false,v2,v3,v4,v5,v6,v7,())))
def fr:T1k->Option (T1k⊕((Bool×Unit)⊕(Int×Int×Int×T14))):=λ(v0,v1,v2,v3,v4,v5,v6,v7,v8,v9,v10,_)=>
bif decide (v4 < v3) then ((cM v0).bind λx0=>
(bY v7 x0).bind λx1=>
(cM v4).bind λx2=>
(bY x1 x2).bind λx3=>
(cM v0).bind λx4=>
(bY v10 x4).bind λx5=>
(cM v4).bind λx6=>
(bY x5 x6).bind λx7=>
bif (x3 != x7) then (some (.inr (.inl (false,())))) else
let x8:=w64 (v4+1);
some (.inl (v0,v1,v2,v3,x8,v5,v6,v7,v8,v9,v10,()))) else
some (.inr (.inr (v0,v1,v2,v3,v4,false,v5,v6,v7,v8,v9,v10,())))
def fq:T0V->Option (T0V⊕((Bool×Unit)⊕T14)):=λ(v0,v1,v2,v3,v4,v5,v6,v7,_)=>
bif decide (v1 < v0) then ((cM v1).bind λx0=>
(bY v4 x0).bind λx1=>
let x2:=bN x1.length;
(cM v1).bind λx3=>
(bY v7 x3).bind λx4=>
let x5:=bN x4.length;
bif (x2 != x5) then (some (.inr (.inl (false,())))) else
(cM v1).bind λx6=>
(bY v4 x6).bind λx7=>
let x8:=bN x7.length;
(match bR fr NN (v1,v0,v1,x8,0,v2,v3,v4,v5,v6,v7,()) with
| none=>none
| some (.inl (x9,_))=>
some (.inr (.inl (x9,())))
| some (.inr (x9,ac,ae,af,ag,ah,ai))=>
let aq:=w64 (ae+1);
some (.inl (ac,aq,ai)))) else
some (.inr (.inr (v0,v1,false,v2,v3,v4,v5,v6,v7,())))
def ij(a0:LDIn) (a1:List (Int)) (a2:List LI) (a3:LDIn) (a4:List (Int)) (a5:List LI):Option (Bool×Unit):=
(let x0:=bN a0.length;
let x1:=bN a3.length;
bif (x0 != x1) then (some (true,a0,a1,a2,a3,a4,a5,())) else
let x2:=bN a1.length;
let x3:=bN a4.length;
bif (x2 != x3) then (some (true,a0,a1,a2,a3,a4,a5,())) else
let x4:=bN a2.length;
let x5:=bN a5.length;
some ((x4 != x5),a0,a1,a2,a3,a4,a5,()):Option (T0M)).bind λ(x0,x1,x2,x3,x4,x5,x6,_)=>
bif x0 then (some (false,())) else
let x7:=bN x1.length;
(match bR fu NN (x7,0,x1,x2,x3,x4,x5,x6,()) with
| none=>none
| some (.inl (x8,_))=>
some (x8,())
| some (.inr (x8,x9,ac,ae,af,ag))=>
let ak:=bN af.length;
(match bR ft NN (ak,0,ae,af,ag) with
| none=>none
| some (.inl (am,_))=>
some (am,())
| some (.inr (am,an,ap,aq,av,ax,ay))=>
let aB:=bN ax.length;
(match bR fq NN (aB,0,aq,av,ax,ay) with
| none=>none
| some (.inl (aD,_))=>
some (aD,())
| some (.inr (aD,_))=>
some (true,()))))
def sd:X.Cfg:=⟨E0,[],[],[⟨2,0,qE,[(.normal,(qS [(pP 2 6),(pP 3 8),(sP 33 .bool)] [(6,(uL [eJ,RI,(.row false RW)])),(8,(uL [eJ,RI,(.row false RW)]))]))]⟩,⟨6,1,(qS [(pP 2 6),(pP 3 8),(sP 36 I64),(sP 37 I64)] [(6,(uL [eJ,RI,(.row false RW)])),(8,(uL [eJ,RI,(.row false RW)]))]),[(.ret,(qS [(sP 4 .bool)] [])),(.exit 0,(qS [(pP 2 6),(pP 3 8),(sP 36 I64),(sP 37 I64),(sP 38 .bool)] [(6,(uL [eJ,RI,(.row false RW)])),(8,(uL [eJ,RI,(.row false RW)]))]))]⟩,⟨15,2,(qS [(pP 2 6),(pP 3 8),(sP 54 I64),(sP 55 I64)] [(6,(uL [eJ,RI,(.row false RW)])),(8,(uL [eJ,RI,(.row false RW)]))]),[(.ret,(qS [(sP 4 .bool)] [])),(.exit 2,(qS [(pP 2 6),(pP 3 8),(sP 54 I64),(sP 55 I64),(sP 56 .bool)] [(6,(uL [eJ,RI,(.row false RW)])),(8,(uL [eJ,RI,(.row false RW)]))]))]⟩,⟨33,3,(qS [(pP 2 6),(pP 3 8),(sP 7 I64),(sP 72 I64),(sP 73 I64),(sP 94 I64),(sP 95 I64)] [(6,(uL [eJ,RI,(.row false RW)])),(8,(uL [eJ,RI,(.row false RW)]))]),[(.ret,(qS [(sP 4 .bool)] [])),(.exit 6,(qS [(pP 2 6),(pP 3 8),(sP 7 I64),(sP 72 I64),(sP 73 I64),(sP 94 I64),(sP 95 I64),(sP 96 .bool)] [(6,(uL [eJ,RI,(.row false RW)])),(8,(uL [eJ,RI,(.row false RW)]))]))]⟩,⟨24,4,(qS [(pP 2 6),(pP 3 8),(sP 72 I64),(sP 73 I64)] [(6,(uL [eJ,RI,(.row false RW)])),(8,(uL [eJ,RI,(.row false RW)]))]),[(.ret,(qS [(sP 4 .bool)] [])),(.exit 4,(qS [(pP 2 6),(pP 3 8),(sP 72 I64),(sP 73 I64),(sP 74 .bool)] [(6,(uL [eJ,RI,(.row false RW)])),(8,(uL [eJ,RI,(.row false RW)]))]))]⟩]⟩
def mK:Ctr:=⟨31,61,[.agg (uL [eJ,RI,(.row false RW)]),.agg (uL [eJ,RI,(.row false RW)])],[],[⟨(uL [.bool]),[.one],[]⟩],ap6 ij⟩
theorem rV:Lk 1 mK:=ls (C:=sd) rfl aN (by kernel_rfl) λh=>by kernel_rfl
def eS(a0:List (Int)):Option (Bool×Unit):=
(eL a0 0).bind λ(x0,x1,x2,_)=>
(d6 x0 x1 x2).bind λ(x5,x6,_)=>
(eR x5).bind λ(x7,x8,x9,ac,_)=>
bif (x6==0) then (bif (ac==0) then ((ij x0 x1 x2 x7 x8 x9).bind λ(ae,_)=>
bif ae then ((cD x7 x8 x9).bind λ(af,_)=>
bif (af==0) then ((fC).bind λ(ag,_)=>
some (ag,())) else
some (false,())) else
some (false,())) else
some (false,())) else
some (false,())
def kN:X.Cfg:=⟨E0,[iI,gr,jn,mK,eq,jc],[],[]⟩
def g6:Ctr:=⟨6,62,(uL [RI]),[],[⟨(uL [.bool]),[.one],[]⟩],ap1 eS⟩
theorem k_law08_ProgramBack:Lk 8 g6:=ls (C:=kN) rfl (aC kv (aC jm (aC mX (aC rV (aC fG (aC lj aN)))))) (by kernel_rfl) λh=>by kernel_rfl
def mT:T0b->Option (T0b⊕(Int×Int×Bool×LDLn×Unit)):=λ(v0,v1,v2,_)=>
bif decide (v1 < v0) then ((cM v1).bind λx0=>
(bY v2 x0).bind λx1=>
(bY v2 x0).bind λx2=>
let x3:=(List.modify v2 x0 λe=>((-1),e.2));
let x4:=w64 (v1+1);
some (.inl (v0,x4,x3,()))) else
some (.inr (v0,v1,false,v2,()))
def kV:Option (LDLn×Unit):=
bif (kK 4 4 3) then let x0:LDLn:=(List.replicate 4 (0,(false,[])));
let x1:=bN x0.length;
(bR mT NN (x1,0,x0,())).bind λ(x2,x3,x4,x5,_)=>
some (x5,()) else none
def dL:T1A->Option (T1A⊕(Int×LLI×Int×Int×LI×T1r)):=λ(v0,v1,v2,v3,v4,v5,v6,v7,v8,v9,v10,v11,v12,v13,v14,v15,_)=>
bif decide (v6 < v5) then ((cM v6).bind λx0=>
(bY v4 x0).bind λx1=>
(cM v0).bind λx2=>
(bY v10 x2).bind λx3=>
let x4:=w64 (x3+v6);
(cM x4).bind λx5=>
(bY v14 x5).bind λx6=>
(bY v14 x5).bind λx7=>
let x8:=List.modify v14 x5 λe=>(e.1,x1);
let x9:=w64 (v6+1);
some (.inl (v0,v1,v2,v3,v4,v5,x9,v7,v8,v9,v10,v11,v12,v13,x8,v15,()))) else
some (.inr (v0,v1,v2,v3,v4,v5,v6,false,v7,v8,v9,v10,v11,v12,v13,v14,v15,()))
def cN:T1v->Option (T1v⊕((Int×Unit×Unit×Unit)⊕T1y)):=λ(v0,v1,v2,v3,v4,v5)=>
bif decide (v2 < v1) then ((cM v2).bind λx0=>
(bY v0 x0).bind λx1=>
let x2:=bN x1.length;
(cM v2).bind λx3=>
(bY v4 x3).bind λx4=>
bif decide (x2 > x4) then (some (.inr (.inl (1,(),(),())))) else
let x5:=bN x1.length;
(bR dL NN (v2,v0,v1,v2,x1,x5,0,v3,v4,v5)).bind λ(x6,x7,x8,x9,ac,ae,af,ag,ah)=>
let ax:=w64 (x9+1);
some (.inl (x7,x8,ax,ah))) else
some (.inr (.inr (v0,v1,v2,false,v3,v4,v5)))
def em(a0:LDIn) (a1:List (Int)) (a2:List LI) (a3:List (Int)) (a4:Int):Option (LDCe×LDLn×Int×Unit):=
(dA a3 a4 a1).bind λ(x0,_)=>
bif (!x0) then (some ([],[],1,())) else
let x1:=bN a2.length;
let x2:=bN a1.length;
bif (x1 != x2) then (some ([],[],1,())) else
bif (kK 512 512 2) then let x3:LDCe:=(List.replicate 512 (0,0));
(kV).bind λ(x4,_)=>
let x5:=bN a2.length;
(match bR cN NN (a2,x5,0,a0,a1,a2,a3,a4,(),(),x3,x4,()) with
| none=>none
| some (.inl (x6,x7,x8,_))=>
some ([],[],x6,())
| some (.inr (x6,x7,x8,x9,ac,ae,af,ag,ah,ai,aj,ak,am,_))=>
some (ak,am,0,())) else none
def gl:T1m->Option (T1m⊕T1q):=λ(v0,v1,v2,v3,v4,v5,v6,v7,v8,v9,v10,_)=>
bif decide (v0 < 4) then (bif (kK 8 8 2) then let x0:LDCe:=(List.replicate 8 (0,0));
(bif (v0==0) then (some (v0,v1,v2,v3,v4,v5,v6,v7,v8,v9,v10,1,x0,0,0,(-1),(-1),0,0,())) else
some (v0,v1,v2,v3,v4,v5,v6,v7,v8,v9,v10,0,x0,0,0,(-1),(-1),0,0,()):Option (Int×Unit×Int×Unit×Unit×Unit×LI×Int×LDCe×LDLn×LDTh×T0W)).bind λ(x1,x2,x3,x4,x5,x6,x7,x8,x9,ac,ae,af,ag,ah,ai,aj,ak,am,an,_)=>
let ap:LDTh:=[(af,(ag,(ah,(ai,(aj,(ak,(am,an)))))))];
bif (cx 80 ae.length ap.length) then let aq:LDTh:=(List.append ae ap);
let av:=w64 (x1+1);
some (.inl (av,x2,x3,x4,x5,x6,x7,x8,x9,ac,aq,())) else none else none) else
some (.inr (v0,false,v1,v2,v3,v4,v5,v6,v7,v8,v9,v10,()))
def dq(a0:LDIn) (a1:List (Int)) (a2:List LI) (a3:List (Int)) (a4:Int):Option (LI×Int×LDCe×LDLn×LDTh×Int×Unit):=
(dU a0 a1 a2).bind λ(x0,_)=>
bif (x0 != 0) then (some ([],0,[],[],[],x0,())) else
(dA a3 a4 a1).bind λ(x1,_)=>
bif (!x1) then (some ([],0,[],[],[],1,())) else
(em a0 a1 a2 a3 a4).bind λ(x2,x3,x4,_)=>
bif (cx 8 0 a3.length) then let x5:List (Int):=(List.append [] a3);
(bR gl NN (0,(),0,(),(),(),x5,a4,x2,x3,[],())).bind λ(x6,x7,x8,x9,ac,ae,af,ag,ah,ai,aj,ak,_)=>
some (ag,ah,ai,aj,ak,0,()) else none
end
end Go.Proofs.Ytgphpfjngblbiaa
namespace Go.Proofs.Ytgphpfjngblbiaa
set_option maxRecDepth 100000
noncomputable section
end
end Go.Proofs.Ytgphpfjngblbiaa
namespace Go.Proofs.Ytgphpfjngblbiaa
open Go.RowKit
theorem DD:(Try.prog.funcs.all λfn=>!(fn.name=="runtime.NumGoroutine"))=true:=by kernel_rfl
theorem vQ:jT Try.prog 11:=by
 obtain⟨fn,hf,hb⟩:∃fn,Try.prog.funcs[11]?=some fn/\fn.body.isSome=true:=by
  have hs:(match Try.prog.funcs[11]? with | some fn=>fn.body.isSome | none=>false)=true:=by kernel_rfl
  cases h:Try.prog.funcs[11]? with
  | none=>rw[h] at hs;cases hs
  | some fn=>rw[h] at hs;exact⟨fn,rfl,hs⟩
 obtain⟨c,hc⟩:=Option.isSome_iff_exists.1 hb;refine sB hf ?_ hc;obtain⟨hlt,he⟩:=Array.getElem?_eq_some_iff.1 hf;have:=Array.all_eq_true.1 DD 11 hlt;rw[he] at this;simpa using this
def Cu(x:Value) (w:World) (e:Ending) (w':World):Prop:=e=.returned (.pointer (some ⟨w.heap.size,0,none⟩))/\w'=w.alloc (.cells #[x,.int .i64 0] 88)
theorem BV(x:Value) (hx:x.oneCell'=true) (w:World) :
 Calls Try.prog 11 #[x] w (Cu x w):=by
 cases x
 all_goals first
  | (go_enter Try.func11,Try.ntmps11
     go_wp2
     go_ret
     exact⟨rfl,rfl⟩)
  | simp[Value.oneCell'] at hx
theorem e0_ok:zf Try.prog E0:=by
 intro f n tm h;simp only[E0] at h;split at h
 ·rename_i e;subst e
  injection h with h
  injection h with h1 h2
  subst h1 h2;refine⟨vQ,λx hx=>?_,88,λl2 w hl hone=>?_⟩
  ·simp only[List.mem_cons,List.not_mem_nil,or_false] at hx;rcases hx with hx | hx
   ·injection hx
   ·injection hx with hx;rw[hx];rfl
  ·match l2,hl with
   | [x],_=>exact BV x (hone x (by simp[bxV])) w
 ·simp at h
def Ok{α:Type}(o:Option α) (Q:α->Prop):Prop:=∃a,o=some a/\Q a
section
variable {α β:Type}
theorem Ok.ret{a:α}{Q:α->Prop}(h:Q a):Ok (some a) Q:=⟨a,rfl,h⟩
theorem Ok.bind{o:Option α}{f:α->Option β}{P:α->Prop}{Q:β->Prop}(h:Ok o P) (h2:∀a,P a->Ok (f a) Q):Ok (o.bind f) Q:=by
 obtain⟨a,rfl,h1⟩:=h;exact h2 a h1
theorem Ok.mono{o:Option α}{P Q:α->Prop}(h:Ok o P) (h2:∀a,P a->Q a):Ok o Q:=by
 obtain⟨a,e,h1⟩:=h;exact⟨a,e,h2 a h1⟩
theorem Ok.cond{c:Bool}{a b:Option α}{Q:α->Prop}(h1:c=true->Ok a Q) (h2:c=false->Ok b Q):Ok (bif c then a else b) Q:=by
 cases c with
 | true=>exact h1 rfl
 | false=>exact h2 rfl
class BP (b:Bool) (P N:outParam Prop):Prop where
 t:b=true->P
 f:b=false->N
instance D6 {p:Prop} {i:Decidable p}:BP (@decide p i) p (¬ p):=⟨of_decide_eq_true,of_decide_eq_false⟩
instance Ee {α:Type} [BEq α] [LawfulBEq α] {a b:α}:BP (a==b) (a=b) (¬ a=b):=⟨eq_of_beq,λh=>beq_eq_false_iff_ne.1 h⟩
theorem bS{c:Bool}{P N:Prop} [h:BP c P N] {a b:Option α}{Q:α->Prop}(h1:P->Ok a Q) (h2:N->Ok b Q):Ok (bif c then a else b) Q:=by
 cases hc:c with
 | true=>exact h1 (h.t hc)
 | false=>exact h2 (h.f hc)
theorem Ok.get{l:List α}{i:Nat}{f:α->Option β}{Q:β->Prop}(h:i < l.length) (h2:∀a,l[i]?=some a->Ok (f a) Q):Ok ((bY l i).bind f) Q:=by
 have e:bY l i=some l[i]:=oGE h;rw[e];exact h2 _ (oGE h)
theorem Ok.nat{x:Int}{f:Nat->Option β}{Q:β->Prop}(h:0<=x) (h2:∀n:Nat,x=n->Ok (f n) Q):Ok ((cM x).bind f) Q:=by
 obtain⟨n,rfl⟩:∃n:Nat,x=n:=⟨x.toNat,by omega⟩;exact h2 n rfl
theorem Ok.val{v:α}{f:α->Option β}{Q:β->Prop}(h:∀x,x=v->Ok (f x) Q):Ok (f v) Q:=h v rfl
theorem bO{c:Bool}{a b:Option α}{Q:α->Prop}(hc:c=true) (h1:Ok a Q):Ok (bif c then a else b) Q:=by rw[hc];exact h1
theorem lO{S T:Type}{f:S->Option (S⊕T)}(P:S->Prop) (R:T->Prop) (m:S->Nat) {n:Nat}{s:S}(hs:P s) (hm:m s < n)
 (h:∀s,P s->Ok (f s) λr=>match r with | .inl s'=>P s'/\m s' < m s | .inr t=>R t):Ok (bR f n s) R:=by
 induction n generalizing s with
 | zero=>omega
 | succ n ih=>
  obtain⟨r,e,hr⟩:=h s hs
  cases r with
  | inl s'=>
   obtain⟨t,e2,hq⟩:=ih hr.1 (by have:=hr.2;omega);exact⟨t,by simp only[bR,e,oBS];exact e2,hq⟩
  | inr t=>exact⟨t,by simp[bR,e],hr⟩
theorem Ok.loop{S T:Type}{f:S->Option (S⊕T)}{g:T->Option β}{Q:β->Prop}(P:S->Prop) (R:T->Prop) (m:S->Nat) {n:Nat}{s:S}(hs:P s) (hm:m s < n)
 (h:∀s,P s->Ok (f s) λr=>match r with | .inl s'=>P s'/\m s' < m s | .inr t=>R t) (hg:∀t,R t->Ok (g t) Q):Ok ((bR f n s).bind g) Q:=(lO P R m hs hm h).bind hg
end
theorem bP{x:Int}(h1:-9223372036854775808<=x) (h2:x<=9223372036854775807):w64 x=x:=pQ h1 h2
theorem bT(n:Nat):cM (n:Int)=some n:=rfl
theorem cb(n:Nat):bN n=(n:Int):=rfl
theorem bW{α:Type}{l:List α}{i:Nat}{a:α}(h:l[i]?=some a):a∈l:=List.mem_of_getElem? h
def W16(x:Int):Prop:=0<=x/\x<=65535
theorem cw{x:Int}(h0:0<=x) (h1:x<=65535):wk .u16 x=x:=by
 unfold wk;rw[m8];omega
theorem cg{x:Int}(h0:-9223372036854775808<=x) (h1:x<=9223372036854775807):wk .i64 x=x:=bP h0 h1
theorem cn{b n m:Nat}(h:b<=1000/\n+m<=1000000):cx b n m=true:=by
 have:(n+m)*b<=1000000*1000:=Nat.mul_le_mul h.2 h.1;simp only[cx,oBA,oDE];omega
structure DOk (l:List Int) (k:Int):Prop where
 num:∀x∈l,re x
 len:l.length<=maxLen
 lo:0<=k
 hi:k<=l.length
theorem mp{l:List Int}(h:∀x∈l,re x) (hl:l.length<=maxLen):DOk l 0:=⟨h,hl,by omega,by omega⟩
theorem CV{a b:Int}(ha:re a) (hb:0 < b) (hb2:b<=9223372036854775807):∃v,fQ a b=some (v,())/\0<=v/\v < b:=by
 have hne:(b != 0)=true:=by simp;omega
 have hm:Int.tmod a b < b:=Int.tmod_lt_of_pos a hb
 have hm2:-b < Int.tmod a b:=by
  have:=Int.tmod_lt_of_pos (-a) hb;rw[Int.neg_tmod] at this;omega
 unfold fQ;simp only[hne,oCT];by_cases h:Int.tmod a b < 0
 ·refine⟨Int.tmod a b+b,?_,by omega,by omega⟩;simp only[h,decide_true,oCT,oBS];rw[bP (by omega) (by omega)]
 ·refine⟨Int.tmod a b,?_,by omega,hm⟩;simp only[h,decide_false,oCF,oBS]
section
variable {β:Type} {l:List Int} {k n:Int} {Q:β->Prop}
theorem d7{f:Int×List Int×Int×Unit->Option β}(h:DOk l k) (hn:0 < n) (hn2:n<=9223372036854775807) (K:∀v k',0<=v->v < n->DOk l k'->Ok (f (v,l,k',())) Q):Ok ((bK n l k).bind f) Q:=by
 have hl:=h.len;have hlo:=h.lo;have hhi:=h.hi
 have hmx:maxLen<=9223372036854775807:=by decide
 by_cases hk:k>=(l.length:Int)
 ·have e:bK n l k=some (0,l,k,()):=by unfold bK;simp[cb,hk]
  rw[e];exact K 0 k (by omega) hn h
 ·obtain⟨j,rfl⟩:∃j:Nat,k=j:=⟨k.toNat,by omega⟩
  have hj:j < l.length:=by omega
  obtain⟨v,hv,h0,h1⟩:=CV (h.num _ (List.getElem_mem hj)) hn hn2
  have e:bK n l j=some (v,l,(j:Int)+1,()):=by
   unfold bK;delta bN
   try dsimp only
   rw[bP (x:=(j:Int)+1) (by omega) (by omega),bP (x:=(j:Int)+1 - 1) (by omega) (by omega)];rw[show (j:Int)+1 - 1=j by omega,bT];simp only[hk,decide_false,oCF,oBS,bY,oGE hj,jX,hv]
  rw[e];exact K v _ h0 h1 ⟨h.num,hl,by omega,by omega⟩
theorem wK{f:Int×List Int×Int×Unit->Option β}(h:DOk l k) (K:∀v k',0<=v->v<=65535->DOk l k'->Ok (f (v,l,k',())) Q):Ok ((eT l k).bind f) Q:=by
 have hw:Ok (eT l k) λr=>∃v k',r=(v,l,k',())/\0<=v/\v<=65535/\DOk l k':=by
  unfold eT
  (with_reducible refine d7 (by assumption) (by omega) (by omega) (λv k a b d=>?_);try dsimp only)
  refine Ok.bind (P:=λr=>∃b,r=(v,b,l,k,())) ?_ ?_
  ·repeat ((with_reducible refine bS (λhc=>?_) λhc=>?_);· exact Ok.ret ⟨_,rfl⟩)
   exact Ok.ret ⟨_,rfl⟩
  ·rintro _ ⟨b,rfl⟩;dsimp only;refine Ok.cond (λ_=>?_) λ_=>?_
   ·(with_reducible refine d7 (by assumption) (by omega) (by omega) (λv k a b d=>?_);try dsimp only)
    (simp (disch:=omega) only [bP,cw,cg,cb])
    exact Ok.ret ⟨_,_,rfl,by omega,by omega,by assumption⟩
   ·(with_reducible refine bS (λhc=>?_) λhc=>?_)
    ·(with_reducible refine d7 (by assumption) (by omega) (by omega) (λv k a b d=>?_);try dsimp only)
     (simp (disch:=omega) only [bP,cw,cg,cb])
     exact Ok.ret ⟨_,_,rfl,by omega,by omega,by assumption⟩
    ·(with_reducible refine d7 (by assumption) (by omega) (by omega) (λv k a b d=>?_);try dsimp only)
     (simp (disch:=omega) only [bP,cw,cg,cb])
     exact Ok.ret ⟨_,_,rfl,by omega,by omega,by assumption⟩
 refine hw.bind ?_;rintro _ ⟨v,k',rfl,h0,h1,h2⟩;exact K v k' h0 h1 h2
end
def wH(s:List Int):Prop:=1<=s.length/\s.length<=4/\∀x∈s,1<=x/\x<=32
theorem Dz{P:Int->Prop}{a b c:Int}(ha:P a) (hb:P b) (hc:P c):∀x∈[a,b,c],P x:=by
 intro x hx;simp only[List.mem_cons,List.not_mem_nil,or_false] at hx
 rcases hx with rfl | rfl | rfl<;>assumption
theorem zq{l:List Int}{k:Int}(h:DOk l k):Ok (is l k) λr=>∃s k',r=(s,l,k',())/\wH s/\DOk l k':=by
 unfold is
 (with_reducible refine d7 (by assumption) (by omega) (by omega) (λv0 k0 a0 b0 d0=>?_);try dsimp only)
 (simp (disch:=omega) only [bP,cw,cg,cb])
 (with_reducible refine d7 (by assumption) (by omega) (by omega) (λv1 k1 a1 b1 d1=>?_);try dsimp only)
 refine Ok.loop (P:=λ((c,l',k',s,_):Int×List Int×Int×List Int×Unit)=>l'=l/\DOk l k'/\0<=c/\c+s.length<=4/\1<=s.length/\∀x∈s,1<=x/\x<=32)
  (R:=λ((_,_,l',k',s,_):Int×Bool×List Int×Int×List Int×Unit)=>l'=l/\DOk l k'/\wH s) (m:=λs=>s.1.toNat) ⟨rfl,d1,a1,by simp;omega,by simp,by simp;omega⟩ (by unfold NN;dsimp only;omega) ?_ ?_
 ·rintro⟨c,l',k3,s,_⟩ ⟨rfl,hd3,hc0,hcs,hs1,hs⟩;dsimp only at *;unfold jv;dsimp only
  (with_reducible refine bS (λhc=>?_) λhc=>?_)
  ·(with_reducible refine d7 (by assumption) (by omega) (by omega) (λv2 k2 a2 b2 d2=>?_);try dsimp only)
   (with_reducible refine Ok.nat (by omega) (λj hj=>?_);try dsimp only)
   have hmem:∀x∈[(6:Int),12,32],6<=x/\x<=32:=Dz (by omega) (by omega) (by omega);refine Ok.get (by simp;omega) λa ha=>?_;have h6:=hmem a (bW ha);refine Ok.get (by simp;omega) λb hb=>?_;have h7:=hmem b (bW hb)
   (with_reducible refine d7 (by assumption) (by omega) (by omega) (λv3 k3 a3 b3 d3=>?_);try dsimp only)
   (simp (disch:=omega) only [bP,cw,cg,cb])
   refine bO (cn (by simp;omega)) ?_;refine Ok.ret ⟨⟨rfl,by assumption,by omega,?_,?_,?_⟩,?_⟩
   ·simp;omega
   ·simp
   ·intro x hx;simp only[List.append_eq,List.mem_append,List.mem_cons,List.not_mem_nil,or_false] at hx;rcases hx with hx | rfl
    ·exact hs x hx
    ·omega
   ·dsimp only;omega
  ·exact Ok.ret ⟨rfl,hd3,hs1,by dsimp only;omega,hs⟩
 ·rintro⟨a,b,l',k3,s,_⟩ ⟨rfl,hd3,hs⟩;exact Ok.ret ⟨_,_,rfl,hs,hd3⟩
def eC(op:Int):Bool:=!(op==18 || op==23 || op==0 || op==24)
def eB(op:Int):Bool:=!(op==18 || op==23 || op==0 || op==24 || op==1 || op==15 || op==19 || op==20 || op==21 || op==22)
def eA(op:Int):Bool:=!(op==18 || op==23 || op==0 || op==24 || op==1 || op==15 || op==19 || op==20 || op==21 || op==22 || op==2 || op==16 || op==17)
def eK(op:Int):Bool:=op==1 || op==15 || op==19 || op==20 || op==21 || op==16 || op==17 || op==18 || op==23
def jp(op:Int):Bool:=op==18 || op==19 || op==20 || op==21
theorem pR{op:Int}(h0:0<=op) (h1:op<=24):ek op=some (eC op,eB op,eA op,eK op,()):=by
 obtain⟨n,rfl⟩:∃n:Nat,op=n:=⟨op.toNat,by omega⟩
 have hn:n < 25:=by omega
 have key:∀n:Fin 25,(ek ((n.val:Nat):Int)).map (λx=>(x.1,x.2.1,x.2.2.1,x.2.2.2.1))=some (eC (n.val:Nat),eB (n.val:Nat),eA (n.val:Nat),eK (n.val:Nat)):=by decide
 have:=key ⟨n,hn⟩;dsimp only at this
 cases h:ek (n:Int) with
 | none=>rw[h] at this;cases this
 | some x=>
  obtain⟨a,b,c,d,_⟩:=x;rw[h] at this;simp only[oMS,oSJ,oPJ] at this;rw[this.1,this.2.1,this.2.2.1,this.2.2.2]
theorem jG(op:Int):dx op=some (jp op,()):=by
 unfold dx jp;cases op==18<;>cases op==19<;>cases op==20<;>cases op==21<;>rfl
structure d9 (n m:Int) (i:DIn):Prop where
 op:0<=i.1/\i.1<=24
 a:0<=i.2.1/\i.2.1 < 8/\(eC i.1=false->i.2.1=0)
 b:0<=i.2.2.1/\i.2.2.1 < 8/\(eB i.1=false->i.2.2.1=0)
 c:0<=i.2.2.2.1/\i.2.2.2.1 < 8/\(eA i.1=false->i.2.2.2.1=0)
 imm:0<=i.2.2.2.2/\i.2.2.2.2<=65535/\(eK i.1=false->i.2.2.2.2=0)
 lea:i.1=15->i.2.2.2.2 < n
 sys:i.1=23->i.2.2.2.2<=15
 jmp:jp i.1=true->i.2.2.2.2 < m
theorem ins_mk{n m o a b c i:Int}(ho:0<=o/\o<=24) (ha:0<=a/\a < 8) (hb:0<=b/\b < 8) (hc:0<=c/\c < 8) (hi:0<=i/\i<=65535) (hA:eC o=true\/a=0) (hB:eB o=true\/b=0) (hC:eA o=true\/c=0) (hI:eK o=true\/i=0)
 (hl:o=15->i < n) (hs:o=23->i<=15) (hj:jp o=true->i < m):d9 n m (o,a,b,c,i):=
 ⟨ho,⟨ha.1,ha.2,λh=>hA.elim (λh'=>by rw[show eC o=false from h] at h';cases h') id⟩,⟨hb.1,hb.2,λh=>hB.elim (λh'=>by rw[show eB o=false from h] at h';cases h') id⟩,
  ⟨hc.1,hc.2,λh=>hC.elim (λh'=>by rw[show eA o=false from h] at h';cases h') id⟩,⟨hi.1,hi.2,λh=>hI.elim (λh'=>by rw[show eK o=false from h] at h';cases h') id⟩,hl,hs,hj⟩
theorem rP{n m r v:Int}(h:0<=r/\r < 8) (hv:0<=v/\v<=65535):d9 n m (1,r,0,0,v):=ins_mk (by decide) h (by decide) (by decide) hv (.inl (by decide)) (.inr rfl) (.inr rfl) (.inl (by decide)) (by omega) (by omega) (λh=>absurd h (by decide))
theorem tn{n m r v:Int}(h:0<=r/\r < 8) (hv:0<=v/\v < 8):d9 n m (2,r,v,0,0):=ins_mk (by decide) h hv (by decide) (by decide) (.inl (by decide)) (.inl (by decide)) (.inr rfl) (.inr rfl) (by omega) (by omega) (λh=>absurd h (by decide))
theorem nE{n m v:Int}(hv:0<=v/\v<=15):d9 n m (23,0,0,0,v):=ins_mk (by decide) (by decide) (by decide) (by decide) (by omega) (.inr rfl) (.inr rfl) (.inr rfl) (.inl (by decide)) (by omega) (by omega) (λh=>absurd h (by decide))
theorem tu{n m r v:Int}(h:0<=r/\r < 8) (hv:0<=v/\v < n) (hn:n<=4):d9 n m (15,r,0,0,v):=ins_mk (by decide) h (by decide) (by decide) (by omega) (.inl (by decide)) (.inr rfl) (.inr rfl) (.inl (by decide)) (by omega) (by omega) (λh=>absurd h (by decide))
theorem wP{n m o a b v:Int}(ho:o=16\/o=17) (h:0<=a/\a < 8) (hb:0<=b/\b < 8) (hv:0<=v/\v<=65535):d9 n m (o,a,b,0,v):=by
 rcases ho with rfl | rfl
 ·exact ins_mk (by decide) h hb (by decide) hv (.inl (by decide)) (.inl (by decide)) (.inr rfl) (.inl (by decide)) (by omega) (by omega) (λh=>absurd h (by decide))
 ·exact ins_mk (by decide) h hb (by decide) hv (.inl (by decide)) (.inl (by decide)) (.inr rfl) (.inl (by decide)) (by omega) (by omega) (λh=>absurd h (by decide))
theorem th{n m o a b c:Int}(ho:3<=o/\o<=14) (h:0<=a/\a < 8) (hb:0<=b/\b < 8) (hc:0<=c/\c < 8):d9 n m (o,a,b,c,0):=
 ins_mk (by omega) h hb hc (by decide) (.inl (by unfold eC;simp;omega)) (.inl (by unfold eB;simp;omega)) (.inl (by unfold eA;simp;omega)) (.inr rfl) (by omega) (by omega) (λh=>by unfold jp at h;simp at h;omega)
theorem B6{n m v:Int}(hv:0<=v/\v<=65535) (hm:v < m):d9 n m (18,0,0,0,v):=ins_mk (by decide) (by decide) (by decide) (by decide) hv (.inr rfl) (.inr rfl) (.inr rfl) (.inl (by decide)) (by omega) (by omega) (λ_=>hm)
theorem BK{n m:Int}:d9 n m (24,0,0,0,0):=ins_mk (by decide) (by decide) (by decide) (by decide) (by decide) (.inr rfl) (.inr rfl) (.inr rfl) (.inr rfl) (by omega) (by omega) (λh=>absurd h (by decide))
theorem d9.mono{n m m':Int}{i:DIn}(h:d9 n m i) (hm:m<=m'):d9 n m' i:=⟨h.op,h.a,h.b,h.c,h.imm,h.lea,h.sys,λhj=>by have:=h.jmp hj;omega⟩
theorem tC{n m a v:Int}(h:0<=a/\a < 8) (hv:0<=v/\v<=65535) (hm:v < m):d9 n m (20,a,0,0,v):=ins_mk (by decide) h (by decide) (by decide) hv (.inl (by decide)) (.inr rfl) (.inr rfl) (.inl (by decide)) (by omega) (by omega) (λ_=>hm)
theorem Ae{n most k:Int}{l:List Int}(h:DOk l k) (hn:1<=n/\n<=4) (hm:1<=most/\most<=100):Ok (it n most l k) λr=>∃o a b c i k',r=(o,a,b,c,i,l,k',())/\d9 n most (o,a,b,c,i)/\DOk l k':=by
 unfold it
 (with_reducible refine d7 (by assumption) (by omega) (by omega) (λv0 k0 a0 b0 d0=>?_);try dsimp only)
 rw[pR (by omega) (by omega)];simp only[oBS];refine Ok.bind (P:=λr=>∃x k',r=(n,most,l,k',0,0,0,0,0,v0,x,0,0,0,eC v0,eB v0,eA v0,eK v0,())/\0<=x/\x < 8/\(eC v0=false->x=0)/\DOk l k') ?_ ?_
 ·refine Ok.cond (λhc=>?_) λhc=>Ok.ret ⟨_,_,rfl,by omega,by omega,λ_=>rfl,d0⟩
  (with_reducible refine d7 (by assumption) (by omega) (by omega) (λv1 k1 a1 b1 d1=>?_);try dsimp only)
  exact Ok.ret ⟨_,_,rfl,a1,b1,(λhh=>by rw[hc] at hh;cases hh),d1⟩
 rintro _ ⟨xa,k1,rfl,ha0,ha1,ha2,d1⟩;dsimp only;refine Ok.bind (P:=λr=>∃x k',r=(n,most,l,k',0,0,0,0,0,v0,xa,x,0,0,eC v0,eB v0,eA v0,eK v0,())/\0<=x/\x < 8/\(eB v0=false->x=0)/\DOk l k') ?_ ?_
 ·refine Ok.cond (λhc=>?_) λhc=>Ok.ret ⟨_,_,rfl,by omega,by omega,λ_=>rfl,d1⟩
  (with_reducible refine d7 (by assumption) (by omega) (by omega) (λv2 k2 a2 b2 d2=>?_);try dsimp only)
  exact Ok.ret ⟨_,_,rfl,a2,b2,(λhh=>by rw[hc] at hh;cases hh),d2⟩
 rintro _ ⟨xb,k2,rfl,hb0,hb1,hb2,d2⟩;dsimp only;refine Ok.bind (P:=λr=>∃x k',r=(n,most,l,k',0,0,0,0,0,v0,xa,xb,x,0,eC v0,eB v0,eA v0,eK v0,())/\0<=x/\x < 8/\(eA v0=false->x=0)/\DOk l k') ?_ ?_
 ·refine Ok.cond (λhc=>?_) λhc=>Ok.ret ⟨_,_,rfl,by omega,by omega,λ_=>rfl,d2⟩
  (with_reducible refine d7 (by assumption) (by omega) (by omega) (λv3 k3 a3 b3 d3=>?_);try dsimp only)
  exact Ok.ret ⟨_,_,rfl,a3,b3,(λhh=>by rw[hc] at hh;cases hh),d3⟩
 rintro _ ⟨xc,k3,rfl,hc0,hc1,hc2,d3⟩;dsimp only;rw[jG];simp only[oBS];refine Ok.bind (P:=λr=>∃x k',r=(l,k',0,0,0,0,0,v0,xa,xb,xc,x,())/\0<=x/\x<=65535/\(eK v0=false->x=0)/\(v0=15->x < n)/\(v0=23->x<=15)/\(jp v0=true->x < most)/\DOk l k') ?_ ?_
 ·refine Ok.cond (λhj=>?_) λhj=>?_
  ·(with_reducible refine d7 (by assumption) (by omega) (by omega) (λv4 k4 a4 b4 d4=>?_);try dsimp only)
   have hj:jp v0=true:=hj
   have hne:v0≠15/\v0≠23:=by constructor<;>(rintro rfl;exact absurd hj (by decide))
   exact Ok.ret ⟨_,_,rfl,a4,by omega,(λhh=>by
    have:eK v0=true:=by unfold jp at hj;unfold eK;simp at hj ⊢;omega
    rw[this] at hh;cases hh),by omega,by omega,λ_=>b4,d4⟩
  ·(with_reducible refine bS (λhc5=>?_) λhc5=>?_)
   ·subst hc5
    (with_reducible refine d7 (by assumption) (by omega) (by omega) (λv4 k4 a4 b4 d4=>?_);try dsimp only)
    exact Ok.ret ⟨_,_,rfl,a4,by omega,λhh=>absurd hh (by decide),by omega,by omega,λhh=>absurd hh (by decide),d4⟩
   ·(with_reducible refine bS (λhc6=>?_) λhc6=>?_)
    ·subst hc6
     (with_reducible refine d7 (by assumption) (by omega) (by omega) (λv4 k4 a4 b4 d4=>?_);try dsimp only)
     exact Ok.ret ⟨_,_,rfl,a4,by omega,λhh=>absurd hh (by decide),by omega,by omega,λhh=>absurd hh (by decide),d4⟩
    ·refine Ok.cond (λhu=>?_) λhu=>?_
     ·(with_reducible refine wK (by assumption) (λv4 k4 a4 b4 d4=>?_);try dsimp only)
      (simp (disch:=omega) only [bP,cw,cg,cb])
      exact Ok.ret ⟨_,_,rfl,a4,by omega,(λhh=>by rw[hu] at hh;cases hh),by omega,by omega,(λhh=>by rw[show jp v0=false from hj] at hh;cases hh),d4⟩
     ·exact Ok.ret ⟨_,_,rfl,by omega,by omega,λ_=>rfl,by omega,by omega,(λhh=>by rw[show jp v0=false from hj] at hh;cases hh),d3⟩
 rintro _ ⟨xi,k4,rfl,hi0,hi1,hi2,hi3,hi4,hi5,d4⟩;exact Ok.ret ⟨_,_,_,_,_,_,rfl,⟨⟨a0,by dsimp only;omega⟩,⟨ha0,ha1,ha2⟩,⟨hb0,hb1,hb2⟩,⟨hc0,hc1,hc2⟩,⟨hi0,hi1,hi2⟩,hi3,hi4,hi5⟩,d4⟩
theorem gI{α β:Type}{l:List α}{i:Nat}{f:α->Option β}{Q:β->Prop}(P:α->Prop) (h:i < l.length) (hP:∀x∈l,P x) (h2:∀a,P a->Ok (f a) Q):Ok ((bY l i).bind f) Q:=Ok.get h λa ha=>h2 a (hP a (bW ha))
theorem cK{α:Type}{P:α->Prop}:∀x∈([]:List α),P x:=λ_ h=>by cases h
theorem all_cons{α:Type}{P:α->Prop}{a:α}{l:List α}(h:P a) (h2:∀x∈l,P x):∀x∈a :: l,P x:=λx hx=>by
 rcases List.mem_cons.1 hx with rfl | hx
 ·exact h
 ·exact h2 x hx
theorem CY(a b:Int):en a b=some (1,a,0,0,b,()):=rfl
theorem CU(a b:Int):gx a b=some (2,a,b,0,0,()):=rfl
theorem AP(a:Int):dW a=some (23,0,0,0,a,()):=rfl
theorem D1{x:Int}(h:1<=x):1<=mmR false 5 x/\mmR false 5 x<=5:=by
 unfold mmR;simp only[Bool.false_eq_true,if_false];split<;>omega
def va(n at_:Int) (l:List Int) (r:List DIn×List Int×Int×Unit):Prop:=∃xs k',r=(xs,l,k',())/\1<=xs.length/\xs.length<=6/\(∀i∈xs,d9 n (at_+xs.length) i)/\DOk l k'
theorem p7{n at_:Int}{l:List Int}{xs:List DIn}{k:Int}(h1:1<=xs.length/\xs.length<=6) (h2:∀i∈xs,d9 n (at_+xs.length) i) (h3:DOk l k):Ok (some (xs,l,k,())) (va n at_ l):=Ok.ret ⟨xs,k,rfl,h1.1,h1.2,h2,h3⟩
theorem BU{s l:List Int}{at_ k:Int}(h:DOk l k) (hs:wH s) (ha:0<=at_/\at_<=99):Ok (i4 s (at_+1) at_ l k) (va s.length at_ l):=by
 obtain⟨hs1,hs4,hsz⟩:=hs
 have hn:1<=(s.length:Int)/\(s.length:Int)<=4:=by omega
 unfold i4;delta bN;simp only[CY,CU,AP,oBS]
 (with_reducible refine d7 (by assumption) (by omega) (by omega) (λvr kr ar br dr=>?_);try dsimp only)
 refine Ok.nat (by omega) λj hj=>?_;refine gI (λa=>1<=a/\a<=32) (by omega) hsz λz hz=>?_
 (simp (disch:=omega) only [bP,cw,cg,cb])
 have h5:=D1 (x:=z+1) (by omega);generalize mmR false 5 (z+1)=mm at h5
 (with_reducible refine d7 (by assumption) (by omega) (by omega) (λvu ku au bu du=>?_);try dsimp only)
 (with_reducible refine d7 (by assumption) (by omega) (by omega) (λvw kw aw bw dw=>?_);try dsimp only)
 iterate 19
  (with_reducible refine bS (λhcc=>?_) λhcc=>?_)
  ·repeat (first | (simp (disch:=omega) only [bP,cw,cg,cb]) | (with_reducible refine d7 (by assumption) (by omega) (by omega) (λv k a b d=>?_);try dsimp only) | (with_reducible refine wK (by assumption) (λv k a b d=>?_);try dsimp only) | (with_reducible refine Ok.nat (by omega) (λj hj=>?_);try dsimp only) | ((with_reducible first | refine gI (λa=>1<=a/\a<=32) (by omega) (by assumption) (λe he=>?_) | refine gI (λa=>3<=a/\a<=14) (by simp only[oLC,List.length_nil];omega) (by (first | exact (all_cons (by omega) (all_cons (by omega) cK)) | exact (all_cons (by omega) (all_cons (by omega) (all_cons (by omega) cK))) | exact (all_cons (by omega) (all_cons (by omega) (all_cons (by omega) (all_cons (by omega) (all_cons (by omega) (all_cons (by omega) (all_cons (by omega) (all_cons (by omega) cK)))))))))) (λe he=>?_) | refine gI (λa=>0<=a/\a<=15) (by simp only[oLC,List.length_nil];omega) (by (first | exact (all_cons (by omega) (all_cons (by omega) cK)) | exact (all_cons (by omega) (all_cons (by omega) (all_cons (by omega) cK))) | exact (all_cons (by omega) (all_cons (by omega) (all_cons (by omega) (all_cons (by omega) (all_cons (by omega) (all_cons (by omega) (all_cons (by omega) (all_cons (by omega) cK)))))))))) (λe he=>?_) | refine gI (λa=>1<=a/\a<=100) (by simp only[oLC,List.length_nil];omega) (by (first | exact (all_cons (by omega) (all_cons (by omega) cK)) | exact (all_cons (by omega) (all_cons (by omega) (all_cons (by omega) cK))) | exact (all_cons (by omega) (all_cons (by omega) (all_cons (by omega) (all_cons (by omega) (all_cons (by omega) (all_cons (by omega) (all_cons (by omega) (all_cons (by omega) cK)))))))))) (λe he=>?_));try dsimp only) | (with_reducible refine bO (cn (by first | omega | simp)) ?_;try dsimp only) | (refine gI (λ(a:List DIn)=>(1<=a.length/\a.length<=6)/\∀i∈a,d9 s.length (at_+a.length) i) (by simp only[oLC,List.length_nil];omega) (all_cons ⟨by simp,by ((repeat' (first | exact cK | refine all_cons ?_ ?_ | exact rP (by omega) (by omega) | exact tn (by omega) (by omega) | exact nE (by omega) | exact tu (by omega) (by omega) (by omega) | exact wP (by omega) (by omega) (by omega) (by omega) | exact th (by omega) (by omega) (by omega) (by omega) | exact tC (by omega) (by omega) (by simp only[oLC,List.length_nil];omega)));done)⟩ (all_cons ⟨by simp,by ((repeat' (first | exact cK | refine all_cons ?_ ?_ | exact rP (by omega) (by omega) | exact tn (by omega) (by omega) | exact nE (by omega) | exact tu (by omega) (by omega) (by omega) | exact wP (by omega) (by omega) (by omega) (by omega) | exact th (by omega) (by omega) (by omega) (by omega) | exact tC (by omega) (by omega) (by simp only[oLC,List.length_nil];omega)));done)⟩ cK)) (λe he=>?_);try dsimp only))
   first
    | exact p7 he.1 he.2 (by assumption)
    | (refine p7 (by simp) ?_ (by assumption);try simp only[List.append_eq,List.cons_append,List.nil_append]
       ((repeat' (first | exact cK | refine all_cons ?_ ?_ | exact rP (by omega) (by omega) | exact tn (by omega) (by omega) | exact nE (by omega) | exact tu (by omega) (by omega) (by omega) | exact wP (by omega) (by omega) (by omega) (by omega) | exact th (by omega) (by omega) (by omega) (by omega) | exact tC (by omega) (by omega) (by simp only[oLC,List.length_nil];omega)));done))
 refine (Ae (by assumption) hn (by omega)).bind ?_;rintro _ ⟨o,a,b,c,i,k',rfl,hi,hd⟩;exact p7 (by simp) (all_cons (hi.mono (by simp)) cK) hd
theorem jB{α:Type}{P:α->Prop}{l m:List α}(h:∀x∈l,P x) (h2:∀x∈m,P x):∀x∈List.append l m,P x:=λx hx=>(List.mem_append.1 (show x∈l++m from hx)).elim (h x) (h2 x)
theorem eU{α:Type}(l m:List α):(List.append l m).length=l.length+m.length:=List.length_append
theorem zj{l:List Int}{k n:Int}(h:DOk l k) (hn:0<=n/\n<=1000):Ok (ir n l k) λr=>∃ws k',r=(ws,l,k',())/\(ws.length:Int)<=n/\(∀w∈ws,W16 w)/\DOk l k':=by
 unfold ir
 (simp (disch:=omega) only [bP,cw,cg,cb])
 (with_reducible refine d7 (by assumption) (by omega) (by omega) (λv0 k0 a0 b0 d0=>?_);try dsimp only)
 refine Ok.loop (P:=λ((c,l',k',s,_):Int×List Int×Int×List Int×Unit)=>l'=l/\DOk l k'/\0<=c/\c+s.length<=n/\∀x∈s,W16 x)
  (R:=λ((_,_,l',k',s,_):Int×Bool×List Int×Int×List Int×Unit)=>l'=l/\DOk l k'/\(s.length:Int)<=n/\∀x∈s,W16 x) (m:=λs=>s.1.toNat) ⟨rfl,d0,a0,by simp;omega,cK⟩ (by unfold NN;dsimp only;omega) ?_ ?_
 ·rintro⟨c,l',k3,s,_⟩ ⟨rfl,hd3,hc0,hcs,hs⟩;dsimp only at *;unfold ju;dsimp only
  (with_reducible refine bS (λhcc=>?_) λhcc=>?_)
  ·(with_reducible refine wK (by assumption) (λv1 k1 a1 b1 d1=>?_);try dsimp only)
   refine bO (cn (by simp;omega)) ?_
   (simp (disch:=omega) only [bP,cw,cg,cb])
   exact Ok.ret ⟨⟨rfl,by assumption,by omega,by rw[eU];simp;omega,jB hs (all_cons ⟨a1,b1⟩ cK)⟩,by dsimp only;omega⟩
  ·exact Ok.ret ⟨rfl,hd3,by dsimp only;omega,hs⟩
 ·rintro⟨a,b,l',k3,s,_⟩ ⟨rfl,hd3,hs,hw⟩;exact Ok.ret ⟨_,_,rfl,hs,hw,hd3⟩
structure jS (code:List DIn) (s:List Int) (d:List (List Int)):Prop where
 sz:wH s
 len:d.length=s.length
 fit:∀(j:Nat) x n,d[j]?=some x->s[j]?=some n->(x.length:Int)<=n
 num:∀x∈d,∀w∈x,W16 w
 clen:1<=code.length/\code.length<=64
 ins:∀i∈code,d9 s.length code.length i
theorem uT{code:List DIn}{s:List Int}{d:List (List Int)}{l:List Int}{k:Int}(hp:jS code s d) :
 Ok (bR cX NN ((code.length:Int),0,l,k,(),(),(),code,s,d,())) λr=>∃a b c,r=(a,b,c,l,k,(),(),(),code,s,d,()):=by
 have:=Ok.loop (f:=cX) (n:=NN) (g:=λt=>some t) (Q:=λr=>∃a b c,r=(a,b,c,l,k,(),(),(),code,s,d,())) (s:=((code.length:Int),0,l,k,(),(),(),code,s,d,()))
  (P:=λs'=>∃i:Int,s'=((code.length:Int),i,l,k,(),(),(),code,s,d,())/\0<=i/\i<=code.length) (R:=λr=>∃a b c,r=(a,b,c,l,k,(),(),(),code,s,d,())) (m:=λs=>(s.1 - s.2.1).toNat) ⟨0,rfl,by omega,by omega⟩ (by unfold NN;dsimp only;have:=hp.clen;omega) ?_ (λt ht=>Ok.ret ht)
 ·obtain⟨a,e,h⟩:=this;refine⟨a,?_,h⟩
  cases hl:bR cX NN ((code.length:Int),0,l,k,(),(),(),code,s,d,()) with
  | none=>rw[hl] at e;cases e
  | some x=>rw[hl] at e;exact e
 ·rintro _ ⟨i,rfl,hi0,hi1⟩;unfold cX;dsimp only;have hc:=hp.clen
  (with_reducible refine bS (λhcc=>?_) λhcc=>?_)
  ·refine Ok.bind (P:=λr=>r=((code.length:Int),i,l,k,(),(),(),code,s,d,())) ?_ ?_
   ·(with_reducible refine Ok.nat (by omega) (λj hj=>?_);try dsimp only)
    refine Ok.get (by omega) λx hx=>?_;have hin:=hp.ins x (bW hx);rw[jG];simp only[oBS];refine Ok.cond (λhjp=>?_) λ_=>Ok.ret rfl;refine Ok.nat (by omega) λj2 hj2=>?_;refine Ok.get (by omega) λy hy=>?_
    have hjj:j2=j:=by omega
    subst hjj;rw[hx] at hy
    injection hy with hy
    subst hy;have:=hin.jmp hjp;refine Ok.cond (λhcc=>?_) (λhcc=>?_)
    ·have h9:(x.2.2.2.2:Int)>=(code.length:Int):=of_decide_eq_true hcc;omega
    ·exact Ok.ret rfl
   ·rintro _ rfl;dsimp only
    (simp (disch:=omega) only [bP,cw,cg,cb])
    exact Ok.ret ⟨⟨i+1,rfl,by omega,by omega⟩,by dsimp only;omega⟩
  ·exact Ok.ret ⟨_,_,_,rfl⟩
theorem py{l:List Int}{k:Int}(h:DOk l k):Ok (eL l k) λr=>∃code s d k',r=(code,s,d,l,k',())/\jS code s d/\DOk l k':=by
 unfold eL;refine (zq h).bind ?_;rintro _ ⟨s,k1,rfl,hs,hd⟩;obtain⟨hs1,hs4,hsz⟩:=id hs;dsimp only;delta bN
 try dsimp only
 refine Ok.loop (P:=λs'=>∃k' d,s'=((s.length:Int),(d.length:Int),l,k',(),(),(),(),s,d,())/\DOk l k'/\d.length<=s.length/\(∀(j:Nat) x n,d[j]?=some x->s[j]?=some n->(x.length:Int)<=n)/\∀x∈d,∀w∈x,W16 w)
  (R:=λr=>∃a b c k' d,r=(a,b,c,l,k',(),(),(),(),s,d,())/\DOk l k'/\d.length=s.length/\(∀(j:Nat) x n,d[j]?=some x->s[j]?=some n->(x.length:Int)<=n)/\∀x∈d,∀w∈x,W16 w)
  (m:=λs=>(s.1 - s.2.1).toNat) ⟨k1,[],rfl,hd,by simp,by simp,cK⟩ (by unfold NN;dsimp only;omega) ?_ ?_
 ·rintro _ ⟨k',d,rfl,hd',hdl,hfit,hnum⟩;unfold iM;dsimp only
  (with_reducible refine bS (λhcc=>?_) λhcc=>?_)
  ·(with_reducible refine Ok.nat (by omega) (λj hj=>?_);try dsimp only)
   refine Ok.get (by omega) λx hx=>?_;refine Ok.get (by omega) λy hy=>?_
   have hj':j=d.length:=by omega
   subst hj';have hy2:=hsz y (bW hy);refine (zj hd' ⟨by omega,by omega⟩).bind ?_;rintro _ ⟨ws,k2,rfl,hwl,hww,hd2⟩;dsimp only;refine bO (cn (by simp;omega)) ?_
   (simp (disch:=omega) only [bP,cw,cg,cb])
   refine Ok.ret ⟨⟨k2,List.append d [ws],by rw[eU];simp,hd2,by rw[eU];simp;omega,?_,jB hnum (all_cons hww cK)⟩,by dsimp only;omega⟩;intro i x n hx hn;rw[show List.append d [ws]=d++[ws] from rfl,List.getElem?_append] at hx;split at hx
   ·exact hfit i x n hx hn
   ·rename_i hge
    have:i - d.length=0:=by
     rcases Nat.eq_zero_or_pos (i - d.length) with h | h
     ·exact h
     ·rw[oGN (by simp;omega)] at hx;cases hx
    have hi:i=d.length:=by omega
    subst hi;simp at hx;subst hx;rw[hy] at hn
    injection hn with hn
    omega
  ·exact Ok.ret ⟨_,_,_,_,_,rfl,hd',by omega,hfit,hnum⟩
 rintro _ ⟨a,b,c,k2,d,rfl,hd2,hdl,hfit,hnum⟩;dsimp only
 (with_reducible refine d7 (by assumption) (by omega) (by omega) (λv0 k0 a0 b0 d0=>?_);try dsimp only)
 (simp (disch:=omega) only [bP,cw,cg,cb])
 refine Ok.loop (P:=λs'=>∃i k' code,s'=(i,l,k',(),(),(),code,s,d,())/\0<=i/\i<=12/\DOk l k'/\code.length<=62/\∀i∈code,d9 s.length code.length i)
  (R:=λr=>∃a b k' code,r=(a,b,l,k',(),(),(),code,s,d,())/\DOk l k'/\code.length<=62/\∀i∈code,d9 s.length code.length i)
  (m:=λs=>s.1.toNat) ⟨_,_,[],rfl,by omega,by omega,d0,by simp,cK⟩ (by unfold NN;dsimp only;omega) ?_ ?_
 ·rintro _ ⟨i,k',code,rfl,hi0,hi1,hd',hcl,hins⟩;unfold iL;dsimp only
  (with_reducible refine bS (λhcc=>?_) λhcc=>?_)
  ·refine Ok.bind (P:=λr=>∃k' code,r=(i,l,k',(),(),(),code,s,d,())/\DOk l k'/\code.length<=62/\∀i∈code,d9 s.length code.length i) ?_ ?_
   ·(simp (disch:=omega) only [bP,cw,cg,cb])
    refine (BU hd' hs ⟨by omega,by omega⟩).bind ?_;rintro _ ⟨xs,k3,rfl,hx1,hx6,hxs,hd3⟩;dsimp only
    (simp (disch:=omega) only [bP,cw,cg,cb])
    (with_reducible refine bS (λhcc=>?_) λhcc=>?_)
    ·refine bO (cn (by omega)) ?_;refine Ok.ret ⟨_,_,rfl,hd3,by rw[eU];omega,?_⟩;rw[eU];exact jB (λi hi=>(hins i hi).mono (by omega)) (λi hi=>(hxs i hi).mono (by omega))
    ·exact Ok.ret ⟨_,_,rfl,hd3,hcl,hins⟩
   ·rintro _ ⟨k3,code2,rfl,hd3,hcl2,hins2⟩;dsimp only
    (simp (disch:=omega) only [bP,cw,cg,cb])
    exact Ok.ret ⟨⟨_,_,_,rfl,by omega,by omega,hd3,hcl2,hins2⟩,by dsimp only;omega⟩
  ·exact Ok.ret ⟨_,_,_,_,rfl,hd',hcl,hins⟩
 rintro _ ⟨a,b,k3,code,rfl,hd3,hcl,hins⟩;dsimp only;refine Ok.bind (P:=λr=>∃k' code,r=(l,k',(),(),(),code,s,d,())/\DOk l k'/\code.length<=63/\∀i∈code,d9 s.length (code.length+1) i) ?_ ?_
 ·(with_reducible refine d7 (by assumption) (by omega) (by omega) (λv1 k1 a1 b1 d1=>?_);try dsimp only)
  (with_reducible refine bS (λhcc=>?_) λhcc=>?_)
  ·(simp (disch:=omega) only [bP,cw,cg,cb])
   (with_reducible refine d7 (by assumption) (by omega) (by omega) (λv2 k2 a2 b2 d2=>?_);try dsimp only)
   refine bO (cn (by simp;omega)) ?_;refine Ok.ret ⟨_,_,rfl,d2,by rw[eU];simp;omega,?_⟩;rw[eU];exact jB (λi hi=>(hins i hi).mono (by simp;omega)) (all_cons (B6 (by omega) (by simp;omega)) cK)
  ·(with_reducible refine bS (λhcc=>?_) λhcc=>?_)
   ·refine bO (cn (by simp;omega)) ?_;refine Ok.ret ⟨_,_,rfl,d1,by rw[eU];simp;omega,?_⟩;rw[eU];exact jB (λi hi=>(hins i hi).mono (by simp;omega)) (all_cons BK cK)
   ·exact Ok.ret ⟨_,_,rfl,d1,by omega,λi hi=>(hins i hi).mono (by omega)⟩
 rintro _ ⟨k4,code2,rfl,hd4,hcl2,hins2⟩;dsimp only
 (with_reducible refine d7 (by assumption) (by omega) (by omega) (λv3 k3 a3 b3 d3=>?_);try dsimp only)
 simp only[CY,AP,oBS];refine bO (cn (by simp;omega)) ?_;simp only[eU];refine Ok.cond (λhc=>?_) λ_=>?_
 ·have hall:∀i∈List.append code2 [(1,0,0,0,v3),(23,0,0,0,0)],d9 s.length (code2.length+1) i:=jB hins2 (all_cons (rP (by omega) (by omega)) (all_cons (nE (by omega)) cK));simp only[oDE] at hc
  have hcn:(code2.length:Int)+2 > 64:=by
   have:((code2.length + [((1:Int),(0:Int),(0:Int),(0:Int),v3),(23,0,0,0,0)].length:Nat):Int) > 64:=hc;simpa using this
  have h63:code2.length=63:=by omega
  refine bO (by rw[h63];rfl) ?_
  have hlen:(lN (List.append code2 [((1:Int),(0:Int),(0:Int),(0:Int),v3),(23,0,0,0,0)]) 0 (Nat.sub 64 0)).length=64:=by
   unfold lN;rw[oLT,List.drop_zero,eU,h63];rfl
  have hp:jS (lN (List.append code2 [((1:Int),(0:Int),(0:Int),(0:Int),v3),(23,0,0,0,0)]) 0 (Nat.sub 64 0)) s d:=by
   refine⟨hs,hdl,hfit,hnum,by rw[hlen];decide,λi hi=>?_⟩;rw[hlen];refine (hall i ?_).mono (by omega);unfold lN at hi;exact List.mem_of_mem_drop (List.mem_of_mem_take hi)
  refine (uT (l:=l) (k:=_) hp).bind ?_;rintro _ ⟨a,b,c,rfl⟩;exact Ok.ret ⟨_,_,_,_,rfl,hp,d3⟩
 ·have hp:jS (List.append code2 [(1,0,0,0,v3),(23,0,0,0,0)]) s d:=by
   refine⟨hs,hdl,hfit,hnum,?_,?_⟩
   ·rw[eU];rename_i hc;have hcn:¬ ((code2.length + [((1:Int),(0:Int),(0:Int),(0:Int),v3),(23,0,0,0,0)].length:Nat):Int) > 64:=of_decide_eq_false hc;simp only[oLC,List.length_nil] at hcn ⊢;omega
   ·rw[eU];exact jB (λi hi=>(hins2 i hi).mono (by simp)) (all_cons (rP (by omega) (by omega)) (all_cons (nE (by omega)) cK))
  have hf:=uT (l:=l) (k:=k3) hp;rw[eU] at hf;refine hf.bind ?_;rintro _ ⟨a,b,c,rfl⟩;exact Ok.ret ⟨_,_,_,_,rfl,hp,d3⟩
theorem AC{P:Int->Prop}{s:List Int}{i:Nat}{x:Int}(h:∀(j:Nat) y,j < i->s[j]?=some y->P y) (hx:s[i]?=some x) (hp:P x):∀(j:Nat) y,j < i+1->s[j]?=some y->P y:=by
 intro j y hj hy;by_cases hji:j=i
 ·subst hji;rw[hx] at hy
  injection hy with hy
  subst hy;exact hp
 ·exact h j y (by omega) hy
theorem sT{s:List Int}(hl:s.length<=1000):Ok (cT s) λr=>r.1=true↔wH s:=by
 unfold cT;delta bN
 try dsimp only
 obtain⟨t,e,ht⟩:=lO (f:=gn) (n:=NN) (s:=(s,s,(s.length:Int),0,())) (P:=λs'=>∃i:Nat,s'=(s,s,(s.length:Int),(i:Int),())/\i<=s.length/\∀(j:Nat) y,j < i->s[j]?=some y->1<=y/\y<=32)
  (R:=λr=>(r=.inl (false,())/\∃y∈s,¬ (1<=y/\y<=32))\/((∃a b c d,r=.inr (s,a,b,c,d,()))/\∀y∈s,1<=y/\y<=32)) (m:=λs'=>(s'.2.2.1 - s'.2.2.2.1).toNat) ⟨0,rfl,by omega,λj y hj=>by omega⟩ (by unfold NN;dsimp only;omega) (by
   rintro _ ⟨i,rfl,hi,hall⟩;unfold gn;dsimp only
   (with_reducible refine bS (λhcc=>?_) λhcc=>?_)
   ·rw[bT];simp only[oBS];refine Ok.get (by omega) λx hx=>?_
    (with_reducible refine bS (λhcd=>?_) λhcd=>?_)
    ·exact Ok.ret (.inl ⟨rfl,x,bW hx,by omega⟩)
    ·(with_reducible refine bS (λhce=>?_) λhce=>?_)
     ·exact Ok.ret (.inl ⟨rfl,x,bW hx,by omega⟩)
     ·(simp (disch:=omega) only [bP,cw,cg,cb])
      exact Ok.ret ⟨⟨i+1,rfl,by omega,AC hall hx ⟨by omega,by omega⟩⟩,by dsimp only;omega⟩
   ·refine Ok.ret (.inr ⟨⟨_,_,_,_,rfl⟩,λy hy=>?_⟩);obtain⟨j,hj⟩:=List.getElem?_of_mem hy
    exact hall j y (by have:=(oGS hj).1;omega) hj)
 rw[e];rcases ht with ⟨rfl,y,hy,hn⟩ | ⟨⟨a,b,c,d,rfl⟩,hall⟩
 ·exact Ok.ret ⟨λh=>(by cases h),λh=>absurd (h.2.2 y hy) hn⟩
 ·dsimp only
  (with_reducible refine bS (λhcc=>?_) λhcc=>?_)
  ·exact Ok.ret ⟨λh=>⟨by omega,(by have:=of_decide_eq_true h;omega),hall⟩,λh=>oDT (by have:=h.2.1;omega)⟩
  ·exact Ok.ret ⟨λh=>(by cases h),λh=>by have:=h.1;omega⟩
abbrev VS(xs:List Int):Prop:=wH xs
theorem Ce{l:List Int}{k:Nat}(h:k < l.length):l.getD k 0=l[k]:=by simp[List.getD,h]
def kR(bs ss:List Int) (i:Nat):Prop:=
 0<=bs.getD i 0/\bs.getD i 0+ss.getD i 0<=512/\∀k,k < i->¬ (bs.getD i 0<=bs.getD k 0+ss.getD k 0/\bs.getD k 0<=bs.getD i 0+ss.getD i 0)
def LV(bs ss:List Int):Prop:=VS ss/\bs.length=ss.length/\∀i,i < bs.length->kR bs ss i
theorem VS.at_{ss:List Int}(h:VS ss) {i:Nat}(hi:i < ss.length):1<=ss[i]/\ss[i]<=32:=h.2.2 _ (List.getElem_mem hi)
def kp(ss:List Int) (seed:Int):Nat->List Int×Int
 | 0=>(List.replicate ss.length 0,1+seed / ss.length % 50)
 | k+1=>((kp ss seed k).1.set (((k+seed) % ss.length).toNat) (kp ss seed k).2,(kp ss seed k).2+(ss.getD ((k+seed) % ss.length).toNat 0+1+seed / (50*ss.length) % 40))
def mkB(ss:List Int) (seed:Int):List Int:=(kp ss seed ss.length).1
theorem z8(ss:List Int) (seed:Int) (k:Nat):(kp ss seed k).1.length=ss.length:=by
 induction k with
 | zero=>simp[kp]
 | succ k ih=>simp[kp,ih]
theorem VS.getD{ss:List Int}(h:VS ss) {i:Nat}(hi:i < ss.length):1<=ss.getD i 0/\ss.getD i 0<=32:=by rw[Ce hi];exact h.at_ hi
theorem AT{n k:Nat}{seed:Int}(hn:1<=n):0<=((k:Int)+seed) % n/\((k:Int)+seed) % n < n:=
 ⟨Int.emod_nonneg _ (by omega),Int.emod_lt_of_pos _ (by omega)⟩
theorem BY{ss:List Int}{seed:Int}(h:VS ss) (hs:0<=seed) (k:Nat):1<=(kp ss seed k).2/\(kp ss seed k).2<=50+72*k:=by
 induction k with
 | zero=>simp only[kp];have:=Int.emod_nonneg (seed / (ss.length:Int)) (show (50:Int)≠0 by decide);have:=Int.emod_lt_of_pos (seed / (ss.length:Int)) (show (0:Int) < 50 by decide);omega
 | succ k ih=>
  simp only[kp];have hr:=AT (k:=k) (seed:=seed) h.1;have:=h.getD (i:=(((k:Int)+seed) % ss.length).toNat) (by omega);have:=Int.emod_nonneg (seed / (50*(ss.length:Int))) (show (40:Int)≠0 by decide);have:=Int.emod_lt_of_pos (seed / (50*(ss.length:Int))) (show (0:Int) < 40 by decide);omega
theorem yf{ss:List Int}(h0:1<=ss.length) (h1:ss.length<=4):(∃a,ss=[a])\/(∃a b,ss=[a,b])\/(∃a b c,ss=[a,b,c])\/(∃a b c d,ss=[a,b,c,d]):=by
 match ss,h0,h1 with
 | [a],_,_=>exact .inl ⟨a,rfl⟩
 | [a,b],_,_=>exact .inr (.inl ⟨a,b,rfl⟩)
 | [a,b,c],_,_=>exact .inr (.inr (.inl ⟨a,b,c,rfl⟩))
 | [a,b,c,d],_,_=>exact .inr (.inr (.inr ⟨a,b,c,d,rfl⟩))
theorem nb{P:Nat->Prop}(h0:P 0):∀i,i < 1->P i:=λi hi=>by
 match i,hi with
 | 0,_=>exact h0
theorem pZ{P:Nat->Prop}(h0:P 0) (h1:P 1):∀i,i < 2->P i:=λi hi=>by
 match i,hi with
 | 0,_=>exact h0
 | 1,_=>exact h1
theorem uw{P:Nat->Prop}(h0:P 0) (h1:P 1) (h2:P 2):∀i,i < 3->P i:=λi hi=>by
 match i,hi with
 | 0,_=>exact h0
 | 1,_=>exact h1
 | 2,_=>exact h2
theorem zS{P:Nat->Prop}(h0:P 0) (h1:P 1) (h2:P 2) (h3:P 3):∀i,i < 4->P i:=λi hi=>by
 match i,hi with
 | 0,_=>exact h0
 | 1,_=>exact h1
 | 2,_=>exact h2
 | 3,_=>exact h3
def zh(b s:Int):Prop:=0<=b/\b+s<=512
def dn(b s b' s':Int):Prop:=¬ (b<=b'+s'/\b'<=b+s)
theorem LV1{a x:Int}(hv:VS [a]) (h:zh x a):LV [x] [a]:=
 ⟨hv,rfl,nb ⟨h.1,h.2,λk hk=>by omega⟩⟩
theorem LV2{a b x y:Int}(hv:VS [a,b]) (h:zh x a) (h':zh y b) (h1:dn y b x a):LV [x,y] [a,b]:=
 ⟨hv,rfl,pZ ⟨h.1,h.2,λk hk=>by omega⟩ ⟨h'.1,h'.2,nb h1⟩⟩
theorem LV3{a b c x y z:Int}(hv:VS [a,b,c]) (h:zh x a) (h':zh y b) (h'':zh z c) (h1:dn y b x a) (h2:dn z c x a) (h3:dn z c y b):LV [x,y,z] [a,b,c]:=
 ⟨hv,rfl,uw ⟨h.1,h.2,λk hk=>by omega⟩ ⟨h'.1,h'.2,nb h1⟩ ⟨h''.1,h''.2,pZ h2 h3⟩⟩
theorem LV4{a b c d x y z u:Int}(hv:VS [a,b,c,d]) (h:zh x a) (h':zh y b) (h'':zh z c) (h''':zh u d) (h1:dn y b x a) (h2:dn z c x a) (h3:dn z c y b) (h4:dn u d x a) (h5:dn u d y b) (h6:dn u d z c):LV [x,y,z,u] [a,b,c,d]:=
 ⟨hv,rfl,zS ⟨h.1,h.2,λk hk=>by omega⟩ ⟨h'.1,h'.2,nb h1⟩ ⟨h''.1,h''.2,pZ h2 h3⟩ ⟨h'''.1,h'''.2,uw h4 h5 h6⟩⟩
theorem A6{ss:List Int}(hv:VS ss) {seed:Int}(hs:0<=seed):LV (mkB ss seed) ss:=by
 have hv0:=hv;rcases yf hv.1 hv.2.1 with ⟨a,rfl⟩ | ⟨a,b,rfl⟩ | ⟨a,b,c,rfl⟩ | ⟨a,b,c,d,rfl⟩
 ·obtain⟨_,_,hx⟩:=hv;have ha:=hx a (by simp)
  have e0:(((0:Nat):Int)+seed) % 1=0:=by omega
  have hB:mkB [a] seed=[1+seed / 1 % 50]:=by simp[mkB,kp,List.replicate]
  rw[hB];exact LV1 hv0 ⟨by omega,by omega⟩
 ·obtain⟨_,_,hx⟩:=hv;have ha:=hx a (by simp);have hb:=hx b (by simp);rcases (show seed % 2=0\/seed % 2=1 by omega) with ht | ht
  ·have e1:(1+seed) % 2=1:=by omega
   simp only[mkB,kp,oLC,List.length_nil,List.replicate];simp[ht,e1];exact LV2 hv0 ⟨by omega,by omega⟩ ⟨by omega,by omega⟩ (by unfold dn;omega)
  ·have e1:(1+seed) % 2=0:=by omega
   simp only[mkB,kp,oLC,List.length_nil,List.replicate];simp[ht,e1];exact LV2 hv0 ⟨by omega,by omega⟩ ⟨by omega,by omega⟩ (by unfold dn;omega)
 ·obtain⟨_,_,hx⟩:=hv;have ha:=hx a (by simp);have hb:=hx b (by simp);have hc:=hx c (by simp);rcases (show seed % 3=0\/seed % 3=1\/seed % 3=2 by omega) with ht | ht | ht
  ·have e1:(1+seed) % 3=1:=by omega
   have e2:(2+seed) % 3=2:=by omega
   simp only[mkB,kp,oLC,List.length_nil,List.replicate];simp[ht,e1,e2];exact LV3 hv0 ⟨by omega,by omega⟩ ⟨by omega,by omega⟩ ⟨by omega,by omega⟩ (by unfold dn;omega) (by unfold dn;omega) (by unfold dn;omega)
  ·have e1:(1+seed) % 3=2:=by omega
   have e2:(2+seed) % 3=0:=by omega
   simp only[mkB,kp,oLC,List.length_nil,List.replicate];simp[ht,e1,e2];exact LV3 hv0 ⟨by omega,by omega⟩ ⟨by omega,by omega⟩ ⟨by omega,by omega⟩ (by unfold dn;omega) (by unfold dn;omega) (by unfold dn;omega)
  ·have e1:(1+seed) % 3=0:=by omega
   have e2:(2+seed) % 3=1:=by omega
   simp only[mkB,kp,oLC,List.length_nil,List.replicate];simp[ht,e1,e2];exact LV3 hv0 ⟨by omega,by omega⟩ ⟨by omega,by omega⟩ ⟨by omega,by omega⟩ (by unfold dn;omega) (by unfold dn;omega) (by unfold dn;omega)
 ·obtain⟨_,_,hx⟩:=hv;have ha:=hx a (by simp);have hb:=hx b (by simp);have hc:=hx c (by simp);have hd:=hx d (by simp)
  have hq:∀q g:Int,q=1+seed / 4 % 50->g=seed / (50*4) % 40->1<=q/\q<=50/\0<=g/\g < 40:=λq g e e'=>by subst e;subst e';omega
  rcases (show seed % 4=0\/seed % 4=1\/seed % 4=2\/seed % 4=3 by omega) with ht | ht | ht | ht
  ·have e1:(1+seed) % 4=1:=by omega
   have e2:(2+seed) % 4=2:=by omega
   have e3:(3+seed) % 4=3:=by omega
   simp only[mkB,kp,oLC,List.length_nil,List.replicate];simp[ht,e1,e2,e3];exact LV4 hv0 ⟨by omega,by omega⟩ ⟨by omega,by omega⟩ ⟨by omega,by omega⟩ ⟨by omega,by omega⟩ (by unfold dn;omega) (by unfold dn;omega) (by unfold dn;omega) (by unfold dn;omega) (by unfold dn;omega) (by unfold dn;omega)
  ·have e1:(1+seed) % 4=2:=by omega
   have e2:(2+seed) % 4=3:=by omega
   have e3:(3+seed) % 4=0:=by omega
   simp only[mkB,kp,oLC,List.length_nil,List.replicate];simp[ht,e1,e2,e3];exact LV4 hv0 ⟨by omega,by omega⟩ ⟨by omega,by omega⟩ ⟨by omega,by omega⟩ ⟨by omega,by omega⟩ (by unfold dn;omega) (by unfold dn;omega) (by unfold dn;omega) (by unfold dn;omega) (by unfold dn;omega) (by unfold dn;omega)
  ·have e1:(1+seed) % 4=3:=by omega
   have e2:(2+seed) % 4=0:=by omega
   have e3:(3+seed) % 4=1:=by omega
   simp only[mkB,kp,oLC,List.length_nil,List.replicate];simp[ht,e1,e2,e3];exact LV4 hv0 ⟨by omega,by omega⟩ ⟨by omega,by omega⟩ ⟨by omega,by omega⟩ ⟨by omega,by omega⟩ (by unfold dn;omega) (by unfold dn;omega) (by unfold dn;omega) (by unfold dn;omega) (by unfold dn;omega) (by unfold dn;omega)
  ·have e1:(1+seed) % 4=0:=by omega
   have e2:(2+seed) % 4=1:=by omega
   have e3:(3+seed) % 4=2:=by omega
   simp only[mkB,kp,oLC,List.length_nil,List.replicate];simp[ht,e1,e2,e3];exact LV4 hv0 ⟨by omega,by omega⟩ ⟨by omega,by omega⟩ ⟨by omega,by omega⟩ ⟨by omega,by omega⟩ (by unfold dn;omega) (by unfold dn;omega) (by unfold dn;omega) (by unfold dn;omega) (by unfold dn;omega) (by unfold dn;omega)
theorem vR{α:Type}(l:List α) (i:Nat) (a:α):List.modify l i (λ_=>a)=l.set i a:=by
 apply List.ext_getElem?;intro j;rw[List.getElem?_modify,List.getElem?_set];by_cases h:i=j
 ·subst h;simp only[if_true];by_cases hl:i < l.length
  ·simp[hl]
  ·simp[hl,oGN (Nat.le_of_not_lt hl)]
 ·simp[h]
theorem yb{s:List Int}{seed:Int}(hs:wH s) (h0:0<=seed) (h1:seed<=1073741824):Ok (ge s seed) λr=>∃key,r=(mkB s seed,key,0,())/\W16 key:=by
 obtain⟨hs1,hs4,hsz⟩:=id hs;unfold ge;delta bN
 try dsimp only
 refine Ok.bind (P:=λr=>r=(s,seed,false,(),0,())) ?_ ?_
 ·refine (sT (by omega)).bind ?_;rintro⟨v,_⟩ hv;have hv:v=true:=hv.2 hs;subst hv;simp only[oNT,oCF]
  (with_reducible refine bS (λhcb=>?_) λhcb=>?_)
  ·omega
  ·exact Ok.ret (by rw[oDF (by omega)])
 rintro _ rfl;dsimp only;refine Ok.cond (λh=>by cases h) λ_=>?_;rw[bT];simp only[oBS];refine bO (by unfold kK;rw[oBA];exact⟨oDT rfl,oDT (by omega)⟩) ?_;refine bO (by rw[bne_iff_ne];omega) ?_;have hd1:Int.tdiv seed s.length=seed / s.length:=Int.tdiv_eq_ediv_of_nonneg h0;have hq:0<=seed / (s.length:Int)/\seed / (s.length:Int)<=seed:=⟨Int.ediv_nonneg h0 (by omega),Int.ediv_le_self _ h0⟩;have hm1:Int.tmod (seed / (s.length:Int)) 50=seed / (s.length:Int) % 50:=Int.tmod_eq_emod_of_nonneg hq.1
 have hm2:0<=seed / (s.length:Int) % 50/\seed / (s.length:Int) % 50 < 50:=by omega
 rw[hd1,bP (x:=seed / (s.length:Int)) (by omega) (by omega),hm1,bP (x:=1+seed / (s.length:Int) % 50) (by omega) (by omega)]
 have hkey:W16 (wk .u16 (w64 (40503*seed))):=by
  unfold wk;rw[m8];exact⟨by omega,by omega⟩
 generalize wk .u16 (w64 (40503*seed))=key at hkey
 refine Ok.loop (P:=λs'=>∃k:Nat,s'=(s,seed,(s.length:Int),(kp s seed k).2,(s.length:Int),(k:Int),(),0,(kp s seed k).1,key,())/\k<=s.length) (R:=λr=>∃a b c d e f g h,r=(a,b,c,d,e,f,g,(),h,(kp s seed s.length).1,key,()))
  (m:=λs'=>(s'.2.2.2.2.1 - s'.2.2.2.2.2.1).toNat) ⟨0,rfl,by omega⟩ (by unfold NN;dsimp only;omega) ?_ ?_
 ·rintro _ ⟨k,rfl,hk⟩;unfold jt;dsimp only;have hb:=BY hs h0 k
  (with_reducible refine bS (λhcc=>?_) λhcc=>?_)
  ·have hr:=AT (k:=k) (seed:=seed) hs1;rw[bP (x:=(k:Int)+seed) (by omega) (by omega)];refine bO (by rw[bne_iff_ne];omega) ?_;rw[Int.tmod_eq_emod_of_nonneg (show 0<=(k:Int)+seed by omega)];refine Ok.nat hr.1 λr hrr=>?_;have hl:=z8 s seed k;refine Ok.get (by omega) λx hx=>?_;refine Ok.get (by omega) λy hy=>?_;refine Ok.nat hr.1 λr2 hrr2=>?_
   have:r2=r:=by omega
   subst this;refine Ok.get (by omega) λz hz=>?_;have hz2:=hsz z (bW hz);rw[bP (x:=z+1) (by omega) (by omega),bP (x:=50*(s.length:Int)) (by omega) (by omega)];refine bO (by rw[bne_iff_ne];omega) ?_;have hd2:Int.tdiv seed (50*(s.length:Int))=seed / (50*s.length):=Int.tdiv_eq_ediv_of_nonneg h0;have hq2:0<=seed / (50*(s.length:Int))/\seed / (50*(s.length:Int))<=seed:=⟨Int.ediv_nonneg h0 (by omega),Int.ediv_le_self _ h0⟩;have hm3:Int.tmod (seed / (50*(s.length:Int))) 40=seed / (50*s.length) % 40:=Int.tmod_eq_emod_of_nonneg hq2.1;rw[hd2,bP (x:=seed / (50*(s.length:Int))) (by omega) (by omega),hm3];generalize hg:seed / (50*(s.length:Int)) % 40=g
   have hg2:0<=g/\g < 40:=by omega
   rw[bP (x:=z+1+g) (by omega) (by omega),bP (x:=(kp s seed k).2+(z+1+g)) (by omega) (by omega),bP (x:=(k:Int)+1) (by omega) (by omega),vR]
   have e1:(kp s seed (k+1)).1=(kp s seed k).1.set r2 (kp s seed k).2:=by
    simp only[kp];rw[hrr];rfl
   have e2:(kp s seed (k+1)).2=(kp s seed k).2+(z+1+g):=by
    simp only[kp];rw[hrr,hg,oTN,oGD,hz];rfl
   refine Ok.ret ⟨⟨k+1,?_,by omega⟩,by dsimp only;omega⟩;rw[e1,e2];rfl
  ·have:k=s.length:=by omega
   subst this;exact Ok.ret ⟨_,_,_,_,_,_,_,_,rfl⟩
 ·rintro _ ⟨a,b,c,d,e,f,g,h,rfl⟩;exact Ok.ret ⟨key,rfl,hkey⟩
theorem ko{S T:Type}{f:S->Option (S⊕T)}(st:Nat->S) {n N:Nat}{t:T}(hn:n < N) (h:∀i,i < n->Ok (f (st i)) (·=.inl (st (i+1)))) (he:Ok (f (st n)) (·=.inr t)):bR f N (st 0)=some t:=by
 have key:∀k i,i+k=n->∀N,k < N->bR f N (st i)=some t:=by
  intro k
  induction k with
  | zero=>
   intro i hi N hN;obtain⟨x,e,hx⟩:=he
   have:i=n:=by omega
   subst this;obtain⟨N',rfl⟩:∃N',N=N'+1:=⟨N - 1,by omega⟩;simp only[bR,e,hx,oBS]
  | succ k ih=>
   intro i hi N hN;obtain⟨x,e,hx⟩:=h i (by omega);obtain⟨N',rfl⟩:∃N',N=N'+1:=⟨N - 1,by omega⟩;simp only[bR,e,hx,oBS];exact ih (i+1) (by omega) N' (by omega)
 exact key n 0 (by omega) N hn
theorem fb{α:Type}{o:Option α}{a:α}(h:Ok o (·=a)):o=some a:=by
 obtain⟨x,e,rfl⟩:=h;exact e
theorem bU{l:List Int}{k:Nat}{x:Int}(h:l[k]?=some x):l.getD k 0=x:=by rw[oGD,h];rfl
theorem pf{s:List Int}(h:wH s):cT s=some (true,()):=by
 obtain⟨⟨v,u⟩,e,hv⟩:=sT (s:=s) (by have:=h.2.1;omega);have hv:v=true:=hv.2 h;rw[e,hv]
theorem iK{bs ss:List Int}{key:Int}(h:LV bs ss):dA bs key ss=some (true,()):=by
 obtain⟨hs,hl,hr⟩:=h;have h4:=hs.2.1;unfold dA;rw[pf hs];delta bN;simp only[oBS,oNT,oCF,hl,bne_self_eq_false]
 have e:bR cG NN (ss,bs,(ss.length:Int),0,bs,key,())=some (.inr (ss,bs,(ss.length:Int),(ss.length:Int),false,bs,key,())):=by
  refine ko (st:=λi=>(ss,bs,(ss.length:Int),(i:Int),bs,key,())) (n:=ss.length) (by unfold NN;omega) ?_ ?_
  ·intro i hi;unfold cG;dsimp only;have hri:=hr i (by omega);unfold kR at hri
   (with_reducible refine bS (λhca=>?_) λhca=>?_)
   ·rw[bT];simp only[oBS];refine Ok.get (by omega) λb hb=>?_;rw[bU hb] at hri
    (with_reducible refine bS (λhcb=>?_) λhcb=>?_)
    ·omega
    ·refine Ok.get (by omega) λz hz=>?_;rw[bU hz] at hri;have hz2:=hs.2.2 z (bW hz)
     (simp (disch:=omega) only [bP,cw,cg,cb])
     (with_reducible refine bS (λhcc=>?_) λhcc=>?_)
     ·omega
     ·refine bO (by unfold hJ;simp;omega) ?_
      have hwl:(lN bs 0 (Nat.sub i 0)).length=i:=by unfold lN;rw[oLT,List.drop_zero];show min i _=i;omega
      rw[hwl]
      have e:bR cH NN (ss,(i:Int),b,bs,(ss.length:Int),(i:Int),lN bs 0 (Nat.sub i 0),(i:Int),0,bs,key,())=some (.inr (ss,(i:Int),b,bs,(ss.length:Int),(i:Int),lN bs 0 (Nat.sub i 0),(i:Int),(i:Int),false,bs,key,())):=by
       refine ko (st:=λj=>(ss,(i:Int),b,bs,(ss.length:Int),(i:Int),lN bs 0 (Nat.sub i 0),(i:Int),(j:Int),bs,key,())) (n:=i) (by unfold NN;omega) ?_ ?_
       ·intro j hj;unfold cH;dsimp only
        (with_reducible refine bS (λhca=>?_) λhca=>?_)
        ·rw[bT,bT];simp only[oBS]
         have hx:(bY (lN bs 0 (Nat.sub i 0)) j)=bs[j]?:=by
          unfold bY lN;rw[List.getElem?_take,List.drop_zero];exact oIP hj
         rw[hx];obtain⟨c,hc⟩:∃c,bs[j]?=some c:=⟨_,oGE (by omega)⟩;obtain⟨y,hy⟩:∃y,ss[j]?=some y:=⟨_,oGE (by omega)⟩;have hy2:=hs.2.2 y (bW hy);have hz':bY ss i=some z:=hz;have hy':bY ss j=some y:=hy;rw[hc,hz',hy'];simp only[oBS];have hrj:=(hr j (by omega)).1;have hrj2:=(hr j (by omega)).2.1;rw[bU hc] at hrj hrj2;rw[bU hy] at hrj2;have hap:=hri.2.2 j hj;rw[bU hc,bU hy] at hap;rw[bP (x:=b+z) (by omega) (by omega),bP (x:=c+y) (by omega) (by omega)];by_cases h1:b+z>=c
         ·have h2:¬ c+y>=b:=by omega
          simp only[h1,h2,decide_true,decide_false,oCT,oCF]
          (simp (disch:=omega) only [bP,cw,cg,cb])
          exact Ok.ret rfl
         ·simp only[h1,decide_false,oCF]
          (simp (disch:=omega) only [bP,cw,cg,cb])
          exact Ok.ret rfl
        ·omega
       ·unfold cH;dsimp only
        (with_reducible refine bS (λhca=>?_) λhca=>?_)
        ·omega
        ·exact Ok.ret rfl
      rw[e]
      (simp (disch:=omega) only [bP,cw,cg,cb])
      exact Ok.ret rfl
   ·omega
  ·unfold cG;dsimp only
   (with_reducible refine bS (λhca=>?_) λhca=>?_)
   ·omega
   ·exact Ok.ret rfl
 rw[e]
theorem AR{S T:Type}{f:S->Option (S⊕T)}(st:Nat->S) {n N:Nat}{bad good:T}(p:Nat->Prop) (hn:n < N)
 (h:∀i,i < n->(∀j,j < i->p j)->(p i/\f (st i)=some (.inl (st (i+1))))\/(¬ p i/\f (st i)=some (.inr bad))) (he:f (st n)=some (.inr good)) :
 ((∀i,i < n->p i)/\bR f N (st 0)=some good)\/((¬ ∀i,i < n->p i)/\bR f N (st 0)=some bad):=by
 have key:∀k i,i+k=n->(∀j,j < i->p j)->∀N,k < N->((∀i,i < n->p i)/\bR f N (st i)=some good)\/((¬ ∀i,i < n->p i)/\bR f N (st i)=some bad):=by
  intro k
  induction k with
  | zero=>
   intro i hi hp N hN
   obtain rfl:i=n:=by omega
   obtain⟨N',rfl⟩:∃N',N=N'+1:=⟨N - 1,by omega⟩;exact .inl ⟨hp,by simp only[bR,he,oBS]⟩
  | succ k ih=>
   intro i hi hp N hN;obtain⟨N',rfl⟩:∃N',N=N'+1:=⟨N - 1,by omega⟩;rcases h i (by omega) hp with ⟨hpi,e⟩ | ⟨hpi,e⟩
   ·simp only[bR,e,oBS];refine ih (i+1) (by omega) (λj hj=>?_) N' (by omega);by_cases hji:j=i
    ·rw[hji];exact hpi
    ·exact hp j (by omega)
   ·exact .inr ⟨λg=>hpi (g i (by omega)),by simp only[bR,e,oBS]⟩
 exact key n 0 (by omega) (λj hj=>by omega) N hn
def za(o:Option (Bool×Unit)) (p:Prop):Prop:=(p/\o=some (true,()))\/(¬ p/\o=some (false,()))
theorem za.val{o:Option (Bool×Unit)}{p:Prop}(h:za o p):∃b,o=some (b,())/\(b=true↔p):=by
 rcases h with ⟨h,e⟩ | ⟨h,e⟩
 ·exact⟨_,e,λ_=>h,λ_=>rfl⟩
 ·exact⟨_,e,λg=>(by cases g),λg=>absurd g h⟩
theorem za.same{o o':Option (Bool×Unit)}{p:Prop}(h:za o p) (h':za o' p):o=o':=by
 rcases h with ⟨h,e⟩ | ⟨h,e⟩<;>rcases h' with ⟨h',e'⟩ | ⟨h',e'⟩
 ·rw[e,e']
 ·exact absurd h h'
 ·exact absurd h' h
 ·rw[e,e']
theorem sV{ss:List Int}(h:ss.length<=1000):za (cT ss) (wH ss):=by
 obtain⟨⟨v,u⟩,e,hv⟩:=sT h
 cases v with
 | true=>exact .inl ⟨hv.1 rfl,e⟩
 | false=>exact .inr ⟨λg=>(by cases hv.2 g),e⟩
theorem B4{bs ss:List Int}{key:Int}(hb:bs.length<=1000) (hs:ss.length<=1000) (hi:∀b∈bs,re b):za (dA bs key ss) (LV bs ss):=by
 unfold dA;rcases sV hs with ⟨hz,e⟩ | ⟨hz,e⟩
 rotate_left
 ·rw[e];exact .inr ⟨λh=>hz h.1,rfl⟩
 rw[e];delta bN;simp only[oBS,oNT,oCF];by_cases hl:(bs.length:Int)=ss.length
 rotate_left
 ·rw[bne_iff_ne.2 hl];exact .inr ⟨λh=>hl (by rw[h.2.1]),rfl⟩
 rw[bne_eq_false_iff_eq.2 hl];have h4:=hz.2.1
 have key0:=AR (f:=cG) (N:=NN) (bad:=.inl (false,())) (good:=.inr (ss,bs,(bs.length:Int),(bs.length:Int),false,bs,key,())) (λi=>(ss,bs,(bs.length:Int),(i:Int),bs,key,())) (n:=bs.length) (λi=>kR bs ss i) (by unfold NN;omega) (λi hi' hpre=>by
  obtain⟨b,hgb⟩:∃b,bs[i]?=some b:=⟨_,oGE hi'⟩;obtain⟨z,hgz⟩:∃z,ss[i]?=some z:=⟨_,oGE (by omega)⟩;have hz2:=hz.2.2 z (bW hgz);have hb64:=hi b (bW hgb);unfold re at hb64;unfold cG;delta bN;dsimp only;rw[oDT (show (i:Int) < bs.length by omega),bT];simp only[oCT,oBS,show bY bs i=some b from hgb,show bY ss i=some z from hgz];rw[bP (x:=512 - z) (by omega) (by omega)];by_cases h0:b < 0
  ·rw[oDT h0];exact .inr ⟨λh=>by unfold kR at h;rw[bU hgb] at h;omega,rfl⟩
  rw[oDF h0];by_cases h1:b > 512 - z
  ·rw[oDT h1];exact .inr ⟨λh=>by unfold kR at h;rw[bU hgb,bU hgz] at h;omega,rfl⟩
  rw[oDF h1]
  have hwl:(lN bs 0 (Nat.sub i 0)).length=i:=by unfold lN;rw[oLT,List.drop_zero];show min i _=i;omega
  rw[show hJ 0 i bs.length=true by unfold hJ;simp;omega,hwl];simp only[oCT,oCF]
  rcases AR (f:=cH) (N:=NN) (bad:=.inl (false,())) (good:=.inr (ss,(i:Int),b,bs,(bs.length:Int),(i:Int),lN bs 0 (Nat.sub i 0),(i:Int),(i:Int),false,bs,key,())) (λj=>(ss,(i:Int),b,bs,(bs.length:Int),(i:Int),lN bs 0 (Nat.sub i 0),(i:Int),(j:Int),bs,key,())) (n:=i) (λk=>¬ (bs.getD i 0<=bs.getD k 0+ss.getD k 0/\bs.getD k 0<=bs.getD i 0+ss.getD i 0)) (by unfold NN;omega) (λj hj _=>by
   obtain⟨c,hgc⟩:∃c,bs[j]?=some c:=⟨_,oGE (by omega)⟩;obtain⟨y,hgy⟩:∃y,ss[j]?=some y:=⟨_,oGE (by omega)⟩;have hy2:=hz.2.2 y (bW hgy);have hc:=hpre j hj;unfold kR at hc;rw[bU hgc,bU hgy] at hc
   have hx:(bY (lN bs 0 (Nat.sub i 0)) j)=some c:=by
    unfold bY lN;rw[List.getElem?_take,List.drop_zero,<- hgc];exact oIP hj
   unfold cH;dsimp only;rw[oDT (show (j:Int) < i by omega),bT,bT];simp only[oCT,oBS,hx,show bY ss j=some y from hgy,show bY ss i=some z from hgz];rw[bP (x:=b+z) (by omega) (by omega),bP (x:=c+y) (by omega) (by omega),bU hgb,bU hgz,bU hgc,bU hgy];by_cases g1:b+z>=c
   ·rw[oDT g1];by_cases g2:c+y>=b
    ·rw[oDT g2];exact .inr ⟨λh=>h ⟨by omega,by omega⟩,rfl⟩
    ·rw[oDF g2];simp only[oCT,oCF];rw[bP (x:=(j:Int)+1) (by omega) (by omega)];exact .inl ⟨λh=>g2 (by omega),rfl⟩
   ·rw[oDF g1];simp only[oCT,oCF];rw[bP (x:=(j:Int)+1) (by omega) (by omega)]
    exact .inl ⟨λh=>g1 (by omega),rfl⟩) (by
   unfold cH;dsimp only;rw[oDF (show ¬ (i:Int) < i by omega)]
   rfl) with ⟨hp,e⟩ | ⟨hp,e⟩
  ·rw[show bR cH NN (ss,(i:Int),b,bs,(bs.length:Int),(i:Int),lN bs 0 (Nat.sub i 0),(i:Int),0,bs,key,())=_ from e];dsimp only;rw[bP (x:=(i:Int)+1) (by omega) (by omega)];refine .inl ⟨⟨?_,?_,hp⟩,rfl⟩
   ·rw[bU hgb];omega
   ·rw[bU hgb,bU hgz];omega
  ·rw[show bR cH NN (ss,(i:Int),b,bs,(bs.length:Int),(i:Int),lN bs 0 (Nat.sub i 0),(i:Int),0,bs,key,())=_ from e]
   exact .inr ⟨λh=>hp h.2.2,rfl⟩) (by
  unfold cG;dsimp only;rw[oDF (show ¬ (bs.length:Int) < bs.length by omega)]
  rfl)
 simp only[oCF];rcases key0 with ⟨hp,e⟩ | ⟨hp,e⟩
 ·rw[show bR cG NN (ss,bs,(bs.length:Int),0,bs,key,())=_ from e];exact .inl ⟨⟨hz,by omega,hp⟩,rfl⟩
 ·rw[show bR cG NN (ss,bs,(bs.length:Int),0,bs,key,())=_ from e];exact .inr ⟨λh=>hp h.2.2,rfl⟩
theorem rz:fV=cT:=rfl
theorem D2{bs ss:List Int}{key:Int}(hb:bs.length<=1000) (hs:ss.length<=1000) (hi:∀b∈bs,re b):za (fX bs key ss) (LV bs ss):=by
 unfold fX;rw[rz];rcases sV hs with ⟨hz,e⟩ | ⟨hz,e⟩
 rotate_left
 ·rw[e];exact .inr ⟨λh=>hz h.1,rfl⟩
 rw[e];delta bN;simp only[oBS,oNT,oCF];by_cases hl:(bs.length:Int)=ss.length
 rotate_left
 ·rw[bne_iff_ne.2 hl];exact .inr ⟨λh=>hl (by rw[h.2.1]),rfl⟩
 rw[bne_eq_false_iff_eq.2 hl];have h4:=hz.2.1
 have key0:=AR (f:=cV) (N:=NN) (bad:=.inl (false,())) (good:=.inr (ss,bs,(bs.length:Int),(bs.length:Int),false,bs,key,())) (λi=>(ss,bs,(bs.length:Int),(i:Int),bs,key,())) (n:=bs.length) (λi=>kR bs ss i) (by unfold NN;omega) (λi hi' hpre=>by
  obtain⟨b,hgb⟩:∃b,bs[i]?=some b:=⟨_,oGE hi'⟩;obtain⟨z,hgz⟩:∃z,ss[i]?=some z:=⟨_,oGE (by omega)⟩;have hz2:=hz.2.2 z (bW hgz);have hb64:=hi b (bW hgb);unfold re at hb64;unfold cV;dsimp only;rw[oDT (show (i:Int) < bs.length by omega),bT];simp only[oCT,oBS,show bY bs i=some b from hgb,show bY ss i=some z from hgz];by_cases h0:b < 0
  ·rw[oDT h0];exact .inr ⟨λh=>by unfold kR at h;rw[bU hgb] at h;omega,rfl⟩
  rw[oDF h0];by_cases h1:b>=512
  ·rw[oDT h1];exact .inr ⟨λh=>by unfold kR at h;rw[bU hgb,bU hgz] at h;omega,rfl⟩
  rw[oDF h1,bP (x:=b+z) (by omega) (by omega)];by_cases h2:b+z > 512
  ·rw[oDT h2];exact .inr ⟨λh=>by unfold kR at h;rw[bU hgb,bU hgz] at h;omega,rfl⟩
  rw[oDF h2];simp only[oCF,oBS]
  rcases AR (f:=cW) (N:=NN) (bad:=.inl (false,())) (good:=.inr (ss,(i:Int),b,bs,(bs.length:Int),(i:Int),(i:Int),(i:Int),false,bs,key,())) (λj=>(ss,(i:Int),b,bs,(bs.length:Int),(i:Int),(i:Int),(j:Int),bs,key,())) (n:=i) (λk=>¬ (bs.getD i 0<=bs.getD k 0+ss.getD k 0/\bs.getD k 0<=bs.getD i 0+ss.getD i 0)) (by unfold NN;omega) (λj hj _=>by
   obtain⟨c,hgc⟩:∃c,bs[j]?=some c:=⟨_,oGE (by omega)⟩;obtain⟨y,hgy⟩:∃y,ss[j]?=some y:=⟨_,oGE (by omega)⟩;have hy2:=hz.2.2 y (bW hgy);have hc:=hpre j hj;unfold kR at hc;rw[bU hgc,bU hgy] at hc;unfold cW;dsimp only;rw[oDT (show (j:Int) < i by omega),bT,bT];simp only[oCT,oBS,show bY bs j=some c from hgc,show bY ss j=some y from hgy,show bY ss i=some z from hgz];rw[bP (x:=b+z) (by omega) (by omega),bP (x:=c+y) (by omega) (by omega),bU hgb,bU hgz,bU hgc,bU hgy];by_cases g1:b<=c+y
   ·rw[oDT g1];by_cases g2:c<=b+z
    ·rw[oDT g2];exact .inr ⟨λh=>h ⟨by omega,by omega⟩,rfl⟩
    ·rw[oDF g2];simp only[oCT,oCF];rw[bP (x:=(j:Int)+1) (by omega) (by omega)];exact .inl ⟨λh=>g2 (by omega),rfl⟩
   ·rw[oDF g1];simp only[oCT,oCF];rw[bP (x:=(j:Int)+1) (by omega) (by omega)]
    exact .inl ⟨λh=>g1 (by omega),rfl⟩) (by
   unfold cW;dsimp only;rw[oDF (show ¬ (i:Int) < i by omega)]
   rfl) with ⟨hp,e⟩ | ⟨hp,e⟩
  ·rw[show bR cW NN (ss,(i:Int),b,bs,(bs.length:Int),(i:Int),(i:Int),0,bs,key,())=_ from e];dsimp only;rw[bP (x:=(i:Int)+1) (by omega) (by omega)];refine .inl ⟨⟨?_,?_,hp⟩,rfl⟩
   ·rw[bU hgb];omega
   ·rw[bU hgb,bU hgz];omega
  ·rw[show bR cW NN (ss,(i:Int),b,bs,(bs.length:Int),(i:Int),(i:Int),0,bs,key,())=_ from e]
   exact .inr ⟨λh=>hp h.2.2,rfl⟩) (by
  unfold cV;dsimp only;rw[oDF (show ¬ (bs.length:Int) < bs.length by omega)]
  rfl)
 simp only[oCF];rcases key0 with ⟨hp,e⟩ | ⟨hp,e⟩
 ·rw[show bR cV NN (ss,bs,(bs.length:Int),0,bs,key,())=_ from e];exact .inl ⟨⟨hz,by omega,hp⟩,rfl⟩
 ·rw[show bR cV NN (ss,bs,(bs.length:Int),0,bs,key,())=_ from e];exact .inr ⟨λh=>hp h.2.2,rfl⟩
theorem r7{n m o a b c i:Int}(h:d9 n m (o,a,b,c,i)) (hn:n<=4) (hm:m<=64):dV o a b c i=some (true,()):=by
 obtain⟨⟨o0,o1⟩,⟨a0,a1,a2⟩,⟨b0,b1,b2⟩,⟨c0,c1,c2⟩,⟨i0,i1,i2⟩,hl,hs,hj⟩:=h;dsimp only at *
 have step:∀(k:Nat) (x:Int) (u:Bool),k < 3->[a,b,c][k]?=some x->(k=0->u=eC o)->(k=1->u=eB o)->(k=2->u=eA o)->0<=x->x < 8->(u=false->x=0) ->
  Ok (cz (3,(k:Int),o,a,b,c,i,eC o,eB o,eA o,eK o,[a,b,c],())) (·=.inl (3,((k+1:Nat):Int),o,a,b,c,i,eC o,eB o,eA o,eK o,[a,b,c],())):=by
  intro k x u hk hx h0 h1 h2 hx0 hx1 hx2;unfold cz;dsimp only
  (with_reducible refine bS (λhca=>?_) λhca=>?_)
  ·rw[bT];simp only[oBS];rw[show bY [a,b,c] k=some x from hx];simp only[oBS];rw[oDF (show ¬ x < 0 by omega),oDF (show ¬ x>=8 by omega)];simp only[oCF];have fin:Ok (some ((3:Int),(k:Int),false,o,a,b,c,i,eC o,eB o,eA o,eK o,[a,b,c],())) (·=((3:Int),(k:Int),false,o,a,b,c,i,eC o,eB o,eA o,eK o,[a,b,c],())):=Ok.ret rfl
   have fin2:u=false->(x != 0)=false:=λh=>by rw[hx2 h];rfl
   refine Ok.bind (P:=(·=((3:Int),(k:Int),false,o,a,b,c,i,eC o,eB o,eA o,eK o,[a,b,c],()))) ?_ ?_
   ·rcases (show k=0\/k=1\/k=2 by omega) with rfl | rfl | rfl
    ·rw[<- h0 rfl] at fin ⊢;refine bO rfl ?_;refine Ok.cond (λhu=>?_) λ_=>fin;rw[fin2 (by simpa using hu)];exact fin
    ·rw[<- h1 rfl] at fin ⊢;refine Ok.cond (λhu=>by cases hu) λ_=>bO rfl (Ok.cond (λhu=>?_) λ_=>fin);rw[fin2 (by simpa using hu)];exact fin
    ·rw[<- h2 rfl] at fin ⊢;refine Ok.cond (λhu=>by cases hu) λ_=>Ok.cond (λhu=>by cases hu) λ_=>bO rfl (Ok.cond (λhu=>?_) λ_=>fin);rw[fin2 (by simpa using hu)];exact fin
   ·rintro _ rfl;dsimp only;rw[bP (x:=(k:Int)+1) (by omega) (by omega)];exact Ok.ret rfl
  ·omega
 have e:bR cz NN (3,0,o,a,b,c,i,eC o,eB o,eA o,eK o,[a,b,c],())=some (.inr (3,3,false,o,a,b,c,i,eC o,eB o,eA o,eK o,[a,b,c],())):=by
  refine ko (st:=λk=>(3,(k:Int),o,a,b,c,i,eC o,eB o,eA o,eK o,[a,b,c],())) (n:=3) (by unfold NN;omega) ?_ ?_
  ·intro k hk;rcases (show k=0\/k=1\/k=2 by omega) with rfl | rfl | rfl
   ·exact step 0 a _ (by omega) rfl (λ_=>rfl) (by omega) (by omega) a0 a1 a2
   ·exact step 1 b _ (by omega) rfl (by omega) (λ_=>rfl) (by omega) b0 b1 b2
   ·exact step 2 c _ (by omega) rfl (by omega) (by omega) (λ_=>rfl) c0 c1 c2
  ·exact Ok.ret rfl
 refine fb ?_;unfold dV;rw[oDF (show ¬ o < 0 by omega),oDF (show ¬ o > 24 by omega),pR o0 o1];simp only[oCF,oBS];rw[show bN [a,b,c].length=3 from rfl,e];dsimp only;rw[oDF (show ¬ i < 0 by omega),oDF (show ¬ i > 65535 by omega)];simp only[oCF];refine Ok.bind (P:=(·=(false,o,a,b,c,i,()))) ?_ ?_
 ·refine Ok.cond (λhu=>?_) λ_=>Ok.ret rfl;exact Ok.ret (by rw[i2 (by simpa using hu)];rfl)
 rintro _ rfl;dsimp only;rw[jG];simp only[oCF,oBS];refine Ok.cond (λhu=>?_) λ_=>?_
 ·exact Ok.ret (by rw[oDT (by have:=hj hu;omega)])
 ·(with_reducible refine bS (λhcc=>?_) λhcc=>?_)
  ·exact Ok.ret (by rw[oDT (by have:=hl hcc;omega)])
  ·(with_reducible refine bS (λhcd=>?_) λhcd=>?_)
   ·exact Ok.ret (by rw[oDT (by have:=hs hcd;omega)])
   ·exact Ok.ret rfl
theorem nq{code:List DIn}{s:List Int}{d:List (List Int)}(h:jS code s d):dU code s d=some (0,()):=by
 have hs:=h.sz;have hs4:=hs.2.1;have hc:=h.clen;have hl:=h.len
 have e0:bR cy NN (d,(d.length:Int),0,code,s,d,())=some (.inr (d,(d.length:Int),(d.length:Int),false,code,s,d,())):=by
  refine ko (st:=λk=>(d,(d.length:Int),(k:Int),code,s,d,())) (n:=d.length) (by unfold NN;omega) ?_ ?_
  ·intro k hk;unfold cy;dsimp only
   (with_reducible refine bS (λhca=>?_) λhca=>?_)
   ·rw[bT];delta bN;simp only[oBS];refine Ok.get (by omega) λx hx=>?_;refine Ok.get (by omega) λy hy=>?_;have:=h.fit k x y hx hy
    (with_reducible refine bS (λhcb=>?_) λhcb=>?_)
    ·omega
    ·(simp (disch:=omega) only [bP,cw,cg,cb])
     exact Ok.ret rfl
   ·omega
  ·unfold cy;dsimp only
   (with_reducible refine bS (λhca=>?_) λhca=>?_)
   ·omega
   ·exact Ok.ret rfl
 have e1:bR cF NN (code,(code.length:Int),0,code,s,d,())=some (.inr (code,(code.length:Int),(code.length:Int),false,code,s,d,())):=by
  refine ko (st:=λk=>(code,(code.length:Int),(k:Int),code,s,d,())) (n:=code.length) (by unfold NN;omega) ?_ ?_
  ·intro k hk;unfold cF;dsimp only
   (with_reducible refine bS (λhca=>?_) λhca=>?_)
   ·rw[bT];simp only[oBS];refine Ok.get (by omega) λx hx=>?_;obtain⟨o,a,b,c,i⟩:=x;rw[r7 (h.ins _ (bW hx)) (by omega) (by omega)];simp only[oBS,oNT,oCF]
    (simp (disch:=omega) only [bP,cw,cg,cb])
    exact Ok.ret rfl
   ·omega
  ·unfold cF;dsimp only
   (with_reducible refine bS (λhca=>?_) λhca=>?_)
   ·omega
   ·exact Ok.ret rfl
 have e3:bR cE NN (code,(code.length:Int),0,code,s,d,())=some (.inr (code,(code.length:Int),(code.length:Int),false,code,s,d,())):=by
  refine ko (st:=λk=>(code,(code.length:Int),(k:Int),code,s,d,())) (n:=code.length) (by unfold NN;omega) ?_ ?_
  ·intro k hk;unfold cE;dsimp only
   (with_reducible refine bS (λhca=>?_) λhca=>?_)
   ·rw[bT];simp only[oBS];refine Ok.get (by omega) λx hx=>?_;have hp:=h.ins x (bW hx);rw[jG];simp only[oBS];refine Ok.bind (P:=(·=(code,(code.length:Int),(k:Int),false,code,s,d,()))) ?_ ?_
    ·refine Ok.cond (λhj=>?_) λ_=>?_
     ·have:=hp.jmp hj
      (with_reducible refine bS (λhcb=>?_) λhcb=>?_)
      ·have hcb:x.2.2.2.2>=(code.length:Int):=hcb;omega
      ·(with_reducible refine bS (λhcc=>?_) λhcc=>?_)
       ·exact Ok.ret (by rw[oDF (show ¬ x.2.2.2.2>=bN s.length by rw[cb];have:=hp.lea hcc;omega)])
       ·exact Ok.ret rfl
     ·(with_reducible refine bS (λhcc=>?_) λhcc=>?_)
      ·exact Ok.ret (by rw[oDF (show ¬ x.2.2.2.2>=bN s.length by rw[cb];have:=hp.lea hcc;omega)])
      ·exact Ok.ret rfl
    ·rintro _ rfl;dsimp only;simp only[oCF]
     (simp (disch:=omega) only [bP,cw,cg,cb])
     exact Ok.ret rfl
   ·omega
  ·unfold cE;dsimp only
   (with_reducible refine bS (λhca=>?_) λhca=>?_)
   ·omega
   ·exact Ok.ret rfl
 refine fb ?_;unfold dU;rw[pf hs];delta bN;simp only[oBS,oNT,oCF,hl,bne_self_eq_false];rw[hl] at e0;rw[e0];dsimp only
 (with_reducible refine bS (λhca=>?_) λhca=>?_)
 ·omega
 ·(with_reducible refine bS (λhcb=>?_) λhcb=>?_)
  ·omega
  ·rw[e1];dsimp only;rw[e3];exact Ok.ret rfl
def Fld(u:Bool) (v m:Int):Prop:=v=0\/(u=true/\0 < v/\v<=m)
def mW(o:Int):Int:=bif jp o then 63 else bif o==15 then 3 else bif o==23 then 15 else 65535
def CD(o a b c i:Int):Prop:=(0<=o/\o<=24)/\Fld (eC o) a 7/\Fld (eB o) b 7/\Fld (eA o) c 7/\Fld (eK o) i (mW o)
theorem yD:iF=ek:=rfl
theorem rG:gA=dx:=rfl
theorem z6(o:Int):mW o<=65535:=by
 unfold mW;cases jp o<;>cases (o==15)<;>cases (o==23)<;>simp only[oCT,oCF]<;>omega
theorem nh{u:Bool}{v m:Int}:za (dc u v m) (Fld u v m):=by
 unfold dc Fld;by_cases h0:v=0
 ·rw[show (v==0)=true from beq_iff_eq.2 h0];exact .inl ⟨.inl h0,rfl⟩
 rw[show (v==0)=false from oBF h0]
 cases u with
 | false=>exact .inr ⟨λh=>h.elim h0 λh=>(by cases h.1),rfl⟩
 | true=>
  by_cases h1:v > 0
  rotate_left
  ·rw[oDF h1];exact .inr ⟨λh=>by omega,rfl⟩
  rw[oDT h1];by_cases h2:v<=m
  ·rw[oDT h2];exact .inl ⟨.inr ⟨rfl,h1,h2⟩,rfl⟩
  ·rw[oDF h2];exact .inr ⟨λh=>by omega,rfl⟩
theorem BW{o:Int}:iq o=some (mW o,()):=by
 unfold iq mW;rw[rG,jG];simp only[oBS];cases jp o<;>cases (o==15)<;>cases (o==23)<;>rfl
theorem DT{o a b c i:Int}:za (dC o a b c i) (CD o a b c i):=by
 unfold dC CD;by_cases h0:o < 0
 ·rw[oDT h0];exact .inr ⟨λh=>by omega,rfl⟩
 rw[oDF h0];by_cases h1:o > 24
 ·rw[oDT h1];exact .inr ⟨λh=>by omega,rfl⟩
 rw[oDF h1,yD,pR (by omega) (by omega)];simp only[oCF,oBS];rcases nh (u:=eC o) (v:=a) (m:=7) with ⟨hA,e⟩ | ⟨hA,e⟩
 rotate_left
 ·rw[e];exact .inr ⟨λh=>hA h.2.1,rfl⟩
 rw[e];rcases nh (u:=eB o) (v:=b) (m:=7) with ⟨hB,e⟩ | ⟨hB,e⟩
 rotate_left
 ·rw[e];exact .inr ⟨λh=>hB h.2.2.1,rfl⟩
 rw[e];rcases nh (u:=eA o) (v:=c) (m:=7) with ⟨hC,e⟩ | ⟨hC,e⟩
 rotate_left
 ·rw[e];exact .inr ⟨λh=>hC h.2.2.2.1,rfl⟩
 rw[e,BW];rcases nh (u:=eK o) (v:=i) (m:=mW o) with ⟨hI,e⟩ | ⟨hI,e⟩
 rotate_left
 ·simp only[oCT,oBS];rw[e];exact .inr ⟨λh=>hI h.2.2.2.2,rfl⟩
 simp only[oCT,oBS];rw[e];exact .inl ⟨⟨by omega,hA,hB,hC,hI⟩,rfl⟩
theorem DS{o a b c i:Int}:za (dV o a b c i) (CD o a b c i):=by
 have step:∀(k:Nat) (x:Int) (u:Bool),k < 3->[a,b,c][k]?=some x->(k=0->u=eC o)->(k=1->u=eB o)->(k=2->u=eA o) ->
  (Fld u x 7/\cz (3,(k:Int),o,a,b,c,i,eC o,eB o,eA o,eK o,[a,b,c],())=some (.inl (3,((k+1:Nat):Int),o,a,b,c,i,eC o,eB o,eA o,eK o,[a,b,c],()))) \/
  (¬ Fld u x 7/\cz (3,(k:Int),o,a,b,c,i,eC o,eB o,eA o,eK o,[a,b,c],())=some (.inr (.inl (false,())))):=by
  intro k x u hk hx h0 h1 h2;unfold cz;dsimp only;rw[oDT (show (k:Int) < 3 by omega),bT];simp only[oCT,oBS,show bY [a,b,c] k=some x from hx];by_cases g0:x < 0
  ·rw[oDT g0];exact .inr ⟨λh=>by unfold Fld at h;omega,rfl⟩
  rw[oDF g0];by_cases g1:x>=8
  ·rw[oDT g1];exact .inr ⟨λh=>by unfold Fld at h;omega,rfl⟩
  rw[oDF g1];have hw:w64 ((k:Int)+1)=((k+1:Nat):Int):=bP (by omega) (by omega)
  have goal:∀(R:Bool),(R=true↔¬ Fld u x 7)->(Fld u x 7/\(bif R then some (.inr (.inl (false,()))) else some (.inl ((3:Int),w64 ((k:Int)+1),o,a,b,c,i,eC o,eB o,eA o,eK o,[a,b,c],())):Option ((Int×Int×Int×Int×Int×Int×Int×Bool×Bool×Bool×Bool×(List (Int))×Unit)⊕((Bool×Unit)⊕(Int×Int×Bool×Int×Int×Int×Int×Int×Bool×Bool×Bool×Bool×(List (Int))×Unit))))=some (.inl (3,((k+1:Nat):Int),o,a,b,c,i,eC o,eB o,eA o,eK o,[a,b,c],()))) \/
   (¬ Fld u x 7/\(bif R then some (.inr (.inl (false,()))) else some (.inl ((3:Int),w64 ((k:Int)+1),o,a,b,c,i,eC o,eB o,eA o,eK o,[a,b,c],())):Option ((Int×Int×Int×Int×Int×Int×Int×Bool×Bool×Bool×Bool×(List (Int))×Unit)⊕((Bool×Unit)⊕(Int×Int×Bool×Int×Int×Int×Int×Int×Bool×Bool×Bool×Bool×(List (Int))×Unit))))=some (.inr (.inl (false,())))):=by
   intro R hR
   cases R with
   | true=>exact .inr ⟨hR.1 rfl,rfl⟩
   | false=>exact .inl ⟨Classical.byContradiction λh=>(by cases hR.2 h),by rw[hw];rfl⟩
  have hx0:(x != 0)=true↔¬ x=0:=by rw[bne_iff_ne]
  have hF:u=false->((x != 0)=true↔¬ Fld u x 7):=λhu=>by
   rw[hx0];unfold Fld;rw[hu];exact⟨λh g=>g.elim h λg=>(by cases g.1),λh g=>h (.inl g)⟩
  have hT:u=true->((false=true)↔¬ Fld u x 7):=λhu=>⟨λh=>(by cases h),λh=>absurd (show Fld u x 7 by rw[hu];exact (show x=0\/(0 < x/\x<=7) by omega).elim .inl λg=>.inr ⟨rfl,g⟩) h⟩;rcases (show k=0\/k=1\/k=2 by omega) with rfl | rfl | rfl
  ·have hu:=h0 rfl
   cases hA:eC o with
   | true=>rw[hA] at hu goal;exact goal false (hT hu)
   | false=>rw[hA] at hu goal;exact goal (x != 0) (hF hu)
  ·have hu:=h1 rfl
   cases hB:eB o with
   | true=>rw[hB] at hu goal;exact goal false (hT hu)
   | false=>rw[hB] at hu goal;exact goal (x != 0) (hF hu)
  ·have hu:=h2 rfl
   cases hC:eA o with
   | true=>rw[hC] at hu goal;exact goal false (hT hu)
   | false=>rw[hC] at hu goal;exact goal (x != 0) (hF hu)
 unfold dV;by_cases h0:o < 0
 ·rw[oDT h0];exact .inr ⟨λh=>by unfold CD at h;omega,rfl⟩
 rw[oDF h0];by_cases h1:o > 24
 ·rw[oDT h1];exact .inr ⟨λh=>by unfold CD at h;omega,rfl⟩
 rw[oDF h1,pR (by omega) (by omega)];simp only[oCF,oBS];rw[show bN [a,b,c].length=3 from rfl]
 rcases AR (f:=cz) (N:=NN) (bad:=.inl (false,())) (good:=.inr (3,3,false,o,a,b,c,i,eC o,eB o,eA o,eK o,[a,b,c],())) (λk=>(3,(k:Int),o,a,b,c,i,eC o,eB o,eA o,eK o,[a,b,c],())) (n:=3) (λk=>match k with | 0=>Fld (eC o) a 7 | 1=>Fld (eB o) b 7 | _=>Fld (eA o) c 7) (by unfold NN;omega) (λk hk _=>by
  rcases (show k=0\/k=1\/k=2 by omega) with rfl | rfl | rfl
  ·exact step 0 a _ (by omega) rfl (λ_=>rfl) (by omega) (by omega)
  ·exact step 1 b _ (by omega) rfl (by omega) (λ_=>rfl) (by omega)
  ·exact step 2 c _ (by omega) rfl (by omega) (by omega) (λ_=>rfl)) rfl with ⟨hp,e⟩ | ⟨hp,e⟩
 rotate_left
 ·rw[show bR cz NN (3,0,o,a,b,c,i,eC o,eB o,eA o,eK o,[a,b,c],())=_ from e];refine .inr ⟨λh=>hp λk hk=>?_,rfl⟩;rcases (show k=0\/k=1\/k=2 by omega) with rfl | rfl | rfl
  ·exact h.2.1
  ·exact h.2.2.1
  ·exact h.2.2.2.1
 rw[show bR cz NN (3,0,o,a,b,c,i,eC o,eB o,eA o,eK o,[a,b,c],())=_ from e];dsimp only;have hA:=hp 0 (by omega);have hB:=hp 1 (by omega);have hC:=hp 2 (by omega)
 have tail:i<=65535->((dx o).bind λ(x25,_)=>bif x25 then some ((decide (i < 64)),()) else bif (o==15) then some ((decide (i < 4)),()) else bif (o==23) then some ((decide (i<=15)),()) else some (true,()))=some (decide (i<=mW o),()):=by
  intro hi;rw[jG];unfold mW;simp only[oBS];cases jp o<;>cases (o==15)<;>cases (o==23)<;>simp only[oCT,oCF]
  all_goals first
   | rw[oDT hi]
   | rw[show decide (i < 64)=decide (i<=63) from decide_eq_decide.2 (by omega)]
   | rw[show decide (i < 4)=decide (i<=3) from decide_eq_decide.2 (by omega)]
 have hmo:=z6 o;by_cases g0:i < 0
 ·rw[oDT g0];exact .inr ⟨λh=>by have:=h.2.2.2.2;unfold Fld at this;omega,rfl⟩
 rw[oDF g0];by_cases g1:i > 65535
 ·rw[oDT g1];exact .inr ⟨λh=>by have:=h.2.2.2.2;unfold Fld at this;omega,rfl⟩
 rw[oDF g1]
 have hm0:0<=mW o:=by
  unfold mW;cases jp o<;>cases (o==15)<;>cases (o==23)<;>simp only[oCT,oCF]<;>omega
 cases hu:eK o with
 | false=>
  by_cases gi:i=0
  ·subst gi;simp only[oCF,Bool.not_false,oCT,oBS,bne_self_eq_false];rw[tail (by omega),oDT hm0];exact .inl ⟨⟨by omega,hA,hB,hC,.inl rfl⟩,rfl⟩
  ·rw[show (i != 0)=true from bne_iff_ne.2 gi];exact .inr ⟨λh=>by have:=h.2.2.2.2;unfold Fld at this;rw[hu] at this;exact this.elim gi λh=>(by cases h.1),rfl⟩
 | true=>
  simp only[oCF,oNT,oBS];rw[tail (by omega)];by_cases gm:i<=mW o
  ·rw[oDT gm];refine .inl ⟨⟨by omega,hA,hB,hC,?_⟩,rfl⟩;rw[hu];exact (show i=0\/(0 < i/\i<=mW o) by omega).elim .inl λg=>.inr ⟨rfl,g⟩
  ·rw[oDF gm];exact .inr ⟨λh=>by have:=h.2.2.2.2;unfold Fld at this;omega,rfl⟩
theorem C3{o a b c i:Int}:dC o a b c i=dV o a b c i:=DT.same DS
def RK(bs ss:List Int) (a:Int):Prop:=∃(j:Nat) (b z:Int),bs[j]?=some b/\ss[j]?=some z/\b<=a/\a < b+z
def sN(K:Int->Prop) (c:DCe):Prop:=0<=c.1/\c.1<=2/\0<=c.2/\c.2<=65535/\(c.1=1->K c.2)
theorem sN.mono{K K':Int->Prop}{c:DCe}(h:sN K c) (hk:∀a,K a->K' a):sN K' c:=⟨h.1,h.2.1,h.2.2.1,h.2.2.2.1,λe=>hk _ (h.2.2.2.2 e)⟩
theorem A0{K:Int->Prop}{v:Int}(h:0<=v/\v<=65535):sN K (0,v):=⟨by dsimp only;omega,by dsimp only;omega,h.1,h.2,λe=>absurd (show (0:Int)=1 from e) (by decide)⟩
def DN(K:Int->Prop) (i:Nat) (x:DLn):Prop:=(x.1=-1/\x.2.1=false/\x.2.2=[])\/(0<=x.1/\x.1 < 128/\x.1 % 4=i/\x.2.2.length=4/\∀c∈x.2.2,sN K c)
def Ed(cs:List DCe) (x:DLn):Prop:=x.1=-1\/x.2.1=true\/∀o:Nat,o < 4->cs[(x.1*4).toNat+o]?=x.2.2[o]?
structure zb (K:Int->Prop) (cs:List DCe) (ls:List DLn):Prop where
 clen:cs.length=512
 cells:∀c∈cs,sN K c
 llen:ls.length=4
 lines:∀(i:Nat) x,ls[i]?=some x->DN K i x
 coh:∀(i:Nat) x,ls[i]?=some x->Ed cs x
structure Dh (K:Int->Prop) (n:Int) (t:DTh):Prop where
 state:0<=t.1/\t.1<=4
 len:t.2.1.length=8
 regs:∀c∈t.2.1,sN K c
 pc:0<=t.2.2.1/\t.2.2.1<=255
 count:0<=t.2.2.2.1/\t.2.2.2.1<=n
 handler:-1<=t.2.2.2.2.1/\t.2.2.2.2.1<=255
 saved:-1<=t.2.2.2.2.2.1/\t.2.2.2.2.2.1<=255
 trap:0<=t.2.2.2.2.2.2.1/\t.2.2.2.2.2.2.1<=6
 code:W16 t.2.2.2.2.2.2.2
structure MOk (n:Int) (ss bs:List Int) (cs:List DCe) (ls:List DLn) (ts:List DTh):Prop where
 lay:LV bs ss
 mem:zb (RK bs ss) cs ls
 tlen:ts.length=4
 thr:∀t∈ts,Dh (RK bs ss) n t
theorem u9{K:Int->Prop}{l:List DCe}(hl:l.length<=1000) (h:∀c∈l,sN K c):gO l=some (true,()):=by
 have e:bR fW NN (l,(l.length:Int),0,())=some (.inr (l,(l.length:Int),(l.length:Int),false,())):=by
  refine ko (st:=λk=>(l,(l.length:Int),(k:Int),())) (n:=l.length) (by unfold NN;omega) ?_ ?_
  ·intro k hk;unfold fW;dsimp only
   (with_reducible refine bS (λhca=>?_) λhca=>?_)
   ·rw[bT];simp only[oBS];refine Ok.get (by omega) λx hx=>?_;have:=h x (bW hx);unfold fB;rw[oDT (show x.1<=2 from this.2.1)];simp only[oBS,oNT,oCF]
    (simp (disch:=omega) only [bP,cw,cg,cb])
    exact Ok.ret rfl
   ·omega
  ·unfold fW;dsimp only
   (with_reducible refine bS (λhca=>?_) λhca=>?_)
   ·omega
   ·exact Ok.ret rfl
 refine fb ?_;unfold gO;delta bN
 try dsimp only
 rw[e];exact Ok.ret rfl
theorem vg{K:Int->Prop}{cs:List DCe}{ls:List DLn}(h:zb K cs ls):gw cs ls=some (true,()):=by
 obtain⟨h1,h2,h3,h4,_⟩:=h
 have e:bR eQ NN (ls,4,0,cs,ls,())=some (.inr (ls,4,4,false,cs,ls,())):=by
  refine ko (st:=λk=>(ls,4,(k:Int),cs,ls,())) (n:=4) (by unfold NN;omega) ?_ ?_
  ·intro k hk;unfold eQ;dsimp only
   (with_reducible refine bS (λhca=>?_) λhca=>?_)
   ·rw[bT];simp only[oBS];refine Ok.get (by omega) λx hx=>?_;rcases h4 k x hx with ⟨e1,e2,e3⟩ | ⟨g1,g2,g3,g4,g5⟩
    ·rw[e1,e2,e3];simp only[beq_self_eq_true,oCT,oCF]
     (simp (disch:=omega) only [bP,cw,cg,cb])
     exact Ok.ret rfl
    ·rw[show (x.1==-1)=false by rw[beq_eq_false_iff_ne];omega,oDF (show ¬ x.1 < 0 by omega),oDF (show ¬ x.1>=128 by omega),Int.tmod_eq_emod_of_nonneg g1,g3,g4,u9 (by omega) g5];simp only[oCF,bne_self_eq_false,oBS,oNT];refine Ok.bind (P:=(·=(ls,4,(k:Int),false,cs,ls,()))) ?_ ?_
     ·refine Ok.cond (λh=>by cases h) λ_=>Ok.ret rfl
     ·rintro _ rfl;dsimp only;simp only[oCF]
      (simp (disch:=omega) only [bP,cw,cg,cb])
      exact Ok.ret rfl
   ·omega
  ·unfold eQ;exact Ok.ret rfl
 refine fb ?_;unfold gw;delta bN;simp only[h1,h3,u9 (show cs.length<=1000 by omega) h2,oBS,oNT];refine Ok.bind (P:=(·=(false,cs,ls,()))) ?_ ?_
 ·exact Ok.ret rfl
 ·rintro _ rfl;dsimp only;simp only[oCF];rw[h3,show ((4:Nat):Int)=4 from rfl,e];exact Ok.ret rfl
theorem vf{K:Int->Prop}{t:DTh}(h:Dh K 1099511627776 t):gv t.1 t.2.1 t.2.2.1 t.2.2.2.1 t.2.2.2.2.1 t.2.2.2.2.2.1 t.2.2.2.2.2.2.1 t.2.2.2.2.2.2.2=some (true,()):=by
 obtain⟨⟨a1,a2⟩,hl,hr,⟨b1,b2⟩,⟨c1,c2⟩,⟨d1,d2⟩,⟨e1,e2⟩,⟨f1,f2⟩,_⟩:=h;obtain⟨s,rs,pc,ct,ha,sa,tr,co⟩:=t;dsimp only at *
 have e:bR eP NN (rs,(rs.length:Int),0,s,rs,pc,ct,ha,sa,tr,co,())=some (.inr (rs,(rs.length:Int),(rs.length:Int),false,s,rs,pc,ct,ha,sa,tr,co,())):=by
  refine ko (st:=λk=>(rs,(rs.length:Int),(k:Int),s,rs,pc,ct,ha,sa,tr,co,())) (n:=rs.length) (by unfold NN;omega) ?_ ?_
  ·intro k hk;unfold eP;dsimp only
   (with_reducible refine bS (λhca=>?_) λhca=>?_)
   ·rw[bT];simp only[oBS];refine Ok.get (by omega) λx hx=>?_;have:=hr x (bW hx);unfold fB;rw[oDT (show x.1<=2 from this.2.1)];simp only[oBS,oNT,oCF]
    (simp (disch:=omega) only [bP,cw,cg,cb])
    exact Ok.ret rfl
   ·omega
  ·unfold eP;dsimp only
   (with_reducible refine bS (λhca=>?_) λhca=>?_)
   ·omega
   ·exact Ok.ret rfl
 refine fb ?_;unfold gv;delta bN
 try dsimp only
 rw[e];dsimp only;rw[hl];refine bO (oDT a1) (bO (oDT a2) (bO rfl (bO (oDT b1) (bO (oDT b2) (bO (oDT c1) (bO (oDT c2) (bO (oDT d1) (bO (oDT d2) (bO (oDT e1) (bO (oDT e2) (bO (oDT f1) ?_)))))))))));exact Ok.ret (by rw[oDT f2])
theorem pe{code:List DIn}{ss bs:List Int}{d:List (List Int)}{n key:Int}{cs:List DCe}{ls:List DLn}{ts:List DTh}(hp:jS code ss d) (h:MOk n ss bs cs ls ts) (hn:n<=1099511627776):fm code ss d bs key cs ls ts=some (true,()):=by
 obtain⟨h1,h2,h3,h4⟩:=h
 have e:bR gk NN (ts,4,0,bs,key,cs,ls,ts,())=some (.inr (ts,4,4,false,bs,key,cs,ls,ts,())):=by
  refine ko (st:=λk=>(ts,4,(k:Int),bs,key,cs,ls,ts,())) (n:=4) (by unfold NN;omega) ?_ ?_
  ·intro k hk;unfold gk;dsimp only
   (with_reducible refine bS (λhca=>?_) λhca=>?_)
   ·rw[bT];simp only[oBS];refine Ok.get (by omega) λx hx=>?_;have ht:=h4 x (bW hx);rw[vf ⟨ht.state,ht.len,ht.regs,ht.pc,⟨ht.count.1,by have:=ht.count.2;omega⟩,ht.handler,ht.saved,ht.trap,ht.code⟩];simp only[oBS,oNT,oCF]
    (simp (disch:=omega) only [bP,cw,cg,cb])
    exact Ok.ret rfl
   ·omega
  ·exact Ok.ret rfl
 refine fb ?_;unfold fm;rw[nq hp,iK h1,vg h2];delta bN;simp only[oBS,oNT,oCF,bne_self_eq_false,h3];refine Ok.cond (λh=>by cases h) λ_=>?_;rw[show ((4:Nat):Int)=4 from rfl,e];exact Ok.ret rfl
def cA:List DLn:=[(-1,false,[]),(-1,false,[]),(-1,false,[]),(-1,false,[])]
theorem qR:kV=some (cA,()):=by kernel_rfl
theorem yH{K:Int->Prop}{cs:List DCe}(h:cs.length=512) (hc:∀c∈cs,sN K c):zb K cs cA:=by
 have key:∀(i:Nat) x,cA[i]?=some x->x=(-1,false,[]):=λi x hx=>by
  have:=bW hx;simp only[cA,List.mem_cons,List.not_mem_nil,or_false,or_self] at this;exact this
 exact⟨h,hc,rfl,λi x hx=>by rw[key i x hx];exact .inl ⟨rfl,rfl,rfl⟩,λi x hx=>by rw[key i x hx];exact .inl rfl⟩
theorem vU{α:Type}{P:α->Prop}{l:List α}{i:Nat}{f:α->α}(h:∀x∈l,P x) (hf:∀x,P x->P (f x)):∀x∈List.modify l i f,P x:=by
 intro x hx;obtain⟨j,hj⟩:=List.getElem?_of_mem hx;rw[List.getElem?_modify] at hj
 cases hl:l[j]? with
 | none=>rw[hl] at hj;cases hj
 | some y=>
  rw[hl] at hj;have hy:=h y (bW hl)
  injection hj with hj
  subst hj;split
  ·exact hf y hy
  ·exact hy
theorem B3{code:List DIn}{ss bs:List Int}{d:List (List Int)}{key:Int}(hp:jS code ss d) (hl:LV bs ss):Ok (em code ss d bs key) λr=>∃cs,r=(cs,cA,0,())/\cs.length=512/\∀c∈cs,sN (λ_=>False) c:=by
 unfold em;rw[iK hl,qR];delta bN;simp only[oBS,oNT,oCF,hp.len,bne_self_eq_false];refine bO (by decide) ?_
 obtain⟨t,e,ht⟩:=lO (f:=cN) (n:=NN) (s:=(d,(ss.length:Int),0,code,ss,d,bs,key,(),(),List.replicate 512 (0,0),cA,()))
  (P:=λs'=>∃k:Nat,∃cs,s'=(d,(ss.length:Int),(k:Int),code,ss,d,bs,key,(),(),cs,cA,())/\k<=ss.length/\cs.length=512/\∀c∈cs,sN (λ_=>False) c)
  (R:=λr=>∃a b c e cs,r=.inr (a,b,c,e,code,ss,d,bs,key,(),(),cs,cA,())/\cs.length=512/\∀c∈cs,sN (λ_=>False) c) (m:=λs'=>(s'.2.1 - s'.2.2.1).toNat)
  ⟨0,_,rfl,by omega,List.length_replicate,λc hc=>by rw[List.eq_of_mem_replicate hc];exact A0 (by decide)⟩ (by unfold NN;dsimp only;have:=hp.sz.2.1;omega) (by
   rintro _ ⟨k,cs,rfl,hk,hc1,hc2⟩;unfold cN;dsimp only;have hlen:=hp.len;have hs4:=hp.sz.2.1
   (with_reducible refine bS (λhca=>?_) λhca=>?_)
   ·rw[bT];delta bN;simp only[oBS];refine Ok.get (by omega) λx hx=>?_;refine Ok.get (by omega) λy hy=>?_;have hf:=hp.fit k x y hx hy;have hy2:=hp.sz.2.2 y (bW hy);have hnum:=hp.num x (bW hx);obtain⟨_,hbl,hr⟩:=hl;have hrk:=hr k (by omega);unfold kR at hrk;obtain⟨b,hb⟩:∃b,bs[k]?=some b:=⟨_,oGE (by omega)⟩;rw[bU hb,bU hy] at hrk
    (with_reducible refine bS (λhcb=>?_) λhcb=>?_)
    ·omega
    ·refine Ok.loop (P:=λs'=>∃j:Nat,∃cs,s'=((k:Int),d,(ss.length:Int),(k:Int),x,(x.length:Int),(j:Int),code,ss,d,bs,key,(),(),cs,cA,())/\j<=x.length/\cs.length=512/\∀c∈cs,sN (λ_=>False) c)
      (R:=λr=>∃a b c e cs,r=(a,d,(ss.length:Int),(k:Int),b,c,e,false,code,ss,d,bs,key,(),(),cs,cA,())/\cs.length=512/\∀c∈cs,sN (λ_=>False) c) (m:=λs'=>(s'.2.2.2.2.2.1 - s'.2.2.2.2.2.2.1).toNat)
      ⟨0,cs,rfl,by omega,hc1,hc2⟩ (by unfold NN;dsimp only;omega) ?_ ?_
     ·rintro _ ⟨j,cs,rfl,hj,hc1,hc2⟩;unfold dL;dsimp only
      (with_reducible refine bS (λhcc=>?_) λhcc=>?_)
      ·rw[bT,bT];simp only[oBS];refine Ok.get (by omega) λv hv=>?_;have hv2:=hnum v (bW hv);rw[show bY bs k=some b from hb];simp only[oBS]
       (simp (disch:=omega) only [bP,cw,cg,cb])
       refine Ok.nat (by omega) λa ha=>?_;refine Ok.get (by omega) λc hc=>?_;refine Ok.get (by omega) λc' hc'=>?_;exact Ok.ret ⟨⟨j+1,_,rfl,by omega,by rw[oLM];exact hc1,vU hc2 λz hz=>⟨hz.1,hz.2.1,hv2.1,hv2.2,hz.2.2.2.2⟩⟩,by dsimp only;omega⟩
      ·exact Ok.ret ⟨_,_,_,_,_,rfl,hc1,hc2⟩
     ·rintro _ ⟨a,b,c,e,cs,rfl,hc1,hc2⟩;dsimp only
      (simp (disch:=omega) only [bP,cw,cg,cb])
      exact Ok.ret ⟨⟨k+1,_,rfl,by omega,hc1,hc2⟩,by dsimp only;omega⟩
   ·exact Ok.ret ⟨_,_,_,_,_,rfl,hc1,hc2⟩)
 rw[e];obtain⟨a,b,c,e,cs,rfl,hc1,hc2⟩:=ht;exact Ok.ret ⟨cs,rfl,hc1,hc2⟩
theorem CH{K:Int->Prop}:∀c∈List.replicate 8 ((0:Int),(0:Int)),sN K c:=λc hc=>by rw[List.eq_of_mem_replicate hc];exact A0 (by decide)
theorem Bd{K:Int->Prop}{s:Int}(h:0<=s/\s<=4):Dh K 0 (s,List.replicate 8 (0,0),0,0,-1,-1,0,0):=
 ⟨h,rfl,CH,⟨by dsimp only;omega,by dsimp only;omega⟩,⟨by dsimp only;omega,by dsimp only;omega⟩,⟨by dsimp only;omega,by dsimp only;omega⟩,⟨by dsimp only;omega,by dsimp only;omega⟩,⟨by dsimp only;omega,by dsimp only;omega⟩,⟨by dsimp only;omega,by dsimp only;omega⟩⟩
theorem zo{code:List DIn}{ss bs:List Int}{d:List (List Int)}{key:Int}(hp:jS code ss d) (hl:LV bs ss):Ok (dq code ss d bs key) λr=>∃cs ts,r=(bs,key,cs,cA,ts,0,())/\MOk 0 ss bs cs cA ts:=by
 unfold dq;rw[nq hp,iK hl];simp only[oBS,oNT,oCF,bne_self_eq_false];refine (B3 hp hl).bind ?_;rintro _ ⟨cs,rfl,hc1,hc2⟩;dsimp only;have hbl:=hl.2.1;have hs4:=hp.sz.2.1;refine bO (cn (by omega)) ?_;rw[show List.append [] bs=bs from rfl]
 refine Ok.loop (P:=λs'=>∃k:Nat,∃ts,s'=((k:Int),(),0,(),(),(),bs,key,cs,cA,ts,())/\k<=4/\ts.length=k/\∀t∈ts,Dh (RK bs ss) 0 t)
  (R:=λr=>∃a b ts,r=(a,b,(),0,(),(),(),bs,key,cs,cA,ts,())/\ts.length=4/\∀t∈ts,Dh (RK bs ss) 0 t) (m:=λs'=>(4 - s'.1).toNat) ⟨0,[],rfl,by omega,rfl,cK⟩ (by unfold NN;dsimp only;omega) ?_ ?_
 ·rintro _ ⟨k,ts,rfl,hk,ht1,ht2⟩;unfold gl;dsimp only
  (with_reducible refine bS (λhca=>?_) λhca=>?_)
  ·refine bO (by decide) ?_;refine Ok.bind (P:=λr=>∃s,(0<=s/\s<=4)/\r=((k:Int),(),0,(),(),(),bs,key,cs,cA,ts,s,List.replicate 8 (0,0),0,0,-1,-1,0,0,())) ?_ ?_
   ·(with_reducible refine bS (λhcb=>?_) λhcb=>?_)
    ·exact Ok.ret ⟨1,by decide,rfl⟩
    ·exact Ok.ret ⟨0,by decide,rfl⟩
   ·rintro _ ⟨s,hs,rfl⟩;dsimp only;refine bO (cn (by simp;omega)) ?_
    (simp (disch:=omega) only [bP,cw,cg,cb])
    exact Ok.ret ⟨⟨k+1,_,rfl,by omega,by rw[eU,ht1];rfl,jB ht2 (all_cons (Bd hs) cK)⟩,by dsimp only;omega⟩
  ·exact Ok.ret ⟨_,_,_,rfl,by omega,ht2⟩
 ·rintro _ ⟨a,b,ts,rfl,ht1,ht2⟩;exact Ok.ret ⟨cs,ts,rfl,hl,yH hc1 λc hc=>(hc2 c hc).mono λ_ h=>h.elim,ht1,ht2⟩
def Pr(ss:List Int) (c:DCn):Prop:=
 ((c.1=0\/c.1=2)/\c.2.2.1=0/\c.2.2.2=0/\W16 c.2.1)\/(c.1=1/\c.2.1=0/\0<=c.2.2.1/\∃n,ss[c.2.2.1.toNat]?=some n/\0<=c.2.2.2/\c.2.2.2 < n)
theorem dX{α β:Type}(f:α->β) {l:List α}{k:Nat}{x:α}(h:l[k]?=some x):(l.take k).map f++[f x]=(l.take (k+1)).map f:=by
 rw[List.take_add_one,h];simp
theorem kq{β:Type}(f:Nat->β) (k:Nat):(List.range k).map f++[f k]=(List.range (k+1)).map f:=by
 rw[List.range_succ];simp
def BO(bs ss:List Int) (a:Int):Nat->Nat->Option (Int×Int)
 | 0,_=>none
 | n+1,k=>if bs.getD k 0<=a/\a < bs.getD k 0+ss.getD k 0 then some ((k:Int),a - bs.getD k 0) else BO bs ss a n (k+1)
def Dq(bs ss:List Int) (a:Int):Option (Int×Int):=BO bs ss a bs.length 0
theorem vC{bs ss:List Int}{key a:Int}(h:LV bs ss) (ha:W16 a):fw bs key ss a=some (match Dq bs ss a with | some (r,o)=>(r,o,true,()) | none=>(0,0,false,())):=by
 obtain⟨hs,hl,hr⟩:=h;obtain⟨a0,a1⟩:=ha;have hs4:=hs.2.1
 have key1:∀(n k N:Nat),k+n=bs.length->n < N->bR ck N (ss,a,bs,(bs.length:Int),(k:Int),bs,key,0,0,())=some (match BO bs ss a n k with | some (r,o)=>.inl (true,r,o,()) | none=>.inr (ss,a,bs,(bs.length:Int),(bs.length:Int),false,bs,key,0,0,())):=by
  intro n
  induction n with
  | zero=>
   intro k N hk hN;obtain⟨N,rfl⟩:∃M,N=M+1:=⟨N - 1,by omega⟩
   obtain rfl:k=bs.length:=by omega
   have e:ck (ss,a,bs,(bs.length:Int),(bs.length:Int),bs,key,0,0,())=some (.inr (.inr (ss,a,bs,(bs.length:Int),(bs.length:Int),false,bs,key,0,0,()))):=by
    refine fb ?_;unfold ck;dsimp only
    (with_reducible refine bS (λhca=>?_) λhca=>?_)
    ·omega
    ·exact Ok.ret rfl
   simp only[bR,e,oBS,BO]
  | succ n ih=>
   intro k N hk hN;obtain⟨N,rfl⟩:∃M,N=M+1:=⟨N - 1,by omega⟩;obtain⟨b,hb⟩:∃b,bs[k]?=some b:=⟨_,oGE (by omega)⟩;obtain⟨z,hz⟩:∃z,ss[k]?=some z:=⟨_,oGE (by omega)⟩;have hz2:=hs.2.2 z (bW hz);have hrk:=hr k (by omega);unfold kR at hrk;rw[bU hb,bU hz] at hrk;by_cases hh:b<=a/\a < b+z
   ·have e:ck (ss,a,bs,(bs.length:Int),(k:Int),bs,key,0,0,())=some (.inr (.inl (true,(k:Int),a - b,()))):=by
     refine fb ?_;unfold ck;dsimp only;rw[oDT (show (k:Int) < bs.length by omega),bT];simp only[oCT,oBS,show bY bs k=some b from hb,show bY ss k=some z from hz];rw[oDT (show a>=b by omega),bP (x:=b+z) (by omega) (by omega),oDT hh.2,bP (x:=a - b) (by omega) (by omega)];exact Ok.ret rfl
    simp only[bR,e,oBS,BO,bU hb,bU hz,oIP hh]
   ·have e:ck (ss,a,bs,(bs.length:Int),(k:Int),bs,key,0,0,())=some (.inl (ss,a,bs,(bs.length:Int),((k+1:Nat):Int),bs,key,0,0,())):=by
     refine fb ?_;unfold ck;dsimp only;rw[oDT (show (k:Int) < bs.length by omega),bT];simp only[oCT,oBS,show bY bs k=some b from hb,show bY ss k=some z from hz];rw[bP (x:=b+z) (by omega) (by omega)];by_cases h1:a>=b
     ·rw[oDT h1,oDF (show ¬ a < b+z by omega)];simp only[oCT,oCF];rw[bP (x:=(k:Int)+1) (by omega) (by omega)];exact Ok.ret rfl
     ·rw[oDF h1];simp only[oCF];rw[bP (x:=(k:Int)+1) (by omega) (by omega)];exact Ok.ret rfl
    simp only[bR,e,oBS,BO,bU hb,bU hz,oIN hh];exact ih (k+1) N (by omega) (by omega)
 unfold fw Dq;delta bN
 try dsimp only
 rw[show bR ck NN (ss,a,bs,(bs.length:Int),0,bs,key,0,0,())=_ from key1 bs.length 0 NN (by omega) (by unfold NN;omega)]
 cases BO bs ss a bs.length 0 with
 | some x=>rfl
 | none=>rfl
def yQ(bs ss:List Int) (key:Int) (c:DCe):DCn:=
 if c.1=0 then (0,c.2,0,0) else if c.1=2 then (2,wk .u16 (c.2 - key),0,0) else match Dq bs ss c.2 with | some (r,o)=>(1,0,r,o) | none=>(1,0,-1,c.2)
theorem pK{K:Int->Prop}{bs ss:List Int}{key:Int}{c:DCe}(h:LV bs ss) (hc:sN K c):fA bs key ss c.1 c.2=some ((yQ bs ss key c).1,(yQ bs ss key c).2.1,(yQ bs ss key c).2.2.1,(yQ bs ss key c).2.2.2,()):=by
 obtain⟨c0,c1,c2,c3,_⟩:=hc;unfold fA yQ;rw[cg (x:=c.2) (by omega) (by omega)];dsimp only;rw[vC h ⟨c2,c3⟩]
 rcases (show c.1=0\/c.1=1\/c.1=2 by omega) with e | e | e<;>rw[e]
 ·rfl
 ·simp only[Int.reduceBEq,Int.reduceEq,oCF,if_false,oBS]
  cases Dq bs ss c.2 with
  | some x=>rfl
  | none=>rfl
 ·rfl
def to(cs:List DCe) (ls:List DLn) (a:Int):DCe:=
 match ls[(a / 4 % 4).toNat]? with
 | some x=>if x.1=a / 4 then x.2.2.getD (a % 4).toNat (0,0) else cs.getD a.toNat (0,0)
 | none=>(0,0)
theorem getD_some{α:Type}{l:List α}{k:Nat}{d x:α}(h:l[k]?=some x):l.getD k d=x:=by rw[oGD,h];rfl
theorem B2{K:Int->Prop}{cs:List DCe}{ls:List DLn}{a:Int}(h:zb K cs ls) (ha:0<=a/\a < 512):im cs ls a=some ((to cs ls a).1,(to cs ls a).2,())/\sN K (to cs ls a):=by
 obtain⟨a0,a1⟩:=ha;obtain⟨h1,h2,h3,h4,_⟩:=id h;unfold im to;rw[Int.tdiv_eq_ediv_of_nonneg a0,bP (x:=a / 4) (by omega) (by omega)];dsimp only;rw[Int.tmod_eq_emod_of_nonneg (show 0<=a / 4 by omega),Int.tmod_eq_emod_of_nonneg a0];obtain⟨i,hi⟩:∃i:Nat,a / 4 % 4=i:=⟨(a / 4 % 4).toNat,by omega⟩;rw[hi,bT,oTN];obtain⟨x,hx⟩:∃x,ls[i]?=some x:=⟨_,oGE (by omega)⟩;simp only[oBS,show bY ls i=some x from hx,hx];by_cases hq:x.1=a / 4
 ·rcases h4 i x hx with ⟨g,_,_⟩ | ⟨_,_,_,g4,g5⟩
  ·omega
  ·obtain⟨j,hj⟩:∃j:Nat,a % 4=j:=⟨(a % 4).toNat,by omega⟩;obtain⟨y,hy⟩:∃y,x.2.2[j]?=some y:=⟨_,oGE (by omega)⟩;rw[hj,bT,oTN,oIP hq,getD_some hy,beq_iff_eq.2 hq];simp only[oCT,oBS,show bY x.2.2 j=some y from hy];exact⟨trivial,g5 y (bW hy)⟩
 ·obtain⟨j,rfl⟩:∃j:Nat,a=j:=⟨a.toNat,by omega⟩;obtain⟨y,hy⟩:∃y,cs[j]?=some y:=⟨_,oGE (by omega)⟩;rw[oIN hq,oBF hq,bT,oTN,getD_some hy];simp only[oCF,oBS,show bY cs j=some y from hy];exact⟨trivial,h2 y (bW hy)⟩
def CQ(bs ss:List Int) (key:Int) (cs:List DCe) (ls:List DLn) (r o:Nat):DCn:=yQ bs ss key (to cs ls (bs.getD r 0+o))
def Cv(bs ss:List Int) (key:Int) (cs:List DCe) (ls:List DLn) (r:Nat):List DCn:=(List.range (ss.getD r 0).toNat).map (CQ bs ss key cs ls r)
def ux(bs ss:List Int) (key:Int) (cs:List DCe) (ls:List DLn):List (List DCn):=(List.range ss.length).map (Cv bs ss key cs ls)
def oE(bs ss:List Int) (key:Int) (t:DTh):DTs:=(t.1,t.2.2.1,t.2.2.2.1,t.2.2.2.2.1,t.2.2.2.2.2.1,t.2.2.2.2.2.2.1,t.2.2.2.2.2.2.2,t.2.1.map (yQ bs ss key))
theorem LV.at_{bs ss:List Int}(h:LV bs ss) {r:Nat}(hr:r < ss.length):∃b z,bs[r]?=some b/\ss[r]?=some z/\1<=z/\z<=32/\0<=b/\b+z<=512:=by
 obtain⟨hs,hl,hg⟩:=h;obtain⟨b,hb⟩:∃b,bs[r]?=some b:=⟨_,oGE (by omega)⟩;obtain⟨z,hz⟩:∃z,ss[r]?=some z:=⟨_,oGE (by omega)⟩;have h1:=hg r (by omega);unfold kR at h1;rw[bU hb,bU hz] at h1;have h2:=hs.2.2 z (bW hz);exact⟨b,z,hb,hz,h2.1,h2.2,h1.1,h1.2.1⟩
theorem vD{K:Int->Prop}{bs ss:List Int}{key:Int}{cs:List DCe}{ls:List DLn}(h:LV bs ss) (hm:zb K cs ls):fv cs ls bs key ss=some (ux bs ss key cs ls,()):=by
 have hs4:=h.1.2.1
 have e0:∀(r:Nat) (b z:Int),bs[r]?=some b->ss[r]?=some z->1<=z->z<=32->0<=b->b+z<=512->∀(a1 a2 a3:_) (out:List (List DCn)),bR dz NN (ss,(r:Int),a1,a2,a3,z,0,cs,ls,bs,key,out,[],())=some (ss,(r:Int),a1,a2,a3,z,z,false,cs,ls,bs,key,out,Cv bs ss key cs ls r,()):=by
  intro r b z hb hz z1 z32 b0 bz a1 a2 a3 out;obtain⟨n,rfl⟩:∃n:Nat,z=n:=⟨z.toNat,by omega⟩
  have e:Cv bs ss key cs ls r=(List.range n).map (CQ bs ss key cs ls r):=by unfold Cv;rw[bU hz,oTN]
  rw[e];refine ko (f:=dz) (N:=NN) (st:=λo=>(ss,(r:Int),a1,a2,a3,(n:Int),(o:Int),cs,ls,bs,key,out,(List.range o).map (CQ bs ss key cs ls r),())) (n:=n) (by unfold NN;omega) ?_ ?_
  ·intro o ho;unfold dz;dsimp only;rw[oDT (show (o:Int) < n by omega),bT];simp only[oCT,oBS,show bY bs r=some b from hb];rw[bP (x:=b+o) (by omega) (by omega)];obtain⟨hlk,hlv⟩:=B2 (a:=b+o) hm ⟨by omega,by omega⟩;rw[hlk];simp only[oBS];rw[pK h hlv];simp only[oBS];refine bO (cn (by simp;omega)) ?_;rw[bP (x:=(o:Int)+1) (by omega) (by omega)];refine Ok.ret ?_;rw[<- kq];unfold CQ;rw[bU hb];rfl
  ·unfold dz;dsimp only;rw[oDF (show ¬ (n:Int) < n by omega)];exact Ok.ret rfl
 have e1:bR dy NN (ss,ss,(ss.length:Int),0,cs,ls,bs,key,[],())=some (ss,ss,(ss.length:Int),(ss.length:Int),false,cs,ls,bs,key,ux bs ss key cs ls,()):=by
  refine ko (f:=dy) (N:=NN) (st:=λr=>(ss,ss,(ss.length:Int),(r:Int),cs,ls,bs,key,(List.range r).map (Cv bs ss key cs ls),())) (n:=ss.length) (by unfold NN;omega) ?_ ?_
  ·intro r hr;obtain⟨b,z,hb,hz,z1,z32,b0,bz⟩:=h.at_ hr;unfold dy;dsimp only;rw[oDT (show (r:Int) < ss.length by omega),bT];simp only[oCT,oBS,show bY ss r=some z from hz];rw[e0 r b z hb hz z1 z32 b0 bz];simp only[oBS];refine bO (cn (by simp;omega)) ?_;rw[bP (x:=(r:Int)+1) (by omega) (by omega)];refine Ok.ret ?_;rw[<- kq];rfl
  ·unfold dy;dsimp only;rw[oDF (show ¬ (ss.length:Int) < ss.length by omega)];exact Ok.ret rfl
 unfold fv;delta bN
 try dsimp only
 rw[e1];rfl
theorem uf{n key:Int}{code:List DIn}{dt:List (List Int)}{bs ss:List Int}{cs:List DCe}{ls:List DLn}{ts:List DTh}(h:MOk n ss bs cs ls ts):fi code ss dt bs key cs ls ts=some (ux bs ss key cs ls,ts.map (oE bs ss key),()):=by
 have h4:=h.tlen
 have e1:bR dZ NN (ts,(ts.length:Int),0,code,ss,dt,bs,key,cs,ls,ts,(),(),ux bs ss key cs ls,[],())=some (ts,(ts.length:Int),(ts.length:Int),false,code,ss,dt,bs,key,cs,ls,ts,(),(),ux bs ss key cs ls,ts.map (oE bs ss key),()):=by
  have:=ko (f:=dZ) (N:=NN) (st:=λr=>(ts,(ts.length:Int),(r:Int),code,ss,dt,bs,key,cs,ls,ts,(),(),ux bs ss key cs ls,(ts.take r).map (oE bs ss key),())) (n:=ts.length) (t:=(ts,(ts.length:Int),(ts.length:Int),false,code,ss,dt,bs,key,cs,ls,ts,(),(),ux bs ss key cs ls,ts.map (oE bs ss key),())) (by unfold NN;omega) ?_ ?_
  ·exact this
  ·intro r hr;obtain⟨t,ht⟩:∃t,ts[r]?=some t:=⟨_,oGE (by omega)⟩;have hok:=h.thr t (bW ht);have h8:=hok.len;unfold dZ;delta bN;dsimp only;rw[oDT (show (r:Int) < ts.length by omega),bT];simp only[oCT,oBS,show bY ts r=some t from ht]
   have e0:∀(a1 a2 a3 a4 a5 a6 a7 a8 a9 a10 a11 a12 a13 a14:_),bR d5 NN (ts,(ts.length:Int),(r:Int),t.2.1,(t.2.1.length:Int),0,code,ss,dt,bs,key,cs,ls,ts,(),(),ux bs ss key cs ls,(ts.take r).map (oE bs ss key),a1,t.2.1,a2,a3,a4,a5,a6,a7,a8,a9,a10,a11,a12,a13,a14,[],()) =
    some (ts,(ts.length:Int),(r:Int),t.2.1,(t.2.1.length:Int),(t.2.1.length:Int),false,code,ss,dt,bs,key,cs,ls,ts,(),(),ux bs ss key cs ls,(ts.take r).map (oE bs ss key),a1,t.2.1,a2,a3,a4,a5,a6,a7,a8,a9,a10,a11,a12,a13,a14,t.2.1.map (yQ bs ss key),()):=by
    intro a1 a2 a3 a4 a5 a6 a7 a8 a9 a10 a11 a12 a13 a14
    have:=ko (f:=d5) (N:=NN) (st:=λo=>(ts,(ts.length:Int),(r:Int),t.2.1,(t.2.1.length:Int),(o:Int),code,ss,dt,bs,key,cs,ls,ts,(),(),ux bs ss key cs ls,(ts.take r).map (oE bs ss key),a1,t.2.1,a2,a3,a4,a5,a6,a7,a8,a9,a10,a11,a12,a13,a14,(t.2.1.take o).map (yQ bs ss key),())) (n:=t.2.1.length)
     (t:=(ts,(ts.length:Int),(r:Int),t.2.1,(t.2.1.length:Int),(t.2.1.length:Int),false,code,ss,dt,bs,key,cs,ls,ts,(),(),ux bs ss key cs ls,(ts.take r).map (oE bs ss key),a1,t.2.1,a2,a3,a4,a5,a6,a7,a8,a9,a10,a11,a12,a13,a14,t.2.1.map (yQ bs ss key),())) (by unfold NN;omega) ?_ ?_
    ·exact this
    ·intro o ho;obtain⟨c,hc⟩:∃c,t.2.1[o]?=some c:=⟨_,oGE ho⟩;unfold d5;dsimp only;rw[oDT (show (o:Int) < t.2.1.length by omega),bT];simp only[oCT,oBS,show bY t.2.1 o=some c from hc];rw[pK h.lay (hok.regs c (bW hc))];simp only[oBS];refine bO (cn (by simp;omega)) ?_;rw[bP (x:=(o:Int)+1) (by omega) (by omega)];refine Ok.ret ?_;rw[<- dX (yQ bs ss key) hc];rfl
    ·unfold d5;dsimp only;rw[oDF (show ¬ (t.2.1.length:Int) < t.2.1.length by omega),List.take_length];exact Ok.ret rfl
   rw[e0];simp only[oBS];refine bO (cn (by simp;omega)) ?_;rw[bP (x:=(r:Int)+1) (by omega) (by omega)];refine Ok.ret ?_;rw[<- dX (oE bs ss key) ht];rfl
  ·unfold dZ;dsimp only;rw[oDF (show ¬ (ts.length:Int) < ts.length by omega),List.take_length];exact Ok.ret rfl
 unfold fi;delta bN;simp only[vD h.lay h.mem,oBS];rw[e1];rfl
structure D8 (n:Int) (ss:List Int) (v:DTs):Prop where
 state:0<=v.1/\v.1<=4
 pc:0<=v.2.1/\v.2.1<=255
 count:0<=v.2.2.1/\v.2.2.1<=n
 handler:-1<=v.2.2.2.1/\v.2.2.2.1<=255
 saved:-1<=v.2.2.2.2.1/\v.2.2.2.2.1<=255
 trap:0<=v.2.2.2.2.2.1/\v.2.2.2.2.2.1<=6
 code:W16 v.2.2.2.2.2.2.1
 len:v.2.2.2.2.2.2.2.length=8
 regs:∀c∈v.2.2.2.2.2.2.2,Pr ss c
structure Ef (n:Int) (ss:List Int) (rg:List (List DCn)) (vs:List DTs):Prop where
 rlen:rg.length=ss.length
 fit:∀(j:Nat) x z,rg[j]?=some x->ss[j]?=some z->(x.length:Int)=z
 cells:∀x∈rg,∀c∈x,Pr ss c
 vlen:vs.length=4
 views:∀v∈vs,D8 n ss v
def ry(v:DTs):List DCn:=v.2.2.2.2.2.2.2
theorem vY{rg:List (List DCn)}{vs:List DTs}(h1:rg.length<=1000) (h2:vs.length<=1000):gu rg vs=some (rg++vs.map ry,()):=by
 have e:bR dY NN (vs,(vs.length:Int),0,rg,vs,rg,())=some (vs,(vs.length:Int),(vs.length:Int),false,rg,vs,rg++vs.map ry,()):=by
  have:=ko (f:=dY) (N:=NN) (st:=λk=>(vs,(vs.length:Int),(k:Int),rg,vs,rg++(vs.take k).map ry,())) (n:=vs.length) (t:=(vs,(vs.length:Int),(vs.length:Int),false,rg,vs,rg++vs.map ry,())) (by unfold NN;omega) ?_ ?_
  ·simpa using this
  ·intro k hk;obtain⟨v,hv⟩:∃v,vs[k]?=some v:=⟨_,oGE hk⟩;unfold dY;dsimp only;rw[oDT (show (k:Int) < vs.length by omega),bT];simp only[oCT,oBS,show bY vs k=some v from hv];refine bO (cn (by simp;omega)) ?_;rw[bP (x:=(k:Int)+1) (by omega) (by omega)];refine Ok.ret ?_;rw[<- dX ry hv,<- List.append_assoc];rfl
  ·unfold dY;dsimp only;rw[oDF (show ¬ (vs.length:Int) < vs.length by omega),List.take_length];exact Ok.ret rfl
 unfold gu;rw[cn (show 24<=1000/\0+rg.length<=1000000 by omega)];delta bN;simp only[oCT];rw[show List.append [] rg=rg from rfl,e];rfl
theorem LV.apart{bs ss:List Int}(h:LV bs ss) {r r':Nat}{b z b' z' o o':Int}(hne:r≠r') (hb:bs[r]?=some b) (hz:ss[r]?=some z) (hb':bs[r']?=some b') (hz':ss[r']?=some z') (h0:0<=o) (h1:o < z) (h0':0<=o') (h1':o' < z'):b+o≠b'+o':=by
 obtain⟨_,hl,hg⟩:=h;have l1:=(oGS hb).1;have l2:=(oGS hb').1;have g1:=hg r l1;have g2:=hg r' l2;unfold kR at g1 g2;rw[bU hb,bU hz] at g1;rw[bU hb',bU hz'] at g2;by_cases hlt:r' < r
 ·have:=g1.2.2 r' hlt;rw[bU hb',bU hz'] at this;omega
 ·have:=g2.2.2 r (by omega);rw[bU hb,bU hz] at this;omega
theorem yg{l ss:List Int}{k:Int}(hs:wH ss) (h:DOk l k):Ok (gC ss l k) λr=>∃bs key k',r=(bs,key,l,k',())/\LV bs ss/\W16 key/\DOk l k':=by
 unfold gC
 (with_reducible refine d7 (by assumption) (by omega) (by omega) (λv0 k0 a0 b0 d0=>?_);try dsimp only)
 refine (yb hs a0 (by omega)).bind ?_;rintro _ ⟨key,rfl,hk⟩;exact Ok.ret ⟨_,_,_,rfl,A6 hs a0,hk,d0⟩
def wG:List CT->CT
 | []=>.nat
 | [t]=>t
 | t :: u :: r=>.pair t (wG (u :: r))
def jr:(l:List CT)->HL den l->den (wG l)
 | [],_=>(0:Nat)
 | [_],h=>h.1
 | _ :: u :: r,h=>(h.1,jr (u :: r) h.2)
def encL:(l:List CT)->HL den l->List TV
 | [],_=>[]
 | t :: r,h=>enc t h.1++encL r h.2
theorem uV:∀(l:List CT) (h:HL den l),enc (wG l) (jr l h)=encL l h
 | [],_=>rfl
 | [_],h=>(List.append_nil _).symm
 | _ :: u :: r,h=>by
  show enc _ h.1++enc (wG (u :: r)) (jr (u :: r) h.2)=_;rw[uV (u :: r) h.2];rfl
def t8:(c:CT)->den c->Prop
 | .int k,n=>(Lit.int k n).wf=true
 | .str,s=>ByteArray.size s<=maxLen
 | .row _ t,xs=>List.length xs<=maxLen/\∀x∈xs,t8 t x
 | .pair a b,x=>t8 a x.1/\t8 b x.2
 | _,_=>True
def GoodL:(l:List CT)->HL den l->Prop
 | [],_=>True
 | t :: r,h=>t8 t h.1/\GoodL r h.2
theorem so:∀(l:List CT) (h:HL den l),GoodL l h->t8 (wG l) (jr l h)
 | [],_,_=>trivial
 | [_],_,g=>g.1
 | _ :: u :: r,h,g=>⟨g.1,so (u :: r) h.2 g.2⟩
def appL:(l m:List CT)->HL den l->HL den m->HL den (l++m)
 | [],_,_,k=>k
 | _ :: r,m,h,k=>(h.1,appL r m h.2 k)
theorem uW:∀(l m:List CT) (h:HL den l) (k:HL den m),encL (l++m) (appL l m h k)=encL l h++encL m k
 | [],_,_,_=>rfl
 | t :: r,m,h,k=>by
  show enc t h.1++encL (r++m) (appL r m h.2 k)=(enc t h.1++encL r h.2)++_;rw[uW r m h.2 k,List.append_assoc]
theorem uO:∀(l m:List CT) (h:HL den l) (k:HL den m),GoodL l h->GoodL m k->GoodL (l++m) (appL l m h k)
 | [],_,_,_,_,g=>g
 | _ :: r,m,h,k,g,g'=>⟨g.1,uO r m h.2 k g.2 g'⟩
def RelL(w:World):List TV->List Value->Prop
 | [],[]=>True
 | t :: ts,v :: vs=>iJ w (λ_=>True) t v/\RelL w ts vs
 | _,_=>False
theorem RelL.app{w:World}:∀{a:List TV}{x:List Value}{b:List TV}{y:List Value},RelL w a x->RelL w b y->RelL w (a++b) (x++y)
 | [],[],_,_,_,h=>h
 | _ :: a,_ :: x,_,_,g,h=>⟨g.1,RelL.app (a:=a) (x:=x) g.2 h⟩
 | [],_ :: _,_,_,g,_=>g.elim
 | _ :: _,[],_,_,g,_=>g.elim
theorem RelL.len{w:World}:∀{a:List TV}{x:List Value},RelL w a x->a.length=x.length
 | [],[],_=>rfl
 | _ :: a,_ :: x,g=>by rw[oLC,oLC,RelL.len (a:=a) (x:=x) g.2]
 | [],_ :: _,g=>g.elim
 | _ :: _,[],g=>g.elim
theorem RelL.get{w:World}:∀{a:List TV}{x:List Value},RelL w a x->∀j (h:j < a.length) (h':j < x.length),iJ w (λ_=>True) a[j] x[j]
 | _ :: _,_ :: _,g,0,_,_=>g.1
 | _ :: a,_ :: x,g,j+1,h,h'=>RelL.get (a:=a) (x:=x) g.2 j (by simpa using h) (by simpa using h')
 | [],_,_,_,h,_=>by simp at h
 | _ :: _,[],g,_,_,_=>g.elim
def CO(P:Program) (g:TypeId->Option (List CT)):Nat->List Field->Option (List CT)
 | _,[]=>some []
 | off,f :: fs=>match g f.type with
  | some l=>if f.offset=off/\l.length=P.cellsOf f.type then (CO P g (off+l.length) fs).map (l++·) else none
  | none=>none
def nK(P:Program):Nat->TypeId->Option (List CT)
 | 0,_=>none
 | n+1,t=>match P.underlying t with
  | some .bool=>some [.bool]
  | some (.int k)=>some [.int k]
  | some .string=>some [.str]
  | some (.slice e)=>match nK P n e with
   | some l=>if l.length=P.cellsOf e then some [.row false (wG l)] else none
   | none=>none
  | some (.struct fs)=>match CO P (nK P n) 0 fs.toList with
   | some l=>if l.length=P.cellsOf t then some l else none
   | none=>none
  | _=>none
section
variable {H:Type} {ec:TypeId×Value->H} {P:Program} {w:World} {base:Nat} {spare:Nat->Bool} {held:Bool}
theorem yo{g:TypeId->Option (List CT)}{m:Nat}{cs:List Value}
 (ih:∀t L,g t=some L->∀cs x,DataW.trod ec P w base spare held m t cs=some x->∃h:HL den L,GoodL L h/\RelL w (encL L h) cs) :
 ∀(fs:List Field) (off:Nat) (L:List CT),CO P g off fs=some L->(∀f∈fs,∃x,DataW.trod ec P w base spare held m f.type ((cs.drop f.offset).take (P.cellsOf f.type))=some x) ->
  ∃h:HL den L,GoodL L h/\RelL w (encL L h) ((cs.drop off).take L.length):=by
 intro fs
 induction fs with
 | nil=>
  intro off L hL _
  injection hL with hL
  subst hL;exact⟨(),trivial,trivial⟩
 | cons f fs ihf=>
  intro off L hL hx;unfold CO at hL;split at hL
  ·rename_i l hg;split at hL
   ·rename_i ho;obtain⟨rfl,hlen⟩:=ho
    cases hr:CO P g (f.offset+l.length) fs with
    | none=>rw[hr] at hL;cases hL
    | some L2=>
     rw[hr] at hL
     injection hL with hL
     subst hL;obtain⟨x,h1⟩:=hx f List.mem_cons_self;obtain⟨h,g1,r1⟩:=ih _ _ hg _ _ h1;obtain⟨k,g2,r2⟩:=ihf _ _ hr λf' hf'=>hx f' (List.mem_cons_of_mem _ hf');refine⟨appL l L2 h k,uO _ _ _ _ g1 g2,?_⟩;rw[uW,List.length_append,List.take_add,List.drop_drop];rw[hlen];rw[hlen] at r2;exact r1.app r2
   ·cases hL
  ·cases hL
theorem C1:∀(n:Nat) (t:TypeId) (L:List CT),nK P n t=some L->∀(fuel:Nat) (cs:List Value) (x:DataW H×List MemPlace),DataW.trod ec P w base spare held fuel t cs=some x ->
 ∃h:HL den L,GoodL L h/\RelL w (encL L h) cs:=by
 intro n
 induction n with
 | zero=>intro t L h;cases h
 | succ n ih=>
  intro t L hL fuel cs x hx;unfold nK at hL;split at hL
  ·rename_i ht
   injection hL with hL
   subst hL;obtain⟨b,rfl,_⟩:=DataW.trod_bool ht hx;exact⟨(b,()),⟨trivial,trivial⟩,.v rfl,trivial⟩
  ·rename_i k ht
   injection hL with hL
   subst hL;obtain⟨z,rfl,_,hw⟩:=DataW.trod_int ht hx;exact⟨(z,()),⟨hw,trivial⟩,.v rfl,trivial⟩
  ·rename_i ht
   injection hL with hL
   subst hL;obtain⟨s,rfl,_,hs⟩:=DataW.trod_string ht hx;exact⟨(s,()),⟨hs,trivial⟩,.v rfl,trivial⟩
  ·rename_i e ht;split at hL
   ·rename_i l hl;split at hL
    ·rename_i hsz
     injection hL with hL
     subst hL;rcases DataW.trod_slice ht hx with ⟨rfl,_⟩ | ⟨a,len,cap,elems,rest,m,_,rfl,_,_,hle,hmax,hel,hget,_,_⟩
     ·exact⟨([],()),⟨⟨Nat.zero_le _,λx hx=>by cases hx⟩,trivial⟩,.sl (c:=[]) 1 (λ_ _=>undef) (λi h=>by simp at h) (Nat.le_refl _) (Nat.zero_le _) (λ_=>rfl) (λi j h=>by simp at h) (λi j h=>by simp at h),trivial⟩
     ·have each:∀i:Fin len,∃p:HL den l×List Value,GoodL l p.1/\RelL w (encL l p.1) p.2/\w.cells? base (a.add (i.1*P.cellsOf e)) (P.cellsOf e)=some p.2:=by
       intro i;have h1:=hget i.1 i.2;rw[oGE (by omega)] at h1;obtain⟨cs',h2,h3⟩:=Option.bind_eq_some_iff.1 h1;obtain⟨h,g,r⟩:=ih _ _ hl _ _ _ h3;exact⟨(h,cs'),g,r,h2⟩
      obtain⟨f,hf⟩:=Classical.axiomOfChoice each
      have clen:∀i,(encL l (f i).1).length=l.length:=λi=>by
       rw[(hf i).2.1.len,(World.cells?_some (hf i).2.2).2.1,hsz]
      have key:iJ w (λ_=>True) (.sl ((List.ofFn λi:Fin len=>jr l (f i).1).map (enc (wG l)))) (.slice (some a) ((List.ofFn λi:Fin len=>jr l (f i).1).map (enc (wG l))).length cap):=by
       have el:((List.ofFn λi:Fin len=>jr l (f i).1).map (enc (wG l))).length=len:=by simp
       have eg:∀i (hi:i < ((List.ofFn λi:Fin len=>jr l (f i).1).map (enc (wG l))).length),((List.ofFn λi:Fin len=>jr l (f i).1).map (enc (wG l)))[i]=encL l (f ⟨i,by omega⟩).1:=by
        intro i hi;simp[uV]
       refine .sl l.length (λi j=>if h:i < len then (f ⟨i,h⟩).2.getD j undef else undef) (λi hi=>by rw[eg i hi,clen]) (by rw[el];exact hle) hmax (λh=>by cases h) (λi j hi hj=>?_) (λi j hi hj=>?_)
       ·rw[el] at hi
        have cell:∀i' (hi':i' < len) j',j' < l.length->w.cell? ((a.add (i'*l.length)).add j')=some ((f ⟨i',hi'⟩).2.getD j' undef):=by
         intro i' hi' j' hj';have h1:=World.cells?_some (hf ⟨i',hi'⟩).2.2;have h2:=h1.2.2 j' (by omega);rw[hsz];rw[h2]
         have:j' < (f ⟨i',hi'⟩).2.length:=by rw[h1.2.1];omega
         simp[this]
        have h0:=World.cell?_spot (cell 0 (by omega) 0 (by omega));obtain⟨b,o,spot⟩:=a
        have hspot:spot=none:=by simpa [Addr.add] using h0
        subst hspot;refine⟨b,o,rfl,trivial,?_⟩;have h2:=cell i hi j hj;rw[Go.WideShapes.add_plain,Go.WideShapes.add_plain] at h2;rw[dif_pos hi,<- h2,Nat.add_assoc]
       ·rw[el] at hi;have hr:=(hf ⟨i,hi⟩).2.1
        have hj2:j < (encL l (f ⟨i,hi⟩).1).length:=by rw[eg i (by omega)] at hj;exact hj
        have hj3:j < (f ⟨i,hi⟩).2.length:=by rw[<- hr.len];exact hj2
        have h3:=hr.get j hj2 hj3
        have e1:(if h:i < len then (f ⟨i,h⟩).2.getD j undef else undef)=(f ⟨i,hi⟩).2[j]:=by
         rw[dif_pos hi];simp[hj3]
        simp only[e1];have e2:((List.ofFn λi:Fin len=>jr l (f i).1).map (enc (wG l)))[i]'(by omega)=encL l (f ⟨i,hi⟩).1:=eg i (by omega);simp only[e2];exact h3
      rw[List.length_map,List.length_ofFn] at key;refine⟨(List.ofFn λi:Fin len=>jr l (f i).1,()),⟨⟨by rw[List.length_ofFn];omega,λx hx=>?_⟩,trivial⟩,key,trivial⟩;obtain⟨i,rfl⟩:=List.mem_ofFn.1 hx;exact so _ _ (hf i).1
    ·cases hL
   ·cases hL
  ·rename_i fs ht;split at hL
   ·rename_i l hl;split at hL
    ·rename_i hsz
     injection hL with hL
     subst hL;obtain⟨xs,m,_,_,hlen,hxl,hf⟩:=DataW.trod_struct ht hx
     obtain⟨h,g,r⟩:=yo (cs:=cs) (m:=m) (λt L hL cs x hx=>ih t L hL m cs x hx) fs.toList 0 l hl (by
      intro f hfm;obtain⟨i,hi,rfl⟩:=List.mem_iff_getElem.1 hfm
      have hi2:i < fs.size:=by simpa using hi
      have h1:=hf i fs[i] (by simp[hi2]);rw[oGE (by omega)] at h1
      exact⟨_,by simpa using h1⟩)
     refine⟨h,g,?_⟩;rw[List.drop_zero,hsz,<- hlen,List.take_length] at r;exact r
    ·cases hL
   ·cases hL
  ·cases hL
theorem intake_arg(n:Nat) {t:TypeId}{L:List CT}{v:Value}{d:DataW H}{p:List MemPlace}(hL:nK P n t=some L) (h:DataW.Trod ec P w base spare held t v d p) :
 ∃h:HL den L,GoodL L h/\RelL w (encL L h) v.cells.toList:=by
 obtain⟨fuel,hf⟩:=h;exact C1 n t L hL fuel _ _ hf
end
theorem plain_one{w:World}{t:TV}{v:Value}(r:RelL w [t] [v]):t7 w t v:=r.1.plain
theorem BX{a b:Int}(ha:re a) (hb:0 < b) (hb2:b<=9223372036854775807):fQ a b=some (a % b,()):=by
 have hne:(b != 0)=true:=by simp;omega
 have hm:Int.tmod a b < b:=Int.tmod_lt_of_pos a hb
 have hm2:-b < Int.tmod a b:=by
  have:=Int.tmod_lt_of_pos (-a) hb;rw[Int.neg_tmod] at this;omega
 have hq:a % b=Int.tmod a b % b:=by
  have e:=Int.mul_tdiv_add_tmod a b;rw[Int.add_comm] at e
  conv=>lhs;rw[<- e]
  exact Int.add_mul_emod_self_left ..
 unfold fQ;simp only[hne,oCT];by_cases h:Int.tmod a b < 0
 ·simp only[h,decide_true,oCT,oBS];rw[bP (by omega) (by omega),hq,<- Int.emod_eq_of_lt (a:=Int.tmod a b+b) (b:=b) (by omega) (by omega),Int.add_emod_right]
 ·simp only[h,decide_false,oCF,oBS];rw[hq,Int.emod_eq_of_lt (by omega) hm]
theorem CX{a b:Int}(ha:re a) (hb:0 < b) (hb2:b<=9223372036854775807):jX a b=some (a % b,()):=by
 unfold jX;rw[BX ha hb hb2];rfl
def Sh4(ls:List DLn):Prop:=ls.length<=4/\∀x∈ls,x.2.2.length<=4
theorem DN.len{K:Int->Prop}{i:Nat}{x:DLn}(h:DN K i x):x.2.2.length<=4:=by
 rcases h with ⟨_,_,h⟩ | ⟨_,_,_,h,_⟩
 ·rw[h];simp
 ·omega
theorem g64{h:den I64}(g:t8 I64 h):re h:=bounds_i64 g
theorem Ao{h:den RI}(g:t8 RI h):(∀z∈(show List Int from h),re z)/\(show List Int from h).length<=maxLen:=⟨λz hz=>bounds_i64 (g.2 z hz),g.1⟩
theorem B7{S T:Type}{f g:S->Option (S⊕T)}(P:S->Prop) (R:T->Prop) (m:S->Nat) {n:Nat}{s:S}(hs:P s) (hm:m s < n)
 (h:∀s,P s->(∃s',f s=some (.inl s')/\g s=some (.inl s')/\P s'/\m s' < m s)\/(∃t,f s=some (.inr t)/\g s=some (.inr t)/\R t)):∃t,bR f n s=some t/\bR g n s=some t/\R t:=by
 induction n generalizing s with
 | zero=>omega
 | succ n ih=>
  rcases h s hs with ⟨s',e1,e2,hp,hl⟩ | ⟨t,e1,e2,hr⟩
  ·simp only[bR,e1,e2,oBS];exact ih hp (by omega)
  ·exact⟨t,by simp only[bR,e1,oBS],by simp only[bR,e2,oBS],hr⟩
def p9(x:Int):DCe:=(0,x)
theorem vP{d:List Int}(h:d.length<=1000):fU d=some (d.map p9,()):=by
 have e:bR dK NN (d,(d.length:Int),0,[],())=some (d,(d.length:Int),(d.length:Int),false,d.map p9,()):=by
  have:=ko (f:=dK) (N:=NN) (st:=λk=>(d,(d.length:Int),(k:Int),(d.take k).map p9,())) (n:=d.length) (t:=(d,(d.length:Int),(d.length:Int),false,d.map p9,())) (by unfold NN;omega) ?_ ?_
  ·exact this
  ·intro k hk;unfold dK;dsimp only;have hx:d[k]?=some d[k]:=oGE hk;rw[oDT (show (k:Int) < d.length by omega),bT];simp only[oCT,oBS,show bY d k=some d[k] from hx];refine bO (cn (by rw[List.length_map,oLT];simp only[List.length_singleton];omega)) ?_;rw[bP (x:=(k:Int)+1) (by omega) (by omega)];refine Ok.ret ?_;rw[<- dX p9 hx];rfl
  ·unfold dK;dsimp only;rw[oDF (show ¬ (d.length:Int) < d.length by omega),List.take_length];exact Ok.ret rfl
 unfold fU;delta bN;dsimp only;rw[e];rfl
theorem vT{α:Type}{f:α->α}{c:α}{R:List α}:∀{A:List α},List.modify (A++c :: R) A.length f=A++f c :: R:=by
 intro A
 induction A with
 | nil=>rfl
 | cons a A ih=>simp only[List.cons_append,oLC,List.modify_succ_cons,ih]
def oC(cs:List DCe) (b:Nat) (d:List Int):List DCe:=cs.take b++d.map p9++cs.drop (b+d.length)
theorem uC{cs:List DCe}{b:Nat}{d:List Int}(h:b+d.length<=cs.length):(oC cs b d).length=cs.length:=by
 unfold oC;simp only[List.length_append,oLT,List.length_map,List.length_drop];omega
theorem uA{cs:List DCe}{b:Nat}:oC cs b []=cs:=by
 unfold oC;simp
theorem uB{P:DCe->Prop}{cs:List DCe}{b:Nat}{d:List Int}(hc:∀c∈cs,P c) (hd:∀x∈d,P (p9 x)):∀c∈oC cs b d,P c:=by
 intro c h;unfold oC at h;rcases List.mem_append.1 h with h | h
 ·rcases List.mem_append.1 h with h | h
  ·exact hc c (List.mem_of_mem_take h)
  ·obtain⟨x,hx,rfl⟩:=List.mem_map.1 h;exact hd x hx
 ·exact hc c (List.mem_of_mem_drop h)
theorem yC{cs:List DCe}{b:Nat}{d:List Int}{code:List DIn}{ss bs:List Int}{dt:List (List Int)}{key:Int}{ls:List DLn}{r:Nat}{n:Int}(hcs:cs.length=512) (h0:∀c∈cs,c.1=0) (hb:bs[r]?=some (b:Int)) (hd:b+d.length<=512) :
 bR dL NN ((r:Int),dt,n,(r:Int),d,(d.length:Int),0,code,ss,dt,bs,key,(),(),cs,ls,())=some ((r:Int),dt,n,(r:Int),d,(d.length:Int),(d.length:Int),false,code,ss,dt,bs,key,(),(),oC cs b d,ls,()):=by
 have:=ko (f:=dL) (N:=NN) (st:=λk=>((r:Int),dt,n,(r:Int),d,(d.length:Int),(k:Int),code,ss,dt,bs,key,(),(),oC cs b (d.take k),ls,())) (n:=d.length) (t:=((r:Int),dt,n,(r:Int),d,(d.length:Int),(d.length:Int),false,code,ss,dt,bs,key,(),(),oC cs b d,ls,())) (by unfold NN;omega) ?_ ?_
 ·have e0:oC cs b (d.take 0)=cs:=by rw[List.take_zero];exact uA
  rw[e0] at this;exact this
 ·intro k hk;obtain⟨x,hx⟩:∃x,d[k]?=some x:=⟨_,oGE hk⟩;obtain⟨c,hc⟩:∃c,cs[b+k]?=some c:=⟨_,oGE (by omega)⟩;have hc0:=h0 c (bW hc)
  have hl:(cs.take b++(d.take k).map p9).length=b+k:=by
   simp only[List.length_append,oLT,List.length_map];omega
  have hdr:cs.drop (b+k)=c :: cs.drop (b+k+1):=by
   obtain⟨h1,h2⟩:=oGS hc;rw[<- h2];exact List.drop_eq_getElem_cons h1
  have hk1:(d.take k).length=k:=by rw[oLT];omega
  have e1:oC cs b (d.take k)=(cs.take b++(d.take k).map p9)++c :: cs.drop (b+k+1):=by
   unfold oC;rw[hk1,hdr]
  have e2:oC cs b (d.take (k+1))=(cs.take b++(d.take k).map p9)++p9 x :: cs.drop (b+k+1):=by
   unfold oC;rw[show (d.take (k+1)).length=k+1 by rw[oLT];omega,<- dX p9 hx];simp[Nat.add_assoc]
  have hg:bY (oC cs b (d.take k)) (b+k)=some c:=by
   unfold bY;rw[e1,<- hl,List.getElem?_append_right (by omega)];simp
  unfold dL;dsimp only;rw[oDT (show (k:Int) < d.length by omega),bT,bT];simp only[oCT,oBS,show bY d k=some x from hx,show bY bs r=some (b:Int) from hb];rw[bP (x:=(b:Int)+k) (by omega) (by omega),show (b:Int)+k=((b+k:Nat):Int) by omega,bT];simp only[oBS,hg];rw[bP (x:=(k:Int)+1) (by omega) (by omega)];refine Ok.ret ?_
  have e3:List.modify (oC cs b (d.take k)) (b+k) (λe=>(e.1,x))=oC cs b (d.take (k+1)):=by
   rw[e1,e2,<- hl,vT,hc0];rfl
  rw[e3];rfl
 ·unfold dL;dsimp only;rw[oDF (show ¬ (d.length:Int) < d.length by omega),List.take_length];exact Ok.ret rfl
theorem xZ:iE=some (cA,()):=by kernel_rfl
def DP(ss:List Int) (dt:List (List Int)):Prop:=∀i,i < dt.length->∀d z,dt[i]?=some d->ss[i]?=some z->(d.length:Int)<=z
def VJ(code:List DIn) (j:Nat):Prop:=∀x,code[j]?=some x->CD x.1 x.2.1 x.2.2.1 x.2.2.2.1 x.2.2.2.2
def AU(n m:Int) (x:DIn):Bool:=(jp x.1 && decide (x.2.2.2.2>=n)) || (x.1==15 && decide (x.2.2.2.2>=m))
def RJ(code:List DIn) (n m:Int) (j:Nat):Prop:=∀x,code[j]?=some x->AU n m x=false
structure PrV (code:List DIn) (ss:List Int) (dt:List (List Int)):Prop where
 sz:wH ss
 len:dt.length=ss.length
 fit:DP ss dt
 cl:1<=code.length/\code.length<=64
 ins:∀j,j < code.length->VJ code j
 rng:∀j,j < code.length->RJ code code.length ss.length j
theorem Ch:jk=cy:=rfl
theorem D5{code:List DIn}{ss:List Int}{dt:List (List Int)}(hc:code.length<=1000) :
 (¬ (∀j,j < code.length->VJ code j)/\bR dp NN (0,code,(code.length:Int),0,code,ss,dt,())=some (.inl (5,()))) \/
 ((∀j,j < code.length->VJ code j)/\∃e a b c d,bR dp NN (0,code,(code.length:Int),0,code,ss,dt,())=some (.inr (e,a,b,c,d,code,ss,dt,())) /\
  ((e=0/\∀j,j < code.length->RJ code code.length ss.length j)\/(e=6/\¬ ∀j,j < code.length->RJ code code.length ss.length j))):=by
 obtain⟨t,e1,_,ht⟩:=B7 (f:=dp) (g:=dp) (n:=NN) (s:=(0,code,(code.length:Int),0,code,ss,dt,()))
  (P:=λs=>∃(k:Nat) (e:Int),s=(e,code,(code.length:Int),(k:Int),code,ss,dt,())/\k<=code.length/\(∀j,j < k->VJ code j)/\((e=0/\∀j,j < k->RJ code code.length ss.length j)\/(e=6/\∃j,j < k/\¬ RJ code code.length ss.length j)))
  (R:=λt=>(t=.inl (5,())/\¬ ∀j,j < code.length->VJ code j)\/∃e a b c d,t=.inr (e,a,b,c,d,code,ss,dt,())/\(∀j,j < code.length->VJ code j)/\((e=0/\∀j,j < code.length->RJ code code.length ss.length j)\/(e=6/\¬ ∀j,j < code.length->RJ code code.length ss.length j)))
  (m:=λs=>(s.2.2.1 - s.2.2.2.1).toNat) ⟨0,0,rfl,by omega,λj hj=>by omega,.inl ⟨rfl,λj hj=>by omega⟩⟩ (by unfold NN;dsimp only;omega) (by
   rintro _ ⟨k,e,rfl,hk,hV,hR⟩;unfold dp;delta bN;dsimp only;by_cases hkl:k < code.length
   rotate_left
   ·obtain rfl:k=code.length:=by omega
    rw[oDF (show ¬ (code.length:Int) < code.length by omega)];refine .inr ⟨_,rfl,rfl,.inr ⟨_,_,_,_,_,rfl,hV,?_⟩⟩;rcases hR with h | ⟨h,j,hj,hn⟩
    ·exact .inl h
    ·exact .inr ⟨h,λg=>hn (g j hj)⟩
   have hx:code[k]?=some code[k]:=oGE hkl;rw[oDT (show (k:Int) < code.length by omega),bT];simp only[oCT,oBS,show bY code k=some code[k] from hx];generalize code[k]=x at hx;rcases DT (o:=x.1) (a:=x.2.1) (b:=x.2.2.1) (c:=x.2.2.2.1) (i:=x.2.2.2.2) with ⟨hv,ev⟩ | ⟨hv,ev⟩
   rotate_left
   ·rw[ev];exact .inr ⟨_,rfl,rfl,.inl ⟨rfl,λg=>hv (g k hkl x hx)⟩⟩
   rw[ev,rG,jG]
   have hV':∀j,j < k+1->VJ code j:=λj hj=>by
    by_cases hjk:j=k
    ·subst hjk;intro y hy;rw[hx] at hy
     injection hy with hy
     rw[<- hy];exact hv
    ·exact hV j (by omega)
   have yes:AU code.length ss.length x=false->(((e=0/\∀j,j < k->RJ code code.length ss.length j)\/(e=6/\∃j,j < k/\¬ RJ code code.length ss.length j))->((e=0/\∀j,j < k+1->RJ code code.length ss.length j)\/(e=6/\∃j,j < k+1/\¬ RJ code code.length ss.length j))):=by
    intro hb h;rcases h with ⟨h,g⟩ | ⟨h,j,hj,g⟩
    ·refine .inl ⟨h,λj hj=>?_⟩;by_cases hjk:j=k
     ·subst hjk;intro y hy;rw[hx] at hy
      injection hy with hy
      rw[<- hy];exact hb
     ·exact g j (by omega)
    ·exact .inr ⟨h,j,by omega,g⟩
   have no:AU code.length ss.length x=true->(((6:Int)=0/\∀j,j < k+1->RJ code code.length ss.length j)\/((6:Int)=6/\∃j,j < k+1/\¬ RJ code code.length ss.length j)):=λhb=>.inr ⟨rfl,k,by omega,λg=>by have:=g x hx;rw[hb] at this;cases this⟩;have hw:w64 ((k:Int)+1)=((k+1:Nat):Int):=bP (by omega) (by omega)
   have hm:((code.length:Int) - ((k+1:Nat):Int)).toNat < ((code.length:Int) - (k:Int)).toNat:=by omega
   simp only[oBS,oNT,oCF]
   have fin:∀B:Bool,AU code.length ss.length x=B->∃s',(some (.inl ((bif B then (6:Int) else e),code,(code.length:Int),w64 ((k:Int)+1),code,ss,dt,())):Option ((Int×(List DIn)×Int×Int×(List DIn)×(List (Int))×(List (List (Int)))×Unit)⊕((Int×Unit)⊕(Int×(List DIn)×Int×Int×Bool×(List DIn)×(List (Int))×(List (List (Int)))×Unit))))=some (.inl s') /\
    (∃(k:Nat) (e:Int),s'=(e,code,(code.length:Int),(k:Int),code,ss,dt,())/\k<=code.length/\(∀j,j < k->VJ code j)/\((e=0/\∀j,j < k->RJ code code.length ss.length j)\/(e=6/\∃j,j < k/\¬ RJ code code.length ss.length j)))/\(s'.2.2.1 - s'.2.2.2.1).toNat < ((code.length:Int) - (k:Int)).toNat:=by
    intro B hB;rw[hw]
    cases B with
    | true=>exact⟨_,rfl,⟨k+1,6,rfl,by omega,hV',no hB⟩,hm⟩
    | false=>exact⟨_,rfl,⟨k+1,e,rfl,by omega,hV',yes hB hR⟩,hm⟩
   unfold AU at fin;cases hj:jp x.1<;>cases hn:decide (x.2.2.2.2>=(code.length:Int))<;>cases h15:(x.1==15)<;>cases hn2:decide (x.2.2.2.2>=(ss.length:Int))<;>rw[hj,hn,h15,hn2] at fin
   all_goals
    first
     | obtain⟨s',g1,g2,g3⟩:=fin true rfl;exact .inl ⟨s',g1,g1,g2,g3⟩
     | obtain⟨s',g1,g2,g3⟩:=fin false rfl;exact .inl ⟨s',g1,g1,g2,g3⟩)
 rcases ht with ⟨rfl,h⟩ | ⟨e,a,b,c,d,rfl,h1,h2⟩
 ·exact .inl ⟨h,e1⟩
 ·exact .inr ⟨h1,e,a,b,c,d,e1,h2⟩
theorem pJ{code:List DIn}{ss:List Int}{dt:List (List Int)}(hc:code.length<=1000) (hs:ss.length<=1000) (hd:dt.length<=1000) :
 ∃e,gB code ss dt=some (e,())/\dU code ss dt=some (e,())/\(e=0->PrV code ss dt)/\(PrV code ss dt->e=0):=by
 unfold gB dU;rw[rz];rcases sV hs with ⟨hz,e⟩ | ⟨hz,e⟩
 rotate_left
 ·rw[e];exact⟨1,rfl,rfl,λh=>(by cases h),λh=>absurd h.sz hz⟩
 rw[e];delta bN;simp only[oBS,oNT,oCF];by_cases hl:(dt.length:Int)=ss.length
 rotate_left
 ·rw[bne_iff_ne.2 hl];exact⟨1,rfl,rfl,λh=>(by cases h),λh=>absurd (show (dt.length:Int)=ss.length by rw[h.len]) hl⟩
 rw[bne_eq_false_iff_eq.2 hl,Ch];simp only[oCF]
 rcases AR (f:=cy) (N:=NN) (bad:=.inl (1,())) (good:=.inr (dt,(dt.length:Int),(dt.length:Int),false,code,ss,dt,())) (λi=>(dt,(dt.length:Int),(i:Int),code,ss,dt,())) (n:=dt.length) (λi=>∀d z,dt[i]?=some d->ss[i]?=some z->(d.length:Int)<=z) (by unfold NN;omega) (λi hi _=>by
  have hx:dt[i]?=some dt[i]:=oGE hi;have hy:ss[i]?=some ss[i]:=oGE (by omega);generalize dt[i]=x at hx;generalize ss[i]=y at hy;unfold cy;delta bN;dsimp only;rw[oDT (show (i:Int) < dt.length by omega),bT];simp only[oCT,oBS,show bY dt i=some x from hx,show bY ss i=some y from hy];by_cases g:(x.length:Int) > y
  ·rw[oDT g];exact .inr ⟨λh=>by have:=h _ _ hx hy;omega,rfl⟩
  ·rw[oDF g,bP (x:=(i:Int)+1) (by omega) (by omega)]
   exact .inl ⟨λd z hd hz=>by rw[hx] at hd;rw[hy] at hz;injection hd with hd;injection hz with hz;rw[<- hd,<- hz];omega,rfl⟩) (by
  unfold cy;dsimp only;rw[oDF (show ¬ (dt.length:Int) < dt.length by omega)]
  rfl) with ⟨hp,e⟩ | ⟨hp,e⟩
 rotate_left
 ·rw[show bR cy NN (dt,(dt.length:Int),0,code,ss,dt,())=_ from e];exact⟨1,rfl,rfl,λh=>(by cases h),λh=>absurd h.fit hp⟩
 rw[show bR cy NN (dt,(dt.length:Int),0,code,ss,dt,())=_ from e];dsimp only;by_cases h0:code.length=0
 ·rw[show ((code.length:Int)==0)=true from beq_iff_eq.2 (by omega),oDT (show (code.length:Int) < 1 by omega)];exact⟨3,rfl,rfl,λh=>(by cases h),λh=>by have:=h.cl.1;omega⟩
 rw[show ((code.length:Int)==0)=false from oBF (by omega),oDF (show ¬ (code.length:Int) < 1 by omega)];by_cases h64:(code.length:Int) > 64
 ·rw[oDT h64];exact⟨3,rfl,rfl,λh=>(by cases h),λh=>by have:=h.cl.2;omega⟩
 rw[oDF h64];simp only[oCF]
 have r1:=AR (f:=cF) (N:=NN) (bad:=.inl (5,())) (good:=.inr (code,(code.length:Int),(code.length:Int),false,code,ss,dt,())) (λi=>(code,(code.length:Int),(i:Int),code,ss,dt,())) (n:=code.length) (λi=>VJ code i) (by unfold NN;omega) (λi hi _=>by
  have hx:code[i]?=some code[i]:=oGE hi;generalize code[i]=x at hx;unfold cF;dsimp only;rw[oDT (show (i:Int) < code.length by omega),bT];simp only[oCT,oBS,show bY code i=some x from hx];rcases DS (o:=x.1) (a:=x.2.1) (b:=x.2.2.1) (c:=x.2.2.2.1) (i:=x.2.2.2.2) with ⟨hv,ev⟩ | ⟨hv,ev⟩
  ·rw[ev,bP (x:=(i:Int)+1) (by omega) (by omega)];exact .inl ⟨λy hy=>by rw[hx] at hy;injection hy with hy;rw[<- hy];exact hv,rfl⟩
  ·rw[ev]
   exact .inr ⟨λh=>hv (h x hx),rfl⟩) (by
  unfold cF;dsimp only;rw[oDF (show ¬ (code.length:Int) < code.length by omega)]
  rfl)
 have r2:=AR (f:=cE) (N:=NN) (bad:=.inl (6,())) (good:=.inr (code,(code.length:Int),(code.length:Int),false,code,ss,dt,())) (λi=>(code,(code.length:Int),(i:Int),code,ss,dt,())) (n:=code.length) (λi=>RJ code code.length ss.length i) (by unfold NN;omega) (λi hi _=>by
  have hx:code[i]?=some code[i]:=oGE hi;generalize code[i]=x at hx;unfold cE;delta bN;dsimp only;rw[oDT (show (i:Int) < code.length by omega),bT];simp only[oCT,oBS,show bY code i=some x from hx];rw[jG]
  have yes:AU code.length ss.length x=false->RJ code code.length ss.length i:=λh y hy=>by rw[hx] at hy;injection hy with hy;rw[<- hy];exact h
  have no:AU code.length ss.length x=true->¬ RJ code code.length ss.length i:=λh g=>by have:=g x hx;rw[h] at this;cases this
  have hw:w64 ((i:Int)+1)=((i+1:Nat):Int):=bP (by omega) (by omega);unfold AU at yes no;simp only[oBS];cases hj:jp x.1<;>cases hn:decide (x.2.2.2.2>=(code.length:Int))<;>cases h15:(x.1==15)<;>cases hn2:decide (x.2.2.2.2>=(ss.length:Int))<;>rw[hj,hn,h15,hn2] at yes no
  all_goals
   first
    | exact .inl ⟨yes rfl,by show some (Sum.inl (code,(code.length:Int),w64 ((i:Int)+1),code,ss,dt,()))=_;rw[hw]⟩
    | exact .inr ⟨no rfl,rfl⟩) (by
  unfold cE;dsimp only;rw[oDF (show ¬ (code.length:Int) < code.length by omega)]
  rfl)
 rcases D5 (ss:=ss) (dt:=dt) hc with ⟨hV,e1⟩ | ⟨hV,x,a,b,c,d,e1,hR⟩
 ·rw[e1];rcases r1 with ⟨g,e2⟩ | ⟨_,e2⟩
  ·exact absurd g hV
  rw[show bR cF NN (code,(code.length:Int),0,code,ss,dt,())=_ from e2];exact⟨5,rfl,rfl,λh=>(by cases h),λh=>absurd h.ins hV⟩
 rw[e1];rcases r1 with ⟨_,e2⟩ | ⟨g,_⟩
 rotate_left
 ·exact absurd hV g
 rw[show bR cF NN (code,(code.length:Int),0,code,ss,dt,())=_ from e2];dsimp only;rcases hR with ⟨rfl,hR⟩ | ⟨rfl,hR⟩
 ·rcases r2 with ⟨_,e3⟩ | ⟨g,_⟩
  rotate_left
  ·exact absurd hR g
  rw[show bR cE NN (code,(code.length:Int),0,code,ss,dt,())=_ from e3];exact⟨0,rfl,rfl,λ_=>⟨hz,by omega,hp,⟨by omega,by omega⟩,hV,hR⟩,λ_=>rfl⟩
 ·rcases r2 with ⟨g,_⟩ | ⟨_,e3⟩
  ·exact absurd g hR
  rw[show bR cE NN (code,(code.length:Int),0,code,ss,dt,())=_ from e3];exact⟨6,rfl,rfl,λh=>(by cases h),λh=>absurd h.rng hR⟩
structure y9 (bs:List Int) (cs:List DCe) (ls:List DLn) (ts:List DTh):Prop where
 bl:bs.length<=1000
 cl:cs.length<=1000
 ll:Sh4 ls
 tl:ts.length<=1000
 rl:∀t∈ts,t.2.1.length<=1000
theorem y9.nil:y9 [] [] [] []:=⟨by simp,by simp,⟨by simp,cK⟩,by simp,cK⟩
theorem wt{l:List Int}(h:l.length<=1000):eb l=some (l,()):=by
 unfold eb;rw[cn (by omega)];rfl
theorem Aa{l:List Int}{key:Int}(h:l.length<=1000):gz l key=some (l,key,()):=by
 unfold gz;rw[wt h];rfl
theorem vW{code:List DIn}{ss bs:List Int}{dt:List (List Int)}{key:Int}(hb:bs.length<=1000) (hs:ss.length<=1000) (hi:∀b∈bs,re b) (hdl:dt.length<=1000) (hd:∀d∈dt,d.length<=1000) :
 ∃cs ls e,gy code ss dt bs key=some (cs,ls,e,())/\em code ss dt bs key=some (cs,ls,e,())/\cs.length<=1000/\Sh4 ls/\(¬ LV bs ss->e=1)/\(LV bs ss->dt.length=ss.length->DP ss dt->e=0):=by
 have hnil:([]:List DCe).length<=1000/\Sh4 []:=⟨by simp,by simp,cK⟩;unfold gy em;rw[(D2 (key:=key) hb hs hi).same (B4 hb hs hi)];rcases B4 (key:=key) hb hs hi with ⟨hL,e⟩ | ⟨hL,e⟩
 rotate_left
 ·rw[e];exact⟨_,_,1,rfl,rfl,hnil.1,hnil.2,λ_=>rfl,λh=>absurd h hL⟩
 rw[e,xZ,qR];delta bN;simp only[oBS,oNT,oCF];by_cases hl:(dt.length:Int)=ss.length
 rotate_left
 ·rw[bne_iff_ne.2 hl];exact⟨_,_,1,rfl,rfl,hnil.1,hnil.2,λ_=>rfl,λ_ h=>absurd (show (dt.length:Int)=ss.length by rw[h]) hl⟩
 rw[bne_eq_false_iff_eq.2 hl,show kK 512 512 2=true by kernel_rfl];simp only[oCF,oCT];obtain⟨z0,hz0⟩:∃z0:List DCe,z0=List.replicate 512 (0,0):=⟨_,rfl⟩;rw[<- hz0]
 have hzl:z0.length=512:=by rw[hz0,List.length_replicate]
 have hz1:∀c∈z0,c.1=0:=by
  intro c hc;rw[hz0] at hc;rw[List.eq_of_mem_replicate hc]
 have hE:Sh4 cA:=⟨by decide,by decide⟩
 obtain⟨t,e1,e2,ht⟩:=B7 (f:=gp) (g:=cN) (n:=NN) (s:=(dt,(dt.length:Int),0,code,ss,dt,bs,key,(),(),z0,cA,()))
  (P:=λs=>∃(k:Nat) (cs:List DCe),s=(dt,(dt.length:Int),(k:Int),code,ss,dt,bs,key,(),(),cs,cA,())/\k<=dt.length/\cs.length=512/\∀c∈cs,c.1=0)
  (R:=λt=>(t=.inl (1,(),(),())/\¬ DP ss dt)\/∃a1 a2 a3 a4 a5 a6 a7 a8 a9 a10 a11 cs,t=.inr (a1,a2,a3,a4,a5,a6,a7,a8,a9,a10,a11,cs,cA,())/\cs.length=512) (m:=λs=>(s.2.1 - s.2.2.1).toNat) ⟨0,z0,rfl,by omega,hzl,hz1⟩ (by unfold NN;dsimp only;omega) (by
   rintro _ ⟨k,cs,rfl,hk,hcl,hc0⟩;unfold gp cN;delta bN;dsimp only;by_cases hkl:k < dt.length
   rotate_left
   ·rw[oDF (show ¬ (k:Int) < dt.length by omega)];exact .inr ⟨_,rfl,rfl,.inr ⟨_,_,_,_,_,_,_,_,_,_,_,_,rfl,hcl⟩⟩
   obtain⟨d,hgd⟩:∃d,dt[k]?=some d:=⟨_,oGE hkl⟩;obtain⟨z,hgz⟩:∃z,ss[k]?=some z:=⟨_,oGE (by omega)⟩;obtain⟨b,z',hgb,hgz',z1,z32,b0,bz⟩:=hL.at_ (r:=k) (by omega);rw[hgz] at hgz'
   injection hgz' with hgz'
   subst hgz';have hd32:=hd d (bW hgd);obtain⟨q,rfl⟩:∃q:Nat,b=q:=⟨b.toNat,by omega⟩;rw[oDT (show (k:Int) < dt.length by omega),bT];simp only[oCT,oBS,show bY dt k=some d from hgd,show bY ss k=some z from hgz,show bY bs k=some (q:Int) from hgb,bT];by_cases hdz:(d.length:Int) > z
   ·rw[oDT hdz];exact .inr ⟨_,rfl,rfl,.inl ⟨rfl,λg=>by have:=g k hkl d z hgd hgz;omega⟩⟩
   rw[oDF hdz,yC hcl hc0 hgb (by omega),vP hd32]
   have hm:Nat.min (d.map p9).length (Nat.sub cs.length q)=d.length:=by
    rw[List.length_map,hcl];show min d.length (512 - q)=d.length;omega
   simp only[oCF,oBS,hm];rw[show hJ q cs.length cs.length=true by unfold hJ;simp;omega,show hJ q (Nat.add q d.length) cs.length=true by unfold hJ;simp;omega];simp only[oCT];have hw:w64 ((k:Int)+1)=(k:Int)+1:=bP (by omega) (by omega)
   have hsp:nF cs q d.length (d.map p9)=oC cs q d:=by
    unfold nF oC;rw[show (d.map p9).take d.length=d.map p9 from List.take_of_length_le (by rw[List.length_map];omega)]
   have hP:∃(j:Nat) (cs':List DCe),(dt,(dt.length:Int),w64 ((k:Int)+1),code,ss,dt,bs,key,(),(),oC cs q d,cA,())=(dt,(dt.length:Int),(j:Int),code,ss,dt,bs,key,(),(),cs',cA,())/\j<=dt.length/\cs'.length=512/\∀c∈cs',c.1=0:=
    ⟨k+1,_,by rw[hw];rfl,by omega,by rw[uC (by omega)];exact hcl,uB hc0 λ_ _=>rfl⟩
   by_cases hdn:d=[]
   ·subst hdn;rw[show Nat.blt 0 ([]:List Int).length=false from rfl];rw[uA] at hP ⊢;exact .inl ⟨_,rfl,rfl,hP,by dsimp only;rw[hw];omega⟩
   ·have:0 < d.length:=List.length_pos_iff.2 hdn;rw[show Nat.blt 0 d.length=true by rw[Nat.blt_eq];exact this,hsp]
    exact .inl ⟨_,rfl,rfl,hP,by dsimp only;rw[hw];omega⟩)
 rw[e1,e2];rcases ht with ⟨rfl,hF⟩ | ⟨a1,a2,a3,a4,a5,a6,a7,a8,a9,a10,a11,cs,rfl,hcl⟩
 ·exact⟨_,_,1,rfl,rfl,hnil.1,hnil.2,λ_=>rfl,λ_ _ h=>absurd h hF⟩
 ·exact⟨_,_,0,rfl,rfl,by omega,hE,λh=>absurd hL h,λ_ _ _=>rfl⟩
def cu:DTh:=(0,List.replicate 8 (0,0),0,0,-1,-1,0,0)
def ib:DTh:=(1,List.replicate 8 (0,0),0,0,-1,-1,0,0)
theorem zl{bs:List Int}{key:Int}{cs:List DCe}{ls:List DLn}:bR io NN (0,(),0,(),(),(),bs,key,cs,ls,[],())=some (4,false,(),0,(),(),(),bs,key,cs,ls,[cu,cu,cu,cu],()):=by kernel_rfl
theorem uc{bs:List Int}{key:Int}{cs:List DCe}{ls:List DLn}:bR gl NN (0,(),0,(),(),(),bs,key,cs,ls,[],())=some (4,false,(),0,(),(),(),bs,key,cs,ls,[ib,cu,cu,cu],()):=by kernel_rfl
theorem vk{code:List DIn}{ss bs:List Int}{dt:List (List Int)}{key:Int}(hc:code.length<=1000) (hb:bs.length<=1000) (hs:ss.length<=1000) (hi:∀b∈bs,re b) (hdl:dt.length<=1000) (hd:∀d∈dt,d.length<=1000) :
 ∃bs' key' cs ls ts e,cY code ss dt bs key=some (bs',key',cs,ls,ts,e,())/\dq code ss dt bs key=some (bs',key',cs,ls,ts,e,())/\y9 bs' cs ls ts:=by
 obtain⟨e,e1,e2,h0,_⟩:=pJ (code:=code) hc hs hdl;unfold cY dq cD;rw[e1,e2];simp only[oBS];by_cases he:e=0
 rotate_left
 ·rw[bne_iff_ne.2 he];exact⟨_,_,_,_,_,_,rfl,rfl,y9.nil⟩
 subst he;have hP:=h0 rfl;obtain⟨cs,ls,x,e3,e4,hcl,hll,hx1,hx0⟩:=vW (code:=code) (key:=key) hb hs hi hdl hd;rw[e3,e4];simp only[bne_self_eq_false,oCF,oBS];rcases B4 (key:=key) hb hs hi with ⟨hL,e5⟩ | ⟨hL,e5⟩
 ·obtain rfl:=hx0 hL hP.len hP.fit;rw[e5,Aa hb];simp only[bne_self_eq_false,oCF,oBS,oNT];rw[cn (b:=8) (n:=0) (m:=bs.length) ⟨by omega,by omega⟩,zl,show List.append [] bs=bs from rfl,uc];exact⟨_,_,_,_,_,_,rfl,rfl,hb,hcl,hll,by show ([ib,cu,cu,cu]:List DTh).length<=1000;decide,by show ∀t∈([ib,cu,cu,cu]:List DTh),t.2.1.length<=1000;decide⟩
 ·obtain rfl:=hx1 hL;rw[e5];exact⟨_,_,_,_,_,_,rfl,rfl,y9.nil⟩
theorem zV{cs:List DCe}{b:Nat}{d:List Int}(h:b+d.length<=cs.length) (i:Nat):(oC cs b d)[i]?=if b<=i/\i < b+d.length then (d[i - b]?).map p9 else cs[i]?:=by
 have h1:(cs.take b).length=b:=by rw[oLT];omega
 have h2:(cs.take b++d.map p9).length=b+d.length:=by rw[List.length_append,h1,List.length_map]
 unfold oC;by_cases hi:i < b
 ·rw[oIN (by omega),List.getElem?_append_left (by omega),List.getElem?_append_left (by omega),List.getElem?_take,oIP hi]
 by_cases hi2:i < b+d.length
 ·rw[oIP ⟨by omega,hi2⟩,List.getElem?_append_left (by omega),List.getElem?_append_right (by omega),h1,List.getElem?_map]
 ·rw[oIN (by omega),List.getElem?_append_right (by omega),h2,List.getElem?_drop];congr 1;omega
def DJ(dt:List (List Int)) (r o:Nat):Int:=(dt.getD r []).getD o 0
def Dl(bs ss:List Int) (dt:List (List Int)) (k:Nat) (cs:List DCe):Prop:=∀(r o:Nat) (b z:Int),bs[r]?=some b->ss[r]?=some z->(o:Int) < z->cs[b.toNat+o]?=some (if r < k then p9 (DJ dt r o) else (0,0))
theorem yd{code:List DIn}{ss bs:List Int}{dt:List (List Int)}{key:Int}(hp:jS code ss dt) (hL:LV bs ss) :
 ∃cs,em code ss dt bs key=some (cs,cA,0,())/\cs.length=512/\Dl bs ss dt ss.length cs:=by
 have hdl:=hp.len;have h4:=hp.sz.2.1;have hbl:=hL.2.1;unfold em;rw[iK hL,qR];delta bN;simp only[oBS,oNT,oCF];rw[show ((dt.length:Int) != ss.length)=false from bne_eq_false_iff_eq.2 (by omega),show kK 512 512 2=true by kernel_rfl];simp only[oCF,oCT];obtain⟨z0,hz0⟩:∃z0:List DCe,z0=List.replicate 512 (0,0):=⟨_,rfl⟩;rw[<- hz0]
 have hzl:z0.length=512:=by rw[hz0,List.length_replicate]
 have hz1:∀c∈z0,c.1=0:=by
  intro c hc;rw[hz0] at hc;rw[List.eq_of_mem_replicate hc]
 have hC0:Dl bs ss dt 0 z0:=by
  intro r o b z hb hz ho;obtain⟨b',z',hb',hz',z1,z32,b0,bz⟩:=hL.at_ (r:=r) (oGS hz).1;rw[hb] at hb';rw[hz] at hz'
  injection hb' with hb';injection hz' with hz'
  subst hb';subst hz';rw[oIN (by omega),hz0,List.getElem?_replicate,oIP (by omega)]
 obtain⟨t,e1,_,ht⟩:=B7 (f:=cN) (g:=cN) (n:=NN) (s:=(dt,(dt.length:Int),0,code,ss,dt,bs,key,(),(),z0,cA,()))
  (P:=λs=>∃(k:Nat) (cs:List DCe),s=(dt,(dt.length:Int),(k:Int),code,ss,dt,bs,key,(),(),cs,cA,())/\k<=dt.length/\cs.length=512/\(∀c∈cs,c.1=0)/\Dl bs ss dt k cs)
  (R:=λt=>∃a1 a2 a3 a4 a5 a6 a7 a8 a9 a10 a11 cs,t=.inr (a1,a2,a3,a4,a5,a6,a7,a8,a9,a10,a11,cs,cA,())/\cs.length=512/\Dl bs ss dt ss.length cs) (m:=λs=>(s.2.1 - s.2.2.1).toNat) ⟨0,z0,rfl,by omega,hzl,hz1,hC0⟩ (by unfold NN;dsimp only;omega) (by
   rintro _ ⟨k,cs,rfl,hk,hcl,hc0,hC⟩;unfold cN;delta bN;dsimp only;by_cases hkl:k < dt.length
   rotate_left
   ·rw[oDF (show ¬ (k:Int) < dt.length by omega)]
    obtain rfl:k=ss.length:=by omega
    exact .inr ⟨_,rfl,rfl,_,_,_,_,_,_,_,_,_,_,_,_,rfl,hcl,hC⟩
   obtain⟨d,hgd⟩:∃d,dt[k]?=some d:=⟨_,oGE hkl⟩;obtain⟨b,z,hgb,hgz,z1,z32,b0,bz⟩:=hL.at_ (r:=k) (by omega);have hfit:=hp.fit k d z hgd hgz;obtain⟨q,rfl⟩:∃q:Nat,b=q:=⟨b.toNat,by omega⟩;rw[oDT (show (k:Int) < dt.length by omega),bT];simp only[oCT,oBS,show bY dt k=some d from hgd,show bY ss k=some z from hgz];rw[oDF (show ¬ (d.length:Int) > z by omega),yC hcl hc0 hgb (by omega)];simp only[oCF,oBS];have hw:w64 ((k:Int)+1)=((k+1:Nat):Int):=bP (by omega) (by omega);rw[hw];refine .inl ⟨_,rfl,rfl,⟨k+1,_,rfl,by omega,by rw[uC (by omega)];exact hcl,uB hc0 λ_ _=>rfl,?_⟩,by dsimp only;omega⟩;intro r o b z' hb hz ho;rw[zV (by omega)]
   have hdk:dt.getD k []=d:=by rw[oGD,hgd];rfl
   by_cases hrk:r=k
   ·subst hrk;rw[hgb] at hb;rw[hgz] at hz
    injection hb with hb;injection hz with hz
    subst hb;subst hz;rw[oTN,oIP (show r < r+1 by omega)];unfold DJ;rw[hdk];by_cases hod:o < d.length
    ·rw[oIP ⟨by omega,by omega⟩,show q+o - q=o by omega,oGD,oGE hod];rfl
    ·rw[oIN (by omega),oGD,oGN (l:=d) (by omega)];have:=hC r o q z hgb hgz ho;rw[oTN,oIN (by omega)] at this;rw[this];rfl
   ·have hlt:=(oGS hz).1;obtain⟨b',z'',hb',hz',z1',z32',b0',bz'⟩:=hL.at_ (r:=r) hlt;rw[hb] at hb';rw[hz] at hz'
    injection hb' with hb';injection hz' with hz'
    subst hb';subst hz';rw[oIN λg=>?_]
    ·rw[hC r o b z' hb hz ho];by_cases h:r < k
     ·rw[oIP h,oIP (by omega)]
     ·rw[oIN h,oIN (by omega)]
    ·obtain⟨i,hi⟩:∃i:Nat,b.toNat+o=q+i:=⟨b.toNat+o - q,by omega⟩
     exact hL.apart (r:=r) (r':=k) hrk hb hz hgb hgz (o:=o) (o':=i) (by omega) ho (by omega) (by omega) (by omega))
 rw[e1];obtain⟨a1,a2,a3,a4,a5,a6,a7,a8,a9,a10,a11,cs,rfl,hcl,hC⟩:=ht;exact⟨_,rfl,hcl,hC⟩
def Cw(ss:List Int) (dt:List (List Int)):List (List DCn):=(List.range ss.length).map λr=>(List.range (ss.getD r 0).toNat).map λo=>(0,DJ dt r o,0,0)
theorem B1{cs:List DCe}{n:Nat}:to cs cA (n:Int)=cs.getD n (0,0):=by
 unfold to;rw[show ((n:Int) / 4 % 4).toNat=n / 4 % 4 by omega];obtain⟨i,hi'⟩:∃i,n / 4 % 4=i:=⟨_,rfl⟩
 have h4':i < 4:=by omega
 have hx:cA[i]?=some (-1,false,[]):=by
  match i,h4' with
  | 0,_=>rfl
  | 1,_=>rfl
  | 2,_=>rfl
  | 3,_=>rfl
 rw[hi',hx];dsimp only;rw[oIN (by omega),oTN]
theorem zR{bs ss:List Int}{dt:List (List Int)}{key:Int}{cs:List DCe}(hL:LV bs ss) (h:Dl bs ss dt ss.length cs):ux bs ss key cs cA=Cw ss dt:=by
 unfold ux Cw;refine List.map_congr_left λr hr=>?_;have hr:=List.mem_range.1 hr;obtain⟨b,z,hb,hz,z1,z32,b0,bz⟩:=hL.at_ hr;unfold Cv;rw[bU hz];refine List.map_congr_left λo ho=>?_;have ho:=List.mem_range.1 ho;unfold CQ;obtain⟨q,rfl⟩:∃q:Nat,b=q:=⟨b.toNat,by omega⟩;have:=h r o q z hb hz (by omega);rw[oTN,oIP hr] at this;rw[bU hb,show (q:Int)+o=((q+o:Nat):Int) by omega,B1,oGD,this];rfl
theorem pj{code:List DIn}{ss bs:List Int}{dt:List (List Int)}{key:Int}(hp:jS code ss dt) (hL:LV bs ss) :
 ∃cs,dq code ss dt bs key=some (bs,key,cs,cA,[ib,cu,cu,cu],0,())/\MOk 0 ss bs cs cA [ib,cu,cu,cu]/\ux bs ss key cs cA=Cw ss dt:=by
 obtain⟨cs,e,hcl,hC⟩:=yd (key:=key) hp hL;have hbl:=hL.2.1;have h4:=hp.sz.2.1
 have e2:dq code ss dt bs key=some (bs,key,cs,cA,[ib,cu,cu,cu],0,()):=by
  unfold dq;rw[nq hp,iK hL,e];simp only[oBS,oNT,oCF,bne_self_eq_false];rw[cn (b:=8) (n:=0) (m:=bs.length) ⟨by omega,by omega⟩,show List.append [] bs=bs from rfl,uc];rfl
 obtain⟨y,e3,cs',ts',rfl,hM⟩:=zo (key:=key) hp hL;rw[e2] at e3
 injection e3 with e3
 injection e3 with _ e3;injection e3 with _ e3;injection e3 with g1 e3;injection e3 with _ e3;injection e3 with g2 _
 subst g1;subst g2;exact⟨_,e2,hM,zR hL hC⟩
theorem xz{a:List DCn}(h:a.length<=1000):dM a a=some (true,()):=by
 have e:bR dH NN (a,a,(a.length:Int),0,())=some (.inr (a,a,(a.length:Int),(a.length:Int),false,())):=by
  refine ko (st:=λk=>(a,a,(a.length:Int),(k:Int),())) (n:=a.length) (by unfold NN;omega) ?_ ?_
  ·intro k hk;unfold dH;dsimp only;rw[oDT (show (k:Int) < a.length by omega),bT];simp only[oCT,oBS,show bY a k=some a[k] from oGE hk,BEq.rfl,Bool.and_self,oNT,oCF];rw[bP (x:=(k:Int)+1) (by omega) (by omega)];exact Ok.ret rfl
  ·unfold dH;dsimp only;rw[oDF (show ¬ (a.length:Int) < a.length by omega)];exact Ok.ret rfl
 unfold dM;delta bN;dsimp only;rw[e];simp only[bne_self_eq_false,oCF]
theorem BI{rg:List (List DCn)}{vs:List DTs}(h1:rg.length<=1000) (h2:∀x∈rg,x.length<=1000) (h3:vs.length<=1000) (h4:∀v∈vs,v.2.2.2.2.2.2.2.length<=1000):ii rg vs rg vs=some (true,()):=by
 have e1:bR fk NN ((rg.length:Int),0,rg,vs,rg,vs,())=some (.inr ((rg.length:Int),(rg.length:Int),false,rg,vs,rg,vs,())):=by
  refine ko (st:=λk=>((rg.length:Int),(k:Int),rg,vs,rg,vs,())) (n:=rg.length) (by unfold NN;omega) ?_ ?_
  ·intro k hk;unfold fk;dsimp only;have hx:rg[k]?=some rg[k]:=oGE hk;rw[oDT (show (k:Int) < rg.length by omega),bT];simp only[oCT,oBS,show bY rg k=some rg[k] from hx];rw[xz (h2 _ (bW hx))];simp only[oBS,oNT,oCF];rw[bP (x:=(k:Int)+1) (by omega) (by omega)];exact Ok.ret rfl
  ·unfold fk;dsimp only;rw[oDF (show ¬ (rg.length:Int) < rg.length by omega)];exact Ok.ret rfl
 have e2:bR fj NN (vs,(vs.length:Int),0,rg,vs,rg,vs,())=some (.inr (vs,(vs.length:Int),(vs.length:Int),false,rg,vs,rg,vs,())):=by
  refine ko (st:=λk=>(vs,(vs.length:Int),(k:Int),rg,vs,rg,vs,())) (n:=vs.length) (by unfold NN;omega) ?_ ?_
  ·intro k hk;unfold fj;dsimp only;have hx:vs[k]?=some vs[k]:=oGE hk;rw[oDT (show (k:Int) < vs.length by omega),bT];simp only[oCT,oBS,show bY vs k=some vs[k] from hx,bne_self_eq_false,oCF];rw[xz (h4 _ (bW hx))];simp only[oBS,oNT,oCF];rw[bP (x:=(k:Int)+1) (by omega) (by omega)];exact Ok.ret rfl
  ·unfold fj;dsimp only;rw[oDF (show ¬ (vs.length:Int) < vs.length by omega)];exact Ok.ret rfl
 unfold ii;delta bN;dsimp only;rw[e1];dsimp only;rw[e2];simp only[bne_self_eq_false,oCF]
theorem Bb{rg:List (List DCn)}{vs:List DTs}(h1:rg.length<=100) (h2:vs.length<=100) (hx:∀x∈rg++vs.map ry,x.length<=1000/\∀c∈x,c.1≠1):ig rg vs=some (false,()):=by
 unfold ig;rw[vY (by omega) (by omega)]
 have hL:(rg++vs.map ry).length<=200:=by rw[List.length_append,List.length_map];omega
 generalize rg++vs.map ry=L at hx hL;delta bN;simp only[oBS]
 have e1:bR ff NN ((L.length:Int),0,L,())=some (.inr ((L.length:Int),(L.length:Int),false,L,())):=by
  refine ko (st:=λk=>((L.length:Int),(k:Int),L,())) (n:=L.length) (by unfold NN;omega) ?_ ?_
  ·intro k hk;obtain⟨x,hxk⟩:∃x,L[k]?=some x:=⟨_,oGE hk⟩;obtain⟨hxl,hxc⟩:=hx x (bW hxk);unfold ff;delta bN;dsimp only;rw[oDT (show (k:Int) < L.length by omega),bT];simp only[oCT,oBS,show bY L k=some x from hxk]
   have e0:bR fh NN ((L.length:Int),(k:Int),x,(x.length:Int),0,L,())=some (.inr ((L.length:Int),(k:Int),x,(x.length:Int),(x.length:Int),false,L,())):=by
    refine ko (st:=λo=>((L.length:Int),(k:Int),x,(x.length:Int),(o:Int),L,())) (n:=x.length) (by unfold NN;omega) ?_ ?_
    ·intro o ho;obtain⟨c,hc⟩:∃c,x[o]?=some c:=⟨_,oGE ho⟩;unfold fh;dsimp only;rw[oDT (show (o:Int) < x.length by omega),bT];simp only[oCT,oBS,show bY x o=some c from hc];rw[show (c.1==1)=false from oBF (hxc c (bW hc))];simp only[oCF];rw[bP (x:=(o:Int)+1) (by omega) (by omega)];exact Ok.ret rfl
    ·unfold fh;dsimp only;rw[oDF (show ¬ (x.length:Int) < x.length by omega)];exact Ok.ret rfl
   rw[e0];dsimp only;rw[bP (x:=(k:Int)+1) (by omega) (by omega)];exact Ok.ret rfl
  ·unfold ff;dsimp only;rw[oDF (show ¬ (L.length:Int) < L.length by omega)];exact Ok.ret rfl
 rw[e1]
theorem rF{code:List DIn}{ss bs:List Int}{dt:List (List Int)}{key:Int}(hp:jS code ss dt) (hL:LV bs ss):cY code ss dt bs key=dq code ss dt bs key:=by
 have h4:=hp.sz.2.1;have hbl:=hL.2.1;have hdl:=hp.len
 have hdt:∀d∈dt,d.length<=1000:=λd hdm=>by
  obtain⟨j,hj⟩:=List.getElem?_of_mem hdm;obtain⟨z,hz⟩:∃z,ss[j]?=some z:=⟨_,oGE (by have:=(oGS hj).1;omega)⟩;have:=hp.fit j d z hj hz;have:=(hp.sz.2.2 z (bW hz)).2;omega
 have hbs:∀b∈bs,re b:=λb hb=>by
  obtain⟨r,hr⟩:=List.getElem?_of_mem hb;obtain⟨b',z,hgb,hgz,z1,z32,b0,bz⟩:=hL.at_ (r:=r) (by have:=(oGS hr).1;omega);rw[hr] at hgb
  injection hgb with hgb
  subst hgb;unfold re;omega
 obtain⟨_,_,_,_,_,_,e1,e2,_⟩:=vk (code:=code) (ss:=ss) (bs:=bs) (dt:=dt) (key:=key) (by have:=hp.clen.2;omega) (by omega) (by omega) hbs (by omega) hdt;rw[e1,e2]
theorem t4:fC=some (true,()):=by kernel_rfl
def pd:DTs:=(0,0,0,-1,-1,0,0,List.replicate 8 (0,0,0,0))
def AN:DTs:=(1,0,0,-1,-1,0,0,List.replicate 8 (0,0,0,0))
theorem pb{bs ss:List Int}{key:Int}:([ib,cu,cu,cu]:List DTh).map (oE bs ss key)=[AN,pd,pd,pd]:=rfl
theorem vE{ss:List Int}{dt:List (List Int)}(hs:wH ss):(Cw ss dt).length<=100/\∀x∈Cw ss dt,x.length<=1000/\∀c∈x,c.1≠1:=by
 have h4:=hs.2.1;unfold Cw;refine⟨by rw[List.length_map,List.length_range];omega,λx hx=>?_⟩;obtain⟨r,hr,rfl⟩:=List.mem_map.1 hx;have hr:=List.mem_range.1 hr;obtain⟨z,hz⟩:∃z,ss[r]?=some z:=⟨_,oGE hr⟩;have hz2:=hs.2.2 z (bW hz);refine⟨by rw[List.length_map,List.length_range,bU hz];omega,λc hc=>?_⟩;obtain⟨o,ho,rfl⟩:=List.mem_map.1 hc;intro h;exact absurd (show (0:Int)=1 from h) (by decide)
theorem starts_law{l:List Int}{a1:Int}(hl:∀x∈l,re x) (hm:l.length<=maxLen) (h1:re a1):eo l a1=some (true,()):=by
 refine fb ?_;unfold eo;refine (py (mp hl hm)).bind ?_;rintro _ ⟨code,ss,dt,k1,rfl,hp,hd⟩;dsimp only;refine (yg hp.sz hd).bind ?_;rintro _ ⟨bs,key,k2,rfl,hL,hkey,hd2⟩;dsimp only;rw[CX (b:=1048576) h1 (by decide) (by decide)];simp only[oBS]
 have hm0:0<=a1 % 1048576:=by omega
 refine (yb hp.sz hm0 (by omega)).bind ?_;rintro _ ⟨key2,rfl,hk2⟩;dsimp only;have hL2:=A6 hp.sz hm0;obtain⟨cs,e1,hM,hR⟩:=pj (key:=key) hp hL;obtain⟨cs2,e2,hM2,hR2⟩:=pj (key:=key2) hp hL2;rw[rF hp hL,rF hp hL2,e1,e2];simp only[oBS,bne_self_eq_false,oCF];rw[pe hp hM (by decide),pe hp hM2 (by decide)];simp only[oBS,oNT,oCF];rw[uf hM,uf hM2,hR,hR2,pb,pb];simp only[oBS];obtain⟨hs1,hs2⟩:=vE (dt:=dt) hp.sz
 have hv8:∀v∈([AN,pd,pd,pd]:List DTs),v.2.2.2.2.2.2.2.length<=1000/\∀c∈v.2.2.2.2.2.2.2,c.1≠1:=by decide
 rw[BI (by omega) (λx hx=>(hs2 x hx).1) (by decide) λv hv=>(hv8 v hv).1];simp only[oBS,oCT];rw[Bb hs1 (by decide) λx hx=>?_]
 ·simp only[oBS,Bool.not_false,oCT];rw[show i3 [ib,cu,cu,cu]=some ([0],()) by kernel_rfl,t4];exact Ok.ret rfl
 ·rcases List.mem_append.1 hx with hx | hx
  ·exact hs2 x hx
  ·obtain⟨v,hv,rfl⟩:=List.mem_map.1 hx;exact hv8 v hv
theorem law_ProgramStarts{h0:HL den [RI]}{h1:HL den [I64]}(g0:GoodL _ h0) (g1:GoodL _ h1):gh.g (appL _ _ h0 (appL _ _ h1 ()))=some (true,()):=
 starts_law (Ao g0.1).1 (Ao g0.1).2 (g64 g1.1)
theorem ue{α β:Type}(f:α->List β) {l:List α}{k:Nat}{x:α}(h:l[k]?=some x):(l.take (k+1)).flatMap f=(l.take k).flatMap f++f x:=by
 rw[List.take_add_one,h,List.flatMap_append];simp
theorem yI{α β:Type}(f:α->List β) {l:List α}{k:Nat}{x:α}(h:l[k]?=some x):(l.drop k).flatMap f=f x++(l.drop (k+1)).flatMap f:=by
 obtain⟨hk,rfl⟩:=oGS h;rw[List.drop_eq_getElem_cons hk,List.flatMap_cons]
theorem jo(x:Int):wk .u8 x=x % 256:=A9 x
def wB(x:Int):List Int:=[x / 256,x % 256]
def dB(d:List Int):List Int:=d.flatMap wB
theorem pG:∀d:List Int,(dB d).length=2*d.length:=by
 intro d
 induction d with
 | nil=>rfl
 | cons x d ih=>
  unfold dB at ih ⊢;rw[List.flatMap_cons,List.length_append,ih,oLC];show 2 + _=_;omega
theorem DC(x:Int):shR .shr .u16 x 8=x / 256:=by
 show x.fdiv (2 ^ (min 8 (IntKind.bits .u16)))=_;rw[show (2:Int) ^ (min 8 (IntKind.bits .u16))=256 from rfl];exact Int.fdiv_eq_ediv_of_nonneg _ (by decide)
theorem DB(x:Int):shR .shr .i64 x 8=x / 256:=by
 show x.fdiv (2 ^ (min 8 (IntKind.bits .i64)))=_;rw[show (2:Int) ^ (min 8 (IntKind.bits .i64))=256 from rfl];exact Int.fdiv_eq_ediv_of_nonneg _ (by decide)
theorem or8{n m:Nat}(h:m < 256):(n*256 ||| m)=n*256+m:=by
 have:=Nat.shiftLeft_add_eq_or_of_lt (i:=8) (b:=m) h n;rw[Nat.shiftLeft_eq] at this;exact this.symm
theorem DX{v x:Int}(h0:0<=v) (h1:v<=255) (x0:0<=x) (x1:x<=255):arR .or .u16 (shR .shl .u16 (wk .u16 v) 8) (wk .u16 x)=v*256+x:=by
 rw[cw h0 (by omega),cw x0 (by omega)]
 have e1:shR .shl .u16 v 8=v*256:=by
  show IntKind.wrap .u16 (v*2 ^ (min 8 (IntKind.bits .u16)))=_;rw[show (2:Int) ^ (min 8 (IntKind.bits .u16))=256 from rfl,m8];omega
 rw[e1];obtain⟨n,rfl⟩:∃n:Nat,v=n:=⟨v.toNat,by omega⟩;obtain⟨m,rfl⟩:∃m:Nat,x=m:=⟨x.toNat,by omega⟩;show IntKind.wrap .u16 ((BitVec.ofInt 16 ((n:Int)*256) ||| BitVec.ofInt 16 (m:Int)).toNat:Int)=_
 have e3:BitVec.ofInt 16 ((n:Int)*256)=BitVec.ofNat 16 (n*256):=by
  rw[show (n:Int)*256=((n*256:Nat):Int) by omega];exact BitVec.ofInt_natCast _ _
 have e4:BitVec.ofInt 16 (m:Int)=BitVec.ofNat 16 m:=BitVec.ofInt_natCast _ _;rw[e3,e4,BitVec.toNat_or,BitVec.toNat_ofNat,BitVec.toNat_ofNat,Nat.mod_eq_of_lt (by omega),Nat.mod_eq_of_lt (by omega),or8 (by omega),m8];omega
theorem DW{v x:Int}(h0:0<=v) (h1:v<=255) (x0:0<=x) (x1:x<=255):arR .or .i64 (shR .shl .i64 (wk .i64 v) 8) (wk .i64 x)=v*256+x:=by
 rw[cg (x:=v) (by omega) (by omega),cg (x:=x) (by omega) (by omega)]
 have e1:shR .shl .i64 v 8=v*256:=by
  show IntKind.wrap .i64 (v*2 ^ (min 8 (IntKind.bits .i64)))=_;rw[show (2:Int) ^ (min 8 (IntKind.bits .i64))=256 from rfl];exact pQ (by omega) (by omega)
 rw[e1];obtain⟨n,rfl⟩:∃n:Nat,v=n:=⟨v.toNat,by omega⟩;obtain⟨m,rfl⟩:∃m:Nat,x=m:=⟨x.toNat,by omega⟩;show IntKind.wrap .i64 ((BitVec.ofInt 64 ((n:Int)*256) ||| BitVec.ofInt 64 (m:Int)).toNat:Int)=_
 have e3:BitVec.ofInt 64 ((n:Int)*256)=BitVec.ofNat 64 (n*256):=by
  rw[show (n:Int)*256=((n*256:Nat):Int) by omega];exact BitVec.ofInt_natCast _ _
 have e4:BitVec.ofInt 64 (m:Int)=BitVec.ofNat 64 m:=BitVec.ofInt_natCast _ _;rw[e3,e4,BitVec.toNat_or,BitVec.toNat_ofNat,BitVec.toNat_ofNat,Nat.mod_eq_of_lt (by omega),Nat.mod_eq_of_lt (by omega),or8 (by omega),pQ (by omega) (by omega)];omega
theorem wL{d:List Int}(hd:∀x∈d,W16 x) (h:d.length<=1000):ie d=some (dB d,()):=by
 have e:bR ej NN (d,(d.length:Int),0,[],())=some (d,(d.length:Int),(d.length:Int),false,dB d,()):=by
  have:=ko (f:=ej) (N:=NN) (st:=λk=>(d,(d.length:Int),(k:Int),(d.take k).flatMap wB,())) (n:=d.length) (t:=(d,(d.length:Int),(d.length:Int),false,dB d,())) (by unfold NN;omega) ?_ ?_
  ·exact this
  ·intro k hk;obtain⟨x,hx⟩:∃x,d[k]?=some x:=⟨_,oGE hk⟩;obtain⟨x0,x1⟩:=hd x (bW hx);have hl:=pG (d.take k);unfold dB at hl;rw[oLT] at hl;unfold ej;dsimp only;rw[oDT (show (k:Int) < d.length by omega),bT];simp only[oCT,oBS,show bY d k=some x from hx];rw[DC,jo,jo,show x / 256 % 256=x / 256 by omega];refine bO (cn ⟨by omega,by rw[hl];show 2*min k d.length+2<=1000000;omega⟩) ?_;rw[bP (x:=(k:Int)+1) (by omega) (by omega)];refine Ok.ret ?_;rw[ue wB hx];rfl
  ·unfold ej;dsimp only;rw[oDF (show ¬ (d.length:Int) < d.length by omega),List.take_length];exact Ok.ret rfl
 unfold ie;delta bN;dsimp only;rw[e];rfl
theorem DK{d:List Int}{k:Nat}{x:Int}(h:d[k]?=some x):(dB d)[2*k]?=some (x / 256)/\(dB d)[2*k+1]?=some (x % 256):=by
 have hk:=(oGS h).1
 have e:dB d=(d.take k).flatMap wB++(wB x++(d.drop (k+1)).flatMap wB):=by
  rw[<- yI wB h,<- List.flatMap_append,List.take_append_drop];rfl
 have hl:((d.take k).flatMap wB).length=2*k:=by
  have:=pG (d.take k);unfold dB at this;rw[this,oLT];omega
 rw[e];refine⟨?_,?_⟩
 ·rw[List.getElem?_append_right (by omega),hl,Nat.sub_self];rfl
 ·rw[List.getElem?_append_right (by omega),hl,show 2*k+1 - 2*k=1 by omega];rfl
theorem wJ{d:List Int}(hd:∀x∈d,W16 x) (h:d.length<=1000):ic (dB d)=some (d,0,()):=by
 have hl:=pG d
 have e:bR ef NN (dB d,0,[],())=some (dB d,((2*d.length:Nat):Int),false,d,()):=by
  have:=ko (f:=ef) (N:=NN) (st:=λk=>(dB d,((2*k:Nat):Int),d.take k,())) (n:=d.length) (t:=(dB d,((2*d.length:Nat):Int),false,d,())) (by unfold NN;omega) ?_ ?_
  ·exact this
  ·intro k hk;obtain⟨x,hx⟩:∃x,d[k]?=some x:=⟨_,oGE hk⟩;obtain⟨x0,x1⟩:=hd x (bW hx);obtain⟨h1,h2⟩:=DK hx;unfold ef;delta bN;dsimp only;rw[oDT (show ((2*k:Nat):Int) < (dB d).length by omega),bT];simp only[oCT,oBS,show bY (dB d) (2*k)=some _ from h1];rw[bP (x:=((2*k:Nat):Int)+1) (by omega) (by omega),show ((2*k:Nat):Int)+1=((2*k+1:Nat):Int) by omega,bT];simp only[oBS,show bY (dB d) (2*k+1)=some _ from h2];rw[DX (by omega) (by omega) (by omega) (by omega),show x / 256*256+x % 256=x by omega];refine bO (cn ⟨by omega,by rw[oLT];show min k d.length+1<=1000000;omega⟩) ?_;rw[bP (x:=((2*k:Nat):Int)+2) (by omega) (by omega),show ((2*k:Nat):Int)+2=((2*(k+1):Nat):Int) by omega];refine Ok.ret ?_;rw[show d.take (k+1)=List.append (d.take k) [x] by rw[List.take_add_one,hx];rfl]
  ·unfold ef;delta bN;dsimp only;rw[oDF (show ¬ ((2*d.length:Nat):Int) < (dB d).length by omega),List.take_length];exact Ok.ret rfl
 unfold ic;delta bN;dsimp only;rw[hl,show (Int.tmod ((2*d.length:Nat):Int) 2 != 0)=false from bne_eq_false_iff_eq.2 (by rw[show ((2*d.length:Nat):Int)=2*(d.length:Int) by omega];exact Int.mul_tmod_right 2 _)];rw[show ((2*d.length:Nat):Int)=((dB d).length:Int) by omega] at e;rw[e];rfl
def iB(x:DIn):List Int:=[x.1,x.2.1,x.2.2.1,x.2.2.2.1,x.2.2.2.2 / 256,x.2.2.2.2 % 256]
structure CE (x:DIn):Prop where
 o:0<=x.1/\x.1<=24
 a:0<=x.2.1/\x.2.1 < 8
 b:0<=x.2.2.1/\x.2.2.1 < 8
 c:0<=x.2.2.2.1/\x.2.2.2.1 < 8
 i:0<=x.2.2.2.2/\x.2.2.2.2<=65535
 v:dC x.1 x.2.1 x.2.2.1 x.2.2.2.1 x.2.2.2.2=some (true,())
theorem B9{n m:Int}{x:DIn}(h:d9 n m x) (hn:n<=4) (hm:m<=64):CE x:=by
 obtain⟨o,a,b,c,i⟩:=x;have hv:=r7 h hn hm;rw[<- C3] at hv;exact⟨h.op,⟨h.a.1,h.a.2.1⟩,⟨h.b.1,h.b.2.1⟩,⟨h.c.1,h.c.2.1⟩,⟨h.imm.1,h.imm.2.1⟩,hv⟩
theorem wc{x:DIn}(h:CE x):fY x.1 x.2.1 x.2.2.1 x.2.2.2.1 x.2.2.2.2=some (iB x,0,()):=by
 obtain⟨o,a,b,c,i⟩:=x;obtain⟨h1,h2,h3,h4,h5,h6⟩:=h;dsimp only at h1 h2 h3 h4 h5 h6 ⊢;unfold fY;rw[h6];simp only[oBS,oNT,oCF];rw[DB,jo,jo,jo,jo,jo,jo];unfold iB;rw[show o % 256=o by omega,show a % 256=a by omega,show b % 256=b by omega,show c % 256=c by omega,show i / 256 % 256=i / 256 by omega]
theorem wd{x:DIn}(h:CE x):fZ (iB x)=some (x.1,x.2.1,x.2.2.1,x.2.2.2.1,x.2.2.2.2,0,()):=by
 obtain⟨o,a,b,c,i⟩:=x;obtain⟨h1,h2,h3,h4,h5,h6⟩:=h;dsimp only at h1 h2 h3 h4 h5 h6 ⊢;unfold fZ iB;delta bN;dsimp only[bY,List.length,List.getElem?_cons_zero,List.getElem?_cons_succ];rw[show decide ((((0+1+1+1+1+1+1:Nat)):Int) < 6)=false from rfl,show decide ((((0+1+1+1+1+1+1:Nat)):Int) > 6)=false from rfl];simp only[oCF,oBS];rw[DW (by omega) (by omega) (by omega) (by omega),show i / 256*256+i % 256=i by omega,cg (x:=o) (by omega) (by omega),cg (x:=a) (by omega) (by omega),cg (x:=b) (by omega) (by omega),cg (x:=c) (by omega) (by omega),h6];rfl
def rB(x:Int×List Int):List Int:=[x.1,(x.2.length:Int)]++dB x.2
structure AG (ps:List (Int×List Int)):Prop where
 len:ps.length<=4
 sz:∀x∈ps,1<=x.1/\x.1<=32
 dl:∀x∈ps,(x.2.length:Int)<=32
 num:∀x∈ps,∀w∈x.2,W16 w
theorem AV{ps:List (Int×List Int)}(h:AG ps):∀k,((ps.take k).flatMap rB).length<=66*k:=by
 intro k
 induction k with
 | zero=>simp
 | succ k ih=>
  by_cases hk:k < ps.length
  ·obtain⟨x,hx⟩:∃x,ps[k]?=some x:=⟨_,oGE hk⟩;have:=h.dl x (bW hx);rw[ue rB hx,List.length_append]
   have:(rB x).length=2+2*x.2.length:=by unfold rB;rw[List.length_append,pG];rfl
   omega
  ·rw[List.take_of_length_le (by omega)] at ih ⊢;omega
theorem C4:∀l:List DIn,(l.flatMap iB).length=6*l.length:=by
 intro l
 induction l with
 | nil=>rfl
 | cons x l ih=>
  rw[List.flatMap_cons,List.length_append,ih,oLC];show 6 + _=_;omega
def DH(ps:List (Int×List Int)) (code:List DIn):List Int:=[(ps.length:Int)]++ps.flatMap rB++[(code.length:Int)]++code.flatMap iB
theorem yF{ps:List (Int×List Int)}{code:List DIn}(h:AG ps) (hc:code.length<=64) (hi:∀x∈code,CE x) (hk:cD code (ps.map (·.1)) (ps.map (·.2))=some (0,())) :
 d6 code (ps.map (·.1)) (ps.map (·.2))=some (DH ps code,0,()):=by
 have h4:=h.len;unfold d6;rw[hk];delta bN;simp only[oBS,bne_self_eq_false,oCF];obtain⟨ss,hss⟩:∃ss,ss=ps.map (·.1):=⟨_,rfl⟩;obtain⟨dt,hdt⟩:∃dt,dt=ps.map (·.2):=⟨_,rfl⟩;rw[<- hss,<- hdt]
 have hsl:ss.length=ps.length:=by rw[hss,List.length_map]
 rw[hsl,jo,show (ps.length:Int) % 256=ps.length by omega]
 have e1:bR c7 NN (ss,(ps.length:Int),0,code,ss,dt,[(ps.length:Int)],())=some (ss,(ps.length:Int),(ps.length:Int),false,code,ss,dt,[(ps.length:Int)]++ps.flatMap rB,()):=by
  have:=ko (f:=c7) (N:=NN) (st:=λk=>(ss,(ps.length:Int),(k:Int),code,ss,dt,[(ps.length:Int)]++(ps.take k).flatMap rB,())) (n:=ps.length) (t:=(ss,(ps.length:Int),(ps.length:Int),false,code,ss,dt,[(ps.length:Int)]++ps.flatMap rB,())) (by unfold NN;omega) ?_ ?_
  ·exact this
  ·intro k hk';obtain⟨⟨z,d⟩,hx⟩:∃x,ps[k]?=some x:=⟨_,oGE hk'⟩;have hz:=h.sz _ (bW hx);have hd:=h.dl _ (bW hx);have hn:=h.num _ (bW hx);dsimp only at hz hd hn
   have hgs:bY ss k=some z:=by unfold bY;rw[hss,List.getElem?_map,hx];rfl
   have hgd:bY dt k=some d:=by unfold bY;rw[hdt,List.getElem?_map,hx];rfl
   have hbl:=AV h k;unfold c7;delta bN;dsimp only;rw[oDT (show (k:Int) < ps.length by omega),bT];simp only[oCT,oBS,hgs,hgd];rw[jo,jo,show z % 256=z by omega,show (d.length:Int) % 256=d.length by omega];refine bO (cn ⟨by omega,by rw[List.length_append];show 1 + _+2<=1000000;omega⟩) ?_;rw[wL hn (by omega)];simp only[oBS];refine bO (cn ⟨by omega,by rw[pG];show ((([(ps.length:Int)]++(ps.take k).flatMap rB)++[z,(d.length:Int)]).length+2*d.length)<=1000000;rw[List.length_append,List.length_append];show 1 + _+2 + _<=1000000;omega⟩) ?_;rw[bP (x:=(k:Int)+1) (by omega) (by omega)];refine Ok.ret ?_;rw[ue rB hx];show Sum.inl (ss,(ps.length:Int),(k:Int)+1,code,ss,dt,(([(ps.length:Int)]++(ps.take k).flatMap rB)++[z,(d.length:Int)])++dB d,())=_;rw[List.append_assoc,List.append_assoc];rfl
  ·unfold c7;dsimp only;rw[oDF (show ¬ (ps.length:Int) < ps.length by omega),List.take_length];exact Ok.ret rfl
 rw[e1];have hpl:=AV h ps.length;rw[List.take_length] at hpl;simp only[oBS];rw[jo,show (code.length:Int) % 256=code.length by omega]
 have hb1:([(ps.length:Int)]++ps.flatMap rB).length<=1000:=by rw[List.length_append];show 1 + _<=1000;omega
 rw[cn (b:=1) (n:=([(ps.length:Int)]++ps.flatMap rB).length) (m:=([(code.length:Int)]:List Int).length) ⟨by omega,by show _+1<=1000000;omega⟩];simp only[oCT];obtain⟨B,hB⟩:∃B,B=List.append ([(ps.length:Int)]++ps.flatMap rB) [(code.length:Int)]:=⟨_,rfl⟩
 have hBl:B.length<=1001:=by
  rw[hB];show (([(ps.length:Int)]++ps.flatMap rB)++[(code.length:Int)]).length<=1001;rw[List.length_append];show _+1<=1001;omega
 rw[<- hB]
 have e2:bR cZ NN (code,(code.length:Int),0,code,ss,dt,B,())=some (code,(code.length:Int),(code.length:Int),false,code,ss,dt,B++code.flatMap iB,()):=by
  have:=ko (f:=cZ) (N:=NN) (st:=λk=>(code,(code.length:Int),(k:Int),code,ss,dt,B++(code.take k).flatMap iB,())) (n:=code.length) (t:=(code,(code.length:Int),(code.length:Int),false,code,ss,dt,B++code.flatMap iB,())) (by unfold NN;omega) ?_ ?_
  ·rw[List.take_zero,List.flatMap_nil,List.append_nil] at this;exact this
  ·intro k hk';obtain⟨x,hx⟩:∃x,code[k]?=some x:=⟨_,oGE hk'⟩;unfold cZ;dsimp only;rw[oDT (show (k:Int) < code.length by omega),bT];simp only[oCT,oBS,show bY code k=some x from hx];rw[wc (hi x (bW hx))];simp only[oBS];refine bO (cn ⟨by omega,by rw[List.length_append,C4,oLT];show _+6<=1000000;omega⟩) ?_;rw[bP (x:=(k:Int)+1) (by omega) (by omega)];refine Ok.ret ?_;rw[ue iB hx,<- List.append_assoc];rfl
  ·unfold cZ;dsimp only;rw[oDF (show ¬ (code.length:Int) < code.length by omega),List.take_length];exact Ok.ret rfl
 rw[e2,hB];rfl
theorem pY{x y:List Int}:b9 (x.length:Int) (x++y) false=some (x,y,false,()):=by
 have hl:(x++y).length=x.length+y.length:=List.length_append;unfold b9;delta bN;simp only[oCF];rw[oDF (show ¬ (x.length:Int) > (x++y).length by omega),bT];simp only[oCF,oBS];rw[show hJ 0 x.length (x++y).length=true by unfold hJ;simp,show hJ x.length (x++y).length (x++y).length=true by unfold hJ;simp];simp only[oCT]
 have e1:lN (x++y) 0 (Nat.sub x.length 0)=x:=by
  unfold lN;rw[List.drop_zero];exact List.take_left
 have e2:lN (x++y) x.length (Nat.sub (x++y).length x.length)=y:=by
  unfold lN;rw[List.drop_left];exact List.take_of_length_le (by show y.length<=(x++y).length - x.length;omega)
 rw[e1,e2]
theorem uF{v:Int}{y:List Int}(h:0<=v/\v<=255):cc (v :: y) false=some (v,y,false,()):=by
 unfold cc;have:=pY (x:=[v]) (y:=y);rw[show b9 1 (v :: y) false=_ from this];simp only[oBS,show bY [v] 0=some v from rfl];rw[cg (by omega) (by omega)]
theorem yJ{ps:List (Int×List Int)}{code:List DIn}(h:AG ps) (hc:code.length<=64) (hi:∀x∈code,CE x) (hk:cD code (ps.map (·.1)) (ps.map (·.2))=some (0,())) :
 eR (DH ps code)=some (code,ps.map (·.1),ps.map (·.2),0,()):=by
 have h4:=h.len;unfold eR DH;rw[show [(ps.length:Int)]++ps.flatMap rB++[(code.length:Int)]++code.flatMap iB=(ps.length:Int) :: (ps.flatMap rB++((code.length:Int) :: code.flatMap iB)) by simp];rw[uF ⟨by omega,by omega⟩];simp only[oBS];obtain⟨Z,hZ⟩:∃Z,Z=(code.length:Int) :: code.flatMap iB:=⟨_,rfl⟩;rw[<- hZ]
 have e1:bR c9 NN ((ps.length:Int),(),(),(),(),[],[],ps.flatMap rB++Z,false,())=some (0,false,(),(),(),(),ps.map (·.1),ps.map (·.2),Z,false,()):=by
  have:=ko (f:=c9) (N:=NN) (st:=λk=>((ps.length:Int) - k,(),(),(),(),(ps.take k).map (·.1),(ps.take k).map (·.2),(ps.drop k).flatMap rB++Z,false,())) (n:=ps.length) (t:=(0,false,(),(),(),(),ps.map (·.1),ps.map (·.2),Z,false,())) (by unfold NN;omega) ?_ ?_
  ·rw[show (ps.length:Int) - ((0:Nat):Int)=ps.length by omega] at this;exact this
  ·intro k hk';obtain⟨⟨z,d⟩,hx⟩:∃x,ps[k]?=some x:=⟨_,oGE hk'⟩;have hz:=h.sz _ (bW hx);have hd:=h.dl _ (bW hx);have hn:=h.num _ (bW hx);dsimp only at hz hd hn;unfold c9;dsimp only;rw[oDT (show (ps.length:Int) - k > 0 by omega),yI rB hx];rw[show rB (z,d)++(ps.drop (k+1)).flatMap rB++Z=z :: ((d.length:Int) :: (dB d++((ps.drop (k+1)).flatMap rB++Z))) by unfold rB;simp];rw[uF ⟨by omega,by omega⟩];simp only[oCT,oBS];refine bO (cn ⟨by omega,by rw[List.length_map,oLT];show _+1<=1000000;omega⟩) ?_;rw[uF ⟨by omega,by omega⟩];simp only[oBS];rw[bP (x:=2*(d.length:Int)) (by omega) (by omega),show 2*(d.length:Int)=((dB d).length:Int) by rw[pG];omega,pY];simp only[oBS];rw[wJ hn (by omega)];simp only[oBS];refine bO (cn ⟨by omega,by rw[List.length_map,oLT];show _+1<=1000000;omega⟩) ?_;rw[bP (x:=(ps.length:Int) - k - 1) (by omega) (by omega),show (ps.length:Int) - k - 1=(ps.length:Int) - ((k+1:Nat):Int) by omega];refine Ok.ret ?_;rw[<- dX (λx:Int×List Int=>x.1) hx,<- dX (λx:Int×List Int=>x.2) hx];rfl
  ·unfold c9;dsimp only;rw[oDF (show ¬ (ps.length:Int) - ps.length > 0 by omega),List.take_length,List.drop_length,show (ps.length:Int) - ps.length=0 by omega];exact Ok.ret rfl
 rw[e1];simp only[oBS];rw[hZ,uF ⟨by omega,by omega⟩];simp only[oBS];obtain⟨ss,hss⟩:∃ss,ss=ps.map (·.1):=⟨_,rfl⟩;obtain⟨dt,hdt⟩:∃dt,dt=ps.map (·.2):=⟨_,rfl⟩;rw[<- hss,<- hdt] at hk ⊢
 have e2:bR c8 NN (false,(code.length:Int),(),(),(),[],ss,dt,code.flatMap iB,false,())=some (false,0,false,(),(),(),code,ss,dt,[],false,()):=by
  have:=ko (f:=c8) (N:=NN) (st:=λk=>(false,(code.length:Int) - k,(),(),(),code.take k,ss,dt,(code.drop k).flatMap iB,false,())) (n:=code.length) (t:=(false,0,false,(),(),(),code,ss,dt,[],false,())) (by unfold NN;omega) ?_ ?_
  ·rw[show (code.length:Int) - ((0:Nat):Int)=code.length by omega] at this;exact this
  ·intro k hk';obtain⟨x,hx⟩:∃x,code[k]?=some x:=⟨_,oGE hk'⟩;have hix:=hi x (bW hx);unfold c8;dsimp only;rw[oDT (show (code.length:Int) - k > 0 by omega),yI iB hx];have hpt:=pY (x:=iB x) (y:=(code.drop (k+1)).flatMap iB);rw[show b9 6 (iB x++(code.drop (k+1)).flatMap iB) false=_ from hpt];simp only[oCT,oBS];rw[wd hix];simp only[oBS,oCF];refine bO (cn ⟨by omega,by rw[oLT];show _+1<=1000000;omega⟩) ?_;rw[bP (x:=(code.length:Int) - k - 1) (by omega) (by omega),show (code.length:Int) - k - 1=(code.length:Int) - ((k+1:Nat):Int) by omega];refine Ok.ret ?_;rw[show code.take (k+1)=List.append (code.take k) [x] by rw[List.take_add_one,hx];rfl];rfl
  ·unfold c8;dsimp only;rw[oDF (show ¬ (code.length:Int) - code.length > 0 by omega),List.take_length,List.drop_length,show (code.length:Int) - code.length=0 by omega];exact Ok.ret rfl
 rw[e2];delta bN;simp only[oBS,oCF];rw[show decide (((([]:List Int).length:Nat):Int) > 0)=false from rfl,hk];rfl
theorem vz{code:List DIn}{ss:List Int}{dt:List (List Int)}(hc:code.length<=1000) (hs:ss.length<=1000) (hd:dt.length<=1000) (hdd:∀d∈dt,d.length<=1000):ij code ss dt code ss dt=some (true,()):=by
 have e1:bR fu NN ((code.length:Int),0,code,ss,dt,code,ss,dt,())=some (.inr ((code.length:Int),(code.length:Int),false,code,ss,dt,code,ss,dt,())):=by
  refine ko (st:=λk=>((code.length:Int),(k:Int),code,ss,dt,code,ss,dt,())) (n:=code.length) (by unfold NN;omega) ?_ ?_
  ·intro k hk;unfold fu;dsimp only;rw[oDT (show (k:Int) < code.length by omega),bT];simp only[oCT,oBS,show bY code k=some code[k] from oGE hk,BEq.rfl,Bool.and_self,oNT,oCF];rw[bP (x:=(k:Int)+1) (by omega) (by omega)];exact Ok.ret rfl
  ·unfold fu;dsimp only;rw[oDF (show ¬ (code.length:Int) < code.length by omega)];exact Ok.ret rfl
 have e2:bR ft NN ((ss.length:Int),0,code,ss,dt,code,ss,dt,())=some (.inr ((ss.length:Int),(ss.length:Int),false,code,ss,dt,code,ss,dt,())):=by
  refine ko (st:=λk=>((ss.length:Int),(k:Int),code,ss,dt,code,ss,dt,())) (n:=ss.length) (by unfold NN;omega) ?_ ?_
  ·intro k hk;unfold ft;dsimp only;rw[oDT (show (k:Int) < ss.length by omega),bT];simp only[oCT,oBS,show bY ss k=some ss[k] from oGE hk,bne_self_eq_false,oCF];rw[bP (x:=(k:Int)+1) (by omega) (by omega)];exact Ok.ret rfl
  ·unfold ft;dsimp only;rw[oDF (show ¬ (ss.length:Int) < ss.length by omega)];exact Ok.ret rfl
 have e4:bR fq NN ((dt.length:Int),0,code,ss,dt,code,ss,dt,())=some (.inr ((dt.length:Int),(dt.length:Int),false,code,ss,dt,code,ss,dt,())):=by
  refine ko (st:=λk=>((dt.length:Int),(k:Int),code,ss,dt,code,ss,dt,())) (n:=dt.length) (by unfold NN;omega) ?_ ?_
  ·intro k hk;obtain⟨d,hx⟩:∃d,dt[k]?=some d:=⟨_,oGE hk⟩;have hdl:=hdd d (bW hx);unfold fq;delta bN;dsimp only;rw[oDT (show (k:Int) < dt.length by omega),bT];simp only[oCT,oBS,show bY dt k=some d from hx,bne_self_eq_false,oCF]
   have e3:bR fr NN ((k:Int),(dt.length:Int),(k:Int),(d.length:Int),0,code,ss,dt,code,ss,dt,())=some (.inr ((k:Int),(dt.length:Int),(k:Int),(d.length:Int),(d.length:Int),false,code,ss,dt,code,ss,dt,())):=by
    refine ko (st:=λj=>((k:Int),(dt.length:Int),(k:Int),(d.length:Int),(j:Int),code,ss,dt,code,ss,dt,())) (n:=d.length) (by unfold NN;omega) ?_ ?_
    ·intro j hj;unfold fr;dsimp only;rw[oDT (show (j:Int) < d.length by omega),bT,bT];simp only[oCT,oBS,show bY dt k=some d from hx,show bY d j=some d[j] from oGE hj,bne_self_eq_false,oCF];rw[bP (x:=(j:Int)+1) (by omega) (by omega)];exact Ok.ret rfl
    ·unfold fr;dsimp only;rw[oDF (show ¬ (d.length:Int) < d.length by omega)];exact Ok.ret rfl
   rw[e3];dsimp only;rw[bP (x:=(k:Int)+1) (by omega) (by omega)];exact Ok.ret rfl
  ·unfold fq;dsimp only;rw[oDF (show ¬ (dt.length:Int) < dt.length by omega)];exact Ok.ret rfl
 unfold ij;delta bN;simp only[bne_self_eq_false,oCF,oBS];rw[e1];dsimp only;rw[e2];dsimp only;rw[e4]
theorem yV:fC=some (true,()):=by kernel_rfl
theorem back08_law{l:List Int}(hl:∀x∈l,re x) (hm:l.length<=maxLen):eS l=some (true,()):=by
 refine fb ?_;unfold eS;refine (py (mp hl hm)).bind ?_;rintro _ ⟨code,ss,dt,k1,rfl,hp,hd⟩;dsimp only;have hs4:=hp.sz.2.1;have hdl:=hp.len;have hcl:=hp.clen
 have hdt:∀d∈dt,d.length<=32:=λd hdm=>by
  obtain⟨j,hj⟩:=List.getElem?_of_mem hdm;obtain⟨z,hz⟩:∃z,ss[j]?=some z:=⟨_,oGE (by have:=(oGS hj).1;omega)⟩;have:=hp.fit j d z hj hz;have:=(hp.sz.2.2 z (bW hz)).2;omega
 obtain⟨ps,hps⟩:∃ps,ps=ss.zip dt:=⟨_,rfl⟩
 have h1:ps.map (·.1)=ss:=by rw[hps];exact List.map_fst_zip (by omega)
 have h2:ps.map (·.2)=dt:=by rw[hps];exact List.map_snd_zip (by omega)
 have hR:AG ps:=by
  refine⟨?_,λx hx=>?_,λx hx=>?_,λx hx=>?_⟩
  ·rw[<- List.length_map (f:=λx:Int×List Int=>x.1),h1];omega
  ·exact hp.sz.2.2 x.1 (by rw[<- h1];exact List.mem_map_of_mem hx)
  ·have:=hdt x.2 (by rw[<- h2];exact List.mem_map_of_mem hx);omega
  ·exact hp.num x.2 (by rw[<- h2];exact List.mem_map_of_mem hx)
 have hI:∀x∈code,CE x:=λx hx=>B9 (hp.ins x hx) (by omega) (by omega)
 have hK:cD code ss dt=some (0,()):=by
  obtain⟨e,e1,e2,_⟩:=pJ (code:=code) (ss:=ss) (dt:=dt) (by omega) (by omega) (by omega);rw[nq hp] at e2
  injection e2 with e2
  injection e2 with e2
  unfold cD;rw[e1,<- e2];rfl
 have hE:=yF hR hcl.2 hI (by rw[h1,h2];exact hK);have hD:=yJ hR hcl.2 hI (by rw[h1,h2];exact hK);rw[h1,h2] at hE hD;rw[hE];simp only[oBS];rw[hD];simp only[oBS,BEq.rfl,oCT];rw[vz (by omega) (by omega) (by omega) λd hd=>Nat.le_trans (hdt d hd) (by omega),hK,yV];exact Ok.ret rfl
theorem law_ProgramBack{h0:HL den [RI]}(g0:GoodL _ h0):g6.g (appL _ _ h0 ())=some (true,()):=
 back08_law (Ao g0.1).1 (Ao g0.1).2
end Go.Proofs.Ytgphpfjngblbiaa
namespace Go.Proofs.Ytgphpfjngblbiaa
end Go.Proofs.Ytgphpfjngblbiaa
