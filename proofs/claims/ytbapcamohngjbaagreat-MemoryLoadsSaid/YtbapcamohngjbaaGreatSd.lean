/- Part of the proof; no condition. -/
import Derived.Test.YtbapcamohngjbaaGreatSc
import Derived.Test.YtbapcamohngjbaaGreatProg
import Derived.KernelRfl
set_option linter.unusedVariables false
set_option linter.unusedSimpArgs false
namespace Go.Proofs.YtbapcamohngjbaaGreat
open Go.RowKit
section
variable {α β γ δ Y:Type}
theorem za(np:Nat) (t:XV den):Sim (Y:=Y) (X.takeR1 dJ np t) (takeR1 np (er t)) er:=by
 have key:Sim (Y:=Y) (X.take1 dJ true t) (take1 true (er t)) er:=ig true t
 cases t with
 | pk p vs=>exact ig _ (.pk p vs)
 | d t y=>cases t with
  | row o t=>cases o<;>exact key
  | nilr o=>cases o<;>exact key
  | _=>exact key
 | _=>exact key
theorem Gr(np:Nat):∀l:List (XV den),Sim (Y:=Y) (X.takeRL dJ np l) (takeRL np (erL l)) erL:=by
 intro l
 induction l with
 | nil=>exact .ret rfl
 | cons t l ih=>exact (za np t).bind λt'=>ih.bind λr'=>.ret rfl
theorem tO(np:Nat) (t:XV den):Sim (Y:=Y) (X.takeRV dJ np t) (takeRV np (er t)) λx=>(erL x.1,x.2):=by
 have one:∀t:XV den,Sim (Y:=Y) (X.bind (X.takeR1 dJ np t) λt'=>X.ret ([t'],RSh.one)) ((takeR1 np (er t)).bind λt'=>.ret ([t'],.one)) λx=>(erL x.1,x.2):=λt=>(za np t).bind λt'=>.ret rfl;have key:=one t
 cases t with
 | agg l=>exact (Gr np l).bind λl'=>.ret (by simp only[f9])
 | d t y=>cases t with
  | row o t=>cases o<;>exact key
  | nilr o=>cases o<;>exact key
  | _=>exact key
 | _=>exact key
theorem Ky(np:Nat) (q:TRs):Sim (Y:=Y) (X.res1 dJ np q) (res1 np q) λx=>(erL x.1,x.2):=by
 cases q with
 | tmp t=>exact Sim.rdT λtv=>tO np tv
 | cell t n=>
  refine Sim.rdT λtv=>?_
  cases tv with
  | ptr p vs=>
   refine (gg p _ vs).bind λ_=>?_
   cases n with
   | none=>exact (ki p).bind λt=>(kg p t).bind λt'=>tO np t'
   | some n=>exact (BX p n).bind λl=>tO np (.agg l)
  | d t y=>cases t with
   | row o t=>cases o<;>exact .fail
   | nilr o=>cases o<;>exact .fail
   | _=>exact .fail
  | _=>exact .fail
theorem Kw(np:Nat):∀l:List TRs,Sim (Y:=Y) (X.resL dJ np l) (resL np l) λx=>(erL x.1,x.2):=by
 intro l
 induction l with
 | nil=>exact .ret rfl
 | cons q l ih=>exact (Ky np q).bind λx=>ih.bind λy=>.ret (by simp only[qO])
theorem Ja(l:List (XV den)):onesOf (erL l)=X.onesOf l:=by
 induction l with
 | nil=>rfl
 | cons t l ih=>simp only[erL,onesOf,X.onesOf,ih]
theorem Gu:∀l:List TRs,Sim (Y:=Y) (X.flatsR dJ l) (flatsR l) erL:=by
 intro l
 induction l with
 | nil=>exact .ret rfl
 | cons q l ih=>cases q with
  | cell t n=>exact .fail
  | tmp t=>
   refine Sim.rdT λtv=>Sim.ite (λhc=>?_) λ_=>.fail
   have h1:DT (er tv)=true:=by
    have:=FR (l:=[tv]) (by simpa using hc);simpa [erL] using this
   rw[oIP h1];exact ih.bind λl=>.ret rfl
theorem Kx(np:Nat) (l:List TRs):Sim (Y:=Y) (X.resF dJ np l) (resF np l) λx=>(erL x.1,x.2):=by
 have base:=Kw (Y:=Y) np l
 cases l with
 | nil=>exact base
 | cons q r=>cases q with
  | cell t n=>exact base
  | tmp t=>
   refine Sim.rdT λtv=>?_;have base:Sim (Y:=Y) (X.resL dJ np (.tmp t :: r)) (resL np (.tmp t :: r)) λx=>(erL x.1,x.2):=base
   cases tv with
   | ptr p vs=>exact (gg p _ vs).bind λ_=>(Gu r).bind λl=>.ret (by simp only[Ja];rfl)
   | d ty y=>cases ty with
    | row o ty=>cases o<;>exact base
    | nilr o=>cases o<;>exact base
    | _=>exact base
   | _=>exact base
theorem Jv(t:XV den):(∃p vs,t=.ptr p vs)\/(X.isPtrX t=false/\∀p vs,er t≠.ptr p vs):=by
 cases t with
 | ptr p vs=>exact .inl ⟨p,vs,rfl⟩
 | d t y=>cases t with
  | row o t=>cases o<;>exact .inr ⟨rfl,by simp[er,er1]⟩
  | nilr o=>cases o<;>exact .inr ⟨rfl,by simp[er,er1]⟩
  | _=>exact .inr ⟨rfl,by simp[er,er1]⟩
 | gap t x i o=>exact .inr ⟨rfl,λp vs h=>by cases h⟩
 | _=>exact .inr ⟨rfl,by simp[er]⟩
theorem Le{t:XV den}(h:X.isShX t=true):∃c,er t=.sl c:=by
 cases t with
 | d t y=>cases t with
  | row o t=>cases o with
   | false=>exact⟨_,rfl⟩
   | true=>cases h
  | nilr o=>cases o with
   | false=>exact⟨_,rfl⟩
   | true=>cases h
  | _=>cases h
 | _=>cases h
theorem GJ{pp:List Nat}:∀{l:List (XV den)}{i:Nat},X.ptrsInX pp i l=true->nA pp i (erL l)=true:=by
 intro l
 induction l with
 | nil=>intro i _;rfl
 | cons t l ih=>
  intro i h;simp only[X.ptrsInX,oBA] at h;obtain⟨⟨h0,hs⟩,hr⟩:=h;rcases Jv t with ⟨p,vs,rfl⟩ | ⟨h1,h2⟩
  ·show (pp.contains i && nA pp (i+1) (erL l))=true;rw[ih hr,Bool.and_true];simpa [X.isPtrX] using h0
  ·show nA pp i (er t :: erL l)=true;rw[h1,Bool.false_or] at hs
   cases hsh:X.isShX t with
   | true=>
    obtain⟨c,hc⟩:=Le hsh;rw[hc];exact ih hr
   | false=>
    rw[hsh,Bool.false_or] at hs
    cases he:er t with
    | ptr p vs=>exact absurd he (h2 p vs)
    | sl c=>exact ih hr
    | _=>show (!pp.contains (1000+i) && nA pp (i+1) (erL l))=true;rw[hs,ih hr];rfl
theorem Ec(l:List (XV den)):∀i,(gr i l).map (λx=>(x.1,er x.2))=gr i (erL l):=by
 induction l with
 | nil=>intro i;rfl
 | cons t l ih=>intro i;simp only[gr,List.map_cons,erL,ih]
theorem M3(vals:List (XV den)) (pts:List (Nat×List (XV den))):erS (X.mkSt vals pts)=mkSt (erL vals) (erC pts):=by
 unfold X.mkSt mkSt erS;simp only[Ec]
theorem KW(σ:XS den) (pts:List (Nat×List (XV den))):erC (X.ptsOf σ pts)=(erC pts).map λx=>(x.1,(eG (erS σ).ce x.1).getD []):=by
 induction pts with
 | nil=>rfl
 | cons x pts ih=>
  show (x.1,erL ((eG σ.ce x.1).getD [])) :: erC (X.ptsOf σ pts)=(x.1,(eG (erS σ).ce x.1).getD []) :: _;rw[ih,zu];cases eG σ.ce x.1<;>rfl
theorem MN{F:fJ}{C:X.Cfg}(hTB:∀c∈C.TB,uh F c) (u:HL den []) {N:Nat}(hN:NN<=N) {tf:TFn}{outs:List XO}{vals:List (XV den)}{pts:List (Nat×List (XV den))}{o:zJ (outs.map lvO)}(h:X.runT dJ C u tf outs vals pts=some o) :
 ∃x,lN (outs.map lvO) o (λi ho=>mi outs i ho)=some x/\runT C.E F N tf (erL vals) (erC pts)=some (⟨erL x.1,x.2.1⟩,erC x.2.2):=by
 unfold X.runT at h;split at h
 case isFalse=>cases h
 rename_i hc;obtain⟨e,σ1,r1,h1⟩:=Kv hTB u hN tf.body 0 _ _ o h
 have key:X.resF dJ tf.np tf.res σ1 (λy σ'=>X.onOut dJ (X.injO dJ y.1 y.2 (X.ptsOf σ' pts) u outs) λx=>dJ.out (outs.map lvO) x.1 x.2)=some o ->
  ∃x,lN (outs.map lvO) o (λi ho=>mi outs i ho)=some x/\(((resF tf.np tf.res).run (erS σ1)).bind λy=>some ((⟨y.1.1,y.1.2⟩:HO),(erC pts).map λx=>(x.1,(eG y.2.ce x.1).getD [])))=some (⟨erL x.1,x.2.1⟩,erC x.2.2):=by
  intro h2;obtain⟨y,σ2,r2,_,h3⟩:=Kx tf.np tf.res σ1 _ o h2
  cases hi:X.injO dJ y.1 y.2 (X.ptsOf σ2 pts) u outs with
  | none=>rw[hi] at h3;cases h3
  | some z=>
   rw[hi] at h3;obtain⟨i,ho⟩:=z;obtain⟨x,hf,e1,e2,e3⟩:=Na hi;refine⟨x,?_,?_⟩
   ·rw[zx _ (show t7 (outs.map lvO) i ho=some o from h3)];exact hf
   ·rw[r2];simp only[oBS];rw[e1,e2,e3,KW]
 have hcond:(erL vals).length=tf.np/\(nA tf.pp 0 (erL vals) && (!tf.pp.contains 1000 || (erC pts).isEmpty))=true:=by
  have h2:=hc.2;rw[oBA] at h2;refine⟨by rw[f9];exact hc.1,?_⟩;rw[GJ h2.1,Bool.true_and];have h3:=h2.2
  cases pts with
  | nil=>simp[erC]
  | cons x pts=>simpa [erC] using h3
 unfold runT;rw[oIP hcond,<- M3,r1];simp only[oBS]
 cases e with
 | exit j=>cases h1
 | normal=>exact key h1
 | ret=>exact key h1
end
theorem Lw{E:Env}{T:FuncId->Option TFn}{B F:fJ}{N:Nat}(hN:NN<=N) {C:X.Cfg}(hE:C.E=E) (hTB:∀c∈C.TB,uh F c) {c:Ctr}{tf:TFn}(hT:T c.f=some tf)
 (hg:∀h,X.runT dJ C () tf c.outs (je c.ins _ h).1 (sO c.pts [] (je c.ins _ h).2).1=c.g h):uh (Gp E T B F N) c:=by
 intro h o x ho hx;rw[Gn hT];rw[<- hg h] at ho;obtain⟨x',h1,h2⟩:=MN hTB () hN ho;rw[hx] at h1
 injection h1 with h1
 rw[<- h1,hE] at h2;exact h2
def Lvl(E:Env) (T:FuncId->Option TFn) (B:fJ) (n:Nat) (c:Ctr):Prop:=∀k,n<=k->uh (runF E T B (NN+k)) c
def Gf(E:Env) (T:FuncId->Option TFn) (B:fJ) (n:Nat):List Ctr->Prop
 | []=>True
 | c :: r=>Lvl E T B n c/\Gf E T B n r
theorem Lvl.mono{E:Env}{T:FuncId->Option TFn}{B:fJ}{n m:Nat}{c:Ctr}(h:Lvl E T B n c) (hm:n<=m):Lvl E T B m c:=λk hk=>h k (Nat.le_trans hm hk)
theorem Gf.get{E:Env}{T:FuncId->Option TFn}{B:fJ}{n:Nat}:∀{l:List Ctr},Gf E T B n l->∀c∈l,Lvl E T B n c:=by
 intro l
 induction l with
 | nil=>intro _ c hc;simp at hc
 | cons x l ih=>
  intro h c hc;rcases List.mem_cons.1 hc with rfl | hc
  ·exact h.1
  ·exact ih h.2 c hc
theorem OC{E:Env}{T:FuncId->Option TFn}{B:fJ}{n:Nat}{C:X.Cfg}(hE:C.E=E) (hTB:Gf E T B n C.TB) {c:Ctr}{tf:TFn}(hT:T c.f=some tf)
 (hg:∀h,X.runT dJ C () tf c.outs (je c.ins _ h).1 (sO c.pts [] (je c.ins _ h).2).1=c.g h):Lvl E T B (n+1) c:=by
 intro k hk;obtain⟨k,rfl⟩:∃k',k=k'+1:=⟨k - 1,by omega⟩;exact Lw (F:=runF E T B (NN+k)) (N:=NN+k) (Nat.le_add_right _ _) hE (λc hc=>hTB.get c hc k (by omega)) hT hg
theorem HA{P:Program}{H:Nat->List (Nat×Option Nat)}{f:FuncId}{tf:TFn}(h:uc P H f=some tf):∃fn,P.funcs[f]?=some fn/\tf.np=fn.params.size/\tf.nt=fn.ntmps:=by
 unfold uc at h;split at h
 case h_2=>simp at h
 rename_i fn hf;split at h
 case h_2=>simp at h
 split at h
 ·rename_i tf' hcl
  injection h with h
  subst h;obtain⟨_,g2,g3,_⟩:=uJ hcl;exact⟨fn,hf,g3,g2⟩
 simp only at h;split at h
 ·injection h with h
  subst h;exact⟨fn,hf,rfl,rfl⟩
 ·simp at h
theorem Mk{P:Program}(H:FuncId->Nat->List (Nat×Option Nat)) (hall:(P.funcs.all λfn=>decide (fn.params.size<=fn.ntmps) && !(fn.name=="runtime.NumGoroutine"))=true):J7 P λf=>uc P (H f) f:=by
 refine Kj λf tf h=>?_;obtain⟨fn,hf,e1,e2⟩:=HA h;obtain⟨hlt,he⟩:=Array.getElem?_eq_some_iff.1 hf;have:=Array.all_eq_true.1 hall f hlt;rw[he] at this;simp only[oBA,oDE,Bool.not_eq_true'] at this;refine⟨⟨H f,h⟩,by rw[e1,e2];exact this.1,λfn' hf'=>?_⟩;rw[hf] at hf'
 injection hf' with hf'
 subst hf';exact this.2
def O9:TFn:=⟨0,[],0,.skip,[]⟩
theorem OK{o:Option TFn}(h:o.isSome=true):o=some (o.getD O9):=by
 cases o with
 | none=>simp at h
 | some x=>rfl
def O8(P:Program) (f:FuncId):List (Option Nat):=match P.funcs[f]? with
 | some fn=>fn.params.toList.map λt=>match P.underlying t with | some (.pointer e)=>yY P e | _=>none
 | none=>[]
def noB:fJ:=λ_ _ _=>none
theorem noB_ok{P:Program}:lj P noB:=λf vals pts res pts' h=>by simp[noB] at h
abbrev I64:CT:=.int .i64
def w64(x:Int):Int:=IntKind.wrap .i64 x
def wk(k:IntKind) (x:Int):Int:=IntKind.wrap k x
def zO(s:ByteArray):Int:=(s.size:Int)
def bytes(l:List Nat):ByteArray:=⟨(l.map UInt8.ofNat).toArray⟩
end Go.Proofs.YtbapcamohngjbaaGreat
namespace Go.Proofs.YtbapcamohngjbaaGreat
open Go.RowKit
set_option maxRecDepth 100000
noncomputable section
abbrev KCe:CT:=(.pair (.int .u8) (.int .u16))
abbrev KCn:CT:=(.pair (.int .u8) (.pair (.int .u16) (.pair I64 I64)))
abbrev KIn:CT:=(.pair I64 (.pair I64 (.pair I64 (.pair I64 I64))))
abbrev KOp:CT:=(.pair I64 (.pair I64 .bool))
abbrev NG:CT:=(.pair I64 (.pair .bool (.row false KCe)))
abbrev LM:CT:=(.pair I64 (.pair (.row false KCe) (.pair I64 (.pair I64 (.pair I64 (.pair I64 (.pair I64 (.int .u16))))))))
abbrev Pt:CT:=(.pair I64 (.pair I64 (.row false KCn)))
abbrev qZ:CT:=(.pair I64 (.pair I64 (.pair I64 (.pair I64 (.pair I64 (.pair I64 (.pair (.int .u16) (.row false KCn))))))))
abbrev sb:CT:=(.pair I64 (.pair I64 (.pair I64 (.pair I64 (.pair I64 (.pair I64 (.pair I64 (.pair I64 (.pair I64 (.pair (.row false KCn) (.pair (.row false KCn) (.pair (.int .u8) (.pair (.int .u16) (.pair I64 (.pair I64 (.pair (.row false KCn) (.pair I64 .bool)))))))))))))))))
abbrev LN:CT:=(.pair I64 (.pair .bool (.row true KCe)))
abbrev NC:CT:=(.pair I64 (.pair (.row true KCe) (.pair I64 (.pair I64 (.pair I64 (.pair I64 (.pair I64 (.int .u16))))))))
abbrev E9:CT:=(.pair I64 (.pair I64 (.row true KCn)))
abbrev Ge:CT:=(.pair I64 (.pair I64 (.pair I64 (.pair I64 (.pair I64 (.pair I64 (.pair (.int .u16) (.row true KCn))))))))
abbrev J8:CT:=(.pair I64 (.pair I64 (.pair I64 (.pair I64 (.pair I64 (.pair I64 (.pair I64 (.pair I64 (.pair I64 (.pair (.row true KCn) (.pair (.row true KCn) (.pair (.int .u8) (.pair (.int .u16) (.pair I64 (.pair I64 (.pair (.row true KCn) (.pair I64 .bool)))))))))))))))))
abbrev eZ:CT:=(.row false KIn)
abbrev ef:CT:=(.row false KCn)
abbrev RW:CT:=(.row false (.int .u16))
abbrev RI:CT:=(.row false I64)
abbrev eM:CT:=(.row false KCe)
abbrev fi:CT:=(.row false NG)
abbrev iZ:CT:=(.row true LN)
abbrev gd:CT:=(.row false LM)
abbrev pt:CT:=(.row true NC)
abbrev gR:CT:=(.row false KOp)
abbrev ja:CT:=(.row false Pt)
abbrev Ga:CT:=(.row false sb)
abbrev DCe:Type:=(Int×Int)
abbrev DCn:Type:=(Int×Int×Int×Int)
abbrev DIn:Type:=(Int×Int×Int×Int×Int)
abbrev DOp:Type:=(Int×Int×Bool)
abbrev DLn:Type:=(Int×Bool×List DCe)
abbrev DTh:Type:=(Int×(List DCe)×Int×Int×Int×Int×Int×Int)
abbrev DOu:Type:=(Int×Int×List DCn)
abbrev DTs:Type:=(Int×Int×Int×Int×Int×Int×Int×List DCn)
abbrev DEn:Type:=(Int×Int×Int×Int×Int×Int×Int×Int×Int×(List DCn)×(List DCn)×Int×Int×Int×Int×(List DCn)×Int×Bool)
def HH(f i:Nat):List (Nat×Option Nat):=if f=201 then (if i=1000011 then [(11,some 27)] else if i=1000005 then [(2,some 27)] else []) else if f=256 then (if i=1000006 then [(8,some 1)] else if i=1000014 then [(8,some 1)] else []) else if f=41 then (if i=1000002 then [(5,none)] else []) else if f=187 then (if i=0 then [(8,none)] else []) else if f=132 then (if i=2 then [(3,some 1)] else if i=3 then [(3,some 0)] else []) else if f=194 then (if i=0 then [(8,some 0),(8,some 1),(8,some 2),(8,some 3),(8,some 4)] else []) else if f=122 then (if i=0 then [(4,some 0),(4,some 2),(4,some 3)] else []) else if f=133 then (if i=0 then [(6,some 0),(6,some 1),(6,some 2),(6,some 3),(6,some 5),(6,some 6),(6,some 7),(6,some 8),(6,some 9),(6,some 10),(6,some 11),(6,some 12),(6,some 13),(6,some 14),(6,some 15)] else []) else if f=227 then (if i=2000067 then [(2,none),(4,none),(8,none),(11,none),(12,none),(0,some 10),(0,some 18),(0,some 24)] else if i=0 then [(8,some 0)] else []) else if f=199 then (if i=1000012 then [(7,none)] else if i=0 then [(8,some 0),(8,some 2),(8,some 3),(8,some 4),(9,some 6),(9,some 7)] else []) else if f=231 then (if i=3000008 then [(9,some 0),(9,some 1)] else if i=0 then [(6,some 0),(6,some 1)] else []) else if f=245 then (if i=0 then [(4,some 0),(4,some 1),(4,some 2),(4,some 3),(4,some 4),(4,some 5),(5,some 4)] else []) else if f=232 then (if i=0 then [(0,some 14),(0,some 15),(4,some 4)] else []) else if f=233 then (if i=1000007 then [(17,none)] else if i=0 then [(8,some 2),(8,some 3),(8,some 4)] else []) else if f=59 then (if i=0 then [(8,some 2),(8,some 3),(8,some 4)] else []) else if f=234 then (if i=1000002 then [(9,none)] else []) else if f=235 then (if i=1000004 then [(4,some 2)] else if i=3 then [(6,some 0),(6,some 1)] else []) else if f=136 then (if i=1000011 then [(5,none)] else if i=1000014 then [(7,none)] else if i=0 then [(4,some 0),(4,some 1),(4,some 2),(4,some 3),(4,some 5),(4,some 6),(4,some 7),(4,some 8),(4,some 9),(4,some 10),(4,some 11),(4,some 12),(4,some 13),(4,some 14),(4,some 15)] else []) else if f=60 then (if i=0 then [(2,some 16),(2,some 17)] else []) else if f=40 then (if i=0 then [(6,some 0)] else []) else if f=27 then (if i=1000005 then [(8,none)] else []) else if f=90 then (if i=0 then [(4,some 0),(4,some 2),(4,some 3)] else []) else if f=22 then (if i=0 then [(8,some 0)] else []) else if f=4 then (if i=1000009 then [(8,none)] else if i=1000010 then [(3,none)] else []) else []
def TT (f:FuncId):Option TFn:=uc Tryz.prog (HH f) f
def E0:Env:=⟨λf=>if f=14 then some (1,[.arg 0,.val (.int .i64 0)]) else none,λf=>O8 Tryz.prog f⟩
theorem tt_ok:J7 Tryz.prog TT:=Mk HH (by kernel_rfl)
abbrev qE:Shs:=⟨[],[],[],([],[])⟩
abbrev qS(s:List (Nat×Sh))(c:List (Nat×List Sh)):Shs:=⟨s,c,[],([],[])⟩
abbrev N1:CT:=.nilr true
abbrev N0:CT:=.nilr false
abbrev CW:CT:=.int .u16
abbrev CB:CT:=.int .u8
abbrev uL(l:List CT):List Sh:=l.map fun c=>.d c ()
abbrev pP(t r:Nat):Nat×Sh:=(t,.ptr ⟨r,0,[]⟩ [0])
abbrev sP(t:Nat)(c:CT):Nat×Sh:=(t,.d c ())
abbrev Lk(n:Nat)(c:Ctr):Prop:=Lvl E0 TT noB n c
theorem aN{m:Nat}:Gf E0 TT noB m []:=trivial
theorem aC{n m:Nat}{c:Ctr}{l:List Ctr}(h:Lk n c)(r:Gf E0 TT noB m l)(hm:n≤m:=by decide):Gf E0 TT noB m (c::l):=⟨h.mono hm,r⟩
abbrev lx(i n:Nat)(s:List (Nat×Sh))(c:List (Nat×List Sh))(b:Nat):DP:=⟨i,n,⟨s,c,[],([],[])⟩,[(.exit 0,⟨s++[(b,.d .bool ())],c,[],([],[])⟩)]⟩
abbrev LI:Type:=List Int
abbrev LLI:Type:=List (List Int)
abbrev LLLI:Type:=List (List (List Int))
abbrev LDCe:Type:=List DCe
abbrev LDCn:Type:=List DCn
abbrev LDIn:Type:=List DIn
abbrev LDOp:Type:=List DOp
abbrev LDLn:Type:=List DLn
abbrev LDTh:Type:=List DTh
abbrev LDOu:Type:=List DOu
abbrev LDTs:Type:=List DTs
abbrev LDEn:Type:=List DEn
abbrev LLCn:Type:=List (List DCn)
abbrev T00:Type:=Bool×LI×Unit
abbrev T01:Type:=Int×Bool×Unit
abbrev T02:Type:=Int×Int×Unit
abbrev T03:Type:=Int×LI×Unit
abbrev T04:Type:=LDCe×LDLn×Unit
abbrev T05:Type:=LDOp×LDCn×Unit
abbrev T06:Type:=LI×Int×Unit
abbrev T07:Type:=LI×LLI×Unit
abbrev T08:Type:=LLCn×LDOp×Unit
abbrev T09:Type:=LLCn×LDTs×Unit
abbrev T0a:Type:=Unit×Unit×Unit
abbrev T0b:Type:=Bool×T02
abbrev T0c:Type:=Bool×T04
abbrev T0d:Type:=Int×T01
abbrev T0e:Type:=Int×T02
abbrev T0f:Type:=Int×Int×LDLn×Unit
abbrev T0g:Type:=Int×T06
abbrev T0h:Type:=Int×T0a
abbrev T0i:Type:=LDCe×T02
abbrev T0j:Type:=LDCn×T02
abbrev T0k:Type:=LDIn×T07
abbrev T0l:Type:=LI×T02
abbrev T0m:Type:=LI×T03
abbrev T0n:Type:=LI×LLI×LI×Unit
abbrev T0o:Type:=Bool×Bool×Bool×Bool×Unit
abbrev T0p:Type:=Int×T0b
abbrev T0q:Type:=Int×Bool×T06
abbrev T0r:Type:=Int×T0e
abbrev T0s:Type:=Int×Int×T04
abbrev T0t:Type:=Int×T0g
abbrev T0u:Type:=Int×Int×T08
abbrev T0v:Type:=Int×T0m
abbrev T0w:Type:=LDCe×T0d
abbrev T0x:Type:=LDCe×T0i
abbrev T0y:Type:=LDCe×LDLn×T04
abbrev T0z:Type:=LDTh×Int×T03
abbrev T0A:Type:=LI×T0d
abbrev T0B:Type:=LI×T0e
abbrev T0C:Type:=LI×T0l
abbrev T0D:Type:=Unit×T0g
abbrev T0E:Type:=Unit×Unit×T04
abbrev T0F:Type:=Unit×Unit×T07
abbrev T0G:Type:=Unit×Unit×T08
abbrev T0H:Type:=Unit×Unit×Unit×LDOp×Unit
abbrev T0I:Type:=Bool×T0G
abbrev T0J:Type:=Int×T0q
abbrev T0K:Type:=Int×Int×Bool×T08
abbrev T0L:Type:=Int×T0r
abbrev T0M:Type:=Int×Int×T0k
abbrev T0N:Type:=Int×T0E
abbrev T0O:Type:=Int×T0G
abbrev T0P:Type:=LDCe×LDLn×LI×Int×LLCn×Unit
abbrev T0Q:Type:=LDIn×LI×LLI×T09
abbrev T0R:Type:=LDLn×T0s
abbrev T0S:Type:=LI×T0t
abbrev T0T:Type:=LI×Int×LDCe×LDLn×LDTh×Unit
abbrev T0U:Type:=LI×T0A
abbrev T0V:Type:=LLCn×T0u
abbrev T0W:Type:=Unit×Int×Unit×T0a
abbrev T0X:Type:=Unit×Unit×T0n
abbrev T0Y:Type:=Unit×Unit×LLCn×T05
abbrev T0Z:Type:=Bool×T0T
abbrev T10:Type:=Bool×T0W
abbrev T11:Type:=Int×Bool×T0F
abbrev T12:Type:=Int×Int×Bool×T0k
abbrev T13:Type:=Int×T0L
abbrev T14:Type:=Int×Int×T0t
abbrev T15:Type:=Int×Int×T0F
abbrev T16:Type:=Int×T0O
abbrev T17:Type:=Int×T0T
abbrev T18:Type:=LDCe×LDLn×LI×Int×LLCn×LDCn×Unit
abbrev T19:Type:=LDCe×LDLn×T0E
abbrev T1a:Type:=LDIn×T0M
abbrev T1b:Type:=LDLn×Int×Int×T0c
abbrev T1c:Type:=LI×T0J
abbrev T1d:Type:=LI×Int×LDCe×LDLn×LDTh×Bool×Unit
abbrev T1e:Type:=LI×T0S
abbrev T1f:Type:=LI×LI×LLI×LLCn×LDOp×LDOu×Unit
abbrev T1g:Type:=LI×LLI×T0F
abbrev T1h:Type:=LLCn×LDOp×T0G
abbrev T1i:Type:=LLI×T0M
abbrev T1j:Type:=Unit×Unit×LLCn×Nat×T05
abbrev T1k:Type:=Int×Int×Bool×T0y
abbrev T1l:Type:=Int×T11
abbrev T1m:Type:=Int×Int×T0I
abbrev T1n:Type:=Int×T13
abbrev T1o:Type:=Int×Int×Int×Int×Unit×T01
abbrev T1p:Type:=Int×T15
abbrev T1q:Type:=Int×Int×LI×Int×Int×LLI×LDCn×Unit
abbrev T1r:Type:=Int×T17
abbrev T1s:Type:=Int×Int×T0X
abbrev T1t:Type:=Int×LI×Int×T0p
abbrev T1u:Type:=LDIn×T12
abbrev T1v:Type:=LLI×T12
abbrev T1w:Type:=LLI×T16
abbrev T1x:Type:=LLI×Int×Int×T0H
abbrev T1y:Type:=Int×Int×Bool×T0X
abbrev T1z:Type:=Int×T1m
abbrev T1A:Type:=Int×Int×Int×Int×Int×Int×LDCn×LDCn×Unit
abbrev T1B:Type:=Int×Int×Int×Int×Int×T0h
abbrev T1C:Type:=Int×T1s
abbrev T1D:Type:=Int×Int×T1f
abbrev T1E:Type:=Int×Int×T1g
abbrev T1F:Type:=Int×Int×T1h
abbrev T1G:Type:=Int×LDCe×T13
abbrev T1H:Type:=LDTh×T1r
abbrev T1I:Type:=LI×Int×Unit×Unit×Unit×T0k
abbrev T1J:Type:=LI×Int×Unit×Unit×T0F
abbrev T1K:Type:=LLCn×Int×Int×T0Q
abbrev T1L:Type:=Int×Int×Bool×T1f
abbrev T1M:Type:=Int×Int×Bool×T1g
abbrev T1N:Type:=Int×Int×Bool×T1h
abbrev T1O:Type:=Int×Int×T1n
abbrev T1P:Type:=Int×Int×Int×T16
abbrev T1Q:Type:=Int×T1F
abbrev T1R:Type:=Int×LI×Int×Int×Bool×T0B
abbrev T1S:Type:=Int×T1I
abbrev T1T:Type:=LDIn×LI×LLI×LI×T0N
abbrev T1U:Type:=LDLn×Int×Int×T19
abbrev T1V:Type:=LDOu×T1D
abbrev T1W:Type:=LI×Int×Int×T1c
abbrev T1X:Type:=LI×Int×LI×Int×Int×T0B
abbrev T1Y:Type:=LI×LI×Int×Int×T0P
abbrev T1Z:Type:=LI×LLCn×Int×Int×LDCn×T0u
abbrev T20:Type:=LLCn×T1F
abbrev T21:Type:=LLI×T1D
abbrev T22:Type:=LLI×T1E
abbrev T23:Type:=Int×Bool×T1I
abbrev T24:Type:=Int×Int×Int×Int×Int×Bool×Bool×Bool×T00
abbrev T25:Type:=Int×Int×Int×Int×Int×Int×Int×Int×Int×LDCn×Unit
abbrev T26:Type:=Int×Int×T1A
abbrev T27:Type:=Int×T1S
abbrev T28:Type:=Int×Int×T1J
abbrev T29:Type:=LI×Int×Int×Int×Int×Int×T0D
abbrev T2a:Type:=LI×Int×Int×LI×T14
abbrev T2b:Type:=LI×Int×LI×Int×LDCe×LDLn×LDTh×(List (LDIn×LI×List LI))×Unit
abbrev T2c:Type:=LLI×T1M
abbrev T2d:Type:=Unit×Int×Unit×Unit×Unit×T0T
abbrev T2e:Type:=Int×Int×T1T
abbrev T2f:Type:=Int×Int×T22
abbrev T2g:Type:=Int×T2d
abbrev T2h:Type:=LDCe×Int×Int×T1G
abbrev T2i:Type:=LDCn×Nat×Int×Int×Int×T1j
abbrev T2j:Type:=LI×Int×Bool×LI×T1n
abbrev T2k:Type:=LI×Int×Int×LI×Int×Int×T0J
abbrev T2l:Type:=LI×Int×Int×LI×Int×Int×T0S
abbrev T2m:Type:=LLI×Int×Int×LI×Int×Int×T0Y
abbrev T2n:Type:=ByteArray×LDCn×T26
abbrev T2o:Type:=Int×Int×Bool×T1T
abbrev T2p:Type:=Int×Int×T24
abbrev T2q:Type:=Int×Int×Int×Int×LDCn×Int×T10
abbrev T2r:Type:=Int×Int×Int×Int×Nat×T1s
abbrev T2s:Type:=Int×Int×T2b
abbrev T2t:Type:=LDIn×LI×LLI×LI×Int×LDCe×LDLn×LDTh×Unit×Unit×T09
abbrev T2u:Type:=LI×Int×Int×T1W
abbrev T2v:Type:=LLI×T2e
abbrev T2w:Type:=Int×Int×Bool×T24
abbrev T2x:Type:=LDIn×LI×LLI×LI×Int×LLCn×LDTs×Unit×Int×Unit×Unit×Unit×LLCn×Unit
abbrev T2y:Type:=LI×Int×LDCe×LDLn×LDTh×T1G
abbrev T2z:Type:=LI×Int×LI×Int×Int×Int×Int×T18
abbrev T2A:Type:=LLI×T2o
abbrev T2B:Type:=Int×Int×LLI×Int×Int×LI×T1E
abbrev T2C:Type:=Int×Bool×LDIn×LI×LLI×LI×Int×LDIn×LI×LLI×T0T
abbrev T2D:Type:=Int×Int×T2x
abbrev T2E:Type:=Int×Int×LDIn×LI×LLI×T2d
abbrev T2F:Type:=LDTh×Int×Int×T2t
abbrev T2G:Type:=LI×Int×LDCe×LDLn×LDTh×T2d
abbrev T2H:Type:=LI×Int×LI×Int×LDCe×LDLn×LDTh×LDIn×LI×LLI×(List (LDIn×LI×List LI))×(List (LI×Int))×Unit
abbrev T2I:Type:=Int×Int×Bool×T2x
abbrev T2J:Type:=Int×LLI×Int×Int×LI×T2e
abbrev T2K:Type:=LDIn×LI×LLI×T2y
abbrev T2L:Type:=Nat×LI×Int×LDCe×LDLn×LDTh×Int×Int×Int×Int×Int×Int×LDCn×T0j
abbrev T2M:Type:=LDIn×LI×LLI×LI×Int×LLCn×LDTs×T2d
abbrev T2N:Type:=LDIn×LI×LLI×LI×Int×LLCn×LDTs×Unit×Int×Unit×Unit×Unit×LI×Int×LDCe×LDLn×Unit×Unit
abbrev T2O:Type:=Int×Int×LDCn×T2D
abbrev T2P:Type:=Int×Int×LI×Int×Int×Int×Int×Int×Int×Int×Int×Int×Int×Int×T0o
abbrev T2Q:Type:=LDIn×LI×LLI×LI×Int×LDCe×LDLn×LDTh×LI×LI×LLI×LLCn×LDOp×LDOu×LI×LLI×LDEn×LI×Unit
abbrev T2R:Type:=LDTh×Int×Int×T2G
abbrev T2S:Type:=Int×Int×Int×Int×Int×Int×LDCn×LDCn×Int×Int×Int×Int×LDCn×Int×Bool×T0r
abbrev T2T:Type:=Int×Int×Int×Int×T2H
abbrev T2U:Type:=Int×Int×T2N
abbrev T2V:Type:=LDIn×LI×LLI×LI×Int×LDCe×LDLn×LDTh×LI×LI×LLI×LLCn×LDOp×LDOu×LI×LLI×LDEn×LI×LI×Unit
abbrev T2W:Type:=Nat×Int×LI×Int×LDCe×LDLn×LDTh×LDIn×LI×LLI×T1O
abbrev T2X:Type:=Int×Bool×T2Q
abbrev T2Y:Type:=Int×ByteArray×Int×Int×T2K
abbrev T2Z:Type:=Int×Int×Bool×T2N
abbrev T30:Type:=LDTs×Int×Int×T2M
abbrev T31:Type:=LLCn×T2U
abbrev T32:Type:=Int×Int×Int×T2Q
abbrev T33:Type:=Int×Int×Int×T2V
abbrev T34:Type:=Int×LLCn×Int×Int×LDCn×T2U
abbrev T35:Type:=LDIn×LI×LLI×LI×Int×LDCe×LDLn×LDTh×LI×LI×LLI×LLCn×LDOp×LDOu×LI×LLI×LDEn×LI×T1o
abbrev T36:Type:=LI×Int×LDCe×LDLn×LDTh×LDIn×LI×LLI×Int×Int×Int×Int×Int×Int×LDCn×LDCn×Int×Int×Int×Int×LDCn×T0p
abbrev T37:Type:=Nat×Bool×LI×Int×LDCe×LDLn×LDTh×T2S
abbrev T38:Type:=Nat×T36
abbrev T39:Type:=Unit×Unit×Unit×Unit×Unit×Unit×Int×Int×Int×Int×Unit×Int×Bool×LI×LI×LLI×LLCn×LDOp×LDOu×Int×Int×Int×Int×LDCn×T01
abbrev T3a:Type:=Unit×Unit×Unit×Unit×Unit×Unit×Int×Int×Int×Int×Unit×Int×Bool×LI×LI×LLI×LLCn×LDOp×LDOu×T1o
abbrev T3b:Type:=LI×Int×LDCe×LDLn×LDTh×LDIn×LI×LLI×T2S
abbrev T3c:Type:=LDIn×LI×LLI×LI×Int×LDCe×LDLn×LDTh×Unit×Unit×LLCn×LDTs×Int×LDCe×Int×Int×Int×Int×T25
abbrev T3d:Type:=LDTh×Int×Int×T35
abbrev T3e:Type:=Nat×LDCn×Int×Int×T3b
abbrev T3f:Type:=Nat×LDCn×Int×Int×Bool×T3b
abbrev T3g:Type:=LDIn×LI×LLI×LI×Int×LLCn×LDTs×Unit×Int×Unit×Unit×Unit×LI×Int×LDCe×LDLn×LDTh×Int×Int×Int×Int×Int×Int×Int×LDCn×T1G
abbrev T3h:Type:=LI×Int×Unit×Unit×Unit×Unit×Int×Unit×Unit×Unit×LDIn×LI×LLI×LI×Int×LDCe×LDLn×LDTh×LI×LI×LLI×LLCn×LDOp×LDOu×LI×LLI×LDEn×LI×T0T
abbrev T3i:Type:=LDTh×Int×Int×LDCe×Int×Int×T3c
abbrev T3j:Type:=LI×LI×LLI×LLCn×LDOp×LDOu×Int×Int×Int×Int×Int×Int×LDCn×LDCn×Unit×Unit×Unit×Unit×Unit×Unit×Int×Int×Int×Int×Unit×Int×Bool×LI×LI×LLI×LLCn×LDOp×LDOu×LI×Unit
abbrev T3k:Type:=Int×Bool×LDIn×LI×LLI×LI×Int×LDCe×LDLn×LDTh×LI×LI×LLI×LLCn×LDOp×LDOu×LI×LLI×LDEn×LI×Int×Int×Int×Int×Int×Int×LDCn×LDCn×T1o
abbrev T3l:Type:=LI×Int×Unit×Unit×Unit×Unit×Int×Unit×Unit×Unit×LDIn×LI×LLI×LI×Int×LDCe×LDLn×LDTh×LI×LI×LLI×LLCn×LDOp×LDOu×LI×LLI×LDEn×LI×LI×Int×LDCe×LDLn×LDTh×T09
abbrev T3m:Type:=Unit×Unit×Unit×Unit×Int×Unit×Unit×Unit×Unit×Unit×Unit×Unit×Unit×Unit×Unit×Unit×Unit×Unit×T2Q
abbrev T3n:Type:=Unit×Unit×Unit×Unit×Int×Unit×Unit×Unit×Unit×Unit×Unit×Unit×Unit×Unit×Unit×Unit×Unit×Unit×LDIn×LI×LLI×LI×Int×LDCe×LDLn×LDTh×LI×LI×LLI×LLCn×LDOp×LDOu×LI×LLI×Unit×LI×Unit
abbrev T3o:Type:=Int×Int×T3l
abbrev T3p:Type:=Int×T3m
abbrev T3q:Type:=Int×T3n
abbrev T3r:Type:=LDCn×Int×Int×T3j
abbrev T3s:Type:=LDIn×LI×LLI×Unit×Int×Unit×Unit×Unit×Int×Int×Int×Int×Int×Int×Unit×Unit×LI×Int×LDCe×LDLn×LDTh×Int×LDCe×Int×Int×Int×Int×T26
abbrev T3t:Type:=LDIn×LI×LLI×Unit×Int×Unit×Unit×Unit×Int×Int×Int×Int×Int×Int×Unit×Unit×LI×Int×LDCe×LDLn×LDTh×Int×LDCe×Int×Int×Int×Int×Int×Int×Int×Int×Int×Int×Int×Int×LDCn×Unit×Unit
abbrev T3u:Type:=Bool×T3t
abbrev T3v:Type:=Int×Int×Bool×T3l
abbrev T3w:Type:=Int×T3p
abbrev T3x:Type:=LI×T3p
abbrev T3y:Type:=Int×Int×T3s
abbrev T3z:Type:=Int×Int×T3t
abbrev T3A:Type:=Int×T3x
abbrev T3B:Type:=LDTs×Int×Int×LDCn×Int×Int×T3g
abbrev T3C:Type:=Int×Int×Bool×T3s
abbrev T3D:Type:=Int×Int×Int×T3o
abbrev ap1{A0 D R:Type}(f:A0→R)(h:A0×D):R:=f h.1
abbrev ap2{A0 A1 D R:Type}(f:A0→A1→R)(h:A0×A1×D):R:=f h.1 h.2.1
abbrev ap3{A0 A1 A2 D R:Type}(f:A0→A1→A2→R)(h:A0×A1×A2×D):R:=f h.1 h.2.1 h.2.2.1
abbrev ap4{A0 A1 A2 A3 D R:Type}(f:A0→A1→A2→A3→R)(h:A0×A1×A2×A3×D):R:=f h.1 h.2.1 h.2.2.1 h.2.2.2.1
abbrev ap5{A0 A1 A2 A3 A4 D R:Type}(f:A0→A1→A2→A3→A4→R)(h:A0×A1×A2×A3×A4×D):R:=f h.1 h.2.1 h.2.2.1 h.2.2.2.1 h.2.2.2.2.1
abbrev ap6{A0 A1 A2 A3 A4 A5 D R:Type}(f:A0→A1→A2→A3→A4→A5→R)(h:A0×A1×A2×A3×A4×A5×D):R:=f h.1 h.2.1 h.2.2.1 h.2.2.2.1 h.2.2.2.2.1 h.2.2.2.2.2.1
abbrev ap7{A0 A1 A2 A3 A4 A5 A6 D R:Type}(f:A0→A1→A2→A3→A4→A5→A6→R)(h:A0×A1×A2×A3×A4×A5×A6×D):R:=f h.1 h.2.1 h.2.2.1 h.2.2.2.1 h.2.2.2.2.1 h.2.2.2.2.2.1 h.2.2.2.2.2.2.1
abbrev ap8{A0 A1 A2 A3 A4 A5 A6 A7 D R:Type}(f:A0→A1→A2→A3→A4→A5→A6→A7→R)(h:A0×A1×A2×A3×A4×A5×A6×A7×D):R:=f h.1 h.2.1 h.2.2.1 h.2.2.2.1 h.2.2.2.2.1 h.2.2.2.2.2.1 h.2.2.2.2.2.2.1 h.2.2.2.2.2.2.2.1
abbrev ap9{A0 A1 A2 A3 A4 A5 A6 A7 A8 D R:Type}(f:A0→A1→A2→A3→A4→A5→A6→A7→A8→R)(h:A0×A1×A2×A3×A4×A5×A6×A7×A8×D):R:=f h.1 h.2.1 h.2.2.1 h.2.2.2.1 h.2.2.2.2.1 h.2.2.2.2.2.1 h.2.2.2.2.2.2.1 h.2.2.2.2.2.2.2.1 h.2.2.2.2.2.2.2.2.1
abbrev ap10{A0 A1 A2 A3 A4 A5 A6 A7 A8 A9 D R:Type}(f:A0→A1→A2→A3→A4→A5→A6→A7→A8→A9→R)(h:A0×A1×A2×A3×A4×A5×A6×A7×A8×A9×D):R:=f h.1 h.2.1 h.2.2.1 h.2.2.2.1 h.2.2.2.2.1 h.2.2.2.2.2.1 h.2.2.2.2.2.2.1 h.2.2.2.2.2.2.2.1 h.2.2.2.2.2.2.2.2.1 h.2.2.2.2.2.2.2.2.2.1
abbrev ap11{A0 A1 A2 A3 A4 A5 A6 A7 A8 A9 A10 D R:Type}(f:A0→A1→A2→A3→A4→A5→A6→A7→A8→A9→A10→R)(h:A0×A1×A2×A3×A4×A5×A6×A7×A8×A9×A10×D):R:=f h.1 h.2.1 h.2.2.1 h.2.2.2.1 h.2.2.2.2.1 h.2.2.2.2.2.1 h.2.2.2.2.2.2.1 h.2.2.2.2.2.2.2.1 h.2.2.2.2.2.2.2.2.1 h.2.2.2.2.2.2.2.2.2.1 h.2.2.2.2.2.2.2.2.2.2.1
abbrev ap14{A0 A1 A2 A3 A4 A5 A6 A7 A8 A9 A10 A11 A12 A13 D R:Type}(f:A0→A1→A2→A3→A4→A5→A6→A7→A8→A9→A10→A11→A12→A13→R)(h:A0×A1×A2×A3×A4×A5×A6×A7×A8×A9×A10×A11×A12×A13×D):R:=f h.1 h.2.1 h.2.2.1 h.2.2.2.1 h.2.2.2.2.1 h.2.2.2.2.2.1 h.2.2.2.2.2.2.1 h.2.2.2.2.2.2.2.1 h.2.2.2.2.2.2.2.2.1 h.2.2.2.2.2.2.2.2.2.1 h.2.2.2.2.2.2.2.2.2.2.1 h.2.2.2.2.2.2.2.2.2.2.2.1 h.2.2.2.2.2.2.2.2.2.2.2.2.1 h.2.2.2.2.2.2.2.2.2.2.2.2.2.1
abbrev ap16{A0 A1 A2 A3 A4 A5 A6 A7 A8 A9 A10 A11 A12 A13 A14 A15 D R:Type}(f:A0→A1→A2→A3→A4→A5→A6→A7→A8→A9→A10→A11→A12→A13→A14→A15→R)(h:A0×A1×A2×A3×A4×A5×A6×A7×A8×A9×A10×A11×A12×A13×A14×A15×D):R:=f h.1 h.2.1 h.2.2.1 h.2.2.2.1 h.2.2.2.2.1 h.2.2.2.2.2.1 h.2.2.2.2.2.2.1 h.2.2.2.2.2.2.2.1 h.2.2.2.2.2.2.2.2.1 h.2.2.2.2.2.2.2.2.2.1 h.2.2.2.2.2.2.2.2.2.2.1 h.2.2.2.2.2.2.2.2.2.2.2.1 h.2.2.2.2.2.2.2.2.2.2.2.2.1 h.2.2.2.2.2.2.2.2.2.2.2.2.2.1 h.2.2.2.2.2.2.2.2.2.2.2.2.2.2.1 h.2.2.2.2.2.2.2.2.2.2.2.2.2.2.2.1
abbrev ap18{A0 A1 A2 A3 A4 A5 A6 A7 A8 A9 A10 A11 A12 A13 A14 A15 A16 A17 D R:Type}(f:A0→A1→A2→A3→A4→A5→A6→A7→A8→A9→A10→A11→A12→A13→A14→A15→A16→A17→R)(h:A0×A1×A2×A3×A4×A5×A6×A7×A8×A9×A10×A11×A12×A13×A14×A15×A16×A17×D):R:=f h.1 h.2.1 h.2.2.1 h.2.2.2.1 h.2.2.2.2.1 h.2.2.2.2.2.1 h.2.2.2.2.2.2.1 h.2.2.2.2.2.2.2.1 h.2.2.2.2.2.2.2.2.1 h.2.2.2.2.2.2.2.2.2.1 h.2.2.2.2.2.2.2.2.2.2.1 h.2.2.2.2.2.2.2.2.2.2.2.1 h.2.2.2.2.2.2.2.2.2.2.2.2.1 h.2.2.2.2.2.2.2.2.2.2.2.2.2.1 h.2.2.2.2.2.2.2.2.2.2.2.2.2.2.1 h.2.2.2.2.2.2.2.2.2.2.2.2.2.2.2.1 h.2.2.2.2.2.2.2.2.2.2.2.2.2.2.2.2.1 h.2.2.2.2.2.2.2.2.2.2.2.2.2.2.2.2.2.1
abbrev ap19{A0 A1 A2 A3 A4 A5 A6 A7 A8 A9 A10 A11 A12 A13 A14 A15 A16 A17 A18 D R:Type}(f:A0→A1→A2→A3→A4→A5→A6→A7→A8→A9→A10→A11→A12→A13→A14→A15→A16→A17→A18→R)(h:A0×A1×A2×A3×A4×A5×A6×A7×A8×A9×A10×A11×A12×A13×A14×A15×A16×A17×A18×D):R:=f h.1 h.2.1 h.2.2.1 h.2.2.2.1 h.2.2.2.2.1 h.2.2.2.2.2.1 h.2.2.2.2.2.2.1 h.2.2.2.2.2.2.2.1 h.2.2.2.2.2.2.2.2.1 h.2.2.2.2.2.2.2.2.2.1 h.2.2.2.2.2.2.2.2.2.2.1 h.2.2.2.2.2.2.2.2.2.2.2.1 h.2.2.2.2.2.2.2.2.2.2.2.2.1 h.2.2.2.2.2.2.2.2.2.2.2.2.2.1 h.2.2.2.2.2.2.2.2.2.2.2.2.2.2.1 h.2.2.2.2.2.2.2.2.2.2.2.2.2.2.2.1 h.2.2.2.2.2.2.2.2.2.2.2.2.2.2.2.2.1 h.2.2.2.2.2.2.2.2.2.2.2.2.2.2.2.2.2.1 h.2.2.2.2.2.2.2.2.2.2.2.2.2.2.2.2.2.2.1
abbrev ap20{A0 A1 A2 A3 A4 A5 A6 A7 A8 A9 A10 A11 A12 A13 A14 A15 A16 A17 A18 A19 D R:Type}(f:A0→A1→A2→A3→A4→A5→A6→A7→A8→A9→A10→A11→A12→A13→A14→A15→A16→A17→A18→A19→R)(h:A0×A1×A2×A3×A4×A5×A6×A7×A8×A9×A10×A11×A12×A13×A14×A15×A16×A17×A18×A19×D):R:=f h.1 h.2.1 h.2.2.1 h.2.2.2.1 h.2.2.2.2.1 h.2.2.2.2.2.1 h.2.2.2.2.2.2.1 h.2.2.2.2.2.2.2.1 h.2.2.2.2.2.2.2.2.1 h.2.2.2.2.2.2.2.2.2.1 h.2.2.2.2.2.2.2.2.2.2.1 h.2.2.2.2.2.2.2.2.2.2.2.1 h.2.2.2.2.2.2.2.2.2.2.2.2.1 h.2.2.2.2.2.2.2.2.2.2.2.2.2.1 h.2.2.2.2.2.2.2.2.2.2.2.2.2.2.1 h.2.2.2.2.2.2.2.2.2.2.2.2.2.2.2.1 h.2.2.2.2.2.2.2.2.2.2.2.2.2.2.2.2.1 h.2.2.2.2.2.2.2.2.2.2.2.2.2.2.2.2.2.1 h.2.2.2.2.2.2.2.2.2.2.2.2.2.2.2.2.2.2.1 h.2.2.2.2.2.2.2.2.2.2.2.2.2.2.2.2.2.2.2.1
abbrev ap21{A0 A1 A2 A3 A4 A5 A6 A7 A8 A9 A10 A11 A12 A13 A14 A15 A16 A17 A18 A19 A20 D R:Type}(f:A0→A1→A2→A3→A4→A5→A6→A7→A8→A9→A10→A11→A12→A13→A14→A15→A16→A17→A18→A19→A20→R)(h:A0×A1×A2×A3×A4×A5×A6×A7×A8×A9×A10×A11×A12×A13×A14×A15×A16×A17×A18×A19×A20×D):R:=f h.1 h.2.1 h.2.2.1 h.2.2.2.1 h.2.2.2.2.1 h.2.2.2.2.2.1 h.2.2.2.2.2.2.1 h.2.2.2.2.2.2.2.1 h.2.2.2.2.2.2.2.2.1 h.2.2.2.2.2.2.2.2.2.1 h.2.2.2.2.2.2.2.2.2.2.1 h.2.2.2.2.2.2.2.2.2.2.2.1 h.2.2.2.2.2.2.2.2.2.2.2.2.1 h.2.2.2.2.2.2.2.2.2.2.2.2.2.1 h.2.2.2.2.2.2.2.2.2.2.2.2.2.2.1 h.2.2.2.2.2.2.2.2.2.2.2.2.2.2.2.1 h.2.2.2.2.2.2.2.2.2.2.2.2.2.2.2.2.1 h.2.2.2.2.2.2.2.2.2.2.2.2.2.2.2.2.2.1 h.2.2.2.2.2.2.2.2.2.2.2.2.2.2.2.2.2.2.1 h.2.2.2.2.2.2.2.2.2.2.2.2.2.2.2.2.2.2.2.1 h.2.2.2.2.2.2.2.2.2.2.2.2.2.2.2.2.2.2.2.2.1
abbrev ap23{A0 A1 A2 A3 A4 A5 A6 A7 A8 A9 A10 A11 A12 A13 A14 A15 A16 A17 A18 A19 A20 A21 A22 D R:Type}(f:A0→A1→A2→A3→A4→A5→A6→A7→A8→A9→A10→A11→A12→A13→A14→A15→A16→A17→A18→A19→A20→A21→A22→R)(h:A0×A1×A2×A3×A4×A5×A6×A7×A8×A9×A10×A11×A12×A13×A14×A15×A16×A17×A18×A19×A20×A21×A22×D):R:=f h.1 h.2.1 h.2.2.1 h.2.2.2.1 h.2.2.2.2.1 h.2.2.2.2.2.1 h.2.2.2.2.2.2.1 h.2.2.2.2.2.2.2.1 h.2.2.2.2.2.2.2.2.1 h.2.2.2.2.2.2.2.2.2.1 h.2.2.2.2.2.2.2.2.2.2.1 h.2.2.2.2.2.2.2.2.2.2.2.1 h.2.2.2.2.2.2.2.2.2.2.2.2.1 h.2.2.2.2.2.2.2.2.2.2.2.2.2.1 h.2.2.2.2.2.2.2.2.2.2.2.2.2.2.1 h.2.2.2.2.2.2.2.2.2.2.2.2.2.2.2.1 h.2.2.2.2.2.2.2.2.2.2.2.2.2.2.2.2.1 h.2.2.2.2.2.2.2.2.2.2.2.2.2.2.2.2.2.1 h.2.2.2.2.2.2.2.2.2.2.2.2.2.2.2.2.2.2.1 h.2.2.2.2.2.2.2.2.2.2.2.2.2.2.2.2.2.2.2.1 h.2.2.2.2.2.2.2.2.2.2.2.2.2.2.2.2.2.2.2.2.1 h.2.2.2.2.2.2.2.2.2.2.2.2.2.2.2.2.2.2.2.2.2.1 h.2.2.2.2.2.2.2.2.2.2.2.2.2.2.2.2.2.2.2.2.2.2.1
abbrev ap26{A0 A1 A2 A3 A4 A5 A6 A7 A8 A9 A10 A11 A12 A13 A14 A15 A16 A17 A18 A19 A20 A21 A22 A23 A24 A25 D R:Type}(f:A0→A1→A2→A3→A4→A5→A6→A7→A8→A9→A10→A11→A12→A13→A14→A15→A16→A17→A18→A19→A20→A21→A22→A23→A24→A25→R)(h:A0×A1×A2×A3×A4×A5×A6×A7×A8×A9×A10×A11×A12×A13×A14×A15×A16×A17×A18×A19×A20×A21×A22×A23×A24×A25×D):R:=f h.1 h.2.1 h.2.2.1 h.2.2.2.1 h.2.2.2.2.1 h.2.2.2.2.2.1 h.2.2.2.2.2.2.1 h.2.2.2.2.2.2.2.1 h.2.2.2.2.2.2.2.2.1 h.2.2.2.2.2.2.2.2.2.1 h.2.2.2.2.2.2.2.2.2.2.1 h.2.2.2.2.2.2.2.2.2.2.2.1 h.2.2.2.2.2.2.2.2.2.2.2.2.1 h.2.2.2.2.2.2.2.2.2.2.2.2.2.1 h.2.2.2.2.2.2.2.2.2.2.2.2.2.2.1 h.2.2.2.2.2.2.2.2.2.2.2.2.2.2.2.1 h.2.2.2.2.2.2.2.2.2.2.2.2.2.2.2.2.1 h.2.2.2.2.2.2.2.2.2.2.2.2.2.2.2.2.2.1 h.2.2.2.2.2.2.2.2.2.2.2.2.2.2.2.2.2.2.1 h.2.2.2.2.2.2.2.2.2.2.2.2.2.2.2.2.2.2.2.1 h.2.2.2.2.2.2.2.2.2.2.2.2.2.2.2.2.2.2.2.2.1 h.2.2.2.2.2.2.2.2.2.2.2.2.2.2.2.2.2.2.2.2.2.1 h.2.2.2.2.2.2.2.2.2.2.2.2.2.2.2.2.2.2.2.2.2.2.1 h.2.2.2.2.2.2.2.2.2.2.2.2.2.2.2.2.2.2.2.2.2.2.2.1 h.2.2.2.2.2.2.2.2.2.2.2.2.2.2.2.2.2.2.2.2.2.2.2.2.1 h.2.2.2.2.2.2.2.2.2.2.2.2.2.2.2.2.2.2.2.2.2.2.2.2.2.1
theorem ls{n:Nat}{C:X.Cfg}(hE:C.E=E0)(hT:Gf E0 TT noB n C.TB){c:Ctr}(h1:(TT c.f).isSome=true)(hg:∀h,X.runT dJ C () ((TT c.f).getD O9) c.outs (je c.ins _ h).1 (sO c.pts [] (je c.ins _ h).2).1=c.g h):Lk (n+1) c:=OC (n:=n) (C:=C) hE hT (OK h1) hg
def g8(a0:Int) (a1:Int):Option (Int×Unit):=
bif (a1 != 0) then let x0:Int:=(Int.tmod a0 a1);
(bif decide (x0 < 0) then (let x1:Int:=(w64 (x0+a1));
some (x1,())) else
some (x0,()):Option (Int×Unit)).bind λ(x1,_)=>
some (x1,()) else none
def EF:X.Cfg:=⟨E0,[],[],[⟨2,0,qE,[(.normal,(qS [(sP 5 I64)] []))]⟩]⟩
def r8:Ctr:=⟨81,0,(uL [I64,I64]),[],[⟨(uL [I64]),[.one],[]⟩],ap2 g8⟩
theorem wM:Lk 1 r8:=ls (C:=EF) rfl aN (by kernel_rfl) λh=>by kernel_rfl
def is(a0:Int) (a1:Int):Option (Int×Unit):=
(g8 a0 a1).bind λ(x0,_)=>
some (x0,())
def Ll:X.Cfg:=⟨E0,[r8],[],[]⟩
def vL:Ctr:=⟨28,1,(uL [I64,I64]),[],[⟨(uL [I64]),[.one],[]⟩],ap2 is⟩
theorem Az:Lk 2 vL:=ls (C:=Ll) rfl (aC wM aN) (by kernel_rfl) λh=>by kernel_rfl
def dL(a0:Int) (a1:List (Int)) (a2:Int):Option (T0g):=
let x0:=dM a1.length;
bif decide (a2>=x0) then (some (0,a1,a2,())) else
let x1:=w64 (a2+1);
let x2:=w64 (x1 - 1);
(dZ x2).bind λx3=>
(dI a1 x3).bind λx4=>
(is x4 a0).bind λ(x5,_)=>
some (x5,a1,x1,())
def EI:X.Cfg:=⟨E0,[vL],[],[]⟩
def fG:Ctr:=⟨61,2,[.ptr ⟨2,0,[]⟩ [0],shU I64],[(2,(uL [RI,I64]))],[⟨(uL [I64]),[.one],[(2,(uL [RI,I64]))]⟩],ap3 dL⟩
theorem f6:Lk 3 fG:=ls (C:=EI) rfl (aC Az aN) (by kernel_rfl) λh=>by kernel_rfl
def pJ:T0v->Option (T0v⊕(Int×Bool×T0m)):=λ(v0,v1,v2,v3,_)=>
bif decide (v0 > 0) then (let x0:List (Int):=[6,12,32];
(dL 3 v1 v2).bind λ(x1,x2,x3,_)=>
(dZ x1).bind λx4=>
(dI x0 x4).bind λx5=>
(dI x0 x4).bind λx6=>
(dL x6 x2 x3).bind λ(x7,x8,x9,_)=>
let ac:=w64 (1+x7);
bif (dY 8 v3.length (List.length [ac])) then let ae:List (Int):=(List.append v3 [ac]);
let af:=w64 (v0 - 1);
some (.inl (af,x8,x9,ae,())) else none) else
some (.inr (v0,false,v1,v2,v3,()))
def nv(a0:List (Int)) (a1:Int):Option (LI×T06):=
(dL 9 a0 a1).bind λ(x0,x1,x2,_)=>
let x3:=w64 (4+x0);
(dL 4 x1 x2).bind λ(x4,x5,x6,_)=>
(dR pJ NN (x4,x5,x6,[x3],())).bind λ(x7,x8,x9,ac,ae,_)=>
some (ae,x9,ac,())
def Dj:X.Cfg:=⟨E0,[fG],[],[(lx 4 0 [(pP 0 2),(3,.pk ⟨9,0,[]⟩ [0,0]),(sP 4 I64)] [(2,(uL [RI,I64])),(9,(uL [(.row true I64)]))] 12)]⟩
def u6:Ctr:=⟨185,3,[.ptr ⟨2,0,[]⟩ [0]],[(2,(uL [RI,I64]))],[⟨(uL [(.row true I64)]),[.one],[(2,(uL [RI,I64]))]⟩],ap2 nv⟩
theorem CC:Lk 4 u6:=ls (C:=Dj) rfl (aC f6 aN) (by kernel_rfl) λh=>by kernel_rfl
def iJ(a0:List (Int)) (a1:Int):Option (T0g):=
(dL 5 a0 a1).bind λ(x0,x1)=>
(bif (x0==0) then (some (x0,true,x1)) else
bif (x0==1) then (some (x0,true,x1)) else
some (x0,(x0==2),x1):Option (T0q)).bind λ(x3,x4,x5,x6,_)=>
bif x4 then ((dL 8 x5 x6).bind λ(x7,x8,x9,_)=>
let ac:=wk .u16 x7;
some (ac,x8,x9,())) else
bif (x3==3) then ((dL 3 x5 x6).bind λ(x7,x8,x9,_)=>
let ac:=w64 (65535 - x7);
let ae:=wk .u16 ac;
some (ae,x8,x9,())) else
(dL 65536 x5 x6).bind λ(x7,x8,x9,_)=>
let ac:=wk .u16 x7;
some (ac,x8,x9,())
def EH:X.Cfg:=⟨E0,[fG],[],[⟨3,0,qE,[(.normal,(qS [(pP 0 2),(sP 4 I64),(sP 5 .bool)] [(2,(uL [RI,I64]))]))]⟩]⟩
def m0:Ctr:=⟨140,4,[.ptr ⟨2,0,[]⟩ [0]],[(2,(uL [RI,I64]))],[⟨(uL [CW]),[.one],[(2,(uL [RI,I64]))]⟩],ap2 iJ⟩
theorem oL:Lk 4 m0:=ls (C:=EH) rfl (aC f6 aN) (by kernel_rfl) λh=>by kernel_rfl
def pI:T0v->Option (T0v⊕(Int×Bool×T0m)):=λ(v0,v1,v2,v3,_)=>
bif decide (v0 > 0) then ((iJ v1 v2).bind λ(x0,x1,x2,_)=>
bif (dY 2 v3.length (List.length [x0])) then let x3:List (Int):=(List.append v3 [x0]);
let x4:=w64 (v0 - 1);
some (.inl (x4,x1,x2,x3,())) else none) else
some (.inr (v0,false,v1,v2,v3,()))
def fR(a0:Int) (a1:List (Int)) (a2:Int):Option (LI×T06):=
let x0:=w64 (a0+1);
(dL x0 a1 a2).bind λ(x1,x2,x3,_)=>
(dR pI NN (x1,x2,x3,[],())).bind λ(x4,x5,x6,x7,x8,_)=>
some (x8,x6,x7,())
def Di:X.Cfg:=⟨E0,[fG,m0],[],[(lx 4 0 [(pP 0 2),(5,.pk ⟨13,0,[]⟩ [0,0]),(sP 6 I64)] [(2,(uL [RI,I64])),(13,(uL [(.row true CW)]))] 12)]⟩
def qt:Ctr:=⟨186,5,[.ptr ⟨2,0,[]⟩ [0],shU I64],[(2,(uL [RI,I64]))],[⟨(uL [(.row true CW)]),[.one],[(2,(uL [RI,I64]))]⟩],ap3 fR⟩
theorem uE:Lk 5 qt:=ls (C:=Di) rfl (aC f6 (aC oL aN)) (by kernel_rfl) λh=>by kernel_rfl
def iI(a0:Int) (a1:Int):Option (T0L):=
some (1,a0,0,0,a1,())
def Nd:X.Cfg:=⟨E0,[],[],[]⟩
def E4:Ctr:=⟨188,6,(uL [I64,I64]),[],[⟨(uL [I64,I64,I64,I64,I64]),[.agg 5],[]⟩],ap2 iI⟩
theorem Jr:Lk 1 E4:=ls (C:=Nd) rfl aN (by kernel_rfl) λh=>by kernel_rfl
def g9(a0:Int):Option (T0L):=
some (23,0,0,0,a0,())
def Li:X.Cfg:=⟨E0,[],[],[]⟩
def BG:Ctr:=⟨189,7,(uL [I64]),[],[⟨(uL [I64,I64,I64,I64,I64]),[.agg 5],[]⟩],ap1 g9⟩
theorem FH:Lk 1 BG:=ls (C:=Li) rfl aN (by kernel_rfl) λh=>by kernel_rfl
def ma(a0:Int) (a1:Int):Option (T0L):=
some (2,a0,a1,0,0,())
def Lj:X.Cfg:=⟨E0,[],[],[]⟩
def F4:Ctr:=⟨219,8,(uL [I64,I64]),[],[⟨(uL [I64,I64,I64,I64,I64]),[.agg 5],[]⟩],ap2 ma⟩
theorem Lc:Lk 1 F4:=ls (C:=Lj) rfl aN (by kernel_rfl) λh=>by kernel_rfl
def jH(a0:Int):Option (T0o):=
(bif (a0==1) then (some (a0,true,false,false,false,false,())) else
bif (a0==15) then (some (a0,true,false,false,false,false,())) else
bif (a0==19) then (some (a0,true,false,false,false,false,())) else
bif (a0==20) then (some (a0,true,false,false,false,false,())) else
some (a0,(a0==21),false,false,false,false,()):Option (Int×Bool×T0o)).bind λ(x0,x1,_)=>
bif x1 then (some (true,false,false,true,())) else
bif (x0==2) then (some (true,true,false,false,())) else
bif (x0==16) then (some (true,true,false,true,())) else
bif (x0==17) then (some (true,true,false,true,())) else
bif (x0==18) then (some (false,false,false,true,())) else
bif (x0==23) then (some (false,false,false,true,())) else
bif (x0==22) then (some (true,false,false,false,())) else
bif (x0==0) then (some (false,false,false,false,())) else
bif (x0==24) then (some (false,false,false,false,())) else
some (true,true,true,false,())
def C9:X.Cfg:=⟨E0,[],[],[⟨3,0,qE,[(.normal,(qS [(pP 2 6),(sP 3 I64),(sP 4 .bool)] [(6,(uL [.bool,.bool,.bool,.bool]))]))]⟩]⟩
def ql:Ctr:=⟨215,9,(uL [I64]),[],[⟨(uL [.bool,.bool,.bool,.bool]),[.agg 4],[]⟩],ap1 jH⟩
theorem uA:Lk 1 ql:=ls (C:=C9) rfl aN (by kernel_rfl) λh=>by kernel_rfl
def gU(a0:Int):Option (Bool×Unit):=
bif (a0==18) then (some (true,())) else
bif (a0==19) then (some (true,())) else
bif (a0==20) then (some (true,())) else
some ((a0==21),())
def Da:X.Cfg:=⟨E0,[],[],[]⟩
def jL:Ctr:=⟨176,10,(uL [I64]),[],[⟨(uL [.bool]),[.one],[]⟩],ap1 gU⟩
theorem lC:Lk 1 jL:=ls (C:=Da) rfl aN (by kernel_rfl) λh=>by kernel_rfl
def nw(a0:Int) (a1:Int) (a2:List (Int)) (a3:Int):Option (Int×T14):=
(dL 25 a2 a3).bind λ(x0,x1,x2,_)=>
(jH x0).bind λ(x3,x4)=>
(bif x3 then ((dL 8 x1 x2).bind λ(x7,x8,x9,_)=>
some (a0,a1,x8,x9,0,0,0,0,0,x0,x7,0,0,0,x3,x4)) else
some (a0,a1,x1,x2,0,0,0,0,0,x0,0,0,0,0,x3,x4):Option (T2P)).bind λ(x7,x8,x9,ac,ae,af,ag,ah,ai,aj,ak,am,an,ap,aq,av,ax)=>
(bif av then ((dL 8 x9 ac).bind λ(az,aA,aB,_)=>
some (x7,x8,aA,aB,ae,af,ag,ah,ai,aj,ak,az,an,ap,aq,av,ax)) else
some (x7,x8,x9,ac,ae,af,ag,ah,ai,aj,ak,am,an,ap,aq,av,ax):Option (T2P)).bind λ(az,aA,aB,aD,aE,aF,aG,aH,aI,aJ,aK,aL,aM,aO,aP,aQ,aR,aS,_)=>
(bif aR then ((dL 8 aB aD).bind λ(aT,aU,aV,_)=>
some (az,aA,aU,aV,aE,aF,aG,aH,aI,aJ,aK,aL,aT,aO,aP,aQ,aR,aS,())) else
some (az,aA,aB,aD,aE,aF,aG,aH,aI,aJ,aK,aL,aM,aO,aP,aQ,aR,aS,()):Option (T2P)).bind λ(aT,aU,aV,aW,aY,aZ,ba,bc,bd,be,bf,bg,bh,bi,bj,bk,bl,bm,_)=>
((gU be).bind λ(bn,_)=>
bif bn then ((dL aU aV aW).bind λ(bo,bp,bq,_)=>
some (bp,bq,aY,aZ,ba,bc,bd,be,bf,bg,bh,bo,())) else
bif (be==15) then ((dL aT aV aW).bind λ(bo,bp,bq,_)=>
some (bp,bq,aY,aZ,ba,bc,bd,be,bf,bg,bh,bo,())) else
bif (be==23) then ((dL 16 aV aW).bind λ(bo,bp,bq,_)=>
some (bp,bq,aY,aZ,ba,bc,bd,be,bf,bg,bh,bo,())) else
bif bm then ((iJ aV aW).bind λ(bo,bp,bq,_)=>
let bt:=wk .i64 bo;
some (bp,bq,aY,aZ,ba,bc,bd,be,bf,bg,bh,bt,())) else
some (aV,aW,aY,aZ,ba,bc,bd,be,bf,bg,bh,bi,()):Option (LI×Int×Int×T1O)).bind λ(bn,bo,bp,bq,bt,bv,bx,bA,bB,bC,bD,bE,_)=>
some (bA,bB,bC,bD,bE,bn,bo,())
def Dk:X.Cfg:=⟨E0,[fG,ql,jL,m0],[],[⟨3,0,qE,[(.normal,(qS [(pP 0 2),(sP 1 I64),(sP 2 I64),(pP 6 14),(pP 7 16),(pP 8 18)] [(2,(uL [RI,I64])),(14,(uL [I64,I64,I64,I64,I64])),(16,(uL [I64,I64,I64,I64,I64])),(18,(uL [.bool,.bool,.bool,.bool]))]))]⟩,⟨5,1,qE,[(.normal,(qS [(pP 0 2),(sP 1 I64),(sP 2 I64),(pP 6 14),(pP 7 16),(pP 8 18)] [(2,(uL [RI,I64])),(14,(uL [I64,I64,I64,I64,I64])),(16,(uL [I64,I64,I64,I64,I64])),(18,(uL [.bool,.bool,.bool,.bool]))]))]⟩,⟨7,2,qE,[(.normal,(qS [(pP 0 2),(sP 1 I64),(sP 2 I64),(pP 6 14),(pP 7 16),(pP 8 18)] [(2,(uL [RI,I64])),(14,(uL [I64,I64,I64,I64,I64])),(16,(uL [I64,I64,I64,I64,I64])),(18,(uL [.bool,.bool,.bool,.bool]))]))]⟩,⟨9,3,qE,[(.normal,(qS [(pP 0 2),(pP 6 14),(pP 7 16)] [(2,(uL [RI,I64])),(14,(uL [I64,I64,I64,I64,I64])),(16,(uL [I64,I64,I64,I64,I64]))]))]⟩]⟩
def u7:Ctr:=⟨220,11,[.ptr ⟨2,0,[]⟩ [0],shU I64,shU I64],[(2,(uL [RI,I64]))],[⟨(uL [I64,I64,I64,I64,I64]),[.agg 5],[(2,(uL [RI,I64]))]⟩],ap4 nw⟩
theorem CD:Lk 5 u7:=ls (C:=Dk) rfl (aC f6 (aC uA (aC lC (aC oL aN)))) (by kernel_rfl) λh=>by kernel_rfl
def oA(a0:List (Int)) (a1:Int) (a2:Int) (a3:List (Int)) (a4:Int):Option (LDIn×T06):=
let x0:=dM a0.length;
(dL x0 a3 a4).bind λ(x1,x2,x3,_)=>
(dZ x1).bind λx4=>
(dI a0 x4).bind λx5=>
let x6:=w64 (x5+1);
let x7:=mmR false 5 x6;
(dL x7 x2 x3).bind λ(x8,x9,ac,_)=>
(iI 2 x8).bind λ(ae,af,ag,ah,ai,_)=>
let aj:LDIn:=[(15,(1,(0,(0,x1)))),(ae,(af,(ag,(ah,ai))))];
(dL 20 x9 ac).bind λ(ak,am,an,_)=>
bif (ak==0) then ((dL 3 am an).bind λ(ap,aq,av,_)=>
let ax:=w64 (3+ap);
(iJ aq av).bind λ(ay,az,aA,_)=>
let aB:=wk .i64 ay;
(iI ax aB).bind λ(aD,aE,aF,aG,aH,_)=>
let aI:LDIn:=[(aD,(aE,(aF,(aG,aH))))];
some (aI,az,aA,())) else
bif (ak==1) then (let ap:List (Int):=[3,4,5,10,13,14,11,9];
(dL 8 am an).bind λ(aq,av,ax,_)=>
(dZ aq).bind λay=>
(dI ap ay).bind λaz=>
(dI ap ay).bind λaA=>
(dL 3 av ax).bind λ(aB,aD,aE,_)=>
let aF:=w64 (3+aB);
(dL 3 aD aE).bind λ(aG,aH,aI,_)=>
let aJ:=w64 (3+aG);
(dL 3 aH aI).bind λ(aK,aL,aM,_)=>
let aO:=w64 (3+aK);
let aP:LDIn:=[(aA,(aF,(aJ,(aO,0))))];
some (aP,aL,aM,())) else
bif (ak==2) then (let ap:LDIn:=[(15,(6,(0,(0,x1))))];
some (ap,am,an,())) else
bif (ak==3) then ((dL 5 am an).bind λ(ap,aq,av,_)=>
let ax:=w64 (3+ap);
(dZ x1).bind λay=>
(dI a0 ay).bind λaz=>
(dL az aq av).bind λ(aA,aB,aD,_)=>
let aE:LDIn:=[(15,(6,(0,(0,x1)))),(17,(6,(ax,(0,aA))))];
some (aE,aB,aD,())) else
bif (ak==4) then ((dL 5 am an).bind λ(ap,aq,av,_)=>
let ax:=w64 (3+ap);
(dZ x1).bind λay=>
(dI a0 ay).bind λaz=>
(dL az aq av).bind λ(aA,aB,aD,_)=>
let aE:LDIn:=[(15,(6,(0,(0,x1)))),(17,(6,(ax,(0,aA))))];
some (aE,aB,aD,())) else
bif (ak==5) then ((dL 4 am an).bind λ(ap,aq,av,_)=>
let ax:=w64 (3+ap);
(dZ x1).bind λay=>
(dI a0 ay).bind λaz=>
(dL az aq av).bind λ(aA,aB,aD,_)=>
let aE:LDIn:=[(15,(6,(0,(0,x1)))),(16,(ax,(6,(0,aA))))];
some (aE,aB,aD,())) else
bif (ak==6) then ((dL 4 am an).bind λ(ap,aq,av,_)=>
let ax:=w64 (3+ap);
(dZ x1).bind λay=>
(dI a0 ay).bind λaz=>
(dL az aq av).bind λ(aA,aB,aD,_)=>
let aE:LDIn:=[(15,(6,(0,(0,x1)))),(16,(ax,(6,(0,aA))))];
some (aE,aB,aD,())) else
bif (ak==7) then ((dL 3 am an).bind λ(ap,aq,av,_)=>
(iI 0 ap).bind λ(ax,ay,az,aA,aB,_)=>
let aD:LDIn:=[(ax,(ay,(az,(aA,aB))))];
bif (dY 40 aD.length aj.length) then let aE:LDIn:=(List.append aD aj);
(g9 13).bind λ(aF,aG,aH,aI,aJ,_)=>
let aK:LDIn:=[(aF,(aG,(aH,(aI,aJ))))];
bif (dY 40 aE.length aK.length) then let aL:LDIn:=(List.append aE aK);
some (aL,aq,av,()) else none else none) else
bif (ak==8) then ((dL 3 am an).bind λ(ap,aq,av,_)=>
(iI 0 ap).bind λ(ax,ay,az,aA,aB,_)=>
let aD:LDIn:=[(ax,(ay,(az,(aA,aB))))];
bif (dY 40 aD.length aj.length) then let aE:LDIn:=(List.append aD aj);
(g9 13).bind λ(aF,aG,aH,aI,aJ,_)=>
let aK:LDIn:=[(aF,(aG,(aH,(aI,aJ))))];
bif (dY 40 aE.length aK.length) then let aL:LDIn:=(List.append aE aK);
some (aL,aq,av,()) else none else none) else
bif (ak==9) then ((dL 3 am an).bind λ(ap,aq,av,_)=>
(iI 0 ap).bind λ(ax,ay,az,aA,aB,_)=>
let aD:LDIn:=[(ax,(ay,(az,(aA,aB))))];
bif (dY 40 aD.length aj.length) then let aE:LDIn:=(List.append aD aj);
(g9 14).bind λ(aF,aG,aH,aI,aJ,_)=>
(ma 3 0).bind λ(aK,aL,aM,aO,aP,_)=>
let aQ:LDIn:=[(aF,(aG,(aH,(aI,aJ)))),(aK,(aL,(aM,(aO,aP))))];
bif (dY 40 aE.length aQ.length) then let aR:LDIn:=(List.append aE aQ);
some (aR,aq,av,()) else none else none) else
bif (ak==10) then ((dL 3 am an).bind λ(ap,aq,av,_)=>
(iI 0 ap).bind λ(ax,ay,az,aA,aB,_)=>
(dL 4 aq av).bind λ(aD,aE,aF,_)=>
(iI 1 aD).bind λ(aG,aH,aI,aJ,aK,_)=>
(g9 3).bind λ(aL,aM,aO,aP,aQ,_)=>
(ma 7 0).bind λ(aR,aS,aT,aU,aV,_)=>
let aW:LDIn:=[(ax,(ay,(az,(aA,aB)))),(aG,(aH,(aI,(aJ,aK)))),(aL,(aM,(aO,(aP,aQ)))),(aR,(aS,(aT,(aU,aV))))];
some (aW,aE,aF,())) else
bif (ak==11) then ((ma 0 7).bind λ(ap,aq,av,ax,ay,_)=>
let az:LDIn:=[(ap,(aq,(av,(ax,ay))))];
bif (dY 40 az.length aj.length) then let aA:LDIn:=(List.append az aj);
let aB:List (Int):=[1,2];
(dL 2 am an).bind λ(aD,aE,aF,_)=>
(dZ aD).bind λaG=>
(dI aB aG).bind λaH=>
(dI aB aG).bind λaI=>
(g9 aI).bind λ(aJ,aK,aL,aM,aO,_)=>
let aP:LDIn:=[(aJ,(aK,(aL,(aM,aO))))];
bif (dY 40 aA.length aP.length) then let aQ:LDIn:=(List.append aA aP);
some (aQ,aE,aF,()) else none else none) else
bif (ak==12) then ((ma 0 7).bind λ(ap,aq,av,ax,ay,_)=>
(g9 4).bind λ(az,aA,aB,aD,aE,_)=>
let aF:LDIn:=[(ap,(aq,(av,(ax,ay)))),(az,(aA,(aB,(aD,aE))))];
(ma 0 7).bind λ(aG,aH,aI,aJ,aK,_)=>
(dL 4 am an).bind λ(aL,aM,aO,_)=>
(iI 1 aL).bind λ(aP,aQ,aR,aS,aT,_)=>
(g9 5).bind λ(aU,aV,aW,aY,aZ,_)=>
let ba:LDIn:=[(aG,(aH,(aI,(aJ,aK)))),(aP,(aQ,(aR,(aS,aT)))),(aU,(aV,(aW,(aY,aZ))))];
let bc:List LDIn:=[aF,ba];
(dL 2 aM aO).bind λ(bd,be)=>
(dZ bd).bind λbg=>
(dI bc bg).bind λbh=>
(dI bc bg).bind λbi=>
(dI bc bg).bind λbj=>
some (bj,be)) else
bif (ak==13) then (let ap:List (Int):=[6,7,15];
(dL 3 am an).bind λ(aq,av,ax,_)=>
(dZ aq).bind λay=>
(dI ap ay).bind λaz=>
(dI ap ay).bind λaA=>
(g9 aA).bind λ(aB,aD,aE,aF,aG,_)=>
(dL 3 av ax).bind λ(aH,aI,aJ,_)=>
let aK:=w64 (3+aH);
(ma aK 0).bind λ(aL,aM,aO,aP,aQ,_)=>
let aR:LDIn:=[(aB,(aD,(aE,(aF,aG)))),(aL,(aM,(aO,(aP,aQ))))];
some (aR,aI,aJ,())) else
bif (ak==14) then ((dL 3 am an).bind λ(ap,aq,av,_)=>
(iI 0 ap).bind λ(ax,ay,az,aA,aB,_)=>
let aD:List (Int):=[8,9];
(dL 2 aq av).bind λ(aE,aF,aG,_)=>
(dZ aE).bind λaH=>
(dI aD aH).bind λaI=>
(dI aD aH).bind λaJ=>
(g9 aJ).bind λ(aK,aL,aM,aO,aP,_)=>
let aQ:LDIn:=[(ax,(ay,(az,(aA,aB)))),(aK,(aL,(aM,(aO,aP))))];
some (aQ,aF,aG,())) else
bif (ak==15) then ((dL 3 am an).bind λ(ap,aq,av,_)=>
(iI 0 ap).bind λ(ax,ay,az,aA,aB,_)=>
let aD:List (Int):=[8,9];
(dL 2 aq av).bind λ(aE,aF,aG,_)=>
(dZ aE).bind λaH=>
(dI aD aH).bind λaI=>
(dI aD aH).bind λaJ=>
(g9 aJ).bind λ(aK,aL,aM,aO,aP,_)=>
let aQ:LDIn:=[(ax,(ay,(az,(aA,aB)))),(aK,(aL,(aM,(aO,aP))))];
some (aQ,aF,aG,())) else
bif (ak==16) then ((dL a1 am an).bind λ(ap,aq,av,_)=>
(iI 0 ap).bind λ(ax,ay,az,aA,aB,_)=>
(ma 1 3).bind λ(aD,aE,aF,aG,aH,_)=>
(g9 10).bind λ(aI,aJ,aK,aL,aM,_)=>
let aO:LDIn:=[(ax,(ay,(az,(aA,aB)))),(aD,(aE,(aF,(aG,aH)))),(aI,(aJ,(aK,(aL,aM))))];
some (aO,aq,av,())) else
bif (ak==17) then (let ap:List (Int):=[a1,5];
(dL 2 am an).bind λ(aq,av,ax,_)=>
(dZ aq).bind λay=>
(dI ap ay).bind λaz=>
(dI ap ay).bind λaA=>
(dL aA av ax).bind λ(aB,aD,aE,_)=>
(iI 0 aB).bind λ(aF,aG,aH,aI,aJ,_)=>
let aK:List (Int):=[12,11];
(dL 2 aD aE).bind λ(aL,aM,aO,_)=>
(dZ aL).bind λaP=>
(dI aK aP).bind λaQ=>
(dI aK aP).bind λaR=>
(g9 aR).bind λ(aS,aT,aU,aV,aW,_)=>
let aY:LDIn:=[(aF,(aG,(aH,(aI,aJ)))),(aS,(aT,(aU,(aV,aW))))];
some (aY,aM,aO,())) else
bif (ak==18) then ((dL 4 am an).bind λ(ap,aq,av,_)=>
let ax:=w64 (1+ap);
(iI 5 ax).bind λ(ay,az,aA,aB,aD,_)=>
(iI 4 1).bind λ(aE,aF,aG,aH,aI,_)=>
let aJ:=w64 (a2+2);
let aK:LDIn:=[(ay,(az,(aA,(aB,aD)))),(aE,(aF,(aG,(aH,aI)))),(4,(5,(5,(4,0)))),(20,(5,(0,(0,aJ))))];
some (aK,aq,av,())) else
let ap:=dM a0.length;
(nw ap a1 am an).bind λ(aq,av,ax,ay,az,aA,aB,_)=>
let aD:LDIn:=[(aq,(av,(ax,(ay,az))))];
some (aD,aA,aB,())
def EG:X.Cfg:=⟨E0,[fG,E4,m0,BG,F4,u7],[(156,(.row true KIn))],[]⟩
def xI:Ctr:=⟨187,12,[.ptr ⟨2,0,[]⟩ [0],shU RI,shU I64,shU I64],[(2,(uL [RI,I64]))],[⟨(uL [eZ]),[.one],[(2,(uL [RI,I64]))]⟩],ap5 oA⟩
theorem Er:Lk 6 xI:=ls (C:=EG) rfl (aC f6 (aC Jr (aC oL (aC FH (aC Lc (aC CD aN)))))) (by kernel_rfl) λh=>by kernel_rfl
def nW:T28->Option (T28⊕(Int×Int×Bool×T1J)):=λ(v0,v1,v2,v3,v4,v5,v6,v7,v8,v9,_)=>
bif decide (v1 < v0) then ((dZ v1).bind λx0=>
(dI v8 x0).bind λx1=>
(dI v8 x0).bind λx2=>
(fR x2 v2 v3).bind λ(x3,x4,x5,_)=>
bif (dY 24 v9.length (List.length [x3])) then let x6:List LI:=(List.append v9 [x3]);
let x7:=w64 (v1+1);
some (.inl (v0,x7,x4,x5,v4,v5,v6,v7,v8,x6,())) else none) else
some (.inr (v0,v1,false,v2,v3,v4,v5,v6,v7,v8,v9,()))
def nV:T1S->Option (T1S⊕T23):=λ(v0,v1,v2,v3,v4,v5,v6,v7,v8,_)=>
bif decide (v0 > 0) then ((let x0:Int:=(dM v6.length);
let x1:=w64 (x0+1);
let x2:=dM v6.length;
(oA v7 x1 x2 v1 v2).bind λ(x3,x4,x5,_)=>
let x6:=dM v6.length;
let x7:=dM x3.length;
let x8:=w64 (x6+x7);
bif decide (x8<=62) then (bif (dY 40 v6.length x3.length) then let x9:LDIn:=(List.append v6 x3);
some (v0,x4,x5,v3,v4,v5,x9,v7,v8,()) else none) else
some (v0,x4,x5,v3,v4,v5,v6,v7,v8,()):Option (T1S)).bind λ(x0,x1,x2,x3,x4,x5,x6,x7,x8,_)=>
let x9:=w64 (x0 - 1);
some (.inl (x9,x1,x2,x3,x4,x5,x6,x7,x8,()))) else
some (.inr (v0,false,v1,v2,v3,v4,v5,v6,v7,v8,()))
def fW:T27->Option (T27⊕(Int×T23)):=λ(v0,v1,v2,v3,v4,v5,v6,v7,v8)=>
bif decide (v1 < v0) then (((dZ v1).bind λx0=>
(dI v7 x0).bind λx1=>
(gU x1.1).bind λ(x2,_)=>
bif x2 then ((dZ v1).bind λx3=>
(dI v7 x3).bind λx4=>
let x5:=dM v7.length;
bif decide (x4.2.2.2.2>=x5) then ((dZ v1).bind λx6=>
(dI v7 x6).bind λx7=>
none) else
some (v0,v1,v2,v3,v4,v5,v6,v7,v8)) else
some (v0,v1,v2,v3,v4,v5,v6,v7,v8):Option (T27)).bind λ(x0,x1,x2,x3,x4,x5,x6,x7,x8)=>
let ac:=w64 (x1+1);
some (.inl (x0,ac,x2,x3,x4,x5,x6,x7,x8))) else
some (.inr (v0,v1,false,v2,v3,v4,v5,v6,v7,v8))
def k8(a0:List (Int)) (a1:Int):Option (LDIn×LI×LLI×T06):=
(nv a0 a1).bind λ(x0,x1,x2,_)=>
let x3:=dM x0.length;
(dR nW NN (x3,0,x1,x2,(),(),(),(),x0,[],())).bind λ(x4,x5,x6,x7,x8,x9,ac,ae,af,ag)=>
(dL 12 x7 x8).bind λ(ai,aj,ak,_)=>
let am:=w64 (1+ai);
(dR nV NN (am,aj,ak,x9,ac,ae,[],ag)).bind λ(an,ap,aq,av,ax,ay,az,aA,aB)=>
((dL 4 aq av).bind λ(aE,aF,aG,_)=>
bif (aE==0) then (let aH:Int:=(dM aA.length);
let aI:=w64 (aH+1);
(dL aI aF aG).bind λ(aJ,aK,aL,_)=>
let aM:LDIn:=[(18,(0,(0,(0,aJ))))];
bif (dY 40 aA.length aM.length) then let aO:LDIn:=(List.append aA aM);
some (aK,aL,ax,ay,az,aO,aB) else none) else
bif (aE==1) then (let aH:LDIn:=[(24,(0,(0,(0,0))))];
bif (dY 40 aA.length aH.length) then let aI:LDIn:=(List.append aA aH);
some (aF,aG,ax,ay,az,aI,aB) else none) else
some (aF,aG,ax,ay,az,aA,aB):Option (T1I)).bind λ(aE,aF,aG,aH,aI,aJ,aK,aL,_)=>
(dL 9 aE aF).bind λ(aM,aO,aP,_)=>
(iI 0 aM).bind λ(aQ,aR,aS,aT,aU,_)=>
(g9 0).bind λ(aV,aW,aY,aZ,ba,_)=>
let bc:LDIn:=[(aQ,(aR,(aS,(aT,aU)))),(aV,(aW,(aY,(aZ,ba))))];
bif (dY 40 aJ.length bc.length) then let bd:LDIn:=(List.append aJ bc);
let be:=dM bd.length;
bif decide (be > 64) then (bif (gS 0 64 bd.length) then let bf:LDIn:=(jN bd 0 (Nat.sub 64 0));
let bg:=dM bf.length;
(dR fW NN (bg,0,aO,aP,aG,aH,aI,bf,aK,aL,())).bind λ(bh,bi,bj,bk,bl,bm,bn,bo,bp,bq,bt,_)=>
some (bp,bq,bt,bk,bl,()) else none) else
let bf:=dM bd.length;
(dR fW NN (bf,0,aO,aP,aG,aH,aI,bd,aK,aL,())).bind λ(bg,bh,bi,bj,bk,bl,bm,bn,bo,bp,bq,_)=>
some (bo,bp,bq,bj,bk,()) else none
def yF:X.Cfg:=⟨E0,[u6,qt,fG,xI,E4,BG,jL],[(24,(.row true CW)),(25,(.row true CW))],[(lx 4 0 [(pP 0 2),(pP 2 6),(pP 3 8),(13,.pk ⟨8,1,[]⟩ [0,0]),(sP 14 I64),(sP 15 I64)] [(2,(uL [RI,I64])),(6,(uL [N1,N1,N1])),(8,(uL [N1,(.row true I64),(.row true (.row true CW))]))] 16),⟨14,1,qE,[(.normal,(qS [(pP 0 2),(pP 2 6),(pP 3 8),(sP 6 I64)] [(2,(uL [RI,I64])),(6,(uL [N1,N1,N1])),(8,(uL [(.row true KIn),RI,(.row true (.row true CW))]))]))]⟩,⟨11,2,(qS [(pP 0 2),(pP 2 6),(pP 3 8),(sP 6 I64)] [(2,(uL [RI,I64])),(6,(uL [N1,N1,N1])),(8,(uL [(.row true KIn),RI,(.row true (.row true CW))]))]),[(.exit 2,(qS [(pP 0 2),(pP 2 6),(pP 3 8),(sP 6 I64),(sP 32 .bool)] [(2,(uL [RI,I64])),(6,(uL [N1,N1,N1])),(8,(uL [(.row true KIn),RI,(.row true (.row true CW))]))]))]⟩,⟨17,3,qE,[(.normal,(qS [(pP 0 2),(pP 2 6),(pP 3 8)] [(2,(uL [RI,I64])),(6,(uL [N1,N1,N1])),(8,(uL [(.row true KIn),RI,(.row true (.row true CW))]))]))]⟩,⟨29,4,qE,[(.normal,(qS [(pP 0 2),(pP 2 6),(pP 3 8),(sP 101 I64),(sP 102 I64)] [(2,(uL [RI,I64])),(6,(uL [N1,N1,N1])),(8,(uL [eZ,RI,(.row true (.row true CW))]))]))]⟩,⟨26,5,(qS [(pP 0 2),(pP 2 6),(pP 3 8),(sP 101 I64),(sP 102 I64)] [(2,(uL [RI,I64])),(6,(uL [N1,N1,N1])),(8,(uL [eZ,RI,(.row true (.row true CW))]))]),[(.exit 5,(qS [(pP 0 2),(pP 2 6),(pP 3 8),(sP 101 I64),(sP 102 I64),(sP 103 .bool)] [(2,(uL [RI,I64])),(6,(uL [N1,N1,N1])),(8,(uL [eZ,RI,(.row true (.row true CW))]))]))]⟩]⟩
def rD:Ctr:=⟨132,13,[.ptr ⟨2,0,[]⟩ [0]],[(2,(uL [RI,I64]))],[⟨(uL [eZ,RI,(.row true (.row true CW))]),[.agg 3],[(2,(uL [RI,I64]))]⟩],ap2 k8⟩
theorem yi:Lk 7 rD:=ls (C:=yF) rfl (aC CC (aC uE (aC f6 (aC Er (aC Jr (aC FH (aC lC aN))))))) (by kernel_rfl) λh=>by kernel_rfl
def lK:T0C->Option (T0C⊕((Bool×Unit)⊕T0U)):=λ(v0,v1,v2,v3,_)=>
bif decide (v3 < v2) then ((dZ v3).bind λx0=>
(dI v1 x0).bind λx1=>
bif decide (x1 < 1) then (some (.inr (.inl (false,())))) else
bif decide (x1 > 32) then (some (.inr (.inl (false,())))) else
let x2:=w64 (v3+1);
some (.inl (v0,v1,v2,x2,()))) else
some (.inr (.inr (v0,v1,v2,v3,false,())))
def fL(a0:List (Int)):Option (Bool×Unit):=
let x0:=dM a0.length;
(match dR lK NN (a0,a0,x0,0,()) with
| none=>none
| some (.inl (x1,_))=>
some (x1,())
| some (.inr (x1,_))=>
let x6:=dM x1.length;
bif decide (x6>=1) then (let x7:Int:=(dM x1.length);
some ((decide (x7<=4)),())) else
some (false,()))
def Bh:X.Cfg:=⟨E0,[],[],[⟨3,0,(qS [(sP 0 RI),(sP 5 RI),(sP 6 I64),(sP 7 I64)] []),[(.ret,(qS [(sP 2 .bool)] [])),(.exit 0,(qS [(sP 0 RI),(sP 5 RI),(sP 6 I64),(sP 7 I64),(sP 8 .bool)] []))]⟩]⟩
def mq:Ctr:=⟨91,14,(uL [RI]),[],[⟨(uL [.bool]),[.one],[]⟩],ap1 fL⟩
theorem oK:Lk 1 mq:=ls (C:=Bh) rfl aN (by kernel_rfl) λh=>by kernel_rfl
def pH:T29->Option (T29⊕(LI×Int×Int×Int×Int×Int×Bool×T0D)):=λ(v0,v1,v2,v3,v4,v5,v6,v7,v8,v9,_)=>
bif decide (v5 < v4) then (let x0:Int:=(w64 (v5+v1));
bif (v2 != 0) then let x1:Int:=(Int.tmod x0 v2);
(dZ x1).bind λx2=>
(dI v8 x2).bind λx3=>
(dI v8 x2).bind λx4=>
let x5:=List.modify v8 x2 λe=>v3;
(dZ x1).bind λx6=>
(dI v0 x6).bind λx7=>
let x8:=w64 (x7+1);
let x9:=w64 (50*v2);
bif (x9 != 0) then let ac:Int:=(w64 (Int.tdiv v1 x9));
let ae:=Int.tmod ac 40;
let af:=w64 (x8+ae);
let ag:=w64 (v3+af);
let ah:=w64 (v5+1);
some (.inl (v0,v1,v2,ag,v4,ah,v6,v7,x5,v9,())) else none else none) else
some (.inr (v0,v1,v2,v3,v4,v5,false,v6,v7,v8,v9,()))
def nu(a0:List (Int)) (a1:Int):Option (T0l):=
((fL a0).bind λ(x0,_)=>
bif (!x0) then (some (a0,a1,true,(),0,())) else
bif decide (a1 < 0) then (some (a0,a1,true,(),0,())) else
some (a0,a1,(decide (a1 > 1073741824)),(),0,()):Option (LI×Int×Bool×Unit×Int×Unit)).bind λ(x0,x1,x2,x3,x4,_)=>
bif x2 then (some ([],0,1,())) else
let x5:=dM x0.length;
(dZ x5).bind λx6=>
(dZ x5).bind λx7=>
bif (nL x6 x7 1) then let x8:List (Int):=(List.replicate x6 0);
let x9:=w64 (40503*x1);
let ac:=wk .u16 x9;
bif (x5 != 0) then let ae:Int:=(w64 (Int.tdiv x1 x5));
let af:=Int.tmod ae 50;
let ag:=w64 (1+af);
(dR pH NN (x0,x1,x5,ag,x5,0,x3,x4,x8,ac,())).bind λ(ah,ai,aj,ak,am,an,ap,aq,av,ax,ay,_)=>
some (ax,ay,0,()) else none else none
def Dg:X.Cfg:=⟨E0,[mq],[],[⟨2,0,qE,[(.normal,(qS [(sP 0 RI),(sP 1 I64),(pP 4 10),(sP 21 .bool)] [(10,(uL [N1,CW]))]))]⟩,(lx 9 1 [(sP 0 RI),(sP 1 I64),(pP 4 10),(sP 6 I64),(pP 7 16),(sP 8 I64),(sP 36 I64),(sP 37 I64)] [(10,(uL [N1,CW])),(16,(uL [(.row true I64),CW]))] 38)]⟩
def uZ:Ctr:=⟨37,15,(uL [RI,I64]),[],[⟨(uL [(.row true I64),CW,I64]),[.agg 2,.one],[]⟩],ap2 nu⟩
theorem Cz:Lk 2 uZ:=ls (C:=Dg) rfl (aC oK aN) (by kernel_rfl) λh=>by kernel_rfl
def mc(a0:List (Int)) (a1:List (Int)) (a2:Int):Option (LI×T0g):=
(dL 1048576 a1 a2).bind λ(x0,x1)=>
(nu a0 x0).bind λ(x3,x4,x5,_)=>
some (x3,x4,x1)
def Bq:X.Cfg:=⟨E0,[fG,uZ],[],[]⟩
def tC:Ctr:=⟨134,16,[.ptr ⟨2,0,[]⟩ [0],shU RI],[(2,(uL [RI,I64]))],[⟨(uL [(.row true I64),CW]),[.agg 2],[(2,(uL [RI,I64]))]⟩],ap3 mc⟩
theorem AF:Lk 4 tC:=ls (C:=Bq) rfl (aC f6 (aC Cz aN)) (by kernel_rfl) λh=>by kernel_rfl
def jF(a0:Int) (a1:Int) (a2:Int) (a3:Int):Option (Bool×Unit):=
bif (a0==0) then (bif (a2==0) then (some ((a3==0),())) else
some (false,())) else
bif (a0==2) then (bif (a2==0) then (some ((a3==0),())) else
some (false,())) else
bif (a0==1) then (bif (a2==(-1)) then (bif (a1==0) then (bif decide (a3>=0) then (some ((decide (a3<=65535)),())) else
some (false,())) else
some (false,())) else
bif (a1==0) then (bif decide (a2>=0) then (bif decide (a2 < 4) then (bif decide (a3>=0) then (some ((decide (a3 < 32)),())) else
some (false,())) else
some (false,())) else
some (false,())) else
some (false,())) else
some (false,())
def C4:X.Cfg:=⟨E0,[],[],[]⟩
def qh:Ctr:=⟨172,17,[.agg (uL [CB,CW,I64,I64])],[],[⟨(uL [.bool]),[.one],[]⟩],ap4 jF⟩
theorem ux:Lk 1 qh:=ls (C:=C4) rfl aN (by kernel_rfl) λh=>by kernel_rfl
def jo:LDCn×Int×T0j->Option ((LDCn×Int×T0j)⊕((Bool×Unit)⊕(LDCn×Int×LDCn×T0d))):=λ(v0,v1,v2,v3,v4,_)=>
bif decide (v4 < v3) then ((dZ v4).bind λx0=>
(dI v2 x0).bind λx1=>
(jF x1.1 x1.2.1 x1.2.2.1 x1.2.2.2).bind λ(x2,_)=>
bif (!x2) then (some (.inr (.inl (false,())))) else
let x3:=w64 (v4+1);
some (.inl (v0,v1,v2,v3,x3,()))) else
some (.inr (.inr (v0,v1,v2,v3,v4,false,())))
def fm(a0:LDCn) (a1:Int):Option (Bool×Unit):=
let x0:=dM a0.length;
(match dR jo NN (a0,a1,a0,x0,0,()) with
| none=>none
| some (.inl (x1,_))=>
some (x1,())
| some (.inr (x1,x2,_))=>
let x7:=dM x1.length;
some ((decide (x7<=x2)),()))
def AZ:X.Cfg:=⟨E0,[qh],[],[⟨3,0,(qS [(sP 0 ef),(sP 1 I64),(sP 7 ef),(sP 8 I64),(sP 9 I64)] []),[(.ret,(qS [(sP 4 .bool)] [])),(.exit 0,(qS [(sP 0 ef),(sP 1 I64),(sP 7 ef),(sP 8 I64),(sP 9 I64),(sP 10 .bool)] []))]⟩]⟩
def gu:Ctr:=⟨107,18,(uL [ef,I64]),[],[⟨(uL [.bool]),[.one],[]⟩],ap2 fm⟩
theorem hJ:Lk 2 gu:=ls (C:=AZ) rfl (aC ux aN) (by kernel_rfl) λh=>by kernel_rfl
def jn:T0V->Option (T0V⊕((Bool×Unit)⊕(LLCn×T0K))):=λ(v0,v1,v2,v3)=>
bif decide (v2 < v1) then ((dZ v2).bind λx0=>
(dI v0 x0).bind λx1=>
(fm x1 64).bind λ(x2,_)=>
bif (!x2) then (some (.inr (.inl (false,())))) else
let x3:=w64 (v2+1);
some (.inl (v0,v1,x3,v3))) else
some (.inr (.inr (v0,v1,v2,false,v3)))
def lH:LDOp×T0u->Option ((LDOp×T0u)⊕((Bool×Unit)⊕(LDOp×T0K))):=λ(v0,v1,v2,v3,v4,_)=>
bif decide (v2 < v1) then ((dZ v2).bind λx0=>
(dI v0 x0).bind λx1=>
(bif (x1.1==(-1)) then (bif (x1.2.1 != 0) then (some (v0,v1,v2,true,v3,v4,x1.1,x1.2.1,x1.2.2,())) else
bif x1.2.2 then (some (v0,v1,v2,true,v3,v4,x1.1,x1.2.1,x1.2.2,())) else
bif (decide (x1.1 < (-1))) then (some (v0,v1,v2,true,v3,v4,x1.1,x1.2.1,x1.2.2,())) else
let x2:=dM v3.length;
bif decide (x1.1>=x2) then (some (v0,v1,v2,true,v3,v4,x1.1,x1.2.1,x1.2.2,())) else
bif decide (x1.1>=0) then (bif decide (x1.2.1 < 0) then (some (v0,v1,v2,true,v3,v4,x1.1,x1.2.1,x1.2.2,())) else
(dZ x1.1).bind λx3=>
(dI v3 x3).bind λx4=>
let x5:=dM x4.length;
some (v0,v1,v2,(decide (x1.2.1 > x5)),v3,v4,x1.1,x1.2.1,x1.2.2,())) else
some (v0,v1,v2,false,v3,v4,x1.1,x1.2.1,x1.2.2,())) else
bif (decide (x1.1 < (-1))) then (some (v0,v1,v2,true,v3,v4,x1.1,x1.2.1,x1.2.2,())) else
let x2:=dM v3.length;
bif decide (x1.1>=x2) then (some (v0,v1,v2,true,v3,v4,x1.1,x1.2.1,x1.2.2,())) else
bif decide (x1.1>=0) then (bif decide (x1.2.1 < 0) then (some (v0,v1,v2,true,v3,v4,x1.1,x1.2.1,x1.2.2,())) else
(dZ x1.1).bind λx3=>
(dI v3 x3).bind λx4=>
let x5:=dM x4.length;
some (v0,v1,v2,(decide (x1.2.1 > x5)),v3,v4,x1.1,x1.2.1,x1.2.2,())) else
some (v0,v1,v2,false,v3,v4,x1.1,x1.2.1,x1.2.2,()):Option (LDOp×Int×Int×Bool×LLCn×LDOp×T0d)).bind λ(x2,x3,x4,x5,x6,x7,_)=>
bif x5 then (some (.inr (.inl (false,())))) else
let ae:=w64 (x4+1);
some (.inl (x2,x3,ae,x6,x7,()))) else
some (.inr (.inr (v0,v1,v2,false,v3,v4,())))
def jW(a0:List LDCn) (a1:LDOp):Option (Bool×Unit):=
let x0:=dM a0.length;
bif decide (x0 > 4) then (some (false,())) else
let x1:=dM a1.length;
bif (x1 != 8) then (some (false,())) else
let x2:=dM a0.length;
(match dR jn NN (a0,x2,0,a0,a1,()) with
| none=>none
| some (.inl (x3,_))=>
some (x3,())
| some (.inr (x3,x4,x5,x6,x7,x8,_))=>
let x9:=dM x8.length;
(match dR lH NN (x8,x9,0,x7,x8,()) with
| none=>none
| some (.inl (ac,_))=>
some (ac,())
| some (.inr (ac,_))=>
some (true,())))
def AP:X.Cfg:=⟨E0,[gu],[],[⟨6,0,(qS [(pP 1 4),(sP 18 (.row false ef)),(sP 19 I64),(sP 20 I64)] [(4,(uL [(.row false ef),gR]))]),[(.ret,(qS [(sP 2 .bool)] [])),(.exit 0,(qS [(pP 1 4),(sP 18 (.row false ef)),(sP 19 I64),(sP 20 I64),(sP 21 .bool)] [(4,(uL [(.row false ef),gR]))]))]⟩,⟨20,1,qE,[(.normal,(qS [(pP 1 4),(sP 29 gR),(sP 30 I64),(sP 31 I64),(sP 81 .bool)] [(4,(uL [(.row false ef),gR])),(14,(uL [I64,I64,.bool]))]))]⟩,⟨15,2,(qS [(pP 1 4),(sP 29 gR),(sP 30 I64),(sP 31 I64)] [(4,(uL [(.row false ef),gR]))]),[(.ret,(qS [(sP 2 .bool)] [])),(.exit 2,(qS [(pP 1 4),(sP 29 gR),(sP 30 I64),(sP 31 I64),(sP 32 .bool)] [(4,(uL [(.row false ef),gR]))]))]⟩]⟩
def oR:Ctr:=⟨221,19,[.agg (uL [(.row false ef),gR])],[],[⟨(uL [.bool]),[.one],[]⟩],ap2 jW⟩
theorem sB:Lk 3 oR:=ls (C:=AP) rfl (aC hJ aN) (by kernel_rfl) λh=>by kernel_rfl
def ra:T1x->Option (T1x⊕(LLI×Int×Int×Bool×T0H)):=λ(v0,v1,v2,v3,v4,v5,v6,_)=>
bif decide (v2 < v1) then ((dZ v2).bind λx0=>
(dI v6 x0).bind λx1=>
(dI v6 x0).bind λx2=>
let x3:=(List.modify v6 x0 λe=>((-1),e.2));
let x4:=w64 (v2+1);
some (.inl (v0,v1,x4,v3,v4,v5,x3,()))) else
some (.inr (v0,v1,v2,false,v3,v4,v5,v6,()))
def q9:T2m->Option (T2m⊕(LLI×Int×Int×LI×Int×Int×Bool×T0Y)):=λ(v0,v1,v2,v3,v4,v5,v6,v7,v8,v9,v10,_)=>
bif decide (v5 < v4) then ((dZ v5).bind λx0=>
(dI v3 x0).bind λx1=>
let x2:LDCn:=[(0,(x1,(0,0)))];
bif (dY 24 v10.length x2.length) then let x3:LDCn:=(List.append v10 x2);
let x4:=w64 (v5+1);
some (.inl (v0,v1,v2,v3,v4,x4,v6,v7,v8,v9,x3,())) else none) else
some (.inr (v0,v1,v2,v3,v4,v5,false,v6,v7,v8,v9,v10,()))
def q8:T1w->Option (T1w⊕(LLI×T1m)):=λ(v0,v1,v2,v3,v4,v5,v6,_)=>
bif decide (v2 < v1) then ((dZ v2).bind λx0=>
(dI v0 x0).bind λx1=>
let x2:=dM x1.length;
(dR q9 NN (v0,v1,v2,x1,x2,0,v3,v4,v5,v6,[],())).bind λ(x3,x4,x5,x6,x7,x8,x9,ac,ae,af,ag,ah,_)=>
bif (dY 24 af.length (List.length [ah])) then let ai:List LDCn:=(List.append af [ah]);
let aj:=w64 (x5+1);
some (.inl (x3,x4,aj,ac,ae,ai,ag,())) else none) else
some (.inr (v0,v1,v2,false,v3,v4,v5,v6,()))
def ot(a0:List LI):Option (LLCn×LDOp×Int×Unit):=
bif (nL 8 8 3) then let x0:LDOp:=(List.replicate 8 (0,(0,false)));
let x1:=dM x0.length;
(dR ra NN (a0,x1,0,(),(),(),x0,())).bind λ(x2,x3,x4,x5,x6,x7,x8,x9,_)=>
let ac:=dM x2.length;
(dR q8 NN (x2,ac,0,x6,x7,[],x9,())).bind λ(ae,af,ag,ah,ai,aj,ak,am,_)=>
(jW ak am).bind λ(an,_)=>
bif (!an) then (some ([],[],3,())) else
some (ak,am,0,()) else none
def Ev:X.Cfg:=⟨E0,[oR],[(46,(.row true KCn)),(47,(.row true KCn))],[(lx 4 0 [(sP 0 (.row false RW)),(pP 2 6),(pP 4 10),(sP 15 I64),(sP 16 I64)] [(6,(uL [N1,N1])),(10,(uL [N1,(.row true KOp)]))] 17),⟨19,1,(qS [(pP 2 6),(pP 4 10),(8,.pk ⟨19,0,[]⟩ [0,0]),(sP 25 (.row false RW)),(sP 26 I64),(sP 27 I64),(sP 31 RW),(sP 32 I64),(sP 33 I64)] [(6,(uL [N1,N1])),(10,(uL [(.row true (.row true KCn)),(.row true KOp)])),(19,(uL [(.row true KCn)]))]),[(.exit 4,(qS [(pP 2 6),(pP 4 10),(8,.pk ⟨19,0,[]⟩ [0,0]),(sP 25 (.row false RW)),(sP 26 I64),(sP 27 I64),(sP 31 RW),(sP 32 I64),(sP 33 I64),(sP 34 .bool)] [(6,(uL [N1,N1])),(10,(uL [(.row true (.row true KCn)),(.row true KOp)])),(19,(uL [(.row true KCn)]))]))]⟩,⟨11,2,(qS [(pP 2 6),(pP 4 10),(sP 25 (.row false RW)),(sP 26 I64),(sP 27 I64)] [(6,(uL [N1,N1])),(10,(uL [(.row true (.row true KCn)),(.row true KOp)]))]),[(.exit 2,(qS [(pP 2 6),(pP 4 10),(sP 25 (.row false RW)),(sP 26 I64),(sP 27 I64),(sP 28 .bool)] [(6,(uL [N1,N1])),(10,(uL [(.row true (.row true KCn)),(.row true KOp)]))]))]⟩]⟩
def xB:Ctr:=⟨226,20,(uL [(.row false RW)]),[],[⟨(uL [(.row true (.row true KCn)),(.row true KOp),I64]),[.agg 2,.one],[]⟩],ap1 ot⟩
theorem Ej:Lk 4 xB:=ls (C:=Ev) rfl (aC sB aN) (by kernel_rfl) λh=>by kernel_rfl
def fB:LLI×Int×Int×LLI×Unit->Option ((LLI×Int×Int×LLI×Unit)⊕(LLI×Int×Int×Bool×LLI×Unit)):=λ(v0,v1,v2,v3,_)=>
bif decide (v2 < v1) then ((dZ v2).bind λx0=>
(dI v0 x0).bind λx1=>
bif (dY 2 0 x1.length) then let x2:List (Int):=(List.append [] x1);
bif (dY 24 v3.length (List.length [x2])) then let x3:List LI:=(List.append v3 [x2]);
let x4:=w64 (v2+1);
some (.inl (v0,v1,x4,x3,())) else none else none) else
some (.inr (v0,v1,v2,false,v3,()))
def fE(a0:List LI):Option (LLI×Unit):=
let x0:=dM a0.length;
(dR fB NN (a0,x0,0,[],())).bind λ(x1,x2,x3,x4,x5,_)=>
some (x5,())
def sM:X.Cfg:=⟨E0,[],[(15,(.row true CW)),(16,(.row true CW))],[(lx 4 0 [(3,.pk ⟨9,0,[]⟩ [0,0]),(sP 6 (.row false RW)),(sP 7 I64),(sP 8 I64)] [(9,(uL [(.row true (.row true CW))]))] 9)]⟩
def iu:Ctr:=⟨223,21,(uL [(.row false RW)]),[],[⟨(uL [(.row true (.row true CW))]),[.one],[]⟩],ap1 fE⟩
theorem kn:Lk 1 iu:=ls (C:=sM) rfl aN (by kernel_rfl) λh=>by kernel_rfl
def ir:LDOu×T02->Option ((LDOu×T02)⊕((Bool×Unit)⊕(LDOu×T0d))):=λ(v0,v1,v2,_)=>
bif decide (v2 < v1) then ((dZ v2).bind λx0=>
(dI v0 x0).bind λx1=>
(bif (x1.1 != v2) then (some (v0,v1,v2,true,())) else
bif decide (x1.2.1 < 0) then (some (v0,v1,v2,true,())) else
bif decide (x1.2.1>=2) then (some (v0,v1,v2,true,())) else
let x2:=dM x1.2.2.length;
some (v0,v1,v2,(decide (x2 > 16)),()):Option (LDOu×T0d)).bind λ(x2,x3,x4,x5,_)=>
bif x5 then (some (.inr (.inl (false,())))) else
let x6:=w64 (x4+1);
some (.inl (x2,x3,x6,()))) else
some (.inr (.inr (v0,v1,v2,false,())))
def jV(a0:LDOu):Option (Bool×Unit):=
let x0:=dM a0.length;
(match dR ir NN (a0,x0,0,()) with
| none=>none
| some (.inl (x1,_))=>
some (x1,())
| some (.inr (x1,_))=>
some (true,()))
def wT:X.Cfg:=⟨E0,[],[],[⟨8,0,qE,[(.normal,(qS [(sP 5 ja),(sP 6 I64),(sP 7 I64),(sP 31 .bool)] []))]⟩,⟨3,1,(qS [(sP 5 ja),(sP 6 I64),(sP 7 I64)] []),[(.ret,(qS [(sP 2 .bool)] [])),(.exit 0,(qS [(sP 5 ja),(sP 6 I64),(sP 7 I64),(sP 8 .bool)] []))]⟩]⟩
def p9:Ctr:=⟨222,22,(uL [ja]),[],[⟨(uL [.bool]),[.one],[]⟩],ap1 jV⟩
theorem wD:Lk 1 p9:=ls (C:=wT) rfl aN (by kernel_rfl) λh=>by kernel_rfl
def jm:T21->Option (T21⊕((Bool×Unit)⊕(LLI×T1L))):=λ(v0,v1,v2,v3)=>
bif decide (v2 < v1) then ((dZ v2).bind λx0=>
(dI v0 x0).bind λx1=>
let x2:=dM x1.length;
bif decide (x2 > 64) then (some (.inr (.inl (false,())))) else
let x3:=w64 (v2+1);
some (.inl (v0,v1,x3,v3))) else
some (.inr (.inr (v0,v1,v2,false,v3)))
def jl:T1V->Option (T1V⊕((Bool×Unit)⊕(LDOu×T1L))):=λ(v0,v1,v2,v3)=>
bif decide (v2 < v1) then ((dZ v2).bind λx0=>
(dI v0 x0).bind λx1=>
(fm x1.2.2 16).bind λ(x2,_)=>
bif (!x2) then (some (.inr (.inl (false,())))) else
let x3:=w64 (v2+1);
some (.inl (v0,v1,x3,v3))) else
some (.inr (.inr (v0,v1,v2,false,v3)))
def iR(a0:List (Int)) (a1:List (Int)) (a2:List LI) (a3:List LDCn) (a4:LDOp) (a5:LDOu):Option (Bool×Unit):=
let x0:=dM a2.length;
(match dR jm NN (a2,x0,0,a0,a1,a2,a3,a4,a5,()) with
| none=>none
| some (.inl (x1,_))=>
some (x1,())
| some (.inr (x1,x2,x3,x4,x5,x6,x7,x8,x9,ac,_))=>
let ae:=dM ac.length;
(match dR jl NN (ac,ae,0,x5,x6,x7,x8,x9,ac,()) with
| none=>none
| some (.inl (af,_))=>
some (af,())
| some (.inr (af,ag,ah,ai,aj,ak,am,an,ap,aq,_))=>
let av:=dM aj.length;
bif decide (av<=64) then (let ax:Int:=(dM ak.length);
bif decide (ax<=64) then (let ay:Int:=(dM am.length);
bif decide (ay<=2) then ((jW an ap).bind λ(az,_)=>
bif az then (let aA:Int:=(dM aq.length);
bif decide (aA<=200) then ((jV aq).bind λ(aB,_)=>
some (aB,())) else
some (false,())) else
some (false,())) else
some (false,())) else
some (false,())) else
some (false,())))
def AM:X.Cfg:=⟨E0,[gu,oR,p9],[],[⟨3,0,(qS [(pP 1 4),(sP 8 (.row false RW)),(sP 9 I64),(sP 10 I64)] [(4,(uL [RW,RW,(.row false RW),(.row false ef),gR,ja]))]),[(.ret,(qS [(sP 2 .bool)] [])),(.exit 0,(qS [(pP 1 4),(sP 8 (.row false RW)),(sP 9 I64),(sP 10 I64),(sP 11 .bool)] [(4,(uL [RW,RW,(.row false RW),(.row false ef),gR,ja]))]))]⟩,⟨12,1,(qS [(pP 1 4),(sP 19 ja),(sP 20 I64),(sP 21 I64)] [(4,(uL [RW,RW,(.row false RW),(.row false ef),gR,ja]))]),[(.ret,(qS [(sP 2 .bool)] [])),(.exit 2,(qS [(pP 1 4),(sP 19 ja),(sP 20 I64),(sP 21 I64),(sP 22 .bool)] [(4,(uL [RW,RW,(.row false RW),(.row false ef),gR,ja]))]))]⟩]⟩
def mj:Ctr:=⟨190,23,[.agg (uL [RW,RW,(.row false RW),(.row false ef),gR,ja])],[],[⟨(uL [.bool]),[.one],[]⟩],ap6 iR⟩
theorem oF:Lk 4 mj:=ls (C:=AM) rfl (aC hJ (aC sB (aC wD aN))) (by kernel_rfl) λh=>by kernel_rfl
def oq(a0:List LI) (a1:List LI) (a2:List (Int)) (a3:List (Int)):Option (LI×LI×LLI×LLCn×LDOp×Unit×Int×Unit):=
(ot a0).bind λ(x0,x1,x2,_)=>
bif (x2 != 0) then (some ([],[],[],[],[],(),x2,())) else
bif (dY 2 0 a2.length) then let x3:List (Int):=(List.append [] a2);
bif (dY 2 0 a3.length) then let x4:List (Int):=(List.append [] a3);
(fE a1).bind λ(x5,_)=>
(iR x3 x4 x5 x0 x1 []).bind λ(x6,_)=>
bif (!x6) then (some ([],[],[],[],[],(),3,())) else
some (x3,x4,x5,x0,x1,(),0,()) else none else none
def AN:X.Cfg:=⟨E0,[xB,iu,mj],[],[]⟩
def sV:Ctr:=⟨194,24,(uL [(.row false RW),(.row false RW),RW,RW]),[],[⟨(uL [RW,RW,(.row false RW),(.row false ef),gR,N1,I64]),[.agg 6,.one],[]⟩],ap4 oq⟩
theorem Aj:Lk 5 sV:=ls (C:=AN) rfl (aC Ej (aC kn (aC oF aN))) (by kernel_rfl) λh=>by kernel_rfl
def k9(a0:List (Int)) (a1:Int):Option (LI×LI×LLI×LLCn×LDOp×Unit×T06):=
(fR 5 a0 a1).bind λ(x0,x1,x2,_)=>
(fR 3 x1 x2).bind λ(x3,x4,x5,_)=>
let x6:List LI:=[x0,x3];
(fR 8 x4 x5).bind λ(x7,x8,x9,_)=>
(fR 4 x8 x9).bind λ(ac,ae,af,_)=>
let ag:List LI:=[x7,ac];
(fR 5 ae af).bind λ(ah,ai,aj,_)=>
(fR 5 ai aj).bind λ(ak,am)=>
(oq x6 ag ah ak).bind λ(ap,aq,av,ax,ay,az,aA,_)=>
some (ap,aq,av,ax,ay,az,am)
def yG:X.Cfg:=⟨E0,[qt,sV],[(10,(.row true CW)),(15,(.row true CW))],[]⟩
def rE:Ctr:=⟨135,25,[.ptr ⟨2,0,[]⟩ [0]],[(2,(uL [RI,I64]))],[⟨(uL [RW,RW,(.row false RW),(.row false ef),gR,N1]),[.agg 6],[(2,(uL [RI,I64]))]⟩],ap2 k9⟩
theorem yj:Lk 6 rE:=ls (C:=yG) rfl (aC uE (aC Aj aN)) (by kernel_rfl) λh=>by kernel_rfl
def jv:T2p->Option (T2p⊕((Bool×Unit)⊕T2w)):=λ(v0,v1,v2,v3,v4,v5,v6,v7,v8,v9,v10,v11,_)=>
bif decide (v1 < v0) then ((dZ v1).bind λx0=>
(dI v11 x0).bind λx1=>
(dI v11 x0).bind λx2=>
(bif decide (x2 < 0) then (some (v0,v1,true,v2,v3,v4,v5,v6,v7,v8,v9,v10,v11,())) else
bif decide (x2>=8) then (some (v0,v1,true,v2,v3,v4,v5,v6,v7,v8,v9,v10,v11,())) else
(dZ v1).bind λx3=>
bif (Nat.beq x3 0) then (bif (!v7) then (some (v0,v1,(x2 != 0),v2,v3,v4,v5,v6,v7,v8,v9,v10,v11,())) else
some (v0,v1,false,v2,v3,v4,v5,v6,v7,v8,v9,v10,v11,())) else
bif (Nat.beq x3 1) then (bif (!v8) then (some (v0,v1,(x2 != 0),v2,v3,v4,v5,v6,v7,v8,v9,v10,v11,())) else
some (v0,v1,false,v2,v3,v4,v5,v6,v7,v8,v9,v10,v11,())) else
bif (Nat.beq x3 2) then (bif (!v9) then (some (v0,v1,(x2 != 0),v2,v3,v4,v5,v6,v7,v8,v9,v10,v11,())) else
some (v0,v1,false,v2,v3,v4,v5,v6,v7,v8,v9,v10,v11,())) else
bif (Nat.beq x3 3) then bif (!v10) then (some (v0,v1,(x2 != 0),v2,v3,v4,v5,v6,v7,v8,v9,v10,v11,())) else
some (v0,v1,false,v2,v3,v4,v5,v6,v7,v8,v9,v10,v11,()) else none:Option (T2w)).bind λ(x3,x4,x5,x6)=>
bif x5 then (some (.inr (.inl (false,())))) else
let aj:=w64 (x4+1);
some (.inl (x3,aj,x6))) else
some (.inr (.inr (v0,v1,false,v2,v3,v4,v5,v6,v7,v8,v9,v10,v11,())))
def l7(a0:Int) (a1:Int) (a2:Int) (a3:Int) (a4:Int):Option (Bool×Unit):=
bif decide (a0 < 0) then (some (false,())) else
bif decide (a0 > 24) then (some (false,())) else
(jH a0).bind λ(x0,x1,x2,x3,_)=>
let x4:List (Int):=[a1,a2,a3];
let x5:=dM x4.length;
(match dR jv NN (x5,0,a0,a1,a2,a3,a4,x0,x1,x2,x3,x4,()) with
| none=>none
| some (.inl (x6,_))=>
some (x6,())
| some (.inr (x6,x7,x8,x9,ac,ae,af,ag,ah,ai,aj,ak,am,_))=>
(bif decide (ag < 0) then (some (true,x9,ac,ae,af,ag,())) else
bif decide (ag > 65535) then (some (true,x9,ac,ae,af,ag,())) else
bif (!ak) then (some ((ag != 0),x9,ac,ae,af,ag,())) else
some (false,x9,ac,ae,af,ag,()):Option (Bool×T0L)).bind λ(an,ap,aq,av,ax,ay,_)=>
bif an then (some (false,())) else
(gU ap).bind λ(az,_)=>
bif az then (some ((decide (ay < 64)),())) else
bif (ap==15) then (some ((decide (ay < 4)),())) else
bif (ap==23) then (some ((decide (ay<=15)),())) else
some (true,()))
def Ba:X.Cfg:=⟨E0,[ql,jL],[],[⟨12,0,qE,[(.normal,(qS [(pP 1 4),(pP 3 8),(23,.pk ⟨49,0,[]⟩ [0,0]),(sP 24 I64),(sP 25 I64),(sP 45 .bool)] [(4,(uL [I64,I64,I64,I64,I64])),(8,(uL [.bool,.bool,.bool,.bool])),(49,(uL [(.row true I64)]))]))]⟩,⟨7,1,(qS [(pP 1 4),(pP 3 8),(23,.pk ⟨49,0,[]⟩ [0,0]),(sP 24 I64),(sP 25 I64)] [(4,(uL [I64,I64,I64,I64,I64])),(8,(uL [.bool,.bool,.bool,.bool])),(49,(uL [(.row true I64)]))]),[(.ret,(qS [(sP 2 .bool)] [])),(.exit 0,(qS [(pP 1 4),(pP 3 8),(23,.pk ⟨49,0,[]⟩ [0,0]),(sP 24 I64),(sP 25 I64),(sP 26 .bool)] [(4,(uL [I64,I64,I64,I64,I64])),(8,(uL [.bool,.bool,.bool,.bool])),(49,(uL [(.row true I64)]))]))]⟩,⟨15,2,qE,[(.normal,(qS [(pP 1 4),(sP 64 .bool)] [(4,(uL [I64,I64,I64,I64,I64]))]))]⟩]⟩
def to:Ctr:=⟨175,26,[.agg (uL [I64,I64,I64,I64,I64])],[],[⟨(uL [.bool]),[.one],[]⟩],ap5 l7⟩
theorem Ax:Lk 2 to:=ls (C:=Ba) rfl (aC uA (aC lC aN)) (by kernel_rfl) λh=>by kernel_rfl
def ju:T1i->Option (T1i⊕((Int×Unit)⊕T1v)):=λ(v0,v1,v2,v3,v4,v5,_)=>
bif decide (v2 < v1) then ((dZ v2).bind λx0=>
(dI v0 x0).bind λx1=>
let x2:=dM x1.length;
(dZ v2).bind λx3=>
(dI v4 x3).bind λx4=>
bif decide (x2 > x4) then (some (.inr (.inl (1,())))) else
let x5:=w64 (v2+1);
some (.inl (v0,v1,x5,v3,v4,v5,()))) else
some (.inr (.inr (v0,v1,v2,false,v3,v4,v5,())))
def jt:T1a->Option (T1a⊕((Int×Unit)⊕T1u)):=λ(v0,v1,v2,v3)=>
bif decide (v2 < v1) then ((dZ v2).bind λx0=>
(dI v0 x0).bind λx1=>
(l7 x1.1 x1.2.1 x1.2.2.1 x1.2.2.2.1 x1.2.2.2.2).bind λ(x2,_)=>
bif (!x2) then (some (.inr (.inl (5,())))) else
let x3:=w64 (v2+1);
some (.inl (v0,v1,x3,v3))) else
some (.inr (.inr (v0,v1,v2,false,v3)))
def jq:T1a->Option (T1a⊕((Int×Unit)⊕T1u)):=λ(v0,v1,v2,v3,v4,v5,_)=>
bif decide (v2 < v1) then ((dZ v2).bind λx0=>
(dI v0 x0).bind λx1=>
((gU x1.1).bind λ(x2,_)=>
bif x2 then (let x3:Int:=(dM v3.length);
bif decide (x1.2.2.2.2>=x3) then (some (v0,v1,v2,true,v3,v4,v5,())) else
bif (x1.1==15) then (let x4:Int:=(dM v4.length);
some (v0,v1,v2,(decide (x1.2.2.2.2>=x4)),v3,v4,v5,())) else
some (v0,v1,v2,false,v3,v4,v5,())) else
bif (x1.1==15) then (let x3:Int:=(dM v4.length);
some (v0,v1,v2,(decide (x1.2.2.2.2>=x3)),v3,v4,v5,())) else
some (v0,v1,v2,false,v3,v4,v5,()):Option (T1u)).bind λ(x2,x3,x4,x5,x6)=>
bif x5 then (some (.inr (.inl (6,())))) else
let x9:=w64 (x4+1);
some (.inl (x2,x3,x9,x6))) else
some (.inr (.inr (v0,v1,v2,false,v3,v4,v5,())))
def iT(a0:LDIn) (a1:List (Int)) (a2:List LI):Option (Int×Unit):=
(fL a1).bind λ(x0,_)=>
bif (!x0) then (some (1,())) else
let x1:=dM a2.length;
let x2:=dM a1.length;
bif (x1 != x2) then (some (1,())) else
let x3:=dM a2.length;
(match dR ju NN (a2,x3,0,a0,a1,a2,()) with
| none=>none
| some (.inl (x4,_))=>
some (x4,())
| some (.inr (x4,x5,x6,x7,x8,x9))=>
let ae:=dM x8.length;
bif decide (ae < 1) then (some (3,())) else
let af:=dM x8.length;
bif decide (af > 64) then (some (3,())) else
let ag:=dM x8.length;
(match dR jt NN (x8,ag,0,x8,x9) with
| none=>none
| some (.inl (ah,_))=>
some (ah,())
| some (.inr (ah,ai,aj,ak,am,an))=>
let aq:=dM am.length;
(match dR jq NN (am,aq,0,am,an) with
| none=>none
| some (.inl (av,_))=>
some (av,())
| some (.inr (av,_))=>
some (0,()))))
def A9:X.Cfg:=⟨E0,[mq,to,jL],[],[⟨6,0,(qS [(pP 1 4),(sP 23 (.row false RW)),(sP 24 I64),(sP 25 I64)] [(4,(uL [eZ,RI,(.row false RW)]))]),[(.ret,(qS [(sP 2 I64)] [])),(.exit 0,(qS [(pP 1 4),(sP 23 (.row false RW)),(sP 24 I64),(sP 25 I64),(sP 26 .bool)] [(4,(uL [eZ,RI,(.row false RW)]))]))]⟩,⟨18,1,(qS [(pP 1 4),(sP 50 eZ),(sP 51 I64),(sP 52 I64)] [(4,(uL [eZ,RI,(.row false RW)]))]),[(.ret,(qS [(sP 2 I64)] [])),(.exit 2,(qS [(pP 1 4),(sP 50 eZ),(sP 51 I64),(sP 52 I64),(sP 53 .bool)] [(4,(uL [eZ,RI,(.row false RW)]))]))]⟩,⟨32,2,qE,[(.normal,(qS [(pP 1 4),(sP 61 eZ),(sP 62 I64),(sP 63 I64),(sP 90 .bool)] [(4,(uL [eZ,RI,(.row false RW)]))]))]⟩,⟨27,3,(qS [(pP 1 4),(sP 61 eZ),(sP 62 I64),(sP 63 I64)] [(4,(uL [eZ,RI,(.row false RW)]))]),[(.ret,(qS [(sP 2 I64)] [])),(.exit 4,(qS [(pP 1 4),(sP 61 eZ),(sP 62 I64),(sP 63 I64),(sP 64 .bool)] [(4,(uL [eZ,RI,(.row false RW)]))]))]⟩]⟩
def mo:Ctr:=⟨112,27,[.agg (uL [eZ,RI,(.row false RW)])],[],[⟨(uL [I64]),[.one],[]⟩],ap3 iT⟩
theorem oI:Lk 3 mo:=ls (C:=A9) rfl (aC oK (aC Ax (aC lC aN))) (by kernel_rfl) λh=>by kernel_rfl
def fh:T2l->Option (T2l⊕((Bool×Unit)⊕T2u)):=λ(v0,v1,v2,v3,v4,v5,v6,v7,v8,v9)=>
bif decide (v8 < v7) then ((match ((dZ v8).bind λx0=>
(dI v6 x0).bind λx1=>
(dZ v1).bind λx2=>
(dI v0 x2).bind λx3=>
let x4:=w64 (v2+x3);
bif decide (x4>=x1) then ((dZ v8).bind λx5=>
(dI v0 x5).bind λx6=>
let x7:=w64 (x1+x6);
bif decide (x7>=v2) then (some (.inl (false,()))) else
some (.inr (v0,v1,v2,v3,v4,v5,v6,v7,v8,false,v9))) else
some (.inr (v0,v1,v2,v3,v4,v5,v6,v7,v8,false,v9)):Option ((Bool×Unit)⊕T2u)) with
| none=>none
| some (.inl (x0,_))=>
some (.inr (.inl (x0,())))
| some (.inr (x0,x1,x2,x3,x4,x5,x6,x7,x8,x9,ac))=>
let af:=w64 (x8+1);
some (.inl (x0,x1,x2,x3,x4,x5,x6,x7,af,ac)))) else
some (.inr (.inr (v0,v1,v2,v3,v4,v5,v6,v7,v8,false,v9)))
def ff:T1e->Option (T1e⊕((Bool×Unit)⊕(LI×T1c))):=λ(v0,v1,v2,v3,v4,v5,_)=>
bif decide (v3 < v2) then ((dZ v3).bind λx0=>
(dI v1 x0).bind λx1=>
bif decide (x1 < 0) then (some (.inr (.inl (false,())))) else
(dZ v3).bind λx2=>
(dI v0 x2).bind λx3=>
let x4:=w64 (512 - x3);
bif decide (x1 > x4) then (some (.inr (.inl (false,())))) else
(dZ v3).bind λx5=>
bif (gS 0 x5 v4.length) then let x6:List (Int):=(jN v4 0 (Nat.sub x5 0));
let x7:=dM x6.length;
(match dR fh NN (v0,v3,x1,v1,v2,v3,x6,x7,0,v4,v5,()) with
| none=>none
| some (.inl (x8,_))=>
some (.inr (.inl (x8,())))
| some (.inr (x8,x9,ac,ae,af,ag,ah,ai,aj,ak,am))=>
let ap:=w64 (ag+1);
some (.inl (x8,ae,af,ap,am))) else none) else
some (.inr (.inr (v0,v1,v2,v3,false,v4,v5,())))
def fK(a0:List (Int)) (a1:Int) (a2:List (Int)):Option (Bool×Unit):=
(fL a2).bind λ(x0,_)=>
bif (!x0) then (some (false,())) else
let x1:=dM a0.length;
let x2:=dM a2.length;
bif (x1 != x2) then (some (false,())) else
let x3:=dM a0.length;
(match dR ff NN (a2,a0,x3,0,a0,a1,()) with
| none=>none
| some (.inl (x4,_))=>
some (x4,())
| some (.inr (x4,_))=>
some (true,()))
def Bf:X.Cfg:=⟨E0,[mq],[],[⟨18,0,qE,[(.ret,(qS [(sP 4 .bool)] [])),(.normal,(qS [(sP 1 RI),(pP 2 6),(sP 5 I64),(sP 6 I64),(sP 21 RI),(sP 22 I64),(sP 23 I64),(sP 42 RI),(sP 43 I64),(sP 44 I64),(sP 66 .bool)] [(6,(uL [RI,CW]))]))]⟩,⟨15,1,(qS [(sP 1 RI),(pP 2 6),(sP 5 I64),(sP 6 I64),(sP 21 RI),(sP 22 I64),(sP 23 I64),(sP 42 RI),(sP 43 I64),(sP 44 I64)] [(6,(uL [RI,CW]))]),[(.ret,(qS [(sP 4 .bool)] [])),(.exit 2,(qS [(sP 1 RI),(pP 2 6),(sP 5 I64),(sP 6 I64),(sP 21 RI),(sP 22 I64),(sP 23 I64),(sP 42 RI),(sP 43 I64),(sP 44 I64),(sP 45 .bool)] [(6,(uL [RI,CW]))]))]⟩,⟨6,2,(qS [(sP 1 RI),(pP 2 6),(sP 21 RI),(sP 22 I64),(sP 23 I64)] [(6,(uL [RI,CW]))]),[(.ret,(qS [(sP 4 .bool)] [])),(.exit 0,(qS [(sP 1 RI),(pP 2 6),(sP 21 RI),(sP 22 I64),(sP 23 I64),(sP 24 .bool)] [(6,(uL [RI,CW]))]))]⟩]⟩
def kA:Ctr:=⟨85,28,[.agg (uL [RI,CW]),shU RI],[],[⟨(uL [.bool]),[.one],[]⟩],ap3 fK⟩
theorem mg:Lk 2 kA:=ls (C:=Bf) rfl (aC oK aN) (by kernel_rfl) λh=>by kernel_rfl
def vi:T0f->Option (T0f⊕(Int×Int×Bool×LDLn×Unit)):=λ(v0,v1,v2,_)=>
bif decide (v1 < v0) then ((dZ v1).bind λx0=>
(dI v2 x0).bind λx1=>
(dI v2 x0).bind λx2=>
let x3:=(List.modify v2 x0 λe=>((-1),e.2));
let x4:=w64 (v1+1);
some (.inl (v0,x4,x3,()))) else
some (.inr (v0,v1,false,v2,()))
def l8:Option (LDLn×Unit):=
bif (nL 4 4 3) then let x0:LDLn:=(List.replicate 4 (0,(false,[])));
let x1:=dM x0.length;
(dR vi NN (x1,0,x0,())).bind λ(x2,x3,x4,x5,_)=>
some (x5,()) else none
def Be:X.Cfg:=⟨E0,[],[(3,LN)],[(lx 4 0 [(1,.pk ⟨5,0,[]⟩ [0,0]),(sP 5 I64),(sP 6 I64)] [(5,(uL [iZ]))] 7)]⟩
def oY:Ctr:=⟨86,29,[],[],[⟨(uL [iZ]),[.one],[]⟩],λh=>l8⟩
theorem sH:Lk 1 oY:=ls (C:=Be) rfl aN (by kernel_rfl) λh=>by kernel_rfl
def gL:T2J->Option (T2J⊕(Int×LLI×Int×Int×LI×T2o)):=λ(v0,v1,v2,v3,v4,v5,v6,v7,v8,v9,v10,v11,v12,v13,v14,v15,_)=>
bif decide (v6 < v5) then ((dZ v6).bind λx0=>
(dI v4 x0).bind λx1=>
(dZ v0).bind λx2=>
(dI v10 x2).bind λx3=>
let x4:=w64 (x3+v6);
(dZ x4).bind λx5=>
(dI v14 x5).bind λx6=>
(dI v14 x5).bind λx7=>
let x8:=List.modify v14 x5 λe=>(e.1,x1);
let x9:=w64 (v6+1);
some (.inl (v0,v1,v2,v3,v4,v5,x9,v7,v8,v9,v10,v11,v12,v13,x8,v15,()))) else
some (.inr (v0,v1,v2,v3,v4,v5,v6,false,v7,v8,v9,v10,v11,v12,v13,v14,v15,()))
def iF:T2v->Option (T2v⊕(T0h⊕T2A)):=λ(v0,v1,v2,v3,v4,v5)=>
bif decide (v2 < v1) then ((dZ v2).bind λx0=>
(dI v0 x0).bind λx1=>
let x2:=dM x1.length;
(dZ v2).bind λx3=>
(dI v4 x3).bind λx4=>
bif decide (x2 > x4) then (some (.inr (.inl (1,(),(),())))) else
let x5:=dM x1.length;
(dR gL NN (v2,v0,v1,v2,x1,x5,0,v3,v4,v5)).bind λ(x6,x7,x8,x9,ac,ae,af,ag,ah)=>
let ax:=w64 (x9+1);
some (.inl (x7,x8,ax,ah))) else
some (.inr (.inr (v0,v1,v2,false,v3,v4,v5)))
def iG(a0:LDIn) (a1:List (Int)) (a2:List LI) (a3:List (Int)) (a4:Int):Option (LDCe×LDLn×Int×Unit):=
(fK a3 a4 a1).bind λ(x0,_)=>
bif (!x0) then (some ([],[],1,())) else
let x1:=dM a2.length;
let x2:=dM a1.length;
bif (x1 != x2) then (some ([],[],1,())) else
bif (nL 512 512 2) then let x3:LDCe:=(List.replicate 512 (0,0));
(l8).bind λ(x4,_)=>
let x5:=dM a2.length;
(match dR iF NN (a2,x5,0,a0,a1,a2,a3,a4,(),(),x3,x4,()) with
| none=>none
| some (.inl (x6,x7,x8,_))=>
some ([],[],x6,())
| some (.inr (x6,x7,x8,x9,ac,ae,af,ag,ah,ai,aj,ak,am,_))=>
some (ak,am,0,())) else none
def De:X.Cfg:=⟨E0,[kA,oY],[],[⟨16,0,(qS [(pP 2 6),(pP 3 8),(pP 4 10),(pP 6 14),(sP 7 I64),(sP 30 (.row false RW)),(sP 31 I64),(sP 32 I64),(sP 46 RW),(sP 47 I64),(sP 48 I64)] [(6,(uL [eZ,RI,(.row false RW)])),(8,(uL [RI,CW])),(10,(uL [N1,N1])),(14,(uL [(.row true KCe),iZ]))]),[(.exit 2,(qS [(pP 2 6),(pP 3 8),(pP 4 10),(pP 6 14),(sP 7 I64),(sP 30 (.row false RW)),(sP 31 I64),(sP 32 I64),(sP 46 RW),(sP 47 I64),(sP 48 I64),(sP 49 .bool)] [(6,(uL [eZ,RI,(.row false RW)])),(8,(uL [RI,CW])),(10,(uL [N1,N1])),(14,(uL [(.row true KCe),iZ]))]))]⟩,⟨7,1,(qS [(pP 2 6),(pP 3 8),(pP 4 10),(pP 6 14),(sP 30 (.row false RW)),(sP 31 I64),(sP 32 I64)] [(6,(uL [eZ,RI,(.row false RW)])),(8,(uL [RI,CW])),(10,(uL [N1,N1])),(14,(uL [(.row true KCe),iZ]))]),[(.ret,(qS [(pP 4 10),(sP 5 I64)] [(10,(uL [N1,N1]))])),(.exit 0,(qS [(pP 2 6),(pP 3 8),(pP 4 10),(pP 6 14),(sP 30 (.row false RW)),(sP 31 I64),(sP 32 I64),(sP 33 .bool)] [(6,(uL [eZ,RI,(.row false RW)])),(8,(uL [RI,CW])),(10,(uL [N1,N1])),(14,(uL [(.row true KCe),iZ]))]))]⟩]⟩
def qo:Ctr:=⟨30,30,[.agg (uL [eZ,RI,(.row false RW)]),.agg (uL [RI,CW])],[],[⟨(uL [(.row true KCe),iZ,I64]),[.agg 2,.one],[]⟩],ap5 iG⟩
theorem uC:Lk 3 qo:=ls (C:=De) rfl (aC mg (aC sH aN)) (by kernel_rfl) λh=>by kernel_rfl
def pi:T2g->Option (T2g⊕(Int×Bool×T2d)):=λ(v0,v1,v2,v3,v4,v5,v6,v7,v8,v9,v10,_)=>
bif decide (v0 < 4) then (bif (nL 8 8 2) then let x0:LDCe:=(List.replicate 8 (0,0));
(bif (v0==0) then (some (v0,v1,v2,v3,v4,v5,v6,v7,v8,v9,v10,1,x0,0,0,(-1),(-1),0,0,())) else
some (v0,v1,v2,v3,v4,v5,v6,v7,v8,v9,v10,0,x0,0,0,(-1),(-1),0,0,()):Option (Int×Unit×Int×Unit×Unit×Unit×T2y)).bind λ(x1,x2,x3,x4,x5,x6,x7,x8,x9,ac,ae,af,ag,ah,ai,aj,ak,am,an,_)=>
let ap:LDTh:=[(af,(ag,(ah,(ai,(aj,(ak,(am,an)))))))];
bif (dY 80 ae.length ap.length) then let aq:LDTh:=(List.append ae ap);
let av:=w64 (x1+1);
some (.inl (av,x2,x3,x4,x5,x6,x7,x8,x9,ac,aq,())) else none else none) else
some (.inr (v0,false,v1,v2,v3,v4,v5,v6,v7,v8,v9,v10,()))
def l6(a0:LDIn) (a1:List (Int)) (a2:List LI) (a3:List (Int)) (a4:Int):Option (LI×Int×LDCe×LDLn×LDTh×Int×Unit):=
(iT a0 a1 a2).bind λ(x0,_)=>
bif (x0 != 0) then (some ([],0,[],[],[],x0,())) else
(fK a3 a4 a1).bind λ(x1,_)=>
bif (!x1) then (some ([],0,[],[],[],1,())) else
(iG a0 a1 a2 a3 a4).bind λ(x2,x3,x4,_)=>
bif (dY 8 0 a3.length) then let x5:List (Int):=(List.append [] a3);
(dR pi NN (0,(),0,(),(),(),x5,a4,x2,x3,[],())).bind λ(x6,x7,x8,x9,ac,ae,af,ag,ah,ai,aj,ak,_)=>
some (ag,ah,ai,aj,ak,0,()) else none
def A8:X.Cfg:=⟨E0,[mo,kA,qo],[(49,NC),(50,NC)],[⟨18,0,qE,[(.normal,(qS [(pP 4 10),(pP 9 20),(pP 11 24),(sP 38 I64)] [(10,(uL [N1,CW,N1,N1,N1])),(20,(uL [RI,CW,eM,fi,pt])),(24,(uL [I64,(.row true KCe),I64,I64,I64,I64,I64,CW]))]))]⟩,(lx 12 1 [(pP 4 10),(pP 9 20),(sP 38 I64)] [(10,(uL [N1,CW,N1,N1,N1])),(20,(uL [RI,CW,eM,fi,pt]))] 39)]⟩
def tn:Ctr:=⟨122,31,[.agg (uL [eZ,RI,(.row false RW)]),.agg (uL [RI,CW])],[],[⟨(uL [RI,CW,eM,fi,pt,I64]),[.agg 5,.one],[]⟩],ap5 l6⟩
theorem Aw:Lk 4 tn:=ls (C:=A8) rfl (aC oI (aC mg (aC uC aN))) (by kernel_rfl) λh=>by kernel_rfl
def fA(a0:List (Int)) (a1:Int) (a2:Int):Option (Bool×Unit):=
bif decide (a1>=0) then (let x0:Int:=(dM a0.length);
bif decide (a1 < x0) then (bif decide (a2>=0) then ((dZ a1).bind λx1=>
(dI a0 x1).bind λx2=>
some ((decide (a2 < x2)),())) else
some (false,())) else
some (false,())) else
some (false,())
def yz:X.Cfg:=⟨E0,[],[],[]⟩
def jh:Ctr:=⟨162,32,[shU RI,.agg (uL [I64,I64])],[],[⟨(uL [.bool]),[.one],[]⟩],ap3 fA⟩
theorem lh:Lk 1 jh:=ls (C:=yz) rfl aN (by kernel_rfl) λh=>by kernel_rfl
def gy(a0:List (Int)) (a1:Int) (a2:Int) (a3:Int) (a4:Int):Option (Bool×Unit):=
bif (a1==0) then (bif (a3==0) then (some ((a4==0),())) else
some (false,())) else
bif (a1==2) then (bif (a3==0) then (some ((a4==0),())) else
some (false,())) else
bif (a1==1) then (bif (a2==0) then ((fA a0 a3 a4).bind λ(x0,_)=>
some (x0,())) else
some (false,())) else
some (false,())
def yy:X.Cfg:=⟨E0,[jh],[],[]⟩
def jg:Ctr:=⟨98,33,[shU RI,.agg (uL [CB,CW,I64,I64])],[],[⟨(uL [.bool]),[.one],[]⟩],ap5 gy⟩
theorem lf:Lk 2 jg:=ls (C:=yy) rfl (aC lh aN) (by kernel_rfl) λh=>by kernel_rfl
def iQ:T1Z->Option (T1Z⊕((Bool×Unit)⊕(LI×LLCn×Int×Int×LDCn×T0K))):=λ(v0,v1,v2,v3,v4,v5,v6,v7)=>
bif decide (v6 < v5) then ((dZ v6).bind λx0=>
(dI v4 x0).bind λx1=>
(gy v0 x1.1 x1.2.1 x1.2.2.1 x1.2.2.2).bind λ(x2,_)=>
bif (!x2) then (some (.inr (.inl (false,())))) else
let x3:=w64 (v6+1);
some (.inl (v0,v1,v2,v3,v4,v5,x3,v7))) else
some (.inr (.inr (v0,v1,v2,v3,v4,v5,v6,false,v7)))
def iP:LI×T0V->Option ((LI×T0V)⊕((Bool×Unit)⊕(LI×LLCn×T0K))):=λ(v0,v1,v2,v3,v4)=>
bif decide (v3 < v2) then ((dZ v3).bind λx0=>
(dI v1 x0).bind λx1=>
let x2:=dM x1.length;
(match dR iQ NN (v0,v1,v2,v3,x1,x2,0,v4) with
| none=>none
| some (.inl (x3,_))=>
some (.inr (.inl (x3,())))
| some (.inr (x3,x4,x5,x6,x7,x8,x9,ac,ae))=>
let ag:=w64 (x6+1);
some (.inl (x3,x4,x5,ag,ae)))) else
some (.inr (.inr (v0,v1,v2,v3,false,v4)))
def kR(a0:List (Int)) (a1:List LDCn) (a2:LDOp):Option (Bool×Unit):=
let x0:=dM a1.length;
(match dR iP NN (a0,a1,x0,0,a1,a2,()) with
| none=>none
| some (.inl (x1,_))=>
some (x1,())
| some (.inr (x1,_))=>
some (true,()))
def yo:X.Cfg:=⟨E0,[jg],[],[⟨9,0,(qS [(sP 0 RI),(sP 10 (.row false ef)),(sP 11 I64),(sP 12 I64),(sP 16 ef),(sP 17 I64),(sP 18 I64)] [(8,(uL [(.row false ef),gR]))]),[(.ret,(qS [(sP 4 .bool)] [])),(.exit 2,(qS [(sP 0 RI),(sP 10 (.row false ef)),(sP 11 I64),(sP 12 I64),(sP 16 ef),(sP 17 I64),(sP 18 I64),(sP 19 .bool)] [(8,(uL [(.row false ef),gR]))]))]⟩,⟨3,1,(qS [(sP 0 RI),(sP 10 (.row false ef)),(sP 11 I64),(sP 12 I64)] [(8,(uL [(.row false ef),gR]))]),[(.ret,(qS [(sP 4 .bool)] [])),(.exit 0,(qS [(sP 0 RI),(sP 10 (.row false ef)),(sP 11 I64),(sP 12 I64),(sP 13 .bool)] [(8,(uL [(.row false ef),gR]))]))]⟩]⟩
def rp:Ctr:=⟨191,34,[shU RI,.agg (uL [(.row false ef),gR])],[],[⟨(uL [.bool]),[.one],[]⟩],ap3 kR⟩
theorem xY:Lk 3 rp:=ls (C:=yo) rfl (aC lf aN) (by kernel_rfl) λh=>by kernel_rfl
def iz:T20->Option (T20⊕(LLCn×T1N)):=λ(v0,v1,v2,v3,v4,v5,v6,v7,v8,_)=>
bif decide (v2 < v1) then ((dZ v2).bind λx0=>
(dI v0 x0).bind λx1=>
bif (dY 24 0 x1.length) then let x2:LDCn:=(List.append [] x1);
bif (dY 24 v7.length (List.length [x2])) then let x3:List LDCn:=(List.append v7 [x2]);
let x4:=w64 (v2+1);
some (.inl (v0,v1,x4,v3,v4,v5,v6,x3,v8,())) else none else none) else
some (.inr (v0,v1,v2,false,v3,v4,v5,v6,v7,v8,()))
def fO(a0:List LDCn) (a1:LDOp):Option (T08):=
bif (dY 24 0 a1.length) then let x0:LDOp:=(List.append [] a1);
let x1:=dM a0.length;
(dR iz NN (a0,x1,0,a0,a1,(),(),[],x0,())).bind λ(x2,x3,x4,x5,x6,x7,x8,x9,ac)=>
some (ac) else none
def CR:X.Cfg:=⟨E0,[],[(21,(.row true KCn)),(22,(.row true KCn))],[(lx 4 0 [(pP 2 6),(pP 3 8),(sP 11 (.row false ef)),(sP 12 I64),(sP 13 I64)] [(4,(uL [(.row false ef),gR])),(6,(uL [N1,N1])),(8,(uL [(.row true (.row true KCn)),(.row true KOp)]))] 14)]⟩
def iL:Ctr:=⟨224,35,[.agg (uL [(.row false ef),gR])],[],[⟨(uL [(.row true (.row true KCn)),(.row true KOp)]),[.agg 2],[]⟩],ap2 fO⟩
theorem jJ:Lk 1 iL:=ls (C:=CR) rfl aN (by kernel_rfl) λh=>by kernel_rfl
def iy:LDOu×Int×Int×LDOu×Unit->Option ((LDOu×Int×Int×LDOu×Unit)⊕(LDOu×Int×Int×Bool×LDOu×Unit)):=λ(v0,v1,v2,v3,_)=>
bif decide (v2 < v1) then ((dZ v2).bind λx0=>
(dI v0 x0).bind λx1=>
bif (dY 24 0 x1.2.2.length) then let x2:LDCn:=(List.append [] x1.2.2);
let x3:LDOu:=[(x1.1,(x1.2.1,x2))];
bif (dY 40 v3.length x3.length) then let x4:LDOu:=(List.append v3 x3);
let x5:=w64 (v2+1);
some (.inl (v0,v1,x5,x4,())) else none else none) else
some (.inr (v0,v1,v2,false,v3,()))
def jC(a0:LDOu):Option (LDOu×Unit):=
let x0:=dM a0.length;
(dR iy NN (a0,x0,0,[],())).bind λ(x1,x2,x3,x4,x5,_)=>
some (x5,())
def CM:X.Cfg:=⟨E0,[],[(18,E9),(19,E9)],[(lx 4 0 [(3,.pk ⟨9,0,[]⟩ [0,0]),(sP 6 ja),(sP 7 I64),(sP 8 I64)] [(9,(uL [(.row true E9)]))] 9)]⟩
def qa:Ctr:=⟨225,36,(uL [ja]),[],[⟨(uL [(.row true E9)]),[.one],[]⟩],ap1 jC⟩
theorem uu:Lk 1 qa:=ls (C:=CM) rfl aN (by kernel_rfl) λh=>by kernel_rfl
def lp(a0:List (Int)) (a1:List (Int)) (a2:List LI) (a3:List LDCn) (a4:LDOp) (a5:LDOu):Option (T1f):=
bif (dY 2 0 a0.length) then let x0:List (Int):=(List.append [] a0);
bif (dY 2 0 a1.length) then let x1:List (Int):=(List.append [] a1);
(fE a2).bind λ(x2,_)=>
(fO a3 a4).bind λ(x3,x4,_)=>
(jC a5).bind λ(x5,_)=>
some (x0,x1,x2,x3,x4,x5,()) else none else none
def CJ:X.Cfg:=⟨E0,[iu,iL,qa],[],[]⟩
def p7:Ctr:=⟨192,37,[.agg (uL [RW,RW,(.row false RW),(.row false ef),gR,ja])],[],[⟨(uL [(.row true CW),(.row true CW),(.row true (.row true CW)),(.row true (.row true KCn)),(.row true KOp),(.row true E9)]),[.agg 6],[]⟩],ap6 lp⟩
theorem ut:Lk 2 p7:=ls (C:=CJ) rfl (aC kn (aC jJ (aC uu aN))) (by kernel_rfl) λh=>by kernel_rfl
def xS:T15->Option (T15⊕T1l):=λ(v0,v1,v2,v3,v4,v5,_)=>
bif decide (v1 < v0) then ((dZ v1).bind λx0=>
(dI v4 x0).bind λx1=>
(dI v4 x0).bind λx2=>
let x3:=List.modify v4 x0 λe=>(-1);
let x4:=w64 (v1+1);
some (.inl (v0,x4,v2,v3,x3,v5,()))) else
some (.inr (v0,v1,false,v2,v3,v4,v5,()))
def rI:Option (T07):=
bif (nL 4 4 1) then let x0:List (Int):=(List.replicate 4 0);
bif (nL 4 4 1) then let x1:List LI:=(List.replicate 4 []);
let x2:=dM x0.length;
(dR xS NN (x2,0,(),(),x0,x1,())).bind λ(x3,x4,x5,x6,x7,x8)=>
some (x8) else none else none
def Ex:X.Cfg:=⟨E0,[],[(4,(.row true I64))],[(lx 4 0 [(pP 0 2),(pP 1 4),(sP 8 I64),(sP 9 I64)] [(2,(uL [N1,N1])),(4,(uL [(.row true I64),(.row true (.row true I64))]))] 10)]⟩
def xC:Ctr:=⟨193,38,[],[],[⟨(uL [(.row true I64),(.row true (.row true I64))]),[.agg 2],[]⟩],λh=>rI⟩
theorem Ek:Lk 1 xC:=ls (C:=Ex) rfl aN (by kernel_rfl) λh=>by kernel_rfl
def pe:T3q->Option (T3q⊕(Int×Bool×T3n)):=λ(v0,v1,v2,v3,v4,v5,v6,v7,v8,v9,v10,v11,v12,v13,v14,v15,v16,v17,v18,v19,v20,v21,v22,v23,v24,v25,v26,v27,v28,v29,v30,v31,v32,v33,v34,v35,v36,_)=>
bif decide (v0 < 4) then (bif (dY 8 v36.length (List.length [(-1)])) then let x0:List (Int):=(List.append v36 [(-1)]);
let x1:=w64 (v0+1);
some (.inl (x1,v1,v2,v3,v4,v5,v6,v7,v8,v9,v10,v11,v12,v13,v14,v15,v16,v17,v18,v19,v20,v21,v22,v23,v24,v25,v26,v27,v28,v29,v30,v31,v32,v33,v34,v35,x0,())) else none) else
some (.inr (v0,false,v1,v2,v3,v4,v5,v6,v7,v8,v9,v10,v11,v12,v13,v14,v15,v16,v17,v18,v19,v20,v21,v22,v23,v24,v25,v26,v27,v28,v29,v30,v31,v32,v33,v34,v35,v36,()))
def lP(a0:LDIn) (a1:List (Int)) (a2:List LI) (a3:List (Int)) (a4:Int) (a5:List (Int)) (a6:List (Int)) (a7:List LI) (a8:List LDCn) (a9:LDOp) (a10:LDOu):Option (LDIn×LI×LLI×LI×Int×LDCe×LDLn×LDTh×LI×LI×LLI×LLCn×LDOp×LDOu×LI×LLI×Unit×T06):=
(l6 a0 a1 a2 a3 a4).bind λ(x0,x1,x2,x3,x4,x5,_)=>
bif (x5 != 0) then (some ([],[],[],[],0,[],[],[],[],[],[],[],[],[],[],[],(),[],x5,())) else
(iR a5 a6 a7 a8 a9 a10).bind λ(x6,_)=>
bif (!x6) then (some ([],[],[],[],0,[],[],[],[],[],[],[],[],[],[],[],(),[],1,())) else
(kR a1 a8 a9).bind λ(x7,_)=>
bif (!x7) then (some ([],[],[],[],0,[],[],[],[],[],[],[],[],[],[],[],(),[],1,())) else
(lp a5 a6 a7 a8 a9 a10).bind λ(x8,x9,ac,ae,af,ag,_)=>
(rI).bind λ(ah,ai,_)=>
(dR pe NN (0,(),(),(),(),0,(),(),(),(),(),(),(),(),(),(),(),(),(),a0,a1,a2,x0,x1,x2,x3,x4,x8,x9,ac,ae,af,ag,ah,ai,(),[],())).bind λ(aj,ak,am,an,ap,aq,av,ax,ay,az,aA,aB,aD,aE,aF,aG,aH,aI,aJ,aK,aL,aM,aO,aP,aQ,aR,aS,aT,aU,aV,aW,aY,aZ,ba,bc,bd,be,bf,_)=>
some (aL,aM,aO,aP,aQ,aR,aS,aT,aU,aV,aW,aY,aZ,ba,bc,bd,be,bf,0,())
def AK:X.Cfg:=⟨E0,[tn,mj,rp,p7,xC],[],[(lx 11 0 [(pP 6 14),(pP 10 22),(sP 39 I64)] [(14,(uL [N1,N1,N1,N1,CW,N1,N1,N1,N1,N1,N1,N1,N1,N1,N1,N1,N1,N1])),(22,(uL [eZ,RI,(.row false RW),RI,CW,eM,fi,gd,RW,RW,(.row false RW),(.row false ef),gR,ja,RI,(.row false RI),N1,(.row true I64)]))] 40)]⟩
def sU:Ctr:=⟨133,39,[.agg (uL [eZ,RI,(.row false RW)]),.agg (uL [RI,CW]),.agg (uL [RW,RW,(.row false RW),(.row false ef),gR,ja])],[],[⟨(uL [eZ,RI,(.row false RW),RI,CW,eM,fi,gd,RW,RW,(.row false RW),(.row false ef),gR,ja,RI,(.row false RI),N1,(.row true I64),I64]),[.agg 18,.one],[]⟩],ap11 lP⟩
theorem Ai:Lk 5 sU:=ls (C:=AK) rfl (aC Aw (aC oF (aC xY (aC ut (aC Ek aN))))) (by kernel_rfl) λh=>by kernel_rfl
def md(a0:List (Int)) (a1:Int):Option (T0J):=
(dL 4 a0 a1).bind λ(x0,x1,x2,_)=>
let x3:List (Int):=[0,1,2,3,7,63];
(dL 6 x1 x2).bind λ(x4,x5,x6,_)=>
(dZ x4).bind λx7=>
(dI x3 x7).bind λx8=>
(dI x3 x7).bind λx9=>
(dL 4 x5 x6).bind λ(ac,ae)=>
some (x0,x9,(ac==0),ae)
def Br:X.Cfg:=⟨E0,[fG],[],[]⟩
def tD:Ctr:=⟨137,40,[.ptr ⟨2,0,[]⟩ [0]],[(2,(uL [RI,I64]))],[⟨(uL [I64,I64,.bool]),[.agg 3],[(2,(uL [RI,I64]))]⟩],ap2 md⟩
theorem AG:Lk 4 tD:=ls (C:=Br) rfl (aC f6 aN) (by kernel_rfl) λh=>by kernel_rfl
def ic:T0z->Option (T0z⊕(LDTh×Int×Int×T00)):=λ(v0,v1,v2,v3,_)=>
bif decide (v2 < v1) then (((dZ v2).bind λx0=>
(dI v0 x0).bind λx1=>
bif (x1.1==1) then (bif (dY 8 v3.length (List.length [v2])) then let x2:List (Int):=(List.append v3 [v2]);
some (v0,v1,v2,x2,()) else none) else
some (v0,v1,v2,v3,()):Option (T0z)).bind λ(x0,x1,x2,x3,_)=>
let x4:=w64 (x2+1);
some (.inl (x0,x1,x4,x3,()))) else
some (.inr (v0,v1,v2,false,v3,()))
def lZ(a0:LDTh):Option (LI×Unit):=
let x0:=dM a0.length;
(dR ic NN (a0,x0,0,[],())).bind λ(x1,x2,x3,x4,x5,_)=>
some (x5,())
def A5:X.Cfg:=⟨E0,[],[],[⟨7,0,qE,[(.normal,(qS [(3,.pk ⟨9,0,[]⟩ [0,0]),(sP 6 gd),(sP 7 I64),(sP 8 I64)] [(9,(uL [(.row true I64)]))]))]⟩,(lx 4 1 [(3,.pk ⟨9,0,[]⟩ [0,0]),(sP 6 gd),(sP 7 I64),(sP 8 I64)] [(9,(uL [(.row true I64)]))] 9)]⟩
def te:Ctr:=⟨195,41,(uL [gd]),[],[⟨(uL [(.row true I64)]),[.one],[]⟩],ap1 lZ⟩
theorem At:Lk 1 te:=ls (C:=A5) rfl aN (by kernel_rfl) λh=>by kernel_rfl
def kS(a0:LDIn) (a1:List (Int)) (a2:List LI) (a3:List (Int)) (a4:Int) (a5:LDCe) (a6:LDLn) (a7:LDTh) (a8:List (Int)) (a9:List (Int)) (a10:List LI) (a11:List LDCn) (a12:LDOp) (a13:LDOu) (a14:List (Int)) (a15:List LI) (a16:LDEn) (a17:List (Int)):Option (T2Q):=
bif (dY 8 0 a17.length) then let x0:List (Int):=(List.append [] a17);
bif (dY 184 0 a16.length) then let x1:LDEn:=(List.append [] a16);
some (a0,a1,a2,a3,a4,a5,a6,a7,a8,a9,a10,a11,a12,a13,a14,a15,x1,x0,()) else none else none
def yp:X.Cfg:=⟨E0,[],[(9,J8)],[]⟩
def rq:Ctr:=⟨196,42,[.agg (uL [eZ,RI,(.row false RW),RI,CW,eM,fi,gd,RW,RW,(.row false RW),(.row false ef),gR,ja,RI,(.row false RI),Ga,RI])],[],[⟨(uL [eZ,RI,(.row false RW),RI,CW,eM,fi,gd,RW,RW,(.row false RW),(.row false ef),gR,ja,RI,(.row false RI),(.row true sb),(.row true I64)]),[.agg 18],[]⟩],ap18 kS⟩
theorem xZ:Lk 1 rq:=ls (C:=yp) rfl aN (by kernel_rfl) λh=>by kernel_rfl
def mE(a0:List (Int)) (a1:Int) (a2:LDCe) (a3:LDLn) (a4:LDTh) (a5:Int):Option (Bool×Unit):=
bif decide (a5 < 0) then (some (false,())) else
let x0:=dM a4.length;
bif decide (a5>=x0) then (some (false,())) else
(dZ a5).bind λx1=>
(dI a4 x1).bind λx2=>
bif (x2.1==1) then (bif (x2.2.2.2.2.1 != (-1)) then (some ((x2.2.2.2.2.2.1==(-1)),())) else
some (false,())) else
some (false,())
def Ew:X.Cfg:=⟨E0,[],[],[]⟩
def r6:Ctr:=⟨197,43,[.agg (uL [RI,CW,eM,fi,gd]),shU I64],[],[⟨(uL [.bool]),[.one],[]⟩],ap6 mE⟩
theorem wF:Lk 1 r6:=ls (C:=Ew) rfl aN (by kernel_rfl) λh=>by kernel_rfl
def iH:T1U->Option (T1U⊕(LDLn×Int×Int×Bool×T19)):=λ(v0,v1,v2,v3,v4,v5,v6,v7,v8,_)=>
bif decide (v2 < v1) then ((dZ v2).bind λx0=>
(dI v0 x0).bind λx1=>
bif (dY 4 0 x1.2.2.length) then let x2:LDCe:=(List.append [] x1.2.2);
let x3:LDLn:=[(x1.1,(x1.2.1,x2))];
bif (dY 40 v8.length x3.length) then let x4:LDLn:=(List.append v8 x3);
let x5:=w64 (v2+1);
some (.inl (v0,v1,x5,v3,v4,v5,v6,v7,x4,())) else none else none) else
some (.inr (v0,v1,v2,false,v3,v4,v5,v6,v7,v8,()))
def lz(a0:LDCe) (a1:LDLn):Option (T04):=
bif (dY 4 0 a0.length) then let x0:LDCe:=(List.append [] a0);
let x1:=dM a1.length;
(dR iH NN (a1,x1,0,a0,a1,(),(),x0,[],())).bind λ(x2,x3,x4,x5,x6,x7,x8,x9,ac)=>
some (ac) else none
def Df:X.Cfg:=⟨E0,[],[(24,LN),(25,LN)],[(lx 4 0 [(pP 2 6),(pP 3 8),(sP 11 fi),(sP 12 I64),(sP 13 I64)] [(4,(uL [eM,fi])),(6,(uL [N1,N1])),(8,(uL [(.row true KCe),iZ]))] 14)]⟩
def qp:Ctr:=⟨71,44,[.agg (uL [eM,fi])],[],[⟨(uL [(.row true KCe),iZ]),[.agg 2],[]⟩],ap2 lz⟩
theorem uD:Lk 1 qp:=ls (C:=Df) rfl aN (by kernel_rfl) λh=>by kernel_rfl
def iD:T2R->Option (T2R⊕(LDTh×Int×Int×Bool×T2G)):=λ(v0,v1,v2,v3,v4,v5,v6,v7,v8,v9,v10,v11,v12,v13,v14,v15,v16,v17,_)=>
bif decide (v2 < v1) then ((dZ v2).bind λx0=>
(dI v0 x0).bind λx1=>
bif (dY 4 0 x1.2.1.length) then let x2:LDCe:=(List.append [] x1.2.1);
let x3:LDTh:=[(x1.1,(x2,(x1.2.2.1,(x1.2.2.2.1,(x1.2.2.2.2.1,(x1.2.2.2.2.2.1,(x1.2.2.2.2.2.2.1,x1.2.2.2.2.2.2.2)))))))];
bif (dY 80 v17.length x3.length) then let x4:LDTh:=(List.append v17 x3);
let x5:=w64 (v2+1);
some (.inl (v0,v1,x5,v3,v4,v5,v6,v7,v8,v9,v10,v11,v12,v13,v14,v15,v16,x4,())) else none else none) else
some (.inr (v0,v1,v2,false,v3,v4,v5,v6,v7,v8,v9,v10,v11,v12,v13,v14,v15,v16,v17,()))
def iE(a0:List (Int)) (a1:Int) (a2:LDCe) (a3:LDLn) (a4:LDTh):Option (T0T):=
bif (dY 8 0 a0.length) then let x0:List (Int):=(List.append [] a0);
(lz a2 a3).bind λ(x1,x2,_)=>
let x3:=dM a4.length;
(dR iD NN (a4,x3,0,a0,a1,a2,a3,a4,(),0,(),(),(),x0,a1,x1,x2,[],())).bind λ(x4,x5,x6,x7,x8,x9,ac,ae,af,ag,ah,ai,aj,ak,am)=>
some (am) else none
def C8:X.Cfg:=⟨E0,[qp],[(32,NC),(33,NC)],[(lx 4 0 [(pP 2 6),(pP 3 8),(sP 19 gd),(sP 20 I64),(sP 21 I64)] [(4,(uL [RI,CW,eM,fi,gd])),(6,(uL [N1,CW,N1,N1,N1])),(8,(uL [RI,CW,(.row true KCe),iZ,pt]))] 22)]⟩
def lF:Ctr:=⟨31,45,[.agg (uL [RI,CW,eM,fi,gd])],[],[⟨(uL [RI,CW,(.row true KCe),iZ,pt]),[.agg 5],[]⟩],ap5 iE⟩
theorem nD:Lk 2 lF:=ls (C:=C8) rfl (aC uD aN) (by kernel_rfl) λh=>by kernel_rfl
def jX(a0:List (Int)) (a1:Int) (a2:LDCe) (a3:LDLn) (a4:LDTh) (a5:Int):Option (T1d):=
(iE a0 a1 a2 a3 a4).bind λ(x0,x1,x2,x3,x4,_)=>
(mE a0 a1 a2 a3 a4 a5).bind λ(x5,_)=>
bif (!x5) then (some (x0,x1,x2,x3,x4,false,())) else
(dZ a5).bind λx6=>
(dI x4 x6).bind λx7=>
(dI x4 x6).bind λx8=>
(dI x4 x6).bind λx9=>
(dI x4 x6).bind λac=>
let ae:=(List.modify x4 x6 λe=>(e.1,(e.2.1,(e.2.2.1,(e.2.2.2.1,(e.2.2.2.2.1,(x8.2.2.1,e.2.2.2.2.2.2)))))));
(dI ae x6).bind λaf=>
let ag:=(List.modify ae x6 λe=>(e.1,(e.2.1,(x9.2.2.2.2.1,e.2.2.2))));
some (x0,x1,x2,x3,ag,true,())
def wU:X.Cfg:=⟨E0,[lF,r6],[],[]⟩
def qb:Ctr:=⟨198,46,[.agg (uL [RI,CW,eM,fi,gd]),shU I64],[],[⟨(uL [RI,CW,(.row true KCe),iZ,pt,.bool]),[.agg 5,.one],[]⟩],ap6 jX⟩
theorem wE:Lk 3 qb:=ls (C:=wU) rfl (aC nD (aC wF aN)) (by kernel_rfl) λh=>by kernel_rfl
def iV(a0:Int) (a1:Int):Option (Bool×Unit):=
some ((decide (a0<=2)),())
def Bj:X.Cfg:=⟨E0,[],[],[]⟩
def o4:Ctr:=⟨149,47,[.agg (uL [CB,CW])],[],[⟨(uL [.bool]),[.one],[]⟩],ap2 iV⟩
theorem sI:Lk 1 o4:=ls (C:=Bj) rfl aN (by kernel_rfl) λh=>by kernel_rfl
def fw:T0i->Option (T0i⊕((Bool×Unit)⊕T0w)):=λ(v0,v1,v2,_)=>
bif decide (v2 < v1) then ((dZ v2).bind λx0=>
(dI v0 x0).bind λx1=>
(iV x1.1 x1.2).bind λ(x2,_)=>
bif (!x2) then (some (.inr (.inl (false,())))) else
let x3:=w64 (v2+1);
some (.inl (v0,v1,x3,()))) else
some (.inr (.inr (v0,v1,v2,false,())))
def jy(a0:LDCe):Option (Bool×Unit):=
let x0:=dM a0.length;
(match dR fw NN (a0,x0,0,()) with
| none=>none
| some (.inl (x1,_))=>
some (x1,())
| some (.inr (x1,_))=>
some (true,()))
def ED:X.Cfg:=⟨E0,[o4],[],[⟨3,0,(qS [(sP 5 eM),(sP 6 I64),(sP 7 I64)] []),[(.ret,(qS [(sP 2 .bool)] [])),(.exit 0,(qS [(sP 5 eM),(sP 6 I64),(sP 7 I64),(sP 8 .bool)] []))]⟩]⟩
def xH:Ctr:=⟨74,48,(uL [eM]),[],[⟨(uL [.bool]),[.one],[]⟩],ap1 jy⟩
theorem Ep:Lk 2 xH:=ls (C:=ED) rfl (aC sI aN) (by kernel_rfl) λh=>by kernel_rfl
def fe:T0R->Option (T0R⊕((Bool×Unit)⊕T1b)):=λ(v0,v1,v2,v3)=>
bif decide (v2 < v1) then ((dZ v2).bind λx0=>
(dI v0 x0).bind λx1=>
bif (x1.1==(-1)) then (bif x1.2.1 then (some (.inr (.inl (false,())))) else
let x2:=dM x1.2.2.length;
bif decide (x2 > 0) then (some (.inr (.inl (false,())))) else
let x3:=w64 (v2+1);
some (.inl (v0,v1,x3,v3))) else
(bif decide (x1.1 < 0) then (some (v0,v1,v2,true,v3)) else
bif decide (x1.1>=128) then (some (v0,v1,v2,true,v3)) else
let x2:=Int.tmod x1.1 4;
bif (x2 != v2) then (some (v0,v1,v2,true,v3)) else
let x3:=dM x1.2.2.length;
bif (x3 != 4) then (some (v0,v1,v2,true,v3)) else
(jy x1.2.2).bind λ(x4,_)=>
some (v0,v1,v2,(!x4),v3):Option (T1b)).bind λ(x2,x3,x4,x5,x6)=>
bif x5 then (some (.inr (.inl (false,())))) else
let x8:=w64 (x4+1);
some (.inl (x2,x3,x8,x6))) else
some (.inr (.inr (v0,v1,v2,false,v3)))
def gp(a0:LDCe) (a1:LDLn):Option (Bool×Unit):=
(let x0:=dM a0.length;
bif (x0 != 512) then (some (true,a0,a1,())) else
let x1:=dM a1.length;
bif (x1 != 4) then (some (true,a0,a1,())) else
(jy a0).bind λ(x2,_)=>
some ((!x2),a0,a1,()):Option (T0c)).bind λ(x0,x1,x2,_)=>
bif x0 then (some (false,())) else
let x3:=dM x2.length;
(match dR fe NN (x2,x3,0,x1,x2,()) with
| none=>none
| some (.inl (x4,_))=>
some (x4,())
| some (.inr (x4,_))=>
some (true,()))
def Bd:X.Cfg:=⟨E0,[xH],[],[⟨2,0,qE,[(.normal,(qS [(pP 1 4),(sP 20 .bool)] [(4,(uL [eM,fi]))]))]⟩,⟨16,1,qE,[(.normal,(qS [(sP 22 fi),(sP 23 I64),(sP 24 I64),(sP 66 .bool)] [(4,(uL [eM,fi]))]))]⟩,⟨6,2,(qS [(sP 22 fi),(sP 23 I64),(sP 24 I64)] [(4,(uL [eM,fi]))]),[(.ret,(qS [(sP 2 .bool)] [])),(.exit 0,(qS [(sP 22 fi),(sP 23 I64),(sP 24 I64),(sP 25 .bool)] [(4,(uL [eM,fi]))]))]⟩]⟩
def oW:Ctr:=⟨24,49,[.agg (uL [eM,fi])],[],[⟨(uL [.bool]),[.one],[]⟩],ap2 gp⟩
theorem sG:Lk 3 oW:=ls (C:=Bd) rfl (aC Ep aN) (by kernel_rfl) λh=>by kernel_rfl
def jp:T2h->Option (T2h⊕((Bool×Unit)⊕(LDCe×Int×Int×Bool×T1G))):=λ(v0,v1,v2,v3)=>
bif decide (v2 < v1) then ((dZ v2).bind λx0=>
(dI v0 x0).bind λx1=>
(iV x1.1 x1.2).bind λ(x2,_)=>
bif (!x2) then (some (.inr (.inl (false,())))) else
let x3:=w64 (v2+1);
some (.inl (v0,v1,x3,v3))) else
some (.inr (.inr (v0,v1,v2,false,v3)))
def lY(a0:Int) (a1:LDCe) (a2:Int) (a3:Int) (a4:Int) (a5:Int) (a6:Int) (a7:Int):Option (Bool×Unit):=
let x0:=dM a1.length;
(match dR jp NN (a1,x0,0,a0,a1,a2,a3,a4,a5,a6,a7,()) with
| none=>none
| some (.inl (x1,_))=>
some (x1,())
| some (.inr (x1,x2,x3,x4,x5,x6,x7,x8,x9,ac,ae,af,_))=>
bif decide (x5>=0) then (bif decide (x5<=4) then (let ag:Int:=(dM x6.length);
bif (ag==8) then (bif decide (x7>=0) then (bif decide (x7<=255) then (bif decide (x8>=0) then (bif decide (x8<=1099511627776) then (bif (decide (x9>=(-1))) then (bif decide (x9<=255) then (bif (decide (ac>=(-1))) then (bif decide (ac<=255) then (bif decide (ae>=0) then (some ((decide (ae<=6)),())) else
some (false,())) else
some (false,())) else
some (false,())) else
some (false,())) else
some (false,())) else
some (false,())) else
some (false,())) else
some (false,())) else
some (false,())) else
some (false,())) else
some (false,())) else
some (false,()))
def A4:X.Cfg:=⟨E0,[o4],[],[⟨3,0,(qS [(pP 1 4),(sP 6 eM),(sP 7 I64),(sP 8 I64)] [(4,(uL [I64,eM,I64,I64,I64,I64,I64,CW]))]),[(.ret,(qS [(sP 2 .bool)] [])),(.exit 0,(qS [(pP 1 4),(sP 6 eM),(sP 7 I64),(sP 8 I64),(sP 9 .bool)] [(4,(uL [I64,eM,I64,I64,I64,I64,I64,CW]))]))]⟩]⟩
def td:Ctr:=⟨127,50,[.agg (uL [I64,eM,I64,I64,I64,I64,I64,CW])],[],[⟨(uL [.bool]),[.one],[]⟩],ap8 lY⟩
theorem As:Lk 2 td:=ls (C:=A4) rfl (aC sI aN) (by kernel_rfl) λh=>by kernel_rfl
def lJ:T1H->Option (T1H⊕((Bool×Unit)⊕(LDTh×Int×Int×T0Z))):=λ(v0,v1,v2,v3)=>
bif decide (v2 < v1) then ((dZ v2).bind λx0=>
(dI v0 x0).bind λx1=>
(lY x1.1 x1.2.1 x1.2.2.1 x1.2.2.2.1 x1.2.2.2.2.1 x1.2.2.2.2.2.1 x1.2.2.2.2.2.2.1 x1.2.2.2.2.2.2.2).bind λ(x2,_)=>
bif (!x2) then (some (.inr (.inl (false,())))) else
let x3:=w64 (v2+1);
some (.inl (v0,v1,x3,v3))) else
some (.inr (.inr (v0,v1,v2,false,v3)))
def iS(a0:LDIn) (a1:List (Int)) (a2:List LI) (a3:List (Int)) (a4:Int) (a5:LDCe) (a6:LDLn) (a7:LDTh):Option (Bool×Unit):=
((iT a0 a1 a2).bind λ(x0,_)=>
bif (x0 != 0) then (some (true,a3,a4,a5,a6,a7,())) else
(fK a3 a4 a1).bind λ(x1,_)=>
bif (!x1) then (some (true,a3,a4,a5,a6,a7,())) else
(gp a5 a6).bind λ(x2,_)=>
bif (!x2) then (some (true,a3,a4,a5,a6,a7,())) else
let x3:=dM a7.length;
some ((x3 != 4),a3,a4,a5,a6,a7,()):Option (T0Z)).bind λ(x0,x1,x2,x3,x4,x5,_)=>
bif x0 then (some (false,())) else
let x6:=dM x5.length;
(match dR lJ NN (x5,x6,0,x1,x2,x3,x4,x5,()) with
| none=>none
| some (.inl (x7,_))=>
some (x7,())
| some (.inr (x7,_))=>
some (true,()))
def A2:X.Cfg:=⟨E0,[mo,kA,oW,td],[],[⟨2,0,qE,[(.normal,(qS [(pP 3 8),(sP 29 .bool)] [(8,(uL [RI,CW,eM,fi,gd]))]))]⟩,⟨6,1,(qS [(sP 31 gd),(sP 32 I64),(sP 33 I64)] [(8,(uL [RI,CW,eM,fi,gd]))]),[(.ret,(qS [(sP 4 .bool)] [])),(.exit 0,(qS [(sP 31 gd),(sP 32 I64),(sP 33 I64),(sP 34 .bool)] [(8,(uL [RI,CW,eM,fi,gd]))]))]⟩]⟩
def mn:Ctr:=⟨54,51,[.agg (uL [eZ,RI,(.row false RW)]),.agg (uL [RI,CW,eM,fi,gd])],[],[⟨(uL [.bool]),[.one],[]⟩],ap8 iS⟩
theorem oH:Lk 4 mn:=ls (C:=A2) rfl (aC oI (aC mg (aC sG (aC As aN)))) (by kernel_rfl) λh=>by kernel_rfl
def fj(a0:Nat) (a1:Int) (a2:LDTh):Option (Int×LDTh×Unit):=
(dI a2 a0).bind λx0=>
let x1:=List.modify a2 a0 λe=>(4,e.2);
(dI x1 a0).bind λx2=>
let x3:=(List.modify x1 a0 λe=>(e.1,(e.2.1,(e.2.2.1,(e.2.2.2.1,(e.2.2.2.2.1,(e.2.2.2.2.2.1,(a1,e.2.2.2.2.2.2.2))))))));
(dI x3 a0).bind λx4=>
let x5:=(List.modify x3 a0 λe=>(e.1,(e.2.1,(e.2.2.1,(e.2.2.2.1,(e.2.2.2.2.1,(e.2.2.2.2.2.1,(e.2.2.2.2.2.2.1,0))))))));
some (2,x5,())
def C5:X.Cfg:=⟨E0,[],[],[]⟩
def uW:Ctr:=⟨248,52,[.ptr ⟨2,0,[((),(8,0))]⟩ [0,0],shU I64],[(2,(uL [pt]))],[⟨(uL [I64]),[.one],[(2,(uL [pt]))]⟩],ap3 fj⟩
theorem Cw:Lk 1 uW:=ls (C:=C5) rfl aN (by kernel_rfl) λh=>by kernel_rfl
def eJ:T1X->Option (T1X⊕(T0b⊕(LI×T1R))):=λ(v0,v1,v2,v3,v4,v5)=>
bif decide (v4 < v3) then ((match ((dZ v4).bind λx0=>
(dI v2 x0).bind λx1=>
bif decide (v1>=x1) then ((dZ v4).bind λx2=>
(dI v0 x2).bind λx3=>
let x4:=w64 (x1+x3);
bif decide (v1 < x4) then (let x5:Int:=(w64 (v1 - x1));
some (.inl (true,v4,x5,()))) else
some (.inr (v0,v1,v4,x1,v2,v3,v4,false,v5))) else
some (.inr (v0,v1,v4,x1,v2,v3,v4,false,v5)):Option (T0b⊕(LI×Int×Int×T1R))) with
| none=>none
| some (.inl (x0,x1,x2,_))=>
some (.inr (.inl (x0,x1,x2,())))
| some (.inr (x0,x1,x2,x3,x4,x5,x6,x7,x8))=>
let af:=w64 (x6+1);
some (.inl (x0,x1,x4,x5,af,x8)))) else
some (.inr (.inr (v0,v1,v2,v3,v4,false,v5)))
def fc(a0:List (Int)) (a1:Int) (a2:List (Int)) (a3:Int):Option (T0d):=
let x0:=dM a0.length;
(match dR eJ NN (a2,a3,a0,x0,0,a0,a1,0,0,()) with
| none=>none
| some (.inl (x1,x2,x3,_))=>
some (x2,x3,x1,())
| some (.inr (x1,x2,x3,_))=>
some (0,0,false,()))
def wY:X.Cfg:=⟨E0,[],[],[⟨6,0,qE,[(.ret,(qS [(pP 6 14),(sP 7 .bool)] [(14,(uL [I64,I64]))])),(.normal,(qS [(sP 1 RI),(sP 2 I64),(pP 6 14),(sP 8 I64),(sP 9 I64),(sP 11 RI),(sP 12 I64),(sP 13 I64),(sP 30 .bool)] [(8,(uL [RI,CW])),(14,(uL [I64,I64]))]))]⟩,⟨3,1,(qS [(sP 1 RI),(sP 2 I64),(pP 6 14),(sP 11 RI),(sP 12 I64),(sP 13 I64)] [(8,(uL [RI,CW])),(14,(uL [I64,I64]))]),[(.ret,(qS [(pP 6 14),(sP 7 .bool)] [(14,(uL [I64,I64]))])),(.exit 0,(qS [(sP 1 RI),(sP 2 I64),(pP 6 14),(sP 11 RI),(sP 12 I64),(sP 13 I64),(sP 14 .bool)] [(8,(uL [RI,CW])),(14,(uL [I64,I64]))]))]⟩]⟩
def iM:Ctr:=⟨121,53,[.agg (uL [RI,CW]),shU RI,shU I64],[],[⟨(uL [I64,I64,.bool]),[.agg 2,.one],[]⟩],ap4 fc⟩
theorem ko:Lk 1 iM:=ls (C:=wY) rfl aN (by kernel_rfl) λh=>by kernel_rfl
def fC(a0:List (Int)) (a1:Int) (a2:List (Int)) (a3:Int) (a4:Int) (a5:Int) (a6:Bool):Option (T0e):=
bif (a3 != 1) then (some (0,0,3,())) else
let x0:=wk .i64 a4;
(fc a0 a1 a2 x0).bind λ(x1,x2,x3,_)=>
bif (!x3) then (some (0,0,4,())) else
(bif a6 then (let x4:Int:=(wk .i64 a5);
let x5:=w64 (x2 - x4);
some (a2,a0,a1,0,0,x1,x5,())) else
let x4:=wk .i64 a5;
let x5:=w64 (x2+x4);
some (a2,a0,a1,0,0,x1,x5,()):Option (LI×LI×T0L)).bind λ(x4,x5,x6,x7,x8,x9,ac,_)=>
(fA x4 x9 ac).bind λ(ae,_)=>
bif (!ae) then (some (0,0,4,())) else
(dZ x9).bind λaf=>
(dI x5 af).bind λag=>
let ah:=w64 (ag+ac);
let ai:=wk .u16 ah;
some (1,ai,0,())
def C7:X.Cfg:=⟨E0,[iM,jh],[],[⟨8,0,qE,[(.normal,(qS [(sP 1 RI),(pP 5 12),(pP 10 22),(pP 12 26)] [(12,(uL [RI,CW])),(22,(uL [CB,CW])),(26,(uL [I64,I64]))]))]⟩]⟩
def qk:Ctr:=⟨249,54,[.agg (uL [RI,CW]),shU RI,.agg (uL [CB,CW]),shU CW,shU .bool],[],[⟨(uL [CB,CW,I64]),[.agg 2,.one],[]⟩],ap7 fC⟩
theorem uz:Lk 2 qk:=ls (C:=C7) rfl (aC ko (aC lh aN)) (by kernel_rfl) λh=>by kernel_rfl
def j7(a0:Int) (a1:LDCe) (a2:LDLn):Option (Nat×T04):=
let x0:=w64 (Int.tdiv a0 4);
let x1:=Int.tmod x0 4;
(dZ x1).bind λx2=>
(dI a2 x2).bind λx3=>
(dI a2 x2).bind λx4=>
bif (x4.1==x0) then (some (x2,a1,a2,())) else
((dI a2 x2).bind λx5=>
bif x5.2.1 then ((dI a2 x2).bind λx6=>
let x7:=w64 (x6.1*4);
(dZ x7).bind λx8=>
bif (gS x8 a1.length a1.length) then (dI a2 x2).bind λx9=>
(dI a2 x2).bind λac=>
bif (gS x8 (Nat.add x8 (Nat.min ac.2.2.length (Nat.sub a1.length x8))) a1.length) then bif (Nat.blt 0 (Nat.min ac.2.2.length (Nat.sub a1.length x8))) then (let ae:LDCe:=(mJ a1 x8 (Nat.min ac.2.2.length (Nat.sub a1.length x8)) ac.2.2);
let af:=(dM (Nat.min ac.2.2.length (Nat.sub a1.length x8)));
some (x0,x2,ae,a2,())) else
let ae:=(dM (Nat.min ac.2.2.length (Nat.sub a1.length x8)));
some (x0,x2,a1,a2,()) else none else none) else
some (x0,x2,a1,a2,()):Option (Int×Nat×T04)).bind λ(x5,x6,x7,x8,_)=>
(dI x8 x6).bind λx9=>
let ac:=List.modify x8 x6 λe=>(x5,e.2);
(dI ac x6).bind λae=>
let af:=(List.modify ac x6 λe=>(e.1,(false,e.2.2)));
let ag:=w64 (x5*4);
let ah:=w64 (x5+1);
let ai:=w64 (ah*4);
(dZ ag).bind λaj=>
(dZ ai).bind λak=>
bif (gS aj ak x7.length) then bif (dY 4 0 (List.length (jN x7 aj (Nat.sub ak aj)))) then let am:LDCe:=(List.append [] (jN x7 aj (Nat.sub ak aj)));
(dI af x6).bind λan=>
let ap:=(List.modify af x6 λe=>(e.1,(e.2.1,am)));
some (x6,x7,ap,()) else none else none
def Bc:X.Cfg:=⟨E0,[],[],[⟨6,0,qE,[(.normal,(qS [(pP 0 2),(sP 5 I64),(6,.ptr ⟨2,1,[((),(3,0))]⟩ [0,0])] [(2,(uL [(.row true KCe),iZ]))]))]⟩]⟩
def oV:Ctr:=⟨265,55,[.ptr ⟨2,0,[]⟩ [0],shU I64],[(2,(uL [(.row true KCe),iZ]))],[⟨[.ptr ⟨2,1,[((),(3,0))]⟩ [0,0]],[.ptr],[(2,(uL [(.row true KCe),iZ]))]⟩],ap3 j7⟩
theorem sF:Lk 1 oV:=ls (C:=Bc) rfl aN (by kernel_rfl) λh=>by kernel_rfl
def ly(a0:Int) (a1:LDCe) (a2:LDLn):Option (T0s):=
(j7 a0 a1 a2).bind λ(x0,x1,x2,_)=>
(dI x2 x0).bind λx3=>
let x4:=Int.tmod a0 4;
(dZ x4).bind λx5=>
(dI x2 x0).bind λx6=>
(dI x6.2.2 x5).bind λx7=>
(dI x2 x0).bind λx8=>
(dI x8.2.2 x5).bind λx9=>
some (x9.1,x9.2,x1,x2,())
def Dc:X.Cfg:=⟨E0,[oV],[],[]⟩
def uX:Ctr:=⟨250,56,[.ptr ⟨2,0,[]⟩ [0],shU I64],[(2,(uL [(.row true KCe),iZ]))],[⟨(uL [CB,CW]),[.agg 2],[(2,(uL [(.row true KCe),iZ]))]⟩],ap3 ly⟩
theorem Cx:Lk 2 uX:=ls (C:=Dc) rfl (aC sF aN) (by kernel_rfl) λh=>by kernel_rfl
def iU(a0:Int) (a1:Int) (a2:Int) (a3:LDCe) (a4:LDLn):Option (T04):=
(j7 a0 a3 a4).bind λ(x0,x1,x2,_)=>
(dI x2 x0).bind λx3=>
let x4:=Int.tmod a0 4;
(dZ x4).bind λx5=>
(dI x2 x0).bind λx6=>
(dI x6.2.2 x5).bind λx7=>
(dI x2 x0).bind λx8=>
(dI x8.2.2 x5).bind λx9=>
let ac:=(List.modify x2 x0 λe=>(e.1,(e.2.1,(List.modify e.2.2 x5 λe=>(a1,a2)))));
(dI ac x0).bind λae=>
let af:=(List.modify ac x0 λe=>(e.1,(true,e.2.2)));
some (x1,af,())
def Bb:X.Cfg:=⟨E0,[oV],[],[]⟩
def oU:Ctr:=⟨251,57,[.ptr ⟨2,0,[]⟩ [0],shU I64,.agg (uL [CB,CW])],[(2,(uL [(.row true KCe),iZ]))],[⟨[],[],[(2,(uL [(.row true KCe),iZ]))]⟩],ap5 iU⟩
theorem sE:Lk 2 oU:=ls (C:=Bb) rfl (aC sF aN) (by kernel_rfl) λh=>by kernel_rfl
def jG(a0:Bool):Option (T02):=
bif a0 then (some (0,1,())) else
some (0,0,())
def C6:X.Cfg:=⟨E0,[],[],[]⟩
def qj:Ctr:=⟨266,58,(uL [.bool]),[],[⟨(uL [CB,CW]),[.agg 2],[]⟩],ap1 jG⟩
theorem uy:Lk 1 qj:=ls (C:=C6) rfl aN (by kernel_rfl) λh=>by kernel_rfl
def j4(a0:Int) (a1:Int) (a2:Int):Option (T0e):=
bif (a0==3) then (let x0:Int:=(wk .u16 (a1+a2));
some (0,x0,0,())) else
bif (a0==4) then (let x0:Int:=(wk .u16 (a1 - a2));
some (0,x0,0,())) else
bif (a0==5) then (let x0:Int:=(wk .u16 (a1*a2));
some (0,x0,0,())) else
bif (a0==6) then (bif (a2==0) then (some (0,0,5,())) else
bif (a0==6) then (bif (a2 != 0) then let x0:Int:=(wk .u16 (Int.tdiv a1 a2));
some (0,x0,0,()) else none) else
bif (a2 != 0) then let x0:Int:=(Int.tmod a1 a2);
some (0,x0,0,()) else none) else
bif (a0==7) then (bif (a2==0) then (some (0,0,5,())) else
bif (a0==6) then (bif (a2 != 0) then let x0:Int:=(wk .u16 (Int.tdiv a1 a2));
some (0,x0,0,()) else none) else
bif (a2 != 0) then let x0:Int:=(Int.tmod a1 a2);
some (0,x0,0,()) else none) else
bif (a0==8) then (let x0:Int:=(arR .and .u16 a1 a2);
some (0,x0,0,())) else
bif (a0==9) then (let x0:Int:=(arR .or .u16 a1 a2);
some (0,x0,0,())) else
bif (a0==10) then (let x0:Int:=(arR .xor .u16 a1 a2);
some (0,x0,0,())) else
bif (a0==11) then (let x0:Int:=(Int.tmod a2 16);
(dZ x0).bind λx1=>
let x2:Int:=(shR .shl .u16 a1 x1);
some (0,x2,0,())) else
bif (a0==12) then (let x0:Int:=(Int.tmod a2 16);
(dZ x0).bind λx1=>
let x2:Int:=(shR .shr .u16 a1 x1);
some (0,x2,0,())) else
(jG (decide (a1 < a2))).bind λ(x0,x1,_)=>
some (x0,x1,0,())
def wW:X.Cfg:=⟨E0,[qj],[],[]⟩
def qi:Ctr:=⟨267,59,(uL [I64,CW,CW]),[],[⟨(uL [CB,CW,I64]),[.agg 2,.one],[]⟩],ap3 j4⟩
theorem wJ:Lk 2 qi:=ls (C:=wW) rfl (aC uy aN) (by kernel_rfl) λh=>by kernel_rfl
def j5(a0:List (Int)) (a1:Int) (a2:List (Int)) (a3:Int) (a4:Int) (a5:Int) (a6:Int):Option (Int×Int×T0d):=
let x0:=wk .i64 a4;
(fc a0 a1 a2 x0).bind λ(x1,x2,x3,_)=>
let x4:=wk .i64 a6;
(fc a0 a1 a2 x4).bind λ(x5,x6,x7,_)=>
bif x3 then (bif x7 then (some (x1,x2,x5,x6,(x1==x5),())) else
some (x1,x2,x5,x6,false,())) else
some (x1,x2,x5,x6,false,())
def A7:X.Cfg:=⟨E0,[iM],[],[]⟩
def tk:Ctr:=⟨268,60,[.agg (uL [RI,CW]),shU RI,.agg (uL [CB,CW]),.agg (uL [CB,CW])],[],[⟨(uL [I64,I64,I64,I64,.bool]),[.agg 2,.agg 2,.one],[]⟩],ap7 j5⟩
theorem Av:Lk 2 tk:=ls (C:=A7) rfl (aC ko aN) (by kernel_rfl) λh=>by kernel_rfl
def qB(a0:List (Int)) (a1:Int) (a2:List (Int)) (a3:Int) (a4:Int) (a5:Int) (a6:Int) (a7:Int):Option (T0e):=
bif decide (a3 < 3) then (some (0,0,1,())) else
bif decide (a3 > 14) then (some (0,0,1,())) else
(match (bif (a3==14) then ((jG ((a4==a6) && ((a5==a7) && true))).bind λ(x0,x1,_)=>
some (.inl (0,x0,x1,()))) else
bif (a4==0) then (bif (a6==0) then ((j4 a3 a5 a7).bind λ(x0,x1,x2,_)=>
some (.inl (x2,x0,x1,()))) else
(bif (a3==3) then (bif (a4==1) then (some (a2,a3,(a6==0),a0,a1,a4,a5,a6,a7,0,0,())) else
some (a2,a3,false,a0,a1,a4,a5,a6,a7,0,0,())) else
some (a2,a3,false,a0,a1,a4,a5,a6,a7,0,0,()):Option (T2j)).bind λ(x0,x1,x2,x3,x4,x5,x6,x7,x8,x9,ac,_)=>
bif x2 then ((fC x3 x4 x0 x5 x6 x8 false).bind λ(ae,af,ag,_)=>
some (.inl (ag,ae,af,()))) else
(bif (x1==3) then (bif (x5==0) then (some (x0,x1,(x7==1),x3,x4,x5,x6,x7,x8,x9,ac,())) else
some (x0,x1,false,x3,x4,x5,x6,x7,x8,x9,ac,())) else
some (x0,x1,false,x3,x4,x5,x6,x7,x8,x9,ac,()):Option (T2j)).bind λ(ae,af,ag,ah,ai,aj,ak,am,an,ap,aq,_)=>
bif ag then ((fC ah ai ae am an ak false).bind λ(av,ax,ay,_)=>
some (.inl (ay,av,ax,()))) else
(bif (af==4) then (bif (aj==1) then (some (ae,af,(am==0),ah,ai,aj,ak,am,an,ap,aq,())) else
some (ae,af,false,ah,ai,aj,ak,am,an,ap,aq,())) else
some (ae,af,false,ah,ai,aj,ak,am,an,ap,aq,()):Option (T2j)).bind λ(av,ax,ay,az,aA,aB,aD,aE,aF,aG,aH,_)=>
bif ay then ((fC az aA av aB aD aF true).bind λ(aI,aJ,aK,_)=>
some (.inl (aK,aI,aJ,()))) else
(bif (ax==4) then (bif (aB==1) then (some (av,ax,(aE==1),az,aA,aB,aD,aE,aF,aG,aH,())) else
some (av,ax,false,az,aA,aB,aD,aE,aF,aG,aH,())) else
bif (ax==13) then (bif (aB==1) then (some (av,ax,(aE==1),az,aA,aB,aD,aE,aF,aG,aH,())) else
some (av,ax,false,az,aA,aB,aD,aE,aF,aG,aH,())) else
some (av,ax,false,az,aA,aB,aD,aE,aF,aG,aH,()):Option (T2j)).bind λ(aI,aJ,aK,aL,aM,aO,aP,aQ,aR,aS,aT,_)=>
bif aK then ((j5 aL aM aI aO aP aQ aR).bind λ(aU,aV,aW,aY,aZ,_)=>
bif (!aZ) then (some (.inl (4,0,0,()))) else
bif (aJ==13) then ((jG (decide (aV < aY))).bind λ(ba,bc,_)=>
some (.inl (0,ba,bc,()))) else
let ba:=w64 (aV - aY);
let bc:=wk .u16 ba;
some (.inl (0,0,bc,()))) else
some (.inr (aI,aJ,false,aL,aM,aO,aP,aQ,aR,aS,aT,()))) else
(bif (a3==3) then (bif (a4==1) then (some (a2,a3,(a6==0),a0,a1,a4,a5,a6,a7,0,0,())) else
some (a2,a3,false,a0,a1,a4,a5,a6,a7,0,0,())) else
some (a2,a3,false,a0,a1,a4,a5,a6,a7,0,0,()):Option (T2j)).bind λ(x0,x1,x2,x3,x4,x5,x6,x7,x8,x9,ac,_)=>
bif x2 then ((fC x3 x4 x0 x5 x6 x8 false).bind λ(ae,af,ag,_)=>
some (.inl (ag,ae,af,()))) else
(bif (x1==3) then (bif (x5==0) then (some (x0,x1,(x7==1),x3,x4,x5,x6,x7,x8,x9,ac,())) else
some (x0,x1,false,x3,x4,x5,x6,x7,x8,x9,ac,())) else
some (x0,x1,false,x3,x4,x5,x6,x7,x8,x9,ac,()):Option (T2j)).bind λ(ae,af,ag,ah,ai,aj,ak,am,an,ap,aq,_)=>
bif ag then ((fC ah ai ae am an ak false).bind λ(av,ax,ay,_)=>
some (.inl (ay,av,ax,()))) else
(bif (af==4) then (bif (aj==1) then (some (ae,af,(am==0),ah,ai,aj,ak,am,an,ap,aq,())) else
some (ae,af,false,ah,ai,aj,ak,am,an,ap,aq,())) else
some (ae,af,false,ah,ai,aj,ak,am,an,ap,aq,()):Option (T2j)).bind λ(av,ax,ay,az,aA,aB,aD,aE,aF,aG,aH,_)=>
bif ay then ((fC az aA av aB aD aF true).bind λ(aI,aJ,aK,_)=>
some (.inl (aK,aI,aJ,()))) else
(bif (ax==4) then (bif (aB==1) then (some (av,ax,(aE==1),az,aA,aB,aD,aE,aF,aG,aH,())) else
some (av,ax,false,az,aA,aB,aD,aE,aF,aG,aH,())) else
bif (ax==13) then (bif (aB==1) then (some (av,ax,(aE==1),az,aA,aB,aD,aE,aF,aG,aH,())) else
some (av,ax,false,az,aA,aB,aD,aE,aF,aG,aH,())) else
some (av,ax,false,az,aA,aB,aD,aE,aF,aG,aH,()):Option (T2j)).bind λ(aI,aJ,aK,aL,aM,aO,aP,aQ,aR,aS,aT,_)=>
bif aK then ((j5 aL aM aI aO aP aQ aR).bind λ(aU,aV,aW,aY,aZ,_)=>
bif (!aZ) then (some (.inl (4,0,0,()))) else
bif (aJ==13) then ((jG (decide (aV < aY))).bind λ(ba,bc,_)=>
some (.inl (0,ba,bc,()))) else
let ba:=w64 (aV - aY);
let bc:=wk .u16 ba;
some (.inl (0,0,bc,()))) else
some (.inr (aI,aJ,false,aL,aM,aO,aP,aQ,aR,aS,aT,())):Option (T0e⊕T2j)) with
| none=>none
| some (.inl (x0,x1,x2,_))=>
some (x1,x2,x0,())
| some (.inr (x0,x1,x2,x3,x4,x5,x6,x7,x8,x9,ac,_))=>
some (0,0,3,()))
def Hn:X.Cfg:=⟨E0,[qj,qi,qk,tk],[],[⟨9,0,qE,[(.normal,(qS [(sP 1 RI),(sP 2 I64),(pP 5 12),(pP 8 18),(pP 9 20),(pP 10 22),(sP 46 .bool)] [(12,(uL [RI,CW])),(18,(uL [CB,CW])),(20,(uL [CB,CW])),(22,(uL [CB,CW]))]))]⟩,⟨11,1,qE,[(.normal,(qS [(sP 1 RI),(sP 2 I64),(pP 5 12),(pP 8 18),(pP 9 20),(pP 10 22),(sP 67 .bool)] [(12,(uL [RI,CW])),(18,(uL [CB,CW])),(20,(uL [CB,CW])),(22,(uL [CB,CW]))]))]⟩,⟨13,2,qE,[(.normal,(qS [(sP 1 RI),(sP 2 I64),(pP 5 12),(pP 8 18),(pP 9 20),(pP 10 22),(sP 88 .bool)] [(12,(uL [RI,CW])),(18,(uL [CB,CW])),(20,(uL [CB,CW])),(22,(uL [CB,CW]))]))]⟩,⟨15,3,qE,[(.normal,(qS [(sP 1 RI),(sP 2 I64),(pP 5 12),(pP 8 18),(pP 9 20),(pP 10 22),(sP 109 .bool)] [(12,(uL [RI,CW])),(18,(uL [CB,CW])),(20,(uL [CB,CW])),(22,(uL [CB,CW]))]))]⟩,⟨4,4,qE,[(.ret,(qS [(pP 10 22),(sP 11 I64)] [(22,(uL [CB,CW]))])),(.normal,(qS [(sP 1 RI),(sP 2 I64),(pP 5 12),(pP 8 18),(pP 9 20),(pP 10 22),(sP 109 .bool)] [(12,(uL [RI,CW])),(18,(uL [CB,CW])),(20,(uL [CB,CW])),(22,(uL [CB,CW]))]))]⟩]⟩
def zD:Ctr:=⟨252,61,[.agg (uL [RI,CW]),shU RI,shU I64,.agg (uL [CB,CW]),.agg (uL [CB,CW])],[],[⟨(uL [CB,CW,I64]),[.agg 2,.one],[]⟩],ap8 qB⟩
theorem Hf:Lk 3 zD:=ls (C:=Hn) rfl (aC uy (aC wJ (aC uz (aC Av aN)))) (by kernel_rfl) λh=>by kernel_rfl
def kX(a0:Int):Option (Bool×Unit):=
(gU a0).bind λ(x0,_)=>
bif x0 then (some (true,())) else
bif (a0==22) then (some (true,())) else
some ((a0==24),())
def yx:X.Cfg:=⟨E0,[jL],[],[]⟩
def rz:Ctr:=⟨253,62,(uL [I64]),[],[⟨(uL [.bool]),[.one],[]⟩],ap1 kX⟩
theorem ye:Lk 2 rz:=ls (C:=yx) rfl (aC lC aN) (by kernel_rfl) λh=>by kernel_rfl
def ox(a0:LDIn) (a1:List (Int)) (a2:List LI) (a3:Int) (a4:List (Int)) (a5:Int) (a6:LDCe) (a7:LDLn) (a8:LDTh):Option (T17):=
(dZ a3).bind λx0=>
(dI a8 x0).bind λx1=>
(dI a8 x0).bind λx2=>
let x3:=dM a0.length;
bif decide (x2.2.2.1>=x3) then ((fj x0 2 a8).bind λ(x4,x5,_)=>
some (x4,a4,a5,a6,a7,x5,())) else
(dI a8 x0).bind λx4=>
(dZ x4.2.2.1).bind λx5=>
(dI a0 x5).bind λx6=>
(dI a8 x0).bind λx7=>
let x8:=w64 (x7.2.2.1+1);
(dI a8 x0).bind λx9=>
(dZ x6.2.1).bind λac=>
(dI a8 x0).bind λae=>
(dI ae.2.1 ac).bind λaf=>
(dI a8 x0).bind λag=>
(dI ag.2.1 ac).bind λah=>
(dI a8 x0).bind λai=>
(dZ x6.2.2.1).bind λaj=>
(dI a8 x0).bind λak=>
(dI ak.2.1 aj).bind λam=>
(dI a8 x0).bind λan=>
(dI an.2.1 aj).bind λap=>
(match (bif (x6.1==0) then (some (.inl (x0,x8,a4,a5,a6,a7,a8,x6.1,x6.2.1,x6.2.2.1,x6.2.2.2.1,x6.2.2.2.2,()))) else
bif (x6.1==1) then ((dI a8 x0).bind λaq=>
let av:=wk .u16 x6.2.2.2.2;
(dZ x6.2.1).bind λax=>
(dI a8 x0).bind λay=>
(dI ay.2.1 ax).bind λaz=>
(dI a8 x0).bind λaA=>
(dI aA.2.1 ax).bind λaB=>
let aD:=(List.modify a8 x0 λe=>(e.1,((List.modify e.2.1 ax λe=>(0,av)),e.2.2)));
some (.inl (x0,x8,a4,a5,a6,a7,aD,x6.1,x6.2.1,x6.2.2.1,x6.2.2.2.1,x6.2.2.2.2,()))) else
bif (x6.1==2) then ((dI a8 x0).bind λaq=>
(dZ x6.2.1).bind λav=>
(dI a8 x0).bind λax=>
(dI ax.2.1 av).bind λay=>
(dI a8 x0).bind λaz=>
(dI az.2.1 av).bind λaA=>
let aB:=(List.modify a8 x0 λe=>(e.1,((List.modify e.2.1 av λe=>(ap.1,ap.2)),e.2.2)));
some (.inl (x0,x8,a4,a5,a6,a7,aB,x6.1,x6.2.1,x6.2.2.1,x6.2.2.2.1,x6.2.2.2.2,()))) else
bif (x6.1==15) then ((dI a8 x0).bind λaq=>
(dZ x6.2.2.2.2).bind λav=>
(dI a4 av).bind λax=>
let ay:=wk .u16 ax;
(dZ x6.2.1).bind λaz=>
(dI a8 x0).bind λaA=>
(dI aA.2.1 az).bind λaB=>
(dI a8 x0).bind λaD=>
(dI aD.2.1 az).bind λaE=>
let aF:=(List.modify a8 x0 λe=>(e.1,((List.modify e.2.1 az λe=>(1,ay)),e.2.2)));
some (.inl (x0,x8,a4,a5,a6,a7,aF,x6.1,x6.2.1,x6.2.2.1,x6.2.2.2.1,x6.2.2.2.2,()))) else
bif (x6.1==16) then ((bif (x6.1==17) then (some (x0,x8,a4,a5,a6,a7,a8,a0,a1,a2,x6.1,x6.2.1,x6.2.2.1,x6.2.2.2.1,x6.2.2.2.2,ap.1,ap.2,ah.1,ah.2,())) else
some (x0,x8,a4,a5,a6,a7,a8,a0,a1,a2,x6.1,x6.2.1,x6.2.2.1,x6.2.2.2.1,x6.2.2.2.2,ap.1,ap.2,ap.1,ap.2,()):Option (T2W)).bind λ(aq,av,ax,ay,az,aA,aB,aD,aE,aF,aG,aH,aI,aJ,aK,aL,aM,aO,aP,_)=>
let aQ:=wk .u16 aK;
(fC ax ay aE aO aP aQ false).bind λ(aR,aS,aT,_)=>
bif (aT != 0) then ((fj aq aT aB).bind λ(aU,aV,_)=>
some (.inr (aU,ax,ay,az,aA,aV,()))) else
bif (aG==16) then ((dI aB aq).bind λaU=>
let aV:=wk .i64 aS;
(ly aV az aA).bind λ(aW,aY,aZ,ba,_)=>
(dZ aH).bind λbc=>
(dI aB aq).bind λbd=>
(dI bd.2.1 bc).bind λbe=>
(dI aB aq).bind λbf=>
(dI bf.2.1 bc).bind λbg=>
let bh:=(List.modify aB aq λe=>(e.1,((List.modify e.2.1 bc λe=>(aW,aY)),e.2.2)));
some (.inl (aq,av,ax,ay,aZ,ba,bh,aG,aH,aI,aJ,aK,()))) else
let aU:=wk .i64 aS;
(iU aU aL aM az aA).bind λ(aV,aW,_)=>
some (.inl (aq,av,ax,ay,aV,aW,aB,aG,aH,aI,aJ,aK,()))) else
bif (x6.1==17) then ((bif (x6.1==17) then (some (x0,x8,a4,a5,a6,a7,a8,a0,a1,a2,x6.1,x6.2.1,x6.2.2.1,x6.2.2.2.1,x6.2.2.2.2,ap.1,ap.2,ah.1,ah.2,())) else
some (x0,x8,a4,a5,a6,a7,a8,a0,a1,a2,x6.1,x6.2.1,x6.2.2.1,x6.2.2.2.1,x6.2.2.2.2,ap.1,ap.2,ap.1,ap.2,()):Option (T2W)).bind λ(aq,av,ax,ay,az,aA,aB,aD,aE,aF,aG,aH,aI,aJ,aK,aL,aM,aO,aP,_)=>
let aQ:=wk .u16 aK;
(fC ax ay aE aO aP aQ false).bind λ(aR,aS,aT,_)=>
bif (aT != 0) then ((fj aq aT aB).bind λ(aU,aV,_)=>
some (.inr (aU,ax,ay,az,aA,aV,()))) else
bif (aG==16) then ((dI aB aq).bind λaU=>
let aV:=wk .i64 aS;
(ly aV az aA).bind λ(aW,aY,aZ,ba,_)=>
(dZ aH).bind λbc=>
(dI aB aq).bind λbd=>
(dI bd.2.1 bc).bind λbe=>
(dI aB aq).bind λbf=>
(dI bf.2.1 bc).bind λbg=>
let bh:=(List.modify aB aq λe=>(e.1,((List.modify e.2.1 bc λe=>(aW,aY)),e.2.2)));
some (.inl (aq,av,ax,ay,aZ,ba,bh,aG,aH,aI,aJ,aK,()))) else
let aU:=wk .i64 aS;
(iU aU aL aM az aA).bind λ(aV,aW,_)=>
some (.inl (aq,av,ax,ay,aV,aW,aB,aG,aH,aI,aJ,aK,()))) else
bif (x6.1==18) then (some (.inl (x0,x6.2.2.2.2,a4,a5,a6,a7,a8,x6.1,x6.2.1,x6.2.2.1,x6.2.2.2.1,x6.2.2.2.2,()))) else
bif (x6.1==19) then (bif (ah.1 != 0) then ((fj x0 3 a8).bind λ(aq,av,_)=>
some (.inr (aq,a4,a5,a6,a7,av,()))) else
bif ((ah.2==0)==(x6.1==19)) then (some (.inl (x0,x6.2.2.2.2,a4,a5,a6,a7,a8,x6.1,x6.2.1,x6.2.2.1,x6.2.2.2.1,x6.2.2.2.2,()))) else
some (.inl (x0,x8,a4,a5,a6,a7,a8,x6.1,x6.2.1,x6.2.2.1,x6.2.2.2.1,x6.2.2.2.2,()))) else
bif (x6.1==20) then (bif (ah.1 != 0) then ((fj x0 3 a8).bind λ(aq,av,_)=>
some (.inr (aq,a4,a5,a6,a7,av,()))) else
bif ((ah.2==0)==(x6.1==19)) then (some (.inl (x0,x6.2.2.2.2,a4,a5,a6,a7,a8,x6.1,x6.2.1,x6.2.2.1,x6.2.2.2.1,x6.2.2.2.2,()))) else
some (.inl (x0,x8,a4,a5,a6,a7,a8,x6.1,x6.2.1,x6.2.2.1,x6.2.2.2.1,x6.2.2.2.2,()))) else
bif (x6.1==21) then ((dI a8 x0).bind λaq=>
let av:=wk .u16 x8;
(dZ x6.2.1).bind λax=>
(dI a8 x0).bind λay=>
(dI ay.2.1 ax).bind λaz=>
(dI a8 x0).bind λaA=>
(dI aA.2.1 ax).bind λaB=>
let aD:=(List.modify a8 x0 λe=>(e.1,((List.modify e.2.1 ax λe=>(0,av)),e.2.2)));
some (.inl (x0,x6.2.2.2.2,a4,a5,a6,a7,aD,x6.1,x6.2.1,x6.2.2.1,x6.2.2.2.1,x6.2.2.2.2,()))) else
bif (x6.1==22) then (bif (ah.1 != 0) then ((fj x0 3 a8).bind λ(aq,av,_)=>
some (.inr (aq,a4,a5,a6,a7,av,()))) else
bif decide (ah.2 > 255) then ((fj x0 2 a8).bind λ(aq,av,_)=>
some (.inr (aq,a4,a5,a6,a7,av,()))) else
let aq:=wk .i64 ah.2;
some (.inl (x0,aq,a4,a5,a6,a7,a8,x6.1,x6.2.1,x6.2.2.1,x6.2.2.2.1,x6.2.2.2.2,()))) else
bif (x6.1==24) then ((dI a8 x0).bind λaq=>
bif (aq.2.2.2.2.2.1==(-1)) then ((fj x0 1 a8).bind λ(av,ax,_)=>
some (.inr (av,a4,a5,a6,a7,ax,()))) else
(dI a8 x0).bind λav=>
(dI a8 x0).bind λax=>
let ay:=(List.modify a8 x0 λe=>(e.1,(e.2.1,(e.2.2.1,(e.2.2.2.1,(e.2.2.2.2.1,((-1),e.2.2.2.2.2.2)))))));
some (.inl (x0,av.2.2.2.2.2.1,a4,a5,a6,a7,ay,x6.1,x6.2.1,x6.2.2.1,x6.2.2.2.1,x6.2.2.2.2,()))) else
bif (x6.1==23) then ((dI a8 x0).bind λaq=>
let av:=List.modify a8 x0 λe=>(2,e.2);
(dI av x0).bind λax=>
let ay:=(List.modify av x0 λe=>(e.1,(e.2.1,(x8,e.2.2.2))));
some (.inr (1,a4,a5,a6,a7,ay,()))) else
(dI a8 x0).bind λaq=>
(dZ x6.2.2.2.1).bind λav=>
(dI a8 x0).bind λax=>
(dI ax.2.1 av).bind λay=>
(dI a8 x0).bind λaz=>
(dI az.2.1 av).bind λaA=>
(qB a4 a5 a1 x6.1 ap.1 ap.2 aA.1 aA.2).bind λ(aB,aD,aE,_)=>
bif (aE != 0) then ((fj x0 aE a8).bind λ(aF,aG,_)=>
some (.inr (aF,a4,a5,a6,a7,aG,()))) else
(dI a8 x0).bind λaF=>
(dZ x6.2.1).bind λaG=>
(dI a8 x0).bind λaH=>
(dI aH.2.1 aG).bind λaI=>
(dI a8 x0).bind λaJ=>
(dI aJ.2.1 aG).bind λaK=>
let aL:=(List.modify a8 x0 λe=>(e.1,((List.modify e.2.1 aG λe=>(aB,aD)),e.2.2)));
some (.inl (x0,x8,a4,a5,a6,a7,aL,x6.1,x6.2.1,x6.2.2.1,x6.2.2.2.1,x6.2.2.2.2,())):Option ((Nat×Int×LI×Int×LDCe×LDLn×LDTh×T0L)⊕T17)) with
| none=>none
| some (.inl (aq,av,ax,ay,az,aA,aB,aD,aE,aF,aG,aH,_))=>
(dI aB aq).bind λaI=>
let aJ:=(List.modify aB aq λe=>(e.1,(e.2.1,(av,e.2.2.2))));
((kX aD).bind λ(aK,_)=>
bif aK then ((dI aJ aq).bind λaL=>
let aM:=w64 (aL.2.2.2.1+1);
(dI aJ aq).bind λaO=>
let aP:=(List.modify aJ aq λe=>(e.1,(e.2.1,(e.2.2.1,(aM,e.2.2.2.2)))));
some (ax,ay,az,aA,aP,())) else
some (ax,ay,az,aA,aJ,()):Option (T0T)).bind λ(aK,aL,aM,aO,aP,_)=>
some ((-1),aK,aL,aM,aO,aP,())
| some (.inr (aq,av,ax,ay,az,aA,_))=>
some (aq,av,ax,ay,az,aA,()))
def EA:X.Cfg:=⟨E0,[uW,qk,uX,oU,zD,rz],[],[⟨17,0,qE,[(.normal,(qS [(pP 1 4),(pP 3 8),(7,.ptr ⟨4,4,[((),(8,0))]⟩ [0,0]),(pP 8 18),(sP 9 I64),(pP 11 24),(pP 12 26)] [(4,(uL [RI,CW,(.row true KCe),iZ,pt])),(8,(uL [eZ,RI,(.row false RW)])),(18,(uL [I64,I64,I64,I64,I64])),(24,(uL [CB,CW])),(26,(uL [CB,CW]))]))]⟩,⟨8,1,qE,[(.normal,(qS [(pP 1 4),(7,.ptr ⟨4,4,[((),(8,0))]⟩ [0,0]),(pP 8 18),(sP 9 I64)] [(4,(uL [RI,CW,(.row true KCe),iZ,pt])),(18,(uL [I64,I64,I64,I64,I64]))])),(.ret,(qS [(pP 1 4),(sP 6 I64)] [(4,(uL [RI,CW,(.row true KCe),iZ,pt]))]))]⟩,⟨52,2,qE,[(.normal,(qS [(pP 1 4)] [(4,(uL [RI,CW,(.row true KCe),iZ,pt]))]))]⟩]⟩
def xF:Ctr:=⟨237,63,[.agg (uL [eZ,RI,(.row false RW)]),.ptr ⟨4,0,[]⟩ [0],shU I64],[(4,(uL [RI,CW,(.row true KCe),iZ,pt]))],[⟨(uL [I64]),[.one],[(4,(uL [RI,CW,(.row true KCe),iZ,pt]))]⟩],ap9 ox⟩
theorem En:Lk 4 xF:=ls (C:=EA) rfl (aC Cw (aC uz (aC Cx (aC sE (aC Hf (aC ye aN)))))) (by kernel_rfl) λh=>by kernel_rfl
def ph:T2E->Option (T2E⊕T1r):=λ(v0,v1,v2,v3,v4,v5,v6,v7,v8,v9,v10,v11,v12,v13,v14,_)=>
(ox v2 v3 v4 v0 v10 v11 v12 v13 v14).bind λ(x0,x1,x2,x3,x4,x5,_)=>
bif (x0 != (-1)) then (some (.inr (x0,0,x1,x2,x3,x4,x5,()))) else
(dZ v0).bind λx6=>
(dI x5 x6).bind λx7=>
(dI x5 x6).bind λx8=>
bif (x8.2.2.2.1==v1) then (some (.inr (0,0,x1,x2,x3,x4,x5,()))) else
some (.inl (v0,v1,v2,v3,v4,v5,v6,v7,v8,v9,x1,x2,x3,x4,x5,()))
def lX(a0:LDIn) (a1:List (Int)) (a2:List LI) (a3:List (Int)) (a4:Int) (a5:LDCe) (a6:LDLn) (a7:LDTh) (a8:Int) (a9:Int):Option (LI×Int×LDCe×LDLn×LDTh×T02):=
((iS a0 a1 a2 a3 a4 a5 a6 a7).bind λ(x0,_)=>
bif (!x0) then (some (a8,a9,true,a0,a1,a2,a3,a4,a5,a6,a7,(),0,(),(),(),())) else
bif decide (a8 < 0) then (some (a8,a9,true,a0,a1,a2,a3,a4,a5,a6,a7,(),0,(),(),(),())) else
bif decide (a8>=4) then (some (a8,a9,true,a0,a1,a2,a3,a4,a5,a6,a7,(),0,(),(),(),())) else
bif decide (a9 < 1) then (some (a8,a9,true,a0,a1,a2,a3,a4,a5,a6,a7,(),0,(),(),(),())) else
some (a8,a9,(decide (a9 > 64)),a0,a1,a2,a3,a4,a5,a6,a7,(),0,(),(),(),()):Option (Int×Int×Bool×LDIn×LI×LLI×LI×Int×LDCe×LDLn×LDTh×T0W)).bind λ(x0,x1,x2,x3,x4,x5,x6,x7,x8,x9,ac,ae,af,ag,ah,ai,_)=>
bif x2 then (some ([],0,[],[],[],0,1,())) else
(iE x6 x7 x8 x9 ac).bind λ(aj,ak,am,an,ap,_)=>
(dZ x0).bind λaq=>
(dI ac aq).bind λav=>
bif (av.1 != 1) then (some (aj,ak,am,an,ap,3,0,())) else
(dZ x0).bind λax=>
(dI ap ax).bind λay=>
(dI ap ax).bind λaz=>
let aA:=w64 (az.2.2.2.1+x1);
(dR ph NN (x0,aA,x3,x4,x5,ae,af,ag,ah,ai,aj,ak,am,an,ap,())).bind λ(aB,aD,aE,aF,aG,aH,aI,_)=>
some (aE,aF,aG,aH,aI,aB,aD,())
def A3:X.Cfg:=⟨E0,[mn,lF,xF],[],[⟨2,0,qE,[(.normal,(qS [(sP 2 I64),(sP 3 I64),(pP 4 10),(pP 5 12),(pP 8 18),(sP 33 .bool)] [(10,(uL [eZ,RI,(.row false RW)])),(12,(uL [RI,CW,eM,fi,gd])),(18,(uL [N1,CW,N1,N1,N1]))]))]⟩,⟨9,1,(qS [(sP 2 I64),(pP 4 10),(pP 8 18),(pP 11 24),(sP 12 I64)] [(10,(uL [eZ,RI,(.row false RW)])),(18,(uL [N1,CW,N1,N1,N1])),(24,(uL [RI,CW,(.row true KCe),iZ,pt]))]),[(.ret,(qS [(pP 8 18),(sP 9 I64),(sP 10 I64)] [(18,(uL [RI,CW,(.row true KCe),iZ,pt]))]))]⟩]⟩
def s9:Ctr:=⟨227,64,[.agg (uL [eZ,RI,(.row false RW)]),.agg (uL [RI,CW,eM,fi,gd]),shU I64,shU I64],[],[⟨(uL [RI,CW,(.row true KCe),iZ,pt,I64,I64]),[.agg 5,.one,.one],[]⟩],ap10 lX⟩
theorem Ar:Lk 5 s9:=ls (C:=A3) rfl (aC oH (aC nD (aC En aN))) (by kernel_rfl) λh=>by kernel_rfl
def j0(a0:Int):Option (ByteArray×Unit):=
let x0:ByteArray:=(bytes []);
(bif (a0==0) then (some (a0,true,())) else
bif (a0==8) then (some (a0,true,())) else
bif (a0==9) then (some (a0,true,())) else
bif (a0==11) then (some (a0,true,())) else
some (a0,(a0==12),()):Option (T01)).bind λ(x1,x2,_)=>
bif x2 then (let x3:ByteArray:=(bytes [78]);
some (x3,())) else
bif (x1==1) then (let x3:ByteArray:=(bytes [72,80,78]);
some (x3,())) else
bif (x1==2) then (let x3:ByteArray:=(bytes [72,80,78]);
some (x3,())) else
bif (x1==3) then (let x3:ByteArray:=(bytes [78,78]);
some (x3,())) else
bif (x1==4) then (let x3:ByteArray:=(bytes [72]);
some (x3,())) else
bif (x1==5) then (let x3:ByteArray:=(bytes [72,78]);
some (x3,())) else
bif (x1==10) then (let x3:ByteArray:=(bytes [78,88]);
some (x3,())) else
bif (x1==13) then (let x3:ByteArray:=(bytes [78,80,78]);
some (x3,())) else
bif (x1==14) then (let x3:ByteArray:=(bytes [78,80,78]);
some (x3,())) else
let x3:ByteArray:=(bytes []);
some (x3,())
def AV:X.Cfg:=⟨E0,[],[],[⟨3,0,qE,[(.normal,(qS [(sP 3 I64),(sP 4 .bool)] []))]⟩]⟩
def ml:Ctr:=⟨238,65,(uL [I64]),[],[⟨(uL [.str]),[.one],[]⟩],ap1 j0⟩
theorem oG:Lk 1 ml:=ls (C:=AV) rfl aN (by kernel_rfl) λh=>by kernel_rfl
def lr(a0:Int) (a1:Int):Option (Bool×Unit):=
bif (a0==78) then (some ((a1==0),())) else
bif (a0==72) then (some ((a1==2),())) else
bif (a0==80) then (some ((a1==1),())) else
some (true,())
def CZ:X.Cfg:=⟨E0,[],[],[]⟩
def qg:Ctr:=⟨239,66,(uL [CB,CB]),[],[⟨(uL [.bool]),[.one],[]⟩],ap2 lr⟩
theorem uw:Lk 1 qg:=ls (C:=CZ) rfl aN (by kernel_rfl) λh=>by kernel_rfl
def im(a0:Int):Option (Int×Unit):=
bif decide (a0 < 0) then (some ((-1),())) else
bif decide (a0 > 15) then (some ((-1),())) else
bif (a0==1) then (some (1,())) else
bif (a0==13) then (some (1,())) else
bif (a0==2) then (some (2,())) else
bif (a0==14) then (some (2,())) else
some (0,())
def yu:X.Cfg:=⟨E0,[],[],[]⟩
def jf:Ctr:=⟨55,67,(uL [I64]),[],[⟨(uL [I64]),[.one],[]⟩],ap1 im⟩
theorem ld:Lk 1 jf:=ls (C:=yu) rfl aN (by kernel_rfl) λh=>by kernel_rfl
def kW(a0:List (Int)) (a1:Int) (a2:List (Int)) (a3:Int) (a4:Int) (a5:Int):Option (T02):=
bif (a3 != 1) then (some (0,3,())) else
let x0:=wk .i64 a4;
(fc a0 a1 a2 x0).bind λ(x1,x2,x3,_)=>
(bif (!x3) then (some (true,a3,a4,())) else
bif decide (a5 < 0) then (some (true,a3,a4,())) else
(dZ x1).bind λx4=>
(dI a2 x4).bind λx5=>
let x6:=w64 (x5 - x2);
some ((decide (a5 > x6)),a3,a4,()):Option (T0b)).bind λ(x4,x5,x6,_)=>
bif x4 then (some (0,4,())) else
let x7:=wk .i64 x6;
some (x7,0,())
def yw:X.Cfg:=⟨E0,[iM],[],[⟨6,0,qE,[(.normal,(qS [(pP 6 14),(sP 41 .bool)] [(14,(uL [CB,CW]))]))]⟩]⟩
def ry:Ctr:=⟨240,68,[.agg (uL [RI,CW]),shU RI,.agg (uL [CB,CW]),shU I64],[],[⟨(uL [I64,I64]),[.one,.one],[]⟩],ap6 kW⟩
theorem yd:Lk 2 ry:=ls (C:=yw) rfl (aC ko aN) (by kernel_rfl) λh=>by kernel_rfl
def lI:T2Y->Option (T2Y⊕((Int×Unit)⊕(Int×ByteArray×Int×Int×Bool×T2K))):=λ(v0,v1,v2,v3,v4,v5,v6,v7,v8,v9,v10,v11,v12,v13,v14)=>
bif decide (v3 < v2) then ((dZ v3).bind λx0=>
(yZ v1 x0).bind λx1=>
(dZ v3).bind λx2=>
(dI v13 x2).bind λx3=>
(lr x1 x3.1).bind λ(x4,_)=>
bif (!x4) then (some (.inr (.inl (6,())))) else
let x5:=w64 (v3+1);
some (.inl (v0,v1,v2,x5,v4,v5,v6,v7,v8,v9,v10,v11,v12,v13,v14))) else
some (.inr (.inr (v0,v1,v2,v3,false,v4,v5,v6,v7,v8,v9,v10,v11,v12,v13,v14)))
def lW(a0:LDIn) (a1:List (Int)) (a2:List LI) (a3:List (Int)) (a4:Int) (a5:LDCe) (a6:LDLn) (a7:LDTh) (a8:Int):Option (Int×Unit):=
(dZ a8).bind λx0=>
(dI a7 x0).bind λx1=>
let x2:=w64 (x1.2.2.1 - 1);
(dZ x2).bind λx3=>
(dI a0 x3).bind λx4=>
(j0 x4.2.2.2.2).bind λ(x5,_)=>
let x6:=zO x5;
(match dR lI NN (x4.2.2.2.2,x5,x6,0,a0,a1,a2,a3,a4,a5,a6,a7,x1.1,x1.2.1,x1.2.2.1,x1.2.2.2.1,x1.2.2.2.2.1,x1.2.2.2.2.2.1,x1.2.2.2.2.2.2.1,x1.2.2.2.2.2.2.2,()) with
| none=>none
| some (.inl (x7,_))=>
some (x7,())
| some (.inr (x7,x8,x9,ac,ae,af,ag,ah,ai,aj,ak,am,an,ap,aq,_))=>
(im x7).bind λ(aD,_)=>
bif decide (aD > 0) then ((dI aq 1).bind λaE=>
(dI aq 2).bind λaF=>
let aG:=wk .i64 aF.2;
(kW ai aj ag aE.1 aE.2 aG).bind λ(aH,aI,_)=>
bif (aI != 0) then (some (6,())) else
(dI aq 2).bind λaJ=>
bif decide (aJ.2 > 16) then (some (6,())) else
(bif (x7==10) then ((dI aq 0).bind λaK=>
let aL:=wk .i64 aK.2;
let aM:=dM af.length;
some ((decide (aL>=aM)),())) else
bif (x7==12) then ((dI aq 0).bind λaK=>
let aL:=wk .i64 aK.2;
let aM:=dM af.length;
some ((decide (aL>=aM)),())) else
some (false,()):Option (Bool×Unit)).bind λ(aK,_)=>
bif aK then (some (6,())) else
some (0,())) else
(bif (x7==10) then ((dI aq 0).bind λaE=>
let aF:=wk .i64 aE.2;
let aG:=dM af.length;
some ((decide (aF>=aG)),())) else
bif (x7==12) then ((dI aq 0).bind λaE=>
let aF:=wk .i64 aE.2;
let aG:=dM af.length;
some ((decide (aF>=aG)),())) else
some (false,()):Option (Bool×Unit)).bind λ(aE,_)=>
bif aE then (some (6,())) else
some (0,()))
def AY:X.Cfg:=⟨E0,[ml,qg,jf,ry],[],[⟨6,0,(qS [(pP 3 8),(pP 4 10),(pP 7 16),(sP 8 I64),(sP 9 .str),(sP 29 I64),(sP 30 I64)] [(8,(uL [eZ,RI,(.row false RW)])),(10,(uL [RI,CW,eM,fi,gd])),(16,(uL [I64,eM,I64,I64,I64,I64,I64,CW]))]),[(.ret,(qS [(sP 6 I64)] [])),(.exit 0,(qS [(pP 3 8),(pP 4 10),(pP 7 16),(sP 8 I64),(sP 9 .str),(sP 29 I64),(sP 30 I64),(sP 31 .bool)] [(8,(uL [eZ,RI,(.row false RW)])),(10,(uL [RI,CW,eM,fi,gd])),(16,(uL [I64,eM,I64,I64,I64,I64,I64,CW]))]))]⟩,⟨19,1,qE,[(.normal,(qS [(sP 93 .bool)] []))]⟩]⟩
def s8:Ctr:=⟨228,69,[.agg (uL [eZ,RI,(.row false RW)]),.agg (uL [RI,CW,eM,fi,gd]),shU I64],[],[⟨(uL [I64]),[.one],[]⟩],ap9 lW⟩
theorem Aq:Lk 3 s8:=ls (C:=AY) rfl (aC oG (aC uw (aC ld (aC yd aN)))) (by kernel_rfl) λh=>by kernel_rfl
def kV(a0:Int) (a1:LDCe) (a2:Int) (a3:Int) (a4:Int) (a5:Int) (a6:Int) (a7:Int):Option (T1G):=
bif (dY 4 0 a1.length) then let x0:LDCe:=(List.append [] a1);
some (a0,x0,a2,a3,a4,a5,a6,a7,()) else none
def yv:X.Cfg:=⟨E0,[],[],[]⟩
def rx:Ctr:=⟨241,70,[.agg (uL [I64,eM,I64,I64,I64,I64,I64,CW])],[],[⟨(uL [I64,(.row true KCe),I64,I64,I64,I64,I64,CW]),[.agg 8],[]⟩],ap8 kV⟩
theorem yc:Lk 1 rx:=ls (C:=yv) rfl aN (by kernel_rfl) λh=>by kernel_rfl
def mH(a0:Int) (a1:LDCe) (a2:Int) (a3:Int) (a4:Int) (a5:Int) (a6:Int) (a7:Int) (a8:Int) (a9:Int):Option (T1G):=
(kV a0 a1 a2 a3 a4 a5 a6 a7).bind λ(x0,x1,x2,x3,x4,x5,_)=>
some (4,x1,x2,x3,x4,x5,a8,a9,())
def EC:X.Cfg:=⟨E0,[rx],[],[]⟩
def r7:Ctr:=⟨229,71,[.agg (uL [I64,eM,I64,I64,I64,I64,I64,CW]),shU I64,shU CW],[],[⟨(uL [I64,(.row true KCe),I64,I64,I64,I64,I64,CW]),[.agg 8],[]⟩],ap10 mH⟩
theorem wH:Lk 2 r7:=ls (C:=EC) rfl (aC yc aN) (by kernel_rfl) λh=>by kernel_rfl
def gK(a0:Int):Option (Int×Unit):=
bif decide (a0 < 0) then (some ((-1),())) else
bif decide (a0 > 15) then (some ((-1),())) else
(j0 a0).bind λ(x0,_)=>
let x1:=zO x0;
some (x1,())
def ua:X.Cfg:=⟨E0,[ml],[],[]⟩
def kO:Ctr:=⟨230,72,(uL [I64]),[],[⟨(uL [I64]),[.one],[]⟩],ap1 gK⟩
theorem oa:Lk 2 kO:=ls (C:=ua) rfl (aC oG aN) (by kernel_rfl) λh=>by kernel_rfl
def g7(a0:List (Int)) (a1:Int) (a2:List (Int)) (a3:Int) (a4:Int):Option (T0r):=
bif (a3==0) then (some (0,a4,0,0,())) else
bif (a3==2) then (let x0:Int:=(wk .u16 (a4 - a1));
some (2,x0,0,0,())) else
let x0:=wk .i64 a4;
(fc a0 a1 a2 x0).bind λ(x1,x2,x3,_)=>
bif x3 then (some (1,0,x1,x2,())) else
let x4:=wk .i64 a4;
some (1,0,(-1),x4,())
def Bg:X.Cfg:=⟨E0,[iM],[],[]⟩
def mp:Ctr:=⟨56,73,[.agg (uL [RI,CW]),shU RI,.agg (uL [CB,CW])],[],[⟨(uL [CB,CW,I64,I64]),[.agg 4],[]⟩],ap5 g7⟩
theorem oJ:Lk 2 mp:=ls (C:=Bg) rfl (aC ko aN) (by kernel_rfl) λh=>by kernel_rfl
def lw(a0:LDCe) (a1:LDLn) (a2:Int):Option (T02):=
let x0:=w64 (Int.tdiv a2 4);
let x1:=Int.tmod x0 4;
(dZ x1).bind λx2=>
(dI a1 x2).bind λx3=>
bif (x3.1==x0) then (let x4:Int:=(Int.tmod a2 4);
(dZ x4).bind λx5=>
(dI x3.2.2 x5).bind λx6=>
some (x6.1,x6.2,())) else
(dZ a2).bind λx4=>
(dI a0 x4).bind λx5=>
some (x5.1,x5.2,())
def Db:X.Cfg:=⟨E0,[],[],[]⟩
def qn:Ctr:=⟨66,74,[.agg (uL [eM,fi]),shU I64],[],[⟨(uL [CB,CW]),[.agg 2],[]⟩],ap3 lw⟩
theorem uB:Lk 1 qn:=ls (C:=Db) rfl aN (by kernel_rfl) λh=>by kernel_rfl
def iC:T3z->Option (T3z⊕(Int×Int×T3u)):=λ(v0,v1,v2,v3,v4,v5,v6,v7,v8,v9,v10,v11,v12,v13,v14,v15,v16,v17,v18,v19,v20,v21,v22,v23,v24,v25,v26,v27,v28,v29,v30,v31,v32,v33,v34,v35,v36,v37,v38,_)=>
bif decide (v1 < v0) then ((dZ v1).bind λx0=>
(dI v24 x0).bind λx1=>
(g7 v18 v19 v3 x1.1 x1.2).bind λ(x2,x3,x4,x5,_)=>
let x6:LDCn:=[(x2,(x3,(x4,x5)))];
bif (dY 24 v37.length x6.length) then let x7:LDCn:=(List.append v37 x6);
let x8:=w64 (v1+1);
some (.inl (v0,x8,v2,v3,v4,v5,v6,v7,v8,v9,v10,v11,v12,v13,v14,v15,v16,v17,v18,v19,v20,v21,v22,v23,v24,v25,v26,v27,v28,v29,v30,v31,v32,v33,v34,v35,v36,x7,v38,())) else none) else
some (.inr (v0,v1,false,v2,v3,v4,v5,v6,v7,v8,v9,v10,v11,v12,v13,v14,v15,v16,v17,v18,v19,v20,v21,v22,v23,v24,v25,v26,v27,v28,v29,v30,v31,v32,v33,v34,v35,v36,v37,v38,()))
def iB:T3y->Option (T3y⊕T3C):=λ(v0,v1,v2,v3,v4,v5,v6,v7,v8,v9,v10,v11,v12,v13,v14,v15,v16,v17,v18,v19,v20,v21,v22,v23,v24,v25,v26,v27,v28,v29,v30,v31,v32,v33,v34,v35,v36,v37,v38,_)=>
bif decide (v1 < v0) then ((dI v24 1).bind λx0=>
let x1:=wk .i64 x0.2;
let x2:=w64 (x1+v1);
(lw v20 v21 x2).bind λ(x3,x4,_)=>
(g7 v18 v19 v3 x3 x4).bind λ(x5,x6,x7,x8,_)=>
let x9:LDCn:=[(x5,(x6,(x7,x8)))];
bif (dY 24 v38.length x9.length) then let ac:LDCn:=(List.append v38 x9);
let ae:=w64 (v1+1);
some (.inl (v0,ae,v2,v3,v4,v5,v6,v7,v8,v9,v10,v11,v12,v13,v14,v15,v16,v17,v18,v19,v20,v21,v22,v23,v24,v25,v26,v27,v28,v29,v30,v31,v32,v33,v34,v35,v36,v37,ac,())) else none) else
some (.inr (v0,v1,false,v2,v3,v4,v5,v6,v7,v8,v9,v10,v11,v12,v13,v14,v15,v16,v17,v18,v19,v20,v21,v22,v23,v24,v25,v26,v27,v28,v29,v30,v31,v32,v33,v34,v35,v36,v37,v38,()))
def lu(a0:LDIn) (a1:List (Int)) (a2:List LI) (a3:List (Int)) (a4:Int) (a5:LDCe) (a6:LDLn) (a7:LDTh) (a8:Int) (a9:Int):Option (LI×Int×LDCe×LDLn×LDTh×Int×Int×Int×Int×Int×Int×LDCn×LDCn×Int×Unit):=
(lX a0 a1 a2 a3 a4 a5 a6 a7 a8 a9).bind λ(x0,x1,x2,x3,x4,x5,x6,_)=>
bif (x6 != 0) then (some ([],0,[],[],[],0,0,0,0,0,0,[],[],x6,())) else
(dZ a8).bind λx7=>
(dI x4 x7).bind λx8=>
(dI x4 x7).bind λx9=>
(dI x4 x7).bind λac=>
(match (bif (x5==2) then (some (.inl ((),0,(),(),(),0,0,0,0,0,0,(),(),x0,x1,x2,x3,x4,a8,x5,x9.2.2.2.2.2.2.1,x9.2.2.2.1,x9.2.2.1,0,(),(),()))) else
bif (x5==1) then ((lW a0 a1 a2 x0 x1 x2 x3 x4 a8).bind λ(ae,_)=>
bif (ae != 0) then ((mH x9.1 ac.2.1 x9.2.2.1 x9.2.2.2.1 x9.2.2.2.2.1 x9.2.2.2.2.2.1 x9.2.2.2.2.2.2.1 x9.2.2.2.2.2.2.2 ae 0).bind λ(af,ag,ah,ai,aj,ak,am,an,_)=>
(dZ a8).bind λap=>
(dI x4 ap).bind λaq=>
(dI x4 ap).bind λav=>
let ax:=(List.modify x4 ap λe=>(af,(ag,(ah,(ai,(aj,(ak,(am,an))))))));
some (.inl ((),0,(),(),(),0,0,0,0,0,0,(),(),x0,x1,x2,x3,ax,a8,2,ae,x9.2.2.2.1,x9.2.2.1,0,(),(),()))) else
let af:=w64 (x9.2.2.1 - 1);
(dZ af).bind λag=>
(dI a0 ag).bind λah=>
(gK ah.2.2.2.2).bind λ(ai,_)=>
(dR iC NN (ai,0,a0,a1,a2,(),0,(),(),(),0,0,0,0,0,0,(),(),x0,x1,x2,x3,x4,x9.1,ac.2.1,x9.2.2.1,x9.2.2.2.1,x9.2.2.2.2.1,x9.2.2.2.2.2.1,x9.2.2.2.2.2.2.1,x9.2.2.2.2.2.2.2,a8,x5,0,x9.2.2.2.1,x9.2.2.1,ah.2.2.2.2,[],(),())).bind λ(aj,ak,am,an,ap,aq,av,ax,ay,az,aA,aB,aD,aE,aF,aG,aH,aI,aJ,aK,aL,aM,aO,aP,aQ,aR,aS,aT,aU,aV,aW,aY,aZ,ba,bc,bd,be,bf,bg,bh,_)=>
(im bf).bind λ(bi,_)=>
bif (bi==1) then ((dI aR 2).bind λbj=>
let bk:=wk .i64 bj.2;
(dR iB NN (bk,0,an,ap,aq,av,ax,ay,az,aA,aB,aD,aE,aF,aG,aH,aI,aJ,aK,aL,aM,aO,aP,aQ,aR,aS,aT,aU,aV,aW,aY,aZ,ba,bc,bd,be,bf,bg,[],())).bind λ(bl)=>
some (.inr (.inl (bl)))) else
some (.inr (.inr (.inl (false,an,ap,aq,av,ax,ay,az,aA,aB,aD,aE,aF,aG,aH,aI,aJ,aK,aL,aM,aO,aP,aQ,aR,aS,aT,aU,aV,aW,aY,aZ,ba,bc,bd,be,bf,bg,bh,()))))) else
some (.inr (.inr (.inr (a8,false,a0,a1,a2,(),0,(),(),(),0,0,0,0,0,0,(),(),x0,x1,x2,x3,x4,x9.1,ac.2.1,x9.2.2.1,x9.2.2.2.1,x9.2.2.2.2.1,x9.2.2.2.2.2.1,x9.2.2.2.2.2.2.1,x9.2.2.2.2.2.2.2,a8,x5,0,x9.2.2.2.1,x9.2.2.1,0,(),(),())))):Option ((Unit×Int×Unit×Unit×Unit×Int×Int×Int×Int×Int×Int×Unit×Unit×LI×Int×LDCe×LDLn×LDTh×T1B)⊕(T3C⊕(T3u⊕(Int×Bool×LDIn×LI×LLI×Unit×Int×Unit×Unit×Unit×Int×Int×Int×Int×Int×Int×Unit×Unit×LI×Int×LDCe×LDLn×LDTh×Int×LDCe×Int×Int×Int×Int×Int×Int×T1B))))) with
| none=>none
| some (.inl (ae,af,ag,ah,ai,aj,ak,am,an,ap,aq,av,ax,ay,az,aA,aB,aD,aE,aF,aG,aH,aI,aJ,aK,aL,_))=>
some (ay,az,aA,aB,aD,aE,aF,aG,aH,aI,aJ,[],[],0,())
| some (.inr (.inl (ae,af,ag,ah,ai,aj,ak,am,an,ap,aq,av,ax,ay,az,aA,aB,aD,aE,aF,aG,aH,aI,aJ,aK,aL,aM,aO,aP,aQ,aR,aS,aT,aU,aV,aW,aY,aZ,ba,bc,_)))=>
some (aF,aG,aH,aI,aJ,aT,aU,aV,aW,aY,aZ,ba,bc,0,())
| some (.inr (.inr (.inl (ae,af,ag,ah,ai,aj,ak,am,an,ap,aq,av,ax,ay,az,aA,aB,aD,aE,aF,aG,aH,aI,aJ,aK,aL,aM,aO,aP,aQ,aR,aS,aT,aU,aV,aW,aY,aZ,_))))=>
some (aD,aE,aF,aG,aH,aR,aS,aT,aU,aV,aW,aY,[],0,())
| some (.inr (.inr (.inr (ae,af,ag,ah,ai,aj,ak,am,an,ap,aq,av,ax,ay,az,aA,aB,aD,aE,aF,aG,aH,aI,aJ,aK,aL,aM,aO,aP,aQ,aR,aS,aT,aU,aV,aW,aY,aZ,ba,_))))=>
some (aE,aF,aG,aH,aI,aS,aT,aU,aV,aW,aY,[],[],0,()))
def C3:X.Cfg:=⟨E0,[s9,s8,r7,kO,mp,jf,qn],[],[⟨19,0,(qS [(pP 4 10),(pP 8 18),(pP 9 20),(pP 11 24),(pP 14 30),(pP 15 32),(sP 80 I64),(sP 81 I64)] [(10,(uL [eZ,RI,(.row false RW)])),(18,(uL [N1,CW,N1,N1,N1])),(20,(uL [I64,I64,I64,I64,I64,I64,N1,N1])),(24,(uL [RI,CW,(.row true KCe),iZ,(.row true LM)])),(30,(uL [I64,eM,I64,I64,I64,I64,I64,CW])),(32,(uL [I64,I64,I64,I64,I64,I64,(.row true KCn),N1]))]),[(.exit 1,(qS [(pP 4 10),(pP 8 18),(pP 9 20),(pP 11 24),(pP 14 30),(pP 15 32),(sP 80 I64),(sP 81 I64),(sP 82 .bool)] [(10,(uL [eZ,RI,(.row false RW)])),(18,(uL [N1,CW,N1,N1,N1])),(20,(uL [I64,I64,I64,I64,I64,I64,N1,N1])),(24,(uL [RI,CW,(.row true KCe),iZ,(.row true LM)])),(30,(uL [I64,eM,I64,I64,I64,I64,I64,CW])),(32,(uL [I64,I64,I64,I64,I64,I64,(.row true KCn),N1]))]))]⟩,⟨26,1,(qS [(pP 4 10),(pP 8 18),(pP 9 20),(pP 11 24),(pP 14 30),(pP 15 32),(sP 109 I64),(sP 110 I64)] [(10,(uL [eZ,RI,(.row false RW)])),(18,(uL [N1,CW,N1,N1,N1])),(20,(uL [I64,I64,I64,I64,I64,I64,N1,N1])),(24,(uL [RI,CW,(.row true KCe),iZ,(.row true LM)])),(30,(uL [I64,eM,I64,I64,I64,I64,I64,CW])),(32,(uL [I64,I64,I64,I64,I64,I64,(.row true KCn),(.row true KCn)]))]),[(.exit 3,(qS [(pP 4 10),(pP 8 18),(pP 9 20),(pP 11 24),(pP 14 30),(pP 15 32),(sP 109 I64),(sP 110 I64),(sP 111 .bool)] [(10,(uL [eZ,RI,(.row false RW)])),(18,(uL [N1,CW,N1,N1,N1])),(20,(uL [I64,I64,I64,I64,I64,I64,N1,N1])),(24,(uL [RI,CW,(.row true KCe),iZ,(.row true LM)])),(30,(uL [I64,eM,I64,I64,I64,I64,I64,CW])),(32,(uL [I64,I64,I64,I64,I64,I64,(.row true KCn),(.row true KCn)]))]))]⟩,⟨7,2,qE,[(.normal,(qS [(pP 8 18),(pP 9 20),(pP 11 24),(pP 15 32)] [(18,(uL [N1,CW,N1,N1,N1])),(20,(uL [I64,I64,I64,I64,I64,I64,N1,N1])),(24,(uL [RI,CW,(.row true KCe),iZ,(.row true LM)])),(32,(uL [I64,I64,I64,I64,I64,I64,N1,N1]))])),(.normal,(qS [(pP 4 10),(pP 8 18),(pP 9 20),(pP 11 24),(pP 14 30),(pP 15 32),(sP 109 I64),(sP 110 I64),(sP 111 .bool)] [(10,(uL [eZ,RI,(.row false RW)])),(18,(uL [N1,CW,N1,N1,N1])),(20,(uL [I64,I64,I64,I64,I64,I64,N1,N1])),(24,(uL [RI,CW,(.row true KCe),iZ,(.row true LM)])),(30,(uL [I64,eM,I64,I64,I64,I64,I64,CW])),(32,(uL [I64,I64,I64,I64,I64,I64,(.row true KCn),(.row true KCn)]))])),(.normal,(qS [(pP 4 10),(pP 8 18),(pP 9 20),(pP 11 24),(pP 14 30),(pP 15 32),(sP 103 .bool)] [(10,(uL [eZ,RI,(.row false RW)])),(18,(uL [N1,CW,N1,N1,N1])),(20,(uL [I64,I64,I64,I64,I64,I64,N1,N1])),(24,(uL [RI,CW,(.row true KCe),iZ,(.row true LM)])),(30,(uL [I64,eM,I64,I64,I64,I64,I64,CW])),(32,(uL [I64,I64,I64,I64,I64,I64,(.row true KCn),N1]))])),(.normal,(qS [(sP 2 I64),(pP 4 10),(pP 8 18),(pP 9 20),(pP 11 24),(pP 14 30),(pP 15 32),(sP 51 .bool)] [(10,(uL [eZ,RI,(.row false RW)])),(18,(uL [N1,CW,N1,N1,N1])),(20,(uL [I64,I64,I64,I64,I64,I64,N1,N1])),(24,(uL [RI,CW,(.row true KCe),iZ,(.row true LM)])),(30,(uL [I64,eM,I64,I64,I64,I64,I64,CW])),(32,(uL [I64,I64,I64,I64,I64,I64,N1,N1]))]))]⟩]⟩
def uV:Ctr:=⟨199,75,[.agg (uL [eZ,RI,(.row false RW)]),.agg (uL [RI,CW,eM,fi,gd]),shU I64,shU I64],[],[⟨(uL [RI,CW,eM,fi,gd,I64,I64,I64,I64,I64,I64,ef,ef,I64]),[.agg 5,.agg 8,.one],[]⟩],ap10 lu⟩
theorem Cv:Lk 6 uV:=ls (C:=C3) rfl (aC Ar (aC Aq (aC wH (aC oa (aC oJ (aC ld (aC uB aN))))))) (by kernel_rfl) λh=>by kernel_rfl
def iA:T22->Option (T22⊕T2c):=λ(v0,v1,v2,v3,v4,v5,v6,v7,v8,_)=>
bif decide (v2 < v1) then ((dZ v2).bind λx0=>
(dI v0 x0).bind λx1=>
bif (dY 8 0 x1.length) then let x2:List (Int):=(List.append [] x1);
bif (dY 24 v8.length (List.length [x2])) then let x3:List LI:=(List.append v8 [x2]);
let x4:=w64 (v2+1);
some (.inl (v0,v1,x4,v3,v4,v5,v6,v7,x3,())) else none else none) else
some (.inr (v0,v1,v2,false,v3,v4,v5,v6,v7,v8,()))
def jE(a0:List (Int)) (a1:List LI):Option (T07):=
bif (dY 8 0 a0.length) then let x0:List (Int):=(List.append [] a0);
let x1:=dM a1.length;
(dR iA NN (a1,x1,0,a0,a1,(),(),x0,[],())).bind λ(x2,x3,x4,x5,x6,x7,x8,x9,ac)=>
some (ac) else none
def CX:X.Cfg:=⟨E0,[],[(21,(.row true I64)),(22,(.row true I64))],[(lx 4 0 [(pP 2 6),(pP 3 8),(sP 11 (.row false RI)),(sP 12 I64),(sP 13 I64)] [(4,(uL [RI,(.row false RI)])),(6,(uL [N1,N1])),(8,(uL [(.row true I64),(.row true (.row true I64))]))] 14)]⟩
def nH:Ctr:=⟨242,76,[.agg (uL [RI,(.row false RI)])],[],[⟨(uL [(.row true I64),(.row true (.row true I64))]),[.agg 2],[]⟩],ap2 jE⟩
theorem pU:Lk 1 nH:=ls (C:=CX) rfl aN (by kernel_rfl) λh=>by kernel_rfl
def jD(a0:List (Int)) (a1:List LI) (a2:Int) (a3:Int):Option (LI×LLI×T01):=
(jE a0 a1).bind λ(x0,x1,_)=>
(bif decide (a2 < 0) then (some (a2,true,(),(),x0,x1,())) else
bif decide (a2>=4) then (some (a2,true,(),(),x0,x1,())) else
(dZ a2).bind λx2=>
(dI a0 x2).bind λx3=>
some (a2,(x3 != a3),(),(),x0,x1,()):Option (T11)).bind λ(x2,x3,x4,x5,x6,x7,_)=>
bif x3 then (some (x6,x7,(-1),false,())) else
(dZ x2).bind λx8=>
(dI x6 x8).bind λx9=>
(dI x6 x8).bind λac=>
let ae:=List.modify x6 x8 λe=>(-1);
(dZ x2).bind λaf=>
(dI x7 af).bind λag=>
(dI x7 af).bind λah=>
(dI x7 af).bind λai=>
let aj:=dM ai.length;
bif decide (aj > 0) then ((dZ x2).bind λak=>
(dI x7 ak).bind λam=>
(dI x7 ak).bind λan=>
(dI x7 ak).bind λap=>
(dI ap 0).bind λaq=>
(dI x7 ak).bind λav=>
(dI av 0).bind λax=>
(dZ x2).bind λay=>
(dI ae ay).bind λaz=>
(dI ae ay).bind λaA=>
let aB:=List.modify ae ay λe=>ax;
(dZ x2).bind λaD=>
(dI x7 aD).bind λaE=>
(dI x7 aD).bind λaF=>
(dI x7 aD).bind λaG=>
bif (gS 1 aG.length aG.length) then (dI x7 aD).bind λaH=>
(dZ x2).bind λaI=>
(dI x7 aI).bind λaJ=>
(dI x7 aD).bind λaK=>
(dI x7 aI).bind λaL=>
let aM:=(List.modify x7 aI λe=>(jN aK 1 (Nat.sub aG.length 1)));
(dZ x2).bind λaO=>
(dI aB aO).bind λaP=>
some (aB,aM,aP,true,()) else none) else
(dZ x2).bind λak=>
(dI ae ak).bind λam=>
some (ae,x7,am,true,())
def CU:X.Cfg:=⟨E0,[nH],[],[⟨3,0,qE,[(.normal,(qS [(sP 1 I64),(pP 6 14),(pP 9 20),(sP 26 .bool)] [(14,(uL [N1,N1])),(20,(uL [(.row true I64),(.row true (.row true I64))]))]))]⟩]⟩
def nG:Ctr:=⟨231,77,[.agg (uL [RI,(.row false RI)]),shU I64,shU I64],[],[⟨(uL [RI,(.row false RI),I64,.bool]),[.agg 2,.one,.one],[]⟩],ap4 jD⟩
theorem pT:Lk 2 nG:=ls (C:=CU) rfl (aC pU aN) (by kernel_rfl) λh=>by kernel_rfl
def d8(a0:Int) (a1:Bool):Option (T1o):=
(bif (!a1) then (some (65535,0,0,0,0,(),0,false,())) else
some (a0,0,0,0,0,(),0,false,()):Option (Int×T1o)).bind λ(x0,_)=>
let x8:=wk .u16 x0;
some (0,x8,0,0,(),(-1),false,())
def AL:X.Cfg:=⟨E0,[],[],[⟨1,0,qE,[(.normal,(qS [(sP 0 I64),(pP 4 10)] [(10,(uL [CB,CW,I64,I64,N1,I64,.bool]))]))]⟩]⟩
def kz:Ctr:=⟨243,78,(uL [I64,.bool]),[],[⟨(uL [CB,CW,I64,I64,N1,I64,.bool]),[.agg 7],[]⟩],ap2 d8⟩
theorem mf:Lk 1 kz:=ls (C:=AL) rfl aN (by kernel_rfl) λh=>by kernel_rfl
def mG:T2B->Option (T2B⊕((Int×T07)⊕(Int×Int×LLI×Int×Int×LI×T1M))):=λ(v0,v1,v2,v3,v4,v5,v6,v7,v8,v9,v10,v11,v12)=>
bif decide (v7 < v6) then ((dZ v7).bind λx0=>
(dI v5 x0).bind λx1=>
bif (x1==v1) then (some (.inr (.inl (2,v12)))) else
let x2:=w64 (v7+1);
some (.inl (v0,v1,v2,v3,v4,v5,v6,x2,v8,v9,v10,v11,v12))) else
some (.inr (.inr (v0,v1,v2,v3,v4,v5,v6,v7,false,v8,v9,v10,v11,v12)))
def mF:T2f->Option (T2f⊕((Int×T07)⊕(Int×Int×T2c))):=λ(v0,v1,v2,v3,v4,v5)=>
bif decide (v4 < v3) then ((dZ v4).bind λx0=>
(dI v2 x0).bind λx1=>
let x2:=dM x1.length;
(match dR mG NN (v0,v1,v2,v3,v4,x1,x2,0,v5) with
| none=>none
| some (.inl (x3,x4,x5,_))=>
some (.inr (.inl (x3,x4,x5,())))
| some (.inr (x3,x4,x5,x6,x7,x8,x9,ac,ae,af))=>
let am:=w64 (x7+1);
some (.inl (x3,x4,x5,x6,am,af)))) else
some (.inr (.inr (v0,v1,v2,v3,v4,false,v5)))
def nn(a0:List (Int)) (a1:List LI) (a2:Int) (a3:Int):Option (LI×LLI×Int×Unit):=
(jE a0 a1).bind λ(x0,x1,_)=>
(bif decide (a2 < 0) then (some (a2,a3,true,a0,a1,(),(),x0,x1,())) else
bif decide (a2>=4) then (some (a2,a3,true,a0,a1,(),(),x0,x1,())) else
(dZ a2).bind λx2=>
(dI a0 x2).bind λx3=>
some (a2,a3,(x3==a3),a0,a1,(),(),x0,x1,()):Option (T1M)).bind λ(x2,x3,x4,x5,x6,x7,x8,x9,ac,_)=>
bif x4 then (some (x9,ac,2,())) else
let ae:=dM x6.length;
(match dR mF NN (x2,x3,x6,ae,0,x5,x6,x7,x8,x9,ac,()) with
| none=>none
| some (.inl (af,ag,ah,_))=>
some (ag,ah,af,())
| some (.inr (af,ag,ah,ai,aj,ak,am,an,ap,aq,av,ax,_))=>
(dZ af).bind λay=>
(dI am ay).bind λaz=>
bif (az==(-1)) then ((dZ af).bind λaA=>
(dI av aA).bind λaB=>
(dI av aA).bind λaD=>
let aE:=List.modify av aA λe=>ag;
some (aE,ax,0,())) else
(dZ af).bind λaA=>
(dI ax aA).bind λaB=>
(dI ax aA).bind λaD=>
(dI ax aA).bind λaE=>
bif (dY 8 aE.length (List.length [ag])) then let aF:List (Int):=(List.append aE [ag]);
(dZ af).bind λaG=>
(dI ax aG).bind λaH=>
(dI ax aG).bind λaI=>
bif (Nat.beq aG aA) then let aJ:List LI:=(List.modify ax aG λe=>aF);
some (av,aJ,1,()) else none else none)
def CS:X.Cfg:=⟨E0,[nH],[],[⟨3,0,qE,[(.normal,(qS [(sP 1 I64),(sP 2 I64),(pP 3 8),(pP 6 14),(pP 8 18),(sP 29 .bool)] [(8,(uL [RI,(.row false RI)])),(14,(uL [N1,N1])),(18,(uL [(.row true I64),(.row true (.row true I64))]))]))]⟩,⟨13,1,(qS [(sP 1 I64),(sP 2 I64),(pP 3 8),(pP 6 14),(pP 8 18),(sP 32 (.row false RI)),(sP 33 I64),(sP 34 I64),(sP 38 RI),(sP 39 I64),(sP 40 I64)] [(8,(uL [RI,(.row false RI)])),(14,(uL [N1,N1])),(18,(uL [(.row true I64),(.row true (.row true I64))]))]),[(.ret,(qS [(pP 6 14),(sP 7 I64)] [(14,(uL [(.row true I64),(.row true (.row true I64))]))])),(.exit 2,(qS [(sP 1 I64),(sP 2 I64),(pP 3 8),(pP 6 14),(pP 8 18),(sP 32 (.row false RI)),(sP 33 I64),(sP 34 I64),(sP 38 RI),(sP 39 I64),(sP 40 I64),(sP 41 .bool)] [(8,(uL [RI,(.row false RI)])),(14,(uL [N1,N1])),(18,(uL [(.row true I64),(.row true (.row true I64))]))]))]⟩,⟨7,2,(qS [(sP 1 I64),(sP 2 I64),(pP 3 8),(pP 6 14),(pP 8 18),(sP 32 (.row false RI)),(sP 33 I64),(sP 34 I64)] [(8,(uL [RI,(.row false RI)])),(14,(uL [N1,N1])),(18,(uL [(.row true I64),(.row true (.row true I64))]))]),[(.ret,(qS [(pP 6 14),(sP 7 I64)] [(14,(uL [(.row true I64),(.row true (.row true I64))]))])),(.exit 0,(qS [(sP 1 I64),(sP 2 I64),(pP 3 8),(pP 6 14),(pP 8 18),(sP 32 (.row false RI)),(sP 33 I64),(sP 34 I64),(sP 35 .bool)] [(8,(uL [RI,(.row false RI)])),(14,(uL [N1,N1])),(18,(uL [(.row true I64),(.row true (.row true I64))]))]))]⟩]⟩
def uT:Ctr:=⟨244,79,[.agg (uL [RI,(.row false RI)]),shU I64,shU I64],[],[⟨(uL [(.row true I64),(.row true (.row true I64)),I64]),[.agg 2,.one],[]⟩],ap4 nn⟩
theorem Ct:Lk 2 uT:=ls (C:=CS) rfl (aC pU aN) (by kernel_rfl) λh=>by kernel_rfl
def j3(a0:Int) (a1:Int) (a2:Int) (a3:Int) (a4:Int) (a5:Int) (a6:LDCn) (a7:LDCn):Option (Bool×Unit):=
bif decide (a0>=0) then (bif decide (a0 < 4) then (bif decide (a1>=0) then (bif decide (a1<=3) then (bif decide (a2>=0) then (bif decide (a2<=6) then (bif decide (a3>=0) then (bif decide (a3<=1099511627776) then (bif decide (a4>=0) then (bif decide (a4<=255) then (bif decide (a5>=0) then (bif decide (a5<=15) then ((fm a6 3).bind λ(x0,_)=>
bif x0 then ((fm a7 16).bind λ(x1,_)=>
some (x1,())) else
some (false,())) else
some (false,())) else
some (false,())) else
some (false,())) else
some (false,())) else
some (false,())) else
some (false,())) else
some (false,())) else
some (false,())) else
some (false,())) else
some (false,())) else
some (false,())) else
some (false,())
def AW:X.Cfg:=⟨E0,[gu],[],[]⟩
def oT:Ctr:=⟨246,80,[.agg (uL [I64,I64,I64,I64,I64,I64,ef,ef])],[],[⟨(uL [.bool]),[.one],[]⟩],ap8 j3⟩
theorem sD:Lk 3 oT:=ls (C:=AW) rfl (aC hJ aN) (by kernel_rfl) λh=>by kernel_rfl
def pB(a0:Int):Option (Bool×Unit):=
bif decide (a0>=1) then (bif decide (a0<=7) then (some (true,())) else
bif (a0==13) then (some (true,())) else
some ((a0==14),())) else
bif (a0==13) then (some (true,())) else
some ((a0==14),())
def CK:X.Cfg:=⟨E0,[],[],[]⟩
def uO:Ctr:=⟨254,81,(uL [I64]),[],[⟨(uL [.bool]),[.one],[]⟩],ap1 pB⟩
theorem Cn:Lk 1 uO:=ls (C:=CK) rfl aN (by kernel_rfl) λh=>by kernel_rfl
def ib:T2n->Option (T2n⊕((Bool×Unit)⊕(ByteArray×LDCn×Int×Int×Bool×T1A))):=λ(v0,v1,v2,v3,v4)=>
bif decide (v3 < v2) then ((dZ v3).bind λx0=>
(dI v1 x0).bind λx1=>
(dZ v3).bind λx2=>
(yZ v0 x2).bind λx3=>
(lr x3 x1.1).bind λ(x4,_)=>
bif (!x4) then (some (.inr (.inl (false,())))) else
let x5:=w64 (v3+1);
some (.inl (v0,v1,v2,x5,v4))) else
some (.inr (.inr (v0,v1,v2,v3,false,v4)))
def lV(a0:Int) (a1:Int) (a2:Int) (a3:Int) (a4:Int) (a5:Int) (a6:LDCn) (a7:LDCn):Option (Bool×Unit):=
(j0 a5).bind λ(x0,_)=>
let x1:=zO x0;
let x2:=dM a6.length;
bif (x1 != x2) then (some (false,())) else
let x3:=dM a6.length;
(match dR ib NN (x0,a6,x3,0,a0,a1,a2,a3,a4,a5,a6,a7,()) with
| none=>none
| some (.inl (x4,_))=>
some (x4,())
| some (.inr (x4,_))=>
some (true,()))
def AX:X.Cfg:=⟨E0,[ml,qg],[],[⟨7,0,(qS [(sP 3 .str),(sP 16 ef),(sP 17 I64),(sP 18 I64)] [(4,(uL [I64,I64,I64,I64,I64,I64,ef,ef]))]),[(.ret,(qS [(sP 2 .bool)] [])),(.exit 0,(qS [(sP 3 .str),(sP 16 ef),(sP 17 I64),(sP 18 I64),(sP 19 .bool)] [(4,(uL [I64,I64,I64,I64,I64,I64,ef,ef]))]))]⟩]⟩
def s7:Ctr:=⟨255,82,[.agg (uL [I64,I64,I64,I64,I64,I64,ef,ef])],[],[⟨(uL [.bool]),[.one],[]⟩],ap8 lV⟩
theorem Ap:Lk 2 s7:=ls (C:=AX) rfl (aC oG (aC uw aN)) (by kernel_rfl) λh=>by kernel_rfl
def gT(a0:List LDCn) (a1:LDOp) (a2:Int):Option (Bool×Unit):=
bif decide (a2>=0) then (let x0:Int:=(dM a1.length);
bif decide (a2 < x0) then ((dZ a2).bind λx1=>
(dI a1 x1).bind λx2=>
some ((x2.1 != (-1)),())) else
some (false,())) else
some (false,())
def CN:X.Cfg:=⟨E0,[],[],[]⟩
def lE:Ctr:=⟨269,83,[.agg (uL [(.row false ef),gR]),shU I64],[],[⟨(uL [.bool]),[.one],[]⟩],ap3 gT⟩
theorem nC:Lk 1 lE:=ls (C:=CN) rfl aN (by kernel_rfl) λh=>by kernel_rfl
def pf:T2i->Option (T2i⊕(LDCn×Nat×Int×Int×Int×Bool×T1j)):=λ(v0,v1,v2,v3,v4,v5,v6,v7,v8,v9,v10,_)=>
bif decide (v4 < v3) then (((dI v9 v1).bind λx0=>
let x1:=w64 (x0.2.1+v4);
let x2:=dM v10.length;
bif decide (x1 < x2) then ((dI v9 v1).bind λx3=>
let x4:=w64 (x3.2.1+v4);
(dZ v4).bind λx5=>
(dI v0 x5).bind λx6=>
(dZ x4).bind λx7=>
(dI v10 x7).bind λx8=>
(dI v10 x7).bind λx9=>
let ac:=(List.modify v10 x7 λe=>(x6.1,(x6.2.1,(x6.2.2.1,x6.2.2.2))));
some (v0,v1,v2,v3,v4,v5,v6,v7,v8,v9,ac,())) else
(dZ v4).bind λx3=>
(dI v0 x3).bind λx4=>
let x5:LDCn:=[(x4.1,(x4.2.1,(x4.2.2.1,x4.2.2.2)))];
bif (dY 24 v10.length x5.length) then let x6:LDCn:=(List.append v10 x5);
some (v0,v1,v2,v3,v4,v5,v6,v7,v8,v9,x6,()) else none:Option (T2i)).bind λ(x0,x1,x2,x3,x4,x5,x6,x7,x8,x9,ac,_)=>
let ae:=w64 (x4+1);
some (.inl (x0,x1,x2,x3,ae,x5,x6,x7,x8,x9,ac,()))) else
some (.inr (v0,v1,v2,v3,v4,false,v5,v6,v7,v8,v9,v10,()))
def lQ(a0:List LDCn) (a1:LDOp) (a2:Int) (a3:LDCn):Option (LLCn×LDOp×T01):=
(fO a0 a1).bind λ(x0,x1,_)=>
((gT a0 a1 a2).bind λ(x2,_)=>
bif (!x2) then (some (a2,a3,true,(),(),x0,x1,())) else
(dZ a2).bind λx3=>
(dI a1 x3).bind λx4=>
bif (!x4.2.2) then (some (a2,a3,true,(),(),x0,x1,())) else
let x5:=dM a3.length;
(fm a3 x5).bind λ(x6,_)=>
some (a2,a3,(!x6),(),(),x0,x1,()):Option (Int×LDCn×T0I)).bind λ(x2,x3,x4,x5,x6,x7,x8,_)=>
bif x4 then (some (x7,x8,0,false,())) else
(dZ x2).bind λx9=>
(dI x8 x9).bind λac=>
let ae:=dM x3.length;
(dI x8 x9).bind λaf=>
let ag:=w64 (64 - af.2.1);
let ah:=mmR false ae ag;
(dI x8 x9).bind λai=>
(dZ ai.1).bind λaj=>
(dI x7 aj).bind λak=>
(dI x7 aj).bind λam=>
(dI x7 aj).bind λan=>
(dR pf NN (x3,x9,ah,ah,0,x5,x6,x7,aj,x8,an,())).bind λ(ap,aq,av,ax,ay,az,aA,aB,aD,aE,aF,aG,_)=>
(dI aF aq).bind λaH=>
(dZ aH.1).bind λaI=>
(dI aD aI).bind λaJ=>
(dI aD aI).bind λaK=>
bif (Nat.beq aI aE) then let aL:List LDCn:=(List.modify aD aI λe=>aG);
(dI aF aq).bind λaM=>
let aO:=w64 (aM.2.1+av);
(dI aF aq).bind λaP=>
let aQ:=(List.modify aF aq λe=>(e.1,(aO,e.2.2)));
some (aL,aQ,av,true,()) else none
def AO:X.Cfg:=⟨E0,[iL,lE,gu],[],[⟨3,0,qE,[(.normal,(qS [(sP 1 I64),(sP 2 ef),(pP 6 14),(pP 9 20),(sP 35 .bool)] [(14,(uL [N1,N1])),(20,(uL [(.row true (.row true KCn)),(.row true KOp)]))]))]⟩,⟨13,1,qE,[(.normal,(qS [(sP 2 ef),(pP 6 14),(pP 9 20),(10,.ptr ⟨20,1,[((),(3,0))]⟩ [0,0]),(sP 11 I64),(12,.pk ⟨27,0,[]⟩ [0,0]),(sP 57 I64),(sP 58 I64)] [(14,(uL [N1,N1])),(20,[.gap (.row true KCn) () () 0,shU (.row true KOp)]),(27,(uL [(.row true KCn)]))]))]⟩,(lx 10 2 [(sP 2 ef),(pP 6 14),(pP 9 20),(10,.ptr ⟨20,1,[((),(3,0))]⟩ [0,0]),(sP 11 I64),(12,.pk ⟨27,0,[]⟩ [0,0]),(sP 57 I64),(sP 58 I64)] [(14,(uL [N1,N1])),(20,[.gap (.row true KCn) () () 0,shU (.row true KOp)]),(27,(uL [(.row true KCn)]))] 59)]⟩
def sW:Ctr:=⟨256,84,[.agg (uL [(.row false ef),gR]),shU I64,shU ef],[],[⟨(uL [(.row true (.row true KCn)),(.row true KOp),I64,.bool]),[.agg 2,.one,.one],[]⟩],ap4 lQ⟩
theorem Ak:Lk 3 sW:=ls (C:=AO) rfl (aC jJ (aC nC (aC hJ aN))) (by kernel_rfl) λh=>by kernel_rfl
def nj(a0:List LDCn) (a1:LDOp) (a2:Int) (a3:Int):Option ((LLCn×LDOp×Unit×Bool×Unit)⊕(LLCn×LDOp×LDCn×Bool×Unit)):=
(fO a0 a1).bind λ(x0,x1,_)=>
((gT a0 a1 a2).bind λ(x2,_)=>
bif (!x2) then (some (a2,a3,true,a0,a1,(),(),x0,x1,())) else
bif decide (a3 < 0) then (some (a2,a3,true,a0,a1,(),(),x0,x1,())) else
(dZ a2).bind λx3=>
(dI a1 x3).bind λx4=>
some (a2,a3,x4.2.2,a0,a1,(),(),x0,x1,()):Option (T1N)).bind λ(x2,x3,x4,x5,x6,x7,x8,x9,ac,_)=>
bif x4 then (some (.inl (x9,ac,(),false,()))) else
(dZ x2).bind λae=>
(dI ac ae).bind λaf=>
(dI ac ae).bind λag=>
(dZ ag.1).bind λah=>
(dI x9 ah).bind λai=>
(dI x9 ah).bind λaj=>
(dI x9 ah).bind λak=>
let am:=dM ak.length;
(dI ac ae).bind λan=>
let ap:=w64 (am - an.2.1);
let aq:=mmR false x3 ap;
(dI ac ae).bind λav=>
(dI ac ae).bind λax=>
let ay:=w64 (ax.2.1+aq);
(dZ av.2.1).bind λaz=>
(dZ ay).bind λaA=>
bif (gS az aA ak.length) then let aB:LDCn:=(jN ak az (Nat.sub aA az));
bif (dY 24 0 aB.length) then let aD:LDCn:=(List.append [] aB);
(dI ac ae).bind λaE=>
let aF:=w64 (aE.2.1+aq);
(dI ac ae).bind λaG=>
let aH:=(List.modify ac ae λe=>(e.1,(aF,e.2.2)));
some (.inr (x9,aH,aD,true,())) else none else none
def CP:X.Cfg:=⟨E0,[iL,lE],[],[⟨3,0,qE,[(.normal,(qS [(sP 1 I64),(sP 2 I64),(pP 6 14),(pP 9 20),(sP 31 .bool)] [(8,(uL [(.row false ef),gR])),(14,(uL [N1,N1])),(20,(uL [(.row true (.row true KCn)),(.row true KOp)]))]))]⟩]⟩
def uR:Ctr:=⟨257,85,[.agg (uL [(.row false ef),gR]),shU I64,shU I64],[],[⟨(uL [(.row true (.row true KCn)),(.row true KOp),N1,.bool]),[.agg 2,.one,.one],[]⟩,⟨(uL [(.row true ef),(.row true KOp),(.row true KCn),.bool]),[.agg 2,.one,.one],[]⟩],ap4 nj⟩
theorem Cq:Lk 2 uR:=ls (C:=CP) rfl (aC jJ (aC nC aN)) (by kernel_rfl) λh=>by kernel_rfl
def pD:T1Q->Option (T1Q⊕(Int×T1N)):=λ(v0,v1,v2,v3,v4,v5)=>
let x0:=dM v4.length;
bif decide (v2 < x0) then ((dZ v2).bind λx1=>
(dI v4 x1).bind λx2=>
bif (x2.1 != (-1)) then (let x3:Int:=(w64 (v2+1));
some (.inl (v0,v1,x3,v3,v4,v5))) else
some (.inr (v0,v1,v2,false,v3,v4,v5))) else
some (.inr (v0,v1,v2,false,v3,v4,v5))
def pC:T1P->Option (T1P⊕(Int×Int×T1z)):=λ(v0,v1,v2,v3,v4,v5,v6,v7,v8,_)=>
bif decide (v4 < v3) then (((dZ v4).bind λx0=>
(dI v8 x0).bind λx1=>
(dI v8 x0).bind λx2=>
bif (x2.1==v0) then ((dZ v4).bind λx3=>
(dI v8 x3).bind λx4=>
(dI v8 x3).bind λx5=>
let x6:=(List.modify v8 x3 λe=>(e.1,(0,e.2.2)));
some (v0,v1,v2,v3,v4,v5,v6,v7,x6,())) else
some (v0,v1,v2,v3,v4,v5,v6,v7,v8,()):Option (T1P)).bind λ(x0,x1,x2,x3,x4,x5,x6,x7)=>
let x9:=w64 (x4+1);
some (.inl (x0,x1,x2,x3,x9,x5,x6,x7))) else
some (.inr (v0,v1,v2,v3,v4,false,v5,v6,v7,v8,()))
def nk(a0:List LDCn) (a1:LDOp) (a2:Int) (a3:Int):Option (LLCn×LDOp×Int×Unit):=
(fO a0 a1).bind λ(x0,x1,_)=>
(dR pD NN (a2,a3,0,a0,a1,(),(),x0,x1,())).bind λ(x2,x3,x4,x5,x6,x7,x8)=>
(bif decide (x2 < 0) then (some (x2,x3,x4,true,x8)) else
let af:=dM x6.length;
bif decide (x2>=af) then (some (x2,x3,x4,true,x8)) else
bif decide (x3 < 0) then (some (x2,x3,x4,true,x8)) else
bif decide (x3 > 2) then (some (x2,x3,x4,true,x8)) else
let ag:=dM x7.length;
some (x2,x3,x4,(x4==ag),x8):Option (T1z)).bind λ(af,ag,ah,ai,aj,ak,am,an,_)=>
bif ai then (some (am,an,(-1),())) else
bif (ag==1) then ((dZ af).bind λap=>
(dI am ap).bind λaq=>
(dI am ap).bind λav=>
let ax:=List.modify am ap λe=>[];
let ay:=dM an.length;
(dR pC NN (af,ag,ah,ay,0,aj,ak,ax,an,())).bind λ(az,aA,aB,aD,aE,aF,aG,aH,aI,aJ,_)=>
(dZ aB).bind λaK=>
(dI aJ aK).bind λaL=>
(dI aJ aK).bind λaM=>
let aO:=(List.modify aJ aK λe=>(az,(0,(decide (aA > 0)))));
(bif (aA==2) then ((dZ az).bind λaP=>
(dI aI aP).bind λaQ=>
(dI aI aP).bind λaR=>
(dI aI aP).bind λaS=>
let aT:=dM aS.length;
(dZ aB).bind λaU=>
(dI aO aU).bind λaV=>
(dI aO aU).bind λaW=>
let aY:=(List.modify aO aU λe=>(e.1,(aT,e.2.2)));
some (aB,aG,aH,aI,aY,())) else
some (aB,aG,aH,aI,aO,()):Option (T0O)).bind λ(aP,aQ,aR,aS,aT,_)=>
some (aS,aT,aP,())) else
(dZ ah).bind λap=>
(dI an ap).bind λaq=>
(dI an ap).bind λav=>
let ax:=(List.modify an ap λe=>(af,(0,(decide (ag > 0)))));
(bif (ag==2) then ((dZ af).bind λay=>
(dI am ay).bind λaz=>
(dI am ay).bind λaA=>
(dI am ay).bind λaB=>
let aD:=dM aB.length;
(dZ ah).bind λaE=>
(dI ax aE).bind λaF=>
(dI ax aE).bind λaG=>
let aH:=(List.modify ax aE λe=>(e.1,(aD,e.2.2)));
some (ah,aj,ak,am,aH,())) else
some (ah,aj,ak,am,ax,()):Option (T0O)).bind λ(ay,az,aA,aB,aD,_)=>
some (aB,aD,ay,())
def CQ:X.Cfg:=⟨E0,[iL],[],[(lx 4 0 [(sP 1 I64),(sP 2 I64),(pP 3 8),(pP 6 14),(pP 8 18),(sP 9 I64)] [(8,(uL [(.row false ef),gR])),(14,(uL [N1,N1])),(18,(uL [(.row true (.row true KCn)),(.row true KOp)]))] 26),⟨8,1,qE,[(.normal,(qS [(sP 1 I64),(sP 2 I64),(pP 6 14),(pP 8 18),(sP 9 I64),(sP 52 .bool)] [(14,(uL [N1,N1])),(18,(uL [(.row true (.row true KCn)),(.row true KOp)]))]))]⟩,⟨17,2,qE,[(.normal,(qS [(sP 1 I64),(sP 2 I64),(pP 6 14),(pP 8 18),(sP 9 I64),(sP 62 I64),(sP 63 I64)] [(14,(uL [N1,N1])),(18,(uL [(.row true (.row true KCn)),(.row true KOp)]))]))]⟩,⟨14,3,(qS [(sP 1 I64),(sP 2 I64),(pP 6 14),(pP 8 18),(sP 9 I64),(sP 62 I64),(sP 63 I64)] [(14,(uL [N1,N1])),(18,(uL [(.row true (.row true KCn)),(.row true KOp)]))]),[(.exit 2,(qS [(sP 1 I64),(sP 2 I64),(pP 6 14),(pP 8 18),(sP 9 I64),(sP 62 I64),(sP 63 I64),(sP 64 .bool)] [(14,(uL [N1,N1])),(18,(uL [(.row true (.row true KCn)),(.row true KOp)]))]))]⟩,⟨21,4,qE,[(.normal,(qS [(pP 6 14),(pP 8 18),(sP 9 I64)] [(14,(uL [N1,N1])),(18,(uL [(.row true (.row true KCn)),(.row true KOp)]))]))]⟩]⟩
def uS:Ctr:=⟨258,86,[.agg (uL [(.row false ef),gR]),shU I64,shU I64],[],[⟨(uL [(.row true (.row true KCn)),(.row true KOp),I64]),[.agg 2,.one],[]⟩],ap4 nk⟩
theorem Cr:Lk 2 uS:=ls (C:=CQ) rfl (aC jJ aN) (by kernel_rfl) λh=>by kernel_rfl
def lR(a0:List LDCn) (a1:LDOp) (a2:Int):Option (LLCn×LDOp×Bool×Unit):=
(fO a0 a1).bind λ(x0,x1,_)=>
(gT a0 a1 a2).bind λ(x2,_)=>
bif (!x2) then (some (x0,x1,false,())) else
(dZ a2).bind λx3=>
(dI x1 x3).bind λx4=>
(dI x1 x3).bind λx5=>
let x6:=(List.modify x1 x3 λe=>((-1),(0,false)));
some (x0,x6,true,())
def AQ:X.Cfg:=⟨E0,[iL,lE],[],[]⟩
def sX:Ctr:=⟨259,87,[.agg (uL [(.row false ef),gR]),shU I64],[],[⟨(uL [(.row true (.row true KCn)),(.row true KOp),.bool]),[.agg 2,.one],[]⟩],ap3 lR⟩
theorem Al:Lk 2 sX:=ls (C:=AQ) rfl (aC jJ (aC nC aN)) (by kernel_rfl) λh=>by kernel_rfl
def ni(a0:List LDCn) (a1:LDOp) (a2:Int) (a3:Int):Option (LLCn×LDOp×Bool×Unit):=
(fO a0 a1).bind λ(x0,x1,_)=>
((gT a0 a1 a2).bind λ(x2,_)=>
bif (!x2) then (some (a2,a3,true,(),(),x0,x1,())) else
bif decide (a3 < 0) then (some (a2,a3,true,(),(),x0,x1,())) else
(dZ a2).bind λx3=>
(dI a1 x3).bind λx4=>
(dZ x4.1).bind λx5=>
(dI a0 x5).bind λx6=>
let x7:=dM x6.length;
some (a2,a3,(decide (a3 > x7)),(),(),x0,x1,()):Option (T1m)).bind λ(x2,x3,x4,x5,x6,x7,x8,_)=>
bif x4 then (some (x7,x8,false,())) else
(dZ x2).bind λx9=>
(dI x8 x9).bind λac=>
(dI x8 x9).bind λae=>
let af:=(List.modify x8 x9 λe=>(e.1,(x3,e.2.2)));
some (x7,af,true,())
def CO:X.Cfg:=⟨E0,[iL,lE],[],[⟨3,0,qE,[(.normal,(qS [(sP 1 I64),(sP 2 I64),(pP 6 14),(pP 8 18),(sP 33 .bool)] [(14,(uL [N1,N1])),(18,(uL [(.row true (.row true KCn)),(.row true KOp)]))]))]⟩]⟩
def uQ:Ctr:=⟨260,88,[.agg (uL [(.row false ef),gR]),shU I64,shU I64],[],[⟨(uL [(.row true (.row true KCn)),(.row true KOp),.bool]),[.agg 2,.one],[]⟩],ap4 ni⟩
theorem Cp:Lk 2 uQ:=ls (C:=CO) rfl (aC jJ (aC nC aN)) (by kernel_rfl) λh=>by kernel_rfl
def nh(a0:LDOu) (a1:Int) (a2:LDCn):Option (LDOu×T01):=
(jC a0).bind λ(x0,_)=>
(bif decide (a1 < 0) then (some (a0,a1,a2,true,x0,())) else
bif decide (a1>=2) then (some (a0,a1,a2,true,x0,())) else
let x1:=dM a0.length;
bif decide (x1>=200) then (some (a0,a1,a2,true,x0,())) else
let x2:=dM a2.length;
some (a0,a1,a2,(decide (x2 > 16)),x0,()):Option (LDOu×Int×LDCn×Bool×LDOu×Unit)).bind λ(x1,x2,x3,x4,x5,_)=>
bif x4 then (some (x5,0,false,())) else
let x6:=dM x1.length;
bif (dY 24 0 x3.length) then let x7:LDCn:=(List.append [] x3);
let x8:LDOu:=[(x6,(x2,x7))];
bif (dY 40 x5.length x8.length) then let x9:LDOu:=(List.append x5 x8);
let ac:=dM x3.length;
some (x9,ac,true,()) else none else none
def CL:X.Cfg:=⟨E0,[qa],[(36,E9),(37,E9)],[⟨3,0,qE,[(.normal,(qS [(sP 0 ja),(sP 1 I64),(sP 2 ef),(9,.pk ⟨21,0,[]⟩ [0,0]),(sP 27 .bool)] [(21,(uL [(.row true E9)]))]))]⟩]⟩
def uP:Ctr:=⟨261,89,(uL [ja,I64,ef]),[],[⟨(uL [(.row true E9),I64,.bool]),[.one,.one,.one],[]⟩],ap3 nh⟩
theorem Co:Lk 2 uP:=ls (C:=CL) rfl (aC uu aN) (by kernel_rfl) λh=>by kernel_rfl
def gj:T1q->Option (T1q⊕(Int×Int×LI×Int×Int×Bool×LLI×LDCn×Unit)):=λ(v0,v1,v2,v3,v4,v5,v6,_)=>
bif decide (v4 < v3) then ((dZ v4).bind λx0=>
(dI v2 x0).bind λx1=>
let x2:LDCn:=[(0,(x1,(0,0)))];
bif (dY 24 v6.length x2.length) then let x3:LDCn:=(List.append v6 x2);
let x4:=w64 (v4+1);
some (.inl (v0,v1,v2,v3,x4,v5,x3,())) else none) else
some (.inr (v0,v1,v2,v3,v4,false,v5,v6,()))
def jU(a0:List LI) (a1:Int) (a2:Int):Option ((LLI×Unit×Bool×Unit)⊕(LLI×LDCn×Bool×Unit)):=
(fE a0).bind λ(x0,_)=>
(bif decide (a1 < 0) then (some (a0,a1,a2,true,x0,())) else
let x1:=dM a0.length;
bif decide (a1>=x1) then (some (a0,a1,a2,true,x0,())) else
some (a0,a1,a2,(decide (a2 < 0)),x0,()):Option (LLI×Int×Int×Bool×LLI×Unit)).bind λ(x1,x2,x3,x4,x5,_)=>
bif x4 then (some (.inl (x5,(),false,()))) else
(dZ x2).bind λx6=>
(dI x1 x6).bind λx7=>
let x8:=dM x7.length;
let x9:=mmR false x3 x8;
(dZ x2).bind λac=>
(dI x1 ac).bind λae=>
(dZ x9).bind λaf=>
bif (gS 0 af ae.length) then let ag:List (Int):=(jN ae 0 (Nat.sub af 0));
let ah:=dM ag.length;
(dR gj NN (x2,x9,ag,ah,0,x5,[],())).bind λ(ai,aj,ak,am,an,ap,aq,av,_)=>
(dZ ai).bind λax=>
(dI aq ax).bind λay=>
(dI aq ax).bind λaz=>
(dI aq ax).bind λaA=>
(dZ aj).bind λaB=>
bif (gS aB aA.length aA.length) then (dI aq ax).bind λaD=>
(dZ ai).bind λaE=>
(dI aq aE).bind λaF=>
(dI aq ax).bind λaG=>
(dI aq aE).bind λaH=>
let aI:=(List.modify aq aE λe=>(jN aG aB (Nat.sub aA.length aB)));
some (.inr (aI,av,true,())) else none else none
def wS:X.Cfg:=⟨E0,[iu],[],[⟨3,0,qE,[(.normal,(qS [(sP 0 (.row false RW)),(sP 1 I64),(sP 2 I64),(9,.pk ⟨21,0,[]⟩ [0,0]),(sP 27 .bool)] [(21,(uL [(.row true (.row true CW))]))]))]⟩,(lx 9 1 [(sP 1 I64),(9,.pk ⟨21,0,[]⟩ [0,0]),(sP 10 I64),(11,.pk ⟨25,0,[]⟩ [0,0]),(sP 41 RW),(sP 42 I64),(sP 43 I64)] [(21,(uL [(.row true (.row true CW))])),(25,(uL [(.row true KCn)]))] 44)]⟩
def p8:Ctr:=⟨262,90,(uL [(.row false RW),I64,I64]),[],[⟨(uL [(.row true (.row true CW)),N1,.bool]),[.one,.one,.one],[]⟩,⟨(uL [(.row true RW),(.row true KCn),.bool]),[.one,.one,.one],[]⟩],ap3 jU⟩
theorem wC:Lk 2 p8:=ls (C:=wS) rfl (aC kn aN) (by kernel_rfl) λh=>by kernel_rfl
def sf:T3r->Option (T3r⊕(LDCn×Int×Int×Bool×T3j)):=λ(v0,v1,v2,v3,v4,v5,v6,v7,v8,v9,v10,v11,v12,v13,v14,v15,v16,v17,v18,v19,v20,v21,v22,v23,v24,v25,v26,v27,v28,v29,v30,v31,v32,v33,v34,v35,v36,_)=>
bif decide (v2 < v1) then ((dZ v2).bind λx0=>
(dI v0 x0).bind λx1=>
let x2:=wk .i64 x1.2.1;
(dZ v2).bind λx3=>
(dI v36 x3).bind λx4=>
(dI v36 x3).bind λx5=>
let x6:=List.modify v36 x3 λe=>x2;
let x7:=w64 (v2+1);
some (.inl (v0,v1,x7,v3,v4,v5,v6,v7,v8,v9,v10,v11,v12,v13,v14,v15,v16,v17,v18,v19,v20,v21,v22,v23,v24,v25,v26,v27,v28,v29,v30,v31,v32,v33,v34,v35,x6,()))) else
some (.inr (v0,v1,v2,false,v3,v4,v5,v6,v7,v8,v9,v10,v11,v12,v13,v14,v15,v16,v17,v18,v19,v20,v21,v22,v23,v24,v25,v26,v27,v28,v29,v30,v31,v32,v33,v34,v35,v36,()))
def nS(a0:List (Int)) (a1:List (Int)) (a2:List LI) (a3:List LDCn) (a4:LDOp) (a5:LDOu) (a6:Int) (a7:Int) (a8:Int) (a9:Int) (a10:Int) (a11:Int) (a12:LDCn) (a13:LDCn):Option (LI×LI×LLI×LLCn×LDOp×LDOu×Int×Int×Int×Int×LDCn×Int×Bool×Int×Unit):=
((iR a0 a1 a2 a3 a4 a5).bind λ(x0,_)=>
bif (!x0) then (some (true,a0,a1,a2,a3,a4,a5,a6,a7,a8,a9,a10,a11,a12,a13,(),(),(),(),(),(),0,0,0,0,(),0,false,())) else
(j3 a6 a7 a8 a9 a10 a11 a12 a13).bind λ(x1,_)=>
bif (!x1) then (some (true,a0,a1,a2,a3,a4,a5,a6,a7,a8,a9,a10,a11,a12,a13,(),(),(),(),(),(),0,0,0,0,(),0,false,())) else
bif (a7 != 1) then (some (true,a0,a1,a2,a3,a4,a5,a6,a7,a8,a9,a10,a11,a12,a13,(),(),(),(),(),(),0,0,0,0,(),0,false,())) else
(pB a11).bind λ(x2,_)=>
bif (!x2) then (some (true,a0,a1,a2,a3,a4,a5,a6,a7,a8,a9,a10,a11,a12,a13,(),(),(),(),(),(),0,0,0,0,(),0,false,())) else
(lV a6 a7 a8 a9 a10 a11 a12 a13).bind λ(x3,_)=>
bif (!x3) then (some (true,a0,a1,a2,a3,a4,a5,a6,a7,a8,a9,a10,a11,a12,a13,(),(),(),(),(),(),0,0,0,0,(),0,false,())) else
(im a11).bind λ(x4,_)=>
bif (x4==2) then ((dI a12 2).bind λx5=>
some ((decide (x5.2.1 > 16)),a0,a1,a2,a3,a4,a5,a6,a7,a8,a9,a10,a11,a12,a13,(),(),(),(),(),(),0,0,0,0,(),0,false,())) else
some (false,a0,a1,a2,a3,a4,a5,a6,a7,a8,a9,a10,a11,a12,a13,(),(),(),(),(),(),0,0,0,0,(),0,false,()):Option (Bool×LI×LI×LLI×LLCn×LDOp×LDOu×Int×Int×Int×Int×Int×Int×LDCn×LDCn×Unit×Unit×Unit×Unit×Unit×Unit×T1o)).bind λ(x0,x1,x2,x3,x4,x5,x6,x7,x8,x9,ac,ae,af,ag,ah,ai,aj,ak,am,an,ap,aq,av,ax,ay,az,aA,aB,_)=>
bif x0 then (some ([],[],[],[],[],[],0,0,0,0,[],0,false,1,())) else
(lp x1 x2 x3 x4 x5 x6).bind λ(aD,aE,aF,aG,aH,aI,_)=>
let aJ:List (Int):=[0,0,0];
let aK:=dM ag.length;
(dR sf NN (ag,aK,0,x1,x2,x3,x4,x5,x6,x7,x8,x9,ac,ae,af,ag,ah,ai,aj,ak,am,an,ap,aq,av,ax,ay,az,aA,aB,aD,aE,aF,aG,aH,aI,aJ,())).bind λ(aL,aM,aO,aP,aQ,aR,aS,aT,aU,aV,aW,aY,aZ,ba,bc,bd,be,bf,bg,bh,bi,bj,bk,bl,bm,bn,bo,bp,bq,bt,bv,bx,bA,bB,bC,bD,bE,bF,_)=>
(d8 0 false).bind λ(bG,bH,bI,bJ,bK)=>
(match (bif (bd==1) then ((dI bF 0).bind λbN=>
(dI bF 0).bind λbO=>
(lQ aT aU bO bf).bind λ(bP,bQ,bR,bS,_)=>
(d8 bR bS).bind λ(bT,bU,bV,bW,bY,bZ,b8,_)=>
some (.inl (bg,bh,bi,bj,bk,bl,bm,bn,bo,bp,bq,bt,bv,bx,bA,bB,bP,bQ,bE,bT,bU,bV,bW,[],bZ,b8,()))) else
bif (bd==2) then ((dI bF 0).bind λbN=>
(dI bF 0).bind λbO=>
(dI bF 2).bind λbP=>
(dI bF 2).bind λbQ=>
(match nj aT aU bO bQ with
| none=>none
| some (.inl (bR,bS,bT,bU,_))=>
(d8 0 bU).bind λ(bV,bW,bY,bZ,b8,b9,ca,_)=>
some (.inl (bg,bh,bi,bj,bk,bl,bm,bn,bo,bp,bq,bt,bv,bx,bA,bB,bR,bS,bE,bV,bW,bY,bZ,[],b9,ca,()))
| some (.inr (bR,bS,bT,bU,_))=>
let bV:=dM bT.length;
(d8 bV bU).bind λ(bW,bY,bZ,b8,b9,ca,cb,_)=>
some (.inl (bg,bh,bi,bj,bk,bl,bm,bn,bo,bp,bq,bt,bv,bx,bA,bB,bR,bS,bE,bW,bY,bZ,b8,bT,ca,cb,())))) else
bif (bd==3) then ((dI bF 0).bind λbN=>
(dI bF 0).bind λbO=>
(dI bF 1).bind λbP=>
(dI bF 1).bind λbQ=>
(nk aT aU bO bQ).bind λ(bR,bS,bT,_)=>
bif decide (bT>=0) then (let bU:Int:=(wk .u16 bT);
some (.inr (.inl (bg,bh,bi,bj,bk,bl,bm,bn,bo,bp,bq,bt,bv,bx,bA,bB,bR,bS,bE,2,bU,0,0,bK)))) else
some (.inr (.inl (bg,bh,bi,bj,bk,bl,bm,bn,bo,bp,bq,bt,bv,bx,bA,bB,bR,bS,bE,bG,bH,bI,bJ,bK)))) else
bif (bd==4) then ((dI bF 0).bind λbN=>
(dI bF 0).bind λbO=>
(lR aT aU bO).bind λ(bP,bQ,bR,_)=>
(d8 0 bR).bind λ(bS,bT,bU,bV,bW,bY,bZ,_)=>
some (.inl (bg,bh,bi,bj,bk,bl,bm,bn,bo,bp,bq,bt,bv,bx,bA,bB,bP,bQ,bE,bS,bT,bU,bV,[],bY,bZ,()))) else
bif (bd==5) then ((dI bF 0).bind λbN=>
(dI bF 0).bind λbO=>
(dI bF 1).bind λbP=>
(dI bF 1).bind λbQ=>
(ni aT aU bO bQ).bind λ(bR,bS,bT,_)=>
(d8 0 bT).bind λ(bU,bV,bW,bY,bZ,b8,b9,_)=>
some (.inl (bg,bh,bi,bj,bk,bl,bm,bn,bo,bp,bq,bt,bv,bx,bA,bB,bR,bS,bE,bU,bV,bW,bY,[],b8,b9,()))) else
bif (bd==6) then (let bN:Int:=(dM aQ.length);
bif decide (bN > 0) then ((dI aQ 0).bind λbO=>
let bP:=wk .i64 bO;
(d8 bP true).bind λ(bQ,bR,bS,bT,bU,bV,bW,_)=>
bif (gS 1 bx.length bx.length) then let bY:List (Int):=(jN bx 1 (Nat.sub bx.length 1));
some (.inr (.inr (.inl (bg,bh,bi,bj,bk,bl,bm,bn,bo,bp,bq,bt,bv,bY,bA,bB,bC,bD,bE,bQ,bR,bS,bT,bU,bV,bW,())))) else none) else
some (.inr (.inl (bg,bh,bi,bj,bk,bl,bm,bn,bo,bp,bq,bt,bv,bx,bA,bB,bC,bD,bE,bG,bH,bI,bJ,bK)))) else
bif (bd==7) then (let bN:Int:=(dM aR.length);
bif decide (bN > 0) then ((dI aR 0).bind λbO=>
let bP:=wk .i64 bO;
(d8 bP true).bind λ(bQ,bR,bS,bT,bU,bV,bW,_)=>
bif (gS 1 bA.length bA.length) then let bY:List (Int):=(jN bA 1 (Nat.sub bA.length 1));
some (.inr (.inr (.inr (.inl (bg,bh,bi,bj,bk,bl,bm,bn,bo,bp,bq,bt,bv,bx,bY,bB,bC,bD,bE,bQ,bR,bS,bT,bU,bV,bW,()))))) else none) else
some (.inr (.inl (bg,bh,bi,bj,bk,bl,bm,bn,bo,bp,bq,bt,bv,bx,bA,bB,bC,bD,bE,bG,bH,bI,bJ,bK)))) else
bif (bd==13) then ((dI bF 0).bind λbN=>
(dI bF 0).bind λbO=>
(nh aV bO bf).bind λ(bP,bQ,bR,_)=>
(d8 bQ bR).bind λ(bS,bT,bU,bV,bW,bY,bZ,_)=>
some (.inr (.inl (bg,bh,bi,bj,bk,bl,bm,bn,bo,bp,bq,bt,bv,bx,bA,bB,bC,bD,bP,bS,bT,bU,bV,bW,bY,bZ,())))) else
bif (bd==14) then ((dI bF 0).bind λbN=>
(dI bF 0).bind λbO=>
(dI bF 2).bind λbP=>
(dI bF 2).bind λbQ=>
(match jU aS bO bQ with
| none=>none
| some (.inl (bR,bS,bT,_))=>
(d8 0 bT).bind λ(bU,bV,bW,bY,bZ,b8,b9,_)=>
some (.inr (.inl (bg,bh,bi,bj,bk,bl,bm,bn,bo,bp,bq,bt,bv,bx,bA,bR,bC,bD,bE,bU,bV,bW,bY,bS,b8,b9,())))
| some (.inr (bR,bS,bT,_))=>
let bU:=dM bS.length;
(d8 bU bT).bind λ(bV,bW,bY,bZ,b8,b9,ca,_)=>
some (.inr (.inr (.inr (.inr (bg,bh,bi,bj,bk,bl,bm,bn,bo,bp,bq,bt,bv,bx,bA,bR,bC,bD,bE,bV,bW,bY,bZ,bS,b9,ca,()))))))) else
some (.inr (.inl (bg,bh,bi,bj,bk,bl,bm,bn,bo,bp,bq,bt,bv,bx,bA,bB,bC,bD,bE,bG,bH,bI,bJ,bK))):Option (T39⊕(T3a⊕(T3a⊕(T3a⊕T39))))) with
| none=>none
| some (.inl (bN,bO,bP,bQ,bR,bS,bT,bU,bV,bW,bY,bZ,b8,b9,ca,cb,cd,cf,cg,ch,ci,cj,cn,cq,cr,cu,_))=>
some (b9,ca,cb,cd,cf,cg,ch,ci,cj,cn,cq,cr,cu,0,())
| some (.inr (.inl (bN,bO,bP,bQ,bR,bS,bT,bU,bV,bW,bY,bZ,b8,b9,ca,cb,cd,cf,cg,ch,ci,cj,cn,cq,cr,cu,_)))=>
some (b9,ca,cb,cd,cf,cg,ch,ci,cj,cn,[],cr,cu,0,())
| some (.inr (.inr (.inl (bN,bO,bP,bQ,bR,bS,bT,bU,bV,bW,bY,bZ,b8,b9,ca,cb,cd,cf,cg,ch,ci,cj,cn,cq,cr,cu,_))))=>
some (b9,ca,cb,cd,cf,cg,ch,ci,cj,cn,[],cr,cu,0,())
| some (.inr (.inr (.inr (.inl (bN,bO,bP,bQ,bR,bS,bT,bU,bV,bW,bY,bZ,b8,b9,ca,cb,cd,cf,cg,ch,ci,cj,cn,cq,cr,cu,_)))))=>
some (b9,ca,cb,cd,cf,cg,ch,ci,cj,cn,[],cr,cu,0,())
| some (.inr (.inr (.inr (.inr (bN,bO,bP,bQ,bR,bS,bT,bU,bV,bW,bY,bZ,b8,b9,ca,cb,cd,cf,cg,ch,ci,cj,cn,cq,cr,cu,_)))))=>
some (b9,ca,cb,cd,cf,cg,ch,ci,cj,cn,cq,cr,cu,0,()))
def Hm:X.Cfg:=⟨E0,[mj,oT,uO,s7,jf,p7,kz,sW,uR,uS,sX,uQ,uP,p8],[],[⟨2,0,qE,[(.normal,(qS [(pP 2 6),(pP 3 8),(pP 4 10),(pP 5 12),(sP 67 .bool)] [(6,(uL [RW,RW,(.row false RW),(.row false ef),gR,ja])),(8,(uL [I64,I64,I64,I64,I64,I64,ef,ef])),(10,(uL [N1,N1,N1,N1,N1,N1])),(12,(uL [CB,CW,I64,I64,N1,I64,.bool]))]))]⟩,(lx 8 1 [(pP 2 6),(pP 3 8),(pP 4 10),(pP 5 12),(pP 7 16),(8,.pk ⟨19,0,[]⟩ [0,0]),(sP 74 ef),(sP 75 I64),(sP 76 I64)] [(6,(uL [RW,RW,(.row false RW),(.row false ef),gR,ja])),(8,(uL [I64,I64,I64,I64,I64,I64,ef,ef])),(10,(uL [N1,N1,N1,N1,N1,N1])),(12,(uL [CB,CW,I64,I64,N1,I64,.bool])),(16,(uL [(.row true CW),(.row true CW),(.row true (.row true CW)),(.row true (.row true KCn)),(.row true KOp),(.row true E9)])),(19,(uL [(.row true I64)]))] 77),⟨14,2,qE,[(.normal,(qS [(pP 4 10),(pP 5 12),(pP 7 16),(pP 11 24)] [(10,(uL [N1,N1,N1,N1,N1,N1])),(12,(uL [CB,CW,I64,I64,N1,I64,.bool])),(16,(uL [(.row true CW),(.row true CW),(.row true (.row true CW)),(.row false ef),gR,(.row true E9)])),(24,(uL [CB,CW,I64,I64,(.row true KCn),I64,.bool]))])),(.normal,(qS [(pP 4 10),(pP 5 12),(pP 7 16),(pP 11 24)] [(10,(uL [N1,N1,N1,N1,N1,N1])),(12,(uL [CB,CW,I64,I64,N1,I64,.bool])),(16,(uL [(.row true CW),(.row true CW),(.row true (.row true CW)),(.row true (.row true KCn)),(.row true KOp),(.row true E9)])),(24,(uL [CB,CW,I64,I64,N1,I64,.bool]))])),(.normal,(qS [(pP 4 10),(pP 5 12),(pP 7 16),(pP 11 24)] [(10,(uL [N1,N1,N1,N1,N1,N1])),(12,(uL [CB,CW,I64,I64,N1,I64,.bool])),(16,(uL [RW,(.row true CW),(.row true (.row true CW)),(.row true (.row true KCn)),(.row true KOp),(.row true E9)])),(24,(uL [CB,CW,I64,I64,N1,I64,.bool]))])),(.normal,(qS [(pP 4 10),(pP 5 12),(pP 7 16),(pP 11 24)] [(10,(uL [N1,N1,N1,N1,N1,N1])),(12,(uL [CB,CW,I64,I64,N1,I64,.bool])),(16,(uL [(.row true CW),RW,(.row true (.row true CW)),(.row true (.row true KCn)),(.row true KOp),(.row true E9)])),(24,(uL [CB,CW,I64,I64,N1,I64,.bool]))])),(.normal,(qS [(pP 4 10),(pP 5 12),(pP 7 16),(pP 11 24)] [(10,(uL [N1,N1,N1,N1,N1,N1])),(12,(uL [CB,CW,I64,I64,N1,I64,.bool])),(16,(uL [(.row true CW),(.row true CW),(.row true RW),(.row true (.row true KCn)),(.row true KOp),(.row true E9)])),(24,(uL [CB,CW,I64,I64,(.row true KCn),I64,.bool]))]))]⟩]⟩
def zC:Ctr:=⟨245,91,[.agg (uL [RW,RW,(.row false RW),(.row false ef),gR,ja]),.agg (uL [I64,I64,I64,I64,I64,I64,ef,ef])],[],[⟨(uL [RW,RW,(.row false RW),(.row false ef),gR,ja,CB,CW,I64,I64,ef,I64,.bool,I64]),[.agg 6,.agg 7,.one],[]⟩],ap14 nS⟩
theorem He:Lk 5 zC:=ls (C:=Hm) rfl (aC oF (aC sD (aC Cn (aC Ap (aC ld (aC ut (aC mf (aC Ak (aC Cq (aC Cr (aC Al (aC Cp (aC Co (aC wC aN)))))))))))))) (by kernel_rfl) λh=>by kernel_rfl
def jR:T3d->Option (T3d⊕(T35⊕(LDTh×Int×Int×Bool×T35))):=λ(v0,v1,v2,v3,v4,v5,v6,v7,v8,v9,v10,v11,v12,v13,v14,v15,v16,v17,v18,v19,v20,v21)=>
bif decide (v2 < v1) then ((dZ v2).bind λx0=>
(dI v0 x0).bind λx1=>
bif (x1.1==0) then ((d8 v2 true).bind λ(x2,x3,x4,x5,x6,x7,x8,_)=>
some (.inr (.inl (v3,v4,v5,v6,v7,v8,v9,v10,v11,v12,v13,v14,v15,v16,v17,v18,v19,v20,x2,x3,x4,x5,x6,v2,x8,())))) else
let x2:=w64 (v2+1);
some (.inl (v0,v1,x2,v3,v4,v5,v6,v7,v8,v9,v10,v11,v12,v13,v14,v15,v16,v17,v18,v19,v20,v21))) else
some (.inr (.inr (v0,v1,v2,false,v3,v4,v5,v6,v7,v8,v9,v10,v11,v12,v13,v14,v15,v16,v17,v18,v19,v20,v21)))
def jS(a0:Int) (a1:Int) (a2:Int) (a3:Int) (a4:Int) (a5:Int) (a6:LDCn) (a7:LDCn) (a8:LDIn) (a9:List (Int)) (a10:List LI) (a11:List (Int)) (a12:Int) (a13:LDCe) (a14:LDLn) (a15:LDTh) (a16:List (Int)) (a17:List (Int)) (a18:List LI) (a19:List LDCn) (a20:LDOp) (a21:LDOu) (a22:List (Int)) (a23:List LI) (a24:LDEn) (a25:List (Int)):Option (Int×Int×Int×Int×LDCn×T2X):=
(bif (a5==0) then (some (a5,true,a8,a9,a10,a11,a12,a13,a14,a15,a16,a17,a18,a19,a20,a21,a22,a23,a24,a25,a0,a1,a2,a3,a4,a5,a6,a7,0,0,0,0,(),0,false,())) else
bif (a5==12) then (some (a5,true,a8,a9,a10,a11,a12,a13,a14,a15,a16,a17,a18,a19,a20,a21,a22,a23,a24,a25,a0,a1,a2,a3,a4,a5,a6,a7,0,0,0,0,(),0,false,())) else
some (a5,(a5==15),a8,a9,a10,a11,a12,a13,a14,a15,a16,a17,a18,a19,a20,a21,a22,a23,a24,a25,a0,a1,a2,a3,a4,a5,a6,a7,0,0,0,0,(),0,false,()):Option (T3k)).bind λ(x0,x1,x2,x3,x4,x5,x6,x7,x8,x9,ac,ae,af,ag,ah,ai,aj,ak,am,an,ap,aq,av,ax,ay,az,aA,aB,aD)=>
bif x1 then ((d8 0 true).bind λ(aK,aL,aM,aO,aP,aQ,aR,_)=>
some (aK,aL,aM,aO,[],aQ,aR,x2,x3,x4,x5,x6,x7,x8,x9,ac,ae,af,ag,ah,ai,aj,ak,am,an,())) else
bif (x0==8) then ((dI aA 0).bind λaK=>
let aL:=wk .i64 aK.2.1;
(nn aj ak aL ap).bind λ(aM,aO,aP,_)=>
(d8 0 (aP != 2)).bind λ(aQ,aR,aS,aT,aU,aV,aW,_)=>
some (aQ,aR,aS,aT,[],aV,(aP==1),x2,x3,x4,x5,x6,x7,x8,x9,ac,ae,af,ag,ah,ai,aM,aO,am,an,())) else
bif (x0==9) then ((dI aA 0).bind λaK=>
let aL:=wk .i64 aK.2.1;
(jD aj ak aL ap).bind λ(aM,aO,aP,aQ,_)=>
(d8 0 aQ).bind λ(aR,aS,aT,aU,aV,aW,aY,_)=>
some (aR,aS,aT,aU,[],aW,aY,x2,x3,x4,x5,x6,x7,x8,x9,ac,ae,af,ag,ah,ai,aM,aO,am,an,())) else
bif (x0==10) then (let aK:Int:=(dM x9.length);
(match dR jR NN (x9,aK,0,x2,x3,x4,x5,x6,x7,x8,x9,ac,ae,af,ag,ah,ai,aj,ak,am,an,aD) with
| none=>none
| some (.inl (aL,aM,aO,aP,aQ,aR,aS,aT,aU,aV,aW,aY,aZ,ba,bc,bd,be,bf,bg,bh,bi,bj,bk,bl,bm,_))=>
some (bg,bh,bi,bj,[],bl,bm,aL,aM,aO,aP,aQ,aR,aS,aT,aU,aV,aW,aY,aZ,ba,bc,bd,be,bf,())
| some (.inr (aL,aM,aO,aP,aQ,aR,aS,aT,aU,aV,aW,aY,aZ,ba,bc,bd,be,bf,bg,bh,bi,bj,bk,bl,bm,bn,bo,bp,bq,_))=>
(d8 0 false).bind λ(bt,bv,bx,bA,bB,bC,bD,_)=>
some (bt,bv,bx,bA,[],bC,bD,aQ,aR,aS,aT,aU,aV,aW,aY,aZ,ba,bc,bd,be,bf,bg,bh,bi,bj,()))) else
bif (x0==11) then ((dI aA 0).bind λaK=>
let aL:=wk .i64 aK.2.1;
(bif (aL==ap) then (some (aL,true,x2,x3,x4,x5,x6,x7,x8,x9,ac,ae,af,ag,ah,ai,aj,ak,am,an,ap,aq,av,ax,ay,az,aA,aB,aD)) else
bif decide (aL>=4) then (some (aL,true,x2,x3,x4,x5,x6,x7,x8,x9,ac,ae,af,ag,ah,ai,aj,ak,am,an,ap,aq,av,ax,ay,az,aA,aB,aD)) else
(dZ aL).bind λaM=>
(dI x9 aM).bind λaO=>
some (aL,(aO.1==0),x2,x3,x4,x5,x6,x7,x8,x9,ac,ae,af,ag,ah,ai,aj,ak,am,an,ap,aq,av,ax,ay,az,aA,aB,aD):Option (T3k)).bind λ(aM,aO,aP,aQ,aR,aS,aT,aU,aV,aW,aY,aZ,ba,bc,bd,be,bf,bg,bh,bi,bj,bk,bl,bm,bn,bo,bp,bq,bt,bv,bx,bA,bB,bC,bD,_)=>
bif aO then ((d8 0 false).bind λ(bE,bF,bG,bH,bI,bJ,bK,_)=>
some (bE,bF,bG,bH,[],bJ,bK,aP,aQ,aR,aS,aT,aU,aV,aW,aY,aZ,ba,bc,bd,be,bf,bg,bh,bi,())) else
(dZ aM).bind λbE=>
(dI aW bE).bind λbF=>
bif (bF.1==4) then (let bG:Int:=(wk .i64 bF.2.2.2.2.2.2.2);
(d8 bG true).bind λ(bH,bI,bJ,bK,bL,bM,bN,_)=>
some (bH,bI,bJ,bK,[],bM,bN,aP,aQ,aR,aS,aT,aU,aV,aW,aY,aZ,ba,bc,bd,be,bf,bg,bh,bi,())) else
(dZ bj).bind λbG=>
(dI bi bG).bind λbH=>
(dI bi bG).bind λbI=>
let bJ:=List.modify bi bG λe=>aM;
(d8 0 true).bind λ(bK,bL,bM,bN,bO,bP,bQ,_)=>
some (bK,bL,bM,bN,[],bP,true,aP,aQ,aR,aS,aT,aU,aV,aW,aY,aZ,ba,bc,bd,be,bf,bg,bh,bJ,())) else
(nS ac ae af ag ah ai ap aq av ax ay az aA aB).bind λ(aK,aL,aM,aO,aP,aQ,aR,aS,aT,aU,aV,aW,aY,aZ,_)=>
some (aR,aS,aT,aU,aV,aW,aY,x2,x3,x4,x5,x6,x7,x8,x9,aK,aL,aM,aO,aP,aQ,aj,ak,am,an,())
def wR:X.Cfg:=⟨E0,[kz,uT,nG,zC],[],[⟨3,0,qE,[(.normal,(qS [(pP 0 2),(pP 3 8),(pP 4 10),(sP 21 I64),(sP 22 .bool)] [(2,(uL [eZ,RI,(.row false RW),RI,CW,eM,fi,gd,RW,RW,(.row false RW),(.row false ef),gR,ja,RI,(.row false RI),(.row true sb),(.row true I64)])),(8,(uL [I64,I64,I64,I64,I64,I64,ef,ef])),(10,(uL [CB,CW,I64,I64,N1,I64,.bool]))]))]⟩,⟨20,1,(qS [(pP 0 2),(pP 4 10),(sP 87 gd),(sP 88 I64),(sP 89 I64)] [(2,(uL [eZ,RI,(.row false RW),RI,CW,eM,fi,gd,RW,RW,(.row false RW),(.row false ef),gR,ja,RI,(.row false RI),(.row true sb),(.row true I64)])),(10,(uL [CB,CW,I64,I64,N1,I64,.bool]))]),[(.ret,(qS [(pP 0 2),(pP 4 10)] [(2,(uL [eZ,RI,(.row false RW),RI,CW,eM,fi,gd,RW,RW,(.row false RW),(.row false ef),gR,ja,RI,(.row false RI),(.row true sb),(.row true I64)])),(10,(uL [CB,CW,I64,I64,N1,I64,.bool]))])),(.exit 1,(qS [(pP 0 2),(pP 4 10),(sP 87 gd),(sP 88 I64),(sP 89 I64),(sP 90 .bool)] [(2,(uL [eZ,RI,(.row false RW),RI,CW,eM,fi,gd,RW,RW,(.row false RW),(.row false ef),gR,ja,RI,(.row false RI),(.row true sb),(.row true I64)])),(10,(uL [CB,CW,I64,I64,N1,I64,.bool]))]))]⟩,⟨33,2,qE,[(.normal,(qS [(pP 0 2),(pP 3 8),(pP 4 10),(sP 14 I64),(sP 131 .bool)] [(2,(uL [eZ,RI,(.row false RW),RI,CW,eM,fi,gd,RW,RW,(.row false RW),(.row false ef),gR,ja,RI,(.row false RI),(.row true sb),(.row true I64)])),(8,(uL [I64,I64,I64,I64,I64,I64,ef,ef])),(10,(uL [CB,CW,I64,I64,N1,I64,.bool]))]))]⟩]⟩
def p6:Ctr:=⟨232,92,[.ptr ⟨2,0,[]⟩ [0],.agg (uL [I64,I64,I64,I64,I64,I64,ef,ef])],[(2,(uL [eZ,RI,(.row false RW),RI,CW,eM,fi,gd,RW,RW,(.row false RW),(.row false ef),gR,ja,RI,(.row false RI),(.row true sb),(.row true I64)]))],[⟨(uL [CB,CW,I64,I64,ef,I64,.bool]),[.agg 7],[(2,(uL [eZ,RI,(.row false RW),RI,CW,eM,fi,gd,RW,RW,(.row false RW),(.row false ef),gR,ja,RI,(.row false RI),(.row true sb),(.row true I64)]))]⟩],ap26 jS⟩
theorem wB:Lk 6 p6:=ls (C:=wR) rfl (aC mf (aC Ct (aC pT (aC He aN)))) (by kernel_rfl) λh=>by kernel_rfl
def jY(a0:Int) (a1:Int) (a2:Int) (a3:Int) (a4:LDCn) (a5:Int) (a6:Bool):Option (Bool×Unit):=
(jF a0 a1 a2 a3).bind λ(x0,_)=>
bif x0 then ((fm a4 16).bind λ(x1,_)=>
bif x1 then (bif (decide (a5>=(-1))) then (some ((decide (a5 < 4)),())) else
some (false,())) else
some (false,())) else
some (false,())
def AR:X.Cfg:=⟨E0,[qh,gu],[],[]⟩
def oS:Ctr:=⟨131,93,[.agg (uL [CB,CW,I64,I64,ef,I64,.bool])],[],[⟨(uL [.bool]),[.one],[]⟩],ap7 jY⟩
theorem sC:Lk 3 oS:=ls (C:=AR) rfl (aC ux (aC hJ aN)) (by kernel_rfl) λh=>by kernel_rfl
def gw(a0:List (Int)) (a1:Int) (a2:List (Int)) (a3:Int) (a4:Int) (a5:Int) (a6:Int):Option (T0e):=
(gy a2 a3 a4 a5 a6).bind λ(x0,_)=>
bif (!x0) then (some (0,0,1,())) else
bif (a3==0) then (some (0,a4,0,())) else
bif (a3==2) then (let x1:Int:=(wk .u16 (a4+a1));
some (2,x1,0,())) else
(dZ a5).bind λx1=>
(dI a0 x1).bind λx2=>
let x3:=w64 (x2+a6);
let x4:=wk .u16 x3;
some (1,x4,0,())
def EE:X.Cfg:=⟨E0,[jg],[],[]⟩
def oZ:Ctr:=⟨99,94,[.agg (uL [RI,CW]),shU RI,.agg (uL [CB,CW,I64,I64])],[],[⟨(uL [CB,CW,I64]),[.agg 2,.one],[]⟩],ap7 gw⟩
theorem rS:Lk 3 oZ:=ls (C:=EE) rfl (aC lf aN) (by kernel_rfl) λh=>by kernel_rfl
def j8(a0:List (Int)) (a1:Int) (a2:List (Int)) (a3:Int) (a4:Int):Option (T02):=
(fA a2 a3 a4).bind λ(x0,_)=>
bif (!x0) then (some (0,6,())) else
(dZ a3).bind λx1=>
(dI a0 x1).bind λx2=>
let x3:=w64 (x2+a4);
some (x3,0,())
def wZ:X.Cfg:=⟨E0,[jh],[],[]⟩
def qq:Ctr:=⟨263,95,[.agg (uL [RI,CW]),shU RI,.agg (uL [I64,I64])],[],[⟨(uL [I64,I64]),[.one,.one],[]⟩],ap5 j8⟩
theorem wL:Lk 2 qq:=ls (C:=wZ) rfl (aC lh aN) (by kernel_rfl) λh=>by kernel_rfl
def sg:Option (T1G):=
bif (nL 8 8 2) then let x0:LDCe:=(List.replicate 8 (0,0));
some (0,x0,0,0,(-1),(-1),0,0,()) else none
def A6:X.Cfg:=⟨E0,[],[],[]⟩
def tg:Ctr:=⟨270,96,[],[],[⟨(uL [I64,(.row true KCe),I64,I64,I64,I64,I64,CW]),[.agg 8],[]⟩],λh=>sg⟩
theorem Au:Lk 1 tg:=ls (C:=A6) rfl aN (by kernel_rfl) λh=>by kernel_rfl
def oy(a0:Int) (a1:Int) (a2:Int):Option (T1G):=
(sg).bind λ(x0,x1,x2,x3)=>
(dI x1 0).bind λx8=>
(dI x1 0).bind λx9=>
let ac:=List.modify x1 0 λe=>(a1,a2);
some (1,ac,a0,x3)
def EB:X.Cfg:=⟨E0,[tg],[],[]⟩
def xG:Ctr:=⟨264,97,[shU I64,.agg (uL [CB,CW])],[],[⟨(uL [I64,(.row true KCe),I64,I64,I64,I64,I64,CW]),[.agg 8],[]⟩],ap3 oy⟩
theorem Eo:Lk 2 xG:=ls (C:=EB) rfl (aC Au aN) (by kernel_rfl) λh=>by kernel_rfl
def kT:T3e->Option (T3e⊕(T0Z⊕T3f)):=λ(v0,v1,v2,v3,v4,v5,v6,v7,v8,v9,v10,v11,v12,v13,v14,v15,v16,v17,v18,v19,v20,v21,v22,v23,v24,v25,v26,v27,v28,v29,v30,_)=>
bif decide (v3 < v2) then ((dZ v3).bind λx0=>
(dI v1 x0).bind λx1=>
(gw v4 v5 v10 x1.1 x1.2.1 x1.2.2.1 x1.2.2.2).bind λ(x2,x3,x4,_)=>
bif (x4 != 0) then (some (.inr (.inl (false,v4,v5,v6,v7,v8,())))) else
(fA v10 v29 v30).bind λ(x5,_)=>
bif (!x5) then (some (.inr (.inl (false,v4,v5,v6,v7,v8,())))) else
(j8 v4 v5 v10 v29 v30).bind λ(x6,x7,_)=>
(iU x6 x2 x3 v6 v7).bind λ(x8,x9,_)=>
let ac:=w64 (v30+1);
let ae:=w64 (v3+1);
some (.inl (v0,v1,v2,ae,v4,v5,x8,x9,v8,v9,v10,v11,v12,v13,v14,v15,v16,v17,v18,v19,v20,v21,v22,v23,v24,v25,v26,v27,v28,v29,ac,()))) else
some (.inr (.inr (v0,v1,v2,v3,false,v4,v5,v6,v7,v8,v9,v10,v11,v12,v13,v14,v15,v16,v17,v18,v19,v20,v21,v22,v23,v24,v25,v26,v27,v28,v29,v30,())))
def ou(a0:LDIn) (a1:List (Int)) (a2:List LI) (a3:Int) (a4:Int) (a5:Int) (a6:Int) (a7:Int) (a8:Int) (a9:LDCn) (a10:LDCn) (a11:Int) (a12:Int) (a13:Int) (a14:Int) (a15:LDCn) (a16:Int) (a17:Bool) (a18:List (Int)) (a19:Int) (a20:LDCe) (a21:LDLn) (a22:LDTh):Option (T0Z):=
(dZ a3).bind λx0=>
(dI a22 x0).bind λx1=>
(gw a18 a19 a1 a11 a12 a13 a14).bind λ(x2,x3,x4,_)=>
bif (x4 != 0) then (some (false,a18,a19,a20,a21,a22,())) else
(match ((im a8).bind λ(x5,_)=>
bif (x5==2) then (let x6:Int:=(dM a15.length);
bif decide (x6 > 0) then ((dI a9 1).bind λx7=>
(dI a9 1).bind λx8=>
(dI a9 1).bind λx9=>
(gy a1 x9.1 x9.2.1 x9.2.2.1 x9.2.2.2).bind λ(ac,_)=>
bif (!ac) then (some (.inl (false,a18,a19,a20,a21,a22,()))) else
(dI a9 1).bind λae=>
bif (ae.1 != 1) then (some (.inl (false,a18,a19,a20,a21,a22,()))) else
let af:=dM a15.length;
(match dR kT NN (x0,a15,af,0,a18,a19,a20,a21,a22,a0,a1,a2,a3,a4,a5,a6,a7,a8,a9,a10,a11,a12,a13,a14,a15,a16,a17,x2,x3,x7.2.2.1,x8.2.2.2,()) with
| none=>none
| some (.inl (ag,ah,ai,aj,ak,am,_))=>
some (.inl (ag,ah,ai,aj,ak,am,()))
| some (.inr (ag,ah,ai,aj,ak,am,an,ap,aq,av,ax,ay,az,aA,aB,aD,aE,aF,aG,aH,aI,aJ,aK,aL,aM,aO,aP,aQ,aR,aS,aT,aU,_))=>
some (.inr (.inl (ag,ah,ai,aj,ak,am,an,ap,aq,av,ax,ay,az,aA,aB,aD,aE,aF,aG,aH,aI,aJ,aK,aL,aM,aO,aP,aQ,aR,aS,aT,aU,()))))) else
some (.inr (.inr (x0,false,a18,a19,a20,a21,a22,a0,a1,a2,a3,a4,a5,a6,a7,a8,a9,a10,a11,a12,a13,a14,a15,a16,a17,x2,x3,())))) else
some (.inr (.inr (x0,false,a18,a19,a20,a21,a22,a0,a1,a2,a3,a4,a5,a6,a7,a8,a9,a10,a11,a12,a13,a14,a15,a16,a17,x2,x3,()))):Option (T0Z⊕(T3f⊕(Nat×Bool×T36)))) with
| none=>none
| some (.inl (x5,x6,x7,x8,x9,ac,_))=>
some (x5,x6,x7,x8,x9,ac,())
| some (.inr (.inl (x5,x6,x7,x8,x9,ac,ae,af,ag,ah,ai,aj,ak,am,an,ap,aq,av,ax,ay,az,aA,aB,aD,aE,aF,aG,aH,aI,aJ,aK,aL,_)))=>
(match (bif (ax==12) then ((dI ay 0).bind λaM=>
let aO:=wk .i64 aM.2.1;
bif decide (aO > 255) then (some (.inl (false,ac,ae,af,ag,ah,()))) else
(dI ay 0).bind λaP=>
bif (aP.1 != 0) then (some (.inl (false,ac,ae,af,ag,ah,()))) else
(dI ay 0).bind λaQ=>
let aR:=wk .i64 aQ.2.1;
(dI ah x5).bind λaS=>
let aT:=(List.modify ah x5 λe=>(e.1,(e.2.1,(e.2.2.1,(e.2.2.2.1,(aR,e.2.2.2.2.2))))));
some (.inr (x5,ac,ae,af,ag,aT,ai,aj,ak,am,an,ap,aq,av,ax,ay,az,aA,aB,aD,aE,aF,aG,aH,aI,aJ,()))) else
some (.inr (x5,ac,ae,af,ag,ah,ai,aj,ak,am,an,ap,aq,av,ax,ay,az,aA,aB,aD,aE,aF,aG,aH,aI,aJ,())):Option (T0Z⊕T38)) with
| none=>none
| some (.inl (aM,aO,aP,aQ,aR,aS,_))=>
some (aM,aO,aP,aQ,aR,aS,())
| some (.inr (aM,aO,aP,aQ,aR,aS,aT,aU,aV,aW,aY,aZ,ba,bc,bd,be,bf,bg,bh,bi,bj,bk,bl,bm,bn,bo,_))=>
(match (bif (bd==10) then (bif decide (bl>=0) then ((dI be 1).bind λbp=>
(gw aO aP aU bp.1 bp.2.1 bp.2.2.1 bp.2.2.2).bind λ(bq,bt,bv,_)=>
(bif (bv != 0) then (some (aM,true,aO,aP,aQ,aR,aS,aW,aY,aZ,ba,bc,bd,be,bf,bg,bh,bi,bj,bk,bl,bm,bn,bo,bq,bt,())) else
(dZ bl).bind λbx=>
(dI aS bx).bind λbA=>
(dI aS bx).bind λbB=>
bif (bB.1 != 0) then (some (aM,true,aO,aP,aQ,aR,aS,aW,aY,aZ,ba,bc,bd,be,bf,bg,bh,bi,bj,bk,bl,bm,bn,bo,bq,bt,())) else
(dI be 0).bind λbC=>
let bD:=wk .i64 bC.2.1;
bif decide (bD > 255) then (some (aM,true,aO,aP,aQ,aR,aS,aW,aY,aZ,ba,bc,bd,be,bf,bg,bh,bi,bj,bk,bl,bm,bn,bo,bq,bt,())) else
(dI be 0).bind λbE=>
some (aM,(bE.1 != 0),aO,aP,aQ,aR,aS,aW,aY,aZ,ba,bc,bd,be,bf,bg,bh,bi,bj,bk,bl,bm,bn,bo,bq,bt,()):Option (T37)).bind λ(bx,bA,bB,bC,bD,bE,bF,bG,bH,bI,bJ,bK,bL,bM,bN,bO,bP,bQ,bR,bS,bT,bU,bV,bW,bY,bZ,_)=>
bif bA then (some (.inl (false,bB,bC,bD,bE,bF,()))) else
(dI bM 0).bind λb8=>
let b9:=wk .i64 b8.2.1;
(oy b9 bY bZ).bind λ(ca,cb,cd,cf,cg,ch,ci,cj,_)=>
(dZ bT).bind λcn=>
(dI bF cn).bind λcq=>
(dI bF cn).bind λcr=>
let cu:=(List.modify bF cn λe=>(ca,(cb,(cd,(cf,(cg,(ch,(ci,cj))))))));
some (.inr (bx,bB,bC,bD,bE,cu,bG,bH,bI,bJ,bK,bL,bM,bN,bV,bW,()))) else
some (.inr (aM,aO,aP,aQ,aR,aS,aW,aY,aZ,ba,bc,bd,be,bf,bn,bo,()))) else
some (.inr (aM,aO,aP,aQ,aR,aS,aW,aY,aZ,ba,bc,bd,be,bf,bn,bo,())):Option (T0Z⊕T2L)) with
| none=>none
| some (.inl (bp,bq,bt,bv,bx,bA,_))=>
some (bp,bq,bt,bv,bx,bA,())
| some (.inr (bp,bq,bt,bv,bx,bA,bB,bC,bD,bE,bF,bG,bH,bI,bJ,bK,_))=>
(dI bA bp).bind λbL=>
(dI bA bp).bind λbM=>
(dI bM.2.1 0).bind λbN=>
(dI bA bp).bind λbO=>
(dI bO.2.1 0).bind λbP=>
let bQ:=(List.modify bA bp λe=>(e.1,((List.modify e.2.1 0 λe=>(bJ,bK)),e.2.2)));
(dI bQ bp).bind λbR=>
let bS:=List.modify bQ bp λe=>(1,e.2);
some (true,bq,bt,bv,bx,bS,())))
| some (.inr (.inr (x5,x6,x7,x8,x9,ac,ae,af,ag,ah,ai,aj,ak,am,an,ap,aq,av,ax,ay,az,aA,aB,aD,aE,aF,aG,_)))=>
(match (bif (ap==12) then ((dI aq 0).bind λaH=>
let aI:=wk .i64 aH.2.1;
bif decide (aI > 255) then (some (.inl (false,x7,x8,x9,ac,ae,()))) else
(dI aq 0).bind λaJ=>
bif (aJ.1 != 0) then (some (.inl (false,x7,x8,x9,ac,ae,()))) else
(dI aq 0).bind λaK=>
let aL:=wk .i64 aK.2.1;
(dI ae x5).bind λaM=>
let aO:=(List.modify ae x5 λe=>(e.1,(e.2.1,(e.2.2.1,(e.2.2.2.1,(aL,e.2.2.2.2.2))))));
some (.inr (x5,x7,x8,x9,ac,aO,af,ag,ah,ai,aj,ak,am,an,ap,aq,av,ax,ay,az,aA,aB,aD,aE,aF,aG,()))) else
some (.inr (x5,x7,x8,x9,ac,ae,af,ag,ah,ai,aj,ak,am,an,ap,aq,av,ax,ay,az,aA,aB,aD,aE,aF,aG,())):Option (T0Z⊕T38)) with
| none=>none
| some (.inl (aH,aI,aJ,aK,aL,aM,_))=>
some (aH,aI,aJ,aK,aL,aM,())
| some (.inr (aH,aI,aJ,aK,aL,aM,aO,aP,aQ,aR,aS,aT,aU,aV,aW,aY,aZ,ba,bc,bd,be,bf,bg,bh,bi,bj,_))=>
(match (bif (aW==10) then (bif decide (bg>=0) then ((dI aY 1).bind λbk=>
(gw aI aJ aP bk.1 bk.2.1 bk.2.2.1 bk.2.2.2).bind λ(bl,bm,bn,_)=>
(bif (bn != 0) then (some (aH,true,aI,aJ,aK,aL,aM,aR,aS,aT,aU,aV,aW,aY,aZ,ba,bc,bd,be,bf,bg,bh,bi,bj,bl,bm,())) else
(dZ bg).bind λbo=>
(dI aM bo).bind λbp=>
(dI aM bo).bind λbq=>
bif (bq.1 != 0) then (some (aH,true,aI,aJ,aK,aL,aM,aR,aS,aT,aU,aV,aW,aY,aZ,ba,bc,bd,be,bf,bg,bh,bi,bj,bl,bm,())) else
(dI aY 0).bind λbt=>
let bv:=wk .i64 bt.2.1;
bif decide (bv > 255) then (some (aH,true,aI,aJ,aK,aL,aM,aR,aS,aT,aU,aV,aW,aY,aZ,ba,bc,bd,be,bf,bg,bh,bi,bj,bl,bm,())) else
(dI aY 0).bind λbx=>
some (aH,(bx.1 != 0),aI,aJ,aK,aL,aM,aR,aS,aT,aU,aV,aW,aY,aZ,ba,bc,bd,be,bf,bg,bh,bi,bj,bl,bm,()):Option (T37)).bind λ(bo,bp,bq,bt,bv,bx,bA,bB,bC,bD,bE,bF,bG,bH,bI,bJ,bK,bL,bM,bN,bO,bP,bQ,bR,bS,bT,_)=>
bif bp then (some (.inl (false,bq,bt,bv,bx,bA,()))) else
(dI bH 0).bind λbU=>
let bV:=wk .i64 bU.2.1;
(oy bV bS bT).bind λ(bW,bY,bZ,b8,b9,ca,cb,cd,_)=>
(dZ bO).bind λcf=>
(dI bA cf).bind λcg=>
(dI bA cf).bind λch=>
let ci:=(List.modify bA cf λe=>(bW,(bY,(bZ,(b8,(b9,(ca,(cb,cd))))))));
some (.inr (bo,bq,bt,bv,bx,ci,bB,bC,bD,bE,bF,bG,bH,bI,bQ,bR,()))) else
some (.inr (aH,aI,aJ,aK,aL,aM,aR,aS,aT,aU,aV,aW,aY,aZ,bi,bj,()))) else
some (.inr (aH,aI,aJ,aK,aL,aM,aR,aS,aT,aU,aV,aW,aY,aZ,bi,bj,())):Option (T0Z⊕T2L)) with
| none=>none
| some (.inl (bk,bl,bm,bn,bo,bp,_))=>
some (bk,bl,bm,bn,bo,bp,())
| some (.inr (bk,bl,bm,bn,bo,bp,bq,bt,bv,bx,bA,bB,bC,bD,bE,bF,_))=>
(dI bp bk).bind λbG=>
(dI bp bk).bind λbH=>
(dI bH.2.1 0).bind λbI=>
(dI bp bk).bind λbJ=>
(dI bJ.2.1 0).bind λbK=>
let bL:=(List.modify bp bk λe=>(e.1,((List.modify e.2.1 0 λe=>(bE,bF)),e.2.2)));
(dI bL bk).bind λbM=>
let bN:=List.modify bL bk λe=>(1,e.2);
some (true,bl,bm,bn,bo,bN,()))))
def Ey:X.Cfg:=⟨E0,[oZ,jf,jg,jh,qq,oU,xG],[],[⟨13,0,(qS [(pP 1 4),(pP 4 10),(pP 6 14),(pP 7 16),(9,.ptr ⟨4,4,[((),(8,0))]⟩ [0,0]),(pP 10 22),(pP 12 26),(sP 80 ef),(sP 81 I64),(sP 82 I64)] [(4,(uL [RI,CW,(.row true KCe),iZ,pt])),(10,(uL [eZ,RI,(.row false RW)])),(14,(uL [I64,I64,I64,I64,I64,I64,ef,ef])),(16,(uL [CB,CW,I64,I64,ef,I64,.bool])),(22,(uL [CB,CW])),(26,(uL [I64,I64]))]),[(.ret,(qS [(pP 1 4),(sP 8 .bool)] [(4,(uL [RI,CW,(.row true KCe),iZ,pt]))])),(.exit 0,(qS [(pP 1 4),(pP 4 10),(pP 6 14),(pP 7 16),(9,.ptr ⟨4,4,[((),(8,0))]⟩ [0,0]),(pP 10 22),(pP 12 26),(sP 80 ef),(sP 81 I64),(sP 82 I64),(sP 83 .bool)] [(4,(uL [RI,CW,(.row true KCe),iZ,pt])),(10,(uL [eZ,RI,(.row false RW)])),(14,(uL [I64,I64,I64,I64,I64,I64,ef,ef])),(16,(uL [CB,CW,I64,I64,ef,I64,.bool])),(22,(uL [CB,CW])),(26,(uL [I64,I64]))]))]⟩,⟨6,1,qE,[(.ret,(qS [(pP 1 4),(sP 8 .bool)] [(4,(uL [RI,CW,(.row true KCe),iZ,pt]))])),(.normal,(qS [(pP 1 4),(pP 4 10),(pP 6 14),(pP 7 16),(9,.ptr ⟨4,4,[((),(8,0))]⟩ [0,0]),(pP 10 22),(pP 12 26),(sP 80 ef),(sP 81 I64),(sP 82 I64),(sP 83 .bool)] [(4,(uL [RI,CW,(.row true KCe),iZ,pt])),(10,(uL [eZ,RI,(.row false RW)])),(14,(uL [I64,I64,I64,I64,I64,I64,ef,ef])),(16,(uL [CB,CW,I64,I64,ef,I64,.bool])),(22,(uL [CB,CW])),(26,(uL [I64,I64]))])),(.normal,(qS [(pP 1 4),(pP 4 10),(pP 6 14),(pP 7 16),(9,.ptr ⟨4,4,[((),(8,0))]⟩ [0,0]),(pP 10 22),(sP 51 .bool)] [(4,(uL [RI,CW,(.row true KCe),iZ,pt])),(10,(uL [eZ,RI,(.row false RW)])),(14,(uL [I64,I64,I64,I64,I64,I64,ef,ef])),(16,(uL [CB,CW,I64,I64,ef,I64,.bool])),(22,(uL [CB,CW]))]))]⟩,⟨24,2,qE,[(.ret,(qS [(pP 1 4),(sP 8 .bool)] [(4,(uL [RI,CW,(.row true KCe),iZ,pt]))])),(.normal,(qS [(pP 1 4),(pP 4 10),(pP 6 14),(pP 7 16),(9,.ptr ⟨4,4,[((),(8,0))]⟩ [0,0]),(pP 10 22)] [(4,(uL [RI,CW,(.row true KCe),iZ,pt])),(10,(uL [eZ,RI,(.row false RW)])),(14,(uL [I64,I64,I64,I64,I64,I64,ef,ef])),(16,(uL [CB,CW,I64,I64,ef,I64,.bool])),(22,(uL [CB,CW]))]))]⟩,⟨33,3,qE,[(.normal,(qS [(pP 1 4),(pP 6 14),(pP 7 16),(9,.ptr ⟨4,4,[((),(8,0))]⟩ [0,0]),(pP 10 22),(pP 19 40),(sP 207 .bool)] [(4,(uL [RI,CW,(.row true KCe),iZ,pt])),(14,(uL [I64,I64,I64,I64,I64,I64,ef,ef])),(16,(uL [CB,CW,I64,I64,ef,I64,.bool])),(22,(uL [CB,CW])),(40,(uL [CB,CW]))]))]⟩,⟨29,4,qE,[(.ret,(qS [(pP 1 4),(sP 8 .bool)] [(4,(uL [RI,CW,(.row true KCe),iZ,pt]))])),(.normal,(qS [(pP 1 4),(9,.ptr ⟨4,4,[((),(8,0))]⟩ [0,0]),(pP 10 22)] [(4,(uL [RI,CW,(.row true KCe),iZ,pt])),(14,(uL [I64,I64,I64,I64,I64,I64,ef,ef])),(22,(uL [CB,CW]))]))]⟩]⟩
def xD:Ctr:=⟨247,98,[.agg (uL [eZ,RI,(.row false RW)]),.ptr ⟨4,0,[]⟩ [0],.agg (uL [I64,I64,I64,I64,I64,I64,ef,ef]),.agg (uL [CB,CW,I64,I64,ef,I64,.bool])],[(4,(uL [RI,CW,(.row true KCe),iZ,pt]))],[⟨(uL [.bool]),[.one],[(4,(uL [RI,CW,(.row true KCe),iZ,pt]))]⟩],ap23 ou⟩
theorem El:Lk 4 xD:=ls (C:=Ey) rfl (aC rS (aC ld (aC lf (aC lh (aC wL (aC sE (aC Eo aN))))))) (by kernel_rfl) λh=>by kernel_rfl
def ov(a0:LDIn) (a1:List (Int)) (a2:List LI) (a3:List (Int)) (a4:Int) (a5:LDCe) (a6:LDLn) (a7:LDTh) (a8:Int) (a9:Int) (a10:Int) (a11:Int) (a12:Int) (a13:Int) (a14:LDCn) (a15:LDCn) (a16:Int) (a17:Int) (a18:Int) (a19:Int) (a20:LDCn) (a21:Int) (a22:Bool):Option (T1d):=
((iS a0 a1 a2 a3 a4 a5 a6 a7).bind λ(x0,_)=>
bif (!x0) then (some (true,a0,a1,a2,a3,a4,a5,a6,a7,a8,a9,a10,a11,a12,a13,a14,a15,a16,a17,a18,a19,a20,a21,a22,(),0,(),(),(),())) else
(j3 a8 a9 a10 a11 a12 a13 a14 a15).bind λ(x1,_)=>
bif (!x1) then (some (true,a0,a1,a2,a3,a4,a5,a6,a7,a8,a9,a10,a11,a12,a13,a14,a15,a16,a17,a18,a19,a20,a21,a22,(),0,(),(),(),())) else
bif (a9 != 1) then (some (true,a0,a1,a2,a3,a4,a5,a6,a7,a8,a9,a10,a11,a12,a13,a14,a15,a16,a17,a18,a19,a20,a21,a22,(),0,(),(),(),())) else
let x2:=dM a14.length;
(gK a13).bind λ(x3,_)=>
bif (x2 != x3) then (some (true,a0,a1,a2,a3,a4,a5,a6,a7,a8,a9,a10,a11,a12,a13,a14,a15,a16,a17,a18,a19,a20,a21,a22,(),0,(),(),(),())) else
(jY a16 a17 a18 a19 a20 a21 a22).bind λ(x4,_)=>
bif (!x4) then (some (true,a0,a1,a2,a3,a4,a5,a6,a7,a8,a9,a10,a11,a12,a13,a14,a15,a16,a17,a18,a19,a20,a21,a22,(),0,(),(),(),())) else
(dZ a8).bind λx5=>
(dI a7 x5).bind λx6=>
some ((x6.1 != 2),a0,a1,a2,a3,a4,a5,a6,a7,a8,a9,a10,a11,a12,a13,a14,a15,a16,a17,a18,a19,a20,a21,a22,(),0,(),(),(),()):Option (Bool×LDIn×LI×LLI×LI×Int×LDCe×LDLn×LDTh×Int×Int×Int×Int×Int×Int×LDCn×LDCn×T2q)).bind λ(x0,x1,x2,x3,x4,x5,x6,x7,x8,x9,ac,ae,af,ag,ah,ai,aj,ak,am,an,ap,aq,av,ax,_)=>
bif x0 then (some (x4,x5,x6,x7,x8,false,())) else
(iE x4 x5 x6 x7 x8).bind λ(aE,aF,aG,aH,aI,_)=>
bif (ah==0) then ((dZ x9).bind λaJ=>
(dI aI aJ).bind λaK=>
(dI aI aJ).bind λaL=>
(dI ai 0).bind λaM=>
(dI aI aJ).bind λaO=>
(mH aL.1 aO.2.1 aL.2.2.1 aL.2.2.2.1 aL.2.2.2.2.1 aL.2.2.2.2.2.1 aL.2.2.2.2.2.2.1 aL.2.2.2.2.2.2.2 0 aM.2.1).bind λ(aP,aQ,aR,aS,aT,aU,aV,aW,_)=>
(dZ x9).bind λaY=>
(dI aI aY).bind λaZ=>
(dI aI aY).bind λba=>
let bc:=(List.modify aI aY λe=>(aP,(aQ,(aR,(aS,(aT,(aU,(aV,aW))))))));
some (aE,aF,aG,aH,bc,true,())) else
bif ax then ((dZ x9).bind λaJ=>
(dI aI aJ).bind λaK=>
(dI aI aJ).bind λaL=>
let aM:=List.modify aI aJ λe=>(3,e.2);
some (aE,aF,aG,aH,aM,true,())) else
(ou x1 x2 x3 x9 ac ae af ag ah ai aj ak am an ap aq av ax aE aF aG aH aI).bind λ(aJ,aK,aL,aM,aO,aP,_)=>
bif (!aJ) then (some (x4,x5,x6,x7,x8,false,())) else
some (aK,aL,aM,aO,aP,true,())
def Ez:X.Cfg:=⟨E0,[mn,oT,kO,oS,lF,r7,xD],[],[⟨2,0,qE,[(.normal,(qS [(pP 4 10),(pP 5 12),(pP 6 14),(pP 7 16),(pP 8 18),(sP 48 .bool)] [(10,(uL [eZ,RI,(.row false RW)])),(12,(uL [RI,CW,eM,fi,gd])),(14,(uL [I64,I64,I64,I64,I64,I64,ef,ef])),(16,(uL [CB,CW,I64,I64,ef,I64,.bool])),(18,(uL [N1,CW,N1,N1,N1]))]))]⟩]⟩
def xE:Ctr:=⟨233,99,[.agg (uL [eZ,RI,(.row false RW)]),.agg (uL [RI,CW,eM,fi,gd]),.agg (uL [I64,I64,I64,I64,I64,I64,ef,ef]),.agg (uL [CB,CW,I64,I64,ef,I64,.bool])],[],[⟨(uL [RI,CW,eM,fi,gd,.bool]),[.agg 5,.one],[]⟩],ap23 ov⟩
theorem Em:Lk 5 xE:=ls (C:=Ez) rfl (aC oH (aC sD (aC oa (aC sC (aC nD (aC wH (aC El aN))))))) (by kernel_rfl) λh=>by kernel_rfl
def lq(a0:LDIn) (a1:List (Int)) (a2:List LI) (a3:List (Int)) (a4:Int) (a5:LDCe) (a6:LDLn) (a7:LDTh) (a8:Int) (a9:Int) (a10:Int) (a11:Int) (a12:Int) (a13:LDCn) (a14:Int) (a15:Bool):Option (T1d):=
((iS a0 a1 a2 a3 a4 a5 a6 a7).bind λ(x0,_)=>
bif (!x0) then (some (a8,true,a0,a1,a2,a3,a4,a5,a6,a7,a9,a10,a11,a12,a13,a14,a15,(),0,(),(),(),())) else
(jY a9 a10 a11 a12 a13 a14 a15).bind λ(x1,_)=>
bif (!x1) then (some (a8,true,a0,a1,a2,a3,a4,a5,a6,a7,a9,a10,a11,a12,a13,a14,a15,(),0,(),(),(),())) else
bif decide (a8 < 0) then (some (a8,true,a0,a1,a2,a3,a4,a5,a6,a7,a9,a10,a11,a12,a13,a14,a15,(),0,(),(),(),())) else
bif decide (a8>=4) then (some (a8,true,a0,a1,a2,a3,a4,a5,a6,a7,a9,a10,a11,a12,a13,a14,a15,(),0,(),(),(),())) else
(dZ a8).bind λx2=>
(dI a7 x2).bind λx3=>
some (a8,(x3.1 != 3),a0,a1,a2,a3,a4,a5,a6,a7,a9,a10,a11,a12,a13,a14,a15,(),0,(),(),(),()):Option (Int×Bool×LDIn×LI×LLI×LI×Int×LDCe×LDLn×LDTh×T2q)).bind λ(x0,x1,x2,x3,x4,x5,x6,x7,x8,x9,ac,ae,af,ag,_)=>
bif x1 then (some (x5,x6,x7,x8,x9,false,())) else
(gw x5 x6 x3 ac ae af ag).bind λ(av,ax,ay,_)=>
bif (ay != 0) then (some (x5,x6,x7,x8,x9,false,())) else
(iE x5 x6 x7 x8 x9).bind λ(az,aA,aB,aD,aE,_)=>
(dZ x0).bind λaF=>
(dI aE aF).bind λaG=>
(dI aE aF).bind λaH=>
(dI aE aF).bind λaI=>
(dI aI.2.1 0).bind λaJ=>
(dI aE aF).bind λaK=>
(dI aK.2.1 0).bind λaL=>
let aM:=(List.modify aE aF λe=>(e.1,((List.modify e.2.1 0 λe=>(av,ax)),e.2.2)));
(dZ x0).bind λaO=>
(dI aM aO).bind λaP=>
(dI aM aO).bind λaQ=>
let aR:=List.modify aM aO λe=>(1,e.2);
some (az,aA,aB,aD,aR,true,())
def CY:X.Cfg:=⟨E0,[mn,oS,oZ,lF],[],[⟨2,0,qE,[(.normal,(qS [(sP 2 I64),(pP 4 10),(pP 5 12),(pP 7 16),(pP 8 18),(sP 38 .bool)] [(10,(uL [eZ,RI,(.row false RW)])),(12,(uL [RI,CW,eM,fi,gd])),(16,(uL [CB,CW,I64,I64,ef,I64,.bool])),(18,(uL [N1,CW,N1,N1,N1]))]))]⟩]⟩
def qe:Ctr:=⟨59,100,[.agg (uL [eZ,RI,(.row false RW)]),.agg (uL [RI,CW,eM,fi,gd]),shU I64,.agg (uL [CB,CW,I64,I64,ef,I64,.bool])],[],[⟨(uL [RI,CW,eM,fi,gd,.bool]),[.agg 5,.one],[]⟩],ap16 lq⟩
theorem uv:Lk 5 qe:=ls (C:=CY) rfl (aC oH (aC sC (aC rS (aC nD aN)))) (by kernel_rfl) λh=>by kernel_rfl
def ne(a0:Int) (a1:Int) (a2:LDIn) (a3:List (Int)) (a4:List LI) (a5:List (Int)) (a6:Int) (a7:LDCe) (a8:LDLn) (a9:LDTh) (a10:List (Int)) (a11:List (Int)) (a12:List LI) (a13:List LDCn) (a14:LDOp) (a15:LDOu) (a16:List (Int)) (a17:List LI) (a18:LDEn) (a19:List (Int)):Option (T2Q):=
let x0:=wk .i64 a1;
(d8 x0 true).bind λ(x1,x2,x3,x4,x5,x6,x7,_)=>
(lq a2 a3 a4 a5 a6 a7 a8 a9 a0 x1 x2 x3 x4 [] x6 x7).bind λ(x8,x9,ac,ae,af,ag,_)=>
let ah:LDEn:=[(4,(a0,(0,(0,(0,(0,(0,(0,(0,([],([],(x1,(x2,(x3,(x4,([],(x6,x7)))))))))))))))))];
bif (dY 184 a18.length ah.length) then let ai:LDEn:=(List.append a18 ah);
some (a2,a3,a4,x8,x9,ac,ae,af,a10,a11,a12,a13,a14,a15,a16,a17,ai,a19,()) else none
def CH:X.Cfg:=⟨E0,[kz,qe],[(35,J8),(36,J8)],[]⟩
def uM:Ctr:=⟨234,101,[.ptr ⟨2,0,[]⟩ [0],shU I64,shU CW],[(2,(uL [eZ,RI,(.row false RW),RI,CW,eM,fi,gd,RW,RW,(.row false RW),(.row false ef),gR,ja,RI,(.row false RI),(.row true sb),(.row true I64)]))],[⟨[],[],[(2,(uL [eZ,RI,(.row false RW),RI,CW,eM,fi,gd,RW,RW,(.row false RW),(.row false ef),gR,ja,RI,(.row false RI),(.row true sb),(.row true I64)]))]⟩],ap20 ne⟩
theorem Cl:Lk 6 uM:=ls (C:=CH) rfl (aC mf (aC uv aN)) (by kernel_rfl) λh=>by kernel_rfl
def jc(a0:Int) (a1:Int) (a2:Int) (a3:Int) (a4:Int) (a5:Int) (a6:LDCn) (a7:LDCn) (a8:LDIn) (a9:List (Int)) (a10:List LI) (a11:List (Int)) (a12:Int) (a13:LDCe) (a14:LDLn) (a15:LDTh) (a16:List (Int)) (a17:List (Int)) (a18:List LI) (a19:List LDCn) (a20:LDOp) (a21:LDOu) (a22:List (Int)) (a23:List LI) (a24:LDEn) (a25:List (Int)):Option (T2Q):=
(bif (a5==9) then ((dI a6 0).bind λx0=>
let x1:=wk .i64 x0.2.1;
(jD a22 a23 x1 a0).bind λ(x2,x3,x4,x5,_)=>
some (x4,a8,a9,a10,a11,a12,a13,a14,a15,a16,a17,a18,a19,a20,a21,a22,a23,a24,a25,a0,a1,a2,a3,a4,a5,a6,a7,())) else
some ((-1),a8,a9,a10,a11,a12,a13,a14,a15,a16,a17,a18,a19,a20,a21,a22,a23,a24,a25,a0,a1,a2,a3,a4,a5,a6,a7,()):Option (Int×LDIn×LI×LLI×LI×Int×LDCe×LDLn×LDTh×LI×LI×LLI×LLCn×LDOp×LDOu×LI×LLI×LDEn×LI×T1A)).bind λ(x0,x1,x2,x3,x4,x5,x6,x7,x8,x9,ac,ae,af,ag,ah,ai,aj,ak,am,an,ap,aq,av,ax,ay,az,aA,_)=>
(jS an ap aq av ax ay az aA x1 x2 x3 x4 x5 x6 x7 x8 x9 ac ae af ag ah ai aj ak am).bind λ(aB,aD,aE,aF,aG,aH,aI,aJ,aK,aL,aM,aO,aP,aQ,aR,aS,aT,aU,aV,aW,aY,aZ,ba,bc,bd,_)=>
(ov aJ aK aL aM aO aP aQ aR an ap aq av ax ay az aA aB aD aE aF aG aH aI).bind λ(be,bf,bg,bh,bi,bj,_)=>
let bk:LDEn:=[(2,(an,(0,(an,(ap,(aq,(av,(ax,(ay,(az,(aA,(aB,(aD,(aE,(aF,(aG,(aH,aI)))))))))))))))))];
bif (dY 184 bc.length bk.length) then let bl:LDEn:=(List.append bc bk);
bif decide (x0>=0) then ((ne x0 0 aJ aK aL be bf bg bh bi aS aT aU aV aW aY aZ ba bl bd).bind λ(bm)=>
some (bm)) else
some (aJ,aK,aL,be,bf,bg,bh,bi,aS,aT,aU,aV,aW,aY,aZ,ba,bl,bd,()) else none
def yq:X.Cfg:=⟨E0,[nG,p6,xE,uM],[(56,J8),(57,J8)],[⟨2,0,qE,[(.normal,(qS [(pP 0 2),(pP 3 8),(sP 4 I64)] [(2,(uL [eZ,RI,(.row false RW),RI,CW,eM,fi,gd,RW,RW,(.row false RW),(.row false ef),gR,ja,RI,(.row false RI),(.row true sb),(.row true I64)])),(8,(uL [I64,I64,I64,I64,I64,I64,ef,ef]))]))]⟩]⟩
def ru:Ctr:=⟨200,102,[.ptr ⟨2,0,[]⟩ [0],.agg (uL [I64,I64,I64,I64,I64,I64,ef,ef])],[(2,(uL [eZ,RI,(.row false RW),RI,CW,eM,fi,gd,RW,RW,(.row false RW),(.row false ef),gR,ja,RI,(.row false RI),(.row true sb),(.row true I64)]))],[⟨[],[],[(2,(uL [eZ,RI,(.row false RW),RI,CW,eM,fi,gd,RW,RW,(.row false RW),(.row false ef),gR,ja,RI,(.row false RI),(.row true sb),(.row true I64)]))]⟩],ap26 jc⟩
theorem ya:Lk 7 ru:=ls (C:=yq) rfl (aC pT (aC wB (aC Em (aC Cl aN)))) (by kernel_rfl) λh=>by kernel_rfl
def pG:T2r->Option (T2r⊕(Int×Int×Int×Int×Nat×T1y)):=λ(v0,v1,v2,v3,v4,v5,v6,v7,v8,v9,v10,v11,_)=>
bif decide (v6 < v5) then (((dZ v6).bind λx0=>
(dI v10 v4).bind λx1=>
(dI x1 x0).bind λx2=>
(dI v10 v4).bind λx3=>
(dI x3 x0).bind λx4=>
bif (x4 != v0) then (bif (dY 8 v11.length (List.length [x4])) then let x5:List (Int):=(List.append v11 [x4]);
some (v0,v1,v2,v3,v4,v5,v6,v7,v8,v9,v10,x5,()) else none) else
some (v0,v1,v2,v3,v4,v5,v6,v7,v8,v9,v10,v11,()):Option (T2r)).bind λ(x0,x1,x2,x3,x4,x5,x6,x7)=>
let af:=w64 (x6+1);
some (.inl (x0,x1,x2,x3,x4,x5,af,x7))) else
some (.inr (v0,v1,v2,v3,v4,v5,v6,false,v7,v8,v9,v10,v11,()))
def pF:T1p->Option (T1p⊕(Int×T1l)):=λ(v0,v1,v2,v3,v4,v5,v6,_)=>
bif decide (v2 < v1) then ((dZ v2).bind λx0=>
(dI v6 x0).bind λx1=>
(dI v6 x0).bind λx2=>
(dI v6 x0).bind λx3=>
let x4:=dM x3.length;
(dR pG NN (v0,v2,v1,v2,x0,x4,0,v3,v4,v5,v6,[],())).bind λ(x5,x6,x7,x8,x9,ac,ae,af,ag,ah,ai,aj,ak,_)=>
(dZ x6).bind λam=>
(dI aj am).bind λan=>
(dI aj am).bind λap=>
let aq:=List.modify aj am λe=>ak;
let av:=w64 (x8+1);
some (.inl (x5,x7,av,ag,ah,ai,aq,()))) else
some (.inr (v0,v1,v2,false,v3,v4,v5,v6,()))
def pE:T1C->Option (T1C⊕(Int×T1y)):=λ(v0,v1,v2,v3,v4,v5,v6,v7,_)=>
bif decide (v2 < v1) then ((jD v5 v6 v2 v0).bind λ(x0,x1,x2,x3,_)=>
(bif x3 then (bif decide (x2>=0) then (bif (dY 8 v7.length (List.length [x2])) then let x4:List (Int):=(List.append v7 [x2]);
some (v0,v1,v2,v3,v4,v5,v6,x4,x0,x1,()) else none) else
some (v0,v1,v2,v3,v4,v5,v6,v7,x0,x1,())) else
some (v0,v1,v2,v3,v4,v5,v6,v7,x0,x1,()):Option (Int×Int×Int×Unit×Unit×LI×LLI×LI×T07)).bind λ(x4,x5,x6,x7,x8,x9,ac,ae,af,ag,_)=>
let ah:=w64 (x6+1);
some (.inl (x4,x5,ah,x7,x8,af,ag,ae,()))) else
some (.inr (v0,v1,v2,false,v3,v4,v5,v6,v7,()))
def nq(a0:List (Int)) (a1:List LI) (a2:Int):Option (T0n):=
(jE a0 a1).bind λ(x0,x1,_)=>
let x2:=dM x1.length;
(dR pF NN (a2,x2,0,(),(),x0,x1,())).bind λ(x3,x4,x5,x6,x7,x8,x9,ac,_)=>
let ae:=dM x9.length;
(dR pE NN (x3,ae,0,x7,x8,x9,ac,[],())).bind λ(af,ag,ah,ai,aj,ak,am)=>
some (am)
def CV:X.Cfg:=⟨E0,[nH,nG],[],[⟨15,0,qE,[(.normal,(qS [(sP 1 I64),(pP 4 10),(pP 6 14),(sP 7 I64),(9,.pk ⟨21,0,[]⟩ [0,0]),(20,.pk ⟨14,1,[]⟩ [0,0]),(sP 21 I64),(sP 22 I64),(27,.pk ⟨14,1,[((),(1,0))]⟩ [0,0,0]),(sP 28 I64),(sP 29 I64)] [(10,(uL [N1,N1])),(14,(uL [(.row true I64),(.row true (.row true I64))])),(21,(uL [(.row true I64)]))]))]⟩,⟨12,1,(qS [(sP 1 I64),(pP 4 10),(pP 6 14),(sP 7 I64),(9,.pk ⟨21,0,[]⟩ [0,0]),(20,.pk ⟨14,1,[]⟩ [0,0]),(sP 21 I64),(sP 22 I64),(27,.pk ⟨14,1,[((),(1,0))]⟩ [0,0,0]),(sP 28 I64),(sP 29 I64)] [(10,(uL [N1,N1])),(14,(uL [(.row true I64),(.row true (.row true I64))])),(21,(uL [(.row true I64)]))]),[(.exit 2,(qS [(sP 1 I64),(pP 4 10),(pP 6 14),(sP 7 I64),(9,.pk ⟨21,0,[]⟩ [0,0]),(20,.pk ⟨14,1,[]⟩ [0,0]),(sP 21 I64),(sP 22 I64),(27,.pk ⟨14,1,[((),(1,0))]⟩ [0,0,0]),(sP 28 I64),(sP 29 I64),(sP 30 .bool)] [(10,(uL [N1,N1])),(14,(uL [(.row true I64),(.row true (.row true I64))])),(21,(uL [(.row true I64)]))]))]⟩,(lx 4 2 [(sP 1 I64),(pP 4 10),(pP 6 14),(20,.pk ⟨14,1,[]⟩ [0,0]),(sP 21 I64),(sP 22 I64)] [(10,(uL [N1,N1])),(14,(uL [(.row true I64),(.row true (.row true I64))]))] 23),⟨27,3,qE,[(.normal,(qS [(sP 1 I64),(pP 4 10),(pP 6 14),(12,.pk ⟨27,0,[]⟩ [0,0]),(pP 14 30),(sP 49 I64),(sP 50 I64)] [(10,(uL [N1,N1])),(14,(uL [RI,(.row false RI)])),(27,(uL [(.row true I64)])),(30,(uL [RI,(.row false RI)]))]))]⟩,⟨21,4,(qS [(sP 1 I64),(pP 4 10),(pP 6 14),(12,.pk ⟨27,0,[]⟩ [0,0]),(sP 49 I64),(sP 50 I64)] [(10,(uL [N1,N1])),(14,(uL [RI,(.row false RI)])),(27,(uL [(.row true I64)]))]),[(.exit 4,(qS [(sP 1 I64),(pP 4 10),(pP 6 14),(12,.pk ⟨27,0,[]⟩ [0,0]),(sP 49 I64),(sP 50 I64),(sP 51 .bool)] [(10,(uL [N1,N1])),(14,(uL [RI,(.row false RI)])),(27,(uL [(.row true I64)]))]))]⟩]⟩
def uU:Ctr:=⟨235,103,[.agg (uL [RI,(.row false RI)]),shU I64],[],[⟨(uL [RI,(.row false RI),(.row true I64)]),[.agg 2,.one],[]⟩],ap3 nq⟩
theorem Cu:Lk 3 uU:=ls (C:=CV) rfl (aC pU (aC pT aN)) (by kernel_rfl) λh=>by kernel_rfl
def jb(a0:Int) (a1:Int) (a2:LDIn) (a3:List (Int)) (a4:List LI) (a5:List (Int)) (a6:Int) (a7:LDCe) (a8:LDLn) (a9:LDTh) (a10:List (Int)) (a11:List (Int)) (a12:List LI) (a13:List LDCn) (a14:LDOp) (a15:LDOu) (a16:List (Int)) (a17:List LI) (a18:LDEn):Option (LDIn×LI×LLI×LI×Int×LDCe×LDLn×LDTh×LI×LI×LLI×LLCn×LDOp×LDOu×LI×LLI×LDEn×Unit):=
let x0:=wk .i64 a1;
(d8 x0 true).bind λ(x1,x2,x3,x4,x5,x6,x7,_)=>
(lq a2 a3 a4 a5 a6 a7 a8 a9 a0 x1 x2 x3 x4 [] x6 x7).bind λ(x8,x9,ac,ae,af,ag,_)=>
let ah:LDEn:=[(4,(a0,(0,(0,(0,(0,(0,(0,(0,([],([],(x1,(x2,(x3,(x4,([],(x6,x7)))))))))))))))))];
bif (dY 184 a18.length ah.length) then let ai:LDEn:=(List.append a18 ah);
some (a2,a3,a4,x8,x9,ac,ae,af,a10,a11,a12,a13,a14,a15,a16,a17,ai,()) else none
def yn:X.Cfg:=⟨E0,[kz,qe],[(35,J8),(36,J8)],[]⟩
def ro:Ctr:=⟨234,104,[.ptr ⟨2,0,[]⟩ [0],shU I64,shU CW],[(2,(uL [eZ,RI,(.row false RW),RI,CW,eM,fi,gd,RW,RW,(.row false RW),(.row false ef),gR,ja,RI,(.row false RI),(.row true sb)]))],[⟨[],[],[(2,(uL [eZ,RI,(.row false RW),RI,CW,eM,fi,gd,RW,RW,(.row false RW),(.row false ef),gR,ja,RI,(.row false RI),(.row true sb)]))]⟩],ap19 jb⟩
theorem xX:Lk 6 ro:=ls (C:=yn) rfl (aC mf (aC uv aN)) (by kernel_rfl) λh=>by kernel_rfl
def pd:T33->Option (T33⊕(Int×Int×Int×Bool×T2V)):=λ(v0,v1,v2,v3,v4,v5,v6,v7,v8,v9,v10,v11,v12,v13,v14,v15,v16,v17,v18,v19,v20,v21,_)=>
bif decide (v2 < v1) then ((dZ v2).bind λx0=>
(dI v21 x0).bind λx1=>
(dI v21 x0).bind λx2=>
(jb x2 0 v3 v4 v5 v6 v7 v8 v9 v10 v11 v12 v13 v14 v15 v16 v17 v18 v19).bind λ(x3,x4,x5,x6,x7,x8,x9,ac,ae,af,ag,ah,ai,aj,ak,am,an,_)=>
let ap:=w64 (v2+1);
some (.inl (v0,v1,ap,x3,x4,x5,x6,x7,x8,x9,ac,ae,af,ag,ah,ai,aj,ak,am,an,v20,v21,()))) else
some (.inr (v0,v1,v2,false,v3,v4,v5,v6,v7,v8,v9,v10,v11,v12,v13,v14,v15,v16,v17,v18,v19,v20,v21,()))
def pb:T32->Option (T32⊕(Int×Int×T2X)):=λ(v0,v1,v2,v3,v4,v5,v6,v7,v8,v9,v10,v11,v12,v13,v14,v15,v16,v17,v18,v19,v20,_)=>
bif decide (v2 < v1) then (((dZ v2).bind λx0=>
(dI v20 x0).bind λx1=>
(dI v20 x0).bind λx2=>
bif (x2==v0) then ((dZ v0).bind λx3=>
(dI v10 x3).bind λx4=>
(jb v2 x4.2.2.2.2.2.2.2 v3 v4 v5 v6 v7 v8 v9 v10 v11 v12 v13 v14 v15 v16 v17 v18 v19).bind λ(x5,x6,x7,x8,x9,ac,ae,af,ag,ah,ai,aj,ak,am,an,ap,aq,_)=>
(dZ v2).bind λav=>
(dI v20 av).bind λax=>
(dI v20 av).bind λay=>
let az:=List.modify v20 av λe=>(-1);
some (v0,v1,v2,x5,x6,x7,x8,x9,ac,ae,af,ag,ah,ai,aj,ak,am,an,ap,aq,az,())) else
some (v0,v1,v2,v3,v4,v5,v6,v7,v8,v9,v10,v11,v12,v13,v14,v15,v16,v17,v18,v19,v20,()):Option (T32)).bind λ(x0,x1,x2,x3,x4,x5,x6,x7,x8,x9,ac,ae,af,ag,ah,ai,aj,ak,am,an,ap,_)=>
let aq:=w64 (x2+1);
some (.inl (x0,x1,aq,x3,x4,x5,x6,x7,x8,x9,ac,ae,af,ag,ah,ai,aj,ak,am,an,ap,()))) else
some (.inr (v0,v1,v2,false,v3,v4,v5,v6,v7,v8,v9,v10,v11,v12,v13,v14,v15,v16,v17,v18,v19,v20,()))
def jT(a0:Int) (a1:LDIn) (a2:List (Int)) (a3:List LI) (a4:List (Int)) (a5:Int) (a6:LDCe) (a7:LDLn) (a8:LDTh) (a9:List (Int)) (a10:List (Int)) (a11:List LI) (a12:List LDCn) (a13:LDOp) (a14:LDOu) (a15:List (Int)) (a16:List LI) (a17:LDEn) (a18:List (Int)):Option (T2Q):=
(nq a15 a16 a0).bind λ(x0,x1,x2,_)=>
let x3:=dM x2.length;
(dR pd NN (a0,x3,0,a1,a2,a3,a4,a5,a6,a7,a8,a9,a10,a11,a12,a13,a14,x0,x1,a17,a18,x2,())).bind λ(x4,x5,x6,x7,x8,x9,ac,ae,af,ag,ah,ai,aj,ak,am,an,ap,aq,av,ax,ay,az,aA,_)=>
let aB:=dM az.length;
(dR pb NN (x4,aB,0,x8,x9,ac,ae,af,ag,ah,ai,aj,ak,am,an,ap,aq,av,ax,ay,az,())).bind λ(aD,aE,aF,aG,aH)=>
some (aH)
def AJ:X.Cfg:=⟨E0,[uU,ro],[],[(lx 4 0 [(pP 0 2),(sP 1 I64),(23,.pk ⟨13,0,[]⟩ [0,0]),(sP 24 I64),(sP 25 I64)] [(2,(uL [eZ,RI,(.row false RW),RI,CW,eM,fi,gd,RW,RW,(.row false RW),(.row false ef),gR,ja,RI,(.row false RI),(.row true sb),(.row true I64)])),(13,(uL [(.row true I64)]))] 26),⟨13,1,qE,[(.normal,(qS [(pP 0 2),(sP 1 I64),(36,.pk ⟨2,17,[]⟩ [0,0]),(sP 37 I64),(sP 38 I64)] [(2,(uL [eZ,RI,(.row false RW),RI,CW,eM,fi,gd,RW,RW,(.row false RW),(.row false ef),gR,ja,RI,(.row false RI),(.row true sb),(.row true I64)]))]))]⟩,⟨10,2,(qS [(pP 0 2),(sP 1 I64),(36,.pk ⟨2,17,[]⟩ [0,0]),(sP 37 I64),(sP 38 I64)] [(2,(uL [eZ,RI,(.row false RW),RI,CW,eM,fi,gd,RW,RW,(.row false RW),(.row false ef),gR,ja,RI,(.row false RI),(.row true sb),(.row true I64)]))]),[(.exit 2,(qS [(pP 0 2),(sP 1 I64),(36,.pk ⟨2,17,[]⟩ [0,0]),(sP 37 I64),(sP 38 I64),(sP 39 .bool)] [(2,(uL [eZ,RI,(.row false RW),RI,CW,eM,fi,gd,RW,RW,(.row false RW),(.row false ef),gR,ja,RI,(.row false RI),(.row true sb),(.row true I64)]))]))]⟩]⟩
def sT:Ctr:=⟨201,105,[.ptr ⟨2,0,[]⟩ [0],shU I64],[(2,(uL [eZ,RI,(.row false RW),RI,CW,eM,fi,gd,RW,RW,(.row false RW),(.row false ef),gR,ja,RI,(.row false RI),(.row true sb),(.row true I64)]))],[⟨[],[],[(2,(uL [eZ,RI,(.row false RW),RI,CW,eM,fi,gd,RW,RW,(.row false RW),(.row false ef),gR,ja,RI,(.row false RI),(.row true sb),(.row true I64)]))]⟩],ap19 jT⟩
theorem Ah:Lk 7 sT:=ls (C:=AJ) rfl (aC Cu (aC xX aN)) (by kernel_rfl) λh=>by kernel_rfl
def ng(a0:LDIn) (a1:List (Int)) (a2:List LI) (a3:List (Int)) (a4:Int) (a5:LDCe) (a6:LDLn) (a7:LDTh) (a8:List (Int)) (a9:List (Int)) (a10:List LI) (a11:List LDCn) (a12:LDOp) (a13:LDOu) (a14:List (Int)) (a15:List LI) (a16:LDEn) (a17:List (Int)) (a18:Int) (a19:Int) (a20:Bool):Option (LDIn×LI×LLI×LI×Int×LDCe×LDLn×LDTh×LI×LI×LLI×LLCn×LDOp×LDOu×LI×LLI×LDEn×T06):=
(lZ a7).bind λ(x0,_)=>
let x1:=dM x0.length;
bif (x1==0) then (some ([],[],[],[],0,[],[],[],[],[],[],[],[],[],[],[],[],[],15,())) else
let x2:=dM a16.length;
bif decide (x2 > 192) then (some ([],[],[],[],0,[],[],[],[],[],[],[],[],[],[],[],[],[],3,())) else
let x3:=dM x0.length;
(g8 a18 x3).bind λ(x4,_)=>
(dZ x4).bind λx5=>
(dI x0 x5).bind λx6=>
(dI x0 x5).bind λx7=>
(g8 a19 64).bind λ(x8,_)=>
let x9:=w64 (1+x8);
(kS a0 a1 a2 a3 a4 a5 a6 a7 a8 a9 a10 a11 a12 a13 a14 a15 a16 a17).bind λ(ac,ae,af,ag,ah,ai,aj,ak,am,an,ap,aq,av,ax,ay,az,aA,aB,_)=>
(match (bif a20 then ((mE ag ah ai aj ak x7).bind λ(aD,_)=>
bif aD then ((jX ag ah ai aj ak x7).bind λ(aE,aF,aG,aH,aI,aJ,_)=>
let aK:LDEn:=[(3,(x7,(0,(0,(0,(0,(0,(0,(0,([],([],(0,(0,(0,(0,([],(0,false)))))))))))))))))];
bif (dY 184 aA.length aK.length) then let aL:LDEn:=(List.append aA aK);
some (.inl (x7,x9,(),(),(),(),0,(),(),(),(),(),(),(),(),(),(),(),(),(),ac,ae,af,aE,aF,aG,aH,aI,am,an,ap,aq,av,ax,ay,az,aL,aB,())) else none) else
some (.inr (x7,x9,(),(),(),(),0,(),(),(),(),(),(),(),(),(),(),(),(),(),ac,ae,af,ag,ah,ai,aj,ak,am,an,ap,aq,av,ax,ay,az,aA,aB,()))) else
some (.inr (x7,x9,(),(),(),(),0,(),(),(),(),(),(),(),(),(),(),(),(),(),ac,ae,af,ag,ah,ai,aj,ak,am,an,ap,aq,av,ax,ay,az,aA,aB,())):Option (T3w⊕T3w)) with
| none=>none
| some (.inl (aD,aE,aF,aG,aH,aI,aJ,aK,aL,aM,aO,aP,aQ,aR,aS,aT,aU,aV,aW,aY,aZ,ba,bc,bd,be,bf,bg,bh,bi,bj,bk,bl,bm,bn,bo,bp,bq,bt,_))=>
(lu aZ ba bc bd be bf bg bh aD aE).bind λ(bv,bx,bA,bB,bC,bD,bE,bF,bG,bH,bI,bJ,bK,bL,_)=>
let bM:LDEn:=[(1,(aD,(aE,(bD,(bE,(bF,(bG,(bH,(bI,(bJ,(bK,(0,(0,(0,(0,([],(0,false)))))))))))))))))];
bif (dY 184 bq.length bM.length) then let bN:LDEn:=(List.append bq bM);
(bif (bE==1) then ((jc bD bE bF bG bH bI bJ bK aZ ba bc bv bx bA bB bC bi bj bk bl bm bn bo bp bN bt).bind λ(bO,bP,bQ,bR,bS,bT,bU,bV,bW,bY,bZ,b8,b9,ca,cb,cd,cf,cg,_)=>
some (aD,aF,aG,aH,aI,aJ,aK,aL,aM,aO,aP,aQ,aR,aS,aT,aU,aV,aW,aY,bO,bP,bQ,bR,bS,bT,bU,bV,bW,bY,bZ,b8,b9,ca,cb,cd,cf,cg,())) else
some (aD,aF,aG,aH,aI,aJ,aK,aL,aM,aO,aP,aQ,aR,aS,aT,aU,aV,aW,aY,aZ,ba,bc,bv,bx,bA,bB,bC,bi,bj,bk,bl,bm,bn,bo,bp,bN,bt,()):Option (T3p)).bind λ(bO,bP,bQ,bR,bS,bT,bU,bV,bW,bY,bZ,b8,b9,ca,cb,cd,cf,cg,ch,ci,cj,cn,cq,cr,cu,cw,cx,cy,cz,cD,cE,cF,cG,cH,cI,cJ,cK,_)=>
((dZ bO).bind λcL=>
(dI cx cL).bind λcM=>
bif (cM.1==4) then ((jT bO ci cj cn cq cr cu cw cx cy cz cD cE cF cG cH cI cJ cK).bind λ(cN,cO,cP,cQ,cR,cS,cT,cU,cV,cW,cX,cY,cZ,c7,c8,c9,dc,de,_)=>
some (bP,bQ,bR,bS,bT,bU,bV,bW,bY,bZ,b8,b9,ca,cb,cd,cf,cg,ch,cN,cO,cP,cQ,cR,cS,cT,cU,cV,cW,cX,cY,cZ,c7,c8,c9,dc,de,())) else
some (bP,bQ,bR,bS,bT,bU,bV,bW,bY,bZ,b8,b9,ca,cb,cd,cf,cg,ch,ci,cj,cn,cq,cr,cu,cw,cx,cy,cz,cD,cE,cF,cG,cH,cI,cJ,cK,()):Option (T3m)).bind λ(cL,cM,cN,cO,cP,cQ,cR,cS,cT,cU,cV,cW,cX,cY,cZ,c7,c8,c9,dc,de,df,dg,dh,dk,dl,dm,dn,dp,dq,dx,dy,dz,dA,dB,dC,dD,_)=>
some (dc,de,df,dg,dh,dk,dl,dm,dn,dp,dq,dx,dy,dz,dA,dB,dC,dD,0,()) else none
| some (.inr (aD,aE,aF,aG,aH,aI,aJ,aK,aL,aM,aO,aP,aQ,aR,aS,aT,aU,aV,aW,aY,aZ,ba,bc,bd,be,bf,bg,bh,bi,bj,bk,bl,bm,bn,bo,bp,bq,bt,_))=>
(lu aZ ba bc bd be bf bg bh aD aE).bind λ(bv,bx,bA,bB,bC,bD,bE,bF,bG,bH,bI,bJ,bK,bL,_)=>
let bM:LDEn:=[(1,(aD,(aE,(bD,(bE,(bF,(bG,(bH,(bI,(bJ,(bK,(0,(0,(0,(0,([],(0,false)))))))))))))))))];
bif (dY 184 bq.length bM.length) then let bN:LDEn:=(List.append bq bM);
(bif (bE==1) then ((jc bD bE bF bG bH bI bJ bK aZ ba bc bv bx bA bB bC bi bj bk bl bm bn bo bp bN bt).bind λ(bO,bP,bQ,bR,bS,bT,bU,bV,bW,bY,bZ,b8,b9,ca,cb,cd,cf,cg,_)=>
some (aD,aF,aG,aH,aI,aJ,aK,aL,aM,aO,aP,aQ,aR,aS,aT,aU,aV,aW,aY,bO,bP,bQ,bR,bS,bT,bU,bV,bW,bY,bZ,b8,b9,ca,cb,cd,cf,cg,())) else
some (aD,aF,aG,aH,aI,aJ,aK,aL,aM,aO,aP,aQ,aR,aS,aT,aU,aV,aW,aY,aZ,ba,bc,bv,bx,bA,bB,bC,bi,bj,bk,bl,bm,bn,bo,bp,bN,bt,()):Option (T3p)).bind λ(bO,bP,bQ,bR,bS,bT,bU,bV,bW,bY,bZ,b8,b9,ca,cb,cd,cf,cg,ch,ci,cj,cn,cq,cr,cu,cw,cx,cy,cz,cD,cE,cF,cG,cH,cI,cJ,cK,_)=>
((dZ bO).bind λcL=>
(dI cx cL).bind λcM=>
bif (cM.1==4) then ((jT bO ci cj cn cq cr cu cw cx cy cz cD cE cF cG cH cI cJ cK).bind λ(cN,cO,cP,cQ,cR,cS,cT,cU,cV,cW,cX,cY,cZ,c7,c8,c9,dc,de,_)=>
some (bP,bQ,bR,bS,bT,bU,bV,bW,bY,bZ,b8,b9,ca,cb,cd,cf,cg,ch,cN,cO,cP,cQ,cR,cS,cT,cU,cV,cW,cX,cY,cZ,c7,c8,c9,dc,de,())) else
some (bP,bQ,bR,bS,bT,bU,bV,bW,bY,bZ,b8,b9,ca,cb,cd,cf,cg,ch,ci,cj,cn,cq,cr,cu,cw,cx,cy,cz,cD,cE,cF,cG,cH,cI,cJ,cK,()):Option (T3m)).bind λ(cL,cM,cN,cO,cP,cQ,cR,cS,cT,cU,cV,cW,cX,cY,cZ,c7,c8,c9,dc,de,df,dg,dh,dk,dl,dm,dn,dp,dq,dx,dy,dz,dA,dB,dC,dD,_)=>
some (dc,de,df,dg,dh,dk,dl,dm,dn,dp,dq,dx,dy,dz,dA,dB,dC,dD,0,()) else none)
def CI:X.Cfg:=⟨E0,[te,r8,rq,r6,qb,uV,ru,sT],[(60,J8),(61,J8),(82,J8),(83,J8)],[⟨11,0,qE,[(.normal,(qS [(pP 4 10),(sP 7 I64),(sP 8 I64),(pP 9 20)] [(10,(uL [N1,N1,N1,N1,CW,N1,N1,N1,N1,N1,N1,N1,N1,N1,N1,N1,N1,N1])),(20,(uL [eZ,RI,(.row false RW),RI,CW,(.row true KCe),iZ,pt,RW,RW,(.row false RW),(.row false ef),gR,ja,RI,(.row false RI),(.row true sb),(.row true I64)]))])),(.normal,(qS [(pP 4 10),(sP 7 I64),(sP 8 I64),(pP 9 20)] [(10,(uL [N1,N1,N1,N1,CW,N1,N1,N1,N1,N1,N1,N1,N1,N1,N1,N1,N1,N1])),(20,(uL [eZ,RI,(.row false RW),RI,CW,eM,fi,gd,RW,RW,(.row false RW),(.row false ef),gR,ja,RI,(.row false RI),(.row true sb),(.row true I64)]))]))]⟩,⟨17,1,qE,[(.normal,(qS [(pP 4 10),(sP 7 I64),(pP 9 20)] [(10,(uL [N1,N1,N1,N1,CW,N1,N1,N1,N1,N1,N1,N1,N1,N1,N1,N1,N1,N1])),(20,(uL [eZ,RI,(.row false RW),RI,CW,eM,fi,gd,RW,RW,(.row false RW),(.row false ef),gR,ja,RI,(.row false RI),(.row true sb),(.row true I64)]))]))]⟩,⟨19,2,qE,[(.normal,(qS [(pP 4 10),(pP 9 20)] [(10,(uL [N1,N1,N1,N1,CW,N1,N1,N1,N1,N1,N1,N1,N1,N1,N1,N1,N1,N1])),(20,(uL [eZ,RI,(.row false RW),RI,CW,eM,fi,gd,RW,RW,(.row false RW),(.row false ef),gR,ja,RI,(.row false RI),(.row true sb),(.row true I64)]))]))]⟩]⟩
def uN:Ctr:=⟨136,106,[.agg (uL [eZ,RI,(.row false RW),RI,CW,eM,fi,gd,RW,RW,(.row false RW),(.row false ef),gR,ja,RI,(.row false RI),Ga,RI]),.agg (uL [I64,I64,.bool])],[],[⟨(uL [eZ,RI,(.row false RW),RI,CW,eM,fi,gd,RW,RW,(.row false RW),(.row false ef),gR,ja,RI,(.row false RI),(.row true sb),(.row true I64),I64]),[.agg 18,.one],[]⟩],ap21 ng⟩
theorem Cm:Lk 8 uN:=ls (C:=CI) rfl (aC At (aC wM (aC xZ (aC wF (aC wE (aC Cv (aC ya (aC Ah aN)))))))) (by kernel_rfl) λh=>by kernel_rfl
def oB:T3A->Option (T3A⊕((Int×Bool×LI×Int×Unit×Unit×Unit×Unit×Int×Unit×Unit×Unit×Unit×Unit×Unit×Unit×Unit×Unit×Unit×Unit×Unit×Unit×LDIn×LI×LLI×LI×Int×LDCe×LDLn×LDTh×LI×LI×LLI×LLCn×LDOp×LDOu×LI×LLI×LDEn×LI×T2Q)⊕(Int×Bool×T3x))):=λ(v0,v1,v2,v3,v4,v5,v6,v7,v8,v9,v10,v11,v12,v13,v14,v15,v16,v17,v18,v19,v20,v21,v22,v23,v24,v25,v26,v27,v28,v29,v30,v31,v32,v33,v34,v35,v36,v37,v38,_)=>
bif decide (v0 > 0) then ((md v1 v2).bind λ(x0,x1,x2,x3,x4,_)=>
(ng v21 v22 v23 v24 v25 v26 v27 v28 v29 v30 v31 v32 v33 v34 v35 v36 v37 v38 x0 x1 x2).bind λ(x5,x6,x7,x8,x9,ac,ae,af,ag,ah,ai,aj,ak,am,an,ap,aq,av,ax,_)=>
bif (ax != 0) then (some (.inr (.inl (v0,true,x3,x4,v3,v4,v5,v6,v7,v8,v9,v10,v11,v12,v13,v14,v15,v16,v17,v18,v19,v20,v21,v22,v23,v24,v25,v26,v27,v28,v29,v30,v31,v32,v33,v34,v35,v36,v37,v38,x5,x6,x7,x8,x9,ac,ae,af,ag,ah,ai,aj,ak,am,an,ap,aq,av,())))) else
let ay:=w64 (v0 - 1);
some (.inl (ay,x3,x4,v3,v4,v5,v6,v7,v8,v9,v10,v11,v12,v13,v14,v15,v16,v17,v18,v19,v20,x5,x6,x7,x8,x9,ac,ae,af,ag,ah,ai,aj,ak,am,an,ap,aq,av,()))) else
some (.inr (.inr (v0,false,v1,v2,v3,v4,v5,v6,v7,v8,v9,v10,v11,v12,v13,v14,v15,v16,v17,v18,v19,v20,v21,v22,v23,v24,v25,v26,v27,v28,v29,v30,v31,v32,v33,v34,v35,v36,v37,v38,())))
def qF(a0:List (Int)) (a1:Int):Option (LDIn×LI×LLI×LI×Int×LDCe×LDLn×LDTh×LI×LI×LLI×LLCn×LDOp×LDOu×LI×LLI×LDEn×LI×T06):=
(k8 a0 a1).bind λ(x0,x1,x2,x3,x4,_)=>
(mc x1 x3 x4).bind λ(x5,x6,x7,x8,_)=>
(k9 x7 x8).bind λ(x9,ac,ae,af,ag,ah,ai,aj,_)=>
(lP x0 x1 x2 x5 x6 x9 ac ae af ag []).bind λ(ak,am,an,ap,aq,av,ax,ay,az,aA,aB,aD,aE,aF,aG,aH,aI,aJ,aK,_)=>
(dL 16 ai aj).bind λ(aL,aM,aO,_)=>
let aP:=w64 (3+aL);
(match dR oB NN (aP,aM,aO,(),(),(),(),0,(),(),(),(),(),(),(),(),(),(),(),(),(),ak,am,an,ap,aq,av,ax,ay,az,aA,aB,aD,aE,aF,aG,aH,[],aJ,()) with
| none=>none
| some (.inl (aQ,aR,aS,aT,aU,aV,aW,aY,aZ,ba,bc,bd,be,bf,bg,bh,bi,bj,bk,bl,bm,bn,bo,bp,bq,bt,bv,bx,bA,bB,bC,bD,bE,bF,bG,bH,bI,bJ,bK,bL,_))=>
some (bo,bp,bq,bt,bv,bx,bA,bB,bC,bD,bE,bF,bG,bH,bI,bJ,bK,bL,aS,aT,())
| some (.inr (aQ,aR,aS,aT,aU,aV,aW,aY,aZ,ba,bc,bd,be,bf,bg,bh,bi,bj,bk,bl,bm,bn,bo,bp,bq,bt,bv,bx,bA,bB,bC,bD,bE,bF,bG,bH,bI,bJ,bK,bL,_))=>
some (bo,bp,bq,bt,bv,bx,bA,bB,bC,bD,bE,bF,bG,bH,bI,bJ,bK,bL,aS,aT,()))
def Hq:X.Cfg:=⟨E0,[rD,tC,rE,sU,fG,tD,uN],[],[⟨5,0,(qS [(pP 0 2),(pP 2 6),(pP 4 10),(sP 6 I64)] [(2,(uL [RI,I64])),(6,(uL [N1,N1,N1,N1,CW,N1,N1,N1,N1,N1,N1,N1,N1,N1,N1,N1,N1,N1])),(10,(uL [eZ,RI,(.row false RW),RI,CW,eM,fi,gd,RW,RW,(.row false RW),(.row false ef),gR,ja,RI,(.row false RI),(.row true sb),(.row true I64)]))]),[(.exit 0,(qS [(pP 0 2),(pP 2 6),(pP 4 10),(sP 6 I64),(pP 7 16),(sP 37 .bool)] [(2,(uL [RI,I64])),(6,(uL [N1,N1,N1,N1,CW,N1,N1,N1,N1,N1,N1,N1,N1,N1,N1,N1,N1,N1])),(10,(uL [eZ,RI,(.row false RW),RI,CW,eM,fi,gd,RW,RW,(.row false RW),(.row false ef),gR,ja,RI,(.row false RI),Ga,RI])),(16,(uL [eZ,RI,(.row false RW),RI,CW,eM,fi,gd,RW,RW,(.row false RW),(.row false ef),gR,ja,RI,(.row false RI),(.row true sb),(.row true I64)]))])),(.exit 0,(qS [(pP 0 2),(pP 2 6),(pP 4 10),(sP 6 I64),(sP 26 .bool)] [(2,(uL [RI,I64])),(6,(uL [N1,N1,N1,N1,CW,N1,N1,N1,N1,N1,N1,N1,N1,N1,N1,N1,N1,N1])),(10,(uL [eZ,RI,(.row false RW),RI,CW,eM,fi,gd,RW,RW,(.row false RW),(.row false ef),gR,ja,RI,(.row false RI),(.row true sb),(.row true I64)]))]))]⟩]⟩
def zG:Ctr:=⟨60,107,[.ptr ⟨2,0,[]⟩ [0]],[(2,(uL [RI,I64]))],[⟨(uL [eZ,RI,(.row false RW),RI,CW,eM,fi,gd,RW,RW,(.row false RW),(.row false ef),gR,ja,RI,(.row false RI),Ga,RI]),[.agg 18],[(2,(uL [RI,I64]))]⟩],ap2 qF⟩
theorem Hi:Lk 9 zG:=ls (C:=Hq) rfl (aC yi (aC AF (aC yj (aC Ai (aC f6 (aC AG (aC Cm aN))))))) (by kernel_rfl) λh=>by kernel_rfl
def gn:T2z->Option (T2z⊕(LI×Int×LI×Int×Int×Int×Int×Bool×T18)):=λ(v0,v1,v2,v3,v4,v5,v6,v7,v8,v9,v10,v11,v12,_)=>
bif decide (v6 < v5) then ((dZ v1).bind λx0=>
(dI v9 x0).bind λx1=>
let x2:=w64 (x1+v6);
(lw v7 v8 x2).bind λ(x3,x4,_)=>
(g7 v9 v10 v0 x3 x4).bind λ(x5,x6,x7,x8,_)=>
let x9:LDCn:=[(x5,(x6,(x7,x8)))];
bif (dY 24 v12.length x9.length) then let ac:LDCn:=(List.append v12 x9);
let ae:=w64 (v6+1);
some (.inl (v0,v1,v2,v3,v4,v5,ae,v7,v8,v9,v10,v11,ac,())) else none) else
some (.inr (v0,v1,v2,v3,v4,v5,v6,false,v7,v8,v9,v10,v11,v12,()))
def gl:T1Y->Option (T1Y⊕(LI×LI×Int×Int×Bool×T0P)):=λ(v0,v1,v2,v3,v4,v5,v6,v7,v8,_)=>
bif decide (v3 < v2) then ((dZ v3).bind λx0=>
(dI v1 x0).bind λx1=>
(dR gn NN (v0,v3,v1,v2,v3,x1,0,v4,v5,v6,v7,v8,[],())).bind λ(x2,x3,x4,x5,x6,x7,x8,x9,ac,ae,af,ag,ah,ai,_)=>
bif (dY 24 ah.length (List.length [ai])) then let aj:List LDCn:=(List.append ah [ai]);
let ak:=w64 (x6+1);
some (.inl (x2,x4,x5,ak,ac,ae,af,ag,aj,())) else none) else
some (.inr (v0,v1,v2,v3,false,v4,v5,v6,v7,v8,()))
def j6(a0:LDCe) (a1:LDLn) (a2:List (Int)) (a3:Int) (a4:List (Int)):Option (LLCn×Unit):=
let x0:=dM a4.length;
(dR gl NN (a4,a4,x0,0,a0,a1,a2,a3,[],())).bind λ(x1,x2,x3,x4,x5,x6,x7,x8,x9,ac,_)=>
some (ac,())
def wX:X.Cfg:=⟨E0,[qn,mp],[(41,(.row true KCn)),(42,(.row true KCn))],[⟨12,0,(qS [(sP 2 RI),(pP 3 8),(pP 4 10),(7,.pk ⟨17,0,[]⟩ [0,0]),(sP 8 I64),(10,.pk ⟨23,0,[]⟩ [0,0]),(sP 12 RI),(sP 13 I64),(sP 14 I64),(sP 19 I64),(sP 20 I64)] [(8,(uL [eM,fi])),(10,(uL [RI,CW])),(17,(uL [(.row true (.row true KCn))])),(23,(uL [(.row true KCn)]))]),[(.exit 2,(qS [(sP 2 RI),(pP 3 8),(pP 4 10),(7,.pk ⟨17,0,[]⟩ [0,0]),(sP 8 I64),(10,.pk ⟨23,0,[]⟩ [0,0]),(sP 12 RI),(sP 13 I64),(sP 14 I64),(sP 19 I64),(sP 20 I64),(sP 21 .bool)] [(8,(uL [eM,fi])),(10,(uL [RI,CW])),(17,(uL [(.row true (.row true KCn))])),(23,(uL [(.row true KCn)]))]))]⟩,(lx 4 1 [(sP 2 RI),(pP 3 8),(pP 4 10),(7,.pk ⟨17,0,[]⟩ [0,0]),(sP 12 RI),(sP 13 I64),(sP 14 I64)] [(8,(uL [eM,fi])),(10,(uL [RI,CW])),(17,(uL [(.row true (.row true KCn))]))] 15)]⟩
def qm:Ctr:=⟨17,108,[.agg (uL [eM,fi]),.agg (uL [RI,CW]),shU RI],[],[⟨(uL [(.row true (.row true KCn))]),[.one],[]⟩],ap5 j6⟩
theorem wK:Lk 3 qm:=ls (C:=wX) rfl (aC uB (aC oJ aN)) (by kernel_rfl) λh=>by kernel_rfl
def ia:T3i->Option (T3i⊕(LDTh×Int×Int×LDCe×Int×Int×Bool×T3c)):=λ(v0,v1,v2,v3,v4,v5,v6,v7,v8,v9,v10,v11,v12,v13,v14,v15,v16,v17,v18,v19,v20,v21,v22,v23,v24,v25,v26,v27,v28,v29,v30,v31,v32,v33,_)=>
bif decide (v5 < v4) then ((dZ v5).bind λx0=>
(dI v3 x0).bind λx1=>
(g7 v9 v10 v7 x1.1 x1.2).bind λ(x2,x3,x4,x5,_)=>
let x6:LDCn:=[(x2,(x3,(x4,x5)))];
bif (dY 24 v33.length x6.length) then let x7:LDCn:=(List.append v33 x6);
let x8:=w64 (v5+1);
some (.inl (v0,v1,v2,v3,v4,x8,v6,v7,v8,v9,v10,v11,v12,v13,v14,v15,v16,v17,v18,v19,v20,v21,v22,v23,v24,v25,v26,v27,v28,v29,v30,v31,v32,x7,())) else none) else
some (.inr (v0,v1,v2,v3,v4,v5,false,v6,v7,v8,v9,v10,v11,v12,v13,v14,v15,v16,v17,v18,v19,v20,v21,v22,v23,v24,v25,v26,v27,v28,v29,v30,v31,v32,v33,()))
def hZ:T2F->Option (T2F⊕(LDTh×Int×Int×Bool×T2t)):=λ(v0,v1,v2,v3,v4,v5,v6,v7,v8,v9,v10,v11,v12,v13,v14,_)=>
bif decide (v2 < v1) then ((dZ v2).bind λx0=>
(dI v0 x0).bind λx1=>
let x2:=dM x1.2.1.length;
(dR ia NN (v0,v1,v2,x1.2.1,x2,0,v3,v4,v5,v6,v7,v8,v9,v10,v11,v12,v13,v14,x1.1,x1.2.1,x1.2.2.1,x1.2.2.2.1,x1.2.2.2.2.1,x1.2.2.2.2.2.1,x1.2.2.2.2.2.2.1,x1.2.2.2.2.2.2.2,x1.1,x1.2.2.1,x1.2.2.2.1,x1.2.2.2.2.1,x1.2.2.2.2.2.1,x1.2.2.2.2.2.2.1,x1.2.2.2.2.2.2.2,[],())).bind λ(x3,x4,x5,x6,x7,x8,x9,ac,ae,af,ag,ah,ai,aj,ak,am,an,ap,aq,av,ax,ay,az,aA,aB,aD,aE,aF,aG,aH,aI,aJ,aK,aL,aM,_)=>
let aO:LDTs:=[(aF,(aG,(aH,(aI,(aJ,(aK,(aL,aM)))))))];
bif (dY 80 aq.length aO.length) then let aP:LDTs:=(List.append aq aO);
let aQ:=w64 (x5+1);
some (.inl (x3,x4,aQ,ac,ae,af,ag,ah,ai,aj,ak,am,an,ap,aP,())) else none) else
some (.inr (v0,v1,v2,false,v3,v4,v5,v6,v7,v8,v9,v10,v11,v12,v13,v14,()))
def lU(a0:LDIn) (a1:List (Int)) (a2:List LI) (a3:List (Int)) (a4:Int) (a5:LDCe) (a6:LDLn) (a7:LDTh):Option (T09):=
(j6 a5 a6 a3 a4 a1).bind λ(x0,_)=>
let x1:=dM a7.length;
(dR hZ NN (a7,x1,0,a0,a1,a2,a3,a4,a5,a6,a7,(),(),x0,[],())).bind λ(x2,x3,x4,x5,x6,x7,x8,x9,ac,ae,af,ag,ah,ai,aj)=>
some (aj)
def AU:X.Cfg:=⟨E0,[qm,mp],[(63,Ge),(64,Ge)],[⟨12,0,(qS [(pP 2 6),(pP 3 8),(pP 4 10),(pP 5 12),(pP 8 18),(sP 20 gd),(sP 21 I64),(sP 22 I64),(sP 42 eM),(sP 43 I64),(sP 44 I64)] [(6,(uL [eZ,RI,(.row false RW)])),(8,(uL [RI,CW,eM,fi,gd])),(10,(uL [N1,N1])),(12,(uL [(.row true (.row true KCn)),(.row true Ge)])),(16,(uL [I64,eM,I64,I64,I64,I64,I64,CW])),(18,(uL [I64,I64,I64,I64,I64,I64,CW,(.row true KCn)]))]),[(.exit 2,(qS [(pP 2 6),(pP 3 8),(pP 4 10),(pP 5 12),(pP 8 18),(sP 20 gd),(sP 21 I64),(sP 22 I64),(sP 42 eM),(sP 43 I64),(sP 44 I64),(sP 45 .bool)] [(6,(uL [eZ,RI,(.row false RW)])),(8,(uL [RI,CW,eM,fi,gd])),(10,(uL [N1,N1])),(12,(uL [(.row true (.row true KCn)),(.row true Ge)])),(16,(uL [I64,eM,I64,I64,I64,I64,I64,CW])),(18,(uL [I64,I64,I64,I64,I64,I64,CW,(.row true KCn)]))]))]⟩,(lx 4 1 [(pP 2 6),(pP 3 8),(pP 4 10),(pP 5 12),(sP 20 gd),(sP 21 I64),(sP 22 I64)] [(6,(uL [eZ,RI,(.row false RW)])),(8,(uL [RI,CW,eM,fi,gd])),(10,(uL [N1,N1])),(12,(uL [(.row true (.row true KCn)),(.row true Ge)]))] 23)]⟩
def s6:Ctr:=⟨36,109,[.agg (uL [eZ,RI,(.row false RW)]),.agg (uL [RI,CW,eM,fi,gd])],[],[⟨(uL [(.row true (.row true KCn)),(.row true Ge)]),[.agg 2],[]⟩],ap8 lU⟩
theorem Ao:Lk 4 s6:=ls (C:=AU) rfl (aC wK (aC oJ aN)) (by kernel_rfl) λh=>by kernel_rfl
def ie:Int×T0l->Option ((Int×T0l)⊕(Int×T0A)):=λ(v0,v1,v2,v3,_)=>
bif decide (v3 < v2) then ((dZ v3).bind λx0=>
(dI v1 x0).bind λx1=>
let x2:=w64 (v0+x1);
let x3:=w64 (v3+1);
some (.inl (x2,v1,v2,x3,()))) else
some (.inr (v0,v1,v2,v3,false,()))
def l9(a0:List (Int)):Option (Int×Unit):=
let x0:=dM a0.length;
(dR ie NN (0,a0,x0,0,())).bind λ(x1,_)=>
some (x1,())
def Bi:X.Cfg:=⟨E0,[],[],[(lx 4 0 [(sP 3 I64),(sP 6 RI),(sP 7 I64),(sP 8 I64)] [] 9)]⟩
def tp:Ctr:=⟨139,110,(uL [RI]),[],[⟨(uL [I64]),[.one],[]⟩],ap1 l9⟩
theorem Ay:Lk 1 tp:=ls (C:=Bi) rfl aN (by kernel_rfl) λh=>by kernel_rfl
def oz:Int×LI×T0r->Option ((Int×LI×T0r)⊕(T0e⊕T1t)):=λ(v0,v1,v2,v3,v4)=>
bif decide (v3 < v2) then ((dZ v3).bind λx0=>
(dI v1 x0).bind λx1=>
(match (bif decide (v0>=0) then (bif decide (v0 < x1) then (some (.inl (0,v3,v0,()))) else
some (.inr (v0,v3,x1,v1,v2,v3,false,v4))) else
some (.inr (v0,v3,x1,v1,v2,v3,false,v4)):Option (T0e⊕(Int×Int×T1t))) with
| none=>none
| some (.inl (x2,x3,x4,_))=>
some (.inr (.inl (x2,x3,x4,())))
| some (.inr (x2,x3,x4,x5,x6,x7,x8,x9))=>
let ae:=w64 (x2 - x4);
let af:=w64 (x7+1);
some (.inl (ae,x5,x6,af,x9)))) else
some (.inr (.inr (v0,v1,v2,v3,false,v4)))
def qC(a0:List (Int)) (a1:Int):Option (T0e):=
let x0:=dM a0.length;
(match dR oz NN (a1,a0,x0,0,0,0,()) with
| none=>none
| some (.inl (x1,x2,x3,_))=>
some (x2,x3,x1,())
| some (.inr (x1,x2,x3,_))=>
some (0,0,6,()))
def Ho:X.Cfg:=⟨E0,[],[],[⟨8,0,qE,[(.ret,(qS [(pP 4 10),(sP 5 I64)] [(10,(uL [I64,I64]))])),(.normal,(qS [(sP 1 I64),(pP 4 10),(sP 6 I64),(sP 7 I64),(sP 8 RI),(sP 9 I64),(sP 10 I64),(sP 21 .bool)] [(10,(uL [I64,I64]))]))]⟩,⟨3,1,(qS [(sP 1 I64),(pP 4 10),(sP 8 RI),(sP 9 I64),(sP 10 I64)] [(10,(uL [I64,I64]))]),[(.ret,(qS [(pP 4 10),(sP 5 I64)] [(10,(uL [I64,I64]))])),(.exit 0,(qS [(sP 1 I64),(pP 4 10),(sP 8 RI),(sP 9 I64),(sP 10 I64),(sP 11 .bool)] [(10,(uL [I64,I64]))]))]⟩]⟩
def zE:Ctr:=⟨138,111,(uL [RI,I64]),[],[⟨(uL [I64,I64,I64]),[.agg 2,.one],[]⟩],ap2 qC⟩
theorem Hg:Lk 1 zE:=ls (C:=Ho) rfl aN (by kernel_rfl) λh=>by kernel_rfl
def lA(a0:List (Int)) (a1:List (Int)) (a2:Int):Option (T14):=
(dL 6 a1 a2).bind λ(x0,x1,x2,_)=>
bif (x0==4) then ((l9 a0).bind λ(x3,_)=>
(dL x3 x1 x2).bind λ(x4,x5,x6,_)=>
(qC a0 x4).bind λ(x7,x8,x9,_)=>
some (1,0,x7,x8,x5,x6,())) else
bif (x0==5) then ((dL 10 x1 x2).bind λ(x3,x4,x5,_)=>
let x6:=wk .u16 x3;
some (2,x6,0,0,x4,x5,())) else
(iJ x1 x2).bind λ(x3,x4,x5,_)=>
some (0,x3,0,0,x4,x5,())
def Dl:X.Cfg:=⟨E0,[fG,tp,zE,m0],[],[]⟩
def u9:Ctr:=⟨62,112,[.ptr ⟨2,0,[]⟩ [0],shU RI],[(2,(uL [RI,I64]))],[⟨(uL [CB,CW,I64,I64]),[.agg 4],[(2,(uL [RI,I64]))]⟩],ap3 lA⟩
theorem CE:Lk 5 u9:=ls (C:=Dl) rfl (aC f6 (aC Ay (aC Hg (aC oL aN)))) (by kernel_rfl) λh=>by kernel_rfl
def gk:LDTs×LDTs×T02->Option ((LDTs×LDTs×T02)⊕((Bool×Unit)⊕(LDTs×LDTs×T0d))):=λ(v0,v1,v2,v3,_)=>
bif decide (v3 < v2) then ((dZ v3).bind λx0=>
(dI v1 x0).bind λx1=>
(bif decide (x1.1>=0) then (bif decide (x1.1<=4) then (bif decide (x1.2.1>=0) then (bif decide (x1.2.1<=255) then (bif decide (x1.2.2.1>=0) then (bif decide (x1.2.2.1<=1099511627776) then (bif (decide (x1.2.2.2.1>=(-1))) then (bif decide (x1.2.2.2.1<=255) then (bif (decide (x1.2.2.2.2.1>=(-1))) then (bif decide (x1.2.2.2.2.1<=255) then (bif decide (x1.2.2.2.2.2.1>=0) then (some (v0,(decide (x1.2.2.2.2.2.1<=6)),v1,v2,v3,x1.1,x1.2.1,x1.2.2.1,x1.2.2.2.1,x1.2.2.2.2.1,x1.2.2.2.2.2.1,x1.2.2.2.2.2.2.1,x1.2.2.2.2.2.2.2,())) else
some (v0,false,v1,v2,v3,x1.1,x1.2.1,x1.2.2.1,x1.2.2.2.1,x1.2.2.2.2.1,x1.2.2.2.2.2.1,x1.2.2.2.2.2.2.1,x1.2.2.2.2.2.2.2,())) else
some (v0,false,v1,v2,v3,x1.1,x1.2.1,x1.2.2.1,x1.2.2.2.1,x1.2.2.2.2.1,x1.2.2.2.2.2.1,x1.2.2.2.2.2.2.1,x1.2.2.2.2.2.2.2,())) else
some (v0,false,v1,v2,v3,x1.1,x1.2.1,x1.2.2.1,x1.2.2.2.1,x1.2.2.2.2.1,x1.2.2.2.2.2.1,x1.2.2.2.2.2.2.1,x1.2.2.2.2.2.2.2,())) else
some (v0,false,v1,v2,v3,x1.1,x1.2.1,x1.2.2.1,x1.2.2.2.1,x1.2.2.2.2.1,x1.2.2.2.2.2.1,x1.2.2.2.2.2.2.1,x1.2.2.2.2.2.2.2,())) else
some (v0,false,v1,v2,v3,x1.1,x1.2.1,x1.2.2.1,x1.2.2.2.1,x1.2.2.2.2.1,x1.2.2.2.2.2.1,x1.2.2.2.2.2.2.1,x1.2.2.2.2.2.2.2,())) else
some (v0,false,v1,v2,v3,x1.1,x1.2.1,x1.2.2.1,x1.2.2.2.1,x1.2.2.2.2.1,x1.2.2.2.2.2.1,x1.2.2.2.2.2.2.1,x1.2.2.2.2.2.2.2,())) else
some (v0,false,v1,v2,v3,x1.1,x1.2.1,x1.2.2.1,x1.2.2.2.1,x1.2.2.2.2.1,x1.2.2.2.2.2.1,x1.2.2.2.2.2.2.1,x1.2.2.2.2.2.2.2,())) else
some (v0,false,v1,v2,v3,x1.1,x1.2.1,x1.2.2.1,x1.2.2.2.1,x1.2.2.2.2.1,x1.2.2.2.2.2.1,x1.2.2.2.2.2.2.1,x1.2.2.2.2.2.2.2,())) else
some (v0,false,v1,v2,v3,x1.1,x1.2.1,x1.2.2.1,x1.2.2.2.1,x1.2.2.2.2.1,x1.2.2.2.2.2.1,x1.2.2.2.2.2.2.1,x1.2.2.2.2.2.2.2,())) else
some (v0,false,v1,v2,v3,x1.1,x1.2.1,x1.2.2.1,x1.2.2.2.1,x1.2.2.2.2.1,x1.2.2.2.2.2.1,x1.2.2.2.2.2.2.1,x1.2.2.2.2.2.2.2,())) else
some (v0,false,v1,v2,v3,x1.1,x1.2.1,x1.2.2.1,x1.2.2.2.1,x1.2.2.2.2.1,x1.2.2.2.2.2.1,x1.2.2.2.2.2.2.1,x1.2.2.2.2.2.2.2,()):Option (LDTs×Bool×LDTs×T25)).bind λ(x2,x3,x4,x5,x6,x7,x8,x9,ac,ae,af,ag,ah,_)=>
(bif (!x3) then (some (x2,x4,x5,x6,true,())) else
let ai:=dM ah.length;
bif (ai != 8) then (some (x2,x4,x5,x6,true,())) else
(fm ah 8).bind λ(aj,_)=>
some (x2,x4,x5,x6,(!aj),()):Option (LDTs×LDTs×T0d)).bind λ(ai,aj,ak,am,an,_)=>
bif an then (some (.inr (.inl (false,())))) else
let ap:=w64 (am+1);
some (.inl (ai,aj,ak,ap,()))) else
some (.inr (.inr (v0,v1,v2,v3,false,())))
def jZ(a0:LDTs):Option (Bool×Unit):=
let x0:=dM a0.length;
(match dR gk NN (a0,a0,x0,0,()) with
| none=>none
| some (.inl (x1,_))=>
some (x1,())
| some (.inr (x1,_))=>
let x6:=dM x1.length;
some ((x6==4),()))
def wV:X.Cfg:=⟨E0,[gu],[],[⟨8,0,qE,[(.normal,(qS [(sP 0 (.row false qZ)),(pP 4 10),(sP 5 .bool),(sP 6 (.row false qZ)),(sP 7 I64),(sP 8 I64)] [(10,(uL [I64,I64,I64,I64,I64,I64,CW,ef]))]))]⟩,⟨9,1,qE,[(.normal,(qS [(sP 0 (.row false qZ)),(sP 6 (.row false qZ)),(sP 7 I64),(sP 8 I64),(sP 83 .bool)] []))]⟩,⟨3,2,(qS [(sP 0 (.row false qZ)),(sP 6 (.row false qZ)),(sP 7 I64),(sP 8 I64)] []),[(.ret,(qS [(sP 2 .bool)] [])),(.exit 0,(qS [(sP 0 (.row false qZ)),(sP 6 (.row false qZ)),(sP 7 I64),(sP 8 I64),(sP 9 .bool)] []))]⟩]⟩
def qf:Ctr:=⟨108,113,(uL [(.row false qZ)]),[],[⟨(uL [.bool]),[.one],[]⟩],ap1 jZ⟩
theorem wG:Lk 3 qf:=ls (C:=wV) rfl (aC hJ aN) (by kernel_rfl) λh=>by kernel_rfl
def hY:T1K->Option (T1K⊕((Bool×Unit)⊕(LLCn×Int×Int×Bool×T0Q))):=λ(v0,v1,v2,v3,v4,v5)=>
bif decide (v2 < v1) then ((dZ v2).bind λx0=>
(dI v0 x0).bind λx1=>
let x2:=dM x1.length;
(dZ v2).bind λx3=>
(dI v4 x3).bind λx4=>
bif (x2 != x4) then (some (.inr (.inl (false,())))) else
(fm x1 32).bind λ(x5,_)=>
bif (!x5) then (some (.inr (.inl (false,())))) else
let x6:=w64 (v2+1);
some (.inl (v0,v1,x6,v3,v4,v5))) else
some (.inr (.inr (v0,v1,v2,false,v3,v4,v5)))
def lT(a0:LDIn) (a1:List (Int)) (a2:List LI) (a3:List LDCn) (a4:LDTs):Option (Bool×Unit):=
((iT a0 a1 a2).bind λ(x0,_)=>
bif (x0 != 0) then (some (true,a0,a1,a2,a3,a4,())) else
let x1:=dM a3.length;
let x2:=dM a1.length;
bif (x1 != x2) then (some (true,a0,a1,a2,a3,a4,())) else
(jZ a4).bind λ(x3,_)=>
some ((!x3),a0,a1,a2,a3,a4,()):Option (Bool×T0Q)).bind λ(x0,x1,x2,x3,x4,x5,_)=>
bif x0 then (some (false,())) else
let x6:=dM x4.length;
(match dR hY NN (x4,x6,0,x1,x2,x3,x4,x5,()) with
| none=>none
| some (.inl (x7,_))=>
some (x7,())
| some (.inr (x7,_))=>
some (true,()))
def AT:X.Cfg:=⟨E0,[mo,qf,gu],[],[⟨2,0,qE,[(.normal,(qS [(pP 2 6),(pP 3 8),(sP 24 .bool)] [(6,(uL [eZ,RI,(.row false RW)])),(8,(uL [(.row false ef),(.row false qZ)]))]))]⟩,⟨6,1,(qS [(pP 2 6),(sP 26 (.row false ef)),(sP 27 I64),(sP 28 I64)] [(6,(uL [eZ,RI,(.row false RW)])),(8,(uL [(.row false ef),(.row false qZ)]))]),[(.ret,(qS [(sP 4 .bool)] [])),(.exit 0,(qS [(pP 2 6),(sP 26 (.row false ef)),(sP 27 I64),(sP 28 I64),(sP 29 .bool)] [(6,(uL [eZ,RI,(.row false RW)])),(8,(uL [(.row false ef),(.row false qZ)]))]))]⟩]⟩
def sZ:Ctr:=⟨47,114,[.agg (uL [eZ,RI,(.row false RW)]),.agg (uL [(.row false ef),(.row false qZ)])],[],[⟨(uL [.bool]),[.one],[]⟩],ap5 lT⟩
theorem An:Lk 4 sZ:=ls (C:=AT) rfl (aC oI (aC wG (aC hJ aN))) (by kernel_rfl) λh=>by kernel_rfl
def hU:LDTs×Int×Int×LLCn×LDTs×LLCn×Unit->Option ((LDTs×Int×Int×LLCn×LDTs×LLCn×Unit)⊕(LDTs×Int×Int×Bool×LLCn×LDTs×LLCn×Unit)):=λ(v0,v1,v2,v3,v4,v5,_)=>
bif decide (v2 < v1) then ((dZ v2).bind λx0=>
(dI v0 x0).bind λx1=>
let x2:List LDCn:=[x1.2.2.2.2.2.2.2];
bif (dY 24 v5.length x2.length) then let x3:List LDCn:=(List.append v5 x2);
let x4:=w64 (v2+1);
some (.inl (v0,v1,x4,v3,v4,x3,())) else none) else
some (.inr (v0,v1,v2,false,v3,v4,v5,()))
def lS(a0:List LDCn) (a1:LDTs):Option (LLCn×Unit):=
bif (dY 24 0 a0.length) then let x0:List LDCn:=(List.append [] a0);
let x1:=dM a1.length;
(dR hU NN (a1,x1,0,a0,a1,x0,())).bind λ(x2,x3,x4,x5,x6,x7,x8,_)=>
some (x8,()) else none
def AS:X.Cfg:=⟨E0,[],[(8,(.row true KCn)),(19,(.row true KCn)),(20,(.row true KCn))],[(lx 4 0 [(3,.pk ⟨9,0,[]⟩ [0,0]),(sP 10 (.row false qZ)),(sP 11 I64),(sP 12 I64)] [(4,(uL [(.row false ef),(.row false qZ)])),(9,(uL [(.row true ef)]))] 13)]⟩
def sY:Ctr:=⟨97,115,[.agg (uL [(.row false ef),(.row false qZ)])],[],[⟨(uL [(.row true ef)]),[.one],[]⟩],ap2 lS⟩
theorem Am:Lk 1 sY:=ls (C:=AS) rfl aN (by kernel_rfl) λh=>by kernel_rfl
def gJ:T2O->Option (T2O⊕(T10⊕(Int×Int×LDCn×T2I))):=λ(v0,v1,v2,v3,v4,v5,v6,v7)=>
bif decide (v4 < v3) then ((dZ v4).bind λx0=>
(dI v2 x0).bind λx1=>
(gy v6 x1.1 x1.2.1 x1.2.2.1 x1.2.2.2).bind λ(x2,_)=>
bif (!x2) then (some (.inr (.inl (false,(),0,(),(),(),())))) else
let x3:=w64 (v4+1);
some (.inl (v0,v1,v2,v3,x3,v5,v6,v7))) else
some (.inr (.inr (v0,v1,v2,v3,v4,false,v5,v6,v7)))
def gI:T2D->Option (T2D⊕(T10⊕T2I)):=λ(v0,v1,v2,v3,v4,v5,v6,v7,v8,v9,v10,v11,v12,v13,v14,_)=>
bif decide (v1 < v0) then ((dZ v1).bind λx0=>
(dI v14 x0).bind λx1=>
(dI v14 x0).bind λx2=>
let x3:=dM x2.length;
(match dR gJ NN (v0,v1,x2,x3,0,v2,v3,v4,v5,v6,v7,v8,v9,v10,v11,v12,v13,v14,()) with
| none=>none
| some (.inl (x4,x5,x6,x7,x8,x9,_))=>
some (.inr (.inl (x4,x5,x6,x7,x8,x9,())))
| some (.inr (x4,x5,x6,x7,x8,x9,ac))=>
let ax:=w64 (x5+1);
some (.inl (x4,ax,ac)))) else
some (.inr (.inr (v0,v1,false,v2,v3,v4,v5,v6,v7,v8,v9,v10,v11,v12,v13,v14,())))
def nU:T34->Option (T34⊕(Int×LLCn×Int×Int×LDCn×T2Z)):=λ(v0,v1,v2,v3,v4,v5,v6,v7,v8,v9,v10,v11,v12,v13,v14,v15,v16,v17,v18,v19,v20,v21,v22)=>
bif decide (v6 < v5) then ((dZ v6).bind λx0=>
(dI v4 x0).bind λx1=>
(dZ v0).bind λx2=>
(dI v10 x2).bind λx3=>
let x4:=w64 (x3+v6);
(gw v10 v11 v8 x1.1 x1.2.1 x1.2.2.1 x1.2.2.2).bind λ(x5,x6,x7,_)=>
(dZ x4).bind λx8=>
(dI v21 x8).bind λx9=>
(dI v21 x8).bind λac=>
let ae:=List.modify v21 x8 λe=>(x5,x6);
let af:=w64 (v6+1);
some (.inl (v0,v1,v2,v3,v4,v5,af,v7,v8,v9,v10,v11,v12,v13,v14,v15,v16,v17,v18,v19,v20,ae,v22))) else
some (.inr (v0,v1,v2,v3,v4,v5,v6,false,v7,v8,v9,v10,v11,v12,v13,v14,v15,v16,v17,v18,v19,v20,v21,v22))
def nT:T31->Option (T31⊕(LLCn×T2Z)):=λ(v0,v1,v2,v3)=>
bif decide (v2 < v1) then ((dZ v2).bind λx0=>
(dI v0 x0).bind λx1=>
let x2:=dM x1.length;
(dR nU NN (v2,v0,v1,v2,x1,x2,0,v3)).bind λ(x3,x4,x5,x6,x7,x8,x9,ac,ae)=>
let aD:=w64 (x6+1);
some (.inl (x4,x5,aD,ae))) else
some (.inr (v0,v1,v2,false,v3))
def gH:T3B->Option (T3B⊕(LDTs×Int×Int×LDCn×Int×Int×Bool×T3g)):=λ(v0,v1,v2,v3,v4,v5,v6,v7,v8,v9,v10,v11,v12,v13,v14,v15,v16,v17,v18,v19,v20,v21,v22,v23,v24,v25,v26,v27,v28,v29,v30,v31,v32,v33)=>
bif decide (v5 < v4) then ((dZ v5).bind λx0=>
(dI v3 x0).bind λx1=>
(gw v9 v10 v7 x1.1 x1.2.1 x1.2.2.1 x1.2.2.2).bind λ(x2,x3,x4,_)=>
let x5:LDCe:=[(x2,x3)];
bif (dY 4 v32.length x5.length) then let x6:LDCe:=(List.append v32 x5);
let x7:=w64 (v5+1);
some (.inl (v0,v1,v2,v3,v4,x7,v6,v7,v8,v9,v10,v11,v12,v13,v14,v15,v16,v17,v18,v19,v20,v21,v22,v23,v24,v25,v26,v27,v28,v29,v30,v31,x6,v33)) else none) else
some (.inr (v0,v1,v2,v3,v4,v5,false,v6,v7,v8,v9,v10,v11,v12,v13,v14,v15,v16,v17,v18,v19,v20,v21,v22,v23,v24,v25,v26,v27,v28,v29,v30,v31,v32,v33))
def gG:T30->Option (T30⊕(LDTs×Int×Int×Bool×T2M)):=λ(v0,v1,v2,v3,v4,v5,v6,v7,v8,v9,v10,v11,v12,v13,v14,v15,v16,v17,v18,v19,_)=>
bif decide (v2 < v1) then ((dZ v2).bind λx0=>
(dI v0 x0).bind λx1=>
let x2:=dM x1.2.2.2.2.2.2.2.length;
(dR gH NN (v0,v1,v2,x1.2.2.2.2.2.2.2,x2,0,v3,v4,v5,v6,v7,v8,v9,v10,v11,v12,v13,v14,v15,v16,v17,v18,v19,x1.1,x1.2.1,x1.2.2.1,x1.2.2.2.1,x1.2.2.2.2.1,x1.2.2.2.2.2.1,x1.2.2.2.2.2.2.1,x1.2.2.2.2.2.2.2,x1.1,[],x1.2.1,x1.2.2.1,x1.2.2.2.1,x1.2.2.2.2.1,x1.2.2.2.2.2.1,x1.2.2.2.2.2.2.1,())).bind λ(x3,x4,x5,x6,x7,x8,x9,ac,ae,af,ag,ah,ai,aj,ak,am,an,ap,aq,av,ax,ay,az,aA,aB,aD,aE,aF,aG,aH,aI,aJ,aK,aL,aM,aO,aP,aQ,aR,aS,_)=>
let aT:LDTh:=[(aK,(aL,(aM,(aO,(aP,(aQ,(aR,aS)))))))];
bif (dY 80 aA.length aT.length) then let aU:LDTh:=(List.append aA aT);
let aV:=w64 (x5+1);
some (.inl (x3,x4,aV,ac,ae,af,ag,ah,ai,aj,ak,am,an,ap,aq,av,ax,ay,az,aU,())) else none) else
some (.inr (v0,v1,v2,false,v3,v4,v5,v6,v7,v8,v9,v10,v11,v12,v13,v14,v15,v16,v17,v18,v19,()))
def kU(a0:LDIn) (a1:List (Int)) (a2:List LI) (a3:List (Int)) (a4:Int) (a5:List LDCn) (a6:LDTs):Option (T1d):=
(lT a0 a1 a2 a5 a6).bind λ(x0,_)=>
bif (!x0) then (some ([],0,[],[],[],false,())) else
(fK a3 a4 a1).bind λ(x1,_)=>
bif (!x1) then (some ([],0,[],[],[],false,())) else
(lS a5 a6).bind λ(x2,_)=>
let x3:=dM x2.length;
(match dR gI NN (x3,0,a0,a1,a2,a3,a4,a5,a6,(),0,(),(),(),x2,()) with
| none=>none
| some (.inl (x4,x5,x6,x7,x8,x9,_))=>
some ([],x6,[],[],[],x4,())
| some (.inr (x4,x5,x6,x7,x8,x9,ac,ae,af,ag,ah,ai,aj,ak,am,an,_))=>
bif (dY 8 0 ac.length) then let ap:List (Int):=(List.append [] ac);
bif (nL 512 512 2) then let aq:LDCe:=(List.replicate 512 (0,0));
(l8).bind λ(av,_)=>
let ax:=dM af.length;
(dR nT NN (af,ax,0,x7,x8,x9,ac,ae,af,ag,ah,ai,aj,ak,am,ap,ae,aq,av,(),())).bind λ(ay,az,aA,aB,aD,aE,aF,aG,aH,aI,aJ,aK,aL,aM,aO,aP,aQ,aR,aS,aT,aU,_)=>
let aV:=dM aJ.length;
(dR gG NN (aJ,aV,0,aD,aE,aF,aG,aH,aI,aJ,aK,aL,aM,aO,aP,aQ,aR,aS,aT,[],())).bind λ(aW,aY,aZ,ba,bc,bd,be,bf,bg,bh,bi,bj,bk,bl,bm,bn,bo,bp,bq,bt,bv,_)=>
some (bo,bp,bq,bt,bv,true,()) else none else none)
def yr:X.Cfg:=⟨E0,[sZ,kA,sY,jg,oY,oZ],[(150,NC),(151,NC)],[⟨12,0,(qS [(pP 3 8),(pP 4 10),(pP 5 12),(pP 6 14),(37,.pk ⟨77,0,[]⟩ [0,0]),(sP 38 I64),(sP 39 I64),(sP 43 ef),(sP 44 I64),(sP 45 I64)] [(8,(uL [eZ,RI,(.row false RW)])),(10,(uL [RI,CW])),(12,(uL [(.row false ef),(.row false qZ)])),(14,(uL [N1,CW,N1,N1,N1])),(77,(uL [(.row true ef)]))]),[(.ret,(qS [(pP 6 14),(sP 7 .bool)] [(14,(uL [N1,CW,N1,N1,N1]))])),(.exit 2,(qS [(pP 3 8),(pP 4 10),(pP 5 12),(pP 6 14),(37,.pk ⟨77,0,[]⟩ [0,0]),(sP 38 I64),(sP 39 I64),(sP 43 ef),(sP 44 I64),(sP 45 I64),(sP 46 .bool)] [(8,(uL [eZ,RI,(.row false RW)])),(10,(uL [RI,CW])),(12,(uL [(.row false ef),(.row false qZ)])),(14,(uL [N1,CW,N1,N1,N1])),(77,(uL [(.row true ef)]))]))]⟩,⟨6,1,(qS [(pP 3 8),(pP 4 10),(pP 5 12),(pP 6 14),(37,.pk ⟨77,0,[]⟩ [0,0]),(sP 38 I64),(sP 39 I64)] [(8,(uL [eZ,RI,(.row false RW)])),(10,(uL [RI,CW])),(12,(uL [(.row false ef),(.row false qZ)])),(14,(uL [N1,CW,N1,N1,N1])),(77,(uL [(.row true ef)]))]),[(.ret,(qS [(pP 6 14),(sP 7 .bool)] [(14,(uL [N1,CW,N1,N1,N1]))])),(.exit 0,(qS [(pP 3 8),(pP 4 10),(pP 5 12),(pP 6 14),(37,.pk ⟨77,0,[]⟩ [0,0]),(sP 38 I64),(sP 39 I64),(sP 40 .bool)] [(8,(uL [eZ,RI,(.row false RW)])),(10,(uL [RI,CW])),(12,(uL [(.row false ef),(.row false qZ)])),(14,(uL [N1,CW,N1,N1,N1])),(77,(uL [(.row true ef)]))]))]⟩,⟨28,2,(qS [(pP 3 8),(pP 4 10),(pP 5 12),(pP 6 14),(pP 12 26),(sP 13 I64),(sP 68 (.row false ef)),(sP 69 I64),(sP 70 I64),(sP 75 ef),(sP 76 I64),(sP 77 I64)] [(8,(uL [eZ,RI,(.row false RW)])),(10,(uL [RI,CW])),(12,(uL [(.row false ef),(.row false qZ)])),(14,(uL [N1,CW,N1,N1,N1])),(26,(uL [RI,CW,(.row true KCe),iZ,N1]))]),[(.exit 6,(qS [(pP 3 8),(pP 4 10),(pP 5 12),(pP 6 14),(pP 12 26),(sP 13 I64),(sP 68 (.row false ef)),(sP 69 I64),(sP 70 I64),(sP 75 ef),(sP 76 I64),(sP 77 I64),(sP 78 .bool)] [(8,(uL [eZ,RI,(.row false RW)])),(10,(uL [RI,CW])),(12,(uL [(.row false ef),(.row false qZ)])),(14,(uL [N1,CW,N1,N1,N1])),(26,(uL [RI,CW,(.row true KCe),iZ,N1]))]))]⟩,⟨22,3,(qS [(pP 3 8),(pP 4 10),(pP 5 12),(pP 6 14),(pP 12 26),(sP 68 (.row false ef)),(sP 69 I64),(sP 70 I64)] [(8,(uL [eZ,RI,(.row false RW)])),(10,(uL [RI,CW])),(12,(uL [(.row false ef),(.row false qZ)])),(14,(uL [N1,CW,N1,N1,N1])),(26,(uL [RI,CW,(.row true KCe),iZ,N1]))]),[(.exit 4,(qS [(pP 3 8),(pP 4 10),(pP 5 12),(pP 6 14),(pP 12 26),(sP 68 (.row false ef)),(sP 69 I64),(sP 70 I64),(sP 71 .bool)] [(8,(uL [eZ,RI,(.row false RW)])),(10,(uL [RI,CW])),(12,(uL [(.row false ef),(.row false qZ)])),(14,(uL [N1,CW,N1,N1,N1])),(26,(uL [RI,CW,(.row true KCe),iZ,N1]))]))]⟩,⟨43,4,(qS [(pP 3 8),(pP 4 10),(pP 6 14),(pP 12 26),(pP 19 40),(sP 104 (.row false qZ)),(sP 105 I64),(sP 106 I64),(sP 126 ef),(sP 127 I64),(sP 128 I64)] [(8,(uL [eZ,RI,(.row false RW)])),(10,(uL [RI,CW])),(12,(uL [(.row false ef),(.row false qZ)])),(14,(uL [N1,CW,N1,N1,N1])),(26,(uL [RI,CW,(.row true KCe),iZ,pt])),(38,(uL [I64,I64,I64,I64,I64,I64,CW,ef])),(40,(uL [I64,(.row true KCe),I64,I64,I64,I64,I64,CW]))]),[(.exit 10,(qS [(pP 3 8),(pP 4 10),(pP 6 14),(pP 12 26),(pP 19 40),(sP 104 (.row false qZ)),(sP 105 I64),(sP 106 I64),(sP 126 ef),(sP 127 I64),(sP 128 I64),(sP 129 .bool)] [(8,(uL [eZ,RI,(.row false RW)])),(10,(uL [RI,CW])),(12,(uL [(.row false ef),(.row false qZ)])),(14,(uL [N1,CW,N1,N1,N1])),(26,(uL [RI,CW,(.row true KCe),iZ,pt])),(38,(uL [I64,I64,I64,I64,I64,I64,CW,ef])),(40,(uL [I64,(.row true KCe),I64,I64,I64,I64,I64,CW]))]))]⟩,⟨35,5,(qS [(pP 3 8),(pP 4 10),(pP 6 14),(pP 12 26),(sP 104 (.row false qZ)),(sP 105 I64),(sP 106 I64)] [(8,(uL [eZ,RI,(.row false RW)])),(10,(uL [RI,CW])),(12,(uL [(.row false ef),(.row false qZ)])),(14,(uL [N1,CW,N1,N1,N1])),(26,(uL [RI,CW,(.row true KCe),iZ,pt]))]),[(.exit 8,(qS [(pP 3 8),(pP 4 10),(pP 6 14),(pP 12 26),(sP 104 (.row false qZ)),(sP 105 I64),(sP 106 I64),(sP 107 .bool)] [(8,(uL [eZ,RI,(.row false RW)])),(10,(uL [RI,CW])),(12,(uL [(.row false ef),(.row false qZ)])),(14,(uL [N1,CW,N1,N1,N1])),(26,(uL [RI,CW,(.row true KCe),iZ,pt]))]))]⟩]⟩
def rv:Ctr:=⟨40,116,[.agg (uL [eZ,RI,(.row false RW)]),.agg (uL [RI,CW]),.agg (uL [(.row false ef),(.row false qZ)])],[],[⟨(uL [RI,CW,(.row true KCe),iZ,pt,.bool]),[.agg 5,.one],[]⟩],ap7 kU⟩
theorem yb:Lk 5 rv:=ls (C:=yr) rfl (aC An (aC mg (aC Am (aC lf (aC sH (aC rS aN)))))) (by kernel_rfl) λh=>by kernel_rfl
def kK:T3o->Option (T3o⊕T3v):=λ(v0,v1,v2,v3,v4,v5,v6,v7,v8,v9,v10,v11,v12,v13,v14,v15,v16,v17,v18,v19,v20,v21,v22,v23,v24,v25,v26,v27,v28,v29,v30,v31,v32,v33,v34,v35,v36,_)=>
bif decide (v1 < v0) then (((dL 3 v2 v3).bind λ(x0,x1,x2,_)=>
bif (x0==0) then ((dI v35 0).bind λx3=>
(dI v35 0).bind λx4=>
(lA v13 x1 x2).bind λ(x5,x6,x7,x8,x9,ac,_)=>
(dZ v1).bind λae=>
(dI v35 0).bind λaf=>
(dI af ae).bind λag=>
(dI v35 0).bind λah=>
(dI ah ae).bind λai=>
let aj:=(List.modify v35 0 λe=>(List.modify e ae λe=>(x5,(x6,(x7,x8)))));
some (v0,v1,x9,ac,v4,v5,v6,v7,v8,v9,v10,v11,v12,v13,v14,v15,v16,v17,v18,v19,v20,v21,v22,v23,v24,v25,v26,v27,v28,v29,v30,v31,v32,v33,v34,aj,v36,())) else
some (v0,v1,x1,x2,v4,v5,v6,v7,v8,v9,v10,v11,v12,v13,v14,v15,v16,v17,v18,v19,v20,v21,v22,v23,v24,v25,v26,v27,v28,v29,v30,v31,v32,v33,v34,v35,v36,()):Option (T3o)).bind λ(x0,x1,x2,x3,x4,x5,x6,x7,x8,x9,ac,ae,af,ag,ah,ai,aj,ak)=>
let aM:=w64 (x1+1);
some (.inl (x0,aM,x2,x3,x4,x5,x6,x7,x8,x9,ac,ae,af,ag,ah,ai,aj,ak))) else
some (.inr (v0,v1,false,v2,v3,v4,v5,v6,v7,v8,v9,v10,v11,v12,v13,v14,v15,v16,v17,v18,v19,v20,v21,v22,v23,v24,v25,v26,v27,v28,v29,v30,v31,v32,v33,v34,v35,v36,()))
def nX:T3D->Option (T3D⊕(Int×Int×Int×T3v)):=λ(v0,v1,v2,v3,v4,v5,v6,v7,v8,v9,v10,v11,v12,v13,v14,v15,v16,v17,v18,v19,v20,v21,v22,v23,v24,v25,v26,v27,v28,v29,v30,v31,v32,v33,v34,v35,v36,v37,v38,v39,_)=>
bif decide (v4 < v3) then (((dL 3 v5 v6).bind λ(x0,x1,x2,_)=>
bif (x0==0) then ((dZ v0).bind λx3=>
(dI v39 x3).bind λx4=>
(dI v39 x3).bind λx5=>
(lA v16 x1 x2).bind λ(x6,x7,x8,x9,ac,ae,_)=>
(dZ v4).bind λaf=>
(dI v39 x3).bind λag=>
(dI ag.2.2.2.2.2.2.2 af).bind λah=>
(dI v39 x3).bind λai=>
(dI ai.2.2.2.2.2.2.2 af).bind λaj=>
let ak:=(List.modify v39 x3 λe=>(e.1,(e.2.1,(e.2.2.1,(e.2.2.2.1,(e.2.2.2.2.1,(e.2.2.2.2.2.1,(e.2.2.2.2.2.2.1,(List.modify e.2.2.2.2.2.2.2 af λe=>(x6,(x7,(x8,x9))))))))))));
some (v0,v1,v2,v3,v4,ac,ae,v7,v8,v9,v10,v11,v12,v13,v14,v15,v16,v17,v18,v19,v20,v21,v22,v23,v24,v25,v26,v27,v28,v29,v30,v31,v32,v33,v34,v35,v36,v37,v38,ak,())) else
some (v0,v1,v2,v3,v4,x1,x2,v7,v8,v9,v10,v11,v12,v13,v14,v15,v16,v17,v18,v19,v20,v21,v22,v23,v24,v25,v26,v27,v28,v29,v30,v31,v32,v33,v34,v35,v36,v37,v38,v39,()):Option (T3D)).bind λ(x0,x1,x2,x3,x4,x5,x6,x7,x8,x9,ac,ae,af,ag,ah,ai,aj,ak,am)=>
let aQ:=w64 (x4+1);
some (.inl (x0,x1,x2,x3,aQ,x5,x6,x7,x8,x9,ac,ae,af,ag,ah,ai,aj,ak,am))) else
some (.inr (v0,v1,v2,v3,v4,false,v5,v6,v7,v8,v9,v10,v11,v12,v13,v14,v15,v16,v17,v18,v19,v20,v21,v22,v23,v24,v25,v26,v27,v28,v29,v30,v31,v32,v33,v34,v35,v36,v37,v38,v39,()))
def kJ:T3o->Option (T3o⊕T3v):=λ(v0,v1,v2,v3,v4,v5,v6,v7,v8,v9,v10,v11,v12,v13,v14,v15,v16,v17,v18,v19,v20,v21,v22,v23,v24,v25,v26,v27,v28,v29,v30,v31,v32,v33,v34,v35,v36,_)=>
bif decide (v1 < v0) then (((dZ v1).bind λx0=>
(dI v36 x0).bind λx1=>
(dI v36 x0).bind λx2=>
(dI v36 x0).bind λx3=>
let x4:=dM x3.2.2.2.2.2.2.2.length;
(dR nX NN (v1,v0,v1,x4,0,v2,v3,v4,v5,v6,v7,v8,v9,v10,v11,v12,v13,v14,v15,v16,v17,v18,v19,v20,v21,v22,v23,v24,v25,v26,v27,v28,v29,v30,v31,v32,v33,v34,v35,v36,())).bind λ(x5,x6,x7,x8,x9,ac,ae,af,ag,ah,ai,aj,ak,am,an,ap,aq,av,ax,ay,az,aA,aB,aD,aE,aF,aG,aH,aI,aJ,aK,aL,aM,aO,aP,aQ,aR,aS,aT,aU,aV,_)=>
(dL 4 ae af).bind λ(aW,aY,aZ,_)=>
bif (aW==0) then ((dL 5 aY aZ).bind λ(ba,bc,bd,_)=>
(dZ x5).bind λbe=>
(dI aV be).bind λbf=>
(dI aV be).bind λbg=>
let bh:=List.modify aV be λe=>(ba,e.2);
some (x6,x7,bc,bd,ag,ah,ai,aj,ak,am,an,ap,aq,av,ax,ay,az,aA,aB,aD,aE,aF,aG,aH,aI,aJ,aK,aL,aM,aO,aP,aQ,aR,aS,aT,aU,bh,())) else
some (x6,x7,aY,aZ,ag,ah,ai,aj,ak,am,an,ap,aq,av,ax,ay,az,aA,aB,aD,aE,aF,aG,aH,aI,aJ,aK,aL,aM,aO,aP,aQ,aR,aS,aT,aU,aV,()):Option (T3o)).bind λ(x0,x1,x2,x3,x4,x5,x6,x7,x8,x9,ac,ae,af,ag,ah,ai,aj,ak,am,an,ap,aq,av,ax,ay,az,aA,aB,aD,aE,aF,aG,aH,aI,aJ,aK,aL,_)=>
let aM:=w64 (x1+1);
some (.inl (x0,aM,x2,x3,x4,x5,x6,x7,x8,x9,ac,ae,af,ag,ah,ai,aj,ak,am,an,ap,aq,av,ax,ay,az,aA,aB,aD,aE,aF,aG,aH,aI,aJ,aK,aL,()))) else
some (.inr (v0,v1,false,v2,v3,v4,v5,v6,v7,v8,v9,v10,v11,v12,v13,v14,v15,v16,v17,v18,v19,v20,v21,v22,v23,v24,v25,v26,v27,v28,v29,v30,v31,v32,v33,v34,v35,v36,()))
def la(a0:List (Int)) (a1:Int):Option (LDIn×LI×LLI×LI×Int×LDCe×LDLn×LDTh×T06):=
(qF a0 a1).bind λ(x0,x1,x2,x3,x4,x5,x6,x7,x8,x9,ac,ae,af,ag,ah,ai,aj,ak,am,an,_)=>
(match ((dL 3 am an).bind λ(ap,aq,av,_)=>
bif (ap==0) then ((lU x0 x1 x2 x3 x4 x5 x6 x7).bind λ(ax,ay,_)=>
(dI ax 0).bind λaz=>
(dI ax 0).bind λaA=>
(dI ax 0).bind λaB=>
let aD:=dM aB.length;
(dR kK NN (aD,0,aq,av,(),(),(),(),0,(),(),(),x0,x1,x2,x3,x4,x5,x6,x7,x8,x9,ac,ae,af,ag,ah,ai,aj,ak,x3,x4,x5,x6,x7,ax,ay,())).bind λ(aE,aF,aG,aH,aI,aJ,aK,aL,aM,aO,aP,aQ,aR,aS,aT,aU,aV,aW,aY,aZ,ba,bc,bd,be,bf,bg,bh,bi,bj,bk,bl,bm,bn,bo,bp,bq,bt,bv,_)=>
let bx:=dM bv.length;
(dR kJ NN (bx,0,aH,aI,aJ,aK,aL,aM,aO,aP,aQ,aR,aS,aT,aU,aV,aW,aY,aZ,ba,bc,bd,be,bf,bg,bh,bi,bj,bk,bl,bm,bn,bo,bp,bq,bt,bv,())).bind λ(bA,bB,bC,bD,bE,bF,bG,bH,bI,bJ,bK,bL,bM,bN,bO,bP,bQ,bR,bS,bT,bU,bV,bW,bY,bZ,b8,b9,ca,cb,cd,cf,cg,ch,ci,cj,cn,cq,cr,_)=>
(kU bN bO bP cg ch cq cr).bind λ(cu,cw,cx,cy,cz,cD,_)=>
bif cD then (some (.inl (bD,bE,bF,bG,bH,bI,bJ,bK,bL,bM,bN,bO,bP,bQ,bR,bS,bT,bU,bV,bW,bY,bZ,b8,b9,ca,cb,cd,cf,cu,cw,cx,cy,cz,()))) else
some (.inr (bD,bE,bF,bG,bH,bI,bJ,bK,bL,bM,bN,bO,bP,bQ,bR,bS,bT,bU,bV,bW,bY,bZ,b8,b9,ca,cb,cd,cf,cg,ch,ci,cj,cn,()))) else
some (.inr (aq,av,(),(),(),(),0,(),(),(),x0,x1,x2,x3,x4,x5,x6,x7,x8,x9,ac,ae,af,ag,ah,ai,aj,ak,x3,x4,x5,x6,x7,())):Option (T3h⊕T3h)) with
| none=>none
| some (.inl (ap,aq,av,ax,ay,az,aA,aB,aD,aE,aF,aG,aH,aI,aJ,aK,aL,aM,aO,aP,aQ,aR,aS,aT,aU,aV,aW,aY,aZ,ba,bc,bd,be,_))=>
some (aF,aG,aH,aZ,ba,bc,bd,be,ap,aq,())
| some (.inr (ap,aq,av,ax,ay,az,aA,aB,aD,aE,aF,aG,aH,aI,aJ,aK,aL,aM,aO,aP,aQ,aR,aS,aT,aU,aV,aW,aY,aZ,ba,bc,bd,be,_))=>
some (aF,aG,aH,aZ,ba,bc,bd,be,ap,aq,()))
def yH:X.Cfg:=⟨E0,[zG,fG,s6,u9,rv],[],[⟨11,0,qE,[(.normal,(qS [(pP 0 2),(pP 2 6),(pP 3 8),(pP 4 10),(pP 5 12),(pP 6 14),(sP 27 I64),(sP 28 I64)] [(2,(uL [RI,I64])),(6,(uL [N1,N1,N1])),(8,(uL [N1,CW,N1,N1,N1])),(10,(uL [eZ,RI,(.row false RW),RI,CW,eM,fi,gd,RW,RW,(.row false RW),(.row false ef),gR,ja,RI,(.row false RI),Ga,RI])),(12,(uL [RI,CW,eM,fi,gd])),(14,(uL [(.row true (.row true KCn)),(.row true Ge)]))]))]⟩,(lx 8 1 [(pP 0 2),(pP 2 6),(pP 3 8),(pP 4 10),(pP 5 12),(pP 6 14),(sP 27 I64),(sP 28 I64)] [(2,(uL [RI,I64])),(6,(uL [N1,N1,N1])),(8,(uL [N1,CW,N1,N1,N1])),(10,(uL [eZ,RI,(.row false RW),RI,CW,eM,fi,gd,RW,RW,(.row false RW),(.row false ef),gR,ja,RI,(.row false RI),Ga,RI])),(12,(uL [RI,CW,eM,fi,gd])),(14,(uL [(.row true (.row true KCn)),(.row true Ge)]))] 29),⟨26,2,qE,[(.normal,(qS [(pP 0 2),(pP 2 6),(pP 3 8),(pP 4 10),(pP 5 12),(pP 6 14),(sP 8 I64),(sP 48 I64),(sP 49 I64),(sP 58 I64),(sP 59 I64)] [(2,(uL [RI,I64])),(6,(uL [N1,N1,N1])),(8,(uL [N1,CW,N1,N1,N1])),(10,(uL [eZ,RI,(.row false RW),RI,CW,eM,fi,gd,RW,RW,(.row false RW),(.row false ef),gR,ja,RI,(.row false RI),Ga,RI])),(12,(uL [RI,CW,eM,fi,gd])),(14,(uL [(.row true (.row true KCn)),(.row true Ge)]))]))]⟩,⟨23,3,(qS [(pP 0 2),(pP 2 6),(pP 3 8),(pP 4 10),(pP 5 12),(pP 6 14),(sP 8 I64),(sP 48 I64),(sP 49 I64),(sP 58 I64),(sP 59 I64)] [(2,(uL [RI,I64])),(6,(uL [N1,N1,N1])),(8,(uL [N1,CW,N1,N1,N1])),(10,(uL [eZ,RI,(.row false RW),RI,CW,eM,fi,gd,RW,RW,(.row false RW),(.row false ef),gR,ja,RI,(.row false RI),Ga,RI])),(12,(uL [RI,CW,eM,fi,gd])),(14,(uL [(.row true (.row true KCn)),(.row true Ge)]))]),[(.exit 4,(qS [(pP 0 2),(pP 2 6),(pP 3 8),(pP 4 10),(pP 5 12),(pP 6 14),(sP 8 I64),(sP 48 I64),(sP 49 I64),(sP 58 I64),(sP 59 I64),(sP 60 .bool)] [(2,(uL [RI,I64])),(6,(uL [N1,N1,N1])),(8,(uL [N1,CW,N1,N1,N1])),(10,(uL [eZ,RI,(.row false RW),RI,CW,eM,fi,gd,RW,RW,(.row false RW),(.row false ef),gR,ja,RI,(.row false RI),Ga,RI])),(12,(uL [RI,CW,eM,fi,gd])),(14,(uL [(.row true (.row true KCn)),(.row true Ge)]))]))]⟩,⟨19,4,qE,[(.normal,(qS [(pP 0 2),(pP 2 6),(pP 3 8),(pP 4 10),(pP 5 12),(pP 6 14),(sP 48 I64),(sP 49 I64)] [(2,(uL [RI,I64])),(6,(uL [N1,N1,N1])),(8,(uL [N1,CW,N1,N1,N1])),(10,(uL [eZ,RI,(.row false RW),RI,CW,eM,fi,gd,RW,RW,(.row false RW),(.row false ef),gR,ja,RI,(.row false RI),Ga,RI])),(12,(uL [RI,CW,eM,fi,gd])),(14,(uL [(.row true (.row true KCn)),(.row true Ge)]))]))]⟩,⟨16,5,(qS [(pP 0 2),(pP 2 6),(pP 3 8),(pP 4 10),(pP 5 12),(pP 6 14),(sP 48 I64),(sP 49 I64)] [(2,(uL [RI,I64])),(6,(uL [N1,N1,N1])),(8,(uL [N1,CW,N1,N1,N1])),(10,(uL [eZ,RI,(.row false RW),RI,CW,eM,fi,gd,RW,RW,(.row false RW),(.row false ef),gR,ja,RI,(.row false RI),Ga,RI])),(12,(uL [RI,CW,eM,fi,gd])),(14,(uL [(.row true (.row true KCn)),(.row true Ge)]))]),[(.exit 2,(qS [(pP 0 2),(pP 2 6),(pP 3 8),(pP 4 10),(pP 5 12),(pP 6 14),(sP 48 I64),(sP 49 I64),(sP 50 .bool)] [(2,(uL [RI,I64])),(6,(uL [N1,N1,N1])),(8,(uL [N1,CW,N1,N1,N1])),(10,(uL [eZ,RI,(.row false RW),RI,CW,eM,fi,gd,RW,RW,(.row false RW),(.row false ef),gR,ja,RI,(.row false RI),Ga,RI])),(12,(uL [RI,CW,eM,fi,gd])),(14,(uL [(.row true (.row true KCn)),(.row true Ge)]))]))]⟩,⟨3,6,qE,[(.normal,(qS [(pP 0 2),(pP 2 6),(pP 3 8),(pP 4 10),(pP 5 12)] [(2,(uL [RI,I64])),(6,(uL [N1,N1,N1])),(8,(uL [N1,CW,N1,N1,N1])),(10,(uL [eZ,RI,(.row false RW),RI,CW,eM,fi,gd,RW,RW,(.row false RW),(.row false ef),gR,ja,RI,(.row false RI),Ga,RI])),(12,(uL [RI,CW,(.row true KCe),iZ,pt]))])),(.normal,(qS [(pP 0 2),(pP 2 6),(pP 3 8),(pP 4 10),(pP 5 12)] [(2,(uL [RI,I64])),(6,(uL [N1,N1,N1])),(8,(uL [N1,CW,N1,N1,N1])),(10,(uL [eZ,RI,(.row false RW),RI,CW,eM,fi,gd,RW,RW,(.row false RW),(.row false ef),gR,ja,RI,(.row false RI),Ga,RI])),(12,(uL [RI,CW,eM,fi,gd]))]))]⟩]⟩
def rF:Ctr:=⟨15,117,[.ptr ⟨2,0,[]⟩ [0]],[(2,(uL [RI,I64]))],[⟨(uL [eZ,RI,(.row false RW),RI,CW,eM,fi,gd]),[.agg 3,.agg 5],[(2,(uL [RI,I64]))]⟩],ap2 la⟩
theorem yk:Lk 10 rF:=ls (C:=yH) rfl (aC Hi (aC f6 (aC Ao (aC CE (aC yb aN))))) (by kernel_rfl) λh=>by kernel_rfl
def fX(a0:LDCe):Option (LDCe×Unit):=
bif (dY 4 0 a0.length) then let x0:LDCe:=(List.append [] a0);
some (x0,()) else none
def rV:X.Cfg:=⟨E0,[],[],[]⟩
def mY:Ctr:=⟨79,120,(uL [eM]),[],[⟨(uL [(.row true KCe)]),[.one],[]⟩],ap1 fX⟩
theorem rR:Lk 1 mY:=ls (C:=rV) rfl aN (by kernel_rfl) λh=>by kernel_rfl
def gZ(a0:LDLn):Option (LDLn×Unit):=
bif (dY 40 0 a0.length) then let x0:LDLn:=(List.append [] a0);
some (x0,()) else none
def rU:X.Cfg:=⟨E0,[],[(5,LN),(7,LN)],[]⟩
def mX:Ctr:=⟨80,121,(uL [fi]),[],[⟨(uL [(.row true NG)]),[.one],[]⟩],ap1 gZ⟩
theorem rQ:Lk 1 mX:=ls (C:=rU) rfl aN (by kernel_rfl) λh=>by kernel_rfl
def jw:Int×T0N->Option ((Int×T0N)⊕(Int×Int×Bool×T0E)):=λ(v0,v1,v2,v3,v4,v5,_)=>
bif decide (v1 < v0) then ((dZ v1).bind λx0=>
(dI v5 x0).bind λx1=>
(dI v5 x0).bind λx2=>
(fX x2.2.2).bind λ(x3,_)=>
(dZ v1).bind λx4=>
(dI v5 x4).bind λx5=>
(dI v5 x4).bind λx6=>
let x7:=(List.modify v5 x4 λe=>(e.1,(e.2.1,x3)));
let x8:=w64 (v1+1);
some (.inl (v0,x8,v2,v3,v4,x7,()))) else
some (.inr (v0,v1,false,v2,v3,v4,v5,()))
def kf(a0:LDCe) (a1:LDLn):Option (T04):=
(fX a0).bind λ(x0,_)=>
(gZ a1).bind λ(x1,_)=>
let x2:=dM x1.length;
(dR jw NN (x2,0,(),(),x0,x1,())).bind λ(x3,x4,x5,x6,x7,x8)=>
some (x8)
def Bo:X.Cfg:=⟨E0,[mY,mX],[],[(lx 4 0 [(pP 2 6),(pP 3 8),(14,.pk ⟨8,1,[]⟩ [0,0]),(sP 15 I64),(sP 16 I64)] [(6,(uL [N1,N1])),(8,(uL [(.row true KCe),(.row true NG)]))] 17)]⟩
def tA:Ctr:=⟨27,122,[.agg (uL [eM,fi])],[],[⟨(uL [(.row true KCe),(.row true NG)]),[.agg 2],[]⟩],ap2 kf⟩
theorem AD:Lk 2 tA:=ls (C:=Bo) rfl (aC rR (aC rQ aN)) (by kernel_rfl) λh=>by kernel_rfl
def fr:T0x->Option (T0x⊕((Bool×Unit)⊕(LDCe×T0w))):=λ(v0,v1,v2,v3,_)=>
bif decide (v3 < v2) then ((dZ v3).bind λx0=>
(dI v0 x0).bind λx1=>
(dZ v3).bind λx2=>
(dI v1 x2).bind λx3=>
bif (!((x1.1==x3.1) && ((x1.2==x3.2) && true))) then (some (.inr (.inl (false,())))) else
let x4:=w64 (v3+1);
some (.inl (v0,v1,v2,x4,()))) else
some (.inr (.inr (v0,v1,v2,v3,false,())))
def gV(a0:LDCe) (a1:LDCe):Option (Bool×Unit):=
let x0:=dM a0.length;
let x1:=dM a1.length;
bif (x0 != x1) then (some (false,())) else
let x2:=dM a0.length;
(match dR fr NN (a0,a1,x2,0,()) with
| none=>none
| some (.inl (x3,_))=>
some (x3,())
| some (.inr (x3,_))=>
some (true,()))
def Dh:X.Cfg:=⟨E0,[],[],[⟨6,0,(qS [(sP 0 eM),(sP 1 eM),(sP 12 I64),(sP 13 I64)] []),[(.ret,(qS [(sP 4 .bool)] [])),(.exit 0,(qS [(sP 0 eM),(sP 1 eM),(sP 12 I64),(sP 13 I64),(sP 14 .bool)] []))]⟩]⟩
def u5:Ctr:=⟨78,125,(uL [eM,eM]),[],[⟨(uL [.bool]),[.one],[]⟩],ap2 gV⟩
theorem CA:Lk 1 u5:=ls (C:=Dh) rfl aN (by kernel_rfl) λh=>by kernel_rfl
def fq:Int×Int×T0y->Option ((Int×Int×T0y)⊕((Bool×Unit)⊕T1k)):=λ(v0,v1,v2,v3,v4,v5,_)=>
bif decide (v1 < v0) then ((dZ v1).bind λx0=>
(dI v3 x0).bind λx1=>
(dZ v1).bind λx2=>
(dI v5 x2).bind λx3=>
(bif (x1.1 != x3.1) then (some (v0,v1,true,v2,v3,v4,v5,())) else
bif (!(x1.2.1==x3.2.1)) then (some (v0,v1,true,v2,v3,v4,v5,())) else
(gV x1.2.2 x3.2.2).bind λ(x4,_)=>
some (v0,v1,(!x4),v2,v3,v4,v5,()):Option (T1k)).bind λ(x4,x5,x6,x7)=>
bif x6 then (some (.inr (.inl (false,())))) else
let ae:=w64 (x5+1);
some (.inl (x4,ae,x7))) else
some (.inr (.inr (v0,v1,false,v2,v3,v4,v5,())))
def fP(a0:LDCe) (a1:LDLn) (a2:LDCe) (a3:LDLn):Option (Bool×Unit):=
(gV a0 a2).bind λ(x0,_)=>
bif (!x0) then (some (false,())) else
let x1:=dM a1.length;
let x2:=dM a3.length;
bif (x1 != x2) then (some (false,())) else
let x3:=dM a1.length;
(match dR fq NN (x3,0,a0,a1,a2,a3,()) with
| none=>none
| some (.inl (x4,_))=>
some (x4,())
| some (.inr (x4,_))=>
some (true,()))
def Dd:X.Cfg:=⟨E0,[u5],[],[⟨12,0,qE,[(.normal,(qS [(pP 2 6),(pP 3 8),(sP 25 I64),(sP 26 I64),(sP 58 .bool)] [(6,(uL [eM,fi])),(8,(uL [eM,fi]))]))]⟩,⟨6,1,(qS [(pP 2 6),(pP 3 8),(sP 25 I64),(sP 26 I64)] [(6,(uL [eM,fi])),(8,(uL [eM,fi]))]),[(.ret,(qS [(sP 4 .bool)] [])),(.exit 0,(qS [(pP 2 6),(pP 3 8),(sP 25 I64),(sP 26 I64),(sP 27 .bool)] [(6,(uL [eM,fi])),(8,(uL [eM,fi]))]))]⟩]⟩
def uY:Ctr:=⟨26,126,[.agg (uL [eM,fi]),.agg (uL [eM,fi])],[],[⟨(uL [.bool]),[.one],[]⟩],ap4 fP⟩
theorem Cy:Lk 2 uY:=ls (C:=Dd) rfl (aC CA aN) (by kernel_rfl) λh=>by kernel_rfl
def rJ:T0C->Option (T0C⊕((Bool×Unit)⊕T0U)):=λ(v0,v1,v2,v3,_)=>
bif decide (v3 < v2) then ((dZ v3).bind λx0=>
(dI v0 x0).bind λx1=>
(dZ v3).bind λx2=>
(dI v1 x2).bind λx3=>
bif (x1 != x3) then (some (.inr (.inl (false,())))) else
let x4:=w64 (v3+1);
some (.inl (v0,v1,v2,x4,()))) else
some (.inr (.inr (v0,v1,v2,v3,false,())))
def HQ(a0:List (Int)) (a1:List (Int)):Option (Bool×Unit):=
let x0:=dM a0.length;
let x1:=dM a1.length;
bif (x0 != x1) then (some (false,())) else
let x2:=dM a0.length;
(match dR rJ NN (a0,a1,x2,0,()) with
| none=>none
| some (.inl (x3,_))=>
some (x3,())
| some (.inr (x3,_))=>
some (true,()))
def tM:T0C->Option (T0C⊕((Bool×Unit)⊕T0U)):=λ(v0,v1,v2,v3,_)=>
bif decide (v3 < v2) then ((dZ v3).bind λx0=>
(dI v1 x0).bind λx1=>
bif decide (x1 < 1) then (some (.inr (.inl (false,())))) else
bif decide (x1 > 32) then (some (.inr (.inl (false,())))) else
let x2:=w64 (v3+1);
some (.inl (v0,v1,v2,x2,()))) else
some (.inr (.inr (v0,v1,v2,v3,false,())))
def nJ(a0:List (Int)):Option (Bool×Unit):=
let x0:=dM a0.length;
(match dR tM NN (a0,a0,x0,0,()) with
| none=>none
| some (.inl (x1,_))=>
some (x1,())
| some (.inr (x1,_))=>
let x6:=dM x1.length;
bif decide (x6>=1) then (let x7:Int:=(dM x1.length);
some ((decide (x7<=4)),())) else
some (false,()))
def ym:X.Cfg:=⟨E0,[],[],[⟨3,0,(qS [(sP 0 RI),(sP 5 RI),(sP 6 I64),(sP 7 I64)] []),[(.ret,(qS [(sP 2 .bool)] [])),(.exit 0,(qS [(sP 0 RI),(sP 5 RI),(sP 6 I64),(sP 7 I64),(sP 8 .bool)] []))]⟩]⟩
def rm:Ctr:=⟨151,130,(uL [RI]),[],[⟨(uL [.bool]),[.one],[]⟩],ap1 nJ⟩
theorem xW:Lk 1 rm:=ls (C:=ym) rfl aN (by kernel_rfl) λh=>by kernel_rfl
def fV:T2a->Option (T2a⊕((Bool×Unit)⊕T2k)):=λ(v0,v1,v2,v3,v4,v5,v6,v7,v8,v9,_)=>
bif decide (v7 < v6) then ((match ((dZ v7).bind λx0=>
(dI v8 x0).bind λx1=>
(dZ v7).bind λx2=>
(dI v0 x2).bind λx3=>
let x4:=w64 (x1+x3);
bif decide (v2<=x4) then ((dZ v7).bind λx5=>
(dI v8 x5).bind λx6=>
(dZ v1).bind λx7=>
(dI v0 x7).bind λx8=>
let x9:=w64 (v2+x8);
bif decide (x6<=x9) then (some (.inl (false,()))) else
some (.inr (v0,v1,v2,v3,v4,v5,v6,v7,false,v8,v9,()))) else
some (.inr (v0,v1,v2,v3,v4,v5,v6,v7,false,v8,v9,())):Option ((Bool×Unit)⊕T2k)) with
| none=>none
| some (.inl (x0,_))=>
some (.inr (.inl (x0,())))
| some (.inr (x0,x1,x2,x3,x4,x5,x6,x7,x8,x9,ac,_))=>
let ae:=w64 (x7+1);
some (.inl (x0,x1,x2,x3,x4,x5,x6,ae,x9,ac,())))) else
some (.inr (.inr (v0,v1,v2,v3,v4,v5,v6,v7,false,v8,v9,())))
def fU:T1e->Option (T1e⊕((Bool×Unit)⊕(LI×T1c))):=λ(v0,v1,v2,v3,v4)=>
bif decide (v3 < v2) then ((dZ v3).bind λx0=>
(dI v1 x0).bind λx1=>
(bif decide (x1 < 0) then (some (v0,v3,x1,v1,v2,v3,true,v4)) else
bif decide (x1>=512) then (some (v0,v3,x1,v1,v2,v3,true,v4)) else
(dZ v3).bind λx2=>
(dI v0 x2).bind λx3=>
let x4:=w64 (x1+x3);
some (v0,v3,x1,v1,v2,v3,(decide (x4 > 512)),v4):Option (T1W)).bind λ(x2,x3,x4,x5,x6,x7,x8,x9)=>
bif x8 then (some (.inr (.inl (false,())))) else
(match dR fV NN (x2,x3,x4,x5,x6,x7,x3,0,x9) with
| none=>none
| some (.inl (ae,_))=>
some (.inr (.inl (ae,())))
| some (.inr (ae,af,ag,ah,ai,aj,ak,am,an,ap))=>
let av:=w64 (aj+1);
some (.inl (ae,ah,ai,av,ap)))) else
some (.inr (.inr (v0,v1,v2,v3,false,v4)))
def kY(a0:List (Int)) (a1:Int) (a2:List (Int)):Option (Bool×Unit):=
(nJ a2).bind λ(x0,_)=>
bif (!x0) then (some (false,())) else
let x1:=dM a0.length;
let x2:=dM a2.length;
bif (x1 != x2) then (some (false,())) else
let x3:=dM a0.length;
(match dR fU NN (a2,a0,x3,0,a0,a1,()) with
| none=>none
| some (.inl (x4,_))=>
some (x4,())
| some (.inr (x4,_))=>
some (true,()))
def yD:X.Cfg:=⟨E0,[rm],[],[⟨12,0,qE,[(.normal,(qS [(sP 1 RI),(pP 2 6),(sP 5 I64),(sP 6 I64),(sP 20 RI),(sP 21 I64),(sP 22 I64),(sP 41 .bool)] [(6,(uL [RI,CW]))]))]⟩,⟨18,1,qE,[(.ret,(qS [(sP 4 .bool)] [])),(.normal,(qS [(sP 1 RI),(pP 2 6),(sP 5 I64),(sP 6 I64),(sP 20 RI),(sP 21 I64),(sP 22 I64),(sP 42 I64),(sP 43 I64),(sP 71 .bool)] [(6,(uL [RI,CW]))]))]⟩,⟨15,2,(qS [(sP 1 RI),(pP 2 6),(sP 5 I64),(sP 6 I64),(sP 20 RI),(sP 21 I64),(sP 22 I64),(sP 42 I64),(sP 43 I64)] [(6,(uL [RI,CW]))]),[(.ret,(qS [(sP 4 .bool)] [])),(.exit 2,(qS [(sP 1 RI),(pP 2 6),(sP 5 I64),(sP 6 I64),(sP 20 RI),(sP 21 I64),(sP 22 I64),(sP 42 I64),(sP 43 I64),(sP 44 .bool)] [(6,(uL [RI,CW]))]))]⟩,⟨6,3,(qS [(sP 1 RI),(pP 2 6),(sP 20 RI),(sP 21 I64),(sP 22 I64)] [(6,(uL [RI,CW]))]),[(.ret,(qS [(sP 4 .bool)] [])),(.exit 0,(qS [(sP 1 RI),(pP 2 6),(sP 20 RI),(sP 21 I64),(sP 22 I64),(sP 23 .bool)] [(6,(uL [RI,CW]))]))]⟩]⟩
def rB:Ctr:=⟨82,141,[.agg (uL [RI,CW]),shU RI],[],[⟨(uL [.bool]),[.one],[]⟩],ap3 kY⟩
theorem yg:Lk 2 rB:=ls (C:=yD) rfl (aC xW aN) (by kernel_rfl) λh=>by kernel_rfl
def tN:T0f->Option (T0f⊕(Int×Int×Bool×LDLn×Unit)):=λ(v0,v1,v2,_)=>
bif decide (v1 < v0) then ((dZ v1).bind λx0=>
(dI v2 x0).bind λx1=>
(dI v2 x0).bind λx2=>
let x3:=(List.modify v2 x0 λe=>((-1),e.2));
let x4:=w64 (v1+1);
some (.inl (v0,x4,x3,()))) else
some (.inr (v0,v1,false,v2,()))
def nK:Option (LDLn×Unit):=
bif (nL 4 4 3) then let x0:LDLn:=(List.replicate 4 (0,(false,[])));
let x1:=dM x0.length;
(dR tN NN (x1,0,x0,())).bind λ(x2,x3,x4,x5,_)=>
some (x5,()) else none
def yC:X.Cfg:=⟨E0,[],[(3,LN)],[(lx 4 0 [(1,.pk ⟨5,0,[]⟩ [0,0]),(sP 5 I64),(sP 6 I64)] [(5,(uL [iZ]))] 7)]⟩
def rA:Ctr:=⟨83,142,[],[],[⟨(uL [iZ]),[.one],[]⟩],λh=>nK⟩
theorem yf:Lk 1 rA:=ls (C:=yC) rfl aN (by kernel_rfl) λh=>by kernel_rfl
def gF:LI×Int×Int×LDCe×Unit->Option ((LI×Int×Int×LDCe×Unit)⊕(LI×Int×Int×Bool×LDCe×Unit)):=λ(v0,v1,v2,v3,_)=>
bif decide (v2 < v1) then ((dZ v2).bind λx0=>
(dI v0 x0).bind λx1=>
let x2:LDCe:=[(0,x1)];
bif (dY 4 v3.length x2.length) then let x3:LDCe:=(List.append v3 x2);
let x4:=w64 (v2+1);
some (.inl (v0,v1,x4,x3,())) else none) else
some (.inr (v0,v1,v2,false,v3,()))
def kQ(a0:List (Int)):Option (LDCe×Unit):=
let x0:=dM a0.length;
(dR gF NN (a0,x0,0,[],())).bind λ(x1,x2,x3,x4,x5,_)=>
some (x5,())
def yl:X.Cfg:=⟨E0,[],[],[(lx 4 0 [(3,.pk ⟨9,0,[]⟩ [0,0]),(sP 6 RW),(sP 7 I64),(sP 8 I64)] [(9,(uL [(.row true KCe)]))] 9)]⟩
def rk:Ctr:=⟨84,143,(uL [RW]),[],[⟨(uL [(.row true KCe)]),[.one],[]⟩],ap1 kQ⟩
theorem xV:Lk 1 rk:=ls (C:=yl) rfl aN (by kernel_rfl) λh=>by kernel_rfl
def lM:T2v->Option (T2v⊕(T0h⊕T2A)):=λ(v0,v1,v2,v3,v4,v5,v6,v7,v8,v9,v10,v11,_)=>
bif decide (v2 < v1) then ((match ((dZ v2).bind λx0=>
(dI v0 x0).bind λx1=>
let x2:=dM x1.length;
(dZ v2).bind λx3=>
(dI v4 x3).bind λx4=>
bif decide (x2 > x4) then (some (.inl (1,(),(),()))) else
(dZ v2).bind λx5=>
(dI v6 x5).bind λx6=>
(dZ x6).bind λx7=>
bif (gS x7 v10.length v10.length) then (kQ x1).bind λ(x8,_)=>
bif (gS x7 (Nat.add x7 (Nat.min x8.length (Nat.sub v10.length x7))) v10.length) then bif (Nat.blt 0 (Nat.min x8.length (Nat.sub v10.length x7))) then (let x9:LDCe:=(mJ v10 x7 (Nat.min x8.length (Nat.sub v10.length x7)) x8);
let ac:=(dM (Nat.min x8.length (Nat.sub v10.length x7)));
some (.inr (v0,v1,v2,v3,v4,v5,v6,v7,v8,v9,x9,v11,()))) else
let x9:=(dM (Nat.min x8.length (Nat.sub v10.length x7)));
some (.inr (v0,v1,v2,v3,v4,v5,v6,v7,v8,v9,v10,v11,())) else none else none:Option (T0h⊕T2v)) with
| none=>none
| some (.inl (x0,x1,x2,_))=>
some (.inr (.inl (x0,x1,x2,())))
| some (.inr (x0,x1,x2,x3,x4,x5,x6,x7,x8,x9,ac,ae,_))=>
let af:=w64 (x2+1);
some (.inl (x0,x1,af,x3,x4,x5,x6,x7,x8,x9,ac,ae,())))) else
some (.inr (.inr (v0,v1,v2,false,v3,v4,v5,v6,v7,v8,v9,v10,v11,())))
def ke(a0:LDIn) (a1:List (Int)) (a2:List LI) (a3:List (Int)) (a4:Int):Option (LDCe×LDLn×Int×Unit):=
(kY a3 a4 a1).bind λ(x0,_)=>
bif (!x0) then (some ([],[],1,())) else
let x1:=dM a2.length;
let x2:=dM a1.length;
bif (x1 != x2) then (some ([],[],1,())) else
bif (nL 512 512 2) then let x3:LDCe:=(List.replicate 512 (0,0));
(nK).bind λ(x4,_)=>
let x5:=dM a2.length;
(match dR lM NN (a2,x5,0,a0,a1,a2,a3,a4,(),(),x3,x4,()) with
| none=>none
| some (.inl (x6,x7,x8,_))=>
some ([],[],x6,())
| some (.inr (x6,x7,x8,x9,ac,ae,af,ag,ah,ai,aj,ak,am,_))=>
some (ak,am,0,())) else none
def Bn:X.Cfg:=⟨E0,[rB,rA,rk],[],[⟨10,0,qE,[(.ret,(qS [(pP 4 10),(sP 5 I64)] [(10,(uL [N1,N1]))])),(.normal,(qS [(pP 2 6),(pP 3 8),(pP 4 10),(pP 6 14),(sP 28 (.row false RW)),(sP 29 I64),(sP 30 I64)] [(6,(uL [eZ,RI,(.row false RW)])),(8,(uL [RI,CW])),(10,(uL [N1,N1])),(14,(uL [(.row true KCe),iZ]))]))]⟩,⟨7,1,(qS [(pP 2 6),(pP 3 8),(pP 4 10),(pP 6 14),(sP 28 (.row false RW)),(sP 29 I64),(sP 30 I64)] [(6,(uL [eZ,RI,(.row false RW)])),(8,(uL [RI,CW])),(10,(uL [N1,N1])),(14,(uL [(.row true KCe),iZ]))]),[(.ret,(qS [(pP 4 10),(sP 5 I64)] [(10,(uL [N1,N1]))])),(.exit 0,(qS [(pP 2 6),(pP 3 8),(pP 4 10),(pP 6 14),(sP 28 (.row false RW)),(sP 29 I64),(sP 30 I64),(sP 31 .bool)] [(6,(uL [eZ,RI,(.row false RW)])),(8,(uL [RI,CW])),(10,(uL [N1,N1])),(14,(uL [(.row true KCe),iZ]))]))]⟩]⟩
def o5:Ctr:=⟨29,144,[.agg (uL [eZ,RI,(.row false RW)]),.agg (uL [RI,CW])],[],[⟨(uL [(.row true KCe),iZ,I64]),[.agg 2,.one],[]⟩],ap5 ke⟩
theorem sJ:Lk 3 o5:=ls (C:=Bn) rfl (aC yg (aC yf (aC xV aN))) (by kernel_rfl) λh=>by kernel_rfl
end
end Go.Proofs.YtbapcamohngjbaaGreat
