/- Part of the proof; no condition. -/
import Derived.Test.YtbapcamohngjbaaGreatMc
import Derived.Test.YtbapcamohngjbaaGreatProg
import Derived.KernelRfl
set_option linter.unusedVariables false
set_option linter.unusedSimpArgs false
namespace Go.Proofs.YtbapcamohngjbaaGreat
open Go.RowKit
section
variable {α β γ δ Y:Type}
theorem yU(np:Nat) (t:XV den):Sim (Y:=Y) (X.takeR1 dJ np t) (takeR1 np (er t)) er:=by
 have key:Sim (Y:=Y) (X.take1 dJ true t) (take1 true (er t)) er:=gS true t
 cases t with
 | pk p vs=>exact gS _ (.pk p vs)
 | d t y=>cases t with
  | row o t=>cases o<;>exact key
  | nilr o=>cases o<;>exact key
  | _=>exact key
 | _=>exact key
theorem Ge(np:Nat):∀l:List (XV den),Sim (Y:=Y) (X.takeRL dJ np l) (takeRL np (erL l)) erL:=by
 intro l
 induction l with
 | nil=>exact .ret rfl
 | cons t l ih=>exact (yU np t).bind λt'=>ih.bind λr'=>.ret rfl
theorem tA(np:Nat) (t:XV den):Sim (Y:=Y) (X.takeRV dJ np t) (takeRV np (er t)) λx=>(erL x.1,x.2):=by
 have one:∀t:XV den,Sim (Y:=Y) (X.bind (X.takeR1 dJ np t) λt'=>X.ret ([t'],RSh.one)) ((takeR1 np (er t)).bind λt'=>.ret ([t'],.one)) λx=>(erL x.1,x.2):=λt=>(yU np t).bind λt'=>.ret rfl;have key:=one t
 cases t with
 | agg l=>exact (Ge np l).bind λl'=>.ret (by simp only[fO])
 | d t y=>cases t with
  | row o t=>cases o<;>exact key
  | nilr o=>cases o<;>exact key
  | _=>exact key
 | _=>exact key
theorem Kf(np:Nat) (q:TRs):Sim (Y:=Y) (X.res1 dJ np q) (res1 np q) λx=>(erL x.1,x.2):=by
 cases q with
 | tmp t=>exact Sim.rdT λtv=>tA np tv
 | cell t n=>
  refine Sim.rdT λtv=>?_
  cases tv with
  | ptr p vs=>
   refine (fQ p _ vs).bind λ_=>?_
   cases n with
   | none=>exact (jS p).bind λt=>(jR p t).bind λt'=>tA np t'
   | some n=>exact (BH p n).bind λl=>tA np (.agg l)
  | d t y=>cases t with
   | row o t=>cases o<;>exact .fail
   | nilr o=>cases o<;>exact .fail
   | _=>exact .fail
  | _=>exact .fail
theorem Kd(np:Nat):∀l:List TRs,Sim (Y:=Y) (X.resL dJ np l) (resL np l) λx=>(erL x.1,x.2):=by
 intro l
 induction l with
 | nil=>exact .ret rfl
 | cons q l ih=>exact (Kf np q).bind λx=>ih.bind λy=>.ret (by simp only[qo])
theorem IR(l:List (XV den)):onesOf (erL l)=X.onesOf l:=by
 induction l with
 | nil=>rfl
 | cons t l ih=>simp only[erL,onesOf,X.onesOf,ih]
theorem Gi:∀l:List TRs,Sim (Y:=Y) (X.flatsR dJ l) (flatsR l) erL:=by
 intro l
 induction l with
 | nil=>exact .ret rfl
 | cons q l ih=>cases q with
  | cell t n=>exact .fail
  | tmp t=>
   refine Sim.rdT λtv=>Sim.ite (λhc=>?_) λ_=>.fail
   have h1:DH (er tv)=true:=by
    have:=FD (l:=[tv]) (by simpa using hc);simpa [erL] using this
   rw[oIP h1];exact ih.bind λl=>.ret rfl
theorem Ke(np:Nat) (l:List TRs):Sim (Y:=Y) (X.resF dJ np l) (resF np l) λx=>(erL x.1,x.2):=by
 have base:=Kd (Y:=Y) np l
 cases l with
 | nil=>exact base
 | cons q r=>cases q with
  | cell t n=>exact base
  | tmp t=>
   refine Sim.rdT λtv=>?_;have base:Sim (Y:=Y) (X.resL dJ np (.tmp t :: r)) (resL np (.tmp t :: r)) λx=>(erL x.1,x.2):=base
   cases tv with
   | ptr p vs=>exact (fQ p _ vs).bind λ_=>(Gi r).bind λl=>.ret (by simp only[IR];rfl)
   | d ty y=>cases ty with
    | row o ty=>cases o<;>exact base
    | nilr o=>cases o<;>exact base
    | _=>exact base
   | _=>exact base
theorem Ja(t:XV den):(∃p vs,t=.ptr p vs)\/(X.isPtrX t=false/\∀p vs,er t≠.ptr p vs):=by
 cases t with
 | ptr p vs=>exact .inl ⟨p,vs,rfl⟩
 | d t y=>cases t with
  | row o t=>cases o<;>exact .inr ⟨rfl,by simp[er,er1]⟩
  | nilr o=>cases o<;>exact .inr ⟨rfl,by simp[er,er1]⟩
  | _=>exact .inr ⟨rfl,by simp[er,er1]⟩
 | gap t x i o=>exact .inr ⟨rfl,λp vs h=>by cases h⟩
 | _=>exact .inr ⟨rfl,by simp[er]⟩
theorem KV{t:XV den}(h:X.isShX t=true):∃c,er t=.sl c:=by
 cases t with
 | d t y=>cases t with
  | row o t=>cases o with
   | false=>exact⟨_,rfl⟩
   | true=>cases h
  | nilr o=>cases o with
   | false=>exact⟨_,rfl⟩
   | true=>cases h
  | _=>cases h
 | _=>cases h
theorem Gx{pp:List Nat}:∀{l:List (XV den)}{i:Nat},X.ptrsInX pp i l=true->m7 pp i (erL l)=true:=by
 intro l
 induction l with
 | nil=>intro i _;rfl
 | cons t l ih=>
  intro i h;simp only[X.ptrsInX,oBA] at h;obtain⟨⟨h0,hs⟩,hr⟩:=h;rcases Ja t with ⟨p,vs,rfl⟩ | ⟨h1,h2⟩
  ·show (pp.contains i && m7 pp (i+1) (erL l))=true;rw[ih hr,Bool.and_true];simpa [X.isPtrX] using h0
  ·show m7 pp i (er t :: erL l)=true;rw[h1,Bool.false_or] at hs
   cases hsh:X.isShX t with
   | true=>
    obtain⟨c,hc⟩:=KV hsh;rw[hc];exact ih hr
   | false=>
    rw[hsh,Bool.false_or] at hs
    cases he:er t with
    | ptr p vs=>exact absurd he (h2 p vs)
    | sl c=>exact ih hr
    | _=>show (!pp.contains (1000+i) && m7 pp (i+1) (erL l))=true;rw[hs,ih hr];rfl
theorem DZ(l:List (XV den)):∀i,(fX i l).map (λx=>(x.1,er x.2))=fX i (erL l):=by
 induction l with
 | nil=>intro i;rfl
 | cons t l ih=>intro i;simp only[fX,List.map_cons,erL,ih]
theorem MJ(vals:List (XV den)) (pts:List (Nat×List (XV den))):erS (X.mkSt vals pts)=mkSt (erL vals) (erC pts):=by
 unfold X.mkSt mkSt erS;simp only[DZ]
theorem KB(σ:XS den) (pts:List (Nat×List (XV den))):erC (X.ptsOf σ pts)=(erC pts).map λx=>(x.1,(eF (erS σ).ce x.1).getD []):=by
 induction pts with
 | nil=>rfl
 | cons x pts ih=>
  show (x.1,erL ((eF σ.ce x.1).getD [])) :: erC (X.ptsOf σ pts)=(x.1,(eF (erS σ).ce x.1).getD []) :: _;rw[ih,zh];cases eF σ.ce x.1<;>rfl
theorem Mt{F:fD}{C:X.Cfg}(hTB:∀c∈C.TB,tX F c) (u:HL den []) {N:Nat}(hN:NN<=N) {tf:TFn}{outs:List XO}{vals:List (XV den)}{pts:List (Nat×List (XV den))}{o:zt (outs.map lvO)}(h:X.runT dJ C u tf outs vals pts=some o) :
 ∃x,lk (outs.map lvO) o (λi ho=>lQ outs i ho)=some x/\runT C.E F N tf (erL vals) (erC pts)=some (⟨erL x.1,x.2.1⟩,erC x.2.2):=by
 unfold X.runT at h;split at h
 case isFalse=>cases h
 rename_i hc;obtain⟨e,σ1,r1,h1⟩:=Kc hTB u hN tf.body 0 _ _ o h
 have key:X.resF dJ tf.np tf.res σ1 (λy σ'=>X.onOut dJ (X.injO dJ y.1 y.2 (X.ptsOf σ' pts) u outs) λx=>dJ.out (outs.map lvO) x.1 x.2)=some o ->
  ∃x,lk (outs.map lvO) o (λi ho=>lQ outs i ho)=some x/\(((resF tf.np tf.res).run (erS σ1)).bind λy=>some ((⟨y.1.1,y.1.2⟩:Hw),(erC pts).map λx=>(x.1,(eF y.2.ce x.1).getD [])))=some (⟨erL x.1,x.2.1⟩,erC x.2.2):=by
  intro h2;obtain⟨y,σ2,r2,_,h3⟩:=Ke tf.np tf.res σ1 _ o h2
  cases hi:X.injO dJ y.1 y.2 (X.ptsOf σ2 pts) u outs with
  | none=>rw[hi] at h3;cases h3
  | some z=>
   rw[hi] at h3;obtain⟨i,ho⟩:=z;obtain⟨x,hf,e1,e2,e3⟩:=MS hi;refine⟨x,?_,?_⟩
   ·rw[zj _ (show tN (outs.map lvO) i ho=some o from h3)];exact hf
   ·rw[r2];simp only[oBS];rw[e1,e2,e3,KB]
 have hcond:(erL vals).length=tf.np/\(m7 tf.pp 0 (erL vals) && (!tf.pp.contains 1000 || (erC pts).isEmpty))=true:=by
  have h2:=hc.2;rw[oBA] at h2;refine⟨by rw[fO];exact hc.1,?_⟩;rw[Gx h2.1,Bool.true_and];have h3:=h2.2
  cases pts with
  | nil=>simp[erC]
  | cons x pts=>simpa [erC] using h3
 unfold runT;rw[oIP hcond,<- MJ,r1];simp only[oBS]
 cases e with
 | exit j=>cases h1
 | normal=>exact key h1
 | ret=>exact key h1
end
theorem Lc{E:Env}{T:FuncId->Option TFn}{B F:fD}{N:Nat}(hN:NN<=N) {C:X.Cfg}(hE:C.E=E) (hTB:∀c∈C.TB,tX F c) {c:Ctr}{tf:TFn}(hT:T c.f=some tf)
 (hg:∀h,X.runT dJ C () tf c.outs (iK c.ins _ h).1 (sw c.pts [] (iK c.ins _ h).2).1=c.g h):tX (Gb E T B F N) c:=by
 intro h o x ho hx;rw[Ga hT];rw[<- hg h] at ho;obtain⟨x',h1,h2⟩:=Mt hTB () hN ho;rw[hx] at h1
 injection h1 with h1
 rw[<- h1,hE] at h2;exact h2
def Lvl(E:Env) (T:FuncId->Option TFn) (B:fD) (n:Nat) (c:Ctr):Prop:=∀k,n<=k->tX (runF E T B (NN+k)) c
def F2(E:Env) (T:FuncId->Option TFn) (B:fD) (n:Nat):List Ctr->Prop
 | []=>True
 | c :: r=>Lvl E T B n c/\F2 E T B n r
theorem Lvl.mono{E:Env}{T:FuncId->Option TFn}{B:fD}{n m:Nat}{c:Ctr}(h:Lvl E T B n c) (hm:n<=m):Lvl E T B m c:=λk hk=>h k (Nat.le_trans hm hk)
theorem F2.get{E:Env}{T:FuncId->Option TFn}{B:fD}{n:Nat}:∀{l:List Ctr},F2 E T B n l->∀c∈l,Lvl E T B n c:=by
 intro l
 induction l with
 | nil=>intro _ c hc;simp at hc
 | cons x l ih=>
  intro h c hc;rcases List.mem_cons.1 hc with rfl | hc
  ·exact h.1
  ·exact ih h.2 c hc
theorem Og{E:Env}{T:FuncId->Option TFn}{B:fD}{n:Nat}{C:X.Cfg}(hE:C.E=E) (hTB:F2 E T B n C.TB) {c:Ctr}{tf:TFn}(hT:T c.f=some tf)
 (hg:∀h,X.runT dJ C () tf c.outs (iK c.ins _ h).1 (sw c.pts [] (iK c.ins _ h).2).1=c.g h):Lvl E T B (n+1) c:=by
 intro k hk;obtain⟨k,rfl⟩:∃k',k=k'+1:=⟨k - 1,by omega⟩;exact Lc (F:=runF E T B (NN+k)) (N:=NN+k) (Nat.le_add_right _ _) hE (λc hc=>hTB.get c hc k (by omega)) hT hg
theorem Hh{P:Program}{H:Nat->List (Nat×Option Nat)}{f:FuncId}{tf:TFn}(h:tS P H f=some tf):∃fn,P.funcs[f]?=some fn/\tf.np=fn.params.size/\tf.nt=fn.ntmps:=by
 unfold tS at h;split at h
 case h_2=>simp at h
 rename_i fn hf;split at h
 case h_2=>simp at h
 split at h
 ·rename_i tf' hcl
  injection h with h
  subst h;obtain⟨_,g2,g3,_⟩:=uv hcl;exact⟨fn,hf,g3,g2⟩
 simp only at h;split at h
 ·injection h with h
  subst h;exact⟨fn,hf,rfl,rfl⟩
 ·simp at h
theorem LZ{P:Program}(H:FuncId->Nat->List (Nat×Option Nat)) (hall:(P.funcs.all λfn=>decide (fn.params.size<=fn.ntmps) && !(fn.name=="runtime.NumGoroutine"))=true):JM P λf=>tS P (H f) f:=by
 refine J0 λf tf h=>?_;obtain⟨fn,hf,e1,e2⟩:=Hh h;obtain⟨hlt,he⟩:=Array.getElem?_eq_some_iff.1 hf;have:=Array.all_eq_true.1 hall f hlt;rw[he] at this;simp only[oBA,oDE,Bool.not_eq_true'] at this;refine⟨⟨H f,h⟩,by rw[e1,e2];exact this.1,λfn' hf'=>?_⟩;rw[hf] at hf'
 injection hf' with hf'
 subst hf';exact this.2
def OO:TFn:=⟨0,[],0,.skip,[]⟩
theorem Ot{o:Option TFn}(h:o.isSome=true):o=some (o.getD OO):=by
 cases o with
 | none=>simp at h
 | some x=>rfl
def ON(P:Program) (f:FuncId):List (Option Nat):=match P.funcs[f]? with
 | some fn=>fn.params.toList.map λt=>match P.underlying t with | some (.pointer e)=>yQ P e | _=>none
 | none=>[]
def noB:fD:=λ_ _ _=>none
theorem noB_ok{P:Program}:kN P noB:=λf vals pts res pts' h=>by simp[noB] at h
abbrev I64:CT:=.int .i64
def w64(x:Int):Int:=IntKind.wrap .i64 x
def wk(k:IntKind) (x:Int):Int:=IntKind.wrap k x
def zA(s:ByteArray):Int:=(s.size:Int)
def bytes(l:List Nat):ByteArray:=⟨(l.map UInt8.ofNat).toArray⟩
end Go.Proofs.YtbapcamohngjbaaGreat
namespace Go.Proofs.YtbapcamohngjbaaGreat
open Go.RowKit
set_option maxRecDepth 100000
noncomputable section
abbrev KCe:CT:=(.pair (.int .u8) (.int .u16))
abbrev KCn:CT:=(.pair (.int .u8) (.pair (.int .u16) (.pair I64 I64)))
abbrev KIn:CT:=(.pair I64 (.pair I64 (.pair I64 (.pair I64 I64))))
abbrev KOp:CT:=(.pair I64 (.pair I64 .bool))
abbrev Nj:CT:=(.pair I64 (.pair .bool (.row false KCe)))
abbrev Ls:CT:=(.pair I64 (.pair (.row false KCe) (.pair I64 (.pair I64 (.pair I64 (.pair I64 (.pair I64 (.int .u16))))))))
abbrev O4:CT:=(.pair I64 (.pair I64 (.row false KCn)))
abbrev qz:CT:=(.pair I64 (.pair I64 (.pair I64 (.pair I64 (.pair I64 (.pair I64 (.pair (.int .u16) (.row false KCn))))))))
abbrev rJ:CT:=(.pair I64 (.pair I64 (.pair I64 (.pair I64 (.pair I64 (.pair I64 (.pair I64 (.pair I64 (.pair I64 (.pair (.row false KCn) (.pair (.row false KCn) (.pair (.int .u8) (.pair (.int .u16) (.pair I64 (.pair I64 (.pair (.row false KCn) (.pair I64 .bool)))))))))))))))))
abbrev Ni:CT:=(.pair I64 (.pair .bool (.row true KCe)))
abbrev JO:CT:=(.pair I64 (.pair (.row true KCe) (.pair I64 (.pair I64 (.pair I64 (.pair I64 (.pair I64 (.int .u16))))))))
abbrev EV:CT:=(.pair I64 (.pair I64 (.row true KCn)))
abbrev F1:CT:=(.pair I64 (.pair I64 (.pair I64 (.pair I64 (.pair I64 (.pair I64 (.pair (.int .u16) (.row true KCn))))))))
abbrev JP:CT:=(.pair I64 (.pair I64 (.pair I64 (.pair I64 (.pair I64 (.pair I64 (.pair I64 (.pair I64 (.pair I64 (.pair (.row true KCn) (.pair (.row true KCn) (.pair (.int .u8) (.pair (.int .u16) (.pair I64 (.pair I64 (.pair (.row true KCn) (.pair I64 .bool)))))))))))))))))
abbrev eW:CT:=(.row false KIn)
abbrev ef:CT:=(.row false KCn)
abbrev RW:CT:=(.row false (.int .u16))
abbrev RI:CT:=(.row false I64)
abbrev eS:CT:=(.row false KCe)
abbrev fe:CT:=(.row false Nj)
abbrev iG:CT:=(.row true Ni)
abbrev fA:CT:=(.row false Ls)
abbrev nn:CT:=(.row true JO)
abbrev gt:CT:=(.row false KOp)
abbrev iH:CT:=(.row false O4)
abbrev FY:CT:=(.row false rJ)
abbrev DCe:Type:=(Int×Int)
abbrev DCn:Type:=(Int×Int×Int×Int)
abbrev DIn:Type:=(Int×Int×Int×Int×Int)
abbrev DOp:Type:=(Int×Int×Bool)
abbrev DLn:Type:=(Int×Bool×List DCe)
abbrev DTh:Type:=(Int×(List DCe)×Int×Int×Int×Int×Int×Int)
abbrev DOu:Type:=(Int×Int×List DCn)
abbrev DTs:Type:=(Int×Int×Int×Int×Int×Int×Int×List DCn)
abbrev DEn:Type:=(Int×Int×Int×Int×Int×Int×Int×Int×Int×(List DCn)×(List DCn)×Int×Int×Int×Int×(List DCn)×Int×Bool)
def HH(f i:Nat):List (Nat×Option Nat):=if f=201 then (if i=1000011 then [(11,some 27)] else if i=1000005 then [(2,some 27)] else []) else if f=256 then (if i=1000006 then [(8,some 1)] else if i=1000014 then [(8,some 1)] else []) else if f=41 then (if i=1000002 then [(5,none)] else []) else if f=187 then (if i=0 then [(8,none)] else []) else if f=132 then (if i=2 then [(3,some 1)] else if i=3 then [(3,some 0)] else []) else if f=194 then (if i=0 then [(8,some 0),(8,some 1),(8,some 2),(8,some 3),(8,some 4)] else []) else if f=122 then (if i=0 then [(4,some 0),(4,some 2),(4,some 3)] else []) else if f=133 then (if i=0 then [(6,some 0),(6,some 1),(6,some 2),(6,some 3),(6,some 5),(6,some 6),(6,some 7),(6,some 8),(6,some 9),(6,some 10),(6,some 11),(6,some 12),(6,some 13),(6,some 14),(6,some 15)] else []) else if f=227 then (if i=2000067 then [(2,none),(4,none),(8,none),(11,none),(12,none),(0,some 10),(0,some 18),(0,some 24)] else if i=0 then [(8,some 0)] else []) else if f=199 then (if i=1000012 then [(7,none)] else if i=0 then [(8,some 0),(8,some 2),(8,some 3),(8,some 4),(9,some 6),(9,some 7)] else []) else if f=231 then (if i=3000008 then [(9,some 0),(9,some 1)] else if i=0 then [(6,some 0),(6,some 1)] else []) else if f=245 then (if i=0 then [(4,some 0),(4,some 1),(4,some 2),(4,some 3),(4,some 4),(4,some 5),(5,some 4)] else []) else if f=232 then (if i=0 then [(0,some 14),(0,some 15),(4,some 4)] else []) else if f=233 then (if i=1000007 then [(17,none)] else if i=0 then [(8,some 2),(8,some 3),(8,some 4)] else []) else if f=59 then (if i=0 then [(8,some 2),(8,some 3),(8,some 4)] else []) else if f=234 then (if i=1000002 then [(9,none)] else []) else if f=235 then (if i=1000004 then [(4,some 2)] else if i=3 then [(6,some 0),(6,some 1)] else []) else if f=136 then (if i=1000011 then [(5,none)] else if i=1000014 then [(7,none)] else if i=0 then [(4,some 0),(4,some 1),(4,some 2),(4,some 3),(4,some 5),(4,some 6),(4,some 7),(4,some 8),(4,some 9),(4,some 10),(4,some 11),(4,some 12),(4,some 13),(4,some 14),(4,some 15)] else []) else if f=60 then (if i=0 then [(2,some 16),(2,some 17)] else []) else if f=40 then (if i=0 then [(6,some 0)] else []) else if f=27 then (if i=1000005 then [(8,none)] else []) else if f=90 then (if i=0 then [(4,some 0),(4,some 2),(4,some 3)] else []) else if f=22 then (if i=0 then [(8,some 0)] else []) else if f=4 then (if i=1000009 then [(8,none)] else if i=1000010 then [(3,none)] else []) else []
def TT (f:FuncId):Option TFn:=tS Tryz.prog (HH f) f
def E0:Env:=⟨λf=>if f=14 then some (1,[.arg 0,.val (.int .i64 0)]) else none,λf=>ON Tryz.prog f⟩
theorem tt_ok:JM Tryz.prog TT:=LZ HH (by kernel_rfl)
abbrev qE:Shs:=⟨[],[],[],([],[])⟩
abbrev qS(s:List (Nat×Sh))(c:List (Nat×List Sh)):Shs:=⟨s,c,[],([],[])⟩
abbrev N1:CT:=.nilr true
abbrev N0:CT:=.nilr false
abbrev CW:CT:=.int .u16
abbrev CB:CT:=.int .u8
abbrev uL(l:List CT):List Sh:=l.map fun c=>.d c ()
abbrev pP(t r:Nat):Nat×Sh:=(t,.ptr ⟨r,0,[]⟩ [0])
abbrev sP(t:Nat)(c:CT):Nat×Sh:=(t,.d c ())
abbrev Lk(n:Nat)(c:Ctr):Prop:=Lvl E0 TT noB n c
theorem aN{m:Nat}:F2 E0 TT noB m []:=trivial
theorem aC{n m:Nat}{c:Ctr}{l:List Ctr}(h:Lk n c)(r:F2 E0 TT noB m l)(hm:n≤m:=by decide):F2 E0 TT noB m (c::l):=⟨h.mono hm,r⟩
abbrev lx(i n:Nat)(s:List (Nat×Sh))(c:List (Nat×List Sh))(b:Nat):DE:=⟨i,n,⟨s,c,[],([],[])⟩,[(.exit 0,⟨s++[(b,.d .bool ())],c,[],([],[])⟩)]⟩
abbrev LI:Type:=List Int
abbrev LLI:Type:=List (List Int)
abbrev LLLI:Type:=List (List (List Int))
abbrev LDCe:Type:=List DCe
abbrev LDCn:Type:=List DCn
abbrev LDIn:Type:=List DIn
abbrev LDOp:Type:=List DOp
abbrev LDLn:Type:=List DLn
abbrev LDTh:Type:=List DTh
abbrev LDOu:Type:=List DOu
abbrev LDTs:Type:=List DTs
abbrev LDEn:Type:=List DEn
abbrev LLCn:Type:=List (List DCn)
abbrev T00:Type:=Bool×LI×Unit
abbrev T01:Type:=Int×Bool×Unit
abbrev T02:Type:=Int×Int×Unit
abbrev T03:Type:=Int×LI×Unit
abbrev T04:Type:=LDCe×LDLn×Unit
abbrev T05:Type:=LDOp×LDCn×Unit
abbrev T06:Type:=LI×Int×Unit
abbrev T07:Type:=LI×LLI×Unit
abbrev T08:Type:=LLCn×LDOp×Unit
abbrev T09:Type:=LLCn×LDTs×Unit
abbrev T0a:Type:=Unit×Unit×Unit
abbrev T0b:Type:=Bool×T02
abbrev T0c:Type:=Int×T01
abbrev T0d:Type:=Int×T02
abbrev T0e:Type:=Int×Int×LDLn×Unit
abbrev T0f:Type:=Int×T03
abbrev T0g:Type:=Int×T06
abbrev T0h:Type:=Int×T0a
abbrev T0i:Type:=LDCe×T02
abbrev T0j:Type:=LDCn×T02
abbrev T0k:Type:=LDIn×T07
abbrev T0l:Type:=LI×T02
abbrev T0m:Type:=LI×T03
abbrev T0n:Type:=LI×LLI×LI×Unit
abbrev T0o:Type:=Bool×Bool×Bool×Bool×Unit
abbrev T0p:Type:=Int×T0b
abbrev T0q:Type:=Int×Bool×T06
abbrev T0r:Type:=Int×T0d
abbrev T0s:Type:=Int×Int×T04
abbrev T0t:Type:=Int×T0g
abbrev T0u:Type:=Int×Int×T08
abbrev T0v:Type:=Int×T0m
abbrev T0w:Type:=LDCe×LDLn×T04
abbrev T0x:Type:=LDIn×T0n
abbrev T0y:Type:=LDTh×T0f
abbrev T0z:Type:=LI×T0c
abbrev T0A:Type:=LI×T0d
abbrev T0B:Type:=LI×T0g
abbrev T0C:Type:=LI×T0l
abbrev T0D:Type:=Unit×T0g
abbrev T0E:Type:=Unit×Unit×T04
abbrev T0F:Type:=Unit×Unit×T07
abbrev T0G:Type:=Unit×Unit×T08
abbrev T0H:Type:=Unit×Unit×Unit×LDOp×Unit
abbrev T0I:Type:=Bool×T0G
abbrev T0J:Type:=Int×T0q
abbrev T0K:Type:=Int×Int×Bool×T08
abbrev T0L:Type:=Int×T0r
abbrev T0M:Type:=Int×Int×T0k
abbrev T0N:Type:=Int×T0E
abbrev T0O:Type:=Int×T0G
abbrev T0P:Type:=LDCe×LDLn×LI×Int×LLCn×Unit
abbrev T0Q:Type:=LDIn×LI×LLI×T09
abbrev T0R:Type:=LI×T0t
abbrev T0S:Type:=LI×Int×LDCe×LDLn×LDTh×Unit
abbrev T0T:Type:=LI×T0z
abbrev T0U:Type:=LLCn×T0u
abbrev T0V:Type:=Unit×Int×Unit×T0a
abbrev T0W:Type:=Unit×Unit×T0n
abbrev T0X:Type:=Unit×Unit×LLCn×T05
abbrev T0Y:Type:=Bool×T0S
abbrev T0Z:Type:=Bool×T0V
abbrev T10:Type:=Int×Bool×T0F
abbrev T11:Type:=Int×Int×Bool×T0k
abbrev T12:Type:=Int×T0L
abbrev T13:Type:=Int×Int×T0t
abbrev T14:Type:=Int×Int×T0x
abbrev T15:Type:=Int×Int×T0F
abbrev T16:Type:=Int×T0O
abbrev T17:Type:=Int×T0S
abbrev T18:Type:=LDCe×LDLn×LI×Int×LLCn×LDCn×Unit
abbrev T19:Type:=LDCe×LDLn×T0E
abbrev T1a:Type:=LDIn×T0M
abbrev T1b:Type:=LI×T0J
abbrev T1c:Type:=LI×Int×LDCe×LDLn×LDTh×Bool×Unit
abbrev T1d:Type:=LI×T0R
abbrev T1e:Type:=LI×LI×LLI×LLCn×LDOp×LDOu×Unit
abbrev T1f:Type:=LI×LLI×T0F
abbrev T1g:Type:=LLCn×LDOp×T0G
abbrev T1h:Type:=LLI×T0M
abbrev T1i:Type:=Unit×Unit×LLCn×Nat×T05
abbrev T1j:Type:=Int×Int×Bool×T0w
abbrev T1k:Type:=Int×Int×Bool×T0x
abbrev T1l:Type:=Int×T10
abbrev T1m:Type:=Int×Int×T0I
abbrev T1n:Type:=Int×T12
abbrev T1o:Type:=Int×Int×Int×Int×Unit×T01
abbrev T1p:Type:=Int×T15
abbrev T1q:Type:=Int×Int×LI×Int×Int×LLI×LDCn×Unit
abbrev T1r:Type:=Int×T17
abbrev T1s:Type:=Int×Int×T0W
abbrev T1t:Type:=Int×T1a
abbrev T1u:Type:=Int×LI×Int×T0p
abbrev T1v:Type:=LDIn×T11
abbrev T1w:Type:=LDIn×T14
abbrev T1x:Type:=LLI×T11
abbrev T1y:Type:=LLI×T16
abbrev T1z:Type:=LLI×Int×Int×T0H
abbrev T1A:Type:=Int×Int×Bool×T0W
abbrev T1B:Type:=Int×T1m
abbrev T1C:Type:=Int×Int×Int×Int×Int×Int×LDCn×LDCn×Unit
abbrev T1D:Type:=Int×Int×Int×Int×Int×T0h
abbrev T1E:Type:=Int×T1s
abbrev T1F:Type:=Int×Int×T1e
abbrev T1G:Type:=Int×Int×T1f
abbrev T1H:Type:=Int×Int×T1g
abbrev T1I:Type:=Int×LDCe×T12
abbrev T1J:Type:=Int×T1v
abbrev T1K:Type:=LDTh×T1r
abbrev T1L:Type:=LI×Int×Unit×Unit×Unit×T0k
abbrev T1M:Type:=LI×Int×Unit×Unit×T0F
abbrev T1N:Type:=LLCn×Int×Int×T0Q
abbrev T1O:Type:=Int×Int×Bool×T1e
abbrev T1P:Type:=Int×Int×Bool×T1f
abbrev T1Q:Type:=Int×Int×Bool×T1g
abbrev T1R:Type:=Int×Int×T1n
abbrev T1S:Type:=Int×Int×Int×T16
abbrev T1T:Type:=Int×T1H
abbrev T1U:Type:=Int×LI×Int×Int×Bool×T0A
abbrev T1V:Type:=Int×T1L
abbrev T1W:Type:=LDIn×LI×LLI×LI×T0N
abbrev T1X:Type:=LDLn×Int×Int×T19
abbrev T1Y:Type:=LDOu×T1F
abbrev T1Z:Type:=LI×Int×Int×T1b
abbrev T20:Type:=LI×Int×LI×Int×Int×T0A
abbrev T21:Type:=LI×LI×Int×Int×T0P
abbrev T22:Type:=LI×LLCn×Int×Int×LDCn×T0u
abbrev T23:Type:=LLCn×T1H
abbrev T24:Type:=LLI×T1F
abbrev T25:Type:=LLI×T1G
abbrev T26:Type:=Int×Bool×T1L
abbrev T27:Type:=Int×Int×Int×Int×Int×Bool×Bool×Bool×T00
abbrev T28:Type:=Int×Int×Int×Int×Int×Int×Int×Int×Int×LDCn×Unit
abbrev T29:Type:=Int×Int×T1C
abbrev T2a:Type:=Int×T1V
abbrev T2b:Type:=Int×Int×T1M
abbrev T2c:Type:=LI×Int×Int×Int×Int×Int×T0D
abbrev T2d:Type:=LI×Int×Int×LI×T13
abbrev T2e:Type:=LI×Int×LDCe×LDLn×LDTh×T0S
abbrev T2f:Type:=LLI×T1P
abbrev T2g:Type:=Unit×Int×Unit×Unit×Unit×T0S
abbrev T2h:Type:=Bool×T2e
abbrev T2i:Type:=Int×Int×T1W
abbrev T2j:Type:=Int×Int×T25
abbrev T2k:Type:=Int×T2g
abbrev T2l:Type:=LDCe×Int×Int×T1I
abbrev T2m:Type:=LDCn×Nat×Int×Int×Int×T1i
abbrev T2n:Type:=LI×Int×Bool×LI×T1n
abbrev T2o:Type:=LI×Int×Int×LI×Int×Int×T0J
abbrev T2p:Type:=LI×Int×Int×LI×Int×Int×T0R
abbrev T2q:Type:=LLI×Int×Int×LI×Int×Int×T0X
abbrev T2r:Type:=ByteArray×LDCn×T29
abbrev T2s:Type:=Int×Bool×T2g
abbrev T2t:Type:=Int×Int×Bool×T1W
abbrev T2u:Type:=Int×Int×T27
abbrev T2v:Type:=Int×Int×Int×Int×LDCn×Int×T0Z
abbrev T2w:Type:=Int×Int×Int×Int×Nat×T1s
abbrev T2x:Type:=Int×Int×T2e
abbrev T2y:Type:=LDIn×LI×LLI×LI×Int×LDCe×LDLn×LDTh×Unit×Unit×T09
abbrev T2z:Type:=LI×Int×Int×T1Z
abbrev T2A:Type:=LLI×T2i
abbrev T2B:Type:=Int×Int×Bool×T27
abbrev T2C:Type:=LDIn×LI×LLI×LI×Int×LLCn×LDTs×Unit×Int×Unit×Unit×Unit×LLCn×Unit
abbrev T2D:Type:=LI×Int×LDCe×LDLn×LDTh×T1I
abbrev T2E:Type:=LI×Int×LI×Int×Int×Int×Int×T18
abbrev T2F:Type:=LLI×T2t
abbrev T2G:Type:=Int×Int×LLI×Int×Int×LI×T1G
abbrev T2H:Type:=Int×Int×T2C
abbrev T2I:Type:=Int×Int×LDIn×LI×LLI×T2g
abbrev T2J:Type:=LDTh×Int×Int×T2y
abbrev T2K:Type:=LI×Int×LDCe×LDLn×LDTh×T2g
abbrev T2L:Type:=Int×Int×Bool×T2C
abbrev T2M:Type:=Int×LLI×Int×Int×LI×T2i
abbrev T2N:Type:=LDIn×LI×LLI×T2D
abbrev T2O:Type:=Nat×LI×Int×LDCe×LDLn×LDTh×Int×Int×Int×Int×Int×Int×LDCn×T0j
abbrev T2P:Type:=LDIn×LI×LLI×LI×Int×LLCn×LDTs×T2g
abbrev T2Q:Type:=LDIn×LI×LLI×LI×Int×LLCn×LDTs×Unit×Int×Unit×Unit×Unit×LI×Int×LDCe×LDLn×Unit×Unit
abbrev T2R:Type:=Int×Int×LDCn×T2H
abbrev T2S:Type:=Int×Int×LI×Int×Int×Int×Int×Int×Int×Int×Int×Int×Int×Int×T0o
abbrev T2T:Type:=LDIn×LI×LLI×LI×Int×LDCe×LDLn×LDTh×LI×LI×LLI×LLCn×LDOp×LDOu×LI×LLI×LDEn×LI×Unit
abbrev T2U:Type:=LDTh×Int×Int×T2K
abbrev T2V:Type:=Int×Int×Int×Int×Int×Int×LDCn×LDCn×Int×Int×Int×Int×LDCn×Int×Bool×T0r
abbrev T2W:Type:=Int×Int×T2Q
abbrev T2X:Type:=LDIn×LI×LLI×LI×Int×LDCe×LDLn×LDTh×LI×LI×LLI×LLCn×LDOp×LDOu×LI×LLI×LDEn×LI×LI×Unit
abbrev T2Y:Type:=LDTh×Int×Int×Bool×T2K
abbrev T2Z:Type:=Nat×Int×LI×Int×LDCe×LDLn×LDTh×LDIn×LI×LLI×T1R
abbrev T30:Type:=Int×Bool×T2T
abbrev T31:Type:=Int×ByteArray×Int×Int×T2N
abbrev T32:Type:=Int×Int×Bool×T2Q
abbrev T33:Type:=LDTs×Int×Int×T2P
abbrev T34:Type:=LLCn×T2W
abbrev T35:Type:=Int×Int×Int×T2T
abbrev T36:Type:=Int×Int×Int×T2X
abbrev T37:Type:=Int×LLCn×Int×Int×LDCn×T2W
abbrev T38:Type:=LDIn×LI×LLI×LI×Int×LDCe×LDLn×LDTh×LI×LI×LLI×LLCn×LDOp×LDOu×LI×LLI×LDEn×LI×T1o
abbrev T39:Type:=LI×Int×LDCe×LDLn×LDTh×LDIn×LI×LLI×Int×Int×Int×Int×Int×Int×LDCn×LDCn×Int×Int×Int×Int×LDCn×T0p
abbrev T3a:Type:=Nat×Bool×LI×Int×LDCe×LDLn×LDTh×T2V
abbrev T3b:Type:=Nat×T39
abbrev T3c:Type:=Unit×Unit×Unit×Unit×Unit×Unit×Int×Int×Int×Int×Unit×Int×Bool×LI×LI×LLI×LLCn×LDOp×LDOu×Int×Int×Int×Int×LDCn×T01
abbrev T3d:Type:=Unit×Unit×Unit×Unit×Unit×Unit×Int×Int×Int×Int×Unit×Int×Bool×LI×LI×LLI×LLCn×LDOp×LDOu×T1o
abbrev T3e:Type:=LI×Int×LDCe×LDLn×LDTh×LDIn×LI×LLI×T2V
abbrev T3f:Type:=LDIn×LI×LLI×LI×Int×LDCe×LDLn×LDTh×Unit×Unit×LLCn×LDTs×Int×LDCe×Int×Int×Int×Int×T28
abbrev T3g:Type:=LDTh×Int×Int×T38
abbrev T3h:Type:=Nat×LDCn×Int×Int×T3e
abbrev T3i:Type:=Nat×LDCn×Int×Int×Bool×T3e
abbrev T3j:Type:=LDIn×LI×LLI×LI×Int×LLCn×LDTs×Unit×Int×Unit×Unit×Unit×LI×Int×LDCe×LDLn×LDTh×Int×Int×Int×Int×Int×Int×Int×LDCn×T1I
abbrev T3k:Type:=LI×Int×Unit×Unit×Unit×Unit×Int×Unit×Unit×Unit×LDIn×LI×LLI×LI×Int×LDCe×LDLn×LDTh×LI×LI×LLI×LLCn×LDOp×LDOu×LI×LLI×LDEn×LI×T0S
abbrev T3l:Type:=LDTh×Int×Int×LDCe×Int×Int×T3f
abbrev T3m:Type:=LI×LI×LLI×LLCn×LDOp×LDOu×Int×Int×Int×Int×Int×Int×LDCn×LDCn×Unit×Unit×Unit×Unit×Unit×Unit×Int×Int×Int×Int×Unit×Int×Bool×LI×LI×LLI×LLCn×LDOp×LDOu×LI×Unit
abbrev T3n:Type:=Int×Bool×LDIn×LI×LLI×LI×Int×LDCe×LDLn×LDTh×LI×LI×LLI×LLCn×LDOp×LDOu×LI×LLI×LDEn×LI×Int×Int×Int×Int×Int×Int×LDCn×LDCn×T1o
abbrev T3o:Type:=LI×Int×Unit×Unit×Unit×Unit×Int×Unit×Unit×Unit×LDIn×LI×LLI×LI×Int×LDCe×LDLn×LDTh×LI×LI×LLI×LLCn×LDOp×LDOu×LI×LLI×LDEn×LI×LI×Int×LDCe×LDLn×LDTh×T09
abbrev T3p:Type:=Unit×Unit×Unit×Unit×Int×Unit×Unit×Unit×Unit×Unit×Unit×Unit×Unit×Unit×Unit×Unit×Unit×Unit×T2T
abbrev T3q:Type:=Unit×Unit×Unit×Unit×Int×Unit×Unit×Unit×Unit×Unit×Unit×Unit×Unit×Unit×Unit×Unit×Unit×Unit×LDIn×LI×LLI×LI×Int×LDCe×LDLn×LDTh×LI×LI×LLI×LLCn×LDOp×LDOu×LI×LLI×Unit×LI×Unit
abbrev T3r:Type:=Int×Int×T3o
abbrev T3s:Type:=Int×T3p
abbrev T3t:Type:=Int×T3q
abbrev T3u:Type:=LDCn×Int×Int×T3m
abbrev T3v:Type:=LDIn×LI×LLI×Unit×Int×Unit×Unit×Unit×Int×Int×Int×Int×Int×Int×Unit×Unit×LI×Int×LDCe×LDLn×LDTh×Int×LDCe×Int×Int×Int×Int×T29
abbrev T3w:Type:=LDIn×LI×LLI×Unit×Int×Unit×Unit×Unit×Int×Int×Int×Int×Int×Int×Unit×Unit×LI×Int×LDCe×LDLn×LDTh×Int×LDCe×Int×Int×Int×Int×Int×Int×Int×Int×Int×Int×Int×Int×LDCn×Unit×Unit
abbrev T3x:Type:=Bool×T3w
abbrev T3y:Type:=Int×Int×Bool×T3o
abbrev T3z:Type:=Int×T3s
abbrev T3A:Type:=LI×T3s
abbrev T3B:Type:=Int×Int×T3v
abbrev T3C:Type:=Int×Int×T3w
abbrev T3D:Type:=Int×T3A
abbrev T3E:Type:=LDTs×Int×Int×LDCn×Int×Int×T3j
abbrev T3F:Type:=Int×Int×Bool×T3v
abbrev T3G:Type:=Int×Int×Int×T3r
abbrev ap1{A0 D R:Type}(f:A0→R)(h:A0×D):R:=f h.1
abbrev ap2{A0 A1 D R:Type}(f:A0→A1→R)(h:A0×A1×D):R:=f h.1 h.2.1
abbrev ap3{A0 A1 A2 D R:Type}(f:A0→A1→A2→R)(h:A0×A1×A2×D):R:=f h.1 h.2.1 h.2.2.1
abbrev ap4{A0 A1 A2 A3 D R:Type}(f:A0→A1→A2→A3→R)(h:A0×A1×A2×A3×D):R:=f h.1 h.2.1 h.2.2.1 h.2.2.2.1
abbrev ap5{A0 A1 A2 A3 A4 D R:Type}(f:A0→A1→A2→A3→A4→R)(h:A0×A1×A2×A3×A4×D):R:=f h.1 h.2.1 h.2.2.1 h.2.2.2.1 h.2.2.2.2.1
abbrev ap6{A0 A1 A2 A3 A4 A5 D R:Type}(f:A0→A1→A2→A3→A4→A5→R)(h:A0×A1×A2×A3×A4×A5×D):R:=f h.1 h.2.1 h.2.2.1 h.2.2.2.1 h.2.2.2.2.1 h.2.2.2.2.2.1
abbrev ap7{A0 A1 A2 A3 A4 A5 A6 D R:Type}(f:A0→A1→A2→A3→A4→A5→A6→R)(h:A0×A1×A2×A3×A4×A5×A6×D):R:=f h.1 h.2.1 h.2.2.1 h.2.2.2.1 h.2.2.2.2.1 h.2.2.2.2.2.1 h.2.2.2.2.2.2.1
abbrev ap8{A0 A1 A2 A3 A4 A5 A6 A7 D R:Type}(f:A0→A1→A2→A3→A4→A5→A6→A7→R)(h:A0×A1×A2×A3×A4×A5×A6×A7×D):R:=f h.1 h.2.1 h.2.2.1 h.2.2.2.1 h.2.2.2.2.1 h.2.2.2.2.2.1 h.2.2.2.2.2.2.1 h.2.2.2.2.2.2.2.1
abbrev ap9{A0 A1 A2 A3 A4 A5 A6 A7 A8 D R:Type}(f:A0→A1→A2→A3→A4→A5→A6→A7→A8→R)(h:A0×A1×A2×A3×A4×A5×A6×A7×A8×D):R:=f h.1 h.2.1 h.2.2.1 h.2.2.2.1 h.2.2.2.2.1 h.2.2.2.2.2.1 h.2.2.2.2.2.2.1 h.2.2.2.2.2.2.2.1 h.2.2.2.2.2.2.2.2.1
abbrev ap10{A0 A1 A2 A3 A4 A5 A6 A7 A8 A9 D R:Type}(f:A0→A1→A2→A3→A4→A5→A6→A7→A8→A9→R)(h:A0×A1×A2×A3×A4×A5×A6×A7×A8×A9×D):R:=f h.1 h.2.1 h.2.2.1 h.2.2.2.1 h.2.2.2.2.1 h.2.2.2.2.2.1 h.2.2.2.2.2.2.1 h.2.2.2.2.2.2.2.1 h.2.2.2.2.2.2.2.2.1 h.2.2.2.2.2.2.2.2.2.1
abbrev ap11{A0 A1 A2 A3 A4 A5 A6 A7 A8 A9 A10 D R:Type}(f:A0→A1→A2→A3→A4→A5→A6→A7→A8→A9→A10→R)(h:A0×A1×A2×A3×A4×A5×A6×A7×A8×A9×A10×D):R:=f h.1 h.2.1 h.2.2.1 h.2.2.2.1 h.2.2.2.2.1 h.2.2.2.2.2.1 h.2.2.2.2.2.2.1 h.2.2.2.2.2.2.2.1 h.2.2.2.2.2.2.2.2.1 h.2.2.2.2.2.2.2.2.2.1 h.2.2.2.2.2.2.2.2.2.2.1
abbrev ap14{A0 A1 A2 A3 A4 A5 A6 A7 A8 A9 A10 A11 A12 A13 D R:Type}(f:A0→A1→A2→A3→A4→A5→A6→A7→A8→A9→A10→A11→A12→A13→R)(h:A0×A1×A2×A3×A4×A5×A6×A7×A8×A9×A10×A11×A12×A13×D):R:=f h.1 h.2.1 h.2.2.1 h.2.2.2.1 h.2.2.2.2.1 h.2.2.2.2.2.1 h.2.2.2.2.2.2.1 h.2.2.2.2.2.2.2.1 h.2.2.2.2.2.2.2.2.1 h.2.2.2.2.2.2.2.2.2.1 h.2.2.2.2.2.2.2.2.2.2.1 h.2.2.2.2.2.2.2.2.2.2.2.1 h.2.2.2.2.2.2.2.2.2.2.2.2.1 h.2.2.2.2.2.2.2.2.2.2.2.2.2.1
abbrev ap16{A0 A1 A2 A3 A4 A5 A6 A7 A8 A9 A10 A11 A12 A13 A14 A15 D R:Type}(f:A0→A1→A2→A3→A4→A5→A6→A7→A8→A9→A10→A11→A12→A13→A14→A15→R)(h:A0×A1×A2×A3×A4×A5×A6×A7×A8×A9×A10×A11×A12×A13×A14×A15×D):R:=f h.1 h.2.1 h.2.2.1 h.2.2.2.1 h.2.2.2.2.1 h.2.2.2.2.2.1 h.2.2.2.2.2.2.1 h.2.2.2.2.2.2.2.1 h.2.2.2.2.2.2.2.2.1 h.2.2.2.2.2.2.2.2.2.1 h.2.2.2.2.2.2.2.2.2.2.1 h.2.2.2.2.2.2.2.2.2.2.2.1 h.2.2.2.2.2.2.2.2.2.2.2.2.1 h.2.2.2.2.2.2.2.2.2.2.2.2.2.1 h.2.2.2.2.2.2.2.2.2.2.2.2.2.2.1 h.2.2.2.2.2.2.2.2.2.2.2.2.2.2.2.1
abbrev ap18{A0 A1 A2 A3 A4 A5 A6 A7 A8 A9 A10 A11 A12 A13 A14 A15 A16 A17 D R:Type}(f:A0→A1→A2→A3→A4→A5→A6→A7→A8→A9→A10→A11→A12→A13→A14→A15→A16→A17→R)(h:A0×A1×A2×A3×A4×A5×A6×A7×A8×A9×A10×A11×A12×A13×A14×A15×A16×A17×D):R:=f h.1 h.2.1 h.2.2.1 h.2.2.2.1 h.2.2.2.2.1 h.2.2.2.2.2.1 h.2.2.2.2.2.2.1 h.2.2.2.2.2.2.2.1 h.2.2.2.2.2.2.2.2.1 h.2.2.2.2.2.2.2.2.2.1 h.2.2.2.2.2.2.2.2.2.2.1 h.2.2.2.2.2.2.2.2.2.2.2.1 h.2.2.2.2.2.2.2.2.2.2.2.2.1 h.2.2.2.2.2.2.2.2.2.2.2.2.2.1 h.2.2.2.2.2.2.2.2.2.2.2.2.2.2.1 h.2.2.2.2.2.2.2.2.2.2.2.2.2.2.2.1 h.2.2.2.2.2.2.2.2.2.2.2.2.2.2.2.2.1 h.2.2.2.2.2.2.2.2.2.2.2.2.2.2.2.2.2.1
abbrev ap19{A0 A1 A2 A3 A4 A5 A6 A7 A8 A9 A10 A11 A12 A13 A14 A15 A16 A17 A18 D R:Type}(f:A0→A1→A2→A3→A4→A5→A6→A7→A8→A9→A10→A11→A12→A13→A14→A15→A16→A17→A18→R)(h:A0×A1×A2×A3×A4×A5×A6×A7×A8×A9×A10×A11×A12×A13×A14×A15×A16×A17×A18×D):R:=f h.1 h.2.1 h.2.2.1 h.2.2.2.1 h.2.2.2.2.1 h.2.2.2.2.2.1 h.2.2.2.2.2.2.1 h.2.2.2.2.2.2.2.1 h.2.2.2.2.2.2.2.2.1 h.2.2.2.2.2.2.2.2.2.1 h.2.2.2.2.2.2.2.2.2.2.1 h.2.2.2.2.2.2.2.2.2.2.2.1 h.2.2.2.2.2.2.2.2.2.2.2.2.1 h.2.2.2.2.2.2.2.2.2.2.2.2.2.1 h.2.2.2.2.2.2.2.2.2.2.2.2.2.2.1 h.2.2.2.2.2.2.2.2.2.2.2.2.2.2.2.1 h.2.2.2.2.2.2.2.2.2.2.2.2.2.2.2.2.1 h.2.2.2.2.2.2.2.2.2.2.2.2.2.2.2.2.2.1 h.2.2.2.2.2.2.2.2.2.2.2.2.2.2.2.2.2.2.1
abbrev ap20{A0 A1 A2 A3 A4 A5 A6 A7 A8 A9 A10 A11 A12 A13 A14 A15 A16 A17 A18 A19 D R:Type}(f:A0→A1→A2→A3→A4→A5→A6→A7→A8→A9→A10→A11→A12→A13→A14→A15→A16→A17→A18→A19→R)(h:A0×A1×A2×A3×A4×A5×A6×A7×A8×A9×A10×A11×A12×A13×A14×A15×A16×A17×A18×A19×D):R:=f h.1 h.2.1 h.2.2.1 h.2.2.2.1 h.2.2.2.2.1 h.2.2.2.2.2.1 h.2.2.2.2.2.2.1 h.2.2.2.2.2.2.2.1 h.2.2.2.2.2.2.2.2.1 h.2.2.2.2.2.2.2.2.2.1 h.2.2.2.2.2.2.2.2.2.2.1 h.2.2.2.2.2.2.2.2.2.2.2.1 h.2.2.2.2.2.2.2.2.2.2.2.2.1 h.2.2.2.2.2.2.2.2.2.2.2.2.2.1 h.2.2.2.2.2.2.2.2.2.2.2.2.2.2.1 h.2.2.2.2.2.2.2.2.2.2.2.2.2.2.2.1 h.2.2.2.2.2.2.2.2.2.2.2.2.2.2.2.2.1 h.2.2.2.2.2.2.2.2.2.2.2.2.2.2.2.2.2.1 h.2.2.2.2.2.2.2.2.2.2.2.2.2.2.2.2.2.2.1 h.2.2.2.2.2.2.2.2.2.2.2.2.2.2.2.2.2.2.2.1
abbrev ap21{A0 A1 A2 A3 A4 A5 A6 A7 A8 A9 A10 A11 A12 A13 A14 A15 A16 A17 A18 A19 A20 D R:Type}(f:A0→A1→A2→A3→A4→A5→A6→A7→A8→A9→A10→A11→A12→A13→A14→A15→A16→A17→A18→A19→A20→R)(h:A0×A1×A2×A3×A4×A5×A6×A7×A8×A9×A10×A11×A12×A13×A14×A15×A16×A17×A18×A19×A20×D):R:=f h.1 h.2.1 h.2.2.1 h.2.2.2.1 h.2.2.2.2.1 h.2.2.2.2.2.1 h.2.2.2.2.2.2.1 h.2.2.2.2.2.2.2.1 h.2.2.2.2.2.2.2.2.1 h.2.2.2.2.2.2.2.2.2.1 h.2.2.2.2.2.2.2.2.2.2.1 h.2.2.2.2.2.2.2.2.2.2.2.1 h.2.2.2.2.2.2.2.2.2.2.2.2.1 h.2.2.2.2.2.2.2.2.2.2.2.2.2.1 h.2.2.2.2.2.2.2.2.2.2.2.2.2.2.1 h.2.2.2.2.2.2.2.2.2.2.2.2.2.2.2.1 h.2.2.2.2.2.2.2.2.2.2.2.2.2.2.2.2.1 h.2.2.2.2.2.2.2.2.2.2.2.2.2.2.2.2.2.1 h.2.2.2.2.2.2.2.2.2.2.2.2.2.2.2.2.2.2.1 h.2.2.2.2.2.2.2.2.2.2.2.2.2.2.2.2.2.2.2.1 h.2.2.2.2.2.2.2.2.2.2.2.2.2.2.2.2.2.2.2.2.1
abbrev ap23{A0 A1 A2 A3 A4 A5 A6 A7 A8 A9 A10 A11 A12 A13 A14 A15 A16 A17 A18 A19 A20 A21 A22 D R:Type}(f:A0→A1→A2→A3→A4→A5→A6→A7→A8→A9→A10→A11→A12→A13→A14→A15→A16→A17→A18→A19→A20→A21→A22→R)(h:A0×A1×A2×A3×A4×A5×A6×A7×A8×A9×A10×A11×A12×A13×A14×A15×A16×A17×A18×A19×A20×A21×A22×D):R:=f h.1 h.2.1 h.2.2.1 h.2.2.2.1 h.2.2.2.2.1 h.2.2.2.2.2.1 h.2.2.2.2.2.2.1 h.2.2.2.2.2.2.2.1 h.2.2.2.2.2.2.2.2.1 h.2.2.2.2.2.2.2.2.2.1 h.2.2.2.2.2.2.2.2.2.2.1 h.2.2.2.2.2.2.2.2.2.2.2.1 h.2.2.2.2.2.2.2.2.2.2.2.2.1 h.2.2.2.2.2.2.2.2.2.2.2.2.2.1 h.2.2.2.2.2.2.2.2.2.2.2.2.2.2.1 h.2.2.2.2.2.2.2.2.2.2.2.2.2.2.2.1 h.2.2.2.2.2.2.2.2.2.2.2.2.2.2.2.2.1 h.2.2.2.2.2.2.2.2.2.2.2.2.2.2.2.2.2.1 h.2.2.2.2.2.2.2.2.2.2.2.2.2.2.2.2.2.2.1 h.2.2.2.2.2.2.2.2.2.2.2.2.2.2.2.2.2.2.2.1 h.2.2.2.2.2.2.2.2.2.2.2.2.2.2.2.2.2.2.2.2.1 h.2.2.2.2.2.2.2.2.2.2.2.2.2.2.2.2.2.2.2.2.2.1 h.2.2.2.2.2.2.2.2.2.2.2.2.2.2.2.2.2.2.2.2.2.2.1
abbrev ap26{A0 A1 A2 A3 A4 A5 A6 A7 A8 A9 A10 A11 A12 A13 A14 A15 A16 A17 A18 A19 A20 A21 A22 A23 A24 A25 D R:Type}(f:A0→A1→A2→A3→A4→A5→A6→A7→A8→A9→A10→A11→A12→A13→A14→A15→A16→A17→A18→A19→A20→A21→A22→A23→A24→A25→R)(h:A0×A1×A2×A3×A4×A5×A6×A7×A8×A9×A10×A11×A12×A13×A14×A15×A16×A17×A18×A19×A20×A21×A22×A23×A24×A25×D):R:=f h.1 h.2.1 h.2.2.1 h.2.2.2.1 h.2.2.2.2.1 h.2.2.2.2.2.1 h.2.2.2.2.2.2.1 h.2.2.2.2.2.2.2.1 h.2.2.2.2.2.2.2.2.1 h.2.2.2.2.2.2.2.2.2.1 h.2.2.2.2.2.2.2.2.2.2.1 h.2.2.2.2.2.2.2.2.2.2.2.1 h.2.2.2.2.2.2.2.2.2.2.2.2.1 h.2.2.2.2.2.2.2.2.2.2.2.2.2.1 h.2.2.2.2.2.2.2.2.2.2.2.2.2.2.1 h.2.2.2.2.2.2.2.2.2.2.2.2.2.2.2.1 h.2.2.2.2.2.2.2.2.2.2.2.2.2.2.2.2.1 h.2.2.2.2.2.2.2.2.2.2.2.2.2.2.2.2.2.1 h.2.2.2.2.2.2.2.2.2.2.2.2.2.2.2.2.2.2.1 h.2.2.2.2.2.2.2.2.2.2.2.2.2.2.2.2.2.2.2.1 h.2.2.2.2.2.2.2.2.2.2.2.2.2.2.2.2.2.2.2.2.1 h.2.2.2.2.2.2.2.2.2.2.2.2.2.2.2.2.2.2.2.2.2.1 h.2.2.2.2.2.2.2.2.2.2.2.2.2.2.2.2.2.2.2.2.2.2.1 h.2.2.2.2.2.2.2.2.2.2.2.2.2.2.2.2.2.2.2.2.2.2.2.1 h.2.2.2.2.2.2.2.2.2.2.2.2.2.2.2.2.2.2.2.2.2.2.2.2.1 h.2.2.2.2.2.2.2.2.2.2.2.2.2.2.2.2.2.2.2.2.2.2.2.2.2.1
theorem ls{n:Nat}{C:X.Cfg}(hE:C.E=E0)(hT:F2 E0 TT noB n C.TB){c:Ctr}(h1:(TT c.f).isSome=true)(hg:∀h,X.runT dJ C () ((TT c.f).getD OO) c.outs (iK c.ins _ h).1 (sw c.pts [] (iK c.ins _ h).2).1=c.g h):Lk (n+1) c:=Og (n:=n) (C:=C) hE hT (Ot h1) hg
def gH(a0:Int) (a1:Int):Option (Int×Unit):=
bif (a1 != 0) then let x0:Int:=(Int.tmod a0 a1);
(bif decide (x0 < 0) then (let x1:Int:=(w64 (x0+a1));
some (x1,())) else
some (x0,()):Option (Int×Unit)).bind λ(x1,_)=>
some (x1,()) else none
def Er:X.Cfg:=⟨E0,[],[],[⟨2,0,qE,[(.normal,(qS [(sP 5 I64)] []))]⟩]⟩
def rH:Ctr:=⟨81,0,(uL [I64,I64]),[],[⟨(uL [I64]),[.one],[]⟩],ap2 gH⟩
theorem wy:Lk 1 rH:=ls (C:=Er) rfl aN (by kernel_rfl) λh=>by kernel_rfl
def qf(a0:Int) (a1:Int):Option (Int×Unit):=
(gH a0 a1).bind λ(x0,_)=>
some (x0,())
def K1:X.Cfg:=⟨E0,[rH],[],[]⟩
def Br:Ctr:=⟨28,1,(uL [I64,I64]),[],[⟨(uL [I64]),[.one],[]⟩],ap2 qf⟩
theorem Ft:Lk 2 Br:=ls (C:=K1) rfl (aC wy aN) (by kernel_rfl) λh=>by kernel_rfl
def dL(a0:Int) (a1:List (Int)) (a2:Int):Option (T0g):=
let x0:=dM a1.length;
bif decide (a2>=x0) then (some (0,a1,a2,())) else
let x1:=w64 (a2+1);
let x2:=w64 (x1 - 1);
(d7 x2).bind λx3=>
(dK a1 x3).bind λx4=>
(qf x4 a0).bind λ(x5,_)=>
some (x5,a1,x1,())
def Eu:X.Cfg:=⟨E0,[Br],[],[]⟩
def fw:Ctr:=⟨61,2,[.ptr ⟨2,0,[]⟩ [0],shU I64],[(2,(uL [RI,I64]))],[⟨(uL [I64]),[.one],[(2,(uL [RI,I64]))]⟩],ap3 dL⟩
theorem fL:Lk 3 fw:=ls (C:=Eu) rfl (aC Ft aN) (by kernel_rfl) λh=>by kernel_rfl
def ph:T0v->Option (T0v⊕(Int×Bool×T0m)):=λ(v0,v1,v2,v3,_)=>
bif decide (v0 > 0) then (let x0:List (Int):=[6,12,32];
(dL 3 v1 v2).bind λ(x1,x2,x3,_)=>
(d7 x1).bind λx4=>
(dK x0 x4).bind λx5=>
(dK x0 x4).bind λx6=>
(dL x6 x2 x3).bind λ(x7,x8,x9,_)=>
let ac:=w64 (1+x7);
bif (dX 8 v3.length (List.length [ac])) then let ae:List (Int):=(List.append v3 [ac]);
let af:=w64 (v0 - 1);
some (.inl (af,x8,x9,ae,())) else none) else
some (.inr (v0,false,v1,v2,v3,()))
def mY(a0:List (Int)) (a1:Int):Option (LI×T06):=
(dL 9 a0 a1).bind λ(x0,x1,x2,_)=>
let x3:=w64 (4+x0);
(dL 4 x1 x2).bind λ(x4,x5,x6,_)=>
(dU ph NN (x4,x5,x6,[x3],())).bind λ(x7,x8,x9,ac,ae,_)=>
some (ae,x9,ac,())
def Dd:X.Cfg:=⟨E0,[fw],[],[(lx 4 0 [(pP 0 2),(3,.pk ⟨9,0,[]⟩ [0,0]),(sP 4 I64)] [(2,(uL [RI,I64])),(9,(uL [(.row true I64)]))] 12)]⟩
def uS:Ctr:=⟨185,3,[.ptr ⟨2,0,[]⟩ [0]],[(2,(uL [RI,I64]))],[⟨(uL [(.row true I64)]),[.one],[(2,(uL [RI,I64]))]⟩],ap2 mY⟩
theorem Cq:Lk 4 uS:=ls (C:=Dd) rfl (aC fL aN) (by kernel_rfl) λh=>by kernel_rfl
def ij(a0:List (Int)) (a1:Int):Option (T0g):=
(dL 5 a0 a1).bind λ(x0,x1)=>
(bif (x0==0) then (some (x0,true,x1)) else
bif (x0==1) then (some (x0,true,x1)) else
some (x0,(x0==2),x1):Option (T0q)).bind λ(x3,x4,x5,x6,_)=>
bif x4 then ((dL 8 x5 x6).bind λ(x7,x8,x9,_)=>
let ac:=wk .u16 x7;
some (ac,x8,x9,())) else
bif (x3==3) then ((dL 3 x5 x6).bind λ(x7,x8,x9,_)=>
let ac:=w64 (65535 - x7);
let ae:=wk .u16 ac;
some (ae,x8,x9,())) else
(dL 65536 x5 x6).bind λ(x7,x8,x9,_)=>
let ac:=wk .u16 x7;
some (ac,x8,x9,())
def Et:X.Cfg:=⟨E0,[fw],[],[⟨3,0,qE,[(.normal,(qS [(pP 0 2),(sP 4 I64),(sP 5 .bool)] [(2,(uL [RI,I64]))]))]⟩]⟩
def mD:Ctr:=⟨140,4,[.ptr ⟨2,0,[]⟩ [0]],[(2,(uL [RI,I64]))],[⟨(uL [CW]),[.one],[(2,(uL [RI,I64]))]⟩],ap2 ij⟩
theorem oo:Lk 4 mD:=ls (C:=Et) rfl (aC fL aN) (by kernel_rfl) λh=>by kernel_rfl
def pf:T0v->Option (T0v⊕(Int×Bool×T0m)):=λ(v0,v1,v2,v3,_)=>
bif decide (v0 > 0) then ((ij v1 v2).bind λ(x0,x1,x2,_)=>
bif (dX 2 v3.length (List.length [x0])) then let x3:List (Int):=(List.append v3 [x0]);
let x4:=w64 (v0 - 1);
some (.inl (x4,x1,x2,x3,())) else none) else
some (.inr (v0,false,v1,v2,v3,()))
def fG(a0:Int) (a1:List (Int)) (a2:Int):Option (LI×T06):=
let x0:=w64 (a0+1);
(dL x0 a1 a2).bind λ(x1,x2,x3,_)=>
(dU pf NN (x1,x2,x3,[],())).bind λ(x4,x5,x6,x7,x8,_)=>
some (x8,x6,x7,())
def Dc:X.Cfg:=⟨E0,[fw,mD],[],[(lx 4 0 [(pP 0 2),(5,.pk ⟨13,0,[]⟩ [0,0]),(sP 6 I64)] [(2,(uL [RI,I64])),(13,(uL [(.row true CW)]))] 12)]⟩
def p5:Ctr:=⟨186,5,[.ptr ⟨2,0,[]⟩ [0],shU I64],[(2,(uL [RI,I64]))],[⟨(uL [(.row true CW)]),[.one],[(2,(uL [RI,I64]))]⟩],ap3 fG⟩
theorem up:Lk 5 p5:=ls (C:=Dc) rfl (aC fL (aC oo aN)) (by kernel_rfl) λh=>by kernel_rfl
def ie(a0:Int) (a1:Int):Option (T0L):=
some (1,a0,0,0,a1,())
def MV:X.Cfg:=⟨E0,[],[],[]⟩
def EP:Ctr:=⟨188,6,(uL [I64,I64]),[],[⟨(uL [I64,I64,I64,I64,I64]),[.agg 5],[]⟩],ap2 ie⟩
theorem I6:Lk 1 EP:=ls (C:=MV) rfl aN (by kernel_rfl) λh=>by kernel_rfl
def gI(a0:Int):Option (T0L):=
some (23,0,0,0,a0,())
def KZ:X.Cfg:=⟨E0,[],[],[]⟩
def Bq:Ctr:=⟨189,7,(uL [I64]),[],[⟨(uL [I64,I64,I64,I64,I64]),[.agg 5],[]⟩],ap1 gI⟩
theorem Fs:Lk 1 Bq:=ls (C:=KZ) rfl aN (by kernel_rfl) λh=>by kernel_rfl
def lI(a0:Int) (a1:Int):Option (T0L):=
some (2,a0,a1,0,0,())
def K0:X.Cfg:=⟨E0,[],[],[]⟩
def FS:Ctr:=⟨219,8,(uL [I64,I64]),[],[⟨(uL [I64,I64,I64,I64,I64]),[.agg 5],[]⟩],ap2 lI⟩
theorem KT:Lk 1 FS:=ls (C:=K0) rfl aN (by kernel_rfl) λh=>by kernel_rfl
def jg(a0:Int):Option (T0o):=
(bif (a0==1) then (some (a0,true,false,false,false,false,())) else
bif (a0==15) then (some (a0,true,false,false,false,false,())) else
bif (a0==19) then (some (a0,true,false,false,false,false,())) else
bif (a0==20) then (some (a0,true,false,false,false,false,())) else
some (a0,(a0==21),false,false,false,false,()):Option (Int×Bool×T0o)).bind λ(x0,x1,_)=>
bif x1 then (some (true,false,false,true,())) else
bif (x0==2) then (some (true,true,false,false,())) else
bif (x0==16) then (some (true,true,false,true,())) else
bif (x0==17) then (some (true,true,false,true,())) else
bif (x0==18) then (some (false,false,false,true,())) else
bif (x0==23) then (some (false,false,false,true,())) else
bif (x0==22) then (some (true,false,false,false,())) else
bif (x0==0) then (some (false,false,false,false,())) else
bif (x0==24) then (some (false,false,false,false,())) else
some (true,true,true,false,())
def CY:X.Cfg:=⟨E0,[],[],[⟨3,0,qE,[(.normal,(qS [(pP 2 6),(sP 3 I64),(sP 4 .bool)] [(6,(uL [.bool,.bool,.bool,.bool]))]))]⟩]⟩
def pT:Ctr:=⟨215,9,(uL [I64]),[],[⟨(uL [.bool,.bool,.bool,.bool]),[.agg 4],[]⟩],ap1 jg⟩
theorem ul:Lk 1 pT:=ls (C:=CY) rfl aN (by kernel_rfl) λh=>by kernel_rfl
def gw(a0:Int):Option (Bool×Unit):=
bif (a0==18) then (some (true,())) else
bif (a0==19) then (some (true,())) else
bif (a0==20) then (some (true,())) else
some ((a0==21),())
def CZ:X.Cfg:=⟨E0,[],[],[]⟩
def jm:Ctr:=⟨176,10,(uL [I64]),[],[⟨(uL [.bool]),[.one],[]⟩],ap1 gw⟩
theorem k9:Lk 1 jm:=ls (C:=CZ) rfl aN (by kernel_rfl) λh=>by kernel_rfl
def mZ(a0:Int) (a1:Int) (a2:List (Int)) (a3:Int):Option (Int×T13):=
(dL 25 a2 a3).bind λ(x0,x1,x2,_)=>
(jg x0).bind λ(x3,x4)=>
(bif x3 then ((dL 8 x1 x2).bind λ(x7,x8,x9,_)=>
some (a0,a1,x8,x9,0,0,0,0,0,x0,x7,0,0,0,x3,x4)) else
some (a0,a1,x1,x2,0,0,0,0,0,x0,0,0,0,0,x3,x4):Option (T2S)).bind λ(x7,x8,x9,ac,ae,af,ag,ah,ai,aj,ak,am,an,ap,aq,av,ax)=>
(bif av then ((dL 8 x9 ac).bind λ(az,aA,aB,_)=>
some (x7,x8,aA,aB,ae,af,ag,ah,ai,aj,ak,az,an,ap,aq,av,ax)) else
some (x7,x8,x9,ac,ae,af,ag,ah,ai,aj,ak,am,an,ap,aq,av,ax):Option (T2S)).bind λ(az,aA,aB,aD,aE,aF,aG,aH,aI,aJ,aK,aL,aM,aO,aP,aQ,aR,aS,_)=>
(bif aR then ((dL 8 aB aD).bind λ(aT,aU,aV,_)=>
some (az,aA,aU,aV,aE,aF,aG,aH,aI,aJ,aK,aL,aT,aO,aP,aQ,aR,aS,())) else
some (az,aA,aB,aD,aE,aF,aG,aH,aI,aJ,aK,aL,aM,aO,aP,aQ,aR,aS,()):Option (T2S)).bind λ(aT,aU,aV,aW,aY,aZ,ba,bc,bd,be,bf,bg,bh,bi,bj,bk,bm,bn,_)=>
((gw be).bind λ(bo,_)=>
bif bo then ((dL aU aV aW).bind λ(bp,bq,bt,_)=>
some (bq,bt,aY,aZ,ba,bc,bd,be,bf,bg,bh,bp,())) else
bif (be==15) then ((dL aT aV aW).bind λ(bp,bq,bt,_)=>
some (bq,bt,aY,aZ,ba,bc,bd,be,bf,bg,bh,bp,())) else
bif (be==23) then ((dL 16 aV aW).bind λ(bp,bq,bt,_)=>
some (bq,bt,aY,aZ,ba,bc,bd,be,bf,bg,bh,bp,())) else
bif bn then ((ij aV aW).bind λ(bp,bq,bt,_)=>
let bv:=wk .i64 bp;
some (bq,bt,aY,aZ,ba,bc,bd,be,bf,bg,bh,bv,())) else
some (aV,aW,aY,aZ,ba,bc,bd,be,bf,bg,bh,bi,()):Option (LI×Int×Int×T1R)).bind λ(bo,bp,bq,bt,bv,bx,bA,bB,bC,bD,bE,bF,_)=>
some (bB,bC,bD,bE,bF,bo,bp,())
def De:X.Cfg:=⟨E0,[fw,pT,jm,mD],[],[⟨3,0,qE,[(.normal,(qS [(pP 0 2),(sP 1 I64),(sP 2 I64),(pP 6 14),(pP 7 16),(pP 8 18)] [(2,(uL [RI,I64])),(14,(uL [I64,I64,I64,I64,I64])),(16,(uL [I64,I64,I64,I64,I64])),(18,(uL [.bool,.bool,.bool,.bool]))]))]⟩,⟨5,1,qE,[(.normal,(qS [(pP 0 2),(sP 1 I64),(sP 2 I64),(pP 6 14),(pP 7 16),(pP 8 18)] [(2,(uL [RI,I64])),(14,(uL [I64,I64,I64,I64,I64])),(16,(uL [I64,I64,I64,I64,I64])),(18,(uL [.bool,.bool,.bool,.bool]))]))]⟩,⟨7,2,qE,[(.normal,(qS [(pP 0 2),(sP 1 I64),(sP 2 I64),(pP 6 14),(pP 7 16),(pP 8 18)] [(2,(uL [RI,I64])),(14,(uL [I64,I64,I64,I64,I64])),(16,(uL [I64,I64,I64,I64,I64])),(18,(uL [.bool,.bool,.bool,.bool]))]))]⟩,⟨9,3,qE,[(.normal,(qS [(pP 0 2),(pP 6 14),(pP 7 16)] [(2,(uL [RI,I64])),(14,(uL [I64,I64,I64,I64,I64])),(16,(uL [I64,I64,I64,I64,I64]))]))]⟩]⟩
def uT:Ctr:=⟨220,11,[.ptr ⟨2,0,[]⟩ [0],shU I64,shU I64],[(2,(uL [RI,I64]))],[⟨(uL [I64,I64,I64,I64,I64]),[.agg 5],[(2,(uL [RI,I64]))]⟩],ap4 mZ⟩
theorem Cr:Lk 5 uT:=ls (C:=De) rfl (aC fL (aC ul (aC k9 (aC oo aN)))) (by kernel_rfl) λh=>by kernel_rfl
def oc(a0:List (Int)) (a1:Int) (a2:Int) (a3:List (Int)) (a4:Int):Option (LDIn×T06):=
let x0:=dM a0.length;
(dL x0 a3 a4).bind λ(x1,x2,x3,_)=>
(d7 x1).bind λx4=>
(dK a0 x4).bind λx5=>
let x6:=w64 (x5+1);
let x7:=mmR false 5 x6;
(dL x7 x2 x3).bind λ(x8,x9,ac,_)=>
(ie 2 x8).bind λ(ae,af,ag,ah,ai,_)=>
let aj:LDIn:=[(15,(1,(0,(0,x1)))),(ae,(af,(ag,(ah,ai))))];
(dL 20 x9 ac).bind λ(ak,am,an,_)=>
bif (ak==0) then ((dL 3 am an).bind λ(ap,aq,av,_)=>
let ax:=w64 (3+ap);
(ij aq av).bind λ(ay,az,aA,_)=>
let aB:=wk .i64 ay;
(ie ax aB).bind λ(aD,aE,aF,aG,aH,_)=>
let aI:LDIn:=[(aD,(aE,(aF,(aG,aH))))];
some (aI,az,aA,())) else
bif (ak==1) then (let ap:List (Int):=[3,4,5,10,13,14,11,9];
(dL 8 am an).bind λ(aq,av,ax,_)=>
(d7 aq).bind λay=>
(dK ap ay).bind λaz=>
(dK ap ay).bind λaA=>
(dL 3 av ax).bind λ(aB,aD,aE,_)=>
let aF:=w64 (3+aB);
(dL 3 aD aE).bind λ(aG,aH,aI,_)=>
let aJ:=w64 (3+aG);
(dL 3 aH aI).bind λ(aK,aL,aM,_)=>
let aO:=w64 (3+aK);
let aP:LDIn:=[(aA,(aF,(aJ,(aO,0))))];
some (aP,aL,aM,())) else
bif (ak==2) then (let ap:LDIn:=[(15,(6,(0,(0,x1))))];
some (ap,am,an,())) else
bif (ak==3) then ((dL 5 am an).bind λ(ap,aq,av,_)=>
let ax:=w64 (3+ap);
(d7 x1).bind λay=>
(dK a0 ay).bind λaz=>
(dL az aq av).bind λ(aA,aB,aD,_)=>
let aE:LDIn:=[(15,(6,(0,(0,x1)))),(17,(6,(ax,(0,aA))))];
some (aE,aB,aD,())) else
bif (ak==4) then ((dL 5 am an).bind λ(ap,aq,av,_)=>
let ax:=w64 (3+ap);
(d7 x1).bind λay=>
(dK a0 ay).bind λaz=>
(dL az aq av).bind λ(aA,aB,aD,_)=>
let aE:LDIn:=[(15,(6,(0,(0,x1)))),(17,(6,(ax,(0,aA))))];
some (aE,aB,aD,())) else
bif (ak==5) then ((dL 4 am an).bind λ(ap,aq,av,_)=>
let ax:=w64 (3+ap);
(d7 x1).bind λay=>
(dK a0 ay).bind λaz=>
(dL az aq av).bind λ(aA,aB,aD,_)=>
let aE:LDIn:=[(15,(6,(0,(0,x1)))),(16,(ax,(6,(0,aA))))];
some (aE,aB,aD,())) else
bif (ak==6) then ((dL 4 am an).bind λ(ap,aq,av,_)=>
let ax:=w64 (3+ap);
(d7 x1).bind λay=>
(dK a0 ay).bind λaz=>
(dL az aq av).bind λ(aA,aB,aD,_)=>
let aE:LDIn:=[(15,(6,(0,(0,x1)))),(16,(ax,(6,(0,aA))))];
some (aE,aB,aD,())) else
bif (ak==7) then ((dL 3 am an).bind λ(ap,aq,av,_)=>
(ie 0 ap).bind λ(ax,ay,az,aA,aB,_)=>
let aD:LDIn:=[(ax,(ay,(az,(aA,aB))))];
bif (dX 40 aD.length aj.length) then let aE:LDIn:=(List.append aD aj);
(gI 13).bind λ(aF,aG,aH,aI,aJ,_)=>
let aK:LDIn:=[(aF,(aG,(aH,(aI,aJ))))];
bif (dX 40 aE.length aK.length) then let aL:LDIn:=(List.append aE aK);
some (aL,aq,av,()) else none else none) else
bif (ak==8) then ((dL 3 am an).bind λ(ap,aq,av,_)=>
(ie 0 ap).bind λ(ax,ay,az,aA,aB,_)=>
let aD:LDIn:=[(ax,(ay,(az,(aA,aB))))];
bif (dX 40 aD.length aj.length) then let aE:LDIn:=(List.append aD aj);
(gI 13).bind λ(aF,aG,aH,aI,aJ,_)=>
let aK:LDIn:=[(aF,(aG,(aH,(aI,aJ))))];
bif (dX 40 aE.length aK.length) then let aL:LDIn:=(List.append aE aK);
some (aL,aq,av,()) else none else none) else
bif (ak==9) then ((dL 3 am an).bind λ(ap,aq,av,_)=>
(ie 0 ap).bind λ(ax,ay,az,aA,aB,_)=>
let aD:LDIn:=[(ax,(ay,(az,(aA,aB))))];
bif (dX 40 aD.length aj.length) then let aE:LDIn:=(List.append aD aj);
(gI 14).bind λ(aF,aG,aH,aI,aJ,_)=>
(lI 3 0).bind λ(aK,aL,aM,aO,aP,_)=>
let aQ:LDIn:=[(aF,(aG,(aH,(aI,aJ)))),(aK,(aL,(aM,(aO,aP))))];
bif (dX 40 aE.length aQ.length) then let aR:LDIn:=(List.append aE aQ);
some (aR,aq,av,()) else none else none) else
bif (ak==10) then ((dL 3 am an).bind λ(ap,aq,av,_)=>
(ie 0 ap).bind λ(ax,ay,az,aA,aB,_)=>
(dL 4 aq av).bind λ(aD,aE,aF,_)=>
(ie 1 aD).bind λ(aG,aH,aI,aJ,aK,_)=>
(gI 3).bind λ(aL,aM,aO,aP,aQ,_)=>
(lI 7 0).bind λ(aR,aS,aT,aU,aV,_)=>
let aW:LDIn:=[(ax,(ay,(az,(aA,aB)))),(aG,(aH,(aI,(aJ,aK)))),(aL,(aM,(aO,(aP,aQ)))),(aR,(aS,(aT,(aU,aV))))];
some (aW,aE,aF,())) else
bif (ak==11) then ((lI 0 7).bind λ(ap,aq,av,ax,ay,_)=>
let az:LDIn:=[(ap,(aq,(av,(ax,ay))))];
bif (dX 40 az.length aj.length) then let aA:LDIn:=(List.append az aj);
let aB:List (Int):=[1,2];
(dL 2 am an).bind λ(aD,aE,aF,_)=>
(d7 aD).bind λaG=>
(dK aB aG).bind λaH=>
(dK aB aG).bind λaI=>
(gI aI).bind λ(aJ,aK,aL,aM,aO,_)=>
let aP:LDIn:=[(aJ,(aK,(aL,(aM,aO))))];
bif (dX 40 aA.length aP.length) then let aQ:LDIn:=(List.append aA aP);
some (aQ,aE,aF,()) else none else none) else
bif (ak==12) then ((lI 0 7).bind λ(ap,aq,av,ax,ay,_)=>
(gI 4).bind λ(az,aA,aB,aD,aE,_)=>
let aF:LDIn:=[(ap,(aq,(av,(ax,ay)))),(az,(aA,(aB,(aD,aE))))];
(lI 0 7).bind λ(aG,aH,aI,aJ,aK,_)=>
(dL 4 am an).bind λ(aL,aM,aO,_)=>
(ie 1 aL).bind λ(aP,aQ,aR,aS,aT,_)=>
(gI 5).bind λ(aU,aV,aW,aY,aZ,_)=>
let ba:LDIn:=[(aG,(aH,(aI,(aJ,aK)))),(aP,(aQ,(aR,(aS,aT)))),(aU,(aV,(aW,(aY,aZ))))];
let bc:List LDIn:=[aF,ba];
(dL 2 aM aO).bind λ(bd,be)=>
(d7 bd).bind λbg=>
(dK bc bg).bind λbh=>
(dK bc bg).bind λbi=>
(dK bc bg).bind λbj=>
some (bj,be)) else
bif (ak==13) then (let ap:List (Int):=[6,7,15];
(dL 3 am an).bind λ(aq,av,ax,_)=>
(d7 aq).bind λay=>
(dK ap ay).bind λaz=>
(dK ap ay).bind λaA=>
(gI aA).bind λ(aB,aD,aE,aF,aG,_)=>
(dL 3 av ax).bind λ(aH,aI,aJ,_)=>
let aK:=w64 (3+aH);
(lI aK 0).bind λ(aL,aM,aO,aP,aQ,_)=>
let aR:LDIn:=[(aB,(aD,(aE,(aF,aG)))),(aL,(aM,(aO,(aP,aQ))))];
some (aR,aI,aJ,())) else
bif (ak==14) then ((dL 3 am an).bind λ(ap,aq,av,_)=>
(ie 0 ap).bind λ(ax,ay,az,aA,aB,_)=>
let aD:List (Int):=[8,9];
(dL 2 aq av).bind λ(aE,aF,aG,_)=>
(d7 aE).bind λaH=>
(dK aD aH).bind λaI=>
(dK aD aH).bind λaJ=>
(gI aJ).bind λ(aK,aL,aM,aO,aP,_)=>
let aQ:LDIn:=[(ax,(ay,(az,(aA,aB)))),(aK,(aL,(aM,(aO,aP))))];
some (aQ,aF,aG,())) else
bif (ak==15) then ((dL 3 am an).bind λ(ap,aq,av,_)=>
(ie 0 ap).bind λ(ax,ay,az,aA,aB,_)=>
let aD:List (Int):=[8,9];
(dL 2 aq av).bind λ(aE,aF,aG,_)=>
(d7 aE).bind λaH=>
(dK aD aH).bind λaI=>
(dK aD aH).bind λaJ=>
(gI aJ).bind λ(aK,aL,aM,aO,aP,_)=>
let aQ:LDIn:=[(ax,(ay,(az,(aA,aB)))),(aK,(aL,(aM,(aO,aP))))];
some (aQ,aF,aG,())) else
bif (ak==16) then ((dL a1 am an).bind λ(ap,aq,av,_)=>
(ie 0 ap).bind λ(ax,ay,az,aA,aB,_)=>
(lI 1 3).bind λ(aD,aE,aF,aG,aH,_)=>
(gI 10).bind λ(aI,aJ,aK,aL,aM,_)=>
let aO:LDIn:=[(ax,(ay,(az,(aA,aB)))),(aD,(aE,(aF,(aG,aH)))),(aI,(aJ,(aK,(aL,aM))))];
some (aO,aq,av,())) else
bif (ak==17) then (let ap:List (Int):=[a1,5];
(dL 2 am an).bind λ(aq,av,ax,_)=>
(d7 aq).bind λay=>
(dK ap ay).bind λaz=>
(dK ap ay).bind λaA=>
(dL aA av ax).bind λ(aB,aD,aE,_)=>
(ie 0 aB).bind λ(aF,aG,aH,aI,aJ,_)=>
let aK:List (Int):=[12,11];
(dL 2 aD aE).bind λ(aL,aM,aO,_)=>
(d7 aL).bind λaP=>
(dK aK aP).bind λaQ=>
(dK aK aP).bind λaR=>
(gI aR).bind λ(aS,aT,aU,aV,aW,_)=>
let aY:LDIn:=[(aF,(aG,(aH,(aI,aJ)))),(aS,(aT,(aU,(aV,aW))))];
some (aY,aM,aO,())) else
bif (ak==18) then ((dL 4 am an).bind λ(ap,aq,av,_)=>
let ax:=w64 (1+ap);
(ie 5 ax).bind λ(ay,az,aA,aB,aD,_)=>
(ie 4 1).bind λ(aE,aF,aG,aH,aI,_)=>
let aJ:=w64 (a2+2);
let aK:LDIn:=[(ay,(az,(aA,(aB,aD)))),(aE,(aF,(aG,(aH,aI)))),(4,(5,(5,(4,0)))),(20,(5,(0,(0,aJ))))];
some (aK,aq,av,())) else
let ap:=dM a0.length;
(mZ ap a1 am an).bind λ(aq,av,ax,ay,az,aA,aB,_)=>
let aD:LDIn:=[(aq,(av,(ax,(ay,az))))];
some (aD,aA,aB,())
def Es:X.Cfg:=⟨E0,[fw,EP,mD,Bq,FS,uT],[(156,(.row true KIn))],[]⟩
def xy:Ctr:=⟨187,12,[.ptr ⟨2,0,[]⟩ [0],shU RI,shU I64,shU I64],[(2,(uL [RI,I64]))],[⟨(uL [eW]),[.one],[(2,(uL [RI,I64]))]⟩],ap5 oc⟩
theorem Ed:Lk 6 xy:=ls (C:=Es) rfl (aC fL (aC I6 (aC oo (aC Fs (aC KT (aC Cr aN)))))) (by kernel_rfl) λh=>by kernel_rfl
def nA:T2b->Option (T2b⊕(Int×Int×Bool×T1M)):=λ(v0,v1,v2,v3,v4,v5,v6,v7,v8,v9,_)=>
bif decide (v1 < v0) then ((d7 v1).bind λx0=>
(dK v8 x0).bind λx1=>
(dK v8 x0).bind λx2=>
(fG x2 v2 v3).bind λ(x3,x4,x5,_)=>
bif (dX 24 v9.length (List.length [x3])) then let x6:List LI:=(List.append v9 [x3]);
let x7:=w64 (v1+1);
some (.inl (v0,x7,x4,x5,v4,v5,v6,v7,v8,x6,())) else none) else
some (.inr (v0,v1,false,v2,v3,v4,v5,v6,v7,v8,v9,()))
def nz:T1V->Option (T1V⊕T26):=λ(v0,v1,v2,v3,v4,v5,v6,v7,v8,_)=>
bif decide (v0 > 0) then ((let x0:Int:=(dM v6.length);
let x1:=w64 (x0+1);
let x2:=dM v6.length;
(oc v7 x1 x2 v1 v2).bind λ(x3,x4,x5,_)=>
let x6:=dM v6.length;
let x7:=dM x3.length;
let x8:=w64 (x6+x7);
bif decide (x8<=62) then (bif (dX 40 v6.length x3.length) then let x9:LDIn:=(List.append v6 x3);
some (v0,x4,x5,v3,v4,v5,x9,v7,v8,()) else none) else
some (v0,x4,x5,v3,v4,v5,v6,v7,v8,()):Option (T1V)).bind λ(x0,x1,x2,x3,x4,x5,x6,x7,x8,_)=>
let x9:=w64 (x0 - 1);
some (.inl (x9,x1,x2,x3,x4,x5,x6,x7,x8,()))) else
some (.inr (v0,false,v1,v2,v3,v4,v5,v6,v7,v8,()))
def fI:T2a->Option (T2a⊕(Int×T26)):=λ(v0,v1,v2,v3,v4,v5,v6,v7,v8)=>
bif decide (v1 < v0) then (((d7 v1).bind λx0=>
(dK v7 x0).bind λx1=>
(gw x1.1).bind λ(x2,_)=>
bif x2 then ((d7 v1).bind λx3=>
(dK v7 x3).bind λx4=>
let x5:=dM v7.length;
bif decide (x4.2.2.2.2>=x5) then ((d7 v1).bind λx6=>
(dK v7 x6).bind λx7=>
none) else
some (v0,v1,v2,v3,v4,v5,v6,v7,v8)) else
some (v0,v1,v2,v3,v4,v5,v6,v7,v8):Option (T2a)).bind λ(x0,x1,x2,x3,x4,x5,x6,x7,x8)=>
let ac:=w64 (x1+1);
some (.inl (x0,ac,x2,x3,x4,x5,x6,x7,x8))) else
some (.inr (v0,v1,false,v2,v3,v4,v5,v6,v7,v8))
def kE(a0:List (Int)) (a1:Int):Option (LDIn×LI×LLI×T06):=
(mY a0 a1).bind λ(x0,x1,x2,_)=>
let x3:=dM x0.length;
(dU nA NN (x3,0,x1,x2,(),(),(),(),x0,[],())).bind λ(x4,x5,x6,x7,x8,x9,ac,ae,af,ag)=>
(dL 12 x7 x8).bind λ(ai,aj,ak,_)=>
let am:=w64 (1+ai);
(dU nz NN (am,aj,ak,x9,ac,ae,[],ag)).bind λ(an,ap,aq,av,ax,ay,az,aA,aB)=>
((dL 4 aq av).bind λ(aE,aF,aG,_)=>
bif (aE==0) then (let aH:Int:=(dM aA.length);
let aI:=w64 (aH+1);
(dL aI aF aG).bind λ(aJ,aK,aL,_)=>
let aM:LDIn:=[(18,(0,(0,(0,aJ))))];
bif (dX 40 aA.length aM.length) then let aO:LDIn:=(List.append aA aM);
some (aK,aL,ax,ay,az,aO,aB) else none) else
bif (aE==1) then (let aH:LDIn:=[(24,(0,(0,(0,0))))];
bif (dX 40 aA.length aH.length) then let aI:LDIn:=(List.append aA aH);
some (aF,aG,ax,ay,az,aI,aB) else none) else
some (aF,aG,ax,ay,az,aA,aB):Option (T1L)).bind λ(aE,aF,aG,aH,aI,aJ,aK,aL,_)=>
(dL 9 aE aF).bind λ(aM,aO,aP,_)=>
(ie 0 aM).bind λ(aQ,aR,aS,aT,aU,_)=>
(gI 0).bind λ(aV,aW,aY,aZ,ba,_)=>
let bc:LDIn:=[(aQ,(aR,(aS,(aT,aU)))),(aV,(aW,(aY,(aZ,ba))))];
bif (dX 40 aJ.length bc.length) then let bd:LDIn:=(List.append aJ bc);
let be:=dM bd.length;
bif decide (be > 64) then (bif (jo 0 64 bd.length) then let bf:LDIn:=(nu bd 0 (Nat.sub 64 0));
let bg:=dM bf.length;
(dU fI NN (bg,0,aO,aP,aG,aH,aI,bf,aK,aL,())).bind λ(bh,bi,bj,bk,bm,bn,bo,bp,bq,bt,bv,_)=>
some (bq,bt,bv,bk,bm,()) else none) else
let bf:=dM bd.length;
(dU fI NN (bf,0,aO,aP,aG,aH,aI,bd,aK,aL,())).bind λ(bg,bh,bi,bj,bk,bm,bn,bo,bp,bq,bt,_)=>
some (bp,bq,bt,bj,bk,()) else none
def yy:X.Cfg:=⟨E0,[uS,p5,fw,xy,EP,Bq,jm],[(24,(.row true CW)),(25,(.row true CW))],[(lx 4 0 [(pP 0 2),(pP 2 6),(pP 3 8),(13,.pk ⟨8,1,[]⟩ [0,0]),(sP 14 I64),(sP 15 I64)] [(2,(uL [RI,I64])),(6,(uL [N1,N1,N1])),(8,(uL [N1,(.row true I64),(.row true (.row true CW))]))] 16),⟨14,1,qE,[(.normal,(qS [(pP 0 2),(pP 2 6),(pP 3 8),(sP 6 I64)] [(2,(uL [RI,I64])),(6,(uL [N1,N1,N1])),(8,(uL [(.row true KIn),RI,(.row true (.row true CW))]))]))]⟩,⟨11,2,(qS [(pP 0 2),(pP 2 6),(pP 3 8),(sP 6 I64)] [(2,(uL [RI,I64])),(6,(uL [N1,N1,N1])),(8,(uL [(.row true KIn),RI,(.row true (.row true CW))]))]),[(.exit 2,(qS [(pP 0 2),(pP 2 6),(pP 3 8),(sP 6 I64),(sP 32 .bool)] [(2,(uL [RI,I64])),(6,(uL [N1,N1,N1])),(8,(uL [(.row true KIn),RI,(.row true (.row true CW))]))]))]⟩,⟨17,3,qE,[(.normal,(qS [(pP 0 2),(pP 2 6),(pP 3 8)] [(2,(uL [RI,I64])),(6,(uL [N1,N1,N1])),(8,(uL [(.row true KIn),RI,(.row true (.row true CW))]))]))]⟩,⟨29,4,qE,[(.normal,(qS [(pP 0 2),(pP 2 6),(pP 3 8),(sP 101 I64),(sP 102 I64)] [(2,(uL [RI,I64])),(6,(uL [N1,N1,N1])),(8,(uL [eW,RI,(.row true (.row true CW))]))]))]⟩,⟨26,5,(qS [(pP 0 2),(pP 2 6),(pP 3 8),(sP 101 I64),(sP 102 I64)] [(2,(uL [RI,I64])),(6,(uL [N1,N1,N1])),(8,(uL [eW,RI,(.row true (.row true CW))]))]),[(.exit 5,(qS [(pP 0 2),(pP 2 6),(pP 3 8),(sP 101 I64),(sP 102 I64),(sP 103 .bool)] [(2,(uL [RI,I64])),(6,(uL [N1,N1,N1])),(8,(uL [eW,RI,(.row true (.row true CW))]))]))]⟩]⟩
def rf:Ctr:=⟨132,13,[.ptr ⟨2,0,[]⟩ [0]],[(2,(uL [RI,I64]))],[⟨(uL [eW,RI,(.row true (.row true CW))]),[.agg 3],[(2,(uL [RI,I64]))]⟩],ap2 kE⟩
theorem ya:Lk 7 rf:=ls (C:=yy) rfl (aC Cq (aC up (aC fL (aC Ed (aC I6 (aC Fs (aC k9 aN))))))) (by kernel_rfl) λh=>by kernel_rfl
def lj:T0C->Option (T0C⊕((Bool×Unit)⊕T0T)):=λ(v0,v1,v2,v3,_)=>
bif decide (v3 < v2) then ((d7 v3).bind λx0=>
(dK v1 x0).bind λx1=>
bif decide (x1 < 1) then (some (.inr (.inl (false,())))) else
bif decide (x1 > 32) then (some (.inr (.inl (false,())))) else
let x2:=w64 (v3+1);
some (.inl (v0,v1,v2,x2,()))) else
some (.inr (.inr (v0,v1,v2,v3,false,())))
def gF(a0:List (Int)):Option (Bool×Unit):=
let x0:=dM a0.length;
(match dU lj NN (a0,a0,x0,0,()) with
| none=>none
| some (.inl (x1,_))=>
some (x1,())
| some (.inr (x1,_))=>
let x6:=dM x1.length;
bif decide (x6>=1) then (let x7:Int:=(dM x1.length);
some ((decide (x7<=4)),())) else
some (false,()))
def AZ:X.Cfg:=⟨E0,[],[],[⟨3,0,(qS [(sP 0 RI),(sP 5 RI),(sP 6 I64),(sP 7 I64)] []),[(.ret,(qS [(sP 2 .bool)] [])),(.exit 0,(qS [(sP 0 RI),(sP 5 RI),(sP 6 I64),(sP 7 I64),(sP 8 .bool)] []))]⟩]⟩
def lW:Ctr:=⟨91,14,(uL [RI]),[],[⟨(uL [.bool]),[.one],[]⟩],ap1 gF⟩
theorem om:Lk 1 lW:=ls (C:=AZ) rfl aN (by kernel_rfl) λh=>by kernel_rfl
def pd:T2c->Option (T2c⊕(LI×Int×Int×Int×Int×Int×Bool×T0D)):=λ(v0,v1,v2,v3,v4,v5,v6,v7,v8,v9,_)=>
bif decide (v5 < v4) then (let x0:Int:=(w64 (v5+v1));
bif (v2 != 0) then let x1:Int:=(Int.tmod x0 v2);
(d7 x1).bind λx2=>
(dK v8 x2).bind λx3=>
(dK v8 x2).bind λx4=>
let x5:=List.modify v8 x2 λe=>v3;
(d7 x1).bind λx6=>
(dK v0 x6).bind λx7=>
let x8:=w64 (x7+1);
let x9:=w64 (50*v2);
bif (x9 != 0) then let ac:Int:=(w64 (Int.tdiv v1 x9));
let ae:=Int.tmod ac 40;
let af:=w64 (x8+ae);
let ag:=w64 (v3+af);
let ah:=w64 (v5+1);
some (.inl (v0,v1,v2,ag,v4,ah,v6,v7,x5,v9,())) else none else none) else
some (.inr (v0,v1,v2,v3,v4,v5,false,v6,v7,v8,v9,()))
def mX(a0:List (Int)) (a1:Int):Option (T0l):=
((gF a0).bind λ(x0,_)=>
bif (!x0) then (some (a0,a1,true,(),0,())) else
bif decide (a1 < 0) then (some (a0,a1,true,(),0,())) else
some (a0,a1,(decide (a1 > 1073741824)),(),0,()):Option (LI×Int×Bool×Unit×Int×Unit)).bind λ(x0,x1,x2,x3,x4,_)=>
bif x2 then (some ([],0,1,())) else
let x5:=dM x0.length;
(d7 x5).bind λx6=>
(d7 x5).bind λx7=>
bif (qw x6 x7 1) then let x8:List (Int):=(List.replicate x6 0);
let x9:=w64 (40503*x1);
let ac:=wk .u16 x9;
bif (x5 != 0) then let ae:Int:=(w64 (Int.tdiv x1 x5));
let af:=Int.tmod ae 50;
let ag:=w64 (1+af);
(dU pd NN (x0,x1,x5,ag,x5,0,x3,x4,x8,ac,())).bind λ(ah,ai,aj,ak,am,an,ap,aq,av,ax,ay,_)=>
some (ax,ay,0,()) else none else none
def C9:X.Cfg:=⟨E0,[lW],[],[⟨2,0,qE,[(.normal,(qS [(sP 0 RI),(sP 1 I64),(pP 4 10),(sP 21 .bool)] [(10,(uL [N1,CW]))]))]⟩,(lx 9 1 [(sP 0 RI),(sP 1 I64),(pP 4 10),(sP 6 I64),(pP 7 16),(sP 8 I64),(sP 36 I64),(sP 37 I64)] [(10,(uL [N1,CW])),(16,(uL [(.row true I64),CW]))] 38)]⟩
def uQ:Ctr:=⟨37,15,(uL [RI,I64]),[],[⟨(uL [(.row true I64),CW,I64]),[.agg 2,.one],[]⟩],ap2 mX⟩
theorem Co:Lk 2 uQ:=ls (C:=C9) rfl (aC om aN) (by kernel_rfl) λh=>by kernel_rfl
def lK(a0:List (Int)) (a1:List (Int)) (a2:Int):Option (T0B):=
(dL 1048576 a1 a2).bind λ(x0,x1)=>
(mX a0 x0).bind λ(x3,x4,x5,_)=>
some (x3,x4,x1)
def Bb:X.Cfg:=⟨E0,[fw,uQ],[],[]⟩
def sZ:Ctr:=⟨134,16,[.ptr ⟨2,0,[]⟩ [0],shU RI],[(2,(uL [RI,I64]))],[⟨(uL [(.row true I64),CW]),[.agg 2],[(2,(uL [RI,I64]))]⟩],ap3 lK⟩
theorem Ap:Lk 4 sZ:=ls (C:=Bb) rfl (aC fL (aC Co aN)) (by kernel_rfl) λh=>by kernel_rfl
def je(a0:Int) (a1:Int) (a2:Int) (a3:Int):Option (Bool×Unit):=
bif (a0==0) then (bif (a2==0) then (some ((a3==0),())) else
some (false,())) else
bif (a0==2) then (bif (a2==0) then (some ((a3==0),())) else
some (false,())) else
bif (a0==1) then (bif (a2==(-1)) then (bif (a1==0) then (bif decide (a3>=0) then (some ((decide (a3<=65535)),())) else
some (false,())) else
some (false,())) else
bif (a1==0) then (bif decide (a2>=0) then (bif decide (a2 < 4) then (bif decide (a3>=0) then (some ((decide (a3 < 32)),())) else
some (false,())) else
some (false,())) else
some (false,())) else
some (false,())) else
some (false,())
def CP:X.Cfg:=⟨E0,[],[],[]⟩
def pO:Ctr:=⟨172,17,[.agg (uL [CB,CW,I64,I64])],[],[⟨(uL [.bool]),[.one],[]⟩],ap4 je⟩
theorem ui:Lk 1 pO:=ls (C:=CP) rfl aN (by kernel_rfl) λh=>by kernel_rfl
def iU:LDCn×Int×T0j->Option ((LDCn×Int×T0j)⊕((Bool×Unit)⊕(LDCn×Int×LDCn×T0c))):=λ(v0,v1,v2,v3,v4,_)=>
bif decide (v4 < v3) then ((d7 v4).bind λx0=>
(dK v2 x0).bind λx1=>
(je x1.1 x1.2.1 x1.2.2.1 x1.2.2.2).bind λ(x2,_)=>
bif (!x2) then (some (.inr (.inl (false,())))) else
let x3:=w64 (v4+1);
some (.inl (v0,v1,v2,v3,x3,()))) else
some (.inr (.inr (v0,v1,v2,v3,v4,false,())))
def ff(a0:LDCn) (a1:Int):Option (Bool×Unit):=
let x0:=dM a0.length;
(match dU iU NN (a0,a1,a0,x0,0,()) with
| none=>none
| some (.inl (x1,_))=>
some (x1,())
| some (.inr (x1,x2,_))=>
let x7:=dM x1.length;
some ((decide (x7<=x2)),()))
def AJ:X.Cfg:=⟨E0,[pO],[],[⟨3,0,(qS [(sP 0 ef),(sP 1 I64),(sP 7 ef),(sP 8 I64),(sP 9 I64)] []),[(.ret,(qS [(sP 4 .bool)] [])),(.exit 0,(qS [(sP 0 ef),(sP 1 I64),(sP 7 ef),(sP 8 I64),(sP 9 I64),(sP 10 .bool)] []))]⟩]⟩
def fZ:Ctr:=⟨107,18,(uL [ef,I64]),[],[⟨(uL [.bool]),[.one],[]⟩],ap2 ff⟩
theorem gK:Lk 2 fZ:=ls (C:=AJ) rfl (aC ui aN) (by kernel_rfl) λh=>by kernel_rfl
def iT:T0U->Option (T0U⊕((Bool×Unit)⊕(LLCn×T0K))):=λ(v0,v1,v2,v3)=>
bif decide (v2 < v1) then ((d7 v2).bind λx0=>
(dK v0 x0).bind λx1=>
(ff x1 64).bind λ(x2,_)=>
bif (!x2) then (some (.inr (.inl (false,())))) else
let x3:=w64 (v2+1);
some (.inl (v0,v1,x3,v3))) else
some (.inr (.inr (v0,v1,v2,false,v3)))
def lf:LDOp×T0u->Option ((LDOp×T0u)⊕((Bool×Unit)⊕(LDOp×T0K))):=λ(v0,v1,v2,v3,v4,_)=>
bif decide (v2 < v1) then ((d7 v2).bind λx0=>
(dK v0 x0).bind λx1=>
(bif (x1.1==(-1)) then (bif (x1.2.1 != 0) then (some (v0,v1,v2,true,v3,v4,x1.1,x1.2.1,x1.2.2,())) else
bif x1.2.2 then (some (v0,v1,v2,true,v3,v4,x1.1,x1.2.1,x1.2.2,())) else
bif (decide (x1.1 < (-1))) then (some (v0,v1,v2,true,v3,v4,x1.1,x1.2.1,x1.2.2,())) else
let x2:=dM v3.length;
bif decide (x1.1>=x2) then (some (v0,v1,v2,true,v3,v4,x1.1,x1.2.1,x1.2.2,())) else
bif decide (x1.1>=0) then (bif decide (x1.2.1 < 0) then (some (v0,v1,v2,true,v3,v4,x1.1,x1.2.1,x1.2.2,())) else
(d7 x1.1).bind λx3=>
(dK v3 x3).bind λx4=>
let x5:=dM x4.length;
some (v0,v1,v2,(decide (x1.2.1 > x5)),v3,v4,x1.1,x1.2.1,x1.2.2,())) else
some (v0,v1,v2,false,v3,v4,x1.1,x1.2.1,x1.2.2,())) else
bif (decide (x1.1 < (-1))) then (some (v0,v1,v2,true,v3,v4,x1.1,x1.2.1,x1.2.2,())) else
let x2:=dM v3.length;
bif decide (x1.1>=x2) then (some (v0,v1,v2,true,v3,v4,x1.1,x1.2.1,x1.2.2,())) else
bif decide (x1.1>=0) then (bif decide (x1.2.1 < 0) then (some (v0,v1,v2,true,v3,v4,x1.1,x1.2.1,x1.2.2,())) else
(d7 x1.1).bind λx3=>
(dK v3 x3).bind λx4=>
let x5:=dM x4.length;
some (v0,v1,v2,(decide (x1.2.1 > x5)),v3,v4,x1.1,x1.2.1,x1.2.2,())) else
some (v0,v1,v2,false,v3,v4,x1.1,x1.2.1,x1.2.2,()):Option (LDOp×Int×Int×Bool×LLCn×LDOp×T0c)).bind λ(x2,x3,x4,x5,x6,x7,_)=>
bif x5 then (some (.inr (.inl (false,())))) else
let ae:=w64 (x4+1);
some (.inl (x2,x3,ae,x6,x7,()))) else
some (.inr (.inr (v0,v1,v2,false,v3,v4,())))
def jA(a0:List LDCn) (a1:LDOp):Option (Bool×Unit):=
let x0:=dM a0.length;
bif decide (x0 > 4) then (some (false,())) else
let x1:=dM a1.length;
bif (x1 != 8) then (some (false,())) else
let x2:=dM a0.length;
(match dU iT NN (a0,x2,0,a0,a1,()) with
| none=>none
| some (.inl (x3,_))=>
some (x3,())
| some (.inr (x3,x4,x5,x6,x7,x8,_))=>
let x9:=dM x8.length;
(match dU lf NN (x8,x9,0,x7,x8,()) with
| none=>none
| some (.inl (ac,_))=>
some (ac,())
| some (.inr (ac,_))=>
some (true,())))
def Az:X.Cfg:=⟨E0,[fZ],[],[⟨6,0,(qS [(pP 1 4),(sP 18 (.row false ef)),(sP 19 I64),(sP 20 I64)] [(4,(uL [(.row false ef),gt]))]),[(.ret,(qS [(sP 2 .bool)] [])),(.exit 0,(qS [(pP 1 4),(sP 18 (.row false ef)),(sP 19 I64),(sP 20 I64),(sP 21 .bool)] [(4,(uL [(.row false ef),gt]))]))]⟩,⟨20,1,qE,[(.normal,(qS [(pP 1 4),(sP 29 gt),(sP 30 I64),(sP 31 I64),(sP 81 .bool)] [(4,(uL [(.row false ef),gt])),(14,(uL [I64,I64,.bool]))]))]⟩,⟨15,2,(qS [(pP 1 4),(sP 29 gt),(sP 30 I64),(sP 31 I64)] [(4,(uL [(.row false ef),gt]))]),[(.ret,(qS [(sP 2 .bool)] [])),(.exit 2,(qS [(pP 1 4),(sP 29 gt),(sP 30 I64),(sP 31 I64),(sP 32 .bool)] [(4,(uL [(.row false ef),gt]))]))]⟩]⟩
def ov:Ctr:=⟨221,19,[.agg (uL [(.row false ef),gt])],[],[⟨(uL [.bool]),[.one],[]⟩],ap2 jA⟩
theorem r9:Lk 3 ov:=ls (C:=Az) rfl (aC gK aN) (by kernel_rfl) λh=>by kernel_rfl
def qF:T1z->Option (T1z⊕(LLI×Int×Int×Bool×T0H)):=λ(v0,v1,v2,v3,v4,v5,v6,_)=>
bif decide (v2 < v1) then ((d7 v2).bind λx0=>
(dK v6 x0).bind λx1=>
(dK v6 x0).bind λx2=>
let x3:=(List.modify v6 x0 λe=>((-1),e.2));
let x4:=w64 (v2+1);
some (.inl (v0,v1,x4,v3,v4,v5,x3,()))) else
some (.inr (v0,v1,v2,false,v3,v4,v5,v6,()))
def qD:T2q->Option (T2q⊕(LLI×Int×Int×LI×Int×Int×Bool×T0X)):=λ(v0,v1,v2,v3,v4,v5,v6,v7,v8,v9,v10,_)=>
bif decide (v5 < v4) then ((d7 v5).bind λx0=>
(dK v3 x0).bind λx1=>
let x2:LDCn:=[(0,(x1,(0,0)))];
bif (dX 24 v10.length x2.length) then let x3:LDCn:=(List.append v10 x2);
let x4:=w64 (v5+1);
some (.inl (v0,v1,v2,v3,v4,x4,v6,v7,v8,v9,x3,())) else none) else
some (.inr (v0,v1,v2,v3,v4,v5,false,v6,v7,v8,v9,v10,()))
def qC:T1y->Option (T1y⊕(LLI×T1m)):=λ(v0,v1,v2,v3,v4,v5,v6,_)=>
bif decide (v2 < v1) then ((d7 v2).bind λx0=>
(dK v0 x0).bind λx1=>
let x2:=dM x1.length;
(dU qD NN (v0,v1,v2,x1,x2,0,v3,v4,v5,v6,[],())).bind λ(x3,x4,x5,x6,x7,x8,x9,ac,ae,af,ag,ah,_)=>
bif (dX 24 af.length (List.length [ah])) then let ai:List LDCn:=(List.append af [ah]);
let aj:=w64 (x5+1);
some (.inl (x3,x4,aj,ac,ae,ai,ag,())) else none) else
some (.inr (v0,v1,v2,false,v3,v4,v5,v6,()))
def nX(a0:List LI):Option (LLCn×LDOp×Int×Unit):=
bif (qw 8 8 3) then let x0:LDOp:=(List.replicate 8 (0,(0,false)));
let x1:=dM x0.length;
(dU qF NN (a0,x1,0,(),(),(),x0,())).bind λ(x2,x3,x4,x5,x6,x7,x8,x9,_)=>
let ac:=dM x2.length;
(dU qC NN (x2,ac,0,x6,x7,[],x9,())).bind λ(ae,af,ag,ah,ai,aj,ak,am,_)=>
(jA ak am).bind λ(an,_)=>
bif (!an) then (some ([],[],3,())) else
some (ak,am,0,()) else none
def Eg:X.Cfg:=⟨E0,[ov],[(46,(.row true KCn)),(47,(.row true KCn))],[(lx 4 0 [(sP 0 (.row false RW)),(pP 2 6),(pP 4 10),(sP 15 I64),(sP 16 I64)] [(6,(uL [N1,N1])),(10,(uL [N1,(.row true KOp)]))] 17),⟨19,1,(qS [(pP 2 6),(pP 4 10),(8,.pk ⟨19,0,[]⟩ [0,0]),(sP 25 (.row false RW)),(sP 26 I64),(sP 27 I64),(sP 31 RW),(sP 32 I64),(sP 33 I64)] [(6,(uL [N1,N1])),(10,(uL [(.row true (.row true KCn)),(.row true KOp)])),(19,(uL [(.row true KCn)]))]),[(.exit 4,(qS [(pP 2 6),(pP 4 10),(8,.pk ⟨19,0,[]⟩ [0,0]),(sP 25 (.row false RW)),(sP 26 I64),(sP 27 I64),(sP 31 RW),(sP 32 I64),(sP 33 I64),(sP 34 .bool)] [(6,(uL [N1,N1])),(10,(uL [(.row true (.row true KCn)),(.row true KOp)])),(19,(uL [(.row true KCn)]))]))]⟩,⟨11,2,(qS [(pP 2 6),(pP 4 10),(sP 25 (.row false RW)),(sP 26 I64),(sP 27 I64)] [(6,(uL [N1,N1])),(10,(uL [(.row true (.row true KCn)),(.row true KOp)]))]),[(.exit 2,(qS [(pP 2 6),(pP 4 10),(sP 25 (.row false RW)),(sP 26 I64),(sP 27 I64),(sP 28 .bool)] [(6,(uL [N1,N1])),(10,(uL [(.row true (.row true KCn)),(.row true KOp)]))]))]⟩]⟩
def xp:Ctr:=⟨226,20,(uL [(.row false RW)]),[],[⟨(uL [(.row true (.row true KCn)),(.row true KOp),I64]),[.agg 2,.one],[]⟩],ap1 nX⟩
theorem D6:Lk 4 xp:=ls (C:=Eg) rfl (aC r9 aN) (by kernel_rfl) λh=>by kernel_rfl
def fq:LLI×Int×Int×LLI×Unit->Option ((LLI×Int×Int×LLI×Unit)⊕(LLI×Int×Int×Bool×LLI×Unit)):=λ(v0,v1,v2,v3,_)=>
bif decide (v2 < v1) then ((d7 v2).bind λx0=>
(dK v0 x0).bind λx1=>
bif (dX 2 0 x1.length) then let x2:List (Int):=(List.append [] x1);
bif (dX 24 v3.length (List.length [x2])) then let x3:List LI:=(List.append v3 [x2]);
let x4:=w64 (v2+1);
some (.inl (v0,v1,x4,x3,())) else none else none) else
some (.inr (v0,v1,v2,false,v3,()))
def fu(a0:List LI):Option (LLI×Unit):=
let x0:=dM a0.length;
(dU fq NN (a0,x0,0,[],())).bind λ(x1,x2,x3,x4,x5,_)=>
some (x5,())
def sr:X.Cfg:=⟨E0,[],[(15,(.row true CW)),(16,(.row true CW))],[(lx 4 0 [(3,.pk ⟨9,0,[]⟩ [0,0]),(sP 6 (.row false RW)),(sP 7 I64),(sP 8 I64)] [(9,(uL [(.row true (.row true CW))]))] 9)]⟩
def gZ:Ctr:=⟨223,21,(uL [(.row false RW)]),[],[⟨(uL [(.row true (.row true CW))]),[.one],[]⟩],ap1 fu⟩
theorem jV:Lk 1 gZ:=ls (C:=sr) rfl aN (by kernel_rfl) λh=>by kernel_rfl
def gX:LDOu×T02->Option ((LDOu×T02)⊕((Bool×Unit)⊕(LDOu×T0c))):=λ(v0,v1,v2,_)=>
bif decide (v2 < v1) then ((d7 v2).bind λx0=>
(dK v0 x0).bind λx1=>
(bif (x1.1 != v2) then (some (v0,v1,v2,true,())) else
bif decide (x1.2.1 < 0) then (some (v0,v1,v2,true,())) else
bif decide (x1.2.1>=2) then (some (v0,v1,v2,true,())) else
let x2:=dM x1.2.2.length;
some (v0,v1,v2,(decide (x2 > 16)),()):Option (LDOu×T0c)).bind λ(x2,x3,x4,x5,_)=>
bif x5 then (some (.inr (.inl (false,())))) else
let x6:=w64 (x4+1);
some (.inl (x2,x3,x6,()))) else
some (.inr (.inr (v0,v1,v2,false,())))
def jz(a0:LDOu):Option (Bool×Unit):=
let x0:=dM a0.length;
(match dU gX NN (a0,x0,0,()) with
| none=>none
| some (.inl (x1,_))=>
some (x1,())
| some (.inr (x1,_))=>
some (true,()))
def wG:X.Cfg:=⟨E0,[],[],[⟨8,0,qE,[(.normal,(qS [(sP 5 iH),(sP 6 I64),(sP 7 I64),(sP 31 .bool)] []))]⟩,⟨3,1,(qS [(sP 5 iH),(sP 6 I64),(sP 7 I64)] []),[(.ret,(qS [(sP 2 .bool)] [])),(.exit 0,(qS [(sP 5 iH),(sP 6 I64),(sP 7 I64),(sP 8 .bool)] []))]⟩]⟩
def pI:Ctr:=⟨222,22,(uL [iH]),[],[⟨(uL [.bool]),[.one],[]⟩],ap1 jz⟩
theorem wm:Lk 1 pI:=ls (C:=wG) rfl aN (by kernel_rfl) λh=>by kernel_rfl
def iS:T24->Option (T24⊕((Bool×Unit)⊕(LLI×T1O))):=λ(v0,v1,v2,v3)=>
bif decide (v2 < v1) then ((d7 v2).bind λx0=>
(dK v0 x0).bind λx1=>
let x2:=dM x1.length;
bif decide (x2 > 64) then (some (.inr (.inl (false,())))) else
let x3:=w64 (v2+1);
some (.inl (v0,v1,x3,v3))) else
some (.inr (.inr (v0,v1,v2,false,v3)))
def iR:T1Y->Option (T1Y⊕((Bool×Unit)⊕(LDOu×T1O))):=λ(v0,v1,v2,v3)=>
bif decide (v2 < v1) then ((d7 v2).bind λx0=>
(dK v0 x0).bind λx1=>
(ff x1.2.2 16).bind λ(x2,_)=>
bif (!x2) then (some (.inr (.inl (false,())))) else
let x3:=w64 (v2+1);
some (.inl (v0,v1,x3,v3))) else
some (.inr (.inr (v0,v1,v2,false,v3)))
def iv(a0:List (Int)) (a1:List (Int)) (a2:List LI) (a3:List LDCn) (a4:LDOp) (a5:LDOu):Option (Bool×Unit):=
let x0:=dM a2.length;
(match dU iS NN (a2,x0,0,a0,a1,a2,a3,a4,a5,()) with
| none=>none
| some (.inl (x1,_))=>
some (x1,())
| some (.inr (x1,x2,x3,x4,x5,x6,x7,x8,x9,ac,_))=>
let ae:=dM ac.length;
(match dU iR NN (ac,ae,0,x5,x6,x7,x8,x9,ac,()) with
| none=>none
| some (.inl (af,_))=>
some (af,())
| some (.inr (af,ag,ah,ai,aj,ak,am,an,ap,aq,_))=>
let av:=dM aj.length;
bif decide (av<=64) then (let ax:Int:=(dM ak.length);
bif decide (ax<=64) then (let ay:Int:=(dM am.length);
bif decide (ay<=2) then ((jA an ap).bind λ(az,_)=>
bif az then (let aA:Int:=(dM aq.length);
bif decide (aA<=200) then ((jz aq).bind λ(aB,_)=>
some (aB,())) else
some (false,())) else
some (false,())) else
some (false,())) else
some (false,())) else
some (false,())))
def Aw:X.Cfg:=⟨E0,[fZ,ov,pI],[],[⟨3,0,(qS [(pP 1 4),(sP 8 (.row false RW)),(sP 9 I64),(sP 10 I64)] [(4,(uL [RW,RW,(.row false RW),(.row false ef),gt,iH]))]),[(.ret,(qS [(sP 2 .bool)] [])),(.exit 0,(qS [(pP 1 4),(sP 8 (.row false RW)),(sP 9 I64),(sP 10 I64),(sP 11 .bool)] [(4,(uL [RW,RW,(.row false RW),(.row false ef),gt,iH]))]))]⟩,⟨12,1,(qS [(pP 1 4),(sP 19 iH),(sP 20 I64),(sP 21 I64)] [(4,(uL [RW,RW,(.row false RW),(.row false ef),gt,iH]))]),[(.ret,(qS [(sP 2 .bool)] [])),(.exit 2,(qS [(pP 1 4),(sP 19 iH),(sP 20 I64),(sP 21 I64),(sP 22 .bool)] [(4,(uL [RW,RW,(.row false RW),(.row false ef),gt,iH]))]))]⟩]⟩
def lR:Ctr:=⟨190,23,[.agg (uL [RW,RW,(.row false RW),(.row false ef),gt,iH])],[],[⟨(uL [.bool]),[.one],[]⟩],ap6 iv⟩
theorem og:Lk 4 lR:=ls (C:=Aw) rfl (aC gK (aC r9 (aC wm aN))) (by kernel_rfl) λh=>by kernel_rfl
def nW(a0:List LI) (a1:List LI) (a2:List (Int)) (a3:List (Int)):Option (LI×LI×LLI×LLCn×LDOp×Unit×Int×Unit):=
(nX a0).bind λ(x0,x1,x2,_)=>
bif (x2 != 0) then (some ([],[],[],[],[],(),x2,())) else
bif (dX 2 0 a2.length) then let x3:List (Int):=(List.append [] a2);
bif (dX 2 0 a3.length) then let x4:List (Int):=(List.append [] a3);
(fu a1).bind λ(x5,_)=>
(iv x3 x4 x5 x0 x1 []).bind λ(x6,_)=>
bif (!x6) then (some ([],[],[],[],[],(),3,())) else
some (x3,x4,x5,x0,x1,(),0,()) else none else none
def Ax:X.Cfg:=⟨E0,[xp,gZ,lR],[],[]⟩
def sD:Ctr:=⟨194,24,(uL [(.row false RW),(.row false RW),RW,RW]),[],[⟨(uL [RW,RW,(.row false RW),(.row false ef),gt,N1,I64]),[.agg 6,.one],[]⟩],ap4 nW⟩
theorem zV:Lk 5 sD:=ls (C:=Ax) rfl (aC D6 (aC jV (aC og aN))) (by kernel_rfl) λh=>by kernel_rfl
def kF(a0:List (Int)) (a1:Int):Option (LI×LI×LLI×LLCn×LDOp×Unit×T06):=
(fG 5 a0 a1).bind λ(x0,x1,x2,_)=>
(fG 3 x1 x2).bind λ(x3,x4,x5,_)=>
let x6:List LI:=[x0,x3];
(fG 8 x4 x5).bind λ(x7,x8,x9,_)=>
(fG 4 x8 x9).bind λ(ac,ae,af,_)=>
let ag:List LI:=[x7,ac];
(fG 5 ae af).bind λ(ah,ai,aj,_)=>
(fG 5 ai aj).bind λ(ak,am)=>
(nW x6 ag ah ak).bind λ(ap,aq,av,ax,ay,az,aA,_)=>
some (ap,aq,av,ax,ay,az,am)
def yz:X.Cfg:=⟨E0,[p5,sD],[(10,(.row true CW)),(15,(.row true CW))],[]⟩
def rh:Ctr:=⟨135,25,[.ptr ⟨2,0,[]⟩ [0]],[(2,(uL [RI,I64]))],[⟨(uL [RW,RW,(.row false RW),(.row false ef),gt,N1]),[.agg 6],[(2,(uL [RI,I64]))]⟩],ap2 kF⟩
theorem yb:Lk 6 rh:=ls (C:=yz) rfl (aC up (aC zV aN)) (by kernel_rfl) λh=>by kernel_rfl
def iZ:T2u->Option (T2u⊕((Bool×Unit)⊕T2B)):=λ(v0,v1,v2,v3,v4,v5,v6,v7,v8,v9,v10,v11,_)=>
bif decide (v1 < v0) then ((d7 v1).bind λx0=>
(dK v11 x0).bind λx1=>
(dK v11 x0).bind λx2=>
(bif decide (x2 < 0) then (some (v0,v1,true,v2,v3,v4,v5,v6,v7,v8,v9,v10,v11,())) else
bif decide (x2>=8) then (some (v0,v1,true,v2,v3,v4,v5,v6,v7,v8,v9,v10,v11,())) else
(d7 v1).bind λx3=>
bif (Nat.beq x3 0) then (bif (!v7) then (some (v0,v1,(x2 != 0),v2,v3,v4,v5,v6,v7,v8,v9,v10,v11,())) else
some (v0,v1,false,v2,v3,v4,v5,v6,v7,v8,v9,v10,v11,())) else
bif (Nat.beq x3 1) then (bif (!v8) then (some (v0,v1,(x2 != 0),v2,v3,v4,v5,v6,v7,v8,v9,v10,v11,())) else
some (v0,v1,false,v2,v3,v4,v5,v6,v7,v8,v9,v10,v11,())) else
bif (Nat.beq x3 2) then (bif (!v9) then (some (v0,v1,(x2 != 0),v2,v3,v4,v5,v6,v7,v8,v9,v10,v11,())) else
some (v0,v1,false,v2,v3,v4,v5,v6,v7,v8,v9,v10,v11,())) else
bif (Nat.beq x3 3) then bif (!v10) then (some (v0,v1,(x2 != 0),v2,v3,v4,v5,v6,v7,v8,v9,v10,v11,())) else
some (v0,v1,false,v2,v3,v4,v5,v6,v7,v8,v9,v10,v11,()) else none:Option (T2B)).bind λ(x3,x4,x5,x6)=>
bif x5 then (some (.inr (.inl (false,())))) else
let aj:=w64 (x4+1);
some (.inl (x3,aj,x6))) else
some (.inr (.inr (v0,v1,false,v2,v3,v4,v5,v6,v7,v8,v9,v10,v11,())))
def lE(a0:Int) (a1:Int) (a2:Int) (a3:Int) (a4:Int):Option (Bool×Unit):=
bif decide (a0 < 0) then (some (false,())) else
bif decide (a0 > 24) then (some (false,())) else
(jg a0).bind λ(x0,x1,x2,x3,_)=>
let x4:List (Int):=[a1,a2,a3];
let x5:=dM x4.length;
(match dU iZ NN (x5,0,a0,a1,a2,a3,a4,x0,x1,x2,x3,x4,()) with
| none=>none
| some (.inl (x6,_))=>
some (x6,())
| some (.inr (x6,x7,x8,x9,ac,ae,af,ag,ah,ai,aj,ak,am,_))=>
(bif decide (ag < 0) then (some (true,x9,ac,ae,af,ag,())) else
bif decide (ag > 65535) then (some (true,x9,ac,ae,af,ag,())) else
bif (!ak) then (some ((ag != 0),x9,ac,ae,af,ag,())) else
some (false,x9,ac,ae,af,ag,()):Option (Bool×T0L)).bind λ(an,ap,aq,av,ax,ay,_)=>
bif an then (some (false,())) else
(gw ap).bind λ(az,_)=>
bif az then (some ((decide (ay < 64)),())) else
bif (ap==15) then (some ((decide (ay < 4)),())) else
bif (ap==23) then (some ((decide (ay<=15)),())) else
some (true,()))
def AS:X.Cfg:=⟨E0,[pT,jm],[],[⟨12,0,qE,[(.normal,(qS [(pP 1 4),(pP 3 8),(23,.pk ⟨49,0,[]⟩ [0,0]),(sP 24 I64),(sP 25 I64),(sP 45 .bool)] [(4,(uL [I64,I64,I64,I64,I64])),(8,(uL [.bool,.bool,.bool,.bool])),(49,(uL [(.row true I64)]))]))]⟩,⟨7,1,(qS [(pP 1 4),(pP 3 8),(23,.pk ⟨49,0,[]⟩ [0,0]),(sP 24 I64),(sP 25 I64)] [(4,(uL [I64,I64,I64,I64,I64])),(8,(uL [.bool,.bool,.bool,.bool])),(49,(uL [(.row true I64)]))]),[(.ret,(qS [(sP 2 .bool)] [])),(.exit 0,(qS [(pP 1 4),(pP 3 8),(23,.pk ⟨49,0,[]⟩ [0,0]),(sP 24 I64),(sP 25 I64),(sP 26 .bool)] [(4,(uL [I64,I64,I64,I64,I64])),(8,(uL [.bool,.bool,.bool,.bool])),(49,(uL [(.row true I64)]))]))]⟩,⟨15,2,qE,[(.normal,(qS [(pP 1 4),(sP 64 .bool)] [(4,(uL [I64,I64,I64,I64,I64]))]))]⟩]⟩
def sS:Ctr:=⟨175,26,[.agg (uL [I64,I64,I64,I64,I64])],[],[⟨(uL [.bool]),[.one],[]⟩],ap5 lE⟩
theorem Ai:Lk 2 sS:=ls (C:=AS) rfl (aC ul (aC k9 aN)) (by kernel_rfl) λh=>by kernel_rfl
def iY:T1h->Option (T1h⊕((Int×Unit)⊕T1x)):=λ(v0,v1,v2,v3,v4,v5,_)=>
bif decide (v2 < v1) then ((d7 v2).bind λx0=>
(dK v0 x0).bind λx1=>
let x2:=dM x1.length;
(d7 v2).bind λx3=>
(dK v4 x3).bind λx4=>
bif decide (x2 > x4) then (some (.inr (.inl (1,())))) else
let x5:=w64 (v2+1);
some (.inl (v0,v1,x5,v3,v4,v5,()))) else
some (.inr (.inr (v0,v1,v2,false,v3,v4,v5,())))
def iX:T1a->Option (T1a⊕((Int×Unit)⊕T1v)):=λ(v0,v1,v2,v3)=>
bif decide (v2 < v1) then ((d7 v2).bind λx0=>
(dK v0 x0).bind λx1=>
(lE x1.1 x1.2.1 x1.2.2.1 x1.2.2.2.1 x1.2.2.2.2).bind λ(x2,_)=>
bif (!x2) then (some (.inr (.inl (5,())))) else
let x3:=w64 (v2+1);
some (.inl (v0,v1,x3,v3))) else
some (.inr (.inr (v0,v1,v2,false,v3)))
def iW:T1a->Option (T1a⊕((Int×Unit)⊕T1v)):=λ(v0,v1,v2,v3,v4,v5,_)=>
bif decide (v2 < v1) then ((d7 v2).bind λx0=>
(dK v0 x0).bind λx1=>
((gw x1.1).bind λ(x2,_)=>
bif x2 then (let x3:Int:=(dM v3.length);
bif decide (x1.2.2.2.2>=x3) then (some (v0,v1,v2,true,v3,v4,v5,())) else
bif (x1.1==15) then (let x4:Int:=(dM v4.length);
some (v0,v1,v2,(decide (x1.2.2.2.2>=x4)),v3,v4,v5,())) else
some (v0,v1,v2,false,v3,v4,v5,())) else
bif (x1.1==15) then (let x3:Int:=(dM v4.length);
some (v0,v1,v2,(decide (x1.2.2.2.2>=x3)),v3,v4,v5,())) else
some (v0,v1,v2,false,v3,v4,v5,()):Option (T1v)).bind λ(x2,x3,x4,x5,x6)=>
bif x5 then (some (.inr (.inl (6,())))) else
let x9:=w64 (x4+1);
some (.inl (x2,x3,x9,x6))) else
some (.inr (.inr (v0,v1,v2,false,v3,v4,v5,())))
def ix(a0:LDIn) (a1:List (Int)) (a2:List LI):Option (Int×Unit):=
(gF a1).bind λ(x0,_)=>
bif (!x0) then (some (1,())) else
let x1:=dM a2.length;
let x2:=dM a1.length;
bif (x1 != x2) then (some (1,())) else
let x3:=dM a2.length;
(match dU iY NN (a2,x3,0,a0,a1,a2,()) with
| none=>none
| some (.inl (x4,_))=>
some (x4,())
| some (.inr (x4,x5,x6,x7,x8,x9))=>
let ae:=dM x8.length;
bif decide (ae < 1) then (some (3,())) else
let af:=dM x8.length;
bif decide (af > 64) then (some (3,())) else
let ag:=dM x8.length;
(match dU iX NN (x8,ag,0,x8,x9) with
| none=>none
| some (.inl (ah,_))=>
some (ah,())
| some (.inr (ah,ai,aj,ak,am,an))=>
let aq:=dM am.length;
(match dU iW NN (am,aq,0,am,an) with
| none=>none
| some (.inl (av,_))=>
some (av,())
| some (.inr (av,_))=>
some (0,()))))
def AR:X.Cfg:=⟨E0,[lW,sS,jm],[],[⟨6,0,(qS [(pP 1 4),(sP 23 (.row false RW)),(sP 24 I64),(sP 25 I64)] [(4,(uL [eW,RI,(.row false RW)]))]),[(.ret,(qS [(sP 2 I64)] [])),(.exit 0,(qS [(pP 1 4),(sP 23 (.row false RW)),(sP 24 I64),(sP 25 I64),(sP 26 .bool)] [(4,(uL [eW,RI,(.row false RW)]))]))]⟩,⟨18,1,(qS [(pP 1 4),(sP 50 eW),(sP 51 I64),(sP 52 I64)] [(4,(uL [eW,RI,(.row false RW)]))]),[(.ret,(qS [(sP 2 I64)] [])),(.exit 2,(qS [(pP 1 4),(sP 50 eW),(sP 51 I64),(sP 52 I64),(sP 53 .bool)] [(4,(uL [eW,RI,(.row false RW)]))]))]⟩,⟨32,2,qE,[(.normal,(qS [(pP 1 4),(sP 61 eW),(sP 62 I64),(sP 63 I64),(sP 90 .bool)] [(4,(uL [eW,RI,(.row false RW)]))]))]⟩,⟨27,3,(qS [(pP 1 4),(sP 61 eW),(sP 62 I64),(sP 63 I64)] [(4,(uL [eW,RI,(.row false RW)]))]),[(.ret,(qS [(sP 2 I64)] [])),(.exit 4,(qS [(pP 1 4),(sP 61 eW),(sP 62 I64),(sP 63 I64),(sP 64 .bool)] [(4,(uL [eW,RI,(.row false RW)]))]))]⟩]⟩
def lU:Ctr:=⟨112,27,[.agg (uL [eW,RI,(.row false RW)])],[],[⟨(uL [I64]),[.one],[]⟩],ap3 ix⟩
theorem oj:Lk 3 lU:=ls (C:=AR) rfl (aC om (aC Ai (aC k9 aN))) (by kernel_rfl) λh=>by kernel_rfl
def i5:T2p->Option (T2p⊕((Bool×Unit)⊕T2z)):=λ(v0,v1,v2,v3,v4,v5,v6,v7,v8,v9)=>
bif decide (v8 < v7) then ((match ((d7 v8).bind λx0=>
(dK v6 x0).bind λx1=>
(d7 v1).bind λx2=>
(dK v0 x2).bind λx3=>
let x4:=w64 (v2+x3);
bif decide (x4>=x1) then ((d7 v8).bind λx5=>
(dK v0 x5).bind λx6=>
let x7:=w64 (x1+x6);
bif decide (x7>=v2) then (some (.inl (false,()))) else
some (.inr (v0,v1,v2,v3,v4,v5,v6,v7,v8,false,v9))) else
some (.inr (v0,v1,v2,v3,v4,v5,v6,v7,v8,false,v9)):Option ((Bool×Unit)⊕T2z)) with
| none=>none
| some (.inl (x0,_))=>
some (.inr (.inl (x0,())))
| some (.inr (x0,x1,x2,x3,x4,x5,x6,x7,x8,x9,ac))=>
let af:=w64 (x8+1);
some (.inl (x0,x1,x2,x3,x4,x5,x6,x7,af,ac)))) else
some (.inr (.inr (v0,v1,v2,v3,v4,v5,v6,v7,v8,false,v9)))
def i4:T1d->Option (T1d⊕((Bool×Unit)⊕(LI×T1b))):=λ(v0,v1,v2,v3,v4,v5,_)=>
bif decide (v3 < v2) then ((d7 v3).bind λx0=>
(dK v1 x0).bind λx1=>
bif decide (x1 < 0) then (some (.inr (.inl (false,())))) else
(d7 v3).bind λx2=>
(dK v0 x2).bind λx3=>
let x4:=w64 (512 - x3);
bif decide (x1 > x4) then (some (.inr (.inl (false,())))) else
(d7 v3).bind λx5=>
bif (jo 0 x5 v4.length) then let x6:List (Int):=(nu v4 0 (Nat.sub x5 0));
let x7:=dM x6.length;
(match dU i5 NN (v0,v3,x1,v1,v2,v3,x6,x7,0,v4,v5,()) with
| none=>none
| some (.inl (x8,_))=>
some (.inr (.inl (x8,())))
| some (.inr (x8,x9,ac,ae,af,ag,ah,ai,aj,ak,am))=>
let ap:=w64 (ag+1);
some (.inl (x8,ae,af,ap,am))) else none) else
some (.inr (.inr (v0,v1,v2,v3,false,v4,v5,())))
def gD(a0:List (Int)) (a1:Int) (a2:List (Int)):Option (Bool×Unit):=
(gF a2).bind λ(x0,_)=>
bif (!x0) then (some (false,())) else
let x1:=dM a0.length;
let x2:=dM a2.length;
bif (x1 != x2) then (some (false,())) else
let x3:=dM a0.length;
(match dU i4 NN (a2,a0,x3,0,a0,a1,()) with
| none=>none
| some (.inl (x4,_))=>
some (x4,())
| some (.inr (x4,_))=>
some (true,()))
def AX:X.Cfg:=⟨E0,[lW],[],[⟨18,0,qE,[(.ret,(qS [(sP 4 .bool)] [])),(.normal,(qS [(sP 1 RI),(pP 2 6),(sP 5 I64),(sP 6 I64),(sP 21 RI),(sP 22 I64),(sP 23 I64),(sP 42 RI),(sP 43 I64),(sP 44 I64),(sP 66 .bool)] [(6,(uL [RI,CW]))]))]⟩,⟨15,1,(qS [(sP 1 RI),(pP 2 6),(sP 5 I64),(sP 6 I64),(sP 21 RI),(sP 22 I64),(sP 23 I64),(sP 42 RI),(sP 43 I64),(sP 44 I64)] [(6,(uL [RI,CW]))]),[(.ret,(qS [(sP 4 .bool)] [])),(.exit 2,(qS [(sP 1 RI),(pP 2 6),(sP 5 I64),(sP 6 I64),(sP 21 RI),(sP 22 I64),(sP 23 I64),(sP 42 RI),(sP 43 I64),(sP 44 I64),(sP 45 .bool)] [(6,(uL [RI,CW]))]))]⟩,⟨6,2,(qS [(sP 1 RI),(pP 2 6),(sP 21 RI),(sP 22 I64),(sP 23 I64)] [(6,(uL [RI,CW]))]),[(.ret,(qS [(sP 4 .bool)] [])),(.exit 0,(qS [(sP 1 RI),(pP 2 6),(sP 21 RI),(sP 22 I64),(sP 23 I64),(sP 24 .bool)] [(6,(uL [RI,CW]))]))]⟩]⟩
def j4:Ctr:=⟨85,28,[.agg (uL [RI,CW]),shU RI],[],[⟨(uL [.bool]),[.one],[]⟩],ap3 gD⟩
theorem lO:Lk 2 j4:=ls (C:=AX) rfl (aC om aN) (by kernel_rfl) λh=>by kernel_rfl
def uY:T0e->Option (T0e⊕(Int×Int×Bool×LDLn×Unit)):=λ(v0,v1,v2,_)=>
bif decide (v1 < v0) then ((d7 v1).bind λx0=>
(dK v2 x0).bind λx1=>
(dK v2 x0).bind λx2=>
let x3:=(List.modify v2 x0 λe=>((-1),e.2));
let x4:=w64 (v1+1);
some (.inl (v0,x4,x3,()))) else
some (.inr (v0,v1,false,v2,()))
def lG:Option (LDLn×Unit):=
bif (qw 4 4 3) then let x0:LDLn:=(List.replicate 4 (0,(false,[])));
let x1:=dM x0.length;
(dU uY NN (x1,0,x0,())).bind λ(x2,x3,x4,x5,_)=>
some (x5,()) else none
def AW:X.Cfg:=⟨E0,[],[(3,Ni)],[(lx 4 0 [(1,.pk ⟨5,0,[]⟩ [0,0]),(sP 5 I64),(sP 6 I64)] [(5,(uL [iG]))] 7)]⟩
def oB:Ctr:=⟨86,29,[],[],[⟨(uL [iG]),[.one],[]⟩],λh=>lG⟩
theorem sf:Lk 1 oB:=ls (C:=AW) rfl aN (by kernel_rfl) λh=>by kernel_rfl
def pb:T2M->Option (T2M⊕(Int×LLI×Int×Int×LI×T2t)):=λ(v0,v1,v2,v3,v4,v5,v6,v7,v8,v9,v10,v11,v12,v13,v14,v15,_)=>
bif decide (v6 < v5) then ((d7 v6).bind λx0=>
(dK v4 x0).bind λx1=>
(d7 v0).bind λx2=>
(dK v10 x2).bind λx3=>
let x4:=w64 (x3+v6);
(d7 x4).bind λx5=>
(dK v14 x5).bind λx6=>
(dK v14 x5).bind λx7=>
let x8:=List.modify v14 x5 λe=>(e.1,x1);
let x9:=w64 (v6+1);
some (.inl (v0,v1,v2,v3,v4,v5,x9,v7,v8,v9,v10,v11,v12,v13,x8,v15,()))) else
some (.inr (v0,v1,v2,v3,v4,v5,v6,false,v7,v8,v9,v10,v11,v12,v13,v14,v15,()))
def mi:T2A->Option (T2A⊕(T0h⊕T2F)):=λ(v0,v1,v2,v3,v4,v5)=>
bif decide (v2 < v1) then ((d7 v2).bind λx0=>
(dK v0 x0).bind λx1=>
let x2:=dM x1.length;
(d7 v2).bind λx3=>
(dK v4 x3).bind λx4=>
bif decide (x2 > x4) then (some (.inr (.inl (1,(),(),())))) else
let x5:=dM x1.length;
(dU pb NN (v2,v0,v1,v2,x1,x5,0,v3,v4,v5)).bind λ(x6,x7,x8,x9,ac,ae,af,ag,ah)=>
let ax:=w64 (x9+1);
some (.inl (x7,x8,ax,ah))) else
some (.inr (.inr (v0,v1,v2,false,v3,v4,v5)))
def mU(a0:LDIn) (a1:List (Int)) (a2:List LI) (a3:List (Int)) (a4:Int):Option (LDCe×LDLn×Int×Unit):=
(gD a3 a4 a1).bind λ(x0,_)=>
bif (!x0) then (some ([],[],1,())) else
let x1:=dM a2.length;
let x2:=dM a1.length;
bif (x1 != x2) then (some ([],[],1,())) else
bif (qw 512 512 2) then let x3:LDCe:=(List.replicate 512 (0,0));
(lG).bind λ(x4,_)=>
let x5:=dM a2.length;
(match dU mi NN (a2,x5,0,a0,a1,a2,a3,a4,(),(),x3,x4,()) with
| none=>none
| some (.inl (x6,x7,x8,_))=>
some ([],[],x6,())
| some (.inr (x6,x7,x8,x9,ac,ae,af,ag,ah,ai,aj,ak,am,_))=>
some (ak,am,0,())) else none
def C6:X.Cfg:=⟨E0,[j4,oB],[],[⟨16,0,(qS [(pP 2 6),(pP 3 8),(pP 4 10),(pP 6 14),(sP 7 I64),(sP 30 (.row false RW)),(sP 31 I64),(sP 32 I64),(sP 46 RW),(sP 47 I64),(sP 48 I64)] [(6,(uL [eW,RI,(.row false RW)])),(8,(uL [RI,CW])),(10,(uL [N1,N1])),(14,(uL [(.row true KCe),iG]))]),[(.exit 2,(qS [(pP 2 6),(pP 3 8),(pP 4 10),(pP 6 14),(sP 7 I64),(sP 30 (.row false RW)),(sP 31 I64),(sP 32 I64),(sP 46 RW),(sP 47 I64),(sP 48 I64),(sP 49 .bool)] [(6,(uL [eW,RI,(.row false RW)])),(8,(uL [RI,CW])),(10,(uL [N1,N1])),(14,(uL [(.row true KCe),iG]))]))]⟩,⟨7,1,(qS [(pP 2 6),(pP 3 8),(pP 4 10),(pP 6 14),(sP 30 (.row false RW)),(sP 31 I64),(sP 32 I64)] [(6,(uL [eW,RI,(.row false RW)])),(8,(uL [RI,CW])),(10,(uL [N1,N1])),(14,(uL [(.row true KCe),iG]))]),[(.ret,(qS [(pP 4 10),(sP 5 I64)] [(10,(uL [N1,N1]))])),(.exit 0,(qS [(pP 2 6),(pP 3 8),(pP 4 10),(pP 6 14),(sP 30 (.row false RW)),(sP 31 I64),(sP 32 I64),(sP 33 .bool)] [(6,(uL [eW,RI,(.row false RW)])),(8,(uL [RI,CW])),(10,(uL [N1,N1])),(14,(uL [(.row true KCe),iG]))]))]⟩]⟩
def uN:Ctr:=⟨30,30,[.agg (uL [eW,RI,(.row false RW)]),.agg (uL [RI,CW])],[],[⟨(uL [(.row true KCe),iG,I64]),[.agg 2,.one],[]⟩],ap5 mU⟩
theorem Cl:Lk 3 uN:=ls (C:=C6) rfl (aC lO (aC sf aN)) (by kernel_rfl) λh=>by kernel_rfl
def oR:T2k->Option (T2k⊕T2s):=λ(v0,v1,v2,v3,v4,v5,v6,v7,v8,v9,v10,_)=>
bif decide (v0 < 4) then (bif (qw 8 8 2) then let x0:LDCe:=(List.replicate 8 (0,0));
(bif (v0==0) then (some (v0,v1,v2,v3,v4,v5,v6,v7,v8,v9,v10,1,x0,0,0,(-1),(-1),0,0,())) else
some (v0,v1,v2,v3,v4,v5,v6,v7,v8,v9,v10,0,x0,0,0,(-1),(-1),0,0,()):Option (Int×Unit×Int×Unit×Unit×Unit×T2D)).bind λ(x1,x2,x3,x4,x5,x6,x7,x8,x9,ac,ae,af,ag,ah,ai,aj,ak,am,an,_)=>
let ap:LDTh:=[(af,(ag,(ah,(ai,(aj,(ak,(am,an)))))))];
bif (dX 80 ae.length ap.length) then let aq:LDTh:=(List.append ae ap);
let av:=w64 (x1+1);
some (.inl (av,x2,x3,x4,x5,x6,x7,x8,x9,ac,aq,())) else none else none) else
some (.inr (v0,false,v1,v2,v3,v4,v5,v6,v7,v8,v9,v10,()))
def lD(a0:LDIn) (a1:List (Int)) (a2:List LI) (a3:List (Int)) (a4:Int):Option (LI×Int×LDCe×LDLn×LDTh×Int×Unit):=
(ix a0 a1 a2).bind λ(x0,_)=>
bif (x0 != 0) then (some ([],0,[],[],[],x0,())) else
(gD a3 a4 a1).bind λ(x1,_)=>
bif (!x1) then (some ([],0,[],[],[],1,())) else
(mU a0 a1 a2 a3 a4).bind λ(x2,x3,x4,_)=>
bif (dX 8 0 a3.length) then let x5:List (Int):=(List.append [] a3);
(dU oR NN (0,(),0,(),(),(),x5,a4,x2,x3,[],())).bind λ(x6,x7,x8,x9,ac,ae,af,ag,ah,ai,aj,ak,_)=>
some (ag,ah,ai,aj,ak,0,()) else none
def AQ:X.Cfg:=⟨E0,[lU,j4,uN],[(49,JO),(50,JO)],[⟨18,0,qE,[(.normal,(qS [(pP 4 10),(pP 9 20),(pP 11 24),(sP 38 I64)] [(10,(uL [N1,CW,N1,N1,N1])),(20,(uL [RI,CW,eS,fe,nn])),(24,(uL [I64,(.row true KCe),I64,I64,I64,I64,I64,CW]))]))]⟩,(lx 12 1 [(pP 4 10),(pP 9 20),(sP 38 I64)] [(10,(uL [N1,CW,N1,N1,N1])),(20,(uL [RI,CW,eS,fe,nn]))] 39)]⟩
def sR:Ctr:=⟨122,31,[.agg (uL [eW,RI,(.row false RW)]),.agg (uL [RI,CW])],[],[⟨(uL [RI,CW,eS,fe,nn,I64]),[.agg 5,.one],[]⟩],ap5 lD⟩
theorem Ah:Lk 4 sR:=ls (C:=AQ) rfl (aC oj (aC lO (aC Cl aN))) (by kernel_rfl) λh=>by kernel_rfl
def fm(a0:List (Int)) (a1:Int) (a2:Int):Option (Bool×Unit):=
bif decide (a1>=0) then (let x0:Int:=(dM a0.length);
bif decide (a1 < x0) then (bif decide (a2>=0) then ((d7 a1).bind λx1=>
(dK a0 x1).bind λx2=>
some ((decide (a2 < x2)),())) else
some (false,())) else
some (false,())) else
some (false,())
def yp:X.Cfg:=⟨E0,[],[],[]⟩
def iN:Ctr:=⟨162,32,[shU RI,.agg (uL [I64,I64])],[],[⟨(uL [.bool]),[.one],[]⟩],ap3 fm⟩
theorem kL:Lk 1 iN:=ls (C:=yp) rfl aN (by kernel_rfl) λh=>by kernel_rfl
def f8(a0:List (Int)) (a1:Int) (a2:Int) (a3:Int) (a4:Int):Option (Bool×Unit):=
bif (a1==0) then (bif (a3==0) then (some ((a4==0),())) else
some (false,())) else
bif (a1==2) then (bif (a3==0) then (some ((a4==0),())) else
some (false,())) else
bif (a1==1) then (bif (a2==0) then ((fm a0 a3 a4).bind λ(x0,_)=>
some (x0,())) else
some (false,())) else
some (false,())
def yo:X.Cfg:=⟨E0,[iN],[],[]⟩
def iM:Ctr:=⟨98,33,[shU RI,.agg (uL [CB,CW,I64,I64])],[],[⟨(uL [.bool]),[.one],[]⟩],ap5 f8⟩
theorem kK:Lk 2 iM:=ls (C:=yo) rfl (aC kL aN) (by kernel_rfl) λh=>by kernel_rfl
def iu:T22->Option (T22⊕((Bool×Unit)⊕(LI×LLCn×Int×Int×LDCn×T0K))):=λ(v0,v1,v2,v3,v4,v5,v6,v7)=>
bif decide (v6 < v5) then ((d7 v6).bind λx0=>
(dK v4 x0).bind λx1=>
(f8 v0 x1.1 x1.2.1 x1.2.2.1 x1.2.2.2).bind λ(x2,_)=>
bif (!x2) then (some (.inr (.inl (false,())))) else
let x3:=w64 (v6+1);
some (.inl (v0,v1,v2,v3,v4,v5,x3,v7))) else
some (.inr (.inr (v0,v1,v2,v3,v4,v5,v6,false,v7)))
def it:LI×T0U->Option ((LI×T0U)⊕((Bool×Unit)⊕(LI×LLCn×T0K))):=λ(v0,v1,v2,v3,v4)=>
bif decide (v3 < v2) then ((d7 v3).bind λx0=>
(dK v1 x0).bind λx1=>
let x2:=dM x1.length;
(match dU iu NN (v0,v1,v2,v3,x1,x2,0,v4) with
| none=>none
| some (.inl (x3,_))=>
some (.inr (.inl (x3,())))
| some (.inr (x3,x4,x5,x6,x7,x8,x9,ac,ae))=>
let ag:=w64 (x6+1);
some (.inl (x3,x4,x5,ag,ae)))) else
some (.inr (.inr (v0,v1,v2,v3,false,v4)))
def kq(a0:List (Int)) (a1:List LDCn) (a2:LDOp):Option (Bool×Unit):=
let x0:=dM a1.length;
(match dU it NN (a0,a1,x0,0,a1,a2,()) with
| none=>none
| some (.inl (x1,_))=>
some (x1,())
| some (.inr (x1,_))=>
some (true,()))
def yg:X.Cfg:=⟨E0,[iM],[],[⟨9,0,(qS [(sP 0 RI),(sP 10 (.row false ef)),(sP 11 I64),(sP 12 I64),(sP 16 ef),(sP 17 I64),(sP 18 I64)] [(8,(uL [(.row false ef),gt]))]),[(.ret,(qS [(sP 4 .bool)] [])),(.exit 2,(qS [(sP 0 RI),(sP 10 (.row false ef)),(sP 11 I64),(sP 12 I64),(sP 16 ef),(sP 17 I64),(sP 18 I64),(sP 19 .bool)] [(8,(uL [(.row false ef),gt]))]))]⟩,⟨3,1,(qS [(sP 0 RI),(sP 10 (.row false ef)),(sP 11 I64),(sP 12 I64)] [(8,(uL [(.row false ef),gt]))]),[(.ret,(qS [(sP 4 .bool)] [])),(.exit 0,(qS [(sP 0 RI),(sP 10 (.row false ef)),(sP 11 I64),(sP 12 I64),(sP 13 .bool)] [(8,(uL [(.row false ef),gt]))]))]⟩]⟩
def qU:Ctr:=⟨191,34,[shU RI,.agg (uL [(.row false ef),gt])],[],[⟨(uL [.bool]),[.one],[]⟩],ap3 kq⟩
theorem xN:Lk 3 qU:=ls (C:=yg) rfl (aC kK aN) (by kernel_rfl) λh=>by kernel_rfl
def hU:T23->Option (T23⊕(LLCn×T1Q)):=λ(v0,v1,v2,v3,v4,v5,v6,v7,v8,_)=>
bif decide (v2 < v1) then ((d7 v2).bind λx0=>
(dK v0 x0).bind λx1=>
bif (dX 24 0 x1.length) then let x2:LDCn:=(List.append [] x1);
bif (dX 24 v7.length (List.length [x2])) then let x3:List LDCn:=(List.append v7 [x2]);
let x4:=w64 (v2+1);
some (.inl (v0,v1,x4,v3,v4,v5,v6,x3,v8,())) else none else none) else
some (.inr (v0,v1,v2,false,v3,v4,v5,v6,v7,v8,()))
def fF(a0:List LDCn) (a1:LDOp):Option (T08):=
bif (dX 24 0 a1.length) then let x0:LDOp:=(List.append [] a1);
let x1:=dM a0.length;
(dU hU NN (a0,x1,0,a0,a1,(),(),[],x0,())).bind λ(x2,x3,x4,x5,x6,x7,x8,x9,ac)=>
some (ac) else none
def CH:X.Cfg:=⟨E0,[],[(21,(.row true KCn)),(22,(.row true KCn))],[(lx 4 0 [(pP 2 6),(pP 3 8),(sP 11 (.row false ef)),(sP 12 I64),(sP 13 I64)] [(4,(uL [(.row false ef),gt])),(6,(uL [N1,N1])),(8,(uL [(.row true (.row true KCn)),(.row true KOp)]))] 14)]⟩
def io:Ctr:=⟨224,35,[.agg (uL [(.row false ef),gt])],[],[⟨(uL [(.row true (.row true KCn)),(.row true KOp)]),[.agg 2],[]⟩],ap2 fF⟩
theorem jj:Lk 1 io:=ls (C:=CH) rfl aN (by kernel_rfl) λh=>by kernel_rfl
def hJ:LDOu×Int×Int×LDOu×Unit->Option ((LDOu×Int×Int×LDOu×Unit)⊕(LDOu×Int×Int×Bool×LDOu×Unit)):=λ(v0,v1,v2,v3,_)=>
bif decide (v2 < v1) then ((d7 v2).bind λx0=>
(dK v0 x0).bind λx1=>
bif (dX 24 0 x1.2.2.length) then let x2:LDCn:=(List.append [] x1.2.2);
let x3:LDOu:=[(x1.1,(x1.2.1,x2))];
bif (dX 40 v3.length x3.length) then let x4:LDOu:=(List.append v3 x3);
let x5:=w64 (v2+1);
some (.inl (v0,v1,x5,x4,())) else none else none) else
some (.inr (v0,v1,v2,false,v3,()))
def jb(a0:LDOu):Option (LDOu×Unit):=
let x0:=dM a0.length;
(dU hJ NN (a0,x0,0,[],())).bind λ(x1,x2,x3,x4,x5,_)=>
some (x5,())
def CC:X.Cfg:=⟨E0,[],[(18,EV),(19,EV)],[(lx 4 0 [(3,.pk ⟨9,0,[]⟩ [0,0]),(sP 6 iH),(sP 7 I64),(sP 8 I64)] [(9,(uL [(.row true EV)]))] 9)]⟩
def pJ:Ctr:=⟨225,36,(uL [iH]),[],[⟨(uL [(.row true EV)]),[.one],[]⟩],ap1 jb⟩
theorem uf:Lk 1 pJ:=ls (C:=CC) rfl aN (by kernel_rfl) λh=>by kernel_rfl
def kR(a0:List (Int)) (a1:List (Int)) (a2:List LI) (a3:List LDCn) (a4:LDOp) (a5:LDOu):Option (T1e):=
bif (dX 2 0 a0.length) then let x0:List (Int):=(List.append [] a0);
bif (dX 2 0 a1.length) then let x1:List (Int):=(List.append [] a1);
(fu a2).bind λ(x2,_)=>
(fF a3 a4).bind λ(x3,x4,_)=>
(jb a5).bind λ(x5,_)=>
some (x0,x1,x2,x3,x4,x5,()) else none else none
def Cy:X.Cfg:=⟨E0,[gZ,io,pJ],[],[]⟩
def pG:Ctr:=⟨192,37,[.agg (uL [RW,RW,(.row false RW),(.row false ef),gt,iH])],[],[⟨(uL [(.row true CW),(.row true CW),(.row true (.row true CW)),(.row true (.row true KCn)),(.row true KOp),(.row true EV)]),[.agg 6],[]⟩],ap6 kR⟩
theorem ue:Lk 2 pG:=ls (C:=Cy) rfl (aC jV (aC jj (aC uf aN))) (by kernel_rfl) λh=>by kernel_rfl
def xI:T15->Option (T15⊕T1l):=λ(v0,v1,v2,v3,v4,v5,_)=>
bif decide (v1 < v0) then ((d7 v1).bind λx0=>
(dK v4 x0).bind λx1=>
(dK v4 x0).bind λx2=>
let x3:=List.modify v4 x0 λe=>(-1);
let x4:=w64 (v1+1);
some (.inl (v0,x4,v2,v3,x3,v5,()))) else
some (.inr (v0,v1,false,v2,v3,v4,v5,()))
def rm:Option (T07):=
bif (qw 4 4 1) then let x0:List (Int):=(List.replicate 4 0);
bif (qw 4 4 1) then let x1:List LI:=(List.replicate 4 []);
let x2:=dM x0.length;
(dU xI NN (x2,0,(),(),x0,x1,())).bind λ(x3,x4,x5,x6,x7,x8)=>
some (x8) else none else none
def Ei:X.Cfg:=⟨E0,[],[(4,(.row true I64))],[(lx 4 0 [(pP 0 2),(pP 1 4),(sP 8 I64),(sP 9 I64)] [(2,(uL [N1,N1])),(4,(uL [(.row true I64),(.row true (.row true I64))]))] 10)]⟩
def xq:Ctr:=⟨193,38,[],[],[⟨(uL [(.row true I64),(.row true (.row true I64))]),[.agg 2],[]⟩],λh=>rm⟩
theorem D7:Lk 1 xq:=ls (C:=Ei) rfl aN (by kernel_rfl) λh=>by kernel_rfl
def oO:T3t->Option (T3t⊕(Int×Bool×T3q)):=λ(v0,v1,v2,v3,v4,v5,v6,v7,v8,v9,v10,v11,v12,v13,v14,v15,v16,v17,v18,v19,v20,v21,v22,v23,v24,v25,v26,v27,v28,v29,v30,v31,v32,v33,v34,v35,v36,_)=>
bif decide (v0 < 4) then (bif (dX 8 v36.length (List.length [(-1)])) then let x0:List (Int):=(List.append v36 [(-1)]);
let x1:=w64 (v0+1);
some (.inl (x1,v1,v2,v3,v4,v5,v6,v7,v8,v9,v10,v11,v12,v13,v14,v15,v16,v17,v18,v19,v20,v21,v22,v23,v24,v25,v26,v27,v28,v29,v30,v31,v32,v33,v34,v35,x0,())) else none) else
some (.inr (v0,false,v1,v2,v3,v4,v5,v6,v7,v8,v9,v10,v11,v12,v13,v14,v15,v16,v17,v18,v19,v20,v21,v22,v23,v24,v25,v26,v27,v28,v29,v30,v31,v32,v33,v34,v35,v36,()))
def ln(a0:LDIn) (a1:List (Int)) (a2:List LI) (a3:List (Int)) (a4:Int) (a5:List (Int)) (a6:List (Int)) (a7:List LI) (a8:List LDCn) (a9:LDOp) (a10:LDOu):Option (LDIn×LI×LLI×LI×Int×LDCe×LDLn×LDTh×LI×LI×LLI×LLCn×LDOp×LDOu×LI×LLI×Unit×T06):=
(lD a0 a1 a2 a3 a4).bind λ(x0,x1,x2,x3,x4,x5,_)=>
bif (x5 != 0) then (some ([],[],[],[],0,[],[],[],[],[],[],[],[],[],[],[],(),[],x5,())) else
(iv a5 a6 a7 a8 a9 a10).bind λ(x6,_)=>
bif (!x6) then (some ([],[],[],[],0,[],[],[],[],[],[],[],[],[],[],[],(),[],1,())) else
(kq a1 a8 a9).bind λ(x7,_)=>
bif (!x7) then (some ([],[],[],[],0,[],[],[],[],[],[],[],[],[],[],[],(),[],1,())) else
(kR a5 a6 a7 a8 a9 a10).bind λ(x8,x9,ac,ae,af,ag,_)=>
(rm).bind λ(ah,ai,_)=>
(dU oO NN (0,(),(),(),(),0,(),(),(),(),(),(),(),(),(),(),(),(),(),a0,a1,a2,x0,x1,x2,x3,x4,x8,x9,ac,ae,af,ag,ah,ai,(),[],())).bind λ(aj,ak,am,an,ap,aq,av,ax,ay,az,aA,aB,aD,aE,aF,aG,aH,aI,aJ,aK,aL,aM,aO,aP,aQ,aR,aS,aT,aU,aV,aW,aY,aZ,ba,bc,bd,be,bf,_)=>
some (aL,aM,aO,aP,aQ,aR,aS,aT,aU,aV,aW,aY,aZ,ba,bc,bd,be,bf,0,())
def Au:X.Cfg:=⟨E0,[sR,lR,qU,pG,xq],[],[(lx 11 0 [(pP 6 14),(pP 10 22),(sP 39 I64)] [(14,(uL [N1,N1,N1,N1,CW,N1,N1,N1,N1,N1,N1,N1,N1,N1,N1,N1,N1,N1])),(22,(uL [eW,RI,(.row false RW),RI,CW,eS,fe,fA,RW,RW,(.row false RW),(.row false ef),gt,iH,RI,(.row false RI),N1,(.row true I64)]))] 40)]⟩
def sC:Ctr:=⟨133,39,[.agg (uL [eW,RI,(.row false RW)]),.agg (uL [RI,CW]),.agg (uL [RW,RW,(.row false RW),(.row false ef),gt,iH])],[],[⟨(uL [eW,RI,(.row false RW),RI,CW,eS,fe,fA,RW,RW,(.row false RW),(.row false ef),gt,iH,RI,(.row false RI),N1,(.row true I64),I64]),[.agg 18,.one],[]⟩],ap11 ln⟩
theorem zU:Lk 5 sC:=ls (C:=Au) rfl (aC Ah (aC og (aC xN (aC ue (aC D7 aN))))) (by kernel_rfl) λh=>by kernel_rfl
def lL(a0:List (Int)) (a1:Int):Option (T0J):=
(dL 4 a0 a1).bind λ(x0,x1,x2,_)=>
let x3:List (Int):=[0,1,2,3,7,63];
(dL 6 x1 x2).bind λ(x4,x5,x6,_)=>
(d7 x4).bind λx7=>
(dK x3 x7).bind λx8=>
(dK x3 x7).bind λx9=>
(dL 4 x5 x6).bind λ(ac,ae)=>
some (x0,x9,(ac==0),ae)
def Bc:X.Cfg:=⟨E0,[fw],[],[]⟩
def s6:Ctr:=⟨137,40,[.ptr ⟨2,0,[]⟩ [0]],[(2,(uL [RI,I64]))],[⟨(uL [I64,I64,.bool]),[.agg 3],[(2,(uL [RI,I64]))]⟩],ap2 lL⟩
theorem Aq:Lk 4 s6:=ls (C:=Bc) rfl (aC fL aN) (by kernel_rfl) λh=>by kernel_rfl
def gQ:T0y->Option (T0y⊕(LDTh×Int×Int×T00)):=λ(v0,v1,v2,v3,_)=>
bif decide (v2 < v1) then (((d7 v2).bind λx0=>
(dK v0 x0).bind λx1=>
bif (x1.1==1) then (bif (dX 8 v3.length (List.length [v2])) then let x2:List (Int):=(List.append v3 [v2]);
some (v0,v1,v2,x2,()) else none) else
some (v0,v1,v2,v3,()):Option (T0y)).bind λ(x0,x1,x2,x3,_)=>
let x4:=w64 (x2+1);
some (.inl (x0,x1,x4,x3,()))) else
some (.inr (v0,v1,v2,false,v3,()))
def lC(a0:LDTh):Option (LI×Unit):=
let x0:=dM a0.length;
(dU gQ NN (a0,x0,0,[],())).bind λ(x1,x2,x3,x4,x5,_)=>
some (x5,())
def AN:X.Cfg:=⟨E0,[],[],[⟨7,0,qE,[(.normal,(qS [(3,.pk ⟨9,0,[]⟩ [0,0]),(sP 6 fA),(sP 7 I64),(sP 8 I64)] [(9,(uL [(.row true I64)]))]))]⟩,(lx 4 1 [(3,.pk ⟨9,0,[]⟩ [0,0]),(sP 6 fA),(sP 7 I64),(sP 8 I64)] [(9,(uL [(.row true I64)]))] 9)]⟩
def sN:Ctr:=⟨195,41,(uL [fA]),[],[⟨(uL [(.row true I64)]),[.one],[]⟩],ap1 lC⟩
theorem Ae:Lk 1 sN:=ls (C:=AN) rfl aN (by kernel_rfl) λh=>by kernel_rfl
def kt(a0:LDIn) (a1:List (Int)) (a2:List LI) (a3:List (Int)) (a4:Int) (a5:LDCe) (a6:LDLn) (a7:LDTh) (a8:List (Int)) (a9:List (Int)) (a10:List LI) (a11:List LDCn) (a12:LDOp) (a13:LDOu) (a14:List (Int)) (a15:List LI) (a16:LDEn) (a17:List (Int)):Option (T2T):=
bif (dX 8 0 a17.length) then let x0:List (Int):=(List.append [] a17);
bif (dX 184 0 a16.length) then let x1:LDEn:=(List.append [] a16);
some (a0,a1,a2,a3,a4,a5,a6,a7,a8,a9,a10,a11,a12,a13,a14,a15,x1,x0,()) else none else none
def yh:X.Cfg:=⟨E0,[],[(9,JP)],[]⟩
def qV:Ctr:=⟨196,42,[.agg (uL [eW,RI,(.row false RW),RI,CW,eS,fe,fA,RW,RW,(.row false RW),(.row false ef),gt,iH,RI,(.row false RI),FY,RI])],[],[⟨(uL [eW,RI,(.row false RW),RI,CW,eS,fe,fA,RW,RW,(.row false RW),(.row false ef),gt,iH,RI,(.row false RI),(.row true rJ),(.row true I64)]),[.agg 18],[]⟩],ap18 kt⟩
theorem xO:Lk 1 qV:=ls (C:=yh) rfl aN (by kernel_rfl) λh=>by kernel_rfl
def md(a0:List (Int)) (a1:Int) (a2:LDCe) (a3:LDLn) (a4:LDTh) (a5:Int):Option (Bool×Unit):=
bif decide (a5 < 0) then (some (false,())) else
let x0:=dM a4.length;
bif decide (a5>=x0) then (some (false,())) else
(d7 a5).bind λx1=>
(dK a4 x1).bind λx2=>
bif (x2.1==1) then (bif (x2.2.2.2.2.1 != (-1)) then (some ((x2.2.2.2.2.2.1==(-1)),())) else
some (false,())) else
some (false,())
def Eh:X.Cfg:=⟨E0,[],[],[]⟩
def rF:Ctr:=⟨197,43,[.agg (uL [RI,CW,eS,fe,fA]),shU I64],[],[⟨(uL [.bool]),[.one],[]⟩],ap6 md⟩
theorem wo:Lk 1 rF:=ls (C:=Eh) rfl aN (by kernel_rfl) λh=>by kernel_rfl
def ic:T1X->Option (T1X⊕(LDLn×Int×Int×Bool×T19)):=λ(v0,v1,v2,v3,v4,v5,v6,v7,v8,_)=>
bif decide (v2 < v1) then ((d7 v2).bind λx0=>
(dK v0 x0).bind λx1=>
bif (dX 4 0 x1.2.2.length) then let x2:LDCe:=(List.append [] x1.2.2);
let x3:LDLn:=[(x1.1,(x1.2.1,x2))];
bif (dX 40 v8.length x3.length) then let x4:LDLn:=(List.append v8 x3);
let x5:=w64 (v2+1);
some (.inl (v0,v1,x5,v3,v4,v5,v6,v7,x4,())) else none else none) else
some (.inr (v0,v1,v2,false,v3,v4,v5,v6,v7,v8,()))
def mV(a0:LDCe) (a1:LDLn):Option (T04):=
bif (dX 4 0 a0.length) then let x0:LDCe:=(List.append [] a0);
let x1:=dM a1.length;
(dU ic NN (a1,x1,0,a0,a1,(),(),x0,[],())).bind λ(x2,x3,x4,x5,x6,x7,x8,x9,ac)=>
some (ac) else none
def C7:X.Cfg:=⟨E0,[],[(24,Ni),(25,Ni)],[(lx 4 0 [(pP 2 6),(pP 3 8),(sP 11 fe),(sP 12 I64),(sP 13 I64)] [(4,(uL [eS,fe])),(6,(uL [N1,N1])),(8,(uL [(.row true KCe),iG]))] 14)]⟩
def uO:Ctr:=⟨71,44,[.agg (uL [eS,fe])],[],[⟨(uL [(.row true KCe),iG]),[.agg 2],[]⟩],ap2 mV⟩
theorem Cm:Lk 1 uO:=ls (C:=C7) rfl aN (by kernel_rfl) λh=>by kernel_rfl
def ib:T2U->Option (T2U⊕T2Y):=λ(v0,v1,v2,v3,v4,v5,v6,v7,v8,v9,v10,v11,v12,v13,v14,v15,v16,v17,_)=>
bif decide (v2 < v1) then ((d7 v2).bind λx0=>
(dK v0 x0).bind λx1=>
bif (dX 4 0 x1.2.1.length) then let x2:LDCe:=(List.append [] x1.2.1);
let x3:LDTh:=[(x1.1,(x2,(x1.2.2.1,(x1.2.2.2.1,(x1.2.2.2.2.1,(x1.2.2.2.2.2.1,(x1.2.2.2.2.2.2.1,x1.2.2.2.2.2.2.2)))))))];
bif (dX 80 v17.length x3.length) then let x4:LDTh:=(List.append v17 x3);
let x5:=w64 (v2+1);
some (.inl (v0,v1,x5,v3,v4,v5,v6,v7,v8,v9,v10,v11,v12,v13,v14,v15,v16,x4,())) else none else none) else
some (.inr (v0,v1,v2,false,v3,v4,v5,v6,v7,v8,v9,v10,v11,v12,v13,v14,v15,v16,v17,()))
def gv(a0:List (Int)) (a1:Int) (a2:LDCe) (a3:LDLn) (a4:LDTh):Option (T0S):=
bif (dX 8 0 a0.length) then let x0:List (Int):=(List.append [] a0);
(mV a2 a3).bind λ(x1,x2,_)=>
let x3:=dM a4.length;
(dU ib NN (a4,x3,0,a0,a1,a2,a3,a4,(),0,(),(),(),x0,a1,x1,x2,[],())).bind λ(x4,x5,x6,x7,x8,x9,ac,ae,af,ag,ah,ai,aj,ak,am)=>
some (am) else none
def CX:X.Cfg:=⟨E0,[uO],[(32,JO),(33,JO)],[(lx 4 0 [(pP 2 6),(pP 3 8),(sP 19 fA),(sP 20 I64),(sP 21 I64)] [(4,(uL [RI,CW,eS,fe,fA])),(6,(uL [N1,CW,N1,N1,N1])),(8,(uL [RI,CW,(.row true KCe),iG,nn]))] 22)]⟩
def jl:Ctr:=⟨31,45,[.agg (uL [RI,CW,eS,fe,fA])],[],[⟨(uL [RI,CW,(.row true KCe),iG,nn]),[.agg 5],[]⟩],ap5 gv⟩
theorem k8:Lk 2 jl:=ls (C:=CX) rfl (aC Cm aN) (by kernel_rfl) λh=>by kernel_rfl
def jB(a0:List (Int)) (a1:Int) (a2:LDCe) (a3:LDLn) (a4:LDTh) (a5:Int):Option (T1c):=
(gv a0 a1 a2 a3 a4).bind λ(x0,x1,x2,x3,x4,_)=>
(md a0 a1 a2 a3 a4 a5).bind λ(x5,_)=>
bif (!x5) then (some (x0,x1,x2,x3,x4,false,())) else
(d7 a5).bind λx6=>
(dK x4 x6).bind λx7=>
(dK x4 x6).bind λx8=>
(dK x4 x6).bind λx9=>
(dK x4 x6).bind λac=>
let ae:=(List.modify x4 x6 λe=>(e.1,(e.2.1,(e.2.2.1,(e.2.2.2.1,(e.2.2.2.2.1,(x8.2.2.1,e.2.2.2.2.2.2)))))));
(dK ae x6).bind λaf=>
let ag:=(List.modify ae x6 λe=>(e.1,(e.2.1,(x9.2.2.2.2.1,e.2.2.2))));
some (x0,x1,x2,x3,ag,true,())
def wH:X.Cfg:=⟨E0,[jl,rF],[],[]⟩
def pK:Ctr:=⟨198,46,[.agg (uL [RI,CW,eS,fe,fA]),shU I64],[],[⟨(uL [RI,CW,(.row true KCe),iG,nn,.bool]),[.agg 5,.one],[]⟩],ap6 jB⟩
theorem wn:Lk 3 pK:=ls (C:=wH) rfl (aC k8 (aC wo aN)) (by kernel_rfl) λh=>by kernel_rfl
def jO(a0:Int) (a1:Int):Option (Bool×Unit):=
some ((decide (a0<=2)),())
def A3:X.Cfg:=⟨E0,[],[],[]⟩
def oD:Ctr:=⟨149,47,[.agg (uL [CB,CW])],[],[⟨(uL [.bool]),[.one],[]⟩],ap2 jO⟩
theorem sg:Lk 1 oD:=ls (C:=A3) rfl aN (by kernel_rfl) λh=>by kernel_rfl
def kC:T0i->Option (T0i⊕((Bool×Unit)⊕(LDCe×T0c))):=λ(v0,v1,v2,_)=>
bif decide (v2 < v1) then ((d7 v2).bind λx0=>
(dK v0 x0).bind λx1=>
(jO x1.1 x1.2).bind λ(x2,_)=>
bif (!x2) then (some (.inr (.inl (false,())))) else
let x3:=w64 (v2+1);
some (.inl (v0,v1,x3,()))) else
some (.inr (.inr (v0,v1,v2,false,())))
def mh(a0:LDCe):Option (Bool×Unit):=
let x0:=dM a0.length;
(match dU kC NN (a0,x0,0,()) with
| none=>none
| some (.inl (x1,_))=>
some (x1,())
| some (.inr (x1,_))=>
some (true,()))
def Eo:X.Cfg:=⟨E0,[oD],[],[⟨3,0,(qS [(sP 5 eS),(sP 6 I64),(sP 7 I64)] []),[(.ret,(qS [(sP 2 .bool)] [])),(.exit 0,(qS [(sP 5 eS),(sP 6 I64),(sP 7 I64),(sP 8 .bool)] []))]⟩]⟩
def xx:Ctr:=⟨74,48,(uL [eS]),[],[⟨(uL [.bool]),[.one],[]⟩],ap1 mh⟩
theorem Ec:Lk 2 xx:=ls (C:=Eo) rfl (aC sg aN) (by kernel_rfl) λh=>by kernel_rfl
def i3:LDLn×T0s->Option ((LDLn×T0s)⊕((Bool×Unit)⊕(LDLn×Int×Int×Bool×T04))):=λ(v0,v1,v2,v3)=>
bif decide (v2 < v1) then ((d7 v2).bind λx0=>
(dK v0 x0).bind λx1=>
bif (x1.1==(-1)) then (bif x1.2.1 then (some (.inr (.inl (false,())))) else
let x2:=dM x1.2.2.length;
bif decide (x2 > 0) then (some (.inr (.inl (false,())))) else
let x3:=w64 (v2+1);
some (.inl (v0,v1,x3,v3))) else
(bif decide (x1.1 < 0) then (some (v0,v1,v2,true,v3)) else
bif decide (x1.1>=128) then (some (v0,v1,v2,true,v3)) else
let x2:=Int.tmod x1.1 4;
bif (x2 != v2) then (some (v0,v1,v2,true,v3)) else
let x3:=dM x1.2.2.length;
bif (x3 != 4) then (some (v0,v1,v2,true,v3)) else
(mh x1.2.2).bind λ(x4,_)=>
some (v0,v1,v2,(!x4),v3):Option (LDLn×Int×Int×Bool×T04)).bind λ(x2,x3,x4,x5,x6)=>
bif x5 then (some (.inr (.inl (false,())))) else
let x8:=w64 (x4+1);
some (.inl (x2,x3,x8,x6))) else
some (.inr (.inr (v0,v1,v2,false,v3)))
def lF(a0:LDCe) (a1:LDLn):Option (Bool×Unit):=
(let x0:=dM a0.length;
bif (x0 != 512) then (some (true,a0,a1,())) else
let x1:=dM a1.length;
bif (x1 != 4) then (some (true,a0,a1,())) else
(mh a0).bind λ(x2,_)=>
some ((!x2),a0,a1,()):Option (Bool×T04)).bind λ(x0,x1,x2,_)=>
bif x0 then (some (false,())) else
let x3:=dM x2.length;
(match dU i3 NN (x2,x3,0,x1,x2,()) with
| none=>none
| some (.inl (x4,_))=>
some (x4,())
| some (.inr (x4,_))=>
some (true,()))
def AV:X.Cfg:=⟨E0,[xx],[],[⟨2,0,qE,[(.normal,(qS [(pP 1 4),(sP 20 .bool)] [(4,(uL [eS,fe]))]))]⟩,⟨16,1,qE,[(.normal,(qS [(sP 22 fe),(sP 23 I64),(sP 24 I64),(sP 66 .bool)] [(4,(uL [eS,fe]))]))]⟩,⟨6,2,(qS [(sP 22 fe),(sP 23 I64),(sP 24 I64)] [(4,(uL [eS,fe]))]),[(.ret,(qS [(sP 2 .bool)] [])),(.exit 0,(qS [(sP 22 fe),(sP 23 I64),(sP 24 I64),(sP 25 .bool)] [(4,(uL [eS,fe]))]))]⟩]⟩
def sT:Ctr:=⟨24,49,[.agg (uL [eS,fe])],[],[⟨(uL [.bool]),[.one],[]⟩],ap2 lF⟩
theorem Aj:Lk 3 sT:=ls (C:=AV) rfl (aC Ec aN) (by kernel_rfl) λh=>by kernel_rfl
def iV:T2l->Option (T2l⊕((Bool×Unit)⊕(LDCe×Int×Int×Bool×T1I))):=λ(v0,v1,v2,v3)=>
bif decide (v2 < v1) then ((d7 v2).bind λx0=>
(dK v0 x0).bind λx1=>
(jO x1.1 x1.2).bind λ(x2,_)=>
bif (!x2) then (some (.inr (.inl (false,())))) else
let x3:=w64 (v2+1);
some (.inl (v0,v1,x3,v3))) else
some (.inr (.inr (v0,v1,v2,false,v3)))
def lB(a0:Int) (a1:LDCe) (a2:Int) (a3:Int) (a4:Int) (a5:Int) (a6:Int) (a7:Int):Option (Bool×Unit):=
let x0:=dM a1.length;
(match dU iV NN (a1,x0,0,a0,a1,a2,a3,a4,a5,a6,a7,()) with
| none=>none
| some (.inl (x1,_))=>
some (x1,())
| some (.inr (x1,x2,x3,x4,x5,x6,x7,x8,x9,ac,ae,af,_))=>
bif decide (x5>=0) then (bif decide (x5<=4) then (let ag:Int:=(dM x6.length);
bif (ag==8) then (bif decide (x7>=0) then (bif decide (x7<=255) then (bif decide (x8>=0) then (bif decide (x8<=1099511627776) then (bif (decide (x9>=(-1))) then (bif decide (x9<=255) then (bif (decide (ac>=(-1))) then (bif decide (ac<=255) then (bif decide (ae>=0) then (some ((decide (ae<=6)),())) else
some (false,())) else
some (false,())) else
some (false,())) else
some (false,())) else
some (false,())) else
some (false,())) else
some (false,())) else
some (false,())) else
some (false,())) else
some (false,())) else
some (false,())) else
some (false,()))
def AM:X.Cfg:=⟨E0,[oD],[],[⟨3,0,(qS [(pP 1 4),(sP 6 eS),(sP 7 I64),(sP 8 I64)] [(4,(uL [I64,eS,I64,I64,I64,I64,I64,CW]))]),[(.ret,(qS [(sP 2 .bool)] [])),(.exit 0,(qS [(pP 1 4),(sP 6 eS),(sP 7 I64),(sP 8 I64),(sP 9 .bool)] [(4,(uL [I64,eS,I64,I64,I64,I64,I64,CW]))]))]⟩]⟩
def sM:Ctr:=⟨127,50,[.agg (uL [I64,eS,I64,I64,I64,I64,I64,CW])],[],[⟨(uL [.bool]),[.one],[]⟩],ap8 lB⟩
theorem Ad:Lk 2 sM:=ls (C:=AM) rfl (aC sg aN) (by kernel_rfl) λh=>by kernel_rfl
def li:T1K->Option (T1K⊕((Bool×Unit)⊕(LDTh×Int×Int×T0Y))):=λ(v0,v1,v2,v3)=>
bif decide (v2 < v1) then ((d7 v2).bind λx0=>
(dK v0 x0).bind λx1=>
(lB x1.1 x1.2.1 x1.2.2.1 x1.2.2.2.1 x1.2.2.2.2.1 x1.2.2.2.2.2.1 x1.2.2.2.2.2.2.1 x1.2.2.2.2.2.2.2).bind λ(x2,_)=>
bif (!x2) then (some (.inr (.inl (false,())))) else
let x3:=w64 (v2+1);
some (.inl (v0,v1,x3,v3))) else
some (.inr (.inr (v0,v1,v2,false,v3)))
def iw(a0:LDIn) (a1:List (Int)) (a2:List LI) (a3:List (Int)) (a4:Int) (a5:LDCe) (a6:LDLn) (a7:LDTh):Option (Bool×Unit):=
((ix a0 a1 a2).bind λ(x0,_)=>
bif (x0 != 0) then (some (true,a3,a4,a5,a6,a7,())) else
(gD a3 a4 a1).bind λ(x1,_)=>
bif (!x1) then (some (true,a3,a4,a5,a6,a7,())) else
(lF a5 a6).bind λ(x2,_)=>
bif (!x2) then (some (true,a3,a4,a5,a6,a7,())) else
let x3:=dM a7.length;
some ((x3 != 4),a3,a4,a5,a6,a7,()):Option (T0Y)).bind λ(x0,x1,x2,x3,x4,x5,_)=>
bif x0 then (some (false,())) else
let x6:=dM x5.length;
(match dU li NN (x5,x6,0,x1,x2,x3,x4,x5,()) with
| none=>none
| some (.inl (x7,_))=>
some (x7,())
| some (.inr (x7,_))=>
some (true,()))
def AK:X.Cfg:=⟨E0,[lU,j4,sT,sM],[],[⟨2,0,qE,[(.normal,(qS [(pP 3 8),(sP 29 .bool)] [(8,(uL [RI,CW,eS,fe,fA]))]))]⟩,⟨6,1,(qS [(sP 31 fA),(sP 32 I64),(sP 33 I64)] [(8,(uL [RI,CW,eS,fe,fA]))]),[(.ret,(qS [(sP 4 .bool)] [])),(.exit 0,(qS [(sP 31 fA),(sP 32 I64),(sP 33 I64),(sP 34 .bool)] [(8,(uL [RI,CW,eS,fe,fA]))]))]⟩]⟩
def lT:Ctr:=⟨54,51,[.agg (uL [eW,RI,(.row false RW)]),.agg (uL [RI,CW,eS,fe,fA])],[],[⟨(uL [.bool]),[.one],[]⟩],ap8 iw⟩
theorem oi:Lk 4 lT:=ls (C:=AK) rfl (aC oj (aC lO (aC Aj (aC Ad aN)))) (by kernel_rfl) λh=>by kernel_rfl
def fb(a0:Nat) (a1:Int) (a2:LDTh):Option (Int×LDTh×Unit):=
(dK a2 a0).bind λx0=>
let x1:=List.modify a2 a0 λe=>(4,e.2);
(dK x1 a0).bind λx2=>
let x3:=(List.modify x1 a0 λe=>(e.1,(e.2.1,(e.2.2.1,(e.2.2.2.1,(e.2.2.2.2.1,(e.2.2.2.2.2.1,(a1,e.2.2.2.2.2.2.2))))))));
(dK x3 a0).bind λx4=>
let x5:=(List.modify x3 a0 λe=>(e.1,(e.2.1,(e.2.2.1,(e.2.2.2.1,(e.2.2.2.2.1,(e.2.2.2.2.2.1,(e.2.2.2.2.2.2.1,0))))))));
some (2,x5,())
def CQ:X.Cfg:=⟨E0,[],[],[]⟩
def uH:Ctr:=⟨248,52,[.ptr ⟨2,0,[((),(8,0))]⟩ [0,0],shU I64],[(2,(uL [nn]))],[⟨(uL [I64]),[.one],[(2,(uL [nn]))]⟩],ap3 fb⟩
theorem Cg:Lk 1 uH:=ls (C:=CQ) rfl aN (by kernel_rfl) λh=>by kernel_rfl
def eJ:T20->Option (T20⊕(T0b⊕(LI×T1U))):=λ(v0,v1,v2,v3,v4,v5)=>
bif decide (v4 < v3) then ((match ((d7 v4).bind λx0=>
(dK v2 x0).bind λx1=>
bif decide (v1>=x1) then ((d7 v4).bind λx2=>
(dK v0 x2).bind λx3=>
let x4:=w64 (x1+x3);
bif decide (v1 < x4) then (let x5:Int:=(w64 (v1 - x1));
some (.inl (true,v4,x5,()))) else
some (.inr (v0,v1,v4,x1,v2,v3,v4,false,v5))) else
some (.inr (v0,v1,v4,x1,v2,v3,v4,false,v5)):Option (T0b⊕(LI×Int×Int×T1U))) with
| none=>none
| some (.inl (x0,x1,x2,_))=>
some (.inr (.inl (x0,x1,x2,())))
| some (.inr (x0,x1,x2,x3,x4,x5,x6,x7,x8))=>
let af:=w64 (x6+1);
some (.inl (x0,x1,x4,x5,af,x8)))) else
some (.inr (.inr (v0,v1,v2,v3,v4,false,v5)))
def fa(a0:List (Int)) (a1:Int) (a2:List (Int)) (a3:Int):Option (T0c):=
let x0:=dM a0.length;
(match dU eJ NN (a2,a3,a0,x0,0,a0,a1,0,0,()) with
| none=>none
| some (.inl (x1,x2,x3,_))=>
some (x2,x3,x1,())
| some (.inr (x1,x2,x3,_))=>
some (0,0,false,()))
def wM:X.Cfg:=⟨E0,[],[],[⟨6,0,qE,[(.ret,(qS [(pP 6 14),(sP 7 .bool)] [(14,(uL [I64,I64]))])),(.normal,(qS [(sP 1 RI),(sP 2 I64),(pP 6 14),(sP 8 I64),(sP 9 I64),(sP 11 RI),(sP 12 I64),(sP 13 I64),(sP 30 .bool)] [(8,(uL [RI,CW])),(14,(uL [I64,I64]))]))]⟩,⟨3,1,(qS [(sP 1 RI),(sP 2 I64),(pP 6 14),(sP 11 RI),(sP 12 I64),(sP 13 I64)] [(8,(uL [RI,CW])),(14,(uL [I64,I64]))]),[(.ret,(qS [(pP 6 14),(sP 7 .bool)] [(14,(uL [I64,I64]))])),(.exit 0,(qS [(sP 1 RI),(sP 2 I64),(pP 6 14),(sP 11 RI),(sP 12 I64),(sP 13 I64),(sP 14 .bool)] [(8,(uL [RI,CW])),(14,(uL [I64,I64]))]))]⟩]⟩
def iq:Ctr:=⟨121,53,[.agg (uL [RI,CW]),shU RI,shU I64],[],[⟨(uL [I64,I64,.bool]),[.agg 2,.one],[]⟩],ap4 fa⟩
theorem jW:Lk 1 iq:=ls (C:=wM) rfl aN (by kernel_rfl) λh=>by kernel_rfl
def fr(a0:List (Int)) (a1:Int) (a2:List (Int)) (a3:Int) (a4:Int) (a5:Int) (a6:Bool):Option (T0d):=
bif (a3 != 1) then (some (0,0,3,())) else
let x0:=wk .i64 a4;
(fa a0 a1 a2 x0).bind λ(x1,x2,x3,_)=>
bif (!x3) then (some (0,0,4,())) else
(bif a6 then (let x4:Int:=(wk .i64 a5);
let x5:=w64 (x2 - x4);
some (a2,a0,a1,0,0,x1,x5,())) else
let x4:=wk .i64 a5;
let x5:=w64 (x2+x4);
some (a2,a0,a1,0,0,x1,x5,()):Option (LI×LI×T0L)).bind λ(x4,x5,x6,x7,x8,x9,ac,_)=>
(fm x4 x9 ac).bind λ(ae,_)=>
bif (!ae) then (some (0,0,4,())) else
(d7 x9).bind λaf=>
(dK x5 af).bind λag=>
let ah:=w64 (ag+ac);
let ai:=wk .u16 ah;
some (1,ai,0,())
def CV:X.Cfg:=⟨E0,[iq,iN],[],[⟨8,0,qE,[(.normal,(qS [(sP 1 RI),(pP 5 12),(pP 10 22),(pP 12 26)] [(12,(uL [RI,CW])),(22,(uL [CB,CW])),(26,(uL [I64,I64]))]))]⟩]⟩
def pS:Ctr:=⟨249,54,[.agg (uL [RI,CW]),shU RI,.agg (uL [CB,CW]),shU CW,shU .bool],[],[⟨(uL [CB,CW,I64]),[.agg 2,.one],[]⟩],ap7 fr⟩
theorem uk:Lk 2 pS:=ls (C:=CV) rfl (aC jW (aC kL aN)) (by kernel_rfl) λh=>by kernel_rfl
def jK(a0:Int) (a1:LDCe) (a2:LDLn):Option (Nat×T04):=
let x0:=w64 (Int.tdiv a0 4);
let x1:=Int.tmod x0 4;
(d7 x1).bind λx2=>
(dK a2 x2).bind λx3=>
(dK a2 x2).bind λx4=>
bif (x4.1==x0) then (some (x2,a1,a2,())) else
((dK a2 x2).bind λx5=>
bif x5.2.1 then ((dK a2 x2).bind λx6=>
let x7:=w64 (x6.1*4);
(d7 x7).bind λx8=>
bif (jo x8 a1.length a1.length) then (dK a2 x2).bind λx9=>
(dK a2 x2).bind λac=>
bif (jo x8 (Nat.add x8 (Nat.min ac.2.2.length (Nat.sub a1.length x8))) a1.length) then bif (Nat.blt 0 (Nat.min ac.2.2.length (Nat.sub a1.length x8))) then (let ae:LDCe:=(oe a1 x8 (Nat.min ac.2.2.length (Nat.sub a1.length x8)) ac.2.2);
let af:=(dM (Nat.min ac.2.2.length (Nat.sub a1.length x8)));
some (x0,x2,ae,a2,())) else
let ae:=(dM (Nat.min ac.2.2.length (Nat.sub a1.length x8)));
some (x0,x2,a1,a2,()) else none else none) else
some (x0,x2,a1,a2,()):Option (Int×Nat×T04)).bind λ(x5,x6,x7,x8,_)=>
(dK x8 x6).bind λx9=>
let ac:=List.modify x8 x6 λe=>(x5,e.2);
(dK ac x6).bind λae=>
let af:=(List.modify ac x6 λe=>(e.1,(false,e.2.2)));
let ag:=w64 (x5*4);
let ah:=w64 (x5+1);
let ai:=w64 (ah*4);
(d7 ag).bind λaj=>
(d7 ai).bind λak=>
bif (jo aj ak x7.length) then bif (dX 4 0 (List.length (nu x7 aj (Nat.sub ak aj)))) then let am:LDCe:=(List.append [] (nu x7 aj (Nat.sub ak aj)));
(dK af x6).bind λan=>
let ap:=(List.modify af x6 λe=>(e.1,(e.2.1,am)));
some (x6,x7,ap,()) else none else none
def AU:X.Cfg:=⟨E0,[],[],[⟨6,0,qE,[(.normal,(qS [(pP 0 2),(sP 5 I64),(6,.ptr ⟨2,1,[((),(3,0))]⟩ [0,0])] [(2,(uL [(.row true KCe),iG]))]))]⟩]⟩
def oA:Ctr:=⟨265,55,[.ptr ⟨2,0,[]⟩ [0],shU I64],[(2,(uL [(.row true KCe),iG]))],[⟨[.ptr ⟨2,1,[((),(3,0))]⟩ [0,0]],[.ptr],[(2,(uL [(.row true KCe),iG]))]⟩],ap3 jK⟩
theorem se:Lk 1 oA:=ls (C:=AU) rfl aN (by kernel_rfl) λh=>by kernel_rfl
def kX(a0:Int) (a1:LDCe) (a2:LDLn):Option (T0s):=
(jK a0 a1 a2).bind λ(x0,x1,x2,_)=>
(dK x2 x0).bind λx3=>
let x4:=Int.tmod a0 4;
(d7 x4).bind λx5=>
(dK x2 x0).bind λx6=>
(dK x6.2.2 x5).bind λx7=>
(dK x2 x0).bind λx8=>
(dK x8.2.2 x5).bind λx9=>
some (x9.1,x9.2,x1,x2,())
def C4:X.Cfg:=⟨E0,[oA],[],[]⟩
def uK:Ctr:=⟨250,56,[.ptr ⟨2,0,[]⟩ [0],shU I64],[(2,(uL [(.row true KCe),iG]))],[⟨(uL [CB,CW]),[.agg 2],[(2,(uL [(.row true KCe),iG]))]⟩],ap3 kX⟩
theorem Cj:Lk 2 uK:=ls (C:=C4) rfl (aC se aN) (by kernel_rfl) λh=>by kernel_rfl
def iy(a0:Int) (a1:Int) (a2:Int) (a3:LDCe) (a4:LDLn):Option (T04):=
(jK a0 a3 a4).bind λ(x0,x1,x2,_)=>
(dK x2 x0).bind λx3=>
let x4:=Int.tmod a0 4;
(d7 x4).bind λx5=>
(dK x2 x0).bind λx6=>
(dK x6.2.2 x5).bind λx7=>
(dK x2 x0).bind λx8=>
(dK x8.2.2 x5).bind λx9=>
let ac:=(List.modify x2 x0 λe=>(e.1,(e.2.1,(List.modify e.2.2 x5 λe=>(a1,a2)))));
(dK ac x0).bind λae=>
let af:=(List.modify ac x0 λe=>(e.1,(true,e.2.2)));
some (x1,af,())
def AT:X.Cfg:=⟨E0,[oA],[],[]⟩
def oz:Ctr:=⟨251,57,[.ptr ⟨2,0,[]⟩ [0],shU I64,.agg (uL [CB,CW])],[(2,(uL [(.row true KCe),iG]))],[⟨[],[],[(2,(uL [(.row true KCe),iG]))]⟩],ap5 iy⟩
theorem sd:Lk 2 oz:=ls (C:=AT) rfl (aC se aN) (by kernel_rfl) λh=>by kernel_rfl
def jf(a0:Bool):Option (T02):=
bif a0 then (some (0,1,())) else
some (0,0,())
def CU:X.Cfg:=⟨E0,[],[],[]⟩
def pR:Ctr:=⟨266,58,(uL [.bool]),[],[⟨(uL [CB,CW]),[.agg 2],[]⟩],ap1 jf⟩
theorem uj:Lk 1 pR:=ls (C:=CU) rfl aN (by kernel_rfl) λh=>by kernel_rfl
def jH(a0:Int) (a1:Int) (a2:Int):Option (T0d):=
bif (a0==3) then (let x0:Int:=(wk .u16 (a1+a2));
some (0,x0,0,())) else
bif (a0==4) then (let x0:Int:=(wk .u16 (a1 - a2));
some (0,x0,0,())) else
bif (a0==5) then (let x0:Int:=(wk .u16 (a1*a2));
some (0,x0,0,())) else
bif (a0==6) then (bif (a2==0) then (some (0,0,5,())) else
bif (a0==6) then (bif (a2 != 0) then let x0:Int:=(wk .u16 (Int.tdiv a1 a2));
some (0,x0,0,()) else none) else
bif (a2 != 0) then let x0:Int:=(Int.tmod a1 a2);
some (0,x0,0,()) else none) else
bif (a0==7) then (bif (a2==0) then (some (0,0,5,())) else
bif (a0==6) then (bif (a2 != 0) then let x0:Int:=(wk .u16 (Int.tdiv a1 a2));
some (0,x0,0,()) else none) else
bif (a2 != 0) then let x0:Int:=(Int.tmod a1 a2);
some (0,x0,0,()) else none) else
bif (a0==8) then (let x0:Int:=(arR .and .u16 a1 a2);
some (0,x0,0,())) else
bif (a0==9) then (let x0:Int:=(arR .or .u16 a1 a2);
some (0,x0,0,())) else
bif (a0==10) then (let x0:Int:=(arR .xor .u16 a1 a2);
some (0,x0,0,())) else
bif (a0==11) then (let x0:Int:=(Int.tmod a2 16);
(d7 x0).bind λx1=>
let x2:Int:=(shR .shl .u16 a1 x1);
some (0,x2,0,())) else
bif (a0==12) then (let x0:Int:=(Int.tmod a2 16);
(d7 x0).bind λx1=>
let x2:Int:=(shR .shr .u16 a1 x1);
some (0,x2,0,())) else
(jf (decide (a1 < a2))).bind λ(x0,x1,_)=>
some (x0,x1,0,())
def wK:X.Cfg:=⟨E0,[pR],[],[]⟩
def pQ:Ctr:=⟨267,59,(uL [I64,CW,CW]),[],[⟨(uL [CB,CW,I64]),[.agg 2,.one],[]⟩],ap3 jH⟩
theorem wu:Lk 2 pQ:=ls (C:=wK) rfl (aC uj aN) (by kernel_rfl) λh=>by kernel_rfl
def jI(a0:List (Int)) (a1:Int) (a2:List (Int)) (a3:Int) (a4:Int) (a5:Int) (a6:Int):Option (Int×Int×T0c):=
let x0:=wk .i64 a4;
(fa a0 a1 a2 x0).bind λ(x1,x2,x3,_)=>
let x4:=wk .i64 a6;
(fa a0 a1 a2 x4).bind λ(x5,x6,x7,_)=>
bif x3 then (bif x7 then (some (x1,x2,x5,x6,(x1==x5),())) else
some (x1,x2,x5,x6,false,())) else
some (x1,x2,x5,x6,false,())
def AP:X.Cfg:=⟨E0,[iq],[],[]⟩
def sQ:Ctr:=⟨268,60,[.agg (uL [RI,CW]),shU RI,.agg (uL [CB,CW]),.agg (uL [CB,CW])],[],[⟨(uL [I64,I64,I64,I64,.bool]),[.agg 2,.agg 2,.one],[]⟩],ap7 jI⟩
theorem Ag:Lk 2 sQ:=ls (C:=AP) rfl (aC jW aN) (by kernel_rfl) λh=>by kernel_rfl
def qd(a0:List (Int)) (a1:Int) (a2:List (Int)) (a3:Int) (a4:Int) (a5:Int) (a6:Int) (a7:Int):Option (T0d):=
bif decide (a3 < 3) then (some (0,0,1,())) else
bif decide (a3 > 14) then (some (0,0,1,())) else
(match (bif (a3==14) then ((jf ((a4==a6) && ((a5==a7) && true))).bind λ(x0,x1,_)=>
some (.inl (0,x0,x1,()))) else
bif (a4==0) then (bif (a6==0) then ((jH a3 a5 a7).bind λ(x0,x1,x2,_)=>
some (.inl (x2,x0,x1,()))) else
(bif (a3==3) then (bif (a4==1) then (some (a2,a3,(a6==0),a0,a1,a4,a5,a6,a7,0,0,())) else
some (a2,a3,false,a0,a1,a4,a5,a6,a7,0,0,())) else
some (a2,a3,false,a0,a1,a4,a5,a6,a7,0,0,()):Option (T2n)).bind λ(x0,x1,x2,x3,x4,x5,x6,x7,x8,x9,ac,_)=>
bif x2 then ((fr x3 x4 x0 x5 x6 x8 false).bind λ(ae,af,ag,_)=>
some (.inl (ag,ae,af,()))) else
(bif (x1==3) then (bif (x5==0) then (some (x0,x1,(x7==1),x3,x4,x5,x6,x7,x8,x9,ac,())) else
some (x0,x1,false,x3,x4,x5,x6,x7,x8,x9,ac,())) else
some (x0,x1,false,x3,x4,x5,x6,x7,x8,x9,ac,()):Option (T2n)).bind λ(ae,af,ag,ah,ai,aj,ak,am,an,ap,aq,_)=>
bif ag then ((fr ah ai ae am an ak false).bind λ(av,ax,ay,_)=>
some (.inl (ay,av,ax,()))) else
(bif (af==4) then (bif (aj==1) then (some (ae,af,(am==0),ah,ai,aj,ak,am,an,ap,aq,())) else
some (ae,af,false,ah,ai,aj,ak,am,an,ap,aq,())) else
some (ae,af,false,ah,ai,aj,ak,am,an,ap,aq,()):Option (T2n)).bind λ(av,ax,ay,az,aA,aB,aD,aE,aF,aG,aH,_)=>
bif ay then ((fr az aA av aB aD aF true).bind λ(aI,aJ,aK,_)=>
some (.inl (aK,aI,aJ,()))) else
(bif (ax==4) then (bif (aB==1) then (some (av,ax,(aE==1),az,aA,aB,aD,aE,aF,aG,aH,())) else
some (av,ax,false,az,aA,aB,aD,aE,aF,aG,aH,())) else
bif (ax==13) then (bif (aB==1) then (some (av,ax,(aE==1),az,aA,aB,aD,aE,aF,aG,aH,())) else
some (av,ax,false,az,aA,aB,aD,aE,aF,aG,aH,())) else
some (av,ax,false,az,aA,aB,aD,aE,aF,aG,aH,()):Option (T2n)).bind λ(aI,aJ,aK,aL,aM,aO,aP,aQ,aR,aS,aT,_)=>
bif aK then ((jI aL aM aI aO aP aQ aR).bind λ(aU,aV,aW,aY,aZ,_)=>
bif (!aZ) then (some (.inl (4,0,0,()))) else
bif (aJ==13) then ((jf (decide (aV < aY))).bind λ(ba,bc,_)=>
some (.inl (0,ba,bc,()))) else
let ba:=w64 (aV - aY);
let bc:=wk .u16 ba;
some (.inl (0,0,bc,()))) else
some (.inr (aI,aJ,false,aL,aM,aO,aP,aQ,aR,aS,aT,()))) else
(bif (a3==3) then (bif (a4==1) then (some (a2,a3,(a6==0),a0,a1,a4,a5,a6,a7,0,0,())) else
some (a2,a3,false,a0,a1,a4,a5,a6,a7,0,0,())) else
some (a2,a3,false,a0,a1,a4,a5,a6,a7,0,0,()):Option (T2n)).bind λ(x0,x1,x2,x3,x4,x5,x6,x7,x8,x9,ac,_)=>
bif x2 then ((fr x3 x4 x0 x5 x6 x8 false).bind λ(ae,af,ag,_)=>
some (.inl (ag,ae,af,()))) else
(bif (x1==3) then (bif (x5==0) then (some (x0,x1,(x7==1),x3,x4,x5,x6,x7,x8,x9,ac,())) else
some (x0,x1,false,x3,x4,x5,x6,x7,x8,x9,ac,())) else
some (x0,x1,false,x3,x4,x5,x6,x7,x8,x9,ac,()):Option (T2n)).bind λ(ae,af,ag,ah,ai,aj,ak,am,an,ap,aq,_)=>
bif ag then ((fr ah ai ae am an ak false).bind λ(av,ax,ay,_)=>
some (.inl (ay,av,ax,()))) else
(bif (af==4) then (bif (aj==1) then (some (ae,af,(am==0),ah,ai,aj,ak,am,an,ap,aq,())) else
some (ae,af,false,ah,ai,aj,ak,am,an,ap,aq,())) else
some (ae,af,false,ah,ai,aj,ak,am,an,ap,aq,()):Option (T2n)).bind λ(av,ax,ay,az,aA,aB,aD,aE,aF,aG,aH,_)=>
bif ay then ((fr az aA av aB aD aF true).bind λ(aI,aJ,aK,_)=>
some (.inl (aK,aI,aJ,()))) else
(bif (ax==4) then (bif (aB==1) then (some (av,ax,(aE==1),az,aA,aB,aD,aE,aF,aG,aH,())) else
some (av,ax,false,az,aA,aB,aD,aE,aF,aG,aH,())) else
bif (ax==13) then (bif (aB==1) then (some (av,ax,(aE==1),az,aA,aB,aD,aE,aF,aG,aH,())) else
some (av,ax,false,az,aA,aB,aD,aE,aF,aG,aH,())) else
some (av,ax,false,az,aA,aB,aD,aE,aF,aG,aH,()):Option (T2n)).bind λ(aI,aJ,aK,aL,aM,aO,aP,aQ,aR,aS,aT,_)=>
bif aK then ((jI aL aM aI aO aP aQ aR).bind λ(aU,aV,aW,aY,aZ,_)=>
bif (!aZ) then (some (.inl (4,0,0,()))) else
bif (aJ==13) then ((jf (decide (aV < aY))).bind λ(ba,bc,_)=>
some (.inl (0,ba,bc,()))) else
let ba:=w64 (aV - aY);
let bc:=wk .u16 ba;
some (.inl (0,0,bc,()))) else
some (.inr (aI,aJ,false,aL,aM,aO,aP,aQ,aR,aS,aT,())):Option (T0d⊕T2n)) with
| none=>none
| some (.inl (x0,x1,x2,_))=>
some (x1,x2,x0,())
| some (.inr (x0,x1,x2,x3,x4,x5,x6,x7,x8,x9,ac,_))=>
some (0,0,3,()))
def GY:X.Cfg:=⟨E0,[pR,pQ,pS,sQ],[],[⟨9,0,qE,[(.normal,(qS [(sP 1 RI),(sP 2 I64),(pP 5 12),(pP 8 18),(pP 9 20),(pP 10 22),(sP 46 .bool)] [(12,(uL [RI,CW])),(18,(uL [CB,CW])),(20,(uL [CB,CW])),(22,(uL [CB,CW]))]))]⟩,⟨11,1,qE,[(.normal,(qS [(sP 1 RI),(sP 2 I64),(pP 5 12),(pP 8 18),(pP 9 20),(pP 10 22),(sP 67 .bool)] [(12,(uL [RI,CW])),(18,(uL [CB,CW])),(20,(uL [CB,CW])),(22,(uL [CB,CW]))]))]⟩,⟨13,2,qE,[(.normal,(qS [(sP 1 RI),(sP 2 I64),(pP 5 12),(pP 8 18),(pP 9 20),(pP 10 22),(sP 88 .bool)] [(12,(uL [RI,CW])),(18,(uL [CB,CW])),(20,(uL [CB,CW])),(22,(uL [CB,CW]))]))]⟩,⟨15,3,qE,[(.normal,(qS [(sP 1 RI),(sP 2 I64),(pP 5 12),(pP 8 18),(pP 9 20),(pP 10 22),(sP 109 .bool)] [(12,(uL [RI,CW])),(18,(uL [CB,CW])),(20,(uL [CB,CW])),(22,(uL [CB,CW]))]))]⟩,⟨4,4,qE,[(.ret,(qS [(pP 10 22),(sP 11 I64)] [(22,(uL [CB,CW]))])),(.normal,(qS [(sP 1 RI),(sP 2 I64),(pP 5 12),(pP 8 18),(pP 9 20),(pP 10 22),(sP 109 .bool)] [(12,(uL [RI,CW])),(18,(uL [CB,CW])),(20,(uL [CB,CW])),(22,(uL [CB,CW]))]))]⟩]⟩
def zo:Ctr:=⟨252,61,[.agg (uL [RI,CW]),shU RI,shU I64,.agg (uL [CB,CW]),.agg (uL [CB,CW])],[],[⟨(uL [CB,CW,I64]),[.agg 2,.one],[]⟩],ap8 qd⟩
theorem GR:Lk 3 zo:=ls (C:=GY) rfl (aC uj (aC wu (aC uk (aC Ag aN)))) (by kernel_rfl) λh=>by kernel_rfl
def kA(a0:Int):Option (Bool×Unit):=
(gw a0).bind λ(x0,_)=>
bif x0 then (some (true,())) else
bif (a0==22) then (some (true,())) else
some ((a0==24),())
def yn:X.Cfg:=⟨E0,[jm],[],[]⟩
def q7:Ctr:=⟨253,62,(uL [I64]),[],[⟨(uL [.bool]),[.one],[]⟩],ap1 kA⟩
theorem xT:Lk 2 q7:=ls (C:=yn) rfl (aC k9 aN) (by kernel_rfl) λh=>by kernel_rfl
def n5(a0:LDIn) (a1:List (Int)) (a2:List LI) (a3:Int) (a4:List (Int)) (a5:Int) (a6:LDCe) (a7:LDLn) (a8:LDTh):Option (T17):=
(d7 a3).bind λx0=>
(dK a8 x0).bind λx1=>
(dK a8 x0).bind λx2=>
let x3:=dM a0.length;
bif decide (x2.2.2.1>=x3) then ((fb x0 2 a8).bind λ(x4,x5,_)=>
some (x4,a4,a5,a6,a7,x5,())) else
(dK a8 x0).bind λx4=>
(d7 x4.2.2.1).bind λx5=>
(dK a0 x5).bind λx6=>
(dK a8 x0).bind λx7=>
let x8:=w64 (x7.2.2.1+1);
(dK a8 x0).bind λx9=>
(d7 x6.2.1).bind λac=>
(dK a8 x0).bind λae=>
(dK ae.2.1 ac).bind λaf=>
(dK a8 x0).bind λag=>
(dK ag.2.1 ac).bind λah=>
(dK a8 x0).bind λai=>
(d7 x6.2.2.1).bind λaj=>
(dK a8 x0).bind λak=>
(dK ak.2.1 aj).bind λam=>
(dK a8 x0).bind λan=>
(dK an.2.1 aj).bind λap=>
(match (bif (x6.1==0) then (some (.inl (x0,x8,a4,a5,a6,a7,a8,x6.1,x6.2.1,x6.2.2.1,x6.2.2.2.1,x6.2.2.2.2,()))) else
bif (x6.1==1) then ((dK a8 x0).bind λaq=>
let av:=wk .u16 x6.2.2.2.2;
(d7 x6.2.1).bind λax=>
(dK a8 x0).bind λay=>
(dK ay.2.1 ax).bind λaz=>
(dK a8 x0).bind λaA=>
(dK aA.2.1 ax).bind λaB=>
let aD:=(List.modify a8 x0 λe=>(e.1,((List.modify e.2.1 ax λe=>(0,av)),e.2.2)));
some (.inl (x0,x8,a4,a5,a6,a7,aD,x6.1,x6.2.1,x6.2.2.1,x6.2.2.2.1,x6.2.2.2.2,()))) else
bif (x6.1==2) then ((dK a8 x0).bind λaq=>
(d7 x6.2.1).bind λav=>
(dK a8 x0).bind λax=>
(dK ax.2.1 av).bind λay=>
(dK a8 x0).bind λaz=>
(dK az.2.1 av).bind λaA=>
let aB:=(List.modify a8 x0 λe=>(e.1,((List.modify e.2.1 av λe=>(ap.1,ap.2)),e.2.2)));
some (.inl (x0,x8,a4,a5,a6,a7,aB,x6.1,x6.2.1,x6.2.2.1,x6.2.2.2.1,x6.2.2.2.2,()))) else
bif (x6.1==15) then ((dK a8 x0).bind λaq=>
(d7 x6.2.2.2.2).bind λav=>
(dK a4 av).bind λax=>
let ay:=wk .u16 ax;
(d7 x6.2.1).bind λaz=>
(dK a8 x0).bind λaA=>
(dK aA.2.1 az).bind λaB=>
(dK a8 x0).bind λaD=>
(dK aD.2.1 az).bind λaE=>
let aF:=(List.modify a8 x0 λe=>(e.1,((List.modify e.2.1 az λe=>(1,ay)),e.2.2)));
some (.inl (x0,x8,a4,a5,a6,a7,aF,x6.1,x6.2.1,x6.2.2.1,x6.2.2.2.1,x6.2.2.2.2,()))) else
bif (x6.1==16) then ((bif (x6.1==17) then (some (x0,x8,a4,a5,a6,a7,a8,a0,a1,a2,x6.1,x6.2.1,x6.2.2.1,x6.2.2.2.1,x6.2.2.2.2,ap.1,ap.2,ah.1,ah.2,())) else
some (x0,x8,a4,a5,a6,a7,a8,a0,a1,a2,x6.1,x6.2.1,x6.2.2.1,x6.2.2.2.1,x6.2.2.2.2,ap.1,ap.2,ap.1,ap.2,()):Option (T2Z)).bind λ(aq,av,ax,ay,az,aA,aB,aD,aE,aF,aG,aH,aI,aJ,aK,aL,aM,aO,aP,_)=>
let aQ:=wk .u16 aK;
(fr ax ay aE aO aP aQ false).bind λ(aR,aS,aT,_)=>
bif (aT != 0) then ((fb aq aT aB).bind λ(aU,aV,_)=>
some (.inr (aU,ax,ay,az,aA,aV,()))) else
bif (aG==16) then ((dK aB aq).bind λaU=>
let aV:=wk .i64 aS;
(kX aV az aA).bind λ(aW,aY,aZ,ba,_)=>
(d7 aH).bind λbc=>
(dK aB aq).bind λbd=>
(dK bd.2.1 bc).bind λbe=>
(dK aB aq).bind λbf=>
(dK bf.2.1 bc).bind λbg=>
let bh:=(List.modify aB aq λe=>(e.1,((List.modify e.2.1 bc λe=>(aW,aY)),e.2.2)));
some (.inl (aq,av,ax,ay,aZ,ba,bh,aG,aH,aI,aJ,aK,()))) else
let aU:=wk .i64 aS;
(iy aU aL aM az aA).bind λ(aV,aW,_)=>
some (.inl (aq,av,ax,ay,aV,aW,aB,aG,aH,aI,aJ,aK,()))) else
bif (x6.1==17) then ((bif (x6.1==17) then (some (x0,x8,a4,a5,a6,a7,a8,a0,a1,a2,x6.1,x6.2.1,x6.2.2.1,x6.2.2.2.1,x6.2.2.2.2,ap.1,ap.2,ah.1,ah.2,())) else
some (x0,x8,a4,a5,a6,a7,a8,a0,a1,a2,x6.1,x6.2.1,x6.2.2.1,x6.2.2.2.1,x6.2.2.2.2,ap.1,ap.2,ap.1,ap.2,()):Option (T2Z)).bind λ(aq,av,ax,ay,az,aA,aB,aD,aE,aF,aG,aH,aI,aJ,aK,aL,aM,aO,aP,_)=>
let aQ:=wk .u16 aK;
(fr ax ay aE aO aP aQ false).bind λ(aR,aS,aT,_)=>
bif (aT != 0) then ((fb aq aT aB).bind λ(aU,aV,_)=>
some (.inr (aU,ax,ay,az,aA,aV,()))) else
bif (aG==16) then ((dK aB aq).bind λaU=>
let aV:=wk .i64 aS;
(kX aV az aA).bind λ(aW,aY,aZ,ba,_)=>
(d7 aH).bind λbc=>
(dK aB aq).bind λbd=>
(dK bd.2.1 bc).bind λbe=>
(dK aB aq).bind λbf=>
(dK bf.2.1 bc).bind λbg=>
let bh:=(List.modify aB aq λe=>(e.1,((List.modify e.2.1 bc λe=>(aW,aY)),e.2.2)));
some (.inl (aq,av,ax,ay,aZ,ba,bh,aG,aH,aI,aJ,aK,()))) else
let aU:=wk .i64 aS;
(iy aU aL aM az aA).bind λ(aV,aW,_)=>
some (.inl (aq,av,ax,ay,aV,aW,aB,aG,aH,aI,aJ,aK,()))) else
bif (x6.1==18) then (some (.inl (x0,x6.2.2.2.2,a4,a5,a6,a7,a8,x6.1,x6.2.1,x6.2.2.1,x6.2.2.2.1,x6.2.2.2.2,()))) else
bif (x6.1==19) then (bif (ah.1 != 0) then ((fb x0 3 a8).bind λ(aq,av,_)=>
some (.inr (aq,a4,a5,a6,a7,av,()))) else
bif ((ah.2==0)==(x6.1==19)) then (some (.inl (x0,x6.2.2.2.2,a4,a5,a6,a7,a8,x6.1,x6.2.1,x6.2.2.1,x6.2.2.2.1,x6.2.2.2.2,()))) else
some (.inl (x0,x8,a4,a5,a6,a7,a8,x6.1,x6.2.1,x6.2.2.1,x6.2.2.2.1,x6.2.2.2.2,()))) else
bif (x6.1==20) then (bif (ah.1 != 0) then ((fb x0 3 a8).bind λ(aq,av,_)=>
some (.inr (aq,a4,a5,a6,a7,av,()))) else
bif ((ah.2==0)==(x6.1==19)) then (some (.inl (x0,x6.2.2.2.2,a4,a5,a6,a7,a8,x6.1,x6.2.1,x6.2.2.1,x6.2.2.2.1,x6.2.2.2.2,()))) else
some (.inl (x0,x8,a4,a5,a6,a7,a8,x6.1,x6.2.1,x6.2.2.1,x6.2.2.2.1,x6.2.2.2.2,()))) else
bif (x6.1==21) then ((dK a8 x0).bind λaq=>
let av:=wk .u16 x8;
(d7 x6.2.1).bind λax=>
(dK a8 x0).bind λay=>
(dK ay.2.1 ax).bind λaz=>
(dK a8 x0).bind λaA=>
(dK aA.2.1 ax).bind λaB=>
let aD:=(List.modify a8 x0 λe=>(e.1,((List.modify e.2.1 ax λe=>(0,av)),e.2.2)));
some (.inl (x0,x6.2.2.2.2,a4,a5,a6,a7,aD,x6.1,x6.2.1,x6.2.2.1,x6.2.2.2.1,x6.2.2.2.2,()))) else
bif (x6.1==22) then (bif (ah.1 != 0) then ((fb x0 3 a8).bind λ(aq,av,_)=>
some (.inr (aq,a4,a5,a6,a7,av,()))) else
bif decide (ah.2 > 255) then ((fb x0 2 a8).bind λ(aq,av,_)=>
some (.inr (aq,a4,a5,a6,a7,av,()))) else
let aq:=wk .i64 ah.2;
some (.inl (x0,aq,a4,a5,a6,a7,a8,x6.1,x6.2.1,x6.2.2.1,x6.2.2.2.1,x6.2.2.2.2,()))) else
bif (x6.1==24) then ((dK a8 x0).bind λaq=>
bif (aq.2.2.2.2.2.1==(-1)) then ((fb x0 1 a8).bind λ(av,ax,_)=>
some (.inr (av,a4,a5,a6,a7,ax,()))) else
(dK a8 x0).bind λav=>
(dK a8 x0).bind λax=>
let ay:=(List.modify a8 x0 λe=>(e.1,(e.2.1,(e.2.2.1,(e.2.2.2.1,(e.2.2.2.2.1,((-1),e.2.2.2.2.2.2)))))));
some (.inl (x0,av.2.2.2.2.2.1,a4,a5,a6,a7,ay,x6.1,x6.2.1,x6.2.2.1,x6.2.2.2.1,x6.2.2.2.2,()))) else
bif (x6.1==23) then ((dK a8 x0).bind λaq=>
let av:=List.modify a8 x0 λe=>(2,e.2);
(dK av x0).bind λax=>
let ay:=(List.modify av x0 λe=>(e.1,(e.2.1,(x8,e.2.2.2))));
some (.inr (1,a4,a5,a6,a7,ay,()))) else
(dK a8 x0).bind λaq=>
(d7 x6.2.2.2.1).bind λav=>
(dK a8 x0).bind λax=>
(dK ax.2.1 av).bind λay=>
(dK a8 x0).bind λaz=>
(dK az.2.1 av).bind λaA=>
(qd a4 a5 a1 x6.1 ap.1 ap.2 aA.1 aA.2).bind λ(aB,aD,aE,_)=>
bif (aE != 0) then ((fb x0 aE a8).bind λ(aF,aG,_)=>
some (.inr (aF,a4,a5,a6,a7,aG,()))) else
(dK a8 x0).bind λaF=>
(d7 x6.2.1).bind λaG=>
(dK a8 x0).bind λaH=>
(dK aH.2.1 aG).bind λaI=>
(dK a8 x0).bind λaJ=>
(dK aJ.2.1 aG).bind λaK=>
let aL:=(List.modify a8 x0 λe=>(e.1,((List.modify e.2.1 aG λe=>(aB,aD)),e.2.2)));
some (.inl (x0,x8,a4,a5,a6,a7,aL,x6.1,x6.2.1,x6.2.2.1,x6.2.2.2.1,x6.2.2.2.2,())):Option ((Nat×Int×LI×Int×LDCe×LDLn×LDTh×T0L)⊕T17)) with
| none=>none
| some (.inl (aq,av,ax,ay,az,aA,aB,aD,aE,aF,aG,aH,_))=>
(dK aB aq).bind λaI=>
let aJ:=(List.modify aB aq λe=>(e.1,(e.2.1,(av,e.2.2.2))));
((kA aD).bind λ(aK,_)=>
bif aK then ((dK aJ aq).bind λaL=>
let aM:=w64 (aL.2.2.2.1+1);
(dK aJ aq).bind λaO=>
let aP:=(List.modify aJ aq λe=>(e.1,(e.2.1,(e.2.2.1,(aM,e.2.2.2.2)))));
some (ax,ay,az,aA,aP,())) else
some (ax,ay,az,aA,aJ,()):Option (T0S)).bind λ(aK,aL,aM,aO,aP,_)=>
some ((-1),aK,aL,aM,aO,aP,())
| some (.inr (aq,av,ax,ay,az,aA,_))=>
some (aq,av,ax,ay,az,aA,()))
def El:X.Cfg:=⟨E0,[uH,pS,uK,oz,zo,q7],[],[⟨17,0,qE,[(.normal,(qS [(pP 1 4),(pP 3 8),(7,.ptr ⟨4,4,[((),(8,0))]⟩ [0,0]),(pP 8 18),(sP 9 I64),(pP 11 24),(pP 12 26)] [(4,(uL [RI,CW,(.row true KCe),iG,nn])),(8,(uL [eW,RI,(.row false RW)])),(18,(uL [I64,I64,I64,I64,I64])),(24,(uL [CB,CW])),(26,(uL [CB,CW]))]))]⟩,⟨8,1,qE,[(.normal,(qS [(pP 1 4),(7,.ptr ⟨4,4,[((),(8,0))]⟩ [0,0]),(pP 8 18),(sP 9 I64)] [(4,(uL [RI,CW,(.row true KCe),iG,nn])),(18,(uL [I64,I64,I64,I64,I64]))])),(.ret,(qS [(pP 1 4),(sP 6 I64)] [(4,(uL [RI,CW,(.row true KCe),iG,nn]))]))]⟩,⟨52,2,qE,[(.normal,(qS [(pP 1 4)] [(4,(uL [RI,CW,(.row true KCe),iG,nn]))]))]⟩]⟩
def xu:Ctr:=⟨237,63,[.agg (uL [eW,RI,(.row false RW)]),.ptr ⟨4,0,[]⟩ [0],shU I64],[(4,(uL [RI,CW,(.row true KCe),iG,nn]))],[⟨(uL [I64]),[.one],[(4,(uL [RI,CW,(.row true KCe),iG,nn]))]⟩],ap9 n5⟩
theorem Ea:Lk 4 xu:=ls (C:=El) rfl (aC Cg (aC uk (aC Cj (aC sd (aC GR (aC xT aN)))))) (by kernel_rfl) λh=>by kernel_rfl
def oQ:T2I->Option (T2I⊕T1r):=λ(v0,v1,v2,v3,v4,v5,v6,v7,v8,v9,v10,v11,v12,v13,v14,_)=>
(n5 v2 v3 v4 v0 v10 v11 v12 v13 v14).bind λ(x0,x1,x2,x3,x4,x5,_)=>
bif (x0 != (-1)) then (some (.inr (x0,0,x1,x2,x3,x4,x5,()))) else
(d7 v0).bind λx6=>
(dK x5 x6).bind λx7=>
(dK x5 x6).bind λx8=>
bif (x8.2.2.2.1==v1) then (some (.inr (0,0,x1,x2,x3,x4,x5,()))) else
some (.inl (v0,v1,v2,v3,v4,v5,v6,v7,v8,v9,x1,x2,x3,x4,x5,()))
def lA(a0:LDIn) (a1:List (Int)) (a2:List LI) (a3:List (Int)) (a4:Int) (a5:LDCe) (a6:LDLn) (a7:LDTh) (a8:Int) (a9:Int):Option (LI×Int×LDCe×LDLn×LDTh×T02):=
((iw a0 a1 a2 a3 a4 a5 a6 a7).bind λ(x0,_)=>
bif (!x0) then (some (a8,a9,true,a0,a1,a2,a3,a4,a5,a6,a7,(),0,(),(),(),())) else
bif decide (a8 < 0) then (some (a8,a9,true,a0,a1,a2,a3,a4,a5,a6,a7,(),0,(),(),(),())) else
bif decide (a8>=4) then (some (a8,a9,true,a0,a1,a2,a3,a4,a5,a6,a7,(),0,(),(),(),())) else
bif decide (a9 < 1) then (some (a8,a9,true,a0,a1,a2,a3,a4,a5,a6,a7,(),0,(),(),(),())) else
some (a8,a9,(decide (a9 > 64)),a0,a1,a2,a3,a4,a5,a6,a7,(),0,(),(),(),()):Option (Int×Int×Bool×LDIn×LI×LLI×LI×Int×LDCe×LDLn×LDTh×T0V)).bind λ(x0,x1,x2,x3,x4,x5,x6,x7,x8,x9,ac,ae,af,ag,ah,ai,_)=>
bif x2 then (some ([],0,[],[],[],0,1,())) else
(gv x6 x7 x8 x9 ac).bind λ(aj,ak,am,an,ap,_)=>
(d7 x0).bind λaq=>
(dK ac aq).bind λav=>
bif (av.1 != 1) then (some (aj,ak,am,an,ap,3,0,())) else
(d7 x0).bind λax=>
(dK ap ax).bind λay=>
(dK ap ax).bind λaz=>
let aA:=w64 (az.2.2.2.1+x1);
(dU oQ NN (x0,aA,x3,x4,x5,ae,af,ag,ah,ai,aj,ak,am,an,ap,())).bind λ(aB,aD,aE,aF,aG,aH,aI,_)=>
some (aE,aF,aG,aH,aI,aB,aD,())
def AL:X.Cfg:=⟨E0,[lT,jl,xu],[],[⟨2,0,qE,[(.normal,(qS [(sP 2 I64),(sP 3 I64),(pP 4 10),(pP 5 12),(pP 8 18),(sP 33 .bool)] [(10,(uL [eW,RI,(.row false RW)])),(12,(uL [RI,CW,eS,fe,fA])),(18,(uL [N1,CW,N1,N1,N1]))]))]⟩,⟨9,1,(qS [(sP 2 I64),(pP 4 10),(pP 8 18),(pP 11 24),(sP 12 I64)] [(10,(uL [eW,RI,(.row false RW)])),(18,(uL [N1,CW,N1,N1,N1])),(24,(uL [RI,CW,(.row true KCe),iG,nn]))]),[(.ret,(qS [(pP 8 18),(sP 9 I64),(sP 10 I64)] [(18,(uL [RI,CW,(.row true KCe),iG,nn]))]))]⟩]⟩
def sL:Ctr:=⟨227,64,[.agg (uL [eW,RI,(.row false RW)]),.agg (uL [RI,CW,eS,fe,fA]),shU I64,shU I64],[],[⟨(uL [RI,CW,(.row true KCe),iG,nn,I64,I64]),[.agg 5,.one,.one],[]⟩],ap10 lA⟩
theorem Ac:Lk 5 sL:=ls (C:=AL) rfl (aC oi (aC k8 (aC Ea aN))) (by kernel_rfl) λh=>by kernel_rfl
def jE(a0:Int):Option (ByteArray×Unit):=
let x0:ByteArray:=(bytes []);
(bif (a0==0) then (some (a0,true,())) else
bif (a0==8) then (some (a0,true,())) else
bif (a0==9) then (some (a0,true,())) else
bif (a0==11) then (some (a0,true,())) else
some (a0,(a0==12),()):Option (T01)).bind λ(x1,x2,_)=>
bif x2 then (let x3:ByteArray:=(bytes [78]);
some (x3,())) else
bif (x1==1) then (let x3:ByteArray:=(bytes [72,80,78]);
some (x3,())) else
bif (x1==2) then (let x3:ByteArray:=(bytes [72,80,78]);
some (x3,())) else
bif (x1==3) then (let x3:ByteArray:=(bytes [78,78]);
some (x3,())) else
bif (x1==4) then (let x3:ByteArray:=(bytes [72]);
some (x3,())) else
bif (x1==5) then (let x3:ByteArray:=(bytes [72,78]);
some (x3,())) else
bif (x1==10) then (let x3:ByteArray:=(bytes [78,88]);
some (x3,())) else
bif (x1==13) then (let x3:ByteArray:=(bytes [78,80,78]);
some (x3,())) else
bif (x1==14) then (let x3:ByteArray:=(bytes [78,80,78]);
some (x3,())) else
let x3:ByteArray:=(bytes []);
some (x3,())
def AF:X.Cfg:=⟨E0,[],[],[⟨3,0,qE,[(.normal,(qS [(sP 3 I64),(sP 4 .bool)] []))]⟩]⟩
def lS:Ctr:=⟨238,65,(uL [I64]),[],[⟨(uL [.str]),[.one],[]⟩],ap1 jE⟩
theorem oh:Lk 1 lS:=ls (C:=AF) rfl aN (by kernel_rfl) λh=>by kernel_rfl
def kT(a0:Int) (a1:Int):Option (Bool×Unit):=
bif (a0==78) then (some ((a1==0),())) else
bif (a0==72) then (some ((a1==2),())) else
bif (a0==80) then (some ((a1==1),())) else
some (true,())
def CN:X.Cfg:=⟨E0,[],[],[]⟩
def pN:Ctr:=⟨239,66,(uL [CB,CB]),[],[⟨(uL [.bool]),[.one],[]⟩],ap2 kT⟩
theorem uh:Lk 1 pN:=ls (C:=CN) rfl aN (by kernel_rfl) λh=>by kernel_rfl
def gV(a0:Int):Option (Int×Unit):=
bif decide (a0 < 0) then (some ((-1),())) else
bif decide (a0 > 15) then (some ((-1),())) else
bif (a0==1) then (some (1,())) else
bif (a0==13) then (some (1,())) else
bif (a0==2) then (some (2,())) else
bif (a0==14) then (some (2,())) else
some (0,())
def yk:X.Cfg:=⟨E0,[],[],[]⟩
def iL:Ctr:=⟨55,67,(uL [I64]),[],[⟨(uL [I64]),[.one],[]⟩],ap1 gV⟩
theorem kJ:Lk 1 iL:=ls (C:=yk) rfl aN (by kernel_rfl) λh=>by kernel_rfl
def kz(a0:List (Int)) (a1:Int) (a2:List (Int)) (a3:Int) (a4:Int) (a5:Int):Option (T02):=
bif (a3 != 1) then (some (0,3,())) else
let x0:=wk .i64 a4;
(fa a0 a1 a2 x0).bind λ(x1,x2,x3,_)=>
(bif (!x3) then (some (true,a3,a4,())) else
bif decide (a5 < 0) then (some (true,a3,a4,())) else
(d7 x1).bind λx4=>
(dK a2 x4).bind λx5=>
let x6:=w64 (x5 - x2);
some ((decide (a5 > x6)),a3,a4,()):Option (T0b)).bind λ(x4,x5,x6,_)=>
bif x4 then (some (0,4,())) else
let x7:=wk .i64 x6;
some (x7,0,())
def ym:X.Cfg:=⟨E0,[iq],[],[⟨6,0,qE,[(.normal,(qS [(pP 6 14),(sP 41 .bool)] [(14,(uL [CB,CW]))]))]⟩]⟩
def qZ:Ctr:=⟨240,68,[.agg (uL [RI,CW]),shU RI,.agg (uL [CB,CW]),shU I64],[],[⟨(uL [I64,I64]),[.one,.one],[]⟩],ap6 kz⟩
theorem xS:Lk 2 qZ:=ls (C:=ym) rfl (aC jW aN) (by kernel_rfl) λh=>by kernel_rfl
def lh:T31->Option (T31⊕((Int×Unit)⊕(Int×ByteArray×Int×Int×Bool×T2N))):=λ(v0,v1,v2,v3,v4,v5,v6,v7,v8,v9,v10,v11,v12,v13,v14)=>
bif decide (v3 < v2) then ((d7 v3).bind λx0=>
(yR v1 x0).bind λx1=>
(d7 v3).bind λx2=>
(dK v13 x2).bind λx3=>
(kT x1 x3.1).bind λ(x4,_)=>
bif (!x4) then (some (.inr (.inl (6,())))) else
let x5:=w64 (v3+1);
some (.inl (v0,v1,v2,x5,v4,v5,v6,v7,v8,v9,v10,v11,v12,v13,v14))) else
some (.inr (.inr (v0,v1,v2,v3,false,v4,v5,v6,v7,v8,v9,v10,v11,v12,v13,v14)))
def lz(a0:LDIn) (a1:List (Int)) (a2:List LI) (a3:List (Int)) (a4:Int) (a5:LDCe) (a6:LDLn) (a7:LDTh) (a8:Int):Option (Int×Unit):=
(d7 a8).bind λx0=>
(dK a7 x0).bind λx1=>
let x2:=w64 (x1.2.2.1 - 1);
(d7 x2).bind λx3=>
(dK a0 x3).bind λx4=>
(jE x4.2.2.2.2).bind λ(x5,_)=>
let x6:=zA x5;
(match dU lh NN (x4.2.2.2.2,x5,x6,0,a0,a1,a2,a3,a4,a5,a6,a7,x1.1,x1.2.1,x1.2.2.1,x1.2.2.2.1,x1.2.2.2.2.1,x1.2.2.2.2.2.1,x1.2.2.2.2.2.2.1,x1.2.2.2.2.2.2.2,()) with
| none=>none
| some (.inl (x7,_))=>
some (x7,())
| some (.inr (x7,x8,x9,ac,ae,af,ag,ah,ai,aj,ak,am,an,ap,aq,_))=>
(gV x7).bind λ(aD,_)=>
bif decide (aD > 0) then ((dK aq 1).bind λaE=>
(dK aq 2).bind λaF=>
let aG:=wk .i64 aF.2;
(kz ai aj ag aE.1 aE.2 aG).bind λ(aH,aI,_)=>
bif (aI != 0) then (some (6,())) else
(dK aq 2).bind λaJ=>
bif decide (aJ.2 > 16) then (some (6,())) else
(bif (x7==10) then ((dK aq 0).bind λaK=>
let aL:=wk .i64 aK.2;
let aM:=dM af.length;
some ((decide (aL>=aM)),())) else
bif (x7==12) then ((dK aq 0).bind λaK=>
let aL:=wk .i64 aK.2;
let aM:=dM af.length;
some ((decide (aL>=aM)),())) else
some (false,()):Option (Bool×Unit)).bind λ(aK,_)=>
bif aK then (some (6,())) else
some (0,())) else
(bif (x7==10) then ((dK aq 0).bind λaE=>
let aF:=wk .i64 aE.2;
let aG:=dM af.length;
some ((decide (aF>=aG)),())) else
bif (x7==12) then ((dK aq 0).bind λaE=>
let aF:=wk .i64 aE.2;
let aG:=dM af.length;
some ((decide (aF>=aG)),())) else
some (false,()):Option (Bool×Unit)).bind λ(aE,_)=>
bif aE then (some (6,())) else
some (0,()))
def AI:X.Cfg:=⟨E0,[lS,pN,iL,qZ],[],[⟨6,0,(qS [(pP 3 8),(pP 4 10),(pP 7 16),(sP 8 I64),(sP 9 .str),(sP 29 I64),(sP 30 I64)] [(8,(uL [eW,RI,(.row false RW)])),(10,(uL [RI,CW,eS,fe,fA])),(16,(uL [I64,eS,I64,I64,I64,I64,I64,CW]))]),[(.ret,(qS [(sP 6 I64)] [])),(.exit 0,(qS [(pP 3 8),(pP 4 10),(pP 7 16),(sP 8 I64),(sP 9 .str),(sP 29 I64),(sP 30 I64),(sP 31 .bool)] [(8,(uL [eW,RI,(.row false RW)])),(10,(uL [RI,CW,eS,fe,fA])),(16,(uL [I64,eS,I64,I64,I64,I64,I64,CW]))]))]⟩,⟨19,1,qE,[(.normal,(qS [(sP 93 .bool)] []))]⟩]⟩
def sK:Ctr:=⟨228,69,[.agg (uL [eW,RI,(.row false RW)]),.agg (uL [RI,CW,eS,fe,fA]),shU I64],[],[⟨(uL [I64]),[.one],[]⟩],ap9 lz⟩
theorem Ab:Lk 3 sK:=ls (C:=AI) rfl (aC oh (aC uh (aC kJ (aC xS aN)))) (by kernel_rfl) λh=>by kernel_rfl
def ky(a0:Int) (a1:LDCe) (a2:Int) (a3:Int) (a4:Int) (a5:Int) (a6:Int) (a7:Int):Option (T1I):=
bif (dX 4 0 a1.length) then let x0:LDCe:=(List.append [] a1);
some (a0,x0,a2,a3,a4,a5,a6,a7,()) else none
def yl:X.Cfg:=⟨E0,[],[],[]⟩
def qY:Ctr:=⟨241,70,[.agg (uL [I64,eS,I64,I64,I64,I64,I64,CW])],[],[⟨(uL [I64,(.row true KCe),I64,I64,I64,I64,I64,CW]),[.agg 8],[]⟩],ap8 ky⟩
theorem xR:Lk 1 qY:=ls (C:=yl) rfl aN (by kernel_rfl) λh=>by kernel_rfl
def mg(a0:Int) (a1:LDCe) (a2:Int) (a3:Int) (a4:Int) (a5:Int) (a6:Int) (a7:Int) (a8:Int) (a9:Int):Option (T1I):=
(ky a0 a1 a2 a3 a4 a5 a6 a7).bind λ(x0,x1,x2,x3,x4,x5,_)=>
some (4,x1,x2,x3,x4,x5,a8,a9,())
def En:X.Cfg:=⟨E0,[qY],[],[]⟩
def rG:Ctr:=⟨229,71,[.agg (uL [I64,eS,I64,I64,I64,I64,I64,CW]),shU I64,shU CW],[],[⟨(uL [I64,(.row true KCe),I64,I64,I64,I64,I64,CW]),[.agg 8],[]⟩],ap10 mg⟩
theorem wt:Lk 2 rG:=ls (C:=En) rfl (aC xR aN) (by kernel_rfl) λh=>by kernel_rfl
def gi(a0:Int):Option (Int×Unit):=
bif decide (a0 < 0) then (some ((-1),())) else
bif decide (a0 > 15) then (some ((-1),())) else
(jE a0).bind λ(x0,_)=>
let x1:=zA x0;
some (x1,())
def tQ:X.Cfg:=⟨E0,[lS],[],[]⟩
def ko:Ctr:=⟨230,72,(uL [I64]),[],[⟨(uL [I64]),[.one],[]⟩],ap1 gi⟩
theorem nJ:Lk 2 ko:=ls (C:=tQ) rfl (aC oh aN) (by kernel_rfl) λh=>by kernel_rfl
def gE(a0:List (Int)) (a1:Int) (a2:List (Int)) (a3:Int) (a4:Int):Option (T0r):=
bif (a3==0) then (some (0,a4,0,0,())) else
bif (a3==2) then (let x0:Int:=(wk .u16 (a4 - a1));
some (2,x0,0,0,())) else
let x0:=wk .i64 a4;
(fa a0 a1 a2 x0).bind λ(x1,x2,x3,_)=>
bif x3 then (some (1,0,x1,x2,())) else
let x4:=wk .i64 a4;
some (1,0,(-1),x4,())
def AY:X.Cfg:=⟨E0,[iq],[],[]⟩
def lV:Ctr:=⟨56,73,[.agg (uL [RI,CW]),shU RI,.agg (uL [CB,CW])],[],[⟨(uL [CB,CW,I64,I64]),[.agg 4],[]⟩],ap5 gE⟩
theorem ol:Lk 2 lV:=ls (C:=AY) rfl (aC jW aN) (by kernel_rfl) λh=>by kernel_rfl
def kW(a0:LDCe) (a1:LDLn) (a2:Int):Option (T02):=
let x0:=w64 (Int.tdiv a2 4);
let x1:=Int.tmod x0 4;
(d7 x1).bind λx2=>
(dK a1 x2).bind λx3=>
bif (x3.1==x0) then (let x4:Int:=(Int.tmod a2 4);
(d7 x4).bind λx5=>
(dK x3.2.2 x5).bind λx6=>
some (x6.1,x6.2,())) else
(d7 a2).bind λx4=>
(dK a0 x4).bind λx5=>
some (x5.1,x5.2,())
def C3:X.Cfg:=⟨E0,[],[],[]⟩
def pV:Ctr:=⟨66,74,[.agg (uL [eS,fe]),shU I64],[],[⟨(uL [CB,CW]),[.agg 2],[]⟩],ap3 kW⟩
theorem um:Lk 1 pV:=ls (C:=C3) rfl aN (by kernel_rfl) λh=>by kernel_rfl
def ia:T3C->Option (T3C⊕(Int×Int×T3x)):=λ(v0,v1,v2,v3,v4,v5,v6,v7,v8,v9,v10,v11,v12,v13,v14,v15,v16,v17,v18,v19,v20,v21,v22,v23,v24,v25,v26,v27,v28,v29,v30,v31,v32,v33,v34,v35,v36,v37,v38,_)=>
bif decide (v1 < v0) then ((d7 v1).bind λx0=>
(dK v24 x0).bind λx1=>
(gE v18 v19 v3 x1.1 x1.2).bind λ(x2,x3,x4,x5,_)=>
let x6:LDCn:=[(x2,(x3,(x4,x5)))];
bif (dX 24 v37.length x6.length) then let x7:LDCn:=(List.append v37 x6);
let x8:=w64 (v1+1);
some (.inl (v0,x8,v2,v3,v4,v5,v6,v7,v8,v9,v10,v11,v12,v13,v14,v15,v16,v17,v18,v19,v20,v21,v22,v23,v24,v25,v26,v27,v28,v29,v30,v31,v32,v33,v34,v35,v36,x7,v38,())) else none) else
some (.inr (v0,v1,false,v2,v3,v4,v5,v6,v7,v8,v9,v10,v11,v12,v13,v14,v15,v16,v17,v18,v19,v20,v21,v22,v23,v24,v25,v26,v27,v28,v29,v30,v31,v32,v33,v34,v35,v36,v37,v38,()))
def hZ:T3B->Option (T3B⊕T3F):=λ(v0,v1,v2,v3,v4,v5,v6,v7,v8,v9,v10,v11,v12,v13,v14,v15,v16,v17,v18,v19,v20,v21,v22,v23,v24,v25,v26,v27,v28,v29,v30,v31,v32,v33,v34,v35,v36,v37,v38,_)=>
bif decide (v1 < v0) then ((dK v24 1).bind λx0=>
let x1:=wk .i64 x0.2;
let x2:=w64 (x1+v1);
(kW v20 v21 x2).bind λ(x3,x4,_)=>
(gE v18 v19 v3 x3 x4).bind λ(x5,x6,x7,x8,_)=>
let x9:LDCn:=[(x5,(x6,(x7,x8)))];
bif (dX 24 v38.length x9.length) then let ac:LDCn:=(List.append v38 x9);
let ae:=w64 (v1+1);
some (.inl (v0,ae,v2,v3,v4,v5,v6,v7,v8,v9,v10,v11,v12,v13,v14,v15,v16,v17,v18,v19,v20,v21,v22,v23,v24,v25,v26,v27,v28,v29,v30,v31,v32,v33,v34,v35,v36,v37,ac,())) else none) else
some (.inr (v0,v1,false,v2,v3,v4,v5,v6,v7,v8,v9,v10,v11,v12,v13,v14,v15,v16,v17,v18,v19,v20,v21,v22,v23,v24,v25,v26,v27,v28,v29,v30,v31,v32,v33,v34,v35,v36,v37,v38,()))
def kU(a0:LDIn) (a1:List (Int)) (a2:List LI) (a3:List (Int)) (a4:Int) (a5:LDCe) (a6:LDLn) (a7:LDTh) (a8:Int) (a9:Int):Option (LI×Int×LDCe×LDLn×LDTh×Int×Int×Int×Int×Int×Int×LDCn×LDCn×Int×Unit):=
(lA a0 a1 a2 a3 a4 a5 a6 a7 a8 a9).bind λ(x0,x1,x2,x3,x4,x5,x6,_)=>
bif (x6 != 0) then (some ([],0,[],[],[],0,0,0,0,0,0,[],[],x6,())) else
(d7 a8).bind λx7=>
(dK x4 x7).bind λx8=>
(dK x4 x7).bind λx9=>
(dK x4 x7).bind λac=>
(match (bif (x5==2) then (some (.inl ((),0,(),(),(),0,0,0,0,0,0,(),(),x0,x1,x2,x3,x4,a8,x5,x9.2.2.2.2.2.2.1,x9.2.2.2.1,x9.2.2.1,0,(),(),()))) else
bif (x5==1) then ((lz a0 a1 a2 x0 x1 x2 x3 x4 a8).bind λ(ae,_)=>
bif (ae != 0) then ((mg x9.1 ac.2.1 x9.2.2.1 x9.2.2.2.1 x9.2.2.2.2.1 x9.2.2.2.2.2.1 x9.2.2.2.2.2.2.1 x9.2.2.2.2.2.2.2 ae 0).bind λ(af,ag,ah,ai,aj,ak,am,an,_)=>
(d7 a8).bind λap=>
(dK x4 ap).bind λaq=>
(dK x4 ap).bind λav=>
let ax:=(List.modify x4 ap λe=>(af,(ag,(ah,(ai,(aj,(ak,(am,an))))))));
some (.inl ((),0,(),(),(),0,0,0,0,0,0,(),(),x0,x1,x2,x3,ax,a8,2,ae,x9.2.2.2.1,x9.2.2.1,0,(),(),()))) else
let af:=w64 (x9.2.2.1 - 1);
(d7 af).bind λag=>
(dK a0 ag).bind λah=>
(gi ah.2.2.2.2).bind λ(ai,_)=>
(dU ia NN (ai,0,a0,a1,a2,(),0,(),(),(),0,0,0,0,0,0,(),(),x0,x1,x2,x3,x4,x9.1,ac.2.1,x9.2.2.1,x9.2.2.2.1,x9.2.2.2.2.1,x9.2.2.2.2.2.1,x9.2.2.2.2.2.2.1,x9.2.2.2.2.2.2.2,a8,x5,0,x9.2.2.2.1,x9.2.2.1,ah.2.2.2.2,[],(),())).bind λ(aj,ak,am,an,ap,aq,av,ax,ay,az,aA,aB,aD,aE,aF,aG,aH,aI,aJ,aK,aL,aM,aO,aP,aQ,aR,aS,aT,aU,aV,aW,aY,aZ,ba,bc,bd,be,bf,bg,bh,_)=>
(gV bf).bind λ(bi,_)=>
bif (bi==1) then ((dK aR 2).bind λbj=>
let bk:=wk .i64 bj.2;
(dU hZ NN (bk,0,an,ap,aq,av,ax,ay,az,aA,aB,aD,aE,aF,aG,aH,aI,aJ,aK,aL,aM,aO,aP,aQ,aR,aS,aT,aU,aV,aW,aY,aZ,ba,bc,bd,be,bf,bg,[],())).bind λ(bm)=>
some (.inr (.inl (bm)))) else
some (.inr (.inr (.inl (false,an,ap,aq,av,ax,ay,az,aA,aB,aD,aE,aF,aG,aH,aI,aJ,aK,aL,aM,aO,aP,aQ,aR,aS,aT,aU,aV,aW,aY,aZ,ba,bc,bd,be,bf,bg,bh,()))))) else
some (.inr (.inr (.inr (a8,false,a0,a1,a2,(),0,(),(),(),0,0,0,0,0,0,(),(),x0,x1,x2,x3,x4,x9.1,ac.2.1,x9.2.2.1,x9.2.2.2.1,x9.2.2.2.2.1,x9.2.2.2.2.2.1,x9.2.2.2.2.2.2.1,x9.2.2.2.2.2.2.2,a8,x5,0,x9.2.2.2.1,x9.2.2.1,0,(),(),())))):Option ((Unit×Int×Unit×Unit×Unit×Int×Int×Int×Int×Int×Int×Unit×Unit×LI×Int×LDCe×LDLn×LDTh×T1D)⊕(T3F⊕(T3x⊕(Int×Bool×LDIn×LI×LLI×Unit×Int×Unit×Unit×Unit×Int×Int×Int×Int×Int×Int×Unit×Unit×LI×Int×LDCe×LDLn×LDTh×Int×LDCe×Int×Int×Int×Int×Int×Int×T1D))))) with
| none=>none
| some (.inl (ae,af,ag,ah,ai,aj,ak,am,an,ap,aq,av,ax,ay,az,aA,aB,aD,aE,aF,aG,aH,aI,aJ,aK,aL,_))=>
some (ay,az,aA,aB,aD,aE,aF,aG,aH,aI,aJ,[],[],0,())
| some (.inr (.inl (ae,af,ag,ah,ai,aj,ak,am,an,ap,aq,av,ax,ay,az,aA,aB,aD,aE,aF,aG,aH,aI,aJ,aK,aL,aM,aO,aP,aQ,aR,aS,aT,aU,aV,aW,aY,aZ,ba,bc,_)))=>
some (aF,aG,aH,aI,aJ,aT,aU,aV,aW,aY,aZ,ba,bc,0,())
| some (.inr (.inr (.inl (ae,af,ag,ah,ai,aj,ak,am,an,ap,aq,av,ax,ay,az,aA,aB,aD,aE,aF,aG,aH,aI,aJ,aK,aL,aM,aO,aP,aQ,aR,aS,aT,aU,aV,aW,aY,aZ,_))))=>
some (aD,aE,aF,aG,aH,aR,aS,aT,aU,aV,aW,aY,[],0,())
| some (.inr (.inr (.inr (ae,af,ag,ah,ai,aj,ak,am,an,ap,aq,av,ax,ay,az,aA,aB,aD,aE,aF,aG,aH,aI,aJ,aK,aL,aM,aO,aP,aQ,aR,aS,aT,aU,aV,aW,aY,aZ,ba,_))))=>
some (aE,aF,aG,aH,aI,aS,aT,aU,aV,aW,aY,[],[],0,()))
def CO:X.Cfg:=⟨E0,[sL,sK,rG,ko,lV,iL,pV],[],[⟨19,0,(qS [(pP 4 10),(pP 8 18),(pP 9 20),(pP 11 24),(pP 14 30),(pP 15 32),(sP 80 I64),(sP 81 I64)] [(10,(uL [eW,RI,(.row false RW)])),(18,(uL [N1,CW,N1,N1,N1])),(20,(uL [I64,I64,I64,I64,I64,I64,N1,N1])),(24,(uL [RI,CW,(.row true KCe),iG,(.row true Ls)])),(30,(uL [I64,eS,I64,I64,I64,I64,I64,CW])),(32,(uL [I64,I64,I64,I64,I64,I64,(.row true KCn),N1]))]),[(.exit 1,(qS [(pP 4 10),(pP 8 18),(pP 9 20),(pP 11 24),(pP 14 30),(pP 15 32),(sP 80 I64),(sP 81 I64),(sP 82 .bool)] [(10,(uL [eW,RI,(.row false RW)])),(18,(uL [N1,CW,N1,N1,N1])),(20,(uL [I64,I64,I64,I64,I64,I64,N1,N1])),(24,(uL [RI,CW,(.row true KCe),iG,(.row true Ls)])),(30,(uL [I64,eS,I64,I64,I64,I64,I64,CW])),(32,(uL [I64,I64,I64,I64,I64,I64,(.row true KCn),N1]))]))]⟩,⟨26,1,(qS [(pP 4 10),(pP 8 18),(pP 9 20),(pP 11 24),(pP 14 30),(pP 15 32),(sP 109 I64),(sP 110 I64)] [(10,(uL [eW,RI,(.row false RW)])),(18,(uL [N1,CW,N1,N1,N1])),(20,(uL [I64,I64,I64,I64,I64,I64,N1,N1])),(24,(uL [RI,CW,(.row true KCe),iG,(.row true Ls)])),(30,(uL [I64,eS,I64,I64,I64,I64,I64,CW])),(32,(uL [I64,I64,I64,I64,I64,I64,(.row true KCn),(.row true KCn)]))]),[(.exit 3,(qS [(pP 4 10),(pP 8 18),(pP 9 20),(pP 11 24),(pP 14 30),(pP 15 32),(sP 109 I64),(sP 110 I64),(sP 111 .bool)] [(10,(uL [eW,RI,(.row false RW)])),(18,(uL [N1,CW,N1,N1,N1])),(20,(uL [I64,I64,I64,I64,I64,I64,N1,N1])),(24,(uL [RI,CW,(.row true KCe),iG,(.row true Ls)])),(30,(uL [I64,eS,I64,I64,I64,I64,I64,CW])),(32,(uL [I64,I64,I64,I64,I64,I64,(.row true KCn),(.row true KCn)]))]))]⟩,⟨7,2,qE,[(.normal,(qS [(pP 8 18),(pP 9 20),(pP 11 24),(pP 15 32)] [(18,(uL [N1,CW,N1,N1,N1])),(20,(uL [I64,I64,I64,I64,I64,I64,N1,N1])),(24,(uL [RI,CW,(.row true KCe),iG,(.row true Ls)])),(32,(uL [I64,I64,I64,I64,I64,I64,N1,N1]))])),(.normal,(qS [(pP 4 10),(pP 8 18),(pP 9 20),(pP 11 24),(pP 14 30),(pP 15 32),(sP 109 I64),(sP 110 I64),(sP 111 .bool)] [(10,(uL [eW,RI,(.row false RW)])),(18,(uL [N1,CW,N1,N1,N1])),(20,(uL [I64,I64,I64,I64,I64,I64,N1,N1])),(24,(uL [RI,CW,(.row true KCe),iG,(.row true Ls)])),(30,(uL [I64,eS,I64,I64,I64,I64,I64,CW])),(32,(uL [I64,I64,I64,I64,I64,I64,(.row true KCn),(.row true KCn)]))])),(.normal,(qS [(pP 4 10),(pP 8 18),(pP 9 20),(pP 11 24),(pP 14 30),(pP 15 32),(sP 103 .bool)] [(10,(uL [eW,RI,(.row false RW)])),(18,(uL [N1,CW,N1,N1,N1])),(20,(uL [I64,I64,I64,I64,I64,I64,N1,N1])),(24,(uL [RI,CW,(.row true KCe),iG,(.row true Ls)])),(30,(uL [I64,eS,I64,I64,I64,I64,I64,CW])),(32,(uL [I64,I64,I64,I64,I64,I64,(.row true KCn),N1]))])),(.normal,(qS [(sP 2 I64),(pP 4 10),(pP 8 18),(pP 9 20),(pP 11 24),(pP 14 30),(pP 15 32),(sP 51 .bool)] [(10,(uL [eW,RI,(.row false RW)])),(18,(uL [N1,CW,N1,N1,N1])),(20,(uL [I64,I64,I64,I64,I64,I64,N1,N1])),(24,(uL [RI,CW,(.row true KCe),iG,(.row true Ls)])),(30,(uL [I64,eS,I64,I64,I64,I64,I64,CW])),(32,(uL [I64,I64,I64,I64,I64,I64,N1,N1]))]))]⟩]⟩
def uG:Ctr:=⟨199,75,[.agg (uL [eW,RI,(.row false RW)]),.agg (uL [RI,CW,eS,fe,fA]),shU I64,shU I64],[],[⟨(uL [RI,CW,eS,fe,fA,I64,I64,I64,I64,I64,I64,ef,ef,I64]),[.agg 5,.agg 8,.one],[]⟩],ap10 kU⟩
theorem Cf:Lk 6 uG:=ls (C:=CO) rfl (aC Ac (aC Ab (aC wt (aC nJ (aC ol (aC kJ (aC um aN))))))) (by kernel_rfl) λh=>by kernel_rfl
def hY:T25->Option (T25⊕T2f):=λ(v0,v1,v2,v3,v4,v5,v6,v7,v8,_)=>
bif decide (v2 < v1) then ((d7 v2).bind λx0=>
(dK v0 x0).bind λx1=>
bif (dX 8 0 x1.length) then let x2:List (Int):=(List.append [] x1);
bif (dX 24 v8.length (List.length [x2])) then let x3:List LI:=(List.append v8 [x2]);
let x4:=w64 (v2+1);
some (.inl (v0,v1,x4,v3,v4,v5,v6,v7,x3,())) else none else none) else
some (.inr (v0,v1,v2,false,v3,v4,v5,v6,v7,v8,()))
def jd(a0:List (Int)) (a1:List LI):Option (T07):=
bif (dX 8 0 a0.length) then let x0:List (Int):=(List.append [] a0);
let x1:=dM a1.length;
(dU hY NN (a1,x1,0,a0,a1,(),(),x0,[],())).bind λ(x2,x3,x4,x5,x6,x7,x8,x9,ac)=>
some (ac) else none
def CL:X.Cfg:=⟨E0,[],[(21,(.row true I64)),(22,(.row true I64))],[(lx 4 0 [(pP 2 6),(pP 3 8),(sP 11 (.row false RI)),(sP 12 I64),(sP 13 I64)] [(4,(uL [RI,(.row false RI)])),(6,(uL [N1,N1])),(8,(uL [(.row true I64),(.row true (.row true I64))]))] 14)]⟩
def ne:Ctr:=⟨242,76,[.agg (uL [RI,(.row false RI)])],[],[⟨(uL [(.row true I64),(.row true (.row true I64))]),[.agg 2],[]⟩],ap2 jd⟩
theorem py:Lk 1 ne:=ls (C:=CL) rfl aN (by kernel_rfl) λh=>by kernel_rfl
def jc(a0:List (Int)) (a1:List LI) (a2:Int) (a3:Int):Option (LI×LLI×T01):=
(jd a0 a1).bind λ(x0,x1,_)=>
(bif decide (a2 < 0) then (some (a2,true,(),(),x0,x1,())) else
bif decide (a2>=4) then (some (a2,true,(),(),x0,x1,())) else
(d7 a2).bind λx2=>
(dK a0 x2).bind λx3=>
some (a2,(x3 != a3),(),(),x0,x1,()):Option (T10)).bind λ(x2,x3,x4,x5,x6,x7,_)=>
bif x3 then (some (x6,x7,(-1),false,())) else
(d7 x2).bind λx8=>
(dK x6 x8).bind λx9=>
(dK x6 x8).bind λac=>
let ae:=List.modify x6 x8 λe=>(-1);
(d7 x2).bind λaf=>
(dK x7 af).bind λag=>
(dK x7 af).bind λah=>
(dK x7 af).bind λai=>
let aj:=dM ai.length;
bif decide (aj > 0) then ((d7 x2).bind λak=>
(dK x7 ak).bind λam=>
(dK x7 ak).bind λan=>
(dK x7 ak).bind λap=>
(dK ap 0).bind λaq=>
(dK x7 ak).bind λav=>
(dK av 0).bind λax=>
(d7 x2).bind λay=>
(dK ae ay).bind λaz=>
(dK ae ay).bind λaA=>
let aB:=List.modify ae ay λe=>ax;
(d7 x2).bind λaD=>
(dK x7 aD).bind λaE=>
(dK x7 aD).bind λaF=>
(dK x7 aD).bind λaG=>
bif (jo 1 aG.length aG.length) then (dK x7 aD).bind λaH=>
(d7 x2).bind λaI=>
(dK x7 aI).bind λaJ=>
(dK x7 aD).bind λaK=>
(dK x7 aI).bind λaL=>
let aM:=(List.modify x7 aI λe=>(nu aK 1 (Nat.sub aG.length 1)));
(d7 x2).bind λaO=>
(dK aB aO).bind λaP=>
some (aB,aM,aP,true,()) else none) else
(d7 x2).bind λak=>
(dK ae ak).bind λam=>
some (ae,x7,am,true,())
def CJ:X.Cfg:=⟨E0,[ne],[],[⟨3,0,qE,[(.normal,(qS [(sP 1 I64),(pP 6 14),(pP 9 20),(sP 26 .bool)] [(14,(uL [N1,N1])),(20,(uL [(.row true I64),(.row true (.row true I64))]))]))]⟩]⟩
def nd:Ctr:=⟨231,77,[.agg (uL [RI,(.row false RI)]),shU I64,shU I64],[],[⟨(uL [RI,(.row false RI),I64,.bool]),[.agg 2,.one,.one],[]⟩],ap4 jc⟩
theorem px:Lk 2 nd:=ls (C:=CJ) rfl (aC py aN) (by kernel_rfl) λh=>by kernel_rfl
def d8(a0:Int) (a1:Bool):Option (T1o):=
(bif (!a1) then (some (65535,0,0,0,0,(),0,false,())) else
some (a0,0,0,0,0,(),0,false,()):Option (Int×T1o)).bind λ(x0,_)=>
let x8:=wk .u16 x0;
some (0,x8,0,0,(),(-1),false,())
def Av:X.Cfg:=⟨E0,[],[],[⟨1,0,qE,[(.normal,(qS [(sP 0 I64),(pP 4 10)] [(10,(uL [CB,CW,I64,I64,N1,I64,.bool]))]))]⟩]⟩
def j3:Ctr:=⟨243,78,(uL [I64,.bool]),[],[⟨(uL [CB,CW,I64,I64,N1,I64,.bool]),[.agg 7],[]⟩],ap2 d8⟩
theorem lN:Lk 1 j3:=ls (C:=Av) rfl aN (by kernel_rfl) λh=>by kernel_rfl
def mf:T2G->Option (T2G⊕((Int×T07)⊕(Int×Int×LLI×Int×Int×LI×T1P))):=λ(v0,v1,v2,v3,v4,v5,v6,v7,v8,v9,v10,v11,v12)=>
bif decide (v7 < v6) then ((d7 v7).bind λx0=>
(dK v5 x0).bind λx1=>
bif (x1==v1) then (some (.inr (.inl (2,v12)))) else
let x2:=w64 (v7+1);
some (.inl (v0,v1,v2,v3,v4,v5,v6,x2,v8,v9,v10,v11,v12))) else
some (.inr (.inr (v0,v1,v2,v3,v4,v5,v6,v7,false,v8,v9,v10,v11,v12)))
def me:T2j->Option (T2j⊕((Int×T07)⊕(Int×Int×T2f))):=λ(v0,v1,v2,v3,v4,v5)=>
bif decide (v4 < v3) then ((d7 v4).bind λx0=>
(dK v2 x0).bind λx1=>
let x2:=dM x1.length;
(match dU mf NN (v0,v1,v2,v3,v4,x1,x2,0,v5) with
| none=>none
| some (.inl (x3,x4,x5,_))=>
some (.inr (.inl (x3,x4,x5,())))
| some (.inr (x3,x4,x5,x6,x7,x8,x9,ac,ae,af))=>
let am:=w64 (x7+1);
some (.inl (x3,x4,x5,x6,am,af)))) else
some (.inr (.inr (v0,v1,v2,v3,v4,false,v5)))
def mQ(a0:List (Int)) (a1:List LI) (a2:Int) (a3:Int):Option (LI×LLI×Int×Unit):=
(jd a0 a1).bind λ(x0,x1,_)=>
(bif decide (a2 < 0) then (some (a2,a3,true,a0,a1,(),(),x0,x1,())) else
bif decide (a2>=4) then (some (a2,a3,true,a0,a1,(),(),x0,x1,())) else
(d7 a2).bind λx2=>
(dK a0 x2).bind λx3=>
some (a2,a3,(x3==a3),a0,a1,(),(),x0,x1,()):Option (T1P)).bind λ(x2,x3,x4,x5,x6,x7,x8,x9,ac,_)=>
bif x4 then (some (x9,ac,2,())) else
let ae:=dM x6.length;
(match dU me NN (x2,x3,x6,ae,0,x5,x6,x7,x8,x9,ac,()) with
| none=>none
| some (.inl (af,ag,ah,_))=>
some (ag,ah,af,())
| some (.inr (af,ag,ah,ai,aj,ak,am,an,ap,aq,av,ax,_))=>
(d7 af).bind λay=>
(dK am ay).bind λaz=>
bif (az==(-1)) then ((d7 af).bind λaA=>
(dK av aA).bind λaB=>
(dK av aA).bind λaD=>
let aE:=List.modify av aA λe=>ag;
some (aE,ax,0,())) else
(d7 af).bind λaA=>
(dK ax aA).bind λaB=>
(dK ax aA).bind λaD=>
(dK ax aA).bind λaE=>
bif (dX 8 aE.length (List.length [ag])) then let aF:List (Int):=(List.append aE [ag]);
(d7 af).bind λaG=>
(dK ax aG).bind λaH=>
(dK ax aG).bind λaI=>
bif (Nat.beq aG aA) then let aJ:List LI:=(List.modify ax aG λe=>aF);
some (av,aJ,1,()) else none else none)
def CI:X.Cfg:=⟨E0,[ne],[],[⟨3,0,qE,[(.normal,(qS [(sP 1 I64),(sP 2 I64),(pP 3 8),(pP 6 14),(pP 8 18),(sP 29 .bool)] [(8,(uL [RI,(.row false RI)])),(14,(uL [N1,N1])),(18,(uL [(.row true I64),(.row true (.row true I64))]))]))]⟩,⟨13,1,(qS [(sP 1 I64),(sP 2 I64),(pP 3 8),(pP 6 14),(pP 8 18),(sP 32 (.row false RI)),(sP 33 I64),(sP 34 I64),(sP 38 RI),(sP 39 I64),(sP 40 I64)] [(8,(uL [RI,(.row false RI)])),(14,(uL [N1,N1])),(18,(uL [(.row true I64),(.row true (.row true I64))]))]),[(.ret,(qS [(pP 6 14),(sP 7 I64)] [(14,(uL [(.row true I64),(.row true (.row true I64))]))])),(.exit 2,(qS [(sP 1 I64),(sP 2 I64),(pP 3 8),(pP 6 14),(pP 8 18),(sP 32 (.row false RI)),(sP 33 I64),(sP 34 I64),(sP 38 RI),(sP 39 I64),(sP 40 I64),(sP 41 .bool)] [(8,(uL [RI,(.row false RI)])),(14,(uL [N1,N1])),(18,(uL [(.row true I64),(.row true (.row true I64))]))]))]⟩,⟨7,2,(qS [(sP 1 I64),(sP 2 I64),(pP 3 8),(pP 6 14),(pP 8 18),(sP 32 (.row false RI)),(sP 33 I64),(sP 34 I64)] [(8,(uL [RI,(.row false RI)])),(14,(uL [N1,N1])),(18,(uL [(.row true I64),(.row true (.row true I64))]))]),[(.ret,(qS [(pP 6 14),(sP 7 I64)] [(14,(uL [(.row true I64),(.row true (.row true I64))]))])),(.exit 0,(qS [(sP 1 I64),(sP 2 I64),(pP 3 8),(pP 6 14),(pP 8 18),(sP 32 (.row false RI)),(sP 33 I64),(sP 34 I64),(sP 35 .bool)] [(8,(uL [RI,(.row false RI)])),(14,(uL [N1,N1])),(18,(uL [(.row true I64),(.row true (.row true I64))]))]))]⟩]⟩
def uE:Ctr:=⟨244,79,[.agg (uL [RI,(.row false RI)]),shU I64,shU I64],[],[⟨(uL [(.row true I64),(.row true (.row true I64)),I64]),[.agg 2,.one],[]⟩],ap4 mQ⟩
theorem Cd:Lk 2 uE:=ls (C:=CI) rfl (aC py aN) (by kernel_rfl) λh=>by kernel_rfl
def jF(a0:Int) (a1:Int) (a2:Int) (a3:Int) (a4:Int) (a5:Int) (a6:LDCn) (a7:LDCn):Option (Bool×Unit):=
bif decide (a0>=0) then (bif decide (a0 < 4) then (bif decide (a1>=0) then (bif decide (a1<=3) then (bif decide (a2>=0) then (bif decide (a2<=6) then (bif decide (a3>=0) then (bif decide (a3<=1099511627776) then (bif decide (a4>=0) then (bif decide (a4<=255) then (bif decide (a5>=0) then (bif decide (a5<=15) then ((ff a6 3).bind λ(x0,_)=>
bif x0 then ((ff a7 16).bind λ(x1,_)=>
some (x1,())) else
some (false,())) else
some (false,())) else
some (false,())) else
some (false,())) else
some (false,())) else
some (false,())) else
some (false,())) else
some (false,())) else
some (false,())) else
some (false,())) else
some (false,())) else
some (false,())) else
some (false,())
def AG:X.Cfg:=⟨E0,[fZ],[],[]⟩
def oy:Ctr:=⟨246,80,[.agg (uL [I64,I64,I64,I64,I64,I64,ef,ef])],[],[⟨(uL [.bool]),[.one],[]⟩],ap8 jF⟩
theorem sc:Lk 3 oy:=ls (C:=AG) rfl (aC gK aN) (by kernel_rfl) λh=>by kernel_rfl
def o5(a0:Int):Option (Bool×Unit):=
bif decide (a0>=1) then (bif decide (a0<=7) then (some (true,())) else
bif (a0==13) then (some (true,())) else
some ((a0==14),())) else
bif (a0==13) then (some (true,())) else
some ((a0==14),())
def Cz:X.Cfg:=⟨E0,[],[],[]⟩
def uz:Ctr:=⟨254,81,(uL [I64]),[],[⟨(uL [.bool]),[.one],[]⟩],ap1 o5⟩
theorem B8:Lk 1 uz:=ls (C:=Cz) rfl aN (by kernel_rfl) λh=>by kernel_rfl
def gP:T2r->Option (T2r⊕((Bool×Unit)⊕(ByteArray×LDCn×Int×Int×Bool×T1C))):=λ(v0,v1,v2,v3,v4)=>
bif decide (v3 < v2) then ((d7 v3).bind λx0=>
(dK v1 x0).bind λx1=>
(d7 v3).bind λx2=>
(yR v0 x2).bind λx3=>
(kT x3 x1.1).bind λ(x4,_)=>
bif (!x4) then (some (.inr (.inl (false,())))) else
let x5:=w64 (v3+1);
some (.inl (v0,v1,v2,x5,v4))) else
some (.inr (.inr (v0,v1,v2,v3,false,v4)))
def ly(a0:Int) (a1:Int) (a2:Int) (a3:Int) (a4:Int) (a5:Int) (a6:LDCn) (a7:LDCn):Option (Bool×Unit):=
(jE a5).bind λ(x0,_)=>
let x1:=zA x0;
let x2:=dM a6.length;
bif (x1 != x2) then (some (false,())) else
let x3:=dM a6.length;
(match dU gP NN (x0,a6,x3,0,a0,a1,a2,a3,a4,a5,a6,a7,()) with
| none=>none
| some (.inl (x4,_))=>
some (x4,())
| some (.inr (x4,_))=>
some (true,()))
def AH:X.Cfg:=⟨E0,[lS,pN],[],[⟨7,0,(qS [(sP 3 .str),(sP 16 ef),(sP 17 I64),(sP 18 I64)] [(4,(uL [I64,I64,I64,I64,I64,I64,ef,ef]))]),[(.ret,(qS [(sP 2 .bool)] [])),(.exit 0,(qS [(sP 3 .str),(sP 16 ef),(sP 17 I64),(sP 18 I64),(sP 19 .bool)] [(4,(uL [I64,I64,I64,I64,I64,I64,ef,ef]))]))]⟩]⟩
def sJ:Ctr:=⟨255,82,[.agg (uL [I64,I64,I64,I64,I64,I64,ef,ef])],[],[⟨(uL [.bool]),[.one],[]⟩],ap8 ly⟩
theorem Aa:Lk 2 sJ:=ls (C:=AH) rfl (aC oh (aC uh aN)) (by kernel_rfl) λh=>by kernel_rfl
def gu(a0:List LDCn) (a1:LDOp) (a2:Int):Option (Bool×Unit):=
bif decide (a2>=0) then (let x0:Int:=(dM a1.length);
bif decide (a2 < x0) then ((d7 a2).bind λx1=>
(dK a1 x1).bind λx2=>
some ((x2.1 != (-1)),())) else
some (false,())) else
some (false,())
def CD:X.Cfg:=⟨E0,[],[],[]⟩
def lb:Ctr:=⟨269,83,[.agg (uL [(.row false ef),gt]),shU I64],[],[⟨(uL [.bool]),[.one],[]⟩],ap3 gu⟩
theorem m9:Lk 1 lb:=ls (C:=CD) rfl aN (by kernel_rfl) λh=>by kernel_rfl
def oP:T2m->Option (T2m⊕(LDCn×Nat×Int×Int×Int×Bool×T1i)):=λ(v0,v1,v2,v3,v4,v5,v6,v7,v8,v9,v10,_)=>
bif decide (v4 < v3) then (((dK v9 v1).bind λx0=>
let x1:=w64 (x0.2.1+v4);
let x2:=dM v10.length;
bif decide (x1 < x2) then ((dK v9 v1).bind λx3=>
let x4:=w64 (x3.2.1+v4);
(d7 v4).bind λx5=>
(dK v0 x5).bind λx6=>
(d7 x4).bind λx7=>
(dK v10 x7).bind λx8=>
(dK v10 x7).bind λx9=>
let ac:=(List.modify v10 x7 λe=>(x6.1,(x6.2.1,(x6.2.2.1,x6.2.2.2))));
some (v0,v1,v2,v3,v4,v5,v6,v7,v8,v9,ac,())) else
(d7 v4).bind λx3=>
(dK v0 x3).bind λx4=>
let x5:LDCn:=[(x4.1,(x4.2.1,(x4.2.2.1,x4.2.2.2)))];
bif (dX 24 v10.length x5.length) then let x6:LDCn:=(List.append v10 x5);
some (v0,v1,v2,v3,v4,v5,v6,v7,v8,v9,x6,()) else none:Option (T2m)).bind λ(x0,x1,x2,x3,x4,x5,x6,x7,x8,x9,ac,_)=>
let ae:=w64 (x4+1);
some (.inl (x0,x1,x2,x3,ae,x5,x6,x7,x8,x9,ac,()))) else
some (.inr (v0,v1,v2,v3,v4,false,v5,v6,v7,v8,v9,v10,()))
def lp(a0:List LDCn) (a1:LDOp) (a2:Int) (a3:LDCn):Option (LLCn×LDOp×T01):=
(fF a0 a1).bind λ(x0,x1,_)=>
((gu a0 a1 a2).bind λ(x2,_)=>
bif (!x2) then (some (a2,a3,true,(),(),x0,x1,())) else
(d7 a2).bind λx3=>
(dK a1 x3).bind λx4=>
bif (!x4.2.2) then (some (a2,a3,true,(),(),x0,x1,())) else
let x5:=dM a3.length;
(ff a3 x5).bind λ(x6,_)=>
some (a2,a3,(!x6),(),(),x0,x1,()):Option (Int×LDCn×T0I)).bind λ(x2,x3,x4,x5,x6,x7,x8,_)=>
bif x4 then (some (x7,x8,0,false,())) else
(d7 x2).bind λx9=>
(dK x8 x9).bind λac=>
let ae:=dM x3.length;
(dK x8 x9).bind λaf=>
let ag:=w64 (64 - af.2.1);
let ah:=mmR false ae ag;
(dK x8 x9).bind λai=>
(d7 ai.1).bind λaj=>
(dK x7 aj).bind λak=>
(dK x7 aj).bind λam=>
(dK x7 aj).bind λan=>
(dU oP NN (x3,x9,ah,ah,0,x5,x6,x7,aj,x8,an,())).bind λ(ap,aq,av,ax,ay,az,aA,aB,aD,aE,aF,aG,_)=>
(dK aF aq).bind λaH=>
(d7 aH.1).bind λaI=>
(dK aD aI).bind λaJ=>
(dK aD aI).bind λaK=>
bif (Nat.beq aI aE) then let aL:List LDCn:=(List.modify aD aI λe=>aG);
(dK aF aq).bind λaM=>
let aO:=w64 (aM.2.1+av);
(dK aF aq).bind λaP=>
let aQ:=(List.modify aF aq λe=>(e.1,(aO,e.2.2)));
some (aL,aQ,av,true,()) else none
def Ay:X.Cfg:=⟨E0,[io,lb,fZ],[],[⟨3,0,qE,[(.normal,(qS [(sP 1 I64),(sP 2 ef),(pP 6 14),(pP 9 20),(sP 35 .bool)] [(14,(uL [N1,N1])),(20,(uL [(.row true (.row true KCn)),(.row true KOp)]))]))]⟩,⟨13,1,qE,[(.normal,(qS [(sP 2 ef),(pP 6 14),(pP 9 20),(10,.ptr ⟨20,1,[((),(3,0))]⟩ [0,0]),(sP 11 I64),(12,.pk ⟨27,0,[]⟩ [0,0]),(sP 57 I64),(sP 58 I64)] [(14,(uL [N1,N1])),(20,[.gap (.row true KCn) () () 0,shU (.row true KOp)]),(27,(uL [(.row true KCn)]))]))]⟩,(lx 10 2 [(sP 2 ef),(pP 6 14),(pP 9 20),(10,.ptr ⟨20,1,[((),(3,0))]⟩ [0,0]),(sP 11 I64),(12,.pk ⟨27,0,[]⟩ [0,0]),(sP 57 I64),(sP 58 I64)] [(14,(uL [N1,N1])),(20,[.gap (.row true KCn) () () 0,shU (.row true KOp)]),(27,(uL [(.row true KCn)]))] 59)]⟩
def sE:Ctr:=⟨256,84,[.agg (uL [(.row false ef),gt]),shU I64,shU ef],[],[⟨(uL [(.row true (.row true KCn)),(.row true KOp),I64,.bool]),[.agg 2,.one,.one],[]⟩],ap4 lp⟩
theorem zW:Lk 3 sE:=ls (C:=Ay) rfl (aC jj (aC m9 (aC gK aN))) (by kernel_rfl) λh=>by kernel_rfl
def mO(a0:List LDCn) (a1:LDOp) (a2:Int) (a3:Int):Option ((LLCn×LDOp×Unit×Bool×Unit)⊕(LLCn×LDOp×LDCn×Bool×Unit)):=
(fF a0 a1).bind λ(x0,x1,_)=>
((gu a0 a1 a2).bind λ(x2,_)=>
bif (!x2) then (some (a2,a3,true,a0,a1,(),(),x0,x1,())) else
bif decide (a3 < 0) then (some (a2,a3,true,a0,a1,(),(),x0,x1,())) else
(d7 a2).bind λx3=>
(dK a1 x3).bind λx4=>
some (a2,a3,x4.2.2,a0,a1,(),(),x0,x1,()):Option (T1Q)).bind λ(x2,x3,x4,x5,x6,x7,x8,x9,ac,_)=>
bif x4 then (some (.inl (x9,ac,(),false,()))) else
(d7 x2).bind λae=>
(dK ac ae).bind λaf=>
(dK ac ae).bind λag=>
(d7 ag.1).bind λah=>
(dK x9 ah).bind λai=>
(dK x9 ah).bind λaj=>
(dK x9 ah).bind λak=>
let am:=dM ak.length;
(dK ac ae).bind λan=>
let ap:=w64 (am - an.2.1);
let aq:=mmR false x3 ap;
(dK ac ae).bind λav=>
(dK ac ae).bind λax=>
let ay:=w64 (ax.2.1+aq);
(d7 av.2.1).bind λaz=>
(d7 ay).bind λaA=>
bif (jo az aA ak.length) then let aB:LDCn:=(nu ak az (Nat.sub aA az));
bif (dX 24 0 aB.length) then let aD:LDCn:=(List.append [] aB);
(dK ac ae).bind λaE=>
let aF:=w64 (aE.2.1+aq);
(dK ac ae).bind λaG=>
let aH:=(List.modify ac ae λe=>(e.1,(aF,e.2.2)));
some (.inr (x9,aH,aD,true,())) else none else none
def CF:X.Cfg:=⟨E0,[io,lb],[],[⟨3,0,qE,[(.normal,(qS [(sP 1 I64),(sP 2 I64),(pP 6 14),(pP 9 20),(sP 31 .bool)] [(8,(uL [(.row false ef),gt])),(14,(uL [N1,N1])),(20,(uL [(.row true (.row true KCn)),(.row true KOp)]))]))]⟩]⟩
def uC:Ctr:=⟨257,85,[.agg (uL [(.row false ef),gt]),shU I64,shU I64],[],[⟨(uL [(.row true (.row true KCn)),(.row true KOp),N1,.bool]),[.agg 2,.one,.one],[]⟩,⟨(uL [(.row true ef),(.row true KOp),(.row true KCn),.bool]),[.agg 2,.one,.one],[]⟩],ap4 mO⟩
theorem Cb:Lk 2 uC:=ls (C:=CF) rfl (aC jj (aC m9 aN)) (by kernel_rfl) λh=>by kernel_rfl
def o7:T1T->Option (T1T⊕(Int×T1Q)):=λ(v0,v1,v2,v3,v4,v5)=>
let x0:=dM v4.length;
bif decide (v2 < x0) then ((d7 v2).bind λx1=>
(dK v4 x1).bind λx2=>
bif (x2.1 != (-1)) then (let x3:Int:=(w64 (v2+1));
some (.inl (v0,v1,x3,v3,v4,v5))) else
some (.inr (v0,v1,v2,false,v3,v4,v5))) else
some (.inr (v0,v1,v2,false,v3,v4,v5))
def o6:T1S->Option (T1S⊕(Int×Int×T1B)):=λ(v0,v1,v2,v3,v4,v5,v6,v7,v8,_)=>
bif decide (v4 < v3) then (((d7 v4).bind λx0=>
(dK v8 x0).bind λx1=>
(dK v8 x0).bind λx2=>
bif (x2.1==v0) then ((d7 v4).bind λx3=>
(dK v8 x3).bind λx4=>
(dK v8 x3).bind λx5=>
let x6:=(List.modify v8 x3 λe=>(e.1,(0,e.2.2)));
some (v0,v1,v2,v3,v4,v5,v6,v7,x6,())) else
some (v0,v1,v2,v3,v4,v5,v6,v7,v8,()):Option (T1S)).bind λ(x0,x1,x2,x3,x4,x5,x6,x7)=>
let x9:=w64 (x4+1);
some (.inl (x0,x1,x2,x3,x9,x5,x6,x7))) else
some (.inr (v0,v1,v2,v3,v4,false,v5,v6,v7,v8,()))
def mP(a0:List LDCn) (a1:LDOp) (a2:Int) (a3:Int):Option (LLCn×LDOp×Int×Unit):=
(fF a0 a1).bind λ(x0,x1,_)=>
(dU o7 NN (a2,a3,0,a0,a1,(),(),x0,x1,())).bind λ(x2,x3,x4,x5,x6,x7,x8)=>
(bif decide (x2 < 0) then (some (x2,x3,x4,true,x8)) else
let af:=dM x6.length;
bif decide (x2>=af) then (some (x2,x3,x4,true,x8)) else
bif decide (x3 < 0) then (some (x2,x3,x4,true,x8)) else
bif decide (x3 > 2) then (some (x2,x3,x4,true,x8)) else
let ag:=dM x7.length;
some (x2,x3,x4,(x4==ag),x8):Option (T1B)).bind λ(af,ag,ah,ai,aj,ak,am,an,_)=>
bif ai then (some (am,an,(-1),())) else
bif (ag==1) then ((d7 af).bind λap=>
(dK am ap).bind λaq=>
(dK am ap).bind λav=>
let ax:=List.modify am ap λe=>[];
let ay:=dM an.length;
(dU o6 NN (af,ag,ah,ay,0,aj,ak,ax,an,())).bind λ(az,aA,aB,aD,aE,aF,aG,aH,aI,aJ,_)=>
(d7 aB).bind λaK=>
(dK aJ aK).bind λaL=>
(dK aJ aK).bind λaM=>
let aO:=(List.modify aJ aK λe=>(az,(0,(decide (aA > 0)))));
(bif (aA==2) then ((d7 az).bind λaP=>
(dK aI aP).bind λaQ=>
(dK aI aP).bind λaR=>
(dK aI aP).bind λaS=>
let aT:=dM aS.length;
(d7 aB).bind λaU=>
(dK aO aU).bind λaV=>
(dK aO aU).bind λaW=>
let aY:=(List.modify aO aU λe=>(e.1,(aT,e.2.2)));
some (aB,aG,aH,aI,aY,())) else
some (aB,aG,aH,aI,aO,()):Option (T0O)).bind λ(aP,aQ,aR,aS,aT,_)=>
some (aS,aT,aP,())) else
(d7 ah).bind λap=>
(dK an ap).bind λaq=>
(dK an ap).bind λav=>
let ax:=(List.modify an ap λe=>(af,(0,(decide (ag > 0)))));
(bif (ag==2) then ((d7 af).bind λay=>
(dK am ay).bind λaz=>
(dK am ay).bind λaA=>
(dK am ay).bind λaB=>
let aD:=dM aB.length;
(d7 ah).bind λaE=>
(dK ax aE).bind λaF=>
(dK ax aE).bind λaG=>
let aH:=(List.modify ax aE λe=>(e.1,(aD,e.2.2)));
some (ah,aj,ak,am,aH,())) else
some (ah,aj,ak,am,ax,()):Option (T0O)).bind λ(ay,az,aA,aB,aD,_)=>
some (aB,aD,ay,())
def CG:X.Cfg:=⟨E0,[io],[],[(lx 4 0 [(sP 1 I64),(sP 2 I64),(pP 3 8),(pP 6 14),(pP 8 18),(sP 9 I64)] [(8,(uL [(.row false ef),gt])),(14,(uL [N1,N1])),(18,(uL [(.row true (.row true KCn)),(.row true KOp)]))] 26),⟨8,1,qE,[(.normal,(qS [(sP 1 I64),(sP 2 I64),(pP 6 14),(pP 8 18),(sP 9 I64),(sP 52 .bool)] [(14,(uL [N1,N1])),(18,(uL [(.row true (.row true KCn)),(.row true KOp)]))]))]⟩,⟨17,2,qE,[(.normal,(qS [(sP 1 I64),(sP 2 I64),(pP 6 14),(pP 8 18),(sP 9 I64),(sP 62 I64),(sP 63 I64)] [(14,(uL [N1,N1])),(18,(uL [(.row true (.row true KCn)),(.row true KOp)]))]))]⟩,⟨14,3,(qS [(sP 1 I64),(sP 2 I64),(pP 6 14),(pP 8 18),(sP 9 I64),(sP 62 I64),(sP 63 I64)] [(14,(uL [N1,N1])),(18,(uL [(.row true (.row true KCn)),(.row true KOp)]))]),[(.exit 2,(qS [(sP 1 I64),(sP 2 I64),(pP 6 14),(pP 8 18),(sP 9 I64),(sP 62 I64),(sP 63 I64),(sP 64 .bool)] [(14,(uL [N1,N1])),(18,(uL [(.row true (.row true KCn)),(.row true KOp)]))]))]⟩,⟨21,4,qE,[(.normal,(qS [(pP 6 14),(pP 8 18),(sP 9 I64)] [(14,(uL [N1,N1])),(18,(uL [(.row true (.row true KCn)),(.row true KOp)]))]))]⟩]⟩
def uD:Ctr:=⟨258,86,[.agg (uL [(.row false ef),gt]),shU I64,shU I64],[],[⟨(uL [(.row true (.row true KCn)),(.row true KOp),I64]),[.agg 2,.one],[]⟩],ap4 mP⟩
theorem Cc:Lk 2 uD:=ls (C:=CG) rfl (aC jj aN) (by kernel_rfl) λh=>by kernel_rfl
def lq(a0:List LDCn) (a1:LDOp) (a2:Int):Option (LLCn×LDOp×Bool×Unit):=
(fF a0 a1).bind λ(x0,x1,_)=>
(gu a0 a1 a2).bind λ(x2,_)=>
bif (!x2) then (some (x0,x1,false,())) else
(d7 a2).bind λx3=>
(dK x1 x3).bind λx4=>
(dK x1 x3).bind λx5=>
let x6:=(List.modify x1 x3 λe=>((-1),(0,false)));
some (x0,x6,true,())
def AA:X.Cfg:=⟨E0,[io,lb],[],[]⟩
def sF:Ctr:=⟨259,87,[.agg (uL [(.row false ef),gt]),shU I64],[],[⟨(uL [(.row true (.row true KCn)),(.row true KOp),.bool]),[.agg 2,.one],[]⟩],ap3 lq⟩
theorem zX:Lk 2 sF:=ls (C:=AA) rfl (aC jj (aC m9 aN)) (by kernel_rfl) λh=>by kernel_rfl
def mN(a0:List LDCn) (a1:LDOp) (a2:Int) (a3:Int):Option (LLCn×LDOp×Bool×Unit):=
(fF a0 a1).bind λ(x0,x1,_)=>
((gu a0 a1 a2).bind λ(x2,_)=>
bif (!x2) then (some (a2,a3,true,(),(),x0,x1,())) else
bif decide (a3 < 0) then (some (a2,a3,true,(),(),x0,x1,())) else
(d7 a2).bind λx3=>
(dK a1 x3).bind λx4=>
(d7 x4.1).bind λx5=>
(dK a0 x5).bind λx6=>
let x7:=dM x6.length;
some (a2,a3,(decide (a3 > x7)),(),(),x0,x1,()):Option (T1m)).bind λ(x2,x3,x4,x5,x6,x7,x8,_)=>
bif x4 then (some (x7,x8,false,())) else
(d7 x2).bind λx9=>
(dK x8 x9).bind λac=>
(dK x8 x9).bind λae=>
let af:=(List.modify x8 x9 λe=>(e.1,(x3,e.2.2)));
some (x7,af,true,())
def CE:X.Cfg:=⟨E0,[io,lb],[],[⟨3,0,qE,[(.normal,(qS [(sP 1 I64),(sP 2 I64),(pP 6 14),(pP 8 18),(sP 33 .bool)] [(14,(uL [N1,N1])),(18,(uL [(.row true (.row true KCn)),(.row true KOp)]))]))]⟩]⟩
def uB:Ctr:=⟨260,88,[.agg (uL [(.row false ef),gt]),shU I64,shU I64],[],[⟨(uL [(.row true (.row true KCn)),(.row true KOp),.bool]),[.agg 2,.one],[]⟩],ap4 mN⟩
theorem Ca:Lk 2 uB:=ls (C:=CE) rfl (aC jj (aC m9 aN)) (by kernel_rfl) λh=>by kernel_rfl
def mM(a0:LDOu) (a1:Int) (a2:LDCn):Option (LDOu×T01):=
(jb a0).bind λ(x0,_)=>
(bif decide (a1 < 0) then (some (a0,a1,a2,true,x0,())) else
bif decide (a1>=2) then (some (a0,a1,a2,true,x0,())) else
let x1:=dM a0.length;
bif decide (x1>=200) then (some (a0,a1,a2,true,x0,())) else
let x2:=dM a2.length;
some (a0,a1,a2,(decide (x2 > 16)),x0,()):Option (LDOu×Int×LDCn×Bool×LDOu×Unit)).bind λ(x1,x2,x3,x4,x5,_)=>
bif x4 then (some (x5,0,false,())) else
let x6:=dM x1.length;
bif (dX 24 0 x3.length) then let x7:LDCn:=(List.append [] x3);
let x8:LDOu:=[(x6,(x2,x7))];
bif (dX 40 x5.length x8.length) then let x9:LDOu:=(List.append x5 x8);
let ac:=dM x3.length;
some (x9,ac,true,()) else none else none
def CA:X.Cfg:=⟨E0,[pJ],[(36,EV),(37,EV)],[⟨3,0,qE,[(.normal,(qS [(sP 0 iH),(sP 1 I64),(sP 2 ef),(9,.pk ⟨21,0,[]⟩ [0,0]),(sP 27 .bool)] [(21,(uL [(.row true EV)]))]))]⟩]⟩
def uA:Ctr:=⟨261,89,(uL [iH,I64,ef]),[],[⟨(uL [(.row true EV),I64,.bool]),[.one,.one,.one],[]⟩],ap3 mM⟩
theorem B9:Lk 2 uA:=ls (C:=CA) rfl (aC uf aN) (by kernel_rfl) λh=>by kernel_rfl
def fT:T1q->Option (T1q⊕(Int×Int×LI×Int×Int×Bool×LLI×LDCn×Unit)):=λ(v0,v1,v2,v3,v4,v5,v6,_)=>
bif decide (v4 < v3) then ((d7 v4).bind λx0=>
(dK v2 x0).bind λx1=>
let x2:LDCn:=[(0,(x1,(0,0)))];
bif (dX 24 v6.length x2.length) then let x3:LDCn:=(List.append v6 x2);
let x4:=w64 (v4+1);
some (.inl (v0,v1,v2,v3,x4,v5,x3,())) else none) else
some (.inr (v0,v1,v2,v3,v4,false,v5,v6,()))
def jy(a0:List LI) (a1:Int) (a2:Int):Option ((LLI×Unit×Bool×Unit)⊕(LLI×LDCn×Bool×Unit)):=
(fu a0).bind λ(x0,_)=>
(bif decide (a1 < 0) then (some (a0,a1,a2,true,x0,())) else
let x1:=dM a0.length;
bif decide (a1>=x1) then (some (a0,a1,a2,true,x0,())) else
some (a0,a1,a2,(decide (a2 < 0)),x0,()):Option (LLI×Int×Int×Bool×LLI×Unit)).bind λ(x1,x2,x3,x4,x5,_)=>
bif x4 then (some (.inl (x5,(),false,()))) else
(d7 x2).bind λx6=>
(dK x1 x6).bind λx7=>
let x8:=dM x7.length;
let x9:=mmR false x3 x8;
(d7 x2).bind λac=>
(dK x1 ac).bind λae=>
(d7 x9).bind λaf=>
bif (jo 0 af ae.length) then let ag:List (Int):=(nu ae 0 (Nat.sub af 0));
let ah:=dM ag.length;
(dU fT NN (x2,x9,ag,ah,0,x5,[],())).bind λ(ai,aj,ak,am,an,ap,aq,av,_)=>
(d7 ai).bind λax=>
(dK aq ax).bind λay=>
(dK aq ax).bind λaz=>
(dK aq ax).bind λaA=>
(d7 aj).bind λaB=>
bif (jo aB aA.length aA.length) then (dK aq ax).bind λaD=>
(d7 ai).bind λaE=>
(dK aq aE).bind λaF=>
(dK aq ax).bind λaG=>
(dK aq aE).bind λaH=>
let aI:=(List.modify aq aE λe=>(nu aG aB (Nat.sub aA.length aB)));
some (.inr (aI,av,true,())) else none else none
def wF:X.Cfg:=⟨E0,[gZ],[],[⟨3,0,qE,[(.normal,(qS [(sP 0 (.row false RW)),(sP 1 I64),(sP 2 I64),(9,.pk ⟨21,0,[]⟩ [0,0]),(sP 27 .bool)] [(21,(uL [(.row true (.row true CW))]))]))]⟩,(lx 9 1 [(sP 1 I64),(9,.pk ⟨21,0,[]⟩ [0,0]),(sP 10 I64),(11,.pk ⟨25,0,[]⟩ [0,0]),(sP 41 RW),(sP 42 I64),(sP 43 I64)] [(21,(uL [(.row true (.row true CW))])),(25,(uL [(.row true KCn)]))] 44)]⟩
def pH:Ctr:=⟨262,90,(uL [(.row false RW),I64,I64]),[],[⟨(uL [(.row true (.row true CW)),N1,.bool]),[.one,.one,.one],[]⟩,⟨(uL [(.row true RW),(.row true KCn),.bool]),[.one,.one,.one],[]⟩],ap3 jy⟩
theorem wl:Lk 2 pH:=ls (C:=wF) rfl (aC jV aN) (by kernel_rfl) λh=>by kernel_rfl
def rN:T3u->Option (T3u⊕(LDCn×Int×Int×Bool×T3m)):=λ(v0,v1,v2,v3,v4,v5,v6,v7,v8,v9,v10,v11,v12,v13,v14,v15,v16,v17,v18,v19,v20,v21,v22,v23,v24,v25,v26,v27,v28,v29,v30,v31,v32,v33,v34,v35,v36,_)=>
bif decide (v2 < v1) then ((d7 v2).bind λx0=>
(dK v0 x0).bind λx1=>
let x2:=wk .i64 x1.2.1;
(d7 v2).bind λx3=>
(dK v36 x3).bind λx4=>
(dK v36 x3).bind λx5=>
let x6:=List.modify v36 x3 λe=>x2;
let x7:=w64 (v2+1);
some (.inl (v0,v1,x7,v3,v4,v5,v6,v7,v8,v9,v10,v11,v12,v13,v14,v15,v16,v17,v18,v19,v20,v21,v22,v23,v24,v25,v26,v27,v28,v29,v30,v31,v32,v33,v34,v35,x6,()))) else
some (.inr (v0,v1,v2,false,v3,v4,v5,v6,v7,v8,v9,v10,v11,v12,v13,v14,v15,v16,v17,v18,v19,v20,v21,v22,v23,v24,v25,v26,v27,v28,v29,v30,v31,v32,v33,v34,v35,v36,()))
def nv(a0:List (Int)) (a1:List (Int)) (a2:List LI) (a3:List LDCn) (a4:LDOp) (a5:LDOu) (a6:Int) (a7:Int) (a8:Int) (a9:Int) (a10:Int) (a11:Int) (a12:LDCn) (a13:LDCn):Option (LI×LI×LLI×LLCn×LDOp×LDOu×Int×Int×Int×Int×LDCn×Int×Bool×Int×Unit):=
((iv a0 a1 a2 a3 a4 a5).bind λ(x0,_)=>
bif (!x0) then (some (true,a0,a1,a2,a3,a4,a5,a6,a7,a8,a9,a10,a11,a12,a13,(),(),(),(),(),(),0,0,0,0,(),0,false,())) else
(jF a6 a7 a8 a9 a10 a11 a12 a13).bind λ(x1,_)=>
bif (!x1) then (some (true,a0,a1,a2,a3,a4,a5,a6,a7,a8,a9,a10,a11,a12,a13,(),(),(),(),(),(),0,0,0,0,(),0,false,())) else
bif (a7 != 1) then (some (true,a0,a1,a2,a3,a4,a5,a6,a7,a8,a9,a10,a11,a12,a13,(),(),(),(),(),(),0,0,0,0,(),0,false,())) else
(o5 a11).bind λ(x2,_)=>
bif (!x2) then (some (true,a0,a1,a2,a3,a4,a5,a6,a7,a8,a9,a10,a11,a12,a13,(),(),(),(),(),(),0,0,0,0,(),0,false,())) else
(ly a6 a7 a8 a9 a10 a11 a12 a13).bind λ(x3,_)=>
bif (!x3) then (some (true,a0,a1,a2,a3,a4,a5,a6,a7,a8,a9,a10,a11,a12,a13,(),(),(),(),(),(),0,0,0,0,(),0,false,())) else
(gV a11).bind λ(x4,_)=>
bif (x4==2) then ((dK a12 2).bind λx5=>
some ((decide (x5.2.1 > 16)),a0,a1,a2,a3,a4,a5,a6,a7,a8,a9,a10,a11,a12,a13,(),(),(),(),(),(),0,0,0,0,(),0,false,())) else
some (false,a0,a1,a2,a3,a4,a5,a6,a7,a8,a9,a10,a11,a12,a13,(),(),(),(),(),(),0,0,0,0,(),0,false,()):Option (Bool×LI×LI×LLI×LLCn×LDOp×LDOu×Int×Int×Int×Int×Int×Int×LDCn×LDCn×Unit×Unit×Unit×Unit×Unit×Unit×T1o)).bind λ(x0,x1,x2,x3,x4,x5,x6,x7,x8,x9,ac,ae,af,ag,ah,ai,aj,ak,am,an,ap,aq,av,ax,ay,az,aA,aB,_)=>
bif x0 then (some ([],[],[],[],[],[],0,0,0,0,[],0,false,1,())) else
(kR x1 x2 x3 x4 x5 x6).bind λ(aD,aE,aF,aG,aH,aI,_)=>
let aJ:List (Int):=[0,0,0];
let aK:=dM ag.length;
(dU rN NN (ag,aK,0,x1,x2,x3,x4,x5,x6,x7,x8,x9,ac,ae,af,ag,ah,ai,aj,ak,am,an,ap,aq,av,ax,ay,az,aA,aB,aD,aE,aF,aG,aH,aI,aJ,())).bind λ(aL,aM,aO,aP,aQ,aR,aS,aT,aU,aV,aW,aY,aZ,ba,bc,bd,be,bf,bg,bh,bi,bj,bk,bm,bn,bo,bp,bq,bt,bv,bx,bA,bB,bC,bD,bE,bF,bG,_)=>
(d8 0 false).bind λ(bH,bI,bJ,bK,bL)=>
(match (bif (bd==1) then ((dK bG 0).bind λbO=>
(dK bG 0).bind λbP=>
(lp aT aU bP bf).bind λ(bQ,bR,bS,bT,_)=>
(d8 bS bT).bind λ(bU,bV,bW,bY,bZ,b8,b9,_)=>
some (.inl (bg,bh,bi,bj,bk,bm,bn,bo,bp,bq,bt,bv,bx,bA,bB,bC,bQ,bR,bF,bU,bV,bW,bY,[],b8,b9,()))) else
bif (bd==2) then ((dK bG 0).bind λbO=>
(dK bG 0).bind λbP=>
(dK bG 2).bind λbQ=>
(dK bG 2).bind λbR=>
(match mO aT aU bP bR with
| none=>none
| some (.inl (bS,bT,bU,bV,_))=>
(d8 0 bV).bind λ(bW,bY,bZ,b8,b9,ca,cb,_)=>
some (.inl (bg,bh,bi,bj,bk,bm,bn,bo,bp,bq,bt,bv,bx,bA,bB,bC,bS,bT,bF,bW,bY,bZ,b8,[],ca,cb,()))
| some (.inr (bS,bT,bU,bV,_))=>
let bW:=dM bU.length;
(d8 bW bV).bind λ(bY,bZ,b8,b9,ca,cb,cd,_)=>
some (.inl (bg,bh,bi,bj,bk,bm,bn,bo,bp,bq,bt,bv,bx,bA,bB,bC,bS,bT,bF,bY,bZ,b8,b9,bU,cb,cd,())))) else
bif (bd==3) then ((dK bG 0).bind λbO=>
(dK bG 0).bind λbP=>
(dK bG 1).bind λbQ=>
(dK bG 1).bind λbR=>
(mP aT aU bP bR).bind λ(bS,bT,bU,_)=>
bif decide (bU>=0) then (let bV:Int:=(wk .u16 bU);
some (.inr (.inl (bg,bh,bi,bj,bk,bm,bn,bo,bp,bq,bt,bv,bx,bA,bB,bC,bS,bT,bF,2,bV,0,0,bL)))) else
some (.inr (.inl (bg,bh,bi,bj,bk,bm,bn,bo,bp,bq,bt,bv,bx,bA,bB,bC,bS,bT,bF,bH,bI,bJ,bK,bL)))) else
bif (bd==4) then ((dK bG 0).bind λbO=>
(dK bG 0).bind λbP=>
(lq aT aU bP).bind λ(bQ,bR,bS,_)=>
(d8 0 bS).bind λ(bT,bU,bV,bW,bY,bZ,b8,_)=>
some (.inl (bg,bh,bi,bj,bk,bm,bn,bo,bp,bq,bt,bv,bx,bA,bB,bC,bQ,bR,bF,bT,bU,bV,bW,[],bZ,b8,()))) else
bif (bd==5) then ((dK bG 0).bind λbO=>
(dK bG 0).bind λbP=>
(dK bG 1).bind λbQ=>
(dK bG 1).bind λbR=>
(mN aT aU bP bR).bind λ(bS,bT,bU,_)=>
(d8 0 bU).bind λ(bV,bW,bY,bZ,b8,b9,ca,_)=>
some (.inl (bg,bh,bi,bj,bk,bm,bn,bo,bp,bq,bt,bv,bx,bA,bB,bC,bS,bT,bF,bV,bW,bY,bZ,[],b9,ca,()))) else
bif (bd==6) then (let bO:Int:=(dM aQ.length);
bif decide (bO > 0) then ((dK aQ 0).bind λbP=>
let bQ:=wk .i64 bP;
(d8 bQ true).bind λ(bR,bS,bT,bU,bV,bW,bY,_)=>
bif (jo 1 bA.length bA.length) then let bZ:List (Int):=(nu bA 1 (Nat.sub bA.length 1));
some (.inr (.inr (.inl (bg,bh,bi,bj,bk,bm,bn,bo,bp,bq,bt,bv,bx,bZ,bB,bC,bD,bE,bF,bR,bS,bT,bU,bV,bW,bY,())))) else none) else
some (.inr (.inl (bg,bh,bi,bj,bk,bm,bn,bo,bp,bq,bt,bv,bx,bA,bB,bC,bD,bE,bF,bH,bI,bJ,bK,bL)))) else
bif (bd==7) then (let bO:Int:=(dM aR.length);
bif decide (bO > 0) then ((dK aR 0).bind λbP=>
let bQ:=wk .i64 bP;
(d8 bQ true).bind λ(bR,bS,bT,bU,bV,bW,bY,_)=>
bif (jo 1 bB.length bB.length) then let bZ:List (Int):=(nu bB 1 (Nat.sub bB.length 1));
some (.inr (.inr (.inr (.inl (bg,bh,bi,bj,bk,bm,bn,bo,bp,bq,bt,bv,bx,bA,bZ,bC,bD,bE,bF,bR,bS,bT,bU,bV,bW,bY,()))))) else none) else
some (.inr (.inl (bg,bh,bi,bj,bk,bm,bn,bo,bp,bq,bt,bv,bx,bA,bB,bC,bD,bE,bF,bH,bI,bJ,bK,bL)))) else
bif (bd==13) then ((dK bG 0).bind λbO=>
(dK bG 0).bind λbP=>
(mM aV bP bf).bind λ(bQ,bR,bS,_)=>
(d8 bR bS).bind λ(bT,bU,bV,bW,bY,bZ,b8,_)=>
some (.inr (.inl (bg,bh,bi,bj,bk,bm,bn,bo,bp,bq,bt,bv,bx,bA,bB,bC,bD,bE,bQ,bT,bU,bV,bW,bY,bZ,b8,())))) else
bif (bd==14) then ((dK bG 0).bind λbO=>
(dK bG 0).bind λbP=>
(dK bG 2).bind λbQ=>
(dK bG 2).bind λbR=>
(match jy aS bP bR with
| none=>none
| some (.inl (bS,bT,bU,_))=>
(d8 0 bU).bind λ(bV,bW,bY,bZ,b8,b9,ca,_)=>
some (.inr (.inl (bg,bh,bi,bj,bk,bm,bn,bo,bp,bq,bt,bv,bx,bA,bB,bS,bD,bE,bF,bV,bW,bY,bZ,bT,b9,ca,())))
| some (.inr (bS,bT,bU,_))=>
let bV:=dM bT.length;
(d8 bV bU).bind λ(bW,bY,bZ,b8,b9,ca,cb,_)=>
some (.inr (.inr (.inr (.inr (bg,bh,bi,bj,bk,bm,bn,bo,bp,bq,bt,bv,bx,bA,bB,bS,bD,bE,bF,bW,bY,bZ,b8,bT,ca,cb,()))))))) else
some (.inr (.inl (bg,bh,bi,bj,bk,bm,bn,bo,bp,bq,bt,bv,bx,bA,bB,bC,bD,bE,bF,bH,bI,bJ,bK,bL))):Option (T3c⊕(T3d⊕(T3d⊕(T3d⊕T3c))))) with
| none=>none
| some (.inl (bO,bP,bQ,bR,bS,bT,bU,bV,bW,bY,bZ,b8,b9,ca,cb,cd,cf,cg,ch,ci,cj,cn,cq,cr,cu,cw,_))=>
some (ca,cb,cd,cf,cg,ch,ci,cj,cn,cq,cr,cu,cw,0,())
| some (.inr (.inl (bO,bP,bQ,bR,bS,bT,bU,bV,bW,bY,bZ,b8,b9,ca,cb,cd,cf,cg,ch,ci,cj,cn,cq,cr,cu,cw,_)))=>
some (ca,cb,cd,cf,cg,ch,ci,cj,cn,cq,[],cu,cw,0,())
| some (.inr (.inr (.inl (bO,bP,bQ,bR,bS,bT,bU,bV,bW,bY,bZ,b8,b9,ca,cb,cd,cf,cg,ch,ci,cj,cn,cq,cr,cu,cw,_))))=>
some (ca,cb,cd,cf,cg,ch,ci,cj,cn,cq,[],cu,cw,0,())
| some (.inr (.inr (.inr (.inl (bO,bP,bQ,bR,bS,bT,bU,bV,bW,bY,bZ,b8,b9,ca,cb,cd,cf,cg,ch,ci,cj,cn,cq,cr,cu,cw,_)))))=>
some (ca,cb,cd,cf,cg,ch,ci,cj,cn,cq,[],cu,cw,0,())
| some (.inr (.inr (.inr (.inr (bO,bP,bQ,bR,bS,bT,bU,bV,bW,bY,bZ,b8,b9,ca,cb,cd,cf,cg,ch,ci,cj,cn,cq,cr,cu,cw,_)))))=>
some (ca,cb,cd,cf,cg,ch,ci,cj,cn,cq,cr,cu,cw,0,()))
def GX:X.Cfg:=⟨E0,[lR,oy,uz,sJ,iL,pG,j3,sE,uC,uD,sF,uB,uA,pH],[],[⟨2,0,qE,[(.normal,(qS [(pP 2 6),(pP 3 8),(pP 4 10),(pP 5 12),(sP 67 .bool)] [(6,(uL [RW,RW,(.row false RW),(.row false ef),gt,iH])),(8,(uL [I64,I64,I64,I64,I64,I64,ef,ef])),(10,(uL [N1,N1,N1,N1,N1,N1])),(12,(uL [CB,CW,I64,I64,N1,I64,.bool]))]))]⟩,(lx 8 1 [(pP 2 6),(pP 3 8),(pP 4 10),(pP 5 12),(pP 7 16),(8,.pk ⟨19,0,[]⟩ [0,0]),(sP 74 ef),(sP 75 I64),(sP 76 I64)] [(6,(uL [RW,RW,(.row false RW),(.row false ef),gt,iH])),(8,(uL [I64,I64,I64,I64,I64,I64,ef,ef])),(10,(uL [N1,N1,N1,N1,N1,N1])),(12,(uL [CB,CW,I64,I64,N1,I64,.bool])),(16,(uL [(.row true CW),(.row true CW),(.row true (.row true CW)),(.row true (.row true KCn)),(.row true KOp),(.row true EV)])),(19,(uL [(.row true I64)]))] 77),⟨14,2,qE,[(.normal,(qS [(pP 4 10),(pP 5 12),(pP 7 16),(pP 11 24)] [(10,(uL [N1,N1,N1,N1,N1,N1])),(12,(uL [CB,CW,I64,I64,N1,I64,.bool])),(16,(uL [(.row true CW),(.row true CW),(.row true (.row true CW)),(.row false ef),gt,(.row true EV)])),(24,(uL [CB,CW,I64,I64,(.row true KCn),I64,.bool]))])),(.normal,(qS [(pP 4 10),(pP 5 12),(pP 7 16),(pP 11 24)] [(10,(uL [N1,N1,N1,N1,N1,N1])),(12,(uL [CB,CW,I64,I64,N1,I64,.bool])),(16,(uL [(.row true CW),(.row true CW),(.row true (.row true CW)),(.row true (.row true KCn)),(.row true KOp),(.row true EV)])),(24,(uL [CB,CW,I64,I64,N1,I64,.bool]))])),(.normal,(qS [(pP 4 10),(pP 5 12),(pP 7 16),(pP 11 24)] [(10,(uL [N1,N1,N1,N1,N1,N1])),(12,(uL [CB,CW,I64,I64,N1,I64,.bool])),(16,(uL [RW,(.row true CW),(.row true (.row true CW)),(.row true (.row true KCn)),(.row true KOp),(.row true EV)])),(24,(uL [CB,CW,I64,I64,N1,I64,.bool]))])),(.normal,(qS [(pP 4 10),(pP 5 12),(pP 7 16),(pP 11 24)] [(10,(uL [N1,N1,N1,N1,N1,N1])),(12,(uL [CB,CW,I64,I64,N1,I64,.bool])),(16,(uL [(.row true CW),RW,(.row true (.row true CW)),(.row true (.row true KCn)),(.row true KOp),(.row true EV)])),(24,(uL [CB,CW,I64,I64,N1,I64,.bool]))])),(.normal,(qS [(pP 4 10),(pP 5 12),(pP 7 16),(pP 11 24)] [(10,(uL [N1,N1,N1,N1,N1,N1])),(12,(uL [CB,CW,I64,I64,N1,I64,.bool])),(16,(uL [(.row true CW),(.row true CW),(.row true RW),(.row true (.row true KCn)),(.row true KOp),(.row true EV)])),(24,(uL [CB,CW,I64,I64,(.row true KCn),I64,.bool]))]))]⟩]⟩
def zn:Ctr:=⟨245,91,[.agg (uL [RW,RW,(.row false RW),(.row false ef),gt,iH]),.agg (uL [I64,I64,I64,I64,I64,I64,ef,ef])],[],[⟨(uL [RW,RW,(.row false RW),(.row false ef),gt,iH,CB,CW,I64,I64,ef,I64,.bool,I64]),[.agg 6,.agg 7,.one],[]⟩],ap14 nv⟩
theorem GQ:Lk 5 zn:=ls (C:=GX) rfl (aC og (aC sc (aC B8 (aC Aa (aC kJ (aC ue (aC lN (aC zW (aC Cb (aC Cc (aC zX (aC Ca (aC B9 (aC wl aN)))))))))))))) (by kernel_rfl) λh=>by kernel_rfl
def jv:T3g->Option (T3g⊕(T38⊕(LDTh×Int×Int×Bool×T38))):=λ(v0,v1,v2,v3,v4,v5,v6,v7,v8,v9,v10,v11,v12,v13,v14,v15,v16,v17,v18,v19,v20,v21)=>
bif decide (v2 < v1) then ((d7 v2).bind λx0=>
(dK v0 x0).bind λx1=>
bif (x1.1==0) then ((d8 v2 true).bind λ(x2,x3,x4,x5,x6,x7,x8,_)=>
some (.inr (.inl (v3,v4,v5,v6,v7,v8,v9,v10,v11,v12,v13,v14,v15,v16,v17,v18,v19,v20,x2,x3,x4,x5,x6,v2,x8,())))) else
let x2:=w64 (v2+1);
some (.inl (v0,v1,x2,v3,v4,v5,v6,v7,v8,v9,v10,v11,v12,v13,v14,v15,v16,v17,v18,v19,v20,v21))) else
some (.inr (.inr (v0,v1,v2,false,v3,v4,v5,v6,v7,v8,v9,v10,v11,v12,v13,v14,v15,v16,v17,v18,v19,v20,v21)))
def jw(a0:Int) (a1:Int) (a2:Int) (a3:Int) (a4:Int) (a5:Int) (a6:LDCn) (a7:LDCn) (a8:LDIn) (a9:List (Int)) (a10:List LI) (a11:List (Int)) (a12:Int) (a13:LDCe) (a14:LDLn) (a15:LDTh) (a16:List (Int)) (a17:List (Int)) (a18:List LI) (a19:List LDCn) (a20:LDOp) (a21:LDOu) (a22:List (Int)) (a23:List LI) (a24:LDEn) (a25:List (Int)):Option (Int×Int×Int×Int×LDCn×T30):=
(bif (a5==0) then (some (a5,true,a8,a9,a10,a11,a12,a13,a14,a15,a16,a17,a18,a19,a20,a21,a22,a23,a24,a25,a0,a1,a2,a3,a4,a5,a6,a7,0,0,0,0,(),0,false,())) else
bif (a5==12) then (some (a5,true,a8,a9,a10,a11,a12,a13,a14,a15,a16,a17,a18,a19,a20,a21,a22,a23,a24,a25,a0,a1,a2,a3,a4,a5,a6,a7,0,0,0,0,(),0,false,())) else
some (a5,(a5==15),a8,a9,a10,a11,a12,a13,a14,a15,a16,a17,a18,a19,a20,a21,a22,a23,a24,a25,a0,a1,a2,a3,a4,a5,a6,a7,0,0,0,0,(),0,false,()):Option (T3n)).bind λ(x0,x1,x2,x3,x4,x5,x6,x7,x8,x9,ac,ae,af,ag,ah,ai,aj,ak,am,an,ap,aq,av,ax,ay,az,aA,aB,aD)=>
bif x1 then ((d8 0 true).bind λ(aK,aL,aM,aO,aP,aQ,aR,_)=>
some (aK,aL,aM,aO,[],aQ,aR,x2,x3,x4,x5,x6,x7,x8,x9,ac,ae,af,ag,ah,ai,aj,ak,am,an,())) else
bif (x0==8) then ((dK aA 0).bind λaK=>
let aL:=wk .i64 aK.2.1;
(mQ aj ak aL ap).bind λ(aM,aO,aP,_)=>
(d8 0 (aP != 2)).bind λ(aQ,aR,aS,aT,aU,aV,aW,_)=>
some (aQ,aR,aS,aT,[],aV,(aP==1),x2,x3,x4,x5,x6,x7,x8,x9,ac,ae,af,ag,ah,ai,aM,aO,am,an,())) else
bif (x0==9) then ((dK aA 0).bind λaK=>
let aL:=wk .i64 aK.2.1;
(jc aj ak aL ap).bind λ(aM,aO,aP,aQ,_)=>
(d8 0 aQ).bind λ(aR,aS,aT,aU,aV,aW,aY,_)=>
some (aR,aS,aT,aU,[],aW,aY,x2,x3,x4,x5,x6,x7,x8,x9,ac,ae,af,ag,ah,ai,aM,aO,am,an,())) else
bif (x0==10) then (let aK:Int:=(dM x9.length);
(match dU jv NN (x9,aK,0,x2,x3,x4,x5,x6,x7,x8,x9,ac,ae,af,ag,ah,ai,aj,ak,am,an,aD) with
| none=>none
| some (.inl (aL,aM,aO,aP,aQ,aR,aS,aT,aU,aV,aW,aY,aZ,ba,bc,bd,be,bf,bg,bh,bi,bj,bk,bm,bn,_))=>
some (bg,bh,bi,bj,[],bm,bn,aL,aM,aO,aP,aQ,aR,aS,aT,aU,aV,aW,aY,aZ,ba,bc,bd,be,bf,())
| some (.inr (aL,aM,aO,aP,aQ,aR,aS,aT,aU,aV,aW,aY,aZ,ba,bc,bd,be,bf,bg,bh,bi,bj,bk,bm,bn,bo,bp,bq,bt,_))=>
(d8 0 false).bind λ(bv,bx,bA,bB,bC,bD,bE,_)=>
some (bv,bx,bA,bB,[],bD,bE,aQ,aR,aS,aT,aU,aV,aW,aY,aZ,ba,bc,bd,be,bf,bg,bh,bi,bj,()))) else
bif (x0==11) then ((dK aA 0).bind λaK=>
let aL:=wk .i64 aK.2.1;
(bif (aL==ap) then (some (aL,true,x2,x3,x4,x5,x6,x7,x8,x9,ac,ae,af,ag,ah,ai,aj,ak,am,an,ap,aq,av,ax,ay,az,aA,aB,aD)) else
bif decide (aL>=4) then (some (aL,true,x2,x3,x4,x5,x6,x7,x8,x9,ac,ae,af,ag,ah,ai,aj,ak,am,an,ap,aq,av,ax,ay,az,aA,aB,aD)) else
(d7 aL).bind λaM=>
(dK x9 aM).bind λaO=>
some (aL,(aO.1==0),x2,x3,x4,x5,x6,x7,x8,x9,ac,ae,af,ag,ah,ai,aj,ak,am,an,ap,aq,av,ax,ay,az,aA,aB,aD):Option (T3n)).bind λ(aM,aO,aP,aQ,aR,aS,aT,aU,aV,aW,aY,aZ,ba,bc,bd,be,bf,bg,bh,bi,bj,bk,bm,bn,bo,bp,bq,bt,bv,bx,bA,bB,bC,bD,bE,_)=>
bif aO then ((d8 0 false).bind λ(bF,bG,bH,bI,bJ,bK,bL,_)=>
some (bF,bG,bH,bI,[],bK,bL,aP,aQ,aR,aS,aT,aU,aV,aW,aY,aZ,ba,bc,bd,be,bf,bg,bh,bi,())) else
(d7 aM).bind λbF=>
(dK aW bF).bind λbG=>
bif (bG.1==4) then (let bH:Int:=(wk .i64 bG.2.2.2.2.2.2.2);
(d8 bH true).bind λ(bI,bJ,bK,bL,bM,bN,bO,_)=>
some (bI,bJ,bK,bL,[],bN,bO,aP,aQ,aR,aS,aT,aU,aV,aW,aY,aZ,ba,bc,bd,be,bf,bg,bh,bi,())) else
(d7 bj).bind λbH=>
(dK bi bH).bind λbI=>
(dK bi bH).bind λbJ=>
let bK:=List.modify bi bH λe=>aM;
(d8 0 true).bind λ(bL,bM,bN,bO,bP,bQ,bR,_)=>
some (bL,bM,bN,bO,[],bQ,true,aP,aQ,aR,aS,aT,aU,aV,aW,aY,aZ,ba,bc,bd,be,bf,bg,bh,bK,())) else
(nv ac ae af ag ah ai ap aq av ax ay az aA aB).bind λ(aK,aL,aM,aO,aP,aQ,aR,aS,aT,aU,aV,aW,aY,aZ,_)=>
some (aR,aS,aT,aU,aV,aW,aY,x2,x3,x4,x5,x6,x7,x8,x9,aK,aL,aM,aO,aP,aQ,aj,ak,am,an,())
def wE:X.Cfg:=⟨E0,[j3,uE,nd,zn],[],[⟨3,0,qE,[(.normal,(qS [(pP 0 2),(pP 3 8),(pP 4 10),(sP 21 I64),(sP 22 .bool)] [(2,(uL [eW,RI,(.row false RW),RI,CW,eS,fe,fA,RW,RW,(.row false RW),(.row false ef),gt,iH,RI,(.row false RI),(.row true rJ),(.row true I64)])),(8,(uL [I64,I64,I64,I64,I64,I64,ef,ef])),(10,(uL [CB,CW,I64,I64,N1,I64,.bool]))]))]⟩,⟨20,1,(qS [(pP 0 2),(pP 4 10),(sP 87 fA),(sP 88 I64),(sP 89 I64)] [(2,(uL [eW,RI,(.row false RW),RI,CW,eS,fe,fA,RW,RW,(.row false RW),(.row false ef),gt,iH,RI,(.row false RI),(.row true rJ),(.row true I64)])),(10,(uL [CB,CW,I64,I64,N1,I64,.bool]))]),[(.ret,(qS [(pP 0 2),(pP 4 10)] [(2,(uL [eW,RI,(.row false RW),RI,CW,eS,fe,fA,RW,RW,(.row false RW),(.row false ef),gt,iH,RI,(.row false RI),(.row true rJ),(.row true I64)])),(10,(uL [CB,CW,I64,I64,N1,I64,.bool]))])),(.exit 1,(qS [(pP 0 2),(pP 4 10),(sP 87 fA),(sP 88 I64),(sP 89 I64),(sP 90 .bool)] [(2,(uL [eW,RI,(.row false RW),RI,CW,eS,fe,fA,RW,RW,(.row false RW),(.row false ef),gt,iH,RI,(.row false RI),(.row true rJ),(.row true I64)])),(10,(uL [CB,CW,I64,I64,N1,I64,.bool]))]))]⟩,⟨33,2,qE,[(.normal,(qS [(pP 0 2),(pP 3 8),(pP 4 10),(sP 14 I64),(sP 131 .bool)] [(2,(uL [eW,RI,(.row false RW),RI,CW,eS,fe,fA,RW,RW,(.row false RW),(.row false ef),gt,iH,RI,(.row false RI),(.row true rJ),(.row true I64)])),(8,(uL [I64,I64,I64,I64,I64,I64,ef,ef])),(10,(uL [CB,CW,I64,I64,N1,I64,.bool]))]))]⟩]⟩
def pF:Ctr:=⟨232,92,[.ptr ⟨2,0,[]⟩ [0],.agg (uL [I64,I64,I64,I64,I64,I64,ef,ef])],[(2,(uL [eW,RI,(.row false RW),RI,CW,eS,fe,fA,RW,RW,(.row false RW),(.row false ef),gt,iH,RI,(.row false RI),(.row true rJ),(.row true I64)]))],[⟨(uL [CB,CW,I64,I64,ef,I64,.bool]),[.agg 7],[(2,(uL [eW,RI,(.row false RW),RI,CW,eS,fe,fA,RW,RW,(.row false RW),(.row false ef),gt,iH,RI,(.row false RI),(.row true rJ),(.row true I64)]))]⟩],ap26 jw⟩
theorem wi:Lk 6 pF:=ls (C:=wE) rfl (aC lN (aC Cd (aC px (aC GQ aN)))) (by kernel_rfl) λh=>by kernel_rfl
def jC(a0:Int) (a1:Int) (a2:Int) (a3:Int) (a4:LDCn) (a5:Int) (a6:Bool):Option (Bool×Unit):=
(je a0 a1 a2 a3).bind λ(x0,_)=>
bif x0 then ((ff a4 16).bind λ(x1,_)=>
bif x1 then (bif (decide (a5>=(-1))) then (some ((decide (a5 < 4)),())) else
some (false,())) else
some (false,())) else
some (false,())
def AB:X.Cfg:=⟨E0,[pO,fZ],[],[]⟩
def ox:Ctr:=⟨131,93,[.agg (uL [CB,CW,I64,I64,ef,I64,.bool])],[],[⟨(uL [.bool]),[.one],[]⟩],ap7 jC⟩
theorem sb:Lk 3 ox:=ls (C:=AB) rfl (aC ui (aC gK aN)) (by kernel_rfl) λh=>by kernel_rfl
def f7(a0:List (Int)) (a1:Int) (a2:List (Int)) (a3:Int) (a4:Int) (a5:Int) (a6:Int):Option (T0d):=
(f8 a2 a3 a4 a5 a6).bind λ(x0,_)=>
bif (!x0) then (some (0,0,1,())) else
bif (a3==0) then (some (0,a4,0,())) else
bif (a3==2) then (let x1:Int:=(wk .u16 (a4+a1));
some (2,x1,0,())) else
(d7 a5).bind λx1=>
(dK a0 x1).bind λx2=>
let x3:=w64 (x2+a6);
let x4:=wk .u16 x3;
some (1,x4,0,())
def Ep:X.Cfg:=⟨E0,[iM],[],[]⟩
def oC:Ctr:=⟨99,94,[.agg (uL [RI,CW]),shU RI,.agg (uL [CB,CW,I64,I64])],[],[⟨(uL [CB,CW,I64]),[.agg 2,.one],[]⟩],ap7 f7⟩
theorem rz:Lk 3 oC:=ls (C:=Ep) rfl (aC kK aN) (by kernel_rfl) λh=>by kernel_rfl
def jN(a0:List (Int)) (a1:Int) (a2:List (Int)) (a3:Int) (a4:Int):Option (T02):=
(fm a2 a3 a4).bind λ(x0,_)=>
bif (!x0) then (some (0,6,())) else
(d7 a3).bind λx1=>
(dK a0 x1).bind λx2=>
let x3:=w64 (x2+a4);
some (x3,0,())
def wN:X.Cfg:=⟨E0,[iN],[],[]⟩
def pW:Ctr:=⟨263,95,[.agg (uL [RI,CW]),shU RI,.agg (uL [I64,I64])],[],[⟨(uL [I64,I64]),[.one,.one],[]⟩],ap5 jN⟩
theorem ww:Lk 2 pW:=ls (C:=wN) rfl (aC kL aN) (by kernel_rfl) λh=>by kernel_rfl
def rO:Option (T1I):=
bif (qw 8 8 2) then let x0:LDCe:=(List.replicate 8 (0,0));
some (0,x0,0,0,(-1),(-1),0,0,()) else none
def AO:X.Cfg:=⟨E0,[],[],[]⟩
def sO:Ctr:=⟨270,96,[],[],[⟨(uL [I64,(.row true KCe),I64,I64,I64,I64,I64,CW]),[.agg 8],[]⟩],λh=>rO⟩
theorem Af:Lk 1 sO:=ls (C:=AO) rfl aN (by kernel_rfl) λh=>by kernel_rfl
def n6(a0:Int) (a1:Int) (a2:Int):Option (T1I):=
(rO).bind λ(x0,x1,x2,x3)=>
(dK x1 0).bind λx8=>
(dK x1 0).bind λx9=>
let ac:=List.modify x1 0 λe=>(a1,a2);
some (1,ac,a0,x3)
def Em:X.Cfg:=⟨E0,[sO],[],[]⟩
def xw:Ctr:=⟨264,97,[shU I64,.agg (uL [CB,CW])],[],[⟨(uL [I64,(.row true KCe),I64,I64,I64,I64,I64,CW]),[.agg 8],[]⟩],ap3 n6⟩
theorem Eb:Lk 2 xw:=ls (C:=Em) rfl (aC Af aN) (by kernel_rfl) λh=>by kernel_rfl
def kv:T3h->Option (T3h⊕(T0Y⊕T3i)):=λ(v0,v1,v2,v3,v4,v5,v6,v7,v8,v9,v10,v11,v12,v13,v14,v15,v16,v17,v18,v19,v20,v21,v22,v23,v24,v25,v26,v27,v28,v29,v30,_)=>
bif decide (v3 < v2) then ((d7 v3).bind λx0=>
(dK v1 x0).bind λx1=>
(f7 v4 v5 v10 x1.1 x1.2.1 x1.2.2.1 x1.2.2.2).bind λ(x2,x3,x4,_)=>
bif (x4 != 0) then (some (.inr (.inl (false,v4,v5,v6,v7,v8,())))) else
(fm v10 v29 v30).bind λ(x5,_)=>
bif (!x5) then (some (.inr (.inl (false,v4,v5,v6,v7,v8,())))) else
(jN v4 v5 v10 v29 v30).bind λ(x6,x7,_)=>
(iy x6 x2 x3 v6 v7).bind λ(x8,x9,_)=>
let ac:=w64 (v30+1);
let ae:=w64 (v3+1);
some (.inl (v0,v1,v2,ae,v4,v5,x8,x9,v8,v9,v10,v11,v12,v13,v14,v15,v16,v17,v18,v19,v20,v21,v22,v23,v24,v25,v26,v27,v28,v29,ac,()))) else
some (.inr (.inr (v0,v1,v2,v3,false,v4,v5,v6,v7,v8,v9,v10,v11,v12,v13,v14,v15,v16,v17,v18,v19,v20,v21,v22,v23,v24,v25,v26,v27,v28,v29,v30,())))
def nY(a0:LDIn) (a1:List (Int)) (a2:List LI) (a3:Int) (a4:Int) (a5:Int) (a6:Int) (a7:Int) (a8:Int) (a9:LDCn) (a10:LDCn) (a11:Int) (a12:Int) (a13:Int) (a14:Int) (a15:LDCn) (a16:Int) (a17:Bool) (a18:List (Int)) (a19:Int) (a20:LDCe) (a21:LDLn) (a22:LDTh):Option (T0Y):=
(d7 a3).bind λx0=>
(dK a22 x0).bind λx1=>
(f7 a18 a19 a1 a11 a12 a13 a14).bind λ(x2,x3,x4,_)=>
bif (x4 != 0) then (some (false,a18,a19,a20,a21,a22,())) else
(match ((gV a8).bind λ(x5,_)=>
bif (x5==2) then (let x6:Int:=(dM a15.length);
bif decide (x6 > 0) then ((dK a9 1).bind λx7=>
(dK a9 1).bind λx8=>
(dK a9 1).bind λx9=>
(f8 a1 x9.1 x9.2.1 x9.2.2.1 x9.2.2.2).bind λ(ac,_)=>
bif (!ac) then (some (.inl (false,a18,a19,a20,a21,a22,()))) else
(dK a9 1).bind λae=>
bif (ae.1 != 1) then (some (.inl (false,a18,a19,a20,a21,a22,()))) else
let af:=dM a15.length;
(match dU kv NN (x0,a15,af,0,a18,a19,a20,a21,a22,a0,a1,a2,a3,a4,a5,a6,a7,a8,a9,a10,a11,a12,a13,a14,a15,a16,a17,x2,x3,x7.2.2.1,x8.2.2.2,()) with
| none=>none
| some (.inl (ag,ah,ai,aj,ak,am,_))=>
some (.inl (ag,ah,ai,aj,ak,am,()))
| some (.inr (ag,ah,ai,aj,ak,am,an,ap,aq,av,ax,ay,az,aA,aB,aD,aE,aF,aG,aH,aI,aJ,aK,aL,aM,aO,aP,aQ,aR,aS,aT,aU,_))=>
some (.inr (.inl (ag,ah,ai,aj,ak,am,an,ap,aq,av,ax,ay,az,aA,aB,aD,aE,aF,aG,aH,aI,aJ,aK,aL,aM,aO,aP,aQ,aR,aS,aT,aU,()))))) else
some (.inr (.inr (x0,false,a18,a19,a20,a21,a22,a0,a1,a2,a3,a4,a5,a6,a7,a8,a9,a10,a11,a12,a13,a14,a15,a16,a17,x2,x3,())))) else
some (.inr (.inr (x0,false,a18,a19,a20,a21,a22,a0,a1,a2,a3,a4,a5,a6,a7,a8,a9,a10,a11,a12,a13,a14,a15,a16,a17,x2,x3,()))):Option (T0Y⊕(T3i⊕(Nat×Bool×T39)))) with
| none=>none
| some (.inl (x5,x6,x7,x8,x9,ac,_))=>
some (x5,x6,x7,x8,x9,ac,())
| some (.inr (.inl (x5,x6,x7,x8,x9,ac,ae,af,ag,ah,ai,aj,ak,am,an,ap,aq,av,ax,ay,az,aA,aB,aD,aE,aF,aG,aH,aI,aJ,aK,aL,_)))=>
(match (bif (ax==12) then ((dK ay 0).bind λaM=>
let aO:=wk .i64 aM.2.1;
bif decide (aO > 255) then (some (.inl (false,ac,ae,af,ag,ah,()))) else
(dK ay 0).bind λaP=>
bif (aP.1 != 0) then (some (.inl (false,ac,ae,af,ag,ah,()))) else
(dK ay 0).bind λaQ=>
let aR:=wk .i64 aQ.2.1;
(dK ah x5).bind λaS=>
let aT:=(List.modify ah x5 λe=>(e.1,(e.2.1,(e.2.2.1,(e.2.2.2.1,(aR,e.2.2.2.2.2))))));
some (.inr (x5,ac,ae,af,ag,aT,ai,aj,ak,am,an,ap,aq,av,ax,ay,az,aA,aB,aD,aE,aF,aG,aH,aI,aJ,()))) else
some (.inr (x5,ac,ae,af,ag,ah,ai,aj,ak,am,an,ap,aq,av,ax,ay,az,aA,aB,aD,aE,aF,aG,aH,aI,aJ,())):Option (T0Y⊕T3b)) with
| none=>none
| some (.inl (aM,aO,aP,aQ,aR,aS,_))=>
some (aM,aO,aP,aQ,aR,aS,())
| some (.inr (aM,aO,aP,aQ,aR,aS,aT,aU,aV,aW,aY,aZ,ba,bc,bd,be,bf,bg,bh,bi,bj,bk,bm,bn,bo,bp,_))=>
(match (bif (bd==10) then (bif decide (bm>=0) then ((dK be 1).bind λbq=>
(f7 aO aP aU bq.1 bq.2.1 bq.2.2.1 bq.2.2.2).bind λ(bt,bv,bx,_)=>
(bif (bx != 0) then (some (aM,true,aO,aP,aQ,aR,aS,aW,aY,aZ,ba,bc,bd,be,bf,bg,bh,bi,bj,bk,bm,bn,bo,bp,bt,bv,())) else
(d7 bm).bind λbA=>
(dK aS bA).bind λbB=>
(dK aS bA).bind λbC=>
bif (bC.1 != 0) then (some (aM,true,aO,aP,aQ,aR,aS,aW,aY,aZ,ba,bc,bd,be,bf,bg,bh,bi,bj,bk,bm,bn,bo,bp,bt,bv,())) else
(dK be 0).bind λbD=>
let bE:=wk .i64 bD.2.1;
bif decide (bE > 255) then (some (aM,true,aO,aP,aQ,aR,aS,aW,aY,aZ,ba,bc,bd,be,bf,bg,bh,bi,bj,bk,bm,bn,bo,bp,bt,bv,())) else
(dK be 0).bind λbF=>
some (aM,(bF.1 != 0),aO,aP,aQ,aR,aS,aW,aY,aZ,ba,bc,bd,be,bf,bg,bh,bi,bj,bk,bm,bn,bo,bp,bt,bv,()):Option (T3a)).bind λ(bA,bB,bC,bD,bE,bF,bG,bH,bI,bJ,bK,bL,bM,bN,bO,bP,bQ,bR,bS,bT,bU,bV,bW,bY,bZ,b8,_)=>
bif bB then (some (.inl (false,bC,bD,bE,bF,bG,()))) else
(dK bN 0).bind λb9=>
let ca:=wk .i64 b9.2.1;
(n6 ca bZ b8).bind λ(cb,cd,cf,cg,ch,ci,cj,cn,_)=>
(d7 bU).bind λcq=>
(dK bG cq).bind λcr=>
(dK bG cq).bind λcu=>
let cw:=(List.modify bG cq λe=>(cb,(cd,(cf,(cg,(ch,(ci,(cj,cn))))))));
some (.inr (bA,bC,bD,bE,bF,cw,bH,bI,bJ,bK,bL,bM,bN,bO,bW,bY,()))) else
some (.inr (aM,aO,aP,aQ,aR,aS,aW,aY,aZ,ba,bc,bd,be,bf,bo,bp,()))) else
some (.inr (aM,aO,aP,aQ,aR,aS,aW,aY,aZ,ba,bc,bd,be,bf,bo,bp,())):Option (T0Y⊕T2O)) with
| none=>none
| some (.inl (bq,bt,bv,bx,bA,bB,_))=>
some (bq,bt,bv,bx,bA,bB,())
| some (.inr (bq,bt,bv,bx,bA,bB,bC,bD,bE,bF,bG,bH,bI,bJ,bK,bL,_))=>
(dK bB bq).bind λbM=>
(dK bB bq).bind λbN=>
(dK bN.2.1 0).bind λbO=>
(dK bB bq).bind λbP=>
(dK bP.2.1 0).bind λbQ=>
let bR:=(List.modify bB bq λe=>(e.1,((List.modify e.2.1 0 λe=>(bK,bL)),e.2.2)));
(dK bR bq).bind λbS=>
let bT:=List.modify bR bq λe=>(1,e.2);
some (true,bt,bv,bx,bA,bT,())))
| some (.inr (.inr (x5,x6,x7,x8,x9,ac,ae,af,ag,ah,ai,aj,ak,am,an,ap,aq,av,ax,ay,az,aA,aB,aD,aE,aF,aG,_)))=>
(match (bif (ap==12) then ((dK aq 0).bind λaH=>
let aI:=wk .i64 aH.2.1;
bif decide (aI > 255) then (some (.inl (false,x7,x8,x9,ac,ae,()))) else
(dK aq 0).bind λaJ=>
bif (aJ.1 != 0) then (some (.inl (false,x7,x8,x9,ac,ae,()))) else
(dK aq 0).bind λaK=>
let aL:=wk .i64 aK.2.1;
(dK ae x5).bind λaM=>
let aO:=(List.modify ae x5 λe=>(e.1,(e.2.1,(e.2.2.1,(e.2.2.2.1,(aL,e.2.2.2.2.2))))));
some (.inr (x5,x7,x8,x9,ac,aO,af,ag,ah,ai,aj,ak,am,an,ap,aq,av,ax,ay,az,aA,aB,aD,aE,aF,aG,()))) else
some (.inr (x5,x7,x8,x9,ac,ae,af,ag,ah,ai,aj,ak,am,an,ap,aq,av,ax,ay,az,aA,aB,aD,aE,aF,aG,())):Option (T0Y⊕T3b)) with
| none=>none
| some (.inl (aH,aI,aJ,aK,aL,aM,_))=>
some (aH,aI,aJ,aK,aL,aM,())
| some (.inr (aH,aI,aJ,aK,aL,aM,aO,aP,aQ,aR,aS,aT,aU,aV,aW,aY,aZ,ba,bc,bd,be,bf,bg,bh,bi,bj,_))=>
(match (bif (aW==10) then (bif decide (bg>=0) then ((dK aY 1).bind λbk=>
(f7 aI aJ aP bk.1 bk.2.1 bk.2.2.1 bk.2.2.2).bind λ(bm,bn,bo,_)=>
(bif (bo != 0) then (some (aH,true,aI,aJ,aK,aL,aM,aR,aS,aT,aU,aV,aW,aY,aZ,ba,bc,bd,be,bf,bg,bh,bi,bj,bm,bn,())) else
(d7 bg).bind λbp=>
(dK aM bp).bind λbq=>
(dK aM bp).bind λbt=>
bif (bt.1 != 0) then (some (aH,true,aI,aJ,aK,aL,aM,aR,aS,aT,aU,aV,aW,aY,aZ,ba,bc,bd,be,bf,bg,bh,bi,bj,bm,bn,())) else
(dK aY 0).bind λbv=>
let bx:=wk .i64 bv.2.1;
bif decide (bx > 255) then (some (aH,true,aI,aJ,aK,aL,aM,aR,aS,aT,aU,aV,aW,aY,aZ,ba,bc,bd,be,bf,bg,bh,bi,bj,bm,bn,())) else
(dK aY 0).bind λbA=>
some (aH,(bA.1 != 0),aI,aJ,aK,aL,aM,aR,aS,aT,aU,aV,aW,aY,aZ,ba,bc,bd,be,bf,bg,bh,bi,bj,bm,bn,()):Option (T3a)).bind λ(bp,bq,bt,bv,bx,bA,bB,bC,bD,bE,bF,bG,bH,bI,bJ,bK,bL,bM,bN,bO,bP,bQ,bR,bS,bT,bU,_)=>
bif bq then (some (.inl (false,bt,bv,bx,bA,bB,()))) else
(dK bI 0).bind λbV=>
let bW:=wk .i64 bV.2.1;
(n6 bW bT bU).bind λ(bY,bZ,b8,b9,ca,cb,cd,cf,_)=>
(d7 bP).bind λcg=>
(dK bB cg).bind λch=>
(dK bB cg).bind λci=>
let cj:=(List.modify bB cg λe=>(bY,(bZ,(b8,(b9,(ca,(cb,(cd,cf))))))));
some (.inr (bp,bt,bv,bx,bA,cj,bC,bD,bE,bF,bG,bH,bI,bJ,bR,bS,()))) else
some (.inr (aH,aI,aJ,aK,aL,aM,aR,aS,aT,aU,aV,aW,aY,aZ,bi,bj,()))) else
some (.inr (aH,aI,aJ,aK,aL,aM,aR,aS,aT,aU,aV,aW,aY,aZ,bi,bj,())):Option (T0Y⊕T2O)) with
| none=>none
| some (.inl (bk,bm,bn,bo,bp,bq,_))=>
some (bk,bm,bn,bo,bp,bq,())
| some (.inr (bk,bm,bn,bo,bp,bq,bt,bv,bx,bA,bB,bC,bD,bE,bF,bG,_))=>
(dK bq bk).bind λbH=>
(dK bq bk).bind λbI=>
(dK bI.2.1 0).bind λbJ=>
(dK bq bk).bind λbK=>
(dK bK.2.1 0).bind λbL=>
let bM:=(List.modify bq bk λe=>(e.1,((List.modify e.2.1 0 λe=>(bF,bG)),e.2.2)));
(dK bM bk).bind λbN=>
let bO:=List.modify bM bk λe=>(1,e.2);
some (true,bm,bn,bo,bp,bO,()))))
def Ej:X.Cfg:=⟨E0,[oC,iL,iM,iN,pW,oz,xw],[],[⟨13,0,(qS [(pP 1 4),(pP 4 10),(pP 6 14),(pP 7 16),(9,.ptr ⟨4,4,[((),(8,0))]⟩ [0,0]),(pP 10 22),(pP 12 26),(sP 80 ef),(sP 81 I64),(sP 82 I64)] [(4,(uL [RI,CW,(.row true KCe),iG,nn])),(10,(uL [eW,RI,(.row false RW)])),(14,(uL [I64,I64,I64,I64,I64,I64,ef,ef])),(16,(uL [CB,CW,I64,I64,ef,I64,.bool])),(22,(uL [CB,CW])),(26,(uL [I64,I64]))]),[(.ret,(qS [(pP 1 4),(sP 8 .bool)] [(4,(uL [RI,CW,(.row true KCe),iG,nn]))])),(.exit 0,(qS [(pP 1 4),(pP 4 10),(pP 6 14),(pP 7 16),(9,.ptr ⟨4,4,[((),(8,0))]⟩ [0,0]),(pP 10 22),(pP 12 26),(sP 80 ef),(sP 81 I64),(sP 82 I64),(sP 83 .bool)] [(4,(uL [RI,CW,(.row true KCe),iG,nn])),(10,(uL [eW,RI,(.row false RW)])),(14,(uL [I64,I64,I64,I64,I64,I64,ef,ef])),(16,(uL [CB,CW,I64,I64,ef,I64,.bool])),(22,(uL [CB,CW])),(26,(uL [I64,I64]))]))]⟩,⟨6,1,qE,[(.ret,(qS [(pP 1 4),(sP 8 .bool)] [(4,(uL [RI,CW,(.row true KCe),iG,nn]))])),(.normal,(qS [(pP 1 4),(pP 4 10),(pP 6 14),(pP 7 16),(9,.ptr ⟨4,4,[((),(8,0))]⟩ [0,0]),(pP 10 22),(pP 12 26),(sP 80 ef),(sP 81 I64),(sP 82 I64),(sP 83 .bool)] [(4,(uL [RI,CW,(.row true KCe),iG,nn])),(10,(uL [eW,RI,(.row false RW)])),(14,(uL [I64,I64,I64,I64,I64,I64,ef,ef])),(16,(uL [CB,CW,I64,I64,ef,I64,.bool])),(22,(uL [CB,CW])),(26,(uL [I64,I64]))])),(.normal,(qS [(pP 1 4),(pP 4 10),(pP 6 14),(pP 7 16),(9,.ptr ⟨4,4,[((),(8,0))]⟩ [0,0]),(pP 10 22),(sP 51 .bool)] [(4,(uL [RI,CW,(.row true KCe),iG,nn])),(10,(uL [eW,RI,(.row false RW)])),(14,(uL [I64,I64,I64,I64,I64,I64,ef,ef])),(16,(uL [CB,CW,I64,I64,ef,I64,.bool])),(22,(uL [CB,CW]))]))]⟩,⟨24,2,qE,[(.ret,(qS [(pP 1 4),(sP 8 .bool)] [(4,(uL [RI,CW,(.row true KCe),iG,nn]))])),(.normal,(qS [(pP 1 4),(pP 4 10),(pP 6 14),(pP 7 16),(9,.ptr ⟨4,4,[((),(8,0))]⟩ [0,0]),(pP 10 22)] [(4,(uL [RI,CW,(.row true KCe),iG,nn])),(10,(uL [eW,RI,(.row false RW)])),(14,(uL [I64,I64,I64,I64,I64,I64,ef,ef])),(16,(uL [CB,CW,I64,I64,ef,I64,.bool])),(22,(uL [CB,CW]))]))]⟩,⟨33,3,qE,[(.normal,(qS [(pP 1 4),(pP 6 14),(pP 7 16),(9,.ptr ⟨4,4,[((),(8,0))]⟩ [0,0]),(pP 10 22),(pP 19 40),(sP 207 .bool)] [(4,(uL [RI,CW,(.row true KCe),iG,nn])),(14,(uL [I64,I64,I64,I64,I64,I64,ef,ef])),(16,(uL [CB,CW,I64,I64,ef,I64,.bool])),(22,(uL [CB,CW])),(40,(uL [CB,CW]))]))]⟩,⟨29,4,qE,[(.ret,(qS [(pP 1 4),(sP 8 .bool)] [(4,(uL [RI,CW,(.row true KCe),iG,nn]))])),(.normal,(qS [(pP 1 4),(9,.ptr ⟨4,4,[((),(8,0))]⟩ [0,0]),(pP 10 22)] [(4,(uL [RI,CW,(.row true KCe),iG,nn])),(14,(uL [I64,I64,I64,I64,I64,I64,ef,ef])),(22,(uL [CB,CW]))]))]⟩]⟩
def xr:Ctr:=⟨247,98,[.agg (uL [eW,RI,(.row false RW)]),.ptr ⟨4,0,[]⟩ [0],.agg (uL [I64,I64,I64,I64,I64,I64,ef,ef]),.agg (uL [CB,CW,I64,I64,ef,I64,.bool])],[(4,(uL [RI,CW,(.row true KCe),iG,nn]))],[⟨(uL [.bool]),[.one],[(4,(uL [RI,CW,(.row true KCe),iG,nn]))]⟩],ap23 nY⟩
theorem D8:Lk 4 xr:=ls (C:=Ej) rfl (aC rz (aC kJ (aC kK (aC kL (aC ww (aC sd (aC Eb aN))))))) (by kernel_rfl) λh=>by kernel_rfl
def nZ(a0:LDIn) (a1:List (Int)) (a2:List LI) (a3:List (Int)) (a4:Int) (a5:LDCe) (a6:LDLn) (a7:LDTh) (a8:Int) (a9:Int) (a10:Int) (a11:Int) (a12:Int) (a13:Int) (a14:LDCn) (a15:LDCn) (a16:Int) (a17:Int) (a18:Int) (a19:Int) (a20:LDCn) (a21:Int) (a22:Bool):Option (T1c):=
((iw a0 a1 a2 a3 a4 a5 a6 a7).bind λ(x0,_)=>
bif (!x0) then (some (true,a0,a1,a2,a3,a4,a5,a6,a7,a8,a9,a10,a11,a12,a13,a14,a15,a16,a17,a18,a19,a20,a21,a22,(),0,(),(),(),())) else
(jF a8 a9 a10 a11 a12 a13 a14 a15).bind λ(x1,_)=>
bif (!x1) then (some (true,a0,a1,a2,a3,a4,a5,a6,a7,a8,a9,a10,a11,a12,a13,a14,a15,a16,a17,a18,a19,a20,a21,a22,(),0,(),(),(),())) else
bif (a9 != 1) then (some (true,a0,a1,a2,a3,a4,a5,a6,a7,a8,a9,a10,a11,a12,a13,a14,a15,a16,a17,a18,a19,a20,a21,a22,(),0,(),(),(),())) else
let x2:=dM a14.length;
(gi a13).bind λ(x3,_)=>
bif (x2 != x3) then (some (true,a0,a1,a2,a3,a4,a5,a6,a7,a8,a9,a10,a11,a12,a13,a14,a15,a16,a17,a18,a19,a20,a21,a22,(),0,(),(),(),())) else
(jC a16 a17 a18 a19 a20 a21 a22).bind λ(x4,_)=>
bif (!x4) then (some (true,a0,a1,a2,a3,a4,a5,a6,a7,a8,a9,a10,a11,a12,a13,a14,a15,a16,a17,a18,a19,a20,a21,a22,(),0,(),(),(),())) else
(d7 a8).bind λx5=>
(dK a7 x5).bind λx6=>
some ((x6.1 != 2),a0,a1,a2,a3,a4,a5,a6,a7,a8,a9,a10,a11,a12,a13,a14,a15,a16,a17,a18,a19,a20,a21,a22,(),0,(),(),(),()):Option (Bool×LDIn×LI×LLI×LI×Int×LDCe×LDLn×LDTh×Int×Int×Int×Int×Int×Int×LDCn×LDCn×T2v)).bind λ(x0,x1,x2,x3,x4,x5,x6,x7,x8,x9,ac,ae,af,ag,ah,ai,aj,ak,am,an,ap,aq,av,ax,_)=>
bif x0 then (some (x4,x5,x6,x7,x8,false,())) else
(gv x4 x5 x6 x7 x8).bind λ(aE,aF,aG,aH,aI,_)=>
bif (ah==0) then ((d7 x9).bind λaJ=>
(dK aI aJ).bind λaK=>
(dK aI aJ).bind λaL=>
(dK ai 0).bind λaM=>
(dK aI aJ).bind λaO=>
(mg aL.1 aO.2.1 aL.2.2.1 aL.2.2.2.1 aL.2.2.2.2.1 aL.2.2.2.2.2.1 aL.2.2.2.2.2.2.1 aL.2.2.2.2.2.2.2 0 aM.2.1).bind λ(aP,aQ,aR,aS,aT,aU,aV,aW,_)=>
(d7 x9).bind λaY=>
(dK aI aY).bind λaZ=>
(dK aI aY).bind λba=>
let bc:=(List.modify aI aY λe=>(aP,(aQ,(aR,(aS,(aT,(aU,(aV,aW))))))));
some (aE,aF,aG,aH,bc,true,())) else
bif ax then ((d7 x9).bind λaJ=>
(dK aI aJ).bind λaK=>
(dK aI aJ).bind λaL=>
let aM:=List.modify aI aJ λe=>(3,e.2);
some (aE,aF,aG,aH,aM,true,())) else
(nY x1 x2 x3 x9 ac ae af ag ah ai aj ak am an ap aq av ax aE aF aG aH aI).bind λ(aJ,aK,aL,aM,aO,aP,_)=>
bif (!aJ) then (some (x4,x5,x6,x7,x8,false,())) else
some (aK,aL,aM,aO,aP,true,())
def Ek:X.Cfg:=⟨E0,[lT,oy,ko,ox,jl,rG,xr],[],[⟨2,0,qE,[(.normal,(qS [(pP 4 10),(pP 5 12),(pP 6 14),(pP 7 16),(pP 8 18),(sP 48 .bool)] [(10,(uL [eW,RI,(.row false RW)])),(12,(uL [RI,CW,eS,fe,fA])),(14,(uL [I64,I64,I64,I64,I64,I64,ef,ef])),(16,(uL [CB,CW,I64,I64,ef,I64,.bool])),(18,(uL [N1,CW,N1,N1,N1]))]))]⟩]⟩
def xt:Ctr:=⟨233,99,[.agg (uL [eW,RI,(.row false RW)]),.agg (uL [RI,CW,eS,fe,fA]),.agg (uL [I64,I64,I64,I64,I64,I64,ef,ef]),.agg (uL [CB,CW,I64,I64,ef,I64,.bool])],[],[⟨(uL [RI,CW,eS,fe,fA,.bool]),[.agg 5,.one],[]⟩],ap23 nZ⟩
theorem D9:Lk 5 xt:=ls (C:=Ek) rfl (aC oi (aC sc (aC nJ (aC sb (aC k8 (aC wt (aC D8 aN))))))) (by kernel_rfl) λh=>by kernel_rfl
def kS(a0:LDIn) (a1:List (Int)) (a2:List LI) (a3:List (Int)) (a4:Int) (a5:LDCe) (a6:LDLn) (a7:LDTh) (a8:Int) (a9:Int) (a10:Int) (a11:Int) (a12:Int) (a13:LDCn) (a14:Int) (a15:Bool):Option (T1c):=
((iw a0 a1 a2 a3 a4 a5 a6 a7).bind λ(x0,_)=>
bif (!x0) then (some (a8,true,a0,a1,a2,a3,a4,a5,a6,a7,a9,a10,a11,a12,a13,a14,a15,(),0,(),(),(),())) else
(jC a9 a10 a11 a12 a13 a14 a15).bind λ(x1,_)=>
bif (!x1) then (some (a8,true,a0,a1,a2,a3,a4,a5,a6,a7,a9,a10,a11,a12,a13,a14,a15,(),0,(),(),(),())) else
bif decide (a8 < 0) then (some (a8,true,a0,a1,a2,a3,a4,a5,a6,a7,a9,a10,a11,a12,a13,a14,a15,(),0,(),(),(),())) else
bif decide (a8>=4) then (some (a8,true,a0,a1,a2,a3,a4,a5,a6,a7,a9,a10,a11,a12,a13,a14,a15,(),0,(),(),(),())) else
(d7 a8).bind λx2=>
(dK a7 x2).bind λx3=>
some (a8,(x3.1 != 3),a0,a1,a2,a3,a4,a5,a6,a7,a9,a10,a11,a12,a13,a14,a15,(),0,(),(),(),()):Option (Int×Bool×LDIn×LI×LLI×LI×Int×LDCe×LDLn×LDTh×T2v)).bind λ(x0,x1,x2,x3,x4,x5,x6,x7,x8,x9,ac,ae,af,ag,_)=>
bif x1 then (some (x5,x6,x7,x8,x9,false,())) else
(f7 x5 x6 x3 ac ae af ag).bind λ(av,ax,ay,_)=>
bif (ay != 0) then (some (x5,x6,x7,x8,x9,false,())) else
(gv x5 x6 x7 x8 x9).bind λ(az,aA,aB,aD,aE,_)=>
(d7 x0).bind λaF=>
(dK aE aF).bind λaG=>
(dK aE aF).bind λaH=>
(dK aE aF).bind λaI=>
(dK aI.2.1 0).bind λaJ=>
(dK aE aF).bind λaK=>
(dK aK.2.1 0).bind λaL=>
let aM:=(List.modify aE aF λe=>(e.1,((List.modify e.2.1 0 λe=>(av,ax)),e.2.2)));
(d7 x0).bind λaO=>
(dK aM aO).bind λaP=>
(dK aM aO).bind λaQ=>
let aR:=List.modify aM aO λe=>(1,e.2);
some (az,aA,aB,aD,aR,true,())
def CM:X.Cfg:=⟨E0,[lT,ox,oC,jl],[],[⟨2,0,qE,[(.normal,(qS [(sP 2 I64),(pP 4 10),(pP 5 12),(pP 7 16),(pP 8 18),(sP 38 .bool)] [(10,(uL [eW,RI,(.row false RW)])),(12,(uL [RI,CW,eS,fe,fA])),(16,(uL [CB,CW,I64,I64,ef,I64,.bool])),(18,(uL [N1,CW,N1,N1,N1]))]))]⟩]⟩
def pL:Ctr:=⟨59,100,[.agg (uL [eW,RI,(.row false RW)]),.agg (uL [RI,CW,eS,fe,fA]),shU I64,.agg (uL [CB,CW,I64,I64,ef,I64,.bool])],[],[⟨(uL [RI,CW,eS,fe,fA,.bool]),[.agg 5,.one],[]⟩],ap16 kS⟩
theorem ug:Lk 5 pL:=ls (C:=CM) rfl (aC oi (aC sb (aC rz (aC k8 aN)))) (by kernel_rfl) λh=>by kernel_rfl
def mK(a0:Int) (a1:Int) (a2:LDIn) (a3:List (Int)) (a4:List LI) (a5:List (Int)) (a6:Int) (a7:LDCe) (a8:LDLn) (a9:LDTh) (a10:List (Int)) (a11:List (Int)) (a12:List LI) (a13:List LDCn) (a14:LDOp) (a15:LDOu) (a16:List (Int)) (a17:List LI) (a18:LDEn) (a19:List (Int)):Option (T2T):=
let x0:=wk .i64 a1;
(d8 x0 true).bind λ(x1,x2,x3,x4,x5,x6,x7,_)=>
(kS a2 a3 a4 a5 a6 a7 a8 a9 a0 x1 x2 x3 x4 [] x6 x7).bind λ(x8,x9,ac,ae,af,ag,_)=>
let ah:LDEn:=[(4,(a0,(0,(0,(0,(0,(0,(0,(0,([],([],(x1,(x2,(x3,(x4,([],(x6,x7)))))))))))))))))];
bif (dX 184 a18.length ah.length) then let ai:LDEn:=(List.append a18 ah);
some (a2,a3,a4,x8,x9,ac,ae,af,a10,a11,a12,a13,a14,a15,a16,a17,ai,a19,()) else none
def Cw:X.Cfg:=⟨E0,[j3,pL],[(35,JP),(36,JP)],[]⟩
def ux:Ctr:=⟨234,101,[.ptr ⟨2,0,[]⟩ [0],shU I64,shU CW],[(2,(uL [eW,RI,(.row false RW),RI,CW,eS,fe,fA,RW,RW,(.row false RW),(.row false ef),gt,iH,RI,(.row false RI),(.row true rJ),(.row true I64)]))],[⟨[],[],[(2,(uL [eW,RI,(.row false RW),RI,CW,eS,fe,fA,RW,RW,(.row false RW),(.row false ef),gt,iH,RI,(.row false RI),(.row true rJ),(.row true I64)]))]⟩],ap20 mK⟩
theorem B6:Lk 6 ux:=ls (C:=Cw) rfl (aC lN (aC ug aN)) (by kernel_rfl) λh=>by kernel_rfl
def iJ(a0:Int) (a1:Int) (a2:Int) (a3:Int) (a4:Int) (a5:Int) (a6:LDCn) (a7:LDCn) (a8:LDIn) (a9:List (Int)) (a10:List LI) (a11:List (Int)) (a12:Int) (a13:LDCe) (a14:LDLn) (a15:LDTh) (a16:List (Int)) (a17:List (Int)) (a18:List LI) (a19:List LDCn) (a20:LDOp) (a21:LDOu) (a22:List (Int)) (a23:List LI) (a24:LDEn) (a25:List (Int)):Option (T2T):=
(bif (a5==9) then ((dK a6 0).bind λx0=>
let x1:=wk .i64 x0.2.1;
(jc a22 a23 x1 a0).bind λ(x2,x3,x4,x5,_)=>
some (x4,a8,a9,a10,a11,a12,a13,a14,a15,a16,a17,a18,a19,a20,a21,a22,a23,a24,a25,a0,a1,a2,a3,a4,a5,a6,a7,())) else
some ((-1),a8,a9,a10,a11,a12,a13,a14,a15,a16,a17,a18,a19,a20,a21,a22,a23,a24,a25,a0,a1,a2,a3,a4,a5,a6,a7,()):Option (Int×LDIn×LI×LLI×LI×Int×LDCe×LDLn×LDTh×LI×LI×LLI×LLCn×LDOp×LDOu×LI×LLI×LDEn×LI×T1C)).bind λ(x0,x1,x2,x3,x4,x5,x6,x7,x8,x9,ac,ae,af,ag,ah,ai,aj,ak,am,an,ap,aq,av,ax,ay,az,aA,_)=>
(jw an ap aq av ax ay az aA x1 x2 x3 x4 x5 x6 x7 x8 x9 ac ae af ag ah ai aj ak am).bind λ(aB,aD,aE,aF,aG,aH,aI,aJ,aK,aL,aM,aO,aP,aQ,aR,aS,aT,aU,aV,aW,aY,aZ,ba,bc,bd,_)=>
(nZ aJ aK aL aM aO aP aQ aR an ap aq av ax ay az aA aB aD aE aF aG aH aI).bind λ(be,bf,bg,bh,bi,bj,_)=>
let bk:LDEn:=[(2,(an,(0,(an,(ap,(aq,(av,(ax,(ay,(az,(aA,(aB,(aD,(aE,(aF,(aG,(aH,aI)))))))))))))))))];
bif (dX 184 bc.length bk.length) then let bm:LDEn:=(List.append bc bk);
bif decide (x0>=0) then ((mK x0 0 aJ aK aL be bf bg bh bi aS aT aU aV aW aY aZ ba bm bd).bind λ(bn)=>
some (bn)) else
some (aJ,aK,aL,be,bf,bg,bh,bi,aS,aT,aU,aV,aW,aY,aZ,ba,bm,bd,()) else none
def yi:X.Cfg:=⟨E0,[nd,pF,xt,ux],[(56,JP),(57,JP)],[⟨2,0,qE,[(.normal,(qS [(pP 0 2),(pP 3 8),(sP 4 I64)] [(2,(uL [eW,RI,(.row false RW),RI,CW,eS,fe,fA,RW,RW,(.row false RW),(.row false ef),gt,iH,RI,(.row false RI),(.row true rJ),(.row true I64)])),(8,(uL [I64,I64,I64,I64,I64,I64,ef,ef]))]))]⟩]⟩
def qW:Ctr:=⟨200,102,[.ptr ⟨2,0,[]⟩ [0],.agg (uL [I64,I64,I64,I64,I64,I64,ef,ef])],[(2,(uL [eW,RI,(.row false RW),RI,CW,eS,fe,fA,RW,RW,(.row false RW),(.row false ef),gt,iH,RI,(.row false RI),(.row true rJ),(.row true I64)]))],[⟨[],[],[(2,(uL [eW,RI,(.row false RW),RI,CW,eS,fe,fA,RW,RW,(.row false RW),(.row false ef),gt,iH,RI,(.row false RI),(.row true rJ),(.row true I64)]))]⟩],ap26 iJ⟩
theorem xP:Lk 7 qW:=ls (C:=yi) rfl (aC px (aC wi (aC D9 (aC B6 aN)))) (by kernel_rfl) λh=>by kernel_rfl
def pa:T2w->Option (T2w⊕(Int×Int×Int×Int×Nat×T1A)):=λ(v0,v1,v2,v3,v4,v5,v6,v7,v8,v9,v10,v11,_)=>
bif decide (v6 < v5) then (((d7 v6).bind λx0=>
(dK v10 v4).bind λx1=>
(dK x1 x0).bind λx2=>
(dK v10 v4).bind λx3=>
(dK x3 x0).bind λx4=>
bif (x4 != v0) then (bif (dX 8 v11.length (List.length [x4])) then let x5:List (Int):=(List.append v11 [x4]);
some (v0,v1,v2,v3,v4,v5,v6,v7,v8,v9,v10,x5,()) else none) else
some (v0,v1,v2,v3,v4,v5,v6,v7,v8,v9,v10,v11,()):Option (T2w)).bind λ(x0,x1,x2,x3,x4,x5,x6,x7)=>
let af:=w64 (x6+1);
some (.inl (x0,x1,x2,x3,x4,x5,af,x7))) else
some (.inr (v0,v1,v2,v3,v4,v5,v6,false,v7,v8,v9,v10,v11,()))
def o9:T1p->Option (T1p⊕(Int×T1l)):=λ(v0,v1,v2,v3,v4,v5,v6,_)=>
bif decide (v2 < v1) then ((d7 v2).bind λx0=>
(dK v6 x0).bind λx1=>
(dK v6 x0).bind λx2=>
(dK v6 x0).bind λx3=>
let x4:=dM x3.length;
(dU pa NN (v0,v2,v1,v2,x0,x4,0,v3,v4,v5,v6,[],())).bind λ(x5,x6,x7,x8,x9,ac,ae,af,ag,ah,ai,aj,ak,_)=>
(d7 x6).bind λam=>
(dK aj am).bind λan=>
(dK aj am).bind λap=>
let aq:=List.modify aj am λe=>ak;
let av:=w64 (x8+1);
some (.inl (x5,x7,av,ag,ah,ai,aq,()))) else
some (.inr (v0,v1,v2,false,v3,v4,v5,v6,()))
def o8:T1E->Option (T1E⊕(Int×T1A)):=λ(v0,v1,v2,v3,v4,v5,v6,v7,_)=>
bif decide (v2 < v1) then ((jc v5 v6 v2 v0).bind λ(x0,x1,x2,x3,_)=>
(bif x3 then (bif decide (x2>=0) then (bif (dX 8 v7.length (List.length [x2])) then let x4:List (Int):=(List.append v7 [x2]);
some (v0,v1,v2,v3,v4,v5,v6,x4,x0,x1,()) else none) else
some (v0,v1,v2,v3,v4,v5,v6,v7,x0,x1,())) else
some (v0,v1,v2,v3,v4,v5,v6,v7,x0,x1,()):Option (Int×Int×Int×Unit×Unit×LI×LLI×LI×T07)).bind λ(x4,x5,x6,x7,x8,x9,ac,ae,af,ag,_)=>
let ah:=w64 (x6+1);
some (.inl (x4,x5,ah,x7,x8,af,ag,ae,()))) else
some (.inr (v0,v1,v2,false,v3,v4,v5,v6,v7,()))
def mR(a0:List (Int)) (a1:List LI) (a2:Int):Option (T0n):=
(jd a0 a1).bind λ(x0,x1,_)=>
let x2:=dM x1.length;
(dU o9 NN (a2,x2,0,(),(),x0,x1,())).bind λ(x3,x4,x5,x6,x7,x8,x9,ac,_)=>
let ae:=dM x9.length;
(dU o8 NN (x3,ae,0,x7,x8,x9,ac,[],())).bind λ(af,ag,ah,ai,aj,ak,am)=>
some (am)
def CK:X.Cfg:=⟨E0,[ne,nd],[],[⟨15,0,qE,[(.normal,(qS [(sP 1 I64),(pP 4 10),(pP 6 14),(sP 7 I64),(9,.pk ⟨21,0,[]⟩ [0,0]),(20,.pk ⟨14,1,[]⟩ [0,0]),(sP 21 I64),(sP 22 I64),(27,.pk ⟨14,1,[((),(1,0))]⟩ [0,0,0]),(sP 28 I64),(sP 29 I64)] [(10,(uL [N1,N1])),(14,(uL [(.row true I64),(.row true (.row true I64))])),(21,(uL [(.row true I64)]))]))]⟩,⟨12,1,(qS [(sP 1 I64),(pP 4 10),(pP 6 14),(sP 7 I64),(9,.pk ⟨21,0,[]⟩ [0,0]),(20,.pk ⟨14,1,[]⟩ [0,0]),(sP 21 I64),(sP 22 I64),(27,.pk ⟨14,1,[((),(1,0))]⟩ [0,0,0]),(sP 28 I64),(sP 29 I64)] [(10,(uL [N1,N1])),(14,(uL [(.row true I64),(.row true (.row true I64))])),(21,(uL [(.row true I64)]))]),[(.exit 2,(qS [(sP 1 I64),(pP 4 10),(pP 6 14),(sP 7 I64),(9,.pk ⟨21,0,[]⟩ [0,0]),(20,.pk ⟨14,1,[]⟩ [0,0]),(sP 21 I64),(sP 22 I64),(27,.pk ⟨14,1,[((),(1,0))]⟩ [0,0,0]),(sP 28 I64),(sP 29 I64),(sP 30 .bool)] [(10,(uL [N1,N1])),(14,(uL [(.row true I64),(.row true (.row true I64))])),(21,(uL [(.row true I64)]))]))]⟩,(lx 4 2 [(sP 1 I64),(pP 4 10),(pP 6 14),(20,.pk ⟨14,1,[]⟩ [0,0]),(sP 21 I64),(sP 22 I64)] [(10,(uL [N1,N1])),(14,(uL [(.row true I64),(.row true (.row true I64))]))] 23),⟨27,3,qE,[(.normal,(qS [(sP 1 I64),(pP 4 10),(pP 6 14),(12,.pk ⟨27,0,[]⟩ [0,0]),(pP 14 30),(sP 49 I64),(sP 50 I64)] [(10,(uL [N1,N1])),(14,(uL [RI,(.row false RI)])),(27,(uL [(.row true I64)])),(30,(uL [RI,(.row false RI)]))]))]⟩,⟨21,4,(qS [(sP 1 I64),(pP 4 10),(pP 6 14),(12,.pk ⟨27,0,[]⟩ [0,0]),(sP 49 I64),(sP 50 I64)] [(10,(uL [N1,N1])),(14,(uL [RI,(.row false RI)])),(27,(uL [(.row true I64)]))]),[(.exit 4,(qS [(sP 1 I64),(pP 4 10),(pP 6 14),(12,.pk ⟨27,0,[]⟩ [0,0]),(sP 49 I64),(sP 50 I64),(sP 51 .bool)] [(10,(uL [N1,N1])),(14,(uL [RI,(.row false RI)])),(27,(uL [(.row true I64)]))]))]⟩]⟩
def uF:Ctr:=⟨235,103,[.agg (uL [RI,(.row false RI)]),shU I64],[],[⟨(uL [RI,(.row false RI),(.row true I64)]),[.agg 2,.one],[]⟩],ap3 mR⟩
theorem Ce:Lk 3 uF:=ls (C:=CK) rfl (aC py (aC px aN)) (by kernel_rfl) λh=>by kernel_rfl
def iI(a0:Int) (a1:Int) (a2:LDIn) (a3:List (Int)) (a4:List LI) (a5:List (Int)) (a6:Int) (a7:LDCe) (a8:LDLn) (a9:LDTh) (a10:List (Int)) (a11:List (Int)) (a12:List LI) (a13:List LDCn) (a14:LDOp) (a15:LDOu) (a16:List (Int)) (a17:List LI) (a18:LDEn):Option (LDIn×LI×LLI×LI×Int×LDCe×LDLn×LDTh×LI×LI×LLI×LLCn×LDOp×LDOu×LI×LLI×LDEn×Unit):=
let x0:=wk .i64 a1;
(d8 x0 true).bind λ(x1,x2,x3,x4,x5,x6,x7,_)=>
(kS a2 a3 a4 a5 a6 a7 a8 a9 a0 x1 x2 x3 x4 [] x6 x7).bind λ(x8,x9,ac,ae,af,ag,_)=>
let ah:LDEn:=[(4,(a0,(0,(0,(0,(0,(0,(0,(0,([],([],(x1,(x2,(x3,(x4,([],(x6,x7)))))))))))))))))];
bif (dX 184 a18.length ah.length) then let ai:LDEn:=(List.append a18 ah);
some (a2,a3,a4,x8,x9,ac,ae,af,a10,a11,a12,a13,a14,a15,a16,a17,ai,()) else none
def yf:X.Cfg:=⟨E0,[j3,pL],[(35,JP),(36,JP)],[]⟩
def qT:Ctr:=⟨234,104,[.ptr ⟨2,0,[]⟩ [0],shU I64,shU CW],[(2,(uL [eW,RI,(.row false RW),RI,CW,eS,fe,fA,RW,RW,(.row false RW),(.row false ef),gt,iH,RI,(.row false RI),(.row true rJ)]))],[⟨[],[],[(2,(uL [eW,RI,(.row false RW),RI,CW,eS,fe,fA,RW,RW,(.row false RW),(.row false ef),gt,iH,RI,(.row false RI),(.row true rJ)]))]⟩],ap19 iI⟩
theorem xM:Lk 6 qT:=ls (C:=yf) rfl (aC lN (aC ug aN)) (by kernel_rfl) λh=>by kernel_rfl
def oN:T36->Option (T36⊕(Int×Int×Int×Bool×T2X)):=λ(v0,v1,v2,v3,v4,v5,v6,v7,v8,v9,v10,v11,v12,v13,v14,v15,v16,v17,v18,v19,v20,v21,_)=>
bif decide (v2 < v1) then ((d7 v2).bind λx0=>
(dK v21 x0).bind λx1=>
(dK v21 x0).bind λx2=>
(iI x2 0 v3 v4 v5 v6 v7 v8 v9 v10 v11 v12 v13 v14 v15 v16 v17 v18 v19).bind λ(x3,x4,x5,x6,x7,x8,x9,ac,ae,af,ag,ah,ai,aj,ak,am,an,_)=>
let ap:=w64 (v2+1);
some (.inl (v0,v1,ap,x3,x4,x5,x6,x7,x8,x9,ac,ae,af,ag,ah,ai,aj,ak,am,an,v20,v21,()))) else
some (.inr (v0,v1,v2,false,v3,v4,v5,v6,v7,v8,v9,v10,v11,v12,v13,v14,v15,v16,v17,v18,v19,v20,v21,()))
def oM:T35->Option (T35⊕(Int×Int×T30)):=λ(v0,v1,v2,v3,v4,v5,v6,v7,v8,v9,v10,v11,v12,v13,v14,v15,v16,v17,v18,v19,v20,_)=>
bif decide (v2 < v1) then (((d7 v2).bind λx0=>
(dK v20 x0).bind λx1=>
(dK v20 x0).bind λx2=>
bif (x2==v0) then ((d7 v0).bind λx3=>
(dK v10 x3).bind λx4=>
(iI v2 x4.2.2.2.2.2.2.2 v3 v4 v5 v6 v7 v8 v9 v10 v11 v12 v13 v14 v15 v16 v17 v18 v19).bind λ(x5,x6,x7,x8,x9,ac,ae,af,ag,ah,ai,aj,ak,am,an,ap,aq,_)=>
(d7 v2).bind λav=>
(dK v20 av).bind λax=>
(dK v20 av).bind λay=>
let az:=List.modify v20 av λe=>(-1);
some (v0,v1,v2,x5,x6,x7,x8,x9,ac,ae,af,ag,ah,ai,aj,ak,am,an,ap,aq,az,())) else
some (v0,v1,v2,v3,v4,v5,v6,v7,v8,v9,v10,v11,v12,v13,v14,v15,v16,v17,v18,v19,v20,()):Option (T35)).bind λ(x0,x1,x2,x3,x4,x5,x6,x7,x8,x9,ac,ae,af,ag,ah,ai,aj,ak,am,an,ap,_)=>
let aq:=w64 (x2+1);
some (.inl (x0,x1,aq,x3,x4,x5,x6,x7,x8,x9,ac,ae,af,ag,ah,ai,aj,ak,am,an,ap,()))) else
some (.inr (v0,v1,v2,false,v3,v4,v5,v6,v7,v8,v9,v10,v11,v12,v13,v14,v15,v16,v17,v18,v19,v20,()))
def jx(a0:Int) (a1:LDIn) (a2:List (Int)) (a3:List LI) (a4:List (Int)) (a5:Int) (a6:LDCe) (a7:LDLn) (a8:LDTh) (a9:List (Int)) (a10:List (Int)) (a11:List LI) (a12:List LDCn) (a13:LDOp) (a14:LDOu) (a15:List (Int)) (a16:List LI) (a17:LDEn) (a18:List (Int)):Option (T2T):=
(mR a15 a16 a0).bind λ(x0,x1,x2,_)=>
let x3:=dM x2.length;
(dU oN NN (a0,x3,0,a1,a2,a3,a4,a5,a6,a7,a8,a9,a10,a11,a12,a13,a14,x0,x1,a17,a18,x2,())).bind λ(x4,x5,x6,x7,x8,x9,ac,ae,af,ag,ah,ai,aj,ak,am,an,ap,aq,av,ax,ay,az,aA,_)=>
let aB:=dM az.length;
(dU oM NN (x4,aB,0,x8,x9,ac,ae,af,ag,ah,ai,aj,ak,am,an,ap,aq,av,ax,ay,az,())).bind λ(aD,aE,aF,aG,aH)=>
some (aH)
def At:X.Cfg:=⟨E0,[uF,qT],[],[(lx 4 0 [(pP 0 2),(sP 1 I64),(23,.pk ⟨13,0,[]⟩ [0,0]),(sP 24 I64),(sP 25 I64)] [(2,(uL [eW,RI,(.row false RW),RI,CW,eS,fe,fA,RW,RW,(.row false RW),(.row false ef),gt,iH,RI,(.row false RI),(.row true rJ),(.row true I64)])),(13,(uL [(.row true I64)]))] 26),⟨13,1,qE,[(.normal,(qS [(pP 0 2),(sP 1 I64),(36,.pk ⟨2,17,[]⟩ [0,0]),(sP 37 I64),(sP 38 I64)] [(2,(uL [eW,RI,(.row false RW),RI,CW,eS,fe,fA,RW,RW,(.row false RW),(.row false ef),gt,iH,RI,(.row false RI),(.row true rJ),(.row true I64)]))]))]⟩,⟨10,2,(qS [(pP 0 2),(sP 1 I64),(36,.pk ⟨2,17,[]⟩ [0,0]),(sP 37 I64),(sP 38 I64)] [(2,(uL [eW,RI,(.row false RW),RI,CW,eS,fe,fA,RW,RW,(.row false RW),(.row false ef),gt,iH,RI,(.row false RI),(.row true rJ),(.row true I64)]))]),[(.exit 2,(qS [(pP 0 2),(sP 1 I64),(36,.pk ⟨2,17,[]⟩ [0,0]),(sP 37 I64),(sP 38 I64),(sP 39 .bool)] [(2,(uL [eW,RI,(.row false RW),RI,CW,eS,fe,fA,RW,RW,(.row false RW),(.row false ef),gt,iH,RI,(.row false RI),(.row true rJ),(.row true I64)]))]))]⟩]⟩
def sB:Ctr:=⟨201,105,[.ptr ⟨2,0,[]⟩ [0],shU I64],[(2,(uL [eW,RI,(.row false RW),RI,CW,eS,fe,fA,RW,RW,(.row false RW),(.row false ef),gt,iH,RI,(.row false RI),(.row true rJ),(.row true I64)]))],[⟨[],[],[(2,(uL [eW,RI,(.row false RW),RI,CW,eS,fe,fA,RW,RW,(.row false RW),(.row false ef),gt,iH,RI,(.row false RI),(.row true rJ),(.row true I64)]))]⟩],ap19 jx⟩
theorem zT:Lk 7 sB:=ls (C:=At) rfl (aC Ce (aC xM aN)) (by kernel_rfl) λh=>by kernel_rfl
def mL(a0:LDIn) (a1:List (Int)) (a2:List LI) (a3:List (Int)) (a4:Int) (a5:LDCe) (a6:LDLn) (a7:LDTh) (a8:List (Int)) (a9:List (Int)) (a10:List LI) (a11:List LDCn) (a12:LDOp) (a13:LDOu) (a14:List (Int)) (a15:List LI) (a16:LDEn) (a17:List (Int)) (a18:Int) (a19:Int) (a20:Bool):Option (LDIn×LI×LLI×LI×Int×LDCe×LDLn×LDTh×LI×LI×LLI×LLCn×LDOp×LDOu×LI×LLI×LDEn×T06):=
(lC a7).bind λ(x0,_)=>
let x1:=dM x0.length;
bif (x1==0) then (some ([],[],[],[],0,[],[],[],[],[],[],[],[],[],[],[],[],[],15,())) else
let x2:=dM a16.length;
bif decide (x2 > 192) then (some ([],[],[],[],0,[],[],[],[],[],[],[],[],[],[],[],[],[],3,())) else
let x3:=dM x0.length;
(gH a18 x3).bind λ(x4,_)=>
(d7 x4).bind λx5=>
(dK x0 x5).bind λx6=>
(dK x0 x5).bind λx7=>
(gH a19 64).bind λ(x8,_)=>
let x9:=w64 (1+x8);
(kt a0 a1 a2 a3 a4 a5 a6 a7 a8 a9 a10 a11 a12 a13 a14 a15 a16 a17).bind λ(ac,ae,af,ag,ah,ai,aj,ak,am,an,ap,aq,av,ax,ay,az,aA,aB,_)=>
(match (bif a20 then ((md ag ah ai aj ak x7).bind λ(aD,_)=>
bif aD then ((jB ag ah ai aj ak x7).bind λ(aE,aF,aG,aH,aI,aJ,_)=>
let aK:LDEn:=[(3,(x7,(0,(0,(0,(0,(0,(0,(0,([],([],(0,(0,(0,(0,([],(0,false)))))))))))))))))];
bif (dX 184 aA.length aK.length) then let aL:LDEn:=(List.append aA aK);
some (.inl (x7,x9,(),(),(),(),0,(),(),(),(),(),(),(),(),(),(),(),(),(),ac,ae,af,aE,aF,aG,aH,aI,am,an,ap,aq,av,ax,ay,az,aL,aB,())) else none) else
some (.inr (x7,x9,(),(),(),(),0,(),(),(),(),(),(),(),(),(),(),(),(),(),ac,ae,af,ag,ah,ai,aj,ak,am,an,ap,aq,av,ax,ay,az,aA,aB,()))) else
some (.inr (x7,x9,(),(),(),(),0,(),(),(),(),(),(),(),(),(),(),(),(),(),ac,ae,af,ag,ah,ai,aj,ak,am,an,ap,aq,av,ax,ay,az,aA,aB,())):Option (T3z⊕T3z)) with
| none=>none
| some (.inl (aD,aE,aF,aG,aH,aI,aJ,aK,aL,aM,aO,aP,aQ,aR,aS,aT,aU,aV,aW,aY,aZ,ba,bc,bd,be,bf,bg,bh,bi,bj,bk,bm,bn,bo,bp,bq,bt,bv,_))=>
(kU aZ ba bc bd be bf bg bh aD aE).bind λ(bx,bA,bB,bC,bD,bE,bF,bG,bH,bI,bJ,bK,bL,bM,_)=>
let bN:LDEn:=[(1,(aD,(aE,(bE,(bF,(bG,(bH,(bI,(bJ,(bK,(bL,(0,(0,(0,(0,([],(0,false)))))))))))))))))];
bif (dX 184 bt.length bN.length) then let bO:LDEn:=(List.append bt bN);
(bif (bF==1) then ((iJ bE bF bG bH bI bJ bK bL aZ ba bc bx bA bB bC bD bi bj bk bm bn bo bp bq bO bv).bind λ(bP,bQ,bR,bS,bT,bU,bV,bW,bY,bZ,b8,b9,ca,cb,cd,cf,cg,ch,_)=>
some (aD,aF,aG,aH,aI,aJ,aK,aL,aM,aO,aP,aQ,aR,aS,aT,aU,aV,aW,aY,bP,bQ,bR,bS,bT,bU,bV,bW,bY,bZ,b8,b9,ca,cb,cd,cf,cg,ch,())) else
some (aD,aF,aG,aH,aI,aJ,aK,aL,aM,aO,aP,aQ,aR,aS,aT,aU,aV,aW,aY,aZ,ba,bc,bx,bA,bB,bC,bD,bi,bj,bk,bm,bn,bo,bp,bq,bO,bv,()):Option (T3s)).bind λ(bP,bQ,bR,bS,bT,bU,bV,bW,bY,bZ,b8,b9,ca,cb,cd,cf,cg,ch,ci,cj,cn,cq,cr,cu,cw,cx,cy,cz,cD,cE,cF,cG,cH,cI,cJ,cK,cL,_)=>
((d7 bP).bind λcM=>
(dK cy cM).bind λcN=>
bif (cN.1==4) then ((jx bP cj cn cq cr cu cw cx cy cz cD cE cF cG cH cI cJ cK cL).bind λ(cO,cP,cQ,cR,cS,cT,cU,cV,cW,cX,cY,cZ,c7,c8,c9,dc,de,df,_)=>
some (bQ,bR,bS,bT,bU,bV,bW,bY,bZ,b8,b9,ca,cb,cd,cf,cg,ch,ci,cO,cP,cQ,cR,cS,cT,cU,cV,cW,cX,cY,cZ,c7,c8,c9,dc,de,df,())) else
some (bQ,bR,bS,bT,bU,bV,bW,bY,bZ,b8,b9,ca,cb,cd,cf,cg,ch,ci,cj,cn,cq,cr,cu,cw,cx,cy,cz,cD,cE,cF,cG,cH,cI,cJ,cK,cL,()):Option (T3p)).bind λ(cM,cN,cO,cP,cQ,cR,cS,cT,cU,cV,cW,cX,cY,cZ,c7,c8,c9,dc,de,df,dg,dh,dk,dl,dm,dn,dp,dq,dx,dy,dz,dA,dB,dC,dD,dE,_)=>
some (de,df,dg,dh,dk,dl,dm,dn,dp,dq,dx,dy,dz,dA,dB,dC,dD,dE,0,()) else none
| some (.inr (aD,aE,aF,aG,aH,aI,aJ,aK,aL,aM,aO,aP,aQ,aR,aS,aT,aU,aV,aW,aY,aZ,ba,bc,bd,be,bf,bg,bh,bi,bj,bk,bm,bn,bo,bp,bq,bt,bv,_))=>
(kU aZ ba bc bd be bf bg bh aD aE).bind λ(bx,bA,bB,bC,bD,bE,bF,bG,bH,bI,bJ,bK,bL,bM,_)=>
let bN:LDEn:=[(1,(aD,(aE,(bE,(bF,(bG,(bH,(bI,(bJ,(bK,(bL,(0,(0,(0,(0,([],(0,false)))))))))))))))))];
bif (dX 184 bt.length bN.length) then let bO:LDEn:=(List.append bt bN);
(bif (bF==1) then ((iJ bE bF bG bH bI bJ bK bL aZ ba bc bx bA bB bC bD bi bj bk bm bn bo bp bq bO bv).bind λ(bP,bQ,bR,bS,bT,bU,bV,bW,bY,bZ,b8,b9,ca,cb,cd,cf,cg,ch,_)=>
some (aD,aF,aG,aH,aI,aJ,aK,aL,aM,aO,aP,aQ,aR,aS,aT,aU,aV,aW,aY,bP,bQ,bR,bS,bT,bU,bV,bW,bY,bZ,b8,b9,ca,cb,cd,cf,cg,ch,())) else
some (aD,aF,aG,aH,aI,aJ,aK,aL,aM,aO,aP,aQ,aR,aS,aT,aU,aV,aW,aY,aZ,ba,bc,bx,bA,bB,bC,bD,bi,bj,bk,bm,bn,bo,bp,bq,bO,bv,()):Option (T3s)).bind λ(bP,bQ,bR,bS,bT,bU,bV,bW,bY,bZ,b8,b9,ca,cb,cd,cf,cg,ch,ci,cj,cn,cq,cr,cu,cw,cx,cy,cz,cD,cE,cF,cG,cH,cI,cJ,cK,cL,_)=>
((d7 bP).bind λcM=>
(dK cy cM).bind λcN=>
bif (cN.1==4) then ((jx bP cj cn cq cr cu cw cx cy cz cD cE cF cG cH cI cJ cK cL).bind λ(cO,cP,cQ,cR,cS,cT,cU,cV,cW,cX,cY,cZ,c7,c8,c9,dc,de,df,_)=>
some (bQ,bR,bS,bT,bU,bV,bW,bY,bZ,b8,b9,ca,cb,cd,cf,cg,ch,ci,cO,cP,cQ,cR,cS,cT,cU,cV,cW,cX,cY,cZ,c7,c8,c9,dc,de,df,())) else
some (bQ,bR,bS,bT,bU,bV,bW,bY,bZ,b8,b9,ca,cb,cd,cf,cg,ch,ci,cj,cn,cq,cr,cu,cw,cx,cy,cz,cD,cE,cF,cG,cH,cI,cJ,cK,cL,()):Option (T3p)).bind λ(cM,cN,cO,cP,cQ,cR,cS,cT,cU,cV,cW,cX,cY,cZ,c7,c8,c9,dc,de,df,dg,dh,dk,dl,dm,dn,dp,dq,dx,dy,dz,dA,dB,dC,dD,dE,_)=>
some (de,df,dg,dh,dk,dl,dm,dn,dp,dq,dx,dy,dz,dA,dB,dC,dD,dE,0,()) else none)
def Cx:X.Cfg:=⟨E0,[sN,rH,qV,rF,pK,uG,qW,sB],[(60,JP),(61,JP),(82,JP),(83,JP)],[⟨11,0,qE,[(.normal,(qS [(pP 4 10),(sP 7 I64),(sP 8 I64),(pP 9 20)] [(10,(uL [N1,N1,N1,N1,CW,N1,N1,N1,N1,N1,N1,N1,N1,N1,N1,N1,N1,N1])),(20,(uL [eW,RI,(.row false RW),RI,CW,(.row true KCe),iG,nn,RW,RW,(.row false RW),(.row false ef),gt,iH,RI,(.row false RI),(.row true rJ),(.row true I64)]))])),(.normal,(qS [(pP 4 10),(sP 7 I64),(sP 8 I64),(pP 9 20)] [(10,(uL [N1,N1,N1,N1,CW,N1,N1,N1,N1,N1,N1,N1,N1,N1,N1,N1,N1,N1])),(20,(uL [eW,RI,(.row false RW),RI,CW,eS,fe,fA,RW,RW,(.row false RW),(.row false ef),gt,iH,RI,(.row false RI),(.row true rJ),(.row true I64)]))]))]⟩,⟨17,1,qE,[(.normal,(qS [(pP 4 10),(sP 7 I64),(pP 9 20)] [(10,(uL [N1,N1,N1,N1,CW,N1,N1,N1,N1,N1,N1,N1,N1,N1,N1,N1,N1,N1])),(20,(uL [eW,RI,(.row false RW),RI,CW,eS,fe,fA,RW,RW,(.row false RW),(.row false ef),gt,iH,RI,(.row false RI),(.row true rJ),(.row true I64)]))]))]⟩,⟨19,2,qE,[(.normal,(qS [(pP 4 10),(pP 9 20)] [(10,(uL [N1,N1,N1,N1,CW,N1,N1,N1,N1,N1,N1,N1,N1,N1,N1,N1,N1,N1])),(20,(uL [eW,RI,(.row false RW),RI,CW,eS,fe,fA,RW,RW,(.row false RW),(.row false ef),gt,iH,RI,(.row false RI),(.row true rJ),(.row true I64)]))]))]⟩]⟩
def uy:Ctr:=⟨136,106,[.agg (uL [eW,RI,(.row false RW),RI,CW,eS,fe,fA,RW,RW,(.row false RW),(.row false ef),gt,iH,RI,(.row false RI),FY,RI]),.agg (uL [I64,I64,.bool])],[],[⟨(uL [eW,RI,(.row false RW),RI,CW,eS,fe,fA,RW,RW,(.row false RW),(.row false ef),gt,iH,RI,(.row false RI),(.row true rJ),(.row true I64),I64]),[.agg 18,.one],[]⟩],ap21 mL⟩
theorem B7:Lk 8 uy:=ls (C:=Cx) rfl (aC Ae (aC wy (aC xO (aC wo (aC wn (aC Cf (aC xP (aC zT aN)))))))) (by kernel_rfl) λh=>by kernel_rfl
def od:T3D->Option (T3D⊕((Int×Bool×LI×Int×Unit×Unit×Unit×Unit×Int×Unit×Unit×Unit×Unit×Unit×Unit×Unit×Unit×Unit×Unit×Unit×Unit×Unit×LDIn×LI×LLI×LI×Int×LDCe×LDLn×LDTh×LI×LI×LLI×LLCn×LDOp×LDOu×LI×LLI×LDEn×LI×T2T)⊕(Int×Bool×T3A))):=λ(v0,v1,v2,v3,v4,v5,v6,v7,v8,v9,v10,v11,v12,v13,v14,v15,v16,v17,v18,v19,v20,v21,v22,v23,v24,v25,v26,v27,v28,v29,v30,v31,v32,v33,v34,v35,v36,v37,v38,_)=>
bif decide (v0 > 0) then ((lL v1 v2).bind λ(x0,x1,x2,x3,x4,_)=>
(mL v21 v22 v23 v24 v25 v26 v27 v28 v29 v30 v31 v32 v33 v34 v35 v36 v37 v38 x0 x1 x2).bind λ(x5,x6,x7,x8,x9,ac,ae,af,ag,ah,ai,aj,ak,am,an,ap,aq,av,ax,_)=>
bif (ax != 0) then (some (.inr (.inl (v0,true,x3,x4,v3,v4,v5,v6,v7,v8,v9,v10,v11,v12,v13,v14,v15,v16,v17,v18,v19,v20,v21,v22,v23,v24,v25,v26,v27,v28,v29,v30,v31,v32,v33,v34,v35,v36,v37,v38,x5,x6,x7,x8,x9,ac,ae,af,ag,ah,ai,aj,ak,am,an,ap,aq,av,())))) else
let ay:=w64 (v0 - 1);
some (.inl (ay,x3,x4,v3,v4,v5,v6,v7,v8,v9,v10,v11,v12,v13,v14,v15,v16,v17,v18,v19,v20,x5,x6,x7,x8,x9,ac,ae,af,ag,ah,ai,aj,ak,am,an,ap,aq,av,()))) else
some (.inr (.inr (v0,false,v1,v2,v3,v4,v5,v6,v7,v8,v9,v10,v11,v12,v13,v14,v15,v16,v17,v18,v19,v20,v21,v22,v23,v24,v25,v26,v27,v28,v29,v30,v31,v32,v33,v34,v35,v36,v37,v38,())))
def qg(a0:List (Int)) (a1:Int):Option (LDIn×LI×LLI×LI×Int×LDCe×LDLn×LDTh×LI×LI×LLI×LLCn×LDOp×LDOu×LI×LLI×LDEn×LI×T06):=
(kE a0 a1).bind λ(x0,x1,x2,x3,x4,_)=>
(lK x1 x3 x4).bind λ(x5,x6,x7,x8,_)=>
(kF x7 x8).bind λ(x9,ac,ae,af,ag,ah,ai,aj,_)=>
(ln x0 x1 x2 x5 x6 x9 ac ae af ag []).bind λ(ak,am,an,ap,aq,av,ax,ay,az,aA,aB,aD,aE,aF,aG,aH,aI,aJ,aK,_)=>
(dL 16 ai aj).bind λ(aL,aM,aO,_)=>
let aP:=w64 (3+aL);
(match dU od NN (aP,aM,aO,(),(),(),(),0,(),(),(),(),(),(),(),(),(),(),(),(),(),ak,am,an,ap,aq,av,ax,ay,az,aA,aB,aD,aE,aF,aG,aH,[],aJ,()) with
| none=>none
| some (.inl (aQ,aR,aS,aT,aU,aV,aW,aY,aZ,ba,bc,bd,be,bf,bg,bh,bi,bj,bk,bm,bn,bo,bp,bq,bt,bv,bx,bA,bB,bC,bD,bE,bF,bG,bH,bI,bJ,bK,bL,bM,_))=>
some (bp,bq,bt,bv,bx,bA,bB,bC,bD,bE,bF,bG,bH,bI,bJ,bK,bL,bM,aS,aT,())
| some (.inr (aQ,aR,aS,aT,aU,aV,aW,aY,aZ,ba,bc,bd,be,bf,bg,bh,bi,bj,bk,bm,bn,bo,bp,bq,bt,bv,bx,bA,bB,bC,bD,bE,bF,bG,bH,bI,bJ,bK,bL,bM,_))=>
some (bp,bq,bt,bv,bx,bA,bB,bC,bD,bE,bF,bG,bH,bI,bJ,bK,bL,bM,aS,aT,()))
def G6:X.Cfg:=⟨E0,[rf,sZ,rh,sC,fw,s6,uy],[],[⟨5,0,(qS [(pP 0 2),(pP 2 6),(pP 4 10),(sP 6 I64)] [(2,(uL [RI,I64])),(6,(uL [N1,N1,N1,N1,CW,N1,N1,N1,N1,N1,N1,N1,N1,N1,N1,N1,N1,N1])),(10,(uL [eW,RI,(.row false RW),RI,CW,eS,fe,fA,RW,RW,(.row false RW),(.row false ef),gt,iH,RI,(.row false RI),(.row true rJ),(.row true I64)]))]),[(.exit 0,(qS [(pP 0 2),(pP 2 6),(pP 4 10),(sP 6 I64),(pP 7 16),(sP 37 .bool)] [(2,(uL [RI,I64])),(6,(uL [N1,N1,N1,N1,CW,N1,N1,N1,N1,N1,N1,N1,N1,N1,N1,N1,N1,N1])),(10,(uL [eW,RI,(.row false RW),RI,CW,eS,fe,fA,RW,RW,(.row false RW),(.row false ef),gt,iH,RI,(.row false RI),FY,RI])),(16,(uL [eW,RI,(.row false RW),RI,CW,eS,fe,fA,RW,RW,(.row false RW),(.row false ef),gt,iH,RI,(.row false RI),(.row true rJ),(.row true I64)]))])),(.exit 0,(qS [(pP 0 2),(pP 2 6),(pP 4 10),(sP 6 I64),(sP 26 .bool)] [(2,(uL [RI,I64])),(6,(uL [N1,N1,N1,N1,CW,N1,N1,N1,N1,N1,N1,N1,N1,N1,N1,N1,N1,N1])),(10,(uL [eW,RI,(.row false RW),RI,CW,eS,fe,fA,RW,RW,(.row false RW),(.row false ef),gt,iH,RI,(.row false RI),(.row true rJ),(.row true I64)]))]))]⟩]⟩
def zq:Ctr:=⟨60,107,[.ptr ⟨2,0,[]⟩ [0]],[(2,(uL [RI,I64]))],[⟨(uL [eW,RI,(.row false RW),RI,CW,eS,fe,fA,RW,RW,(.row false RW),(.row false ef),gt,iH,RI,(.row false RI),FY,RI]),[.agg 18],[(2,(uL [RI,I64]))]⟩],ap2 qg⟩
theorem GT:Lk 9 zq:=ls (C:=G6) rfl (aC ya (aC Ap (aC yb (aC zU (aC fL (aC Aq (aC B7 aN))))))) (by kernel_rfl) λh=>by kernel_rfl
def fW:T2E->Option (T2E⊕(LI×Int×LI×Int×Int×Int×Int×Bool×T18)):=λ(v0,v1,v2,v3,v4,v5,v6,v7,v8,v9,v10,v11,v12,_)=>
bif decide (v6 < v5) then ((d7 v1).bind λx0=>
(dK v9 x0).bind λx1=>
let x2:=w64 (x1+v6);
(kW v7 v8 x2).bind λ(x3,x4,_)=>
(gE v9 v10 v0 x3 x4).bind λ(x5,x6,x7,x8,_)=>
let x9:LDCn:=[(x5,(x6,(x7,x8)))];
bif (dX 24 v12.length x9.length) then let ac:LDCn:=(List.append v12 x9);
let ae:=w64 (v6+1);
some (.inl (v0,v1,v2,v3,v4,v5,ae,v7,v8,v9,v10,v11,ac,())) else none) else
some (.inr (v0,v1,v2,v3,v4,v5,v6,false,v7,v8,v9,v10,v11,v12,()))
def fV:T21->Option (T21⊕(LI×LI×Int×Int×Bool×T0P)):=λ(v0,v1,v2,v3,v4,v5,v6,v7,v8,_)=>
bif decide (v3 < v2) then ((d7 v3).bind λx0=>
(dK v1 x0).bind λx1=>
(dU fW NN (v0,v3,v1,v2,v3,x1,0,v4,v5,v6,v7,v8,[],())).bind λ(x2,x3,x4,x5,x6,x7,x8,x9,ac,ae,af,ag,ah,ai,_)=>
bif (dX 24 ah.length (List.length [ai])) then let aj:List LDCn:=(List.append ah [ai]);
let ak:=w64 (x6+1);
some (.inl (x2,x4,x5,ak,ac,ae,af,ag,aj,())) else none) else
some (.inr (v0,v1,v2,v3,false,v4,v5,v6,v7,v8,()))
def jJ(a0:LDCe) (a1:LDLn) (a2:List (Int)) (a3:Int) (a4:List (Int)):Option (LLCn×Unit):=
let x0:=dM a4.length;
(dU fV NN (a4,a4,x0,0,a0,a1,a2,a3,[],())).bind λ(x1,x2,x3,x4,x5,x6,x7,x8,x9,ac,_)=>
some (ac,())
def wL:X.Cfg:=⟨E0,[pV,lV],[(41,(.row true KCn)),(42,(.row true KCn))],[⟨12,0,(qS [(sP 2 RI),(pP 3 8),(pP 4 10),(7,.pk ⟨17,0,[]⟩ [0,0]),(sP 8 I64),(10,.pk ⟨23,0,[]⟩ [0,0]),(sP 12 RI),(sP 13 I64),(sP 14 I64),(sP 19 I64),(sP 20 I64)] [(8,(uL [eS,fe])),(10,(uL [RI,CW])),(17,(uL [(.row true (.row true KCn))])),(23,(uL [(.row true KCn)]))]),[(.exit 2,(qS [(sP 2 RI),(pP 3 8),(pP 4 10),(7,.pk ⟨17,0,[]⟩ [0,0]),(sP 8 I64),(10,.pk ⟨23,0,[]⟩ [0,0]),(sP 12 RI),(sP 13 I64),(sP 14 I64),(sP 19 I64),(sP 20 I64),(sP 21 .bool)] [(8,(uL [eS,fe])),(10,(uL [RI,CW])),(17,(uL [(.row true (.row true KCn))])),(23,(uL [(.row true KCn)]))]))]⟩,(lx 4 1 [(sP 2 RI),(pP 3 8),(pP 4 10),(7,.pk ⟨17,0,[]⟩ [0,0]),(sP 12 RI),(sP 13 I64),(sP 14 I64)] [(8,(uL [eS,fe])),(10,(uL [RI,CW])),(17,(uL [(.row true (.row true KCn))]))] 15)]⟩
def pU:Ctr:=⟨17,108,[.agg (uL [eS,fe]),.agg (uL [RI,CW]),shU RI],[],[⟨(uL [(.row true (.row true KCn))]),[.one],[]⟩],ap5 jJ⟩
theorem wv:Lk 3 pU:=ls (C:=wL) rfl (aC um (aC ol aN)) (by kernel_rfl) λh=>by kernel_rfl
def gO:T3l->Option (T3l⊕(LDTh×Int×Int×LDCe×Int×Int×Bool×T3f)):=λ(v0,v1,v2,v3,v4,v5,v6,v7,v8,v9,v10,v11,v12,v13,v14,v15,v16,v17,v18,v19,v20,v21,v22,v23,v24,v25,v26,v27,v28,v29,v30,v31,v32,v33,_)=>
bif decide (v5 < v4) then ((d7 v5).bind λx0=>
(dK v3 x0).bind λx1=>
(gE v9 v10 v7 x1.1 x1.2).bind λ(x2,x3,x4,x5,_)=>
let x6:LDCn:=[(x2,(x3,(x4,x5)))];
bif (dX 24 v33.length x6.length) then let x7:LDCn:=(List.append v33 x6);
let x8:=w64 (v5+1);
some (.inl (v0,v1,v2,v3,v4,x8,v6,v7,v8,v9,v10,v11,v12,v13,v14,v15,v16,v17,v18,v19,v20,v21,v22,v23,v24,v25,v26,v27,v28,v29,v30,v31,v32,x7,())) else none) else
some (.inr (v0,v1,v2,v3,v4,v5,false,v6,v7,v8,v9,v10,v11,v12,v13,v14,v15,v16,v17,v18,v19,v20,v21,v22,v23,v24,v25,v26,v27,v28,v29,v30,v31,v32,v33,()))
def gN:T2J->Option (T2J⊕(LDTh×Int×Int×Bool×T2y)):=λ(v0,v1,v2,v3,v4,v5,v6,v7,v8,v9,v10,v11,v12,v13,v14,_)=>
bif decide (v2 < v1) then ((d7 v2).bind λx0=>
(dK v0 x0).bind λx1=>
let x2:=dM x1.2.1.length;
(dU gO NN (v0,v1,v2,x1.2.1,x2,0,v3,v4,v5,v6,v7,v8,v9,v10,v11,v12,v13,v14,x1.1,x1.2.1,x1.2.2.1,x1.2.2.2.1,x1.2.2.2.2.1,x1.2.2.2.2.2.1,x1.2.2.2.2.2.2.1,x1.2.2.2.2.2.2.2,x1.1,x1.2.2.1,x1.2.2.2.1,x1.2.2.2.2.1,x1.2.2.2.2.2.1,x1.2.2.2.2.2.2.1,x1.2.2.2.2.2.2.2,[],())).bind λ(x3,x4,x5,x6,x7,x8,x9,ac,ae,af,ag,ah,ai,aj,ak,am,an,ap,aq,av,ax,ay,az,aA,aB,aD,aE,aF,aG,aH,aI,aJ,aK,aL,aM,_)=>
let aO:LDTs:=[(aF,(aG,(aH,(aI,(aJ,(aK,(aL,aM)))))))];
bif (dX 80 aq.length aO.length) then let aP:LDTs:=(List.append aq aO);
let aQ:=w64 (x5+1);
some (.inl (x3,x4,aQ,ac,ae,af,ag,ah,ai,aj,ak,am,an,ap,aP,())) else none) else
some (.inr (v0,v1,v2,false,v3,v4,v5,v6,v7,v8,v9,v10,v11,v12,v13,v14,()))
def lw(a0:LDIn) (a1:List (Int)) (a2:List LI) (a3:List (Int)) (a4:Int) (a5:LDCe) (a6:LDLn) (a7:LDTh):Option (T09):=
(jJ a5 a6 a3 a4 a1).bind λ(x0,_)=>
let x1:=dM a7.length;
(dU gN NN (a7,x1,0,a0,a1,a2,a3,a4,a5,a6,a7,(),(),x0,[],())).bind λ(x2,x3,x4,x5,x6,x7,x8,x9,ac,ae,af,ag,ah,ai,aj)=>
some (aj)
def AE:X.Cfg:=⟨E0,[pU,lV],[(63,F1),(64,F1)],[⟨12,0,(qS [(pP 2 6),(pP 3 8),(pP 4 10),(pP 5 12),(pP 8 18),(sP 20 fA),(sP 21 I64),(sP 22 I64),(sP 42 eS),(sP 43 I64),(sP 44 I64)] [(6,(uL [eW,RI,(.row false RW)])),(8,(uL [RI,CW,eS,fe,fA])),(10,(uL [N1,N1])),(12,(uL [(.row true (.row true KCn)),(.row true F1)])),(16,(uL [I64,eS,I64,I64,I64,I64,I64,CW])),(18,(uL [I64,I64,I64,I64,I64,I64,CW,(.row true KCn)]))]),[(.exit 2,(qS [(pP 2 6),(pP 3 8),(pP 4 10),(pP 5 12),(pP 8 18),(sP 20 fA),(sP 21 I64),(sP 22 I64),(sP 42 eS),(sP 43 I64),(sP 44 I64),(sP 45 .bool)] [(6,(uL [eW,RI,(.row false RW)])),(8,(uL [RI,CW,eS,fe,fA])),(10,(uL [N1,N1])),(12,(uL [(.row true (.row true KCn)),(.row true F1)])),(16,(uL [I64,eS,I64,I64,I64,I64,I64,CW])),(18,(uL [I64,I64,I64,I64,I64,I64,CW,(.row true KCn)]))]))]⟩,(lx 4 1 [(pP 2 6),(pP 3 8),(pP 4 10),(pP 5 12),(sP 20 fA),(sP 21 I64),(sP 22 I64)] [(6,(uL [eW,RI,(.row false RW)])),(8,(uL [RI,CW,eS,fe,fA])),(10,(uL [N1,N1])),(12,(uL [(.row true (.row true KCn)),(.row true F1)]))] 23)]⟩
def sI:Ctr:=⟨36,109,[.agg (uL [eW,RI,(.row false RW)]),.agg (uL [RI,CW,eS,fe,fA])],[],[⟨(uL [(.row true (.row true KCn)),(.row true F1)]),[.agg 2],[]⟩],ap8 lw⟩
theorem z0:Lk 4 sI:=ls (C:=AE) rfl (aC wv (aC ol aN)) (by kernel_rfl) λh=>by kernel_rfl
def gR:Int×T0l->Option ((Int×T0l)⊕(Int×T0z)):=λ(v0,v1,v2,v3,_)=>
bif decide (v3 < v2) then ((d7 v3).bind λx0=>
(dK v1 x0).bind λx1=>
let x2:=w64 (v0+x1);
let x3:=w64 (v3+1);
some (.inl (x2,v1,v2,x3,()))) else
some (.inr (v0,v1,v2,v3,false,()))
def lH(a0:List (Int)):Option (Int×Unit):=
let x0:=dM a0.length;
(dU gR NN (0,a0,x0,0,())).bind λ(x1,_)=>
some (x1,())
def A2:X.Cfg:=⟨E0,[],[],[(lx 4 0 [(sP 3 I64),(sP 6 RI),(sP 7 I64),(sP 8 I64)] [] 9)]⟩
def sU:Ctr:=⟨139,110,(uL [RI]),[],[⟨(uL [I64]),[.one],[]⟩],ap1 lH⟩
theorem Ak:Lk 1 sU:=ls (C:=A2) rfl aN (by kernel_rfl) λh=>by kernel_rfl
def n7:Int×LI×T0r->Option ((Int×LI×T0r)⊕(T0d⊕T1u)):=λ(v0,v1,v2,v3,v4)=>
bif decide (v3 < v2) then ((d7 v3).bind λx0=>
(dK v1 x0).bind λx1=>
(match (bif decide (v0>=0) then (bif decide (v0 < x1) then (some (.inl (0,v3,v0,()))) else
some (.inr (v0,v3,x1,v1,v2,v3,false,v4))) else
some (.inr (v0,v3,x1,v1,v2,v3,false,v4)):Option (T0d⊕(Int×Int×T1u))) with
| none=>none
| some (.inl (x2,x3,x4,_))=>
some (.inr (.inl (x2,x3,x4,())))
| some (.inr (x2,x3,x4,x5,x6,x7,x8,x9))=>
let ae:=w64 (x2 - x4);
let af:=w64 (x7+1);
some (.inl (ae,x5,x6,af,x9)))) else
some (.inr (.inr (v0,v1,v2,v3,false,v4)))
def qe(a0:List (Int)) (a1:Int):Option (T0d):=
let x0:=dM a0.length;
(match dU n7 NN (a1,a0,x0,0,0,0,()) with
| none=>none
| some (.inl (x1,x2,x3,_))=>
some (x2,x3,x1,())
| some (.inr (x1,x2,x3,_))=>
some (0,0,6,()))
def GZ:X.Cfg:=⟨E0,[],[],[⟨8,0,qE,[(.ret,(qS [(pP 4 10),(sP 5 I64)] [(10,(uL [I64,I64]))])),(.normal,(qS [(sP 1 I64),(pP 4 10),(sP 6 I64),(sP 7 I64),(sP 8 RI),(sP 9 I64),(sP 10 I64),(sP 21 .bool)] [(10,(uL [I64,I64]))]))]⟩,⟨3,1,(qS [(sP 1 I64),(pP 4 10),(sP 8 RI),(sP 9 I64),(sP 10 I64)] [(10,(uL [I64,I64]))]),[(.ret,(qS [(pP 4 10),(sP 5 I64)] [(10,(uL [I64,I64]))])),(.exit 0,(qS [(sP 1 I64),(pP 4 10),(sP 8 RI),(sP 9 I64),(sP 10 I64),(sP 11 .bool)] [(10,(uL [I64,I64]))]))]⟩]⟩
def zp:Ctr:=⟨138,111,(uL [RI,I64]),[],[⟨(uL [I64,I64,I64]),[.agg 2,.one],[]⟩],ap2 qe⟩
theorem GS:Lk 1 zp:=ls (C:=GZ) rfl aN (by kernel_rfl) λh=>by kernel_rfl
def kY(a0:List (Int)) (a1:List (Int)) (a2:Int):Option (T13):=
(dL 6 a1 a2).bind λ(x0,x1,x2,_)=>
bif (x0==4) then ((lH a0).bind λ(x3,_)=>
(dL x3 x1 x2).bind λ(x4,x5,x6,_)=>
(qe a0 x4).bind λ(x7,x8,x9,_)=>
some (1,0,x7,x8,x5,x6,())) else
bif (x0==5) then ((dL 10 x1 x2).bind λ(x3,x4,x5,_)=>
let x6:=wk .u16 x3;
some (2,x6,0,0,x4,x5,())) else
(ij x1 x2).bind λ(x3,x4,x5,_)=>
some (0,x3,0,0,x4,x5,())
def Df:X.Cfg:=⟨E0,[fw,sU,zp,mD],[],[]⟩
def uU:Ctr:=⟨62,112,[.ptr ⟨2,0,[]⟩ [0],shU RI],[(2,(uL [RI,I64]))],[⟨(uL [CB,CW,I64,I64]),[.agg 4],[(2,(uL [RI,I64]))]⟩],ap3 kY⟩
theorem Ct:Lk 5 uU:=ls (C:=Df) rfl (aC fL (aC Ak (aC GS (aC oo aN)))) (by kernel_rfl) λh=>by kernel_rfl
def fU:LDTs×LDTs×T02->Option ((LDTs×LDTs×T02)⊕((Bool×Unit)⊕(LDTs×LDTs×T0c))):=λ(v0,v1,v2,v3,_)=>
bif decide (v3 < v2) then ((d7 v3).bind λx0=>
(dK v1 x0).bind λx1=>
(bif decide (x1.1>=0) then (bif decide (x1.1<=4) then (bif decide (x1.2.1>=0) then (bif decide (x1.2.1<=255) then (bif decide (x1.2.2.1>=0) then (bif decide (x1.2.2.1<=1099511627776) then (bif (decide (x1.2.2.2.1>=(-1))) then (bif decide (x1.2.2.2.1<=255) then (bif (decide (x1.2.2.2.2.1>=(-1))) then (bif decide (x1.2.2.2.2.1<=255) then (bif decide (x1.2.2.2.2.2.1>=0) then (some (v0,(decide (x1.2.2.2.2.2.1<=6)),v1,v2,v3,x1.1,x1.2.1,x1.2.2.1,x1.2.2.2.1,x1.2.2.2.2.1,x1.2.2.2.2.2.1,x1.2.2.2.2.2.2.1,x1.2.2.2.2.2.2.2,())) else
some (v0,false,v1,v2,v3,x1.1,x1.2.1,x1.2.2.1,x1.2.2.2.1,x1.2.2.2.2.1,x1.2.2.2.2.2.1,x1.2.2.2.2.2.2.1,x1.2.2.2.2.2.2.2,())) else
some (v0,false,v1,v2,v3,x1.1,x1.2.1,x1.2.2.1,x1.2.2.2.1,x1.2.2.2.2.1,x1.2.2.2.2.2.1,x1.2.2.2.2.2.2.1,x1.2.2.2.2.2.2.2,())) else
some (v0,false,v1,v2,v3,x1.1,x1.2.1,x1.2.2.1,x1.2.2.2.1,x1.2.2.2.2.1,x1.2.2.2.2.2.1,x1.2.2.2.2.2.2.1,x1.2.2.2.2.2.2.2,())) else
some (v0,false,v1,v2,v3,x1.1,x1.2.1,x1.2.2.1,x1.2.2.2.1,x1.2.2.2.2.1,x1.2.2.2.2.2.1,x1.2.2.2.2.2.2.1,x1.2.2.2.2.2.2.2,())) else
some (v0,false,v1,v2,v3,x1.1,x1.2.1,x1.2.2.1,x1.2.2.2.1,x1.2.2.2.2.1,x1.2.2.2.2.2.1,x1.2.2.2.2.2.2.1,x1.2.2.2.2.2.2.2,())) else
some (v0,false,v1,v2,v3,x1.1,x1.2.1,x1.2.2.1,x1.2.2.2.1,x1.2.2.2.2.1,x1.2.2.2.2.2.1,x1.2.2.2.2.2.2.1,x1.2.2.2.2.2.2.2,())) else
some (v0,false,v1,v2,v3,x1.1,x1.2.1,x1.2.2.1,x1.2.2.2.1,x1.2.2.2.2.1,x1.2.2.2.2.2.1,x1.2.2.2.2.2.2.1,x1.2.2.2.2.2.2.2,())) else
some (v0,false,v1,v2,v3,x1.1,x1.2.1,x1.2.2.1,x1.2.2.2.1,x1.2.2.2.2.1,x1.2.2.2.2.2.1,x1.2.2.2.2.2.2.1,x1.2.2.2.2.2.2.2,())) else
some (v0,false,v1,v2,v3,x1.1,x1.2.1,x1.2.2.1,x1.2.2.2.1,x1.2.2.2.2.1,x1.2.2.2.2.2.1,x1.2.2.2.2.2.2.1,x1.2.2.2.2.2.2.2,())) else
some (v0,false,v1,v2,v3,x1.1,x1.2.1,x1.2.2.1,x1.2.2.2.1,x1.2.2.2.2.1,x1.2.2.2.2.2.1,x1.2.2.2.2.2.2.1,x1.2.2.2.2.2.2.2,())) else
some (v0,false,v1,v2,v3,x1.1,x1.2.1,x1.2.2.1,x1.2.2.2.1,x1.2.2.2.2.1,x1.2.2.2.2.2.1,x1.2.2.2.2.2.2.1,x1.2.2.2.2.2.2.2,()):Option (LDTs×Bool×LDTs×T28)).bind λ(x2,x3,x4,x5,x6,x7,x8,x9,ac,ae,af,ag,ah,_)=>
(bif (!x3) then (some (x2,x4,x5,x6,true,())) else
let ai:=dM ah.length;
bif (ai != 8) then (some (x2,x4,x5,x6,true,())) else
(ff ah 8).bind λ(aj,_)=>
some (x2,x4,x5,x6,(!aj),()):Option (LDTs×LDTs×T0c)).bind λ(ai,aj,ak,am,an,_)=>
bif an then (some (.inr (.inl (false,())))) else
let ap:=w64 (am+1);
some (.inl (ai,aj,ak,ap,()))) else
some (.inr (.inr (v0,v1,v2,v3,false,())))
def jD(a0:LDTs):Option (Bool×Unit):=
let x0:=dM a0.length;
(match dU fU NN (a0,a0,x0,0,()) with
| none=>none
| some (.inl (x1,_))=>
some (x1,())
| some (.inr (x1,_))=>
let x6:=dM x1.length;
some ((x6==4),()))
def wJ:X.Cfg:=⟨E0,[fZ],[],[⟨8,0,qE,[(.normal,(qS [(sP 0 (.row false qz)),(pP 4 10),(sP 5 .bool),(sP 6 (.row false qz)),(sP 7 I64),(sP 8 I64)] [(10,(uL [I64,I64,I64,I64,I64,I64,CW,ef]))]))]⟩,⟨9,1,qE,[(.normal,(qS [(sP 0 (.row false qz)),(sP 6 (.row false qz)),(sP 7 I64),(sP 8 I64),(sP 83 .bool)] []))]⟩,⟨3,2,(qS [(sP 0 (.row false qz)),(sP 6 (.row false qz)),(sP 7 I64),(sP 8 I64)] []),[(.ret,(qS [(sP 2 .bool)] [])),(.exit 0,(qS [(sP 0 (.row false qz)),(sP 6 (.row false qz)),(sP 7 I64),(sP 8 I64),(sP 9 .bool)] []))]⟩]⟩
def pM:Ctr:=⟨108,113,(uL [(.row false qz)]),[],[⟨(uL [.bool]),[.one],[]⟩],ap1 jD⟩
theorem wq:Lk 3 pM:=ls (C:=wJ) rfl (aC gK aN) (by kernel_rfl) λh=>by kernel_rfl
def gM:T1N->Option (T1N⊕((Bool×Unit)⊕(LLCn×Int×Int×Bool×T0Q))):=λ(v0,v1,v2,v3,v4,v5)=>
bif decide (v2 < v1) then ((d7 v2).bind λx0=>
(dK v0 x0).bind λx1=>
let x2:=dM x1.length;
(d7 v2).bind λx3=>
(dK v4 x3).bind λx4=>
bif (x2 != x4) then (some (.inr (.inl (false,())))) else
(ff x1 32).bind λ(x5,_)=>
bif (!x5) then (some (.inr (.inl (false,())))) else
let x6:=w64 (v2+1);
some (.inl (v0,v1,x6,v3,v4,v5))) else
some (.inr (.inr (v0,v1,v2,false,v3,v4,v5)))
def lu(a0:LDIn) (a1:List (Int)) (a2:List LI) (a3:List LDCn) (a4:LDTs):Option (Bool×Unit):=
((ix a0 a1 a2).bind λ(x0,_)=>
bif (x0 != 0) then (some (true,a0,a1,a2,a3,a4,())) else
let x1:=dM a3.length;
let x2:=dM a1.length;
bif (x1 != x2) then (some (true,a0,a1,a2,a3,a4,())) else
(jD a4).bind λ(x3,_)=>
some ((!x3),a0,a1,a2,a3,a4,()):Option (Bool×T0Q)).bind λ(x0,x1,x2,x3,x4,x5,_)=>
bif x0 then (some (false,())) else
let x6:=dM x4.length;
(match dU gM NN (x4,x6,0,x1,x2,x3,x4,x5,()) with
| none=>none
| some (.inl (x7,_))=>
some (x7,())
| some (.inr (x7,_))=>
some (true,()))
def AD:X.Cfg:=⟨E0,[lU,pM,fZ],[],[⟨2,0,qE,[(.normal,(qS [(pP 2 6),(pP 3 8),(sP 24 .bool)] [(6,(uL [eW,RI,(.row false RW)])),(8,(uL [(.row false ef),(.row false qz)]))]))]⟩,⟨6,1,(qS [(pP 2 6),(sP 26 (.row false ef)),(sP 27 I64),(sP 28 I64)] [(6,(uL [eW,RI,(.row false RW)])),(8,(uL [(.row false ef),(.row false qz)]))]),[(.ret,(qS [(sP 4 .bool)] [])),(.exit 0,(qS [(pP 2 6),(sP 26 (.row false ef)),(sP 27 I64),(sP 28 I64),(sP 29 .bool)] [(6,(uL [eW,RI,(.row false RW)])),(8,(uL [(.row false ef),(.row false qz)]))]))]⟩]⟩
def sH:Ctr:=⟨47,114,[.agg (uL [eW,RI,(.row false RW)]),.agg (uL [(.row false ef),(.row false qz)])],[],[⟨(uL [.bool]),[.one],[]⟩],ap5 lu⟩
theorem zZ:Lk 4 sH:=ls (C:=AD) rfl (aC oj (aC wq (aC gK aN))) (by kernel_rfl) λh=>by kernel_rfl
def gL:LDTs×Int×Int×LLCn×LDTs×LLCn×Unit->Option ((LDTs×Int×Int×LLCn×LDTs×LLCn×Unit)⊕(LDTs×Int×Int×Bool×LLCn×LDTs×LLCn×Unit)):=λ(v0,v1,v2,v3,v4,v5,_)=>
bif decide (v2 < v1) then ((d7 v2).bind λx0=>
(dK v0 x0).bind λx1=>
let x2:List LDCn:=[x1.2.2.2.2.2.2.2];
bif (dX 24 v5.length x2.length) then let x3:List LDCn:=(List.append v5 x2);
let x4:=w64 (v2+1);
some (.inl (v0,v1,x4,v3,v4,x3,())) else none) else
some (.inr (v0,v1,v2,false,v3,v4,v5,()))
def lr(a0:List LDCn) (a1:LDTs):Option (LLCn×Unit):=
bif (dX 24 0 a0.length) then let x0:List LDCn:=(List.append [] a0);
let x1:=dM a1.length;
(dU gL NN (a1,x1,0,a0,a1,x0,())).bind λ(x2,x3,x4,x5,x6,x7,x8,_)=>
some (x8,()) else none
def AC:X.Cfg:=⟨E0,[],[(8,(.row true KCn)),(19,(.row true KCn)),(20,(.row true KCn))],[(lx 4 0 [(3,.pk ⟨9,0,[]⟩ [0,0]),(sP 10 (.row false qz)),(sP 11 I64),(sP 12 I64)] [(4,(uL [(.row false ef),(.row false qz)])),(9,(uL [(.row true ef)]))] 13)]⟩
def sG:Ctr:=⟨97,115,[.agg (uL [(.row false ef),(.row false qz)])],[],[⟨(uL [(.row true ef)]),[.one],[]⟩],ap2 lr⟩
theorem zY:Lk 1 sG:=ls (C:=AC) rfl aN (by kernel_rfl) λh=>by kernel_rfl
def gh:T2R->Option (T2R⊕(T0Z⊕(Int×Int×LDCn×T2L))):=λ(v0,v1,v2,v3,v4,v5,v6,v7)=>
bif decide (v4 < v3) then ((d7 v4).bind λx0=>
(dK v2 x0).bind λx1=>
(f8 v6 x1.1 x1.2.1 x1.2.2.1 x1.2.2.2).bind λ(x2,_)=>
bif (!x2) then (some (.inr (.inl (false,(),0,(),(),(),())))) else
let x3:=w64 (v4+1);
some (.inl (v0,v1,v2,v3,x3,v5,v6,v7))) else
some (.inr (.inr (v0,v1,v2,v3,v4,false,v5,v6,v7)))
def gg:T2H->Option (T2H⊕(T0Z⊕T2L)):=λ(v0,v1,v2,v3,v4,v5,v6,v7,v8,v9,v10,v11,v12,v13,v14,_)=>
bif decide (v1 < v0) then ((d7 v1).bind λx0=>
(dK v14 x0).bind λx1=>
(dK v14 x0).bind λx2=>
let x3:=dM x2.length;
(match dU gh NN (v0,v1,x2,x3,0,v2,v3,v4,v5,v6,v7,v8,v9,v10,v11,v12,v13,v14,()) with
| none=>none
| some (.inl (x4,x5,x6,x7,x8,x9,_))=>
some (.inr (.inl (x4,x5,x6,x7,x8,x9,())))
| some (.inr (x4,x5,x6,x7,x8,x9,ac))=>
let ax:=w64 (x5+1);
some (.inl (x4,ax,ac)))) else
some (.inr (.inr (v0,v1,false,v2,v3,v4,v5,v6,v7,v8,v9,v10,v11,v12,v13,v14,())))
def ny:T37->Option (T37⊕(Int×LLCn×Int×Int×LDCn×T32)):=λ(v0,v1,v2,v3,v4,v5,v6,v7,v8,v9,v10,v11,v12,v13,v14,v15,v16,v17,v18,v19,v20,v21,v22)=>
bif decide (v6 < v5) then ((d7 v6).bind λx0=>
(dK v4 x0).bind λx1=>
(d7 v0).bind λx2=>
(dK v10 x2).bind λx3=>
let x4:=w64 (x3+v6);
(f7 v10 v11 v8 x1.1 x1.2.1 x1.2.2.1 x1.2.2.2).bind λ(x5,x6,x7,_)=>
(d7 x4).bind λx8=>
(dK v21 x8).bind λx9=>
(dK v21 x8).bind λac=>
let ae:=List.modify v21 x8 λe=>(x5,x6);
let af:=w64 (v6+1);
some (.inl (v0,v1,v2,v3,v4,v5,af,v7,v8,v9,v10,v11,v12,v13,v14,v15,v16,v17,v18,v19,v20,ae,v22))) else
some (.inr (v0,v1,v2,v3,v4,v5,v6,false,v7,v8,v9,v10,v11,v12,v13,v14,v15,v16,v17,v18,v19,v20,v21,v22))
def nw:T34->Option (T34⊕(LLCn×T32)):=λ(v0,v1,v2,v3)=>
bif decide (v2 < v1) then ((d7 v2).bind λx0=>
(dK v0 x0).bind λx1=>
let x2:=dM x1.length;
(dU ny NN (v2,v0,v1,v2,x1,x2,0,v3)).bind λ(x3,x4,x5,x6,x7,x8,x9,ac,ae)=>
let aD:=w64 (x6+1);
some (.inl (x4,x5,aD,ae))) else
some (.inr (v0,v1,v2,false,v3))
def gf:T3E->Option (T3E⊕(LDTs×Int×Int×LDCn×Int×Int×Bool×T3j)):=λ(v0,v1,v2,v3,v4,v5,v6,v7,v8,v9,v10,v11,v12,v13,v14,v15,v16,v17,v18,v19,v20,v21,v22,v23,v24,v25,v26,v27,v28,v29,v30,v31,v32,v33)=>
bif decide (v5 < v4) then ((d7 v5).bind λx0=>
(dK v3 x0).bind λx1=>
(f7 v9 v10 v7 x1.1 x1.2.1 x1.2.2.1 x1.2.2.2).bind λ(x2,x3,x4,_)=>
let x5:LDCe:=[(x2,x3)];
bif (dX 4 v32.length x5.length) then let x6:LDCe:=(List.append v32 x5);
let x7:=w64 (v5+1);
some (.inl (v0,v1,v2,v3,v4,x7,v6,v7,v8,v9,v10,v11,v12,v13,v14,v15,v16,v17,v18,v19,v20,v21,v22,v23,v24,v25,v26,v27,v28,v29,v30,v31,x6,v33)) else none) else
some (.inr (v0,v1,v2,v3,v4,v5,false,v6,v7,v8,v9,v10,v11,v12,v13,v14,v15,v16,v17,v18,v19,v20,v21,v22,v23,v24,v25,v26,v27,v28,v29,v30,v31,v32,v33))
def ge:T33->Option (T33⊕(LDTs×Int×Int×Bool×T2P)):=λ(v0,v1,v2,v3,v4,v5,v6,v7,v8,v9,v10,v11,v12,v13,v14,v15,v16,v17,v18,v19,_)=>
bif decide (v2 < v1) then ((d7 v2).bind λx0=>
(dK v0 x0).bind λx1=>
let x2:=dM x1.2.2.2.2.2.2.2.length;
(dU gf NN (v0,v1,v2,x1.2.2.2.2.2.2.2,x2,0,v3,v4,v5,v6,v7,v8,v9,v10,v11,v12,v13,v14,v15,v16,v17,v18,v19,x1.1,x1.2.1,x1.2.2.1,x1.2.2.2.1,x1.2.2.2.2.1,x1.2.2.2.2.2.1,x1.2.2.2.2.2.2.1,x1.2.2.2.2.2.2.2,x1.1,[],x1.2.1,x1.2.2.1,x1.2.2.2.1,x1.2.2.2.2.1,x1.2.2.2.2.2.1,x1.2.2.2.2.2.2.1,())).bind λ(x3,x4,x5,x6,x7,x8,x9,ac,ae,af,ag,ah,ai,aj,ak,am,an,ap,aq,av,ax,ay,az,aA,aB,aD,aE,aF,aG,aH,aI,aJ,aK,aL,aM,aO,aP,aQ,aR,aS,_)=>
let aT:LDTh:=[(aK,(aL,(aM,(aO,(aP,(aQ,(aR,aS)))))))];
bif (dX 80 aA.length aT.length) then let aU:LDTh:=(List.append aA aT);
let aV:=w64 (x5+1);
some (.inl (x3,x4,aV,ac,ae,af,ag,ah,ai,aj,ak,am,an,ap,aq,av,ax,ay,az,aU,())) else none) else
some (.inr (v0,v1,v2,false,v3,v4,v5,v6,v7,v8,v9,v10,v11,v12,v13,v14,v15,v16,v17,v18,v19,()))
def kx(a0:LDIn) (a1:List (Int)) (a2:List LI) (a3:List (Int)) (a4:Int) (a5:List LDCn) (a6:LDTs):Option (T1c):=
(lu a0 a1 a2 a5 a6).bind λ(x0,_)=>
bif (!x0) then (some ([],0,[],[],[],false,())) else
(gD a3 a4 a1).bind λ(x1,_)=>
bif (!x1) then (some ([],0,[],[],[],false,())) else
(lr a5 a6).bind λ(x2,_)=>
let x3:=dM x2.length;
(match dU gg NN (x3,0,a0,a1,a2,a3,a4,a5,a6,(),0,(),(),(),x2,()) with
| none=>none
| some (.inl (x4,x5,x6,x7,x8,x9,_))=>
some ([],x6,[],[],[],x4,())
| some (.inr (x4,x5,x6,x7,x8,x9,ac,ae,af,ag,ah,ai,aj,ak,am,an,_))=>
bif (dX 8 0 ac.length) then let ap:List (Int):=(List.append [] ac);
bif (qw 512 512 2) then let aq:LDCe:=(List.replicate 512 (0,0));
(lG).bind λ(av,_)=>
let ax:=dM af.length;
(dU nw NN (af,ax,0,x7,x8,x9,ac,ae,af,ag,ah,ai,aj,ak,am,ap,ae,aq,av,(),())).bind λ(ay,az,aA,aB,aD,aE,aF,aG,aH,aI,aJ,aK,aL,aM,aO,aP,aQ,aR,aS,aT,aU,_)=>
let aV:=dM aJ.length;
(dU ge NN (aJ,aV,0,aD,aE,aF,aG,aH,aI,aJ,aK,aL,aM,aO,aP,aQ,aR,aS,aT,[],())).bind λ(aW,aY,aZ,ba,bc,bd,be,bf,bg,bh,bi,bj,bk,bm,bn,bo,bp,bq,bt,bv,bx,_)=>
some (bp,bq,bt,bv,bx,true,()) else none else none)
def yj:X.Cfg:=⟨E0,[sH,j4,sG,iM,oB,oC],[(150,JO),(151,JO)],[⟨12,0,(qS [(pP 3 8),(pP 4 10),(pP 5 12),(pP 6 14),(37,.pk ⟨77,0,[]⟩ [0,0]),(sP 38 I64),(sP 39 I64),(sP 43 ef),(sP 44 I64),(sP 45 I64)] [(8,(uL [eW,RI,(.row false RW)])),(10,(uL [RI,CW])),(12,(uL [(.row false ef),(.row false qz)])),(14,(uL [N1,CW,N1,N1,N1])),(77,(uL [(.row true ef)]))]),[(.ret,(qS [(pP 6 14),(sP 7 .bool)] [(14,(uL [N1,CW,N1,N1,N1]))])),(.exit 2,(qS [(pP 3 8),(pP 4 10),(pP 5 12),(pP 6 14),(37,.pk ⟨77,0,[]⟩ [0,0]),(sP 38 I64),(sP 39 I64),(sP 43 ef),(sP 44 I64),(sP 45 I64),(sP 46 .bool)] [(8,(uL [eW,RI,(.row false RW)])),(10,(uL [RI,CW])),(12,(uL [(.row false ef),(.row false qz)])),(14,(uL [N1,CW,N1,N1,N1])),(77,(uL [(.row true ef)]))]))]⟩,⟨6,1,(qS [(pP 3 8),(pP 4 10),(pP 5 12),(pP 6 14),(37,.pk ⟨77,0,[]⟩ [0,0]),(sP 38 I64),(sP 39 I64)] [(8,(uL [eW,RI,(.row false RW)])),(10,(uL [RI,CW])),(12,(uL [(.row false ef),(.row false qz)])),(14,(uL [N1,CW,N1,N1,N1])),(77,(uL [(.row true ef)]))]),[(.ret,(qS [(pP 6 14),(sP 7 .bool)] [(14,(uL [N1,CW,N1,N1,N1]))])),(.exit 0,(qS [(pP 3 8),(pP 4 10),(pP 5 12),(pP 6 14),(37,.pk ⟨77,0,[]⟩ [0,0]),(sP 38 I64),(sP 39 I64),(sP 40 .bool)] [(8,(uL [eW,RI,(.row false RW)])),(10,(uL [RI,CW])),(12,(uL [(.row false ef),(.row false qz)])),(14,(uL [N1,CW,N1,N1,N1])),(77,(uL [(.row true ef)]))]))]⟩,⟨28,2,(qS [(pP 3 8),(pP 4 10),(pP 5 12),(pP 6 14),(pP 12 26),(sP 13 I64),(sP 68 (.row false ef)),(sP 69 I64),(sP 70 I64),(sP 75 ef),(sP 76 I64),(sP 77 I64)] [(8,(uL [eW,RI,(.row false RW)])),(10,(uL [RI,CW])),(12,(uL [(.row false ef),(.row false qz)])),(14,(uL [N1,CW,N1,N1,N1])),(26,(uL [RI,CW,(.row true KCe),iG,N1]))]),[(.exit 6,(qS [(pP 3 8),(pP 4 10),(pP 5 12),(pP 6 14),(pP 12 26),(sP 13 I64),(sP 68 (.row false ef)),(sP 69 I64),(sP 70 I64),(sP 75 ef),(sP 76 I64),(sP 77 I64),(sP 78 .bool)] [(8,(uL [eW,RI,(.row false RW)])),(10,(uL [RI,CW])),(12,(uL [(.row false ef),(.row false qz)])),(14,(uL [N1,CW,N1,N1,N1])),(26,(uL [RI,CW,(.row true KCe),iG,N1]))]))]⟩,⟨22,3,(qS [(pP 3 8),(pP 4 10),(pP 5 12),(pP 6 14),(pP 12 26),(sP 68 (.row false ef)),(sP 69 I64),(sP 70 I64)] [(8,(uL [eW,RI,(.row false RW)])),(10,(uL [RI,CW])),(12,(uL [(.row false ef),(.row false qz)])),(14,(uL [N1,CW,N1,N1,N1])),(26,(uL [RI,CW,(.row true KCe),iG,N1]))]),[(.exit 4,(qS [(pP 3 8),(pP 4 10),(pP 5 12),(pP 6 14),(pP 12 26),(sP 68 (.row false ef)),(sP 69 I64),(sP 70 I64),(sP 71 .bool)] [(8,(uL [eW,RI,(.row false RW)])),(10,(uL [RI,CW])),(12,(uL [(.row false ef),(.row false qz)])),(14,(uL [N1,CW,N1,N1,N1])),(26,(uL [RI,CW,(.row true KCe),iG,N1]))]))]⟩,⟨43,4,(qS [(pP 3 8),(pP 4 10),(pP 6 14),(pP 12 26),(pP 19 40),(sP 104 (.row false qz)),(sP 105 I64),(sP 106 I64),(sP 126 ef),(sP 127 I64),(sP 128 I64)] [(8,(uL [eW,RI,(.row false RW)])),(10,(uL [RI,CW])),(12,(uL [(.row false ef),(.row false qz)])),(14,(uL [N1,CW,N1,N1,N1])),(26,(uL [RI,CW,(.row true KCe),iG,nn])),(38,(uL [I64,I64,I64,I64,I64,I64,CW,ef])),(40,(uL [I64,(.row true KCe),I64,I64,I64,I64,I64,CW]))]),[(.exit 10,(qS [(pP 3 8),(pP 4 10),(pP 6 14),(pP 12 26),(pP 19 40),(sP 104 (.row false qz)),(sP 105 I64),(sP 106 I64),(sP 126 ef),(sP 127 I64),(sP 128 I64),(sP 129 .bool)] [(8,(uL [eW,RI,(.row false RW)])),(10,(uL [RI,CW])),(12,(uL [(.row false ef),(.row false qz)])),(14,(uL [N1,CW,N1,N1,N1])),(26,(uL [RI,CW,(.row true KCe),iG,nn])),(38,(uL [I64,I64,I64,I64,I64,I64,CW,ef])),(40,(uL [I64,(.row true KCe),I64,I64,I64,I64,I64,CW]))]))]⟩,⟨35,5,(qS [(pP 3 8),(pP 4 10),(pP 6 14),(pP 12 26),(sP 104 (.row false qz)),(sP 105 I64),(sP 106 I64)] [(8,(uL [eW,RI,(.row false RW)])),(10,(uL [RI,CW])),(12,(uL [(.row false ef),(.row false qz)])),(14,(uL [N1,CW,N1,N1,N1])),(26,(uL [RI,CW,(.row true KCe),iG,nn]))]),[(.exit 8,(qS [(pP 3 8),(pP 4 10),(pP 6 14),(pP 12 26),(sP 104 (.row false qz)),(sP 105 I64),(sP 106 I64),(sP 107 .bool)] [(8,(uL [eW,RI,(.row false RW)])),(10,(uL [RI,CW])),(12,(uL [(.row false ef),(.row false qz)])),(14,(uL [N1,CW,N1,N1,N1])),(26,(uL [RI,CW,(.row true KCe),iG,nn]))]))]⟩]⟩
def qX:Ctr:=⟨40,116,[.agg (uL [eW,RI,(.row false RW)]),.agg (uL [RI,CW]),.agg (uL [(.row false ef),(.row false qz)])],[],[⟨(uL [RI,CW,(.row true KCe),iG,nn,.bool]),[.agg 5,.one],[]⟩],ap7 kx⟩
theorem xQ:Lk 5 qX:=ls (C:=yj) rfl (aC zZ (aC lO (aC zY (aC kK (aC sf (aC rz aN)))))) (by kernel_rfl) λh=>by kernel_rfl
end
end Go.Proofs.YtbapcamohngjbaaGreat
