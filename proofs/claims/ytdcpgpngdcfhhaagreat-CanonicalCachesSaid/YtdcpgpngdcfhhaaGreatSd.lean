/- Part of the proof; no condition. -/
import Derived.Test.YtdcpgpngdcfhhaaGreatSc
import Derived.Test.YtdcpgpngdcfhhaaGreatProg
import Derived.KernelRfl
set_option linter.unusedVariables false
set_option linter.unusedSimpArgs false
namespace Go.Proofs.YtdcpgpngdcfhhaaGreat
open Go.RowKit
section
variable {α β γ δ Y:Type}
theorem AP(np:Nat) (t:XV den):Sim (Y:=Y) (X.takeR1 dI np t) (takeR1 np (er t)) er:=by
 have key:Sim (Y:=Y) (X.take1 dI true t) (take1 true (er t)) er:=gZ true t
 cases t with
 | pk p vs=>exact gZ _ (.pk p vs)
 | d t y=>cases t with
  | row o t=>cases o<;>exact key
  | nilr o=>cases o<;>exact key
  | _=>exact key
 | _=>exact key
theorem Ic(np:Nat):∀l:List (XV den),Sim (Y:=Y) (X.takeRL dI np l) (takeRL np (erL l)) erL:=by
 intro l
 induction l with
 | nil=>exact .ret rfl
 | cons t l ih=>exact (AP np t).bind fun t'=>ih.bind fun r'=>.ret rfl
theorem uR(np:Nat) (t:XV den):Sim (Y:=Y) (X.takeRV dI np t) (takeRV np (er t)) fun x=>(erL x.1,x.2):=by
 have one:∀t:XV den,Sim (Y:=Y) (X.bind (X.takeR1 dI np t) fun t'=>X.ret ([t'],RSh.one)) ((takeR1 np (er t)).bind fun t'=>.ret ([t'],.one)) fun x=>(erL x.1,x.2):=fun t=>(AP np t).bind fun t'=>.ret rfl;have key:=one t
 cases t with
 | agg l=>exact (Ic np l).bind fun l'=>.ret (by simp only[fU])
 | d t y=>cases t with
  | row o t=>cases o<;>exact key
  | nilr o=>cases o<;>exact key
  | _=>exact key
 | _=>exact key
theorem LR(np:Nat) (q:TRs):Sim (Y:=Y) (X.res1 dI np q) (res1 np q) fun x=>(erL x.1,x.2):=by
 cases q with
 | tmp t=>exact Sim.rdT fun tv=>uR np tv
 | cell t n=>
  refine Sim.rdT fun tv=>?_
  cases tv with
  | ptr p vs=>
   refine (fW p _ vs).bind fun _=>?_
   cases n with
   | none=>exact (ke p).bind fun t=>(j9 p t).bind fun t'=>uR np t'
   | some n=>exact (Dw p n).bind fun l=>uR np (.agg l)
  | d t y=>cases t with
   | row o t=>cases o<;>exact .fail
   | nilr o=>cases o<;>exact .fail
   | _=>exact .fail
  | _=>exact .fail
theorem LP(np:Nat):∀l:List TRs,Sim (Y:=Y) (X.resL dI np l) (resL np l) fun x=>(erL x.1,x.2):=by
 intro l
 induction l with
 | nil=>exact .ret rfl
 | cons q l ih=>exact (LR np q).bind fun x=>ih.bind fun y=>.ret (by simp only[rO])
theorem LQ(np:Nat) (l:List TRs):Sim (Y:=Y) (X.resF dI np l) (resF np l) fun x=>(erL x.1,x.2):=by
 have base:=LP (Y:=Y) np l
 cases l with
 | nil=>exact base
 | cons q r=>cases r with
  | cons q2 r=>cases q<;>exact base
  | nil=>cases q with
   | cell t n=>exact base
   | tmp t=>
    refine Sim.rdT fun tv=>?_
    cases tv with
    | ptr p vs=>exact (fW p _ vs).bind fun _=>.ret rfl
    | d ty y=>cases ty with
     | row o ty=>cases o<;>exact base
     | nilr o=>cases o<;>exact base
     | _=>exact base
    | _=>exact base
theorem KP(t:XV den):(∃p vs,t=.ptr p vs)∨(X.isPtrX t=false∧∀p vs,er t≠.ptr p vs):=by
 cases t with
 | ptr p vs=>exact .inl ⟨p,vs,rfl⟩
 | d t y=>cases t with
  | row o t=>cases o<;>exact .inr ⟨rfl,by simp[er,er1]⟩
  | nilr o=>cases o<;>exact .inr ⟨rfl,by simp[er,er1]⟩
  | _=>exact .inr ⟨rfl,by simp[er,er1]⟩
 | gap t x i o=>exact .inr ⟨rfl,fun p vs h=>by cases h⟩
 | _=>exact .inr ⟨rfl,by simp[er]⟩
theorem Mw{t:XV den}(h:X.isShX t=true):∃c,er t=.sl c:=by
 cases t with
 | d t y=>cases t with
  | row o t=>cases o with
   | false=>exact⟨_,rfl⟩
   | true=>cases h
  | nilr o=>cases o with
   | false=>exact⟨_,rfl⟩
   | true=>cases h
  | _=>cases h
 | _=>cases h
theorem It{pp:List Nat}:∀{l:List (XV den)}{i:Nat},X.ptrsInX pp i l=true→nQ pp i (erL l)=true:=by
 intro l
 induction l with
 | nil=>intro i _;rfl
 | cons t l ih=>
  intro i h;simp only[X.ptrsInX,oBA] at h;obtain⟨⟨h0,hs⟩,hr⟩:=h;rcases KP t with ⟨p,vs,rfl⟩ | ⟨h1,h2⟩
  ·show (pp.contains i && nQ pp (i+1) (erL l))=true;rw[ih hr,Bool.and_true];simpa [X.isPtrX] using h0
  ·show nQ pp i (er t :: erL l)=true;rw[h1,Bool.false_or] at hs
   cases hsh:X.isShX t with
   | true=>
    obtain⟨c,hc⟩:=Mw hsh;rw[hc];exact ih hr
   | false=>
    rw[hsh,Bool.false_or] at hs
    cases he:er t with
    | ptr p vs=>exact absurd he (h2 p vs)
    | sl c=>exact ih hr
    | _=>show (!pp.contains (1000+i) && nQ pp (i+1) (erL l))=true;rw[hs,ih hr];rfl
theorem FO(l:List (XV den)):∀i,(ge i l).map (fun x=>(x.1,er x.2))=ge i (erL l):=by
 induction l with
 | nil=>intro i;rfl
 | cons t l ih=>intro i;simp only[ge,List.map_cons,erL,ih]
theorem Oo(vals:List (XV den)) (pts:List (Nat×List (XV den))):erS (X.mkSt vals pts)=mkSt (erL vals) (erC pts):=by
 unfold X.mkSt mkSt erS;simp only[FO]
theorem Mf(σ:XS den) (pts:List (Nat×List (XV den))):erC (X.ptsOf σ pts)=(erC pts).map fun x=>(x.1,(eF (erS σ).ce x.1).getD []):=by
 induction pts with
 | nil=>rfl
 | cons x pts ih=>
  show (x.1,erL ((eF σ.ce x.1).getD [])) :: erC (X.ptsOf σ pts)=(x.1,(eF (erS σ).ce x.1).getD []) :: _;rw[ih,A4];cases eF σ.ce x.1<;>rfl
theorem N9{F:fI}{C:X.Cfg}(hTB:∀c∈C.TB,vB F c) (u:HL den []) {N:Nat}(hN:NN≤N) {tf:TFn}{outs:List XO}{vals:List (XV den)}{pts:List (Nat×List (XV den))}{o:Bg (outs.map lvO)}(h:X.runT dI C u tf outs vals pts=some o) :
 ∃x,lQ (outs.map lvO) o (fun i ho=>mq outs i ho)=some x∧runT C.E F N tf (erL vals) (erC pts)=some (⟨erL x.1,x.2.1⟩,erC x.2.2):=by
 unfold X.runT at h;split at h
 case isFalse=>cases h
 rename_i hc;obtain⟨e,σ1,r1,h1⟩:=LO hTB u hN tf.body 0 _ _ o h
 have key:X.resF dI tf.np tf.res σ1 (fun y σ'=>X.onOut dI (X.injO dI y.1 y.2 (X.ptsOf σ' pts) u outs) fun x=>dI.out (outs.map lvO) x.1 x.2)=some o →
  ∃x,lQ (outs.map lvO) o (fun i ho=>mq outs i ho)=some x∧(((resF tf.np tf.res).run (erS σ1)).bind fun y=>some ((⟨y.1.1,y.1.2⟩:Jm),(erC pts).map fun x=>(x.1,(eF y.2.ce x.1).getD [])))=some (⟨erL x.1,x.2.1⟩,erC x.2.2):=by
  intro h2;obtain⟨y,σ2,r2,_,h3⟩:=LQ tf.np tf.res σ1 _ o h2
  cases hi:X.injO dI y.1 y.2 (X.ptsOf σ2 pts) u outs with
  | none=>rw[hi] at h3;cases h3
  | some z=>
   rw[hi] at h3;obtain⟨i,ho⟩:=z;obtain⟨x,hf,e1,e2,e3⟩:=Oz hi;refine⟨x,?_,?_⟩
   ·rw[A6 _ (show u7 (outs.map lvO) i ho=some o from h3)];exact hf
   ·rw[r2];simp only[oBS];rw[e1,e2,e3,Mf]
 have hcond:(erL vals).length=tf.np∧(nQ tf.pp 0 (erL vals) && (!tf.pp.contains 1000 || (erC pts).isEmpty))=true:=by
  have h2:=hc.2;rw[oBA] at h2;refine⟨by rw[fU];exact hc.1,?_⟩;rw[It h2.1,Bool.true_and];have h3:=h2.2
  cases pts with
  | nil=>simp[erC]
  | cons x pts=>simpa [erC] using h3
 unfold runT;rw[oIP hcond,← Oo,r1];simp only[oBS]
 cases e with
 | exit j=>cases h1
 | normal=>exact key h1
 | ret=>exact key h1
end
theorem MQ{E:Env}{T:FuncId→Option TFn}{B F:fI}{N:Nat}(hN:NN≤N) {C:X.Cfg}(hE:C.E=E) (hTB:∀c∈C.TB,vB F c) {c:Ctr}{tf:TFn}(hT:T c.f=some tf)
 (hg:∀h,X.runT dI C () tf c.outs (iZ c.ins _ h).1 (t6 c.pts [] (iZ c.ins _ h).2).1=c.g h):vB (Ib E T B F N) c:=by
 intro h o x ho hx;rw[Ia hT];rw[← hg h] at ho;obtain⟨x',h1,h2⟩:=N9 hTB () hN ho;rw[hx] at h1
 injection h1 with h1
 rw[← h1,hE] at h2;exact h2
def Lvl(E:Env) (T:FuncId→Option TFn) (B:fI) (n:Nat) (c:Ctr):Prop:=∀k,n≤k→vB (runF E T B (NN+k)) c
def HZ(E:Env) (T:FuncId→Option TFn) (B:fI) (n:Nat):List Ctr→Prop
 | []=>True
 | c :: r=>Lvl E T B n c∧HZ E T B n r
theorem Lvl.mono{E:Env}{T:FuncId→Option TFn}{B:fI}{n m:Nat}{c:Ctr}(h:Lvl E T B n c) (hm:n≤m):Lvl E T B m c:=fun k hk=>h k (Nat.le_trans hm hk)
theorem HZ.get{E:Env}{T:FuncId→Option TFn}{B:fI}{n:Nat}:∀{l:List Ctr},HZ E T B n l→∀c∈l,Lvl E T B n c:=by
 intro l
 induction l with
 | nil=>intro _ c hc;simp at hc
 | cons x l ih=>
  intro h c hc;rcases List.mem_cons.1 hc with rfl | hc
  ·exact h.1
  ·exact ih h.2 c hc
theorem PU{E:Env}{T:FuncId→Option TFn}{B:fI}{n:Nat}{C:X.Cfg}(hE:C.E=E) (hTB:HZ E T B n C.TB) {c:Ctr}{tf:TFn}(hT:T c.f=some tf)
 (hg:∀h,X.runT dI C () tf c.outs (iZ c.ins _ h).1 (t6 c.pts [] (iZ c.ins _ h).2).1=c.g h):Lvl E T B (n+1) c:=by
 intro k hk;obtain⟨k,rfl⟩:∃k',k=k'+1:=⟨k - 1,by omega⟩;exact MQ (F:=runF E T B (NN+k)) (N:=NN+k) (Nat.le_add_right _ _) hE (fun c hc=>hTB.get c hc k (by omega)) hT hg
theorem I9{P:Program}{H:Nat→List (Nat×Option Nat)}{f:FuncId}{tf:TFn}(h:vq P H f=some tf):∃fn,P.funcs[f]?=some fn∧tf.np=fn.params.size∧tf.nt=fn.ntmps:=by
 unfold vq at h;split at h
 case h_2=>simp at h
 rename_i fn hf;split at h
 case h_2=>simp at h
 split at h
 ·rename_i tf' hcl
  injection h with h
  subst h;obtain⟨_,g2,g3,_⟩:=wm hcl;exact⟨fn,hf,g3,g2⟩
 simp only at h;split at h
 ·injection h with h
  subst h;exact⟨fn,hf,rfl,rfl⟩
 ·simp at h
theorem ND{P:Program}(H:FuncId→Nat→List (Nat×Option Nat)) (hall:(P.funcs.all fun fn=>decide (fn.params.size≤fn.ntmps) && !(fn.name=="runtime.NumGoroutine"))=true):Lq P fun f=>vq P (H f) f:=by
 refine LC fun f tf h=>?_;obtain⟨fn,hf,e1,e2⟩:=I9 h;obtain⟨hlt,he⟩:=Array.getElem?_eq_some_iff.1 hf;have:=Array.all_eq_true.1 hall f hlt;rw[he] at this;simp only[oBA,oDE,Bool.not_eq_true'] at this;refine⟨⟨H f,h⟩,by rw[e1,e2];exact this.1,fun fn' hf'=>?_⟩;rw[hf] at hf'
 injection hf' with hf'
 subst hf';exact this.2
def Qn:TFn:=⟨0,[],0,.skip,[]⟩
theorem P2{o:Option TFn}(h:o.isSome=true):o=some (o.getD Qn):=by
 cases o with
 | none=>simp at h
 | some x=>rfl
def Qm(P:Program) (f:FuncId):List (Option Nat):=match P.funcs[f]? with
 | some fn=>fn.params.toList.map fun t=>match P.underlying t with | some (.pointer e)=>AK P e | _=>none
 | none=>[]
def noB:fI:=fun _ _ _=>none
theorem noB_ok{P:Program}:ln P noB:=fun f vals pts res pts' h=>by simp[noB] at h
abbrev I64:CT:=.int .i64
def w64(x:Int):Int:=IntKind.wrap .i64 x
def wk(k:IntKind) (x:Int):Int:=IntKind.wrap k x
def Bm(s:ByteArray):Int:=(s.size:Int)
def bytes(l:List Nat):ByteArray:=⟨(l.map UInt8.ofNat).toArray⟩
end Go.Proofs.YtdcpgpngdcfhhaaGreat
namespace Go.Proofs.YtdcpgpngdcfhhaaGreat
open Go.RowKit
set_option maxRecDepth 100000
abbrev KCe:CT:=(.pair (.int .u8) (.int .u16))
abbrev KCn:CT:=(.pair (.int .u8) (.pair (.int .u16) (.pair I64 I64)))
abbrev KIn:CT:=(.pair I64 (.pair I64 (.pair I64 (.pair I64 I64))))
abbrev KOp:CT:=(.pair I64 (.pair I64 .bool))
abbrev Ns:CT:=(.pair I64 (.pair .bool (.row false KCe)))
abbrev M5:CT:=(.pair I64 (.pair (.row false KCe) (.pair I64 (.pair I64 (.pair I64 (.pair I64 (.pair I64 (.int .u16))))))))
abbrev QD:CT:=(.pair I64 (.pair I64 (.row false KCn)))
abbrev mI:CT:=(.pair I64 (.pair I64 (.pair I64 (.pair I64 (.pair I64 (.pair I64 (.pair (.int .u16) (.row false KCn))))))))
abbrev tn:CT:=(.pair I64 (.pair I64 (.pair I64 (.pair I64 (.pair I64 (.pair I64 (.pair I64 (.pair I64 (.pair I64 (.pair (.row false KCn) (.pair (.row false KCn) (.pair (.int .u8) (.pair (.int .u16) (.pair I64 (.pair I64 (.pair (.row false KCn) (.pair I64 .bool)))))))))))))))))
abbrev O0:CT:=(.pair I64 (.pair .bool (.row true KCe)))
abbrev OZ:CT:=(.pair I64 (.pair (.row true KCe) (.pair I64 (.pair I64 (.pair I64 (.pair I64 (.pair I64 (.int .u16))))))))
abbrev GR:CT:=(.pair I64 (.pair I64 (.row true KCn)))
abbrev Bh:CT:=(.pair I64 (.pair I64 (.pair I64 (.pair I64 (.pair I64 (.pair I64 (.pair (.int .u16) (.row true KCn))))))))
abbrev Lr:CT:=(.pair I64 (.pair I64 (.pair I64 (.pair I64 (.pair I64 (.pair I64 (.pair I64 (.pair I64 (.pair I64 (.pair (.row true KCn) (.pair (.row true KCn) (.pair (.int .u8) (.pair (.int .u16) (.pair I64 (.pair I64 (.pair (.row true KCn) (.pair I64 .bool)))))))))))))))))
abbrev fb:CT:=(.row false KIn)
abbrev d8:CT:=(.row false KCn)
abbrev RW:CT:=(.row false (.int .u16))
abbrev RI:CT:=(.row false I64)
abbrev eJ:CT:=(.row false KCe)
abbrev eX:CT:=(.row false Ns)
abbrev iP:CT:=(.row true O0)
abbrev fB:CT:=(.row false M5)
abbrev qi:CT:=(.row true OZ)
abbrev gH:CT:=(.row false KOp)
abbrev iU:CT:=(.row false QD)
abbrev HW:CT:=(.row false tn)
abbrev DCe:Type:=(Int×Int)
abbrev DCn:Type:=(Int×Int×Int×Int)
abbrev DIn:Type:=(Int×Int×Int×Int×Int)
abbrev DOp:Type:=(Int×Int×Bool)
abbrev DLn:Type:=(Int×Bool×List DCe)
abbrev DTh:Type:=(Int×(List DCe)×Int×Int×Int×Int×Int×Int)
abbrev DOu:Type:=(Int×Int×List DCn)
abbrev DTs:Type:=(Int×Int×Int×Int×Int×Int×Int×List DCn)
abbrev DEn:Type:=(Int×Int×Int×Int×Int×Int×Int×Int×Int×(List DCn)×(List DCn)×Int×Int×Int×Int×(List DCn)×Int×Bool)
def HH(f i:Nat):List (Nat×Option Nat):=if f=102 then (if i=1000011 then [(11,some 27)] else if i=1000005 then [(2,some 27)] else []) else if f=170 then (if i=1000006 then [(8,some 1)] else if i=1000014 then [(8,some 1)] else []) else if f=21 then (if i=3000002 then [(3,some 1)] else []) else if f=25 then (if i=1000002 then [(5,none)] else []) else if f=85 then (if i=0 then [(8,none)] else []) else if f=52 then (if i=2 then [(3,some 1)] else if i=3 then [(3,some 0)] else []) else if f=95 then (if i=0 then [(8,some 0),(8,some 1),(8,some 2),(8,some 3),(8,some 4)] else []) else if f=89 then (if i=0 then [(4,some 0),(4,some 2),(4,some 3)] else []) else if f=53 then (if i=0 then [(6,some 0),(6,some 1),(6,some 2),(6,some 3),(6,some 5),(6,some 6),(6,some 7),(6,some 8),(6,some 9),(6,some 10),(6,some 11),(6,some 12),(6,some 13),(6,some 14),(6,some 15)] else []) else if f=127 then (if i=2000067 then [(2,none),(4,none),(8,none),(11,none),(12,none),(0,some 10),(0,some 18),(0,some 24)] else if i=0 then [(8,some 0)] else []) else if f=100 then (if i=1000012 then [(7,none)] else if i=0 then [(8,some 0),(8,some 2),(8,some 3),(8,some 4),(9,some 6),(9,some 7)] else []) else if f=132 then (if i=3000008 then [(9,some 0),(9,some 1)] else if i=0 then [(6,some 0),(6,some 1)] else []) else if f=154 then (if i=0 then [(4,some 0),(4,some 1),(4,some 2),(4,some 3),(4,some 4),(4,some 5),(5,some 4)] else []) else if f=133 then (if i=0 then [(0,some 14),(0,some 15),(4,some 4)] else []) else if f=134 then (if i=1000007 then [(17,none)] else if i=0 then [(8,some 2),(8,some 3),(8,some 4)] else []) else if f=158 then (if i=0 then [(8,some 2),(8,some 3),(8,some 4)] else []) else if f=135 then (if i=1000002 then [(9,none)] else []) else if f=136 then (if i=1000004 then [(4,some 2)] else if i=3 then [(6,some 0),(6,some 1)] else []) else if f=56 then (if i=1000011 then [(5,none)] else if i=1000014 then [(7,none)] else if i=0 then [(4,some 0),(4,some 1),(4,some 2),(4,some 3),(4,some 5),(4,some 6),(4,some 7),(4,some 8),(4,some 9),(4,some 10),(4,some 11),(4,some 12),(4,some 13),(4,some 14),(4,some 15)] else []) else if f=26 then (if i=0 then [(2,some 16),(2,some 17)] else []) else if f=29 then (if i=0 then [(6,some 0)] else []) else if f=115 then (if i=0 then [(4,none)] else []) else if f=50 then (if i=0 then [(2,some 6),(2,some 7)] else []) else if f=34 then (if i=1000005 then [(8,none)] else []) else []
noncomputable def TT (f:FuncId):Option TFn:=vq Tryz.prog (HH f) f
noncomputable def E0:Env:=⟨fun f=>if f=7 then some (1,[.arg 0,.val (.int .i64 0)]) else none,fun f=>Qm Tryz.prog f⟩
theorem tt_ok:Lq Tryz.prog TT:=ND HH (by kernel_rfl)
abbrev qE:Shs:=⟨[],[],[],([],[])⟩
abbrev qS(s:List (Nat×Sh))(c:List (Nat×List Sh)):Shs:=⟨s,c,[],([],[])⟩
abbrev N1:CT:=.nilr true
abbrev N0:CT:=.nilr false
abbrev CW:CT:=.int .u16
abbrev CB:CT:=.int .u8
abbrev uL(l:List CT):List Sh:=l.map fun c=>.d c ()
abbrev pP(t r:Nat):Nat×Sh:=(t,.ptr ⟨r,0,[]⟩ [0])
abbrev sP(t:Nat)(c:CT):Nat×Sh:=(t,.d c ())
abbrev Lk(n:Nat)(c:Ctr):Prop:=Lvl E0 TT noB n c
theorem aN{m:Nat}:HZ E0 TT noB m []:=trivial
theorem aC{n m:Nat}{c:Ctr}{l:List Ctr}(h:Lk n c)(r:HZ E0 TT noB m l)(hm:n≤m:=by decide):HZ E0 TT noB m (c::l):=⟨h.mono hm,r⟩
abbrev lx(i n:Nat)(s:List (Nat×Sh))(c:List (Nat×List Sh))(b:Nat):Fs:=⟨i,n,⟨s,c,[],([],[])⟩,[(.exit 0,⟨s++[(b,.d .bool ())],c,[],([],[])⟩)]⟩
abbrev LI:Type:=List Int
abbrev LLI:Type:=List (List Int)
abbrev LLLI:Type:=List (List (List Int))
abbrev LDCe:Type:=List DCe
abbrev LDCn:Type:=List DCn
abbrev LDIn:Type:=List DIn
abbrev LDOp:Type:=List DOp
abbrev LDLn:Type:=List DLn
abbrev LDTh:Type:=List DTh
abbrev LDOu:Type:=List DOu
abbrev LDTs:Type:=List DTs
abbrev LDEn:Type:=List DEn
abbrev LLCn:Type:=List (List DCn)
abbrev T00:Type:=Bool×LI×Unit
abbrev T01:Type:=Int×Bool×Unit
abbrev T02:Type:=Int×Int×Unit
abbrev T03:Type:=Int×LI×Unit
abbrev T04:Type:=LDCe×LDLn×Unit
abbrev T05:Type:=LDOp×LDCn×Unit
abbrev T06:Type:=LI×Bool×Unit
abbrev T07:Type:=LI×Int×Unit
abbrev T08:Type:=LI×LLI×Unit
abbrev T09:Type:=LLCn×LDOp×Unit
abbrev T0a:Type:=LLCn×LDTs×Unit
abbrev T0b:Type:=Unit×Unit×Unit
abbrev T0c:Type:=Bool×T02
abbrev T0d:Type:=Bool×T04
abbrev T0e:Type:=Int×T01
abbrev T0f:Type:=Int×T02
abbrev T0g:Type:=Int×Int×LDLn×Unit
abbrev T0h:Type:=Int×T03
abbrev T0i:Type:=Int×T06
abbrev T0j:Type:=Int×T07
abbrev T0k:Type:=Int×T0b
abbrev T0l:Type:=LDCe×T02
abbrev T0m:Type:=LDCe×LDLn×Int×Unit
abbrev T0n:Type:=LDCn×T02
abbrev T0o:Type:=LDIn×T08
abbrev T0p:Type:=LI×T02
abbrev T0q:Type:=LI×T03
abbrev T0r:Type:=LI×LLI×LI×Unit
abbrev T0s:Type:=Bool×Bool×Bool×Bool×Unit
abbrev T0t:Type:=Int×T0c
abbrev T0u:Type:=Int×Bool×T07
abbrev T0v:Type:=Int×Int×T00
abbrev T0w:Type:=Int×T0f
abbrev T0x:Type:=Int×Int×T04
abbrev T0y:Type:=Int×T0i
abbrev T0z:Type:=Int×T0j
abbrev T0A:Type:=Int×Int×T09
abbrev T0B:Type:=Int×T0q
abbrev T0C:Type:=LDCe×T0e
abbrev T0D:Type:=LDCe×LDLn×T04
abbrev T0E:Type:=LDCn×T0e
abbrev T0F:Type:=LDCn×T0n
abbrev T0G:Type:=LDTh×T0h
abbrev T0H:Type:=LI×T0e
abbrev T0I:Type:=LI×T0f
abbrev T0J:Type:=LI×T0p
abbrev T0K:Type:=LLCn×LDTs×T0a
abbrev T0L:Type:=Unit×T0j
abbrev T0M:Type:=Unit×Unit×T04
abbrev T0N:Type:=Unit×Unit×T08
abbrev T0O:Type:=Unit×Unit×T09
abbrev T0P:Type:=Unit×Unit×Unit×LDOp×Unit
abbrev T0Q:Type:=Bool×T0w
abbrev T0R:Type:=Bool×T0O
abbrev T0S:Type:=Int×T0u
abbrev T0T:Type:=Int×Int×Bool×T09
abbrev T0U:Type:=Int×T0w
abbrev T0V:Type:=Int×Int×T0o
abbrev T0W:Type:=Int×T0M
abbrev T0X:Type:=Int×T0O
abbrev T0Y:Type:=LDCe×LDLn×LI×Int×LLCn×Unit
abbrev T0Z:Type:=LDIn×LI×LLI×T0a
abbrev T10:Type:=LDLn×T0x
abbrev T11:Type:=LI×T0z
abbrev T12:Type:=LI×Int×LDCe×LDLn×LDTh×Unit
abbrev T13:Type:=LLCn×T0A
abbrev T14:Type:=Unit×Int×Unit×T0b
abbrev T15:Type:=Unit×Unit×T0r
abbrev T16:Type:=Unit×Unit×LLCn×T05
abbrev T17:Type:=Bool×T12
abbrev T18:Type:=Bool×T14
abbrev T19:Type:=Int×Bool×T0N
abbrev T1a:Type:=Int×Int×Bool×T0o
abbrev T1b:Type:=Int×T0U
abbrev T1c:Type:=Int×Int×T0z
abbrev T1d:Type:=Int×Int×T0K
abbrev T1e:Type:=Int×T0W
abbrev T1f:Type:=Int×Int×T0N
abbrev T1g:Type:=Int×T0X
abbrev T1h:Type:=Int×T12
abbrev T1i:Type:=LDCe×LDLn×LI×Int×LLCn×LDCn×Unit
abbrev T1j:Type:=LDCe×LDLn×T0M
abbrev T1k:Type:=LDIn×T0V
abbrev T1l:Type:=LDLn×Int×Int×T0d
abbrev T1m:Type:=LI×T0S
abbrev T1n:Type:=LI×Int×LDCe×LDLn×LDTh×Bool×Unit
abbrev T1o:Type:=LI×T11
abbrev T1p:Type:=LI×LI×LLI×LLCn×LDOp×LDOu×Unit
abbrev T1q:Type:=LI×LLI×T0N
abbrev T1r:Type:=LLCn×LDOp×T0O
abbrev T1s:Type:=Unit×Unit×LLCn×Nat×T05
abbrev T1t:Type:=Int×Int×Bool×T0D
abbrev T1u:Type:=Int×Int×Bool×T0K
abbrev T1v:Type:=Int×Int×Bool×T0M
abbrev T1w:Type:=Int×T19
abbrev T1x:Type:=Int×Int×T0R
abbrev T1y:Type:=Int×T1b
abbrev T1z:Type:=Int×Int×Int×Int×Unit×T01
abbrev T1A:Type:=Int×T1f
abbrev T1B:Type:=Int×Int×LI×Int×Int×LLI×LDCn×Unit
abbrev T1C:Type:=Int×T1h
abbrev T1D:Type:=Int×Int×T15
abbrev T1E:Type:=Int×LI×Int×T0t
abbrev T1F:Type:=LDIn×T1a
abbrev T1G:Type:=LDLn×T1e
abbrev T1H:Type:=LDTs×T1d
abbrev T1I:Type:=LLI×T1g
abbrev T1J:Type:=LLI×Int×Int×T0P
abbrev T1K:Type:=Int×Int×Bool×T15
abbrev T1L:Type:=Int×T1x
abbrev T1M:Type:=Int×T1y
abbrev T1N:Type:=Int×Int×Int×Int×Int×Int×LDCn×LDCn×Unit
abbrev T1O:Type:=Int×Int×Int×Int×Int×T0k
abbrev T1P:Type:=Int×T1D
abbrev T1Q:Type:=Int×Int×T1p
abbrev T1R:Type:=Int×Int×T1q
abbrev T1S:Type:=Int×Int×T1r
abbrev T1T:Type:=Int×LDCe×T1b
abbrev T1U:Type:=LDTh×T1C
abbrev T1V:Type:=LDTs×T1u
abbrev T1W:Type:=LI×Int×Unit×Unit×Unit×T0o
abbrev T1X:Type:=LI×Int×Unit×Unit×T0N
abbrev T1Y:Type:=LLCn×Int×Int×T0Z
abbrev T1Z:Type:=Int×Int×Bool×T1p
abbrev T20:Type:=Int×Int×Bool×T1q
abbrev T21:Type:=Int×Int×Bool×T1r
abbrev T22:Type:=Int×T1M
abbrev T23:Type:=Int×Int×Int×Int×Int×Int×LDCn×LDCn×Int×Unit
abbrev T24:Type:=Int×Int×Int×T1g
abbrev T25:Type:=Int×T1S
abbrev T26:Type:=Int×LI×Int×Int×Bool×T0I
abbrev T27:Type:=Int×T1W
abbrev T28:Type:=LDIn×LI×LLI×LI×T0W
abbrev T29:Type:=LDLn×Int×Int×T1j
abbrev T2a:Type:=LDOu×T1Q
abbrev T2b:Type:=LI×Int×Int×T1m
abbrev T2c:Type:=LI×Int×LI×Int×Int×T0I
abbrev T2d:Type:=LI×LI×Int×Int×T0Y
abbrev T2e:Type:=LI×LLCn×Int×Int×LDCn×T0A
abbrev T2f:Type:=LLCn×T1S
abbrev T2g:Type:=LLI×T1Q
abbrev T2h:Type:=LLI×T1R
abbrev T2i:Type:=Int×Bool×T1W
abbrev T2j:Type:=Int×Int×Int×Int×Int×Bool×Bool×Bool×T00
abbrev T2k:Type:=Int×Int×Int×Int×Int×Int×Int×Int×Int×LDCn×Unit
abbrev T2l:Type:=Int×Int×T1N
abbrev T2m:Type:=Int×Int×LI×Int×LDCe×LDLn×LDTh×T0q
abbrev T2n:Type:=Int×T27
abbrev T2o:Type:=Int×Int×T1X
abbrev T2p:Type:=LI×Int×Int×Int×Int×Int×T0L
abbrev T2q:Type:=LI×Int×Int×LI×T1c
abbrev T2r:Type:=LI×T26
abbrev T2s:Type:=LI×LI×Int×Int×Bool×T0Y
abbrev T2t:Type:=LLI×T20
abbrev T2u:Type:=Unit×Int×Unit×Unit×Unit×T12
abbrev T2v:Type:=Int×Int×T28
abbrev T2w:Type:=Int×Int×LI×Int×LDCe×LDLn×LDTh×LI×Int×LI×LDCe×Unit
abbrev T2x:Type:=Int×Int×T2h
abbrev T2y:Type:=Int×T2u
abbrev T2z:Type:=LDCe×Int×Int×T1T
abbrev T2A:Type:=LDCn×Nat×Int×Int×Int×T1s
abbrev T2B:Type:=LI×Int×Bool×LI×T1y
abbrev T2C:Type:=LI×Int×Int×LI×Int×Int×T0S
abbrev T2D:Type:=LI×Int×Int×LI×Int×Int×T11
abbrev T2E:Type:=LI×Int×LDCe×LDLn×LDTh×Int×Int×T0x
abbrev T2F:Type:=LLI×Int×Int×LI×Int×Int×T16
abbrev T2G:Type:=ByteArray×LDCn×T2l
abbrev T2H:Type:=Int×Int×Bool×T28
abbrev T2I:Type:=Int×Int×T2j
abbrev T2J:Type:=Int×Int×Int×Int×LDCn×Int×T18
abbrev T2K:Type:=Int×Int×T2m
abbrev T2L:Type:=Int×Int×Int×Int×Nat×T1D
abbrev T2M:Type:=LDIn×LI×LLI×LI×Int×LDCe×LDLn×LDTh×Unit×Unit×T0a
abbrev T2N:Type:=LI×Int×Int×T26
abbrev T2O:Type:=LI×Int×Int×T2b
abbrev T2P:Type:=LLI×T2v
abbrev T2Q:Type:=Int×Int×Bool×T2j
abbrev T2R:Type:=LDIn×LI×LLI×LI×Int×LLCn×LDTs×Unit×Int×Unit×Unit×Unit×LLCn×Unit
abbrev T2S:Type:=LI×Int×LDCe×LDLn×LDTh×T1T
abbrev T2T:Type:=LI×Int×LI×Int×Int×Int×Int×T1i
abbrev T2U:Type:=LLI×T2H
abbrev T2V:Type:=Int×Int×LLI×Int×Int×LI×T1R
abbrev T2W:Type:=LI×Int×LI×Int×Int×Int×Int×Bool×T1i
abbrev T2X:Type:=Int×Int×Int×Int×T2E
abbrev T2Y:Type:=Int×Int×T2R
abbrev T2Z:Type:=Int×Int×LDIn×LI×LLI×T2u
abbrev T30:Type:=LDTh×Int×Int×T2M
abbrev T31:Type:=LI×Int×LDCe×LDLn×LDTh×T2u
abbrev T32:Type:=Int×Int×Bool×T2R
abbrev T33:Type:=Int×Int×Int×Int×Bool×T2E
abbrev T34:Type:=Int×Int×Int×Int×Int×T2w
abbrev T35:Type:=Int×LLI×Int×Int×LI×T2v
abbrev T36:Type:=LDIn×LI×LLI×T2S
abbrev T37:Type:=LDTh×Int×Int×Bool×T2M
abbrev T38:Type:=Nat×LI×Int×LDCe×LDLn×LDTh×Int×Int×Int×Int×Int×Int×T0F
abbrev T39:Type:=LDIn×LI×LLI×LI×Int×LLCn×LDTs×T2u
abbrev T3a:Type:=LDIn×LI×LLI×LI×Int×LLCn×LDTs×Unit×Int×Unit×Unit×Unit×LI×Int×LDCe×LDLn×Unit×Unit
abbrev T3b:Type:=Int×Int×LDCn×T2Y
abbrev T3c:Type:=Int×Int×LI×Int×Int×Int×Int×Int×Int×Int×Int×Int×Int×Int×T0s
abbrev T3d:Type:=LDIn×LI×LLI×LI×Int×LDCe×LDLn×LDTh×LI×LI×LLI×LLCn×LDOp×LDOu×LI×LLI×LDEn×LI×Unit
abbrev T3e:Type:=LDTh×Int×Int×T31
abbrev T3f:Type:=Int×Int×Int×Int×Int×Int×LDCn×LDCn×Int×Int×Int×Int×LDCn×Int×T0Q
abbrev T3g:Type:=Int×Int×T3a
abbrev T3h:Type:=LDIn×LI×LLI×LI×Int×LDCe×LDLn×LDTh×LI×LI×LLI×LLCn×LDOp×LDOu×LI×LLI×LDEn×LI×LI×Unit
abbrev T3i:Type:=Nat×Int×LI×Int×LDCe×LDLn×LDTh×LDIn×LI×LLI×T22
abbrev T3j:Type:=Int×Bool×T3d
abbrev T3k:Type:=Int×ByteArray×Int×Int×T36
abbrev T3l:Type:=Int×Int×Bool×T3a
abbrev T3m:Type:=LDTs×Int×Int×T39
abbrev T3n:Type:=LLCn×T3g
abbrev T3o:Type:=Int×Int×Int×T3d
abbrev T3p:Type:=Int×Int×Int×T3h
abbrev T3q:Type:=Int×LLCn×Int×Int×LDCn×T3g
abbrev T3r:Type:=LDIn×LI×LLI×LI×Int×LDCe×LDLn×LDTh×LI×LI×LLI×LLCn×LDOp×LDOu×LI×LLI×LDEn×LI×T1z
abbrev T3s:Type:=LI×Int×LDCe×LDLn×LDTh×LDIn×LI×LLI×Int×Int×Int×Int×Int×Int×LDCn×LDCn×Int×Int×Int×Int×LDCn×T0t
abbrev T3t:Type:=Nat×Bool×LI×Int×LDCe×LDLn×LDTh×T3f
abbrev T3u:Type:=Nat×T3s
abbrev T3v:Type:=Unit×Unit×Unit×Unit×Unit×Unit×Int×Int×Int×Int×Unit×Int×Bool×LI×LI×LLI×LLCn×LDOp×LDOu×Int×Int×Int×Int×LDCn×T01
abbrev T3w:Type:=Unit×Unit×Unit×Unit×Unit×Unit×Int×Int×Int×Int×Unit×Int×Bool×LI×LI×LLI×LLCn×LDOp×LDOu×T1z
abbrev T3x:Type:=LI×Int×LDCe×LDLn×LDTh×LDIn×LI×LLI×T3f
abbrev T3y:Type:=LDIn×LI×LLI×LI×Int×LDCe×LDLn×LDTh×Unit×Unit×LLCn×LDTs×Int×LDCe×Int×Int×Int×Int×T2k
abbrev T3z:Type:=LDTh×Int×Int×T3r
abbrev T3A:Type:=Nat×LDCn×Int×Int×T3x
abbrev T3B:Type:=Nat×LDCn×Int×Int×Bool×T3x
abbrev T3C:Type:=LDIn×LI×LLI×LI×Int×LLCn×LDTs×Unit×Int×Unit×Unit×Unit×LI×Int×LDCe×LDLn×LDTh×Int×Int×Int×Int×Int×Int×Int×LDCn×T1T
abbrev T3D:Type:=LI×Int×Unit×Unit×Unit×Unit×Int×Unit×Unit×Unit×LDIn×LI×LLI×LI×Int×LDCe×LDLn×LDTh×LI×LI×LLI×LLCn×LDOp×LDOu×LI×LLI×LDEn×LI×T12
abbrev T3E:Type:=LDTh×Int×Int×LDCe×Int×Int×T3y
abbrev T3F:Type:=LI×LI×LLI×LLCn×LDOp×LDOu×Int×Int×Int×Int×Int×Int×LDCn×LDCn×Unit×Unit×Unit×Unit×Unit×Unit×Int×Int×Int×Int×Unit×Int×Bool×LI×LI×LLI×LLCn×LDOp×LDOu×LI×Unit
abbrev T3G:Type:=Int×Bool×LDIn×LI×LLI×LI×Int×LDCe×LDLn×LDTh×LI×LI×LLI×LLCn×LDOp×LDOu×LI×LLI×LDEn×LI×Int×Int×Int×Int×Int×Int×LDCn×LDCn×T1z
abbrev T3H:Type:=LDTh×Int×Int×LDCe×Int×Int×Bool×T3y
abbrev T3I:Type:=LI×Int×Unit×Unit×Unit×Unit×Int×Unit×Unit×Unit×LDIn×LI×LLI×LI×Int×LDCe×LDLn×LDTh×LI×LI×LLI×LLCn×LDOp×LDOu×LI×LLI×LDEn×LI×LI×Int×LDCe×LDLn×LDTh×T0a
abbrev T3J:Type:=Unit×Unit×Unit×Unit×Int×Unit×Unit×Unit×Unit×Unit×Unit×Unit×Unit×Unit×Unit×Unit×Unit×Unit×T3d
abbrev T3K:Type:=Unit×Unit×Unit×Unit×Int×Unit×Unit×Unit×Unit×Unit×Unit×Unit×Unit×Unit×Unit×Unit×Unit×Unit×LDIn×LI×LLI×LI×Int×LDCe×LDLn×LDTh×LI×LI×LLI×LLCn×LDOp×LDOu×LI×LLI×Unit×LI×Unit
abbrev T3L:Type:=Int×Int×T3I
abbrev T3M:Type:=Int×T3J
abbrev T3N:Type:=Int×T3K
abbrev T3O:Type:=LDCn×Int×Int×T3F
abbrev T3P:Type:=LDIn×LI×LLI×Unit×Int×Unit×Unit×Unit×Int×Int×Int×Int×Int×Int×Unit×Unit×LI×Int×LDCe×LDLn×LDTh×Int×LDCe×Int×Int×Int×Int×T2l
abbrev T3Q:Type:=LDIn×LI×LLI×Unit×Int×Unit×Unit×Unit×Int×Int×Int×Int×Int×Int×Unit×Unit×LI×Int×LDCe×LDLn×LDTh×Int×LDCe×Int×Int×Int×Int×Int×Int×Int×Int×Int×Int×Int×Int×LDCn×Unit×Unit
abbrev T3R:Type:=Bool×T3Q
abbrev T3S:Type:=Int×Int×Bool×T3I
abbrev T3T:Type:=Int×T3M
abbrev T3U:Type:=LI×T3M
abbrev T3V:Type:=Int×Int×T3P
abbrev T3W:Type:=Int×Int×T3Q
abbrev T3X:Type:=Int×T3U
abbrev T3Y:Type:=LDTs×Int×Int×LDCn×Int×Int×T3C
abbrev T3Z:Type:=Int×Int×Bool×T3P
abbrev T40:Type:=Int×Int×Int×T3L
abbrev ap1{A0 D R:Type}(f:A0→R)(h:A0×D):R:=f h.1
abbrev ap2{A0 A1 D R:Type}(f:A0→A1→R)(h:A0×A1×D):R:=f h.1 h.2.1
abbrev ap3{A0 A1 A2 D R:Type}(f:A0→A1→A2→R)(h:A0×A1×A2×D):R:=f h.1 h.2.1 h.2.2.1
abbrev ap4{A0 A1 A2 A3 D R:Type}(f:A0→A1→A2→A3→R)(h:A0×A1×A2×A3×D):R:=f h.1 h.2.1 h.2.2.1 h.2.2.2.1
abbrev ap5{A0 A1 A2 A3 A4 D R:Type}(f:A0→A1→A2→A3→A4→R)(h:A0×A1×A2×A3×A4×D):R:=f h.1 h.2.1 h.2.2.1 h.2.2.2.1 h.2.2.2.2.1
abbrev ap6{A0 A1 A2 A3 A4 A5 D R:Type}(f:A0→A1→A2→A3→A4→A5→R)(h:A0×A1×A2×A3×A4×A5×D):R:=f h.1 h.2.1 h.2.2.1 h.2.2.2.1 h.2.2.2.2.1 h.2.2.2.2.2.1
abbrev ap7{A0 A1 A2 A3 A4 A5 A6 D R:Type}(f:A0→A1→A2→A3→A4→A5→A6→R)(h:A0×A1×A2×A3×A4×A5×A6×D):R:=f h.1 h.2.1 h.2.2.1 h.2.2.2.1 h.2.2.2.2.1 h.2.2.2.2.2.1 h.2.2.2.2.2.2.1
abbrev ap8{A0 A1 A2 A3 A4 A5 A6 A7 D R:Type}(f:A0→A1→A2→A3→A4→A5→A6→A7→R)(h:A0×A1×A2×A3×A4×A5×A6×A7×D):R:=f h.1 h.2.1 h.2.2.1 h.2.2.2.1 h.2.2.2.2.1 h.2.2.2.2.2.1 h.2.2.2.2.2.2.1 h.2.2.2.2.2.2.2.1
abbrev ap9{A0 A1 A2 A3 A4 A5 A6 A7 A8 D R:Type}(f:A0→A1→A2→A3→A4→A5→A6→A7→A8→R)(h:A0×A1×A2×A3×A4×A5×A6×A7×A8×D):R:=f h.1 h.2.1 h.2.2.1 h.2.2.2.1 h.2.2.2.2.1 h.2.2.2.2.2.1 h.2.2.2.2.2.2.1 h.2.2.2.2.2.2.2.1 h.2.2.2.2.2.2.2.2.1
abbrev ap10{A0 A1 A2 A3 A4 A5 A6 A7 A8 A9 D R:Type}(f:A0→A1→A2→A3→A4→A5→A6→A7→A8→A9→R)(h:A0×A1×A2×A3×A4×A5×A6×A7×A8×A9×D):R:=f h.1 h.2.1 h.2.2.1 h.2.2.2.1 h.2.2.2.2.1 h.2.2.2.2.2.1 h.2.2.2.2.2.2.1 h.2.2.2.2.2.2.2.1 h.2.2.2.2.2.2.2.2.1 h.2.2.2.2.2.2.2.2.2.1
abbrev ap11{A0 A1 A2 A3 A4 A5 A6 A7 A8 A9 A10 D R:Type}(f:A0→A1→A2→A3→A4→A5→A6→A7→A8→A9→A10→R)(h:A0×A1×A2×A3×A4×A5×A6×A7×A8×A9×A10×D):R:=f h.1 h.2.1 h.2.2.1 h.2.2.2.1 h.2.2.2.2.1 h.2.2.2.2.2.1 h.2.2.2.2.2.2.1 h.2.2.2.2.2.2.2.1 h.2.2.2.2.2.2.2.2.1 h.2.2.2.2.2.2.2.2.2.1 h.2.2.2.2.2.2.2.2.2.2.1
abbrev ap14{A0 A1 A2 A3 A4 A5 A6 A7 A8 A9 A10 A11 A12 A13 D R:Type}(f:A0→A1→A2→A3→A4→A5→A6→A7→A8→A9→A10→A11→A12→A13→R)(h:A0×A1×A2×A3×A4×A5×A6×A7×A8×A9×A10×A11×A12×A13×D):R:=f h.1 h.2.1 h.2.2.1 h.2.2.2.1 h.2.2.2.2.1 h.2.2.2.2.2.1 h.2.2.2.2.2.2.1 h.2.2.2.2.2.2.2.1 h.2.2.2.2.2.2.2.2.1 h.2.2.2.2.2.2.2.2.2.1 h.2.2.2.2.2.2.2.2.2.2.1 h.2.2.2.2.2.2.2.2.2.2.2.1 h.2.2.2.2.2.2.2.2.2.2.2.2.1 h.2.2.2.2.2.2.2.2.2.2.2.2.2.1
abbrev ap16{A0 A1 A2 A3 A4 A5 A6 A7 A8 A9 A10 A11 A12 A13 A14 A15 D R:Type}(f:A0→A1→A2→A3→A4→A5→A6→A7→A8→A9→A10→A11→A12→A13→A14→A15→R)(h:A0×A1×A2×A3×A4×A5×A6×A7×A8×A9×A10×A11×A12×A13×A14×A15×D):R:=f h.1 h.2.1 h.2.2.1 h.2.2.2.1 h.2.2.2.2.1 h.2.2.2.2.2.1 h.2.2.2.2.2.2.1 h.2.2.2.2.2.2.2.1 h.2.2.2.2.2.2.2.2.1 h.2.2.2.2.2.2.2.2.2.1 h.2.2.2.2.2.2.2.2.2.2.1 h.2.2.2.2.2.2.2.2.2.2.2.1 h.2.2.2.2.2.2.2.2.2.2.2.2.1 h.2.2.2.2.2.2.2.2.2.2.2.2.2.1 h.2.2.2.2.2.2.2.2.2.2.2.2.2.2.1 h.2.2.2.2.2.2.2.2.2.2.2.2.2.2.2.1
abbrev ap18{A0 A1 A2 A3 A4 A5 A6 A7 A8 A9 A10 A11 A12 A13 A14 A15 A16 A17 D R:Type}(f:A0→A1→A2→A3→A4→A5→A6→A7→A8→A9→A10→A11→A12→A13→A14→A15→A16→A17→R)(h:A0×A1×A2×A3×A4×A5×A6×A7×A8×A9×A10×A11×A12×A13×A14×A15×A16×A17×D):R:=f h.1 h.2.1 h.2.2.1 h.2.2.2.1 h.2.2.2.2.1 h.2.2.2.2.2.1 h.2.2.2.2.2.2.1 h.2.2.2.2.2.2.2.1 h.2.2.2.2.2.2.2.2.1 h.2.2.2.2.2.2.2.2.2.1 h.2.2.2.2.2.2.2.2.2.2.1 h.2.2.2.2.2.2.2.2.2.2.2.1 h.2.2.2.2.2.2.2.2.2.2.2.2.1 h.2.2.2.2.2.2.2.2.2.2.2.2.2.1 h.2.2.2.2.2.2.2.2.2.2.2.2.2.2.1 h.2.2.2.2.2.2.2.2.2.2.2.2.2.2.2.1 h.2.2.2.2.2.2.2.2.2.2.2.2.2.2.2.2.1 h.2.2.2.2.2.2.2.2.2.2.2.2.2.2.2.2.2.1
abbrev ap19{A0 A1 A2 A3 A4 A5 A6 A7 A8 A9 A10 A11 A12 A13 A14 A15 A16 A17 A18 D R:Type}(f:A0→A1→A2→A3→A4→A5→A6→A7→A8→A9→A10→A11→A12→A13→A14→A15→A16→A17→A18→R)(h:A0×A1×A2×A3×A4×A5×A6×A7×A8×A9×A10×A11×A12×A13×A14×A15×A16×A17×A18×D):R:=f h.1 h.2.1 h.2.2.1 h.2.2.2.1 h.2.2.2.2.1 h.2.2.2.2.2.1 h.2.2.2.2.2.2.1 h.2.2.2.2.2.2.2.1 h.2.2.2.2.2.2.2.2.1 h.2.2.2.2.2.2.2.2.2.1 h.2.2.2.2.2.2.2.2.2.2.1 h.2.2.2.2.2.2.2.2.2.2.2.1 h.2.2.2.2.2.2.2.2.2.2.2.2.1 h.2.2.2.2.2.2.2.2.2.2.2.2.2.1 h.2.2.2.2.2.2.2.2.2.2.2.2.2.2.1 h.2.2.2.2.2.2.2.2.2.2.2.2.2.2.2.1 h.2.2.2.2.2.2.2.2.2.2.2.2.2.2.2.2.1 h.2.2.2.2.2.2.2.2.2.2.2.2.2.2.2.2.2.1 h.2.2.2.2.2.2.2.2.2.2.2.2.2.2.2.2.2.2.1
abbrev ap20{A0 A1 A2 A3 A4 A5 A6 A7 A8 A9 A10 A11 A12 A13 A14 A15 A16 A17 A18 A19 D R:Type}(f:A0→A1→A2→A3→A4→A5→A6→A7→A8→A9→A10→A11→A12→A13→A14→A15→A16→A17→A18→A19→R)(h:A0×A1×A2×A3×A4×A5×A6×A7×A8×A9×A10×A11×A12×A13×A14×A15×A16×A17×A18×A19×D):R:=f h.1 h.2.1 h.2.2.1 h.2.2.2.1 h.2.2.2.2.1 h.2.2.2.2.2.1 h.2.2.2.2.2.2.1 h.2.2.2.2.2.2.2.1 h.2.2.2.2.2.2.2.2.1 h.2.2.2.2.2.2.2.2.2.1 h.2.2.2.2.2.2.2.2.2.2.1 h.2.2.2.2.2.2.2.2.2.2.2.1 h.2.2.2.2.2.2.2.2.2.2.2.2.1 h.2.2.2.2.2.2.2.2.2.2.2.2.2.1 h.2.2.2.2.2.2.2.2.2.2.2.2.2.2.1 h.2.2.2.2.2.2.2.2.2.2.2.2.2.2.2.1 h.2.2.2.2.2.2.2.2.2.2.2.2.2.2.2.2.1 h.2.2.2.2.2.2.2.2.2.2.2.2.2.2.2.2.2.1 h.2.2.2.2.2.2.2.2.2.2.2.2.2.2.2.2.2.2.1 h.2.2.2.2.2.2.2.2.2.2.2.2.2.2.2.2.2.2.2.1
abbrev ap21{A0 A1 A2 A3 A4 A5 A6 A7 A8 A9 A10 A11 A12 A13 A14 A15 A16 A17 A18 A19 A20 D R:Type}(f:A0→A1→A2→A3→A4→A5→A6→A7→A8→A9→A10→A11→A12→A13→A14→A15→A16→A17→A18→A19→A20→R)(h:A0×A1×A2×A3×A4×A5×A6×A7×A8×A9×A10×A11×A12×A13×A14×A15×A16×A17×A18×A19×A20×D):R:=f h.1 h.2.1 h.2.2.1 h.2.2.2.1 h.2.2.2.2.1 h.2.2.2.2.2.1 h.2.2.2.2.2.2.1 h.2.2.2.2.2.2.2.1 h.2.2.2.2.2.2.2.2.1 h.2.2.2.2.2.2.2.2.2.1 h.2.2.2.2.2.2.2.2.2.2.1 h.2.2.2.2.2.2.2.2.2.2.2.1 h.2.2.2.2.2.2.2.2.2.2.2.2.1 h.2.2.2.2.2.2.2.2.2.2.2.2.2.1 h.2.2.2.2.2.2.2.2.2.2.2.2.2.2.1 h.2.2.2.2.2.2.2.2.2.2.2.2.2.2.2.1 h.2.2.2.2.2.2.2.2.2.2.2.2.2.2.2.2.1 h.2.2.2.2.2.2.2.2.2.2.2.2.2.2.2.2.2.1 h.2.2.2.2.2.2.2.2.2.2.2.2.2.2.2.2.2.2.1 h.2.2.2.2.2.2.2.2.2.2.2.2.2.2.2.2.2.2.2.1 h.2.2.2.2.2.2.2.2.2.2.2.2.2.2.2.2.2.2.2.2.1
abbrev ap23{A0 A1 A2 A3 A4 A5 A6 A7 A8 A9 A10 A11 A12 A13 A14 A15 A16 A17 A18 A19 A20 A21 A22 D R:Type}(f:A0→A1→A2→A3→A4→A5→A6→A7→A8→A9→A10→A11→A12→A13→A14→A15→A16→A17→A18→A19→A20→A21→A22→R)(h:A0×A1×A2×A3×A4×A5×A6×A7×A8×A9×A10×A11×A12×A13×A14×A15×A16×A17×A18×A19×A20×A21×A22×D):R:=f h.1 h.2.1 h.2.2.1 h.2.2.2.1 h.2.2.2.2.1 h.2.2.2.2.2.1 h.2.2.2.2.2.2.1 h.2.2.2.2.2.2.2.1 h.2.2.2.2.2.2.2.2.1 h.2.2.2.2.2.2.2.2.2.1 h.2.2.2.2.2.2.2.2.2.2.1 h.2.2.2.2.2.2.2.2.2.2.2.1 h.2.2.2.2.2.2.2.2.2.2.2.2.1 h.2.2.2.2.2.2.2.2.2.2.2.2.2.1 h.2.2.2.2.2.2.2.2.2.2.2.2.2.2.1 h.2.2.2.2.2.2.2.2.2.2.2.2.2.2.2.1 h.2.2.2.2.2.2.2.2.2.2.2.2.2.2.2.2.1 h.2.2.2.2.2.2.2.2.2.2.2.2.2.2.2.2.2.1 h.2.2.2.2.2.2.2.2.2.2.2.2.2.2.2.2.2.2.1 h.2.2.2.2.2.2.2.2.2.2.2.2.2.2.2.2.2.2.2.1 h.2.2.2.2.2.2.2.2.2.2.2.2.2.2.2.2.2.2.2.2.1 h.2.2.2.2.2.2.2.2.2.2.2.2.2.2.2.2.2.2.2.2.2.1 h.2.2.2.2.2.2.2.2.2.2.2.2.2.2.2.2.2.2.2.2.2.2.1
abbrev ap26{A0 A1 A2 A3 A4 A5 A6 A7 A8 A9 A10 A11 A12 A13 A14 A15 A16 A17 A18 A19 A20 A21 A22 A23 A24 A25 D R:Type}(f:A0→A1→A2→A3→A4→A5→A6→A7→A8→A9→A10→A11→A12→A13→A14→A15→A16→A17→A18→A19→A20→A21→A22→A23→A24→A25→R)(h:A0×A1×A2×A3×A4×A5×A6×A7×A8×A9×A10×A11×A12×A13×A14×A15×A16×A17×A18×A19×A20×A21×A22×A23×A24×A25×D):R:=f h.1 h.2.1 h.2.2.1 h.2.2.2.1 h.2.2.2.2.1 h.2.2.2.2.2.1 h.2.2.2.2.2.2.1 h.2.2.2.2.2.2.2.1 h.2.2.2.2.2.2.2.2.1 h.2.2.2.2.2.2.2.2.2.1 h.2.2.2.2.2.2.2.2.2.2.1 h.2.2.2.2.2.2.2.2.2.2.2.1 h.2.2.2.2.2.2.2.2.2.2.2.2.1 h.2.2.2.2.2.2.2.2.2.2.2.2.2.1 h.2.2.2.2.2.2.2.2.2.2.2.2.2.2.1 h.2.2.2.2.2.2.2.2.2.2.2.2.2.2.2.1 h.2.2.2.2.2.2.2.2.2.2.2.2.2.2.2.2.1 h.2.2.2.2.2.2.2.2.2.2.2.2.2.2.2.2.2.1 h.2.2.2.2.2.2.2.2.2.2.2.2.2.2.2.2.2.2.1 h.2.2.2.2.2.2.2.2.2.2.2.2.2.2.2.2.2.2.2.1 h.2.2.2.2.2.2.2.2.2.2.2.2.2.2.2.2.2.2.2.2.1 h.2.2.2.2.2.2.2.2.2.2.2.2.2.2.2.2.2.2.2.2.2.1 h.2.2.2.2.2.2.2.2.2.2.2.2.2.2.2.2.2.2.2.2.2.2.1 h.2.2.2.2.2.2.2.2.2.2.2.2.2.2.2.2.2.2.2.2.2.2.2.1 h.2.2.2.2.2.2.2.2.2.2.2.2.2.2.2.2.2.2.2.2.2.2.2.2.1 h.2.2.2.2.2.2.2.2.2.2.2.2.2.2.2.2.2.2.2.2.2.2.2.2.2.1
theorem ls{n:Nat}{C:X.Cfg}(hE:C.E=E0)(hT:HZ E0 TT noB n C.TB){c:Ctr}(h1:(TT c.f).isSome=true)(hg:∀h,X.runT dI C () ((TT c.f).getD Qn) c.outs (iZ c.ins _ h).1 (t6 c.pts [] (iZ c.ins _ h).2).1=c.g h):Lk (n+1) c:=PU (n:=n) (C:=C) hE hT (P2 h1) hg
def jo(a0:Int) (a1:Int):Option (Int×Unit):=
bif (a1 != 0) then let x0:Int:=(Int.tmod a0 a1);
(bif (decide (x0 < 0)) then (let x1:Int:=(w64 (x0+a1));
some (x1,())) else
some (x0,()):Option (Int×Unit)).bind fun(x1,_)=>
some (x1,()) else none
noncomputable def Gi:X.Cfg:=⟨E0,[],[],[⟨2,0,qE,[(.normal,(qS [(sP 5 I64)] []))]⟩]⟩
def s9:Ctr:=⟨30,0,(uL [I64,I64]),[],[⟨(uL [I64]),[.one],[]⟩],ap2 jo⟩
theorem yx:Lk 1 s9:=ls (C:=Gi) rfl aN (by kernel_rfl) fun h=>by kernel_rfl
def o4(a0:Int) (a1:Int):Option (Int×Unit):=
(jo a0 a1).bind fun(x0,_)=>
some (x0,())
noncomputable def MD:X.Cfg:=⟨E0,[s9],[],[]⟩
def xE:Ctr:=⟨9,1,(uL [I64,I64]),[],[⟨(uL [I64]),[.one],[]⟩],ap2 o4⟩
theorem BY:Lk 2 xE:=ls (C:=MD) rfl (aC yx aN) (by kernel_rfl) fun h=>by kernel_rfl
def dJ(a0:Int) (a1:List (Int)) (a2:Int):Option (T0j):=
let x0:=(dK (List.length a1));
bif (decide (a2≥x0)) then (some (0,a1,a2,())) else
let x1:=(w64 (a2+1));
let x2:=(w64 (x1 - 1));
(dW x2).bind fun x3=>
(dH a1 x3).bind fun x4=>
(o4 x4 a0).bind fun(x5,_)=>
some (x5,a1,x1,())
noncomputable def Gn:X.Cfg:=⟨E0,[xE],[],[]⟩
def fq:Ctr:=⟨27,2,[.ptr ⟨2,0,[]⟩ [0],shU I64],[(2,(uL [RI,I64]))],[⟨(uL [I64]),[.one],[(2,(uL [RI,I64]))]⟩],ap3 dJ⟩
theorem fC:Lk 3 fq:=ls (C:=Gn) rfl (aC BY aN) (by kernel_rfl) fun h=>by kernel_rfl
def qB:T0B→Option (T0B⊕(Int×Bool×T0q)):=fun(v0,v1,v2,v3,_)=>
bif (decide (v0 > 0)) then (let x0:List (Int):=[6,12,32];
(dJ 3 v1 v2).bind fun(x1,x2,x3,_)=>
(dW x1).bind fun x4=>
(dH x0 x4).bind fun x5=>
(dH x0 x4).bind fun x6=>
(dJ x6 x2 x3).bind fun(x7,x8,x9,_)=>
let ac:=(w64 (1+x7));
bif (dV 8 (List.length v3) (List.length [ac])) then let ae:List (Int):=(List.append v3 [ac]);
let af:=(w64 (v0 - 1));
some (.inl (af,x8,x9,ae,())) else none) else
some (.inr (v0,false,v1,v2,v3,()))
def nM(a0:List (Int)) (a1:Int):Option (LI×T07):=
(dJ 9 a0 a1).bind fun(x0,x1,x2,_)=>
let x3:=(w64 (4+x0));
(dJ 4 x1 x2).bind fun(x4,x5,x6,_)=>
(dQ qB NN (x4,x5,x6,[x3],())).bind fun(x7,x8,x9,ac,ae,_)=>
some (ae,x9,ac,())
noncomputable def EX:X.Cfg:=⟨E0,[fq],[],[(lx 4 0 [(pP 0 2),(3,.pk ⟨9,0,[]⟩ [0,0]),(sP 4 I64)] [(2,(uL [RI,I64])),(9,(uL [(.row true I64)]))] 12)]⟩
def wO:Ctr:=⟨83,3,[.ptr ⟨2,0,[]⟩ [0]],[(2,(uL [RI,I64]))],[⟨(uL [(.row true I64)]),[.one],[(2,(uL [RI,I64]))]⟩],ap2 nM⟩
theorem Ee:Lk 4 wO:=ls (C:=EX) rfl (aC fC aN) (by kernel_rfl) fun h=>by kernel_rfl
def gQ(a0:List (Int)) (a1:Int):Option (T0j):=
(dJ 5 a0 a1).bind fun(x0,x1,x2,_)=>
(bif (x0==0) then (some (x0,true,x1,x2,())) else
bif (x0==1) then (some (x0,true,x1,x2,())) else
some (x0,(x0==2),x1,x2,()):Option (T0u)).bind fun(x3,x4,x5,x6,_)=>
bif x4 then ((dJ 8 x5 x6).bind fun(x7,x8,x9,_)=>
let ac:=(wk .u16 x7);
some (ac,x8,x9,())) else
bif (x3==3) then ((dJ 3 x5 x6).bind fun(x7,x8,x9,_)=>
let ac:=(w64 (65535 - x7));
let ae:=(wk .u16 ac);
some (ae,x8,x9,())) else
(dJ 65536 x5 x6).bind fun(x7,x8,x9,_)=>
let ac:=(wk .u16 x7);
some (ac,x8,x9,())
noncomputable def Gm:X.Cfg:=⟨E0,[fq],[],[⟨3,0,qE,[(.normal,(qS [(pP 0 2),(sP 4 I64),(sP 5 .bool)] [(2,(uL [RI,I64]))]))]⟩]⟩
def kU:Ctr:=⟨31,4,[.ptr ⟨2,0,[]⟩ [0]],[(2,(uL [RI,I64]))],[⟨(uL [CW]),[.one],[(2,(uL [RI,I64]))]⟩],ap2 gQ⟩
theorem nb:Lk 4 kU:=ls (C:=Gm) rfl (aC fC aN) (by kernel_rfl) fun h=>by kernel_rfl
def qA:T0B→Option (T0B⊕(Int×Bool×T0q)):=fun(v0,v1,v2,v3,_)=>
bif (decide (v0 > 0)) then ((gQ v1 v2).bind fun(x0,x1,x2,_)=>
bif (dV 2 (List.length v3) (List.length [x0])) then let x3:List (Int):=(List.append v3 [x0]);
let x4:=(w64 (v0 - 1));
some (.inl (x4,x1,x2,x3,())) else none) else
some (.inr (v0,false,v1,v2,v3,()))
def fM(a0:Int) (a1:List (Int)) (a2:Int):Option (LI×T07):=
let x0:=(w64 (a0+1));
(dJ x0 a1 a2).bind fun(x1,x2,x3,_)=>
(dQ qA NN (x1,x2,x3,[],())).bind fun(x4,x5,x6,x7,x8,_)=>
some (x8,x6,x7,())
noncomputable def EW:X.Cfg:=⟨E0,[fq,kU],[],[(lx 4 0 [(pP 0 2),(5,.pk ⟨13,0,[]⟩ [0,0]),(sP 6 I64)] [(2,(uL [RI,I64])),(13,(uL [(.row true CW)]))] 12)]⟩
def ru:Ctr:=⟨84,5,[.ptr ⟨2,0,[]⟩ [0],shU I64],[(2,(uL [RI,I64]))],[⟨(uL [(.row true CW)]),[.one],[(2,(uL [RI,I64]))]⟩],ap3 fM⟩
theorem we:Lk 5 ru:=ls (C:=EW) rfl (aC fC (aC nb aN)) (by kernel_rfl) fun h=>by kernel_rfl
def iv(a0:Int) (a1:Int):Option (T0U):=
some (1,a0,0,0,a1,())
noncomputable def OC:X.Cfg:=⟨E0,[],[],[]⟩
def GK:Ctr:=⟨86,6,(uL [I64,I64]),[],[⟨(uL [I64,I64,I64,I64,I64]),[.agg 5],[]⟩],ap2 iv⟩
theorem KL:Lk 1 GK:=ls (C:=OC) rfl aN (by kernel_rfl) fun h=>by kernel_rfl
def gO(a0:Int):Option (T0U):=
some (23,0,0,0,a0,())
noncomputable def MB:X.Cfg:=⟨E0,[],[],[]⟩
def Df:Ctr:=⟨87,7,(uL [I64]),[],[⟨(uL [I64,I64,I64,I64,I64]),[.agg 5],[]⟩],ap1 gO⟩
theorem Hr:Lk 1 Df:=ls (C:=MB) rfl aN (by kernel_rfl) fun h=>by kernel_rfl
def mf(a0:Int) (a1:Int):Option (T0U):=
some (2,a0,a1,0,0,())
noncomputable def MC:X.Cfg:=⟨E0,[],[],[]⟩
def HP:Ctr:=⟨117,8,(uL [I64,I64]),[],[⟨(uL [I64,I64,I64,I64,I64]),[.agg 5],[]⟩],ap2 mf⟩
theorem Mu:Lk 1 HP:=ls (C:=MC) rfl aN (by kernel_rfl) fun h=>by kernel_rfl
def jA(a0:Int):Option (T0s):=
(bif (a0==1) then (some (a0,true,false,false,false,false,())) else
bif (a0==15) then (some (a0,true,false,false,false,false,())) else
bif (a0==19) then (some (a0,true,false,false,false,false,())) else
bif (a0==20) then (some (a0,true,false,false,false,false,())) else
some (a0,(a0==21),false,false,false,false,()):Option (Int×Bool×T0s)).bind fun(x0,x1,x2,x3,x4,x5,_)=>
bif x1 then (some (true,false,false,true,())) else
bif (x0==2) then (some (true,true,false,false,())) else
bif (x0==16) then (some (true,true,false,true,())) else
bif (x0==17) then (some (true,true,false,true,())) else
bif (x0==18) then (some (false,false,false,true,())) else
bif (x0==23) then (some (false,false,false,true,())) else
bif (x0==22) then (some (true,false,false,false,())) else
bif (x0==0) then (some (false,false,false,false,())) else
bif (x0==24) then (some (false,false,false,false,())) else
some (true,true,true,false,())
noncomputable def EJ:X.Cfg:=⟨E0,[],[],[⟨3,0,qE,[(.normal,(qS [(pP 2 6),(sP 3 I64),(sP 4 .bool)] [(6,(uL [.bool,.bool,.bool,.bool]))]))]⟩]⟩
def rl:Ctr:=⟨144,9,(uL [I64]),[],[⟨(uL [.bool,.bool,.bool,.bool]),[.agg 4],[]⟩],ap1 jA⟩
theorem vZ:Lk 1 rl:=ls (C:=EJ) rfl aN (by kernel_rfl) fun h=>by kernel_rfl
def gJ(a0:Int):Option (Bool×Unit):=
bif (a0==18) then (some (true,())) else
bif (a0==19) then (some (true,())) else
bif (a0==20) then (some (true,())) else
some ((a0==21),())
noncomputable def EK:X.Cfg:=⟨E0,[],[],[]⟩
def jG:Ctr:=⟨88,10,(uL [I64]),[],[⟨(uL [.bool]),[.one],[]⟩],ap1 gJ⟩
theorem lE:Lk 1 jG:=ls (C:=EK) rfl aN (by kernel_rfl) fun h=>by kernel_rfl
def nN(a0:Int) (a1:Int) (a2:List (Int)) (a3:Int):Option (Int×T1c):=
(dJ 25 a2 a3).bind fun(x0,x1,x2,_)=>
(jA x0).bind fun(x3,x4,x5,x6,_)=>
(bif x3 then ((dJ 8 x1 x2).bind fun(x7,x8,x9,_)=>
some (a0,a1,x8,x9,0,0,0,0,0,x0,x7,0,0,0,x3,x4,x5,x6,())) else
some (a0,a1,x1,x2,0,0,0,0,0,x0,0,0,0,0,x3,x4,x5,x6,()):Option (T3c)).bind fun(x7,x8,x9,ac,ae,af,ag,ah,ai,aj,ak,am,an,ap,aq,av,ax,ay,_)=>
(bif av then ((dJ 8 x9 ac).bind fun(az,aA,aB,_)=>
some (x7,x8,aA,aB,ae,af,ag,ah,ai,aj,ak,az,an,ap,aq,av,ax,ay,())) else
some (x7,x8,x9,ac,ae,af,ag,ah,ai,aj,ak,am,an,ap,aq,av,ax,ay,()):Option (T3c)).bind fun(az,aA,aB,aD,aE,aF,aG,aH,aI,aJ,aK,aL,aM,aO,aP,aQ,aR,aS,_)=>
(bif aR then ((dJ 8 aB aD).bind fun(aT,aU,aV,_)=>
some (az,aA,aU,aV,aE,aF,aG,aH,aI,aJ,aK,aL,aT,aO,aP,aQ,aR,aS,())) else
some (az,aA,aB,aD,aE,aF,aG,aH,aI,aJ,aK,aL,aM,aO,aP,aQ,aR,aS,()):Option (T3c)).bind fun(aT,aU,aV,aW,aY,aZ,ba,bc,bd,be,bf,bg,bh,bi,bj,bk,bl,bm,_)=>
((gJ be).bind fun(bn,_)=>
bif bn then ((dJ aU aV aW).bind fun(bo,bp,bq,_)=>
some (bp,bq,aY,aZ,ba,bc,bd,be,bf,bg,bh,bo,())) else
bif (be==15) then ((dJ aT aV aW).bind fun(bo,bp,bq,_)=>
some (bp,bq,aY,aZ,ba,bc,bd,be,bf,bg,bh,bo,())) else
bif (be==23) then ((dJ 16 aV aW).bind fun(bo,bp,bq,_)=>
some (bp,bq,aY,aZ,ba,bc,bd,be,bf,bg,bh,bo,())) else
bif bm then ((gQ aV aW).bind fun(bo,bp,bq,_)=>
let bt:=(wk .i64 bo);
some (bp,bq,aY,aZ,ba,bc,bd,be,bf,bg,bh,bt,())) else
some (aV,aW,aY,aZ,ba,bc,bd,be,bf,bg,bh,bi,()):Option (LI×Int×Int×T22)).bind fun(bn,bo,bp,bq,bt,bv,bx,bA,bB,bC,bD,bE,_)=>
some (bA,bB,bC,bD,bE,bn,bo,())
noncomputable def EY:X.Cfg:=⟨E0,[fq,rl,jG,kU],[],[⟨3,0,qE,[(.normal,(qS [(pP 0 2),(sP 1 I64),(sP 2 I64),(pP 6 14),(pP 7 16),(pP 8 18)] [(2,(uL [RI,I64])),(14,(uL [I64,I64,I64,I64,I64])),(16,(uL [I64,I64,I64,I64,I64])),(18,(uL [.bool,.bool,.bool,.bool]))]))]⟩,⟨5,1,qE,[(.normal,(qS [(pP 0 2),(sP 1 I64),(sP 2 I64),(pP 6 14),(pP 7 16),(pP 8 18)] [(2,(uL [RI,I64])),(14,(uL [I64,I64,I64,I64,I64])),(16,(uL [I64,I64,I64,I64,I64])),(18,(uL [.bool,.bool,.bool,.bool]))]))]⟩,⟨7,2,qE,[(.normal,(qS [(pP 0 2),(sP 1 I64),(sP 2 I64),(pP 6 14),(pP 7 16),(pP 8 18)] [(2,(uL [RI,I64])),(14,(uL [I64,I64,I64,I64,I64])),(16,(uL [I64,I64,I64,I64,I64])),(18,(uL [.bool,.bool,.bool,.bool]))]))]⟩,⟨9,3,qE,[(.normal,(qS [(pP 0 2),(pP 6 14),(pP 7 16)] [(2,(uL [RI,I64])),(14,(uL [I64,I64,I64,I64,I64])),(16,(uL [I64,I64,I64,I64,I64]))]))]⟩]⟩
def wP:Ctr:=⟨118,11,[.ptr ⟨2,0,[]⟩ [0],shU I64,shU I64],[(2,(uL [RI,I64]))],[⟨(uL [I64,I64,I64,I64,I64]),[.agg 5],[(2,(uL [RI,I64]))]⟩],ap4 nN⟩
theorem Ef:Lk 5 wP:=ls (C:=EY) rfl (aC fC (aC vZ (aC lE (aC nb aN)))) (by kernel_rfl) fun h=>by kernel_rfl
def o9(a0:List (Int)) (a1:Int) (a2:Int) (a3:List (Int)) (a4:Int):Option (LDIn×T07):=
let x0:=(dK (List.length a0));
(dJ x0 a3 a4).bind fun(x1,x2,x3,_)=>
(dW x1).bind fun x4=>
(dH a0 x4).bind fun x5=>
let x6:=(w64 (x5+1));
let x7:=(mmR false 5 x6);
(dJ x7 x2 x3).bind fun(x8,x9,ac,_)=>
(iv 2 x8).bind fun(ae,af,ag,ah,ai,_)=>
let aj:LDIn:=[(15,(1,(0,(0,x1)))),(ae,(af,(ag,(ah,ai))))];
(dJ 20 x9 ac).bind fun(ak,am,an,_)=>
bif (ak==0) then ((dJ 3 am an).bind fun(ap,aq,av,_)=>
let ax:=(w64 (3+ap));
(gQ aq av).bind fun(ay,az,aA,_)=>
let aB:=(wk .i64 ay);
(iv ax aB).bind fun(aD,aE,aF,aG,aH,_)=>
let aI:LDIn:=[(aD,(aE,(aF,(aG,aH))))];
some (aI,az,aA,())) else
bif (ak==1) then (let ap:List (Int):=[3,4,5,10,13,14,11,9];
(dJ 8 am an).bind fun(aq,av,ax,_)=>
(dW aq).bind fun ay=>
(dH ap ay).bind fun az=>
(dH ap ay).bind fun aA=>
(dJ 3 av ax).bind fun(aB,aD,aE,_)=>
let aF:=(w64 (3+aB));
(dJ 3 aD aE).bind fun(aG,aH,aI,_)=>
let aJ:=(w64 (3+aG));
(dJ 3 aH aI).bind fun(aK,aL,aM,_)=>
let aO:=(w64 (3+aK));
let aP:LDIn:=[(aA,(aF,(aJ,(aO,0))))];
some (aP,aL,aM,())) else
bif (ak==2) then (let ap:LDIn:=[(15,(6,(0,(0,x1))))];
some (ap,am,an,())) else
bif (ak==3) then ((dJ 5 am an).bind fun(ap,aq,av,_)=>
let ax:=(w64 (3+ap));
(dW x1).bind fun ay=>
(dH a0 ay).bind fun az=>
(dJ az aq av).bind fun(aA,aB,aD,_)=>
let aE:LDIn:=[(15,(6,(0,(0,x1)))),(17,(6,(ax,(0,aA))))];
some (aE,aB,aD,())) else
bif (ak==4) then ((dJ 5 am an).bind fun(ap,aq,av,_)=>
let ax:=(w64 (3+ap));
(dW x1).bind fun ay=>
(dH a0 ay).bind fun az=>
(dJ az aq av).bind fun(aA,aB,aD,_)=>
let aE:LDIn:=[(15,(6,(0,(0,x1)))),(17,(6,(ax,(0,aA))))];
some (aE,aB,aD,())) else
bif (ak==5) then ((dJ 4 am an).bind fun(ap,aq,av,_)=>
let ax:=(w64 (3+ap));
(dW x1).bind fun ay=>
(dH a0 ay).bind fun az=>
(dJ az aq av).bind fun(aA,aB,aD,_)=>
let aE:LDIn:=[(15,(6,(0,(0,x1)))),(16,(ax,(6,(0,aA))))];
some (aE,aB,aD,())) else
bif (ak==6) then ((dJ 4 am an).bind fun(ap,aq,av,_)=>
let ax:=(w64 (3+ap));
(dW x1).bind fun ay=>
(dH a0 ay).bind fun az=>
(dJ az aq av).bind fun(aA,aB,aD,_)=>
let aE:LDIn:=[(15,(6,(0,(0,x1)))),(16,(ax,(6,(0,aA))))];
some (aE,aB,aD,())) else
bif (ak==7) then ((dJ 3 am an).bind fun(ap,aq,av,_)=>
(iv 0 ap).bind fun(ax,ay,az,aA,aB,_)=>
let aD:LDIn:=[(ax,(ay,(az,(aA,aB))))];
bif (dV 40 (List.length aD) (List.length aj)) then let aE:LDIn:=(List.append aD aj);
(gO 13).bind fun(aF,aG,aH,aI,aJ,_)=>
let aK:LDIn:=[(aF,(aG,(aH,(aI,aJ))))];
bif (dV 40 (List.length aE) (List.length aK)) then let aL:LDIn:=(List.append aE aK);
some (aL,aq,av,()) else none else none) else
bif (ak==8) then ((dJ 3 am an).bind fun(ap,aq,av,_)=>
(iv 0 ap).bind fun(ax,ay,az,aA,aB,_)=>
let aD:LDIn:=[(ax,(ay,(az,(aA,aB))))];
bif (dV 40 (List.length aD) (List.length aj)) then let aE:LDIn:=(List.append aD aj);
(gO 13).bind fun(aF,aG,aH,aI,aJ,_)=>
let aK:LDIn:=[(aF,(aG,(aH,(aI,aJ))))];
bif (dV 40 (List.length aE) (List.length aK)) then let aL:LDIn:=(List.append aE aK);
some (aL,aq,av,()) else none else none) else
bif (ak==9) then ((dJ 3 am an).bind fun(ap,aq,av,_)=>
(iv 0 ap).bind fun(ax,ay,az,aA,aB,_)=>
let aD:LDIn:=[(ax,(ay,(az,(aA,aB))))];
bif (dV 40 (List.length aD) (List.length aj)) then let aE:LDIn:=(List.append aD aj);
(gO 14).bind fun(aF,aG,aH,aI,aJ,_)=>
(mf 3 0).bind fun(aK,aL,aM,aO,aP,_)=>
let aQ:LDIn:=[(aF,(aG,(aH,(aI,aJ)))),(aK,(aL,(aM,(aO,aP))))];
bif (dV 40 (List.length aE) (List.length aQ)) then let aR:LDIn:=(List.append aE aQ);
some (aR,aq,av,()) else none else none) else
bif (ak==10) then ((dJ 3 am an).bind fun(ap,aq,av,_)=>
(iv 0 ap).bind fun(ax,ay,az,aA,aB,_)=>
(dJ 4 aq av).bind fun(aD,aE,aF,_)=>
(iv 1 aD).bind fun(aG,aH,aI,aJ,aK,_)=>
(gO 3).bind fun(aL,aM,aO,aP,aQ,_)=>
(mf 7 0).bind fun(aR,aS,aT,aU,aV,_)=>
let aW:LDIn:=[(ax,(ay,(az,(aA,aB)))),(aG,(aH,(aI,(aJ,aK)))),(aL,(aM,(aO,(aP,aQ)))),(aR,(aS,(aT,(aU,aV))))];
some (aW,aE,aF,())) else
bif (ak==11) then ((mf 0 7).bind fun(ap,aq,av,ax,ay,_)=>
let az:LDIn:=[(ap,(aq,(av,(ax,ay))))];
bif (dV 40 (List.length az) (List.length aj)) then let aA:LDIn:=(List.append az aj);
let aB:List (Int):=[1,2];
(dJ 2 am an).bind fun(aD,aE,aF,_)=>
(dW aD).bind fun aG=>
(dH aB aG).bind fun aH=>
(dH aB aG).bind fun aI=>
(gO aI).bind fun(aJ,aK,aL,aM,aO,_)=>
let aP:LDIn:=[(aJ,(aK,(aL,(aM,aO))))];
bif (dV 40 (List.length aA) (List.length aP)) then let aQ:LDIn:=(List.append aA aP);
some (aQ,aE,aF,()) else none else none) else
bif (ak==12) then ((mf 0 7).bind fun(ap,aq,av,ax,ay,_)=>
(gO 4).bind fun(az,aA,aB,aD,aE,_)=>
let aF:LDIn:=[(ap,(aq,(av,(ax,ay)))),(az,(aA,(aB,(aD,aE))))];
(mf 0 7).bind fun(aG,aH,aI,aJ,aK,_)=>
(dJ 4 am an).bind fun(aL,aM,aO,_)=>
(iv 1 aL).bind fun(aP,aQ,aR,aS,aT,_)=>
(gO 5).bind fun(aU,aV,aW,aY,aZ,_)=>
let ba:LDIn:=[(aG,(aH,(aI,(aJ,aK)))),(aP,(aQ,(aR,(aS,aT)))),(aU,(aV,(aW,(aY,aZ))))];
let bc:List LDIn:=[aF,ba];
(dJ 2 aM aO).bind fun(bd,be,bf,_)=>
(dW bd).bind fun bg=>
(dH bc bg).bind fun bh=>
(dH bc bg).bind fun bi=>
(dH bc bg).bind fun bj=>
some (bj,be,bf,())) else
bif (ak==13) then (let ap:List (Int):=[6,7,15];
(dJ 3 am an).bind fun(aq,av,ax,_)=>
(dW aq).bind fun ay=>
(dH ap ay).bind fun az=>
(dH ap ay).bind fun aA=>
(gO aA).bind fun(aB,aD,aE,aF,aG,_)=>
(dJ 3 av ax).bind fun(aH,aI,aJ,_)=>
let aK:=(w64 (3+aH));
(mf aK 0).bind fun(aL,aM,aO,aP,aQ,_)=>
let aR:LDIn:=[(aB,(aD,(aE,(aF,aG)))),(aL,(aM,(aO,(aP,aQ))))];
some (aR,aI,aJ,())) else
bif (ak==14) then ((dJ 3 am an).bind fun(ap,aq,av,_)=>
(iv 0 ap).bind fun(ax,ay,az,aA,aB,_)=>
let aD:List (Int):=[8,9];
(dJ 2 aq av).bind fun(aE,aF,aG,_)=>
(dW aE).bind fun aH=>
(dH aD aH).bind fun aI=>
(dH aD aH).bind fun aJ=>
(gO aJ).bind fun(aK,aL,aM,aO,aP,_)=>
let aQ:LDIn:=[(ax,(ay,(az,(aA,aB)))),(aK,(aL,(aM,(aO,aP))))];
some (aQ,aF,aG,())) else
bif (ak==15) then ((dJ 3 am an).bind fun(ap,aq,av,_)=>
(iv 0 ap).bind fun(ax,ay,az,aA,aB,_)=>
let aD:List (Int):=[8,9];
(dJ 2 aq av).bind fun(aE,aF,aG,_)=>
(dW aE).bind fun aH=>
(dH aD aH).bind fun aI=>
(dH aD aH).bind fun aJ=>
(gO aJ).bind fun(aK,aL,aM,aO,aP,_)=>
let aQ:LDIn:=[(ax,(ay,(az,(aA,aB)))),(aK,(aL,(aM,(aO,aP))))];
some (aQ,aF,aG,())) else
bif (ak==16) then ((dJ a1 am an).bind fun(ap,aq,av,_)=>
(iv 0 ap).bind fun(ax,ay,az,aA,aB,_)=>
(mf 1 3).bind fun(aD,aE,aF,aG,aH,_)=>
(gO 10).bind fun(aI,aJ,aK,aL,aM,_)=>
let aO:LDIn:=[(ax,(ay,(az,(aA,aB)))),(aD,(aE,(aF,(aG,aH)))),(aI,(aJ,(aK,(aL,aM))))];
some (aO,aq,av,())) else
bif (ak==17) then (let ap:List (Int):=[a1,5];
(dJ 2 am an).bind fun(aq,av,ax,_)=>
(dW aq).bind fun ay=>
(dH ap ay).bind fun az=>
(dH ap ay).bind fun aA=>
(dJ aA av ax).bind fun(aB,aD,aE,_)=>
(iv 0 aB).bind fun(aF,aG,aH,aI,aJ,_)=>
let aK:List (Int):=[12,11];
(dJ 2 aD aE).bind fun(aL,aM,aO,_)=>
(dW aL).bind fun aP=>
(dH aK aP).bind fun aQ=>
(dH aK aP).bind fun aR=>
(gO aR).bind fun(aS,aT,aU,aV,aW,_)=>
let aY:LDIn:=[(aF,(aG,(aH,(aI,aJ)))),(aS,(aT,(aU,(aV,aW))))];
some (aY,aM,aO,())) else
bif (ak==18) then ((dJ 4 am an).bind fun(ap,aq,av,_)=>
let ax:=(w64 (1+ap));
(iv 5 ax).bind fun(ay,az,aA,aB,aD,_)=>
(iv 4 1).bind fun(aE,aF,aG,aH,aI,_)=>
let aJ:=(w64 (a2+2));
let aK:LDIn:=[(ay,(az,(aA,(aB,aD)))),(aE,(aF,(aG,(aH,aI)))),(4,(5,(5,(4,0)))),(20,(5,(0,(0,aJ))))];
some (aK,aq,av,())) else
let ap:=(dK (List.length a0));
(nN ap a1 am an).bind fun(aq,av,ax,ay,az,aA,aB,_)=>
let aD:LDIn:=[(aq,(av,(ax,(ay,az))))];
some (aD,aA,aB,())
noncomputable def Gl:X.Cfg:=⟨E0,[fq,GK,kU,Df,HP,wP],[(156,(.row true KIn))],[]⟩
def zu:Ctr:=⟨85,12,[.ptr ⟨2,0,[]⟩ [0],shU RI,shU I64,shU I64],[(2,(uL [RI,I64]))],[⟨(uL [fb]),[.one],[(2,(uL [RI,I64]))]⟩],ap5 o9⟩
theorem F3:Lk 6 zu:=ls (C:=Gl) rfl (aC fC (aC KL (aC nb (aC Hr (aC Mu (aC Ef aN)))))) (by kernel_rfl) fun h=>by kernel_rfl
def oi:T2o→Option (T2o⊕(Int×Int×Bool×T1X)):=fun(v0,v1,v2,v3,v4,v5,v6,v7,v8,v9,_)=>
bif (decide (v1 < v0)) then ((dW v1).bind fun x0=>
(dH v8 x0).bind fun x1=>
(dH v8 x0).bind fun x2=>
(fM x2 v2 v3).bind fun(x3,x4,x5,_)=>
bif (dV 24 (List.length v9) (List.length [x3])) then let x6:List LI:=(List.append v9 [x3]);
let x7:=(w64 (v1+1));
some (.inl (v0,x7,x4,x5,v4,v5,v6,v7,v8,x6,())) else none) else
some (.inr (v0,v1,false,v2,v3,v4,v5,v6,v7,v8,v9,()))
def oh:T27→Option (T27⊕T2i):=fun(v0,v1,v2,v3,v4,v5,v6,v7,v8,_)=>
bif (decide (v0 > 0)) then ((let x0:Int:=(dK (List.length v6));
let x1:=(w64 (x0+1));
let x2:=(dK (List.length v6));
(o9 v7 x1 x2 v1 v2).bind fun(x3,x4,x5,_)=>
let x6:=(dK (List.length v6));
let x7:=(dK (List.length x3));
let x8:=(w64 (x6+x7));
bif (decide (x8≤62)) then (bif (dV 40 (List.length v6) (List.length x3)) then let x9:LDIn:=(List.append v6 x3);
some (v0,x4,x5,v3,v4,v5,x9,v7,v8,()) else none) else
some (v0,x4,x5,v3,v4,v5,v6,v7,v8,()):Option (T27)).bind fun(x0,x1,x2,x3,x4,x5,x6,x7,x8,_)=>
let x9:=(w64 (x0 - 1));
some (.inl (x9,x1,x2,x3,x4,x5,x6,x7,x8,()))) else
some (.inr (v0,false,v1,v2,v3,v4,v5,v6,v7,v8,()))
def fP:T2n→Option (T2n⊕(Int×T2i)):=fun(v0,v1,v2,v3,v4,v5,v6,v7,v8,v9,_)=>
bif (decide (v1 < v0)) then (((dW v1).bind fun x0=>
(dH v7 x0).bind fun x1=>
(gJ x1.1).bind fun(x2,_)=>
bif x2 then ((dW v1).bind fun x3=>
(dH v7 x3).bind fun x4=>
let x5:=(dK (List.length v7));
bif (decide (x4.2.2.2.2≥x5)) then ((dW v1).bind fun x6=>
(dH v7 x6).bind fun x7=>
none) else
some (v0,v1,v2,v3,v4,v5,v6,v7,v8,v9,())) else
some (v0,v1,v2,v3,v4,v5,v6,v7,v8,v9,()):Option (T2n)).bind fun(x0,x1,x2,x3,x4,x5,x6,x7,x8,x9,_)=>
let ac:=(w64 (x1+1));
some (.inl (x0,ac,x2,x3,x4,x5,x6,x7,x8,x9,()))) else
some (.inr (v0,v1,false,v2,v3,v4,v5,v6,v7,v8,v9,()))
def lc(a0:List (Int)) (a1:Int):Option (LDIn×LI×LLI×T07):=
(nM a0 a1).bind fun(x0,x1,x2,_)=>
let x3:=(dK (List.length x0));
(dQ oi NN (x3,0,x1,x2,(),(),(),(),x0,[],())).bind fun(x4,x5,x6,x7,x8,x9,ac,ae,af,ag,ah,_)=>
(dJ 12 x7 x8).bind fun(ai,aj,ak,_)=>
let am:=(w64 (1+ai));
(dQ oh NN (am,aj,ak,x9,ac,ae,[],ag,ah,())).bind fun(an,ap,aq,av,ax,ay,az,aA,aB,aD,_)=>
((dJ 4 aq av).bind fun(aE,aF,aG,_)=>
bif (aE==0) then (let aH:Int:=(dK (List.length aA));
let aI:=(w64 (aH+1));
(dJ aI aF aG).bind fun(aJ,aK,aL,_)=>
let aM:LDIn:=[(18,(0,(0,(0,aJ))))];
bif (dV 40 (List.length aA) (List.length aM)) then let aO:LDIn:=(List.append aA aM);
some (aK,aL,ax,ay,az,aO,aB,aD,()) else none) else
bif (aE==1) then (let aH:LDIn:=[(24,(0,(0,(0,0))))];
bif (dV 40 (List.length aA) (List.length aH)) then let aI:LDIn:=(List.append aA aH);
some (aF,aG,ax,ay,az,aI,aB,aD,()) else none) else
some (aF,aG,ax,ay,az,aA,aB,aD,()):Option (T1W)).bind fun(aE,aF,aG,aH,aI,aJ,aK,aL,_)=>
(dJ 9 aE aF).bind fun(aM,aO,aP,_)=>
(iv 0 aM).bind fun(aQ,aR,aS,aT,aU,_)=>
(gO 0).bind fun(aV,aW,aY,aZ,ba,_)=>
let bc:LDIn:=[(aQ,(aR,(aS,(aT,aU)))),(aV,(aW,(aY,(aZ,ba))))];
bif (dV 40 (List.length aJ) (List.length bc)) then let bd:LDIn:=(List.append aJ bc);
let be:=(dK (List.length bd));
bif (decide (be > 64)) then (bif (hY 0 64 (List.length bd)) then let bf:LDIn:=(nv bd 0 (Nat.sub 64 0));
let bg:=(dK (List.length bf));
(dQ fP NN (bg,0,aO,aP,aG,aH,aI,bf,aK,aL,())).bind fun(bh,bi,bj,bk,bl,bm,bn,bo,bp,bq,bt,_)=>
some (bp,bq,bt,bk,bl,()) else none) else
let bf:=(dK (List.length bd));
(dQ fP NN (bf,0,aO,aP,aG,aH,aI,bd,aK,aL,())).bind fun(bg,bh,bi,bj,bk,bl,bm,bn,bo,bp,bq,_)=>
some (bo,bp,bq,bj,bk,()) else none
noncomputable def As:X.Cfg:=⟨E0,[wO,ru,fq,zu,GK,Df,jG],[(24,(.row true CW)),(25,(.row true CW))],[(lx 4 0 [(pP 0 2),(pP 2 6),(pP 3 8),(13,.pk ⟨8,1,[]⟩ [0,0]),(sP 14 I64),(sP 15 I64)] [(2,(uL [RI,I64])),(6,(uL [N1,N1,N1])),(8,(uL [N1,(.row true I64),(.row true (.row true CW))]))] 16),⟨14,1,qE,[(.normal,(qS [(pP 0 2),(pP 2 6),(pP 3 8),(sP 6 I64)] [(2,(uL [RI,I64])),(6,(uL [N1,N1,N1])),(8,(uL [(.row true KIn),RI,(.row true (.row true CW))]))]))]⟩,⟨11,2,(qS [(pP 0 2),(pP 2 6),(pP 3 8),(sP 6 I64)] [(2,(uL [RI,I64])),(6,(uL [N1,N1,N1])),(8,(uL [(.row true KIn),RI,(.row true (.row true CW))]))]),[(.exit 2,(qS [(pP 0 2),(pP 2 6),(pP 3 8),(sP 6 I64),(sP 32 .bool)] [(2,(uL [RI,I64])),(6,(uL [N1,N1,N1])),(8,(uL [(.row true KIn),RI,(.row true (.row true CW))]))]))]⟩,⟨17,3,qE,[(.normal,(qS [(pP 0 2),(pP 2 6),(pP 3 8)] [(2,(uL [RI,I64])),(6,(uL [N1,N1,N1])),(8,(uL [(.row true KIn),RI,(.row true (.row true CW))]))]))]⟩,⟨29,4,qE,[(.normal,(qS [(pP 0 2),(pP 2 6),(pP 3 8),(sP 101 I64),(sP 102 I64)] [(2,(uL [RI,I64])),(6,(uL [N1,N1,N1])),(8,(uL [fb,RI,(.row true (.row true CW))]))]))]⟩,⟨26,5,(qS [(pP 0 2),(pP 2 6),(pP 3 8),(sP 101 I64),(sP 102 I64)] [(2,(uL [RI,I64])),(6,(uL [N1,N1,N1])),(8,(uL [fb,RI,(.row true (.row true CW))]))]),[(.exit 5,(qS [(pP 0 2),(pP 2 6),(pP 3 8),(sP 101 I64),(sP 102 I64),(sP 103 .bool)] [(2,(uL [RI,I64])),(6,(uL [N1,N1,N1])),(8,(uL [fb,RI,(.row true (.row true CW))]))]))]⟩]⟩
def sG:Ctr:=⟨52,13,[.ptr ⟨2,0,[]⟩ [0]],[(2,(uL [RI,I64]))],[⟨(uL [fb,RI,(.row true (.row true CW))]),[.agg 3],[(2,(uL [RI,I64]))]⟩],ap2 lc⟩
theorem zY:Lk 7 sG:=ls (C:=As) rfl (aC Ee (aC we (aC fC (aC F3 (aC KL (aC Hr (aC lE aN))))))) (by kernel_rfl) fun h=>by kernel_rfl
def lN:T0J→Option (T0J⊕((Bool×Unit)⊕(LI×T0H))):=fun(v0,v1,v2,v3,_)=>
bif (decide (v3 < v2)) then ((dW v3).bind fun x0=>
(dH v1 x0).bind fun x1=>
bif (decide (x1 < 1)) then (some (.inr (.inl (false,())))) else
bif (decide (x1 > 32)) then (some (.inr (.inl (false,())))) else
let x2:=(w64 (v3+1));
some (.inl (v0,v1,v2,x2,()))) else
some (.inr (.inr (v0,v1,v2,v3,false,())))
def gN(a0:List (Int)):Option (Bool×Unit):=
let x0:=(dK (List.length a0));
(match dQ lN NN (a0,a0,x0,0,()) with
| none=>none
| some (.inl (x1,_))=>
some (x1,())
| some (.inr (x1,x2,x3,x4,x5,_))=>
let x6:=(dK (List.length x1));
bif (decide (x6≥1)) then (let x7:Int:=(dK (List.length x1));
some ((decide (x7≤4)),())) else
some (false,()))
noncomputable def CJ:X.Cfg:=⟨E0,[],[],[⟨3,0,(qS [(sP 0 RI),(sP 5 RI),(sP 6 I64),(sP 7 I64)] []),[(.ret,(qS [(sP 2 .bool)] [])),(.exit 0,(qS [(sP 0 RI),(sP 5 RI),(sP 6 I64),(sP 7 I64),(sP 8 .bool)] []))]⟩]⟩
def mz:Ctr:=⟨106,14,(uL [RI]),[],[⟨(uL [.bool]),[.one],[]⟩],ap1 gN⟩
theorem po:Lk 1 mz:=ls (C:=CJ) rfl aN (by kernel_rfl) fun h=>by kernel_rfl
def qx:T2p→Option (T2p⊕(LI×Int×Int×Int×Int×Int×Bool×T0L)):=fun(v0,v1,v2,v3,v4,v5,v6,v7,v8,v9,_)=>
bif (decide (v5 < v4)) then (let x0:Int:=(w64 (v5+v1));
bif (v2 != 0) then let x1:Int:=(Int.tmod x0 v2);
(dW x1).bind fun x2=>
(dH v8 x2).bind fun x3=>
(dH v8 x2).bind fun x4=>
let x5:=(List.modify v8 x2 fun e=>v3);
(dW x1).bind fun x6=>
(dH v0 x6).bind fun x7=>
let x8:=(w64 (x7+1));
let x9:=(w64 (50*v2));
bif (x9 != 0) then let ac:Int:=(w64 (Int.tdiv v1 x9));
let ae:=(Int.tmod ac 40);
let af:=(w64 (x8+ae));
let ag:=(w64 (v3+af));
let ah:=(w64 (v5+1));
some (.inl (v0,v1,v2,ag,v4,ah,v6,v7,x5,v9,())) else none else none) else
some (.inr (v0,v1,v2,v3,v4,v5,false,v6,v7,v8,v9,()))
def nL(a0:List (Int)) (a1:Int):Option (T0p):=
((gN a0).bind fun(x0,_)=>
bif (!x0) then (some (a0,a1,true,(),0,())) else
bif (decide (a1 < 0)) then (some (a0,a1,true,(),0,())) else
some (a0,a1,(decide (a1 > 1073741824)),(),0,()):Option (LI×Int×Bool×Unit×Int×Unit)).bind fun(x0,x1,x2,x3,x4,_)=>
bif x2 then (some ([],0,1,())) else
let x5:=(dK (List.length x0));
(dW x5).bind fun x6=>
(dW x5).bind fun x7=>
bif (sQ x6 x7 1) then let x8:List (Int):=(List.replicate x6 0);
let x9:=(w64 (40503*x1));
let ac:=(wk .u16 x9);
bif (x5 != 0) then let ae:Int:=(w64 (Int.tdiv x1 x5));
let af:=(Int.tmod ae 50);
let ag:=(w64 (1+af));
(dQ qx NN (x0,x1,x5,ag,x5,0,x3,x4,x8,ac,())).bind fun(ah,ai,aj,ak,am,an,ap,aq,av,ax,ay,_)=>
some (ax,ay,0,()) else none else none
noncomputable def ES:X.Cfg:=⟨E0,[mz],[],[⟨2,0,qE,[(.normal,(qS [(sP 0 RI),(sP 1 I64),(pP 4 10),(sP 21 .bool)] [(10,(uL [N1,CW]))]))]⟩,(lx 9 1 [(sP 0 RI),(sP 1 I64),(pP 4 10),(sP 6 I64),(pP 7 16),(sP 8 I64),(sP 36 I64),(sP 37 I64)] [(10,(uL [N1,CW])),(16,(uL [(.row true I64),CW]))] 38)]⟩
def wK:Ctr:=⟨94,15,(uL [RI,I64]),[],[⟨(uL [(.row true I64),CW,I64]),[.agg 2,.one],[]⟩],ap2 nL⟩
theorem Ea:Lk 2 wK:=ls (C:=ES) rfl (aC po aN) (by kernel_rfl) fun h=>by kernel_rfl
def mi(a0:List (Int)) (a1:List (Int)) (a2:Int):Option (LI×T0j):=
(dJ 1048576 a1 a2).bind fun(x0,x1,x2,_)=>
(nL a0 x0).bind fun(x3,x4,x5,_)=>
some (x3,x4,x1,x2,())
noncomputable def CV:X.Cfg:=⟨E0,[fq,wK],[],[]⟩
def uA:Ctr:=⟨54,16,[.ptr ⟨2,0,[]⟩ [0],shU RI],[(2,(uL [RI,I64]))],[⟨(uL [(.row true I64),CW]),[.agg 2],[(2,(uL [RI,I64]))]⟩],ap3 mi⟩
theorem B6:Lk 4 uA:=ls (C:=CV) rfl (aC fC (aC Ea aN)) (by kernel_rfl) fun h=>by kernel_rfl
def jy(a0:Int) (a1:Int) (a2:Int) (a3:Int):Option (Bool×Unit):=
bif (a0==0) then (bif (a2==0) then (some ((a3==0),())) else
some (false,())) else
bif (a0==2) then (bif (a2==0) then (some ((a3==0),())) else
some (false,())) else
bif (a0==1) then (bif (a2==(-1)) then (bif (a1==0) then (bif (decide (a3≥0)) then (some ((decide (a3≤65535)),())) else
some (false,())) else
some (false,())) else
bif (a1==0) then (bif (decide (a2≥0)) then (bif (decide (a2 < 4)) then (bif (decide (a3≥0)) then (some ((decide (a3 < 32)),())) else
some (false,())) else
some (false,())) else
some (false,())) else
some (false,())) else
some (false,())
noncomputable def EE:X.Cfg:=⟨E0,[],[],[]⟩
def rh:Ctr:=⟨138,17,[.agg (uL [CB,CW,I64,I64])],[],[⟨(uL [.bool]),[.one],[]⟩],ap4 jy⟩
theorem vV:Lk 1 rh:=ls (C:=EE) rfl aN (by kernel_rfl) fun h=>by kernel_rfl
def jc:LDCn×Int×T0n→Option ((LDCn×Int×T0n)⊕((Bool×Unit)⊕(LDCn×Int×T0E))):=fun(v0,v1,v2,v3,v4,_)=>
bif (decide (v4 < v3)) then ((dW v4).bind fun x0=>
(dH v2 x0).bind fun x1=>
(jy x1.1 x1.2.1 x1.2.2.1 x1.2.2.2).bind fun(x2,_)=>
bif (!x2) then (some (.inr (.inl (false,())))) else
let x3:=(w64 (v4+1));
some (.inl (v0,v1,v2,v3,x3,()))) else
some (.inr (.inr (v0,v1,v2,v3,v4,false,())))
def ff(a0:LDCn) (a1:Int):Option (Bool×Unit):=
let x0:=(dK (List.length a0));
(match dQ jc NN (a0,a1,a0,x0,0,()) with
| none=>none
| some (.inl (x1,_))=>
some (x1,())
| some (.inr (x1,x2,x3,x4,x5,x6,_))=>
let x7:=(dK (List.length x1));
some ((decide (x7≤x2)),()))
noncomputable def Cq:X.Cfg:=⟨E0,[rh],[],[⟨3,0,(qS [(sP 0 d8),(sP 1 I64),(sP 7 d8),(sP 8 I64),(sP 9 I64)] []),[(.ret,(qS [(sP 4 .bool)] [])),(.exit 0,(qS [(sP 0 d8),(sP 1 I64),(sP 7 d8),(sP 8 I64),(sP 9 I64),(sP 10 .bool)] []))]⟩]⟩
def gg:Ctr:=⟨105,18,(uL [d8,I64]),[],[⟨(uL [.bool]),[.one],[]⟩],ap2 ff⟩
theorem gR:Lk 2 gg:=ls (C:=Cq) rfl (aC vV aN) (by kernel_rfl) fun h=>by kernel_rfl
def jb:T13→Option (T13⊕((Bool×Unit)⊕(LLCn×T0T))):=fun(v0,v1,v2,v3,v4,_)=>
bif (decide (v2 < v1)) then ((dW v2).bind fun x0=>
(dH v0 x0).bind fun x1=>
(ff x1 64).bind fun(x2,_)=>
bif (!x2) then (some (.inr (.inl (false,())))) else
let x3:=(w64 (v2+1));
some (.inl (v0,v1,x3,v3,v4,()))) else
some (.inr (.inr (v0,v1,v2,false,v3,v4,())))
def lK:LDOp×T0A→Option ((LDOp×T0A)⊕((Bool×Unit)⊕(LDOp×T0T))):=fun(v0,v1,v2,v3,v4,_)=>
bif (decide (v2 < v1)) then ((dW v2).bind fun x0=>
(dH v0 x0).bind fun x1=>
(bif (x1.1==(-1)) then (bif (x1.2.1 != 0) then (some (v0,v1,v2,true,v3,v4,x1.1,x1.2.1,x1.2.2,())) else
bif x1.2.2 then (some (v0,v1,v2,true,v3,v4,x1.1,x1.2.1,x1.2.2,())) else
bif (decide (x1.1 < (-1))) then (some (v0,v1,v2,true,v3,v4,x1.1,x1.2.1,x1.2.2,())) else
let x2:=(dK (List.length v3));
bif (decide (x1.1≥x2)) then (some (v0,v1,v2,true,v3,v4,x1.1,x1.2.1,x1.2.2,())) else
bif (decide (x1.1≥0)) then (bif (decide (x1.2.1 < 0)) then (some (v0,v1,v2,true,v3,v4,x1.1,x1.2.1,x1.2.2,())) else
(dW x1.1).bind fun x3=>
(dH v3 x3).bind fun x4=>
let x5:=(dK (List.length x4));
some (v0,v1,v2,(decide (x1.2.1 > x5)),v3,v4,x1.1,x1.2.1,x1.2.2,())) else
some (v0,v1,v2,false,v3,v4,x1.1,x1.2.1,x1.2.2,())) else
bif (decide (x1.1 < (-1))) then (some (v0,v1,v2,true,v3,v4,x1.1,x1.2.1,x1.2.2,())) else
let x2:=(dK (List.length v3));
bif (decide (x1.1≥x2)) then (some (v0,v1,v2,true,v3,v4,x1.1,x1.2.1,x1.2.2,())) else
bif (decide (x1.1≥0)) then (bif (decide (x1.2.1 < 0)) then (some (v0,v1,v2,true,v3,v4,x1.1,x1.2.1,x1.2.2,())) else
(dW x1.1).bind fun x3=>
(dH v3 x3).bind fun x4=>
let x5:=(dK (List.length x4));
some (v0,v1,v2,(decide (x1.2.1 > x5)),v3,v4,x1.1,x1.2.1,x1.2.2,())) else
some (v0,v1,v2,false,v3,v4,x1.1,x1.2.1,x1.2.2,()):Option (LDOp×Int×Int×Bool×LLCn×LDOp×T0e)).bind fun(x2,x3,x4,x5,x6,x7,x8,x9,ac,_)=>
bif x5 then (some (.inr (.inl (false,())))) else
let ae:=(w64 (x4+1));
some (.inl (x2,x3,ae,x6,x7,()))) else
some (.inr (.inr (v0,v1,v2,false,v3,v4,())))
def jR(a0:List LDCn) (a1:LDOp):Option (Bool×Unit):=
let x0:=(dK (List.length a0));
bif (decide (x0 > 4)) then (some (false,())) else
let x1:=(dK (List.length a1));
bif (x1 != 8) then (some (false,())) else
let x2:=(dK (List.length a0));
(match dQ jb NN (a0,x2,0,a0,a1,()) with
| none=>none
| some (.inl (x3,_))=>
some (x3,())
| some (.inr (x3,x4,x5,x6,x7,x8,_))=>
let x9:=(dK (List.length x8));
(match dQ lK NN (x8,x9,0,x7,x8,()) with
| none=>none
| some (.inl (ac,_))=>
some (ac,())
| some (.inr (ac,ae,af,ag,ah,ai,_))=>
some (true,())))
noncomputable def Cg:X.Cfg:=⟨E0,[gg],[],[⟨6,0,(qS [(pP 1 4),(sP 18 (.row false d8)),(sP 19 I64),(sP 20 I64)] [(4,(uL [(.row false d8),gH]))]),[(.ret,(qS [(sP 2 .bool)] [])),(.exit 0,(qS [(pP 1 4),(sP 18 (.row false d8)),(sP 19 I64),(sP 20 I64),(sP 21 .bool)] [(4,(uL [(.row false d8),gH]))]))]⟩,⟨20,1,qE,[(.normal,(qS [(pP 1 4),(sP 29 gH),(sP 30 I64),(sP 31 I64),(sP 81 .bool)] [(4,(uL [(.row false d8),gH])),(14,(uL [I64,I64,.bool]))]))]⟩,⟨15,2,(qS [(pP 1 4),(sP 29 gH),(sP 30 I64),(sP 31 I64)] [(4,(uL [(.row false d8),gH]))]),[(.ret,(qS [(sP 2 .bool)] [])),(.exit 2,(qS [(pP 1 4),(sP 29 gH),(sP 30 I64),(sP 31 I64),(sP 32 .bool)] [(4,(uL [(.row false d8),gH]))]))]⟩]⟩
def pB:Ctr:=⟨120,19,[.agg (uL [(.row false d8),gH])],[],[⟨(uL [.bool]),[.one],[]⟩],ap2 jR⟩
theorem tO:Lk 3 pB:=ls (C:=Cg) rfl (aC gR aN) (by kernel_rfl) fun h=>by kernel_rfl
def sb:T1J→Option (T1J⊕(LLI×Int×Int×Bool×T0P)):=fun(v0,v1,v2,v3,v4,v5,v6,_)=>
bif (decide (v2 < v1)) then ((dW v2).bind fun x0=>
(dH v6 x0).bind fun x1=>
(dH v6 x0).bind fun x2=>
let x3:=(List.modify v6 x0 fun e=>((-1),e.2));
let x4:=(w64 (v2+1));
some (.inl (v0,v1,x4,v3,v4,v5,x3,()))) else
some (.inr (v0,v1,v2,false,v3,v4,v5,v6,()))
def r9:T2F→Option (T2F⊕(LLI×Int×Int×LI×Int×Int×Bool×T16)):=fun(v0,v1,v2,v3,v4,v5,v6,v7,v8,v9,v10,_)=>
bif (decide (v5 < v4)) then ((dW v5).bind fun x0=>
(dH v3 x0).bind fun x1=>
let x2:LDCn:=[(0,(x1,(0,0)))];
bif (dV 24 (List.length v10) (List.length x2)) then let x3:LDCn:=(List.append v10 x2);
let x4:=(w64 (v5+1));
some (.inl (v0,v1,v2,v3,v4,x4,v6,v7,v8,v9,x3,())) else none) else
some (.inr (v0,v1,v2,v3,v4,v5,false,v6,v7,v8,v9,v10,()))
def r8:T1I→Option (T1I⊕(LLI×T1x)):=fun(v0,v1,v2,v3,v4,v5,v6,_)=>
bif (decide (v2 < v1)) then ((dW v2).bind fun x0=>
(dH v0 x0).bind fun x1=>
let x2:=(dK (List.length x1));
(dQ r9 NN (v0,v1,v2,x1,x2,0,v3,v4,v5,v6,[],())).bind fun(x3,x4,x5,x6,x7,x8,x9,ac,ae,af,ag,ah,_)=>
bif (dV 24 (List.length af) (List.length [ah])) then let ai:List LDCn:=(List.append af [ah]);
let aj:=(w64 (x5+1));
some (.inl (x3,x4,aj,ac,ae,ai,ag,())) else none) else
some (.inr (v0,v1,v2,false,v3,v4,v5,v6,()))
def oT(a0:List LI):Option (LLCn×LDOp×Int×Unit):=
bif (sQ 8 8 3) then let x0:LDOp:=(List.replicate 8 (0,(0,false)));
let x1:=(dK (List.length x0));
(dQ sb NN (a0,x1,0,(),(),(),x0,())).bind fun(x2,x3,x4,x5,x6,x7,x8,x9,_)=>
let ac:=(dK (List.length x2));
(dQ r8 NN (x2,ac,0,x6,x7,[],x9,())).bind fun(ae,af,ag,ah,ai,aj,ak,am,_)=>
(jR ak am).bind fun(an,_)=>
bif (!an) then (some ([],[],3,())) else
some (ak,am,0,()) else none
noncomputable def F6:X.Cfg:=⟨E0,[pB],[(46,(.row true KCn)),(47,(.row true KCn))],[(lx 4 0 [(sP 0 (.row false RW)),(pP 2 6),(pP 4 10),(sP 15 I64),(sP 16 I64)] [(6,(uL [N1,N1])),(10,(uL [N1,(.row true KOp)]))] 17),⟨19,1,(qS [(pP 2 6),(pP 4 10),(8,.pk ⟨19,0,[]⟩ [0,0]),(sP 25 (.row false RW)),(sP 26 I64),(sP 27 I64),(sP 31 RW),(sP 32 I64),(sP 33 I64)] [(6,(uL [N1,N1])),(10,(uL [(.row true (.row true KCn)),(.row true KOp)])),(19,(uL [(.row true KCn)]))]),[(.exit 4,(qS [(pP 2 6),(pP 4 10),(8,.pk ⟨19,0,[]⟩ [0,0]),(sP 25 (.row false RW)),(sP 26 I64),(sP 27 I64),(sP 31 RW),(sP 32 I64),(sP 33 I64),(sP 34 .bool)] [(6,(uL [N1,N1])),(10,(uL [(.row true (.row true KCn)),(.row true KOp)])),(19,(uL [(.row true KCn)]))]))]⟩,⟨11,2,(qS [(pP 2 6),(pP 4 10),(sP 25 (.row false RW)),(sP 26 I64),(sP 27 I64)] [(6,(uL [N1,N1])),(10,(uL [(.row true (.row true KCn)),(.row true KOp)]))]),[(.exit 2,(qS [(pP 2 6),(pP 4 10),(sP 25 (.row false RW)),(sP 26 I64),(sP 27 I64),(sP 28 .bool)] [(6,(uL [N1,N1])),(10,(uL [(.row true (.row true KCn)),(.row true KOp)]))]))]⟩]⟩
def zl:Ctr:=⟨125,20,(uL [(.row false RW)]),[],[⟨(uL [(.row true (.row true KCn)),(.row true KOp),I64]),[.agg 2,.one],[]⟩],ap1 oT⟩
theorem FU:Lk 4 zl:=ls (C:=F6) rfl (aC tO aN) (by kernel_rfl) fun h=>by kernel_rfl
def ft:LLI×Int×Int×LLI×Unit→Option ((LLI×Int×Int×LLI×Unit)⊕(LLI×Int×Int×Bool×LLI×Unit)):=fun(v0,v1,v2,v3,_)=>
bif (decide (v2 < v1)) then ((dW v2).bind fun x0=>
(dH v0 x0).bind fun x1=>
bif (dV 2 0 (List.length x1)) then let x2:List (Int):=(List.append [] x1);
bif (dV 24 (List.length v3) (List.length [x2])) then let x3:List LI:=(List.append v3 [x2]);
let x4:=(w64 (v2+1));
some (.inl (v0,v1,x4,x3,())) else none else none) else
some (.inr (v0,v1,v2,false,v3,()))
def fw(a0:List LI):Option (LLI×Unit):=
let x0:=(dK (List.length a0));
(dQ ft NN (a0,x0,0,[],())).bind fun(x1,x2,x3,x4,x5,_)=>
some (x5,())
noncomputable def tY:X.Cfg:=⟨E0,[],[(15,(.row true CW)),(16,(.row true CW))],[(lx 4 0 [(3,.pk ⟨9,0,[]⟩ [0,0]),(sP 6 (.row false RW)),(sP 7 I64),(sP 8 I64)] [(9,(uL [(.row true (.row true CW))]))] 9)]⟩
def ib:Ctr:=⟨122,21,(uL [(.row false RW)]),[],[⟨(uL [(.row true (.row true CW))]),[.one],[]⟩],ap1 fw⟩
theorem ki:Lk 1 ib:=ls (C:=tY) rfl aN (by kernel_rfl) fun h=>by kernel_rfl
def hZ:LDOu×T02→Option ((LDOu×T02)⊕((Bool×Unit)⊕(LDOu×T0e))):=fun(v0,v1,v2,_)=>
bif (decide (v2 < v1)) then ((dW v2).bind fun x0=>
(dH v0 x0).bind fun x1=>
(bif (x1.1 != v2) then (some (v0,v1,v2,true,())) else
bif (decide (x1.2.1 < 0)) then (some (v0,v1,v2,true,())) else
bif (decide (x1.2.1≥2)) then (some (v0,v1,v2,true,())) else
let x2:=(dK (List.length x1.2.2));
some (v0,v1,v2,(decide (x2 > 16)),()):Option (LDOu×T0e)).bind fun(x2,x3,x4,x5,_)=>
bif x5 then (some (.inr (.inl (false,())))) else
let x6:=(w64 (x4+1));
some (.inl (x2,x3,x6,()))) else
some (.inr (.inr (v0,v1,v2,false,())))
def jQ(a0:LDOu):Option (Bool×Unit):=
let x0:=(dK (List.length a0));
(match dQ hZ NN (a0,x0,0,()) with
| none=>none
| some (.inl (x1,_))=>
some (x1,())
| some (.inr (x1,x2,x3,x4,_))=>
some (true,()))
noncomputable def yJ:X.Cfg:=⟨E0,[],[],[⟨8,0,qE,[(.normal,(qS [(sP 5 iU),(sP 6 I64),(sP 7 I64),(sP 31 .bool)] []))]⟩,⟨3,1,(qS [(sP 5 iU),(sP 6 I64),(sP 7 I64)] []),[(.ret,(qS [(sP 2 .bool)] [])),(.exit 0,(qS [(sP 5 iU),(sP 6 I64),(sP 7 I64),(sP 8 .bool)] []))]⟩]⟩
def q9:Ctr:=⟨121,22,(uL [iU]),[],[⟨(uL [.bool]),[.one],[]⟩],ap1 jQ⟩
theorem yn:Lk 1 q9:=ls (C:=yJ) rfl aN (by kernel_rfl) fun h=>by kernel_rfl
def ja:T2g→Option (T2g⊕((Bool×Unit)⊕(LLI×T1Z))):=fun(v0,v1,v2,v3,v4,v5,v6,v7,v8,_)=>
bif (decide (v2 < v1)) then ((dW v2).bind fun x0=>
(dH v0 x0).bind fun x1=>
let x2:=(dK (List.length x1));
bif (decide (x2 > 64)) then (some (.inr (.inl (false,())))) else
let x3:=(w64 (v2+1));
some (.inl (v0,v1,x3,v3,v4,v5,v6,v7,v8,()))) else
some (.inr (.inr (v0,v1,v2,false,v3,v4,v5,v6,v7,v8,())))
def i9:T2a→Option (T2a⊕((Bool×Unit)⊕(LDOu×T1Z))):=fun(v0,v1,v2,v3,v4,v5,v6,v7,v8,_)=>
bif (decide (v2 < v1)) then ((dW v2).bind fun x0=>
(dH v0 x0).bind fun x1=>
(ff x1.2.2 16).bind fun(x2,_)=>
bif (!x2) then (some (.inr (.inl (false,())))) else
let x3:=(w64 (v2+1));
some (.inl (v0,v1,x3,v3,v4,v5,v6,v7,v8,()))) else
some (.inr (.inr (v0,v1,v2,false,v3,v4,v5,v6,v7,v8,())))
def iE(a0:List (Int)) (a1:List (Int)) (a2:List LI) (a3:List LDCn) (a4:LDOp) (a5:LDOu):Option (Bool×Unit):=
let x0:=(dK (List.length a2));
(match dQ ja NN (a2,x0,0,a0,a1,a2,a3,a4,a5,()) with
| none=>none
| some (.inl (x1,_))=>
some (x1,())
| some (.inr (x1,x2,x3,x4,x5,x6,x7,x8,x9,ac,_))=>
let ae:=(dK (List.length ac));
(match dQ i9 NN (ac,ae,0,x5,x6,x7,x8,x9,ac,()) with
| none=>none
| some (.inl (af,_))=>
some (af,())
| some (.inr (af,ag,ah,ai,aj,ak,am,an,ap,aq,_))=>
let av:=(dK (List.length aj));
bif (decide (av≤64)) then (let ax:Int:=(dK (List.length ak));
bif (decide (ax≤64)) then (let ay:Int:=(dK (List.length am));
bif (decide (ay≤2)) then ((jR an ap).bind fun(az,_)=>
bif az then (let aA:Int:=(dK (List.length aq));
bif (decide (aA≤200)) then ((jQ aq).bind fun(aB,_)=>
some (aB,())) else
some (false,())) else
some (false,())) else
some (false,())) else
some (false,())) else
some (false,())))
noncomputable def Cd:X.Cfg:=⟨E0,[gg,pB,q9],[],[⟨3,0,(qS [(pP 1 4),(sP 8 (.row false RW)),(sP 9 I64),(sP 10 I64)] [(4,(uL [RW,RW,(.row false RW),(.row false d8),gH,iU]))]),[(.ret,(qS [(sP 2 .bool)] [])),(.exit 0,(qS [(pP 1 4),(sP 8 (.row false RW)),(sP 9 I64),(sP 10 I64),(sP 11 .bool)] [(4,(uL [RW,RW,(.row false RW),(.row false d8),gH,iU]))]))]⟩,⟨12,1,(qS [(pP 1 4),(sP 19 iU),(sP 20 I64),(sP 21 I64)] [(4,(uL [RW,RW,(.row false RW),(.row false d8),gH,iU]))]),[(.ret,(qS [(sP 2 .bool)] [])),(.exit 2,(qS [(pP 1 4),(sP 19 iU),(sP 20 I64),(sP 21 I64),(sP 22 .bool)] [(4,(uL [RW,RW,(.row false RW),(.row false d8),gH,iU]))]))]⟩]⟩
def mr:Ctr:=⟨90,23,[.agg (uL [RW,RW,(.row false RW),(.row false d8),gH,iU])],[],[⟨(uL [.bool]),[.one],[]⟩],ap6 iE⟩
theorem pf:Lk 4 mr:=ls (C:=Cd) rfl (aC gR (aC tO (aC yn aN))) (by kernel_rfl) fun h=>by kernel_rfl
def oS(a0:List LI) (a1:List LI) (a2:List (Int)) (a3:List (Int)):Option (LI×LI×LLI×LLCn×LDOp×Unit×Int×Unit):=
(oT a0).bind fun(x0,x1,x2,_)=>
bif (x2 != 0) then (some ([],[],[],[],[],(),x2,())) else
bif (dV 2 0 (List.length a2)) then let x3:List (Int):=(List.append [] a2);
bif (dV 2 0 (List.length a3)) then let x4:List (Int):=(List.append [] a3);
(fw a1).bind fun(x5,_)=>
(iE x3 x4 x5 x0 x1 []).bind fun(x6,_)=>
bif (!x6) then (some ([],[],[],[],[],(),3,())) else
some (x3,x4,x5,x0,x1,(),0,()) else none else none
noncomputable def Ce:X.Cfg:=⟨E0,[zl,ib,mr],[],[]⟩
def uc:Ctr:=⟨95,24,(uL [(.row false RW),(.row false RW),RW,RW]),[],[⟨(uL [RW,RW,(.row false RW),(.row false d8),gH,N1,I64]),[.agg 6,.one],[]⟩],ap4 oS⟩
theorem BG:Lk 5 uc:=ls (C:=Ce) rfl (aC FU (aC ki (aC pf aN))) (by kernel_rfl) fun h=>by kernel_rfl
def ld(a0:List (Int)) (a1:Int):Option (LI×LI×LLI×LLCn×LDOp×Unit×T07):=
(fM 5 a0 a1).bind fun(x0,x1,x2,_)=>
(fM 3 x1 x2).bind fun(x3,x4,x5,_)=>
let x6:List LI:=[x0,x3];
(fM 8 x4 x5).bind fun(x7,x8,x9,_)=>
(fM 4 x8 x9).bind fun(ac,ae,af,_)=>
let ag:List LI:=[x7,ac];
(fM 5 ae af).bind fun(ah,ai,aj,_)=>
(fM 5 ai aj).bind fun(ak,am,an,_)=>
(oS x6 ag ah ak).bind fun(ap,aq,av,ax,ay,az,aA,_)=>
some (ap,aq,av,ax,ay,az,am,an,())
noncomputable def At:X.Cfg:=⟨E0,[ru,uc],[(10,(.row true CW)),(15,(.row true CW))],[]⟩
def sH:Ctr:=⟨55,25,[.ptr ⟨2,0,[]⟩ [0]],[(2,(uL [RI,I64]))],[⟨(uL [RW,RW,(.row false RW),(.row false d8),gH,N1]),[.agg 6],[(2,(uL [RI,I64]))]⟩],ap2 ld⟩
theorem zZ:Lk 6 sH:=ls (C:=At) rfl (aC we (aC BG aN)) (by kernel_rfl) fun h=>by kernel_rfl
def jh:T2I→Option (T2I⊕((Bool×Unit)⊕T2Q)):=fun(v0,v1,v2,v3,v4,v5,v6,v7,v8,v9,v10,v11,_)=>
bif (decide (v1 < v0)) then ((dW v1).bind fun x0=>
(dH v11 x0).bind fun x1=>
(dH v11 x0).bind fun x2=>
(bif (decide (x2 < 0)) then (some (v0,v1,true,v2,v3,v4,v5,v6,v7,v8,v9,v10,v11,())) else
bif (decide (x2≥8)) then (some (v0,v1,true,v2,v3,v4,v5,v6,v7,v8,v9,v10,v11,())) else
(dW v1).bind fun x3=>
bif (Nat.beq x3 0) then (bif (!v7) then (some (v0,v1,(x2 != 0),v2,v3,v4,v5,v6,v7,v8,v9,v10,v11,())) else
some (v0,v1,false,v2,v3,v4,v5,v6,v7,v8,v9,v10,v11,())) else
bif (Nat.beq x3 1) then (bif (!v8) then (some (v0,v1,(x2 != 0),v2,v3,v4,v5,v6,v7,v8,v9,v10,v11,())) else
some (v0,v1,false,v2,v3,v4,v5,v6,v7,v8,v9,v10,v11,())) else
bif (Nat.beq x3 2) then (bif (!v9) then (some (v0,v1,(x2 != 0),v2,v3,v4,v5,v6,v7,v8,v9,v10,v11,())) else
some (v0,v1,false,v2,v3,v4,v5,v6,v7,v8,v9,v10,v11,())) else
bif (Nat.beq x3 3) then bif (!v10) then (some (v0,v1,(x2 != 0),v2,v3,v4,v5,v6,v7,v8,v9,v10,v11,())) else
some (v0,v1,false,v2,v3,v4,v5,v6,v7,v8,v9,v10,v11,()) else none:Option (T2Q)).bind fun(x3,x4,x5,x6,x7,x8,x9,ac,ae,af,ag,ah,ai,_)=>
bif x5 then (some (.inr (.inl (false,())))) else
let aj:=(w64 (x4+1));
some (.inl (x3,aj,x6,x7,x8,x9,ac,ae,af,ag,ah,ai,()))) else
some (.inr (.inr (v0,v1,false,v2,v3,v4,v5,v6,v7,v8,v9,v10,v11,())))
def mb(a0:Int) (a1:Int) (a2:Int) (a3:Int) (a4:Int):Option (Bool×Unit):=
bif (decide (a0 < 0)) then (some (false,())) else
bif (decide (a0 > 24)) then (some (false,())) else
(jA a0).bind fun(x0,x1,x2,x3,_)=>
let x4:List (Int):=[a1,a2,a3];
let x5:=(dK (List.length x4));
(match dQ jh NN (x5,0,a0,a1,a2,a3,a4,x0,x1,x2,x3,x4,()) with
| none=>none
| some (.inl (x6,_))=>
some (x6,())
| some (.inr (x6,x7,x8,x9,ac,ae,af,ag,ah,ai,aj,ak,am,_))=>
(bif (decide (ag < 0)) then (some (true,x9,ac,ae,af,ag,())) else
bif (decide (ag > 65535)) then (some (true,x9,ac,ae,af,ag,())) else
bif (!ak) then (some ((ag != 0),x9,ac,ae,af,ag,())) else
some (false,x9,ac,ae,af,ag,()):Option (Bool×T0U)).bind fun(an,ap,aq,av,ax,ay,_)=>
bif an then (some (false,())) else
(gJ ap).bind fun(az,_)=>
bif az then (some ((decide (ay < 64)),())) else
bif (ap==15) then (some ((decide (ay < 4)),())) else
bif (ap==23) then (some ((decide (ay≤15)),())) else
some (true,()))
noncomputable def CA:X.Cfg:=⟨E0,[rl,jG],[],[⟨12,0,qE,[(.normal,(qS [(pP 1 4),(pP 3 8),(23,.pk ⟨49,0,[]⟩ [0,0]),(sP 24 I64),(sP 25 I64),(sP 45 .bool)] [(4,(uL [I64,I64,I64,I64,I64])),(8,(uL [.bool,.bool,.bool,.bool])),(49,(uL [(.row true I64)]))]))]⟩,⟨7,1,(qS [(pP 1 4),(pP 3 8),(23,.pk ⟨49,0,[]⟩ [0,0]),(sP 24 I64),(sP 25 I64)] [(4,(uL [I64,I64,I64,I64,I64])),(8,(uL [.bool,.bool,.bool,.bool])),(49,(uL [(.row true I64)]))]),[(.ret,(qS [(sP 2 .bool)] [])),(.exit 0,(qS [(pP 1 4),(pP 3 8),(23,.pk ⟨49,0,[]⟩ [0,0]),(sP 24 I64),(sP 25 I64),(sP 26 .bool)] [(4,(uL [I64,I64,I64,I64,I64])),(8,(uL [.bool,.bool,.bool,.bool])),(49,(uL [(.row true I64)]))]))]⟩,⟨15,2,qE,[(.normal,(qS [(pP 1 4),(sP 64 .bool)] [(4,(uL [I64,I64,I64,I64,I64]))]))]⟩]⟩
def uq:Ctr:=⟨137,26,[.agg (uL [I64,I64,I64,I64,I64])],[],[⟨(uL [.bool]),[.one],[]⟩],ap5 mb⟩
theorem BU:Lk 2 uq:=ls (C:=CA) rfl (aC vZ (aC lE aN)) (by kernel_rfl) fun h=>by kernel_rfl
def jg:LLI×T0V→Option ((LLI×T0V)⊕((Int×Unit)⊕(LLI×T1a))):=fun(v0,v1,v2,v3,v4,v5,_)=>
bif (decide (v2 < v1)) then ((dW v2).bind fun x0=>
(dH v0 x0).bind fun x1=>
let x2:=(dK (List.length x1));
(dW v2).bind fun x3=>
(dH v4 x3).bind fun x4=>
bif (decide (x2 > x4)) then (some (.inr (.inl (1,())))) else
let x5:=(w64 (v2+1));
some (.inl (v0,v1,x5,v3,v4,v5,()))) else
some (.inr (.inr (v0,v1,v2,false,v3,v4,v5,())))
def jf:T1k→Option (T1k⊕((Int×Unit)⊕T1F)):=fun(v0,v1,v2,v3,v4,v5,_)=>
bif (decide (v2 < v1)) then ((dW v2).bind fun x0=>
(dH v0 x0).bind fun x1=>
(mb x1.1 x1.2.1 x1.2.2.1 x1.2.2.2.1 x1.2.2.2.2).bind fun(x2,_)=>
bif (!x2) then (some (.inr (.inl (5,())))) else
let x3:=(w64 (v2+1));
some (.inl (v0,v1,x3,v3,v4,v5,()))) else
some (.inr (.inr (v0,v1,v2,false,v3,v4,v5,())))
def je:T1k→Option (T1k⊕((Int×Unit)⊕T1F)):=fun(v0,v1,v2,v3,v4,v5,_)=>
bif (decide (v2 < v1)) then ((dW v2).bind fun x0=>
(dH v0 x0).bind fun x1=>
((gJ x1.1).bind fun(x2,_)=>
bif x2 then (let x3:Int:=(dK (List.length v3));
bif (decide (x1.2.2.2.2≥x3)) then (some (v0,v1,v2,true,v3,v4,v5,())) else
bif (x1.1==15) then (let x4:Int:=(dK (List.length v4));
some (v0,v1,v2,(decide (x1.2.2.2.2≥x4)),v3,v4,v5,())) else
some (v0,v1,v2,false,v3,v4,v5,())) else
bif (x1.1==15) then (let x3:Int:=(dK (List.length v4));
some (v0,v1,v2,(decide (x1.2.2.2.2≥x3)),v3,v4,v5,())) else
some (v0,v1,v2,false,v3,v4,v5,()):Option (T1F)).bind fun(x2,x3,x4,x5,x6,x7,x8,_)=>
bif x5 then (some (.inr (.inl (6,())))) else
let x9:=(w64 (x4+1));
some (.inl (x2,x3,x9,x6,x7,x8,()))) else
some (.inr (.inr (v0,v1,v2,false,v3,v4,v5,())))
def iG(a0:LDIn) (a1:List (Int)) (a2:List LI):Option (Int×Unit):=
(gN a1).bind fun(x0,_)=>
bif (!x0) then (some (1,())) else
let x1:=(dK (List.length a2));
let x2:=(dK (List.length a1));
bif (x1 != x2) then (some (1,())) else
let x3:=(dK (List.length a2));
(match dQ jg NN (a2,x3,0,a0,a1,a2,()) with
| none=>none
| some (.inl (x4,_))=>
some (x4,())
| some (.inr (x4,x5,x6,x7,x8,x9,ac,_))=>
let ae:=(dK (List.length x8));
bif (decide (ae < 1)) then (some (3,())) else
let af:=(dK (List.length x8));
bif (decide (af > 64)) then (some (3,())) else
let ag:=(dK (List.length x8));
(match dQ jf NN (x8,ag,0,x8,x9,ac,()) with
| none=>none
| some (.inl (ah,_))=>
some (ah,())
| some (.inr (ah,ai,aj,ak,am,an,ap,_))=>
let aq:=(dK (List.length am));
(match dQ je NN (am,aq,0,am,an,ap,()) with
| none=>none
| some (.inl (av,_))=>
some (av,())
| some (.inr (av,ax,ay,az,aA,aB,aD,_))=>
some (0,()))))
noncomputable def Cz:X.Cfg:=⟨E0,[mz,uq,jG],[],[⟨6,0,(qS [(pP 1 4),(sP 23 (.row false RW)),(sP 24 I64),(sP 25 I64)] [(4,(uL [fb,RI,(.row false RW)]))]),[(.ret,(qS [(sP 2 I64)] [])),(.exit 0,(qS [(pP 1 4),(sP 23 (.row false RW)),(sP 24 I64),(sP 25 I64),(sP 26 .bool)] [(4,(uL [fb,RI,(.row false RW)]))]))]⟩,⟨18,1,(qS [(pP 1 4),(sP 50 fb),(sP 51 I64),(sP 52 I64)] [(4,(uL [fb,RI,(.row false RW)]))]),[(.ret,(qS [(sP 2 I64)] [])),(.exit 2,(qS [(pP 1 4),(sP 50 fb),(sP 51 I64),(sP 52 I64),(sP 53 .bool)] [(4,(uL [fb,RI,(.row false RW)]))]))]⟩,⟨32,2,qE,[(.normal,(qS [(pP 1 4),(sP 61 fb),(sP 62 I64),(sP 63 I64),(sP 90 .bool)] [(4,(uL [fb,RI,(.row false RW)]))]))]⟩,⟨27,3,(qS [(pP 1 4),(sP 61 fb),(sP 62 I64),(sP 63 I64)] [(4,(uL [fb,RI,(.row false RW)]))]),[(.ret,(qS [(sP 2 I64)] [])),(.exit 4,(qS [(pP 1 4),(sP 61 fb),(sP 62 I64),(sP 63 I64),(sP 64 .bool)] [(4,(uL [fb,RI,(.row false RW)]))]))]⟩]⟩
def mu:Ctr:=⟨103,27,[.agg (uL [fb,RI,(.row false RW)])],[],[⟨(uL [I64]),[.one],[]⟩],ap3 iG⟩
theorem pj:Lk 3 mu:=ls (C:=Cz) rfl (aC po (aC BU (aC lE aN))) (by kernel_rfl) fun h=>by kernel_rfl
def jk:T2D→Option (T2D⊕((Bool×Unit)⊕T2O)):=fun(v0,v1,v2,v3,v4,v5,v6,v7,v8,v9,v10,_)=>
bif (decide (v8 < v7)) then ((match ((dW v8).bind fun x0=>
(dH v6 x0).bind fun x1=>
(dW v1).bind fun x2=>
(dH v0 x2).bind fun x3=>
let x4:=(w64 (v2+x3));
bif (decide (x4≥x1)) then ((dW v8).bind fun x5=>
(dH v0 x5).bind fun x6=>
let x7:=(w64 (x1+x6));
bif (decide (x7≥v2)) then (some (.inl (false,()))) else
some (.inr (v0,v1,v2,v3,v4,v5,v6,v7,v8,false,v9,v10,()))) else
some (.inr (v0,v1,v2,v3,v4,v5,v6,v7,v8,false,v9,v10,())):Option ((Bool×Unit)⊕T2O)) with
| none=>none
| some (.inl (x0,_))=>
some (.inr (.inl (x0,())))
| some (.inr (x0,x1,x2,x3,x4,x5,x6,x7,x8,x9,ac,ae,_))=>
let af:=(w64 (x8+1));
some (.inl (x0,x1,x2,x3,x4,x5,x6,x7,af,ac,ae,())))) else
some (.inr (.inr (v0,v1,v2,v3,v4,v5,v6,v7,v8,false,v9,v10,())))
def jj:T1o→Option (T1o⊕((Bool×Unit)⊕(LI×T1m))):=fun(v0,v1,v2,v3,v4,v5,_)=>
bif (decide (v3 < v2)) then ((dW v3).bind fun x0=>
(dH v1 x0).bind fun x1=>
bif (decide (x1 < 0)) then (some (.inr (.inl (false,())))) else
(dW v3).bind fun x2=>
(dH v0 x2).bind fun x3=>
let x4:=(w64 (512 - x3));
bif (decide (x1 > x4)) then (some (.inr (.inl (false,())))) else
(dW v3).bind fun x5=>
bif (hY 0 x5 (List.length v4)) then let x6:List (Int):=(nv v4 0 (Nat.sub x5 0));
let x7:=(dK (List.length x6));
(match dQ jk NN (v0,v3,x1,v1,v2,v3,x6,x7,0,v4,v5,()) with
| none=>none
| some (.inl (x8,_))=>
some (.inr (.inl (x8,())))
| some (.inr (x8,x9,ac,ae,af,ag,ah,ai,aj,ak,am,an,_))=>
let ap:=(w64 (ag+1));
some (.inl (x8,ae,af,ap,am,an,()))) else none) else
some (.inr (.inr (v0,v1,v2,v3,false,v4,v5,())))
def gL(a0:List (Int)) (a1:Int) (a2:List (Int)):Option (Bool×Unit):=
(gN a2).bind fun(x0,_)=>
bif (!x0) then (some (false,())) else
let x1:=(dK (List.length a0));
let x2:=(dK (List.length a2));
bif (x1 != x2) then (some (false,())) else
let x3:=(dK (List.length a0));
(match dQ jj NN (a2,a0,x3,0,a0,a1,()) with
| none=>none
| some (.inl (x4,_))=>
some (x4,())
| some (.inr (x4,x5,x6,x7,x8,x9,ac,_))=>
some (true,()))
noncomputable def CH:X.Cfg:=⟨E0,[mz],[],[⟨18,0,qE,[(.ret,(qS [(sP 4 .bool)] [])),(.normal,(qS [(sP 1 RI),(pP 2 6),(sP 5 I64),(sP 6 I64),(sP 21 RI),(sP 22 I64),(sP 23 I64),(sP 42 RI),(sP 43 I64),(sP 44 I64),(sP 66 .bool)] [(6,(uL [RI,CW]))]))]⟩,⟨15,1,(qS [(sP 1 RI),(pP 2 6),(sP 5 I64),(sP 6 I64),(sP 21 RI),(sP 22 I64),(sP 23 I64),(sP 42 RI),(sP 43 I64),(sP 44 I64)] [(6,(uL [RI,CW]))]),[(.ret,(qS [(sP 4 .bool)] [])),(.exit 2,(qS [(sP 1 RI),(pP 2 6),(sP 5 I64),(sP 6 I64),(sP 21 RI),(sP 22 I64),(sP 23 I64),(sP 42 RI),(sP 43 I64),(sP 44 I64),(sP 45 .bool)] [(6,(uL [RI,CW]))]))]⟩,⟨6,2,(qS [(sP 1 RI),(pP 2 6),(sP 21 RI),(sP 22 I64),(sP 23 I64)] [(6,(uL [RI,CW]))]),[(.ret,(qS [(sP 4 .bool)] [])),(.exit 0,(qS [(sP 1 RI),(pP 2 6),(sP 21 RI),(sP 22 I64),(sP 23 I64),(sP 24 .bool)] [(6,(uL [RI,CW]))]))]⟩]⟩
def kv:Ctr:=⟨61,28,[.agg (uL [RI,CW]),shU RI],[],[⟨(uL [.bool]),[.one],[]⟩],ap3 gL⟩
theorem mo:Lk 2 kv:=ls (C:=CH) rfl (aC po aN) (by kernel_rfl) fun h=>by kernel_rfl
def wU:T0g→Option (T0g⊕(Int×Int×Bool×LDLn×Unit)):=fun(v0,v1,v2,_)=>
bif (decide (v1 < v0)) then ((dW v1).bind fun x0=>
(dH v2 x0).bind fun x1=>
(dH v2 x0).bind fun x2=>
let x3:=(List.modify v2 x0 fun e=>((-1),e.2));
let x4:=(w64 (v1+1));
some (.inl (v0,x4,x3,()))) else
some (.inr (v0,v1,false,v2,()))
def j6:Option (LDLn×Unit):=
bif (sQ 4 4 3) then let x0:LDLn:=(List.replicate 4 (0,(false,[])));
let x1:=(dK (List.length x0));
(dQ wU NN (x1,0,x0,())).bind fun(x2,x3,x4,x5,_)=>
some (x5,()) else none
noncomputable def CG:X.Cfg:=⟨E0,[],[(3,O0)],[(lx 4 0 [(1,.pk ⟨5,0,[]⟩ [0,0]),(sP 5 I64),(sP 6 I64)] [(5,(uL [iP]))] 7)]⟩
def mw:Ctr:=⟨48,29,[],[],[⟨(uL [iP]),[.one],[]⟩],fun h=>j6⟩
theorem pm:Lk 1 mw:=ls (C:=CG) rfl aN (by kernel_rfl) fun h=>by kernel_rfl
def qw:T35→Option (T35⊕(Int×LLI×Int×Int×LI×T2H)):=fun(v0,v1,v2,v3,v4,v5,v6,v7,v8,v9,v10,v11,v12,v13,v14,v15,_)=>
bif (decide (v6 < v5)) then ((dW v6).bind fun x0=>
(dH v4 x0).bind fun x1=>
(dW v0).bind fun x2=>
(dH v10 x2).bind fun x3=>
let x4:=(w64 (x3+v6));
(dW x4).bind fun x5=>
(dH v14 x5).bind fun x6=>
(dH v14 x5).bind fun x7=>
let x8:=(List.modify v14 x5 fun e=>(e.1,x1));
let x9:=(w64 (v6+1));
some (.inl (v0,v1,v2,v3,v4,v5,x9,v7,v8,v9,v10,v11,v12,v13,x8,v15,()))) else
some (.inr (v0,v1,v2,v3,v4,v5,v6,false,v7,v8,v9,v10,v11,v12,v13,v14,v15,()))
def mW:T2P→Option (T2P⊕(T0k⊕T2U)):=fun(v0,v1,v2,v3,v4,v5,v6,v7,v8,v9,v10,v11,_)=>
bif (decide (v2 < v1)) then ((dW v2).bind fun x0=>
(dH v0 x0).bind fun x1=>
let x2:=(dK (List.length x1));
(dW v2).bind fun x3=>
(dH v4 x3).bind fun x4=>
bif (decide (x2 > x4)) then (some (.inr (.inl (1,(),(),())))) else
let x5:=(dK (List.length x1));
(dQ qw NN (v2,v0,v1,v2,x1,x5,0,v3,v4,v5,v6,v7,v8,v9,v10,v11,())).bind fun(x6,x7,x8,x9,ac,ae,af,ag,ah,ai,aj,ak,am,an,ap,aq,av,_)=>
let ax:=(w64 (x9+1));
some (.inl (x7,x8,ax,ah,ai,aj,ak,am,an,ap,aq,av,()))) else
some (.inr (.inr (v0,v1,v2,false,v3,v4,v5,v6,v7,v8,v9,v10,v11,())))
def nK(a0:LDIn) (a1:List (Int)) (a2:List LI) (a3:List (Int)) (a4:Int):Option (T0m):=
(gL a3 a4 a1).bind fun(x0,_)=>
bif (!x0) then (some ([],[],1,())) else
let x1:=(dK (List.length a2));
let x2:=(dK (List.length a1));
bif (x1 != x2) then (some ([],[],1,())) else
bif (sQ 512 512 2) then let x3:LDCe:=(List.replicate 512 (0,0));
(j6).bind fun(x4,_)=>
let x5:=(dK (List.length a2));
(match dQ mW NN (a2,x5,0,a0,a1,a2,a3,a4,(),(),x3,x4,()) with
| none=>none
| some (.inl (x6,x7,x8,_))=>
some ([],[],x6,())
| some (.inr (x6,x7,x8,x9,ac,ae,af,ag,ah,ai,aj,ak,am,_))=>
some (ak,am,0,())) else none
noncomputable def EQ:X.Cfg:=⟨E0,[kv,mw],[],[⟨16,0,(qS [(pP 2 6),(pP 3 8),(pP 4 10),(pP 6 14),(sP 7 I64),(sP 30 (.row false RW)),(sP 31 I64),(sP 32 I64),(sP 46 RW),(sP 47 I64),(sP 48 I64)] [(6,(uL [fb,RI,(.row false RW)])),(8,(uL [RI,CW])),(10,(uL [N1,N1])),(14,(uL [(.row true KCe),iP]))]),[(.exit 2,(qS [(pP 2 6),(pP 3 8),(pP 4 10),(pP 6 14),(sP 7 I64),(sP 30 (.row false RW)),(sP 31 I64),(sP 32 I64),(sP 46 RW),(sP 47 I64),(sP 48 I64),(sP 49 .bool)] [(6,(uL [fb,RI,(.row false RW)])),(8,(uL [RI,CW])),(10,(uL [N1,N1])),(14,(uL [(.row true KCe),iP]))]))]⟩,⟨7,1,(qS [(pP 2 6),(pP 3 8),(pP 4 10),(pP 6 14),(sP 30 (.row false RW)),(sP 31 I64),(sP 32 I64)] [(6,(uL [fb,RI,(.row false RW)])),(8,(uL [RI,CW])),(10,(uL [N1,N1])),(14,(uL [(.row true KCe),iP]))]),[(.ret,(qS [(pP 4 10),(sP 5 I64)] [(10,(uL [N1,N1]))])),(.exit 0,(qS [(pP 2 6),(pP 3 8),(pP 4 10),(pP 6 14),(sP 30 (.row false RW)),(sP 31 I64),(sP 32 I64),(sP 33 .bool)] [(6,(uL [fb,RI,(.row false RW)])),(8,(uL [RI,CW])),(10,(uL [N1,N1])),(14,(uL [(.row true KCe),iP]))]))]⟩]⟩
def wJ:Ctr:=⟨119,30,[.agg (uL [fb,RI,(.row false RW)]),.agg (uL [RI,CW])],[],[⟨(uL [(.row true KCe),iP,I64]),[.agg 2,.one],[]⟩],ap5 nK⟩
theorem D9:Lk 3 wJ:=ls (C:=EQ) rfl (aC mo (aC pm aN)) (by kernel_rfl) fun h=>by kernel_rfl
def pV:T2y→Option (T2y⊕(Int×Bool×T2u)):=fun(v0,v1,v2,v3,v4,v5,v6,v7,v8,v9,v10,_)=>
bif (decide (v0 < 4)) then (bif (sQ 8 8 2) then let x0:LDCe:=(List.replicate 8 (0,0));
(bif (v0==0) then (some (v0,v1,v2,v3,v4,v5,v6,v7,v8,v9,v10,1,x0,0,0,(-1),(-1),0,0,())) else
some (v0,v1,v2,v3,v4,v5,v6,v7,v8,v9,v10,0,x0,0,0,(-1),(-1),0,0,()):Option (Int×Unit×Int×Unit×Unit×Unit×T2S)).bind fun(x1,x2,x3,x4,x5,x6,x7,x8,x9,ac,ae,af,ag,ah,ai,aj,ak,am,an,_)=>
let ap:LDTh:=[(af,(ag,(ah,(ai,(aj,(ak,(am,an)))))))];
bif (dV 80 (List.length ae) (List.length ap)) then let aq:LDTh:=(List.append ae ap);
let av:=(w64 (x1+1));
some (.inl (av,x2,x3,x4,x5,x6,x7,x8,x9,ac,aq,())) else none else none) else
some (.inr (v0,false,v1,v2,v3,v4,v5,v6,v7,v8,v9,v10,()))
def ma(a0:LDIn) (a1:List (Int)) (a2:List LI) (a3:List (Int)) (a4:Int):Option (LI×Int×LDCe×LDLn×LDTh×Int×Unit):=
(iG a0 a1 a2).bind fun(x0,_)=>
bif (x0 != 0) then (some ([],0,[],[],[],x0,())) else
(gL a3 a4 a1).bind fun(x1,_)=>
bif (!x1) then (some ([],0,[],[],[],1,())) else
(nK a0 a1 a2 a3 a4).bind fun(x2,x3,x4,_)=>
bif (dV 8 0 (List.length a3)) then let x5:List (Int):=(List.append [] a3);
(dQ pV NN (0,(),0,(),(),(),x5,a4,x2,x3,[],())).bind fun(x6,x7,x8,x9,ac,ae,af,ag,ah,ai,aj,ak,_)=>
some (ag,ah,ai,aj,ak,0,()) else none
noncomputable def Cy:X.Cfg:=⟨E0,[mu,kv,wJ],[(49,OZ),(50,OZ)],[⟨18,0,qE,[(.normal,(qS [(pP 4 10),(pP 9 20),(pP 11 24),(sP 38 I64)] [(10,(uL [N1,CW,N1,N1,N1])),(20,(uL [RI,CW,eJ,eX,qi])),(24,(uL [I64,(.row true KCe),I64,I64,I64,I64,I64,CW]))]))]⟩,(lx 12 1 [(pP 4 10),(pP 9 20),(sP 38 I64)] [(10,(uL [N1,CW,N1,N1,N1])),(20,(uL [RI,CW,eJ,eX,qi]))] 39)]⟩
def up:Ctr:=⟨89,31,[.agg (uL [fb,RI,(.row false RW)]),.agg (uL [RI,CW])],[],[⟨(uL [RI,CW,eJ,eX,qi,I64]),[.agg 5,.one],[]⟩],ap5 ma⟩
theorem BT:Lk 4 up:=ls (C:=Cy) rfl (aC pj (aC mo (aC D9 aN))) (by kernel_rfl) fun h=>by kernel_rfl
def fr(a0:List (Int)) (a1:Int) (a2:Int):Option (Bool×Unit):=
bif (decide (a1≥0)) then (let x0:Int:=(dK (List.length a0));
bif (decide (a1 < x0)) then (bif (decide (a2≥0)) then ((dW a1).bind fun x1=>
(dH a0 x1).bind fun x2=>
some ((decide (a2 < x2)),())) else
some (false,())) else
some (false,())) else
some (false,())
noncomputable def Am:X.Cfg:=⟨E0,[],[],[]⟩
def i5:Ctr:=⟨107,32,[shU RI,.agg (uL [I64,I64])],[],[⟨(uL [.bool]),[.one],[]⟩],ap3 fr⟩
theorem lk:Lk 1 i5:=ls (C:=Am) rfl aN (by kernel_rfl) fun h=>by kernel_rfl
def gj(a0:List (Int)) (a1:Int) (a2:Int) (a3:Int) (a4:Int):Option (Bool×Unit):=
bif (a1==0) then (bif (a3==0) then (some ((a4==0),())) else
some (false,())) else
bif (a1==2) then (bif (a3==0) then (some ((a4==0),())) else
some (false,())) else
bif (a1==1) then (bif (a2==0) then ((fr a0 a3 a4).bind fun(x0,_)=>
some (x0,())) else
some (false,())) else
some (false,())
noncomputable def Al:X.Cfg:=⟨E0,[i5],[],[]⟩
def i4:Ctr:=⟨63,33,[shU RI,.agg (uL [CB,CW,I64,I64])],[],[⟨(uL [.bool]),[.one],[]⟩],ap5 gj⟩
theorem lj:Lk 2 i4:=ls (C:=Al) rfl (aC lk aN) (by kernel_rfl) fun h=>by kernel_rfl
def iD:T2e→Option (T2e⊕((Bool×Unit)⊕(LI×LLCn×Int×Int×LDCn×T0T))):=fun(v0,v1,v2,v3,v4,v5,v6,v7,v8,_)=>
bif (decide (v6 < v5)) then ((dW v6).bind fun x0=>
(dH v4 x0).bind fun x1=>
(gj v0 x1.1 x1.2.1 x1.2.2.1 x1.2.2.2).bind fun(x2,_)=>
bif (!x2) then (some (.inr (.inl (false,())))) else
let x3:=(w64 (v6+1));
some (.inl (v0,v1,v2,v3,v4,v5,x3,v7,v8,()))) else
some (.inr (.inr (v0,v1,v2,v3,v4,v5,v6,false,v7,v8,())))
def iC:LI×T13→Option ((LI×T13)⊕((Bool×Unit)⊕(LI×LLCn×T0T))):=fun(v0,v1,v2,v3,v4,v5,_)=>
bif (decide (v3 < v2)) then ((dW v3).bind fun x0=>
(dH v1 x0).bind fun x1=>
let x2:=(dK (List.length x1));
(match dQ iD NN (v0,v1,v2,v3,x1,x2,0,v4,v5,()) with
| none=>none
| some (.inl (x3,_))=>
some (.inr (.inl (x3,())))
| some (.inr (x3,x4,x5,x6,x7,x8,x9,ac,ae,af,_))=>
let ag:=(w64 (x6+1));
some (.inl (x3,x4,x5,ag,ae,af,())))) else
some (.inr (.inr (v0,v1,v2,v3,false,v4,v5,())))
def kW(a0:List (Int)) (a1:List LDCn) (a2:LDOp):Option (Bool×Unit):=
let x0:=(dK (List.length a1));
(match dQ iC NN (a0,a1,x0,0,a1,a2,()) with
| none=>none
| some (.inl (x1,_))=>
some (x1,())
| some (.inr (x1,x2,x3,x4,x5,x6,x7,_))=>
some (true,()))
noncomputable def Ad:X.Cfg:=⟨E0,[i4],[],[⟨9,0,(qS [(sP 0 RI),(sP 10 (.row false d8)),(sP 11 I64),(sP 12 I64),(sP 16 d8),(sP 17 I64),(sP 18 I64)] [(8,(uL [(.row false d8),gH]))]),[(.ret,(qS [(sP 4 .bool)] [])),(.exit 2,(qS [(sP 0 RI),(sP 10 (.row false d8)),(sP 11 I64),(sP 12 I64),(sP 16 d8),(sP 17 I64),(sP 18 I64),(sP 19 .bool)] [(8,(uL [(.row false d8),gH]))]))]⟩,⟨3,1,(qS [(sP 0 RI),(sP 10 (.row false d8)),(sP 11 I64),(sP 12 I64)] [(8,(uL [(.row false d8),gH]))]),[(.ret,(qS [(sP 4 .bool)] [])),(.exit 0,(qS [(sP 0 RI),(sP 10 (.row false d8)),(sP 11 I64),(sP 12 I64),(sP 13 .bool)] [(8,(uL [(.row false d8),gH]))]))]⟩]⟩
def su:Ctr:=⟨91,34,[shU RI,.agg (uL [(.row false d8),gH])],[],[⟨(uL [.bool]),[.one],[]⟩],ap3 kW⟩
theorem zO:Lk 3 su:=ls (C:=Ad) rfl (aC lj aN) (by kernel_rfl) fun h=>by kernel_rfl
def im:T2f→Option (T2f⊕(LLCn×T21)):=fun(v0,v1,v2,v3,v4,v5,v6,v7,v8,_)=>
bif (decide (v2 < v1)) then ((dW v2).bind fun x0=>
(dH v0 x0).bind fun x1=>
bif (dV 24 0 (List.length x1)) then let x2:LDCn:=(List.append [] x1);
bif (dV 24 (List.length v7) (List.length [x2])) then let x3:List LDCn:=(List.append v7 [x2]);
let x4:=(w64 (v2+1));
some (.inl (v0,v1,x4,v3,v4,v5,v6,x3,v8,())) else none else none) else
some (.inr (v0,v1,v2,false,v3,v4,v5,v6,v7,v8,()))
def fL(a0:List LDCn) (a1:LDOp):Option (T09):=
bif (dV 24 0 (List.length a1)) then let x0:LDOp:=(List.append [] a1);
let x1:=(dK (List.length a0));
(dQ im NN (a0,x1,0,a0,a1,(),(),[],x0,())).bind fun(x2,x3,x4,x5,x6,x7,x8,x9,ac,ae,_)=>
some (ac,ae,()) else none
noncomputable def Eu:X.Cfg:=⟨E0,[],[(21,(.row true KCn)),(22,(.row true KCn))],[(lx 4 0 [(pP 2 6),(pP 3 8),(sP 11 (.row false d8)),(sP 12 I64),(sP 13 I64)] [(4,(uL [(.row false d8),gH])),(6,(uL [N1,N1])),(8,(uL [(.row true (.row true KCn)),(.row true KOp)]))] 14)]⟩
def iy:Ctr:=⟨123,35,[.agg (uL [(.row false d8),gH])],[],[⟨(uL [(.row true (.row true KCn)),(.row true KOp)]),[.agg 2],[]⟩],ap2 fL⟩
theorem jD:Lk 1 iy:=ls (C:=Eu) rfl aN (by kernel_rfl) fun h=>by kernel_rfl
def ij:LDOu×Int×Int×LDOu×Unit→Option ((LDOu×Int×Int×LDOu×Unit)⊕(LDOu×Int×Int×Bool×LDOu×Unit)):=fun(v0,v1,v2,v3,_)=>
bif (decide (v2 < v1)) then ((dW v2).bind fun x0=>
(dH v0 x0).bind fun x1=>
bif (dV 24 0 (List.length x1.2.2)) then let x2:LDCn:=(List.append [] x1.2.2);
let x3:LDOu:=[(x1.1,(x1.2.1,x2))];
bif (dV 40 (List.length v3) (List.length x3)) then let x4:LDOu:=(List.append v3 x3);
let x5:=(w64 (v2+1));
some (.inl (v0,v1,x5,x4,())) else none else none) else
some (.inr (v0,v1,v2,false,v3,()))
def ju(a0:LDOu):Option (LDOu×Unit):=
let x0:=(dK (List.length a0));
(dQ ij NN (a0,x0,0,[],())).bind fun(x1,x2,x3,x4,x5,_)=>
some (x5,())
noncomputable def Eo:X.Cfg:=⟨E0,[],[(18,GR),(19,GR)],[(lx 4 0 [(3,.pk ⟨9,0,[]⟩ [0,0]),(sP 6 iU),(sP 7 I64),(sP 8 I64)] [(9,(uL [(.row true GR)]))] 9)]⟩
def ra:Ctr:=⟨124,36,(uL [iU]),[],[⟨(uL [(.row true GR)]),[.one],[]⟩],ap1 ju⟩
theorem vR:Lk 1 ra:=ls (C:=Eo) rfl aN (by kernel_rfl) fun h=>by kernel_rfl
def lu(a0:List (Int)) (a1:List (Int)) (a2:List LI) (a3:List LDCn) (a4:LDOp) (a5:LDOu):Option (T1p):=
bif (dV 2 0 (List.length a0)) then let x0:List (Int):=(List.append [] a0);
bif (dV 2 0 (List.length a1)) then let x1:List (Int):=(List.append [] a1);
(fw a2).bind fun(x2,_)=>
(fL a3 a4).bind fun(x3,x4,_)=>
(ju a5).bind fun(x5,_)=>
some (x0,x1,x2,x3,x4,x5,()) else none else none
noncomputable def El:X.Cfg:=⟨E0,[ib,iy,ra],[],[]⟩
def q7:Ctr:=⟨92,37,[.agg (uL [RW,RW,(.row false RW),(.row false d8),gH,iU])],[],[⟨(uL [(.row true CW),(.row true CW),(.row true (.row true CW)),(.row true (.row true KCn)),(.row true KOp),(.row true GR)]),[.agg 6],[]⟩],ap6 lu⟩
theorem vQ:Lk 2 q7:=ls (C:=El) rfl (aC ki (aC jD (aC vR aN))) (by kernel_rfl) fun h=>by kernel_rfl
def zG:T1f→Option (T1f⊕T1w):=fun(v0,v1,v2,v3,v4,v5,_)=>
bif (decide (v1 < v0)) then ((dW v1).bind fun x0=>
(dH v4 x0).bind fun x1=>
(dH v4 x0).bind fun x2=>
let x3:=(List.modify v4 x0 fun e=>(-1));
let x4:=(w64 (v1+1));
some (.inl (v0,x4,v2,v3,x3,v5,()))) else
some (.inr (v0,v1,false,v2,v3,v4,v5,()))
def sK:Option (T08):=
bif (sQ 4 4 1) then let x0:List (Int):=(List.replicate 4 0);
bif (sQ 4 4 1) then let x1:List LI:=(List.replicate 4 []);
let x2:=(dK (List.length x0));
(dQ zG NN (x2,0,(),(),x0,x1,())).bind fun(x3,x4,x5,x6,x7,x8,x9,_)=>
some (x8,x9,()) else none else none
noncomputable def F8:X.Cfg:=⟨E0,[],[(4,(.row true I64))],[(lx 4 0 [(pP 0 2),(pP 1 4),(sP 8 I64),(sP 9 I64)] [(2,(uL [N1,N1])),(4,(uL [(.row true I64),(.row true (.row true I64))]))] 10)]⟩
def zm:Ctr:=⟨93,38,[],[],[⟨(uL [(.row true I64),(.row true (.row true I64))]),[.agg 2],[]⟩],fun h=>sK⟩
theorem FV:Lk 1 zm:=ls (C:=F8) rfl aN (by kernel_rfl) fun h=>by kernel_rfl
def pS:T3N→Option (T3N⊕(Int×Bool×T3K)):=fun(v0,v1,v2,v3,v4,v5,v6,v7,v8,v9,v10,v11,v12,v13,v14,v15,v16,v17,v18,v19,v20,v21,v22,v23,v24,v25,v26,v27,v28,v29,v30,v31,v32,v33,v34,v35,v36,_)=>
bif (decide (v0 < 4)) then (bif (dV 8 (List.length v36) (List.length [(-1)])) then let x0:List (Int):=(List.append v36 [(-1)]);
let x1:=(w64 (v0+1));
some (.inl (x1,v1,v2,v3,v4,v5,v6,v7,v8,v9,v10,v11,v12,v13,v14,v15,v16,v17,v18,v19,v20,v21,v22,v23,v24,v25,v26,v27,v28,v29,v30,v31,v32,v33,v34,v35,x0,())) else none) else
some (.inr (v0,false,v1,v2,v3,v4,v5,v6,v7,v8,v9,v10,v11,v12,v13,v14,v15,v16,v17,v18,v19,v20,v21,v22,v23,v24,v25,v26,v27,v28,v29,v30,v31,v32,v33,v34,v35,v36,()))
def lU(a0:LDIn) (a1:List (Int)) (a2:List LI) (a3:List (Int)) (a4:Int) (a5:List (Int)) (a6:List (Int)) (a7:List LI) (a8:List LDCn) (a9:LDOp) (a10:LDOu):Option (LDIn×LI×LLI×LI×Int×LDCe×LDLn×LDTh×LI×LI×LLI×LLCn×LDOp×LDOu×LI×LLI×Unit×T07):=
(ma a0 a1 a2 a3 a4).bind fun(x0,x1,x2,x3,x4,x5,_)=>
bif (x5 != 0) then (some ([],[],[],[],0,[],[],[],[],[],[],[],[],[],[],[],(),[],x5,())) else
(iE a5 a6 a7 a8 a9 a10).bind fun(x6,_)=>
bif (!x6) then (some ([],[],[],[],0,[],[],[],[],[],[],[],[],[],[],[],(),[],1,())) else
(kW a1 a8 a9).bind fun(x7,_)=>
bif (!x7) then (some ([],[],[],[],0,[],[],[],[],[],[],[],[],[],[],[],(),[],1,())) else
(lu a5 a6 a7 a8 a9 a10).bind fun(x8,x9,ac,ae,af,ag,_)=>
(sK).bind fun(ah,ai,_)=>
(dQ pS NN (0,(),(),(),(),0,(),(),(),(),(),(),(),(),(),(),(),(),(),a0,a1,a2,x0,x1,x2,x3,x4,x8,x9,ac,ae,af,ag,ah,ai,(),[],())).bind fun(aj,ak,am,an,ap,aq,av,ax,ay,az,aA,aB,aD,aE,aF,aG,aH,aI,aJ,aK,aL,aM,aO,aP,aQ,aR,aS,aT,aU,aV,aW,aY,aZ,ba,bc,bd,be,bf,_)=>
some (aL,aM,aO,aP,aQ,aR,aS,aT,aU,aV,aW,aY,aZ,ba,bc,bd,be,bf,0,())
noncomputable def Cb:X.Cfg:=⟨E0,[up,mr,su,q7,zm],[],[(lx 11 0 [(pP 6 14),(pP 10 22),(sP 39 I64)] [(14,(uL [N1,N1,N1,N1,CW,N1,N1,N1,N1,N1,N1,N1,N1,N1,N1,N1,N1,N1])),(22,(uL [fb,RI,(.row false RW),RI,CW,eJ,eX,fB,RW,RW,(.row false RW),(.row false d8),gH,iU,RI,(.row false RI),N1,(.row true I64)]))] 40)]⟩
def ub:Ctr:=⟨53,39,[.agg (uL [fb,RI,(.row false RW)]),.agg (uL [RI,CW]),.agg (uL [RW,RW,(.row false RW),(.row false d8),gH,iU])],[],[⟨(uL [fb,RI,(.row false RW),RI,CW,eJ,eX,fB,RW,RW,(.row false RW),(.row false d8),gH,iU,RI,(.row false RI),N1,(.row true I64),I64]),[.agg 18,.one],[]⟩],ap11 lU⟩
theorem BF:Lk 5 ub:=ls (C:=Cb) rfl (aC BT (aC pf (aC zO (aC vQ (aC FV aN))))) (by kernel_rfl) fun h=>by kernel_rfl
def mj(a0:List (Int)) (a1:Int):Option (T0S):=
(dJ 4 a0 a1).bind fun(x0,x1,x2,_)=>
let x3:List (Int):=[0,1,2,3,7,63];
(dJ 6 x1 x2).bind fun(x4,x5,x6,_)=>
(dW x4).bind fun x7=>
(dH x3 x7).bind fun x8=>
(dH x3 x7).bind fun x9=>
(dJ 4 x5 x6).bind fun(ac,ae,af,_)=>
some (x0,x9,(ac==0),ae,af,())
noncomputable def CX:X.Cfg:=⟨E0,[fq],[],[]⟩
def uB:Ctr:=⟨57,40,[.ptr ⟨2,0,[]⟩ [0]],[(2,(uL [RI,I64]))],[⟨(uL [I64,I64,.bool]),[.agg 3],[(2,(uL [RI,I64]))]⟩],ap2 mj⟩
theorem B7:Lk 4 uB:=ls (C:=CX) rfl (aC fC aN) (by kernel_rfl) fun h=>by kernel_rfl
def gX:T0G→Option (T0G⊕(LDTh×T0v)):=fun(v0,v1,v2,v3,_)=>
bif (decide (v2 < v1)) then (((dW v2).bind fun x0=>
(dH v0 x0).bind fun x1=>
bif (x1.1==1) then (bif (dV 8 (List.length v3) (List.length [v2])) then let x2:List (Int):=(List.append v3 [v2]);
some (v0,v1,v2,x2,()) else none) else
some (v0,v1,v2,v3,()):Option (T0G)).bind fun(x0,x1,x2,x3,_)=>
let x4:=(w64 (x2+1));
some (.inl (x0,x1,x4,x3,()))) else
some (.inr (v0,v1,v2,false,v3,()))
def l9(a0:LDTh):Option (LI×Unit):=
let x0:=(dK (List.length a0));
(dQ gX NN (a0,x0,0,[],())).bind fun(x1,x2,x3,x4,x5,_)=>
some (x5,())
noncomputable def Cv:X.Cfg:=⟨E0,[],[],[⟨7,0,qE,[(.normal,(qS [(3,.pk ⟨9,0,[]⟩ [0,0]),(sP 6 fB),(sP 7 I64),(sP 8 I64)] [(9,(uL [(.row true I64)]))]))]⟩,(lx 4 1 [(3,.pk ⟨9,0,[]⟩ [0,0]),(sP 6 fB),(sP 7 I64),(sP 8 I64)] [(9,(uL [(.row true I64)]))] 9)]⟩
def ul:Ctr:=⟨96,41,(uL [fB]),[],[⟨(uL [(.row true I64)]),[.one],[]⟩],ap1 l9⟩
theorem BQ:Lk 1 ul:=ls (C:=Cv) rfl aN (by kernel_rfl) fun h=>by kernel_rfl
def kX(a0:LDIn) (a1:List (Int)) (a2:List LI) (a3:List (Int)) (a4:Int) (a5:LDCe) (a6:LDLn) (a7:LDTh) (a8:List (Int)) (a9:List (Int)) (a10:List LI) (a11:List LDCn) (a12:LDOp) (a13:LDOu) (a14:List (Int)) (a15:List LI) (a16:LDEn) (a17:List (Int)):Option (T3d):=
bif (dV 8 0 (List.length a17)) then let x0:List (Int):=(List.append [] a17);
bif (dV 184 0 (List.length a16)) then let x1:LDEn:=(List.append [] a16);
some (a0,a1,a2,a3,a4,a5,a6,a7,a8,a9,a10,a11,a12,a13,a14,a15,x1,x0,()) else none else none
noncomputable def Ae:X.Cfg:=⟨E0,[],[(9,Lr)],[]⟩
def sw:Ctr:=⟨97,42,[.agg (uL [fb,RI,(.row false RW),RI,CW,eJ,eX,fB,RW,RW,(.row false RW),(.row false d8),gH,iU,RI,(.row false RI),HW,RI])],[],[⟨(uL [fb,RI,(.row false RW),RI,CW,eJ,eX,fB,RW,RW,(.row false RW),(.row false d8),gH,iU,RI,(.row false RI),(.row true tn),(.row true I64)]),[.agg 18],[]⟩],ap18 kX⟩
theorem zP:Lk 1 sw:=ls (C:=Ae) rfl aN (by kernel_rfl) fun h=>by kernel_rfl
def mR(a0:List (Int)) (a1:Int) (a2:LDCe) (a3:LDLn) (a4:LDTh) (a5:Int):Option (Bool×Unit):=
bif (decide (a5 < 0)) then (some (false,())) else
let x0:=(dK (List.length a4));
bif (decide (a5≥x0)) then (some (false,())) else
(dW a5).bind fun x1=>
(dH a4 x1).bind fun x2=>
bif (x2.1==1) then (bif (x2.2.2.2.2.1 != (-1)) then (some ((x2.2.2.2.2.2.1==(-1)),())) else
some (false,())) else
some (false,())
noncomputable def F7:X.Cfg:=⟨E0,[],[],[]⟩
def s7:Ctr:=⟨98,43,[.agg (uL [RI,CW,eJ,eX,fB]),shU I64],[],[⟨(uL [.bool]),[.one],[]⟩],ap6 mR⟩
theorem yp:Lk 1 s7:=ls (C:=F7) rfl aN (by kernel_rfl) fun h=>by kernel_rfl
def iu:T29→Option (T29⊕(LDLn×Int×Int×Bool×T1j)):=fun(v0,v1,v2,v3,v4,v5,v6,v7,v8,_)=>
bif (decide (v2 < v1)) then ((dW v2).bind fun x0=>
(dH v0 x0).bind fun x1=>
bif (dV 4 0 (List.length x1.2.2)) then let x2:LDCe:=(List.append [] x1.2.2);
let x3:LDLn:=[(x1.1,(x1.2.1,x2))];
bif (dV 40 (List.length v8) (List.length x3)) then let x4:LDLn:=(List.append v8 x3);
let x5:=(w64 (v2+1));
some (.inl (v0,v1,x5,v3,v4,v5,v6,v7,x4,())) else none else none) else
some (.inr (v0,v1,v2,false,v3,v4,v5,v6,v7,v8,()))
def jB(a0:LDCe) (a1:LDLn):Option (T04):=
bif (dV 4 0 (List.length a0)) then let x0:LDCe:=(List.append [] a0);
let x1:=(dK (List.length a1));
(dQ iu NN (a1,x1,0,a0,a1,(),(),x0,[],())).bind fun(x2,x3,x4,x5,x6,x7,x8,x9,ac,ae,_)=>
some (ac,ae,()) else none
noncomputable def ER:X.Cfg:=⟨E0,[],[(24,O0),(25,O0)],[(lx 4 0 [(pP 2 6),(pP 3 8),(sP 11 eX),(sP 12 I64),(sP 13 I64)] [(4,(uL [eJ,eX])),(6,(uL [N1,N1])),(8,(uL [(.row true KCe),iP]))] 14)]⟩
def nY:Ctr:=⟨36,44,[.agg (uL [eJ,eX])],[],[⟨(uL [(.row true KCe),iP]),[.agg 2],[]⟩],ap2 jB⟩
theorem qO:Lk 1 nY:=ls (C:=ER) rfl aN (by kernel_rfl) fun h=>by kernel_rfl
def is:T3e→Option (T3e⊕(LDTh×Int×Int×Bool×T31)):=fun(v0,v1,v2,v3,v4,v5,v6,v7,v8,v9,v10,v11,v12,v13,v14,v15,v16,v17,_)=>
bif (decide (v2 < v1)) then ((dW v2).bind fun x0=>
(dH v0 x0).bind fun x1=>
bif (dV 4 0 (List.length x1.2.1)) then let x2:LDCe:=(List.append [] x1.2.1);
let x3:LDTh:=[(x1.1,(x2,(x1.2.2.1,(x1.2.2.2.1,(x1.2.2.2.2.1,(x1.2.2.2.2.2.1,(x1.2.2.2.2.2.2.1,x1.2.2.2.2.2.2.2)))))))];
bif (dV 80 (List.length v17) (List.length x3)) then let x4:LDTh:=(List.append v17 x3);
let x5:=(w64 (v2+1));
some (.inl (v0,v1,x5,v3,v4,v5,v6,v7,v8,v9,v10,v11,v12,v13,v14,v15,v16,x4,())) else none else none) else
some (.inr (v0,v1,v2,false,v3,v4,v5,v6,v7,v8,v9,v10,v11,v12,v13,v14,v15,v16,v17,()))
def it(a0:List (Int)) (a1:Int) (a2:LDCe) (a3:LDLn) (a4:LDTh):Option (T12):=
bif (dV 8 0 (List.length a0)) then let x0:List (Int):=(List.append [] a0);
(jB a2 a3).bind fun(x1,x2,_)=>
let x3:=(dK (List.length a4));
(dQ is NN (a4,x3,0,a0,a1,a2,a3,a4,(),0,(),(),(),x0,a1,x1,x2,[],())).bind fun(x4,x5,x6,x7,x8,x9,ac,ae,af,ag,ah,ai,aj,ak,am,an,ap,aq,av,_)=>
some (am,an,ap,aq,av,()) else none
noncomputable def EI:X.Cfg:=⟨E0,[nY],[(32,OZ),(33,OZ)],[(lx 4 0 [(pP 2 6),(pP 3 8),(sP 19 fB),(sP 20 I64),(sP 21 I64)] [(4,(uL [RI,CW,eJ,eX,fB])),(6,(uL [N1,CW,N1,N1,N1])),(8,(uL [RI,CW,(.row true KCe),iP,qi]))] 22)]⟩
def lH:Ctr:=⟨126,45,[.agg (uL [RI,CW,eJ,eX,fB])],[],[⟨(uL [RI,CW,(.row true KCe),iP,qi]),[.agg 5],[]⟩],ap5 it⟩
theorem nT:Lk 2 lH:=ls (C:=EI) rfl (aC qO aN) (by kernel_rfl) fun h=>by kernel_rfl
def jS(a0:List (Int)) (a1:Int) (a2:LDCe) (a3:LDLn) (a4:LDTh) (a5:Int):Option (T1n):=
(it a0 a1 a2 a3 a4).bind fun(x0,x1,x2,x3,x4,_)=>
(mR a0 a1 a2 a3 a4 a5).bind fun(x5,_)=>
bif (!x5) then (some (x0,x1,x2,x3,x4,false,())) else
(dW a5).bind fun x6=>
(dH x4 x6).bind fun x7=>
(dH x4 x6).bind fun x8=>
(dH x4 x6).bind fun x9=>
(dH x4 x6).bind fun ac=>
let ae:=(List.modify x4 x6 fun e=>(e.1,(e.2.1,(e.2.2.1,(e.2.2.2.1,(e.2.2.2.2.1,(x8.2.2.1,e.2.2.2.2.2.2)))))));
(dH ae x6).bind fun af=>
let ag:=(List.modify ae x6 fun e=>(e.1,(e.2.1,(x9.2.2.2.2.1,e.2.2.2))));
some (x0,x1,x2,x3,ag,true,())
noncomputable def yK:X.Cfg:=⟨E0,[lH,s7],[],[]⟩
def rb:Ctr:=⟨99,46,[.agg (uL [RI,CW,eJ,eX,fB]),shU I64],[],[⟨(uL [RI,CW,(.row true KCe),iP,qi,.bool]),[.agg 5,.one],[]⟩],ap6 jS⟩
theorem yo:Lk 3 rb:=ls (C:=yK) rfl (aC nT (aC yp aN)) (by kernel_rfl) fun h=>by kernel_rfl
def iI(a0:Int) (a1:Int):Option (Bool×Unit):=
some ((decide (a0≤2)),())
noncomputable def CL:X.Cfg:=⟨E0,[],[],[]⟩
def mA:Ctr:=⟨35,47,[.agg (uL [CB,CW])],[],[⟨(uL [.bool]),[.one],[]⟩],ap2 iI⟩
theorem pq:Lk 1 mA:=ls (C:=CL) rfl aN (by kernel_rfl) fun h=>by kernel_rfl
def lb:T0l→Option (T0l⊕((Bool×Unit)⊕T0C)):=fun(v0,v1,v2,_)=>
bif (decide (v2 < v1)) then ((dW v2).bind fun x0=>
(dH v0 x0).bind fun x1=>
(iI x1.1 x1.2).bind fun(x2,_)=>
bif (!x2) then (some (.inr (.inl (false,())))) else
let x3:=(w64 (v2+1));
some (.inl (v0,v1,x3,()))) else
some (.inr (.inr (v0,v1,v2,false,())))
def mV(a0:LDCe):Option (Bool×Unit):=
let x0:=(dK (List.length a0));
(match dQ lb NN (a0,x0,0,()) with
| none=>none
| some (.inl (x1,_))=>
some (x1,())
| some (.inr (x1,x2,x3,x4,_))=>
some (true,()))
noncomputable def Gf:X.Cfg:=⟨E0,[mA],[],[⟨3,0,(qS [(sP 5 eJ),(sP 6 I64),(sP 7 I64)] []),[(.ret,(qS [(sP 2 .bool)] [])),(.exit 0,(qS [(sP 5 eJ),(sP 6 I64),(sP 7 I64),(sP 8 .bool)] []))]⟩]⟩
def zr:Ctr:=⟨179,48,(uL [eJ]),[],[⟨(uL [.bool]),[.one],[]⟩],ap1 mV⟩
theorem F0:Lk 2 zr:=ls (C:=Gf) rfl (aC pq aN) (by kernel_rfl) fun h=>by kernel_rfl
def ji:T10→Option (T10⊕((Bool×Unit)⊕T1l)):=fun(v0,v1,v2,v3,v4,_)=>
bif (decide (v2 < v1)) then ((dW v2).bind fun x0=>
(dH v0 x0).bind fun x1=>
bif (x1.1==(-1)) then (bif x1.2.1 then (some (.inr (.inl (false,())))) else
let x2:=(dK (List.length x1.2.2));
bif (decide (x2 > 0)) then (some (.inr (.inl (false,())))) else
let x3:=(w64 (v2+1));
some (.inl (v0,v1,x3,v3,v4,()))) else
(bif (decide (x1.1 < 0)) then (some (v0,v1,v2,true,v3,v4,())) else
bif (decide (x1.1≥128)) then (some (v0,v1,v2,true,v3,v4,())) else
let x2:=(Int.tmod x1.1 4);
bif (x2 != v2) then (some (v0,v1,v2,true,v3,v4,())) else
let x3:=(dK (List.length x1.2.2));
bif (x3 != 4) then (some (v0,v1,v2,true,v3,v4,())) else
(mV x1.2.2).bind fun(x4,_)=>
some (v0,v1,v2,(!x4),v3,v4,()):Option (T1l)).bind fun(x2,x3,x4,x5,x6,x7,_)=>
bif x5 then (some (.inr (.inl (false,())))) else
let x8:=(w64 (x4+1));
some (.inl (x2,x3,x8,x6,x7,()))) else
some (.inr (.inr (v0,v1,v2,false,v3,v4,())))
def md(a0:LDCe) (a1:LDLn):Option (Bool×Unit):=
(let x0:=(dK (List.length a0));
bif (x0 != 512) then (some (true,a0,a1,())) else
let x1:=(dK (List.length a1));
bif (x1 != 4) then (some (true,a0,a1,())) else
(mV a0).bind fun(x2,_)=>
some ((!x2),a0,a1,()):Option (T0d)).bind fun(x0,x1,x2,_)=>
bif x0 then (some (false,())) else
let x3:=(dK (List.length x2));
(match dQ ji NN (x2,x3,0,x1,x2,()) with
| none=>none
| some (.inl (x4,_))=>
some (x4,())
| some (.inr (x4,x5,x6,x7,x8,x9,_))=>
some (true,()))
noncomputable def CF:X.Cfg:=⟨E0,[zr],[],[⟨2,0,qE,[(.normal,(qS [(pP 1 4),(sP 20 .bool)] [(4,(uL [eJ,eX]))]))]⟩,⟨16,1,qE,[(.normal,(qS [(sP 22 eX),(sP 23 I64),(sP 24 I64),(sP 66 .bool)] [(4,(uL [eJ,eX]))]))]⟩,⟨6,2,(qS [(sP 22 eX),(sP 23 I64),(sP 24 I64)] [(4,(uL [eJ,eX]))]),[(.ret,(qS [(sP 2 .bool)] [])),(.exit 0,(qS [(sP 22 eX),(sP 23 I64),(sP 24 I64),(sP 25 .bool)] [(4,(uL [eJ,eX]))]))]⟩]⟩
def ut:Ctr:=⟨160,49,[.agg (uL [eJ,eX])],[],[⟨(uL [.bool]),[.one],[]⟩],ap2 md⟩
theorem BW:Lk 3 ut:=ls (C:=CF) rfl (aC F0 aN) (by kernel_rfl) fun h=>by kernel_rfl
def jd:T2z→Option (T2z⊕((Bool×Unit)⊕(LDCe×Int×Int×Bool×T1T))):=fun(v0,v1,v2,v3,v4,v5,v6,v7,v8,v9,v10,_)=>
bif (decide (v2 < v1)) then ((dW v2).bind fun x0=>
(dH v0 x0).bind fun x1=>
(iI x1.1 x1.2).bind fun(x2,_)=>
bif (!x2) then (some (.inr (.inl (false,())))) else
let x3:=(w64 (v2+1));
some (.inl (v0,v1,x3,v3,v4,v5,v6,v7,v8,v9,v10,()))) else
some (.inr (.inr (v0,v1,v2,false,v3,v4,v5,v6,v7,v8,v9,v10,())))
def l8(a0:Int) (a1:LDCe) (a2:Int) (a3:Int) (a4:Int) (a5:Int) (a6:Int) (a7:Int):Option (Bool×Unit):=
let x0:=(dK (List.length a1));
(match dQ jd NN (a1,x0,0,a0,a1,a2,a3,a4,a5,a6,a7,()) with
| none=>none
| some (.inl (x1,_))=>
some (x1,())
| some (.inr (x1,x2,x3,x4,x5,x6,x7,x8,x9,ac,ae,af,_))=>
bif (decide (x5≥0)) then (bif (decide (x5≤4)) then (let ag:Int:=(dK (List.length x6));
bif (ag==8) then (bif (decide (x7≥0)) then (bif (decide (x7≤255)) then (bif (decide (x8≥0)) then (bif (decide (x8≤1099511627776)) then (bif (decide (x9≥(-1))) then (bif (decide (x9≤255)) then (bif (decide (ac≥(-1))) then (bif (decide (ac≤255)) then (bif (decide (ae≥0)) then (some ((decide (ae≤6)),())) else
some (false,())) else
some (false,())) else
some (false,())) else
some (false,())) else
some (false,())) else
some (false,())) else
some (false,())) else
some (false,())) else
some (false,())) else
some (false,())) else
some (false,())) else
some (false,()))
noncomputable def Cu:X.Cfg:=⟨E0,[mA],[],[⟨3,0,(qS [(pP 1 4),(sP 6 eJ),(sP 7 I64),(sP 8 I64)] [(4,(uL [I64,eJ,I64,I64,I64,I64,I64,CW]))]),[(.ret,(qS [(sP 2 .bool)] [])),(.exit 0,(qS [(pP 1 4),(sP 6 eJ),(sP 7 I64),(sP 8 I64),(sP 9 .bool)] [(4,(uL [I64,eJ,I64,I64,I64,I64,I64,CW]))]))]⟩]⟩
def uk:Ctr:=⟨161,50,[.agg (uL [I64,eJ,I64,I64,I64,I64,I64,CW])],[],[⟨(uL [.bool]),[.one],[]⟩],ap8 l8⟩
theorem BO:Lk 2 uk:=ls (C:=Cu) rfl (aC pq aN) (by kernel_rfl) fun h=>by kernel_rfl
def lM:T1U→Option (T1U⊕((Bool×Unit)⊕(LDTh×Int×Int×T17))):=fun(v0,v1,v2,v3,v4,v5,v6,v7,_)=>
bif (decide (v2 < v1)) then ((dW v2).bind fun x0=>
(dH v0 x0).bind fun x1=>
(l8 x1.1 x1.2.1 x1.2.2.1 x1.2.2.2.1 x1.2.2.2.2.1 x1.2.2.2.2.2.1 x1.2.2.2.2.2.2.1 x1.2.2.2.2.2.2.2).bind fun(x2,_)=>
bif (!x2) then (some (.inr (.inl (false,())))) else
let x3:=(w64 (v2+1));
some (.inl (v0,v1,x3,v3,v4,v5,v6,v7,()))) else
some (.inr (.inr (v0,v1,v2,false,v3,v4,v5,v6,v7,())))
def iF(a0:LDIn) (a1:List (Int)) (a2:List LI) (a3:List (Int)) (a4:Int) (a5:LDCe) (a6:LDLn) (a7:LDTh):Option (Bool×Unit):=
((iG a0 a1 a2).bind fun(x0,_)=>
bif (x0 != 0) then (some (true,a3,a4,a5,a6,a7,())) else
(gL a3 a4 a1).bind fun(x1,_)=>
bif (!x1) then (some (true,a3,a4,a5,a6,a7,())) else
(md a5 a6).bind fun(x2,_)=>
bif (!x2) then (some (true,a3,a4,a5,a6,a7,())) else
let x3:=(dK (List.length a7));
some ((x3 != 4),a3,a4,a5,a6,a7,()):Option (T17)).bind fun(x0,x1,x2,x3,x4,x5,_)=>
bif x0 then (some (false,())) else
let x6:=(dK (List.length x5));
(match dQ lM NN (x5,x6,0,x1,x2,x3,x4,x5,()) with
| none=>none
| some (.inl (x7,_))=>
some (x7,())
| some (.inr (x7,x8,x9,ac,ae,af,ag,ah,ai,_))=>
some (true,()))
noncomputable def Cr:X.Cfg:=⟨E0,[mu,kv,ut,uk],[],[⟨2,0,qE,[(.normal,(qS [(pP 3 8),(sP 29 .bool)] [(8,(uL [RI,CW,eJ,eX,fB]))]))]⟩,⟨6,1,(qS [(sP 31 fB),(sP 32 I64),(sP 33 I64)] [(8,(uL [RI,CW,eJ,eX,fB]))]),[(.ret,(qS [(sP 4 .bool)] [])),(.exit 0,(qS [(sP 31 fB),(sP 32 I64),(sP 33 I64),(sP 34 .bool)] [(8,(uL [RI,CW,eJ,eX,fB]))]))]⟩]⟩
def mt:Ctr:=⟨145,51,[.agg (uL [fb,RI,(.row false RW)]),.agg (uL [RI,CW,eJ,eX,fB])],[],[⟨(uL [.bool]),[.one],[]⟩],ap8 iF⟩
theorem pi:Lk 4 mt:=ls (C:=Cr) rfl (aC pj (aC mo (aC BW (aC BO aN)))) (by kernel_rfl) fun h=>by kernel_rfl
def fc(a0:Nat) (a1:Int) (a2:LDTh):Option (Int×LDTh×Unit):=
(dH a2 a0).bind fun x0=>
let x1:=(List.modify a2 a0 fun e=>(4,e.2));
(dH x1 a0).bind fun x2=>
let x3:=(List.modify x1 a0 fun e=>(e.1,(e.2.1,(e.2.2.1,(e.2.2.2.1,(e.2.2.2.2.1,(e.2.2.2.2.2.1,(a1,e.2.2.2.2.2.2.2))))))));
(dH x3 a0).bind fun x4=>
let x5:=(List.modify x3 a0 fun e=>(e.1,(e.2.1,(e.2.2.1,(e.2.2.2.1,(e.2.2.2.2.1,(e.2.2.2.2.2.1,(e.2.2.2.2.2.2.1,0))))))));
some (2,x5,())
noncomputable def EF:X.Cfg:=⟨E0,[],[],[]⟩
def wD:Ctr:=⟨162,52,[.ptr ⟨2,0,[((),(8,0))]⟩ [0,0],shU I64],[(2,(uL [qi]))],[⟨(uL [I64]),[.one],[(2,(uL [qi]))]⟩],ap3 fc⟩
theorem D4:Lk 1 wD:=ls (C:=EF) rfl aN (by kernel_rfl) fun h=>by kernel_rfl
def eI:T2c→Option (T2c⊕(T0c⊕T2r)):=fun(v0,v1,v2,v3,v4,v5,v6,v7,v8,_)=>
bif (decide (v4 < v3)) then ((match ((dW v4).bind fun x0=>
(dH v2 x0).bind fun x1=>
bif (decide (v1≥x1)) then ((dW v4).bind fun x2=>
(dH v0 x2).bind fun x3=>
let x4:=(w64 (x1+x3));
bif (decide (v1 < x4)) then (let x5:Int:=(w64 (v1 - x1));
some (.inl (true,v4,x5,()))) else
some (.inr (v0,v1,v4,x1,v2,v3,v4,false,v5,v6,v7,v8,()))) else
some (.inr (v0,v1,v4,x1,v2,v3,v4,false,v5,v6,v7,v8,())):Option (T0c⊕T2N)) with
| none=>none
| some (.inl (x0,x1,x2,_))=>
some (.inr (.inl (x0,x1,x2,())))
| some (.inr (x0,x1,x2,x3,x4,x5,x6,x7,x8,x9,ac,ae,_))=>
let af:=(w64 (x6+1));
some (.inl (x0,x1,x4,x5,af,x8,x9,ac,ae,())))) else
some (.inr (.inr (v0,v1,v2,v3,v4,false,v5,v6,v7,v8,())))
def fa(a0:List (Int)) (a1:Int) (a2:List (Int)) (a3:Int):Option (T0e):=
let x0:=(dK (List.length a0));
(match dQ eI NN (a2,a3,a0,x0,0,a0,a1,0,0,()) with
| none=>none
| some (.inl (x1,x2,x3,_))=>
some (x2,x3,x1,())
| some (.inr (x1,x2,x3,x4,x5,x6,x7,x8,x9,ac,_))=>
some (0,0,false,()))
noncomputable def yO:X.Cfg:=⟨E0,[],[],[⟨6,0,qE,[(.ret,(qS [(pP 6 14),(sP 7 .bool)] [(14,(uL [I64,I64]))])),(.normal,(qS [(sP 1 RI),(sP 2 I64),(pP 6 14),(sP 8 I64),(sP 9 I64),(sP 11 RI),(sP 12 I64),(sP 13 I64),(sP 30 .bool)] [(8,(uL [RI,CW])),(14,(uL [I64,I64]))]))]⟩,⟨3,1,(qS [(sP 1 RI),(sP 2 I64),(pP 6 14),(sP 11 RI),(sP 12 I64),(sP 13 I64)] [(8,(uL [RI,CW])),(14,(uL [I64,I64]))]),[(.ret,(qS [(pP 6 14),(sP 7 .bool)] [(14,(uL [I64,I64]))])),(.exit 0,(qS [(sP 1 RI),(sP 2 I64),(pP 6 14),(sP 11 RI),(sP 12 I64),(sP 13 I64),(sP 14 .bool)] [(8,(uL [RI,CW])),(14,(uL [I64,I64]))]))]⟩]⟩
def iz:Ctr:=⟨74,53,[.agg (uL [RI,CW]),shU RI,shU I64],[],[⟨(uL [I64,I64,.bool]),[.agg 2,.one],[]⟩],ap4 fa⟩
theorem kj:Lk 1 iz:=ls (C:=yO) rfl aN (by kernel_rfl) fun h=>by kernel_rfl
def fu(a0:List (Int)) (a1:Int) (a2:List (Int)) (a3:Int) (a4:Int) (a5:Int) (a6:Bool):Option (T0f):=
bif (a3 != 1) then (some (0,0,3,())) else
let x0:=(wk .i64 a4);
(fa a0 a1 a2 x0).bind fun(x1,x2,x3,_)=>
bif (!x3) then (some (0,0,4,())) else
(bif a6 then (let x4:Int:=(wk .i64 a5);
let x5:=(w64 (x2 - x4));
some (a2,a0,a1,0,0,x1,x5,())) else
let x4:=(wk .i64 a5);
let x5:=(w64 (x2+x4));
some (a2,a0,a1,0,0,x1,x5,()):Option (LI×LI×T0U)).bind fun(x4,x5,x6,x7,x8,x9,ac,_)=>
(fr x4 x9 ac).bind fun(ae,_)=>
bif (!ae) then (some (0,0,4,())) else
(dW x9).bind fun af=>
(dH x5 af).bind fun ag=>
let ah:=(w64 (ag+ac));
let ai:=(wk .u16 ah);
some (1,ai,0,())
noncomputable def EH:X.Cfg:=⟨E0,[iz,i5],[],[⟨8,0,qE,[(.normal,(qS [(sP 1 RI),(pP 5 12),(pP 10 22),(pP 12 26)] [(12,(uL [RI,CW])),(22,(uL [CB,CW])),(26,(uL [I64,I64]))]))]⟩]⟩
def rk:Ctr:=⟨163,54,[.agg (uL [RI,CW]),shU RI,.agg (uL [CB,CW]),shU CW,shU .bool],[],[⟨(uL [CB,CW,I64]),[.agg 2,.one],[]⟩],ap7 fu⟩
theorem vY:Lk 2 rk:=ls (C:=EH) rfl (aC kj (aC lk aN)) (by kernel_rfl) fun h=>by kernel_rfl
def j5(a0:Int) (a1:LDCe) (a2:LDLn):Option (Nat×T04):=
let x0:=(w64 (Int.tdiv a0 4));
let x1:=(Int.tmod x0 4);
(dW x1).bind fun x2=>
(dH a2 x2).bind fun x3=>
(dH a2 x2).bind fun x4=>
bif (x4.1==x0) then (some (x2,a1,a2,())) else
((dH a2 x2).bind fun x5=>
bif x5.2.1 then ((dH a2 x2).bind fun x6=>
let x7:=(w64 (x6.1*4));
(dW x7).bind fun x8=>
bif (hY x8 (List.length a1) (List.length a1)) then (dH a2 x2).bind fun x9=>
(dH a2 x2).bind fun ac=>
bif (hY x8 (Nat.add x8 (Nat.min (List.length ac.2.2) (Nat.sub (List.length a1) x8))) (List.length a1)) then bif (Nat.blt 0 (Nat.min (List.length ac.2.2) (Nat.sub (List.length a1) x8))) then (let ae:LDCe:=(lP a1 x8 (Nat.min (List.length ac.2.2) (Nat.sub (List.length a1) x8)) ac.2.2);
let af:=(dK (Nat.min (List.length ac.2.2) (Nat.sub (List.length a1) x8)));
some (x0,x2,ae,a2,())) else
let ae:=(dK (Nat.min (List.length ac.2.2) (Nat.sub (List.length a1) x8)));
some (x0,x2,a1,a2,()) else none else none) else
some (x0,x2,a1,a2,()):Option (Int×Nat×T04)).bind fun(x5,x6,x7,x8,_)=>
(dH x8 x6).bind fun x9=>
let ac:=(List.modify x8 x6 fun e=>(x5,e.2));
(dH ac x6).bind fun ae=>
let af:=(List.modify ac x6 fun e=>(e.1,(false,e.2.2)));
let ag:=(w64 (x5*4));
let ah:=(w64 (x5+1));
let ai:=(w64 (ah*4));
(dW ag).bind fun aj=>
(dW ai).bind fun ak=>
bif (hY aj ak (List.length x7)) then bif (dV 4 0 (List.length (nv x7 aj (Nat.sub ak aj)))) then let am:LDCe:=(List.append [] (nv x7 aj (Nat.sub ak aj)));
(dH af x6).bind fun an=>
let ap:=(List.modify af x6 fun e=>(e.1,(e.2.1,am)));
some (x6,x7,ap,()) else none else none
noncomputable def CE:X.Cfg:=⟨E0,[],[],[⟨6,0,qE,[(.normal,(qS [(pP 0 2),(sP 5 I64),(6,.ptr ⟨2,1,[((),(3,0))]⟩ [0,0])] [(2,(uL [(.row true KCe),iP]))]))]⟩]⟩
def pG:Ctr:=⟨180,55,[.ptr ⟨2,0,[]⟩ [0],shU I64],[(2,(uL [(.row true KCe),iP]))],[⟨[.ptr ⟨2,1,[((),(3,0))]⟩ [0,0]],[.ptr],[(2,(uL [(.row true KCe),iP]))]⟩],ap3 j5⟩
theorem tT:Lk 1 pG:=ls (C:=CE) rfl aN (by kernel_rfl) fun h=>by kernel_rfl
def lB(a0:Int) (a1:LDCe) (a2:LDLn):Option (T0x):=
(j5 a0 a1 a2).bind fun(x0,x1,x2,_)=>
(dH x2 x0).bind fun x3=>
let x4:=(Int.tmod a0 4);
(dW x4).bind fun x5=>
(dH x2 x0).bind fun x6=>
(dH x6.2.2 x5).bind fun x7=>
(dH x2 x0).bind fun x8=>
(dH x8.2.2 x5).bind fun x9=>
some (x9.1,x9.2,x1,x2,())
noncomputable def EM:X.Cfg:=⟨E0,[pG],[],[]⟩
def wE:Ctr:=⟨164,56,[.ptr ⟨2,0,[]⟩ [0],shU I64],[(2,(uL [(.row true KCe),iP]))],[⟨(uL [CB,CW]),[.agg 2],[(2,(uL [(.row true KCe),iP]))]⟩],ap3 lB⟩
theorem D5:Lk 2 wE:=ls (C:=EM) rfl (aC tT aN) (by kernel_rfl) fun h=>by kernel_rfl
def iH(a0:Int) (a1:Int) (a2:Int) (a3:LDCe) (a4:LDLn):Option (T04):=
(j5 a0 a3 a4).bind fun(x0,x1,x2,_)=>
(dH x2 x0).bind fun x3=>
let x4:=(Int.tmod a0 4);
(dW x4).bind fun x5=>
(dH x2 x0).bind fun x6=>
(dH x6.2.2 x5).bind fun x7=>
(dH x2 x0).bind fun x8=>
(dH x8.2.2 x5).bind fun x9=>
let ac:=(List.modify x2 x0 fun e=>(e.1,(e.2.1,(List.modify e.2.2 x5 fun e=>(a1,a2)))));
(dH ac x0).bind fun ae=>
let af:=(List.modify ac x0 fun e=>(e.1,(true,e.2.2)));
some (x1,af,())
noncomputable def CC:X.Cfg:=⟨E0,[pG],[],[]⟩
def pF:Ctr:=⟨165,57,[.ptr ⟨2,0,[]⟩ [0],shU I64,.agg (uL [CB,CW])],[(2,(uL [(.row true KCe),iP]))],[⟨[],[],[(2,(uL [(.row true KCe),iP]))]⟩],ap5 iH⟩
theorem tS:Lk 2 pF:=ls (C:=CC) rfl (aC tT aN) (by kernel_rfl) fun h=>by kernel_rfl
def jz(a0:Bool):Option (T02):=
bif a0 then (some (0,1,())) else
some (0,0,())
noncomputable def EG:X.Cfg:=⟨E0,[],[],[]⟩
def rj:Ctr:=⟨181,58,(uL [.bool]),[],[⟨(uL [CB,CW]),[.agg 2],[]⟩],ap1 jz⟩
theorem vW:Lk 1 rj:=ls (C:=EG) rfl aN (by kernel_rfl) fun h=>by kernel_rfl
def j0(a0:Int) (a1:Int) (a2:Int):Option (T0f):=
bif (a0==3) then (let x0:Int:=(wk .u16 (a1+a2));
some (0,x0,0,())) else
bif (a0==4) then (let x0:Int:=(wk .u16 (a1 - a2));
some (0,x0,0,())) else
bif (a0==5) then (let x0:Int:=(wk .u16 (a1*a2));
some (0,x0,0,())) else
bif (a0==6) then (bif (a2==0) then (some (0,0,5,())) else
bif (a0==6) then (bif (a2 != 0) then let x0:Int:=(wk .u16 (Int.tdiv a1 a2));
some (0,x0,0,()) else none) else
bif (a2 != 0) then let x0:Int:=(Int.tmod a1 a2);
some (0,x0,0,()) else none) else
bif (a0==7) then (bif (a2==0) then (some (0,0,5,())) else
bif (a0==6) then (bif (a2 != 0) then let x0:Int:=(wk .u16 (Int.tdiv a1 a2));
some (0,x0,0,()) else none) else
bif (a2 != 0) then let x0:Int:=(Int.tmod a1 a2);
some (0,x0,0,()) else none) else
bif (a0==8) then (let x0:Int:=(arR .and .u16 a1 a2);
some (0,x0,0,())) else
bif (a0==9) then (let x0:Int:=(arR .or .u16 a1 a2);
some (0,x0,0,())) else
bif (a0==10) then (let x0:Int:=(arR .xor .u16 a1 a2);
some (0,x0,0,())) else
bif (a0==11) then (let x0:Int:=(Int.tmod a2 16);
(dW x0).bind fun x1=>
let x2:Int:=(shR .shl .u16 a1 x1);
some (0,x2,0,())) else
bif (a0==12) then (let x0:Int:=(Int.tmod a2 16);
(dW x0).bind fun x1=>
let x2:Int:=(shR .shr .u16 a1 x1);
some (0,x2,0,())) else
(jz (decide (a1 < a2))).bind fun(x0,x1,_)=>
some (x0,x1,0,())
noncomputable def yM:X.Cfg:=⟨E0,[rj],[],[]⟩
def ri:Ctr:=⟨182,59,(uL [I64,CW,CW]),[],[⟨(uL [CB,CW,I64]),[.agg 2,.one],[]⟩],ap3 j0⟩
theorem yu:Lk 2 ri:=ls (C:=yM) rfl (aC vW aN) (by kernel_rfl) fun h=>by kernel_rfl
def j3(a0:List (Int)) (a1:Int) (a2:List (Int)) (a3:Int) (a4:Int) (a5:Int) (a6:Int):Option (Int×Int×T0e):=
let x0:=(wk .i64 a4);
(fa a0 a1 a2 x0).bind fun(x1,x2,x3,_)=>
let x4:=(wk .i64 a6);
(fa a0 a1 a2 x4).bind fun(x5,x6,x7,_)=>
bif x3 then (bif x7 then (some (x1,x2,x5,x6,(x1==x5),())) else
some (x1,x2,x5,x6,false,())) else
some (x1,x2,x5,x6,false,())
noncomputable def Cx:X.Cfg:=⟨E0,[iz],[],[]⟩
def uo:Ctr:=⟨183,60,[.agg (uL [RI,CW]),shU RI,.agg (uL [CB,CW]),.agg (uL [CB,CW])],[],[⟨(uL [I64,I64,I64,I64,.bool]),[.agg 2,.agg 2,.one],[]⟩],ap7 j3⟩
theorem BS:Lk 2 uo:=ls (C:=Cx) rfl (aC kj aN) (by kernel_rfl) fun h=>by kernel_rfl
def rD(a0:List (Int)) (a1:Int) (a2:List (Int)) (a3:Int) (a4:Int) (a5:Int) (a6:Int) (a7:Int):Option (T0f):=
bif (decide (a3 < 3)) then (some (0,0,1,())) else
bif (decide (a3 > 14)) then (some (0,0,1,())) else
(match (bif (a3==14) then ((jz ((a4==a6) && ((a5==a7) && true))).bind fun(x0,x1,_)=>
some (.inl (0,x0,x1,()))) else
bif (a4==0) then (bif (a6==0) then ((j0 a3 a5 a7).bind fun(x0,x1,x2,_)=>
some (.inl (x2,x0,x1,()))) else
(bif (a3==3) then (bif (a4==1) then (some (a2,a3,(a6==0),a0,a1,a4,a5,a6,a7,0,0,())) else
some (a2,a3,false,a0,a1,a4,a5,a6,a7,0,0,())) else
some (a2,a3,false,a0,a1,a4,a5,a6,a7,0,0,()):Option (T2B)).bind fun(x0,x1,x2,x3,x4,x5,x6,x7,x8,x9,ac,_)=>
bif x2 then ((fu x3 x4 x0 x5 x6 x8 false).bind fun(ae,af,ag,_)=>
some (.inl (ag,ae,af,()))) else
(bif (x1==3) then (bif (x5==0) then (some (x0,x1,(x7==1),x3,x4,x5,x6,x7,x8,x9,ac,())) else
some (x0,x1,false,x3,x4,x5,x6,x7,x8,x9,ac,())) else
some (x0,x1,false,x3,x4,x5,x6,x7,x8,x9,ac,()):Option (T2B)).bind fun(ae,af,ag,ah,ai,aj,ak,am,an,ap,aq,_)=>
bif ag then ((fu ah ai ae am an ak false).bind fun(av,ax,ay,_)=>
some (.inl (ay,av,ax,()))) else
(bif (af==4) then (bif (aj==1) then (some (ae,af,(am==0),ah,ai,aj,ak,am,an,ap,aq,())) else
some (ae,af,false,ah,ai,aj,ak,am,an,ap,aq,())) else
some (ae,af,false,ah,ai,aj,ak,am,an,ap,aq,()):Option (T2B)).bind fun(av,ax,ay,az,aA,aB,aD,aE,aF,aG,aH,_)=>
bif ay then ((fu az aA av aB aD aF true).bind fun(aI,aJ,aK,_)=>
some (.inl (aK,aI,aJ,()))) else
(bif (ax==4) then (bif (aB==1) then (some (av,ax,(aE==1),az,aA,aB,aD,aE,aF,aG,aH,())) else
some (av,ax,false,az,aA,aB,aD,aE,aF,aG,aH,())) else
bif (ax==13) then (bif (aB==1) then (some (av,ax,(aE==1),az,aA,aB,aD,aE,aF,aG,aH,())) else
some (av,ax,false,az,aA,aB,aD,aE,aF,aG,aH,())) else
some (av,ax,false,az,aA,aB,aD,aE,aF,aG,aH,()):Option (T2B)).bind fun(aI,aJ,aK,aL,aM,aO,aP,aQ,aR,aS,aT,_)=>
bif aK then ((j3 aL aM aI aO aP aQ aR).bind fun(aU,aV,aW,aY,aZ,_)=>
bif (!aZ) then (some (.inl (4,0,0,()))) else
bif (aJ==13) then ((jz (decide (aV < aY))).bind fun(ba,bc,_)=>
some (.inl (0,ba,bc,()))) else
let ba:=(w64 (aV - aY));
let bc:=(wk .u16 ba);
some (.inl (0,0,bc,()))) else
some (.inr (aI,aJ,false,aL,aM,aO,aP,aQ,aR,aS,aT,()))) else
(bif (a3==3) then (bif (a4==1) then (some (a2,a3,(a6==0),a0,a1,a4,a5,a6,a7,0,0,())) else
some (a2,a3,false,a0,a1,a4,a5,a6,a7,0,0,())) else
some (a2,a3,false,a0,a1,a4,a5,a6,a7,0,0,()):Option (T2B)).bind fun(x0,x1,x2,x3,x4,x5,x6,x7,x8,x9,ac,_)=>
bif x2 then ((fu x3 x4 x0 x5 x6 x8 false).bind fun(ae,af,ag,_)=>
some (.inl (ag,ae,af,()))) else
(bif (x1==3) then (bif (x5==0) then (some (x0,x1,(x7==1),x3,x4,x5,x6,x7,x8,x9,ac,())) else
some (x0,x1,false,x3,x4,x5,x6,x7,x8,x9,ac,())) else
some (x0,x1,false,x3,x4,x5,x6,x7,x8,x9,ac,()):Option (T2B)).bind fun(ae,af,ag,ah,ai,aj,ak,am,an,ap,aq,_)=>
bif ag then ((fu ah ai ae am an ak false).bind fun(av,ax,ay,_)=>
some (.inl (ay,av,ax,()))) else
(bif (af==4) then (bif (aj==1) then (some (ae,af,(am==0),ah,ai,aj,ak,am,an,ap,aq,())) else
some (ae,af,false,ah,ai,aj,ak,am,an,ap,aq,())) else
some (ae,af,false,ah,ai,aj,ak,am,an,ap,aq,()):Option (T2B)).bind fun(av,ax,ay,az,aA,aB,aD,aE,aF,aG,aH,_)=>
bif ay then ((fu az aA av aB aD aF true).bind fun(aI,aJ,aK,_)=>
some (.inl (aK,aI,aJ,()))) else
(bif (ax==4) then (bif (aB==1) then (some (av,ax,(aE==1),az,aA,aB,aD,aE,aF,aG,aH,())) else
some (av,ax,false,az,aA,aB,aD,aE,aF,aG,aH,())) else
bif (ax==13) then (bif (aB==1) then (some (av,ax,(aE==1),az,aA,aB,aD,aE,aF,aG,aH,())) else
some (av,ax,false,az,aA,aB,aD,aE,aF,aG,aH,())) else
some (av,ax,false,az,aA,aB,aD,aE,aF,aG,aH,()):Option (T2B)).bind fun(aI,aJ,aK,aL,aM,aO,aP,aQ,aR,aS,aT,_)=>
bif aK then ((j3 aL aM aI aO aP aQ aR).bind fun(aU,aV,aW,aY,aZ,_)=>
bif (!aZ) then (some (.inl (4,0,0,()))) else
bif (aJ==13) then ((jz (decide (aV < aY))).bind fun(ba,bc,_)=>
some (.inl (0,ba,bc,()))) else
let ba:=(w64 (aV - aY));
let bc:=(wk .u16 ba);
some (.inl (0,0,bc,()))) else
some (.inr (aI,aJ,false,aL,aM,aO,aP,aQ,aR,aS,aT,())):Option (T0f⊕T2B)) with
| none=>none
| some (.inl (x0,x1,x2,_))=>
some (x1,x2,x0,())
| some (.inr (x0,x1,x2,x3,x4,x5,x6,x7,x8,x9,ac,_))=>
some (0,0,3,()))
noncomputable def IV:X.Cfg:=⟨E0,[rj,ri,rk,uo],[],[⟨9,0,qE,[(.normal,(qS [(sP 1 RI),(sP 2 I64),(pP 5 12),(pP 8 18),(pP 9 20),(pP 10 22),(sP 46 .bool)] [(12,(uL [RI,CW])),(18,(uL [CB,CW])),(20,(uL [CB,CW])),(22,(uL [CB,CW]))]))]⟩,⟨11,1,qE,[(.normal,(qS [(sP 1 RI),(sP 2 I64),(pP 5 12),(pP 8 18),(pP 9 20),(pP 10 22),(sP 67 .bool)] [(12,(uL [RI,CW])),(18,(uL [CB,CW])),(20,(uL [CB,CW])),(22,(uL [CB,CW]))]))]⟩,⟨13,2,qE,[(.normal,(qS [(sP 1 RI),(sP 2 I64),(pP 5 12),(pP 8 18),(pP 9 20),(pP 10 22),(sP 88 .bool)] [(12,(uL [RI,CW])),(18,(uL [CB,CW])),(20,(uL [CB,CW])),(22,(uL [CB,CW]))]))]⟩,⟨15,3,qE,[(.normal,(qS [(sP 1 RI),(sP 2 I64),(pP 5 12),(pP 8 18),(pP 9 20),(pP 10 22),(sP 109 .bool)] [(12,(uL [RI,CW])),(18,(uL [CB,CW])),(20,(uL [CB,CW])),(22,(uL [CB,CW]))]))]⟩,⟨4,4,qE,[(.ret,(qS [(pP 10 22),(sP 11 I64)] [(22,(uL [CB,CW]))])),(.normal,(qS [(sP 1 RI),(sP 2 I64),(pP 5 12),(pP 8 18),(pP 9 20),(pP 10 22),(sP 109 .bool)] [(12,(uL [RI,CW])),(18,(uL [CB,CW])),(20,(uL [CB,CW])),(22,(uL [CB,CW]))]))]⟩]⟩
def Bc:Ctr:=⟨166,61,[.agg (uL [RI,CW]),shU RI,shU I64,.agg (uL [CB,CW]),.agg (uL [CB,CW])],[],[⟨(uL [CB,CW,I64]),[.agg 2,.one],[]⟩],ap8 rD⟩
theorem IN:Lk 3 Bc:=ls (C:=IV) rfl (aC vW (aC yu (aC vY (aC BS aN)))) (by kernel_rfl) fun h=>by kernel_rfl
def la(a0:Int):Option (Bool×Unit):=
(gJ a0).bind fun(x0,_)=>
bif x0 then (some (true,())) else
bif (a0==22) then (some (true,())) else
some ((a0==24),())
noncomputable def Ak:X.Cfg:=⟨E0,[jG],[],[]⟩
def sC:Ctr:=⟨167,62,(uL [I64]),[],[⟨(uL [.bool]),[.one],[]⟩],ap1 la⟩
theorem zU:Lk 2 sC:=ls (C:=Ak) rfl (aC lE aN) (by kernel_rfl) fun h=>by kernel_rfl
def oW(a0:LDIn) (a1:List (Int)) (a2:List LI) (a3:Int) (a4:List (Int)) (a5:Int) (a6:LDCe) (a7:LDLn) (a8:LDTh):Option (T1h):=
(dW a3).bind fun x0=>
(dH a8 x0).bind fun x1=>
(dH a8 x0).bind fun x2=>
let x3:=(dK (List.length a0));
bif (decide (x2.2.2.1≥x3)) then ((fc x0 2 a8).bind fun(x4,x5,_)=>
some (x4,a4,a5,a6,a7,x5,())) else
(dH a8 x0).bind fun x4=>
(dW x4.2.2.1).bind fun x5=>
(dH a0 x5).bind fun x6=>
(dH a8 x0).bind fun x7=>
let x8:=(w64 (x7.2.2.1+1));
(dH a8 x0).bind fun x9=>
(dW x6.2.1).bind fun ac=>
(dH a8 x0).bind fun ae=>
(dH ae.2.1 ac).bind fun af=>
(dH a8 x0).bind fun ag=>
(dH ag.2.1 ac).bind fun ah=>
(dH a8 x0).bind fun ai=>
(dW x6.2.2.1).bind fun aj=>
(dH a8 x0).bind fun ak=>
(dH ak.2.1 aj).bind fun am=>
(dH a8 x0).bind fun an=>
(dH an.2.1 aj).bind fun ap=>
(match (bif (x6.1==0) then (some (.inl (x0,x8,a4,a5,a6,a7,a8,x6.1,x6.2.1,x6.2.2.1,x6.2.2.2.1,x6.2.2.2.2,()))) else
bif (x6.1==1) then ((dH a8 x0).bind fun aq=>
let av:=(wk .u16 x6.2.2.2.2);
(dW x6.2.1).bind fun ax=>
(dH a8 x0).bind fun ay=>
(dH ay.2.1 ax).bind fun az=>
(dH a8 x0).bind fun aA=>
(dH aA.2.1 ax).bind fun aB=>
let aD:=(List.modify a8 x0 fun e=>(e.1,((List.modify e.2.1 ax fun e=>(0,av)),e.2.2)));
some (.inl (x0,x8,a4,a5,a6,a7,aD,x6.1,x6.2.1,x6.2.2.1,x6.2.2.2.1,x6.2.2.2.2,()))) else
bif (x6.1==2) then ((dH a8 x0).bind fun aq=>
(dW x6.2.1).bind fun av=>
(dH a8 x0).bind fun ax=>
(dH ax.2.1 av).bind fun ay=>
(dH a8 x0).bind fun az=>
(dH az.2.1 av).bind fun aA=>
let aB:=(List.modify a8 x0 fun e=>(e.1,((List.modify e.2.1 av fun e=>(ap.1,ap.2)),e.2.2)));
some (.inl (x0,x8,a4,a5,a6,a7,aB,x6.1,x6.2.1,x6.2.2.1,x6.2.2.2.1,x6.2.2.2.2,()))) else
bif (x6.1==15) then ((dH a8 x0).bind fun aq=>
(dW x6.2.2.2.2).bind fun av=>
(dH a4 av).bind fun ax=>
let ay:=(wk .u16 ax);
(dW x6.2.1).bind fun az=>
(dH a8 x0).bind fun aA=>
(dH aA.2.1 az).bind fun aB=>
(dH a8 x0).bind fun aD=>
(dH aD.2.1 az).bind fun aE=>
let aF:=(List.modify a8 x0 fun e=>(e.1,((List.modify e.2.1 az fun e=>(1,ay)),e.2.2)));
some (.inl (x0,x8,a4,a5,a6,a7,aF,x6.1,x6.2.1,x6.2.2.1,x6.2.2.2.1,x6.2.2.2.2,()))) else
bif (x6.1==16) then ((bif (x6.1==17) then (some (x0,x8,a4,a5,a6,a7,a8,a0,a1,a2,x6.1,x6.2.1,x6.2.2.1,x6.2.2.2.1,x6.2.2.2.2,ap.1,ap.2,ah.1,ah.2,())) else
some (x0,x8,a4,a5,a6,a7,a8,a0,a1,a2,x6.1,x6.2.1,x6.2.2.1,x6.2.2.2.1,x6.2.2.2.2,ap.1,ap.2,ap.1,ap.2,()):Option (T3i)).bind fun(aq,av,ax,ay,az,aA,aB,aD,aE,aF,aG,aH,aI,aJ,aK,aL,aM,aO,aP,_)=>
let aQ:=(wk .u16 aK);
(fu ax ay aE aO aP aQ false).bind fun(aR,aS,aT,_)=>
bif (aT != 0) then ((fc aq aT aB).bind fun(aU,aV,_)=>
some (.inr (aU,ax,ay,az,aA,aV,()))) else
bif (aG==16) then ((dH aB aq).bind fun aU=>
let aV:=(wk .i64 aS);
(lB aV az aA).bind fun(aW,aY,aZ,ba,_)=>
(dW aH).bind fun bc=>
(dH aB aq).bind fun bd=>
(dH bd.2.1 bc).bind fun be=>
(dH aB aq).bind fun bf=>
(dH bf.2.1 bc).bind fun bg=>
let bh:=(List.modify aB aq fun e=>(e.1,((List.modify e.2.1 bc fun e=>(aW,aY)),e.2.2)));
some (.inl (aq,av,ax,ay,aZ,ba,bh,aG,aH,aI,aJ,aK,()))) else
let aU:=(wk .i64 aS);
(iH aU aL aM az aA).bind fun(aV,aW,_)=>
some (.inl (aq,av,ax,ay,aV,aW,aB,aG,aH,aI,aJ,aK,()))) else
bif (x6.1==17) then ((bif (x6.1==17) then (some (x0,x8,a4,a5,a6,a7,a8,a0,a1,a2,x6.1,x6.2.1,x6.2.2.1,x6.2.2.2.1,x6.2.2.2.2,ap.1,ap.2,ah.1,ah.2,())) else
some (x0,x8,a4,a5,a6,a7,a8,a0,a1,a2,x6.1,x6.2.1,x6.2.2.1,x6.2.2.2.1,x6.2.2.2.2,ap.1,ap.2,ap.1,ap.2,()):Option (T3i)).bind fun(aq,av,ax,ay,az,aA,aB,aD,aE,aF,aG,aH,aI,aJ,aK,aL,aM,aO,aP,_)=>
let aQ:=(wk .u16 aK);
(fu ax ay aE aO aP aQ false).bind fun(aR,aS,aT,_)=>
bif (aT != 0) then ((fc aq aT aB).bind fun(aU,aV,_)=>
some (.inr (aU,ax,ay,az,aA,aV,()))) else
bif (aG==16) then ((dH aB aq).bind fun aU=>
let aV:=(wk .i64 aS);
(lB aV az aA).bind fun(aW,aY,aZ,ba,_)=>
(dW aH).bind fun bc=>
(dH aB aq).bind fun bd=>
(dH bd.2.1 bc).bind fun be=>
(dH aB aq).bind fun bf=>
(dH bf.2.1 bc).bind fun bg=>
let bh:=(List.modify aB aq fun e=>(e.1,((List.modify e.2.1 bc fun e=>(aW,aY)),e.2.2)));
some (.inl (aq,av,ax,ay,aZ,ba,bh,aG,aH,aI,aJ,aK,()))) else
let aU:=(wk .i64 aS);
(iH aU aL aM az aA).bind fun(aV,aW,_)=>
some (.inl (aq,av,ax,ay,aV,aW,aB,aG,aH,aI,aJ,aK,()))) else
bif (x6.1==18) then (some (.inl (x0,x6.2.2.2.2,a4,a5,a6,a7,a8,x6.1,x6.2.1,x6.2.2.1,x6.2.2.2.1,x6.2.2.2.2,()))) else
bif (x6.1==19) then (bif (ah.1 != 0) then ((fc x0 3 a8).bind fun(aq,av,_)=>
some (.inr (aq,a4,a5,a6,a7,av,()))) else
bif ((ah.2==0)==(x6.1==19)) then (some (.inl (x0,x6.2.2.2.2,a4,a5,a6,a7,a8,x6.1,x6.2.1,x6.2.2.1,x6.2.2.2.1,x6.2.2.2.2,()))) else
some (.inl (x0,x8,a4,a5,a6,a7,a8,x6.1,x6.2.1,x6.2.2.1,x6.2.2.2.1,x6.2.2.2.2,()))) else
bif (x6.1==20) then (bif (ah.1 != 0) then ((fc x0 3 a8).bind fun(aq,av,_)=>
some (.inr (aq,a4,a5,a6,a7,av,()))) else
bif ((ah.2==0)==(x6.1==19)) then (some (.inl (x0,x6.2.2.2.2,a4,a5,a6,a7,a8,x6.1,x6.2.1,x6.2.2.1,x6.2.2.2.1,x6.2.2.2.2,()))) else
some (.inl (x0,x8,a4,a5,a6,a7,a8,x6.1,x6.2.1,x6.2.2.1,x6.2.2.2.1,x6.2.2.2.2,()))) else
bif (x6.1==21) then ((dH a8 x0).bind fun aq=>
let av:=(wk .u16 x8);
(dW x6.2.1).bind fun ax=>
(dH a8 x0).bind fun ay=>
(dH ay.2.1 ax).bind fun az=>
(dH a8 x0).bind fun aA=>
(dH aA.2.1 ax).bind fun aB=>
let aD:=(List.modify a8 x0 fun e=>(e.1,((List.modify e.2.1 ax fun e=>(0,av)),e.2.2)));
some (.inl (x0,x6.2.2.2.2,a4,a5,a6,a7,aD,x6.1,x6.2.1,x6.2.2.1,x6.2.2.2.1,x6.2.2.2.2,()))) else
bif (x6.1==22) then (bif (ah.1 != 0) then ((fc x0 3 a8).bind fun(aq,av,_)=>
some (.inr (aq,a4,a5,a6,a7,av,()))) else
bif (decide (ah.2 > 255)) then ((fc x0 2 a8).bind fun(aq,av,_)=>
some (.inr (aq,a4,a5,a6,a7,av,()))) else
let aq:=(wk .i64 ah.2);
some (.inl (x0,aq,a4,a5,a6,a7,a8,x6.1,x6.2.1,x6.2.2.1,x6.2.2.2.1,x6.2.2.2.2,()))) else
bif (x6.1==24) then ((dH a8 x0).bind fun aq=>
bif (aq.2.2.2.2.2.1==(-1)) then ((fc x0 1 a8).bind fun(av,ax,_)=>
some (.inr (av,a4,a5,a6,a7,ax,()))) else
(dH a8 x0).bind fun av=>
(dH a8 x0).bind fun ax=>
let ay:=(List.modify a8 x0 fun e=>(e.1,(e.2.1,(e.2.2.1,(e.2.2.2.1,(e.2.2.2.2.1,((-1),e.2.2.2.2.2.2)))))));
some (.inl (x0,av.2.2.2.2.2.1,a4,a5,a6,a7,ay,x6.1,x6.2.1,x6.2.2.1,x6.2.2.2.1,x6.2.2.2.2,()))) else
bif (x6.1==23) then ((dH a8 x0).bind fun aq=>
let av:=(List.modify a8 x0 fun e=>(2,e.2));
(dH av x0).bind fun ax=>
let ay:=(List.modify av x0 fun e=>(e.1,(e.2.1,(x8,e.2.2.2))));
some (.inr (1,a4,a5,a6,a7,ay,()))) else
(dH a8 x0).bind fun aq=>
(dW x6.2.2.2.1).bind fun av=>
(dH a8 x0).bind fun ax=>
(dH ax.2.1 av).bind fun ay=>
(dH a8 x0).bind fun az=>
(dH az.2.1 av).bind fun aA=>
(rD a4 a5 a1 x6.1 ap.1 ap.2 aA.1 aA.2).bind fun(aB,aD,aE,_)=>
bif (aE != 0) then ((fc x0 aE a8).bind fun(aF,aG,_)=>
some (.inr (aF,a4,a5,a6,a7,aG,()))) else
(dH a8 x0).bind fun aF=>
(dW x6.2.1).bind fun aG=>
(dH a8 x0).bind fun aH=>
(dH aH.2.1 aG).bind fun aI=>
(dH a8 x0).bind fun aJ=>
(dH aJ.2.1 aG).bind fun aK=>
let aL:=(List.modify a8 x0 fun e=>(e.1,((List.modify e.2.1 aG fun e=>(aB,aD)),e.2.2)));
some (.inl (x0,x8,a4,a5,a6,a7,aL,x6.1,x6.2.1,x6.2.2.1,x6.2.2.2.1,x6.2.2.2.2,())):Option ((Nat×Int×LI×Int×LDCe×LDLn×LDTh×T0U)⊕T1h)) with
| none=>none
| some (.inl (aq,av,ax,ay,az,aA,aB,aD,aE,aF,aG,aH,_))=>
(dH aB aq).bind fun aI=>
let aJ:=(List.modify aB aq fun e=>(e.1,(e.2.1,(av,e.2.2.2))));
((la aD).bind fun(aK,_)=>
bif aK then ((dH aJ aq).bind fun aL=>
let aM:=(w64 (aL.2.2.2.1+1));
(dH aJ aq).bind fun aO=>
let aP:=(List.modify aJ aq fun e=>(e.1,(e.2.1,(e.2.2.1,(aM,e.2.2.2.2)))));
some (ax,ay,az,aA,aP,())) else
some (ax,ay,az,aA,aJ,()):Option (T12)).bind fun(aK,aL,aM,aO,aP,_)=>
some ((-1),aK,aL,aM,aO,aP,())
| some (.inr (aq,av,ax,ay,az,aA,_))=>
some (aq,av,ax,ay,az,aA,()))
noncomputable def Gb:X.Cfg:=⟨E0,[wD,rk,wE,pF,Bc,sC],[],[⟨17,0,qE,[(.normal,(qS [(pP 1 4),(pP 3 8),(7,.ptr ⟨4,4,[((),(8,0))]⟩ [0,0]),(pP 8 18),(sP 9 I64),(pP 11 24),(pP 12 26)] [(4,(uL [RI,CW,(.row true KCe),iP,qi])),(8,(uL [fb,RI,(.row false RW)])),(18,(uL [I64,I64,I64,I64,I64])),(24,(uL [CB,CW])),(26,(uL [CB,CW]))]))]⟩,⟨8,1,qE,[(.normal,(qS [(pP 1 4),(7,.ptr ⟨4,4,[((),(8,0))]⟩ [0,0]),(pP 8 18),(sP 9 I64)] [(4,(uL [RI,CW,(.row true KCe),iP,qi])),(18,(uL [I64,I64,I64,I64,I64]))])),(.ret,(qS [(pP 1 4),(sP 6 I64)] [(4,(uL [RI,CW,(.row true KCe),iP,qi]))]))]⟩,⟨52,2,qE,[(.normal,(qS [(pP 1 4)] [(4,(uL [RI,CW,(.row true KCe),iP,qi]))]))]⟩]⟩
def zp:Ctr:=⟨146,63,[.agg (uL [fb,RI,(.row false RW)]),.ptr ⟨4,0,[]⟩ [0],shU I64],[(4,(uL [RI,CW,(.row true KCe),iP,qi]))],[⟨(uL [I64]),[.one],[(4,(uL [RI,CW,(.row true KCe),iP,qi]))]⟩],ap9 oW⟩
theorem FY:Lk 4 zp:=ls (C:=Gb) rfl (aC D4 (aC vY (aC D5 (aC tS (aC IN (aC zU aN)))))) (by kernel_rfl) fun h=>by kernel_rfl
def pU:T2Z→Option (T2Z⊕T1C):=fun(v0,v1,v2,v3,v4,v5,v6,v7,v8,v9,v10,v11,v12,v13,v14,_)=>
(oW v2 v3 v4 v0 v10 v11 v12 v13 v14).bind fun(x0,x1,x2,x3,x4,x5,_)=>
bif (x0 != (-1)) then (some (.inr (x0,0,x1,x2,x3,x4,x5,()))) else
(dW v0).bind fun x6=>
(dH x5 x6).bind fun x7=>
(dH x5 x6).bind fun x8=>
bif (x8.2.2.2.1==v1) then (some (.inr (0,0,x1,x2,x3,x4,x5,()))) else
some (.inl (v0,v1,v2,v3,v4,v5,v6,v7,v8,v9,x1,x2,x3,x4,x5,()))
def l7(a0:LDIn) (a1:List (Int)) (a2:List LI) (a3:List (Int)) (a4:Int) (a5:LDCe) (a6:LDLn) (a7:LDTh) (a8:Int) (a9:Int):Option (LI×Int×LDCe×LDLn×LDTh×T02):=
((iF a0 a1 a2 a3 a4 a5 a6 a7).bind fun(x0,_)=>
bif (!x0) then (some (a8,a9,true,a0,a1,a2,a3,a4,a5,a6,a7,(),0,(),(),(),())) else
bif (decide (a8 < 0)) then (some (a8,a9,true,a0,a1,a2,a3,a4,a5,a6,a7,(),0,(),(),(),())) else
bif (decide (a8≥4)) then (some (a8,a9,true,a0,a1,a2,a3,a4,a5,a6,a7,(),0,(),(),(),())) else
bif (decide (a9 < 1)) then (some (a8,a9,true,a0,a1,a2,a3,a4,a5,a6,a7,(),0,(),(),(),())) else
some (a8,a9,(decide (a9 > 64)),a0,a1,a2,a3,a4,a5,a6,a7,(),0,(),(),(),()):Option (Int×Int×Bool×LDIn×LI×LLI×LI×Int×LDCe×LDLn×LDTh×T14)).bind fun(x0,x1,x2,x3,x4,x5,x6,x7,x8,x9,ac,ae,af,ag,ah,ai,_)=>
bif x2 then (some ([],0,[],[],[],0,1,())) else
(it x6 x7 x8 x9 ac).bind fun(aj,ak,am,an,ap,_)=>
(dW x0).bind fun aq=>
(dH ac aq).bind fun av=>
bif (av.1 != 1) then (some (aj,ak,am,an,ap,3,0,())) else
(dW x0).bind fun ax=>
(dH ap ax).bind fun ay=>
(dH ap ax).bind fun az=>
let aA:=(w64 (az.2.2.2.1+x1));
(dQ pU NN (x0,aA,x3,x4,x5,ae,af,ag,ah,ai,aj,ak,am,an,ap,())).bind fun(aB,aD,aE,aF,aG,aH,aI,_)=>
some (aE,aF,aG,aH,aI,aB,aD,())
noncomputable def Ct:X.Cfg:=⟨E0,[mt,lH,zp],[],[⟨2,0,qE,[(.normal,(qS [(sP 2 I64),(sP 3 I64),(pP 4 10),(pP 5 12),(pP 8 18),(sP 33 .bool)] [(10,(uL [fb,RI,(.row false RW)])),(12,(uL [RI,CW,eJ,eX,fB])),(18,(uL [N1,CW,N1,N1,N1]))]))]⟩,⟨9,1,(qS [(sP 2 I64),(pP 4 10),(pP 8 18),(pP 11 24),(sP 12 I64)] [(10,(uL [fb,RI,(.row false RW)])),(18,(uL [N1,CW,N1,N1,N1])),(24,(uL [RI,CW,(.row true KCe),iP,qi]))]),[(.ret,(qS [(pP 8 18),(sP 9 I64),(sP 10 I64)] [(18,(uL [RI,CW,(.row true KCe),iP,qi]))]))]⟩]⟩
def uj:Ctr:=⟨127,64,[.agg (uL [fb,RI,(.row false RW)]),.agg (uL [RI,CW,eJ,eX,fB]),shU I64,shU I64],[],[⟨(uL [RI,CW,(.row true KCe),iP,qi,I64,I64]),[.agg 5,.one,.one],[]⟩],ap10 l7⟩
theorem BN:Lk 5 uj:=ls (C:=Ct) rfl (aC pi (aC nT (aC FY aN))) (by kernel_rfl) fun h=>by kernel_rfl
def jY(a0:Int):Option (ByteArray×Unit):=
let x0:ByteArray:=(bytes []);
(bif (a0==0) then (some (a0,true,())) else
bif (a0==8) then (some (a0,true,())) else
bif (a0==9) then (some (a0,true,())) else
bif (a0==11) then (some (a0,true,())) else
some (a0,(a0==12),()):Option (T01)).bind fun(x1,x2,_)=>
bif x2 then (let x3:ByteArray:=(bytes [78]);
some (x3,())) else
bif (x1==1) then (let x3:ByteArray:=(bytes [72,80,78]);
some (x3,())) else
bif (x1==2) then (let x3:ByteArray:=(bytes [72,80,78]);
some (x3,())) else
bif (x1==3) then (let x3:ByteArray:=(bytes [78,78]);
some (x3,())) else
bif (x1==4) then (let x3:ByteArray:=(bytes [72]);
some (x3,())) else
bif (x1==5) then (let x3:ByteArray:=(bytes [72,78]);
some (x3,())) else
bif (x1==10) then (let x3:ByteArray:=(bytes [78,88]);
some (x3,())) else
bif (x1==13) then (let x3:ByteArray:=(bytes [78,80,78]);
some (x3,())) else
bif (x1==14) then (let x3:ByteArray:=(bytes [78,80,78]);
some (x3,())) else
let x3:ByteArray:=(bytes []);
some (x3,())
noncomputable def Cm:X.Cfg:=⟨E0,[],[],[⟨3,0,qE,[(.normal,(qS [(sP 3 I64),(sP 4 .bool)] []))]⟩]⟩
def ms:Ctr:=⟨147,65,(uL [I64]),[],[⟨(uL [.str]),[.one],[]⟩],ap1 jY⟩
theorem ph:Lk 1 ms:=ls (C:=Cm) rfl aN (by kernel_rfl) fun h=>by kernel_rfl
def ly(a0:Int) (a1:Int):Option (Bool×Unit):=
bif (a0==78) then (some ((a1==0),())) else
bif (a0==72) then (some ((a1==2),())) else
bif (a0==80) then (some ((a1==1),())) else
some (true,())
noncomputable def EB:X.Cfg:=⟨E0,[],[],[]⟩
def rf:Ctr:=⟨148,66,(uL [CB,CB]),[],[⟨(uL [.bool]),[.one],[]⟩],ap2 ly⟩
theorem vU:Lk 1 rf:=ls (C:=EB) rfl aN (by kernel_rfl) fun h=>by kernel_rfl
def g9(a0:Int):Option (Int×Unit):=
bif (decide (a0 < 0)) then (some ((-1),())) else
bif (decide (a0 > 15)) then (some ((-1),())) else
bif (a0==1) then (some (1,())) else
bif (a0==13) then (some (1,())) else
bif (a0==2) then (some (2,())) else
bif (a0==14) then (some (2,())) else
some (0,())
noncomputable def Ah:X.Cfg:=⟨E0,[],[],[]⟩
def i3:Ctr:=⟨131,67,(uL [I64]),[],[⟨(uL [I64]),[.one],[]⟩],ap1 g9⟩
theorem li:Lk 1 i3:=ls (C:=Ah) rfl aN (by kernel_rfl) fun h=>by kernel_rfl
def k9(a0:List (Int)) (a1:Int) (a2:List (Int)) (a3:Int) (a4:Int) (a5:Int):Option (T02):=
bif (a3 != 1) then (some (0,3,())) else
let x0:=(wk .i64 a4);
(fa a0 a1 a2 x0).bind fun(x1,x2,x3,_)=>
(bif (!x3) then (some (true,a3,a4,())) else
bif (decide (a5 < 0)) then (some (true,a3,a4,())) else
(dW x1).bind fun x4=>
(dH a2 x4).bind fun x5=>
let x6:=(w64 (x5 - x2));
some ((decide (a5 > x6)),a3,a4,()):Option (T0c)).bind fun(x4,x5,x6,_)=>
bif x4 then (some (0,4,())) else
let x7:=(wk .i64 x6);
some (x7,0,())
noncomputable def Aj:X.Cfg:=⟨E0,[iz],[],[⟨6,0,qE,[(.normal,(qS [(pP 6 14),(sP 41 .bool)] [(14,(uL [CB,CW]))]))]⟩]⟩
def sB:Ctr:=⟨149,68,[.agg (uL [RI,CW]),shU RI,.agg (uL [CB,CW]),shU I64],[],[⟨(uL [I64,I64]),[.one,.one],[]⟩],ap6 k9⟩
theorem zT:Lk 2 sB:=ls (C:=Aj) rfl (aC kj aN) (by kernel_rfl) fun h=>by kernel_rfl
def lL:T3k→Option (T3k⊕((Int×Unit)⊕(Int×ByteArray×Int×Int×Bool×T36))):=fun(v0,v1,v2,v3,v4,v5,v6,v7,v8,v9,v10,v11,v12,v13,v14,v15,v16,v17,v18,v19,_)=>
bif (decide (v3 < v2)) then ((dW v3).bind fun x0=>
(AL v1 x0).bind fun x1=>
(dW v3).bind fun x2=>
(dH v13 x2).bind fun x3=>
(ly x1 x3.1).bind fun(x4,_)=>
bif (!x4) then (some (.inr (.inl (6,())))) else
let x5:=(w64 (v3+1));
some (.inl (v0,v1,v2,x5,v4,v5,v6,v7,v8,v9,v10,v11,v12,v13,v14,v15,v16,v17,v18,v19,()))) else
some (.inr (.inr (v0,v1,v2,v3,false,v4,v5,v6,v7,v8,v9,v10,v11,v12,v13,v14,v15,v16,v17,v18,v19,())))
def l6(a0:LDIn) (a1:List (Int)) (a2:List LI) (a3:List (Int)) (a4:Int) (a5:LDCe) (a6:LDLn) (a7:LDTh) (a8:Int):Option (Int×Unit):=
(dW a8).bind fun x0=>
(dH a7 x0).bind fun x1=>
let x2:=(w64 (x1.2.2.1 - 1));
(dW x2).bind fun x3=>
(dH a0 x3).bind fun x4=>
(jY x4.2.2.2.2).bind fun(x5,_)=>
let x6:=(Bm x5);
(match dQ lL NN (x4.2.2.2.2,x5,x6,0,a0,a1,a2,a3,a4,a5,a6,a7,x1.1,x1.2.1,x1.2.2.1,x1.2.2.2.1,x1.2.2.2.2.1,x1.2.2.2.2.2.1,x1.2.2.2.2.2.2.1,x1.2.2.2.2.2.2.2,()) with
| none=>none
| some (.inl (x7,_))=>
some (x7,())
| some (.inr (x7,x8,x9,ac,ae,af,ag,ah,ai,aj,ak,am,an,ap,aq,av,ax,ay,az,aA,aB,_))=>
(g9 x7).bind fun(aD,_)=>
bif (decide (aD > 0)) then ((dH aq 1).bind fun aE=>
(dH aq 2).bind fun aF=>
let aG:=(wk .i64 aF.2);
(k9 ai aj ag aE.1 aE.2 aG).bind fun(aH,aI,_)=>
bif (aI != 0) then (some (6,())) else
(dH aq 2).bind fun aJ=>
bif (decide (aJ.2 > 16)) then (some (6,())) else
(bif (x7==10) then ((dH aq 0).bind fun aK=>
let aL:=(wk .i64 aK.2);
let aM:=(dK (List.length af));
some ((decide (aL≥aM)),())) else
bif (x7==12) then ((dH aq 0).bind fun aK=>
let aL:=(wk .i64 aK.2);
let aM:=(dK (List.length af));
some ((decide (aL≥aM)),())) else
some (false,()):Option (Bool×Unit)).bind fun(aK,_)=>
bif aK then (some (6,())) else
some (0,())) else
(bif (x7==10) then ((dH aq 0).bind fun aE=>
let aF:=(wk .i64 aE.2);
let aG:=(dK (List.length af));
some ((decide (aF≥aG)),())) else
bif (x7==12) then ((dH aq 0).bind fun aE=>
let aF:=(wk .i64 aE.2);
let aG:=(dK (List.length af));
some ((decide (aF≥aG)),())) else
some (false,()):Option (Bool×Unit)).bind fun(aE,_)=>
bif aE then (some (6,())) else
some (0,()))
noncomputable def Cp:X.Cfg:=⟨E0,[ms,rf,i3,sB],[],[⟨6,0,(qS [(pP 3 8),(pP 4 10),(pP 7 16),(sP 8 I64),(sP 9 .str),(sP 29 I64),(sP 30 I64)] [(8,(uL [fb,RI,(.row false RW)])),(10,(uL [RI,CW,eJ,eX,fB])),(16,(uL [I64,eJ,I64,I64,I64,I64,I64,CW]))]),[(.ret,(qS [(sP 6 I64)] [])),(.exit 0,(qS [(pP 3 8),(pP 4 10),(pP 7 16),(sP 8 I64),(sP 9 .str),(sP 29 I64),(sP 30 I64),(sP 31 .bool)] [(8,(uL [fb,RI,(.row false RW)])),(10,(uL [RI,CW,eJ,eX,fB])),(16,(uL [I64,eJ,I64,I64,I64,I64,I64,CW]))]))]⟩,⟨19,1,qE,[(.normal,(qS [(sP 93 .bool)] []))]⟩]⟩
def ui:Ctr:=⟨128,69,[.agg (uL [fb,RI,(.row false RW)]),.agg (uL [RI,CW,eJ,eX,fB]),shU I64],[],[⟨(uL [I64]),[.one],[]⟩],ap9 l6⟩
theorem BM:Lk 3 ui:=ls (C:=Cp) rfl (aC ph (aC vU (aC li (aC zT aN)))) (by kernel_rfl) fun h=>by kernel_rfl
def k8(a0:Int) (a1:LDCe) (a2:Int) (a3:Int) (a4:Int) (a5:Int) (a6:Int) (a7:Int):Option (T1T):=
bif (dV 4 0 (List.length a1)) then let x0:LDCe:=(List.append [] a1);
some (a0,x0,a2,a3,a4,a5,a6,a7,()) else none
noncomputable def Ai:X.Cfg:=⟨E0,[],[],[]⟩
def sA:Ctr:=⟨150,70,[.agg (uL [I64,eJ,I64,I64,I64,I64,I64,CW])],[],[⟨(uL [I64,(.row true KCe),I64,I64,I64,I64,I64,CW]),[.agg 8],[]⟩],ap8 k8⟩
theorem zS:Lk 1 sA:=ls (C:=Ai) rfl aN (by kernel_rfl) fun h=>by kernel_rfl
def mU(a0:Int) (a1:LDCe) (a2:Int) (a3:Int) (a4:Int) (a5:Int) (a6:Int) (a7:Int) (a8:Int) (a9:Int):Option (T1T):=
(k8 a0 a1 a2 a3 a4 a5 a6 a7).bind fun(x0,x1,x2,x3,x4,x5,x6,x7,_)=>
some (4,x1,x2,x3,x4,x5,a8,a9,())
noncomputable def Ge:X.Cfg:=⟨E0,[sA],[],[]⟩
def s8:Ctr:=⟨129,71,[.agg (uL [I64,eJ,I64,I64,I64,I64,I64,CW]),shU I64,shU CW],[],[⟨(uL [I64,(.row true KCe),I64,I64,I64,I64,I64,CW]),[.agg 8],[]⟩],ap10 mU⟩
theorem yr:Lk 2 s8:=ls (C:=Ge) rfl (aC zS aN) (by kernel_rfl) fun h=>by kernel_rfl
def gw(a0:Int):Option (Int×Unit):=
bif (decide (a0 < 0)) then (some ((-1),())) else
bif (decide (a0 > 15)) then (some ((-1),())) else
(jY a0).bind fun(x0,_)=>
let x1:=(Bm x0);
some (x1,())
noncomputable def vk:X.Cfg:=⟨E0,[ms],[],[]⟩
def kR:Ctr:=⟨130,72,(uL [I64]),[],[⟨(uL [I64]),[.one],[]⟩],ap1 gw⟩
theorem oy:Lk 2 kR:=ls (C:=vk) rfl (aC ph aN) (by kernel_rfl) fun h=>by kernel_rfl
def gM(a0:List (Int)) (a1:Int) (a2:List (Int)) (a3:Int) (a4:Int):Option (T0w):=
bif (a3==0) then (some (0,a4,0,0,())) else
bif (a3==2) then (let x0:Int:=(wk .u16 (a4 - a1));
some (2,x0,0,0,())) else
let x0:=(wk .i64 a4);
(fa a0 a1 a2 x0).bind fun(x1,x2,x3,_)=>
bif x3 then (some (1,0,x1,x2,())) else
let x4:=(wk .i64 a4);
some (1,0,(-1),x4,())
noncomputable def CI:X.Cfg:=⟨E0,[iz],[],[]⟩
def my:Ctr:=⟨43,73,[.agg (uL [RI,CW]),shU RI,.agg (uL [CB,CW])],[],[⟨(uL [CB,CW,I64,I64]),[.agg 4],[]⟩],ap5 gM⟩
theorem pn:Lk 2 my:=ls (C:=CI) rfl (aC kj aN) (by kernel_rfl) fun h=>by kernel_rfl
def lA(a0:LDCe) (a1:LDLn) (a2:Int):Option (T02):=
let x0:=(w64 (Int.tdiv a2 4));
let x1:=(Int.tmod x0 4);
(dW x1).bind fun x2=>
(dH a1 x2).bind fun x3=>
bif (x3.1==x0) then (let x4:Int:=(Int.tmod a2 4);
(dW x4).bind fun x5=>
(dH x3.2.2 x5).bind fun x6=>
some (x6.1,x6.2,())) else
(dW a2).bind fun x4=>
(dH a0 x4).bind fun x5=>
some (x5.1,x5.2,())
noncomputable def EL:X.Cfg:=⟨E0,[],[],[]⟩
def ro:Ctr:=⟨44,74,[.agg (uL [eJ,eX]),shU I64],[],[⟨(uL [CB,CW]),[.agg 2],[]⟩],ap3 lA⟩
theorem wd:Lk 1 ro:=ls (C:=EL) rfl aN (by kernel_rfl) fun h=>by kernel_rfl
def ir:T3W→Option (T3W⊕(Int×Int×T3R)):=fun(v0,v1,v2,v3,v4,v5,v6,v7,v8,v9,v10,v11,v12,v13,v14,v15,v16,v17,v18,v19,v20,v21,v22,v23,v24,v25,v26,v27,v28,v29,v30,v31,v32,v33,v34,v35,v36,v37,v38,_)=>
bif (decide (v1 < v0)) then ((dW v1).bind fun x0=>
(dH v24 x0).bind fun x1=>
(gM v18 v19 v3 x1.1 x1.2).bind fun(x2,x3,x4,x5,_)=>
let x6:LDCn:=[(x2,(x3,(x4,x5)))];
bif (dV 24 (List.length v37) (List.length x6)) then let x7:LDCn:=(List.append v37 x6);
let x8:=(w64 (v1+1));
some (.inl (v0,x8,v2,v3,v4,v5,v6,v7,v8,v9,v10,v11,v12,v13,v14,v15,v16,v17,v18,v19,v20,v21,v22,v23,v24,v25,v26,v27,v28,v29,v30,v31,v32,v33,v34,v35,v36,x7,v38,())) else none) else
some (.inr (v0,v1,false,v2,v3,v4,v5,v6,v7,v8,v9,v10,v11,v12,v13,v14,v15,v16,v17,v18,v19,v20,v21,v22,v23,v24,v25,v26,v27,v28,v29,v30,v31,v32,v33,v34,v35,v36,v37,v38,()))
def iq:T3V→Option (T3V⊕T3Z):=fun(v0,v1,v2,v3,v4,v5,v6,v7,v8,v9,v10,v11,v12,v13,v14,v15,v16,v17,v18,v19,v20,v21,v22,v23,v24,v25,v26,v27,v28,v29,v30,v31,v32,v33,v34,v35,v36,v37,v38,_)=>
bif (decide (v1 < v0)) then ((dH v24 1).bind fun x0=>
let x1:=(wk .i64 x0.2);
let x2:=(w64 (x1+v1));
(lA v20 v21 x2).bind fun(x3,x4,_)=>
(gM v18 v19 v3 x3 x4).bind fun(x5,x6,x7,x8,_)=>
let x9:LDCn:=[(x5,(x6,(x7,x8)))];
bif (dV 24 (List.length v38) (List.length x9)) then let ac:LDCn:=(List.append v38 x9);
let ae:=(w64 (v1+1));
some (.inl (v0,ae,v2,v3,v4,v5,v6,v7,v8,v9,v10,v11,v12,v13,v14,v15,v16,v17,v18,v19,v20,v21,v22,v23,v24,v25,v26,v27,v28,v29,v30,v31,v32,v33,v34,v35,v36,v37,ac,())) else none) else
some (.inr (v0,v1,false,v2,v3,v4,v5,v6,v7,v8,v9,v10,v11,v12,v13,v14,v15,v16,v17,v18,v19,v20,v21,v22,v23,v24,v25,v26,v27,v28,v29,v30,v31,v32,v33,v34,v35,v36,v37,v38,()))
def lz(a0:LDIn) (a1:List (Int)) (a2:List LI) (a3:List (Int)) (a4:Int) (a5:LDCe) (a6:LDLn) (a7:LDTh) (a8:Int) (a9:Int):Option (LI×Int×LDCe×LDLn×LDTh×T23):=
(l7 a0 a1 a2 a3 a4 a5 a6 a7 a8 a9).bind fun(x0,x1,x2,x3,x4,x5,x6,_)=>
bif (x6 != 0) then (some ([],0,[],[],[],0,0,0,0,0,0,[],[],x6,())) else
(dW a8).bind fun x7=>
(dH x4 x7).bind fun x8=>
(dH x4 x7).bind fun x9=>
(dH x4 x7).bind fun ac=>
(match (bif (x5==2) then (some (.inl ((),0,(),(),(),0,0,0,0,0,0,(),(),x0,x1,x2,x3,x4,a8,x5,x9.2.2.2.2.2.2.1,x9.2.2.2.1,x9.2.2.1,0,(),(),()))) else
bif (x5==1) then ((l6 a0 a1 a2 x0 x1 x2 x3 x4 a8).bind fun(ae,_)=>
bif (ae != 0) then ((mU x9.1 ac.2.1 x9.2.2.1 x9.2.2.2.1 x9.2.2.2.2.1 x9.2.2.2.2.2.1 x9.2.2.2.2.2.2.1 x9.2.2.2.2.2.2.2 ae 0).bind fun(af,ag,ah,ai,aj,ak,am,an,_)=>
(dW a8).bind fun ap=>
(dH x4 ap).bind fun aq=>
(dH x4 ap).bind fun av=>
let ax:=(List.modify x4 ap fun e=>(af,(ag,(ah,(ai,(aj,(ak,(am,an))))))));
some (.inl ((),0,(),(),(),0,0,0,0,0,0,(),(),x0,x1,x2,x3,ax,a8,2,ae,x9.2.2.2.1,x9.2.2.1,0,(),(),()))) else
let af:=(w64 (x9.2.2.1 - 1));
(dW af).bind fun ag=>
(dH a0 ag).bind fun ah=>
(gw ah.2.2.2.2).bind fun(ai,_)=>
(dQ ir NN (ai,0,a0,a1,a2,(),0,(),(),(),0,0,0,0,0,0,(),(),x0,x1,x2,x3,x4,x9.1,ac.2.1,x9.2.2.1,x9.2.2.2.1,x9.2.2.2.2.1,x9.2.2.2.2.2.1,x9.2.2.2.2.2.2.1,x9.2.2.2.2.2.2.2,a8,x5,0,x9.2.2.2.1,x9.2.2.1,ah.2.2.2.2,[],(),())).bind fun(aj,ak,am,an,ap,aq,av,ax,ay,az,aA,aB,aD,aE,aF,aG,aH,aI,aJ,aK,aL,aM,aO,aP,aQ,aR,aS,aT,aU,aV,aW,aY,aZ,ba,bc,bd,be,bf,bg,bh,_)=>
(g9 bf).bind fun(bi,_)=>
bif (bi==1) then ((dH aR 2).bind fun bj=>
let bk:=(wk .i64 bj.2);
(dQ iq NN (bk,0,an,ap,aq,av,ax,ay,az,aA,aB,aD,aE,aF,aG,aH,aI,aJ,aK,aL,aM,aO,aP,aQ,aR,aS,aT,aU,aV,aW,aY,aZ,ba,bc,bd,be,bf,bg,[],())).bind fun(bl,bm,bn,bo,bp,bq,bt,bv,bx,bA,bB,bC,bD,bE,bF,bG,bH,bI,bJ,bK,bL,bM,bN,bO,bP,bQ,bR,bS,bT,bU,bV,bW,bY,bZ,b8,b9,ca,cb,cd,cf,_)=>
some (.inr (.inl (bl,bm,bn,bo,bp,bq,bt,bv,bx,bA,bB,bC,bD,bE,bF,bG,bH,bI,bJ,bK,bL,bM,bN,bO,bP,bQ,bR,bS,bT,bU,bV,bW,bY,bZ,b8,b9,ca,cb,cd,cf,())))) else
some (.inr (.inr (.inl (false,an,ap,aq,av,ax,ay,az,aA,aB,aD,aE,aF,aG,aH,aI,aJ,aK,aL,aM,aO,aP,aQ,aR,aS,aT,aU,aV,aW,aY,aZ,ba,bc,bd,be,bf,bg,bh,()))))) else
some (.inr (.inr (.inr (a8,false,a0,a1,a2,(),0,(),(),(),0,0,0,0,0,0,(),(),x0,x1,x2,x3,x4,x9.1,ac.2.1,x9.2.2.1,x9.2.2.2.1,x9.2.2.2.2.1,x9.2.2.2.2.2.1,x9.2.2.2.2.2.2.1,x9.2.2.2.2.2.2.2,a8,x5,0,x9.2.2.2.1,x9.2.2.1,0,(),(),())))):Option ((Unit×Int×Unit×Unit×Unit×Int×Int×Int×Int×Int×Int×Unit×Unit×LI×Int×LDCe×LDLn×LDTh×T1O)⊕(T3Z⊕(T3R⊕(Int×Bool×LDIn×LI×LLI×Unit×Int×Unit×Unit×Unit×Int×Int×Int×Int×Int×Int×Unit×Unit×LI×Int×LDCe×LDLn×LDTh×Int×LDCe×Int×Int×Int×Int×Int×Int×T1O))))) with
| none=>none
| some (.inl (ae,af,ag,ah,ai,aj,ak,am,an,ap,aq,av,ax,ay,az,aA,aB,aD,aE,aF,aG,aH,aI,aJ,aK,aL,_))=>
some (ay,az,aA,aB,aD,aE,aF,aG,aH,aI,aJ,[],[],0,())
| some (.inr (.inl (ae,af,ag,ah,ai,aj,ak,am,an,ap,aq,av,ax,ay,az,aA,aB,aD,aE,aF,aG,aH,aI,aJ,aK,aL,aM,aO,aP,aQ,aR,aS,aT,aU,aV,aW,aY,aZ,ba,bc,_)))=>
some (aF,aG,aH,aI,aJ,aT,aU,aV,aW,aY,aZ,ba,bc,0,())
| some (.inr (.inr (.inl (ae,af,ag,ah,ai,aj,ak,am,an,ap,aq,av,ax,ay,az,aA,aB,aD,aE,aF,aG,aH,aI,aJ,aK,aL,aM,aO,aP,aQ,aR,aS,aT,aU,aV,aW,aY,aZ,_))))=>
some (aD,aE,aF,aG,aH,aR,aS,aT,aU,aV,aW,aY,[],0,())
| some (.inr (.inr (.inr (ae,af,ag,ah,ai,aj,ak,am,an,ap,aq,av,ax,ay,az,aA,aB,aD,aE,aF,aG,aH,aI,aJ,aK,aL,aM,aO,aP,aQ,aR,aS,aT,aU,aV,aW,aY,aZ,ba,_))))=>
some (aE,aF,aG,aH,aI,aS,aT,aU,aV,aW,aY,[],[],0,()))
noncomputable def EC:X.Cfg:=⟨E0,[uj,ui,s8,kR,my,i3,ro],[],[⟨19,0,(qS [(pP 4 10),(pP 8 18),(pP 9 20),(pP 11 24),(pP 14 30),(pP 15 32),(sP 80 I64),(sP 81 I64)] [(10,(uL [fb,RI,(.row false RW)])),(18,(uL [N1,CW,N1,N1,N1])),(20,(uL [I64,I64,I64,I64,I64,I64,N1,N1])),(24,(uL [RI,CW,(.row true KCe),iP,(.row true M5)])),(30,(uL [I64,eJ,I64,I64,I64,I64,I64,CW])),(32,(uL [I64,I64,I64,I64,I64,I64,(.row true KCn),N1]))]),[(.exit 1,(qS [(pP 4 10),(pP 8 18),(pP 9 20),(pP 11 24),(pP 14 30),(pP 15 32),(sP 80 I64),(sP 81 I64),(sP 82 .bool)] [(10,(uL [fb,RI,(.row false RW)])),(18,(uL [N1,CW,N1,N1,N1])),(20,(uL [I64,I64,I64,I64,I64,I64,N1,N1])),(24,(uL [RI,CW,(.row true KCe),iP,(.row true M5)])),(30,(uL [I64,eJ,I64,I64,I64,I64,I64,CW])),(32,(uL [I64,I64,I64,I64,I64,I64,(.row true KCn),N1]))]))]⟩,⟨26,1,(qS [(pP 4 10),(pP 8 18),(pP 9 20),(pP 11 24),(pP 14 30),(pP 15 32),(sP 109 I64),(sP 110 I64)] [(10,(uL [fb,RI,(.row false RW)])),(18,(uL [N1,CW,N1,N1,N1])),(20,(uL [I64,I64,I64,I64,I64,I64,N1,N1])),(24,(uL [RI,CW,(.row true KCe),iP,(.row true M5)])),(30,(uL [I64,eJ,I64,I64,I64,I64,I64,CW])),(32,(uL [I64,I64,I64,I64,I64,I64,(.row true KCn),(.row true KCn)]))]),[(.exit 3,(qS [(pP 4 10),(pP 8 18),(pP 9 20),(pP 11 24),(pP 14 30),(pP 15 32),(sP 109 I64),(sP 110 I64),(sP 111 .bool)] [(10,(uL [fb,RI,(.row false RW)])),(18,(uL [N1,CW,N1,N1,N1])),(20,(uL [I64,I64,I64,I64,I64,I64,N1,N1])),(24,(uL [RI,CW,(.row true KCe),iP,(.row true M5)])),(30,(uL [I64,eJ,I64,I64,I64,I64,I64,CW])),(32,(uL [I64,I64,I64,I64,I64,I64,(.row true KCn),(.row true KCn)]))]))]⟩,⟨7,2,qE,[(.normal,(qS [(pP 8 18),(pP 9 20),(pP 11 24),(pP 15 32)] [(18,(uL [N1,CW,N1,N1,N1])),(20,(uL [I64,I64,I64,I64,I64,I64,N1,N1])),(24,(uL [RI,CW,(.row true KCe),iP,(.row true M5)])),(32,(uL [I64,I64,I64,I64,I64,I64,N1,N1]))])),(.normal,(qS [(pP 4 10),(pP 8 18),(pP 9 20),(pP 11 24),(pP 14 30),(pP 15 32),(sP 109 I64),(sP 110 I64),(sP 111 .bool)] [(10,(uL [fb,RI,(.row false RW)])),(18,(uL [N1,CW,N1,N1,N1])),(20,(uL [I64,I64,I64,I64,I64,I64,N1,N1])),(24,(uL [RI,CW,(.row true KCe),iP,(.row true M5)])),(30,(uL [I64,eJ,I64,I64,I64,I64,I64,CW])),(32,(uL [I64,I64,I64,I64,I64,I64,(.row true KCn),(.row true KCn)]))])),(.normal,(qS [(pP 4 10),(pP 8 18),(pP 9 20),(pP 11 24),(pP 14 30),(pP 15 32),(sP 103 .bool)] [(10,(uL [fb,RI,(.row false RW)])),(18,(uL [N1,CW,N1,N1,N1])),(20,(uL [I64,I64,I64,I64,I64,I64,N1,N1])),(24,(uL [RI,CW,(.row true KCe),iP,(.row true M5)])),(30,(uL [I64,eJ,I64,I64,I64,I64,I64,CW])),(32,(uL [I64,I64,I64,I64,I64,I64,(.row true KCn),N1]))])),(.normal,(qS [(sP 2 I64),(pP 4 10),(pP 8 18),(pP 9 20),(pP 11 24),(pP 14 30),(pP 15 32),(sP 51 .bool)] [(10,(uL [fb,RI,(.row false RW)])),(18,(uL [N1,CW,N1,N1,N1])),(20,(uL [I64,I64,I64,I64,I64,I64,N1,N1])),(24,(uL [RI,CW,(.row true KCe),iP,(.row true M5)])),(30,(uL [I64,eJ,I64,I64,I64,I64,I64,CW])),(32,(uL [I64,I64,I64,I64,I64,I64,N1,N1]))]))]⟩]⟩
def wB:Ctr:=⟨100,75,[.agg (uL [fb,RI,(.row false RW)]),.agg (uL [RI,CW,eJ,eX,fB]),shU I64,shU I64],[],[⟨(uL [RI,CW,eJ,eX,fB,I64,I64,I64,I64,I64,I64,d8,d8,I64]),[.agg 5,.agg 8,.one],[]⟩],ap10 lz⟩
theorem D2:Lk 6 wB:=ls (C:=EC) rfl (aC BN (aC BM (aC yr (aC oy (aC pn (aC li (aC wd aN))))))) (by kernel_rfl) fun h=>by kernel_rfl
def io:T2h→Option (T2h⊕T2t):=fun(v0,v1,v2,v3,v4,v5,v6,v7,v8,_)=>
bif (decide (v2 < v1)) then ((dW v2).bind fun x0=>
(dH v0 x0).bind fun x1=>
bif (dV 8 0 (List.length x1)) then let x2:List (Int):=(List.append [] x1);
bif (dV 24 (List.length v8) (List.length [x2])) then let x3:List LI:=(List.append v8 [x2]);
let x4:=(w64 (v2+1));
some (.inl (v0,v1,x4,v3,v4,v5,v6,v7,x3,())) else none else none) else
some (.inr (v0,v1,v2,false,v3,v4,v5,v6,v7,v8,()))
def jw(a0:List (Int)) (a1:List LI):Option (T08):=
bif (dV 8 0 (List.length a0)) then let x0:List (Int):=(List.append [] a0);
let x1:=(dK (List.length a1));
(dQ io NN (a1,x1,0,a0,a1,(),(),x0,[],())).bind fun(x2,x3,x4,x5,x6,x7,x8,x9,ac,ae,_)=>
some (ac,ae,()) else none
noncomputable def Ey:X.Cfg:=⟨E0,[],[(21,(.row true I64)),(22,(.row true I64))],[(lx 4 0 [(pP 2 6),(pP 3 8),(sP 11 (.row false RI)),(sP 12 I64),(sP 13 I64)] [(4,(uL [RI,(.row false RI)])),(6,(uL [N1,N1])),(8,(uL [(.row true I64),(.row true (.row true I64))]))] 14)]⟩
def nX:Ctr:=⟨151,76,[.agg (uL [RI,(.row false RI)])],[],[⟨(uL [(.row true I64),(.row true (.row true I64))]),[.agg 2],[]⟩],ap2 jw⟩
theorem qM:Lk 1 nX:=ls (C:=Ey) rfl aN (by kernel_rfl) fun h=>by kernel_rfl
def jv(a0:List (Int)) (a1:List LI) (a2:Int) (a3:Int):Option (LI×LLI×T01):=
(jw a0 a1).bind fun(x0,x1,_)=>
(bif (decide (a2 < 0)) then (some (a2,true,(),(),x0,x1,())) else
bif (decide (a2≥4)) then (some (a2,true,(),(),x0,x1,())) else
(dW a2).bind fun x2=>
(dH a0 x2).bind fun x3=>
some (a2,(x3 != a3),(),(),x0,x1,()):Option (T19)).bind fun(x2,x3,x4,x5,x6,x7,_)=>
bif x3 then (some (x6,x7,(-1),false,())) else
(dW x2).bind fun x8=>
(dH x6 x8).bind fun x9=>
(dH x6 x8).bind fun ac=>
let ae:=(List.modify x6 x8 fun e=>(-1));
(dW x2).bind fun af=>
(dH x7 af).bind fun ag=>
(dH x7 af).bind fun ah=>
(dH x7 af).bind fun ai=>
let aj:=(dK (List.length ai));
bif (decide (aj > 0)) then ((dW x2).bind fun ak=>
(dH x7 ak).bind fun am=>
(dH x7 ak).bind fun an=>
(dH x7 ak).bind fun ap=>
(dH ap 0).bind fun aq=>
(dH x7 ak).bind fun av=>
(dH av 0).bind fun ax=>
(dW x2).bind fun ay=>
(dH ae ay).bind fun az=>
(dH ae ay).bind fun aA=>
let aB:=(List.modify ae ay fun e=>ax);
(dW x2).bind fun aD=>
(dH x7 aD).bind fun aE=>
(dH x7 aD).bind fun aF=>
(dH x7 aD).bind fun aG=>
bif (hY 1 (List.length aG) (List.length aG)) then (dH x7 aD).bind fun aH=>
(dW x2).bind fun aI=>
(dH x7 aI).bind fun aJ=>
(dH x7 aD).bind fun aK=>
(dH x7 aI).bind fun aL=>
let aM:=(List.modify x7 aI fun e=>(nv aK 1 (Nat.sub (List.length aG) 1)));
(dW x2).bind fun aO=>
(dH aB aO).bind fun aP=>
some (aB,aM,aP,true,()) else none) else
(dW x2).bind fun ak=>
(dH ae ak).bind fun am=>
some (ae,x7,am,true,())
noncomputable def Ew:X.Cfg:=⟨E0,[nX],[],[⟨3,0,qE,[(.normal,(qS [(sP 1 I64),(pP 6 14),(pP 9 20),(sP 26 .bool)] [(14,(uL [N1,N1])),(20,(uL [(.row true I64),(.row true (.row true I64))]))]))]⟩]⟩
def nW:Ctr:=⟨132,77,[.agg (uL [RI,(.row false RI)]),shU I64,shU I64],[],[⟨(uL [RI,(.row false RI),I64,.bool]),[.agg 2,.one,.one],[]⟩],ap4 jv⟩
theorem qL:Lk 2 nW:=ls (C:=Ew) rfl (aC qM aN) (by kernel_rfl) fun h=>by kernel_rfl
def d7(a0:Int) (a1:Bool):Option (T1z):=
(bif (!a1) then (some (65535,0,0,0,0,(),0,false,())) else
some (a0,0,0,0,0,(),0,false,()):Option (Int×T1z)).bind fun(x0,x1,x2,x3,x4,x5,x6,x7,_)=>
let x8:=(wk .u16 x0);
some (0,x8,0,0,(),(-1),false,())
noncomputable def Cc:X.Cfg:=⟨E0,[],[],[⟨1,0,qE,[(.normal,(qS [(sP 0 I64),(pP 4 10)] [(10,(uL [CB,CW,I64,I64,N1,I64,.bool]))]))]⟩]⟩
def kt:Ctr:=⟨152,78,(uL [I64,.bool]),[],[⟨(uL [CB,CW,I64,I64,N1,I64,.bool]),[.agg 7],[]⟩],ap2 d7⟩
theorem mn:Lk 1 kt:=ls (C:=Cc) rfl aN (by kernel_rfl) fun h=>by kernel_rfl
def mT:T2V→Option (T2V⊕((Int×T08)⊕(Int×Int×LLI×Int×Int×LI×T20))):=fun(v0,v1,v2,v3,v4,v5,v6,v7,v8,v9,v10,v11,v12,v13,_)=>
bif (decide (v7 < v6)) then ((dW v7).bind fun x0=>
(dH v5 x0).bind fun x1=>
bif (x1==v1) then (some (.inr (.inl (2,v12,v13,())))) else
let x2:=(w64 (v7+1));
some (.inl (v0,v1,v2,v3,v4,v5,v6,x2,v8,v9,v10,v11,v12,v13,()))) else
some (.inr (.inr (v0,v1,v2,v3,v4,v5,v6,v7,false,v8,v9,v10,v11,v12,v13,())))
def mS:T2x→Option (T2x⊕((Int×T08)⊕(Int×Int×T2t))):=fun(v0,v1,v2,v3,v4,v5,v6,v7,v8,v9,v10,_)=>
bif (decide (v4 < v3)) then ((dW v4).bind fun x0=>
(dH v2 x0).bind fun x1=>
let x2:=(dK (List.length x1));
(match dQ mT NN (v0,v1,v2,v3,v4,x1,x2,0,v5,v6,v7,v8,v9,v10,()) with
| none=>none
| some (.inl (x3,x4,x5,_))=>
some (.inr (.inl (x3,x4,x5,())))
| some (.inr (x3,x4,x5,x6,x7,x8,x9,ac,ae,af,ag,ah,ai,aj,ak,_))=>
let am:=(w64 (x7+1));
some (.inl (x3,x4,x5,x6,am,af,ag,ah,ai,aj,ak,())))) else
some (.inr (.inr (v0,v1,v2,v3,v4,false,v5,v6,v7,v8,v9,v10,())))
def nI(a0:List (Int)) (a1:List LI) (a2:Int) (a3:Int):Option (LI×LLI×Int×Unit):=
(jw a0 a1).bind fun(x0,x1,_)=>
(bif (decide (a2 < 0)) then (some (a2,a3,true,a0,a1,(),(),x0,x1,())) else
bif (decide (a2≥4)) then (some (a2,a3,true,a0,a1,(),(),x0,x1,())) else
(dW a2).bind fun x2=>
(dH a0 x2).bind fun x3=>
some (a2,a3,(x3==a3),a0,a1,(),(),x0,x1,()):Option (T20)).bind fun(x2,x3,x4,x5,x6,x7,x8,x9,ac,_)=>
bif x4 then (some (x9,ac,2,())) else
let ae:=(dK (List.length x6));
(match dQ mS NN (x2,x3,x6,ae,0,x5,x6,x7,x8,x9,ac,()) with
| none=>none
| some (.inl (af,ag,ah,_))=>
some (ag,ah,af,())
| some (.inr (af,ag,ah,ai,aj,ak,am,an,ap,aq,av,ax,_))=>
(dW af).bind fun ay=>
(dH am ay).bind fun az=>
bif (az==(-1)) then ((dW af).bind fun aA=>
(dH av aA).bind fun aB=>
(dH av aA).bind fun aD=>
let aE:=(List.modify av aA fun e=>ag);
some (aE,ax,0,())) else
(dW af).bind fun aA=>
(dH ax aA).bind fun aB=>
(dH ax aA).bind fun aD=>
(dH ax aA).bind fun aE=>
bif (dV 8 (List.length aE) (List.length [ag])) then let aF:List (Int):=(List.append aE [ag]);
(dW af).bind fun aG=>
(dH ax aG).bind fun aH=>
(dH ax aG).bind fun aI=>
bif (Nat.beq aG aA) then let aJ:List LI:=(List.modify ax aG fun e=>aF);
some (av,aJ,1,()) else none else none)
noncomputable def Ev:X.Cfg:=⟨E0,[nX],[],[⟨3,0,qE,[(.normal,(qS [(sP 1 I64),(sP 2 I64),(pP 3 8),(pP 6 14),(pP 8 18),(sP 29 .bool)] [(8,(uL [RI,(.row false RI)])),(14,(uL [N1,N1])),(18,(uL [(.row true I64),(.row true (.row true I64))]))]))]⟩,⟨13,1,(qS [(sP 1 I64),(sP 2 I64),(pP 3 8),(pP 6 14),(pP 8 18),(sP 32 (.row false RI)),(sP 33 I64),(sP 34 I64),(sP 38 RI),(sP 39 I64),(sP 40 I64)] [(8,(uL [RI,(.row false RI)])),(14,(uL [N1,N1])),(18,(uL [(.row true I64),(.row true (.row true I64))]))]),[(.ret,(qS [(pP 6 14),(sP 7 I64)] [(14,(uL [(.row true I64),(.row true (.row true I64))]))])),(.exit 2,(qS [(sP 1 I64),(sP 2 I64),(pP 3 8),(pP 6 14),(pP 8 18),(sP 32 (.row false RI)),(sP 33 I64),(sP 34 I64),(sP 38 RI),(sP 39 I64),(sP 40 I64),(sP 41 .bool)] [(8,(uL [RI,(.row false RI)])),(14,(uL [N1,N1])),(18,(uL [(.row true I64),(.row true (.row true I64))]))]))]⟩,⟨7,2,(qS [(sP 1 I64),(sP 2 I64),(pP 3 8),(pP 6 14),(pP 8 18),(sP 32 (.row false RI)),(sP 33 I64),(sP 34 I64)] [(8,(uL [RI,(.row false RI)])),(14,(uL [N1,N1])),(18,(uL [(.row true I64),(.row true (.row true I64))]))]),[(.ret,(qS [(pP 6 14),(sP 7 I64)] [(14,(uL [(.row true I64),(.row true (.row true I64))]))])),(.exit 0,(qS [(sP 1 I64),(sP 2 I64),(pP 3 8),(pP 6 14),(pP 8 18),(sP 32 (.row false RI)),(sP 33 I64),(sP 34 I64),(sP 35 .bool)] [(8,(uL [RI,(.row false RI)])),(14,(uL [N1,N1])),(18,(uL [(.row true I64),(.row true (.row true I64))]))]))]⟩]⟩
def wy:Ctr:=⟨153,79,[.agg (uL [RI,(.row false RI)]),shU I64,shU I64],[],[⟨(uL [(.row true I64),(.row true (.row true I64)),I64]),[.agg 2,.one],[]⟩],ap4 nI⟩
theorem DZ:Lk 2 wy:=ls (C:=Ev) rfl (aC qM aN) (by kernel_rfl) fun h=>by kernel_rfl
def jZ(a0:Int) (a1:Int) (a2:Int) (a3:Int) (a4:Int) (a5:Int) (a6:LDCn) (a7:LDCn):Option (Bool×Unit):=
bif (decide (a0≥0)) then (bif (decide (a0 < 4)) then (bif (decide (a1≥0)) then (bif (decide (a1≤3)) then (bif (decide (a2≥0)) then (bif (decide (a2≤6)) then (bif (decide (a3≥0)) then (bif (decide (a3≤1099511627776)) then (bif (decide (a4≥0)) then (bif (decide (a4≤255)) then (bif (decide (a5≥0)) then (bif (decide (a5≤15)) then ((ff a6 3).bind fun(x0,_)=>
bif x0 then ((ff a7 16).bind fun(x1,_)=>
some (x1,())) else
some (false,())) else
some (false,())) else
some (false,())) else
some (false,())) else
some (false,())) else
some (false,())) else
some (false,())) else
some (false,())) else
some (false,())) else
some (false,())) else
some (false,())) else
some (false,())) else
some (false,())
noncomputable def Cn:X.Cfg:=⟨E0,[gg],[],[]⟩
def pE:Ctr:=⟨155,80,[.agg (uL [I64,I64,I64,I64,I64,I64,d8,d8])],[],[⟨(uL [.bool]),[.one],[]⟩],ap8 jZ⟩
theorem tR:Lk 3 pE:=ls (C:=Cn) rfl (aC gR aN) (by kernel_rfl) fun h=>by kernel_rfl
def qp(a0:Int):Option (Bool×Unit):=
bif (decide (a0≥1)) then (bif (decide (a0≤7)) then (some (true,())) else
bif (a0==13) then (some (true,())) else
some ((a0==14),())) else
bif (a0==13) then (some (true,())) else
some ((a0==14),())
noncomputable def Em:X.Cfg:=⟨E0,[],[],[]⟩
def wq:Ctr:=⟨168,81,(uL [I64]),[],[⟨(uL [.bool]),[.one],[]⟩],ap1 qp⟩
theorem DU:Lk 1 wq:=ls (C:=Em) rfl aN (by kernel_rfl) fun h=>by kernel_rfl
def gW:T2G→Option (T2G⊕((Bool×Unit)⊕(ByteArray×LDCn×Int×Int×Bool×T1N))):=fun(v0,v1,v2,v3,v4,v5,v6,v7,v8,v9,v10,v11,_)=>
bif (decide (v3 < v2)) then ((dW v3).bind fun x0=>
(dH v1 x0).bind fun x1=>
(dW v3).bind fun x2=>
(AL v0 x2).bind fun x3=>
(ly x3 x1.1).bind fun(x4,_)=>
bif (!x4) then (some (.inr (.inl (false,())))) else
let x5:=(w64 (v3+1));
some (.inl (v0,v1,v2,x5,v4,v5,v6,v7,v8,v9,v10,v11,()))) else
some (.inr (.inr (v0,v1,v2,v3,false,v4,v5,v6,v7,v8,v9,v10,v11,())))
def lZ(a0:Int) (a1:Int) (a2:Int) (a3:Int) (a4:Int) (a5:Int) (a6:LDCn) (a7:LDCn):Option (Bool×Unit):=
(jY a5).bind fun(x0,_)=>
let x1:=(Bm x0);
let x2:=(dK (List.length a6));
bif (x1 != x2) then (some (false,())) else
let x3:=(dK (List.length a6));
(match dQ gW NN (x0,a6,x3,0,a0,a1,a2,a3,a4,a5,a6,a7,()) with
| none=>none
| some (.inl (x4,_))=>
some (x4,())
| some (.inr (x4,x5,x6,x7,x8,x9,ac,ae,af,ag,ah,ai,aj,_))=>
some (true,()))
noncomputable def Co:X.Cfg:=⟨E0,[ms,rf],[],[⟨7,0,(qS [(sP 3 .str),(sP 16 d8),(sP 17 I64),(sP 18 I64)] [(4,(uL [I64,I64,I64,I64,I64,I64,d8,d8]))]),[(.ret,(qS [(sP 2 .bool)] [])),(.exit 0,(qS [(sP 3 .str),(sP 16 d8),(sP 17 I64),(sP 18 I64),(sP 19 .bool)] [(4,(uL [I64,I64,I64,I64,I64,I64,d8,d8]))]))]⟩]⟩
def uh:Ctr:=⟨169,82,[.agg (uL [I64,I64,I64,I64,I64,I64,d8,d8])],[],[⟨(uL [.bool]),[.one],[]⟩],ap8 lZ⟩
theorem BL:Lk 2 uh:=ls (C:=Co) rfl (aC ph (aC vU aN)) (by kernel_rfl) fun h=>by kernel_rfl
def gI(a0:List LDCn) (a1:LDOp) (a2:Int):Option (Bool×Unit):=
bif (decide (a2≥0)) then (let x0:Int:=(dK (List.length a1));
bif (decide (a2 < x0)) then ((dW a2).bind fun x1=>
(dH a1 x1).bind fun x2=>
some ((x2.1 != (-1)),())) else
some (false,())) else
some (false,())
noncomputable def Ep:X.Cfg:=⟨E0,[],[],[]⟩
def lG:Ctr:=⟨184,83,[.agg (uL [(.row false d8),gH]),shU I64],[],[⟨(uL [.bool]),[.one],[]⟩],ap3 gI⟩
theorem nS:Lk 1 lG:=ls (C:=Ep) rfl aN (by kernel_rfl) fun h=>by kernel_rfl
def pT:T2A→Option (T2A⊕(LDCn×Nat×Int×Int×Int×Bool×T1s)):=fun(v0,v1,v2,v3,v4,v5,v6,v7,v8,v9,v10,_)=>
bif (decide (v4 < v3)) then (((dH v9 v1).bind fun x0=>
let x1:=(w64 (x0.2.1+v4));
let x2:=(dK (List.length v10));
bif (decide (x1 < x2)) then ((dH v9 v1).bind fun x3=>
let x4:=(w64 (x3.2.1+v4));
(dW v4).bind fun x5=>
(dH v0 x5).bind fun x6=>
(dW x4).bind fun x7=>
(dH v10 x7).bind fun x8=>
(dH v10 x7).bind fun x9=>
let ac:=(List.modify v10 x7 fun e=>(x6.1,(x6.2.1,(x6.2.2.1,x6.2.2.2))));
some (v0,v1,v2,v3,v4,v5,v6,v7,v8,v9,ac,())) else
(dW v4).bind fun x3=>
(dH v0 x3).bind fun x4=>
let x5:LDCn:=[(x4.1,(x4.2.1,(x4.2.2.1,x4.2.2.2)))];
bif (dV 24 (List.length v10) (List.length x5)) then let x6:LDCn:=(List.append v10 x5);
some (v0,v1,v2,v3,v4,v5,v6,v7,v8,v9,x6,()) else none:Option (T2A)).bind fun(x0,x1,x2,x3,x4,x5,x6,x7,x8,x9,ac,_)=>
let ae:=(w64 (x4+1));
some (.inl (x0,x1,x2,x3,ae,x5,x6,x7,x8,x9,ac,()))) else
some (.inr (v0,v1,v2,v3,v4,false,v5,v6,v7,v8,v9,v10,()))
def lV(a0:List LDCn) (a1:LDOp) (a2:Int) (a3:LDCn):Option (LLCn×LDOp×T01):=
(fL a0 a1).bind fun(x0,x1,_)=>
((gI a0 a1 a2).bind fun(x2,_)=>
bif (!x2) then (some (a2,a3,true,(),(),x0,x1,())) else
(dW a2).bind fun x3=>
(dH a1 x3).bind fun x4=>
bif (!x4.2.2) then (some (a2,a3,true,(),(),x0,x1,())) else
let x5:=(dK (List.length a3));
(ff a3 x5).bind fun(x6,_)=>
some (a2,a3,(!x6),(),(),x0,x1,()):Option (Int×LDCn×T0R)).bind fun(x2,x3,x4,x5,x6,x7,x8,_)=>
bif x4 then (some (x7,x8,0,false,())) else
(dW x2).bind fun x9=>
(dH x8 x9).bind fun ac=>
let ae:=(dK (List.length x3));
(dH x8 x9).bind fun af=>
let ag:=(w64 (64 - af.2.1));
let ah:=(mmR false ae ag);
(dH x8 x9).bind fun ai=>
(dW ai.1).bind fun aj=>
(dH x7 aj).bind fun ak=>
(dH x7 aj).bind fun am=>
(dH x7 aj).bind fun an=>
(dQ pT NN (x3,x9,ah,ah,0,x5,x6,x7,aj,x8,an,())).bind fun(ap,aq,av,ax,ay,az,aA,aB,aD,aE,aF,aG,_)=>
(dH aF aq).bind fun aH=>
(dW aH.1).bind fun aI=>
(dH aD aI).bind fun aJ=>
(dH aD aI).bind fun aK=>
bif (Nat.beq aI aE) then let aL:List LDCn:=(List.modify aD aI fun e=>aG);
(dH aF aq).bind fun aM=>
let aO:=(w64 (aM.2.1+av));
(dH aF aq).bind fun aP=>
let aQ:=(List.modify aF aq fun e=>(e.1,(aO,e.2.2)));
some (aL,aQ,av,true,()) else none
noncomputable def Cf:X.Cfg:=⟨E0,[iy,lG,gg],[],[⟨3,0,qE,[(.normal,(qS [(sP 1 I64),(sP 2 d8),(pP 6 14),(pP 9 20),(sP 35 .bool)] [(14,(uL [N1,N1])),(20,(uL [(.row true (.row true KCn)),(.row true KOp)]))]))]⟩,⟨13,1,qE,[(.normal,(qS [(sP 2 d8),(pP 6 14),(pP 9 20),(10,.ptr ⟨20,1,[((),(3,0))]⟩ [0,0]),(sP 11 I64),(12,.pk ⟨27,0,[]⟩ [0,0]),(sP 57 I64),(sP 58 I64)] [(14,(uL [N1,N1])),(20,[.gap (.row true KCn) () () 0,shU (.row true KOp)]),(27,(uL [(.row true KCn)]))]))]⟩,(lx 10 2 [(sP 2 d8),(pP 6 14),(pP 9 20),(10,.ptr ⟨20,1,[((),(3,0))]⟩ [0,0]),(sP 11 I64),(12,.pk ⟨27,0,[]⟩ [0,0]),(sP 57 I64),(sP 58 I64)] [(14,(uL [N1,N1])),(20,[.gap (.row true KCn) () () 0,shU (.row true KOp)]),(27,(uL [(.row true KCn)]))] 59)]⟩
def ud:Ctr:=⟨170,84,[.agg (uL [(.row false d8),gH]),shU I64,shU d8],[],[⟨(uL [(.row true (.row true KCn)),(.row true KOp),I64,.bool]),[.agg 2,.one,.one],[]⟩],ap4 lV⟩
theorem BH:Lk 3 ud:=ls (C:=Cf) rfl (aC jD (aC nS (aC gR aN))) (by kernel_rfl) fun h=>by kernel_rfl
def nG(a0:List LDCn) (a1:LDOp) (a2:Int) (a3:Int):Option ((LLCn×LDOp×Unit×Bool×Unit)⊕(LLCn×LDOp×LDCn×Bool×Unit)):=
(fL a0 a1).bind fun(x0,x1,_)=>
((gI a0 a1 a2).bind fun(x2,_)=>
bif (!x2) then (some (a2,a3,true,a0,a1,(),(),x0,x1,())) else
bif (decide (a3 < 0)) then (some (a2,a3,true,a0,a1,(),(),x0,x1,())) else
(dW a2).bind fun x3=>
(dH a1 x3).bind fun x4=>
some (a2,a3,x4.2.2,a0,a1,(),(),x0,x1,()):Option (T21)).bind fun(x2,x3,x4,x5,x6,x7,x8,x9,ac,_)=>
bif x4 then (some (.inl (x9,ac,(),false,()))) else
(dW x2).bind fun ae=>
(dH ac ae).bind fun af=>
(dH ac ae).bind fun ag=>
(dW ag.1).bind fun ah=>
(dH x9 ah).bind fun ai=>
(dH x9 ah).bind fun aj=>
(dH x9 ah).bind fun ak=>
let am:=(dK (List.length ak));
(dH ac ae).bind fun an=>
let ap:=(w64 (am - an.2.1));
let aq:=(mmR false x3 ap);
(dH ac ae).bind fun av=>
(dH ac ae).bind fun ax=>
let ay:=(w64 (ax.2.1+aq));
(dW av.2.1).bind fun az=>
(dW ay).bind fun aA=>
bif (hY az aA (List.length ak)) then let aB:LDCn:=(nv ak az (Nat.sub aA az));
bif (dV 24 0 (List.length aB)) then let aD:LDCn:=(List.append [] aB);
(dH ac ae).bind fun aE=>
let aF:=(w64 (aE.2.1+aq));
(dH ac ae).bind fun aG=>
let aH:=(List.modify ac ae fun e=>(e.1,(aF,e.2.2)));
some (.inr (x9,aH,aD,true,())) else none else none
noncomputable def Es:X.Cfg:=⟨E0,[iy,lG],[],[⟨3,0,qE,[(.normal,(qS [(sP 1 I64),(sP 2 I64),(pP 6 14),(pP 9 20),(sP 31 .bool)] [(8,(uL [(.row false d8),gH])),(14,(uL [N1,N1])),(20,(uL [(.row true (.row true KCn)),(.row true KOp)]))]))]⟩]⟩
def wv:Ctr:=⟨171,85,[.agg (uL [(.row false d8),gH]),shU I64,shU I64],[],[⟨(uL [(.row true (.row true KCn)),(.row true KOp),N1,.bool]),[.agg 2,.one,.one],[]⟩,⟨(uL [(.row true d8),(.row true KOp),(.row true KCn),.bool]),[.agg 2,.one,.one],[]⟩],ap4 nG⟩
theorem DX:Lk 2 wv:=ls (C:=Es) rfl (aC jD (aC nS aN)) (by kernel_rfl) fun h=>by kernel_rfl
def qr:T25→Option (T25⊕(Int×T21)):=fun(v0,v1,v2,v3,v4,v5,v6,v7,v8,_)=>
let x0:=(dK (List.length v4));
bif (decide (v2 < x0)) then ((dW v2).bind fun x1=>
(dH v4 x1).bind fun x2=>
bif (x2.1 != (-1)) then (let x3:Int:=(w64 (v2+1));
some (.inl (v0,v1,x3,v3,v4,v5,v6,v7,v8,()))) else
some (.inr (v0,v1,v2,false,v3,v4,v5,v6,v7,v8,()))) else
some (.inr (v0,v1,v2,false,v3,v4,v5,v6,v7,v8,()))
def qq:T24→Option (T24⊕(Int×Int×T1L)):=fun(v0,v1,v2,v3,v4,v5,v6,v7,v8,_)=>
bif (decide (v4 < v3)) then (((dW v4).bind fun x0=>
(dH v8 x0).bind fun x1=>
(dH v8 x0).bind fun x2=>
bif (x2.1==v0) then ((dW v4).bind fun x3=>
(dH v8 x3).bind fun x4=>
(dH v8 x3).bind fun x5=>
let x6:=(List.modify v8 x3 fun e=>(e.1,(0,e.2.2)));
some (v0,v1,v2,v3,v4,v5,v6,v7,x6,())) else
some (v0,v1,v2,v3,v4,v5,v6,v7,v8,()):Option (T24)).bind fun(x0,x1,x2,x3,x4,x5,x6,x7,x8,_)=>
let x9:=(w64 (x4+1));
some (.inl (x0,x1,x2,x3,x9,x5,x6,x7,x8,()))) else
some (.inr (v0,v1,v2,v3,v4,false,v5,v6,v7,v8,()))
def nH(a0:List LDCn) (a1:LDOp) (a2:Int) (a3:Int):Option (LLCn×LDOp×Int×Unit):=
(fL a0 a1).bind fun(x0,x1,_)=>
(dQ qr NN (a2,a3,0,a0,a1,(),(),x0,x1,())).bind fun(x2,x3,x4,x5,x6,x7,x8,x9,ac,ae,_)=>
(bif (decide (x2 < 0)) then (some (x2,x3,x4,true,x8,x9,ac,ae,())) else
let af:=(dK (List.length x6));
bif (decide (x2≥af)) then (some (x2,x3,x4,true,x8,x9,ac,ae,())) else
bif (decide (x3 < 0)) then (some (x2,x3,x4,true,x8,x9,ac,ae,())) else
bif (decide (x3 > 2)) then (some (x2,x3,x4,true,x8,x9,ac,ae,())) else
let ag:=(dK (List.length x7));
some (x2,x3,x4,(x4==ag),x8,x9,ac,ae,()):Option (T1L)).bind fun(af,ag,ah,ai,aj,ak,am,an,_)=>
bif ai then (some (am,an,(-1),())) else
bif (ag==1) then ((dW af).bind fun ap=>
(dH am ap).bind fun aq=>
(dH am ap).bind fun av=>
let ax:=(List.modify am ap fun e=>[]);
let ay:=(dK (List.length an));
(dQ qq NN (af,ag,ah,ay,0,aj,ak,ax,an,())).bind fun(az,aA,aB,aD,aE,aF,aG,aH,aI,aJ,_)=>
(dW aB).bind fun aK=>
(dH aJ aK).bind fun aL=>
(dH aJ aK).bind fun aM=>
let aO:=(List.modify aJ aK fun e=>(az,(0,(decide (aA > 0)))));
(bif (aA==2) then ((dW az).bind fun aP=>
(dH aI aP).bind fun aQ=>
(dH aI aP).bind fun aR=>
(dH aI aP).bind fun aS=>
let aT:=(dK (List.length aS));
(dW aB).bind fun aU=>
(dH aO aU).bind fun aV=>
(dH aO aU).bind fun aW=>
let aY:=(List.modify aO aU fun e=>(e.1,(aT,e.2.2)));
some (aB,aG,aH,aI,aY,())) else
some (aB,aG,aH,aI,aO,()):Option (T0X)).bind fun(aP,aQ,aR,aS,aT,_)=>
some (aS,aT,aP,())) else
(dW ah).bind fun ap=>
(dH an ap).bind fun aq=>
(dH an ap).bind fun av=>
let ax:=(List.modify an ap fun e=>(af,(0,(decide (ag > 0)))));
(bif (ag==2) then ((dW af).bind fun ay=>
(dH am ay).bind fun az=>
(dH am ay).bind fun aA=>
(dH am ay).bind fun aB=>
let aD:=(dK (List.length aB));
(dW ah).bind fun aE=>
(dH ax aE).bind fun aF=>
(dH ax aE).bind fun aG=>
let aH:=(List.modify ax aE fun e=>(e.1,(aD,e.2.2)));
some (ah,aj,ak,am,aH,())) else
some (ah,aj,ak,am,ax,()):Option (T0X)).bind fun(ay,az,aA,aB,aD,_)=>
some (aB,aD,ay,())
noncomputable def Et:X.Cfg:=⟨E0,[iy],[],[(lx 4 0 [(sP 1 I64),(sP 2 I64),(pP 3 8),(pP 6 14),(pP 8 18),(sP 9 I64)] [(8,(uL [(.row false d8),gH])),(14,(uL [N1,N1])),(18,(uL [(.row true (.row true KCn)),(.row true KOp)]))] 26),⟨8,1,qE,[(.normal,(qS [(sP 1 I64),(sP 2 I64),(pP 6 14),(pP 8 18),(sP 9 I64),(sP 52 .bool)] [(14,(uL [N1,N1])),(18,(uL [(.row true (.row true KCn)),(.row true KOp)]))]))]⟩,⟨17,2,qE,[(.normal,(qS [(sP 1 I64),(sP 2 I64),(pP 6 14),(pP 8 18),(sP 9 I64),(sP 62 I64),(sP 63 I64)] [(14,(uL [N1,N1])),(18,(uL [(.row true (.row true KCn)),(.row true KOp)]))]))]⟩,⟨14,3,(qS [(sP 1 I64),(sP 2 I64),(pP 6 14),(pP 8 18),(sP 9 I64),(sP 62 I64),(sP 63 I64)] [(14,(uL [N1,N1])),(18,(uL [(.row true (.row true KCn)),(.row true KOp)]))]),[(.exit 2,(qS [(sP 1 I64),(sP 2 I64),(pP 6 14),(pP 8 18),(sP 9 I64),(sP 62 I64),(sP 63 I64),(sP 64 .bool)] [(14,(uL [N1,N1])),(18,(uL [(.row true (.row true KCn)),(.row true KOp)]))]))]⟩,⟨21,4,qE,[(.normal,(qS [(pP 6 14),(pP 8 18),(sP 9 I64)] [(14,(uL [N1,N1])),(18,(uL [(.row true (.row true KCn)),(.row true KOp)]))]))]⟩]⟩
def ww:Ctr:=⟨172,86,[.agg (uL [(.row false d8),gH]),shU I64,shU I64],[],[⟨(uL [(.row true (.row true KCn)),(.row true KOp),I64]),[.agg 2,.one],[]⟩],ap4 nH⟩
theorem DY:Lk 2 ww:=ls (C:=Et) rfl (aC jD aN) (by kernel_rfl) fun h=>by kernel_rfl
def lW(a0:List LDCn) (a1:LDOp) (a2:Int):Option (LLCn×LDOp×Bool×Unit):=
(fL a0 a1).bind fun(x0,x1,_)=>
(gI a0 a1 a2).bind fun(x2,_)=>
bif (!x2) then (some (x0,x1,false,())) else
(dW a2).bind fun x3=>
(dH x1 x3).bind fun x4=>
(dH x1 x3).bind fun x5=>
let x6:=(List.modify x1 x3 fun e=>((-1),(0,false)));
some (x0,x6,true,())
noncomputable def Ch:X.Cfg:=⟨E0,[iy,lG],[],[]⟩
def ue:Ctr:=⟨173,87,[.agg (uL [(.row false d8),gH]),shU I64],[],[⟨(uL [(.row true (.row true KCn)),(.row true KOp),.bool]),[.agg 2,.one],[]⟩],ap3 lW⟩
theorem BI:Lk 2 ue:=ls (C:=Ch) rfl (aC jD (aC nS aN)) (by kernel_rfl) fun h=>by kernel_rfl
def nF(a0:List LDCn) (a1:LDOp) (a2:Int) (a3:Int):Option (LLCn×LDOp×Bool×Unit):=
(fL a0 a1).bind fun(x0,x1,_)=>
((gI a0 a1 a2).bind fun(x2,_)=>
bif (!x2) then (some (a2,a3,true,(),(),x0,x1,())) else
bif (decide (a3 < 0)) then (some (a2,a3,true,(),(),x0,x1,())) else
(dW a2).bind fun x3=>
(dH a1 x3).bind fun x4=>
(dW x4.1).bind fun x5=>
(dH a0 x5).bind fun x6=>
let x7:=(dK (List.length x6));
some (a2,a3,(decide (a3 > x7)),(),(),x0,x1,()):Option (T1x)).bind fun(x2,x3,x4,x5,x6,x7,x8,_)=>
bif x4 then (some (x7,x8,false,())) else
(dW x2).bind fun x9=>
(dH x8 x9).bind fun ac=>
(dH x8 x9).bind fun ae=>
let af:=(List.modify x8 x9 fun e=>(e.1,(x3,e.2.2)));
some (x7,af,true,())
noncomputable def Er:X.Cfg:=⟨E0,[iy,lG],[],[⟨3,0,qE,[(.normal,(qS [(sP 1 I64),(sP 2 I64),(pP 6 14),(pP 8 18),(sP 33 .bool)] [(14,(uL [N1,N1])),(18,(uL [(.row true (.row true KCn)),(.row true KOp)]))]))]⟩]⟩
def wu:Ctr:=⟨174,88,[.agg (uL [(.row false d8),gH]),shU I64,shU I64],[],[⟨(uL [(.row true (.row true KCn)),(.row true KOp),.bool]),[.agg 2,.one],[]⟩],ap4 nF⟩
theorem DW:Lk 2 wu:=ls (C:=Er) rfl (aC jD (aC nS aN)) (by kernel_rfl) fun h=>by kernel_rfl
def nE(a0:LDOu) (a1:Int) (a2:LDCn):Option (LDOu×T01):=
(ju a0).bind fun(x0,_)=>
(bif (decide (a1 < 0)) then (some (a0,a1,a2,true,x0,())) else
bif (decide (a1≥2)) then (some (a0,a1,a2,true,x0,())) else
let x1:=(dK (List.length a0));
bif (decide (x1≥200)) then (some (a0,a1,a2,true,x0,())) else
let x2:=(dK (List.length a2));
some (a0,a1,a2,(decide (x2 > 16)),x0,()):Option (LDOu×Int×LDCn×Bool×LDOu×Unit)).bind fun(x1,x2,x3,x4,x5,_)=>
bif x4 then (some (x5,0,false,())) else
let x6:=(dK (List.length x1));
bif (dV 24 0 (List.length x3)) then let x7:LDCn:=(List.append [] x3);
let x8:LDOu:=[(x6,(x2,x7))];
bif (dV 40 (List.length x5) (List.length x8)) then let x9:LDOu:=(List.append x5 x8);
let ac:=(dK (List.length x3));
some (x9,ac,true,()) else none else none
noncomputable def En:X.Cfg:=⟨E0,[ra],[(36,GR),(37,GR)],[⟨3,0,qE,[(.normal,(qS [(sP 0 iU),(sP 1 I64),(sP 2 d8),(9,.pk ⟨21,0,[]⟩ [0,0]),(sP 27 .bool)] [(21,(uL [(.row true GR)]))]))]⟩]⟩
def wt:Ctr:=⟨175,89,(uL [iU,I64,d8]),[],[⟨(uL [(.row true GR),I64,.bool]),[.one,.one,.one],[]⟩],ap3 nE⟩
theorem DV:Lk 2 wt:=ls (C:=En) rfl (aC vR aN) (by kernel_rfl) fun h=>by kernel_rfl
def fZ:T1B→Option (T1B⊕(Int×Int×LI×Int×Int×Bool×LLI×LDCn×Unit)):=fun(v0,v1,v2,v3,v4,v5,v6,_)=>
bif (decide (v4 < v3)) then ((dW v4).bind fun x0=>
(dH v2 x0).bind fun x1=>
let x2:LDCn:=[(0,(x1,(0,0)))];
bif (dV 24 (List.length v6) (List.length x2)) then let x3:LDCn:=(List.append v6 x2);
let x4:=(w64 (v4+1));
some (.inl (v0,v1,v2,v3,x4,v5,x3,())) else none) else
some (.inr (v0,v1,v2,v3,v4,false,v5,v6,()))
def jP(a0:List LI) (a1:Int) (a2:Int):Option ((LLI×Unit×Bool×Unit)⊕(LLI×LDCn×Bool×Unit)):=
(fw a0).bind fun(x0,_)=>
(bif (decide (a1 < 0)) then (some (a0,a1,a2,true,x0,())) else
let x1:=(dK (List.length a0));
bif (decide (a1≥x1)) then (some (a0,a1,a2,true,x0,())) else
some (a0,a1,a2,(decide (a2 < 0)),x0,()):Option (LLI×Int×Int×Bool×LLI×Unit)).bind fun(x1,x2,x3,x4,x5,_)=>
bif x4 then (some (.inl (x5,(),false,()))) else
(dW x2).bind fun x6=>
(dH x1 x6).bind fun x7=>
let x8:=(dK (List.length x7));
let x9:=(mmR false x3 x8);
(dW x2).bind fun ac=>
(dH x1 ac).bind fun ae=>
(dW x9).bind fun af=>
bif (hY 0 af (List.length ae)) then let ag:List (Int):=(nv ae 0 (Nat.sub af 0));
let ah:=(dK (List.length ag));
(dQ fZ NN (x2,x9,ag,ah,0,x5,[],())).bind fun(ai,aj,ak,am,an,ap,aq,av,_)=>
(dW ai).bind fun ax=>
(dH aq ax).bind fun ay=>
(dH aq ax).bind fun az=>
(dH aq ax).bind fun aA=>
(dW aj).bind fun aB=>
bif (hY aB (List.length aA) (List.length aA)) then (dH aq ax).bind fun aD=>
(dW ai).bind fun aE=>
(dH aq aE).bind fun aF=>
(dH aq ax).bind fun aG=>
(dH aq aE).bind fun aH=>
let aI:=(List.modify aq aE fun e=>(nv aG aB (Nat.sub (List.length aA) aB)));
some (.inr (aI,av,true,())) else none else none
noncomputable def yI:X.Cfg:=⟨E0,[ib],[],[⟨3,0,qE,[(.normal,(qS [(sP 0 (.row false RW)),(sP 1 I64),(sP 2 I64),(9,.pk ⟨21,0,[]⟩ [0,0]),(sP 27 .bool)] [(21,(uL [(.row true (.row true CW))]))]))]⟩,(lx 9 1 [(sP 1 I64),(9,.pk ⟨21,0,[]⟩ [0,0]),(sP 10 I64),(11,.pk ⟨25,0,[]⟩ [0,0]),(sP 41 RW),(sP 42 I64),(sP 43 I64)] [(21,(uL [(.row true (.row true CW))])),(25,(uL [(.row true KCn)]))] 44)]⟩
def q8:Ctr:=⟨176,90,(uL [(.row false RW),I64,I64]),[],[⟨(uL [(.row true (.row true CW)),N1,.bool]),[.one,.one,.one],[]⟩,⟨(uL [(.row true RW),(.row true KCn),.bool]),[.one,.one,.one],[]⟩],ap3 jP⟩
theorem ym:Lk 2 q8:=ls (C:=yI) rfl (aC ki aN) (by kernel_rfl) fun h=>by kernel_rfl
def tw:T3O→Option (T3O⊕(LDCn×Int×Int×Bool×T3F)):=fun(v0,v1,v2,v3,v4,v5,v6,v7,v8,v9,v10,v11,v12,v13,v14,v15,v16,v17,v18,v19,v20,v21,v22,v23,v24,v25,v26,v27,v28,v29,v30,v31,v32,v33,v34,v35,v36,_)=>
bif (decide (v2 < v1)) then ((dW v2).bind fun x0=>
(dH v0 x0).bind fun x1=>
let x2:=(wk .i64 x1.2.1);
(dW v2).bind fun x3=>
(dH v36 x3).bind fun x4=>
(dH v36 x3).bind fun x5=>
let x6:=(List.modify v36 x3 fun e=>x2);
let x7:=(w64 (v2+1));
some (.inl (v0,v1,x7,v3,v4,v5,v6,v7,v8,v9,v10,v11,v12,v13,v14,v15,v16,v17,v18,v19,v20,v21,v22,v23,v24,v25,v26,v27,v28,v29,v30,v31,v32,v33,v34,v35,x6,()))) else
some (.inr (v0,v1,v2,false,v3,v4,v5,v6,v7,v8,v9,v10,v11,v12,v13,v14,v15,v16,v17,v18,v19,v20,v21,v22,v23,v24,v25,v26,v27,v28,v29,v30,v31,v32,v33,v34,v35,v36,()))
def oe(a0:List (Int)) (a1:List (Int)) (a2:List LI) (a3:List LDCn) (a4:LDOp) (a5:LDOu) (a6:Int) (a7:Int) (a8:Int) (a9:Int) (a10:Int) (a11:Int) (a12:LDCn) (a13:LDCn):Option (LI×LI×LLI×LLCn×LDOp×LDOu×Int×Int×Int×Int×LDCn×Int×Bool×Int×Unit):=
((iE a0 a1 a2 a3 a4 a5).bind fun(x0,_)=>
bif (!x0) then (some (true,a0,a1,a2,a3,a4,a5,a6,a7,a8,a9,a10,a11,a12,a13,(),(),(),(),(),(),0,0,0,0,(),0,false,())) else
(jZ a6 a7 a8 a9 a10 a11 a12 a13).bind fun(x1,_)=>
bif (!x1) then (some (true,a0,a1,a2,a3,a4,a5,a6,a7,a8,a9,a10,a11,a12,a13,(),(),(),(),(),(),0,0,0,0,(),0,false,())) else
bif (a7 != 1) then (some (true,a0,a1,a2,a3,a4,a5,a6,a7,a8,a9,a10,a11,a12,a13,(),(),(),(),(),(),0,0,0,0,(),0,false,())) else
(qp a11).bind fun(x2,_)=>
bif (!x2) then (some (true,a0,a1,a2,a3,a4,a5,a6,a7,a8,a9,a10,a11,a12,a13,(),(),(),(),(),(),0,0,0,0,(),0,false,())) else
(lZ a6 a7 a8 a9 a10 a11 a12 a13).bind fun(x3,_)=>
bif (!x3) then (some (true,a0,a1,a2,a3,a4,a5,a6,a7,a8,a9,a10,a11,a12,a13,(),(),(),(),(),(),0,0,0,0,(),0,false,())) else
(g9 a11).bind fun(x4,_)=>
bif (x4==2) then ((dH a12 2).bind fun x5=>
some ((decide (x5.2.1 > 16)),a0,a1,a2,a3,a4,a5,a6,a7,a8,a9,a10,a11,a12,a13,(),(),(),(),(),(),0,0,0,0,(),0,false,())) else
some (false,a0,a1,a2,a3,a4,a5,a6,a7,a8,a9,a10,a11,a12,a13,(),(),(),(),(),(),0,0,0,0,(),0,false,()):Option (Bool×LI×LI×LLI×LLCn×LDOp×LDOu×Int×Int×Int×Int×Int×Int×LDCn×LDCn×Unit×Unit×Unit×Unit×Unit×Unit×T1z)).bind fun(x0,x1,x2,x3,x4,x5,x6,x7,x8,x9,ac,ae,af,ag,ah,ai,aj,ak,am,an,ap,aq,av,ax,ay,az,aA,aB,_)=>
bif x0 then (some ([],[],[],[],[],[],0,0,0,0,[],0,false,1,())) else
(lu x1 x2 x3 x4 x5 x6).bind fun(aD,aE,aF,aG,aH,aI,_)=>
let aJ:List (Int):=[0,0,0];
let aK:=(dK (List.length ag));
(dQ tw NN (ag,aK,0,x1,x2,x3,x4,x5,x6,x7,x8,x9,ac,ae,af,ag,ah,ai,aj,ak,am,an,ap,aq,av,ax,ay,az,aA,aB,aD,aE,aF,aG,aH,aI,aJ,())).bind fun(aL,aM,aO,aP,aQ,aR,aS,aT,aU,aV,aW,aY,aZ,ba,bc,bd,be,bf,bg,bh,bi,bj,bk,bl,bm,bn,bo,bp,bq,bt,bv,bx,bA,bB,bC,bD,bE,bF,_)=>
(d7 0 false).bind fun(bG,bH,bI,bJ,bK,bL,bM,_)=>
(match (bif (bd==1) then ((dH bF 0).bind fun bN=>
(dH bF 0).bind fun bO=>
(lV aT aU bO bf).bind fun(bP,bQ,bR,bS,_)=>
(d7 bR bS).bind fun(bT,bU,bV,bW,bY,bZ,b8,_)=>
some (.inl (bg,bh,bi,bj,bk,bl,bm,bn,bo,bp,bq,bt,bv,bx,bA,bB,bP,bQ,bE,bT,bU,bV,bW,[],bZ,b8,()))) else
bif (bd==2) then ((dH bF 0).bind fun bN=>
(dH bF 0).bind fun bO=>
(dH bF 2).bind fun bP=>
(dH bF 2).bind fun bQ=>
(match nG aT aU bO bQ with
| none=>none
| some (.inl (bR,bS,bT,bU,_))=>
(d7 0 bU).bind fun(bV,bW,bY,bZ,b8,b9,ca,_)=>
some (.inl (bg,bh,bi,bj,bk,bl,bm,bn,bo,bp,bq,bt,bv,bx,bA,bB,bR,bS,bE,bV,bW,bY,bZ,[],b9,ca,()))
| some (.inr (bR,bS,bT,bU,_))=>
let bV:=(dK (List.length bT));
(d7 bV bU).bind fun(bW,bY,bZ,b8,b9,ca,cb,_)=>
some (.inl (bg,bh,bi,bj,bk,bl,bm,bn,bo,bp,bq,bt,bv,bx,bA,bB,bR,bS,bE,bW,bY,bZ,b8,bT,ca,cb,())))) else
bif (bd==3) then ((dH bF 0).bind fun bN=>
(dH bF 0).bind fun bO=>
(dH bF 1).bind fun bP=>
(dH bF 1).bind fun bQ=>
(nH aT aU bO bQ).bind fun(bR,bS,bT,_)=>
bif (decide (bT≥0)) then (let bU:Int:=(wk .u16 bT);
some (.inr (.inl (bg,bh,bi,bj,bk,bl,bm,bn,bo,bp,bq,bt,bv,bx,bA,bB,bR,bS,bE,2,bU,0,0,bK,bL,bM,())))) else
some (.inr (.inl (bg,bh,bi,bj,bk,bl,bm,bn,bo,bp,bq,bt,bv,bx,bA,bB,bR,bS,bE,bG,bH,bI,bJ,bK,bL,bM,())))) else
bif (bd==4) then ((dH bF 0).bind fun bN=>
(dH bF 0).bind fun bO=>
(lW aT aU bO).bind fun(bP,bQ,bR,_)=>
(d7 0 bR).bind fun(bS,bT,bU,bV,bW,bY,bZ,_)=>
some (.inl (bg,bh,bi,bj,bk,bl,bm,bn,bo,bp,bq,bt,bv,bx,bA,bB,bP,bQ,bE,bS,bT,bU,bV,[],bY,bZ,()))) else
bif (bd==5) then ((dH bF 0).bind fun bN=>
(dH bF 0).bind fun bO=>
(dH bF 1).bind fun bP=>
(dH bF 1).bind fun bQ=>
(nF aT aU bO bQ).bind fun(bR,bS,bT,_)=>
(d7 0 bT).bind fun(bU,bV,bW,bY,bZ,b8,b9,_)=>
some (.inl (bg,bh,bi,bj,bk,bl,bm,bn,bo,bp,bq,bt,bv,bx,bA,bB,bR,bS,bE,bU,bV,bW,bY,[],b8,b9,()))) else
bif (bd==6) then (let bN:Int:=(dK (List.length aQ));
bif (decide (bN > 0)) then ((dH aQ 0).bind fun bO=>
let bP:=(wk .i64 bO);
(d7 bP true).bind fun(bQ,bR,bS,bT,bU,bV,bW,_)=>
bif (hY 1 (List.length bx) (List.length bx)) then let bY:List (Int):=(nv bx 1 (Nat.sub (List.length bx) 1));
some (.inr (.inr (.inl (bg,bh,bi,bj,bk,bl,bm,bn,bo,bp,bq,bt,bv,bY,bA,bB,bC,bD,bE,bQ,bR,bS,bT,bU,bV,bW,())))) else none) else
some (.inr (.inl (bg,bh,bi,bj,bk,bl,bm,bn,bo,bp,bq,bt,bv,bx,bA,bB,bC,bD,bE,bG,bH,bI,bJ,bK,bL,bM,())))) else
bif (bd==7) then (let bN:Int:=(dK (List.length aR));
bif (decide (bN > 0)) then ((dH aR 0).bind fun bO=>
let bP:=(wk .i64 bO);
(d7 bP true).bind fun(bQ,bR,bS,bT,bU,bV,bW,_)=>
bif (hY 1 (List.length bA) (List.length bA)) then let bY:List (Int):=(nv bA 1 (Nat.sub (List.length bA) 1));
some (.inr (.inr (.inr (.inl (bg,bh,bi,bj,bk,bl,bm,bn,bo,bp,bq,bt,bv,bx,bY,bB,bC,bD,bE,bQ,bR,bS,bT,bU,bV,bW,()))))) else none) else
some (.inr (.inl (bg,bh,bi,bj,bk,bl,bm,bn,bo,bp,bq,bt,bv,bx,bA,bB,bC,bD,bE,bG,bH,bI,bJ,bK,bL,bM,())))) else
bif (bd==13) then ((dH bF 0).bind fun bN=>
(dH bF 0).bind fun bO=>
(nE aV bO bf).bind fun(bP,bQ,bR,_)=>
(d7 bQ bR).bind fun(bS,bT,bU,bV,bW,bY,bZ,_)=>
some (.inr (.inl (bg,bh,bi,bj,bk,bl,bm,bn,bo,bp,bq,bt,bv,bx,bA,bB,bC,bD,bP,bS,bT,bU,bV,bW,bY,bZ,())))) else
bif (bd==14) then ((dH bF 0).bind fun bN=>
(dH bF 0).bind fun bO=>
(dH bF 2).bind fun bP=>
(dH bF 2).bind fun bQ=>
(match jP aS bO bQ with
| none=>none
| some (.inl (bR,bS,bT,_))=>
(d7 0 bT).bind fun(bU,bV,bW,bY,bZ,b8,b9,_)=>
some (.inr (.inl (bg,bh,bi,bj,bk,bl,bm,bn,bo,bp,bq,bt,bv,bx,bA,bR,bC,bD,bE,bU,bV,bW,bY,bS,b8,b9,())))
| some (.inr (bR,bS,bT,_))=>
let bU:=(dK (List.length bS));
(d7 bU bT).bind fun(bV,bW,bY,bZ,b8,b9,ca,_)=>
some (.inr (.inr (.inr (.inr (bg,bh,bi,bj,bk,bl,bm,bn,bo,bp,bq,bt,bv,bx,bA,bR,bC,bD,bE,bV,bW,bY,bZ,bS,b9,ca,()))))))) else
some (.inr (.inl (bg,bh,bi,bj,bk,bl,bm,bn,bo,bp,bq,bt,bv,bx,bA,bB,bC,bD,bE,bG,bH,bI,bJ,bK,bL,bM,()))):Option (T3v⊕(T3w⊕(T3w⊕(T3w⊕T3v))))) with
| none=>none
| some (.inl (bN,bO,bP,bQ,bR,bS,bT,bU,bV,bW,bY,bZ,b8,b9,ca,cb,cd,cf,cg,ch,ci,cj,cl,cn,cq,cr,_))=>
some (b9,ca,cb,cd,cf,cg,ch,ci,cj,cl,cn,cq,cr,0,())
| some (.inr (.inl (bN,bO,bP,bQ,bR,bS,bT,bU,bV,bW,bY,bZ,b8,b9,ca,cb,cd,cf,cg,ch,ci,cj,cl,cn,cq,cr,_)))=>
some (b9,ca,cb,cd,cf,cg,ch,ci,cj,cl,[],cq,cr,0,())
| some (.inr (.inr (.inl (bN,bO,bP,bQ,bR,bS,bT,bU,bV,bW,bY,bZ,b8,b9,ca,cb,cd,cf,cg,ch,ci,cj,cl,cn,cq,cr,_))))=>
some (b9,ca,cb,cd,cf,cg,ch,ci,cj,cl,[],cq,cr,0,())
| some (.inr (.inr (.inr (.inl (bN,bO,bP,bQ,bR,bS,bT,bU,bV,bW,bY,bZ,b8,b9,ca,cb,cd,cf,cg,ch,ci,cj,cl,cn,cq,cr,_)))))=>
some (b9,ca,cb,cd,cf,cg,ch,ci,cj,cl,[],cq,cr,0,())
| some (.inr (.inr (.inr (.inr (bN,bO,bP,bQ,bR,bS,bT,bU,bV,bW,bY,bZ,b8,b9,ca,cb,cd,cf,cg,ch,ci,cj,cl,cn,cq,cr,_)))))=>
some (b9,ca,cb,cd,cf,cg,ch,ci,cj,cl,cn,cq,cr,0,()))
noncomputable def IU:X.Cfg:=⟨E0,[mr,pE,wq,uh,i3,q7,kt,ud,wv,ww,ue,wu,wt,q8],[],[⟨2,0,qE,[(.normal,(qS [(pP 2 6),(pP 3 8),(pP 4 10),(pP 5 12),(sP 67 .bool)] [(6,(uL [RW,RW,(.row false RW),(.row false d8),gH,iU])),(8,(uL [I64,I64,I64,I64,I64,I64,d8,d8])),(10,(uL [N1,N1,N1,N1,N1,N1])),(12,(uL [CB,CW,I64,I64,N1,I64,.bool]))]))]⟩,(lx 8 1 [(pP 2 6),(pP 3 8),(pP 4 10),(pP 5 12),(pP 7 16),(8,.pk ⟨19,0,[]⟩ [0,0]),(sP 74 d8),(sP 75 I64),(sP 76 I64)] [(6,(uL [RW,RW,(.row false RW),(.row false d8),gH,iU])),(8,(uL [I64,I64,I64,I64,I64,I64,d8,d8])),(10,(uL [N1,N1,N1,N1,N1,N1])),(12,(uL [CB,CW,I64,I64,N1,I64,.bool])),(16,(uL [(.row true CW),(.row true CW),(.row true (.row true CW)),(.row true (.row true KCn)),(.row true KOp),(.row true GR)])),(19,(uL [(.row true I64)]))] 77),⟨14,2,qE,[(.normal,(qS [(pP 4 10),(pP 5 12),(pP 7 16),(pP 11 24)] [(10,(uL [N1,N1,N1,N1,N1,N1])),(12,(uL [CB,CW,I64,I64,N1,I64,.bool])),(16,(uL [(.row true CW),(.row true CW),(.row true (.row true CW)),(.row false d8),gH,(.row true GR)])),(24,(uL [CB,CW,I64,I64,(.row true KCn),I64,.bool]))])),(.normal,(qS [(pP 4 10),(pP 5 12),(pP 7 16),(pP 11 24)] [(10,(uL [N1,N1,N1,N1,N1,N1])),(12,(uL [CB,CW,I64,I64,N1,I64,.bool])),(16,(uL [(.row true CW),(.row true CW),(.row true (.row true CW)),(.row true (.row true KCn)),(.row true KOp),(.row true GR)])),(24,(uL [CB,CW,I64,I64,N1,I64,.bool]))])),(.normal,(qS [(pP 4 10),(pP 5 12),(pP 7 16),(pP 11 24)] [(10,(uL [N1,N1,N1,N1,N1,N1])),(12,(uL [CB,CW,I64,I64,N1,I64,.bool])),(16,(uL [RW,(.row true CW),(.row true (.row true CW)),(.row true (.row true KCn)),(.row true KOp),(.row true GR)])),(24,(uL [CB,CW,I64,I64,N1,I64,.bool]))])),(.normal,(qS [(pP 4 10),(pP 5 12),(pP 7 16),(pP 11 24)] [(10,(uL [N1,N1,N1,N1,N1,N1])),(12,(uL [CB,CW,I64,I64,N1,I64,.bool])),(16,(uL [(.row true CW),RW,(.row true (.row true CW)),(.row true (.row true KCn)),(.row true KOp),(.row true GR)])),(24,(uL [CB,CW,I64,I64,N1,I64,.bool]))])),(.normal,(qS [(pP 4 10),(pP 5 12),(pP 7 16),(pP 11 24)] [(10,(uL [N1,N1,N1,N1,N1,N1])),(12,(uL [CB,CW,I64,I64,N1,I64,.bool])),(16,(uL [(.row true CW),(.row true CW),(.row true RW),(.row true (.row true KCn)),(.row true KOp),(.row true GR)])),(24,(uL [CB,CW,I64,I64,(.row true KCn),I64,.bool]))]))]⟩]⟩
def Bb:Ctr:=⟨154,91,[.agg (uL [RW,RW,(.row false RW),(.row false d8),gH,iU]),.agg (uL [I64,I64,I64,I64,I64,I64,d8,d8])],[],[⟨(uL [RW,RW,(.row false RW),(.row false d8),gH,iU,CB,CW,I64,I64,d8,I64,.bool,I64]),[.agg 6,.agg 7,.one],[]⟩],ap14 oe⟩
theorem IM:Lk 5 Bb:=ls (C:=IU) rfl (aC pf (aC tR (aC DU (aC BL (aC li (aC vQ (aC mn (aC BH (aC DX (aC DY (aC BI (aC DW (aC DV (aC ym aN)))))))))))))) (by kernel_rfl) fun h=>by kernel_rfl
def jM:T3z→Option (T3z⊕(T3r⊕(LDTh×Int×Int×Bool×T3r))):=fun(v0,v1,v2,v3,v4,v5,v6,v7,v8,v9,v10,v11,v12,v13,v14,v15,v16,v17,v18,v19,v20,v21,v22,v23,v24,v25,v26,v27,_)=>
bif (decide (v2 < v1)) then ((dW v2).bind fun x0=>
(dH v0 x0).bind fun x1=>
bif (x1.1==0) then ((d7 v2 true).bind fun(x2,x3,x4,x5,x6,x7,x8,_)=>
some (.inr (.inl (v3,v4,v5,v6,v7,v8,v9,v10,v11,v12,v13,v14,v15,v16,v17,v18,v19,v20,x2,x3,x4,x5,x6,v2,x8,())))) else
let x2:=(w64 (v2+1));
some (.inl (v0,v1,x2,v3,v4,v5,v6,v7,v8,v9,v10,v11,v12,v13,v14,v15,v16,v17,v18,v19,v20,v21,v22,v23,v24,v25,v26,v27,()))) else
some (.inr (.inr (v0,v1,v2,false,v3,v4,v5,v6,v7,v8,v9,v10,v11,v12,v13,v14,v15,v16,v17,v18,v19,v20,v21,v22,v23,v24,v25,v26,v27,())))
def jN(a0:Int) (a1:Int) (a2:Int) (a3:Int) (a4:Int) (a5:Int) (a6:LDCn) (a7:LDCn) (a8:LDIn) (a9:List (Int)) (a10:List LI) (a11:List (Int)) (a12:Int) (a13:LDCe) (a14:LDLn) (a15:LDTh) (a16:List (Int)) (a17:List (Int)) (a18:List LI) (a19:List LDCn) (a20:LDOp) (a21:LDOu) (a22:List (Int)) (a23:List LI) (a24:LDEn) (a25:List (Int)):Option (Int×Int×Int×Int×LDCn×T3j):=
(bif (a5==0) then (some (a5,true,a8,a9,a10,a11,a12,a13,a14,a15,a16,a17,a18,a19,a20,a21,a22,a23,a24,a25,a0,a1,a2,a3,a4,a5,a6,a7,0,0,0,0,(),0,false,())) else
bif (a5==12) then (some (a5,true,a8,a9,a10,a11,a12,a13,a14,a15,a16,a17,a18,a19,a20,a21,a22,a23,a24,a25,a0,a1,a2,a3,a4,a5,a6,a7,0,0,0,0,(),0,false,())) else
some (a5,(a5==15),a8,a9,a10,a11,a12,a13,a14,a15,a16,a17,a18,a19,a20,a21,a22,a23,a24,a25,a0,a1,a2,a3,a4,a5,a6,a7,0,0,0,0,(),0,false,()):Option (T3G)).bind fun(x0,x1,x2,x3,x4,x5,x6,x7,x8,x9,ac,ae,af,ag,ah,ai,aj,ak,am,an,ap,aq,av,ax,ay,az,aA,aB,aD,aE,aF,aG,aH,aI,aJ,_)=>
bif x1 then ((d7 0 true).bind fun(aK,aL,aM,aO,aP,aQ,aR,_)=>
some (aK,aL,aM,aO,[],aQ,aR,x2,x3,x4,x5,x6,x7,x8,x9,ac,ae,af,ag,ah,ai,aj,ak,am,an,())) else
bif (x0==8) then ((dH aA 0).bind fun aK=>
let aL:=(wk .i64 aK.2.1);
(nI aj ak aL ap).bind fun(aM,aO,aP,_)=>
(d7 0 (aP != 2)).bind fun(aQ,aR,aS,aT,aU,aV,aW,_)=>
some (aQ,aR,aS,aT,[],aV,(aP==1),x2,x3,x4,x5,x6,x7,x8,x9,ac,ae,af,ag,ah,ai,aM,aO,am,an,())) else
bif (x0==9) then ((dH aA 0).bind fun aK=>
let aL:=(wk .i64 aK.2.1);
(jv aj ak aL ap).bind fun(aM,aO,aP,aQ,_)=>
(d7 0 aQ).bind fun(aR,aS,aT,aU,aV,aW,aY,_)=>
some (aR,aS,aT,aU,[],aW,aY,x2,x3,x4,x5,x6,x7,x8,x9,ac,ae,af,ag,ah,ai,aM,aO,am,an,())) else
bif (x0==10) then (let aK:Int:=(dK (List.length x9));
(match dQ jM NN (x9,aK,0,x2,x3,x4,x5,x6,x7,x8,x9,ac,ae,af,ag,ah,ai,aj,ak,am,an,aD,aE,aF,aG,aH,aI,aJ,()) with
| none=>none
| some (.inl (aL,aM,aO,aP,aQ,aR,aS,aT,aU,aV,aW,aY,aZ,ba,bc,bd,be,bf,bg,bh,bi,bj,bk,bl,bm,_))=>
some (bg,bh,bi,bj,[],bl,bm,aL,aM,aO,aP,aQ,aR,aS,aT,aU,aV,aW,aY,aZ,ba,bc,bd,be,bf,())
| some (.inr (aL,aM,aO,aP,aQ,aR,aS,aT,aU,aV,aW,aY,aZ,ba,bc,bd,be,bf,bg,bh,bi,bj,bk,bl,bm,bn,bo,bp,bq,_))=>
(d7 0 false).bind fun(bt,bv,bx,bA,bB,bC,bD,_)=>
some (bt,bv,bx,bA,[],bC,bD,aQ,aR,aS,aT,aU,aV,aW,aY,aZ,ba,bc,bd,be,bf,bg,bh,bi,bj,()))) else
bif (x0==11) then ((dH aA 0).bind fun aK=>
let aL:=(wk .i64 aK.2.1);
(bif (aL==ap) then (some (aL,true,x2,x3,x4,x5,x6,x7,x8,x9,ac,ae,af,ag,ah,ai,aj,ak,am,an,ap,aq,av,ax,ay,az,aA,aB,aD,aE,aF,aG,aH,aI,aJ,())) else
bif (decide (aL≥4)) then (some (aL,true,x2,x3,x4,x5,x6,x7,x8,x9,ac,ae,af,ag,ah,ai,aj,ak,am,an,ap,aq,av,ax,ay,az,aA,aB,aD,aE,aF,aG,aH,aI,aJ,())) else
(dW aL).bind fun aM=>
(dH x9 aM).bind fun aO=>
some (aL,(aO.1==0),x2,x3,x4,x5,x6,x7,x8,x9,ac,ae,af,ag,ah,ai,aj,ak,am,an,ap,aq,av,ax,ay,az,aA,aB,aD,aE,aF,aG,aH,aI,aJ,()):Option (T3G)).bind fun(aM,aO,aP,aQ,aR,aS,aT,aU,aV,aW,aY,aZ,ba,bc,bd,be,bf,bg,bh,bi,bj,bk,bl,bm,bn,bo,bp,bq,bt,bv,bx,bA,bB,bC,bD,_)=>
bif aO then ((d7 0 false).bind fun(bE,bF,bG,bH,bI,bJ,bK,_)=>
some (bE,bF,bG,bH,[],bJ,bK,aP,aQ,aR,aS,aT,aU,aV,aW,aY,aZ,ba,bc,bd,be,bf,bg,bh,bi,())) else
(dW aM).bind fun bE=>
(dH aW bE).bind fun bF=>
bif (bF.1==4) then (let bG:Int:=(wk .i64 bF.2.2.2.2.2.2.2);
(d7 bG true).bind fun(bH,bI,bJ,bK,bL,bM,bN,_)=>
some (bH,bI,bJ,bK,[],bM,bN,aP,aQ,aR,aS,aT,aU,aV,aW,aY,aZ,ba,bc,bd,be,bf,bg,bh,bi,())) else
(dW bj).bind fun bG=>
(dH bi bG).bind fun bH=>
(dH bi bG).bind fun bI=>
let bJ:=(List.modify bi bG fun e=>aM);
(d7 0 true).bind fun(bK,bL,bM,bN,bO,bP,bQ,_)=>
some (bK,bL,bM,bN,[],bP,true,aP,aQ,aR,aS,aT,aU,aV,aW,aY,aZ,ba,bc,bd,be,bf,bg,bh,bJ,())) else
(oe ac ae af ag ah ai ap aq av ax ay az aA aB).bind fun(aK,aL,aM,aO,aP,aQ,aR,aS,aT,aU,aV,aW,aY,aZ,_)=>
some (aR,aS,aT,aU,aV,aW,aY,x2,x3,x4,x5,x6,x7,x8,x9,aK,aL,aM,aO,aP,aQ,aj,ak,am,an,())
noncomputable def yH:X.Cfg:=⟨E0,[kt,wy,nW,Bb],[],[⟨3,0,qE,[(.normal,(qS [(pP 0 2),(pP 3 8),(pP 4 10),(sP 21 I64),(sP 22 .bool)] [(2,(uL [fb,RI,(.row false RW),RI,CW,eJ,eX,fB,RW,RW,(.row false RW),(.row false d8),gH,iU,RI,(.row false RI),(.row true tn),(.row true I64)])),(8,(uL [I64,I64,I64,I64,I64,I64,d8,d8])),(10,(uL [CB,CW,I64,I64,N1,I64,.bool]))]))]⟩,⟨20,1,(qS [(pP 0 2),(pP 4 10),(sP 87 fB),(sP 88 I64),(sP 89 I64)] [(2,(uL [fb,RI,(.row false RW),RI,CW,eJ,eX,fB,RW,RW,(.row false RW),(.row false d8),gH,iU,RI,(.row false RI),(.row true tn),(.row true I64)])),(10,(uL [CB,CW,I64,I64,N1,I64,.bool]))]),[(.ret,(qS [(pP 0 2),(pP 4 10)] [(2,(uL [fb,RI,(.row false RW),RI,CW,eJ,eX,fB,RW,RW,(.row false RW),(.row false d8),gH,iU,RI,(.row false RI),(.row true tn),(.row true I64)])),(10,(uL [CB,CW,I64,I64,N1,I64,.bool]))])),(.exit 1,(qS [(pP 0 2),(pP 4 10),(sP 87 fB),(sP 88 I64),(sP 89 I64),(sP 90 .bool)] [(2,(uL [fb,RI,(.row false RW),RI,CW,eJ,eX,fB,RW,RW,(.row false RW),(.row false d8),gH,iU,RI,(.row false RI),(.row true tn),(.row true I64)])),(10,(uL [CB,CW,I64,I64,N1,I64,.bool]))]))]⟩,⟨33,2,qE,[(.normal,(qS [(pP 0 2),(pP 3 8),(pP 4 10),(sP 14 I64),(sP 131 .bool)] [(2,(uL [fb,RI,(.row false RW),RI,CW,eJ,eX,fB,RW,RW,(.row false RW),(.row false d8),gH,iU,RI,(.row false RI),(.row true tn),(.row true I64)])),(8,(uL [I64,I64,I64,I64,I64,I64,d8,d8])),(10,(uL [CB,CW,I64,I64,N1,I64,.bool]))]))]⟩]⟩
def qZ:Ctr:=⟨133,92,[.ptr ⟨2,0,[]⟩ [0],.agg (uL [I64,I64,I64,I64,I64,I64,d8,d8])],[(2,(uL [fb,RI,(.row false RW),RI,CW,eJ,eX,fB,RW,RW,(.row false RW),(.row false d8),gH,iU,RI,(.row false RI),(.row true tn),(.row true I64)]))],[⟨(uL [CB,CW,I64,I64,d8,I64,.bool]),[.agg 7],[(2,(uL [fb,RI,(.row false RW),RI,CW,eJ,eX,fB,RW,RW,(.row false RW),(.row false d8),gH,iU,RI,(.row false RI),(.row true tn),(.row true I64)]))]⟩],ap26 jN⟩
theorem yl:Lk 6 qZ:=ls (C:=yH) rfl (aC mn (aC DZ (aC qL (aC IM aN)))) (by kernel_rfl) fun h=>by kernel_rfl
def jT(a0:Int) (a1:Int) (a2:Int) (a3:Int) (a4:LDCn) (a5:Int) (a6:Bool):Option (Bool×Unit):=
(jy a0 a1 a2 a3).bind fun(x0,_)=>
bif x0 then ((ff a4 16).bind fun(x1,_)=>
bif x1 then (bif (decide (a5≥(-1))) then (some ((decide (a5 < 4)),())) else
some (false,())) else
some (false,())) else
some (false,())
noncomputable def Ci:X.Cfg:=⟨E0,[rh,gg],[],[]⟩
def pC:Ctr:=⟨156,93,[.agg (uL [CB,CW,I64,I64,d8,I64,.bool])],[],[⟨(uL [.bool]),[.one],[]⟩],ap7 jT⟩
theorem tP:Lk 3 pC:=ls (C:=Ci) rfl (aC vV (aC gR aN)) (by kernel_rfl) fun h=>by kernel_rfl
def gi(a0:List (Int)) (a1:Int) (a2:List (Int)) (a3:Int) (a4:Int) (a5:Int) (a6:Int):Option (T0f):=
(gj a2 a3 a4 a5 a6).bind fun(x0,_)=>
bif (!x0) then (some (0,0,1,())) else
bif (a3==0) then (some (0,a4,0,())) else
bif (a3==2) then (let x1:Int:=(wk .u16 (a4+a1));
some (2,x1,0,())) else
(dW a5).bind fun x1=>
(dH a0 x1).bind fun x2=>
let x3:=(w64 (x2+a6));
let x4:=(wk .u16 x3);
some (1,x4,0,())
noncomputable def Gg:X.Cfg:=⟨E0,[i4],[],[]⟩
def pH:Ctr:=⟨64,94,[.agg (uL [RI,CW]),shU RI,.agg (uL [CB,CW,I64,I64])],[],[⟨(uL [CB,CW,I64]),[.agg 2,.one],[]⟩],ap7 gi⟩
theorem sV:Lk 3 pH:=ls (C:=Gg) rfl (aC lj aN) (by kernel_rfl) fun h=>by kernel_rfl
def j7(a0:List (Int)) (a1:Int) (a2:List (Int)) (a3:Int) (a4:Int):Option (T02):=
(fr a2 a3 a4).bind fun(x0,_)=>
bif (!x0) then (some (0,6,())) else
(dW a3).bind fun x1=>
(dH a0 x1).bind fun x2=>
let x3:=(w64 (x2+a4));
some (x3,0,())
noncomputable def yP:X.Cfg:=⟨E0,[i5],[],[]⟩
def rp:Ctr:=⟨177,95,[.agg (uL [RI,CW]),shU RI,.agg (uL [I64,I64])],[],[⟨(uL [I64,I64]),[.one,.one],[]⟩],ap5 j7⟩
theorem yw:Lk 2 rp:=ls (C:=yP) rfl (aC lk aN) (by kernel_rfl) fun h=>by kernel_rfl
def tz:Option (T1T):=
bif (sQ 8 8 2) then let x0:LDCe:=(List.replicate 8 (0,0));
some (0,x0,0,0,(-1),(-1),0,0,()) else none
noncomputable def Cw:X.Cfg:=⟨E0,[],[],[]⟩
def um:Ctr:=⟨185,96,[],[],[⟨(uL [I64,(.row true KCe),I64,I64,I64,I64,I64,CW]),[.agg 8],[]⟩],fun h=>tz⟩
theorem BR:Lk 1 um:=ls (C:=Cw) rfl aN (by kernel_rfl) fun h=>by kernel_rfl
def oY(a0:Int) (a1:Int) (a2:Int):Option (T1T):=
(tz).bind fun(x0,x1,x2,x3,x4,x5,x6,x7,_)=>
(dH x1 0).bind fun x8=>
(dH x1 0).bind fun x9=>
let ac:=(List.modify x1 0 fun e=>(a1,a2));
some (1,ac,a0,x3,x4,x5,x6,x7,())
noncomputable def Gd:X.Cfg:=⟨E0,[um],[],[]⟩
def zq:Ctr:=⟨178,97,[shU I64,.agg (uL [CB,CW])],[],[⟨(uL [I64,(.row true KCe),I64,I64,I64,I64,I64,CW]),[.agg 8],[]⟩],ap3 oY⟩
theorem FZ:Lk 2 zq:=ls (C:=Gd) rfl (aC BR aN) (by kernel_rfl) fun h=>by kernel_rfl
def kY:T3A→Option (T3A⊕(T17⊕T3B)):=fun(v0,v1,v2,v3,v4,v5,v6,v7,v8,v9,v10,v11,v12,v13,v14,v15,v16,v17,v18,v19,v20,v21,v22,v23,v24,v25,v26,v27,v28,v29,v30,_)=>
bif (decide (v3 < v2)) then ((dW v3).bind fun x0=>
(dH v1 x0).bind fun x1=>
(gi v4 v5 v10 x1.1 x1.2.1 x1.2.2.1 x1.2.2.2).bind fun(x2,x3,x4,_)=>
bif (x4 != 0) then (some (.inr (.inl (false,v4,v5,v6,v7,v8,())))) else
(fr v10 v29 v30).bind fun(x5,_)=>
bif (!x5) then (some (.inr (.inl (false,v4,v5,v6,v7,v8,())))) else
(j7 v4 v5 v10 v29 v30).bind fun(x6,x7,_)=>
(iH x6 x2 x3 v6 v7).bind fun(x8,x9,_)=>
let ac:=(w64 (v30+1));
let ae:=(w64 (v3+1));
some (.inl (v0,v1,v2,ae,v4,v5,x8,x9,v8,v9,v10,v11,v12,v13,v14,v15,v16,v17,v18,v19,v20,v21,v22,v23,v24,v25,v26,v27,v28,v29,ac,()))) else
some (.inr (.inr (v0,v1,v2,v3,false,v4,v5,v6,v7,v8,v9,v10,v11,v12,v13,v14,v15,v16,v17,v18,v19,v20,v21,v22,v23,v24,v25,v26,v27,v28,v29,v30,())))
def oU(a0:LDIn) (a1:List (Int)) (a2:List LI) (a3:Int) (a4:Int) (a5:Int) (a6:Int) (a7:Int) (a8:Int) (a9:LDCn) (a10:LDCn) (a11:Int) (a12:Int) (a13:Int) (a14:Int) (a15:LDCn) (a16:Int) (a17:Bool) (a18:List (Int)) (a19:Int) (a20:LDCe) (a21:LDLn) (a22:LDTh):Option (T17):=
(dW a3).bind fun x0=>
(dH a22 x0).bind fun x1=>
(gi a18 a19 a1 a11 a12 a13 a14).bind fun(x2,x3,x4,_)=>
bif (x4 != 0) then (some (false,a18,a19,a20,a21,a22,())) else
(match ((g9 a8).bind fun(x5,_)=>
bif (x5==2) then (let x6:Int:=(dK (List.length a15));
bif (decide (x6 > 0)) then ((dH a9 1).bind fun x7=>
(dH a9 1).bind fun x8=>
(dH a9 1).bind fun x9=>
(gj a1 x9.1 x9.2.1 x9.2.2.1 x9.2.2.2).bind fun(ac,_)=>
bif (!ac) then (some (.inl (false,a18,a19,a20,a21,a22,()))) else
(dH a9 1).bind fun ae=>
bif (ae.1 != 1) then (some (.inl (false,a18,a19,a20,a21,a22,()))) else
let af:=(dK (List.length a15));
(match dQ kY NN (x0,a15,af,0,a18,a19,a20,a21,a22,a0,a1,a2,a3,a4,a5,a6,a7,a8,a9,a10,a11,a12,a13,a14,a15,a16,a17,x2,x3,x7.2.2.1,x8.2.2.2,()) with
| none=>none
| some (.inl (ag,ah,ai,aj,ak,am,_))=>
some (.inl (ag,ah,ai,aj,ak,am,()))
| some (.inr (ag,ah,ai,aj,ak,am,an,ap,aq,av,ax,ay,az,aA,aB,aD,aE,aF,aG,aH,aI,aJ,aK,aL,aM,aO,aP,aQ,aR,aS,aT,aU,_))=>
some (.inr (.inl (ag,ah,ai,aj,ak,am,an,ap,aq,av,ax,ay,az,aA,aB,aD,aE,aF,aG,aH,aI,aJ,aK,aL,aM,aO,aP,aQ,aR,aS,aT,aU,()))))) else
some (.inr (.inr (x0,false,a18,a19,a20,a21,a22,a0,a1,a2,a3,a4,a5,a6,a7,a8,a9,a10,a11,a12,a13,a14,a15,a16,a17,x2,x3,())))) else
some (.inr (.inr (x0,false,a18,a19,a20,a21,a22,a0,a1,a2,a3,a4,a5,a6,a7,a8,a9,a10,a11,a12,a13,a14,a15,a16,a17,x2,x3,()))):Option (T17⊕(T3B⊕(Nat×Bool×T3s)))) with
| none=>none
| some (.inl (x5,x6,x7,x8,x9,ac,_))=>
some (x5,x6,x7,x8,x9,ac,())
| some (.inr (.inl (x5,x6,x7,x8,x9,ac,ae,af,ag,ah,ai,aj,ak,am,an,ap,aq,av,ax,ay,az,aA,aB,aD,aE,aF,aG,aH,aI,aJ,aK,aL,_)))=>
(match (bif (ax==12) then ((dH ay 0).bind fun aM=>
let aO:=(wk .i64 aM.2.1);
bif (decide (aO > 255)) then (some (.inl (false,ac,ae,af,ag,ah,()))) else
(dH ay 0).bind fun aP=>
bif (aP.1 != 0) then (some (.inl (false,ac,ae,af,ag,ah,()))) else
(dH ay 0).bind fun aQ=>
let aR:=(wk .i64 aQ.2.1);
(dH ah x5).bind fun aS=>
let aT:=(List.modify ah x5 fun e=>(e.1,(e.2.1,(e.2.2.1,(e.2.2.2.1,(aR,e.2.2.2.2.2))))));
some (.inr (x5,ac,ae,af,ag,aT,ai,aj,ak,am,an,ap,aq,av,ax,ay,az,aA,aB,aD,aE,aF,aG,aH,aI,aJ,()))) else
some (.inr (x5,ac,ae,af,ag,ah,ai,aj,ak,am,an,ap,aq,av,ax,ay,az,aA,aB,aD,aE,aF,aG,aH,aI,aJ,())):Option (T17⊕T3u)) with
| none=>none
| some (.inl (aM,aO,aP,aQ,aR,aS,_))=>
some (aM,aO,aP,aQ,aR,aS,())
| some (.inr (aM,aO,aP,aQ,aR,aS,aT,aU,aV,aW,aY,aZ,ba,bc,bd,be,bf,bg,bh,bi,bj,bk,bl,bm,bn,bo,_))=>
(match (bif (bd==10) then (bif (decide (bl≥0)) then ((dH be 1).bind fun bp=>
(gi aO aP aU bp.1 bp.2.1 bp.2.2.1 bp.2.2.2).bind fun(bq,bt,bv,_)=>
(bif (bv != 0) then (some (aM,true,aO,aP,aQ,aR,aS,aW,aY,aZ,ba,bc,bd,be,bf,bg,bh,bi,bj,bk,bl,bm,bn,bo,bq,bt,())) else
(dW bl).bind fun bx=>
(dH aS bx).bind fun bA=>
(dH aS bx).bind fun bB=>
bif (bB.1 != 0) then (some (aM,true,aO,aP,aQ,aR,aS,aW,aY,aZ,ba,bc,bd,be,bf,bg,bh,bi,bj,bk,bl,bm,bn,bo,bq,bt,())) else
(dH be 0).bind fun bC=>
let bD:=(wk .i64 bC.2.1);
bif (decide (bD > 255)) then (some (aM,true,aO,aP,aQ,aR,aS,aW,aY,aZ,ba,bc,bd,be,bf,bg,bh,bi,bj,bk,bl,bm,bn,bo,bq,bt,())) else
(dH be 0).bind fun bE=>
some (aM,(bE.1 != 0),aO,aP,aQ,aR,aS,aW,aY,aZ,ba,bc,bd,be,bf,bg,bh,bi,bj,bk,bl,bm,bn,bo,bq,bt,()):Option (T3t)).bind fun(bx,bA,bB,bC,bD,bE,bF,bG,bH,bI,bJ,bK,bL,bM,bN,bO,bP,bQ,bR,bS,bT,bU,bV,bW,bY,bZ,_)=>
bif bA then (some (.inl (false,bB,bC,bD,bE,bF,()))) else
(dH bM 0).bind fun b8=>
let b9:=(wk .i64 b8.2.1);
(oY b9 bY bZ).bind fun(ca,cb,cd,cf,cg,ch,ci,cj,_)=>
(dW bT).bind fun cl=>
(dH bF cl).bind fun cn=>
(dH bF cl).bind fun cq=>
let cr:=(List.modify bF cl fun e=>(ca,(cb,(cd,(cf,(cg,(ch,(ci,cj))))))));
some (.inr (bx,bB,bC,bD,bE,cr,bG,bH,bI,bJ,bK,bL,bM,bN,bV,bW,()))) else
some (.inr (aM,aO,aP,aQ,aR,aS,aW,aY,aZ,ba,bc,bd,be,bf,bn,bo,()))) else
some (.inr (aM,aO,aP,aQ,aR,aS,aW,aY,aZ,ba,bc,bd,be,bf,bn,bo,())):Option (T17⊕T38)) with
| none=>none
| some (.inl (bp,bq,bt,bv,bx,bA,_))=>
some (bp,bq,bt,bv,bx,bA,())
| some (.inr (bp,bq,bt,bv,bx,bA,bB,bC,bD,bE,bF,bG,bH,bI,bJ,bK,_))=>
(dH bA bp).bind fun bL=>
(dH bA bp).bind fun bM=>
(dH bM.2.1 0).bind fun bN=>
(dH bA bp).bind fun bO=>
(dH bO.2.1 0).bind fun bP=>
let bQ:=(List.modify bA bp fun e=>(e.1,((List.modify e.2.1 0 fun e=>(bJ,bK)),e.2.2)));
(dH bQ bp).bind fun bR=>
let bS:=(List.modify bQ bp fun e=>(1,e.2));
some (true,bq,bt,bv,bx,bS,())))
| some (.inr (.inr (x5,x6,x7,x8,x9,ac,ae,af,ag,ah,ai,aj,ak,am,an,ap,aq,av,ax,ay,az,aA,aB,aD,aE,aF,aG,_)))=>
(match (bif (ap==12) then ((dH aq 0).bind fun aH=>
let aI:=(wk .i64 aH.2.1);
bif (decide (aI > 255)) then (some (.inl (false,x7,x8,x9,ac,ae,()))) else
(dH aq 0).bind fun aJ=>
bif (aJ.1 != 0) then (some (.inl (false,x7,x8,x9,ac,ae,()))) else
(dH aq 0).bind fun aK=>
let aL:=(wk .i64 aK.2.1);
(dH ae x5).bind fun aM=>
let aO:=(List.modify ae x5 fun e=>(e.1,(e.2.1,(e.2.2.1,(e.2.2.2.1,(aL,e.2.2.2.2.2))))));
some (.inr (x5,x7,x8,x9,ac,aO,af,ag,ah,ai,aj,ak,am,an,ap,aq,av,ax,ay,az,aA,aB,aD,aE,aF,aG,()))) else
some (.inr (x5,x7,x8,x9,ac,ae,af,ag,ah,ai,aj,ak,am,an,ap,aq,av,ax,ay,az,aA,aB,aD,aE,aF,aG,())):Option (T17⊕T3u)) with
| none=>none
| some (.inl (aH,aI,aJ,aK,aL,aM,_))=>
some (aH,aI,aJ,aK,aL,aM,())
| some (.inr (aH,aI,aJ,aK,aL,aM,aO,aP,aQ,aR,aS,aT,aU,aV,aW,aY,aZ,ba,bc,bd,be,bf,bg,bh,bi,bj,_))=>
(match (bif (aW==10) then (bif (decide (bg≥0)) then ((dH aY 1).bind fun bk=>
(gi aI aJ aP bk.1 bk.2.1 bk.2.2.1 bk.2.2.2).bind fun(bl,bm,bn,_)=>
(bif (bn != 0) then (some (aH,true,aI,aJ,aK,aL,aM,aR,aS,aT,aU,aV,aW,aY,aZ,ba,bc,bd,be,bf,bg,bh,bi,bj,bl,bm,())) else
(dW bg).bind fun bo=>
(dH aM bo).bind fun bp=>
(dH aM bo).bind fun bq=>
bif (bq.1 != 0) then (some (aH,true,aI,aJ,aK,aL,aM,aR,aS,aT,aU,aV,aW,aY,aZ,ba,bc,bd,be,bf,bg,bh,bi,bj,bl,bm,())) else
(dH aY 0).bind fun bt=>
let bv:=(wk .i64 bt.2.1);
bif (decide (bv > 255)) then (some (aH,true,aI,aJ,aK,aL,aM,aR,aS,aT,aU,aV,aW,aY,aZ,ba,bc,bd,be,bf,bg,bh,bi,bj,bl,bm,())) else
(dH aY 0).bind fun bx=>
some (aH,(bx.1 != 0),aI,aJ,aK,aL,aM,aR,aS,aT,aU,aV,aW,aY,aZ,ba,bc,bd,be,bf,bg,bh,bi,bj,bl,bm,()):Option (T3t)).bind fun(bo,bp,bq,bt,bv,bx,bA,bB,bC,bD,bE,bF,bG,bH,bI,bJ,bK,bL,bM,bN,bO,bP,bQ,bR,bS,bT,_)=>
bif bp then (some (.inl (false,bq,bt,bv,bx,bA,()))) else
(dH bH 0).bind fun bU=>
let bV:=(wk .i64 bU.2.1);
(oY bV bS bT).bind fun(bW,bY,bZ,b8,b9,ca,cb,cd,_)=>
(dW bO).bind fun cf=>
(dH bA cf).bind fun cg=>
(dH bA cf).bind fun ch=>
let ci:=(List.modify bA cf fun e=>(bW,(bY,(bZ,(b8,(b9,(ca,(cb,cd))))))));
some (.inr (bo,bq,bt,bv,bx,ci,bB,bC,bD,bE,bF,bG,bH,bI,bQ,bR,()))) else
some (.inr (aH,aI,aJ,aK,aL,aM,aR,aS,aT,aU,aV,aW,aY,aZ,bi,bj,()))) else
some (.inr (aH,aI,aJ,aK,aL,aM,aR,aS,aT,aU,aV,aW,aY,aZ,bi,bj,())):Option (T17⊕T38)) with
| none=>none
| some (.inl (bk,bl,bm,bn,bo,bp,_))=>
some (bk,bl,bm,bn,bo,bp,())
| some (.inr (bk,bl,bm,bn,bo,bp,bq,bt,bv,bx,bA,bB,bC,bD,bE,bF,_))=>
(dH bp bk).bind fun bG=>
(dH bp bk).bind fun bH=>
(dH bH.2.1 0).bind fun bI=>
(dH bp bk).bind fun bJ=>
(dH bJ.2.1 0).bind fun bK=>
let bL:=(List.modify bp bk fun e=>(e.1,((List.modify e.2.1 0 fun e=>(bE,bF)),e.2.2)));
(dH bL bk).bind fun bM=>
let bN:=(List.modify bL bk fun e=>(1,e.2));
some (true,bl,bm,bn,bo,bN,()))))
noncomputable def F9:X.Cfg:=⟨E0,[pH,i3,i4,i5,rp,pF,zq],[],[⟨13,0,(qS [(pP 1 4),(pP 4 10),(pP 6 14),(pP 7 16),(9,.ptr ⟨4,4,[((),(8,0))]⟩ [0,0]),(pP 10 22),(pP 12 26),(sP 80 d8),(sP 81 I64),(sP 82 I64)] [(4,(uL [RI,CW,(.row true KCe),iP,qi])),(10,(uL [fb,RI,(.row false RW)])),(14,(uL [I64,I64,I64,I64,I64,I64,d8,d8])),(16,(uL [CB,CW,I64,I64,d8,I64,.bool])),(22,(uL [CB,CW])),(26,(uL [I64,I64]))]),[(.ret,(qS [(pP 1 4),(sP 8 .bool)] [(4,(uL [RI,CW,(.row true KCe),iP,qi]))])),(.exit 0,(qS [(pP 1 4),(pP 4 10),(pP 6 14),(pP 7 16),(9,.ptr ⟨4,4,[((),(8,0))]⟩ [0,0]),(pP 10 22),(pP 12 26),(sP 80 d8),(sP 81 I64),(sP 82 I64),(sP 83 .bool)] [(4,(uL [RI,CW,(.row true KCe),iP,qi])),(10,(uL [fb,RI,(.row false RW)])),(14,(uL [I64,I64,I64,I64,I64,I64,d8,d8])),(16,(uL [CB,CW,I64,I64,d8,I64,.bool])),(22,(uL [CB,CW])),(26,(uL [I64,I64]))]))]⟩,⟨6,1,qE,[(.ret,(qS [(pP 1 4),(sP 8 .bool)] [(4,(uL [RI,CW,(.row true KCe),iP,qi]))])),(.normal,(qS [(pP 1 4),(pP 4 10),(pP 6 14),(pP 7 16),(9,.ptr ⟨4,4,[((),(8,0))]⟩ [0,0]),(pP 10 22),(pP 12 26),(sP 80 d8),(sP 81 I64),(sP 82 I64),(sP 83 .bool)] [(4,(uL [RI,CW,(.row true KCe),iP,qi])),(10,(uL [fb,RI,(.row false RW)])),(14,(uL [I64,I64,I64,I64,I64,I64,d8,d8])),(16,(uL [CB,CW,I64,I64,d8,I64,.bool])),(22,(uL [CB,CW])),(26,(uL [I64,I64]))])),(.normal,(qS [(pP 1 4),(pP 4 10),(pP 6 14),(pP 7 16),(9,.ptr ⟨4,4,[((),(8,0))]⟩ [0,0]),(pP 10 22),(sP 51 .bool)] [(4,(uL [RI,CW,(.row true KCe),iP,qi])),(10,(uL [fb,RI,(.row false RW)])),(14,(uL [I64,I64,I64,I64,I64,I64,d8,d8])),(16,(uL [CB,CW,I64,I64,d8,I64,.bool])),(22,(uL [CB,CW]))]))]⟩,⟨24,2,qE,[(.ret,(qS [(pP 1 4),(sP 8 .bool)] [(4,(uL [RI,CW,(.row true KCe),iP,qi]))])),(.normal,(qS [(pP 1 4),(pP 4 10),(pP 6 14),(pP 7 16),(9,.ptr ⟨4,4,[((),(8,0))]⟩ [0,0]),(pP 10 22)] [(4,(uL [RI,CW,(.row true KCe),iP,qi])),(10,(uL [fb,RI,(.row false RW)])),(14,(uL [I64,I64,I64,I64,I64,I64,d8,d8])),(16,(uL [CB,CW,I64,I64,d8,I64,.bool])),(22,(uL [CB,CW]))]))]⟩,⟨33,3,qE,[(.normal,(qS [(pP 1 4),(pP 6 14),(pP 7 16),(9,.ptr ⟨4,4,[((),(8,0))]⟩ [0,0]),(pP 10 22),(pP 19 40),(sP 207 .bool)] [(4,(uL [RI,CW,(.row true KCe),iP,qi])),(14,(uL [I64,I64,I64,I64,I64,I64,d8,d8])),(16,(uL [CB,CW,I64,I64,d8,I64,.bool])),(22,(uL [CB,CW])),(40,(uL [CB,CW]))]))]⟩,⟨29,4,qE,[(.ret,(qS [(pP 1 4),(sP 8 .bool)] [(4,(uL [RI,CW,(.row true KCe),iP,qi]))])),(.normal,(qS [(pP 1 4),(9,.ptr ⟨4,4,[((),(8,0))]⟩ [0,0]),(pP 10 22)] [(4,(uL [RI,CW,(.row true KCe),iP,qi])),(14,(uL [I64,I64,I64,I64,I64,I64,d8,d8])),(22,(uL [CB,CW]))]))]⟩]⟩
def zn:Ctr:=⟨157,98,[.agg (uL [fb,RI,(.row false RW)]),.ptr ⟨4,0,[]⟩ [0],.agg (uL [I64,I64,I64,I64,I64,I64,d8,d8]),.agg (uL [CB,CW,I64,I64,d8,I64,.bool])],[(4,(uL [RI,CW,(.row true KCe),iP,qi]))],[⟨(uL [.bool]),[.one],[(4,(uL [RI,CW,(.row true KCe),iP,qi]))]⟩],ap23 oU⟩
theorem FW:Lk 4 zn:=ls (C:=F9) rfl (aC sV (aC li (aC lj (aC lk (aC yw (aC tS (aC FZ aN))))))) (by kernel_rfl) fun h=>by kernel_rfl
def oV(a0:LDIn) (a1:List (Int)) (a2:List LI) (a3:List (Int)) (a4:Int) (a5:LDCe) (a6:LDLn) (a7:LDTh) (a8:Int) (a9:Int) (a10:Int) (a11:Int) (a12:Int) (a13:Int) (a14:LDCn) (a15:LDCn) (a16:Int) (a17:Int) (a18:Int) (a19:Int) (a20:LDCn) (a21:Int) (a22:Bool):Option (T1n):=
((iF a0 a1 a2 a3 a4 a5 a6 a7).bind fun(x0,_)=>
bif (!x0) then (some (true,a0,a1,a2,a3,a4,a5,a6,a7,a8,a9,a10,a11,a12,a13,a14,a15,a16,a17,a18,a19,a20,a21,a22,(),0,(),(),(),())) else
(jZ a8 a9 a10 a11 a12 a13 a14 a15).bind fun(x1,_)=>
bif (!x1) then (some (true,a0,a1,a2,a3,a4,a5,a6,a7,a8,a9,a10,a11,a12,a13,a14,a15,a16,a17,a18,a19,a20,a21,a22,(),0,(),(),(),())) else
bif (a9 != 1) then (some (true,a0,a1,a2,a3,a4,a5,a6,a7,a8,a9,a10,a11,a12,a13,a14,a15,a16,a17,a18,a19,a20,a21,a22,(),0,(),(),(),())) else
let x2:=(dK (List.length a14));
(gw a13).bind fun(x3,_)=>
bif (x2 != x3) then (some (true,a0,a1,a2,a3,a4,a5,a6,a7,a8,a9,a10,a11,a12,a13,a14,a15,a16,a17,a18,a19,a20,a21,a22,(),0,(),(),(),())) else
(jT a16 a17 a18 a19 a20 a21 a22).bind fun(x4,_)=>
bif (!x4) then (some (true,a0,a1,a2,a3,a4,a5,a6,a7,a8,a9,a10,a11,a12,a13,a14,a15,a16,a17,a18,a19,a20,a21,a22,(),0,(),(),(),())) else
(dW a8).bind fun x5=>
(dH a7 x5).bind fun x6=>
some ((x6.1 != 2),a0,a1,a2,a3,a4,a5,a6,a7,a8,a9,a10,a11,a12,a13,a14,a15,a16,a17,a18,a19,a20,a21,a22,(),0,(),(),(),()):Option (Bool×LDIn×LI×LLI×LI×Int×LDCe×LDLn×LDTh×Int×Int×Int×Int×Int×Int×LDCn×LDCn×T2J)).bind fun(x0,x1,x2,x3,x4,x5,x6,x7,x8,x9,ac,ae,af,ag,ah,ai,aj,ak,am,an,ap,aq,av,ax,ay,az,aA,aB,aD,_)=>
bif x0 then (some (x4,x5,x6,x7,x8,false,())) else
(it x4 x5 x6 x7 x8).bind fun(aE,aF,aG,aH,aI,_)=>
bif (ah==0) then ((dW x9).bind fun aJ=>
(dH aI aJ).bind fun aK=>
(dH aI aJ).bind fun aL=>
(dH ai 0).bind fun aM=>
(dH aI aJ).bind fun aO=>
(mU aL.1 aO.2.1 aL.2.2.1 aL.2.2.2.1 aL.2.2.2.2.1 aL.2.2.2.2.2.1 aL.2.2.2.2.2.2.1 aL.2.2.2.2.2.2.2 0 aM.2.1).bind fun(aP,aQ,aR,aS,aT,aU,aV,aW,_)=>
(dW x9).bind fun aY=>
(dH aI aY).bind fun aZ=>
(dH aI aY).bind fun ba=>
let bc:=(List.modify aI aY fun e=>(aP,(aQ,(aR,(aS,(aT,(aU,(aV,aW))))))));
some (aE,aF,aG,aH,bc,true,())) else
bif ax then ((dW x9).bind fun aJ=>
(dH aI aJ).bind fun aK=>
(dH aI aJ).bind fun aL=>
let aM:=(List.modify aI aJ fun e=>(3,e.2));
some (aE,aF,aG,aH,aM,true,())) else
(oU x1 x2 x3 x9 ac ae af ag ah ai aj ak am an ap aq av ax aE aF aG aH aI).bind fun(aJ,aK,aL,aM,aO,aP,_)=>
bif (!aJ) then (some (x4,x5,x6,x7,x8,false,())) else
some (aK,aL,aM,aO,aP,true,())
noncomputable def Ga:X.Cfg:=⟨E0,[mt,pE,kR,pC,lH,s8,zn],[],[⟨2,0,qE,[(.normal,(qS [(pP 4 10),(pP 5 12),(pP 6 14),(pP 7 16),(pP 8 18),(sP 48 .bool)] [(10,(uL [fb,RI,(.row false RW)])),(12,(uL [RI,CW,eJ,eX,fB])),(14,(uL [I64,I64,I64,I64,I64,I64,d8,d8])),(16,(uL [CB,CW,I64,I64,d8,I64,.bool])),(18,(uL [N1,CW,N1,N1,N1]))]))]⟩]⟩
def zo:Ctr:=⟨134,99,[.agg (uL [fb,RI,(.row false RW)]),.agg (uL [RI,CW,eJ,eX,fB]),.agg (uL [I64,I64,I64,I64,I64,I64,d8,d8]),.agg (uL [CB,CW,I64,I64,d8,I64,.bool])],[],[⟨(uL [RI,CW,eJ,eX,fB,.bool]),[.agg 5,.one],[]⟩],ap23 oV⟩
theorem FX:Lk 5 zo:=ls (C:=Ga) rfl (aC pi (aC tR (aC oy (aC tP (aC nT (aC yr (aC FW aN))))))) (by kernel_rfl) fun h=>by kernel_rfl
def lw(a0:LDIn) (a1:List (Int)) (a2:List LI) (a3:List (Int)) (a4:Int) (a5:LDCe) (a6:LDLn) (a7:LDTh) (a8:Int) (a9:Int) (a10:Int) (a11:Int) (a12:Int) (a13:LDCn) (a14:Int) (a15:Bool):Option (T1n):=
((iF a0 a1 a2 a3 a4 a5 a6 a7).bind fun(x0,_)=>
bif (!x0) then (some (a8,true,a0,a1,a2,a3,a4,a5,a6,a7,a9,a10,a11,a12,a13,a14,a15,(),0,(),(),(),())) else
(jT a9 a10 a11 a12 a13 a14 a15).bind fun(x1,_)=>
bif (!x1) then (some (a8,true,a0,a1,a2,a3,a4,a5,a6,a7,a9,a10,a11,a12,a13,a14,a15,(),0,(),(),(),())) else
bif (decide (a8 < 0)) then (some (a8,true,a0,a1,a2,a3,a4,a5,a6,a7,a9,a10,a11,a12,a13,a14,a15,(),0,(),(),(),())) else
bif (decide (a8≥4)) then (some (a8,true,a0,a1,a2,a3,a4,a5,a6,a7,a9,a10,a11,a12,a13,a14,a15,(),0,(),(),(),())) else
(dW a8).bind fun x2=>
(dH a7 x2).bind fun x3=>
some (a8,(x3.1 != 3),a0,a1,a2,a3,a4,a5,a6,a7,a9,a10,a11,a12,a13,a14,a15,(),0,(),(),(),()):Option (Int×Bool×LDIn×LI×LLI×LI×Int×LDCe×LDLn×LDTh×T2J)).bind fun(x0,x1,x2,x3,x4,x5,x6,x7,x8,x9,ac,ae,af,ag,ah,ai,aj,ak,am,an,ap,aq,_)=>
bif x1 then (some (x5,x6,x7,x8,x9,false,())) else
(gi x5 x6 x3 ac ae af ag).bind fun(av,ax,ay,_)=>
bif (ay != 0) then (some (x5,x6,x7,x8,x9,false,())) else
(it x5 x6 x7 x8 x9).bind fun(az,aA,aB,aD,aE,_)=>
(dW x0).bind fun aF=>
(dH aE aF).bind fun aG=>
(dH aE aF).bind fun aH=>
(dH aE aF).bind fun aI=>
(dH aI.2.1 0).bind fun aJ=>
(dH aE aF).bind fun aK=>
(dH aK.2.1 0).bind fun aL=>
let aM:=(List.modify aE aF fun e=>(e.1,((List.modify e.2.1 0 fun e=>(av,ax)),e.2.2)));
(dW x0).bind fun aO=>
(dH aM aO).bind fun aP=>
(dH aM aO).bind fun aQ=>
let aR:=(List.modify aM aO fun e=>(1,e.2));
some (az,aA,aB,aD,aR,true,())
noncomputable def Ez:X.Cfg:=⟨E0,[mt,pC,pH,lH],[],[⟨2,0,qE,[(.normal,(qS [(sP 2 I64),(pP 4 10),(pP 5 12),(pP 7 16),(pP 8 18),(sP 38 .bool)] [(10,(uL [fb,RI,(.row false RW)])),(12,(uL [RI,CW,eJ,eX,fB])),(16,(uL [CB,CW,I64,I64,d8,I64,.bool])),(18,(uL [N1,CW,N1,N1,N1]))]))]⟩]⟩
def rd:Ctr:=⟨158,100,[.agg (uL [fb,RI,(.row false RW)]),.agg (uL [RI,CW,eJ,eX,fB]),shU I64,.agg (uL [CB,CW,I64,I64,d8,I64,.bool])],[],[⟨(uL [RI,CW,eJ,eX,fB,.bool]),[.agg 5,.one],[]⟩],ap16 lw⟩
theorem vT:Lk 5 rd:=ls (C:=Ez) rfl (aC pi (aC tP (aC sV (aC nT aN)))) (by kernel_rfl) fun h=>by kernel_rfl
def nC(a0:Int) (a1:Int) (a2:LDIn) (a3:List (Int)) (a4:List LI) (a5:List (Int)) (a6:Int) (a7:LDCe) (a8:LDLn) (a9:LDTh) (a10:List (Int)) (a11:List (Int)) (a12:List LI) (a13:List LDCn) (a14:LDOp) (a15:LDOu) (a16:List (Int)) (a17:List LI) (a18:LDEn) (a19:List (Int)):Option (T3d):=
let x0:=(wk .i64 a1);
(d7 x0 true).bind fun(x1,x2,x3,x4,x5,x6,x7,_)=>
(lw a2 a3 a4 a5 a6 a7 a8 a9 a0 x1 x2 x3 x4 [] x6 x7).bind fun(x8,x9,ac,ae,af,ag,_)=>
let ah:LDEn:=[(4,(a0,(0,(0,(0,(0,(0,(0,(0,([],([],(x1,(x2,(x3,(x4,([],(x6,x7)))))))))))))))))];
bif (dV 184 (List.length a18) (List.length ah)) then let ai:LDEn:=(List.append a18 ah);
some (a2,a3,a4,x8,x9,ac,ae,af,a10,a11,a12,a13,a14,a15,a16,a17,ai,a19,()) else none
noncomputable def Ej:X.Cfg:=⟨E0,[kt,rd],[(35,Lr),(36,Lr)],[]⟩
def wn:Ctr:=⟨135,101,[.ptr ⟨2,0,[]⟩ [0],shU I64,shU CW],[(2,(uL [fb,RI,(.row false RW),RI,CW,eJ,eX,fB,RW,RW,(.row false RW),(.row false d8),gH,iU,RI,(.row false RI),(.row true tn),(.row true I64)]))],[⟨[],[],[(2,(uL [fb,RI,(.row false RW),RI,CW,eJ,eX,fB,RW,RW,(.row false RW),(.row false d8),gH,iU,RI,(.row false RI),(.row true tn),(.row true I64)]))]⟩],ap20 nC⟩
theorem DS:Lk 6 wn:=ls (C:=Ej) rfl (aC mn (aC vT aN)) (by kernel_rfl) fun h=>by kernel_rfl
def iW(a0:Int) (a1:Int) (a2:Int) (a3:Int) (a4:Int) (a5:Int) (a6:LDCn) (a7:LDCn) (a8:LDIn) (a9:List (Int)) (a10:List LI) (a11:List (Int)) (a12:Int) (a13:LDCe) (a14:LDLn) (a15:LDTh) (a16:List (Int)) (a17:List (Int)) (a18:List LI) (a19:List LDCn) (a20:LDOp) (a21:LDOu) (a22:List (Int)) (a23:List LI) (a24:LDEn) (a25:List (Int)):Option (T3d):=
(bif (a5==9) then ((dH a6 0).bind fun x0=>
let x1:=(wk .i64 x0.2.1);
(jv a22 a23 x1 a0).bind fun(x2,x3,x4,x5,_)=>
some (x4,a8,a9,a10,a11,a12,a13,a14,a15,a16,a17,a18,a19,a20,a21,a22,a23,a24,a25,a0,a1,a2,a3,a4,a5,a6,a7,())) else
some ((-1),a8,a9,a10,a11,a12,a13,a14,a15,a16,a17,a18,a19,a20,a21,a22,a23,a24,a25,a0,a1,a2,a3,a4,a5,a6,a7,()):Option (Int×LDIn×LI×LLI×LI×Int×LDCe×LDLn×LDTh×LI×LI×LLI×LLCn×LDOp×LDOu×LI×LLI×LDEn×LI×T1N)).bind fun(x0,x1,x2,x3,x4,x5,x6,x7,x8,x9,ac,ae,af,ag,ah,ai,aj,ak,am,an,ap,aq,av,ax,ay,az,aA,_)=>
(jN an ap aq av ax ay az aA x1 x2 x3 x4 x5 x6 x7 x8 x9 ac ae af ag ah ai aj ak am).bind fun(aB,aD,aE,aF,aG,aH,aI,aJ,aK,aL,aM,aO,aP,aQ,aR,aS,aT,aU,aV,aW,aY,aZ,ba,bc,bd,_)=>
(oV aJ aK aL aM aO aP aQ aR an ap aq av ax ay az aA aB aD aE aF aG aH aI).bind fun(be,bf,bg,bh,bi,bj,_)=>
let bk:LDEn:=[(2,(an,(0,(an,(ap,(aq,(av,(ax,(ay,(az,(aA,(aB,(aD,(aE,(aF,(aG,(aH,aI)))))))))))))))))];
bif (dV 184 (List.length bc) (List.length bk)) then let bl:LDEn:=(List.append bc bk);
bif (decide (x0≥0)) then ((nC x0 0 aJ aK aL be bf bg bh bi aS aT aU aV aW aY aZ ba bl bd).bind fun(bm,bn,bo,bp,bq,bt,bv,bx,bA,bB,bC,bD,bE,bF,bG,bH,bI,bJ,_)=>
some (bm,bn,bo,bp,bq,bt,bv,bx,bA,bB,bC,bD,bE,bF,bG,bH,bI,bJ,())) else
some (aJ,aK,aL,be,bf,bg,bh,bi,aS,aT,aU,aV,aW,aY,aZ,ba,bl,bd,()) else none
noncomputable def Af:X.Cfg:=⟨E0,[nW,qZ,zo,wn],[(56,Lr),(57,Lr)],[⟨2,0,qE,[(.normal,(qS [(pP 0 2),(pP 3 8),(sP 4 I64)] [(2,(uL [fb,RI,(.row false RW),RI,CW,eJ,eX,fB,RW,RW,(.row false RW),(.row false d8),gH,iU,RI,(.row false RI),(.row true tn),(.row true I64)])),(8,(uL [I64,I64,I64,I64,I64,I64,d8,d8]))]))]⟩]⟩
def sx:Ctr:=⟨101,102,[.ptr ⟨2,0,[]⟩ [0],.agg (uL [I64,I64,I64,I64,I64,I64,d8,d8])],[(2,(uL [fb,RI,(.row false RW),RI,CW,eJ,eX,fB,RW,RW,(.row false RW),(.row false d8),gH,iU,RI,(.row false RI),(.row true tn),(.row true I64)]))],[⟨[],[],[(2,(uL [fb,RI,(.row false RW),RI,CW,eJ,eX,fB,RW,RW,(.row false RW),(.row false d8),gH,iU,RI,(.row false RI),(.row true tn),(.row true I64)]))]⟩],ap26 iW⟩
theorem zQ:Lk 7 sx:=ls (C:=Af) rfl (aC qL (aC yl (aC FX (aC DS aN)))) (by kernel_rfl) fun h=>by kernel_rfl
def qv:T2L→Option (T2L⊕(Int×Int×Int×Int×Nat×T1K)):=fun(v0,v1,v2,v3,v4,v5,v6,v7,v8,v9,v10,v11,_)=>
bif (decide (v6 < v5)) then (((dW v6).bind fun x0=>
(dH v10 v4).bind fun x1=>
(dH x1 x0).bind fun x2=>
(dH v10 v4).bind fun x3=>
(dH x3 x0).bind fun x4=>
bif (x4 != v0) then (bif (dV 8 (List.length v11) (List.length [x4])) then let x5:List (Int):=(List.append v11 [x4]);
some (v0,v1,v2,v3,v4,v5,v6,v7,v8,v9,v10,x5,()) else none) else
some (v0,v1,v2,v3,v4,v5,v6,v7,v8,v9,v10,v11,()):Option (T2L)).bind fun(x0,x1,x2,x3,x4,x5,x6,x7,x8,x9,ac,ae,_)=>
let af:=(w64 (x6+1));
some (.inl (x0,x1,x2,x3,x4,x5,af,x7,x8,x9,ac,ae,()))) else
some (.inr (v0,v1,v2,v3,v4,v5,v6,false,v7,v8,v9,v10,v11,()))
def qu:T1A→Option (T1A⊕(Int×T1w)):=fun(v0,v1,v2,v3,v4,v5,v6,_)=>
bif (decide (v2 < v1)) then ((dW v2).bind fun x0=>
(dH v6 x0).bind fun x1=>
(dH v6 x0).bind fun x2=>
(dH v6 x0).bind fun x3=>
let x4:=(dK (List.length x3));
(dQ qv NN (v0,v2,v1,v2,x0,x4,0,v3,v4,v5,v6,[],())).bind fun(x5,x6,x7,x8,x9,ac,ae,af,ag,ah,ai,aj,ak,_)=>
(dW x6).bind fun am=>
(dH aj am).bind fun an=>
(dH aj am).bind fun ap=>
let aq:=(List.modify aj am fun e=>ak);
let av:=(w64 (x8+1));
some (.inl (x5,x7,av,ag,ah,ai,aq,()))) else
some (.inr (v0,v1,v2,false,v3,v4,v5,v6,()))
def qt:T1P→Option (T1P⊕(Int×T1K)):=fun(v0,v1,v2,v3,v4,v5,v6,v7,_)=>
bif (decide (v2 < v1)) then ((jv v5 v6 v2 v0).bind fun(x0,x1,x2,x3,_)=>
(bif x3 then (bif (decide (x2≥0)) then (bif (dV 8 (List.length v7) (List.length [x2])) then let x4:List (Int):=(List.append v7 [x2]);
some (v0,v1,v2,v3,v4,v5,v6,x4,x0,x1,()) else none) else
some (v0,v1,v2,v3,v4,v5,v6,v7,x0,x1,())) else
some (v0,v1,v2,v3,v4,v5,v6,v7,x0,x1,()):Option (Int×Int×Int×Unit×Unit×LI×LLI×LI×T08)).bind fun(x4,x5,x6,x7,x8,x9,ac,ae,af,ag,_)=>
let ah:=(w64 (x6+1));
some (.inl (x4,x5,ah,x7,x8,af,ag,ae,()))) else
some (.inr (v0,v1,v2,false,v3,v4,v5,v6,v7,()))
def nJ(a0:List (Int)) (a1:List LI) (a2:Int):Option (T0r):=
(jw a0 a1).bind fun(x0,x1,_)=>
let x2:=(dK (List.length x1));
(dQ qu NN (a2,x2,0,(),(),x0,x1,())).bind fun(x3,x4,x5,x6,x7,x8,x9,ac,_)=>
let ae:=(dK (List.length x9));
(dQ qt NN (x3,ae,0,x7,x8,x9,ac,[],())).bind fun(af,ag,ah,ai,aj,ak,am,an,ap,_)=>
some (am,an,ap,())
noncomputable def Ex:X.Cfg:=⟨E0,[nX,nW],[],[⟨15,0,qE,[(.normal,(qS [(sP 1 I64),(pP 4 10),(pP 6 14),(sP 7 I64),(9,.pk ⟨21,0,[]⟩ [0,0]),(20,.pk ⟨14,1,[]⟩ [0,0]),(sP 21 I64),(sP 22 I64),(27,.pk ⟨14,1,[((),(1,0))]⟩ [0,0,0]),(sP 28 I64),(sP 29 I64)] [(10,(uL [N1,N1])),(14,(uL [(.row true I64),(.row true (.row true I64))])),(21,(uL [(.row true I64)]))]))]⟩,⟨12,1,(qS [(sP 1 I64),(pP 4 10),(pP 6 14),(sP 7 I64),(9,.pk ⟨21,0,[]⟩ [0,0]),(20,.pk ⟨14,1,[]⟩ [0,0]),(sP 21 I64),(sP 22 I64),(27,.pk ⟨14,1,[((),(1,0))]⟩ [0,0,0]),(sP 28 I64),(sP 29 I64)] [(10,(uL [N1,N1])),(14,(uL [(.row true I64),(.row true (.row true I64))])),(21,(uL [(.row true I64)]))]),[(.exit 2,(qS [(sP 1 I64),(pP 4 10),(pP 6 14),(sP 7 I64),(9,.pk ⟨21,0,[]⟩ [0,0]),(20,.pk ⟨14,1,[]⟩ [0,0]),(sP 21 I64),(sP 22 I64),(27,.pk ⟨14,1,[((),(1,0))]⟩ [0,0,0]),(sP 28 I64),(sP 29 I64),(sP 30 .bool)] [(10,(uL [N1,N1])),(14,(uL [(.row true I64),(.row true (.row true I64))])),(21,(uL [(.row true I64)]))]))]⟩,(lx 4 2 [(sP 1 I64),(pP 4 10),(pP 6 14),(20,.pk ⟨14,1,[]⟩ [0,0]),(sP 21 I64),(sP 22 I64)] [(10,(uL [N1,N1])),(14,(uL [(.row true I64),(.row true (.row true I64))]))] 23),⟨27,3,qE,[(.normal,(qS [(sP 1 I64),(pP 4 10),(pP 6 14),(12,.pk ⟨27,0,[]⟩ [0,0]),(pP 14 30),(sP 49 I64),(sP 50 I64)] [(10,(uL [N1,N1])),(14,(uL [RI,(.row false RI)])),(27,(uL [(.row true I64)])),(30,(uL [RI,(.row false RI)]))]))]⟩,⟨21,4,(qS [(sP 1 I64),(pP 4 10),(pP 6 14),(12,.pk ⟨27,0,[]⟩ [0,0]),(sP 49 I64),(sP 50 I64)] [(10,(uL [N1,N1])),(14,(uL [RI,(.row false RI)])),(27,(uL [(.row true I64)]))]),[(.exit 4,(qS [(sP 1 I64),(pP 4 10),(pP 6 14),(12,.pk ⟨27,0,[]⟩ [0,0]),(sP 49 I64),(sP 50 I64),(sP 51 .bool)] [(10,(uL [N1,N1])),(14,(uL [RI,(.row false RI)])),(27,(uL [(.row true I64)]))]))]⟩]⟩
def wz:Ctr:=⟨136,103,[.agg (uL [RI,(.row false RI)]),shU I64],[],[⟨(uL [RI,(.row false RI),(.row true I64)]),[.agg 2,.one],[]⟩],ap3 nJ⟩
theorem D0:Lk 3 wz:=ls (C:=Ex) rfl (aC qM (aC qL aN)) (by kernel_rfl) fun h=>by kernel_rfl
def iV(a0:Int) (a1:Int) (a2:LDIn) (a3:List (Int)) (a4:List LI) (a5:List (Int)) (a6:Int) (a7:LDCe) (a8:LDLn) (a9:LDTh) (a10:List (Int)) (a11:List (Int)) (a12:List LI) (a13:List LDCn) (a14:LDOp) (a15:LDOu) (a16:List (Int)) (a17:List LI) (a18:LDEn):Option (LDIn×LI×LLI×LI×Int×LDCe×LDLn×LDTh×LI×LI×LLI×LLCn×LDOp×LDOu×LI×LLI×LDEn×Unit):=
let x0:=(wk .i64 a1);
(d7 x0 true).bind fun(x1,x2,x3,x4,x5,x6,x7,_)=>
(lw a2 a3 a4 a5 a6 a7 a8 a9 a0 x1 x2 x3 x4 [] x6 x7).bind fun(x8,x9,ac,ae,af,ag,_)=>
let ah:LDEn:=[(4,(a0,(0,(0,(0,(0,(0,(0,(0,([],([],(x1,(x2,(x3,(x4,([],(x6,x7)))))))))))))))))];
bif (dV 184 (List.length a18) (List.length ah)) then let ai:LDEn:=(List.append a18 ah);
some (a2,a3,a4,x8,x9,ac,ae,af,a10,a11,a12,a13,a14,a15,a16,a17,ai,()) else none
noncomputable def Ac:X.Cfg:=⟨E0,[kt,rd],[(35,Lr),(36,Lr)],[]⟩
def sr:Ctr:=⟨135,104,[.ptr ⟨2,0,[]⟩ [0],shU I64,shU CW],[(2,(uL [fb,RI,(.row false RW),RI,CW,eJ,eX,fB,RW,RW,(.row false RW),(.row false d8),gH,iU,RI,(.row false RI),(.row true tn)]))],[⟨[],[],[(2,(uL [fb,RI,(.row false RW),RI,CW,eJ,eX,fB,RW,RW,(.row false RW),(.row false d8),gH,iU,RI,(.row false RI),(.row true tn)]))]⟩],ap19 iV⟩
theorem zN:Lk 6 sr:=ls (C:=Ac) rfl (aC mn (aC vT aN)) (by kernel_rfl) fun h=>by kernel_rfl
def pR:T3p→Option (T3p⊕(Int×Int×Int×Bool×T3h)):=fun(v0,v1,v2,v3,v4,v5,v6,v7,v8,v9,v10,v11,v12,v13,v14,v15,v16,v17,v18,v19,v20,v21,_)=>
bif (decide (v2 < v1)) then ((dW v2).bind fun x0=>
(dH v21 x0).bind fun x1=>
(dH v21 x0).bind fun x2=>
(iV x2 0 v3 v4 v5 v6 v7 v8 v9 v10 v11 v12 v13 v14 v15 v16 v17 v18 v19).bind fun(x3,x4,x5,x6,x7,x8,x9,ac,ae,af,ag,ah,ai,aj,ak,am,an,_)=>
let ap:=(w64 (v2+1));
some (.inl (v0,v1,ap,x3,x4,x5,x6,x7,x8,x9,ac,ae,af,ag,ah,ai,aj,ak,am,an,v20,v21,()))) else
some (.inr (v0,v1,v2,false,v3,v4,v5,v6,v7,v8,v9,v10,v11,v12,v13,v14,v15,v16,v17,v18,v19,v20,v21,()))
def pQ:T3o→Option (T3o⊕(Int×Int×T3j)):=fun(v0,v1,v2,v3,v4,v5,v6,v7,v8,v9,v10,v11,v12,v13,v14,v15,v16,v17,v18,v19,v20,_)=>
bif (decide (v2 < v1)) then (((dW v2).bind fun x0=>
(dH v20 x0).bind fun x1=>
(dH v20 x0).bind fun x2=>
bif (x2==v0) then ((dW v0).bind fun x3=>
(dH v10 x3).bind fun x4=>
(iV v2 x4.2.2.2.2.2.2.2 v3 v4 v5 v6 v7 v8 v9 v10 v11 v12 v13 v14 v15 v16 v17 v18 v19).bind fun(x5,x6,x7,x8,x9,ac,ae,af,ag,ah,ai,aj,ak,am,an,ap,aq,_)=>
(dW v2).bind fun av=>
(dH v20 av).bind fun ax=>
(dH v20 av).bind fun ay=>
let az:=(List.modify v20 av fun e=>(-1));
some (v0,v1,v2,x5,x6,x7,x8,x9,ac,ae,af,ag,ah,ai,aj,ak,am,an,ap,aq,az,())) else
some (v0,v1,v2,v3,v4,v5,v6,v7,v8,v9,v10,v11,v12,v13,v14,v15,v16,v17,v18,v19,v20,()):Option (T3o)).bind fun(x0,x1,x2,x3,x4,x5,x6,x7,x8,x9,ac,ae,af,ag,ah,ai,aj,ak,am,an,ap,_)=>
let aq:=(w64 (x2+1));
some (.inl (x0,x1,aq,x3,x4,x5,x6,x7,x8,x9,ac,ae,af,ag,ah,ai,aj,ak,am,an,ap,()))) else
some (.inr (v0,v1,v2,false,v3,v4,v5,v6,v7,v8,v9,v10,v11,v12,v13,v14,v15,v16,v17,v18,v19,v20,()))
def jO(a0:Int) (a1:LDIn) (a2:List (Int)) (a3:List LI) (a4:List (Int)) (a5:Int) (a6:LDCe) (a7:LDLn) (a8:LDTh) (a9:List (Int)) (a10:List (Int)) (a11:List LI) (a12:List LDCn) (a13:LDOp) (a14:LDOu) (a15:List (Int)) (a16:List LI) (a17:LDEn) (a18:List (Int)):Option (T3d):=
(nJ a15 a16 a0).bind fun(x0,x1,x2,_)=>
let x3:=(dK (List.length x2));
(dQ pR NN (a0,x3,0,a1,a2,a3,a4,a5,a6,a7,a8,a9,a10,a11,a12,a13,a14,x0,x1,a17,a18,x2,())).bind fun(x4,x5,x6,x7,x8,x9,ac,ae,af,ag,ah,ai,aj,ak,am,an,ap,aq,av,ax,ay,az,aA,_)=>
let aB:=(dK (List.length az));
(dQ pQ NN (x4,aB,0,x8,x9,ac,ae,af,ag,ah,ai,aj,ak,am,an,ap,aq,av,ax,ay,az,())).bind fun(aD,aE,aF,aG,aH,aI,aJ,aK,aL,aM,aO,aP,aQ,aR,aS,aT,aU,aV,aW,aY,aZ,ba,_)=>
some (aH,aI,aJ,aK,aL,aM,aO,aP,aQ,aR,aS,aT,aU,aV,aW,aY,aZ,ba,())
noncomputable def Ca:X.Cfg:=⟨E0,[wz,sr],[],[(lx 4 0 [(pP 0 2),(sP 1 I64),(23,.pk ⟨13,0,[]⟩ [0,0]),(sP 24 I64),(sP 25 I64)] [(2,(uL [fb,RI,(.row false RW),RI,CW,eJ,eX,fB,RW,RW,(.row false RW),(.row false d8),gH,iU,RI,(.row false RI),(.row true tn),(.row true I64)])),(13,(uL [(.row true I64)]))] 26),⟨13,1,qE,[(.normal,(qS [(pP 0 2),(sP 1 I64),(36,.pk ⟨2,17,[]⟩ [0,0]),(sP 37 I64),(sP 38 I64)] [(2,(uL [fb,RI,(.row false RW),RI,CW,eJ,eX,fB,RW,RW,(.row false RW),(.row false d8),gH,iU,RI,(.row false RI),(.row true tn),(.row true I64)]))]))]⟩,⟨10,2,(qS [(pP 0 2),(sP 1 I64),(36,.pk ⟨2,17,[]⟩ [0,0]),(sP 37 I64),(sP 38 I64)] [(2,(uL [fb,RI,(.row false RW),RI,CW,eJ,eX,fB,RW,RW,(.row false RW),(.row false d8),gH,iU,RI,(.row false RI),(.row true tn),(.row true I64)]))]),[(.exit 2,(qS [(pP 0 2),(sP 1 I64),(36,.pk ⟨2,17,[]⟩ [0,0]),(sP 37 I64),(sP 38 I64),(sP 39 .bool)] [(2,(uL [fb,RI,(.row false RW),RI,CW,eJ,eX,fB,RW,RW,(.row false RW),(.row false d8),gH,iU,RI,(.row false RI),(.row true tn),(.row true I64)]))]))]⟩]⟩
def ua:Ctr:=⟨102,105,[.ptr ⟨2,0,[]⟩ [0],shU I64],[(2,(uL [fb,RI,(.row false RW),RI,CW,eJ,eX,fB,RW,RW,(.row false RW),(.row false d8),gH,iU,RI,(.row false RI),(.row true tn),(.row true I64)]))],[⟨[],[],[(2,(uL [fb,RI,(.row false RW),RI,CW,eJ,eX,fB,RW,RW,(.row false RW),(.row false d8),gH,iU,RI,(.row false RI),(.row true tn),(.row true I64)]))]⟩],ap19 jO⟩
theorem BE:Lk 7 ua:=ls (C:=Ca) rfl (aC D0 (aC zN aN)) (by kernel_rfl) fun h=>by kernel_rfl
def nD(a0:LDIn) (a1:List (Int)) (a2:List LI) (a3:List (Int)) (a4:Int) (a5:LDCe) (a6:LDLn) (a7:LDTh) (a8:List (Int)) (a9:List (Int)) (a10:List LI) (a11:List LDCn) (a12:LDOp) (a13:LDOu) (a14:List (Int)) (a15:List LI) (a16:LDEn) (a17:List (Int)) (a18:Int) (a19:Int) (a20:Bool):Option (LDIn×LI×LLI×LI×Int×LDCe×LDLn×LDTh×LI×LI×LLI×LLCn×LDOp×LDOu×LI×LLI×LDEn×T07):=
(l9 a7).bind fun(x0,_)=>
let x1:=(dK (List.length x0));
bif (x1==0) then (some ([],[],[],[],0,[],[],[],[],[],[],[],[],[],[],[],[],[],15,())) else
let x2:=(dK (List.length a16));
bif (decide (x2 > 192)) then (some ([],[],[],[],0,[],[],[],[],[],[],[],[],[],[],[],[],[],3,())) else
let x3:=(dK (List.length x0));
(jo a18 x3).bind fun(x4,_)=>
(dW x4).bind fun x5=>
(dH x0 x5).bind fun x6=>
(dH x0 x5).bind fun x7=>
(jo a19 64).bind fun(x8,_)=>
let x9:=(w64 (1+x8));
(kX a0 a1 a2 a3 a4 a5 a6 a7 a8 a9 a10 a11 a12 a13 a14 a15 a16 a17).bind fun(ac,ae,af,ag,ah,ai,aj,ak,am,an,ap,aq,av,ax,ay,az,aA,aB,_)=>
(match (bif a20 then ((mR ag ah ai aj ak x7).bind fun(aD,_)=>
bif aD then ((jS ag ah ai aj ak x7).bind fun(aE,aF,aG,aH,aI,aJ,_)=>
let aK:LDEn:=[(3,(x7,(0,(0,(0,(0,(0,(0,(0,([],([],(0,(0,(0,(0,([],(0,false)))))))))))))))))];
bif (dV 184 (List.length aA) (List.length aK)) then let aL:LDEn:=(List.append aA aK);
some (.inl (x7,x9,(),(),(),(),0,(),(),(),(),(),(),(),(),(),(),(),(),(),ac,ae,af,aE,aF,aG,aH,aI,am,an,ap,aq,av,ax,ay,az,aL,aB,())) else none) else
some (.inr (x7,x9,(),(),(),(),0,(),(),(),(),(),(),(),(),(),(),(),(),(),ac,ae,af,ag,ah,ai,aj,ak,am,an,ap,aq,av,ax,ay,az,aA,aB,()))) else
some (.inr (x7,x9,(),(),(),(),0,(),(),(),(),(),(),(),(),(),(),(),(),(),ac,ae,af,ag,ah,ai,aj,ak,am,an,ap,aq,av,ax,ay,az,aA,aB,())):Option (T3T⊕T3T)) with
| none=>none
| some (.inl (aD,aE,aF,aG,aH,aI,aJ,aK,aL,aM,aO,aP,aQ,aR,aS,aT,aU,aV,aW,aY,aZ,ba,bc,bd,be,bf,bg,bh,bi,bj,bk,bl,bm,bn,bo,bp,bq,bt,_))=>
(lz aZ ba bc bd be bf bg bh aD aE).bind fun(bv,bx,bA,bB,bC,bD,bE,bF,bG,bH,bI,bJ,bK,bL,_)=>
let bM:LDEn:=[(1,(aD,(aE,(bD,(bE,(bF,(bG,(bH,(bI,(bJ,(bK,(0,(0,(0,(0,([],(0,false)))))))))))))))))];
bif (dV 184 (List.length bq) (List.length bM)) then let bN:LDEn:=(List.append bq bM);
(bif (bE==1) then ((iW bD bE bF bG bH bI bJ bK aZ ba bc bv bx bA bB bC bi bj bk bl bm bn bo bp bN bt).bind fun(bO,bP,bQ,bR,bS,bT,bU,bV,bW,bY,bZ,b8,b9,ca,cb,cd,cf,cg,_)=>
some (aD,aF,aG,aH,aI,aJ,aK,aL,aM,aO,aP,aQ,aR,aS,aT,aU,aV,aW,aY,bO,bP,bQ,bR,bS,bT,bU,bV,bW,bY,bZ,b8,b9,ca,cb,cd,cf,cg,())) else
some (aD,aF,aG,aH,aI,aJ,aK,aL,aM,aO,aP,aQ,aR,aS,aT,aU,aV,aW,aY,aZ,ba,bc,bv,bx,bA,bB,bC,bi,bj,bk,bl,bm,bn,bo,bp,bN,bt,()):Option (T3M)).bind fun(bO,bP,bQ,bR,bS,bT,bU,bV,bW,bY,bZ,b8,b9,ca,cb,cd,cf,cg,ch,ci,cj,cl,cn,cq,cr,cu,cw,cx,cy,cz,cD,cE,cF,cG,cH,cI,cJ,_)=>
((dW bO).bind fun cK=>
(dH cw cK).bind fun cL=>
bif (cL.1==4) then ((jO bO ci cj cl cn cq cr cu cw cx cy cz cD cE cF cG cH cI cJ).bind fun(cM,cN,cO,cP,cQ,cR,cS,cT,cU,cV,cW,cX,cY,cZ,c7,c8,c9,dc,_)=>
some (bP,bQ,bR,bS,bT,bU,bV,bW,bY,bZ,b8,b9,ca,cb,cd,cf,cg,ch,cM,cN,cO,cP,cQ,cR,cS,cT,cU,cV,cW,cX,cY,cZ,c7,c8,c9,dc,())) else
some (bP,bQ,bR,bS,bT,bU,bV,bW,bY,bZ,b8,b9,ca,cb,cd,cf,cg,ch,ci,cj,cl,cn,cq,cr,cu,cw,cx,cy,cz,cD,cE,cF,cG,cH,cI,cJ,()):Option (T3J)).bind fun(cK,cL,cM,cN,cO,cP,cQ,cR,cS,cT,cU,cV,cW,cX,cY,cZ,c7,c8,c9,dc,de,df,dg,dh,dk,dl,dm,dn,dp,dq,dx,dy,dz,dA,dB,dC,_)=>
some (c9,dc,de,df,dg,dh,dk,dl,dm,dn,dp,dq,dx,dy,dz,dA,dB,dC,0,()) else none
| some (.inr (aD,aE,aF,aG,aH,aI,aJ,aK,aL,aM,aO,aP,aQ,aR,aS,aT,aU,aV,aW,aY,aZ,ba,bc,bd,be,bf,bg,bh,bi,bj,bk,bl,bm,bn,bo,bp,bq,bt,_))=>
(lz aZ ba bc bd be bf bg bh aD aE).bind fun(bv,bx,bA,bB,bC,bD,bE,bF,bG,bH,bI,bJ,bK,bL,_)=>
let bM:LDEn:=[(1,(aD,(aE,(bD,(bE,(bF,(bG,(bH,(bI,(bJ,(bK,(0,(0,(0,(0,([],(0,false)))))))))))))))))];
bif (dV 184 (List.length bq) (List.length bM)) then let bN:LDEn:=(List.append bq bM);
(bif (bE==1) then ((iW bD bE bF bG bH bI bJ bK aZ ba bc bv bx bA bB bC bi bj bk bl bm bn bo bp bN bt).bind fun(bO,bP,bQ,bR,bS,bT,bU,bV,bW,bY,bZ,b8,b9,ca,cb,cd,cf,cg,_)=>
some (aD,aF,aG,aH,aI,aJ,aK,aL,aM,aO,aP,aQ,aR,aS,aT,aU,aV,aW,aY,bO,bP,bQ,bR,bS,bT,bU,bV,bW,bY,bZ,b8,b9,ca,cb,cd,cf,cg,())) else
some (aD,aF,aG,aH,aI,aJ,aK,aL,aM,aO,aP,aQ,aR,aS,aT,aU,aV,aW,aY,aZ,ba,bc,bv,bx,bA,bB,bC,bi,bj,bk,bl,bm,bn,bo,bp,bN,bt,()):Option (T3M)).bind fun(bO,bP,bQ,bR,bS,bT,bU,bV,bW,bY,bZ,b8,b9,ca,cb,cd,cf,cg,ch,ci,cj,cl,cn,cq,cr,cu,cw,cx,cy,cz,cD,cE,cF,cG,cH,cI,cJ,_)=>
((dW bO).bind fun cK=>
(dH cw cK).bind fun cL=>
bif (cL.1==4) then ((jO bO ci cj cl cn cq cr cu cw cx cy cz cD cE cF cG cH cI cJ).bind fun(cM,cN,cO,cP,cQ,cR,cS,cT,cU,cV,cW,cX,cY,cZ,c7,c8,c9,dc,_)=>
some (bP,bQ,bR,bS,bT,bU,bV,bW,bY,bZ,b8,b9,ca,cb,cd,cf,cg,ch,cM,cN,cO,cP,cQ,cR,cS,cT,cU,cV,cW,cX,cY,cZ,c7,c8,c9,dc,())) else
some (bP,bQ,bR,bS,bT,bU,bV,bW,bY,bZ,b8,b9,ca,cb,cd,cf,cg,ch,ci,cj,cl,cn,cq,cr,cu,cw,cx,cy,cz,cD,cE,cF,cG,cH,cI,cJ,()):Option (T3J)).bind fun(cK,cL,cM,cN,cO,cP,cQ,cR,cS,cT,cU,cV,cW,cX,cY,cZ,c7,c8,c9,dc,de,df,dg,dh,dk,dl,dm,dn,dp,dq,dx,dy,dz,dA,dB,dC,_)=>
some (c9,dc,de,df,dg,dh,dk,dl,dm,dn,dp,dq,dx,dy,dz,dA,dB,dC,0,()) else none)
noncomputable def Ek:X.Cfg:=⟨E0,[ul,s9,sw,s7,rb,wB,sx,ua],[(60,Lr),(61,Lr),(82,Lr),(83,Lr)],[⟨11,0,qE,[(.normal,(qS [(pP 4 10),(sP 7 I64),(sP 8 I64),(pP 9 20)] [(10,(uL [N1,N1,N1,N1,CW,N1,N1,N1,N1,N1,N1,N1,N1,N1,N1,N1,N1,N1])),(20,(uL [fb,RI,(.row false RW),RI,CW,(.row true KCe),iP,qi,RW,RW,(.row false RW),(.row false d8),gH,iU,RI,(.row false RI),(.row true tn),(.row true I64)]))])),(.normal,(qS [(pP 4 10),(sP 7 I64),(sP 8 I64),(pP 9 20)] [(10,(uL [N1,N1,N1,N1,CW,N1,N1,N1,N1,N1,N1,N1,N1,N1,N1,N1,N1,N1])),(20,(uL [fb,RI,(.row false RW),RI,CW,eJ,eX,fB,RW,RW,(.row false RW),(.row false d8),gH,iU,RI,(.row false RI),(.row true tn),(.row true I64)]))]))]⟩,⟨17,1,qE,[(.normal,(qS [(pP 4 10),(sP 7 I64),(pP 9 20)] [(10,(uL [N1,N1,N1,N1,CW,N1,N1,N1,N1,N1,N1,N1,N1,N1,N1,N1,N1,N1])),(20,(uL [fb,RI,(.row false RW),RI,CW,eJ,eX,fB,RW,RW,(.row false RW),(.row false d8),gH,iU,RI,(.row false RI),(.row true tn),(.row true I64)]))]))]⟩,⟨19,2,qE,[(.normal,(qS [(pP 4 10),(pP 9 20)] [(10,(uL [N1,N1,N1,N1,CW,N1,N1,N1,N1,N1,N1,N1,N1,N1,N1,N1,N1,N1])),(20,(uL [fb,RI,(.row false RW),RI,CW,eJ,eX,fB,RW,RW,(.row false RW),(.row false d8),gH,iU,RI,(.row false RI),(.row true tn),(.row true I64)]))]))]⟩]⟩
def wo:Ctr:=⟨56,106,[.agg (uL [fb,RI,(.row false RW),RI,CW,eJ,eX,fB,RW,RW,(.row false RW),(.row false d8),gH,iU,RI,(.row false RI),HW,RI]),.agg (uL [I64,I64,.bool])],[],[⟨(uL [fb,RI,(.row false RW),RI,CW,eJ,eX,fB,RW,RW,(.row false RW),(.row false d8),gH,iU,RI,(.row false RI),(.row true tn),(.row true I64),I64]),[.agg 18,.one],[]⟩],ap21 nD⟩
theorem DT:Lk 8 wo:=ls (C:=Ek) rfl (aC BQ (aC yx (aC zP (aC yp (aC yo (aC D2 (aC zQ (aC BE aN)))))))) (by kernel_rfl) fun h=>by kernel_rfl
def pa:T3X→Option (T3X⊕((Int×Bool×LI×Int×Unit×Unit×Unit×Unit×Int×Unit×Unit×Unit×Unit×Unit×Unit×Unit×Unit×Unit×Unit×Unit×Unit×Unit×LDIn×LI×LLI×LI×Int×LDCe×LDLn×LDTh×LI×LI×LLI×LLCn×LDOp×LDOu×LI×LLI×LDEn×LI×T3d)⊕(Int×Bool×T3U))):=fun(v0,v1,v2,v3,v4,v5,v6,v7,v8,v9,v10,v11,v12,v13,v14,v15,v16,v17,v18,v19,v20,v21,v22,v23,v24,v25,v26,v27,v28,v29,v30,v31,v32,v33,v34,v35,v36,v37,v38,_)=>
bif (decide (v0 > 0)) then ((mj v1 v2).bind fun(x0,x1,x2,x3,x4,_)=>
(nD v21 v22 v23 v24 v25 v26 v27 v28 v29 v30 v31 v32 v33 v34 v35 v36 v37 v38 x0 x1 x2).bind fun(x5,x6,x7,x8,x9,ac,ae,af,ag,ah,ai,aj,ak,am,an,ap,aq,av,ax,_)=>
bif (ax != 0) then (some (.inr (.inl (v0,true,x3,x4,v3,v4,v5,v6,v7,v8,v9,v10,v11,v12,v13,v14,v15,v16,v17,v18,v19,v20,v21,v22,v23,v24,v25,v26,v27,v28,v29,v30,v31,v32,v33,v34,v35,v36,v37,v38,x5,x6,x7,x8,x9,ac,ae,af,ag,ah,ai,aj,ak,am,an,ap,aq,av,())))) else
let ay:=(w64 (v0 - 1));
some (.inl (ay,x3,x4,v3,v4,v5,v6,v7,v8,v9,v10,v11,v12,v13,v14,v15,v16,v17,v18,v19,v20,x5,x6,x7,x8,x9,ac,ae,af,ag,ah,ai,aj,ak,am,an,ap,aq,av,()))) else
some (.inr (.inr (v0,false,v1,v2,v3,v4,v5,v6,v7,v8,v9,v10,v11,v12,v13,v14,v15,v16,v17,v18,v19,v20,v21,v22,v23,v24,v25,v26,v27,v28,v29,v30,v31,v32,v33,v34,v35,v36,v37,v38,())))
def rF(a0:List (Int)) (a1:Int):Option (LDIn×LI×LLI×LI×Int×LDCe×LDLn×LDTh×LI×LI×LLI×LLCn×LDOp×LDOu×LI×LLI×LDEn×LI×T07):=
(lc a0 a1).bind fun(x0,x1,x2,x3,x4,_)=>
(mi x1 x3 x4).bind fun(x5,x6,x7,x8,_)=>
(ld x7 x8).bind fun(x9,ac,ae,af,ag,ah,ai,aj,_)=>
(lU x0 x1 x2 x5 x6 x9 ac ae af ag []).bind fun(ak,am,an,ap,aq,av,ax,ay,az,aA,aB,aD,aE,aF,aG,aH,aI,aJ,aK,_)=>
(dJ 16 ai aj).bind fun(aL,aM,aO,_)=>
let aP:=(w64 (3+aL));
(match dQ pa NN (aP,aM,aO,(),(),(),(),0,(),(),(),(),(),(),(),(),(),(),(),(),(),ak,am,an,ap,aq,av,ax,ay,az,aA,aB,aD,aE,aF,aG,aH,[],aJ,()) with
| none=>none
| some (.inl (aQ,aR,aS,aT,aU,aV,aW,aY,aZ,ba,bc,bd,be,bf,bg,bh,bi,bj,bk,bl,bm,bn,bo,bp,bq,bt,bv,bx,bA,bB,bC,bD,bE,bF,bG,bH,bI,bJ,bK,bL,bM,bN,bO,bP,bQ,bR,bS,bT,bU,bV,bW,bY,bZ,b8,b9,ca,cb,cd,_))=>
some (bo,bp,bq,bt,bv,bx,bA,bB,bC,bD,bE,bF,bG,bH,bI,bJ,bK,bL,aS,aT,())
| some (.inr (aQ,aR,aS,aT,aU,aV,aW,aY,aZ,ba,bc,bd,be,bf,bg,bh,bi,bj,bk,bl,bm,bn,bo,bp,bq,bt,bv,bx,bA,bB,bC,bD,bE,bF,bG,bH,bI,bJ,bK,bL,_))=>
some (bo,bp,bq,bt,bv,bx,bA,bB,bC,bD,bE,bF,bG,bH,bI,bJ,bK,bL,aS,aT,()))
noncomputable def IX:X.Cfg:=⟨E0,[sG,uA,sH,ub,fq,uB,wo],[],[⟨5,0,(qS [(pP 0 2),(pP 2 6),(pP 4 10),(sP 6 I64)] [(2,(uL [RI,I64])),(6,(uL [N1,N1,N1,N1,CW,N1,N1,N1,N1,N1,N1,N1,N1,N1,N1,N1,N1,N1])),(10,(uL [fb,RI,(.row false RW),RI,CW,eJ,eX,fB,RW,RW,(.row false RW),(.row false d8),gH,iU,RI,(.row false RI),(.row true tn),(.row true I64)]))]),[(.exit 0,(qS [(pP 0 2),(pP 2 6),(pP 4 10),(sP 6 I64),(pP 7 16),(sP 37 .bool)] [(2,(uL [RI,I64])),(6,(uL [N1,N1,N1,N1,CW,N1,N1,N1,N1,N1,N1,N1,N1,N1,N1,N1,N1,N1])),(10,(uL [fb,RI,(.row false RW),RI,CW,eJ,eX,fB,RW,RW,(.row false RW),(.row false d8),gH,iU,RI,(.row false RI),HW,RI])),(16,(uL [fb,RI,(.row false RW),RI,CW,eJ,eX,fB,RW,RW,(.row false RW),(.row false d8),gH,iU,RI,(.row false RI),(.row true tn),(.row true I64)]))])),(.exit 0,(qS [(pP 0 2),(pP 2 6),(pP 4 10),(sP 6 I64),(sP 26 .bool)] [(2,(uL [RI,I64])),(6,(uL [N1,N1,N1,N1,CW,N1,N1,N1,N1,N1,N1,N1,N1,N1,N1,N1,N1,N1])),(10,(uL [fb,RI,(.row false RW),RI,CW,eJ,eX,fB,RW,RW,(.row false RW),(.row false d8),gH,iU,RI,(.row false RI),(.row true tn),(.row true I64)]))]))]⟩]⟩
def Be:Ctr:=⟨26,107,[.ptr ⟨2,0,[]⟩ [0]],[(2,(uL [RI,I64]))],[⟨(uL [fb,RI,(.row false RW),RI,CW,eJ,eX,fB,RW,RW,(.row false RW),(.row false d8),gH,iU,RI,(.row false RI),HW,RI]),[.agg 18],[(2,(uL [RI,I64]))]⟩],ap2 rF⟩
theorem IQ:Lk 9 Be:=ls (C:=IX) rfl (aC zY (aC B6 (aC zZ (aC BF (aC fC (aC B7 (aC DT aN))))))) (by kernel_rfl) fun h=>by kernel_rfl
def f9:T2T→Option (T2T⊕T2W):=fun(v0,v1,v2,v3,v4,v5,v6,v7,v8,v9,v10,v11,v12,_)=>
bif (decide (v6 < v5)) then ((dW v1).bind fun x0=>
(dH v9 x0).bind fun x1=>
let x2:=(w64 (x1+v6));
(lA v7 v8 x2).bind fun(x3,x4,_)=>
(gM v9 v10 v0 x3 x4).bind fun(x5,x6,x7,x8,_)=>
let x9:LDCn:=[(x5,(x6,(x7,x8)))];
bif (dV 24 (List.length v12) (List.length x9)) then let ac:LDCn:=(List.append v12 x9);
let ae:=(w64 (v6+1));
some (.inl (v0,v1,v2,v3,v4,v5,ae,v7,v8,v9,v10,v11,ac,())) else none) else
some (.inr (v0,v1,v2,v3,v4,v5,v6,false,v7,v8,v9,v10,v11,v12,()))
def f8:T2d→Option (T2d⊕T2s):=fun(v0,v1,v2,v3,v4,v5,v6,v7,v8,_)=>
bif (decide (v3 < v2)) then ((dW v3).bind fun x0=>
(dH v1 x0).bind fun x1=>
(dQ f9 NN (v0,v3,v1,v2,v3,x1,0,v4,v5,v6,v7,v8,[],())).bind fun(x2,x3,x4,x5,x6,x7,x8,x9,ac,ae,af,ag,ah,ai,_)=>
bif (dV 24 (List.length ah) (List.length [ai])) then let aj:List LDCn:=(List.append ah [ai]);
let ak:=(w64 (x6+1));
some (.inl (x2,x4,x5,ak,ac,ae,af,ag,aj,())) else none) else
some (.inr (v0,v1,v2,v3,false,v4,v5,v6,v7,v8,()))
def j4(a0:LDCe) (a1:LDLn) (a2:List (Int)) (a3:Int) (a4:List (Int)):Option (LLCn×Unit):=
let x0:=(dK (List.length a4));
(dQ f8 NN (a4,a4,x0,0,a0,a1,a2,a3,[],())).bind fun(x1,x2,x3,x4,x5,x6,x7,x8,x9,ac,_)=>
some (ac,())
noncomputable def yN:X.Cfg:=⟨E0,[ro,my],[(41,(.row true KCn)),(42,(.row true KCn))],[⟨12,0,(qS [(sP 2 RI),(pP 3 8),(pP 4 10),(7,.pk ⟨17,0,[]⟩ [0,0]),(sP 8 I64),(10,.pk ⟨23,0,[]⟩ [0,0]),(sP 12 RI),(sP 13 I64),(sP 14 I64),(sP 19 I64),(sP 20 I64)] [(8,(uL [eJ,eX])),(10,(uL [RI,CW])),(17,(uL [(.row true (.row true KCn))])),(23,(uL [(.row true KCn)]))]),[(.exit 2,(qS [(sP 2 RI),(pP 3 8),(pP 4 10),(7,.pk ⟨17,0,[]⟩ [0,0]),(sP 8 I64),(10,.pk ⟨23,0,[]⟩ [0,0]),(sP 12 RI),(sP 13 I64),(sP 14 I64),(sP 19 I64),(sP 20 I64),(sP 21 .bool)] [(8,(uL [eJ,eX])),(10,(uL [RI,CW])),(17,(uL [(.row true (.row true KCn))])),(23,(uL [(.row true KCn)]))]))]⟩,(lx 4 1 [(sP 2 RI),(pP 3 8),(pP 4 10),(7,.pk ⟨17,0,[]⟩ [0,0]),(sP 12 RI),(sP 13 I64),(sP 14 I64)] [(8,(uL [eJ,eX])),(10,(uL [RI,CW])),(17,(uL [(.row true (.row true KCn))]))] 15)]⟩
def rm:Ctr:=⟨18,108,[.agg (uL [eJ,eX]),.agg (uL [RI,CW]),shU RI],[],[⟨(uL [(.row true (.row true KCn))]),[.one],[]⟩],ap5 j4⟩
theorem yv:Lk 3 rm:=ls (C:=yN) rfl (aC wd (aC pn aN)) (by kernel_rfl) fun h=>by kernel_rfl
def gV:T3E→Option (T3E⊕T3H):=fun(v0,v1,v2,v3,v4,v5,v6,v7,v8,v9,v10,v11,v12,v13,v14,v15,v16,v17,v18,v19,v20,v21,v22,v23,v24,v25,v26,v27,v28,v29,v30,v31,v32,v33,_)=>
bif (decide (v5 < v4)) then ((dW v5).bind fun x0=>
(dH v3 x0).bind fun x1=>
(gM v9 v10 v7 x1.1 x1.2).bind fun(x2,x3,x4,x5,_)=>
let x6:LDCn:=[(x2,(x3,(x4,x5)))];
bif (dV 24 (List.length v33) (List.length x6)) then let x7:LDCn:=(List.append v33 x6);
let x8:=(w64 (v5+1));
some (.inl (v0,v1,v2,v3,v4,x8,v6,v7,v8,v9,v10,v11,v12,v13,v14,v15,v16,v17,v18,v19,v20,v21,v22,v23,v24,v25,v26,v27,v28,v29,v30,v31,v32,x7,())) else none) else
some (.inr (v0,v1,v2,v3,v4,v5,false,v6,v7,v8,v9,v10,v11,v12,v13,v14,v15,v16,v17,v18,v19,v20,v21,v22,v23,v24,v25,v26,v27,v28,v29,v30,v31,v32,v33,()))
def gU:T30→Option (T30⊕T37):=fun(v0,v1,v2,v3,v4,v5,v6,v7,v8,v9,v10,v11,v12,v13,v14,_)=>
bif (decide (v2 < v1)) then ((dW v2).bind fun x0=>
(dH v0 x0).bind fun x1=>
let x2:=(dK (List.length x1.2.1));
(dQ gV NN (v0,v1,v2,x1.2.1,x2,0,v3,v4,v5,v6,v7,v8,v9,v10,v11,v12,v13,v14,x1.1,x1.2.1,x1.2.2.1,x1.2.2.2.1,x1.2.2.2.2.1,x1.2.2.2.2.2.1,x1.2.2.2.2.2.2.1,x1.2.2.2.2.2.2.2,x1.1,x1.2.2.1,x1.2.2.2.1,x1.2.2.2.2.1,x1.2.2.2.2.2.1,x1.2.2.2.2.2.2.1,x1.2.2.2.2.2.2.2,[],())).bind fun(x3,x4,x5,x6,x7,x8,x9,ac,ae,af,ag,ah,ai,aj,ak,am,an,ap,aq,av,ax,ay,az,aA,aB,aD,aE,aF,aG,aH,aI,aJ,aK,aL,aM,_)=>
let aO:LDTs:=[(aF,(aG,(aH,(aI,(aJ,(aK,(aL,aM)))))))];
bif (dV 80 (List.length aq) (List.length aO)) then let aP:LDTs:=(List.append aq aO);
let aQ:=(w64 (x5+1));
some (.inl (x3,x4,aQ,ac,ae,af,ag,ah,ai,aj,ak,am,an,ap,aP,())) else none) else
some (.inr (v0,v1,v2,false,v3,v4,v5,v6,v7,v8,v9,v10,v11,v12,v13,v14,()))
def jV(a0:LDIn) (a1:List (Int)) (a2:List LI) (a3:List (Int)) (a4:Int) (a5:LDCe) (a6:LDLn) (a7:LDTh):Option (T0a):=
(j4 a5 a6 a3 a4 a1).bind fun(x0,_)=>
let x1:=(dK (List.length a7));
(dQ gU NN (a7,x1,0,a0,a1,a2,a3,a4,a5,a6,a7,(),(),x0,[],())).bind fun(x2,x3,x4,x5,x6,x7,x8,x9,ac,ae,af,ag,ah,ai,aj,ak,_)=>
some (aj,ak,())
noncomputable def Cl:X.Cfg:=⟨E0,[rm,my],[(63,Bh),(64,Bh)],[⟨12,0,(qS [(pP 2 6),(pP 3 8),(pP 4 10),(pP 5 12),(pP 8 18),(sP 20 fB),(sP 21 I64),(sP 22 I64),(sP 42 eJ),(sP 43 I64),(sP 44 I64)] [(6,(uL [fb,RI,(.row false RW)])),(8,(uL [RI,CW,eJ,eX,fB])),(10,(uL [N1,N1])),(12,(uL [(.row true (.row true KCn)),(.row true Bh)])),(16,(uL [I64,eJ,I64,I64,I64,I64,I64,CW])),(18,(uL [I64,I64,I64,I64,I64,I64,CW,(.row true KCn)]))]),[(.exit 2,(qS [(pP 2 6),(pP 3 8),(pP 4 10),(pP 5 12),(pP 8 18),(sP 20 fB),(sP 21 I64),(sP 22 I64),(sP 42 eJ),(sP 43 I64),(sP 44 I64),(sP 45 .bool)] [(6,(uL [fb,RI,(.row false RW)])),(8,(uL [RI,CW,eJ,eX,fB])),(10,(uL [N1,N1])),(12,(uL [(.row true (.row true KCn)),(.row true Bh)])),(16,(uL [I64,eJ,I64,I64,I64,I64,I64,CW])),(18,(uL [I64,I64,I64,I64,I64,I64,CW,(.row true KCn)]))]))]⟩,(lx 4 1 [(pP 2 6),(pP 3 8),(pP 4 10),(pP 5 12),(sP 20 fB),(sP 21 I64),(sP 22 I64)] [(6,(uL [fb,RI,(.row false RW)])),(8,(uL [RI,CW,eJ,eX,fB])),(10,(uL [N1,N1])),(12,(uL [(.row true (.row true KCn)),(.row true Bh)]))] 23)]⟩
def pD:Ctr:=⟨24,109,[.agg (uL [fb,RI,(.row false RW)]),.agg (uL [RI,CW,eJ,eX,fB])],[],[⟨(uL [(.row true (.row true KCn)),(.row true Bh)]),[.agg 2],[]⟩],ap8 jV⟩
theorem tQ:Lk 4 pD:=ls (C:=Cl) rfl (aC yv (aC pn aN)) (by kernel_rfl) fun h=>by kernel_rfl
def gY:Int×T0p→Option ((Int×T0p)⊕(Int×T0H)):=fun(v0,v1,v2,v3,_)=>
bif (decide (v3 < v2)) then ((dW v3).bind fun x0=>
(dH v1 x0).bind fun x1=>
let x2:=(w64 (v0+x1));
let x3:=(w64 (v3+1));
some (.inl (x2,v1,v2,x3,()))) else
some (.inr (v0,v1,v2,v3,false,()))
def me(a0:List (Int)):Option (Int×Unit):=
let x0:=(dK (List.length a0));
(dQ gY NN (0,a0,x0,0,())).bind fun(x1,x2,x3,x4,x5,_)=>
some (x1,())
noncomputable def CK:X.Cfg:=⟨E0,[],[],[(lx 4 0 [(sP 3 I64),(sP 6 RI),(sP 7 I64),(sP 8 I64)] [] 9)]⟩
def uu:Ctr:=⟨59,110,(uL [RI]),[],[⟨(uL [I64]),[.one],[]⟩],ap1 me⟩
theorem BX:Lk 1 uu:=ls (C:=CK) rfl aN (by kernel_rfl) fun h=>by kernel_rfl
def oZ:Int×LI×T0w→Option ((Int×LI×T0w)⊕(T0f⊕T1E)):=fun(v0,v1,v2,v3,v4,v5,_)=>
bif (decide (v3 < v2)) then ((dW v3).bind fun x0=>
(dH v1 x0).bind fun x1=>
(match (bif (decide (v0≥0)) then (bif (decide (v0 < x1)) then (some (.inl (0,v3,v0,()))) else
some (.inr (v0,v3,x1,v1,v2,v3,false,v4,v5,()))) else
some (.inr (v0,v3,x1,v1,v2,v3,false,v4,v5,())):Option (T0f⊕(Int×Int×T1E))) with
| none=>none
| some (.inl (x2,x3,x4,_))=>
some (.inr (.inl (x2,x3,x4,())))
| some (.inr (x2,x3,x4,x5,x6,x7,x8,x9,ac,_))=>
let ae:=(w64 (x2 - x4));
let af:=(w64 (x7+1));
some (.inl (ae,x5,x6,af,x9,ac,())))) else
some (.inr (.inr (v0,v1,v2,v3,false,v4,v5,())))
def rE(a0:List (Int)) (a1:Int):Option (T0f):=
let x0:=(dK (List.length a0));
(match dQ oZ NN (a1,a0,x0,0,0,0,()) with
| none=>none
| some (.inl (x1,x2,x3,_))=>
some (x2,x3,x1,())
| some (.inr (x1,x2,x3,x4,x5,x6,x7,_))=>
some (0,0,6,()))
noncomputable def IW:X.Cfg:=⟨E0,[],[],[⟨8,0,qE,[(.ret,(qS [(pP 4 10),(sP 5 I64)] [(10,(uL [I64,I64]))])),(.normal,(qS [(sP 1 I64),(pP 4 10),(sP 6 I64),(sP 7 I64),(sP 8 RI),(sP 9 I64),(sP 10 I64),(sP 21 .bool)] [(10,(uL [I64,I64]))]))]⟩,⟨3,1,(qS [(sP 1 I64),(pP 4 10),(sP 8 RI),(sP 9 I64),(sP 10 I64)] [(10,(uL [I64,I64]))]),[(.ret,(qS [(pP 4 10),(sP 5 I64)] [(10,(uL [I64,I64]))])),(.exit 0,(qS [(sP 1 I64),(pP 4 10),(sP 8 RI),(sP 9 I64),(sP 10 I64),(sP 11 .bool)] [(10,(uL [I64,I64]))]))]⟩]⟩
def Bd:Ctr:=⟨58,111,(uL [RI,I64]),[],[⟨(uL [I64,I64,I64]),[.agg 2,.one],[]⟩],ap2 rE⟩
theorem IO:Lk 1 Bd:=ls (C:=IW) rfl aN (by kernel_rfl) fun h=>by kernel_rfl
def lC(a0:List (Int)) (a1:List (Int)) (a2:Int):Option (T1c):=
(dJ 6 a1 a2).bind fun(x0,x1,x2,_)=>
bif (x0==4) then ((me a0).bind fun(x3,_)=>
(dJ x3 x1 x2).bind fun(x4,x5,x6,_)=>
(rE a0 x4).bind fun(x7,x8,x9,_)=>
some (1,0,x7,x8,x5,x6,())) else
bif (x0==5) then ((dJ 10 x1 x2).bind fun(x3,x4,x5,_)=>
let x6:=(wk .u16 x3);
some (2,x6,0,0,x4,x5,())) else
(gQ x1 x2).bind fun(x3,x4,x5,_)=>
some (0,x3,0,0,x4,x5,())
noncomputable def EZ:X.Cfg:=⟨E0,[fq,uu,Bd,kU],[],[]⟩
def wQ:Ctr:=⟨28,112,[.ptr ⟨2,0,[]⟩ [0],shU RI],[(2,(uL [RI,I64]))],[⟨(uL [CB,CW,I64,I64]),[.agg 4],[(2,(uL [RI,I64]))]⟩],ap3 lC⟩
theorem Eg:Lk 5 wQ:=ls (C:=EZ) rfl (aC fC (aC BX (aC IO (aC nb aN)))) (by kernel_rfl) fun h=>by kernel_rfl
def f7:LDTs×LDTs×T02→Option ((LDTs×LDTs×T02)⊕((Bool×Unit)⊕(LDTs×LDTs×T0e))):=fun(v0,v1,v2,v3,_)=>
bif (decide (v3 < v2)) then ((dW v3).bind fun x0=>
(dH v1 x0).bind fun x1=>
(bif (decide (x1.1≥0)) then (bif (decide (x1.1≤4)) then (bif (decide (x1.2.1≥0)) then (bif (decide (x1.2.1≤255)) then (bif (decide (x1.2.2.1≥0)) then (bif (decide (x1.2.2.1≤1099511627776)) then (bif (decide (x1.2.2.2.1≥(-1))) then (bif (decide (x1.2.2.2.1≤255)) then (bif (decide (x1.2.2.2.2.1≥(-1))) then (bif (decide (x1.2.2.2.2.1≤255)) then (bif (decide (x1.2.2.2.2.2.1≥0)) then (some (v0,(decide (x1.2.2.2.2.2.1≤6)),v1,v2,v3,x1.1,x1.2.1,x1.2.2.1,x1.2.2.2.1,x1.2.2.2.2.1,x1.2.2.2.2.2.1,x1.2.2.2.2.2.2.1,x1.2.2.2.2.2.2.2,())) else
some (v0,false,v1,v2,v3,x1.1,x1.2.1,x1.2.2.1,x1.2.2.2.1,x1.2.2.2.2.1,x1.2.2.2.2.2.1,x1.2.2.2.2.2.2.1,x1.2.2.2.2.2.2.2,())) else
some (v0,false,v1,v2,v3,x1.1,x1.2.1,x1.2.2.1,x1.2.2.2.1,x1.2.2.2.2.1,x1.2.2.2.2.2.1,x1.2.2.2.2.2.2.1,x1.2.2.2.2.2.2.2,())) else
some (v0,false,v1,v2,v3,x1.1,x1.2.1,x1.2.2.1,x1.2.2.2.1,x1.2.2.2.2.1,x1.2.2.2.2.2.1,x1.2.2.2.2.2.2.1,x1.2.2.2.2.2.2.2,())) else
some (v0,false,v1,v2,v3,x1.1,x1.2.1,x1.2.2.1,x1.2.2.2.1,x1.2.2.2.2.1,x1.2.2.2.2.2.1,x1.2.2.2.2.2.2.1,x1.2.2.2.2.2.2.2,())) else
some (v0,false,v1,v2,v3,x1.1,x1.2.1,x1.2.2.1,x1.2.2.2.1,x1.2.2.2.2.1,x1.2.2.2.2.2.1,x1.2.2.2.2.2.2.1,x1.2.2.2.2.2.2.2,())) else
some (v0,false,v1,v2,v3,x1.1,x1.2.1,x1.2.2.1,x1.2.2.2.1,x1.2.2.2.2.1,x1.2.2.2.2.2.1,x1.2.2.2.2.2.2.1,x1.2.2.2.2.2.2.2,())) else
some (v0,false,v1,v2,v3,x1.1,x1.2.1,x1.2.2.1,x1.2.2.2.1,x1.2.2.2.2.1,x1.2.2.2.2.2.1,x1.2.2.2.2.2.2.1,x1.2.2.2.2.2.2.2,())) else
some (v0,false,v1,v2,v3,x1.1,x1.2.1,x1.2.2.1,x1.2.2.2.1,x1.2.2.2.2.1,x1.2.2.2.2.2.1,x1.2.2.2.2.2.2.1,x1.2.2.2.2.2.2.2,())) else
some (v0,false,v1,v2,v3,x1.1,x1.2.1,x1.2.2.1,x1.2.2.2.1,x1.2.2.2.2.1,x1.2.2.2.2.2.1,x1.2.2.2.2.2.2.1,x1.2.2.2.2.2.2.2,())) else
some (v0,false,v1,v2,v3,x1.1,x1.2.1,x1.2.2.1,x1.2.2.2.1,x1.2.2.2.2.1,x1.2.2.2.2.2.1,x1.2.2.2.2.2.2.1,x1.2.2.2.2.2.2.2,())) else
some (v0,false,v1,v2,v3,x1.1,x1.2.1,x1.2.2.1,x1.2.2.2.1,x1.2.2.2.2.1,x1.2.2.2.2.2.1,x1.2.2.2.2.2.2.1,x1.2.2.2.2.2.2.2,()):Option (LDTs×Bool×LDTs×T2k)).bind fun(x2,x3,x4,x5,x6,x7,x8,x9,ac,ae,af,ag,ah,_)=>
(bif (!x3) then (some (x2,x4,x5,x6,true,())) else
let ai:=(dK (List.length ah));
bif (ai != 8) then (some (x2,x4,x5,x6,true,())) else
(ff ah 8).bind fun(aj,_)=>
some (x2,x4,x5,x6,(!aj),()):Option (LDTs×LDTs×T0e)).bind fun(ai,aj,ak,am,an,_)=>
bif an then (some (.inr (.inl (false,())))) else
let ap:=(w64 (am+1));
some (.inl (ai,aj,ak,ap,()))) else
some (.inr (.inr (v0,v1,v2,v3,false,())))
def jU(a0:LDTs):Option (Bool×Unit):=
let x0:=(dK (List.length a0));
(match dQ f7 NN (a0,a0,x0,0,()) with
| none=>none
| some (.inl (x1,_))=>
some (x1,())
| some (.inr (x1,x2,x3,x4,x5,_))=>
let x6:=(dK (List.length x1));
some ((x6==4),()))
noncomputable def yL:X.Cfg:=⟨E0,[gg],[],[⟨8,0,qE,[(.normal,(qS [(sP 0 (.row false mI)),(pP 4 10),(sP 5 .bool),(sP 6 (.row false mI)),(sP 7 I64),(sP 8 I64)] [(10,(uL [I64,I64,I64,I64,I64,I64,CW,d8]))]))]⟩,⟨9,1,qE,[(.normal,(qS [(sP 0 (.row false mI)),(sP 6 (.row false mI)),(sP 7 I64),(sP 8 I64),(sP 83 .bool)] []))]⟩,⟨3,2,(qS [(sP 0 (.row false mI)),(sP 6 (.row false mI)),(sP 7 I64),(sP 8 I64)] []),[(.ret,(qS [(sP 2 .bool)] [])),(.exit 0,(qS [(sP 0 (.row false mI)),(sP 6 (.row false mI)),(sP 7 I64),(sP 8 I64),(sP 9 .bool)] []))]⟩]⟩
def re:Ctr:=⟨104,113,(uL [(.row false mI)]),[],[⟨(uL [.bool]),[.one],[]⟩],ap1 jU⟩
theorem yq:Lk 3 re:=ls (C:=yL) rfl (aC gR aN) (by kernel_rfl) fun h=>by kernel_rfl
def gT:T1Y→Option (T1Y⊕((Bool×Unit)⊕(LLCn×Int×Int×Bool×T0Z))):=fun(v0,v1,v2,v3,v4,v5,v6,v7,_)=>
bif (decide (v2 < v1)) then ((dW v2).bind fun x0=>
(dH v0 x0).bind fun x1=>
let x2:=(dK (List.length x1));
(dW v2).bind fun x3=>
(dH v4 x3).bind fun x4=>
bif (x2 != x4) then (some (.inr (.inl (false,())))) else
(ff x1 32).bind fun(x5,_)=>
bif (!x5) then (some (.inr (.inl (false,())))) else
let x6:=(w64 (v2+1));
some (.inl (v0,v1,x6,v3,v4,v5,v6,v7,()))) else
some (.inr (.inr (v0,v1,v2,false,v3,v4,v5,v6,v7,())))
def lY(a0:LDIn) (a1:List (Int)) (a2:List LI) (a3:List LDCn) (a4:LDTs):Option (Bool×Unit):=
((iG a0 a1 a2).bind fun(x0,_)=>
bif (x0 != 0) then (some (true,a0,a1,a2,a3,a4,())) else
let x1:=(dK (List.length a3));
let x2:=(dK (List.length a1));
bif (x1 != x2) then (some (true,a0,a1,a2,a3,a4,())) else
(jU a4).bind fun(x3,_)=>
some ((!x3),a0,a1,a2,a3,a4,()):Option (Bool×T0Z)).bind fun(x0,x1,x2,x3,x4,x5,_)=>
bif x0 then (some (false,())) else
let x6:=(dK (List.length x4));
(match dQ gT NN (x4,x6,0,x1,x2,x3,x4,x5,()) with
| none=>none
| some (.inl (x7,_))=>
some (x7,())
| some (.inr (x7,x8,x9,ac,ae,af,ag,ah,ai,_))=>
some (true,()))
noncomputable def Ck:X.Cfg:=⟨E0,[mu,re,gg],[],[⟨2,0,qE,[(.normal,(qS [(pP 2 6),(pP 3 8),(sP 24 .bool)] [(6,(uL [fb,RI,(.row false RW)])),(8,(uL [(.row false d8),(.row false mI)]))]))]⟩,⟨6,1,(qS [(pP 2 6),(sP 26 (.row false d8)),(sP 27 I64),(sP 28 I64)] [(6,(uL [fb,RI,(.row false RW)])),(8,(uL [(.row false d8),(.row false mI)]))]),[(.ret,(qS [(sP 4 .bool)] [])),(.exit 0,(qS [(pP 2 6),(sP 26 (.row false d8)),(sP 27 I64),(sP 28 I64),(sP 29 .bool)] [(6,(uL [fb,RI,(.row false RW)])),(8,(uL [(.row false d8),(.row false mI)]))]))]⟩]⟩
def ug:Ctr:=⟨60,114,[.agg (uL [fb,RI,(.row false RW)]),.agg (uL [(.row false d8),(.row false mI)])],[],[⟨(uL [.bool]),[.one],[]⟩],ap5 lY⟩
theorem BK:Lk 4 ug:=ls (C:=Ck) rfl (aC pj (aC yq (aC gR aN))) (by kernel_rfl) fun h=>by kernel_rfl
def gS:LDTs×Int×Int×LLCn×LDTs×LLCn×Unit→Option ((LDTs×Int×Int×LLCn×LDTs×LLCn×Unit)⊕(LDTs×Int×Int×Bool×LLCn×LDTs×LLCn×Unit)):=fun(v0,v1,v2,v3,v4,v5,_)=>
bif (decide (v2 < v1)) then ((dW v2).bind fun x0=>
(dH v0 x0).bind fun x1=>
let x2:List LDCn:=[x1.2.2.2.2.2.2.2];
bif (dV 24 (List.length v5) (List.length x2)) then let x3:List LDCn:=(List.append v5 x2);
let x4:=(w64 (v2+1));
some (.inl (v0,v1,x4,v3,v4,x3,())) else none) else
some (.inr (v0,v1,v2,false,v3,v4,v5,()))
def lX(a0:List LDCn) (a1:LDTs):Option (LLCn×Unit):=
bif (dV 24 0 (List.length a0)) then let x0:List LDCn:=(List.append [] a0);
let x1:=(dK (List.length a1));
(dQ gS NN (a1,x1,0,a0,a1,x0,())).bind fun(x2,x3,x4,x5,x6,x7,x8,_)=>
some (x8,()) else none
noncomputable def Cj:X.Cfg:=⟨E0,[],[(8,(.row true KCn)),(19,(.row true KCn)),(20,(.row true KCn))],[(lx 4 0 [(3,.pk ⟨9,0,[]⟩ [0,0]),(sP 10 (.row false mI)),(sP 11 I64),(sP 12 I64)] [(4,(uL [(.row false d8),(.row false mI)])),(9,(uL [(.row true d8)]))] 13)]⟩
def uf:Ctr:=⟨62,115,[.agg (uL [(.row false d8),(.row false mI)])],[],[⟨(uL [(.row true d8)]),[.one],[]⟩],ap2 lX⟩
theorem BJ:Lk 1 uf:=ls (C:=Cj) rfl aN (by kernel_rfl) fun h=>by kernel_rfl
def gv:T3b→Option (T3b⊕(T18⊕(Int×Int×LDCn×T32))):=fun(v0,v1,v2,v3,v4,v5,v6,v7,v8,v9,v10,v11,v12,v13,v14,v15,v16,v17,_)=>
bif (decide (v4 < v3)) then ((dW v4).bind fun x0=>
(dH v2 x0).bind fun x1=>
(gj v6 x1.1 x1.2.1 x1.2.2.1 x1.2.2.2).bind fun(x2,_)=>
bif (!x2) then (some (.inr (.inl (false,(),0,(),(),(),())))) else
let x3:=(w64 (v4+1));
some (.inl (v0,v1,v2,v3,x3,v5,v6,v7,v8,v9,v10,v11,v12,v13,v14,v15,v16,v17,()))) else
some (.inr (.inr (v0,v1,v2,v3,v4,false,v5,v6,v7,v8,v9,v10,v11,v12,v13,v14,v15,v16,v17,())))
def gu:T2Y→Option (T2Y⊕(T18⊕T32)):=fun(v0,v1,v2,v3,v4,v5,v6,v7,v8,v9,v10,v11,v12,v13,v14,_)=>
bif (decide (v1 < v0)) then ((dW v1).bind fun x0=>
(dH v14 x0).bind fun x1=>
(dH v14 x0).bind fun x2=>
let x3:=(dK (List.length x2));
(match dQ gv NN (v0,v1,x2,x3,0,v2,v3,v4,v5,v6,v7,v8,v9,v10,v11,v12,v13,v14,()) with
| none=>none
| some (.inl (x4,x5,x6,x7,x8,x9,_))=>
some (.inr (.inl (x4,x5,x6,x7,x8,x9,())))
| some (.inr (x4,x5,x6,x7,x8,x9,ac,ae,af,ag,ah,ai,aj,ak,am,an,ap,aq,av,_))=>
let ax:=(w64 (x5+1));
some (.inl (x4,ax,ac,ae,af,ag,ah,ai,aj,ak,am,an,ap,aq,av,())))) else
some (.inr (.inr (v0,v1,false,v2,v3,v4,v5,v6,v7,v8,v9,v10,v11,v12,v13,v14,())))
def og:T3q→Option (T3q⊕(Int×LLCn×Int×Int×LDCn×T3l)):=fun(v0,v1,v2,v3,v4,v5,v6,v7,v8,v9,v10,v11,v12,v13,v14,v15,v16,v17,v18,v19,v20,v21,v22,v23,_)=>
bif (decide (v6 < v5)) then ((dW v6).bind fun x0=>
(dH v4 x0).bind fun x1=>
(dW v0).bind fun x2=>
(dH v10 x2).bind fun x3=>
let x4:=(w64 (x3+v6));
(gi v10 v11 v8 x1.1 x1.2.1 x1.2.2.1 x1.2.2.2).bind fun(x5,x6,x7,_)=>
(dW x4).bind fun x8=>
(dH v21 x8).bind fun x9=>
(dH v21 x8).bind fun ac=>
let ae:=(List.modify v21 x8 fun e=>(x5,x6));
let af:=(w64 (v6+1));
some (.inl (v0,v1,v2,v3,v4,v5,af,v7,v8,v9,v10,v11,v12,v13,v14,v15,v16,v17,v18,v19,v20,ae,v22,v23,()))) else
some (.inr (v0,v1,v2,v3,v4,v5,v6,false,v7,v8,v9,v10,v11,v12,v13,v14,v15,v16,v17,v18,v19,v20,v21,v22,v23,()))
def of:T3n→Option (T3n⊕(LLCn×T3l)):=fun(v0,v1,v2,v3,v4,v5,v6,v7,v8,v9,v10,v11,v12,v13,v14,v15,v16,v17,v18,v19,_)=>
bif (decide (v2 < v1)) then ((dW v2).bind fun x0=>
(dH v0 x0).bind fun x1=>
let x2:=(dK (List.length x1));
(dQ og NN (v2,v0,v1,v2,x1,x2,0,v3,v4,v5,v6,v7,v8,v9,v10,v11,v12,v13,v14,v15,v16,v17,v18,v19,())).bind fun(x3,x4,x5,x6,x7,x8,x9,ac,ae,af,ag,ah,ai,aj,ak,am,an,ap,aq,av,ax,ay,az,aA,aB,_)=>
let aD:=(w64 (x6+1));
some (.inl (x4,x5,aD,ae,af,ag,ah,ai,aj,ak,am,an,ap,aq,av,ax,ay,az,aA,aB,()))) else
some (.inr (v0,v1,v2,false,v3,v4,v5,v6,v7,v8,v9,v10,v11,v12,v13,v14,v15,v16,v17,v18,v19,()))
def gt:T3Y→Option (T3Y⊕(LDTs×Int×Int×LDCn×Int×Int×Bool×T3C)):=fun(v0,v1,v2,v3,v4,v5,v6,v7,v8,v9,v10,v11,v12,v13,v14,v15,v16,v17,v18,v19,v20,v21,v22,v23,v24,v25,v26,v27,v28,v29,v30,v31,v32,v33,v34,v35,v36,v37,v38,_)=>
bif (decide (v5 < v4)) then ((dW v5).bind fun x0=>
(dH v3 x0).bind fun x1=>
(gi v9 v10 v7 x1.1 x1.2.1 x1.2.2.1 x1.2.2.2).bind fun(x2,x3,x4,_)=>
let x5:LDCe:=[(x2,x3)];
bif (dV 4 (List.length v32) (List.length x5)) then let x6:LDCe:=(List.append v32 x5);
let x7:=(w64 (v5+1));
some (.inl (v0,v1,v2,v3,v4,x7,v6,v7,v8,v9,v10,v11,v12,v13,v14,v15,v16,v17,v18,v19,v20,v21,v22,v23,v24,v25,v26,v27,v28,v29,v30,v31,x6,v33,v34,v35,v36,v37,v38,())) else none) else
some (.inr (v0,v1,v2,v3,v4,v5,false,v6,v7,v8,v9,v10,v11,v12,v13,v14,v15,v16,v17,v18,v19,v20,v21,v22,v23,v24,v25,v26,v27,v28,v29,v30,v31,v32,v33,v34,v35,v36,v37,v38,()))
def gr:T3m→Option (T3m⊕(LDTs×Int×Int×Bool×T39)):=fun(v0,v1,v2,v3,v4,v5,v6,v7,v8,v9,v10,v11,v12,v13,v14,v15,v16,v17,v18,v19,_)=>
bif (decide (v2 < v1)) then ((dW v2).bind fun x0=>
(dH v0 x0).bind fun x1=>
let x2:=(dK (List.length x1.2.2.2.2.2.2.2));
(dQ gt NN (v0,v1,v2,x1.2.2.2.2.2.2.2,x2,0,v3,v4,v5,v6,v7,v8,v9,v10,v11,v12,v13,v14,v15,v16,v17,v18,v19,x1.1,x1.2.1,x1.2.2.1,x1.2.2.2.1,x1.2.2.2.2.1,x1.2.2.2.2.2.1,x1.2.2.2.2.2.2.1,x1.2.2.2.2.2.2.2,x1.1,[],x1.2.1,x1.2.2.1,x1.2.2.2.1,x1.2.2.2.2.1,x1.2.2.2.2.2.1,x1.2.2.2.2.2.2.1,())).bind fun(x3,x4,x5,x6,x7,x8,x9,ac,ae,af,ag,ah,ai,aj,ak,am,an,ap,aq,av,ax,ay,az,aA,aB,aD,aE,aF,aG,aH,aI,aJ,aK,aL,aM,aO,aP,aQ,aR,aS,_)=>
let aT:LDTh:=[(aK,(aL,(aM,(aO,(aP,(aQ,(aR,aS)))))))];
bif (dV 80 (List.length aA) (List.length aT)) then let aU:LDTh:=(List.append aA aT);
let aV:=(w64 (x5+1));
some (.inl (x3,x4,aV,ac,ae,af,ag,ah,ai,aj,ak,am,an,ap,aq,av,ax,ay,az,aU,())) else none) else
some (.inr (v0,v1,v2,false,v3,v4,v5,v6,v7,v8,v9,v10,v11,v12,v13,v14,v15,v16,v17,v18,v19,()))
def kZ(a0:LDIn) (a1:List (Int)) (a2:List LI) (a3:List (Int)) (a4:Int) (a5:List LDCn) (a6:LDTs):Option (T1n):=
(lY a0 a1 a2 a5 a6).bind fun(x0,_)=>
bif (!x0) then (some ([],0,[],[],[],false,())) else
(gL a3 a4 a1).bind fun(x1,_)=>
bif (!x1) then (some ([],0,[],[],[],false,())) else
(lX a5 a6).bind fun(x2,_)=>
let x3:=(dK (List.length x2));
(match dQ gu NN (x3,0,a0,a1,a2,a3,a4,a5,a6,(),0,(),(),(),x2,()) with
| none=>none
| some (.inl (x4,x5,x6,x7,x8,x9,_))=>
some ([],x6,[],[],[],x4,())
| some (.inr (x4,x5,x6,x7,x8,x9,ac,ae,af,ag,ah,ai,aj,ak,am,an,_))=>
bif (dV 8 0 (List.length ac)) then let ap:List (Int):=(List.append [] ac);
bif (sQ 512 512 2) then let aq:LDCe:=(List.replicate 512 (0,0));
(j6).bind fun(av,_)=>
let ax:=(dK (List.length af));
(dQ of NN (af,ax,0,x7,x8,x9,ac,ae,af,ag,ah,ai,aj,ak,am,ap,ae,aq,av,(),())).bind fun(ay,az,aA,aB,aD,aE,aF,aG,aH,aI,aJ,aK,aL,aM,aO,aP,aQ,aR,aS,aT,aU,_)=>
let aV:=(dK (List.length aJ));
(dQ gr NN (aJ,aV,0,aD,aE,aF,aG,aH,aI,aJ,aK,aL,aM,aO,aP,aQ,aR,aS,aT,[],())).bind fun(aW,aY,aZ,ba,bc,bd,be,bf,bg,bh,bi,bj,bk,bl,bm,bn,bo,bp,bq,bt,bv,_)=>
some (bo,bp,bq,bt,bv,true,()) else none else none)
noncomputable def Ag:X.Cfg:=⟨E0,[ug,kv,uf,i4,mw,pH],[(150,OZ),(151,OZ)],[⟨12,0,(qS [(pP 3 8),(pP 4 10),(pP 5 12),(pP 6 14),(37,.pk ⟨77,0,[]⟩ [0,0]),(sP 38 I64),(sP 39 I64),(sP 43 d8),(sP 44 I64),(sP 45 I64)] [(8,(uL [fb,RI,(.row false RW)])),(10,(uL [RI,CW])),(12,(uL [(.row false d8),(.row false mI)])),(14,(uL [N1,CW,N1,N1,N1])),(77,(uL [(.row true d8)]))]),[(.ret,(qS [(pP 6 14),(sP 7 .bool)] [(14,(uL [N1,CW,N1,N1,N1]))])),(.exit 2,(qS [(pP 3 8),(pP 4 10),(pP 5 12),(pP 6 14),(37,.pk ⟨77,0,[]⟩ [0,0]),(sP 38 I64),(sP 39 I64),(sP 43 d8),(sP 44 I64),(sP 45 I64),(sP 46 .bool)] [(8,(uL [fb,RI,(.row false RW)])),(10,(uL [RI,CW])),(12,(uL [(.row false d8),(.row false mI)])),(14,(uL [N1,CW,N1,N1,N1])),(77,(uL [(.row true d8)]))]))]⟩,⟨6,1,(qS [(pP 3 8),(pP 4 10),(pP 5 12),(pP 6 14),(37,.pk ⟨77,0,[]⟩ [0,0]),(sP 38 I64),(sP 39 I64)] [(8,(uL [fb,RI,(.row false RW)])),(10,(uL [RI,CW])),(12,(uL [(.row false d8),(.row false mI)])),(14,(uL [N1,CW,N1,N1,N1])),(77,(uL [(.row true d8)]))]),[(.ret,(qS [(pP 6 14),(sP 7 .bool)] [(14,(uL [N1,CW,N1,N1,N1]))])),(.exit 0,(qS [(pP 3 8),(pP 4 10),(pP 5 12),(pP 6 14),(37,.pk ⟨77,0,[]⟩ [0,0]),(sP 38 I64),(sP 39 I64),(sP 40 .bool)] [(8,(uL [fb,RI,(.row false RW)])),(10,(uL [RI,CW])),(12,(uL [(.row false d8),(.row false mI)])),(14,(uL [N1,CW,N1,N1,N1])),(77,(uL [(.row true d8)]))]))]⟩,⟨28,2,(qS [(pP 3 8),(pP 4 10),(pP 5 12),(pP 6 14),(pP 12 26),(sP 13 I64),(sP 68 (.row false d8)),(sP 69 I64),(sP 70 I64),(sP 75 d8),(sP 76 I64),(sP 77 I64)] [(8,(uL [fb,RI,(.row false RW)])),(10,(uL [RI,CW])),(12,(uL [(.row false d8),(.row false mI)])),(14,(uL [N1,CW,N1,N1,N1])),(26,(uL [RI,CW,(.row true KCe),iP,N1]))]),[(.exit 6,(qS [(pP 3 8),(pP 4 10),(pP 5 12),(pP 6 14),(pP 12 26),(sP 13 I64),(sP 68 (.row false d8)),(sP 69 I64),(sP 70 I64),(sP 75 d8),(sP 76 I64),(sP 77 I64),(sP 78 .bool)] [(8,(uL [fb,RI,(.row false RW)])),(10,(uL [RI,CW])),(12,(uL [(.row false d8),(.row false mI)])),(14,(uL [N1,CW,N1,N1,N1])),(26,(uL [RI,CW,(.row true KCe),iP,N1]))]))]⟩,⟨22,3,(qS [(pP 3 8),(pP 4 10),(pP 5 12),(pP 6 14),(pP 12 26),(sP 68 (.row false d8)),(sP 69 I64),(sP 70 I64)] [(8,(uL [fb,RI,(.row false RW)])),(10,(uL [RI,CW])),(12,(uL [(.row false d8),(.row false mI)])),(14,(uL [N1,CW,N1,N1,N1])),(26,(uL [RI,CW,(.row true KCe),iP,N1]))]),[(.exit 4,(qS [(pP 3 8),(pP 4 10),(pP 5 12),(pP 6 14),(pP 12 26),(sP 68 (.row false d8)),(sP 69 I64),(sP 70 I64),(sP 71 .bool)] [(8,(uL [fb,RI,(.row false RW)])),(10,(uL [RI,CW])),(12,(uL [(.row false d8),(.row false mI)])),(14,(uL [N1,CW,N1,N1,N1])),(26,(uL [RI,CW,(.row true KCe),iP,N1]))]))]⟩,⟨43,4,(qS [(pP 3 8),(pP 4 10),(pP 6 14),(pP 12 26),(pP 19 40),(sP 104 (.row false mI)),(sP 105 I64),(sP 106 I64),(sP 126 d8),(sP 127 I64),(sP 128 I64)] [(8,(uL [fb,RI,(.row false RW)])),(10,(uL [RI,CW])),(12,(uL [(.row false d8),(.row false mI)])),(14,(uL [N1,CW,N1,N1,N1])),(26,(uL [RI,CW,(.row true KCe),iP,qi])),(38,(uL [I64,I64,I64,I64,I64,I64,CW,d8])),(40,(uL [I64,(.row true KCe),I64,I64,I64,I64,I64,CW]))]),[(.exit 10,(qS [(pP 3 8),(pP 4 10),(pP 6 14),(pP 12 26),(pP 19 40),(sP 104 (.row false mI)),(sP 105 I64),(sP 106 I64),(sP 126 d8),(sP 127 I64),(sP 128 I64),(sP 129 .bool)] [(8,(uL [fb,RI,(.row false RW)])),(10,(uL [RI,CW])),(12,(uL [(.row false d8),(.row false mI)])),(14,(uL [N1,CW,N1,N1,N1])),(26,(uL [RI,CW,(.row true KCe),iP,qi])),(38,(uL [I64,I64,I64,I64,I64,I64,CW,d8])),(40,(uL [I64,(.row true KCe),I64,I64,I64,I64,I64,CW]))]))]⟩,⟨35,5,(qS [(pP 3 8),(pP 4 10),(pP 6 14),(pP 12 26),(sP 104 (.row false mI)),(sP 105 I64),(sP 106 I64)] [(8,(uL [fb,RI,(.row false RW)])),(10,(uL [RI,CW])),(12,(uL [(.row false d8),(.row false mI)])),(14,(uL [N1,CW,N1,N1,N1])),(26,(uL [RI,CW,(.row true KCe),iP,qi]))]),[(.exit 8,(qS [(pP 3 8),(pP 4 10),(pP 6 14),(pP 12 26),(sP 104 (.row false mI)),(sP 105 I64),(sP 106 I64),(sP 107 .bool)] [(8,(uL [fb,RI,(.row false RW)])),(10,(uL [RI,CW])),(12,(uL [(.row false d8),(.row false mI)])),(14,(uL [N1,CW,N1,N1,N1])),(26,(uL [RI,CW,(.row true KCe),iP,qi]))]))]⟩]⟩
def sy:Ctr:=⟨29,116,[.agg (uL [fb,RI,(.row false RW)]),.agg (uL [RI,CW]),.agg (uL [(.row false d8),(.row false mI)])],[],[⟨(uL [RI,CW,(.row true KCe),iP,qi,.bool]),[.agg 5,.one],[]⟩],ap7 kZ⟩
theorem zR:Lk 5 sy:=ls (C:=Ag) rfl (aC BK (aC mo (aC BJ (aC lj (aC pm (aC sV aN)))))) (by kernel_rfl) fun h=>by kernel_rfl
end Go.Proofs.YtdcpgpngdcfhhaaGreat
