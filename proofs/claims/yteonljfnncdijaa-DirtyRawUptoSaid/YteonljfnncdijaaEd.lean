/- Part of the proof; no condition. -/
import Derived.Test.YteonljfnncdijaaEc
import Derived.Deep.Draws
import Derived.Sort.WalkB12
import Derived.Shelf.RegionOpenPlain
import Derived.Shelf.SlSortCmp.WholeK
import Derived.Shelf.SlSortCmp.NoneTotal
import Derived.Shelf.SlicesE.Clone
import Derived.Ground.SlgnProg
import Derived.Test.YteonljfnncdijaaProg
import Derived.Deep.DeepAppendRoom
import Derived.ArgAppend
import Derived.KernelRfl
import Derived.WalkKit
import Derived.WalkSpells
import Derived.Handy
import Derived.OpenShut
import Derived.Deep.Slices
set_option linter.unusedVariables false
set_option linter.unusedSimpArgs false
namespace Go.Proofs.Yteonljfnncdijaa
open Go.RowKit Go.Sort Go.Lib
structure cD (b:Nat) (w w':World):Prop where
 os:w'.os=w.os
 tape:w'.tape=w.tape
 output:w'.output=w.output
 size:w'.heap.size=w.heap.size
 block:∀k,k≠b->w'.heap[k]?=w.heap[k]?
theorem cD.set(b o:Nat) (w:World) (v:Value):cD b w (w.setCell ⟨b,o,none⟩ v):=⟨rfl,rfl,rfl,by simp,λk hk=>Below.heap_setCell w _ v k hk⟩
theorem cD.refl(b:Nat) (w:World):cD b w w:=⟨rfl,rfl,rfl,rfl,λ_ _=>rfl⟩
theorem cD.trans{b:Nat}{w w' X9:World}(h:cD b w w') (h':cD b w' X9):cD b w X9:=
 ⟨h'.os.trans h.os,h'.tape.trans h.tape,h'.output.trans h.output,h'.size.trans h.size,λk hk=>(h'.block k hk).trans (h.block k hk)⟩
theorem cD.setCells(b:Nat):∀(vs:List Value) (o:Nat) (w:World),cD b w (w.setCells b o vs)
 | [],_,_=>cD.refl _ _
 | v :: r,o,w=>(cD.set b o w v).trans (cD.setCells b r (o+1) _)
theorem cD.ahead(b:Nat) (w:World) (n:Nat):cD b w (Sort.ahead w n):=⟨rfl,rfl,rfl,rfl,λ_ _=>rfl⟩
theorem cD.drewN(b:Nat) (w:World) (n:Nat):cD b w (w.drewN n):=⟨rfl,rfl,rfl,rfl,λ_ _=>rfl⟩
theorem cD.putRow(b off:Nat) (w:World) (d:Array PID):cD b w (putRowK eF 2 w b off d):=by
 unfold putRowK Go.Sort.putRow mapBlock;exact⟨rfl,rfl,rfl,by simp,λk hk=>by simp[Array.getElem?_modify,Ne.symm hk]⟩
def g8(w:World) (b off:Nat) (l:List PID):Prop:=∀i (h:i < l.length),w.cell? ⟨b,off+i*2,none⟩=some (.int .i64 l[i].1)/\w.cell? ⟨b,off+i*2+1,none⟩=some (.int .i64 l[i].2)
theorem Cq(x y:PID) (w:World):Sem.run Try.prog (binOp .neq 30 (.agg #[.int .i64 x.1,.int .i64 x.2]) (.agg #[.int .i64 y.1,.int .i64 y.2])) w=.ok (.bool (!decide (x=y))) w:=by
 have h:=BB x y w;rw[run_eql_struct] at h;rw[run_neq_struct];revert h
 cases (Op.equalIn 10000 30 (.agg #[.int .i64 x.1,.int .i64 x.2]) (.agg #[.int .i64 y.1,.int .i64 y.2])).run Try.prog w with
 | ok b w'=>intro h;simp only[Result.andThen_ok] at h ⊢;injection h with h1 h2;injection h1 with h1;rw[h1,h2]
 | _=>intro h;simp[Result.andThen] at h
theorem yD(op:BinOp) (a b:Operand) (x y:PID) (w:World):Sem.run Try.prog (eqGuard op 30 a b (.agg #[.int .i64 x.1,.int .i64 x.2]) (.agg #[.int .i64 y.1,.int .i64 y.2])) w=.ok () w:=
 (GuardAt.agg (P:=Try.prog) (T:=30) (λx:PID=>#[.int .i64 x.1,.int .i64 x.2]) (by kernel_rfl)) op a b x y w
theorem eN(b:Nat):∀(vs:List Value) (o:Nat) {w:World}{j:Nat},j < o->(w.setCells b o vs).cell? ⟨b,j,none⟩=w.cell? ⟨b,j,none⟩
 | [],_,_,_,_=>rfl
 | v :: r,o,w,j,h=>by
  show ((w.setCell ⟨b,o,none⟩ v).setCells b (o+1) r).cell? _=_;rw[eN b r (o+1) (by omega)];refine World.cell?_setCell_other (h:=?_) ..
  intro e;injection e with _ e _;omega
theorem uK(w:World) (ty:TypeId) (b o n c:Nat) (hn:0 < n) (hc:∀j,j < n*2->(w.cell? ⟨b,o+j,none⟩).isSome=true/\w.frozen? ⟨b,o+j,none⟩=false) :
 (Builtin.clear_ #[24] ty #[.slice (some ⟨b,o,none⟩) n c]).run Try.prog w=.ok (.tuple #[]) (w.setCells b o (List.replicate (n*2) (.int .i64 0))):=by
 have Xr:(Builtin.zeroCells #[.int .i64 0,.int .i64 0] n).toList=List.replicate (n*2) (.int .i64 0):=by
  simp[Builtin.zeroCells];apply List.ext_getElem
  ·simp
  ·intro i h1 h2;simp only[List.getElem_map,List.getElem_replicate]
   rcases Nat.mod_two_eq_zero_or_one i with e | e<;>simp[e]
 have hst:=run_storeCells_cells (P:=Try.prog) b o (List.replicate (n*2) (.int .i64 0)) 0 w (λj hj=>by simpa using (hc j (by simpa using hj)).1) (λj hj=>by simpa using (hc j (by simpa using hj)).2) (by intro v Y2;rw[List.eq_of_mem_replicate Y2];rfl);simp only[Nat.add_zero] at hst;obtain⟨m,rfl⟩:∃m,n=m+1:=⟨n - 1,by omega⟩;have hv:∀w,(zeroValue 30).run Try.prog w=.ok (.agg #[.int .i64 0,.int .i64 0]) w:=Try.zeroValue30;simp[Builtin.clear_,run_underlying Try.underlying24,hv,Value.cells,Xr,hst]
def Bd(w w':World) (ZG off:Nat) (d:Array PID):Prop:=g8 w' ZG off (compactUpTo d d.size)/\cD ZG w w'
theorem qc{w:World}{ZG off:Nat}{d:Array PID}(h:HoldsK eF 2 w ZG off d) {l:List PID}(hl:l.length<=d.size) (he:∀i (h:i < l.length),l[i]=d[i]!):g8 w ZG off l:=λi hi=>by
 have:=cu h (i:=i) (by omega);rw[he i hi];exact⟨this.1,this.2.1⟩
set_option maxHeartbeats 8000000 in
set_option maxRecDepth 1000000 in
theorem rX(ZG off cap:Nat) (d:Array PID) (w:World) (hH:HoldsK eF 2 w ZG off d) (hcap:d.size<=cap) (hsz:d.size<=4611686018427387904) :
 Calls Try.prog 55 #[.slice (some ⟨ZG,off,none⟩) d.size cap] w λe w'=>e=.returned (.slice (some ⟨ZG,off,none⟩) (compactUpTo d d.size).length cap)/\Bd w w' ZG off d:=by
 have mixed:Try.prog.follows .mixedOrders=true:=by kernel_rfl
 have Qc:=λx y w=>BB x y w;have Qy:=λx y w=>Cq x y w;have Qh:=λop a b x y w=>yD op a b x y w
 have Xz:∀q,(∀j,j < d.size->keeps d j=true)->(compactUpTo d d.size).length=d.size/\Bd w (w.drewN q) ZG off d:=by
  intro q ZS
  have e:compactUpTo d d.size=d.toList:=by rw[compactUpTo_all d _ ZS,range_map_get]
  refine⟨by rw[e];simp,?_,cD.drewN _ _ _⟩;rw[e]
  exact qc (d:=d) (holdsK_ahead eF 2 w q ZG off d hH) (by simp) λi hi=>by simp at hi;simp[hi]
 have HS:Aside (∀q,(∀j,j < d.size->keeps d j=true)->(compactUpTo d d.size).length=d.size/\Bd w (w.drewN q) ZG off d):=Xz;clear Xz;by_cases h2:d.size < 2
 ·have HH:Aside (HoldsK eF 2 w ZG off d):=hH;clear hH
  go_enter Try.func55,Try.ntmps55
  go_wp2
  go_ret
  obtain⟨e1,e2⟩:=HS.out 0 (λj hj=>keeps_lt_one d j (by omega));exact⟨by rw[e1];rfl,e2⟩
 ·go_enter Try.func55,Try.ntmps55
  go_wp2
  go_loopg [3] d.size (λg s3 wr=>∃k q:Nat,1<=k/\k<=d.size/\d.size - k<=g/\s3=.int .i64 k/\wr=w.drewN q/\∀j,j < k->keeps d j=true)
  case atStart=>exact⟨1,0,Nat.le_refl _,by omega,by omega,rfl,rfl,keeps_lt_one d⟩
  case round=>
   obtain⟨k,q,YA,hk,hg,rfl,rfl,ZS⟩:=hrel;by_cases hlt:k < d.size
   ·obtain⟨c1,Rf,f1,PQ⟩:=cu hH hlt;obtain⟨c0,Re,f0,PP⟩:=cu hH (i:=k - 1) (by omega);have A:Aside (∀j,j < k->keeps d j=true):=ZS;have HH:Aside (HoldsK eF 2 w ZG off d):=hH;clear ZS hH;generalize hx:d[k]! = x at c1 Rf;generalize hy:d[k - 1]! = y at c0 Re;have B:Aside (d[k]! = x/\d[k - 1]! = y):=⟨hx,hy⟩;clear hx hy;by_cases hdup:x=y
    ·subst hdup
     go_wp2_with fail
     go_region_o
     go_wp2
     clear c0 c1 Re Rf f0 f1 PP PQ
     go_loopg [3,5] d.size (λg s3 s5 wr=>∃(kk k2 q2:Nat) (dk:Array PID),s3=.int .i64 kk/\s5=.int .i64 k2/\1<=k2/\k+k2<=d.size/\d.size - (k+k2)<=g/\wr=putRowK eF 2 (Sort.ahead w q2) ZG off dk/\CompInv d (k+k2) kk dk)
     case atStart=>exact⟨k,1,q+1,d,rfl,rfl,Nat.le_refl _,by omega,by omega,(putRowK_self eF 2 (Sort.ahead w (q+1)) ZG off d (holdsK_ahead eF 2 w (q+1) ZG off d HH.out)).symm,CompInv.start A.out (keeps_neg (by omega) (by rw[B.out.1,B.out.2]))⟩
     case round=>
      obtain⟨kk,k2,q2,dk,rfl,rfl,h1,YV,ZO,U3,hI⟩:=hrel;have hkk:=hI.lt;have hds:=hI.size
      have Vx:HoldsK eF 2 wr ZG off dk:=by rw[U3];exact holdsK_putRowK eF 2 _ ZG off d dk (holdsK_ahead eF 2 w q2 ZG off d HH.out) hds
      have W2:Aside (wr=putRowK eF 2 (Sort.ahead w q2) ZG off dk):=U3;have I2:Aside (CompInv d (k+k2) kk dk):=hI;clear U3;by_cases hlt2:k+k2 < d.size
      ·obtain⟨cm,Rg,_,_⟩:=cu Vx (i:=k+k2) (by omega);obtain⟨cp,Rh,_,_⟩:=cu Vx (i:=k+k2 - 1) (by omega);obtain⟨ck,PL,fk,Pp⟩:=cu Vx (i:=kk) (by omega);rw[hI.high (k+k2) (by omega),show off+(k+k2)*2=off+k*2+k2*2 by omega] at cm Rg;rw[hI.high (k+k2 - 1) (by omega),show off+(k+k2 - 1)*2=off+k*2+(k2 - 1)*2 by omega] at cp Rh;clear Vx hI;generalize hu:d[k+k2]! = u at cm Rg;generalize hv:d[k+k2 - 1]! = v at cp Rh;generalize dk[kk]! = old at ck PL;have C:Aside (d[k+k2]! = u/\d[k+k2 - 1]! = v):=⟨hu,hv⟩;clear hu hv;by_cases huv:u=v
       ·subst huv
        go_wp2_with fail
        go_region_o
        go_wp2
        go_roundg (d.size - (k+(k2+1)))
        case measure=>omega
        case rel=>exact⟨kk,k2+1,q2+1,dk,rfl,by go_num,by omega,by omega,Nat.le_refl _,by rw[W2.out];rfl,I2.out.skip (keeps_neg (by omega) (by rw[C.out.1,C.out.2]))⟩
       ·go_wp2_with fail
        go_region_o
        go_wp2
        go_roundg (d.size - (k+(k2+1)))
        case measure=>omega
        case rel=>exact⟨kk+1,k2+1,q2+1,dk.setIfInBounds kk u,by go_num,by go_num,by omega,by omega,Nat.le_refl _,Bv (by omega) W2.out u,by have:=I2.out.keep hlt2 (keeps_pos (by rw[C.out.1,C.out.2];exact huv));rwa [C.out.1] at this⟩
      ·have XZ:k+k2=d.size:=by omega
       have Zd:∀ty,(Builtin.clear_ #[24] ty #[.slice (some ⟨ZG,off+kk*2,none⟩) (d.size - kk) (cap - kk)]).run Try.prog wr=.ok (.tuple #[]) (wr.setCells ZG (off+kk*2) (List.replicate ((d.size - kk)*2) (.int .i64 0))):=λty=>uK wr ty ZG (off+kk*2) (d.size - kk) (cap - kk) (by omega) λj hj=>by
        have h:=cu Vx (i:=kk+j / 2) (by omega);rcases Nat.mod_two_eq_zero_or_one j with e | e
        ·rw[show off+kk*2+j=off+(kk+j / 2)*2 by omega];exact⟨by rw[h.1];rfl,h.2.2.1⟩
        ·rw[show off+kk*2+j=off+(kk+j / 2)*2+1 by omega];exact⟨by rw[h.2.1];rfl,h.2.2.2⟩
       have HK:=Lib.hid Vx;clear Vx hI
       go_wp2
       go_ret
       have hI:=I2.out;rw[XZ] at hI;have hl:=hI.len;refine⟨by rw[hl];rfl,λi hi=>?_,?_⟩
       ·rw[hl] at hi;have Ux:=hI.low i hi;obtain⟨g1,g2,_,_⟩:=cu HK.out (i:=i) (by omega)
        have e:(compactUpTo d d.size)[i]'(by rw[hl];exact hi)=dk[i]!:=by
         have:=oGS Ux;exact this.2
        rw[e];exact⟨by rw[eN _ _ _ (by omega)];exact g1,by rw[eN _ _ _ (by omega)];exact g2⟩
       ·rw[W2.out];exact ((cD.ahead _ _ _).trans (cD.putRow _ _ _ _)).trans (cD.setCells _ _ _ _)
    ·go_wp2_with fail
     go_region_o
     go_wp2
     go_roundg (d.size - (k+1))
     case measure=>omega
     case rel=>
      refine⟨k+1,q+1,by omega,by omega,Nat.le_refl _,by go_num,rfl,λj hj=>?_⟩;by_cases e:j=k
      ·subst e;exact keeps_pos (by rw[B.out.1,B.out.2];exact hdup)
      ·exact A.out j (by omega)
   ·have:k=d.size:=by omega
    subst this;have HH:Aside (HoldsK eF 2 w ZG off d):=hH;clear hH
    go_wp2
    go_ret
    obtain⟨e1,e2⟩:=HS.out q ZS;exact⟨by rw[e1];rfl,e2⟩
theorem gz(a b:PID):bx a b=true↔(a.1≠-1/\b.1=-1)\/((a.1=-1↔b.1=-1)/\(a.1 < b.1\/a.1=b.1/\a.2 < b.2)):=by
 unfold bx;by_cases h1:a.1=-1<;>by_cases h2:b.1=-1<;>simp[h1,h2,oBF]
theorem fX(a:PID):bx a a=false:=by
 rw[<- Bool.not_eq_true,gz];omega
theorem gQ{a b c:PID}(h1:bx a b=true) (h2:bx b c=true):bx a c=true:=by
 rw[gz] at *;omega
theorem mY{a b:PID}(h1:bx a b=false) (h2:bx b a=false):a=b:=by
 rw[<- Bool.not_eq_true,gz] at *
 have e1:a.1=b.1:=by omega
 have e2:a.2=b.2:=by omega
 exact Prod.ext e1 e2
theorem sg{a b:PID}(h1:bx a b=true):bx b a=false:=by
 rw[<- Bool.not_eq_true];intro h2;have:=gQ h1 h2;rw[fX] at this;cases this
theorem n7(a b:Int):(a < b/\pu a b=-1)\/(a=b/\pu a b=0)\/(b < a/\pu a b=1):=by
 unfold pu;by_cases h:a < b
 ·exact .inl ⟨h,oIP h⟩
 ·rw[oIN h];by_cases h2:b < a
  ·exact .inr (.inr ⟨h2,oIP h2⟩)
  ·exact .inr (.inl ⟨by omega,oIN h2⟩)
theorem mo(a:Int):(a=-1/\jD a=1)\/(a≠-1/\jD a=0):=by
 unfold jD;by_cases h:a=-1
 ·exact .inl ⟨h,oIP h⟩
 ·exact .inr ⟨h,oIN h⟩
theorem lE(x y:PID):ltOf xM x y=bx x y:=by
 rw[Bool.eq_iff_iff,gz];unfold ltOf xM;rw[decide_eq_true_iff]
 rcases mo x.1 with ⟨h1,e1⟩ | ⟨h1,e1⟩<;>rcases mo y.1 with ⟨h2,e2⟩ | ⟨h2,e2⟩<;>rw[e1,e2]<;>rcases n7 x.1 y.1 with ⟨h3,e3⟩ | ⟨h3,e3⟩ | ⟨h3,e3⟩<;>rw[e3] <;>
  rcases n7 x.2 y.2 with ⟨h4,e4⟩ | ⟨h4,e4⟩ | ⟨h4,e4⟩<;>rw[e4]<;>simp only[orI,pu]<;>simp<;>omega
theorem zX:SWO (ltOf xM) where
 irrefl x:=by rw[lE];exact fX x
 trans x y z h1 h2:=by rw[lE] at *;exact gQ h1 h2
 ntrans x y z h1 h2:=by
  rw[lE] at *;rw[<- Bool.not_eq_true,gz] at *;omega
abbrev Asc(l:List PID):Prop:=l.Pairwise λa b=>bx a b=true
theorem od:∀{a b:List PID},Asc a->Asc b->(∀x,x∈a↔x∈b)->a=b
 | [],[],_,_,_=>rfl
 | [],y :: b,_,_,h=>by have:=(h y).2 (by simp);simp at this
 | x :: a,[],_,_,h=>by have:=(h x).1 (by simp);simp at this
 | x :: a,y :: b,ha,hb,h=>by
  have Vy:=List.pairwise_cons.1 ha;have Y3:=List.pairwise_cons.1 hb
  have e:x=y:=by
   have h1:=(h x).1 (by simp);have h2:=(h y).2 (by simp);rcases List.mem_cons.1 h1 with e | h1
   ·exact e
   ·rcases List.mem_cons.1 h2 with e | h2
    ·exact e.symm
    ·have g1:=Y3.1 x h1;have g2:=Vy.1 y h2;rw[sg g1] at g2;cases g2
  subst e;rw[od Vy.2 Y3.2 λz=>?_];constructor
  ·intro hz;rcases List.mem_cons.1 ((h z).1 (by simp[hz])) with e | h1
   ·subst e;have:=Vy.1 z hz;rw[fX] at this;cases this
   ·exact h1
  ·intro hz;rcases List.mem_cons.1 ((h z).2 (by simp[hz])) with e | h1
   ·subst e;have:=Y3.1 z hz;rw[fX] at this;cases this
   ·exact h1
theorem rz(x z:PID):∀{l:List PID},z∈gA l x↔z=x\/z∈l
 | []=>by simp[gA]
 | y :: r=>by
  unfold gA;split
  ·rw[List.mem_cons,rz x z,List.mem_cons];constructor
   ·rintro (h | h | h)<;>simp[h]
   ·rintro (h | h | h)<;>simp[h]
  ·split
   ·rename_i e;subst e;simp
   ·simp
theorem wS(x:PID):∀{l:List PID},Asc l->Asc (gA l x)
 | [],_=>by simp[gA]
 | y :: r,h=>by
  have h':=List.pairwise_cons.1 h;unfold gA;split
  ·rename_i hy;refine List.pairwise_cons.2 ⟨λz hz=>?_,wS x h'.2⟩;rcases (rz x z).1 hz with rfl | hz
   ·exact hy
   ·exact h'.1 z hz
  ·rename_i hy;split
   ·exact h
   ·rename_i hne
    have Vn:bx x y=true:=by
     rw[<- Bool.not_eq_false];intro e;exact hne (mY (by simpa using hy) e)
    refine List.pairwise_cons.2 ⟨λz hz=>?_,h⟩;rcases List.mem_cons.1 hz with rfl | hz
    ·exact Vn
    ·exact gQ Vn (h'.1 z hz)
theorem qm(l:List PID):∀{a:List PID},Asc a->Asc (l.foldl gA a)/\∀z,z∈l.foldl gA a↔z∈l\/z∈a:=by
 induction l with
 | nil=>intro a h;exact⟨h,λz=>by simp⟩
 | cons x l ih=>
  intro a h;obtain⟨h1,h2⟩:=ih (wS x h);refine⟨h1,λz=>?_⟩;rw[List.foldl_cons,h2,rz,List.mem_cons];constructor
  ·rintro (h | h | h)<;>simp[h]
  ·rintro ((h | h) | h)<;>simp[h]
theorem vg(l:List PID):Asc (fH l):=(qm l (a:=[]) List.Pairwise.nil).1
theorem vf(l:List PID) (z:PID):z∈fH l↔z∈l:=by
 rw[fH,(qm l (a:=[]) List.Pairwise.nil).2];simp
theorem xV{l m:List PID}(h:Asc m) (hm:∀z,z∈m↔z∈l):fH l=m:=od (vg l) h λz=>(vf l z).trans (hm z).symm
theorem ny(d:Array PID) (hs:∀i,i+1 < d.size->bx d[i+1]! d[i]! = false):∀m,m<=d.size ->
 Asc (compactUpTo d m)/\(∀z,z∈compactUpTo d m↔∃i,i < m/\z=d[i]!)/\(0 < m->∀z∈compactUpTo d m,z=d[m - 1]!\/bx z d[m - 1]! = true):=by
 intro m
 induction m with
 | zero=>intro _;refine⟨by simp[compactUpTo],λz=>by simp[compactUpTo],λh=>by omega⟩
 | succ m ih=>
  intro hm;obtain⟨h1,h2,h3⟩:=ih (by omega);rw[compactUpTo_succ];by_cases h0:m=0
  ·subst h0;have:keeps d 0=true:=keeps_lt_one d 0 (by omega);rw[this];refine⟨by simp[compactUpTo],λz=>?_,λ_ z hz=>?_⟩
   ·simp only[compactUpTo,List.range_zero,List.filter_nil,List.map_nil,if_true,List.nil_append,List.mem_singleton];constructor
    ·intro e;exact⟨0,by omega,e⟩
    ·rintro⟨i,hi,e⟩;rw[e];congr 1;omega
   ·simp[compactUpTo] at hz;exact .inl hz
  ·have Vv:=h3 (by omega);have RU:=hs (m - 1) (by omega);rw[show m - 1+1=m by omega] at RU;by_cases e:d[m]! = d[m - 1]!
   ·rw[keeps_neg (by omega) e];simp only[Bool.false_eq_true,if_false,List.append_nil];refine⟨h1,λz=>?_,λ_ z hz=>?_⟩
    ·rw[h2];constructor
     ·rintro⟨i,hi,hz⟩;exact⟨i,by omega,hz⟩
     ·rintro⟨i,hi,hz⟩;by_cases hi2:i=m
      ·subst hi2;exact⟨i - 1,by omega,by rw[hz,e]⟩
      ·exact⟨i,by omega,hz⟩
    ·rw[Nat.add_sub_cancel,e];exact Vv z hz
   ·rw[keeps_pos e];simp only[if_true]
    have hlt:bx d[m - 1]! d[m]! = true:=by
     rw[<- Bool.not_eq_false];intro g;exact e (mY RU g)
    have ZS:∀z∈compactUpTo d m,bx z d[m]! = true:=λz hz=>by
     rcases Vv z hz with g | g
     ·rw[g];exact hlt
     ·exact gQ g hlt
    refine⟨List.pairwise_append.2 ⟨h1,by simp,λa ha b hb=>?_⟩,λz=>?_,λ_ z hz=>?_⟩
    ·rw[List.mem_singleton.1 hb];exact ZS a ha
    ·rw[List.mem_append,h2,List.mem_singleton];constructor
     ·rintro (⟨i,hi,hz⟩ | hz)
      ·exact⟨i,by omega,hz⟩
      ·exact⟨m,by omega,hz⟩
     ·rintro⟨i,hi,hz⟩;by_cases hi2:i=m
      ·subst hi2;exact .inr hz
      ·exact .inl ⟨i,by omega,hz⟩
    ·rw[Nat.add_sub_cancel];rcases List.mem_append.1 hz with hz | hz
     ·exact .inr (ZS z hz)
     ·exact .inl (List.mem_singleton.1 hz)
theorem pj{l:List PID}{d:Array PID}(hp:∀z,z∈d.toList↔z∈l) (hs:∀i,i+1 < d.size->bx d[i+1]! d[i]! = false):compactUpTo d d.size=fH l:=by
 obtain⟨h1,h2,_⟩:=ny d hs d.size (Nat.le_refl _);refine (xV h1 λz=>?_).symm;rw[h2,<- hp];constructor
 ·rintro⟨i,hi,e⟩;rw[e];simp[hi]
 ·intro hz;obtain⟨i,hi,e⟩:=List.getElem_of_mem hz
  have ZW:i < d.size:=by simpa using hi
  exact⟨i,ZW,by rw[<- e];simp[ZW]⟩
end Go.Proofs.Yteonljfnncdijaa
namespace Go.Proofs.Yteonljfnncdijaa
open Go.Shelf
def q7:Go.Shelf.Ren:=⟨λ| 6=>54 | 15=>67 | 14=>66 | 28=>85 | 29=>86 | 20=>77 | 21=>78 | 22=>79 | 23=>80 | 24=>81 | 25=>82 | 26=>83 | 27=>84 | 46=>89 | 47=>90 | 48=>91 | 49=>92 | 50=>93 | 57=>94 | n=>n,λ| 22=>24 | 24=>30 | 25=>68 | 3=>3 | 39=>98 | 0=>0 | 53=>114 | 55=>116 | 4=>4 | 46=>107 | 45=>106 | 50=>111 | 5=>5 | 9=>9 | 66=>119 | 70=>123 | 76=>125 | 77=>126 | n=>n,λ| n=>n⟩
theorem ve:Go.Proofs.SlLaysF0.n6 Try.prog q7:={
 mixed:=by kernel_rfl
 f6:=⟨Try.f54.name,by decide,Try.func54.trans (congrArg some (by kernel_rfl))⟩
 f14:=⟨Try.f66.name,by decide,Try.func66.trans (congrArg some (by kernel_rfl))⟩
 f15:=Try.func67.trans (congrArg some (by kernel_rfl))
 f20:=⟨Try.f77.name,by decide,Try.func77.trans (congrArg some (by kernel_rfl))⟩
 f21:=⟨Try.f78.name,by decide,Try.func78.trans (congrArg some (by kernel_rfl))⟩
 f22:=⟨Try.f79.name,by decide,Try.func79.trans (congrArg some (by kernel_rfl))⟩
 f23:=⟨Try.f80.name,by decide,Try.func80.trans (congrArg some (by kernel_rfl))⟩
 f24:=⟨Try.f81.name,by decide,Try.func81.trans (congrArg some (by kernel_rfl))⟩
 f25:=⟨Try.f82.name,by decide,Try.func82.trans (congrArg some (by kernel_rfl))⟩
 f26:=⟨Try.f83.name,by decide,Try.func83.trans (congrArg some (by kernel_rfl))⟩
 f27:=⟨Try.f84.name,by decide,Try.func84.trans (congrArg some (by kernel_rfl))⟩
 f28:=Try.func85.trans (congrArg some (by kernel_rfl))
 f29:=Try.func86.trans (congrArg some (by kernel_rfl))
 f46:=⟨Try.f89.name,by decide,Try.func89.trans (congrArg some (by kernel_rfl))⟩
 f47:=Try.func90.trans (congrArg some (by kernel_rfl))
 f48:=Try.func91.trans (congrArg some (by kernel_rfl))
 f49:=⟨Try.f92.name,by decide,Try.func92.trans (congrArg some (by kernel_rfl))⟩
 f50:=⟨Try.f93.name,by decide,Try.func93.trans (congrArg some (by kernel_rfl))⟩
 f57:=⟨Try.f94.name,by decide,Try.func94.trans (congrArg some (by kernel_rfl))⟩
 t0:=Try.underlying0
 a0:=Try.isAgg0
 z0:=Try.sizeOf0
 v0:=Try.zeroValue0
 t3:=Try.underlying3
 a3:=Try.isAgg3
 z3:=Try.sizeOf3
 v3:=Try.zeroValue3
 t4:=Try.underlying4
 a4:=Try.isAgg4
 z4:=Try.sizeOf4
 v4:=Try.zeroValue4
 t5:=Try.underlying5
 a5:=Try.isAgg5
 z5:=Try.sizeOf5
 v5:=Try.zeroValue5
 t9:=Try.underlying9
 a9:=Try.isAgg9
 z9:=Try.sizeOf9
 v9:=Try.zeroValue9
 t22:=Try.underlying24
 a22:=Try.isAgg24
 z22:=Try.sizeOf24
 v22:=Try.zeroValue24
 t25:=Try.underlying68
 a25:=Try.isAgg68
 z25:=Try.sizeOf68
 v25:=Try.zeroValue68
 t39:=Try.underlying98
 a39:=Try.isAgg98
 z39:=Try.sizeOf98
 v39:=Try.zeroValue98
 t45:=Try.underlying106
 a45:=Try.isAgg106
 z45:=Try.sizeOf106
 v45:=Try.zeroValue106
 t46:=Try.underlying107
 a46:=Try.isAgg107
 z46:=Try.sizeOf107
 v46:=Try.zeroValue107
 t50:=Try.underlying111
 a50:=Try.isAgg111
 z50:=Try.sizeOf111
 v50:=Try.zeroValue111
 t53:=Try.underlying114
 a53:=Try.isAgg114
 z53:=Try.sizeOf114
 v53:=Try.zeroValue114
 t55:=Try.underlying116
 a55:=Try.isAgg116
 z55:=Try.sizeOf116
 v55:=Try.zeroValue116
 t66:=Try.underlying119
 a66:=Try.isAgg119
 z66:=Try.sizeOf119
 v66:=Try.zeroValue119
 t70:=Try.underlying123
 a70:=Try.isAgg123
 z70:=Try.sizeOf123
 v70:=Try.zeroValue123
 t76:=Try.underlying125
 a76:=Try.isAgg125
 z76:=Try.sizeOf125
 v76:=Try.zeroValue125
 t77:=Try.underlying126
 a77:=Try.isAgg126
 z77:=Try.sizeOf126
 v77:=Try.zeroValue126 }
def qD:Go.Shelf.Ren:=⟨λ| 41=>35 | n=>n,λ| 22=>24 | 23=>30 | 4=>4 | n=>n,λ| n=>n⟩
theorem tA:Go.Proofs.SlLaysE0.n41 Try.prog qD:={
 mixed:=by kernel_rfl
 f41:=⟨Try.f35.name,by decide,Try.func35.trans (congrArg some (by kernel_rfl))⟩
 t4:=Try.underlying4
 a4:=Try.isAgg4
 z4:=Try.sizeOf4
 v4:=Try.zeroValue4
 t22:=Try.underlying24
 a22:=Try.isAgg24
 z22:=Try.sizeOf24
 v22:=Try.zeroValue24 }
end Go.Proofs.Yteonljfnncdijaa
namespace Go.Proofs.Yteonljfnncdijaa
open Go.RowKit Go.Sort Go.Lib
theorem qA(p:Option Addr) (cap:Nat) (w:World):Calls Try.prog 55 #[.slice p 0 cap] w λe w'=>e=.returned (.slice p 0 cap)/\w'=w:=by
 go_enter Try.func55,Try.ntmps55
 go_wp2
 go_ret
 exact⟨rfl,rfl⟩
theorem vc(p:Option Addr) (cap:Nat) (fv:Value) (w:World):Calls Try.prog 54 #[.slice p 0 cap,fv] w λe w'=>e=.returned (.tuple #[])/\w'=w:=
 AnyF.slices_SortFunc_none ve p cap fv w
theorem xU(ZG cap:Nat) (d:Array PID) (w:World) (hH:HoldsK eF 2 w ZG 0 d) (Wo:ZG < w.heap.size) (hsz:d.size < 4611686018427387904) :
 Calls Try.prog 54 #[.slice (some ⟨ZG,0,none⟩) d.size cap,.func (.func 33) #[] #[]] w λe w'=>
  e=.returned (.tuple #[])/\∃d' n os,PermIn 0 d.size d d'/\SortedIn (ltOf xM) 0 d.size d'/\w'=sortWorldK eF 2 w ZG 0 n d' os:=by
 have eg:∀args w,(callFunc 33 args).run Try.prog w=.ok (.enter 33 args) w:=ix Try.func33 (by kernel_rfl) rfl;have SO:CmpLays Try.prog 33 #[] eF 2 xM ZG 0 d.size w:=λ_ _ _ _ x y=>wB x y _;exact AnyQ.slices_SortFunc ve 2 Try.isAgg30 Try.sizeOf30 eF (λ_=>rfl) (λx v hv=>by simp[eF] at hv;rcases hv with rfl | rfl<;>rfl) xM zX 33 #[] ZG 0 cap d w eg SO hH Wo hsz
theorem lA:∃i z,Try.prog.info? 30=some i/\i.zero=some z/\i.size=2/\i.bytes=16/\z.cells.size=2:=by
 have h:(match Try.prog.info? 30 with | some i=>(match i.zero with | some z=>decide (i.size=2) && decide (i.bytes=16) && decide (z.cells.size=2) | none=>false) | none=>false)=true:=by kernel_rfl
 revert h
 cases Try.prog.info? 30 with
 | none=>intro h;cases h
 | some i=>
  intro h;simp only at h
  cases hz:i.zero with
  | none=>rw[hz] at h;cases h
  | some z=>
   rw[hz] at h;simp only[oBA,oDE] at h;exact⟨i,z,rfl,hz,h.1.1,h.1.2,h.2⟩
def eL(l:List PID):List Value:=l.flatMap eF
theorem mC(l:List PID):(eL l).length=l.length*2:=by
 induction l with
 | nil=>rfl
 | cons x l ih=>simp[eL,eF] at ih ⊢;omega
theorem mD:∀(l:List PID) (i:Nat) (h:i < l.length),(eL l)[i*2]?=some (.int .i64 l[i].1)/\(eL l)[i*2+1]?=some (.int .i64 l[i].2)
 | x :: l,0,_=>⟨rfl,rfl⟩
 | x :: l,i+1,h=>by
  have:=mD l i (by simpa using h);have e:eL (x :: l)=.int .i64 x.1 :: .int .i64 x.2 :: eL l:=rfl;rw[e,show (i+1)*2=i*2+1+1 by omega];simpa using this
theorem qr(l:List PID):∀u∈eL l,u.oneCell'=true:=by
 intro u hu;simp[eL,eF] at hu;obtain⟨_,_,_,h | h⟩:=hu<;>rw[h]<;>rfl
theorem mE{w:World}{b o:Nat}{l:List PID}(h:g8 w b o l):∀j u,(eL l)[j]?=some u->w.cell? ⟨b,o+j,none⟩=some u:=by
 intro j u hu
 have hj:j < l.length*2:=by rw[<- mC];exact (oGS hu).1
 have hi:j / 2 < l.length:=by omega
 have g:=mD l (j / 2) hi;have hc:=h (j / 2) hi;rcases Nat.mod_two_eq_zero_or_one j with e | e
 ·rw[show j=j / 2*2 by omega] at hu ⊢;rw[g.1] at hu
  injection hu with hu
  rw[<- hu];exact hc.1
 ·rw[show j=j / 2*2+1 by omega] at hu ⊢;rw[g.2] at hu
  injection hu with hu
  rw[<- hu,<- Nat.add_assoc];exact hc.2
theorem nV{w:World}{g cap:Nat}{cur:Array Value}{e:TypeId}{l:List PID}(hg:w.heap[g]?=some (.cells cur e (0,0))) (hcur:cur.size=cap*2) (hl:l.length<=cap) (ht:cur.toList.take (l.length*2)=eL l):HoldsK eF 2 w g 0 l.toArray:=by
 intro j hj;rw[size_flatK] at hj
 have ZZ:j < l.length*2:=by simpa using hj
 rw[Nat.zero_add,get_flatK _ _ _ _ hj,cell_of_row w g j cur e (0,0) hg]
 have hi:j / 2 < l.length:=by omega
 have e1:(eL l)[j]?=cur.toList[j]?:=by rw[<- ht,List.getElem?_take_of_lt ZZ]
 have e2:cur[j]?=cur.toList[j]?:=by simp
 have gg:=mD l (j / 2) hi
 have e3:l.toArray[j / 2]! = l[j / 2]:=by simp[hi]
 refine⟨?_,?_⟩
 ·rw[e2,<- e1,e3];rcases Nat.mod_two_eq_zero_or_one j with e | e
  ·rw[e];have:=gg.1;rw[show j / 2*2=j by omega] at this;exact this
  ·rw[e];have:=gg.2;rw[show j / 2*2+1=j by omega] at this;exact this
 ·simp[World.frozen?,hg]
theorem uI(ad:Addr) (cap:Nat) (w:World):Calls Try.prog 35 #[.slice (some ad) 0 cap] w λe w'=>Below w.heap.size w w'/\∃p,e=.returned (.slice p 0 0):=by
 obtain⟨i,z,hi,_⟩:=lA;have q:∀(w:World) (a:Option Addr) (n c n' c':Nat),(binOp .eql 24 (.slice a n c) (.slice none n' c')).run Try.prog w=.ok (.bool a.isNone) w:=λw a n c n' c'=>Lib.run_eql_slice_nil w _ _ a n c n' c' Try.underlying24;have hz:∀(w:World) (ty:TypeId) (s:Option Addr),(Builtin.append_ #[24,24] ty #[.slice s 0 0,.slice (some ad) 0 cap]).run Try.prog w=.ok (.slice s 0 0) w:=λw ty s=>dO w 24 ty 30 i Try.underlying24 hi s 0 0 (Nat.le_refl _) (some ad) cap;clear hi
 go_enter Try.func35,Try.ntmps35
 go_wp2
 go_ret
 exact⟨Below.alloc (Below.refl _ _) (Nat.le_refl _) _,_,rfl⟩
theorem xk(l:List PID) (a:Option Addr) (cap:Nat) (w:World) (ha:l≠[]->∃b o,a=some ⟨b,o,none⟩/\g8 w b o l) (hl:l.length<=1099511627776) :
 Calls Try.prog 35 #[.slice a l.length cap] w λe w'=>Below w.heap.size w w'/\((l=[]/\∃p,e=.returned (.slice p 0 0)) \/
  ∃g c,e=.returned (.slice (some ⟨g,0,none⟩) l.length c)/\w.heap.size<=g/\g < w'.heap.size/\l.length<=c/\c<=maxLen/\HoldsK eF 2 w' g 0 l.toArray):=by
 obtain⟨i,z,hi,hz,hsz,XG,YF⟩:=lA
 have ZY:∀b o,a=some ⟨b,o,none⟩->(∀j u,(eL l)[j]?=some u->w.cell? ⟨b,o+j,none⟩=some u)->Calls Try.prog 35 #[.slice a l.length cap] w λe w'=>Below w.heap.size w w'/\((l=[]/\∃p,e=.returned (.slice p 0 0)) \/
  ∃g c,e=.returned (.slice (some ⟨g,0,none⟩) l.length c)/\w.heap.size<=g/\g < w'.heap.size/\l.length<=c/\c<=maxLen/\HoldsK eF 2 w' g 0 l.toArray):=by
  rintro b o rfl hc;have h:=AnyE.slices_Clone tA i z 2 16 hi hz hsz XG YF (by omega) Try.sizeOf30 b o l.length cap (eL l) w (mC l) (by unfold maxLen;omega) (by omega) hc (qr l);refine h.mono λe w' ⟨v',he,hown,_,hb⟩=>⟨hb,?_⟩;rcases hown.2 with ⟨rfl,hn⟩ | ⟨g,c,cur,rfl,hg,Vf,hcap,hmax,hcur,Y'⟩
  ·exact .inl ⟨oEN hn,none,he⟩
  ·exact .inr ⟨g,c,he,hg,(Array.getElem?_eq_some_iff.1 Vf).1,hcap,hmax,nV Vf hcur hcap Y'⟩
 by_cases hn:l=[]
 ·subst hn
  cases a with
  | none=>exact (AnyE.slices_Clone_nil tA 0 cap w).mono λe w' ⟨he,hw⟩=>by subst hw;exact⟨Below.refl _ _,.inl ⟨rfl,none,he⟩⟩
  | some ad=>exact (uI ad cap w).mono λe w' ⟨hb,h⟩=>⟨hb,.inl ⟨rfl,h⟩⟩
 ·obtain⟨b,o,e,hh⟩:=ha hn;exact ZY b o e (mE hh)
theorem mW{w w' X9:World}{g:Nat}(hb:Below w.heap.size w w') (hg:w.heap.size<=g) (h:cD g w' X9):Below w.heap.size w X9:=
 ⟨h.os.trans hb.os,h.tape.trans hb.tape,h.output.trans hb.output,by rw[h.size];exact hb.size,λk hk=>(h.block k (by omega)).trans (hb.block k hk)⟩
theorem uR{w w':World}{g n:Nat}{d:Array PID}{os:Array Obj}(hb:Below w.heap.size w w') (hg:w.heap.size<=g):Below w.heap.size w (sortWorldK eF 2 w' g 0 n d os):=by
 have h1:cD g w' (putRowK eF 2 (Sort.ahead w' n) g 0 d):=(cD.ahead g w' n).trans (cD.putRow g 0 _ d);have h2:=mW hb hg h1;have e:sortWorldK eF 2 w' g 0 n d os=grow (putRowK eF 2 (Sort.ahead w' n) g 0 d) os:=rfl;rw[e];refine⟨h2.os,h2.tape,h2.output,Nat.le_trans h2.size (by simp[grow]),λk hk=>?_⟩;rw[<- h2.block k hk];show (_++os)[k]?=_;exact Array.getElem?_append_left (Nat.lt_of_lt_of_le hk h2.size)
theorem ur{w':World}{g n:Nat}{d d':Array PID}{os:Array Obj}(h:HoldsK eF 2 w' g 0 d) (hg:g < w'.heap.size) (hs:d'.size=d.size):HoldsK eF 2 (sortWorldK eF 2 w' g 0 n d' os) g 0 d':=by
 have e:sortWorldK eF 2 w' g 0 n d' os=grow (putRowK eF 2 (Sort.ahead w' n) g 0 d') os:=rfl;rw[e];exact holdsK_grow eF 2 _ os g 0 d' (by unfold putRowK;simpa using hg) (holdsK_putRowK eF 2 _ g 0 d d' (holdsK_ahead eF 2 w' n g 0 d h) hs)
theorem rA(x:PID):∀l:List PID,(gA l x).length<=l.length+1
 | []=>by simp[gA]
 | y :: r=>by
  unfold gA;split
  ·have:=rA x r;simp;omega
  ·split<;>simp
theorem lV(l:List PID):(fH l).length<=l.length:=by
 have ZY:∀(l a:List PID),(l.foldl gA a).length<=a.length+l.length:=by
  intro l
  induction l with
  | nil=>intro a;simp
  | cons x l ih=>
   intro a;have h1:=ih (gA a x);have h2:=rA x a;simp only[List.foldl_cons,oLC];omega
 have:=ZY l [];simpa [fH] using this
def B7(w w':World) (e:Ending) (m:List PID):Prop:=Below w.heap.size w w'/\((m=[]/\∃p,e=.returned (.slice p 0 0))\/∃g c,e=.returned (.slice (some ⟨g,0,none⟩) m.length c)/\w.heap.size<=g/\m.length<=c/\c<=maxLen/\g8 w' g 0 m)
set_option maxHeartbeats 2000000 in
theorem tQ(l:List PID) (a:Option Addr) (cap:Nat) (w:World) (ha:l≠[]->∃b o,a=some ⟨b,o,none⟩/\g8 w b o l) (hl:l.length<=1099511627776) :
 Calls Try.prog 32 #[.func (.func 33) #[] #[],.slice a l.length cap] w λe w'=>B7 w w' e (fH l):=by
 have WZ:=xk l a cap w ha hl
 have WW:(l.length:Nat) < 4611686018427387904:=by omega
 clear ha
 go_enter Try.func32,Try.ntmps32
 go_wp2_with fail
 refine WZ.mono ?_;rintro e w1 ⟨ZP,⟨rfl,p,rfl⟩ | ⟨g,c,rfl,hg,ZK,hc,hmax,hK⟩⟩
 ·go_wp2_with fail
  refine (vc p 0 _ w1).mono ?_;rintro e w2 ⟨rfl,rfl⟩
  go_wp2_with fail
  refine (qA p 0 w2).mono ?_;rintro e w3 ⟨rfl,rfl⟩
  go_wp2
  go_ret
  exact⟨ZP,.inl ⟨rfl,p,rfl⟩⟩
 ·have HB:=Lib.hid ZP;have HK:=Lib.hid hK;clear ZP hK WZ
  go_wp2_with fail
  have hs:=xU g c l.toArray w1 HK.out ZK (by simpa using WW);refine hs.mono ?_;rintro e w2 ⟨rfl,d',n,os,hp,RT,rfl⟩
  have hsz:d'.size=l.length:=by simpa using hp.1
  have Rp:=ur (os:=os) (n:=n) HK.out ZK hp.1
  have Zz:∀z,z∈d'.toList↔z∈l:=λz=>by
   have:=hp.2.2.mem_iff (a:=z);simpa [Array.extract_eq_self_of_le,hsz] using this
  have Y9:∀i,i+1 < d'.size->bx d'[i+1]! d'[i]! = false:=λi hi=>by
   rw[<- lE];exact RT i (i+1) (by omega) (by omega) (by rw[List.size_toArray];omega)
  have HC:=Lib.hid (rX g 0 c d' (sortWorldK eF 2 w1 g 0 n d' os) Rp (by omega) (by omega));have PH:=Lib.hid (uR (n:=n) (d:=d') (os:=os) HB.out hg);have HE:=Lib.hid (pj Zz Y9);have HL:=Lib.hid hsz;clear Rp Zz Y9 hp RT hs hsz
  go_wp2_with fail
  have hcc:=HC.out;rw[HL.out] at hcc;refine hcc.mono ?_;rintro e w3 ⟨rfl,TS,PX⟩
  go_wp2
  go_ret
  have e:compactUpTo d' l.length=fH l:=by rw[<- HL.out];exact HE.out
  have hlen:=lV l;exact⟨mW PH.out hg PX,.inr ⟨g,c,by rw[e];rfl,hg,by omega,hmax,by rw[<- HE.out];exact TS⟩⟩
theorem oq:fZ Try.prog 32:=ix Try.func32 (by kernel_rfl) rfl
theorem qb{w:World}{F:Nat->Prop}{l:List PID}{x:Value}(h:eZ w F (.sl (l.map kD)) x):∃a cap,x=.slice a l.length cap/\(l≠[]->∃b o,a=some ⟨b,o,none⟩/\g8 w b o l):=by
 cases h with
 | @sl _ a cap sz u hsz hcap hmax hnil hcell hrec=>
  refine⟨a,cap,by simp,λhn=>?_⟩;have Z3:0 < l.length:=List.length_pos_iff.2 hn
  have hz:sz=2:=by
   have:=hsz 0 (by simpa using Z3);rw[<- this];simp[kD]
  subst hz;obtain⟨b,o,e,_,_⟩:=hcell 0 0 (by simpa using Z3) (by omega);refine⟨b,o,e,λi hi=>?_⟩
  have ZW:i < (l.map kD).length:=by simpa using hi
  have cell:∀j (hj:j < 2),w.cell? ⟨b,o+(i*2+j),none⟩=some (u i j):=λj hj=>by
   obtain⟨b',o',e',_,hc⟩:=hcell i j ZW hj;rw[e] at e'
   injection e' with e'
   injection e' with e1 e2
   subst e1;subst e2;exact hc
  have g0:=hrec i 0 ZW (by simp[kD]);have g1:=hrec i 1 ZW (by simp[kD]);have c0:=cell 0 (by omega);have c1:=cell 1 (by omega);revert g0 g1 c0 c1;generalize u i 0=u0;generalize u i 1=u1;intro g0 g1 c0 c1;simp only[List.getElem_map,kD,List.getElem_cons_zero,List.getElem_cons_succ] at g0 g1;cases g0;cases g1;exact⟨by rw[<- c0];congr 2,by rw[<- c1];congr 2⟩
theorem wb{w:World}{F:Nat->Prop}{l:List PID}{g c:Nat}(h:g8 w g 0 l) (hl:l.length<=c) (hm:c<=maxLen) (hF:F g):eZ w F (.sl (l.map kD)) (.slice (some ⟨g,0,none⟩) l.length c):=by
 have ZY:=eZ.sl (w:=w) (F:=F) (c:=l.map kD) (a:=some ⟨g,0,none⟩) (cap:=c) 2 (λi j=>if j=0 then .int .i64 (l.getD i (0,0)).1 else .int .i64 (l.getD i (0,0)).2) (λi hi=>by simp[kD]) (by simpa using hl) hm (λe=>by simp at e) (λi j hi hj=>?_) (λi j hi hj=>?_)
 ·rw[List.length_map] at ZY;exact ZY
 ·have ZW:i < l.length:=by simpa using hi
  have hh:=h i ZW;refine⟨g,0,rfl,hF,?_⟩
  have e:l.getD i (0,0)=l[i]:=by simp[ZW]
  rw[e];rcases Nat.lt_or_ge 0 j with h0 | h0
  ·have:j=1:=by omega
   subst this;rw[oIN (by omega),<- hh.2,Nat.add_assoc]
  ·have:j=0:=by omega
   subst this;rw[oIP rfl,<- hh.1];congr 2
 ·have ZW:i < l.length:=by simpa using hi
  have e:l.getD i (0,0)=l[i]:=by simp[ZW]
  simp only[List.getElem_map,kD,oLC,List.length_nil] at hj ⊢;rw[e];rcases Nat.lt_or_ge 0 j with h0 | h0
  ·have:j=1:=by omega
   subst this;exact .v rfl
  ·have:j=0:=by omega
   subst this;exact .v rfl
theorem sR{w w':World}{e:Ending}{m:List PID}{F:Nat->Prop}(h:B7 w w' e m):∃x,e=.returned x/\Below w.heap.size w w'/\eZ w' (λk=>F k\/w.heap.size<=k) (.sl (m.map kD)) x:=by
 obtain⟨hb,⟨rfl,p,he⟩ | ⟨g,c,he,hg,hl,hm,hh⟩⟩:=h
 ·exact⟨_,he,hb,.sl (c:=[]) 2 (λ_ _=>undef) (λi h=>by simp at h) (Nat.le_refl _) (Nat.zero_le _) (λ_=>rfl) (λi j h=>by simp at h) (λi j h=>by simp at h)⟩
 ·exact⟨_,he,hb,wb hh hl hm (.inr hg)⟩
theorem tP(l:List PID) (hl:l.length<=1099511627776):Bf Try.prog 32 [.fn 33 [],.sl (l.map kD)] ((fH l).map kD):=by
 intro avs w F hal ha
 match avs,hal with
 | [x,y],_=>
  have h0:=ha 0 (by simp) (by simp);have h1:=ha 1 (by simp) (by simp);simp only[List.getElem_cons_zero,List.getElem_cons_succ] at h0 h1;cases h0
  cases h1 with
  | im h1=>
   obtain⟨a,cap,rfl,hh⟩:=qb h1;exact (tQ l a cap w hh hl).mono λe w' h=>sR h
theorem mb{P:Program}{w:World}(t it ty e:TypeId) (i:TypeInfo) (z:Value) (ht:P.underlying t=some (.slice e)) (hit:P.underlying it=some (.int .i64)) (hi:P.info? e=some i) (hz:i.zero=some z) (Z3:0 < i.size)
 (n:Nat) (h0:0 < n) (Su:n<=1099511627776) (Pt:n*i.bytes<=140737488355328) :
 (Builtin.append_ #[t,it] ty #[.slice none 0 0,.int .i64 n]).run P w =
  .ok (.slice (some ⟨w.heap.size,0,none⟩) n (grownCap w n 0 e)) (w.drew.alloc (.cells (Builtin.zeroCells z.cells n++Builtin.zeroCells z.cells (grownCap w n 0 e - n)) e)):=by
 have hn:n≠0:=by omega
 have Sw:¬ (9223372036854775807 < (n:Int)):=by omega
 have hw:IntKind.i64.wrap (n:Int)=(n:Int):=sk (by omega) (by omega)
 have Th:¬ ((n:Int) < 0):=by omega
 have SF:¬ ((281474976710656:Int) < (n:Int)*(i.bytes:Int)):=by
  have e:(n:Int)*(i.bytes:Int)=((n*i.bytes:Nat):Int):=by simp
  rw[e];omega
 have Sv:¬ (281474976710656 < Builtin.nextslicecap n 0*i.bytes):=by rw[nextslicecap_zero h0];omega
 have hm:n*i.size≠0:=by have:=Nat.mul_pos h0 Z3;omega
 have hsz:i.size≠0:=by omega
 simp[Builtin.append_,run_underlying ht,run_underlying hit,asInt,asIntOf,sizeOf,typeInfo,zeroValue,hi,hz,Builtin.lenOf,hn,Sw,Sv,Question.forced,run_firstCells_none,newRow,grownCap,asInt,hw,Th,SF,hm,hsz]
theorem gf{P:Program}{ops:Array Oper}{rest:List Oper}{o:Oper}{a:Act}{Q:Exit->Act->World->Prop}{w:World}{t it:TypeId}(Xk:o.guard=none) (s x:Operand) (ho:o.op=.call { callee:=.builtin .append,args:=#[s,x],argTypes:=#[t,it] })
 {vs vx v':Value} {w':World} (hs:a.eval s=vs) (hx:a.eval x=vx) (hrun:(Builtin.append_ #[t,it] o.type #[vs,vx]).run P w=.ok v' w') (h:wpList P ops Q rest (a.put o.dst v') w'):wpList P ops Q (o :: rest) a w:=by
 refine wpList_plain Xk λK hK=>?_;unfold Oper.wp;simp[execOp,ho,resolve,invoke,builtin,hs,hx,hrun,Result.andThen];exact hK _ _ h
theorem uS{B:Nat}{a w:World}(h:Below B a w):Below B a w.drew:=⟨h.os,h.tape,h.output,h.size,h.block⟩
theorem yR(n:Nat) (w:World) (hn:n<=1099511627776):Calls Try.prog 59 #[.slice none 0 0,.int .i64 n] w λe w'=>Below w.heap.size w w'/\∃v,e=.returned v/\w'.ownsRow w.heap.size 30 2 v 0 []:=by
 obtain⟨i,z,hi,hz,hsz,XG,YF⟩:=lA;by_cases h0:n=0
 ·subst h0;clear hi hz hsz XG YF
  go_enter Try.func59,Try.ntmps59
  go_wp2
  go_ret
  exact⟨Below.refl _ _,_,rfl,rfl,.inl ⟨rfl,rfl⟩⟩
 ·have hz0:∀(w:World) (ty:TypeId),(Builtin.append_ #[24,3] ty #[.slice none 0 0,.int .i64 n]).run Try.prog w=.ok (.slice (some ⟨w.heap.size,0,none⟩) n (grownCap w n 0 30)) (w.drew.alloc (.cells (Builtin.zeroCells z.cells n++Builtin.zeroCells z.cells (grownCap w n 0 30 - n)) 30)):=λw ty=>
   mb 24 3 ty 30 i z Try.underlying24 Try.underlying3 hi hz (by omega) n (by omega) hn (by rw[XG];omega)
  have hge:n<=grownCap w n 0 30:=grownCap_ge w n 0 _;have YV:grownCap w n 0 30<=maxLen:=grownCap_le_maxLen w n 0 _ (by unfold maxLen;omega);obtain⟨zc,Xr⟩:∃zc,zc=z.cells:=⟨_,rfl⟩;rw[<- Xr] at hz0 YF;have HZ:=Lib.hid YF;clear Xr hi hz hsz XG YF
  go_enter Try.func59,Try.ntmps59
  go_wp2_with (at_builtin;refine gf rfl _ _ rfl rfl rfl (hz0 _ _) ?_)
  go_ret
  have Wr:(Builtin.zeroCells zc n++Builtin.zeroCells zc (grownCap w n 0 30 - n)).size=grownCap w n 0 30*2:=by
   rw[Array.size_append,size_zeroCells,size_zeroCells,HZ.out,<- Nat.add_mul];congr 1;omega
  refine⟨uS (Below.alloc (Below.refl _ _) (Nat.le_refl _) _),_,rfl,rfl,.inr ⟨w.heap.size,_,_,rfl,Nat.le_refl _,heap_alloc_new w _,Nat.zero_le _,YV,Wr,by simp⟩⟩
theorem nc{P:Program}{w:World}{t e:TypeId}(i:TypeInfo) (z:Value) (size bytes:Nat) (hu:P.underlying t=some (.slice e)) (hi:P.info? e=some i) (hz:i.zero=some z) (YB:i.size=size) (XG:i.bytes=bytes) (YF:z.cells.size=size) (Z3:0 < size)
 (ty:TypeId) (base:Nat) (v:Value) (n:Nat) (xs:List Value) (hown:w.ownsRow base e size v n xs)
 (ad:Addr) (m c:Nat) (news:List Value) (hl:news.length=m*size) (YW:∀(j:Nat) u,news[j]?=some u->w.cell? (ad.add j)=some u) (h1:∀u∈news,u.oneCell'=true)
 (Rm:n+m<=maxLen) (WU:(n+m)*bytes<=140737488355328) (Yw:base<=w.heap.size) :
 ∃v' w',(Builtin.append_ #[t,t] ty #[v,.slice (some ad) m c]).run P w=.ok v' w'/\w'.ownsRow base e size v' (n+m) (xs++news)/\w.grownBy w' v.ownBlock:=by
 rcases hown.2 with ⟨rfl,hn⟩ | ⟨g,cap,cur,rfl,hb,Vf,hcap,hmax,hsz,Y'⟩
 ·subst hn;have hx:xs=[]:=oEN (by simpa using hown.1);subst hx;obtain⟨v',w',hr,ZC,hg,_⟩:=run_append_own (P:=P) w w.heap.size t ty e i z size bytes hu hi hz YB XG YF Z3 (.slice none 0 0) 0 [] ⟨by simp,.inl ⟨rfl,rfl⟩⟩ ad m c news hl YW h1 Rm WU (Nat.le_refl _);refine⟨v',w',hr,⟨ZC.1,?_⟩,hg⟩;rcases ZC.2 with h | ⟨g,cap,cur,e1,e2,e3⟩
  ·exact .inl h
  ·exact .inr ⟨g,cap,cur,e1,Nat.le_trans Yw e2,e3⟩
 ·rcases Nat.lt_or_ge cap (n+m) with hlt | hge
  ·have hc:=@World.ownsRow.cells w base e size _ n xs hown;obtain⟨v',w',hr,ZC,hg⟩:=run_append_arg_grows (P:=P) w t ty e i z size bytes hu hi hz YB XG YF Z3 ⟨g,0,none⟩ n cap xs hown.1 (hc rfl) ad m c news hl YW hlt Rm WU;refine⟨v',w',hr,⟨ZC.1,?_⟩,⟨hg.os,hg.tape,hg.output,hg.size,λk hk _=>hg.block k hk (by simp)⟩⟩;rcases ZC.2 with h | ⟨g,cap,cur,e1,e2,e3⟩
   ·exact .inl h
   ·exact .inr ⟨g,cap,cur,e1,Nat.le_trans Yw e2,e3⟩
  ·obtain⟨w',hr,ZC,hg⟩:=run_append_own_spare (P:=P) w base t ty e i size hu hi YB g n cap xs hown ad m c news hl YW h1 hge;exact⟨_,w',hr,ZC,hg⟩
theorem Ay{w:World}(ty:TypeId) (base:Nat) (v:Value) (xs l:List PID) (hown:w.ownsRow base 30 2 v xs.length (eL xs)) (Yw:base<=w.heap.size) (a:Option Addr) (cap:Nat) (ha:l≠[]->∃b o,a=some ⟨b,o,none⟩/\g8 w b o l) (hlen:xs.length+l.length<=1099511627776) :
 ∃v' w',(Builtin.append_ #[24,24] ty #[v,.slice a l.length cap]).run Try.prog w=.ok v' w'/\w'.ownsRow base 30 2 v' (xs++l).length (eL (xs++l))/\w.heap.size<=w'.heap.size/\w'.os=w.os/\w'.tape=w.tape/\w'.output=w.output/\∀k,k < base->w'.heap[k]?=w.heap[k]?:=by
 obtain⟨i,z,hi,hz,hsz,XG,YF⟩:=lA
 have e:eL (xs++l)=eL xs++eL l:=by simp[eL]
 by_cases hl:l=[]
 ·subst hl;rcases hown.2 with ⟨rfl,hn⟩ | ⟨g,c,cur,rfl,hb,Vf,hcap,hmax,Xw,Y'⟩
  ·rw[hn] at hown;refine⟨_,w,dO w _ ty 30 i Try.underlying24 hi none 0 0 (Nat.le_refl _) a cap,by rw[List.append_nil,hn];exact hown,Nat.le_refl _,rfl,rfl,rfl,λ_ _=>rfl⟩
  ·exact⟨_,w,dO w _ ty 30 i Try.underlying24 hi _ _ c hcap a cap,by rw[List.append_nil];exact hown,Nat.le_refl _,rfl,rfl,rfl,λ_ _=>rfl⟩
 ·obtain⟨b,o,rfl,hh⟩:=ha hl;obtain⟨v',w',hr,ZC,hg⟩:=nc i z 2 16 Try.underlying24 hi hz hsz XG YF (by omega) ty base v xs.length (eL xs) hown ⟨b,o,none⟩ l.length cap (eL l) (mC l) (λj u hu=>by rw[bS];exact mE hh j u hu) (qr l) (by unfold maxLen;omega) (by omega) Yw;refine⟨v',w',hr,by rw[List.length_append,e];exact ZC,hg.size,hg.os,hg.tape,hg.output,λk hk=>hg.block k (by omega) λe2=>?_⟩;rcases hown.2 with ⟨rfl,_⟩ | ⟨g,c,cur,rfl,hb,_⟩
  ·simp[Value.ownBlock] at e2
  ·simp only[Value.ownBlock,oSJ] at e2;omega
def Bb(w:World) (b o:Nat) (ls:List (List PID)):Prop:=∀i (h:i < ls.length),∃ai ci,w.cell? ⟨b,o+i,none⟩=some (.slice ai ls[i].length ci)/\(ls[i]≠[]->∃b' o',ai=some ⟨b',o',none⟩/\g8 w b' o' ls[i])
theorem qp{ls:List (List PID)}{i:Nat}(h:i < ls.length):(ls.take (i+1)).flatten=(ls.take i).flatten++ls[i]:=by
 rw[<- List.take_append_getElem h,List.flatten_append];simp only[List.flatten_cons,List.flatten_nil,List.append_nil]
theorem rM{ls:List (List PID)}(i:Nat):(ls.take i).flatten.length<=ls.flatten.length:=by
 have:ls.flatten=(ls.take i).flatten++(ls.drop i).flatten:=by rw[<- List.flatten_append,List.take_append_drop]
 rw[this,List.length_append];omega
theorem sd{w w':World}(h:Below w.heap.size w w') {b o:Nat}{l:List PID}(hh:g8 w b o l):g8 w' b o l:=λi hi=>by
 obtain⟨h1,h2⟩:=hh i hi;have hb:=sc h1;exact⟨by rw[World.cell?_of_block (h.block b hb)];exact h1,by rw[World.cell?_of_block (h.block b hb)];exact h2⟩
theorem qH{B q:Nat}{w w1:World}(h:Below B (w.drewN q) w1):Below B w w1:=⟨h.os,h.tape,h.output,h.size,h.block⟩
set_option maxHeartbeats 4000000 in
theorem uG(ls:List (List PID)) (b o cap:Nat) (w:World) (hr:Bb w b o ls) (hlen:ls.flatten.length<=1099511627776) (hm:ls.length<=1099511627776) :
 Calls Try.prog 34 #[.slice (some ⟨b,o,none⟩) ls.length cap] w λe w'=>Below w.heap.size w w'/\∃v,e=.returned v/\w'.ownsRow w.heap.size 30 2 v ls.flatten.length (eL ls.flatten):=by
 have mixed:Try.prog.follows .mixedOrders=true:=by kernel_rfl
 have HR:Aside (Bb w b o ls):=hr;clear hr
 go_enter Try.func34,Try.ntmps34
 go_wp2
 go_loopg [3,11] ls.length (λg s3 Q3 wr=>∃i q:Nat,i<=ls.length/\ls.length - i<=g/\s3=.int .i64 ((ls.take i).flatten.length:Nat)/\Q3=.int .i64 i/\wr=w.drewN q)
 case atStart=>exact⟨0,0,by omega,by omega,rfl,rfl,rfl⟩
 case round=>
  obtain⟨i,q,hi,hg,rfl,rfl,rfl⟩:=hrel;have YV:=rM (ls:=ls) i;by_cases hlt:i < ls.length
  ·obtain⟨ai,ci,hc,_⟩:=HR.out i hlt;have WA:=rM (ls:=ls) (i+1)
   have V5:(ls.take (i+1)).flatten.length=(ls.take i).flatten.length+ls[i].length:=by rw[qp hlt,List.length_append]
   generalize hk:ls[i].length=k at hc V5;generalize hn:(ls.take i).flatten.length=n at YV V5;have HF:Aside ((ls.take (i+1)).flatten.length=n+k/\(ls.take (i+1)).flatten.length<=ls.flatten.length):=⟨V5,WA⟩
   have Px:n+k<=1099511627776:=by omega
   clear V5 WA hk hn YV
   go_wp2
   go_roundg (ls.length - (i+1))
   case measure=>omega
   case rel=>exact⟨i+1,q,by omega,Nat.le_refl _,by rw[HF.out.1];go_num,by go_num,rfl⟩
  ·have XL:i=ls.length:=by omega
   subst XL;rw[List.take_length] at YV ⊢;generalize hn:ls.flatten.length=n at YV hlen ⊢;have HN:Aside (ls.flatten.length=n):=hn;clear hn YV
   go_wp2_with fail
   refine (yR n _ hlen).mono ?_;rintro e w1 ⟨ZP,v,rfl,hown⟩;have HB:Aside (Below w.heap.size w w1/\w1.ownsRow w.heap.size 30 2 v 0 []):=⟨qH ZP,hown⟩;clear ZP hown
   go_wp2
   go_loopg [6,27] ls.length (λg s6 Q6 wr=>∃j:Nat,j<=ls.length/\ls.length - j<=g/\Q6=.int .i64 j/\Below w.heap.size w wr/\wr.ownsRow w.heap.size 30 2 s6 (ls.take j).flatten.length (eL (ls.take j).flatten))
   case atStart=>exact⟨0,by omega,by omega,rfl,HB.out.1,HB.out.2⟩
   case round=>
    obtain⟨j,hj,ZO,rfl,Z0,hown⟩:=hrel;by_cases hlt2:j < ls.length
    ·obtain⟨ai,ci,hc,Yq⟩:=HR.out j hlt2
     have Zm:wr.cell? ⟨b,o+j,none⟩=some (.slice ai ls[j].length ci):=by rw[World.cell?_of_block (Z0.block b (sc hc))];exact hc
     have WA:=rM (ls:=ls) (j+1);have V5:=qp hlt2
     have hsz:(ls.take j).flatten.length+ls[j].length<=1099511627776:=by
      have:(ls.take (j+1)).flatten.length=(ls.take j).flatten.length+ls[j].length:=by rw[V5,List.length_append]
      have:=HN.out;omega
     obtain⟨v',w',hrun,ZC,YB,RN,Wf,WE,Wo⟩:=Ay (w:=wr) 24 w.heap.size _ (ls.take j).flatten ls[j] hown Z0.size ai ci (λhne=>by
      obtain⟨b',o',e1,e2⟩:=Yq hne
      exact⟨b',o',e1,sd Z0 e2⟩) hsz
     rw[<- V5] at ZC;have HO:Aside (w'.ownsRow w.heap.size 30 2 v' (ls.take (j+1)).flatten.length (eL (ls.take (j+1)).flatten)/\Below w.heap.size w w'):=⟨ZC,⟨RN.trans Z0.os,Wf.trans Z0.tape,WE.trans Z0.output,Nat.le_trans Z0.size YB,λk hk=>(Wo k hk).trans (Z0.block k hk)⟩⟩;generalize ls[j].length=m at Zm hrun;clear ZC RN Wf WE Wo YB Yq hown Z0 hc V5 hsz WA
     go_wp2_with (at_builtin;refine gf rfl _ _ rfl rfl rfl hrun ?_)
     go_roundg (ls.length - (j+1))
     case measure=>omega
     case rel=>exact⟨j+1,by omega,Nat.le_refl _,by go_num,HO.out.2,HO.out.1⟩
    ·have hjl:j=ls.length:=by omega
     subst hjl;rw[List.take_length] at hown;have HO:Aside (Below w.heap.size w wr/\wr.ownsRow w.heap.size 30 2 u6 ls.flatten.length (eL ls.flatten)):=⟨Z0,hown⟩;clear Z0 hown
     go_wp2
     go_ret
     exact⟨HO.out.1,_,rfl,HO.out.2⟩
theorem rW(a:Option Addr) (cap:Nat) (w:World):Calls Try.prog 34 #[.slice a 0 cap] w λe w'=>Below w.heap.size w w'/\e=.returned (.slice none 0 0):=by
 have mixed:Try.prog.follows .mixedOrders=true:=by kernel_rfl
 go_enter Try.func34,Try.ntmps34
 go_wp2
 refine wp_loop_rounds 1 ?_;rw[rounds_succ]
 go_wp2
 refine wp_loop_rounds 1 ?_;rw[rounds_succ]
 go_wp2
 go_ret
 exact⟨Below.refl _ _,rfl⟩
theorem pi:fZ Try.prog 34:=ix Try.func34 (by kernel_rfl) rfl
theorem uF(ls:List (List PID)) (hl:ls.flatten.length<=1099511627776) (hm:ls.length<=1099511627776):Bf Try.prog 34 [.sl (ls.map λx=>[TV.sl (x.map kD)])] (ls.flatten.map kD):=by
 intro avs w F hal ha
 match avs,hal with
 | [x],_=>
  have h0:=ha 0 (by simp) (by simp);simp only[List.getElem_cons_zero] at h0
  cases h0 with
  | im h0=>
   cases h0 with
   | @sl _ a cap sz u hsz hcap hmax hnil hcell hrec=>
    have Uw:(ls.map λx=>[TV.sl (x.map kD)]).length=ls.length:=by simp
    rw[Uw] at hcap ⊢;by_cases hn:ls=[]
    ·subst hn;exact (rW a cap w).mono λe w' ⟨hb,he⟩=>⟨_,he,hb,.sl (c:=[]) 2 (λ_ _=>undef) (λi h=>by simp at h) (Nat.le_refl _) (Nat.zero_le _) (λ_=>rfl) (λi j h=>by simp at h) (λi j h=>by simp at h)⟩
    ·have Z3:0 < ls.length:=List.length_pos_iff.2 hn
     have hz:sz=1:=by
      have:=hsz 0 (by simpa using Z3);rw[<- this];simp
     subst hz;obtain⟨b,o,e,_,_⟩:=hcell 0 0 (by simpa using Z3) (by omega);subst e
     have UR:Bb w b o ls:=λi hi=>by
      obtain⟨b',o',e',_,hc⟩:=hcell i 0 (by simpa using hi) (by omega)
      injection e' with e'
      injection e' with e1 e2
      subst e1;subst e2;have hr:=hrec i 0 (by simpa using hi) (by simp);simp only[List.getElem_map,List.getElem_cons_zero] at hr;obtain⟨ai,ci,hu,hh⟩:=qb hr;exact⟨ai,ci,by rw[<- hu,<- hc];congr 2;omega,hh⟩
     refine (uG ls b o cap w UR hl hm).mono λe w' ⟨hb,v,he,hown⟩=>?_;refine sR ⟨hb,?_⟩;rcases hown.2 with ⟨rfl,h0⟩ | ⟨g,c,cur,rfl,hg,Vf,XH,W6,hcur,Y'⟩
     ·exact .inl ⟨oEN h0,none,he⟩
     ·have hK:=nV Vf hcur XH Y';exact .inr ⟨g,c,he,hg,XH,W6,qc hK (by simp) λi hi=>by rw[getElem!_pos _ i (by simpa using hi)];simp⟩
end Go.Proofs.Yteonljfnncdijaa
namespace Go.Proofs.Yteonljfnncdijaa
end Go.Proofs.Yteonljfnncdijaa
namespace Go.Proofs.Yteonljfnncdijaa
open Go.RowKit
def Bj:FuncId->List TV->Option (List (List TV)):=λf vals=>
 if f=32 then (match vals with
  | [.fn g [],.sl c]=>if g=33 then (zJ c).bind λl=>if l.length<=1099511627776 then some ((fH l).map kD) else none else none
  | _=>none)
 else if f=34 then (match vals with
  | [.sl c]=>(rS c).bind λl=>if l.flatten.length<=1099511627776/\l.length<=1099511627776 then some (l.flatten.map kD) else none
  | _=>none)
 else none
def libB:bT:=zG Bj
theorem libB_ok:dS Try.prog libB:=BJ λf vals c h=>by
 unfold Bj at h;split at h
 ·rename_i e;subst e;split at h
  ·split at h
   ·rename_i g c0 e;subst e;obtain⟨l,h1,h2⟩:=Option.bind_eq_some_iff.1 h;split at h2
    ·rename_i hl
     injection h2 with h2
     subst h2;rw[rR h1];exact⟨oq,tP l hl⟩
    ·cases h2
   ·cases h
  ·cases h
 ·split at h
  ·rename_i e;subst e;split at h
   ·obtain⟨l,h1,h2⟩:=Option.bind_eq_some_iff.1 h;split at h2
    ·rename_i hl
     injection h2 with h2
     subst h2;rw[tz h1];exact⟨pi,uF l hl.1 hl.2⟩
    ·cases h2
   ·cases h
  ·cases h
def bR(a0:List PID):Option (List PID×Unit):=if a0.length<=1099511627776 then some (fH a0,()) else none
def cj(a0:List (List PID)):Option (List PID×Unit):=if a0.flatten.length<=1099511627776/\a0.length<=1099511627776 then some (a0.flatten,()) else none
theorem gI{id:Nat}:iZ libB ⟨32,id,[.fn 33 [],shU (.row false (.pair (.int .i64) (.int .i64)))],[],[⟨[shU (.row false (.pair (.int .i64) (.int .i64)))],[.one],[]⟩],λh=>bR h.1⟩:=by
 rintro⟨l,h⟩ o x ho hx;have ho:(if List.length l<=1099511627776 then some (fH l,()) else none)=some o:=ho;split at ho
 case isFalse=>cases ho
 rename_i hl
 injection ho with ho
 subst ho;cases hx;show zG Bj 32 [.fn 33 [],.sl (l.map kD)] []=some (⟨[.sl ((fH l).map kD)],[.one]⟩,[]);simp[zG,Bj,qa,pc,hl]
theorem gt{id:Nat}:iZ libB ⟨34,id,[shU (.row false (.row false (.pair (.int .i64) (.int .i64))))],[],[⟨[shU (.row false (.pair (.int .i64) (.int .i64)))],[.one],[]⟩],λh=>cj h.1⟩:=by
 rintro⟨l,h⟩ o x ho hx;have ho:(if (List.flatten l).length<=1099511627776/\List.length l<=1099511627776 then some (List.flatten l,()) else none)=some o:=ho;split at ho
 case isFalse=>cases ho
 rename_i hl
 injection ho with ho
 subst ho;cases hx;show zG Bj 34 [.sl (l.map λx=>[TV.sl (x.map kD)])] []=some (⟨[.sl (l.flatten.map kD)],[.one]⟩,[]);unfold zG;rw[oIP (by simp[qa])];unfold Bj;rw[oIN (by decide),oIP rfl];simp only[qy,oBS,oIP hl,oMS]
end Go.Proofs.Yteonljfnncdijaa
namespace Go.Proofs.Yteonljfnncdijaa
open Go.RowKit
set_option maxRecDepth 100000
noncomputable section
abbrev KCn:CT:=(.pair (.int .u8) (.pair (.int .u16) (.pair I64 I64)))
abbrev dW:CT:=(.pair I64 (.pair I64 (.pair I64 (.pair I64 (.pair I64 (.pair I64 (.pair (.int .u16) (.row false KCn))))))))
abbrev Ck:CT:=(.pair I64 (.pair I64 (.pair I64 (.pair I64 (.pair I64 (.pair I64 (.pair (.int .u16) (.row true KCn))))))))
abbrev cn:CT:=(.row false KCn)
abbrev RI:CT:=(.row false I64)
abbrev DCe:Type:=(Int×Int)
abbrev DCn:Type:=(Int×Int×Int×Int)
abbrev DTs:Type:=(Int×Int×Int×Int×Int×Int×Int×List DCn)
def HH(f i:Nat):List (Nat×Option Nat):=if f=6 then (if i=3000011 then [(7,none),(9,none),(11,none),(13,none)] else []) else if f=76 then (if i=0 then [(4,none)] else []) else if f=62 then (if i=0 then [(4,some 2),(4,some 10)] else []) else if f=24 then (if i=0 then [(4,some 10),(4,some 2)] else []) else if f=53 then (if i=0 then [(4,none)] else []) else if f=30 then (if i=1 then [(5,none)] else []) else if f=31 then (if i=1 then [(5,none)] else []) else if f=5 then (if i=1 then [(12,some 0),(12,some 1),(13,some 0),(13,some 1)] else []) else []
def BK:List Nat:=[32,34]
def TT (f:FuncId):Option TFn:=if BK.contains f then none else kE Try.prog (HH f) f
theorem zx{f:FuncId}(h:BK.contains f=true):TT f=none:=oIP h
def E0:Env:=⟨λf=>if f=17 then some (1,[.arg 0,.val (.int .i64 0)]) else none,λf=>CI Try.prog f⟩
theorem tt_ok:xG Try.prog TT:=λf tf h=>zW HH (by kernel_rfl) f tf (by
 unfold TT at h
 split at h
 ·cases h
 ·exact h)
abbrev qE:Shs:=⟨[],[],[],([],[])⟩
abbrev qS(s:List (Nat×Sh))(c:List (Nat×List Sh)):Shs:=⟨s,c,[],([],[])⟩
abbrev N1:CT:=.nilr true
abbrev N0:CT:=.nilr false
abbrev CW:CT:=.int .u16
abbrev CB:CT:=.int .u8
abbrev uL(l:List CT):List Sh:=l.map fun c=>.d c ()
abbrev pP(t r:Nat):Nat×Sh:=(t,.ptr ⟨r,0,[]⟩ [0])
abbrev sP(t:Nat)(c:CT):Nat×Sh:=(t,.d c ())
abbrev Lk(n:Nat)(c:Ctr):Prop:=Lvl E0 TT libB n c
theorem aN{m:Nat}:tJ E0 TT libB m []:=trivial
theorem aC{n m:Nat}{c:Ctr}{l:List Ctr}(h:Lk n c)(r:tJ E0 TT libB m l)(hm:n≤m:=by decide):tJ E0 TT libB m (c::l):=⟨h.mono hm,r⟩
abbrev lx(i n:Nat)(s:List (Nat×Sh))(c:List (Nat×List Sh))(b:Nat):qP:=⟨i,n,⟨s,c,[],([],[])⟩,[(.exit 0,⟨s++[(b,.d .bool ())],c,[],([],[])⟩)]⟩
abbrev LI:Type:=List Int
abbrev LDCe:Type:=List DCe
abbrev LDCn:Type:=List DCn
abbrev LDTs:Type:=List DTs
abbrev LLCn:Type:=List (List DCn)
abbrev T00:Type:=Int×Bool×Unit
abbrev T01:Type:=Int×Int×Unit
abbrev T02:Type:=Int×LDCe×Unit
abbrev T03:Type:=Int×Unit×Unit
abbrev T04:Type:=LDCe×Int×Unit
abbrev T05:Type:=LLCn×LDTs×Unit
abbrev T06:Type:=Int×Bool×LDCe×Unit
abbrev T07:Type:=Int×T00
abbrev T08:Type:=Int×T02
abbrev T09:Type:=Int×T03
abbrev T0a:Type:=LI×T01
abbrev T0b:Type:=LLCn×LDTs×LI×Unit
abbrev T0c:Type:=Int×T06
abbrev T0d:Type:=Int×T09
abbrev T0e:Type:=Int×Int×T05
abbrev T0f:Type:=Int×T0b
abbrev T0g:Type:=LDCe×LDCe×T03
abbrev T0h:Type:=LI×T07
abbrev T0i:Type:=LI×T08
abbrev T0j:Type:=LI×Int×T04
abbrev T0k:Type:=Int×T0i
abbrev T0l:Type:=LI×T0c
abbrev T0m:Type:=Int×Int×Int×Int×Int×Int×Int×LDCn×Unit
abbrev T0n:Type:=Int×Int×Int×T0k
abbrev T0o:Type:=(List (Int×Int×LDCn×Int×Int×Int×Int×Int×Int×Int×LDCn))×Int×Unit
abbrev T0p:Type:=LLCn×LDTs×LDCe×(List (Int×Int×LDCn×Int×Int×Int×Int×Int×Int×Int×LDCn))×Unit
abbrev T0q:Type:=Int×T0p
abbrev T0r:Type:=Int×Bool×T0p
abbrev T0s:Type:=Int×T0q
abbrev T0t:Type:=(List (Int×Int×LDCn×Int×Int×Int×Int×Int×Int×Int×LDCn))×(List (Int×Int×LDCn×Int×Int×Int×Int×Int×Int×Int×LDCn))×LDCe×Unit
abbrev T0u:Type:=Int×T0t
abbrev T0v:Type:=Int×Bool×T0t
abbrev T0w:Type:=Int×T0u
noncomputable abbrev ap1{A0 D R:Type}(f:A0→R)(h:A0×D):R:=f h.1
noncomputable abbrev ap2{A0 A1 D R:Type}(f:A0→A1→R)(h:A0×A1×D):R:=f h.1 h.2.1
noncomputable abbrev ap3{A0 A1 A2 D R:Type}(f:A0→A1→A2→R)(h:A0×A1×A2×D):R:=f h.1 h.2.1 h.2.2.1
noncomputable abbrev ap4{A0 A1 A2 A3 D R:Type}(f:A0→A1→A2→A3→R)(h:A0×A1×A2×A3×D):R:=f h.1 h.2.1 h.2.2.1 h.2.2.2.1
noncomputable abbrev ap8{A0 A1 A2 A3 A4 A5 A6 A7 D R:Type}(f:A0→A1→A2→A3→A4→A5→A6→A7→R)(h:A0×A1×A2×A3×A4×A5×A6×A7×D):R:=f h.1 h.2.1 h.2.2.1 h.2.2.2.1 h.2.2.2.2.1 h.2.2.2.2.2.1 h.2.2.2.2.2.2.1 h.2.2.2.2.2.2.2.1
noncomputable abbrev ap9{A0 A1 A2 A3 A4 A5 A6 A7 A8 D R:Type}(f:A0→A1→A2→A3→A4→A5→A6→A7→A8→R)(h:A0×A1×A2×A3×A4×A5×A6×A7×A8×D):R:=f h.1 h.2.1 h.2.2.1 h.2.2.2.1 h.2.2.2.2.1 h.2.2.2.2.2.1 h.2.2.2.2.2.2.1 h.2.2.2.2.2.2.2.1 h.2.2.2.2.2.2.2.2.1
noncomputable abbrev ap16{A0 A1 A2 A3 A4 A5 A6 A7 A8 A9 A10 A11 A12 A13 A14 A15 D R:Type}(f:A0→A1→A2→A3→A4→A5→A6→A7→A8→A9→A10→A11→A12→A13→A14→A15→R)(h:A0×A1×A2×A3×A4×A5×A6×A7×A8×A9×A10×A11×A12×A13×A14×A15×D):R:=f h.1 h.2.1 h.2.2.1 h.2.2.2.1 h.2.2.2.2.1 h.2.2.2.2.2.1 h.2.2.2.2.2.2.1 h.2.2.2.2.2.2.2.1 h.2.2.2.2.2.2.2.2.1 h.2.2.2.2.2.2.2.2.2.1 h.2.2.2.2.2.2.2.2.2.2.1 h.2.2.2.2.2.2.2.2.2.2.2.1 h.2.2.2.2.2.2.2.2.2.2.2.2.1 h.2.2.2.2.2.2.2.2.2.2.2.2.2.1 h.2.2.2.2.2.2.2.2.2.2.2.2.2.2.1 h.2.2.2.2.2.2.2.2.2.2.2.2.2.2.2.1
noncomputable abbrev ap22{A0 A1 A2 A3 A4 A5 A6 A7 A8 A9 A10 A11 A12 A13 A14 A15 A16 A17 A18 A19 A20 A21 D R:Type}(f:A0→A1→A2→A3→A4→A5→A6→A7→A8→A9→A10→A11→A12→A13→A14→A15→A16→A17→A18→A19→A20→A21→R)(h:A0×A1×A2×A3×A4×A5×A6×A7×A8×A9×A10×A11×A12×A13×A14×A15×A16×A17×A18×A19×A20×A21×D):R:=f h.1 h.2.1 h.2.2.1 h.2.2.2.1 h.2.2.2.2.1 h.2.2.2.2.2.1 h.2.2.2.2.2.2.1 h.2.2.2.2.2.2.2.1 h.2.2.2.2.2.2.2.2.1 h.2.2.2.2.2.2.2.2.2.1 h.2.2.2.2.2.2.2.2.2.2.1 h.2.2.2.2.2.2.2.2.2.2.2.1 h.2.2.2.2.2.2.2.2.2.2.2.2.1 h.2.2.2.2.2.2.2.2.2.2.2.2.2.1 h.2.2.2.2.2.2.2.2.2.2.2.2.2.2.1 h.2.2.2.2.2.2.2.2.2.2.2.2.2.2.2.1 h.2.2.2.2.2.2.2.2.2.2.2.2.2.2.2.2.1 h.2.2.2.2.2.2.2.2.2.2.2.2.2.2.2.2.2.1 h.2.2.2.2.2.2.2.2.2.2.2.2.2.2.2.2.2.2.1 h.2.2.2.2.2.2.2.2.2.2.2.2.2.2.2.2.2.2.2.1 h.2.2.2.2.2.2.2.2.2.2.2.2.2.2.2.2.2.2.2.2.1 h.2.2.2.2.2.2.2.2.2.2.2.2.2.2.2.2.2.2.2.2.2.1
theorem ls{n:Nat}(C:X.Cfg)(hT:tJ E0 TT libB n C.TB){c:Ctr}(hE:C.E=E0:=by rfl)(h1:(TT c.f).isSome=true:=by kernel_rfl)(hg:∀h,X.runT aO C () ((TT c.f).getD CJ) c.outs (dl c.ins _ h).1 (jP c.pts [] (dl c.ins _ h).2).1=c.g h:=by intro h;kernel_rfl):Lk (n+1) c:=Cd (n:=n) (C:=C) hE hT (Cn h1) hg
abbrev Uaa(t:Nat):Nat×Sh:=sP t I64
abbrev Xaa(t:Nat):Nat×Sh:=sP t .bool
abbrev Zaa(t r:Nat):Nat×Sh:=(t,.pk ⟨r,0,[]⟩ [0,0])
abbrev uaa(t:CT):CT:=.row true t
abbrev yaa(t:CT):CT:=.row false t
abbrev zaa(t:Nat):Nat×Sh:=pP t (2*t+2)
abbrev uab:List Sh:=uL [(yaa cn),(yaa dW)]
abbrev yab:List Sh:=uL [.bool]
abbrev zab:List Sh:=uL [(uaa (.pair I64 I64))]
abbrev Uab:List Sh:=uL [I64,I64]
abbrev Xab:List Sh:=uL [(yaa (.pair I64 I64))]
abbrev Zab:List Sh:=uL [I64]
abbrev uac:List Sh:=uL [I64,I64,cn,I64,I64,I64,I64,I64,I64,CW,cn]
abbrev yac:List Sh:=uL [(uaa I64)]
abbrev zac:List Sh:=uL [(uaa (.pair I64 I64)),I64]
abbrev Uac:List Sh:=uL [I64,I64,I64,I64,I64,I64,CW,cn]
abbrev Xac:List Sh:=uL [(yaa (.pair I64 I64)),(yaa (.pair I64 I64))]
abbrev Zac:List Sh:=uL [RI,I64]
abbrev uad:List Sh:=uL [(yaa (.pair I64 I64)),I64]
abbrev yad:List Sh:=uL [(uaa (.pair I64 I64)),(uaa (.pair I64 I64))]
abbrev zad:List Sh:=uL [I64,I64,I64,I64,I64,I64,CW,(uaa KCn)]
def bv(a0:LDCe):Option (LDCe×Unit):=
bif (bK 16 0 a0.length) then let x0:LDCe:=(List.append [] a0);
some (x0,()) else none
def iv:X.Cfg:=⟨E0,[],[],[]⟩
def cZ:Ctr:=⟨35,0,Xab,[],[⟨zab,[.one],[]⟩],ap1 bv⟩
theorem eD:Lk 1 cZ:=ls iv aN
def c7:Ctr:=⟨32,1,[.fn 33 [],shU (yaa (.pair I64 I64))],[],[⟨Xab,[.one],[]⟩],ap1 bR⟩
theorem eE:Lvl E0 TT libB 1 c7:=(wK (zx rfl) gI).mono (by decide)
def d8(a0:LDCe) (a1:Int) (a2:Int):Option (LDCe×Unit):=
(bv a0).bind λ(x0,_)=>
let x1:LDCe:=[(a1,a2)];
bif (bK 16 x0.length x1.length) then let x2:LDCe:=(List.append x0 x1);
(bR x2).bind λ(x3,_)=>
some (x3,()) else none
def rJ:X.Cfg:=⟨E0,[cZ,c7],[],[]⟩
def ji:Ctr:=⟨13,2,[shU (yaa (.pair I64 I64)),.agg Uab],[],[⟨Xab,[.one],[]⟩],ap3 d8⟩
theorem ms:Lk 2 ji:=ls rJ (aC eD (aC eE aN))
def bB:LDCe×T04->Option ((LDCe×T04)⊕((Bool×Unit)⊕(LDCe×LDCe×T00))):=λ(v0,v1,v2,_)=>
let x0:=aT v0.length;
bif decide (v2 < x0) then ((dC v2).bind λx1=>
(dD v0 x1).bind λx2=>
(dC v2).bind λx3=>
(dD v1 x3).bind λx4=>
bif (!((x2.1==x4.1) && ((x2.2==x4.2) && true))) then (some (.inr (.inl (false,())))) else
let x5:=w64 (v2+1);
some (.inl (v0,v1,x5,()))) else
some (.inr (.inr (v0,v1,v2,false,())))
def bF(a0:LDCe) (a1:LDCe):Option (Bool×Unit):=
let x0:=aT a0.length;
let x1:=aT a1.length;
bif (x0 != x1) then (some (false,())) else
(match bn bB NN (a0,a1,0,()) with
| none=>none
| some (.inl (x2,_))=>
some (x2,())
| some (.inr (x2,_))=>
some (true,()))
def qe:X.Cfg:=⟨E0,[],[],[⟨6,0,qS [sP 0 (yaa (.pair I64 I64)),sP 1 (yaa (.pair I64 I64)),Uaa 5] [],[(.ret,qS [Xaa 4] []),(.exit 0,qS [sP 0 (yaa (.pair I64 I64)),sP 1 (yaa (.pair I64 I64)),Uaa 5,Xaa 14] [])]⟩]⟩
def iz:Ctr:=⟨11,3,Xac,[],[⟨yab,[.one],[]⟩],ap2 bF⟩
theorem kS:Lk 1 iz:=ls qe aN
def cQ:Option (Bool×Unit):=
let x0:LDCe:=[(0,1),((-1),0)];
(d8 x0 1 0).bind λ(x1,_)=>
let x2:LDCe:=[(0,1),(1,0),((-1),0)];
(bF x1 x2).bind λ(x3,_)=>
some (x3,())
def o5:X.Cfg:=⟨E0,[ji,iz],[],[]⟩
def jY:Ctr:=⟨8,4,[],[],[⟨yab,[.one],[]⟩],λh=>cQ⟩
theorem oL:Lk 3 jY:=ls o5 (aC ms (aC kS aN))
def nF(a0:Int):Option (T01):=
let x0:=Int.tmod a0 4;
let x1:=wk .i64 x0;
let x2:=w64 (x1 - 1);
let x3:=wk .u8 (Int.tdiv a0 4);
let x4:=wk .i64 x3;
let x5:=Int.tmod x4 5;
some (x2,x5,())
def na:LI×T02->Option ((LI×T02)⊕(LI×T06)):=λ(v0,v1,v2,_)=>
let x0:=aT v0.length;
bif decide (v1 < x0) then ((dC v1).bind λx1=>
(dD v0 x1).bind λx2=>
(nF x2).bind λ(x3,x4,_)=>
let x5:LDCe:=[(x3,x4)];
bif (bK 16 v2.length x5.length) then let x6:LDCe:=(List.append v2 x5);
let x7:=w64 (v1+1);
some (.inl (v0,x7,x6,())) else none) else
some (.inr (v0,v1,false,v2,()))
def gF(a0:List (Int)):Option (LDCe×Unit):=
(bn na NN (a0,0,[],())).bind λ(x0,x1,x2,x3,_)=>
some (x3,())
def dZ:Ctr:=⟨34,7,uL [(yaa (yaa (.pair I64 I64)))],[],[⟨Xab,[.one],[]⟩],ap1 cj⟩
theorem hJ:Lvl E0 TT libB 1 dZ:=(wK (zx rfl) gt).mono (by decide)
def cq(a0:LDCe) (a1:LDCe):Option (LDCe×Unit):=
let x0:List LDCe:=[a0,a1];
(cj x0).bind λ(x1,_)=>
(bR x1).bind λ(x2,_)=>
some (x2,())
def o6:X.Cfg:=⟨E0,[dZ,c7],[(7,(uaa (.pair I64 I64)))],[]⟩
def jZ:Ctr:=⟨9,8,Xac,[],[⟨Xab,[.one],[]⟩],ap2 cq⟩
theorem oM:Lk 2 jZ:=ls o6 (aC hJ (aC eE aN))
def dI(a0:Int) (a1:Int) (a2:Int) (a3:Int):Option (Bool×Unit):=
bif (!((a0==(-1))==(a2==(-1)))) then (some ((a2==(-1)),())) else
bif decide (a0 < a2) then (some (true,())) else
bif (a0==a2) then (some ((decide (a1 < a3)),())) else
some (false,())
def oT:X.Cfg:=⟨E0,[],[],[]⟩
def jV:Ctr:=⟨12,9,[.agg Uab,.agg Uab],[],[⟨yab,[.one],[]⟩],ap4 dI⟩
theorem oI:Lk 1 jV:=ls oT aN
def eA(a0:LDCe) (a1:Int):Option (LDCe×LDCe×Unit):=
let x0:=aT a0.length;
let x1:=mmR false a1 x0;
let x2:=mmR true 0 x1;
(dC x2).bind λx3=>
bif (dy 0 x3 a0.length) then let x4:LDCe:=(ld a0 0 (Nat.sub x3 0));
(bv x4).bind λ(x5,_)=>
(dC x2).bind λx6=>
bif (dy x6 a0.length a0.length) then let x7:LDCe:=(ld a0 x6 (Nat.sub a0.length x6));
(bv x7).bind λ(x8,_)=>
some (x5,x8,()) else none else none
def qi:X.Cfg:=⟨E0,[cZ],[],[]⟩
def la:Ctr:=⟨15,10,uad,[],[⟨yad,[.one,.one],[]⟩],ap2 eA⟩
theorem p9:Lk 2 la:=ls qi (aC eD aN)
def ig:T0j->Option (T0j⊕((Bool×Unit)⊕(LI×Int×LDCe×T00))):=λ(v0,v1,v2,v3,_)=>
let x0:=aT v2.length;
bif decide (v3 < x0) then (let x1:Int:=(w64 (v3 - 1));
(dC x1).bind λx2=>
(dD v2 x2).bind λx3=>
(dC v3).bind λx4=>
(dD v2 x4).bind λx5=>
(dI x3.1 x3.2 x5.1 x5.2).bind λ(x6,_)=>
bif (!x6) then (some (.inr (.inl (false,())))) else
let x7:=w64 (v3+1);
some (.inl (v0,v1,v2,x7,()))) else
some (.inr (.inr (v0,v1,v2,v3,false,())))
def ie:T0j->Option (T0j⊕((Bool×Unit)⊕(LI×Int×LDCe×T00))):=λ(v0,v1,v2,v3,_)=>
let x0:=aT v0.length;
bif decide (v3 < x0) then ((dC v3).bind λx1=>
(dD v0 x1).bind λx2=>
(nF x2).bind λ(x3,x4,_)=>
(d8 v2 x3 x4).bind λ(x5,_)=>
(bF x5 v2).bind λ(x6,_)=>
bif (!x6) then (some (.inr (.inl (false,())))) else
let x7:=w64 (v3+1);
some (.inl (v0,v1,v2,x7,()))) else
some (.inr (.inr (v0,v1,v2,v3,false,())))
def sr(a0:List (Int)) (a1:List (Int)) (a2:Int):Option (Bool×Unit):=
let x0:=aT a0.length;
let x1:=aT a1.length;
let x2:=w64 (x0+x1);
bif decide (x2 > 100) then ((cQ).bind λ(x3,_)=>
some (x3,())) else
(gF a0).bind λ(x3,_)=>
(cq [] x3).bind λ(x4,_)=>
(gF a1).bind λ(x5,_)=>
(cq [] x5).bind λ(x6,_)=>
(cq x4 x6).bind λ(x7,_)=>
(gF a1).bind λ(x8,_)=>
(gF a0).bind λ(x9,_)=>
(cq x8 x9).bind λ(ac,_)=>
(bF x7 ac).bind λ(ae,_)=>
bif (!ae) then (some (false,())) else
let af:=aT x7.length;
let ah:=aT a0.length;
let aj:=aT a1.length;
let ak:=w64 (ah+aj);
bif decide (af > ak) then (some (false,())) else
(match bn ig NN (a0,a2,x7,1,()) with
| none=>none
| some (.inl (am,_))=>
some (am,())
| some (.inr (am,an,ap,_))=>
(match bn ie NN (am,an,ap,0,()) with
| none=>none
| some (.inl (av,_))=>
some (av,())
| some (.inr (av,aw,ax,_))=>
(eA ax aw).bind λ(aA,aB,_)=>
bif (bK 16 0 aA.length) then let aD:LDCe:=(List.append [] aA);
bif (bK 16 aD.length aB.length) then let aE:LDCe:=(List.append aD aB);
(bF aE ax).bind λ(aF,_)=>
bif aF then (let aG:Int:=(aT aA.length);
let aH:=aT ax.length;
let aI:=mmR false aw aH;
let aJ:=mmR true 0 aI;
bif (aG==aJ) then ((cQ).bind λ(aK,_)=>
some (aK,())) else
some (false,())) else
some (false,()) else none else none))
def eI:T0e->Option (T0e⊕(Int×Int×Bool×T05)):=λ(v0,v1,v2,v3,_)=>
let x0:=aT v2.length;
bif decide (v1 < x0) then (let x1:Int:=(w64 (v0+4));
(dC v1).bind λx2=>
(dD v2 x2).bind λx3=>
let x4:=aT x3.length;
let x5:=w64 (x1+x4);
let x6:=w64 (v1+1);
some (.inl (x5,x6,v2,v3,()))) else
some (.inr (v0,v1,false,v2,v3,()))
def eH:T0e->Option (T0e⊕(Int×Int×Bool×T05)):=λ(v0,v1,v2,v3,_)=>
let x0:=aT v3.length;
bif decide (v1 < x0) then (let x1:Int:=(w64 (v0+10));
(dC v1).bind λx2=>
(dD v3 x2).bind λx3=>
let x4:=aT x3.2.2.2.2.2.2.2.length;
let x5:=w64 (x1+x4);
let x6:=w64 (v1+1);
some (.inl (x5,x6,v2,v3,()))) else
some (.inr (v0,v1,false,v2,v3,()))
def dH(a0:List LDCn) (a1:LDTs):Option (Bool×Unit):=
(bn eI NN (0,0,a0,a1,())).bind λ(x0,x1,x2,x3)=>
(bn eH NN (x0,0,x3)).bind λ(x5,_)=>
some ((decide (x5<=1500)),())
def oR:X.Cfg:=⟨E0,[],[],[(lx 4 0 [zaa 1,Uaa 3,Uaa 4] [(4,uab)] 10),⟨10,1,qS [zaa 1,Uaa 3,Uaa 5] [(4,uab)],[(.exit 2,qS [zaa 1,Uaa 3,Uaa 5,Xaa 26] [(4,uab)])]⟩]⟩
def jT:Ctr:=⟨28,12,[.agg uab],[],[⟨yab,[.one],[]⟩],ap2 dH⟩
theorem oG:Lk 1 jT:=ls oR aN
def dK(a0:Int):Option (Bool×Unit):=
bif decide (a0>=1) then (some ((decide (a0<=32)),())) else
some (false,())
def oY:X.Cfg:=⟨E0,[],[],[]⟩
def gN:Ctr:=⟨71,13,Zab,[],[⟨yab,[.one],[]⟩],ap1 dK⟩
theorem jG:Lk 1 gN:=ls oY aN
def du(a0:LDCn):Option (Bool×Unit):=
let x0:=aT a0.length;
(dK x0).bind λ(x1,_)=>
some ((!x1),())
def lp:X.Cfg:=⟨E0,[gN],[],[]⟩
def gZ:Ctr:=⟨70,14,uL [cn],[],[⟨yab,[.one],[]⟩],ap1 du⟩
theorem ll:Lk 2 gZ:=ls lp (aC jG aN)
def aU:LLCn×T01->Option ((LLCn×T01)⊕((Int×Unit)⊕(LLCn×T07))):=λ(v0,v1,v2,_)=>
bif decide (v2 < v1) then ((dC v2).bind λx0=>
(dD v0 x0).bind λx1=>
(du x1).bind λ(x2,_)=>
bif x2 then (some (.inr (.inl (v2,())))) else
let x3:=w64 (v2+1);
some (.inl (v0,v1,x3,()))) else
some (.inr (.inr (v0,v1,v2,false,())))
def cH(a0:List LDCn):Option (Int×Unit):=
let x0:=aT a0.length;
(match bn aU NN (a0,x0,0,()) with
| none=>none
| some (.inl (x1,_))=>
some (x1,())
| some (.inr (x1,_))=>
some ((-1),()))
def gx:X.Cfg:=⟨E0,[gZ],[],[⟨3,0,(qS [sP 0 (yaa cn),(1,.fn 70 []),Uaa 7,Uaa 8] []),[(.ret,qS [Uaa 4] []),(.exit 0,(qS [sP 0 (yaa cn),(1,.fn 70 []),Uaa 7,Uaa 8,Xaa 9] []))]⟩]⟩
def dB:Ctr:=⟨87,15,[shU (yaa cn),.fn 70 []],[],[⟨Zab,[.one],[]⟩],ap1 cH⟩
theorem gv:Lk 3 dB:=ls gx (aC ll aN)
def bA(a0:List LDCn):Option (Bool×Unit):=
(cH a0).bind λ(x0,_)=>
some ((decide (x0>=0)),())
def fw:X.Cfg:=⟨E0,[dB],[],[]⟩
def cY:Ctr:=⟨69,16,[shU (yaa cn),.fn 70 []],[],[⟨yab,[.one],[]⟩],ap1 bA⟩
theorem fu:Lk 4 cY:=ls fw (aC gv aN)
def em(a0:List LDCn) (a1:LDTs):Option (Bool×Unit):=
let x0:=aT a0.length;
bif decide (x0<=4) then (let x1:Int:=(aT a1.length);
bif decide (x1<=4) then ((bA a0).bind λ(x2,_)=>
some ((!x2),())) else
some (false,())) else
some (false,())
def nk:X.Cfg:=⟨E0,[cY],[],[]⟩
def i8:Ctr:=⟨60,17,[.agg uab],[],[⟨yab,[.one],[]⟩],ap2 em⟩
theorem ne:Lk 5 i8:=ls nk (aC fu aN)
def bY:LLCn×Int×T0f->Option ((LLCn×Int×T0f)⊕(LLCn×Int×Int×Bool×T0b)):=λ(v0,v1,v2,v3,v4,v5,_)=>
bif decide (v2 < v1) then ((dC v2).bind λx0=>
(dD v0 x0).bind λx1=>
let x2:=aT x1.length;
bif (bK 8 v5.length (List.length [x2])) then let x3:List (Int):=(List.append v5 [x2]);
let x4:=w64 (v2+1);
some (.inl (v0,v1,x4,v3,v4,x3,())) else none) else
some (.inr (v0,v1,v2,false,v3,v4,v5,()))
def c9(a0:List LDCn) (a1:LDTs):Option (LI×Unit):=
let x0:=aT a0.length;
(bn bY NN (a0,x0,0,a0,a1,[],())).bind λ(x1,x2,x3,x4,x5,x6,x7,_)=>
some (x7,())
def oZ:X.Cfg:=⟨E0,[],[],[(lx 4 0 [Zaa 3 9,sP 7 (yaa cn),Uaa 8,Uaa 9] [(4,uab),(9,yac)] 10)]⟩
def gO:Ctr:=⟨41,18,[.agg uab],[],[⟨yac,[.one],[]⟩],ap2 c9⟩
theorem jH:Lk 1 gO:=ls oZ aN
def en(a0:Int):Option (Bool×Unit):=
(dK a0).bind λ(x0,_)=>
some ((!x0),())
def nn:X.Cfg:=⟨E0,[gN],[],[]⟩
def i9:Ctr:=⟨73,19,Zab,[],[⟨yab,[.one],[]⟩],ap1 en⟩
theorem ng:Lk 2 i9:=ls nn (aC jG aN)
def bf:T0a->Option (T0a⊕((Int×Unit)⊕T0h)):=λ(v0,v1,v2,_)=>
bif decide (v2 < v1) then ((dC v2).bind λx0=>
(dD v0 x0).bind λx1=>
(en x1).bind λ(x2,_)=>
bif x2 then (some (.inr (.inl (v2,())))) else
let x3:=w64 (v2+1);
some (.inl (v0,v1,x3,()))) else
some (.inr (.inr (v0,v1,v2,false,())))
def cT(a0:List (Int)):Option (Int×Unit):=
let x0:=aT a0.length;
(match bn bf NN (a0,x0,0,()) with
| none=>none
| some (.inl (x1,_))=>
some (x1,())
| some (.inr (x1,_))=>
some ((-1),()))
def hY:X.Cfg:=⟨E0,[i9],[],[⟨3,0,(qS [sP 0 RI,(1,.fn 73 []),Uaa 7,Uaa 8] []),[(.ret,qS [Uaa 4] []),(.exit 0,(qS [sP 0 RI,(1,.fn 73 []),Uaa 7,Uaa 8,Xaa 9] []))]⟩]⟩
def dY:Ctr:=⟨88,20,[shU RI,.fn 73 []],[],[⟨Zab,[.one],[]⟩],ap1 cT⟩
theorem g9:Lk 3 dY:=ls hY (aC ng aN)
def bL(a0:List (Int)):Option (Bool×Unit):=
(cT a0).bind λ(x0,_)=>
some ((decide (x0>=0)),())
def gc:X.Cfg:=⟨E0,[dY],[],[]⟩
def dm:Ctr:=⟨72,21,[shU RI,.fn 73 []],[],[⟨yab,[.one],[]⟩],ap1 bL⟩
theorem gb:Lk 4 dm:=ls gc (aC g9 aN)
def bQ:T0n->Option (T0n⊕(Int×Int×Int×Int×T0l)):=λ(v0,v1,v2,v3,v4,v5,v6,v7,_)=>
let x0:=w64 (v3*8);
bif decide (x0 < v2) then (let x1:LDCe:=[(v1,v3)];
bif (bK 16 v7.length x1.length) then let x2:LDCe:=(List.append v7 x1);
let x3:=w64 (v3+1);
some (.inl (v0,v1,v2,x3,v4,v5,v6,x2,())) else none) else
some (.inr (v0,v1,v2,v3,v4,v5,v6,false,v7,()))
def cd:T0k->Option (T0k⊕(Int×T0l)):=λ(v0,v1,v2,v3,v4,_)=>
bif decide (v3 < v2) then ((dC v3).bind λx0=>
(dD v1 x0).bind λx1=>
(bn bQ NN (v0,v3,x1,0,v1,v2,v3,v4,())).bind λ(x2,x3,x4,x5,x6,x7,x8,x9,ac,_)=>
let ae:=w64 (x8+1);
some (.inl (x2,x6,x7,ae,ac,()))) else
some (.inr (v0,v1,v2,v3,false,v4,()))
def bP:T08->Option (T08⊕T0c):=λ(v0,v1,v2,_)=>
bif decide (v1 < v0) then (let x0:LDCe:=[((-1),v1)];
bif (bK 16 v2.length x0.length) then let x1:LDCe:=(List.append v2 x0);
let x2:=w64 (v1+1);
some (.inl (v0,x2,x1,())) else none) else
some (.inr (v0,v1,false,v2,()))
def fO(a0:List (Int)) (a1:Int):Option (T04):=
let x0:=aT a0.length;
bif decide (x0 > 4) then (some ([],3,())) else
bif decide (a1 > 4) then (some ([],3,())) else
bif decide (a1 < 0) then (some ([],1,())) else
(bL a0).bind λ(x1,_)=>
bif x1 then (some ([],1,())) else
let x2:=aT a0.length;
(bn cd NN (a1,a0,x2,0,[],())).bind λ(x3,x4,x5,x6,x7,x8,_)=>
(bn bP NN (x3,0,x8,())).bind λ(x9,ac,ae,af,_)=>
some (af,0,())
def qh:X.Cfg:=⟨E0,[dm],[],[⟨16,0,qS [Uaa 1,Zaa 6 15,Uaa 7,Uaa 8,Uaa 9,sP 24 RI,Uaa 25,Uaa 26] [(15,zab)],[(.exit 2,qS [Uaa 1,Zaa 6 15,Uaa 7,Uaa 8,Uaa 9,sP 24 RI,Uaa 25,Uaa 26,Xaa 34] [(15,zab)])]⟩,(lx 10 1 [Uaa 1,Zaa 6 15,sP 24 RI,Uaa 25,Uaa 26] [(15,zab)] 27),⟨22,2,qS [Zaa 6 15,Uaa 44,Uaa 45] [(15,zab)],[(.exit 4,qS [Zaa 6 15,Uaa 44,Uaa 45,Xaa 46] [(15,zab)])]⟩]⟩
def k9:Ctr:=⟨61,22,Zac,[],[⟨zac,[.one,.one],[]⟩],ap2 fO⟩
theorem p8:Lk 5 k9:=ls qh (aC gb aN)
def b5(a0:LDCn):Option (LDCn×Unit):=
bif (bK 24 0 a0.length) then let x0:LDCn:=(List.append [] a0);
some (x0,()) else none
def iX:X.Cfg:=⟨E0,[],[],[]⟩
def df:Ctr:=⟨75,23,uL [cn],[],[⟨uL [(uaa KCn)],[.one],[]⟩],ap1 b5⟩
theorem eQ:Lk 1 df:=ls iX aN
def gG(a0:Int) (a1:Int) (a2:Int) (a3:Int) (a4:Int) (a5:Int) (a6:Int) (a7:LDCn):Option (T0m):=
(b5 a7).bind λ(x0,_)=>
some (a0,a1,a2,a3,a4,a5,a6,x0,())
def o7:X.Cfg:=⟨E0,[df],[],[]⟩
def j0:Ctr:=⟨74,24,[.agg Uac],[],[⟨zad,[.agg 8],[]⟩],ap8 gG⟩
theorem oN:Lk 2 j0:=ls o7 (aC eQ aN)
def ic(a0:LDCn) (a1:Int):Option (LDCn×Unit):=
(bif decide (a1 < 0) then (some (a0,a1,true,())) else
bif decide (a1 > 32) then (some (a0,a1,true,())) else
let x0:=w64 (a1*8);
let x1:=aT a0.length;
some (a0,a1,(decide (x0>=x1)),()):Option (LDCn×T00)).bind λ(x0,x1,x2,_)=>
bif x2 then (some ([],())) else
let x3:=w64 (x1*8);
let x4:=w64 (x3+8);
let x5:=aT x0.length;
let x6:=mmR false x4 x5;
(dC x3).bind λx7=>
(dC x6).bind λx8=>
bif (dy x7 x8 x0.length) then let x9:LDCn:=(ld x0 x7 (Nat.sub x8 x7));
some (x9,()) else none
def qg:X.Cfg:=⟨E0,[],[],[⟨2,0,qE,[(.normal,qS [sP 0 cn,Uaa 1,Xaa 18] [])]⟩]⟩
def k8:Ctr:=⟨76,25,uL [cn,I64],[],[⟨uL [cn],[.one],[]⟩],ap2 ic⟩
theorem p7:Lk 1 k8:=ls qg aN
def fm(a0:List LDCn) (a1:LDTs) (a2:Int) (a3:Int):Option (Int×Int×LDCn×T0m):=
bif (a2==(-1)) then ((dC a3).bind λx0=>
(dD a1 x0).bind λx1=>
(gG x1.1 x1.2.1 x1.2.2.1 x1.2.2.2.1 x1.2.2.2.2.1 x1.2.2.2.2.2.1 x1.2.2.2.2.2.2.1 x1.2.2.2.2.2.2.2).bind λ(x2,x3,x4)=>
some (a2,a3,[],x2,x3,x4)) else
(dC a2).bind λx0=>
(dD a0 x0).bind λx1=>
(ic x1 a3).bind λ(x2,_)=>
(b5 x2).bind λ(x3,_)=>
some (a2,a3,x3,0,0,0,0,0,0,0,[],())
def rH:X.Cfg:=⟨E0,[j0,k8,df],[],[]⟩
def mT:Ctr:=⟨62,26,[.agg uab,.agg Uab],[],[⟨uac,[.agg 11],[]⟩],ap4 fm⟩
theorem rx:Lk 3 mT:=ls rH (aC oN (aC p7 (aC eQ aN)))
def cz:T0s->Option (T0s⊕(Int×T0r)):=λ(v0,v1,v2,v3,v4,v5,_)=>
bif decide (v1 < v0) then ((dC v1).bind λx0=>
(dD v4 x0).bind λx1=>
(dD v4 x0).bind λx2=>
(fm v2 v3 x2.1 x2.2).bind λ(x3,x4,x5,x6,x7,x8,x9,ac,ae,af,ah,_)=>
let aj:List (Int×Int×LDCn×Int×Int×Int×Int×Int×Int×Int×LDCn):=[(x3,(x4,(x5,(x6,(x7,(x8,(x9,(ac,(ae,(af,ah))))))))))];
bif (bK 120 v5.length aj.length) then let ak:List (Int×Int×LDCn×Int×Int×Int×Int×Int×Int×Int×LDCn):=(List.append v5 aj);
let am:=w64 (v1+1);
some (.inl (v0,am,v2,v3,v4,ak,())) else none) else
some (.inr (v0,v1,false,v2,v3,v4,v5,()))
def dx(a0:List LDCn) (a1:LDTs):Option (T0o):=
(em a0 a1).bind λ(x0,_)=>
bif (!x0) then (some ([],1,())) else
(c9 a0 a1).bind λ(x1,_)=>
let x2:=aT a1.length;
(fO x1 x2).bind λ(x3,x4,_)=>
let x5:=aT x3.length;
(bn cz NN (x5,0,a0,a1,x3,[],())).bind λ(x6,x7,x8,x9,ac,ae,af,_)=>
some (af,0,())
def rI:X.Cfg:=⟨E0,[i8,gO,k9,mT],[(31,(.pair I64 (.pair I64 (.pair (uaa KCn) Ck)))),(32,(.pair I64 (.pair I64 (.pair (uaa KCn) Ck))))],[(lx 8 0 [zaa 1,Zaa 6 15,Zaa 21 11,Uaa 22,Uaa 23] [(4,uab),(11,zab),(15,[shU (uaa (.pair I64 (.pair I64 (.pair cn dW))))])] 24)]⟩
def mU:Ctr:=⟨39,27,[.agg uab],[],[⟨[shU (uaa (.pair I64 (.pair I64 (.pair cn dW)))),shU I64],[.one,.one],[]⟩],ap2 dx⟩
theorem ry:Lk 6 mU:=ls rI (aC ne (aC jH (aC p8 (aC rx aN))))
def bM:LI×T0a->Option ((LI×T0a)⊕((Bool×Unit)⊕(LI×T0h))):=λ(v0,v1,v2,v3,_)=>
bif decide (v3 < v2) then ((dC v3).bind λx0=>
(dD v0 x0).bind λx1=>
(dC v3).bind λx2=>
(dD v1 x2).bind λx3=>
bif (x1 != x3) then (some (.inr (.inl (false,())))) else
let x4:=w64 (v3+1);
some (.inl (v0,v1,v2,x4,()))) else
some (.inr (.inr (v0,v1,v2,v3,false,())))
def cW(a0:List (Int)) (a1:List (Int)):Option (Bool×Unit):=
let x0:=aT a0.length;
let x1:=aT a1.length;
bif (x0 != x1) then (some (false,())) else
let x2:=aT a0.length;
(match bn bM NN (a0,a1,x2,0,()) with
| none=>none
| some (.inl (x3,_))=>
some (x3,())
| some (.inr (x3,_))=>
some (true,()))
def jL:X.Cfg:=⟨E0,[],[],[⟨6,0,qS [sP 0 RI,sP 1 RI,Uaa 12,Uaa 13] [],[(.ret,qS [Xaa 4] []),(.exit 0,qS [sP 0 RI,sP 1 RI,Uaa 12,Uaa 13,Xaa 14] [])]⟩]⟩
def fW:Ctr:=⟨40,28,uL [RI,RI],[],[⟨yab,[.one],[]⟩],ap2 cW⟩
theorem jE:Lk 1 fW:=ls jL aN
def bz:LDCn×LDCn×T01->Option ((LDCn×LDCn×T01)⊕((Bool×Unit)⊕(LDCn×LDCn×T07))):=λ(v0,v1,v2,v3,_)=>
bif decide (v3 < v2) then ((dC v3).bind λx0=>
(dD v0 x0).bind λx1=>
(dC v3).bind λx2=>
(dD v1 x2).bind λx3=>
let x4:Bool:=(!((x1.1==x3.1) && ((x1.2.1==x3.2.1) && ((x1.2.2.1==x3.2.2.1) && ((x1.2.2.2==x3.2.2.2) && true)))));
bif x4 then (some (.inr (.inl (false,())))) else
let x5:=w64 (v3+1);
some (.inl (v0,v1,v2,x5,()))) else
some (.inr (.inr (v0,v1,v2,v3,false,())))
def b4(a0:LDCn) (a1:LDCn):Option (Bool×Unit):=
let x0:=aT a0.length;
let x1:=aT a1.length;
bif (x0 != x1) then (some (false,())) else
let x2:=aT a0.length;
(match bn bz NN (a0,a1,x2,0,()) with
| none=>none
| some (.inl (x3,_))=>
some (x3,())
| some (.inr (x3,_))=>
some (true,()))
def iW:X.Cfg:=⟨E0,[],[],[⟨6,0,qS [sP 0 cn,sP 1 cn,Uaa 12,Uaa 13] [],[(.ret,qS [Xaa 4] []),(.exit 0,qS [sP 0 cn,sP 1 cn,Uaa 12,Uaa 13,Xaa 14] [])]⟩]⟩
def eR:Ctr:=⟨63,29,uL [cn,cn],[],[⟨yab,[.one],[]⟩],ap2 b4⟩
theorem iU:Lk 1 eR:=ls iW aN
def eU(a0:Int) (a1:Int) (a2:LDCn) (a3:Int) (a4:Int) (a5:Int) (a6:Int) (a7:Int) (a8:Int) (a9:Int) (a10:LDCn) (a11:Int) (a12:Int) (a13:LDCn) (a14:Int) (a15:Int) (a16:Int) (a17:Int) (a18:Int) (a19:Int) (a20:Int) (a21:LDCn):Option (Bool×Unit):=
bif ((a0==a11) && ((a1==a12) && true)) then ((b4 a2 a13).bind λ(x0,_)=>
bif x0 then (bif (a3==a14) then (bif (a4==a15) then (bif (a5==a16) then (bif (a6==a17) then (bif (a7==a18) then (bif (a8==a19) then (bif (a9==a20) then ((b4 a10 a21).bind λ(x1,_)=>
some (x1,())) else
some (false,())) else
some (false,())) else
some (false,())) else
some (false,())) else
some (false,())) else
some (false,())) else
some (false,())) else
some (false,())) else
some (false,())
def o4:X.Cfg:=⟨E0,[eR],[],[]⟩
def jX:Ctr:=⟨42,30,[.agg uac,.agg uac],[],[⟨yab,[.one],[]⟩],ap22 eU⟩
theorem oK:Lk 2 jX:=ls o4 (aC iU aN)
def bD:T0w->Option (T0w⊕(Int×T0v)):=λ(v0,v1,v2,v3,v4,_)=>
bif decide (v1 < v0) then (((dC v1).bind λx0=>
(dD v2 x0).bind λx1=>
(dD v2 x0).bind λx2=>
(dC v1).bind λx3=>
(dD v3 x3).bind λx4=>
(dD v3 x3).bind λx5=>
(eU x2.1 x2.2.1 x2.2.2.1 x2.2.2.2.1 x2.2.2.2.2.1 x2.2.2.2.2.2.1 x2.2.2.2.2.2.2.1 x2.2.2.2.2.2.2.2.1 x2.2.2.2.2.2.2.2.2.1 x2.2.2.2.2.2.2.2.2.2.1 x2.2.2.2.2.2.2.2.2.2.2 x5.1 x5.2.1 x5.2.2.1 x5.2.2.2.1 x5.2.2.2.2.1 x5.2.2.2.2.2.1 x5.2.2.2.2.2.2.1 x5.2.2.2.2.2.2.2.1 x5.2.2.2.2.2.2.2.2.1 x5.2.2.2.2.2.2.2.2.2.1 x5.2.2.2.2.2.2.2.2.2.2).bind λ(x6,_)=>
bif (!x6) then ((dC v1).bind λx7=>
(dD v2 x7).bind λx8=>
(dD v2 x7).bind λx9=>
let ac:LDCe:=[(x9.1,x9.2.1)];
bif (bK 16 v4.length ac.length) then let ae:LDCe:=(List.append v4 ac);
some (v0,v1,v2,v3,ae,()) else none) else
some (v0,v1,v2,v3,v4,()):Option (T0w)).bind λ(x0,x1,x2,x3,x4,_)=>
let x5:=w64 (x1+1);
some (.inl (x0,x5,x2,x3,x4,()))) else
some (.inr (v0,v1,false,v2,v3,v4,()))
def cf(a0:List LDCn) (a1:LDTs) (a2:List LDCn) (a3:LDTs):Option (T04):=
(dx a0 a1).bind λ(x0,x1,_)=>
(dx a2 a3).bind λ(x2,x3,_)=>
(bif (x1 != 0) then (some (true,x0,x2,())) else
bif (x3 != 0) then (some (true,x0,x2,())) else
(c9 a0 a1).bind λ(x4,_)=>
(c9 a2 a3).bind λ(x5,_)=>
(cW x4 x5).bind λ(x6,_)=>
bif (!x6) then (some (true,x0,x2,())) else
let x7:=aT a1.length;
let x8:=aT a3.length;
some ((x7 != x8),x0,x2,()):Option (Bool×(List (Int×Int×LDCn×Int×Int×Int×Int×Int×Int×Int×LDCn))×(List (Int×Int×LDCn×Int×Int×Int×Int×Int×Int×Int×LDCn))×Unit)).bind λ(x4,x5,x6,_)=>
bif x4 then (some ([],1,())) else
let x7:=aT x5.length;
(bn bD NN (x7,0,x5,x6,[],())).bind λ(x8,x9,ac,ae,af,ah,_)=>
some (ah,0,())
def my:X.Cfg:=⟨E0,[mU,gO,fW,jX],[],[⟨4,0,qE,[(.normal,(qS [Zaa 6 15,Zaa 8 19,Xaa 44] [(15,[shU (uaa (.pair I64 (.pair I64 (.pair cn dW))))]),(19,[shU (uaa (.pair I64 (.pair I64 (.pair cn dW))))])]))]⟩,⟨12,1,qE,[(.normal,(qS [Zaa 6 15,Zaa 8 19,Zaa 10 23,Uaa 46,Uaa 47] [(15,[shU (uaa (.pair I64 (.pair I64 (.pair cn dW))))]),(19,[shU (uaa (.pair I64 (.pair I64 (.pair cn dW))))]),(23,zab)]))]⟩,(lx 9 2 [Zaa 6 15,Zaa 8 19,Zaa 10 23,Uaa 46,Uaa 47] [(15,[shU (uaa (.pair I64 (.pair I64 (.pair cn dW))))]),(19,[shU (uaa (.pair I64 (.pair I64 (.pair cn dW))))]),(23,zab)] 48)]⟩
def iB:Ctr:=⟨22,31,[.agg uab,.agg uab],[],[⟨zac,[.one,.one],[]⟩],ap4 cf⟩
theorem mr:Lk 7 iB:=ls my (aC ry (aC jH (aC jE (aC oK aN))))
def bW:T0f->Option (T0f⊕(Int×Bool×T0b)):=λ(v0,v1,v2,v3,_)=>
let x0:=aT v1.length;
bif decide (v0 < x0) then ((dC v0).bind λx1=>
(dD v1 x1).bind λx2=>
let x3:=aT x2.length;
bif (bK 8 v3.length (List.length [x3])) then let x4:List (Int):=(List.append v3 [x3]);
let x5:=w64 (v0+1);
some (.inl (x5,v1,v2,x4,())) else none) else
some (.inr (v0,false,v1,v2,v3,()))
def cP(a0:List LDCn) (a1:LDTs):Option (LI×Unit):=
(bn bW NN (0,a0,a1,[],())).bind λ(x0,x1,x2,x3,x4,_)=>
some (x4,())
def oV:X.Cfg:=⟨E0,[],[],[(lx 4 0 [zaa 1,Zaa 3 9,Uaa 4] [(4,uab),(9,yac)] 9)]⟩
def eW:Ctr:=⟨45,32,[.agg uab],[],[⟨yac,[.one],[]⟩],ap2 cP⟩
theorem gJ:Lk 1 eW:=ls oV aN
def bu:T0a->Option (T0a⊕((Int×Unit)⊕T0h)):=λ(v0,v1,v2,_)=>
let x0:=aT v0.length;
bif decide (v2 < x0) then ((dC v2).bind λx1=>
(dD v0 x1).bind λx2=>
bif decide (x2 < 1) then (some (.inr (.inl (1,())))) else
(dC v2).bind λx3=>
(dD v0 x3).bind λx4=>
bif decide (x4 > 32) then (some (.inr (.inl (1,())))) else
let x5:=w64 (v2+1);
some (.inl (v0,v1,x5,()))) else
some (.inr (.inr (v0,v1,v2,false,())))
def dJ(a0:List (Int)) (a1:Int):Option (Int×Unit):=
let x0:=aT a0.length;
bif decide (x0 > 4) then (some (3,())) else
bif decide (a1 > 4) then (some (3,())) else
(match bn bu NN (a0,a1,0,()) with
| none=>none
| some (.inl (x1,_))=>
some (x1,())
| some (.inr (x1,x2,_))=>
bif decide (x2 < 0) then (some (1,())) else
some (0,()))
def oU:X.Cfg:=⟨E0,[],[],[⟨6,0,qS [sP 0 RI,Uaa 1,Uaa 5] [],[(.ret,qS [Uaa 4] []),(.exit 0,qS [sP 0 RI,Uaa 1,Uaa 5,Xaa 16] [])]⟩]⟩
def gM:Ctr:=⟨64,33,Zac,[],[⟨Zab,[.one],[]⟩],ap2 dJ⟩
theorem jF:Lk 1 gM:=ls oU aN
def cR(a0:List LDCn) (a1:LDTs):Option (Bool×Unit):=
(cP a0 a1).bind λ(x0,_)=>
let x1:=aT a1.length;
(dJ x0 x1).bind λ(x2,_)=>
some ((x2==0),())
def nj:X.Cfg:=⟨E0,[eW,gM],[],[]⟩
def gd:Ctr:=⟨43,34,[.agg uab],[],[⟨yab,[.one],[]⟩],ap2 cR⟩
theorem i4:Lk 2 gd:=ls nj (aC gJ (aC jF aN))
def ca:LI×LI×Int×Unit->Option ((LI×LI×Int×Unit)⊕((Bool×Unit)⊕(LI×LI×T00))):=λ(v0,v1,v2,_)=>
let x0:=aT v0.length;
bif decide (v2 < x0) then ((dC v2).bind λx1=>
(dD v0 x1).bind λx2=>
(dC v2).bind λx3=>
(dD v1 x3).bind λx4=>
bif (x2 != x4) then (some (.inr (.inl (false,())))) else
let x5:=w64 (v2+1);
some (.inl (v0,v1,x5,()))) else
some (.inr (.inr (v0,v1,v2,false,())))
def dq(a0:List (Int)) (a1:List (Int)):Option (Bool×Unit):=
let x0:=aT a0.length;
let x1:=aT a1.length;
bif (x0 != x1) then (some (false,())) else
(match bn ca NN (a0,a1,0,()) with
| none=>none
| some (.inl (x2,_))=>
some (x2,())
| some (.inr (x2,_))=>
some (true,()))
def lm:X.Cfg:=⟨E0,[],[],[⟨6,0,qS [sP 0 RI,sP 1 RI,Uaa 5] [],[(.ret,qS [Xaa 4] []),(.exit 0,qS [sP 0 RI,sP 1 RI,Uaa 5,Xaa 14] [])]⟩]⟩
def gX:Ctr:=⟨44,35,uL [RI,RI],[],[⟨yab,[.one],[]⟩],ap2 dq⟩
theorem lj:Lk 1 gX:=ls lm aN
def bO:LI×Int×T08->Option ((LI×Int×T08)⊕(LI×Int×T0c)):=λ(v0,v1,v2,v3,v4,_)=>
let x0:=w64 (v3*8);
(dC v2).bind λx1=>
(dD v0 x1).bind λx2=>
bif decide (x0 < x2) then (let x3:LDCe:=[(v2,v3)];
bif (bK 16 v4.length x3.length) then let x4:LDCe:=(List.append v4 x3);
let x5:=w64 (v3+1);
some (.inl (v0,v1,v2,x5,x4,())) else none) else
some (.inr (v0,v1,v2,v3,false,v4,()))
def cc:T0i->Option (T0i⊕T0l):=λ(v0,v1,v2,v3,_)=>
let x0:=aT v0.length;
bif decide (v2 < x0) then ((bn bO NN (v0,v1,v2,0,v3,())).bind λ(x1,x2,x3,x4,x5,x6,_)=>
let x7:=w64 (x3+1);
some (.inl (x1,x2,x7,x6,()))) else
some (.inr (v0,v1,v2,false,v3,()))
def bN:T08->Option (T08⊕T0c):=λ(v0,v1,v2,_)=>
bif decide (v1 < v0) then (let x0:LDCe:=[((-1),v1)];
bif (bK 16 v2.length x0.length) then let x1:LDCe:=(List.append v2 x0);
let x2:=w64 (v1+1);
some (.inl (v0,x2,x1,())) else none) else
some (.inr (v0,v1,false,v2,()))
def fN(a0:List (Int)) (a1:Int):Option (T04):=
(dJ a0 a1).bind λ(x0,_)=>
bif (x0 != 0) then (some ([],x0,())) else
(bn cc NN (a0,a1,0,[],())).bind λ(x1,x2,x3,x4,x5,_)=>
(bn bN NN (x2,0,x5,())).bind λ(x6,x7,x8,x9,_)=>
some (x9,0,())
def qf:X.Cfg:=⟨E0,[gM],[],[⟨13,0,qS [sP 0 RI,Uaa 1,Zaa 7 17,Uaa 8,Uaa 9] [(17,zab)],[(.exit 2,qS [sP 0 RI,Uaa 1,Zaa 7 17,Uaa 8,Uaa 9,Xaa 29] [(17,zab)])]⟩,(lx 8 1 [sP 0 RI,Uaa 1,Zaa 7 17,Uaa 8] [(17,zab)] 20),⟨19,2,qS [Uaa 1,Zaa 7 17,Uaa 10] [(17,zab)],[(.exit 4,qS [Uaa 1,Zaa 7 17,Uaa 10,Xaa 40] [(17,zab)])]⟩]⟩
def kZ:Ctr:=⟨65,36,Zac,[],[⟨zac,[.one,.one],[]⟩],ap2 fN⟩
theorem p6:Lk 2 kZ:=ls qf (aC jF aN)
def f9(a0:Int) (a1:Int) (a2:Int) (a3:Int) (a4:Int) (a5:Int) (a6:Int) (a7:LDCn):Option (T0m):=
bif (bK 24 0 a7.length) then let x0:LDCn:=(List.append [] a7);
some (a0,a1,a2,a3,a4,a5,a6,x0,()) else none
def nh:X.Cfg:=⟨E0,[],[],[]⟩
def i7:Ctr:=⟨48,37,[.agg Uac],[],[⟨zad,[.agg 8],[]⟩],ap8 f9⟩
theorem nd:Lk 1 i7:=ls nh aN
def gE(a0:List LDCn) (a1:LDTs) (a2:Int) (a3:Int):Option (Int×Int×LDCn×Int×Int×Int×Int×Int×Int×Int×LDCn×Int×Unit):=
(cR a0 a1).bind λ(x0,_)=>
bif (!x0) then (some (0,0,[],0,0,0,0,0,0,0,[],1,())) else
bif (a2==(-1)) then (bif decide (a3 < 0) then (some (0,0,[],0,0,0,0,0,0,0,[],30,())) else
let x1:=aT a1.length;
bif decide (a3>=x1) then (some (0,0,[],0,0,0,0,0,0,0,[],30,())) else
(dC a3).bind λx2=>
(dD a1 x2).bind λx3=>
(f9 x3.1 x3.2.1 x3.2.2.1 x3.2.2.2.1 x3.2.2.2.2.1 x3.2.2.2.2.2.1 x3.2.2.2.2.2.2.1 x3.2.2.2.2.2.2.2).bind λ(x4,x5,x6,x7,x8,x9,ac,ae,_)=>
some (a2,a3,[],x4,x5,x6,x7,x8,x9,ac,ae,0,())) else
(bif decide (a2 < 0) then (some (true,a0,a1,a2,a3,0,0,(),0,0,0,0,0,0,0,(),())) else
let x1:=aT a0.length;
bif decide (a2>=x1) then (some (true,a0,a1,a2,a3,0,0,(),0,0,0,0,0,0,0,(),())) else
bif decide (a3 < 0) then (some (true,a0,a1,a2,a3,0,0,(),0,0,0,0,0,0,0,(),())) else
bif decide (a3 > 32) then (some (true,a0,a1,a2,a3,0,0,(),0,0,0,0,0,0,0,(),())) else
let x2:=w64 (a3*8);
(dC a2).bind λx3=>
(dD a0 x3).bind λx4=>
let x5:=aT x4.length;
some ((decide (x2>=x5)),a0,a1,a2,a3,0,0,(),0,0,0,0,0,0,0,(),()):Option (Bool×LLCn×LDTs×Int×Int×Int×Int×Unit×Int×Int×Int×Int×T0d)).bind λ(x1,x2,x3,x4,x5,x6,x7,x8,x9,ac,ae,_)=>
bif x1 then (some (0,0,[],0,0,0,0,0,0,0,[],30,())) else
(dC x4).bind λan=>
(dD x2 an).bind λap=>
let aq:=w64 (x5*8);
let au:=w64 (aq+8);
let av:=aT ap.length;
let aw:=mmR false au av;
(dC aq).bind λax=>
(dC aw).bind λay=>
bif (dy ax ay ap.length) then let az:LDCn:=(ld ap ax (Nat.sub ay ax));
bif (bK 24 0 az.length) then let aA:LDCn:=(List.append [] az);
some (x4,x5,aA,0,0,0,0,0,0,0,[],0,()) else none else none
def rF:X.Cfg:=⟨E0,[gd,i7],[],[⟨11,0,qE,[(.normal,(qS [zaa 2,zaa 3,zaa 4,Xaa 69] [(6,uab),(8,Uab),(10,uL [I64,I64,N1,I64,I64,I64,I64,I64,I64,CW,N1])]))]⟩]⟩
def mR:Ctr:=⟨24,38,[.agg uab,.agg Uab],[],[⟨uL [I64,I64,cn,I64,I64,I64,I64,I64,I64,CW,cn,I64],[.agg 11,.one],[]⟩],ap4 gE⟩
theorem ru:Lk 3 mR:=ls rF (aC i4 (aC nd aN))
def cy:T0q->Option (T0q⊕T0r):=λ(v0,v1,v2,v3,v4,_)=>
let x0:=aT v3.length;
bif decide (v0 < x0) then ((dC v0).bind λx1=>
(dD v3 x1).bind λx2=>
(dD v3 x1).bind λx3=>
(gE v1 v2 x3.1 x3.2).bind λ(x4,x5,x6,x7,x8,x9,ac,ae,af,ah,aj,ak,_)=>
let am:List (Int×Int×LDCn×Int×Int×Int×Int×Int×Int×Int×LDCn):=[(x4,(x5,(x6,(x7,(x8,(x9,(ac,(ae,(af,(ah,aj))))))))))];
bif (bK 120 v4.length am.length) then let an:List (Int×Int×LDCn×Int×Int×Int×Int×Int×Int×Int×LDCn):=(List.append v4 am);
let ap:=w64 (v0+1);
some (.inl (ap,v1,v2,v3,an,())) else none) else
some (.inr (v0,false,v1,v2,v3,v4,()))
def fj(a0:List LDCn) (a1:LDTs):Option (T0o):=
(cP a0 a1).bind λ(x0,_)=>
let x1:=aT a1.length;
(fN x0 x1).bind λ(x2,x3,_)=>
bif (x3 != 0) then (some ([],1,())) else
(bn cy NN (0,a0,a1,x2,[],())).bind λ(x4,x5,x6,x7,x8,x9,_)=>
some (x9,0,())
def rG:X.Cfg:=⟨E0,[eW,kZ,mR],[(38,(.pair I64 (.pair I64 (.pair (uaa KCn) Ck)))),(39,(.pair I64 (.pair I64 (.pair (uaa KCn) Ck))))],[(lx 8 0 [zaa 1,Zaa 4 11,Zaa 6 15,Uaa 7] [(4,uab),(11,zab),(15,[shU (uaa (.pair I64 (.pair I64 (.pair cn dW))))])] 24)]⟩
def mS:Ctr:=⟨46,39,[.agg uab],[],[⟨[shU (uaa (.pair I64 (.pair I64 (.pair cn dW)))),shU I64],[.one,.one],[]⟩],ap2 fj⟩
theorem rv:Lk 4 mS:=ls rG (aC gJ (aC p6 (aC ru aN)))
def b6:LDCn×LDCn×Int×Unit->Option ((LDCn×LDCn×Int×Unit)⊕((Bool×Unit)⊕(LDCn×LDCn×T00))):=λ(v0,v1,v2,_)=>
let x0:=aT v0.length;
bif decide (v2 < x0) then ((dC v2).bind λx1=>
(dD v0 x1).bind λx2=>
(dC v2).bind λx3=>
(dD v1 x3).bind λx4=>
let x5:Bool:=(!((x2.1==x4.1) && ((x2.2.1==x4.2.1) && ((x2.2.2.1==x4.2.2.1) && ((x2.2.2.2==x4.2.2.2) && true)))));
bif x5 then (some (.inr (.inl (false,())))) else
let x6:=w64 (v2+1);
some (.inl (v0,v1,x6,()))) else
some (.inr (.inr (v0,v1,v2,false,())))
def cI(a0:LDCn) (a1:LDCn):Option (Bool×Unit):=
let x0:=aT a0.length;
let x1:=aT a1.length;
bif (x0 != x1) then (some (false,())) else
(match bn b6 NN (a0,a1,0,()) with
| none=>none
| some (.inl (x2,_))=>
some (x2,())
| some (.inr (x2,_))=>
some (true,()))
def kA:X.Cfg:=⟨E0,[],[],[⟨6,0,qS [sP 0 cn,sP 1 cn,Uaa 5] [],[(.ret,qS [Xaa 4] []),(.exit 0,qS [sP 0 cn,sP 1 cn,Uaa 5,Xaa 14] [])]⟩]⟩
def ej:Ctr:=⟨51,40,uL [cn,cn],[],[⟨yab,[.one],[]⟩],ap2 cI⟩
theorem gw:Lk 1 ej:=ls kA aN
def dt(a0:Int) (a1:Int) (a2:Int) (a3:Int) (a4:Int) (a5:Int) (a6:Int) (a7:LDCn) (a8:Int) (a9:Int) (a10:Int) (a11:Int) (a12:Int) (a13:Int) (a14:Int) (a15:LDCn):Option (Bool×Unit):=
bif (a0==a8) then (bif (a1==a9) then (bif (a2==a10) then (bif (a3==a11) then (bif (a4==a12) then (bif (a5==a13) then (bif (a6==a14) then ((cI a7 a15).bind λ(x0,_)=>
some (x0,())) else
some (false,())) else
some (false,())) else
some (false,())) else
some (false,())) else
some (false,())) else
some (false,())) else
some (false,())
def ln:X.Cfg:=⟨E0,[ej],[],[]⟩
def gY:Ctr:=⟨52,41,[.agg Uac,.agg Uac],[],[⟨yab,[.one],[]⟩],ap16 dt⟩
theorem lk:Lk 2 gY:=ls ln (aC gw aN)
def eT(a0:Int) (a1:Int) (a2:LDCn) (a3:Int) (a4:Int) (a5:Int) (a6:Int) (a7:Int) (a8:Int) (a9:Int) (a10:LDCn) (a11:Int) (a12:Int) (a13:LDCn) (a14:Int) (a15:Int) (a16:Int) (a17:Int) (a18:Int) (a19:Int) (a20:Int) (a21:LDCn):Option (Bool×Unit):=
bif ((a0==a11) && ((a1==a12) && true)) then ((cI a2 a13).bind λ(x0,_)=>
bif x0 then ((dt a3 a4 a5 a6 a7 a8 a9 a10 a14 a15 a16 a17 a18 a19 a20 a21).bind λ(x1,_)=>
some (x1,())) else
some (false,())) else
some (false,())
def oW:X.Cfg:=⟨E0,[ej,gY],[],[]⟩
def jW:Ctr:=⟨47,42,[.agg uac,.agg uac],[],[⟨yab,[.one],[]⟩],ap22 eT⟩
theorem oJ:Lk 3 jW:=ls oW (aC gw (aC lk aN))
def bC:T0u->Option (T0u⊕T0v):=λ(v0,v1,v2,v3,_)=>
let x0:=aT v1.length;
bif decide (v0 < x0) then (((dC v0).bind λx1=>
(dD v1 x1).bind λx2=>
(dD v1 x1).bind λx3=>
(dC v0).bind λx4=>
(dD v2 x4).bind λx5=>
(dD v2 x4).bind λx6=>
(eT x3.1 x3.2.1 x3.2.2.1 x3.2.2.2.1 x3.2.2.2.2.1 x3.2.2.2.2.2.1 x3.2.2.2.2.2.2.1 x3.2.2.2.2.2.2.2.1 x3.2.2.2.2.2.2.2.2.1 x3.2.2.2.2.2.2.2.2.2.1 x3.2.2.2.2.2.2.2.2.2.2 x6.1 x6.2.1 x6.2.2.1 x6.2.2.2.1 x6.2.2.2.2.1 x6.2.2.2.2.2.1 x6.2.2.2.2.2.2.1 x6.2.2.2.2.2.2.2.1 x6.2.2.2.2.2.2.2.2.1 x6.2.2.2.2.2.2.2.2.2.1 x6.2.2.2.2.2.2.2.2.2.2).bind λ(x7,_)=>
bif (!x7) then ((dC v0).bind λx8=>
(dD v1 x8).bind λx9=>
(dD v1 x8).bind λac=>
let ae:LDCe:=[(ac.1,ac.2.1)];
bif (bK 16 v3.length ae.length) then let af:LDCe:=(List.append v3 ae);
some (v0,v1,v2,af,()) else none) else
some (v0,v1,v2,v3,()):Option (T0u)).bind λ(x1,x2,x3,x4,_)=>
let x5:=w64 (x1+1);
some (.inl (x5,x2,x3,x4,()))) else
some (.inr (v0,false,v1,v2,v3,()))
def cb(a0:List LDCn) (a1:LDTs) (a2:List LDCn) (a3:LDTs):Option (T04):=
((cR a0 a1).bind λ(x0,_)=>
bif (!x0) then (some (true,a0,a1,a2,a3,())) else
(cR a2 a3).bind λ(x1,_)=>
bif (!x1) then (some (true,a0,a1,a2,a3,())) else
(cP a0 a1).bind λ(x2,_)=>
(cP a2 a3).bind λ(x3,_)=>
(dq x2 x3).bind λ(x4,_)=>
bif (!x4) then (some (true,a0,a1,a2,a3,())) else
let x5:=aT a1.length;
let x6:=aT a3.length;
some ((x5 != x6),a0,a1,a2,a3,()):Option (Bool×LLCn×LDTs×T05)).bind λ(x0,x1,x2,x3,x4,_)=>
bif x0 then (some ([],1,())) else
(fj x1 x2).bind λ(x5,x6,_)=>
(fj x3 x4).bind λ(x7,x8,_)=>
(bn bC NN (0,x5,x7,[],())).bind λ(x9,ac,ae,af,ah,_)=>
some (ah,0,())
def mw:X.Cfg:=⟨E0,[gd,eW,gX,mS,jW],[],[⟨2,0,qE,[(.normal,qS [zaa 2,zaa 3,Xaa 36] [(6,uab),(8,uab)])]⟩,⟨12,1,qE,[(.normal,(qS [Zaa 6 15,Zaa 8 19,Zaa 10 23,Uaa 11] [(15,[shU (uaa (.pair I64 (.pair I64 (.pair cn dW))))]),(19,[shU (uaa (.pair I64 (.pair I64 (.pair cn dW))))]),(23,zab)]))]⟩,(lx 9 2 [Zaa 6 15,Zaa 8 19,Zaa 10 23,Uaa 11] [(15,[shU (uaa (.pair I64 (.pair I64 (.pair cn dW))))]),(19,[shU (uaa (.pair I64 (.pair I64 (.pair cn dW))))]),(23,zab)] 50)]⟩
def iA:Ctr:=⟨23,43,[.agg uab,.agg uab],[],[⟨zac,[.one,.one],[]⟩],ap4 cb⟩
theorem mq:Lk 5 iA:=ls mw (aC i4 (aC gJ (aC lj (aC rv (aC oJ aN)))))
def fM(a0:LDCe) (a1:Int):Option (LDCe×LDCe×Unit):=
let x0:=aT a0.length;
let x1:=mmR false a1 x0;
let x2:=mmR true 0 x1;
(dC x2).bind λx3=>
bif (dy 0 x3 a0.length) then let x4:LDCe:=(ld a0 0 (Nat.sub x3 0));
bif (bK 16 0 x4.length) then let x5:LDCe:=(List.append [] x4);
(dC x2).bind λx6=>
bif (dy x6 a0.length a0.length) then let x7:LDCe:=(ld a0 x6 (Nat.sub a0.length x6));
bif (bK 16 0 x7.length) then let x8:LDCe:=(List.append [] x7);
some (x5,x8,()) else none else none else none else none
def qd:X.Cfg:=⟨E0,[],[],[]⟩
def kY:Ctr:=⟨29,44,uad,[],[⟨yad,[.one,.one],[]⟩],ap2 fM⟩
theorem pZ:Lk 1 kY:=ls qd aN
def cw:LDCe×Int×T01->Option ((LDCe×Int×T01)⊕(LDCe×Int×Bool×T01)):=λ(v0,v1,v2,v3,_)=>
let x0:=aT v0.length;
bif decide (v1 < x0) then ((dC v1).bind λx1=>
(dD v0 x1).bind λx2=>
(dI x2.1 x2.2 v2 v3).bind λ(x3,_)=>
bif x3 then (let x4:Int:=(w64 (v1+1));
some (.inl (v0,x4,v2,v3,()))) else
some (.inr (v0,v1,false,v2,v3,()))) else
some (.inr (v0,v1,false,v2,v3,()))
def dw(a0:LDCe) (a1:Int) (a2:Int):Option (LDCe×Unit):=
(bn cw NN (a0,0,a1,a2,())).bind λ(x0,x1,x2,x3,x4,_)=>
(match (let x5:Int:=(aT x0.length);
bif decide (x1 < x5) then ((dC x1).bind λx6=>
(dD x0 x6).bind λx7=>
bif ((x7.1==x3) && ((x7.2==x4) && true)) then (some (.inl (x0,()))) else
some (.inr (x0,x1,false,x3,x4,()))) else
some (.inr (x0,x1,false,x3,x4,())):Option ((LDCe×Unit)⊕(LDCe×Int×Bool×T01))) with
| none=>none
| some (.inl (x5,_))=>
some (x5,())
| some (.inr (x5,x6,x7,x8,x9,_))=>
(dC x6).bind λac=>
bif (dy 0 ac x5.length) then let ae:LDCe:=(ld x5 0 (Nat.sub ac 0));
bif (bK 16 0 ae.length) then let af:LDCe:=(List.append [] ae);
let ah:LDCe:=[(x8,x9)];
bif (bK 16 af.length ah.length) then let aj:LDCe:=(List.append af ah);
(dC x6).bind λak=>
bif (dy ak x5.length x5.length) then let am:LDCe:=(ld x5 ak (Nat.sub x5.length ak));
bif (bK 16 aj.length am.length) then let an:LDCe:=(List.append aj am);
some (an,()) else none else none else none else none else none)
def rD:X.Cfg:=⟨E0,[jV],[],[(lx 3 0 [sP 0 (yaa (.pair I64 I64)),zaa 3,Uaa 5] [(8,Uab)] 18),⟨6,1,qE,[(.ret,qS [sP 4 (yaa (.pair I64 I64))] []),(.normal,qS [sP 0 (yaa (.pair I64 I64)),zaa 3,Uaa 5,Xaa 32] [(8,Uab)])]⟩]⟩
def jh:Ctr:=⟨53,45,[shU (yaa (.pair I64 I64)),.agg Uab],[],[⟨Xab,[.one],[]⟩],ap3 dw⟩
theorem mp:Lk 2 jh:=ls rD (aC oI aN)
def cx:LDCe×LDCe×T0d->Option ((LDCe×LDCe×T0d)⊕(LDCe×LDCe×Int×Bool×T09)):=λ(v0,v1,v2,v3)=>
let x0:=aT v0.length;
bif decide (v2 < x0) then ((dC v2).bind λx1=>
(dD v0 x1).bind λx2=>
(dw v1 x2.1 x2.2).bind λ(x3,_)=>
let x4:=w64 (v2+1);
some (.inl (v0,x3,x4,v3))) else
some (.inr (v0,v1,v2,false,v3))
def fi(a0:LDCe) (a1:Int) (a2:Int):Option (LDCe×Unit):=
(bn cx NN (a0,[],0,a1,a2,(),())).bind λ(x0,x1,x2,x3,x4,x5,x6,_)=>
(dw x1 x4 x5).bind λ(x7,_)=>
some (x7,())
def rE:X.Cfg:=⟨E0,[jh],[],[(lx 4 0 [sP 0 (yaa (.pair I64 I64)),zaa 3,sP 5 (yaa (.pair I64 I64)),Uaa 6] [(8,Uab),(13,uL [N0])] 10)]⟩
def mQ:Ctr:=⟨30,46,[shU (yaa (.pair I64 I64)),.agg Uab],[],[⟨Xab,[.one],[]⟩],ap3 fi⟩
theorem rr:Lk 3 mQ:=ls rE (aC mp aN)
def bV:LDCe×T0g->Option ((LDCe×T0g)⊕(LDCe×LDCe×LDCe×Int×Bool×Unit×Unit)):=λ(v0,v1,v2,v3,v4,_)=>
let x0:=aT v0.length;
bif decide (v3 < x0) then ((dC v3).bind λx1=>
(dD v0 x1).bind λx2=>
(dw v2 x2.1 x2.2).bind λ(x3,_)=>
let x4:=w64 (v3+1);
some (.inl (v0,v1,x3,x4,v4,()))) else
some (.inr (v0,v1,v2,v3,false,v4,()))
def bU:T0g->Option (T0g⊕(LDCe×LDCe×Int×Bool×Unit×Unit)):=λ(v0,v1,v2,v3,_)=>
let x0:=aT v0.length;
bif decide (v2 < x0) then ((dC v2).bind λx1=>
(dD v0 x1).bind λx2=>
(dw v1 x2.1 x2.2).bind λ(x3,_)=>
let x4:=w64 (v2+1);
some (.inl (v0,x3,x4,v3,()))) else
some (.inr (v0,v1,v2,false,v3,()))
def eS(a0:LDCe) (a1:LDCe):Option (LDCe×Unit):=
(bn bV NN (a0,a1,[],0,(),())).bind λ(x0,x1,x2,x3,x4,x5,_)=>
(bn bU NN (x1,x2,0,x5,())).bind λ(x6,x7,_)=>
some (x7,())
def oS:X.Cfg:=⟨E0,[jh],[],[(lx 4 0 [sP 0 (yaa (.pair I64 I64)),sP 1 (yaa (.pair I64 I64)),sP 5 (yaa (.pair I64 I64)),Uaa 6] [(13,uL [N0])] 11),⟨10,1,(qS [sP 1 (yaa (.pair I64 I64)),sP 5 (yaa (.pair I64 I64)),Uaa 7] [(13,uL [N0])]),[(.exit 2,(qS [sP 1 (yaa (.pair I64 I64)),sP 5 (yaa (.pair I64 I64)),Uaa 7,Xaa 23] [(13,uL [N0])]))]⟩]⟩
def jU:Ctr:=⟨31,47,Xac,[],[⟨Xab,[.one],[]⟩],ap2 eS⟩
theorem oH:Lk 3 jU:=ls oS (aC mp aN)
def eJ(a0:List LDCn) (a1:LDTs) (a2:List LDCn) (a3:LDTs) (a4:LDCe) (a5:LDCe) (a6:Int) (a7:Int) (a8:Int):Option (Bool×Unit):=
((dH a0 a1).bind λ(x0,_)=>
bif (!x0) then (some (a4,a5,a8,true,a0,a1,a2,a3,a6,a7,())) else
(dH a2 a3).bind λ(x1,_)=>
bif (!x1) then (some (a4,a5,a8,true,a0,a1,a2,a3,a6,a7,())) else
let x2:=aT a4.length;
let x3:=aT a5.length;
let x4:=w64 (x2+x3);
some (a4,a5,a8,(decide (x4 > 200)),a0,a1,a2,a3,a6,a7,()):Option (LDCe×LDCe×Int×Bool×LLCn×LDTs×LLCn×LDTs×T01)).bind λ(x0,x1,x2,x3,x4,x5,x6,x7,x8,x9,_)=>
bif x3 then ((cQ).bind λ(ac,_)=>
some (ac,())) else
(cf x4 x5 x6 x7).bind λ(ac,ae,_)=>
(cb x4 x5 x6 x7).bind λ(af,ah,_)=>
(eA x0 x2).bind λ(aj,ak,_)=>
(fM x0 x2).bind λ(am,an,_)=>
bif (ae==ah) then ((bF ac af).bind λ(ap,_)=>
bif ap then ((bF aj am).bind λ(aq,_)=>
bif aq then ((bF ak an).bind λ(au,_)=>
bif au then ((d8 x0 x8 x9).bind λ(av,_)=>
(fi x0 x8 x9).bind λ(aw,_)=>
(bF av aw).bind λ(ax,_)=>
bif ax then ((cq x0 x1).bind λ(ay,_)=>
(eS x0 x1).bind λ(az,_)=>
(bF ay az).bind λ(aA,_)=>
bif aA then ((cQ).bind λ(aB,_)=>
some (aB,())) else
some (false,())) else
some (false,())) else
some (false,())) else
some (false,())) else
some (false,())) else
some (false,())
def lq:X.Cfg:=⟨E0,[jT,jY,iB,iA,la,kY,iz,ji,mQ,jZ,jU],[],[⟨2,0,qE,[(.normal,qS [sP 2 (yaa (.pair I64 I64)),sP 3 (yaa (.pair I64 I64)),Uaa 5,zaa 6,zaa 7,zaa 10,Xaa 36] [(14,uab),(16,uab),(22,Uab)])]⟩]⟩
def g6:Ctr:=⟨7,48,[.agg uab,.agg uab,shU (yaa (.pair I64 I64)),shU (yaa (.pair I64 I64)),.agg Uab,shU I64],[],[⟨yab,[.one],[]⟩],ap9 eJ⟩
theorem k_law27_DirtyRaw:Lk 8 g6:=ls lq (aC oG (aC oL (aC mr (aC mq (aC p9 (aC pZ (aC kS (aC ms (aC rr (aC oM (aC oH aN)))))))))))
end
end Go.Proofs.Yteonljfnncdijaa
namespace Go.Proofs.Yteonljfnncdijaa
set_option maxRecDepth 100000
noncomputable section
end
end Go.Proofs.Yteonljfnncdijaa
namespace Go.Proofs.Yteonljfnncdijaa
open Go.RowKit
theorem Cr:(Try.prog.funcs.all λfn=>!(fn.name=="runtime.NumGoroutine"))=true:=by kernel_rfl
theorem uk:fZ Try.prog 17:=by
 obtain⟨fn,hf,hb⟩:∃fn,Try.prog.funcs[17]?=some fn/\fn.body.isSome=true:=by
  have hs:(match Try.prog.funcs[17]? with | some fn=>fn.body.isSome | none=>false)=true:=by kernel_rfl
  cases h:Try.prog.funcs[17]? with
  | none=>rw[h] at hs;cases hs
  | some fn=>rw[h] at hs;exact⟨fn,rfl,hs⟩
 obtain⟨c,hc⟩:=Option.isSome_iff_exists.1 hb;refine ix hf ?_ hc;obtain⟨hlt,he⟩:=Array.getElem?_eq_some_iff.1 hf;have:=Array.all_eq_true.1 Cr 17 hlt;rw[he] at this;simpa using this
def Be(x:Value) (w:World) (e:Ending) (w':World):Prop:=e=.returned (.pointer (some ⟨w.heap.size,0,none⟩))/\w'=w.alloc (.cells #[x,.int .i64 0] 72)
theorem AH(x:Value) (hx:x.oneCell'=true) (w:World) :
 Calls Try.prog 17 #[x] w (Be x w):=by
 cases x
 all_goals first
  | (go_enter Try.func17,Try.ntmps17
     go_wp2
     go_ret
     exact⟨rfl,rfl⟩)
  | simp[Value.oneCell'] at hx
theorem e0_ok:xL Try.prog E0:=by
 intro f n tm h;simp only[E0] at h;split at h
 ·rename_i e;subst e
  injection h with h
  injection h with h1 h2
  subst h1 h2;refine⟨uk,λx hx=>?_,72,λl2 w hl ZB=>?_⟩
  ·simp only[List.mem_cons,List.not_mem_nil,or_false] at hx;rcases hx with hx | hx
   ·injection hx
   ·injection hx with hx;rw[hx];rfl
  ·match l2,hl with
   | [x],_=>exact AH x (ZB x (by simp[bxV])) w
 ·simp at h
def Ok{α:Type}(o:Option α) (Q:α->Prop):Prop:=∃a,o=some a/\Q a
section
variable {α β:Type}
theorem Ok.ret{a:α}{Q:α->Prop}(h:Q a):Ok (some a) Q:=⟨a,rfl,h⟩
theorem Ok.bind{o:Option α}{f:α->Option β}{P:α->Prop}{Q:β->Prop}(h:Ok o P) (h2:∀a,P a->Ok (f a) Q):Ok (o.bind f) Q:=by
 obtain⟨a,rfl,h1⟩:=h
 simp_all
theorem Ok.mono{o:Option α}{P Q:α->Prop}(h:Ok o P) (h2:∀a,P a->Q a):Ok o Q:=by
 have ⟨a,e,h1⟩:=h;exact⟨a,e,h2 a h1⟩
theorem Ok.cond{c:Bool}{a b:Option α}{Q:α->Prop}(h1:c=true->Ok a Q) (h2:c=false->Ok b Q):Ok (bif c then a else b) Q:=by
 grind
class BP (b:Bool) (P N:outParam Prop):Prop where
 t:b=true->P
 f:b=false->N
theorem Ok.get{l:List α}{i:Nat}{f:α->Option β}{Q:β->Prop}(h:i < l.length) (h2:∀a,l[i]?=some a->Ok (f a) Q):Ok ((dD l i).bind f) Q:=by
 have e:dD l i=some l[i]:=oGE h
 simp_all
theorem Ok.nat{x:Int}{f:Nat->Option β}{Q:β->Prop}(h:0<=x) (h2:∀n:Nat,x=n->Ok (f n) Q):Ok ((dC x).bind f) Q:=by
 obtain⟨n,rfl⟩:∃n:Nat,x=n:=⟨x.toNat,by omega⟩;exact h2 n rfl
theorem Ok.val{v:α}{f:α->Option β}{Q:β->Prop}(h:∀x,x=v->Ok (f x) Q):Ok (f v) Q:=h v rfl
theorem Bh{c:Bool}{a b:Option α}{Q:α->Prop}(hc:c=true) (h1:Ok a Q):Ok (bif c then a else b) Q:=by simp_all
theorem j7{S T:Type}{f:S->Option (S⊕T)}(P:S->Prop) (R:T->Prop) (m:S->Nat) {n:Nat}{s:S}(hs:P s) (hm:m s < n)
 (h:∀s,P s->Ok (f s) λr=>match r with | .inl s'=>P s'/\m s' < m s | .inr t=>R t):Ok (bn f n s) R:=by
 induction n generalizing s with
 | zero=>omega
 | succ n ih=>
  have ⟨r,e,hr⟩:=h s hs
  cases r with
  | inl s'=>
   have ⟨t,e2,hq⟩:=ih hr.1 (by omega);exact⟨t,by simp[bn,e];exact e2,hq⟩
  | inr t=>exact⟨t,by simp[bn,e],hr⟩
theorem Ok.loop{S T:Type}{f:S->Option (S⊕T)}{g:T->Option β}{Q:β->Prop}(P:S->Prop) (R:T->Prop) (m:S->Nat) {n:Nat}{s:S}(hs:P s) (hm:m s < n)
 (h:∀s,P s->Ok (f s) λr=>match r with | .inl s'=>P s'/\m s' < m s | .inr t=>R t) (hg:∀t,R t->Ok (g t) Q):Ok ((bn f n s).bind g) Q:=(j7 P R m hs hm h).bind hg
end
theorem bH{x:Int}(h1:-9223372036854775808<=x) (h2:x<=9223372036854775807):w64 x=x:=sk h1 h2
theorem bk(n:Nat):dC (n:Int)=some n:=rfl
theorem sU(n:Nat):aT n=(n:Int):=rfl
theorem cr{S T:Type}{f:S->Option (S⊕T)}(st:Nat->S) {n N:Nat}{fin:T}(hn:n < N) (h:∀i,i < n->f (st i)=some (.inl (st (i+1)))) (he:f (st n)=some (.inr fin)):bn f N (st 0)=some fin:=by
 have ZY:∀k i,i+k=n->k < N->∀M,k < M->bn f M (st i)=some fin:=by
  intro k
  induction k with
  | zero=>
   intro i hi _ M hM;obtain⟨M,rfl⟩:∃m,M=m+1:=⟨M - 1,by omega⟩
   have:i=n:=by omega
   subst this;simp[bn,he]
  | succ k ih=>
   intro i hi hk M hM;obtain⟨M,rfl⟩:∃m,M=m+1:=⟨M - 1,by omega⟩;simp only[bn,h i (by omega),oBS];exact ih (i+1) (by omega) (by omega) M (by omega)
 exact ZY n 0 (by omega) hn N hn
theorem jC{S T:Type}{f:S->Option (S⊕T)}(st:Nat->S) (p:Nat->Prop) {n N:Nat}{bad:Nat->T}{fin:T}(hn:n < N)
 (h:∀i,i < n->(p i/\f (st i)=some (.inl (st (i+1))))\/(¬ p i/\f (st i)=some (.inr (bad i)))) (he:f (st n)=some (.inr fin)) :
 ((∀i,i < n->p i)/\bn f N (st 0)=some fin)\/∃k,k < n/\(∀i,i < k->p i)/\¬ p k/\bn f N (st 0)=some (bad k):=by
 have ZY:∀k i,i+k=n->(∀j,j < i->p j)->∀M,k < M->((∀i,i < n->p i)/\bn f M (st i)=some fin)\/∃k,k < n/\(∀i,i < k->p i)/\¬ p k/\bn f M (st i)=some (bad k):=by
  intro k
  induction k with
  | zero=>
   intro i hi hp M hM;obtain⟨M,rfl⟩:∃m,M=m+1:=⟨M - 1,by omega⟩
   have:i=n:=by omega
   subst this;exact .inl ⟨hp,by simp[bn,he]⟩
  | succ k ih=>
   intro i hi hp M hM;obtain⟨M,rfl⟩:∃m,M=m+1:=⟨M - 1,by omega⟩;rcases h i (by omega) with ⟨h1,e⟩ | ⟨h1,e⟩
   ·simp only[bn,e,oBS]
    exact ih (i+1) (by omega) (λj hj=>by
     by_cases e:j=i
     ·subst e;exact h1
     ·exact hp j (by omega)) M (by omega)
   ·exact .inr ⟨i,by omega,hp,h1,by simp[bn,e]⟩
 exact ZY n 0 (by omega) (λj hj=>by omega) N hn
abbrev Sm{α:Type}(l:List α):Prop:=l.length<=1099511627776
theorem rn{n:Nat}(h:n<=1099511627776):n < NN:=by unfold NN;omega
theorem bI{α:Type}{l:List α}{i:Nat}(h:i < l.length):dD l i=some l[i]:=oGE h
theorem zC(x y:PID):((x.1==y.1) && ((x.2==y.2) && true))=decide (x=y):=by
 rw[Bool.and_true,Bool.eq_iff_iff];simp[Prod.ext_iff]
theorem ol{α:Type}{l:List α}{i:Nat}(h:i < l.length):l.take i++[l[i]]=l.take (i+1):=(List.take_append_getElem h)
theorem nN{a b:List PID}(ha:Sm a) (hb:Sm b):bF a b=some (decide (a=b),()):=by
 unfold bF;simp only[sU];by_cases hl:a.length=b.length
 rotate_left
 ·have:(((a.length:Int) != (b.length:Int)))=true:=by simp;omega
  rw[this,oCT,oDF λe=>hl (by rw[e])]
 have:(((a.length:Int) != (b.length:Int)))=false:=by simp;omega
 rw[this,oCF]
 have step:∀i,i < a.length->(a[i]?=b[i]?/\bB (a,b,(i:Int),())=some (.inl (a,b,((i+1:Nat):Int),())))\/(¬ a[i]?=b[i]?/\bB (a,b,(i:Int),())=some (.inr (.inl (false,())))):=by
  intro i hi;unfold bB;delta aT
  have ZW:i < b.length:=by omega
  dsimp only;rw[oDT (show (i:Int) < a.length by omega),oCT,bk];simp only[oBS,bI hi,bI ZW,zC];rw[bH (by omega) (by omega)];rw[oGE hi,oGE ZW];by_cases e:a[i]=b[i]
  ·rw[oDT e];exact .inl ⟨by rw[e],rfl⟩
  ·rw[oDF e];exact .inr ⟨λh=>e (by injection h),rfl⟩
 have fin:bB (a,b,(a.length:Int),())=some (.inr (.inr (a,b,(a.length:Int),false,()))):=by
  unfold bB;delta aT;dsimp only;rw[oDF (show ¬ (a.length:Int) < a.length by omega)];rfl
 rcases jC (f:=bB) (λi=>(a,b,(i:Int),())) _ (rn ha) step fin with ⟨h1,h2⟩ | ⟨k,hk,_,h1,h2⟩
 ·simp only[show bn bB NN (a,b,0,())=_ from h2];rw[oDT (p:=a=b)]
  exact List.ext_getElem? λi=>by
   by_cases hi:i < a.length
   ·exact h1 i hi
   ·rw[oGN (by omega),oGN (by omega)]
 ·simp only[show bn bB NN (a,b,0,())=_ from h2];rw[oDF λe=>h1 (by rw[e])]
theorem xF(a b:PID):dI a.1 a.2 b.1 b.2=some (bx a b,()):=by
 unfold dI bx;by_cases h:(a.1==-1)=(b.1==-1)
 ·simp only[h,beq_self_eq_true,oNT,oCF,bne_self_eq_false,Bool.false_eq_true,if_false];by_cases h1:a.1 < b.1
  ·simp[h1]
  ·by_cases h2:a.1=b.1
   ·simp[h2]
   ·simp[h1,oBF h2]
 ·have e1:((a.1==-1)==(b.1==-1))=false:=oBF h;have e2:((a.1==-1) != (b.1==-1))=true:=bne_iff_ne.2 h;simp only[e1,e2,Bool.not_false,oCT,if_true]
def fF(l:List PID) (x:PID):Nat:=(l.takeWhile (bx · x)).length
theorem AP(l:List PID) (x:PID):gA l x=if l[fF l x]?=some x then l else l.take (fF l x)++[x]++l.drop (fF l x):=by
 induction l with
 | nil=>simp[gA,fF]
 | cons y r ih=>
  unfold gA fF;by_cases h:bx y x=true
  ·simp only[h,if_true,List.takeWhile_cons,oLC,List.getElem?_cons_succ,List.take_succ_cons,List.drop_succ_cons,List.cons_append];rw[ih];unfold fF;split<;>rfl
  ·simp only[h,Bool.false_eq_true,if_false,List.takeWhile_cons,List.length_nil,List.getElem?_cons_zero,List.take_zero,List.drop_zero,List.nil_append,oSJ];by_cases e:y=x
   ·simp[e]
   ·simp[e]
theorem bw{sz n m:Nat}(h1:n<=1099511627776) (h2:m<=1099511627776) (h3:sz<=128) (h4:n+m<=1099511627776):bK sz n m=true:=by
 unfold bK;have:(n+m)*sz<=1099511627776*128:=Nat.mul_le_mul h4 h3;simp only[oBA,oDE];exact⟨h4,by omega⟩
theorem sb{a:List PID}(h:Sm a):bv a=some (a,()):=by
 unfold bv;rw[bw (by omega) h (by omega) (by have:=h;omega),oCT];rfl
theorem sx{a:List PID}(h:Sm a):bR a=some (fH a,()):=oIP h
theorem B3{a:List PID}(h:a.length+1<=1099511627776) (p r:Int):d8 a p r=some (fH (a++[(p,r)]),()):=by
 unfold d8;rw[sb (show Sm a by unfold Sm;omega),oBS];dsimp only;rw[bw (by omega) (by simp) (by omega) (by simpa using h),oCT];rw[sx (show Sm (List.append a [(p,r)]) by unfold Sm;simpa using h)];rfl
theorem AK{a b:List PID}(h:a.length+b.length<=1099511627776):cq a b=some (fH (a++b),()):=by
 unfold cq cj
 have e:List.flatten [a,b]=a++b:=by simp
 dsimp only;rw[e,oIP ⟨by rw[List.length_append];exact h,by simp⟩,oBS];dsimp only;rw[sx (show Sm (a++b) by unfold Sm;rw[List.length_append];exact h)];rfl
def fG(n:Nat) (k:Int):Nat:=(max 0 (min k (n:Int))).toNat
theorem CH(n:Nat) (k:Int):mmR true 0 (mmR false k (aT n))=(fG n k:Int):=by
 rw[sU];unfold mmR fG;simp only[Bool.false_eq_true,if_false,if_true];by_cases h1:(n:Int) < k
 ·rw[oIP h1,Int.min_eq_right (by omega)];by_cases h2:(0:Int) < n
  ·rw[oIP h2,Int.max_eq_right (by omega),Int.toNat_of_nonneg (by omega)]
  ·rw[oIN h2,Int.max_eq_left (by omega)];rfl
 ·rw[oIN h1,Int.min_eq_left (by omega)];by_cases h2:(0:Int) < k
  ·rw[oIP h2,Int.max_eq_right (by omega),Int.toNat_of_nonneg (by omega)]
  ·rw[oIN h2,Int.max_eq_left (by omega)];rfl
theorem oo(n:Nat) (k:Int):fG n k<=n:=by
 unfold fG;omega
theorem Bt{a:List PID}(h:Sm a) (k:Int):eA a k=some (a.take (fG a.length k),a.drop (fG a.length k),()):=by
 unfold eA;dsimp only;have hk:=oo a.length k;have h0:=h;simp only[CH,bk,oBS]
 have e1:dy 0 (fG a.length k) a.length=true:=by unfold dy;simp[hk]
 have e2:dy (fG a.length k) a.length a.length=true:=by unfold dy;simp[hk]
 have e3:ld a 0 (Nat.sub (fG a.length k) 0)=a.take (fG a.length k):=by unfold ld;rfl
 have e4:ld a (fG a.length k) (Nat.sub a.length (fG a.length k))=a.drop (fG a.length k):=by
  unfold ld;rw[List.take_of_length_le (by rw[List.length_drop];exact Nat.le_refl _)]
 rw[e1,oCT,e3,sb (by unfold Sm;rw[oLT];omega),oBS];dsimp only;rw[e2,oCT,e4,sb (by unfold Sm;rw[List.length_drop];omega)];rfl
theorem po:cQ=some (true,()):=by
 unfold cQ;dsimp only;rw[B3 (by simp),oBS];dsimp only
 have e:fH ([(0,1),(-1,0)]++[(1,0)])=[(0,1),(1,0),(-1,0)]:=by decide +kernel
 rw[e,nN (by unfold Sm;simp) (by unfold Sm;simp)];rfl
theorem jB{α S T:Type} [DecidableEq α] {a b:List α}(hl:a.length=b.length) (hs:Sm a) {f:S->Option (S⊕T)}(st:Nat->S) {bad fin:T}
 (step:∀i (h:i < a.length) (h':i < b.length),f (st i)=bif decide (a[i]=b[i]) then some (.inl (st (i+1))) else some (.inr bad)) (he:f (st a.length)=some (.inr fin)) :
 bn f NN (st 0)=some (bif decide (a=b) then fin else bad):=by
 rcases jC (f:=f) st (λi=>a[i]?=b[i]?) (bad:=λ_=>bad) (rn hs) (λi hi=>by
  rw[step i hi (hl ▸ hi),oGE hi,oGE (hl ▸ hi)];by_cases e:a[i]=b[i]'(hl ▸ hi)
  ·exact .inl ⟨by rw[e],by rw[oDT e];rfl⟩
  ·exact .inr ⟨λh=>e (by injection h),by rw[oDF e];rfl⟩) he with ⟨h1,h2⟩ | ⟨k,hk,_,h1,h2⟩
 ·rw[h2,oDT (p:=a=b)]
  ·rfl
  ·exact List.ext_getElem? λi=>by
    by_cases hi:i < a.length
    ·exact h1 i hi
    ·rw[oGN (by omega),oGN (by omega)]
 ·rw[h2,oDF λe=>h1 (by rw[e])];rfl
theorem nS{α:Type}{a b:List α}(h:a.length=b.length):((a.length:Int) != (b.length:Int))=false:=by simp;omega
theorem ku{α:Type}{a b:List α}(h:¬ a.length=b.length):((a.length:Int) != (b.length:Int))=true:=by simp;omega
theorem zE(x y:Int):(x != y)=!decide (x=y):=by
 by_cases h:x=y
 ·subst h;simp
 ·rw[oDF h,bne_iff_ne.2 h];rfl
theorem lI{α:Type}(b:Bool) (x y:α):(bif !b then x else y)=bif b then y else x:=by cases b<;>rfl
theorem zL(x y:DCn):(!((x.1==y.1) && ((x.2.1==y.2.1) && ((x.2.2.1==y.2.2.1) && ((x.2.2.2==y.2.2.2) && true)))))=!decide (x=y):=by
 congr 1;rw[Bool.and_true,Bool.eq_iff_iff];simp[Prod.ext_iff]
theorem zI{a b:List Int}(ha:Sm a):cW a b=some (decide (a=b),()):=by
 unfold cW;delta aT;dsimp only;by_cases hl:a.length=b.length
 rotate_left
 ·rw[ku hl,oCT,oDF λe=>hl (by rw[e])]
 rw[nS hl,oCF];have h0:=ha
 have:=jB (f:=bM) hl ha (λi=>(a,b,(a.length:Int),(i:Int),())) (bad:=.inl (false,())) (fin:=.inr (a,b,(a.length:Int),(a.length:Int),false,()))
  (λi h h'=>by
   unfold bM;dsimp only;rw[oDT (show (i:Int) < a.length by omega),oCT,bk];simp only[oBS,bI h,bI h',zE,lI];rw[bH (by omega) (by omega)]
   rfl)
  (by
   unfold bM;dsimp only;rw[oDF (show ¬ (a.length:Int) < a.length by omega)]
   rfl)
 rw[show bn bM NN (a,b,(a.length:Int),0,())=_ from this];by_cases e:a=b
 ·rw[oDT e];rfl
 ·rw[oDF e];rfl
theorem pL{a b:List Int}(ha:Sm a):dq a b=some (decide (a=b),()):=by
 unfold dq;delta aT;dsimp only;by_cases hl:a.length=b.length
 rotate_left
 ·rw[ku hl,oCT,oDF λe=>hl (by rw[e])]
 rw[nS hl,oCF];have h0:=ha
 have:=jB (f:=ca) hl ha (λi=>(a,b,(i:Int),())) (bad:=.inl (false,())) (fin:=.inr (a,b,(a.length:Int),false,()))
  (λi h h'=>by
   unfold ca;delta aT;dsimp only;rw[oDT (show (i:Int) < a.length by omega),oCT,bk];simp only[oBS,bI h,bI h',zE,lI];rw[bH (by omega) (by omega)]
   rfl)
  (by
   unfold ca;delta aT;dsimp only;rw[oDF (show ¬ (a.length:Int) < a.length by omega)]
   rfl)
 rw[show bn ca NN (a,b,0,())=_ from this];by_cases e:a=b
 ·rw[oDT e];rfl
 ·rw[oDF e];rfl
theorem to{a b:List DCn}(ha:Sm a):b4 a b=some (decide (a=b),()):=by
 unfold b4;delta aT;dsimp only;by_cases hl:a.length=b.length
 rotate_left
 ·rw[ku hl,oCT,oDF λe=>hl (by rw[e])]
 rw[nS hl,oCF];have h0:=ha
 have:=jB (f:=bz) hl ha (λi=>(a,b,(a.length:Int),(i:Int),())) (bad:=.inl (false,())) (fin:=.inr (a,b,(a.length:Int),(a.length:Int),false,()))
  (λi h h'=>by
   unfold bz;dsimp only;rw[oDT (show (i:Int) < a.length by omega),oCT,bk];simp only[oBS,bI h,bI h',zL,lI];rw[bH (by omega) (by omega)]
   rfl)
  (by
   unfold bz;dsimp only;rw[oDF (show ¬ (a.length:Int) < a.length by omega)]
   rfl)
 rw[show bn bz NN (a,b,(a.length:Int),0,())=_ from this];by_cases e:a=b
 ·rw[oDT e];rfl
 ·rw[oDF e];rfl
theorem nM{a b:List DCn}(ha:Sm a):cI a b=some (decide (a=b),()):=by
 unfold cI;delta aT;dsimp only;by_cases hl:a.length=b.length
 rotate_left
 ·rw[ku hl,oCT,oDF λe=>hl (by rw[e])]
 rw[nS hl,oCF];have h0:=ha
 have:=jB (f:=b6) hl ha (λi=>(a,b,(i:Int),())) (bad:=.inl (false,())) (fin:=.inr (a,b,(a.length:Int),false,()))
  (λi h h'=>by
   unfold b6;delta aT;dsimp only;rw[oDT (show (i:Int) < a.length by omega),oCT,bk];simp only[oBS,bI h,bI h',zL,lI];rw[bH (by omega) (by omega)]
   rfl)
  (by
   unfold b6;delta aT;dsimp only;rw[oDF (show ¬ (a.length:Int) < a.length by omega)]
   rfl)
 rw[show bn b6 NN (a,b,0,())=_ from this];by_cases e:a=b
 ·rw[oDT e];rfl
 ·rw[oDF e];rfl
abbrev PG:=Int×Int×List DCn×DTs
instance CQ:DecidableEq DCn:=inferInstance
instance CV:DecidableEq (Int×Int×Int×List DCn):=inferInstance
instance CO:DecidableEq DTs:=inferInstanceAs (DecidableEq (Int×Int×Int×Int×(Int×Int×Int×List DCn)))
instance CP:DecidableEq PG:=inferInstanceAs (DecidableEq (Int×Int×List DCn×DTs))
theorem qG{x y:Int}{p:Prop} [Decidable p]:(bif (x==y) then (some (decide p,())) else some (false,()):Option (Bool×Unit))=some (decide (x=y/\p),()):=by
 by_cases h:x=y
 ·subst h;simp
 ·rw[oBF h,oDF (p:=x=y/\p) λe=>h e.1];rfl
theorem oa{p q:Prop} [Decidable p] [Decidable q]:((some (decide p,())).bind λ(x0,_)=>bif x0 then some (decide q,()) else some (false,()):Option (Bool×Unit))=some (decide (p/\q),()):=by
 by_cases h:p<;>by_cases h':q<;>simp[h,h']
theorem n9{x y z w:Int}{p:Prop} [Decidable p]:(bif ((x==y) && ((z==w) && true)) then (some (decide p,())) else some (false,()):Option (Bool×Unit))=some (decide (x=y/\z=w/\p),()):=by
 by_cases h:x=y
 ·subst h;by_cases h:z=w
  ·subst h;simp
  ·rw[oBF h,oDF (p:=x=x/\z=w/\p) λe=>h e.2.1];simp
 ·rw[oBF h,oDF (p:=x=y/\z=w/\p) λe=>h e.1];rfl
theorem mV{o:Option (Bool×Unit)}:(o.bind λ(x0,_)=>some (x0,()))=o:=by
 cases o with
 | none=>rfl
 | some x=>obtain⟨x,⟨⟩⟩:=x;rfl
theorem AX{x y:PG}(hx:Sm x.2.2.1) (hy:Sm x.2.2.2.2.2.2.2.2.2.2) :
 eU x.1 x.2.1 x.2.2.1 x.2.2.2.1 x.2.2.2.2.1 x.2.2.2.2.2.1 x.2.2.2.2.2.2.1 x.2.2.2.2.2.2.2.1 x.2.2.2.2.2.2.2.2.1 x.2.2.2.2.2.2.2.2.2.1 x.2.2.2.2.2.2.2.2.2.2 y.1 y.2.1 y.2.2.1 y.2.2.2.1 y.2.2.2.2.1 y.2.2.2.2.2.1 y.2.2.2.2.2.2.1 y.2.2.2.2.2.2.2.1 y.2.2.2.2.2.2.2.2.1 y.2.2.2.2.2.2.2.2.2.1 y.2.2.2.2.2.2.2.2.2.2=some (decide (x=y),()):=by
 unfold eU;simp only[to hx,to hy,mV,qG,oa,n9];congr 2;rw[decide_eq_decide];simp only[Prod.ext_iff,and_assoc]
theorem vW{x y:DTs}(hx:Sm x.2.2.2.2.2.2.2) :
 dt x.1 x.2.1 x.2.2.1 x.2.2.2.1 x.2.2.2.2.1 x.2.2.2.2.2.1 x.2.2.2.2.2.2.1 x.2.2.2.2.2.2.2 y.1 y.2.1 y.2.2.1 y.2.2.2.1 y.2.2.2.2.1 y.2.2.2.2.2.1 y.2.2.2.2.2.2.1 y.2.2.2.2.2.2.2=some (decide (x=y),()):=by
 unfold dt;simp only[nM hx,mV,qG];congr 2;rw[decide_eq_decide];simp only[Prod.ext_iff,and_assoc]
theorem AW{x y:PG}(hx:Sm x.2.2.1) (hy:Sm x.2.2.2.2.2.2.2.2.2.2) :
 eT x.1 x.2.1 x.2.2.1 x.2.2.2.1 x.2.2.2.2.1 x.2.2.2.2.2.1 x.2.2.2.2.2.2.1 x.2.2.2.2.2.2.2.1 x.2.2.2.2.2.2.2.2.1 x.2.2.2.2.2.2.2.2.2.1 x.2.2.2.2.2.2.2.2.2.2 y.1 y.2.1 y.2.2.1 y.2.2.2.1 y.2.2.2.2.1 y.2.2.2.2.2.1 y.2.2.2.2.2.2.1 y.2.2.2.2.2.2.2.1 y.2.2.2.2.2.2.2.2.1 y.2.2.2.2.2.2.2.2.2.1 y.2.2.2.2.2.2.2.2.2.2=some (decide (x=y),()):=by
 unfold eT;have:=vW (x:=x.2.2.2) (y:=y.2.2.2) hy;simp only[nM hx,this,mV,oa,n9];congr 2;rw[decide_eq_decide];simp only[Prod.ext_iff,and_assoc]
abbrev CC:=List (List DCn)
abbrev TT':=List DTs
def szs(C:CC):List Int:=C.map λc=>(c.length:Int)
theorem d9(C:CC):(szs C).length=C.length:=List.length_map _
theorem fL{α β:Type}{f:α->β}{l:List α}{i:Nat}(h:i < l.length):(l.take i).map f++[f l[i]]=(l.take (i+1)).map f:=by
 rw[<- ol h,List.map_append];rfl
theorem lW{C:CC}{T:TT'}(h:Sm C):c9 C T=some (szs C,()):=by
 unfold c9;delta aT;dsimp only;have h0:=h
 have step:∀i,i < C.length->bY (C,(C.length:Int),(i:Int),C,T,szs (C.take i),())=some (.inl (C,(C.length:Int),((i+1:Nat):Int),C,T,szs (C.take (i+1)),())):=by
  intro i hi;unfold bY;delta aT;dsimp only;rw[oDT (show (i:Int) < C.length by omega),oCT,bk];simp only[oBS,bI hi];rw[bw (by rw[d9,oLT];omega) (by simp) (by omega) (by rw[d9,oLT,List.length_singleton];omega),oCT,bH (by omega) (by omega)];have:List.append (szs (C.take i)) [((C[i].length:Nat):Int)]=szs (C.take (i+1)):=fL (f:=λc:List DCn=>(c.length:Int)) hi;rw[this];rfl
 have fin:bY (C,(C.length:Int),(C.length:Int),C,T,szs (C.take C.length),())=some (.inr (C,(C.length:Int),(C.length:Int),false,C,T,szs (C.take C.length),())):=by
  unfold bY;dsimp only;rw[oDF (show ¬ (C.length:Int) < C.length by omega)];rfl
 have:=cr (f:=bY) (λi=>(C,(C.length:Int),(i:Int),C,T,szs (C.take i),())) (rn h) step fin;rw[show bn bY NN (C,(C.length:Int),0,C,T,[],())=_ from this,List.take_length,oBS]
theorem ke{C:CC}{T:TT'}(h:Sm C):cP C T=some (szs C,()):=by
 unfold cP;have h0:=h
 have step:∀i,i < C.length->bW ((i:Int),C,T,szs (C.take i),())=some (.inl (((i+1:Nat):Int),C,T,szs (C.take (i+1)),())):=by
  intro i hi;unfold bW;delta aT;dsimp only;rw[oDT (show (i:Int) < C.length by omega),oCT,bk];simp only[oBS,bI hi];rw[bw (by rw[d9,oLT];omega) (by simp) (by omega) (by rw[d9,oLT,List.length_singleton];omega),oCT,bH (by omega) (by omega)];have:List.append (szs (C.take i)) [((C[i].length:Nat):Int)]=szs (C.take (i+1)):=fL (f:=λc:List DCn=>(c.length:Int)) hi;rw[this];rfl
 have fin:bW ((C.length:Int),C,T,szs (C.take C.length),())=some (.inr ((C.length:Int),false,C,T,szs (C.take C.length),())):=by
  unfold bW;delta aT;dsimp only;rw[oDF (show ¬ (C.length:Int) < C.length by omega)];rfl
 have:=cr (f:=bW) (λi=>((i:Int),C,T,szs (C.take i),())) (rn h) step fin;rw[show bn bW NN (0,C,T,[],())=_ from this,List.take_length,oBS]
def okZ(z:Int):Bool:=decide (1<=z/\z<=32)
theorem vh(z:Int):dK z=some (okZ z,()):=by
 unfold dK okZ;by_cases h:z>=1
 ·rw[oDT h,oCT];congr 2;rw[decide_eq_decide];omega
 ·rw[oDF h,oCF,oDF (by omega)]
def shp(C:CC) (T:TT'):Prop:=C.length<=4/\T.length<=4/\∀c∈C,okZ (c.length:Int)=true
instance {C:CC} {T:TT'}:Decidable (shp C T):=inferInstanceAs (Decidable (_/\_/\_))
theorem tG{α:Type}{p:α->Bool}{l:List α}(h:∀i,(hi:i < l.length)->p l[i]=true):∀x∈l,p x=true:=by
 intro x hx;obtain⟨i,hi,rfl⟩:=List.mem_iff_getElem.1 hx;exact h i hi
theorem uD{C:CC}(h:Sm C):bA C=some (!decide (∀c∈C,okZ (c.length:Int)=true),()):=by
 unfold bA cH;delta aT;dsimp only;have h0:=h
 have step:∀i,i < C.length->((∀hi:i < C.length,okZ (C[i].length:Int)=true)/\aU (C,(C.length:Int),(i:Int),())=some (.inl (C,(C.length:Int),((i+1:Nat):Int),()))) \/
  (¬ (∀hi:i < C.length,okZ (C[i].length:Int)=true)/\aU (C,(C.length:Int),(i:Int),())=some (.inr (.inl ((i:Int),())))):=by
  intro i hi;unfold aU;dsimp only;rw[oDT (show (i:Int) < C.length by omega),oCT,bk]
  have e:du C[i]=some (!okZ (C[i].length:Int),()):=by
   unfold du;delta aT;dsimp only;rw[vh];rfl
  simp only[oBS,bI hi,e];rw[bH (by omega) (by omega)];by_cases q:okZ (C[i].length:Int)=true
  ·exact .inl ⟨λ_=>q,by rw[q];rfl⟩
  ·exact .inr ⟨λg=>q (g hi),by rw[Bool.not_eq_true] at q;rw[q];rfl⟩
 have fin:aU (C,(C.length:Int),(C.length:Int),())=some (.inr (.inr (C,(C.length:Int),(C.length:Int),false,()))):=by
  unfold aU;dsimp only;rw[oDF (show ¬ (C.length:Int) < C.length by omega)];rfl
 rcases jC (f:=aU) (λi=>(C,(C.length:Int),(i:Int),())) _ (rn h) step fin with ⟨h1,h2⟩ | ⟨k,hk,_,h1,h2⟩
 ·rw[show bn aU NN (C,(C.length:Int),0,())=_ from h2];rw[oDT (tG (p:=λc:List DCn=>okZ (c.length:Int)) λi hi=>h1 i hi hi)];rfl
 ·rw[show bn aU NN (C,(C.length:Int),0,())=_ from h2];rw[oDF (λg=>h1 λhi=>g _ (List.getElem_mem hi))];simp only[oBS];rw[oDT (show (k:Int)>=0 by omega)];rfl
theorem sM{C:CC}{T:TT'}(h:Sm C):em C T=some (decide (shp C T),()):=by
 unfold em;delta aT;dsimp only;by_cases h1:C.length<=4
 ·rw[oDT (show (C.length:Int)<=4 by omega),oCT];by_cases h2:T.length<=4
  ·rw[oDT (show (T.length:Int)<=4 by omega),oCT,uD h];simp only[oBS,Bool.not_not];congr 2;rw[decide_eq_decide];exact⟨λg=>⟨h1,h2,g⟩,λg=>g.2.2⟩
  ·rw[oDF (show ¬ (T.length:Int)<=4 by omega),oCF,oDF λg=>h2 g.2.1]
 ·rw[oDF (show ¬ (C.length:Int)<=4 by omega),oCF,oDF λg=>h1 g.1]
theorem uC{S:List Int}(h:Sm S) (hok:∀z∈S,okZ z=true):bL S=some (false,()):=by
 unfold bL cT;delta aT;dsimp only;have h0:=h
 have step:∀i,i < S.length->bf (S,(S.length:Int),(i:Int),())=some (.inl (S,(S.length:Int),((i+1:Nat):Int),())):=by
  intro i hi;unfold bf;dsimp only;rw[oDT (show (i:Int) < S.length by omega),oCT,bk]
  have e:en S[i]=some (false,()):=by
   unfold en;rw[vh,hok _ (List.getElem_mem hi)];rfl
  simp only[oBS,bI hi,e];rw[bH (by omega) (by omega)];rfl
 have fin:bf (S,(S.length:Int),(S.length:Int),())=some (.inr (.inr (S,(S.length:Int),(S.length:Int),false,()))):=by
  unfold bf;dsimp only;rw[oDF (show ¬ (S.length:Int) < S.length by omega)];rfl
 have:=cr (f:=bf) (λi=>(S,(S.length:Int),(i:Int),())) (rn h) step fin;rw[show bn bf NN (S,(S.length:Int),0,())=_ from this];rfl
theorem xo{S:List Int}{n:Nat}(h:Sm S):∃e:Int,dJ S n=some (e,())/\(e=0↔S.length<=4/\n<=4/\∀z∈S,okZ z=true):=by
 unfold dJ;delta aT;dsimp only;by_cases h1:S.length<=4
 rotate_left
 ·rw[oDT (show (S.length:Int) > 4 by omega),oCT];exact⟨3,rfl,λg=>absurd g (by decide),λg=>absurd g.1 h1⟩
 rw[oDF (show ¬ (S.length:Int) > 4 by omega),oCF];by_cases h2:n<=4
 rotate_left
 ·rw[oDT (show (n:Int) > 4 by omega),oCT];exact⟨3,rfl,λg=>absurd g (by decide),λg=>absurd g.2.1 h2⟩
 rw[oDF (show ¬ (n:Int) > 4 by omega),oCF];have h0:=h
 have step:∀i,i < S.length->((∀hi:i < S.length,okZ S[i]=true)/\bu (S,(n:Int),(i:Int),())=some (.inl (S,(n:Int),((i+1:Nat):Int),()))) \/
  (¬ (∀hi:i < S.length,okZ S[i]=true)/\bu (S,(n:Int),(i:Int),())=some (.inr (.inl (1,())))):=by
  intro i hi;unfold bu;delta aT;dsimp only;rw[oDT (show (i:Int) < S.length by omega),oCT,bk];simp only[oBS,bI hi];rw[bH (by omega) (by omega)];by_cases q1:S[i] < 1
  ·rw[oDT q1];exact .inr ⟨λg=>by have:=of_decide_eq_true (g hi);omega,rfl⟩
  ·rw[oDF q1,oCF];by_cases q2:S[i] > 32
   ·rw[oDT q2];exact .inr ⟨λg=>by have:=of_decide_eq_true (g hi);omega,rfl⟩
   ·rw[oDF q2,oCF];exact .inl ⟨λ_=>oDT (by omega),rfl⟩
 have fin:bu (S,(n:Int),(S.length:Int),())=some (.inr (.inr (S,(n:Int),(S.length:Int),false,()))):=by
  unfold bu;delta aT;dsimp only;rw[oDF (show ¬ (S.length:Int) < S.length by omega)];rfl
 rcases jC (f:=bu) (λi=>(S,(n:Int),(i:Int),())) _ (rn h) step fin with ⟨g1,g2⟩ | ⟨k,hk,_,g1,g2⟩
 ·rw[show bn bu NN (S,(n:Int),0,())=_ from g2];dsimp only;rw[oDF (show ¬ (n:Int) < 0 by omega)];exact⟨0,rfl,λ_=>⟨h1,h2,tG λi hi=>g1 i hi hi⟩,λ_=>rfl⟩
 ·rw[show bn bu NN (S,(n:Int),0,())=_ from g2];exact⟨1,rfl,λg=>absurd g (by decide),λg=>absurd (λhi=>g.2.2 _ (List.getElem_mem hi)) g1⟩
theorem vO{C:CC}{T:TT'}:((szs C).length<=4/\T.length<=4/\∀z∈szs C,okZ z=true)↔shp C T:=by
 unfold shp szs;rw[List.length_map];simp
theorem jp{C:CC}{T:TT'}(h:Sm C):cR C T=some (decide (shp C T),()):=by
 unfold cR;rw[ke h];obtain⟨e,h1,h2⟩:=xo (S:=szs C) (n:=T.length) (show Sm (szs C) by unfold Sm;rw[d9];exact h);rw[vO] at h2;delta aT;simp only[oBS,h1];congr 2;rw[Bool.eq_iff_iff,beq_iff_eq,decide_eq_true_iff];exact h2
def j6(z:Int):Nat:=((z+7) / 8).toNat
def jt(S:List Int) (i:Nat):List PID:=(List.range (j6 (S.getD i 0))).map λ(j:Nat)=>((i:Int),(j:Int))
def pgs(S:List Int) (n:Nat):List PID:=(List.range S.length).flatMap (jt S)++(List.range n).map λ(t:Nat)=>(-1,(t:Int))
def Szs(S:List Int):Prop:=S.length<=4/\∀z∈S,okZ z=true
theorem u9{S:List Int}(h:Szs S) {i:Nat}(hi:i < S.length):1<=S[i]/\S[i]<=32:=of_decide_eq_true (h.2 _ (List.getElem_mem hi))
theorem xi{S:List Int}(h:Szs S) {i:Nat}(hi:i < S.length):j6 (S.getD i 0)<=4:=by
 have:=u9 h hi
 have e:S.getD i 0=S[i]:=by simp[hi]
 rw[e];unfold j6;omega
theorem jw{S:List Int}(h:Szs S):∀i,i<=S.length->((List.range i).flatMap (jt S)).length<=4*i:=by
 intro i
 induction i with
 | zero=>intro _;simp
 | succ i ih=>
  intro hi;rw[List.range_succ,List.flatMap_append,List.length_append];have h1:=ih (by omega)
  have h2:(jt S i).length=j6 (S.getD i 0):=by unfold jt;simp
  have h3:=xi h (i:=i) (by omega);simp only[List.flatMap_cons,List.flatMap_nil,List.append_nil];omega
theorem qq{S:List Int}(i:Nat):(List.range (i+1)).flatMap (jt S)=(List.range i).flatMap (jt S)++jt S i:=by
 rw[List.range_succ,List.flatMap_append];simp
theorem iJ{α:Type}(f:Nat->α) (j:Nat):(List.range (j+1)).map f=(List.range j).map f++[f j]:=by
 rw[List.range_succ,List.map_append];rfl
theorem sW{z:Int}(h:1<=z/\z<=32) (j:Nat):((j:Int)*8 < z)↔j < j6 z:=by
 unfold j6;omega
theorem BG{S:List Int}{n:Nat}(h:Szs S) (hn:n<=4):fO S n=some (pgs S n,0,()):=by
 unfold fO;delta aT;dsimp only;have h4:=h.1;rw[oDF (show ¬ (S.length:Int) > 4 by omega),oCF,oDF (show ¬ (n:Int) > 4 by omega),oCF,oDF (show ¬ (n:Int) < 0 by omega),oCF];rw[uC (by unfold Sm;omega) h.2,oBS];simp only[oCF]
 have Xf:∀i,i < S.length->cd ((n:Int),S,(S.length:Int),(i:Int),(List.range i).flatMap (jt S),())=some (.inl ((n:Int),S,(S.length:Int),((i+1:Nat):Int),(List.range (i+1)).flatMap (jt S),())):=by
  intro i hi;have hz:=u9 h hi;have hl:=jw h i (by omega);have hc:=xi h hi
  have eg:S.getD i 0=S[i]:=by simp[hi]
  unfold cd;dsimp only;rw[oDT (show (i:Int) < S.length by omega),oCT,bk];simp only[oBS,bI hi]
  let A:=(List.range i).flatMap (jt S)
  let st:Nat->_:=λj=>((n:Int),(i:Int),S[i],(j:Int),S,(S.length:Int),(i:Int),A++(List.range j).map (λ(j:Nat)=>(((i:Int),(j:Int)):PID)),())
  have Xe:∀j,j < j6 S[i]->bQ (st j)=some (.inl (st (j+1))):=by
   intro j hj;show bQ ((n:Int),(i:Int),S[i],(j:Int),S,(S.length:Int),(i:Int),A++(List.range j).map (λ(j:Nat)=>(((i:Int),(j:Int)):PID)),())=_;unfold bQ;dsimp only;rw[eg] at hc;rw[bH (x:=(j:Int)*8) (by omega) (by omega),oDT ((sW hz j).2 hj),oCT];have hA:A.length<=4*i:=hl;rw[bw (by rw[List.length_append,List.length_map,List.length_range];omega) (by simp) (by omega) (by rw[List.length_append,List.length_map,List.length_range,List.length_singleton];omega),oCT,bH (by omega) (by omega)]
   have e:List.append (A++(List.range j).map (λ(j:Nat)=>(((i:Int),(j:Int)):PID))) [((i:Int),(j:Int))]=A++(List.range (j+1)).map (λ(j:Nat)=>(((i:Int),(j:Int)):PID)):=by
    rw[iJ,<- List.append_assoc];rfl
   rw[e];rfl
  have Vq:bQ (st (j6 S[i]))=some (.inr ((n:Int),(i:Int),S[i],(j6 S[i]:Int),S,(S.length:Int),(i:Int),false,A++(List.range (j6 S[i])).map (λ(j:Nat)=>(((i:Int),(j:Int)):PID)),())):=by
   show bQ ((n:Int),(i:Int),S[i],(j6 S[i]:Int),S,(S.length:Int),(i:Int),A++(List.range (j6 S[i])).map (λ(j:Nat)=>(((i:Int),(j:Int)):PID)),())=_;unfold bQ;dsimp only;rw[eg] at hc;rw[bH (x:=(j6 S[i]:Int)*8) (by omega) (by omega),oDF (λg=>by have:=(sW hz _).1 g;omega)];rfl
  have hI:=cr (f:=bQ) st (n:=j6 S[i]) (N:=NN) (by rw[eg] at hc;unfold NN;omega) Xe Vq
  have e0:st 0=((n:Int),(i:Int),S[i],0,S,(S.length:Int),(i:Int),(List.range i).flatMap (jt S),()):=by
   show ((n:Int),(i:Int),S[i],(0:Int),S,(S.length:Int),(i:Int),A++[],())=_;rw[List.append_nil]
  rw[<- e0,hI];simp only[oBS];rw[bH (by omega) (by omega),qq]
  have er:(List.range (j6 S[i])).map (λ(j:Nat)=>(((i:Int),(j:Int)):PID))=jt S i:=by unfold jt;rw[eg]
  rw[er];rfl
 have Vr:cd ((n:Int),S,(S.length:Int),(S.length:Int),(List.range S.length).flatMap (jt S),())=some (.inr ((n:Int),S,(S.length:Int),(S.length:Int),false,(List.range S.length).flatMap (jt S),())):=by
  unfold cd;dsimp only;rw[oDF (show ¬ (S.length:Int) < S.length by omega)];rfl
 have hO:=cr (f:=cd) (λi=>((n:Int),S,(S.length:Int),(i:Int),(List.range i).flatMap (jt S),())) (n:=S.length) (N:=NN) (by unfold NN;omega) Xf Vr;rw[show bn cd NN ((n:Int),S,(S.length:Int),0,[],())=_ from hO];simp only[oBS];have hl:=jw h S.length (Nat.le_refl _)
 let B:=(List.range S.length).flatMap (jt S)
 have hB:B.length<=4*S.length:=hl
 let st:Nat->_:=λt=>((n:Int),(t:Int),B++(List.range t).map (λ(t:Nat)=>((-1,(t:Int)):PID)),())
 have Xg:∀t,t < n->bP (st t)=some (.inl (st (t+1))):=by
  intro t ht;show bP ((n:Int),(t:Int),B++(List.range t).map (λ(t:Nat)=>((-1,(t:Int)):PID)),())=_;unfold bP;dsimp only;rw[oDT (show (t:Int) < n by omega),oCT];rw[bw (by rw[List.length_append,List.length_map,List.length_range];omega) (by simp) (by omega) (by rw[List.length_append,List.length_map,List.length_range,List.length_singleton];omega),oCT,bH (by omega) (by omega)]
  have e:List.append (B++(List.range t).map (λ(t:Nat)=>((-1,(t:Int)):PID))) [(-1,(t:Int))]=B++(List.range (t+1)).map (λ(t:Nat)=>((-1,(t:Int)):PID)):=by
   rw[iJ,<- List.append_assoc];rfl
  rw[e];rfl
 have Vt:bP (st n)=some (.inr ((n:Int),(n:Int),false,B++(List.range n).map (λ(t:Nat)=>((-1,(t:Int)):PID)),())):=by
  show bP ((n:Int),(n:Int),B++(List.range n).map (λ(t:Nat)=>((-1,(t:Int)):PID)),())=_;unfold bP;dsimp only;rw[oDF (show ¬ (n:Int) < n by omega)];rfl
 have hT:=cr (f:=bP) st (n:=n) (N:=NN) (by unfold NN;omega) Xg Vt
 have e0:st 0=((n:Int),0,B,()):=by
  show ((n:Int),(0:Int),B++[],())=_;rw[List.append_nil]
 rw[e0] at hT;rw[hT];rfl
theorem BH{S:List Int}{n:Nat}(h:Szs S) (hn:n<=4):fN S n=some (pgs S n,0,()):=by
 unfold fN;have h4:=h.1;obtain⟨e,h1,h2⟩:=xo (S:=S) (n:=n) (by unfold Sm;omega);have e0:e=0:=h2.2 ⟨h.1,hn,h.2⟩;subst e0;rw[h1,oBS];simp only[bne_self_eq_false,oCF]
 have Xf:∀i,i < S.length->cc (S,(n:Int),(i:Int),(List.range i).flatMap (jt S),())=some (.inl (S,(n:Int),((i+1:Nat):Int),(List.range (i+1)).flatMap (jt S),())):=by
  intro i hi;have hz:=u9 h hi;have hl:=jw h i (by omega);have hc:=xi h hi
  have eg:S.getD i 0=S[i]:=by simp[hi]
  unfold cc;delta aT;dsimp only;rw[oDT (show (i:Int) < S.length by omega),oCT]
  let A:=(List.range i).flatMap (jt S)
  let st:Nat->_:=λj=>(S,(n:Int),(i:Int),(j:Int),A++(List.range j).map (λ(j:Nat)=>(((i:Int),(j:Int)):PID)),())
  have Xe:∀j,j < j6 S[i]->bO (st j)=some (.inl (st (j+1))):=by
   intro j hj;show bO (S,(n:Int),(i:Int),(j:Int),A++(List.range j).map (λ(j:Nat)=>(((i:Int),(j:Int)):PID)),())=_;unfold bO;dsimp only;rw[eg] at hc;rw[bk];simp only[oBS,bI hi];rw[bH (x:=(j:Int)*8) (by omega) (by omega),oDT ((sW hz j).2 hj),oCT];have hA:A.length<=4*i:=hl;rw[bw (by rw[List.length_append,List.length_map,List.length_range];omega) (by simp) (by omega) (by rw[List.length_append,List.length_map,List.length_range,List.length_singleton];omega),oCT,bH (by omega) (by omega)]
   have e:List.append (A++(List.range j).map (λ(j:Nat)=>(((i:Int),(j:Int)):PID))) [((i:Int),(j:Int))]=A++(List.range (j+1)).map (λ(j:Nat)=>(((i:Int),(j:Int)):PID)):=by
    rw[iJ,<- List.append_assoc];rfl
   rw[e];rfl
  have Vq:bO (st (j6 S[i]))=some (.inr (S,(n:Int),(i:Int),(j6 S[i]:Int),false,A++(List.range (j6 S[i])).map (λ(j:Nat)=>(((i:Int),(j:Int)):PID)),())):=by
   show bO (S,(n:Int),(i:Int),(j6 S[i]:Int),A++(List.range (j6 S[i])).map (λ(j:Nat)=>(((i:Int),(j:Int)):PID)),())=_;unfold bO;dsimp only;rw[eg] at hc;rw[bk];simp only[oBS,bI hi];rw[bH (x:=(j6 S[i]:Int)*8) (by omega) (by omega),oDF (λg=>by have:=(sW hz _).1 g;omega)];rfl
  have hI:=cr (f:=bO) st (n:=j6 S[i]) (N:=NN) (by rw[eg] at hc;unfold NN;omega) Xe Vq
  have e0:st 0=(S,(n:Int),(i:Int),0,(List.range i).flatMap (jt S),()):=by
   show (S,(n:Int),(i:Int),(0:Int),A++[],())=_;rw[List.append_nil]
  rw[<- e0,hI];simp only[oBS];rw[bH (by omega) (by omega),qq]
  have er:(List.range (j6 S[i])).map (λ(j:Nat)=>(((i:Int),(j:Int)):PID))=jt S i:=by unfold jt;rw[eg]
  rw[er];rfl
 have Vr:cc (S,(n:Int),(S.length:Int),(List.range S.length).flatMap (jt S),())=some (.inr (S,(n:Int),(S.length:Int),false,(List.range S.length).flatMap (jt S),())):=by
  unfold cc;delta aT;dsimp only;rw[oDF (show ¬ (S.length:Int) < S.length by omega)];rfl
 have hO:=cr (f:=cc) (λi=>(S,(n:Int),(i:Int),(List.range i).flatMap (jt S),())) (n:=S.length) (N:=NN) (by unfold NN;omega) Xf Vr;rw[show bn cc NN (S,(n:Int),0,[],())=_ from hO];simp only[oBS];have hl:=jw h S.length (Nat.le_refl _)
 let B:=(List.range S.length).flatMap (jt S)
 have hB:B.length<=4*S.length:=hl
 let st:Nat->_:=λt=>((n:Int),(t:Int),B++(List.range t).map (λ(t:Nat)=>((-1,(t:Int)):PID)),())
 have Xg:∀t,t < n->bN (st t)=some (.inl (st (t+1))):=by
  intro t ht;show bN ((n:Int),(t:Int),B++(List.range t).map (λ(t:Nat)=>((-1,(t:Int)):PID)),())=_;unfold bN;dsimp only;rw[oDT (show (t:Int) < n by omega),oCT];rw[bw (by rw[List.length_append,List.length_map,List.length_range];omega) (by simp) (by omega) (by rw[List.length_append,List.length_map,List.length_range,List.length_singleton];omega),oCT,bH (by omega) (by omega)]
  have e:List.append (B++(List.range t).map (λ(t:Nat)=>((-1,(t:Int)):PID))) [(-1,(t:Int))]=B++(List.range (t+1)).map (λ(t:Nat)=>((-1,(t:Int)):PID)):=by
   rw[iJ,<- List.append_assoc];rfl
  rw[e];rfl
 have Vt:bN (st n)=some (.inr ((n:Int),(n:Int),false,B++(List.range n).map (λ(t:Nat)=>((-1,(t:Int)):PID)),())):=by
  show bN ((n:Int),(n:Int),B++(List.range n).map (λ(t:Nat)=>((-1,(t:Int)):PID)),())=_;unfold bN;dsimp only;rw[oDF (show ¬ (n:Int) < n by omega)];rfl
 have hT:=cr (f:=bN) st (n:=n) (N:=NN) (by unfold NN;omega) Xg Vt
 have e0:st 0=((n:Int),0,B,()):=by
  show ((n:Int),(0:Int),B++[],())=_;rw[List.append_nil]
 rw[e0] at hT;rw[hT];rfl
abbrev zTs:DTs:=(0,0,0,0,0,0,0,[])
def pg(C:CC) (T:TT') (p:PID):PG:=if p.1=-1 then (p.1,p.2,[],T.getD p.2.toNat zTs) else (p.1,p.2,((C.getD p.1.toNat []).drop (8*p.2.toNat)).take 8,zTs)
def SmT(T:TT'):Prop:=∀t∈T,Sm t.2.2.2.2.2.2.2
theorem AL{S:List Int}{i:Nat}{p:PID}:p∈jt S i↔∃j:Nat,j < j6 (S.getD i 0)/\p=((i:Int),(j:Int)):=by
 unfold jt;simp only[List.mem_map,List.mem_range];exact⟨λ⟨j,h,e⟩=>⟨j,h,e.symm⟩,λ⟨j,h,e⟩=>⟨j,h,e.symm⟩⟩
theorem ro{S:List Int}{n:Nat}{p:PID}:p∈pgs S n↔(∃i j:Nat,i < S.length/\j < j6 (S.getD i 0)/\p=((i:Int),(j:Int)))\/∃t:Nat,t < n/\p=(-1,(t:Int)):=by
 unfold pgs;simp only[List.mem_append,List.mem_flatMap,List.mem_range,AL,List.mem_map];constructor
 ·rintro (⟨i,hi,j,hj,e⟩ | ⟨t,ht,e⟩)
  ·exact .inl ⟨i,j,hi,hj,e⟩
  ·exact .inr ⟨t,ht,e.symm⟩
 ·rintro (⟨i,j,hi,hj,e⟩ | ⟨t,ht,e⟩)
  ·exact .inl ⟨i,hi,j,hj,e⟩
  ·exact .inr ⟨t,ht,e.symm⟩
theorem mg{S:List Int}{n:Nat}(h:Szs S) (hn:n<=4):(pgs S n).length<=20:=by
 have h1:=jw h S.length (Nat.le_refl _);have h2:=h.1;unfold pgs;rw[List.length_append,List.length_map,List.length_range];omega
theorem l7{C:CC}{T:TT'}(h:shp C T):Szs (szs C):=⟨by rw[d9];exact h.1,(vO.2 h).2.2⟩
theorem xj{a:List DCn}(h:Sm a):b5 a=some (a,()):=by
 unfold b5;rw[bw (by omega) h (by omega) (by have:=h;omega),oCT];rfl
theorem su{C:CC}{i:Nat}(h:i < C.length):(szs C).getD i 0=(C[i].length:Int):=by simp[szs,h]
theorem zu{l:List DCn}{a:Nat}(h:a<=l.length):ld l a (Nat.sub (Nat.min (a+8) l.length) a)=(l.drop a).take 8:=by
 unfold ld;rcases Nat.le_total (a+8) l.length with h1 | h1
 ·rw[show Nat.min (a+8) l.length=a+8 from Nat.min_eq_left h1,show Nat.sub (a+8) a=8 by show a+8 - a=8;omega]
 ·rw[show Nat.min (a+8) l.length=l.length from Nat.min_eq_right h1,show Nat.sub l.length a=(l.drop a).length by rw[List.length_drop];rfl,List.take_length,List.take_of_length_le (by rw[List.length_drop];omega)]
theorem wF(a b:Nat):mmR false (a:Int) (b:Int)=(Nat.min a b:Nat):=by
 unfold mmR;simp only[Bool.false_eq_true,if_false];show _=((min a b:Nat):Int);split<;>omega
theorem zF{c:List DCn}{j:Nat}(h:j < j6 (c.length:Int)):8*j < c.length:=by
 unfold j6 at h;omega
theorem ww{C:CC}{T:TT'}{i j:Nat}(hi:i < C.length):pg C T ((i:Int),(j:Int))=((i:Int),(j:Int),((C[i].drop (8*j)).take 8),zTs):=by
 unfold pg;rw[oIN (by simp)];simp[hi]
theorem mh{C:CC}{T:TT'}{t:Nat}(ht:t < T.length):pg C T (-1,(t:Int))=(-1,(t:Int),[],T[t]):=by
 unfold pg;rw[oIP rfl];simp[ht]
def BR(x:PG):Int×Int×List DCn×Int×Int×Int×Int×Int×Int×Int×List DCn×Unit:=(x.1,x.2.1,x.2.2.1,x.2.2.2.1,x.2.2.2.2.1,x.2.2.2.2.2.1,x.2.2.2.2.2.2.1,x.2.2.2.2.2.2.2.1,x.2.2.2.2.2.2.2.2.1,x.2.2.2.2.2.2.2.2.2.1,x.2.2.2.2.2.2.2.2.2.2,())
theorem Cw{C:CC}{T:TT'}(h:shp C T) (hT:SmT T) {p:PID}(hp:p∈pgs (szs C) T.length):fm C T p.1 p.2=some (BR (pg C T p)):=by
 unfold fm;rcases ro.1 hp with ⟨i,j,hi,hj,rfl⟩ | ⟨t,ht,rfl⟩
 ·rw[d9] at hi;rw[su hi] at hj;have ZZ:=zF hj;have hok:=of_decide_eq_true (h.2.2 _ (List.getElem_mem hi));rw[oBF (show ((i:Int))≠-1 by omega),oCF,bk];simp only[oBS,bI hi];unfold ic;delta aT;dsimp only;rw[oDF (show ¬ (j:Int) < 0 by omega),oCF,oDF (show ¬ (j:Int) > 32 by omega),oCF];simp only[oBS];rw[bH (x:=(j:Int)*8) (by omega) (by omega),oDF (show ¬ (j:Int)*8>=(C[i].length:Int) by omega),oCF,bH (x:=(j:Int)*8+8) (by omega) (by omega)];rw[show (j:Int)*8=((8*j:Nat):Int) by omega,show ((8*j:Nat):Int)+8=((8*j+8:Nat):Int) by omega,wF,bk,bk];simp only[oBS]
  have ho:dy (8*j) (Nat.min (8*j+8) C[i].length) C[i].length=true:=by
   unfold dy;have h1:Nat.min (8*j+8) C[i].length=min (8*j+8) C[i].length:=rfl;rw[h1];simp only[oBA,oDE];omega
  rw[ho,oCT,zu (by omega)];simp only[oBS];rw[xj (by unfold Sm;rw[oLT];omega),ww hi];rfl
 ·have hs:Sm (T[t]'ht).2.2.2.2.2.2.2:=hT _ (List.getElem_mem ht);rw[show ((-1:Int)==-1)=true from rfl,oCT,bk];simp only[oBS,bI ht];unfold gG;rw[xj hs,mh ht];rfl
theorem Cx{C:CC}{T:TT'}(h:shp C T) (hT:SmT T) {p:PID}(hp:p∈pgs (szs C) T.length):gE C T p.1 p.2=some ((pg C T p).1,(pg C T p).2.1,(pg C T p).2.2.1,(pg C T p).2.2.2.1,(pg C T p).2.2.2.2.1,(pg C T p).2.2.2.2.2.1,(pg C T p).2.2.2.2.2.2.1,(pg C T p).2.2.2.2.2.2.2.1,(pg C T p).2.2.2.2.2.2.2.2.1,(pg C T p).2.2.2.2.2.2.2.2.2.1,(pg C T p).2.2.2.2.2.2.2.2.2.2,0,()):=by
 unfold gE;have h4:=h.1;rw[jp (by unfold Sm;omega),oBS];dsimp only;rw[oDT h];simp only[oNT,oCF];rcases ro.1 hp with ⟨i,j,hi,hj,rfl⟩ | ⟨t,ht,rfl⟩
 ·rw[d9] at hi;rw[su hi] at hj;have ZZ:=zF hj;have hok:=of_decide_eq_true (h.2.2 _ (List.getElem_mem hi));rw[oBF (show ((i:Int))≠-1 by omega),oCF];delta aT;dsimp only;rw[oDF (show ¬ (i:Int) < 0 by omega),oCF,oDF (show ¬ (i:Int)>=C.length by omega),oCF,oDF (show ¬ (j:Int) < 0 by omega),oCF,oDF (show ¬ (j:Int) > 32 by omega),oCF];rw[bk];simp only[oBS,bI hi];rw[bH (x:=(j:Int)*8) (by omega) (by omega),oDF (show ¬ (j:Int)*8>=(C[i].length:Int) by omega),oCF,bk];simp only[oBS,bI hi];rw[bH (x:=(j:Int)*8+8) (by omega) (by omega)];rw[show (j:Int)*8=((8*j:Nat):Int) by omega,show ((8*j:Nat):Int)+8=((8*j+8:Nat):Int) by omega,wF,bk,bk];simp only[oBS]
  have ho:dy (8*j) (Nat.min (8*j+8) C[i].length) C[i].length=true:=by
   unfold dy;have h1:Nat.min (8*j+8) C[i].length=min (8*j+8) C[i].length:=rfl;rw[h1];simp only[oBA,oDE];omega
  rw[ho,oCT,zu (by omega),bw (by omega) (by rw[oLT];omega) (by omega) (by rw[oLT];omega),oCT,ww hi];rfl
 ·have hs:Sm (T[t]'ht).2.2.2.2.2.2.2:=hT _ (List.getElem_mem ht);rw[show ((-1:Int)==-1)=true from rfl,oCT];delta aT;dsimp only;rw[oDF (show ¬ (t:Int) < 0 by omega),oCF,oDF (show ¬ (t:Int)>=T.length by omega),oCF,bk];simp only[oBS,bI ht];unfold f9;rw[bw (by omega) hs (by omega) (by have:=hs;omega),oCT,mh ht];rfl
theorem xD{C:CC}{T:TT'}(h:shp C T) (hT:SmT T):dx C T=some ((pgs (szs C) T.length).map (pg C T),0,()):=by
 unfold dx;have h4:=h.1
 have hS:Sm C:=by unfold Sm;omega
 rw[sM hS,oBS];dsimp only;rw[oDT h];simp only[oNT,oCF];rw[lW hS,oBS];delta aT;dsimp only;rw[BG (l7 h) h.2.1,oBS];dsimp only;have hlen:=mg (l7 h) h.2.1;have hg:∀p∈pgs (szs C) T.length,fm C T p.1 p.2=some (BR (pg C T p)):=λp hp=>Cw h hT hp;generalize pgs (szs C) T.length=ps at hlen hg ⊢
 have step:∀i,i < ps.length->cz ((ps.length:Int),(i:Int),C,T,ps,(ps.take i).map (pg C T),())=some (.inl ((ps.length:Int),((i+1:Nat):Int),C,T,ps,(ps.take (i+1)).map (pg C T),())):=by
  intro i hi;unfold cz;dsimp only;rw[oDT (show (i:Int) < ps.length by omega),oCT,bk];simp only[oBS,bI hi,hg _ (List.getElem_mem hi)];rw[bw (by rw[List.length_map,oLT];omega) (by simp) (by omega) (by rw[List.length_map,oLT,List.length_singleton];omega),oCT,bH (by omega) (by omega),<- fL hi];rfl
 have fin:cz ((ps.length:Int),(ps.length:Int),C,T,ps,(ps.take ps.length).map (pg C T),())=some (.inr ((ps.length:Int),(ps.length:Int),false,C,T,ps,(ps.take ps.length).map (pg C T),())):=by
  unfold cz;dsimp only;rw[oDF (show ¬ (ps.length:Int) < ps.length by omega)];rfl
 have:=cr (f:=cz) (λi=>((ps.length:Int),(i:Int),C,T,ps,(ps.take i).map (pg C T),())) (n:=ps.length) (N:=NN) (by unfold NN;omega) step fin;rw[show bn cz NN ((ps.length:Int),0,C,T,ps,[],())=_ from this,List.take_length];rfl
theorem xC{C:CC}{T:TT'}(h:¬ shp C T) (hS:Sm C):dx C T=some ([],1,()):=by
 unfold dx;rw[sM hS,oBS];dsimp only;rw[oDF h];rfl
theorem B2{C:CC}{T:TT'}(h:shp C T) (hT:SmT T):fj C T=some ((pgs (szs C) T.length).map (pg C T),0,()):=by
 unfold fj;have h4:=h.1
 have hS:Sm C:=by unfold Sm;omega
 rw[ke hS,oBS];delta aT;dsimp only;rw[BH (l7 h) h.2.1,oBS];dsimp only;simp only[bne_self_eq_false,oCF];have hlen:=mg (l7 h) h.2.1;have hg:=λp hp=>Cx h hT (p:=p) hp;generalize pgs (szs C) T.length=ps at hlen hg ⊢
 have step:∀i,i < ps.length->cy ((i:Int),C,T,ps,(ps.take i).map (pg C T),())=some (.inl (((i+1:Nat):Int),C,T,ps,(ps.take (i+1)).map (pg C T),())):=by
  intro i hi;unfold cy;delta aT;dsimp only;rw[oDT (show (i:Int) < ps.length by omega),oCT,bk];simp only[oBS,bI hi,hg _ (List.getElem_mem hi)];rw[bw (by rw[List.length_map,oLT];omega) (by simp) (by omega) (by rw[List.length_map,oLT,List.length_singleton];omega),oCT,bH (by omega) (by omega),<- fL hi];rfl
 have fin:cy ((ps.length:Int),C,T,ps,(ps.take ps.length).map (pg C T),())=some (.inr ((ps.length:Int),false,C,T,ps,(ps.take ps.length).map (pg C T),())):=by
  unfold cy;delta aT;dsimp only;rw[oDF (show ¬ (ps.length:Int) < ps.length by omega)];rfl
 have:=cr (f:=cy) (λi=>((i:Int),C,T,ps,(ps.take i).map (pg C T),())) (n:=ps.length) (N:=NN) (by unfold NN;omega) step fin;rw[show bn cy NN (0,C,T,ps,[],())=_ from this,List.take_length];rfl
def uT(C:CC) (T:TT') (D:CC) (U:TT'):Prop:=shp C T/\shp D U/\szs C=szs D/\T.length=U.length
instance {C:CC} {T:TT'} {D:CC} {U:TT'}:Decidable (uT C T D U):=inferInstanceAs (Decidable (_/\_/\_/\_))
def dif(C:CC) (T:TT') (D:CC) (U:TT'):List PID:=(pgs (szs C) T.length).filter λp=>!decide (pg C T p=pg D U p)
theorem lT{α:Type}{q:α->Bool}{l:List α}{i:Nat}(h:i < l.length):(l.take (i+1)).filter q=(l.take i).filter q++bif q l[i] then [l[i]] else []:=by
 rw[<- ol h,List.filter_append];congr 1
theorem BC{C:CC}{T:TT'}(p:PID):((pg C T p).1,(pg C T p).2.1)=p:=by
 unfold pg;split<;>rfl
theorem Bw{C:CC}{T:TT'}(h:shp C T) (hT:SmT T) {p:PID}(hp:p∈pgs (szs C) T.length):Sm (pg C T p).2.2.1/\Sm (pg C T p).2.2.2.2.2.2.2.2.2.2:=by
 rcases ro.1 hp with ⟨i,j,hi,hj,rfl⟩ | ⟨t,ht,rfl⟩
 ·rw[d9] at hi;rw[ww hi];exact⟨by unfold Sm;rw[oLT];omega,by unfold Sm;simp⟩
 ·rw[mh ht];exact⟨by unfold Sm;simp,hT _ (List.getElem_mem ht)⟩
theorem AY{C:CC}{T:TT'}{D:CC}{U:TT'}(h:shp C T):(dif C T D U).length<=20:=Nat.le_trans (List.length_filter_le _ _) (mg (l7 h) h.2.1)
theorem xx{C:CC}{T:TT'}{D:CC}{U:TT'}(h:uT C T D U) (hT:SmT T) (hU:SmT U):cf C T D U=some (dif C T D U,0,()):=by
 unfold cf;obtain⟨h1,h2,h3,h4⟩:=h;have k1:=h1.1;have k2:=h2.1
 have hC:Sm C:=by unfold Sm;omega
 have hD:Sm D:=by unfold Sm;omega
 rw[xD h1 hT,oBS];dsimp only;rw[xD h2 hU,oBS];dsimp only;simp only[bne_self_eq_false,oCF];rw[lW hC,oBS];dsimp only;rw[lW hD,oBS];dsimp only;rw[zI (by unfold Sm;rw[d9];omega),oBS,oDT h3];delta aT;simp only[oNT,oCF,oBS];rw[nS h4,oCF,<- h3,<- h4];unfold dif;have hlen:=mg (l7 h1) h1.2.1;have hm:∀p∈pgs (szs C) T.length,Sm (pg C T p).2.2.1/\Sm (pg C T p).2.2.2.2.2.2.2.2.2.2:=λp hp=>Bw h1 hT hp;generalize pgs (szs C) T.length=ps at hlen hm ⊢;rw[List.length_map]
 have step:∀i,i < ps.length->bD ((ps.length:Int),(i:Int),ps.map (pg C T),ps.map (pg D U),(ps.take i).filter (λp=>!decide (pg C T p=pg D U p)),()) =
  some (.inl ((ps.length:Int),((i+1:Nat):Int),ps.map (pg C T),ps.map (pg D U),(ps.take (i+1)).filter (λp=>!decide (pg C T p=pg D U p)),())):=by
  intro i hi
  have Ww:i < (ps.map (pg C T)).length:=by rw[List.length_map];exact hi
  have hi2:i < (ps.map (pg D U)).length:=by rw[List.length_map];exact hi
  obtain⟨m1,m2⟩:=hm _ (List.getElem_mem hi);unfold bD;dsimp only;rw[oDT (show (i:Int) < ps.length by omega),oCT,bk];simp only[oBS,bI Ww,bI hi2,List.getElem_map];rw[AX m1 m2];simp only[oBS];rw[lT hi];by_cases e:pg C T ps[i]=pg D U ps[i]
  ·rw[oDT e];simp only[oNT,oCF,oBS,List.append_nil];rw[bH (by omega) (by omega)];rfl
  ·rw[oDF e];simp only[Bool.not_false,oCT,oBS];have hf:=List.length_filter_le (λp=>!decide (pg C T p=pg D U p)) (ps.take i);rw[oLT] at hf;rw[bw (Nat.le_trans hf (by omega)) (by simp) (by omega) (Nat.le_trans (Nat.add_le_add_right hf _) (by rw[List.length_singleton];omega)),oCT,BC];simp only[oBS];rw[bH (by omega) (by omega)];rfl
 have fin:bD ((ps.length:Int),(ps.length:Int),ps.map (pg C T),ps.map (pg D U),(ps.take ps.length).filter (λp=>!decide (pg C T p=pg D U p)),()) =
  some (.inr ((ps.length:Int),(ps.length:Int),false,ps.map (pg C T),ps.map (pg D U),(ps.take ps.length).filter (λp=>!decide (pg C T p=pg D U p)),())):=by
  unfold bD;dsimp only;rw[oDF (show ¬ (ps.length:Int) < ps.length by omega)];rfl
 have:=cr (f:=bD) (λi=>((ps.length:Int),(i:Int),ps.map (pg C T),ps.map (pg D U),(ps.take i).filter (λp=>!decide (pg C T p=pg D U p)),())) (n:=ps.length) (N:=NN) (by unfold NN;omega) step fin;rw[show bn bD NN ((ps.length:Int),0,ps.map (pg C T),ps.map (pg D U),[],())=_ from this,List.take_length];rfl
theorem uP{C:CC}{T:TT'}{D:CC}{U:TT'}(h:¬ uT C T D U) (hC:Sm C) (hD:Sm D) (hT:SmT T) (hU:SmT U):cf C T D U=some ([],1,()):=by
 unfold cf;by_cases h1:shp C T
 rotate_left
 ·rw[xC h1 hC,oBS];dsimp only;by_cases h2:shp D U
  ·rw[xD h2 hU];rfl
  ·rw[xC h2 hD];rfl
 rw[xD h1 hT,oBS];dsimp only;by_cases h2:shp D U
 rotate_left
 ·rw[xC h2 hD];rfl
 rw[xD h2 hU,oBS];dsimp only;simp only[bne_self_eq_false,oCF];rw[lW hC,oBS];dsimp only;rw[lW hD,oBS];dsimp only;rw[zI (by unfold Sm;rw[d9];exact hC),oBS];by_cases h3:szs C=szs D
 rotate_left
 ·rw[oDF h3];rfl
 rw[oDT h3];delta aT;simp only[oNT,oCF,oBS];rw[ku λh4=>h ⟨h1,h2,h3,h4⟩];rfl
theorem xy{C:CC}{T:TT'}{D:CC}{U:TT'}(h:uT C T D U) (hT:SmT T) (hU:SmT U):cb C T D U=some (dif C T D U,0,()):=by
 unfold cb;obtain⟨h1,h2,h3,h4⟩:=h;have k1:=h1.1;have k2:=h2.1
 have hC:Sm C:=by unfold Sm;omega
 have hD:Sm D:=by unfold Sm;omega
 rw[jp hC,oDT h1,oBS];dsimp only;rw[jp hD,oDT h2,oBS];simp only[oNT,oCF];rw[ke hC,oBS];dsimp only;rw[ke hD,oBS];dsimp only;rw[pL (by unfold Sm;rw[d9];omega),oBS,oDT h3];delta aT;simp only[oNT,oCF,oBS];rw[nS h4,oCF,B2 h1 hT,oBS];dsimp only;rw[B2 h2 hU,oBS,<- h3,<- h4];dsimp only;unfold dif;have hlen:=mg (l7 h1) h1.2.1;have hm:∀p∈pgs (szs C) T.length,Sm (pg C T p).2.2.1/\Sm (pg C T p).2.2.2.2.2.2.2.2.2.2:=λp hp=>Bw h1 hT hp;generalize pgs (szs C) T.length=ps at hlen hm ⊢
 have step:∀i,i < ps.length->bC ((i:Int),ps.map (pg C T),ps.map (pg D U),(ps.take i).filter (λp=>!decide (pg C T p=pg D U p)),()) =
  some (.inl (((i+1:Nat):Int),ps.map (pg C T),ps.map (pg D U),(ps.take (i+1)).filter (λp=>!decide (pg C T p=pg D U p)),())):=by
  intro i hi
  have Ww:i < (ps.map (pg C T)).length:=by rw[List.length_map];exact hi
  have hi2:i < (ps.map (pg D U)).length:=by rw[List.length_map];exact hi
  obtain⟨m1,m2⟩:=hm _ (List.getElem_mem hi);unfold bC;delta aT;dsimp only;rw[oDT (show (i:Int) < ((ps.map (pg C T)).length:Int) by omega),oCT,bk];simp only[oBS,bI Ww,bI hi2,List.getElem_map];rw[AW m1 m2];simp only[oBS];rw[lT hi];by_cases e:pg C T ps[i]=pg D U ps[i]
  ·rw[oDT e];simp only[oNT,oCF,oBS,List.append_nil];rw[bH (by omega) (by omega)];rfl
  ·rw[oDF e];simp only[Bool.not_false,oCT,oBS];have hf:=List.length_filter_le (λp=>!decide (pg C T p=pg D U p)) (ps.take i);rw[oLT] at hf;rw[bw (Nat.le_trans hf (by omega)) (by simp) (by omega) (Nat.le_trans (Nat.add_le_add_right hf _) (by rw[List.length_singleton];omega)),oCT,BC];simp only[oBS];rw[bH (by omega) (by omega)];rfl
 have fin:bC ((ps.length:Int),ps.map (pg C T),ps.map (pg D U),(ps.take ps.length).filter (λp=>!decide (pg C T p=pg D U p)),()) =
  some (.inr ((ps.length:Int),false,ps.map (pg C T),ps.map (pg D U),(ps.take ps.length).filter (λp=>!decide (pg C T p=pg D U p)),())):=by
  unfold bC;delta aT;dsimp only;rw[oDF (show ¬ (ps.length:Int) < ((ps.map (pg C T)).length:Int) by rw[List.length_map];omega)];rfl
 have:=cr (f:=bC) (λi=>((i:Int),ps.map (pg C T),ps.map (pg D U),(ps.take i).filter (λp=>!decide (pg C T p=pg D U p)),())) (n:=ps.length) (N:=NN) (by unfold NN;omega) step fin;rw[show bn bC NN (0,ps.map (pg C T),ps.map (pg D U),[],())=_ from this,List.take_length];rfl
theorem uQ{C:CC}{T:TT'}{D:CC}{U:TT'}(h:¬ uT C T D U) (hC:Sm C) (hD:Sm D):cb C T D U=some ([],1,()):=by
 unfold cb;rw[jp hC,oBS];dsimp only;by_cases h1:shp C T
 rotate_left
 ·rw[oDF h1];rfl
 rw[oDT h1];simp only[oNT,oCF];rw[jp hD,oBS];dsimp only;by_cases h2:shp D U
 rotate_left
 ·rw[oDF h2];rfl
 rw[oDT h2];simp only[oNT,oCF];rw[ke hC,oBS];dsimp only;rw[ke hD,oBS];dsimp only;rw[pL (by unfold Sm;rw[d9];exact hC),oBS];by_cases h3:szs C=szs D
 rotate_left
 ·rw[oDF h3];rfl
 rw[oDT h3];delta aT;simp only[oNT,oCF,oBS];rw[ku λh4=>h ⟨h1,h2,h3,h4⟩];rfl
def qR:List CT->CT
 | []=>.nat
 | [t]=>t
 | t :: u :: r=>.pair t (qR (u :: r))
def fh:(l:List CT)->HL den l->den (qR l)
 | [],_=>(0:Nat)
 | [_],h=>h.1
 | _ :: u :: r,h=>(h.1,fh (u :: r) h.2)
def encL:(l:List CT)->HL den l->List TV
 | [],_=>[]
 | t :: r,h=>enc t h.1++encL r h.2
theorem tp:∀(l:List CT) (h:HL den l),enc (qR l) (fh l h)=encL l h
 | [],_=>rfl
 | [_],h=>(List.append_nil _).symm
 | _ :: u :: r,h=>by
  show enc _ h.1++enc (qR (u :: r)) (fh (u :: r) h.2)=_;rw[tp (u :: r) h.2];rfl
def xI:(c:CT)->den c->Prop
 | .int k,n=>(Lit.int k n).wf=true
 | .str,s=>ByteArray.size s<=maxLen
 | .row _ t,xs=>List.length xs<=maxLen/\∀x∈xs,xI t x
 | .pair a b,x=>xI a x.1/\xI b x.2
 | _,_=>True
def GoodL:(l:List CT)->HL den l->Prop
 | [],_=>True
 | t :: r,h=>xI t h.1/\GoodL r h.2
theorem qk:∀(l:List CT) (h:HL den l),GoodL l h->xI (qR l) (fh l h)
 | [],_,_=>trivial
 | [_],_,g=>g.1
 | _ :: u :: r,h,g=>⟨g.1,qk (u :: r) h.2 g.2⟩
def appL:(l m:List CT)->HL den l->HL den m->HL den (l++m)
 | [],_,_,k=>k
 | _ :: r,m,h,k=>(h.1,appL r m h.2 k)
theorem tr:∀(l m:List CT) (h:HL den l) (k:HL den m),encL (l++m) (appL l m h k)=encL l h++encL m k
 | [],_,_,_=>rfl
 | t :: r,m,h,k=>by
  show enc t h.1++encL (r++m) (appL r m h.2 k)=(enc t h.1++encL r h.2)++_;rw[tr r m h.2 k,List.append_assoc]
theorem te:∀(l m:List CT) (h:HL den l) (k:HL den m),GoodL l h->GoodL m k->GoodL (l++m) (appL l m h k)
 | [],_,_,_,_,g=>g
 | _ :: r,m,h,k,g,g'=>⟨g.1,te r m h.2 k g.2 g'⟩
def kK:(c:CT)->den c->Nat
 | .int _,_=>1
 | .bool,_=>1
 | .str,_=>1
 | .row _ t,xs=>1+(List.map (kK t) xs).sum
 | .pair a b,x=>kK a x.1+kK b x.2
 | _,_=>0
def sizL:(l:List CT)->HL den l->Nat
 | [],_=>0
 | t :: r,h=>kK t h.1+sizL r h.2
theorem sA:∀(l:List CT) (h:HL den l),kK (qR l) (fh l h)=sizL l h
 | [],_=>rfl
 | [_],h=>(Nat.add_zero _).symm
 | _ :: u :: r,h=>by
  show kK _ h.1+kK (qR (u :: r)) (fh (u :: r) h.2)=_;rw[sA (u :: r) h.2];rfl
theorem vi:∀(l m:List CT) (h:HL den l) (k:HL den m),sizL (l++m) (appL l m h k)=sizL l h+sizL m k
 | [],_,_,_=>(Nat.zero_add _).symm
 | t :: r,m,h,k=>by
  show kK t h.1+sizL (r++m) (appL r m h.2 k)=kK t h.1+sizL r h.2+sizL m k;rw[vi r m h.2 k,Nat.add_assoc]
structure Bulk {H:Type} (B:DataW H->Nat):Prop where
 li:∀l,1<=B (.lit l)
 ni:1<=B .nil
 sl:∀es rs,1+(es.map B).sum<=B (.slice es rs)
 ag:∀xs,(xs.map B).sum<=B (.agg xs)
theorem qY{n:Nat}{f:Fin n->Nat}{l:List Nat}(hl:l.length=n) (h:∀i:Fin n,f i<=l.getD i.1 0):(List.ofFn f).sum<=l.sum:=by
 induction n generalizing l with
 | zero=>simp
 | succ n ih=>
  match l,hl with
  | x :: r,hl=>
   rw[List.ofFn_succ,List.sum_cons,List.sum_cons];exact Nat.add_le_add (h 0) (ih (by simpa using hl) λi=>by simpa using h i.succ)
def RelL(w:World):List TV->List Value->Prop
 | [],[]=>True
 | t :: ts,v :: vs=>eZ w (λ_=>True) t v/\RelL w ts vs
 | _,_=>False
theorem RelL.app{w:World}:∀{a:List TV}{x:List Value}{b:List TV}{y:List Value},RelL w a x->RelL w b y->RelL w (a++b) (x++y)
 | [],[],_,_,_,h=>h
 | _ :: a,_ :: x,_,_,g,h=>⟨g.1,RelL.app (a:=a) (x:=x) g.2 h⟩
 | [],_ :: _,_,_,g,_=>g.elim
 | _ :: _,[],_,_,g,_=>g.elim
theorem RelL.len{w:World}:∀{a:List TV}{x:List Value},RelL w a x->a.length=x.length
 | [],[],_=>rfl
 | _ :: a,_ :: x,g=>by rw[oLC,oLC,RelL.len (a:=a) (x:=x) g.2]
 | [],_ :: _,g=>g.elim
 | _ :: _,[],g=>g.elim
theorem RelL.get{w:World}:∀{a:List TV}{x:List Value},RelL w a x->∀j (h:j < a.length) (h':j < x.length),eZ w (λ_=>True) a[j] x[j]
 | _ :: _,_ :: _,g,0,_,_=>g.1
 | _ :: a,_ :: x,g,j+1,h,h'=>RelL.get (a:=a) (x:=x) g.2 j (by simpa using h) (by simpa using h')
 | [],_,_,_,h,_=>by simp at h
 | _ :: _,[],g,_,_,_=>g.elim
def Bz(P:Program) (g:TypeId->Option (List CT)):Nat->List Field->Option (List CT)
 | _,[]=>some []
 | off,f :: fs=>match g f.type with
  | some l=>if f.offset=off/\l.length=P.cellsOf f.type then (Bz P g (off+l.length) fs).map (l++·) else none
  | none=>none
def l9(P:Program):Nat->TypeId->Option (List CT)
 | 0,_=>none
 | n+1,t=>match P.underlying t with
  | some .bool=>some [.bool]
  | some (.int k)=>some [.int k]
  | some .string=>some [.str]
  | some (.slice e)=>match l9 P n e with
   | some l=>if l.length=P.cellsOf e then some [.row false (qR l)] else none
   | none=>none
  | some (.struct fs)=>match Bz P (l9 P n) 0 fs.toList with
   | some l=>if l.length=P.cellsOf t then some l else none
   | none=>none
  | _=>none
section
variable {H:Type} {B:DataW H->Nat} {ec:TypeId×Value->H} {P:Program} {w:World} {base:Nat} {spare:Nat->Bool} {held:Bool}
theorem wR{g:TypeId->Option (List CT)}{m:Nat}{cs:List Value}
 (ih:∀t L,g t=some L->∀cs x,DataW.trod ec P w base spare held m t cs=some x->∃h:HL den L,GoodL L h/\RelL w (encL L h) cs/\sizL L h<=B x.1) :
 ∀(fs:List Field) (xs:List (DataW H×List MemPlace)) (off:Nat) (L:List CT),Bz P g off fs=some L->xs.length=fs.length->(∀(i:Nat) (f:Field),fs[i]?=some f->DataW.trod ec P w base spare held m f.type ((cs.drop f.offset).take (P.cellsOf f.type))=xs[i]?) ->
  ∃h:HL den L,GoodL L h/\RelL w (encL L h) ((cs.drop off).take L.length)/\sizL L h<=(xs.map λx=>B x.1).sum:=by
 intro fs
 induction fs with
 | nil=>
  intro xs off L hL _ _
  injection hL with hL
  subst hL;exact⟨(),trivial,trivial,Nat.zero_le _⟩
 | cons f fs TH=>
  intro xs off L hL V6 hx;unfold Bz at hL
  obtain⟨x,xs,rfl⟩:∃y ys,xs=y :: ys:=by cases xs with | nil=>simp at V6 | cons y ys=>exact⟨y,ys,rfl⟩
  split at hL
  ·rename_i l hg;split at hL
   ·rename_i ho;obtain⟨rfl,hlen⟩:=ho
    cases hr:Bz P g (f.offset+l.length) fs with
    | none=>rw[hr] at hL;cases hL
    | some L2=>
     rw[hr] at hL
     injection hL with hL
     subst hL;have h1:=hx 0 f rfl;rw[List.getElem?_cons_zero] at h1;obtain⟨h,g1,r1,z1⟩:=ih _ _ hg _ _ h1
     obtain⟨k,g2,r2,z2⟩:=TH xs _ _ hr (by simpa using V6) λi f' TX=>by simpa using hx (i+1) f' (by simpa using TX)
     refine⟨appL l L2 h k,te _ _ _ _ g1 g2,?_,by rw[vi,List.map_cons,List.sum_cons];exact Nat.add_le_add z1 z2⟩;rw[tr,List.length_append,List.take_add,List.drop_drop];rw[hlen];rw[hlen] at r2;exact r1.app r2
   ·cases hL
  ·cases hL
theorem BN(hB:Bulk B):∀(n:Nat) (t:TypeId) (L:List CT),l9 P n t=some L->∀(Yn:Nat) (cs:List Value) (x:DataW H×List MemPlace),DataW.trod ec P w base spare held Yn t cs=some x ->
 ∃h:HL den L,GoodL L h/\RelL w (encL L h) cs/\sizL L h<=B x.1:=by
 intro n
 induction n with
 | zero=>intro t L h;cases h
 | succ n ih=>
  intro t L hL Yn cs x hx;unfold l9 at hL;split at hL
  ·rename_i ht
   injection hL with hL
   subst hL;obtain⟨b,rfl,hd⟩:=DataW.trod_bool ht hx;exact⟨(b,()),⟨trivial,trivial⟩,⟨.v rfl,trivial⟩,by rw[hd];exact hB.li _⟩
  ·rename_i k ht
   injection hL with hL
   subst hL;obtain⟨z,rfl,hd,hw⟩:=DataW.trod_int ht hx;exact⟨(z,()),⟨hw,trivial⟩,⟨.v rfl,trivial⟩,by rw[hd];exact hB.li _⟩
  ·rename_i ht
   injection hL with hL
   subst hL;obtain⟨s,rfl,hd,hs⟩:=DataW.trod_string ht hx;exact⟨(s,()),⟨hs,trivial⟩,⟨.v rfl,trivial⟩,by rw[hd];exact hB.li _⟩
  ·rename_i e ht;split at hL
   ·rename_i l hl;split at hL
    ·rename_i hsz
     injection hL with hL
     subst hL;rcases DataW.trod_slice ht hx with ⟨rfl,hd⟩ | ⟨a,len,cap,XD,rest,m,_,rfl,hd,_,YV,hmax,Zj,Z6,_,_⟩
     ·exact⟨([],()),⟨⟨Nat.zero_le _,λx hx=>by cases hx⟩,trivial⟩,⟨.sl (c:=[]) 1 (λ_ _=>undef) (λi h=>by simp at h) (Nat.le_refl _) (Nat.zero_le _) (λ_=>rfl) (λi j h=>by simp at h) (λi j h=>by simp at h),trivial⟩,by rw[hd];exact hB.ni⟩
     ·have Sk:∀i:Fin len,∃p:HL den l×List Value,GoodL l p.1/\RelL w (encL l p.1) p.2/\w.cells? base (a.add (i.1*P.cellsOf e)) (P.cellsOf e)=some p.2/\sizL l p.1<=(XD.map λx=>B x.1).getD i.1 0:=by
       intro i;have h1:=Z6 i.1 i.2;rw[oGE (by omega)] at h1;obtain⟨PM,h2,h3⟩:=Option.bind_eq_some_iff.1 h1;obtain⟨h,g,r,z⟩:=ih _ _ hl _ _ _ h3;exact⟨(h,PM),g,r,h2,by simpa [Zj,i.2] using z⟩
      obtain⟨f,hf⟩:=Classical.axiomOfChoice Sk
      have Sg:∀i,(encL l (f i).1).length=l.length:=λi=>by
       rw[(hf i).2.1.len,(World.cells?_some (hf i).2.2.1).2.1,hsz]
      have ZY:eZ w (λ_=>True) (.sl ((List.ofFn λi:Fin len=>fh l (f i).1).map (enc (qR l)))) (.slice (some a) ((List.ofFn λi:Fin len=>fh l (f i).1).map (enc (qR l))).length cap):=by
       have el:((List.ofFn λi:Fin len=>fh l (f i).1).map (enc (qR l))).length=len:=by simp
       have eg:∀i (hi:i < ((List.ofFn λi:Fin len=>fh l (f i).1).map (enc (qR l))).length),((List.ofFn λi:Fin len=>fh l (f i).1).map (enc (qR l)))[i]=encL l (f ⟨i,by omega⟩).1:=by
        intro i hi;simp[tp]
       refine .sl l.length (λi j=>if h:i < len then (f ⟨i,h⟩).2.getD j undef else undef) (λi hi=>by rw[eg i hi,Sg]) (by rw[el];exact YV) hmax (λh=>by cases h) (λi j hi hj=>?_) (λi j hi hj=>?_)
       ·rw[el] at hi
        have cell:∀i' (ZW:i' < len) j',j' < l.length->w.cell? ((a.add (i'*l.length)).add j')=some ((f ⟨i',ZW⟩).2.getD j' undef):=by
         intro i' ZW j' ZZ;have h1:=World.cells?_some (hf ⟨i',ZW⟩).2.2.1;have h2:=h1.2.2 j' (by omega);rw[hsz];rw[h2]
         have:j' < (f ⟨i',ZW⟩).2.length:=by rw[h1.2.1];omega
         simp[this]
        have h0:=World.cell?_spot (cell 0 (by omega) 0 (by omega));obtain⟨b,o,spot⟩:=a
        have UT:spot=none:=by simpa [Addr.add] using h0
        subst UT;refine⟨b,o,rfl,trivial,?_⟩;have h2:=cell i hi j hj;rw[Go.WideShapes.add_plain,Go.WideShapes.add_plain] at h2;rw[dif_pos hi,<- h2,Nat.add_assoc]
       ·rw[el] at hi;have hr:=(hf ⟨i,hi⟩).2.1
        have Yf:j < (encL l (f ⟨i,hi⟩).1).length:=by rw[eg i (by omega)] at hj;exact hj
        have VI:j < (f ⟨i,hi⟩).2.length:=by rw[<- hr.len];exact Yf
        have h3:=hr.get j Yf VI
        have e1:(if h:i < len then (f ⟨i,h⟩).2.getD j undef else undef)=(f ⟨i,hi⟩).2[j]:=by
         rw[dif_pos hi];simp[VI]
        simp only[e1];have e2:((List.ofFn λi:Fin len=>fh l (f i).1).map (enc (qR l)))[i]'(by omega)=encL l (f ⟨i,hi⟩).1:=eg i (by omega);simp only[e2];exact h3
      rw[List.length_map,List.length_ofFn] at ZY;refine⟨(List.ofFn λi:Fin len=>fh l (f i).1,()),⟨⟨by rw[List.length_ofFn];omega,λx hx=>?_⟩,trivial⟩,⟨ZY,trivial⟩,?_⟩
      rotate_left
      ·rw[hd];refine Nat.le_trans ?_ (hB.sl _ _);show 1+(List.map (kK (qR l)) (List.ofFn λi:Fin len=>fh l (f i).1)).sum+0<=_;rw[List.map_ofFn,List.map_map]
       have:=qY (f:=kK (qR l) ∘ λi:Fin len=>fh l (f i).1) (l:=XD.map λx=>B x.1) (by simpa using Zj) λi=>by
        rw[Function.comp,sA];exact (hf i).2.2.2
       have e:(XD.map (B ∘ λx=>x.1)).sum=(XD.map λx=>B x.1).sum:=rfl;rw[e];omega
      obtain⟨i,rfl⟩:=List.mem_ofFn.1 hx;exact qk _ _ (hf i).1
    ·cases hL
   ·cases hL
  ·rename_i fs ht;split at hL
   ·rename_i l hl;split at hL
    ·rename_i hsz
     injection hL with hL
     subst hL;obtain⟨xs,m,_,hd,hlen,QW,hf⟩:=DataW.trod_struct ht hx;obtain⟨h,g,r,z⟩:=wR (cs:=cs) (m:=m) (λt L hL cs x hx=>ih t L hL m cs x hx) fs.toList xs 0 l hl (by simpa using QW) λi f hi=>hf i f (by simpa using hi);refine⟨h,g,?_,by rw[hd];exact Nat.le_trans z (by have:=hB.ag (xs.map (·.1));rw[List.map_map] at this;exact this)⟩;rw[List.drop_zero,hsz,<- hlen,List.take_length] at r;exact r
    ·cases hL
   ·cases hL
  ·cases hL
theorem intake_arg(hB:Bulk B) (n:Nat) {t:TypeId}{L:List CT}{v:Value}{d:DataW H}{p:List MemPlace}(hL:l9 P n t=some L) (h:DataW.Trod ec P w base spare held t v d p) :
 ∃h:HL den L,GoodL L h/\RelL w (encL L h) v.cells.toList/\sizL L h<=B d:=by
 obtain⟨Yn,hf⟩:=h;exact BN hB n t L hL Yn _ _ hf
end
theorem plain_one{w:World}{t:TV}{v:Value}(r:RelL w [t] [v]):qO w t v:=r.1.plain
theorem plain_agg{w:World}{l:List TV}{cs:Array Value}(r:RelL w l cs.toList):qO w (.agg l) (.agg cs):=by
 intro F V C G hF
 have hl:cs.size=l.length:=by rw[r.len];simp
 refine .agg hl λj hj=>?_
 have Yf:j < cs.toList.length:=by simp_all
 have h1:=(r.get j hj Yf).plain F V C G hF
 simp_all
theorem lX{b:Bool}{t:CT}(h:∀x:den t,1<=kK t x):∀xs:List (den t),xs.length<=kK (.row b t) xs:=by
 intro xs;show xs.length<=1+(xs.map (kK t)).sum
 induction xs with
 | nil=>exact Nat.zero_le _
 | cons x r ih=>rw[List.map_cons,List.sum_cons,oLC];have:=h x;omega
theorem Cp{l:List PID}{x:PID}(h:Sm l):bn cw NN (l,0,x.1,x.2,())=some (l,(fF l x:Int),false,x.1,x.2,()):=by
 have hc:fF l x<=l.length:=(List.takeWhile_prefix _).length_le;have h0:=h
 have hlt:∀i,(hi:i < fF l x)->bx (l[i]'(by omega)) x=true:=λi hi=>by
  have h1:(l.takeWhile (bx · x))[i]'hi=l[i]'(by omega):=(List.takeWhile_prefix (l:=l) (bx · x)).getElem hi;rw[<- h1];exact List.all_eq_true.1 (List.all_takeWhile (p:=λy=>bx y x) (l:=l)) _ (List.getElem_mem hi)
 have step:∀i,i < fF l x->cw (l,(i:Int),x.1,x.2,())=some (.inl (l,((i+1:Nat):Int),x.1,x.2,())):=by
  intro i hi
  have ZW:i < l.length:=by omega
  unfold cw;delta aT;dsimp only;rw[oDT (show (i:Int) < l.length by omega),oCT,bk];simp only[oBS,bI ZW,xF,hlt i hi];rw[bH (by omega) (by omega)];rfl
 have fin:cw (l,(fF l x:Int),x.1,x.2,())=some (.inr (l,(fF l x:Int),false,x.1,x.2,())):=by
  unfold cw;delta aT;dsimp only;by_cases hl:fF l x < l.length
  ·rw[oDT (show (fF l x:Int) < l.length by omega),oCT,bk]
   have hn:bx l[fF l x] x=false:=by
    by_cases g:bx l[fF l x] x=true
    ·exfalso;have e:fF l x=(l.takeWhile (bx · x)).length:=rfl;have h2:l.takeWhile (bx · x)++l.dropWhile (bx · x)=l:=List.takeWhile_append_dropWhile
     have h3:l.dropWhile (bx · x)≠[]:=λe2=>by
      rw[e2,List.append_nil] at h2
      have:(l.takeWhile (bx · x)).length=l.length:=by rw[h2]
      omega
     have h4:=List.head_dropWhile_not (bx · x) (l:=l) h3
     have h5:(l.dropWhile (bx · x)).head h3=l[fF l x]:=by
      have h6:l[fF l x]?=(l.dropWhile (bx · x)).head?:=by
       have h7:(l.takeWhile (bx · x)++l.dropWhile (bx · x))[fF l x]?=(l.dropWhile (bx · x)).head?:=by
        rw[e,List.getElem?_append_right (Nat.le_refl _),Nat.sub_self,<- List.head?_eq_getElem?]
       rw[h2] at h7;exact h7
      rw[oGE hl,List.head?_eq_some_head h3] at h6
      injection h6 with h6
      exact h6.symm
     rw[h5,g] at h4;cases h4
    ·exact Bool.not_eq_true _ ▸ g
   simp only[oBS,bI hl,xF,hn,oCF]
  ·rw[oDF (show ¬ (fF l x:Int) < l.length by omega)];rfl
 exact cr (f:=cw) (λi=>(l,(i:Int),x.1,x.2,())) (n:=fF l x) (N:=NN) (by unfold NN;omega) step fin
theorem yA{l:List PID}{x:PID}(h:l.length+1<=1099511627776):dw l x.1 x.2=some (gA l x,()):=by
 have hc:fF l x<=l.length:=(List.takeWhile_prefix _).length_le;unfold dw;rw[Cp (by unfold Sm;omega),oBS];delta aT;dsimp only;rw[AP]
 have rest:(dC (fF l x:Int)).bind (λT6=>bif dy 0 T6 l.length then
  let R9:List DCe:=(ld l 0 (Nat.sub T6 0));
  bif (bK 16 0 (List.length R9)) then let R':List DCe:=(List.append [] R9);
  let Sc:List DCe:=[(x.1,x.2)];
  bif (bK 16 (List.length R') (List.length Sc)) then let Sd:List DCe:=(List.append R' Sc);
  (dC (fF l x:Int)).bind λTP=>
  bif (dy TP (List.length l) (List.length l)) then let Se:List DCe:=(ld l TP (Nat.sub (List.length l) TP));
  bif (bK 16 (List.length Sd) (List.length Se)) then let Ra:List DCe:=(List.append Sd Se);
  some (Ra,()) else none else none else none else none else none)=some (l.take (fF l x)++[x]++l.drop (fF l x),()):=by
  rw[bk];simp only[oBS]
  have e1:dy 0 (fF l x) l.length=true:=by unfold dy;simp[hc]
  have e2:dy (fF l x) l.length l.length=true:=by unfold dy;simp[hc]
  have e3:ld l 0 (Nat.sub (fF l x) 0)=l.take (fF l x):=by unfold ld;rfl
  have e4:ld l (fF l x) (Nat.sub l.length (fF l x))=l.drop (fF l x):=by
   unfold ld;rw[List.take_of_length_le (by rw[List.length_drop];exact Nat.le_refl _)]
  have e5:List.append [] (l.take (fF l x))=l.take (fF l x):=rfl;have e6:List.append (l.take (fF l x)) [(x.1,x.2)]=l.take (fF l x)++[x]:=rfl;have e7:List.append (l.take (fF l x)++[x]) (l.drop (fF l x))=l.take (fF l x)++[x]++l.drop (fF l x):=rfl;rw[e1,oCT,e3,e5,bw (by omega) (by rw[oLT];omega) (by omega) (by rw[oLT];omega),oCT,e6,bw (by rw[oLT];omega) (by simp) (by omega) (by rw[oLT,List.length_singleton];omega),oCT,e2,oCT,e4,bw (by rw[List.length_append,oLT,List.length_singleton];omega) (by rw[List.length_drop];omega) (by omega) (by rw[List.length_append,oLT,List.length_singleton,List.length_drop];omega),oCT,e7]
 by_cases hl:fF l x < l.length
 ·rw[oDT (show (fF l x:Int) < l.length by omega),oCT,bk];simp only[oBS,bI hl,zC];rw[oGE hl];by_cases e:l[fF l x]=x
  ·rw[oDT e,oIP (by rw[e])];rfl
  ·rw[oDF e,oIN (λg=>e (by injection g))];exact rest
 ·rw[oDF (show ¬ (fF l x:Int) < l.length by omega),oIN (by rw[oGN (by omega)];simp)];exact rest
theorem iw(l:List PID):∀a:List PID,(l.foldl gA a).length<=a.length+l.length:=by
 induction l with
 | nil=>intro a;simp
 | cons x r ih=>
  intro a;rw[List.foldl_cons,oLC];have h1:=ih (gA a x);have h2:=rA x a;omega
theorem kC{l:List PID}{a:List PID}{i:Nat}(h:i < l.length):(l.take (i+1)).foldl gA a=gA ((l.take i).foldl gA a) l[i]:=by
 rw[<- ol h,List.foldl_append];rfl
theorem A9{l:List PID}{x:PID}(h:l.length+1<=1099511627776):fi l x.1 x.2=some (fH (l++[x]),()):=by
 unfold fi
 have step:∀i,i < l.length->cx (l,(l.take i).foldl gA [],(i:Int),x.1,x.2,(),())=some (.inl (l,(l.take (i+1)).foldl gA [],((i+1:Nat):Int),x.1,x.2,(),())):=by
  intro i hi;have hf:=iw (l.take i) [];rw[oLT,List.length_nil] at hf;unfold cx;delta aT;dsimp only;rw[oDT (show (i:Int) < l.length by omega),oCT,bk];simp only[oBS,bI hi];rw[yA (Nat.le_trans (Nat.add_le_add_right hf 1) (by omega)),kC hi,bH (by omega) (by omega)];rfl
 have fin:cx (l,(l.take l.length).foldl gA [],(l.length:Int),x.1,x.2,(),())=some (.inr (l,(l.take l.length).foldl gA [],(l.length:Int),false,x.1,x.2,(),())):=by
  unfold cx;delta aT;dsimp only;rw[oDF (show ¬ (l.length:Int) < l.length by omega)];rfl
 have:=cr (f:=cx) (λi=>(l,(l.take i).foldl gA [],(i:Int),x.1,x.2,(),())) (n:=l.length) (N:=NN) (by unfold NN;omega) step fin;rw[show bn cx NN (l,[],0,x.1,x.2,(),())=_ from this,List.take_length,oBS];dsimp only;have hf:=iw l [];rw[List.length_nil] at hf;rw[yA (Nat.le_trans (Nat.add_le_add_right hf 1) (by omega))];unfold fH;rw[List.foldl_append];rfl
theorem wG{l m:List PID}(h:l.length+m.length+1<=1099511627776):eS l m=some (fH (l++m),()):=by
 unfold eS
 have step:∀i,i < l.length->bV (l,m,(l.take i).foldl gA [],(i:Int),(),())=some (.inl (l,m,(l.take (i+1)).foldl gA [],((i+1:Nat):Int),(),())):=by
  intro i hi;have hf:=iw (l.take i) [];rw[oLT,List.length_nil] at hf;unfold bV;delta aT;dsimp only;rw[oDT (show (i:Int) < l.length by omega),oCT,bk];simp only[oBS,bI hi];rw[yA (Nat.le_trans (Nat.add_le_add_right hf 1) (by omega)),kC hi,bH (by omega) (by omega)];rfl
 have fin:bV (l,m,(l.take l.length).foldl gA [],(l.length:Int),(),())=some (.inr (l,m,(l.take l.length).foldl gA [],(l.length:Int),false,(),())):=by
  unfold bV;delta aT;dsimp only;rw[oDF (show ¬ (l.length:Int) < l.length by omega)];rfl
 have:=cr (f:=bV) (λi=>(l,m,(l.take i).foldl gA [],(i:Int),(),())) (n:=l.length) (N:=NN) (by unfold NN;omega) step fin;rw[show bn bV NN (l,m,[],0,(),())=_ from this,List.take_length,oBS];dsimp only;obtain⟨a,ha⟩:∃a,a=l.foldl gA []:=⟨_,rfl⟩
 have hal:a.length<=l.length:=by
  have:=iw l [];rw[List.length_nil] at this;rw[ha];omega
 have U6:∀i,i < m.length->bU (m,(m.take i).foldl gA a,(i:Int),(),())=some (.inl (m,(m.take (i+1)).foldl gA a,((i+1:Nat):Int),(),())):=by
  intro i hi;have hf:=iw (m.take i) a;rw[oLT] at hf;unfold bU;delta aT;dsimp only;rw[oDT (show (i:Int) < m.length by omega),oCT,bk];simp only[oBS,bI hi];rw[yA (Nat.le_trans (Nat.add_le_add_right hf 1) (by omega)),kC hi,bH (by omega) (by omega)];rfl
 have So:bU (m,(m.take m.length).foldl gA a,(m.length:Int),(),())=some (.inr (m,(m.take m.length).foldl gA a,(m.length:Int),false,(),())):=by
  unfold bU;delta aT;dsimp only;rw[oDF (show ¬ (m.length:Int) < m.length by omega)];rfl
 have:=cr (f:=bU) (λi=>(m,(m.take i).foldl gA a,(i:Int),(),())) (n:=m.length) (N:=NN) (by unfold NN;omega) U6 So;rw[<- ha,show bn bU NN (m,a,0,(),())=_ from this,List.take_length,oBS,ha];unfold fH;rw[List.foldl_append]
theorem xQ{a:List PID}(h:Sm a) (k:Int):fM a k=some (a.take (fG a.length k),a.drop (fG a.length k),()):=by
 unfold fM;dsimp only;have hk:=oo a.length k;have h0:=h;simp only[CH,bk,oBS]
 have e1:dy 0 (fG a.length k) a.length=true:=by unfold dy;simp[hk]
 have e2:dy (fG a.length k) a.length a.length=true:=by unfold dy;simp[hk]
 have e3:ld a 0 (Nat.sub (fG a.length k) 0)=a.take (fG a.length k):=by unfold ld;rfl
 have e4:ld a (fG a.length k) (Nat.sub a.length (fG a.length k))=a.drop (fG a.length k):=by
  unfold ld;rw[List.take_of_length_le (by rw[List.length_drop];exact Nat.le_refl _)]
 rw[e1,oCT,e3,bw (by omega) (by rw[oLT];omega) (by omega) (by rw[oLT];omega),oCT];rw[e2,oCT,e4,bw (by omega) (by rw[List.length_drop];omega) (by omega) (by rw[List.length_drop];omega),oCT];rfl
theorem BI{C:CC}{T:TT'}(hC:Sm C) (hT:Sm T):∃b,dH C T=some (b,()):=by
 unfold dH;have h0:=hC;have h1:=hT
 obtain⟨t,e,ht⟩:=j7 (f:=eI) (λs=>∃i:Nat,s.2.1=i/\i<=C.length/\s.2.2.1=C/\s.2.2.2.1=T) (λt=>t.2.2.2.2.1=T) (λs=>C.length - s.2.1.toNat) (n:=NN) (s:=(0,0,C,T,())) ⟨0,rfl,Nat.zero_le _,rfl,rfl⟩ (by unfold NN;show C.length - (0:Int).toNat < _;omega) (by
  rintro⟨v0,v1,v2,v3,_⟩ ⟨i,e1,hi,e2,e3⟩;dsimp only at e1 e2 e3;subst e1 e2 e3;unfold eI;delta aT;dsimp only;by_cases hl:i < v2.length
  ·rw[oDT (show (i:Int) < v2.length by omega),oCT,bk];simp only[oBS,bI hl];rw[bH (x:=(i:Int)+1) (by omega) (by omega)];exact⟨_,rfl,⟨i+1,rfl,by omega,rfl,rfl⟩,by show v2.length - ((i:Int)+1).toNat < v2.length - (i:Int).toNat;omega⟩
  ·rw[oDF (show ¬ (i:Int) < v2.length by omega)]
   exact⟨_,rfl,rfl⟩)
 rw[e,oBS];obtain⟨x0,x1,x2,x3,x4,_⟩:=t;dsimp only at ht ⊢;subst ht
 obtain⟨t,e,_⟩:=j7 (f:=eH) (λs=>∃i:Nat,s.2.1=i/\i<=x4.length/\s.2.2.2.1=x4) (λt=>True) (λs=>x4.length - s.2.1.toNat) (n:=NN) (s:=(x0,0,x3,x4,())) ⟨0,rfl,Nat.zero_le _,rfl⟩ (by unfold NN;show x4.length - (0:Int).toNat < _;omega) (by
  rintro⟨v0,v1,v2,v3,_⟩ ⟨i,e1,hi,e2⟩;dsimp only at e1 e2;subst e1 e2;unfold eH;delta aT;dsimp only;by_cases hl:i < v3.length
  ·rw[oDT (show (i:Int) < v3.length by omega),oCT,bk];simp only[oBS,bI hl];rw[bH (x:=(i:Int)+1) (by omega) (by omega)];exact⟨_,rfl,⟨i+1,rfl,by omega,rfl⟩,by show v3.length - ((i:Int)+1).toNat < v3.length - (i:Int).toNat;omega⟩
  ·rw[oDF (show ¬ (i:Int) < v3.length by omega)]
   exact⟨_,rfl,trivial⟩)
 rw[e,oBS];exact⟨_,rfl⟩
theorem Co{C:CC}{T:TT'}{D:CC}{U:TT'}{a b:List PID}{k p r:Int}(hC:Sm C) (hT:Sm T) (hD:Sm D) (hU:Sm U) (Sz:SmT T) (SA:SmT U) (ha:a.length<=1048576) (hb:b.length<=1048576) :
 eJ C T D U a b p r k=some (true,()):=by
 unfold eJ;obtain⟨b1,e1⟩:=BI hC hT;obtain⟨b2,e2⟩:=BI hD hU;rw[e1];simp only[oBS]
 cases b1 with
 | false=>simp only[Bool.not_false,oCT,oBS,po]
 | true=>
 simp only[oNT,oCF];rw[e2];simp only[oBS]
 cases b2 with
 | false=>simp only[Bool.not_false,oCT,oBS,po]
 | true=>
 delta aT;simp only[oNT,oCF,oBS];rw[bH (by omega) (by omega)];by_cases hl:(a.length:Int)+b.length > 200
 ·rw[oDT hl,oCT,po];rfl
 rw[oDF hl,oCF]
 obtain⟨L,e,h1,h2,hL⟩:∃L e,cf C T D U=some (L,e,())/\cb C T D U=some (L,e,())/\L.length<=20:=by
  by_cases h:uT C T D U
  ·exact⟨_,0,xx h Sz SA,xy h Sz SA,AY h.1⟩
  ·exact⟨_,1,uP h hC hD Sz SA,uQ h hC hD,by simp⟩
 have hk:=oo a.length k;have Xj:=lV (a++b);have Rr:=lV (a++[(p,r)]);rw[List.length_append] at Xj Rr;rw[List.length_singleton] at Rr;rw[h1,oBS];dsimp only;rw[h2,oBS];dsimp only;rw[Bt (by unfold Sm;omega),oBS];dsimp only;rw[xQ (by unfold Sm;omega),oBS];dsimp only;rw[beq_self_eq_true,oCT,nN (by unfold Sm;omega) (by unfold Sm;omega),oBS,oDT (rfl:L=L)];dsimp only;rw[oCT,nN (by unfold Sm;rw[oLT];omega) (by unfold Sm;rw[oLT];omega),oBS,oDT rfl];dsimp only;rw[oCT,nN (by unfold Sm;rw[List.length_drop];omega) (by unfold Sm;rw[List.length_drop];omega),oBS,oDT rfl];dsimp only;rw[oCT,B3 (by omega),oBS];dsimp only;rw[show fi a p r=_ from A9 (x:=(p,r)) (by omega),oBS];dsimp only;rw[nN (by unfold Sm;omega) (by unfold Sm;omega),oBS,oDT rfl];dsimp only;rw[oCT,AK (by omega),oBS];dsimp only;rw[wG (by omega),oBS];dsimp only;rw[nN (by unfold Sm;omega) (by unfold Sm;omega),oBS,oDT rfl];dsimp only;rw[oCT,po];rfl
theorem zY{α:Type}{f:α->Nat}{l:List α}{x:α}(h:x∈l):f x<=(l.map f).sum:=by
 induction l with
 | nil=>simp at h
 | cons y r ih=>
  rw[List.map_cons,List.sum_cons];rcases List.mem_cons.1 h with e | h
  ·subst e;omega
  ·have:=ih h;omega
theorem zB{g:HL den [.row false cn,.row false dW]}(h:sizL [.row false cn,.row false dW] g<=1048576):Sm g.1/\Sm g.2.1/\SmT g.2.1:=by
 obtain⟨C,T,z⟩:=g;have e:sizL [.row false cn,.row false dW] (C,T,z)=kK (.row false cn) C+(kK (.row false dW) T+0):=rfl;have h1:=lX (b:=false) (t:=cn) (λx=>by show 1<=1 + _;omega) C;have h2:=lX (b:=false) (t:=dW) (λx=>by show 1<=1 + _;omega) T;refine⟨show C.length<=_ by omega,show T.length<=_ by omega,λt ht=>?_⟩;have h3:kK dW t<=(T.map (kK dW)).sum:=zY ht;have h4:kK (.row false dW) T=1+(T.map (kK dW)).sum:=rfl;have h5:kK dW t=1+(1+(1+(1+(1+(1+(1+kK cn t.2.2.2.2.2.2.2)))))):=rfl;have h6:=lX (b:=false) (t:=KCn) (λx=>by show 1<=1 + _;omega) t.2.2.2.2.2.2.2;have h7:kK cn t.2.2.2.2.2.2.2=kK (.row false KCn) t.2.2.2.2.2.2.2:=rfl;unfold Sm;omega
theorem law_DirtyRaw{h0:HL den [.row false cn,.row false dW]}{h1:HL den [.row false cn,.row false dW]}{h2 h3:HL den [.row false (.pair I64 I64)]}{h4:HL den [I64,I64]}{h5:HL den [I64]}(g0:GoodL _ h0) (g1:GoodL _ h1) (g2:GoodL _ h2) (g3:GoodL _ h3) (g4:GoodL _ h4) (g5:GoodL _ h5)
 (hz:sizL [.row false cn,.row false dW] h0+(sizL [.row false cn,.row false dW] h1+(sizL [.row false (.pair I64 I64)] h2+(sizL [.row false (.pair I64 I64)] h3+(sizL [I64,I64] h4+(sizL [I64] h5+(0))))))<=1048576) :
 g6.g (appL [.row false cn,.row false dW] _ h0 (appL [.row false cn,.row false dW] _ h1 (appL [.row false (.pair I64 I64)] _ h2 (appL [.row false (.pair I64 I64)] _ h3 (appL [I64,I64] _ h4 (appL [I64] _ h5 ()))))))=some (true,()):=by
 obtain⟨a1,a2,a3⟩:=zB (g:=h0) (by omega);obtain⟨b1,b2,b3⟩:=zB (g:=h1) (by omega);have z2:=lX (b:=false) (t:=.pair I64 I64) (λ_=>by show 1<=1+1;omega) h2.1;have z3:=lX (b:=false) (t:=.pair I64 I64) (λ_=>by show 1<=1+1;omega) h3.1;have e2:sizL [.row false (.pair I64 I64)] h2=kK (.row false (.pair I64 I64)) h2.1+0:=rfl;have e3:sizL [.row false (.pair I64 I64)] h3=kK (.row false (.pair I64 I64)) h3.1+0:=rfl;exact Co (C:=h0.1) (T:=h0.2.1) (D:=h1.1) (U:=h1.2.1) (a:=h2.1) (b:=h3.1) (p:=h4.1) (r:=h4.2.1) (k:=h5.1) a1 a2 b1 b2 a3 b3 (by omega) (by omega)
end Go.Proofs.Yteonljfnncdijaa
