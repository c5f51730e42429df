/- Part of the proof; no condition. -/
import Derived.Test.YteonljfnncdijaaFc
import Derived.Deep.Draws
import Derived.Sort.WalkB12
import Derived.Shelf.RegionOpenPlain
import Derived.Shelf.SlSortCmp.WholeK
import Derived.Shelf.SlSortCmp.NoneTotal
import Derived.Shelf.SlicesE.Clone
import Derived.Ground.SlgnProg
import Derived.Test.YteonljfnncdijaaProg
import Derived.Deep.DeepAppendRoom
import Derived.ArgAppend
import Derived.KernelRfl
import Derived.WalkKit
import Derived.WalkSpells
import Derived.Handy
import Derived.OpenShut
import Derived.Deep.Slices
set_option linter.unusedVariables false
set_option linter.unusedSimpArgs false
namespace Go.Proofs.Yteonljfnncdijaa
open Go.RowKit Go.Sort Go.Lib
structure cA (b:Nat) (w w':World):Prop where
 os:w'.os=w.os
 tape:w'.tape=w.tape
 output:w'.output=w.output
 size:w'.heap.size=w.heap.size
 block:∀k,k≠b->w'.heap[k]?=w.heap[k]?
theorem cA.set(b o:Nat) (w:World) (v:Value):cA b w (w.setCell ⟨b,o,none⟩ v):=⟨rfl,rfl,rfl,by simp,λk hk=>Below.heap_setCell w _ v k hk⟩
theorem cA.refl(b:Nat) (w:World):cA b w w:=⟨rfl,rfl,rfl,rfl,λ_ _=>rfl⟩
theorem cA.trans{b:Nat}{w w' X9:World}(h:cA b w w') (h':cA b w' X9):cA b w X9:=
 ⟨h'.os.trans h.os,h'.tape.trans h.tape,h'.output.trans h.output,h'.size.trans h.size,λk hk=>(h'.block k hk).trans (h.block k hk)⟩
theorem cA.setCells(b:Nat):∀(vs:List Value) (o:Nat) (w:World),cA b w (w.setCells b o vs)
 | [],_,_=>cA.refl _ _
 | v :: r,o,w=>(cA.set b o w v).trans (cA.setCells b r (o+1) _)
theorem cA.ahead(b:Nat) (w:World) (n:Nat):cA b w (Sort.ahead w n):=⟨rfl,rfl,rfl,rfl,λ_ _=>rfl⟩
theorem cA.drewN(b:Nat) (w:World) (n:Nat):cA b w (w.drewN n):=⟨rfl,rfl,rfl,rfl,λ_ _=>rfl⟩
theorem cA.putRow(b off:Nat) (w:World) (d:Array PID):cA b w (putRowK eL 2 w b off d):=by
 unfold putRowK Go.Sort.putRow mapBlock;exact⟨rfl,rfl,rfl,by simp,λk hk=>by simp[Array.getElem?_modify,Ne.symm hk]⟩
def g7(w:World) (b off:Nat) (l:List PID):Prop:=∀i (h:i < l.length),w.cell? ⟨b,off+i*2,none⟩=some (.int .i64 l[i].1)/\w.cell? ⟨b,off+i*2+1,none⟩=some (.int .i64 l[i].2)
theorem Cw(x y:PID) (w:World):Sem.run Try.prog (binOp .neq 30 (.agg #[.int .i64 x.1,.int .i64 x.2]) (.agg #[.int .i64 y.1,.int .i64 y.2])) w=.ok (.bool (!decide (x=y))) w:=by
 have h:=BH x y w;rw[run_eql_struct] at h;rw[run_neq_struct];revert h
 cases (Op.equalIn 10000 30 (.agg #[.int .i64 x.1,.int .i64 x.2]) (.agg #[.int .i64 y.1,.int .i64 y.2])).run Try.prog w with
 | ok b w'=>intro h;simp only[Result.andThen_ok] at h ⊢;injection h with h1 h2;injection h1 with h1;rw[h1,h2]
 | _=>intro h;simp[Result.andThen] at h
theorem yD(op:BinOp) (a b:Operand) (x y:PID) (w:World):Sem.run Try.prog (eqGuard op 30 a b (.agg #[.int .i64 x.1,.int .i64 x.2]) (.agg #[.int .i64 y.1,.int .i64 y.2])) w=.ok () w:=
 (GuardAt.agg (P:=Try.prog) (T:=30) (λx:PID=>#[.int .i64 x.1,.int .i64 x.2]) (by kernel_rfl)) op a b x y w
theorem eS(b:Nat):∀(vs:List Value) (o:Nat) {w:World}{j:Nat},j < o->(w.setCells b o vs).cell? ⟨b,j,none⟩=w.cell? ⟨b,j,none⟩
 | [],_,_,_,_=>rfl
 | v :: r,o,w,j,h=>by
  show ((w.setCell ⟨b,o,none⟩ v).setCells b (o+1) r).cell? _=_;rw[eS b r (o+1) (by omega)];refine World.cell?_setCell_other (h:=?_) ..
  intro e;injection e with _ e _;omega
theorem uM(w:World) (ty:TypeId) (b o n c:Nat) (hn:0 < n) (hc:∀j,j < n*2->(w.cell? ⟨b,o+j,none⟩).isSome=true/\w.frozen? ⟨b,o+j,none⟩=false) :
 (Builtin.clear_ #[24] ty #[.slice (some ⟨b,o,none⟩) n c]).run Try.prog w=.ok (.tuple #[]) (w.setCells b o (List.replicate (n*2) (.int .i64 0))):=by
 have Xr:(Builtin.zeroCells #[.int .i64 0,.int .i64 0] n).toList=List.replicate (n*2) (.int .i64 0):=by
  simp[Builtin.zeroCells];apply List.ext_getElem
  ·simp
  ·intro i h1 h2;simp only[List.getElem_map,List.getElem_replicate]
   rcases Nat.mod_two_eq_zero_or_one i with e | e<;>simp[e]
 have hst:=run_storeCells_cells (P:=Try.prog) b o (List.replicate (n*2) (.int .i64 0)) 0 w (λj hj=>by simpa using (hc j (by simpa using hj)).1) (λj hj=>by simpa using (hc j (by simpa using hj)).2) (by intro v YZ;rw[List.eq_of_mem_replicate YZ];rfl);simp only[Nat.add_zero] at hst;obtain⟨m,rfl⟩:∃m,n=m+1:=⟨n - 1,by omega⟩;have hv:∀w,(zeroValue 30).run Try.prog w=.ok (.agg #[.int .i64 0,.int .i64 0]) w:=Try.zeroValue30;simp[Builtin.clear_,run_underlying Try.underlying24,hv,Value.cells,Xr,hst]
def Bj(w w':World) (ZG off:Nat) (d:Array PID):Prop:=g7 w' ZG off (compactUpTo d d.size)/\cA ZG w w'
theorem p6{w:World}{ZG off:Nat}{d:Array PID}(h:HoldsK eL 2 w ZG off d) {l:List PID}(hl:l.length<=d.size) (he:∀i (h:i < l.length),l[i]=d[i]!):g7 w ZG off l:=λi hi=>by
 have:=cr h (i:=i) (by omega);rw[he i hi];exact⟨this.1,this.2.1⟩
set_option maxHeartbeats 8000000 in
set_option maxRecDepth 1000000 in
theorem rU(ZG off cap:Nat) (d:Array PID) (w:World) (hH:HoldsK eL 2 w ZG off d) (hcap:d.size<=cap) (hsz:d.size<=4611686018427387904) :
 Calls Try.prog 55 #[.slice (some ⟨ZG,off,none⟩) d.size cap] w λe w'=>e=.returned (.slice (some ⟨ZG,off,none⟩) (compactUpTo d d.size).length cap)/\Bj w w' ZG off d:=by
 have mixed:Try.prog.follows .mixedOrders=true:=by kernel_rfl
 have PV:=λx y w=>BH x y w;have Ql:=λx y w=>Cw x y w;have P1:=λop a b x y w=>yD op a b x y w
 have Xz:∀q,(∀j,j < d.size->keeps d j=true)->(compactUpTo d d.size).length=d.size/\Bj w (w.drewN q) ZG off d:=by
  intro q ZS
  have e:compactUpTo d d.size=d.toList:=by rw[compactUpTo_all d _ ZS,range_map_get]
  refine⟨by rw[e];simp,?_,cA.drewN _ _ _⟩;rw[e]
  exact p6 (d:=d) (holdsK_ahead eL 2 w q ZG off d hH) (by simp) λi hi=>by simp at hi;simp[hi]
 have HS:Aside (∀q,(∀j,j < d.size->keeps d j=true)->(compactUpTo d d.size).length=d.size/\Bj w (w.drewN q) ZG off d):=Xz;clear Xz;by_cases h2:d.size < 2
 ·have HH:Aside (HoldsK eL 2 w ZG off d):=hH;clear hH
  go_enter Try.func55,Try.ntmps55
  go_wp2
  go_ret
  obtain⟨e1,e2⟩:=HS.out 0 (λj hj=>keeps_lt_one d j (by omega));exact⟨by rw[e1];rfl,e2⟩
 ·go_enter Try.func55,Try.ntmps55
  go_wp2
  go_loopg [3] d.size (λg s3 wr=>∃k q:Nat,1<=k/\k<=d.size/\d.size - k<=g/\s3=.int .i64 k/\wr=w.drewN q/\∀j,j < k->keeps d j=true)
  case atStart=>exact⟨1,0,Nat.le_refl _,by omega,by omega,rfl,rfl,keeps_lt_one d⟩
  case round=>
   obtain⟨k,q,Zf,hk,hg,rfl,rfl,ZS⟩:=hrel;by_cases hlt:k < d.size
   ·obtain⟨c1,Q9,f1,Ps⟩:=cr hH hlt;obtain⟨c0,Q8,f0,Pr⟩:=cr hH (i:=k - 1) (by omega);have A:Aside (∀j,j < k->keeps d j=true):=ZS;have HH:Aside (HoldsK eL 2 w ZG off d):=hH;clear ZS hH;generalize hx:d[k]! = x at c1 Q9;generalize hy:d[k - 1]! = y at c0 Q8;have B:Aside (d[k]! = x/\d[k - 1]! = y):=⟨hx,hy⟩;clear hx hy;by_cases hdup:x=y
    ·subst hdup
     go_wp2_with fail
     go_region_o
     go_wp2
     clear c0 c1 Q8 Q9 f0 f1 Pr Ps
     go_loopg [3,5] d.size (λg s3 s5 wr=>∃(kk k2 q2:Nat) (dk:Array PID),s3=.int .i64 kk/\s5=.int .i64 k2/\1<=k2/\k+k2<=d.size/\d.size - (k+k2)<=g/\wr=putRowK eL 2 (Sort.ahead w q2) ZG off dk/\CompInv d (k+k2) kk dk)
     case atStart=>exact⟨k,1,q+1,d,rfl,rfl,Nat.le_refl _,by omega,by omega,(putRowK_self eL 2 (Sort.ahead w (q+1)) ZG off d (holdsK_ahead eL 2 w (q+1) ZG off d HH.out)).symm,CompInv.start A.out (keeps_neg (by omega) (by rw[B.out.1,B.out.2]))⟩
     case round=>
      obtain⟨kk,k2,q2,dk,rfl,rfl,h1,Y1,ZO,U3,hI⟩:=hrel;have hkk:=hI.lt;have hds:=hI.size
      have Vz:HoldsK eL 2 wr ZG off dk:=by rw[U3];exact holdsK_putRowK eL 2 _ ZG off d dk (holdsK_ahead eL 2 w q2 ZG off d HH.out) hds
      have W2:Aside (wr=putRowK eL 2 (Sort.ahead w q2) ZG off dk):=U3;have I2:Aside (CompInv d (k+k2) kk dk):=hI;clear U3;by_cases hlt2:k+k2 < d.size
      ·obtain⟨cm,Q',_,_⟩:=cr Vz (i:=k+k2) (by omega);obtain⟨cp,Ra,_,_⟩:=cr Vz (i:=k+k2 - 1) (by omega);obtain⟨ck,Pm,fk,OO⟩:=cr Vz (i:=kk) (by omega);rw[hI.high (k+k2) (by omega),show off+(k+k2)*2=off+k*2+k2*2 by omega] at cm Q';rw[hI.high (k+k2 - 1) (by omega),show off+(k+k2 - 1)*2=off+k*2+(k2 - 1)*2 by omega] at cp Ra;clear Vz hI;generalize hu:d[k+k2]! = u at cm Q';generalize hv:d[k+k2 - 1]! = v at cp Ra;generalize dk[kk]! = old at ck Pm;have C:Aside (d[k+k2]! = u/\d[k+k2 - 1]! = v):=⟨hu,hv⟩;clear hu hv;by_cases huv:u=v
       ·subst huv
        go_wp2_with fail
        go_region_o
        go_wp2
        go_roundg (d.size - (k+(k2+1)))
        case measure=>omega
        case rel=>exact⟨kk,k2+1,q2+1,dk,rfl,by go_num,by omega,by omega,Nat.le_refl _,by rw[W2.out];rfl,I2.out.skip (keeps_neg (by omega) (by rw[C.out.1,C.out.2]))⟩
       ·go_wp2_with fail
        go_region_o
        go_wp2
        go_roundg (d.size - (k+(k2+1)))
        case measure=>omega
        case rel=>exact⟨kk+1,k2+1,q2+1,dk.setIfInBounds kk u,by go_num,by go_num,by omega,by omega,Nat.le_refl _,BB (by omega) W2.out u,by have:=I2.out.keep hlt2 (keeps_pos (by rw[C.out.1,C.out.2];exact huv));rwa [C.out.1] at this⟩
      ·have XY:k+k2=d.size:=by omega
       have Y':∀ty,(Builtin.clear_ #[24] ty #[.slice (some ⟨ZG,off+kk*2,none⟩) (d.size - kk) (cap - kk)]).run Try.prog wr=.ok (.tuple #[]) (wr.setCells ZG (off+kk*2) (List.replicate ((d.size - kk)*2) (.int .i64 0))):=λty=>uM wr ty ZG (off+kk*2) (d.size - kk) (cap - kk) (by omega) λj hj=>by
        have h:=cr Vz (i:=kk+j / 2) (by omega);rcases Nat.mod_two_eq_zero_or_one j with e | e
        ·rw[show off+kk*2+j=off+(kk+j / 2)*2 by omega];exact⟨by rw[h.1];rfl,h.2.2.1⟩
        ·rw[show off+kk*2+j=off+(kk+j / 2)*2+1 by omega];exact⟨by rw[h.2.1];rfl,h.2.2.2⟩
       have HK:=Lib.hid Vz;clear Vz hI
       go_wp2
       go_ret
       have hI:=I2.out;rw[XY] at hI;have hl:=hI.len;refine⟨by rw[hl];rfl,λi hi=>?_,?_⟩
       ·rw[hl] at hi;have Ux:=hI.low i hi;obtain⟨g1,g2,_,_⟩:=cr HK.out (i:=i) (by omega)
        have e:(compactUpTo d d.size)[i]'(by rw[hl];exact hi)=dk[i]!:=by
         have:=oGS Ux;exact this.2
        rw[e];exact⟨by rw[eS _ _ _ (by omega)];exact g1,by rw[eS _ _ _ (by omega)];exact g2⟩
       ·rw[W2.out];exact ((cA.ahead _ _ _).trans (cA.putRow _ _ _ _)).trans (cA.setCells _ _ _ _)
    ·go_wp2_with fail
     go_region_o
     go_wp2
     go_roundg (d.size - (k+1))
     case measure=>omega
     case rel=>
      refine⟨k+1,q+1,by omega,by omega,Nat.le_refl _,by go_num,rfl,λj hj=>?_⟩;by_cases e:j=k
      ·subst e;exact keeps_pos (by rw[B.out.1,B.out.2];exact hdup)
      ·exact A.out j (by omega)
   ·have:k=d.size:=by omega
    subst this;have HH:Aside (HoldsK eL 2 w ZG off d):=hH;clear hH
    go_wp2
    go_ret
    obtain⟨e1,e2⟩:=HS.out q ZS;exact⟨by rw[e1];rfl,e2⟩
theorem gC(a b:PID):dJ a b=true↔(a.1≠-1/\b.1=-1)\/((a.1=-1↔b.1=-1)/\(a.1 < b.1\/a.1=b.1/\a.2 < b.2)):=by
 unfold dJ;by_cases h1:a.1=-1<;>by_cases h2:b.1=-1<;>simp[h1,h2,oBF]
theorem fZ(a:PID):dJ a a=false:=by
 rw[<- Bool.not_eq_true,gC];omega
theorem gS{a b c:PID}(h1:dJ a b=true) (h2:dJ b c=true):dJ a c=true:=by
 rw[gC] at *;omega
theorem mQ{a b:PID}(h1:dJ a b=false) (h2:dJ b a=false):a=b:=by
 rw[<- Bool.not_eq_true,gC] at *
 have e1:a.1=b.1:=by omega
 have e2:a.2=b.2:=by omega
 exact Prod.ext e1 e2
theorem sc{a b:PID}(h1:dJ a b=true):dJ b a=false:=by
 rw[<- Bool.not_eq_true];intro h2;have:=gS h1 h2;rw[fZ] at this;cases this
theorem nW(a b:Int):(a < b/\ph a b=-1)\/(a=b/\ph a b=0)\/(b < a/\ph a b=1):=by
 unfold ph;by_cases h:a < b
 ·exact .inl ⟨h,oIP h⟩
 ·rw[oIN h];by_cases h2:b < a
  ·exact .inr (.inr ⟨h2,oIP h2⟩)
  ·exact .inr (.inl ⟨by omega,oIN h2⟩)
theorem mi(a:Int):(a=-1/\jL a=1)\/(a≠-1/\jL a=0):=by
 unfold jL;by_cases h:a=-1
 ·exact .inl ⟨h,oIP h⟩
 ·exact .inr ⟨h,oIN h⟩
theorem lG(x y:PID):ltOf xL x y=dJ x y:=by
 rw[Bool.eq_iff_iff,gC];unfold ltOf xL;rw[decide_eq_true_iff]
 rcases mi x.1 with ⟨h1,e1⟩ | ⟨h1,e1⟩<;>rcases mi y.1 with ⟨h2,e2⟩ | ⟨h2,e2⟩<;>rw[e1,e2]<;>rcases nW x.1 y.1 with ⟨h3,e3⟩ | ⟨h3,e3⟩ | ⟨h3,e3⟩<;>rw[e3] <;>
  rcases nW x.2 y.2 with ⟨h4,e4⟩ | ⟨h4,e4⟩ | ⟨h4,e4⟩<;>rw[e4]<;>simp only[orI,ph]<;>simp<;>omega
theorem Ab:SWO (ltOf xL) where
 irrefl x:=by rw[lG];exact fZ x
 trans x y z h1 h2:=by rw[lG] at *;exact gS h1 h2
 ntrans x y z h1 h2:=by
  rw[lG] at *;rw[<- Bool.not_eq_true,gC] at *;omega
abbrev Asc(l:List PID):Prop:=l.Pairwise λa b=>dJ a b=true
theorem nZ:∀{a b:List PID},Asc a->Asc b->(∀x,x∈a↔x∈b)->a=b
 | [],[],_,_,_=>rfl
 | [],y :: b,_,_,h=>by have:=(h y).2 (by simp);simp at this
 | x :: a,[],_,_,h=>by have:=(h x).1 (by simp);simp at this
 | x :: a,y :: b,ha,hb,h=>by
  have VB:=List.pairwise_cons.1 ha;have Y0:=List.pairwise_cons.1 hb
  have e:x=y:=by
   have h1:=(h x).1 (by simp);have h2:=(h y).2 (by simp);rcases List.mem_cons.1 h1 with e | h1
   ·exact e
   ·rcases List.mem_cons.1 h2 with e | h2
    ·exact e.symm
    ·have g1:=Y0.1 x h1;have g2:=VB.1 y h2;rw[sc g1] at g2;cases g2
  subst e;rw[nZ VB.2 Y0.2 λz=>?_];constructor
  ·intro hz;rcases List.mem_cons.1 ((h z).1 (by simp[hz])) with e | h1
   ·subst e;have:=VB.1 z hz;rw[fZ] at this;cases this
   ·exact h1
  ·intro hz;rcases List.mem_cons.1 ((h z).2 (by simp[hz])) with e | h1
   ·subst e;have:=Y0.1 z hz;rw[fZ] at this;cases this
   ·exact h1
theorem rv(x z:PID):∀{l:List PID},z∈rx l x↔z=x\/z∈l
 | []=>by simp[rx]
 | y :: r=>by
  unfold rx;split
  ·rw[List.mem_cons,rv x z,List.mem_cons];constructor
   ·rintro (h | h | h)<;>simp[h]
   ·rintro (h | h | h)<;>simp[h]
  ·split
   ·rename_i e;subst e;simp
   ·simp
theorem wT(x:PID):∀{l:List PID},Asc l->Asc (rx l x)
 | [],_=>by simp[rx]
 | y :: r,h=>by
  have h':=List.pairwise_cons.1 h;unfold rx;split
  ·rename_i hy;refine List.pairwise_cons.2 ⟨λz hz=>?_,wT x h'.2⟩;rcases (rv x z).1 hz with rfl | hz
   ·exact hy
   ·exact h'.1 z hz
  ·rename_i hy;split
   ·exact h
   ·rename_i hne
    have Vt:dJ x y=true:=by
     rw[<- Bool.not_eq_false];intro e;exact hne (mQ (by simpa using hy) e)
    refine List.pairwise_cons.2 ⟨λz hz=>?_,h⟩;rcases List.mem_cons.1 hz with rfl | hz
    ·exact Vt
    ·exact gS Vt (h'.1 z hz)
theorem qj(l:List PID):∀{a:List PID},Asc a->Asc (l.foldl rx a)/\∀z,z∈l.foldl rx a↔z∈l\/z∈a:=by
 induction l with
 | nil=>intro a h;exact⟨h,λz=>by simp⟩
 | cons x l ih=>
  intro a h;obtain⟨h1,h2⟩:=ih (wT x h);refine⟨h1,λz=>?_⟩;rw[List.foldl_cons,h2,rv,List.mem_cons];constructor
  ·rintro (h | h | h)<;>simp[h]
  ·rintro ((h | h) | h)<;>simp[h]
theorem pz(l:List PID):Asc (ga l):=(qj l (a:=[]) List.Pairwise.nil).1
theorem px(l:List PID) (z:PID):z∈ga l↔z∈l:=by
 rw[ga,(qj l (a:=[]) List.Pairwise.nil).2];simp
theorem sq{l m:List PID}(h:Asc m) (hm:∀z,z∈m↔z∈l):ga l=m:=nZ (pz l) h λz=>(px l z).trans (hm z).symm
theorem ng(d:Array PID) (hs:∀i,i+1 < d.size->dJ d[i+1]! d[i]! = false):∀m,m<=d.size ->
 Asc (compactUpTo d m)/\(∀z,z∈compactUpTo d m↔∃i,i < m/\z=d[i]!)/\(0 < m->∀z∈compactUpTo d m,z=d[m - 1]!\/dJ z d[m - 1]! = true):=by
 intro m
 induction m with
 | zero=>intro _;refine⟨by simp[compactUpTo],λz=>by simp[compactUpTo],λh=>by omega⟩
 | succ m ih=>
  intro hm;obtain⟨h1,h2,h3⟩:=ih (by omega);rw[compactUpTo_succ];by_cases h0:m=0
  ·subst h0;have:keeps d 0=true:=keeps_lt_one d 0 (by omega);rw[this];refine⟨by simp[compactUpTo],λz=>?_,λ_ z hz=>?_⟩
   ·simp only[compactUpTo,List.range_zero,List.filter_nil,List.map_nil,if_true,List.nil_append,List.mem_singleton];constructor
    ·intro e;exact⟨0,by omega,e⟩
    ·rintro⟨i,hi,e⟩;rw[e];congr 1;omega
   ·simp[compactUpTo] at hz;exact .inl hz
  ·have Vx:=h3 (by omega);have RL:=hs (m - 1) (by omega);rw[show m - 1+1=m by omega] at RL;by_cases e:d[m]! = d[m - 1]!
   ·rw[keeps_neg (by omega) e];simp only[Bool.false_eq_true,if_false,List.append_nil];refine⟨h1,λz=>?_,λ_ z hz=>?_⟩
    ·rw[h2];constructor
     ·rintro⟨i,hi,hz⟩;exact⟨i,by omega,hz⟩
     ·rintro⟨i,hi,hz⟩;by_cases hi2:i=m
      ·subst hi2;exact⟨i - 1,by omega,by rw[hz,e]⟩
      ·exact⟨i,by omega,hz⟩
    ·rw[Nat.add_sub_cancel,e];exact Vx z hz
   ·rw[keeps_pos e];simp only[if_true]
    have hlt:dJ d[m - 1]! d[m]! = true:=by
     rw[<- Bool.not_eq_false];intro g;exact e (mQ RL g)
    have ZS:∀z∈compactUpTo d m,dJ z d[m]! = true:=λz hz=>by
     rcases Vx z hz with g | g
     ·rw[g];exact hlt
     ·exact gS g hlt
    refine⟨List.pairwise_append.2 ⟨h1,by simp,λa ha b hb=>?_⟩,λz=>?_,λ_ z hz=>?_⟩
    ·rw[List.mem_singleton.1 hb];exact ZS a ha
    ·rw[List.mem_append,h2,List.mem_singleton];constructor
     ·rintro (⟨i,hi,hz⟩ | hz)
      ·exact⟨i,by omega,hz⟩
      ·exact⟨m,by omega,hz⟩
     ·rintro⟨i,hi,hz⟩;by_cases hi2:i=m
      ·subst hi2;exact .inr hz
      ·exact .inl ⟨i,by omega,hz⟩
    ·rw[Nat.add_sub_cancel];rcases List.mem_append.1 hz with hz | hz
     ·exact .inr (ZS z hz)
     ·exact .inl (List.mem_singleton.1 hz)
theorem o8{l:List PID}{d:Array PID}(hp:∀z,z∈d.toList↔z∈l) (hs:∀i,i+1 < d.size->dJ d[i+1]! d[i]! = false):compactUpTo d d.size=ga l:=by
 obtain⟨h1,h2,_⟩:=ng d hs d.size (Nat.le_refl _);refine (sq h1 λz=>?_).symm;rw[h2,<- hp];constructor
 ·rintro⟨i,hi,e⟩;rw[e];simp[hi]
 ·intro hz;obtain⟨i,hi,e⟩:=List.getElem_of_mem hz
  have ZW:i < d.size:=by simpa using hi
  exact⟨i,ZW,by rw[<- e];simp[ZW]⟩
end Go.Proofs.Yteonljfnncdijaa
namespace Go.Proofs.Yteonljfnncdijaa
open Go.Shelf
def qW:Go.Shelf.Ren:=⟨λ| 6=>54 | 15=>67 | 14=>66 | 28=>85 | 29=>86 | 20=>77 | 21=>78 | 22=>79 | 23=>80 | 24=>81 | 25=>82 | 26=>83 | 27=>84 | 46=>89 | 47=>90 | 48=>91 | 49=>92 | 50=>93 | 57=>94 | n=>n,λ| 22=>24 | 24=>30 | 25=>68 | 3=>3 | 39=>98 | 0=>0 | 53=>114 | 55=>116 | 4=>4 | 46=>107 | 45=>106 | 50=>111 | 5=>5 | 9=>9 | 66=>119 | 70=>123 | 76=>125 | 77=>126 | n=>n,λ| n=>n⟩
theorem vc:Go.Proofs.SlLaysF0.n6 Try.prog qW:={
 mixed:=by kernel_rfl
 f6:=⟨Try.f54.name,by decide,Try.func54.trans (congrArg some (by kernel_rfl))⟩
 f14:=⟨Try.f66.name,by decide,Try.func66.trans (congrArg some (by kernel_rfl))⟩
 f15:=Try.func67.trans (congrArg some (by kernel_rfl))
 f20:=⟨Try.f77.name,by decide,Try.func77.trans (congrArg some (by kernel_rfl))⟩
 f21:=⟨Try.f78.name,by decide,Try.func78.trans (congrArg some (by kernel_rfl))⟩
 f22:=⟨Try.f79.name,by decide,Try.func79.trans (congrArg some (by kernel_rfl))⟩
 f23:=⟨Try.f80.name,by decide,Try.func80.trans (congrArg some (by kernel_rfl))⟩
 f24:=⟨Try.f81.name,by decide,Try.func81.trans (congrArg some (by kernel_rfl))⟩
 f25:=⟨Try.f82.name,by decide,Try.func82.trans (congrArg some (by kernel_rfl))⟩
 f26:=⟨Try.f83.name,by decide,Try.func83.trans (congrArg some (by kernel_rfl))⟩
 f27:=⟨Try.f84.name,by decide,Try.func84.trans (congrArg some (by kernel_rfl))⟩
 f28:=Try.func85.trans (congrArg some (by kernel_rfl))
 f29:=Try.func86.trans (congrArg some (by kernel_rfl))
 f46:=⟨Try.f89.name,by decide,Try.func89.trans (congrArg some (by kernel_rfl))⟩
 f47:=Try.func90.trans (congrArg some (by kernel_rfl))
 f48:=Try.func91.trans (congrArg some (by kernel_rfl))
 f49:=⟨Try.f92.name,by decide,Try.func92.trans (congrArg some (by kernel_rfl))⟩
 f50:=⟨Try.f93.name,by decide,Try.func93.trans (congrArg some (by kernel_rfl))⟩
 f57:=⟨Try.f94.name,by decide,Try.func94.trans (congrArg some (by kernel_rfl))⟩
 t0:=Try.underlying0
 a0:=Try.isAgg0
 z0:=Try.sizeOf0
 v0:=Try.zeroValue0
 t3:=Try.underlying3
 a3:=Try.isAgg3
 z3:=Try.sizeOf3
 v3:=Try.zeroValue3
 t4:=Try.underlying4
 a4:=Try.isAgg4
 z4:=Try.sizeOf4
 v4:=Try.zeroValue4
 t5:=Try.underlying5
 a5:=Try.isAgg5
 z5:=Try.sizeOf5
 v5:=Try.zeroValue5
 t9:=Try.underlying9
 a9:=Try.isAgg9
 z9:=Try.sizeOf9
 v9:=Try.zeroValue9
 t22:=Try.underlying24
 a22:=Try.isAgg24
 z22:=Try.sizeOf24
 v22:=Try.zeroValue24
 t25:=Try.underlying68
 a25:=Try.isAgg68
 z25:=Try.sizeOf68
 v25:=Try.zeroValue68
 t39:=Try.underlying98
 a39:=Try.isAgg98
 z39:=Try.sizeOf98
 v39:=Try.zeroValue98
 t45:=Try.underlying106
 a45:=Try.isAgg106
 z45:=Try.sizeOf106
 v45:=Try.zeroValue106
 t46:=Try.underlying107
 a46:=Try.isAgg107
 z46:=Try.sizeOf107
 v46:=Try.zeroValue107
 t50:=Try.underlying111
 a50:=Try.isAgg111
 z50:=Try.sizeOf111
 v50:=Try.zeroValue111
 t53:=Try.underlying114
 a53:=Try.isAgg114
 z53:=Try.sizeOf114
 v53:=Try.zeroValue114
 t55:=Try.underlying116
 a55:=Try.isAgg116
 z55:=Try.sizeOf116
 v55:=Try.zeroValue116
 t66:=Try.underlying119
 a66:=Try.isAgg119
 z66:=Try.sizeOf119
 v66:=Try.zeroValue119
 t70:=Try.underlying123
 a70:=Try.isAgg123
 z70:=Try.sizeOf123
 v70:=Try.zeroValue123
 t76:=Try.underlying125
 a76:=Try.isAgg125
 z76:=Try.sizeOf125
 v76:=Try.zeroValue125
 t77:=Try.underlying126
 a77:=Try.isAgg126
 z77:=Try.sizeOf126
 v77:=Try.zeroValue126 }
def qz:Go.Shelf.Ren:=⟨λ| 41=>35 | n=>n,λ| 22=>24 | 23=>30 | 4=>4 | n=>n,λ| n=>n⟩
theorem tz:Go.Proofs.SlLaysE0.n41 Try.prog qz:={
 mixed:=by kernel_rfl
 f41:=⟨Try.f35.name,by decide,Try.func35.trans (congrArg some (by kernel_rfl))⟩
 t4:=Try.underlying4
 a4:=Try.isAgg4
 z4:=Try.sizeOf4
 v4:=Try.zeroValue4
 t22:=Try.underlying24
 a22:=Try.isAgg24
 z22:=Try.sizeOf24
 v22:=Try.zeroValue24 }
end Go.Proofs.Yteonljfnncdijaa
namespace Go.Proofs.Yteonljfnncdijaa
open Go.RowKit Go.Sort Go.Lib
theorem qw(p:Option Addr) (cap:Nat) (w:World):Calls Try.prog 55 #[.slice p 0 cap] w λe w'=>e=.returned (.slice p 0 cap)/\w'=w:=by
 go_enter Try.func55,Try.ntmps55
 go_wp2
 go_ret
 exact⟨rfl,rfl⟩
theorem vb(p:Option Addr) (cap:Nat) (fv:Value) (w:World):Calls Try.prog 54 #[.slice p 0 cap,fv] w λe w'=>e=.returned (.tuple #[])/\w'=w:=
 AnyF.slices_SortFunc_none vc p cap fv w
theorem xS(ZG cap:Nat) (d:Array PID) (w:World) (hH:HoldsK eL 2 w ZG 0 d) (Wr:ZG < w.heap.size) (hsz:d.size < 4611686018427387904) :
 Calls Try.prog 54 #[.slice (some ⟨ZG,0,none⟩) d.size cap,.func (.func 33) #[] #[]] w λe w'=>
  e=.returned (.tuple #[])/\∃d' n os,PermIn 0 d.size d d'/\SortedIn (ltOf xL) 0 d.size d'/\w'=sortWorldK eL 2 w ZG 0 n d' os:=by
 have eg:∀args w,(callFunc 33 args).run Try.prog w=.ok (.enter 33 args) w:=iC Try.func33 (by kernel_rfl) rfl;have SC:CmpLays Try.prog 33 #[] eL 2 xL ZG 0 d.size w:=λ_ _ _ _ x y=>wy x y _;exact AnyQ.slices_SortFunc vc 2 Try.isAgg30 Try.sizeOf30 eL (λ_=>rfl) (λx v hv=>by simp[eL] at hv;rcases hv with rfl | rfl<;>rfl) xL Ab 33 #[] ZG 0 cap d w eg SC hH Wr hsz
theorem lC:∃i z,Try.prog.info? 30=some i/\i.zero=some z/\i.size=2/\i.bytes=16/\z.cells.size=2:=by
 have h:(match Try.prog.info? 30 with | some i=>(match i.zero with | some z=>decide (i.size=2) && decide (i.bytes=16) && decide (z.cells.size=2) | none=>false) | none=>false)=true:=by kernel_rfl
 revert h
 cases Try.prog.info? 30 with
 | none=>intro h;cases h
 | some i=>
  intro h;simp only at h
  cases hz:i.zero with
  | none=>rw[hz] at h;cases h
  | some z=>
   rw[hz] at h;simp only[oBA,oDE] at h;exact⟨i,z,rfl,hz,h.1.1,h.1.2,h.2⟩
def eQ(l:List PID):List Value:=l.flatMap eL
theorem ms(l:List PID):(eQ l).length=l.length*2:=by
 induction l with
 | nil=>rfl
 | cons x l ih=>simp[eQ,eL] at ih ⊢;omega
theorem mt:∀(l:List PID) (i:Nat) (h:i < l.length),(eQ l)[i*2]?=some (.int .i64 l[i].1)/\(eQ l)[i*2+1]?=some (.int .i64 l[i].2)
 | x :: l,0,_=>⟨rfl,rfl⟩
 | x :: l,i+1,h=>by
  have:=mt l i (by simpa using h);have e:eQ (x :: l)=.int .i64 x.1 :: .int .i64 x.2 :: eQ l:=rfl;rw[e,show (i+1)*2=i*2+1+1 by omega];simpa using this
theorem qn(l:List PID):∀u∈eQ l,u.oneCell'=true:=by
 intro u hu;simp[eQ,eL] at hu;obtain⟨_,_,_,h | h⟩:=hu<;>rw[h]<;>rfl
theorem mu{w:World}{b o:Nat}{l:List PID}(h:g7 w b o l):∀j u,(eQ l)[j]?=some u->w.cell? ⟨b,o+j,none⟩=some u:=by
 intro j u hu
 have hj:j < l.length*2:=by rw[<- ms];exact (oGS hu).1
 have hi:j / 2 < l.length:=by omega
 have g:=mt l (j / 2) hi;have hc:=h (j / 2) hi;rcases Nat.mod_two_eq_zero_or_one j with e | e
 ·rw[show j=j / 2*2 by omega] at hu ⊢;rw[g.1] at hu
  injection hu with hu
  rw[<- hu];exact hc.1
 ·rw[show j=j / 2*2+1 by omega] at hu ⊢;rw[g.2] at hu
  injection hu with hu
  rw[<- hu,<- Nat.add_assoc];exact hc.2
theorem nP{w:World}{g cap:Nat}{cur:Array Value}{e:TypeId}{l:List PID}(hg:w.heap[g]?=some (.cells cur e (0,0))) (hcur:cur.size=cap*2) (hl:l.length<=cap) (ht:cur.toList.take (l.length*2)=eQ l):HoldsK eL 2 w g 0 l.toArray:=by
 intro j hj;rw[size_flatK] at hj
 have ZY:j < l.length*2:=by simpa using hj
 rw[Nat.zero_add,get_flatK _ _ _ _ hj,cell_of_row w g j cur e (0,0) hg]
 have hi:j / 2 < l.length:=by omega
 have e1:(eQ l)[j]?=cur.toList[j]?:=by rw[<- ht,List.getElem?_take_of_lt ZY]
 have e2:cur[j]?=cur.toList[j]?:=by simp
 have gg:=mt l (j / 2) hi
 have e3:l.toArray[j / 2]! = l[j / 2]:=by simp[hi]
 refine⟨?_,?_⟩
 ·rw[e2,<- e1,e3];rcases Nat.mod_two_eq_zero_or_one j with e | e
  ·rw[e];have:=gg.1;rw[show j / 2*2=j by omega] at this;exact this
  ·rw[e];have:=gg.2;rw[show j / 2*2+1=j by omega] at this;exact this
 ·simp[World.frozen?,hg]
theorem uJ(ad:Addr) (cap:Nat) (w:World):Calls Try.prog 35 #[.slice (some ad) 0 cap] w λe w'=>Below w.heap.size w w'/\∃p,e=.returned (.slice p 0 0):=by
 obtain⟨i,z,hi,_⟩:=lC;have q:∀(w:World) (a:Option Addr) (n c n' c':Nat),(binOp .eql 24 (.slice a n c) (.slice none n' c')).run Try.prog w=.ok (.bool a.isNone) w:=λw a n c n' c'=>Lib.run_eql_slice_nil w _ _ a n c n' c' Try.underlying24;have hz:∀(w:World) (ty:TypeId) (s:Option Addr),(Builtin.append_ #[24,24] ty #[.slice s 0 0,.slice (some ad) 0 cap]).run Try.prog w=.ok (.slice s 0 0) w:=λw ty s=>dU w 24 ty 30 i Try.underlying24 hi s 0 0 (Nat.le_refl _) (some ad) cap;clear hi
 go_enter Try.func35,Try.ntmps35
 go_wp2
 go_ret
 exact⟨Below.alloc (Below.refl _ _) (Nat.le_refl _) _,_,rfl⟩
theorem xp(l:List PID) (a:Option Addr) (cap:Nat) (w:World) (ha:l≠[]->∃b o,a=some ⟨b,o,none⟩/\g7 w b o l) (hl:l.length<=1099511627776) :
 Calls Try.prog 35 #[.slice a l.length cap] w λe w'=>Below w.heap.size w w'/\((l=[]/\∃p,e=.returned (.slice p 0 0)) \/
  ∃g c,e=.returned (.slice (some ⟨g,0,none⟩) l.length c)/\w.heap.size<=g/\g < w'.heap.size/\l.length<=c/\c<=maxLen/\HoldsK eL 2 w' g 0 l.toArray):=by
 obtain⟨i,z,hi,hz,hsz,XF,YC⟩:=lC
 have ZZ:∀b o,a=some ⟨b,o,none⟩->(∀j u,(eQ l)[j]?=some u->w.cell? ⟨b,o+j,none⟩=some u)->Calls Try.prog 35 #[.slice a l.length cap] w λe w'=>Below w.heap.size w w'/\((l=[]/\∃p,e=.returned (.slice p 0 0)) \/
  ∃g c,e=.returned (.slice (some ⟨g,0,none⟩) l.length c)/\w.heap.size<=g/\g < w'.heap.size/\l.length<=c/\c<=maxLen/\HoldsK eL 2 w' g 0 l.toArray):=by
  rintro b o rfl hc;have h:=AnyE.slices_Clone tz i z 2 16 hi hz hsz XF YC (by omega) Try.sizeOf30 b o l.length cap (eQ l) w (ms l) (by unfold maxLen;omega) (by omega) hc (qn l);refine h.mono λe w' ⟨v',he,hown,_,hb⟩=>⟨hb,?_⟩;rcases hown.2 with ⟨rfl,hn⟩ | ⟨g,c,cur,rfl,hg,Vj,hcap,hmax,hcur,Y7⟩
  ·exact .inl ⟨oEN hn,none,he⟩
  ·exact .inr ⟨g,c,he,hg,(Array.getElem?_eq_some_iff.1 Vj).1,hcap,hmax,nP Vj hcur hcap Y7⟩
 by_cases hn:l=[]
 ·subst hn
  cases a with
  | none=>exact (AnyE.slices_Clone_nil tz 0 cap w).mono λe w' ⟨he,hw⟩=>by subst hw;exact⟨Below.refl _ _,.inl ⟨rfl,none,he⟩⟩
  | some ad=>exact (uJ ad cap w).mono λe w' ⟨hb,h⟩=>⟨hb,.inl ⟨rfl,h⟩⟩
 ·obtain⟨b,o,e,hh⟩:=ha hn;exact ZZ b o e (mu hh)
theorem mN{w w' X9:World}{g:Nat}(hb:Below w.heap.size w w') (hg:w.heap.size<=g) (h:cA g w' X9):Below w.heap.size w X9:=
 ⟨h.os.trans hb.os,h.tape.trans hb.tape,h.output.trans hb.output,by rw[h.size];exact hb.size,λk hk=>(h.block k (by omega)).trans (hb.block k hk)⟩
theorem uS{w w':World}{g n:Nat}{d:Array PID}{os:Array Obj}(hb:Below w.heap.size w w') (hg:w.heap.size<=g):Below w.heap.size w (sortWorldK eL 2 w' g 0 n d os):=by
 have h1:cA g w' (putRowK eL 2 (Sort.ahead w' n) g 0 d):=(cA.ahead g w' n).trans (cA.putRow g 0 _ d);have h2:=mN hb hg h1;have e:sortWorldK eL 2 w' g 0 n d os=grow (putRowK eL 2 (Sort.ahead w' n) g 0 d) os:=rfl;rw[e];refine⟨h2.os,h2.tape,h2.output,Nat.le_trans h2.size (by simp[grow]),λk hk=>?_⟩;rw[<- h2.block k hk];show (_++os)[k]?=_;exact Array.getElem?_append_left (Nat.lt_of_lt_of_le hk h2.size)
theorem ut{w':World}{g n:Nat}{d d':Array PID}{os:Array Obj}(h:HoldsK eL 2 w' g 0 d) (hg:g < w'.heap.size) (hs:d'.size=d.size):HoldsK eL 2 (sortWorldK eL 2 w' g 0 n d' os) g 0 d':=by
 have e:sortWorldK eL 2 w' g 0 n d' os=grow (putRowK eL 2 (Sort.ahead w' n) g 0 d') os:=rfl;rw[e];exact holdsK_grow eL 2 _ os g 0 d' (by unfold putRowK;simpa using hg) (holdsK_putRowK eL 2 _ g 0 d d' (holdsK_ahead eL 2 w' n g 0 d h) hs)
theorem wS(x:PID):∀l:List PID,(rx l x).length<=l.length+1
 | []=>by simp[rx]
 | y :: r=>by
  unfold rx;split
  ·have:=wS x r;simp;omega
  ·split<;>simp
theorem py(l:List PID):(ga l).length<=l.length:=by
 have ZZ:∀(l a:List PID),(l.foldl rx a).length<=a.length+l.length:=by
  intro l
  induction l with
  | nil=>intro a;simp
  | cons x l ih=>
   intro a;have h1:=ih (rx a x);have h2:=wS x a;simp only[List.foldl_cons,oLC];omega
 have:=ZZ l [];simpa [ga] using this
def Cd(w w':World) (e:Ending) (m:List PID):Prop:=Below w.heap.size w w'/\((m=[]/\∃p,e=.returned (.slice p 0 0))\/∃g c,e=.returned (.slice (some ⟨g,0,none⟩) m.length c)/\w.heap.size<=g/\m.length<=c/\c<=maxLen/\g7 w' g 0 m)
set_option maxHeartbeats 2000000 in
theorem tR(l:List PID) (a:Option Addr) (cap:Nat) (w:World) (ha:l≠[]->∃b o,a=some ⟨b,o,none⟩/\g7 w b o l) (hl:l.length<=1099511627776) :
 Calls Try.prog 32 #[.func (.func 33) #[] #[],.slice a l.length cap] w λe w'=>Cd w w' e (ga l):=by
 have W4:=xp l a cap w ha hl
 have WZ:(l.length:Nat) < 4611686018427387904:=by omega
 clear ha
 go_enter Try.func32,Try.ntmps32
 go_wp2_with fail
 refine W4.mono ?_;rintro e w1 ⟨ZP,⟨rfl,p,rfl⟩ | ⟨g,c,rfl,hg,ZK,hc,hmax,hK⟩⟩
 ·go_wp2_with fail
  refine (vb p 0 _ w1).mono ?_;rintro e w2 ⟨rfl,rfl⟩
  go_wp2_with fail
  refine (qw p 0 w2).mono ?_;rintro e w3 ⟨rfl,rfl⟩
  go_wp2
  go_ret
  exact⟨ZP,.inl ⟨rfl,p,rfl⟩⟩
 ·have HB:=Lib.hid ZP;have HK:=Lib.hid hK;clear ZP hK W4
  go_wp2_with fail
  have hs:=xS g c l.toArray w1 HK.out ZK (by simpa using WZ);refine hs.mono ?_;rintro e w2 ⟨rfl,d',n,os,hp,RJ,rfl⟩
  have hsz:d'.size=l.length:=by simpa using hp.1
  have Rj:=ut (os:=os) (n:=n) HK.out ZK hp.1
  have Zz:∀z,z∈d'.toList↔z∈l:=λz=>by
   have:=hp.2.2.mem_iff (a:=z);simpa [Array.extract_eq_self_of_le,hsz] using this
  have Y6:∀i,i+1 < d'.size->dJ d'[i+1]! d'[i]! = false:=λi hi=>by
   rw[<- lG];exact RJ i (i+1) (by omega) (by omega) (by rw[List.size_toArray];omega)
  have HC:=Lib.hid (rU g 0 c d' (sortWorldK eL 2 w1 g 0 n d' os) Rj (by omega) (by omega));have Pe:=Lib.hid (uS (n:=n) (d:=d') (os:=os) HB.out hg);have HE:=Lib.hid (o8 Zz Y6);have HL:=Lib.hid hsz;clear Rj Zz Y6 hp RJ hs hsz
  go_wp2_with fail
  have hcc:=HC.out;rw[HL.out] at hcc;refine hcc.mono ?_;rintro e w3 ⟨rfl,TJ,Pz⟩
  go_wp2
  go_ret
  have e:compactUpTo d' l.length=ga l:=by rw[<- HL.out];exact HE.out
  have hlen:=py l;exact⟨mN Pe.out hg Pz,.inr ⟨g,c,by rw[e];rfl,hg,by omega,hmax,by rw[<- HE.out];exact TJ⟩⟩
theorem od:f8 Try.prog 32:=iC Try.func32 (by kernel_rfl) rfl
theorem p5{w:World}{F:Nat->Prop}{l:List PID}{x:Value}(h:fe w F (.sl (l.map kG)) x):∃a cap,x=.slice a l.length cap/\(l≠[]->∃b o,a=some ⟨b,o,none⟩/\g7 w b o l):=by
 cases h with
 | @sl _ a cap sz u hsz hcap hmax hnil hcell hrec=>
  refine⟨a,cap,by simp,λhn=>?_⟩;have Z3:0 < l.length:=List.length_pos_iff.2 hn
  have hz:sz=2:=by
   have:=hsz 0 (by simpa using Z3);rw[<- this];simp[kG]
  subst hz;obtain⟨b,o,e,_,_⟩:=hcell 0 0 (by simpa using Z3) (by omega);refine⟨b,o,e,λi hi=>?_⟩
  have ZW:i < (l.map kG).length:=by simpa using hi
  have cell:∀j (hj:j < 2),w.cell? ⟨b,o+(i*2+j),none⟩=some (u i j):=λj hj=>by
   obtain⟨b',o',e',_,hc⟩:=hcell i j ZW hj;rw[e] at e'
   injection e' with e'
   injection e' with e1 e2
   subst e1;subst e2;exact hc
  have g0:=hrec i 0 ZW (by simp[kG]);have g1:=hrec i 1 ZW (by simp[kG]);have c0:=cell 0 (by omega);have c1:=cell 1 (by omega);revert g0 g1 c0 c1;generalize u i 0=u0;generalize u i 1=u1;intro g0 g1 c0 c1;simp only[List.getElem_map,kG,List.getElem_cons_zero,List.getElem_cons_succ] at g0 g1;cases g0;cases g1;exact⟨by rw[<- c0];congr 2,by rw[<- c1];congr 2⟩
theorem vY{w:World}{F:Nat->Prop}{l:List PID}{g c:Nat}(h:g7 w g 0 l) (hl:l.length<=c) (hm:c<=maxLen) (hF:F g):fe w F (.sl (l.map kG)) (.slice (some ⟨g,0,none⟩) l.length c):=by
 have ZZ:=fe.sl (w:=w) (F:=F) (c:=l.map kG) (a:=some ⟨g,0,none⟩) (cap:=c) 2 (λi j=>if j=0 then .int .i64 (l.getD i (0,0)).1 else .int .i64 (l.getD i (0,0)).2) (λi hi=>by simp[kG]) (by simpa using hl) hm (λe=>by simp at e) (λi j hi hj=>?_) (λi j hi hj=>?_)
 ·rw[List.length_map] at ZZ;exact ZZ
 ·have ZW:i < l.length:=by simpa using hi
  have hh:=h i ZW;refine⟨g,0,rfl,hF,?_⟩
  have e:l.getD i (0,0)=l[i]:=by simp[ZW]
  rw[e];rcases Nat.lt_or_ge 0 j with h0 | h0
  ·have:j=1:=by omega
   subst this;rw[oIN (by omega),<- hh.2,Nat.add_assoc]
  ·have:j=0:=by omega
   subst this;rw[oIP rfl,<- hh.1];congr 2
 ·have ZW:i < l.length:=by simpa using hi
  have e:l.getD i (0,0)=l[i]:=by simp[ZW]
  simp only[List.getElem_map,kG,oLC,List.length_nil] at hj ⊢;rw[e];rcases Nat.lt_or_ge 0 j with h0 | h0
  ·have:j=1:=by omega
   subst this;exact .v rfl
  ·have:j=0:=by omega
   subst this;exact .v rfl
theorem sM{w w':World}{e:Ending}{m:List PID}{F:Nat->Prop}(h:Cd w w' e m):∃x,e=.returned x/\Below w.heap.size w w'/\fe w' (λk=>F k\/w.heap.size<=k) (.sl (m.map kG)) x:=by
 obtain⟨hb,⟨rfl,p,he⟩ | ⟨g,c,he,hg,hl,hm,hh⟩⟩:=h
 ·exact⟨_,he,hb,.sl (c:=[]) 2 (λ_ _=>undef) (λi h=>by simp at h) (Nat.le_refl _) (Nat.zero_le _) (λ_=>rfl) (λi j h=>by simp at h) (λi j h=>by simp at h)⟩
 ·exact⟨_,he,hb,vY hh hl hm (.inr hg)⟩
theorem tQ(l:List PID) (hl:l.length<=1099511627776):Bl Try.prog 32 [.fn 33 [],.sl (l.map kG)] ((ga l).map kG):=by
 intro avs w F hal ha
 match avs,hal with
 | [x,y],_=>
  have h0:=ha 0 (by simp) (by simp);have h1:=ha 1 (by simp) (by simp);simp only[List.getElem_cons_zero,List.getElem_cons_succ] at h0 h1;cases h0
  cases h1 with
  | im h1=>
   obtain⟨a,cap,rfl,hh⟩:=p5 h1;exact (tR l a cap w hh hl).mono λe w' h=>sM h
theorem l7{P:Program}{w:World}(t it ty e:TypeId) (i:TypeInfo) (z:Value) (ht:P.underlying t=some (.slice e)) (hit:P.underlying it=some (.int .i64)) (hi:P.info? e=some i) (hz:i.zero=some z) (Z3:0 < i.size)
 (n:Nat) (h0:0 < n) (Se:n<=1099511627776) (OS:n*i.bytes<=140737488355328) :
 (Builtin.append_ #[t,it] ty #[.slice none 0 0,.int .i64 n]).run P w =
  .ok (.slice (some ⟨w.heap.size,0,none⟩) n (grownCap w n 0 e)) (w.drew.alloc (.cells (Builtin.zeroCells z.cells n++Builtin.zeroCells z.cells (grownCap w n 0 e - n)) e)):=by
 have hn:n≠0:=by omega
 have Sg:¬ (9223372036854775807 < (n:Int)):=by omega
 have hw:IntKind.i64.wrap (n:Int)=(n:Int):=sf (by omega) (by omega)
 have S5:¬ ((n:Int) < 0):=by omega
 have Sr:¬ ((281474976710656:Int) < (n:Int)*(i.bytes:Int)):=by
  have e:(n:Int)*(i.bytes:Int)=((n*i.bytes:Nat):Int):=by simp
  rw[e];omega
 have Sf:¬ (281474976710656 < Builtin.nextslicecap n 0*i.bytes):=by rw[nextslicecap_zero h0];omega
 have hm:n*i.size≠0:=by have:=Nat.mul_pos h0 Z3;omega
 have hsz:i.size≠0:=by omega
 simp[Builtin.append_,run_underlying ht,run_underlying hit,asInt,asIntOf,sizeOf,typeInfo,zeroValue,hi,hz,Builtin.lenOf,hn,Sg,Sf,Question.forced,run_firstCells_none,newRow,grownCap,asInt,hw,S5,Sr,hm,hsz]
theorem gi{P:Program}{ops:Array Oper}{rest:List Oper}{o:Oper}{a:Act}{Q:Exit->Act->World->Prop}{w:World}{t it:TypeId}(Xl:o.guard=none) (s x:Operand) (ho:o.op=.call { callee:=.builtin .append,args:=#[s,x],argTypes:=#[t,it] })
 {vs vx v':Value} {w':World} (hs:a.eval s=vs) (hx:a.eval x=vx) (hrun:(Builtin.append_ #[t,it] o.type #[vs,vx]).run P w=.ok v' w') (h:wpList P ops Q rest (a.put o.dst v') w'):wpList P ops Q (o :: rest) a w:=by
 refine wpList_plain Xl λK hK=>?_;unfold Oper.wp;simp[execOp,ho,resolve,invoke,builtin,hs,hx,hrun,Result.andThen];exact hK _ _ h
theorem uT{B:Nat}{a w:World}(h:Below B a w):Below B a w.drew:=⟨h.os,h.tape,h.output,h.size,h.block⟩
theorem yV(n:Nat) (w:World) (hn:n<=1099511627776):Calls Try.prog 59 #[.slice none 0 0,.int .i64 n] w λe w'=>Below w.heap.size w w'/\∃v,e=.returned v/\w'.ownsRow w.heap.size 30 2 v 0 []:=by
 obtain⟨i,z,hi,hz,hsz,XF,YC⟩:=lC;by_cases h0:n=0
 ·subst h0;clear hi hz hsz XF YC
  go_enter Try.func59,Try.ntmps59
  go_wp2
  go_ret
  exact⟨Below.refl _ _,_,rfl,rfl,.inl ⟨rfl,rfl⟩⟩
 ·have hz0:∀(w:World) (ty:TypeId),(Builtin.append_ #[24,3] ty #[.slice none 0 0,.int .i64 n]).run Try.prog w=.ok (.slice (some ⟨w.heap.size,0,none⟩) n (grownCap w n 0 30)) (w.drew.alloc (.cells (Builtin.zeroCells z.cells n++Builtin.zeroCells z.cells (grownCap w n 0 30 - n)) 30)):=λw ty=>
   l7 24 3 ty 30 i z Try.underlying24 Try.underlying3 hi hz (by omega) n (by omega) hn (by rw[XF];omega)
  have hge:n<=grownCap w n 0 30:=grownCap_ge w n 0 _;have Y1:grownCap w n 0 30<=maxLen:=grownCap_le_maxLen w n 0 _ (by unfold maxLen;omega);obtain⟨zc,Xr⟩:∃zc,zc=z.cells:=⟨_,rfl⟩;rw[<- Xr] at hz0 YC;have HZ:=Lib.hid YC;clear Xr hi hz hsz XF YC
  go_enter Try.func59,Try.ntmps59
  go_wp2_with (at_builtin;refine gi rfl _ _ rfl rfl rfl (hz0 _ _) ?_)
  go_ret
  have Wu:(Builtin.zeroCells zc n++Builtin.zeroCells zc (grownCap w n 0 30 - n)).size=grownCap w n 0 30*2:=by
   rw[Array.size_append,size_zeroCells,size_zeroCells,HZ.out,<- Nat.add_mul];congr 1;omega
  refine⟨uT (Below.alloc (Below.refl _ _) (Nat.le_refl _) _),_,rfl,rfl,.inr ⟨w.heap.size,_,_,rfl,Nat.le_refl _,heap_alloc_new w _,Nat.zero_le _,Y1,Wu,by simp⟩⟩
theorem mY{P:Program}{w:World}{t e:TypeId}(i:TypeInfo) (z:Value) (size bytes:Nat) (hu:P.underlying t=some (.slice e)) (hi:P.info? e=some i) (hz:i.zero=some z) (Yy:i.size=size) (XF:i.bytes=bytes) (YC:z.cells.size=size) (Z3:0 < size)
 (ty:TypeId) (base:Nat) (v:Value) (n:Nat) (xs:List Value) (hown:w.ownsRow base e size v n xs)
 (ad:Addr) (m c:Nat) (news:List Value) (hl:news.length=m*size) (YT:∀(j:Nat) u,news[j]?=some u->w.cell? (ad.add j)=some u) (h1:∀u∈news,u.oneCell'=true)
 (Rg:n+m<=maxLen) (WX:(n+m)*bytes<=140737488355328) (Yu:base<=w.heap.size) :
 ∃v' w',(Builtin.append_ #[t,t] ty #[v,.slice (some ad) m c]).run P w=.ok v' w'/\w'.ownsRow base e size v' (n+m) (xs++news)/\w.grownBy w' v.ownBlock:=by
 rcases hown.2 with ⟨rfl,hn⟩ | ⟨g,cap,cur,rfl,hb,Vj,hcap,hmax,hsz,Y7⟩
 ·subst hn;have hx:xs=[]:=oEN (by simpa using hown.1);subst hx;obtain⟨v',w',hr,ZB,hg,_⟩:=run_append_own (P:=P) w w.heap.size t ty e i z size bytes hu hi hz Yy XF YC Z3 (.slice none 0 0) 0 [] ⟨by simp,.inl ⟨rfl,rfl⟩⟩ ad m c news hl YT h1 Rg WX (Nat.le_refl _);refine⟨v',w',hr,⟨ZB.1,?_⟩,hg⟩;rcases ZB.2 with h | ⟨g,cap,cur,e1,e2,e3⟩
  ·exact .inl h
  ·exact .inr ⟨g,cap,cur,e1,Nat.le_trans Yu e2,e3⟩
 ·rcases Nat.lt_or_ge cap (n+m) with hlt | hge
  ·have hc:=@World.ownsRow.cells w base e size _ n xs hown;obtain⟨v',w',hr,ZB,hg⟩:=run_append_arg_grows (P:=P) w t ty e i z size bytes hu hi hz Yy XF YC Z3 ⟨g,0,none⟩ n cap xs hown.1 (hc rfl) ad m c news hl YT hlt Rg WX;refine⟨v',w',hr,⟨ZB.1,?_⟩,⟨hg.os,hg.tape,hg.output,hg.size,λk hk _=>hg.block k hk (by simp)⟩⟩;rcases ZB.2 with h | ⟨g,cap,cur,e1,e2,e3⟩
   ·exact .inl h
   ·exact .inr ⟨g,cap,cur,e1,Nat.le_trans Yu e2,e3⟩
  ·obtain⟨w',hr,ZB,hg⟩:=run_append_own_spare (P:=P) w base t ty e i size hu hi Yy g n cap xs hown ad m c news hl YT h1 hge;exact⟨_,w',hr,ZB,hg⟩
theorem AG{w:World}(ty:TypeId) (base:Nat) (v:Value) (xs l:List PID) (hown:w.ownsRow base 30 2 v xs.length (eQ xs)) (Yu:base<=w.heap.size) (a:Option Addr) (cap:Nat) (ha:l≠[]->∃b o,a=some ⟨b,o,none⟩/\g7 w b o l) (hlen:xs.length+l.length<=1099511627776) :
 ∃v' w',(Builtin.append_ #[24,24] ty #[v,.slice a l.length cap]).run Try.prog w=.ok v' w'/\w'.ownsRow base 30 2 v' (xs++l).length (eQ (xs++l))/\w.heap.size<=w'.heap.size/\w'.os=w.os/\w'.tape=w.tape/\w'.output=w.output/\∀k,k < base->w'.heap[k]?=w.heap[k]?:=by
 obtain⟨i,z,hi,hz,hsz,XF,YC⟩:=lC
 have e:eQ (xs++l)=eQ xs++eQ l:=by simp[eQ]
 by_cases hl:l=[]
 ·subst hl;rcases hown.2 with ⟨rfl,hn⟩ | ⟨g,c,cur,rfl,hb,Vj,hcap,hmax,Xw,Y7⟩
  ·rw[hn] at hown;refine⟨_,w,dU w _ ty 30 i Try.underlying24 hi none 0 0 (Nat.le_refl _) a cap,by rw[List.append_nil,hn];exact hown,Nat.le_refl _,rfl,rfl,rfl,λ_ _=>rfl⟩
  ·exact⟨_,w,dU w _ ty 30 i Try.underlying24 hi _ _ c hcap a cap,by rw[List.append_nil];exact hown,Nat.le_refl _,rfl,rfl,rfl,λ_ _=>rfl⟩
 ·obtain⟨b,o,rfl,hh⟩:=ha hl;obtain⟨v',w',hr,ZB,hg⟩:=mY i z 2 16 Try.underlying24 hi hz hsz XF YC (by omega) ty base v xs.length (eQ xs) hown ⟨b,o,none⟩ l.length cap (eQ l) (ms l) (λj u hu=>by rw[bU];exact mu hh j u hu) (qn l) (by unfold maxLen;omega) (by omega) Yu;refine⟨v',w',hr,by rw[List.length_append,e];exact ZB,hg.size,hg.os,hg.tape,hg.output,λk hk=>hg.block k (by omega) λe2=>?_⟩;rcases hown.2 with ⟨rfl,_⟩ | ⟨g,c,cur,rfl,hb,_⟩
  ·simp[Value.ownBlock] at e2
  ·simp only[Value.ownBlock,oSJ] at e2;omega
def Bh(w:World) (b o:Nat) (ls:List (List PID)):Prop:=∀i (h:i < ls.length),∃ai ci,w.cell? ⟨b,o+i,none⟩=some (.slice ai ls[i].length ci)/\(ls[i]≠[]->∃b' o',ai=some ⟨b',o',none⟩/\g7 w b' o' ls[i])
theorem qm{ls:List (List PID)}{i:Nat}(h:i < ls.length):(ls.take (i+1)).flatten=(ls.take i).flatten++ls[i]:=by
 rw[<- List.take_append_getElem h,List.flatten_append];simp only[List.flatten_cons,List.flatten_nil,List.append_nil]
theorem rJ{ls:List (List PID)}(i:Nat):(ls.take i).flatten.length<=ls.flatten.length:=by
 have:ls.flatten=(ls.take i).flatten++(ls.drop i).flatten:=by rw[<- List.flatten_append,List.take_append_drop]
 rw[this,List.length_append];omega
theorem r9{w w':World}(h:Below w.heap.size w w') {b o:Nat}{l:List PID}(hh:g7 w b o l):g7 w' b o l:=λi hi=>by
 obtain⟨h1,h2⟩:=hh i hi;have hb:=r8 h1;exact⟨by rw[World.cell?_of_block (h.block b hb)];exact h1,by rw[World.cell?_of_block (h.block b hb)];exact h2⟩
theorem qD{B q:Nat}{w w1:World}(h:Below B (w.drewN q) w1):Below B w w1:=⟨h.os,h.tape,h.output,h.size,h.block⟩
set_option maxHeartbeats 4000000 in
theorem uH(ls:List (List PID)) (b o cap:Nat) (w:World) (hr:Bh w b o ls) (hlen:ls.flatten.length<=1099511627776) (hm:ls.length<=1099511627776) :
 Calls Try.prog 34 #[.slice (some ⟨b,o,none⟩) ls.length cap] w λe w'=>Below w.heap.size w w'/\∃v,e=.returned v/\w'.ownsRow w.heap.size 30 2 v ls.flatten.length (eQ ls.flatten):=by
 have mixed:Try.prog.follows .mixedOrders=true:=by kernel_rfl
 have HR:Aside (Bh w b o ls):=hr;clear hr
 go_enter Try.func34,Try.ntmps34
 go_wp2
 go_loopg [3,11] ls.length (λg s3 QT wr=>∃i q:Nat,i<=ls.length/\ls.length - i<=g/\s3=.int .i64 ((ls.take i).flatten.length:Nat)/\QT=.int .i64 i/\wr=w.drewN q)
 case atStart=>exact⟨0,0,by omega,by omega,rfl,rfl,rfl⟩
 case round=>
  obtain⟨i,q,hi,hg,rfl,rfl,rfl⟩:=hrel;have Y1:=rJ (ls:=ls) i;by_cases hlt:i < ls.length
  ·obtain⟨ai,ci,hc,_⟩:=HR.out i hlt;have WC:=rJ (ls:=ls) (i+1)
   have V9:(ls.take (i+1)).flatten.length=(ls.take i).flatten.length+ls[i].length:=by rw[qm hlt,List.length_append]
   generalize hk:ls[i].length=k at hc V9;generalize hn:(ls.take i).flatten.length=n at Y1 V9;have HF:Aside ((ls.take (i+1)).flatten.length=n+k/\(ls.take (i+1)).flatten.length<=ls.flatten.length):=⟨V9,WC⟩
   have O0:n+k<=1099511627776:=by omega
   clear V9 WC hk hn Y1
   go_wp2
   go_roundg (ls.length - (i+1))
   case measure=>omega
   case rel=>exact⟨i+1,q,by omega,Nat.le_refl _,by rw[HF.out.1];go_num,by go_num,rfl⟩
  ·have XK:i=ls.length:=by omega
   subst XK;rw[List.take_length] at Y1 ⊢;generalize hn:ls.flatten.length=n at Y1 hlen ⊢;have HN:Aside (ls.flatten.length=n):=hn;clear hn Y1
   go_wp2_with fail
   refine (yV n _ hlen).mono ?_;rintro e w1 ⟨ZP,v,rfl,hown⟩;have HB:Aside (Below w.heap.size w w1/\w1.ownsRow w.heap.size 30 2 v 0 []):=⟨qD ZP,hown⟩;clear ZP hown
   go_wp2
   go_loopg [6,27] ls.length (λg s6 QW wr=>∃j:Nat,j<=ls.length/\ls.length - j<=g/\QW=.int .i64 j/\Below w.heap.size w wr/\wr.ownsRow w.heap.size 30 2 s6 (ls.take j).flatten.length (eQ (ls.take j).flatten))
   case atStart=>exact⟨0,by omega,by omega,rfl,HB.out.1,HB.out.2⟩
   case round=>
    obtain⟨j,hj,ZO,rfl,Z2,hown⟩:=hrel;by_cases hlt2:j < ls.length
    ·obtain⟨ai,ci,hc,Yp⟩:=HR.out j hlt2
     have Zl:wr.cell? ⟨b,o+j,none⟩=some (.slice ai ls[j].length ci):=by rw[World.cell?_of_block (Z2.block b (r8 hc))];exact hc
     have WC:=rJ (ls:=ls) (j+1);have V9:=qm hlt2
     have hsz:(ls.take j).flatten.length+ls[j].length<=1099511627776:=by
      have:(ls.take (j+1)).flatten.length=(ls.take j).flatten.length+ls[j].length:=by rw[V9,List.length_append]
      have:=HN.out;omega
     obtain⟨v',w',hrun,ZB,Yy,RB,Wi,WF,Wr⟩:=AG (w:=wr) 24 w.heap.size _ (ls.take j).flatten ls[j] hown Z2.size ai ci (λhne=>by
      obtain⟨b',o',e1,e2⟩:=Yp hne
      exact⟨b',o',e1,r9 Z2 e2⟩) hsz
     rw[<- V9] at ZB;have HO:Aside (w'.ownsRow w.heap.size 30 2 v' (ls.take (j+1)).flatten.length (eQ (ls.take (j+1)).flatten)/\Below w.heap.size w w'):=⟨ZB,⟨RB.trans Z2.os,Wi.trans Z2.tape,WF.trans Z2.output,Nat.le_trans Z2.size Yy,λk hk=>(Wr k hk).trans (Z2.block k hk)⟩⟩;generalize ls[j].length=m at Zl hrun;clear ZB RB Wi WF Wr Yy Yp hown Z2 hc V9 hsz WC
     go_wp2_with (at_builtin;refine gi rfl _ _ rfl rfl rfl hrun ?_)
     go_roundg (ls.length - (j+1))
     case measure=>omega
     case rel=>exact⟨j+1,by omega,Nat.le_refl _,by go_num,HO.out.2,HO.out.1⟩
    ·have hjl:j=ls.length:=by omega
     subst hjl;rw[List.take_length] at hown;have HO:Aside (Below w.heap.size w wr/\wr.ownsRow w.heap.size 30 2 u6 ls.flatten.length (eQ ls.flatten)):=⟨Z2,hown⟩;clear Z2 hown
     go_wp2
     go_ret
     exact⟨HO.out.1,_,rfl,HO.out.2⟩
theorem rT(a:Option Addr) (cap:Nat) (w:World):Calls Try.prog 34 #[.slice a 0 cap] w λe w'=>Below w.heap.size w w'/\e=.returned (.slice none 0 0):=by
 have mixed:Try.prog.follows .mixedOrders=true:=by kernel_rfl
 go_enter Try.func34,Try.ntmps34
 go_wp2
 refine wp_loop_rounds 1 ?_;rw[rounds_succ]
 go_wp2
 refine wp_loop_rounds 1 ?_;rw[rounds_succ]
 go_wp2
 go_ret
 exact⟨Below.refl _ _,rfl⟩
theorem o7:f8 Try.prog 34:=iC Try.func34 (by kernel_rfl) rfl
theorem uG(ls:List (List PID)) (hl:ls.flatten.length<=1099511627776) (hm:ls.length<=1099511627776):Bl Try.prog 34 [.sl (ls.map λx=>[TV.sl (x.map kG)])] (ls.flatten.map kG):=by
 intro avs w F hal ha
 match avs,hal with
 | [x],_=>
  have h0:=ha 0 (by simp) (by simp);simp only[List.getElem_cons_zero] at h0
  cases h0 with
  | im h0=>
   cases h0 with
   | @sl _ a cap sz u hsz hcap hmax hnil hcell hrec=>
    have Uw:(ls.map λx=>[TV.sl (x.map kG)]).length=ls.length:=by simp
    rw[Uw] at hcap ⊢;by_cases hn:ls=[]
    ·subst hn;exact (rT a cap w).mono λe w' ⟨hb,he⟩=>⟨_,he,hb,.sl (c:=[]) 2 (λ_ _=>undef) (λi h=>by simp at h) (Nat.le_refl _) (Nat.zero_le _) (λ_=>rfl) (λi j h=>by simp at h) (λi j h=>by simp at h)⟩
    ·have Z3:0 < ls.length:=List.length_pos_iff.2 hn
     have hz:sz=1:=by
      have:=hsz 0 (by simpa using Z3);rw[<- this];simp
     subst hz;obtain⟨b,o,e,_,_⟩:=hcell 0 0 (by simpa using Z3) (by omega);subst e
     have UR:Bh w b o ls:=λi hi=>by
      obtain⟨b',o',e',_,hc⟩:=hcell i 0 (by simpa using hi) (by omega)
      injection e' with e'
      injection e' with e1 e2
      subst e1;subst e2;have hr:=hrec i 0 (by simpa using hi) (by simp);simp only[List.getElem_map,List.getElem_cons_zero] at hr;obtain⟨ai,ci,hu,hh⟩:=p5 hr;exact⟨ai,ci,by rw[<- hu,<- hc];congr 2;omega,hh⟩
     refine (uH ls b o cap w UR hl hm).mono λe w' ⟨hb,v,he,hown⟩=>?_;refine sM ⟨hb,?_⟩;rcases hown.2 with ⟨rfl,h0⟩ | ⟨g,c,cur,rfl,hg,Vj,XG,W9,hcur,Y7⟩
     ·exact .inl ⟨oEN h0,none,he⟩
     ·have hK:=nP Vj hcur XG Y7;exact .inr ⟨g,c,he,hg,XG,W9,p6 hK (by simp) λi hi=>by rw[getElem!_pos _ i (by simpa using hi)];simp⟩
end Go.Proofs.Yteonljfnncdijaa
namespace Go.Proofs.Yteonljfnncdijaa
end Go.Proofs.Yteonljfnncdijaa
namespace Go.Proofs.Yteonljfnncdijaa
open Go.RowKit
def Bp:FuncId->List TV->Option (List (List TV)):=λf vals=>
 if f=32 then (match vals with
  | [.fn g [],.sl c]=>if g=33 then (zR c).bind λl=>if l.length<=1099511627776 then some ((ga l).map kG) else none else none
  | _=>none)
 else if f=34 then (match vals with
  | [.sl c]=>(rP c).bind λl=>if l.flatten.length<=1099511627776/\l.length<=1099511627776 then some (l.flatten.map kG) else none
  | _=>none)
 else none
def libB:bV:=zP Bp
theorem libB_ok:dY Try.prog libB:=BO λf vals c h=>by
 unfold Bp at h;split at h
 ·rename_i e;subst e;split at h
  ·split at h
   ·rename_i g c0 e;subst e;obtain⟨l,h1,h2⟩:=Option.bind_eq_some_iff.1 h;split at h2
    ·rename_i hl
     injection h2 with h2
     subst h2;rw[rO h1];exact⟨od,tQ l hl⟩
    ·cases h2
   ·cases h
  ·cases h
 ·split at h
  ·rename_i e;subst e;split at h
   ·obtain⟨l,h1,h2⟩:=Option.bind_eq_some_iff.1 h;split at h2
    ·rename_i hl
     injection h2 with h2
     subst h2;rw[tu h1];exact⟨o7,uG l hl.1 hl.2⟩
    ·cases h2
   ·cases h
  ·cases h
def bS(a0:List PID):Option (List PID×Unit):=if a0.length<=1099511627776 then some (ga a0,()) else none
def cg(a0:List (List PID)):Option (List PID×Unit):=if a0.flatten.length<=1099511627776/\a0.length<=1099511627776 then some (a0.flatten,()) else none
theorem gK{id:Nat}:jc libB ⟨32,id,[.fn 33 [],shU (.row false (.pair (.int .i64) (.int .i64)))],[],[⟨[shU (.row false (.pair (.int .i64) (.int .i64)))],[.one],[]⟩],λh=>bS h.1⟩:=by
 rintro⟨l,h⟩ o x ho hx;have ho:(if List.length l<=1099511627776 then some (ga l,()) else none)=some o:=ho;split at ho
 case isFalse=>cases ho
 rename_i hl
 injection ho with ho
 subst ho;cases hx;show zP Bp 32 [.fn 33 [],.sl (l.map kG)] []=some (⟨[.sl ((ga l).map kG)],[.one]⟩,[]);simp[zP,Bp,pZ,oY,hl]
theorem gv{id:Nat}:jc libB ⟨34,id,[shU (.row false (.row false (.pair (.int .i64) (.int .i64))))],[],[⟨[shU (.row false (.pair (.int .i64) (.int .i64)))],[.one],[]⟩],λh=>cg h.1⟩:=by
 rintro⟨l,h⟩ o x ho hx;have ho:(if (List.flatten l).length<=1099511627776/\List.length l<=1099511627776 then some (List.flatten l,()) else none)=some o:=ho;split at ho
 case isFalse=>cases ho
 rename_i hl
 injection ho with ho
 subst ho;cases hx;show zP Bp 34 [.sl (l.map λx=>[TV.sl (x.map kG)])] []=some (⟨[.sl (l.flatten.map kG)],[.one]⟩,[]);unfold zP;rw[oIP (by simp[pZ])];unfold Bp;rw[oIN (by decide),oIP rfl];simp only[qu,oBS,oIP hl,oMS]
end Go.Proofs.Yteonljfnncdijaa
namespace Go.Proofs.Yteonljfnncdijaa
open Go.RowKit
set_option maxRecDepth 100000
noncomputable section
abbrev KCn:CT:=(.pair (.int .u8) (.pair (.int .u16) (.pair I64 I64)))
abbrev gh:CT:=(.pair I64 (.pair I64 (.pair I64 (.pair I64 (.pair I64 (.pair I64 (.pair (.int .u16) (.row false KCn))))))))
abbrev pf:CT:=(.pair I64 (.pair I64 (.pair I64 (.pair I64 (.pair I64 (.pair I64 (.pair (.int .u16) (.row true KCn))))))))
abbrev cM:CT:=(.row false KCn)
abbrev RI:CT:=(.row false I64)
abbrev DCe:Type:=(Int×Int)
abbrev DCn:Type:=(Int×Int×Int×Int)
abbrev DTs:Type:=(Int×Int×Int×Int×Int×Int×Int×List DCn)
def HH(f i:Nat):List (Nat×Option Nat):=if f=6 then (if i=3000011 then [(7,none),(9,none),(11,none),(13,none)] else []) else if f=76 then (if i=0 then [(4,none)] else []) else if f=62 then (if i=0 then [(4,some 2),(4,some 10)] else []) else if f=24 then (if i=0 then [(4,some 10),(4,some 2)] else []) else if f=53 then (if i=0 then [(4,none)] else []) else if f=30 then (if i=1 then [(5,none)] else []) else if f=31 then (if i=1 then [(5,none)] else []) else if f=5 then (if i=1 then [(12,some 0),(12,some 1),(13,some 0),(13,some 1)] else []) else []
def BQ:List Nat:=[32,34]
def TT (f:FuncId):Option TFn:=if BQ.contains f then none else kH Try.prog (HH f) f
theorem zI{f:FuncId}(h:BQ.contains f=true):TT f=none:=oIP h
def E0:Env:=⟨λf=>if f=17 then some (1,[.arg 0,.val (.int .i64 0)]) else none,λf=>CN Try.prog f⟩
theorem tt_ok:xF Try.prog TT:=λf tf h=>Aa HH (by kernel_rfl) f tf (by
 unfold TT at h
 split at h
 ·cases h
 ·exact h)
abbrev qE:Shs:=⟨[],[],[],([],[])⟩
abbrev qS(s:List (Nat×Sh))(c:List (Nat×List Sh)):Shs:=⟨s,c,[],([],[])⟩
abbrev N1:CT:=.nilr true
abbrev N0:CT:=.nilr false
abbrev CW:CT:=.int .u16
abbrev CB:CT:=.int .u8
abbrev uL(l:List CT):List Sh:=l.map fun c=>.d c ()
abbrev pP(t r:Nat):Nat×Sh:=(t,.ptr ⟨r,0,[]⟩ [0])
abbrev sP(t:Nat)(c:CT):Nat×Sh:=(t,.d c ())
abbrev Lk(n:Nat)(c:Ctr):Prop:=Lvl E0 TT libB n c
theorem aN{m:Nat}:tI E0 TT libB m []:=trivial
theorem aC{n m:Nat}{c:Ctr}{l:List Ctr}(h:Lk n c)(r:tI E0 TT libB m l)(hm:n≤m:=by decide):tI E0 TT libB m (c::l):=⟨h.mono hm,r⟩
abbrev lx(i n:Nat)(s:List (Nat×Sh))(c:List (Nat×List Sh))(b:Nat):qK:=⟨i,n,⟨s,c,[],([],[])⟩,[(.exit 0,⟨s++[(b,.d .bool ())],c,[],([],[])⟩)]⟩
abbrev LI:Type:=List Int
abbrev LDCe:Type:=List DCe
abbrev LDCn:Type:=List DCn
abbrev LDTs:Type:=List DTs
abbrev LLCn:Type:=List (List DCn)
abbrev T00:Type:=Int×Bool×Unit
abbrev T01:Type:=Int×Int×Unit
abbrev T02:Type:=LLCn×LDTs×Unit
abbrev T03:Type:=Int×T00
abbrev T04:Type:=Int×Int×LDCe×Unit
abbrev T05:Type:=LI×T01
abbrev T06:Type:=LLCn×LDTs×LI×Unit
abbrev T07:Type:=Int×Int×Bool×LDCe×Unit
abbrev T08:Type:=Int×T06
abbrev T09:Type:=LI×T03
abbrev T0a:Type:=LLCn×LDTs×T02
abbrev T0b:Type:=Unit×Unit×T02
abbrev T0c:Type:=Unit×Unit×LLCn×Unit×Unit
abbrev T0d:Type:=Int×LI×T04
abbrev T0e:Type:=Int×T0a
abbrev T0f:Type:=LI×Int×T0b
abbrev T0g:Type:=LI×Int×T0c
abbrev T0h:Type:=LLCn×LDTs×T0b
abbrev T0i:Type:=LLCn×LDTs×T0c
abbrev T0j:Type:=Int×T0f
abbrev T0k:Type:=Int×T0g
abbrev T0l:Type:=Int×T0h
abbrev T0m:Type:=Int×T0i
abbrev T0n:Type:=LI×Int×Unit×Unit×LLCn×Unit×LDCn×Unit
abbrev T0o:Type:=LLCn×LDTs×LDCe×T0a
abbrev T0p:Type:=Int×Bool×T0f
abbrev T0q:Type:=Int×Int×Int×Int×Int×Int×Int×LDCn×Unit
abbrev T0r:Type:=Int×Int×Int×T0d
abbrev T0s:Type:=Int×T0j
abbrev T0t:Type:=Int×T0p
abbrev T0u:Type:=Int×Int×T0n
abbrev T0v:Type:=Int×Int×T0o
abbrev T0w:Type:=LLCn×LDTs×LDCe×(List (Int×Int×LDCn×Int×Int×Int×Int×Int×Int×Int×LDCn))×Unit
abbrev T0x:Type:=Int×Int×T0w
abbrev T0y:Type:=LI×Int×Int×Int×Int×Int×Int×Int×Int×Unit×T0q
abbrev T0z:Type:=Int×T0y
abbrev T0A:Type:=(List (Int×Int×LDCn×Int×Int×Int×Int×Int×Int×Int×LDCn))×(List (Int×Int×LDCn×Int×Int×Int×Int×Int×Int×Int×LDCn))×LDCe×Unit
abbrev T0B:Type:=Int×Int×T0A
noncomputable abbrev ap1{A0 D R:Type}(f:A0→R)(h:A0×D):R:=f h.1
noncomputable abbrev ap2{A0 A1 D R:Type}(f:A0→A1→R)(h:A0×A1×D):R:=f h.1 h.2.1
noncomputable abbrev ap3{A0 A1 A2 D R:Type}(f:A0→A1→A2→R)(h:A0×A1×A2×D):R:=f h.1 h.2.1 h.2.2.1
noncomputable abbrev ap4{A0 A1 A2 A3 D R:Type}(f:A0→A1→A2→A3→R)(h:A0×A1×A2×A3×D):R:=f h.1 h.2.1 h.2.2.1 h.2.2.2.1
noncomputable abbrev ap5{A0 A1 A2 A3 A4 D R:Type}(f:A0→A1→A2→A3→A4→R)(h:A0×A1×A2×A3×A4×D):R:=f h.1 h.2.1 h.2.2.1 h.2.2.2.1 h.2.2.2.2.1
noncomputable abbrev ap8{A0 A1 A2 A3 A4 A5 A6 A7 D R:Type}(f:A0→A1→A2→A3→A4→A5→A6→A7→R)(h:A0×A1×A2×A3×A4×A5×A6×A7×D):R:=f h.1 h.2.1 h.2.2.1 h.2.2.2.1 h.2.2.2.2.1 h.2.2.2.2.2.1 h.2.2.2.2.2.2.1 h.2.2.2.2.2.2.2.1
noncomputable abbrev ap13{A0 A1 A2 A3 A4 A5 A6 A7 A8 A9 A10 A11 A12 D R:Type}(f:A0→A1→A2→A3→A4→A5→A6→A7→A8→A9→A10→A11→A12→R)(h:A0×A1×A2×A3×A4×A5×A6×A7×A8×A9×A10×A11×A12×D):R:=f h.1 h.2.1 h.2.2.1 h.2.2.2.1 h.2.2.2.2.1 h.2.2.2.2.2.1 h.2.2.2.2.2.2.1 h.2.2.2.2.2.2.2.1 h.2.2.2.2.2.2.2.2.1 h.2.2.2.2.2.2.2.2.2.1 h.2.2.2.2.2.2.2.2.2.2.1 h.2.2.2.2.2.2.2.2.2.2.2.1 h.2.2.2.2.2.2.2.2.2.2.2.2.1
noncomputable abbrev ap16{A0 A1 A2 A3 A4 A5 A6 A7 A8 A9 A10 A11 A12 A13 A14 A15 D R:Type}(f:A0→A1→A2→A3→A4→A5→A6→A7→A8→A9→A10→A11→A12→A13→A14→A15→R)(h:A0×A1×A2×A3×A4×A5×A6×A7×A8×A9×A10×A11×A12×A13×A14×A15×D):R:=f h.1 h.2.1 h.2.2.1 h.2.2.2.1 h.2.2.2.2.1 h.2.2.2.2.2.1 h.2.2.2.2.2.2.1 h.2.2.2.2.2.2.2.1 h.2.2.2.2.2.2.2.2.1 h.2.2.2.2.2.2.2.2.2.1 h.2.2.2.2.2.2.2.2.2.2.1 h.2.2.2.2.2.2.2.2.2.2.2.1 h.2.2.2.2.2.2.2.2.2.2.2.2.1 h.2.2.2.2.2.2.2.2.2.2.2.2.2.1 h.2.2.2.2.2.2.2.2.2.2.2.2.2.2.1 h.2.2.2.2.2.2.2.2.2.2.2.2.2.2.2.1
noncomputable abbrev ap22{A0 A1 A2 A3 A4 A5 A6 A7 A8 A9 A10 A11 A12 A13 A14 A15 A16 A17 A18 A19 A20 A21 D R:Type}(f:A0→A1→A2→A3→A4→A5→A6→A7→A8→A9→A10→A11→A12→A13→A14→A15→A16→A17→A18→A19→A20→A21→R)(h:A0×A1×A2×A3×A4×A5×A6×A7×A8×A9×A10×A11×A12×A13×A14×A15×A16×A17×A18×A19×A20×A21×D):R:=f h.1 h.2.1 h.2.2.1 h.2.2.2.1 h.2.2.2.2.1 h.2.2.2.2.2.1 h.2.2.2.2.2.2.1 h.2.2.2.2.2.2.2.1 h.2.2.2.2.2.2.2.2.1 h.2.2.2.2.2.2.2.2.2.1 h.2.2.2.2.2.2.2.2.2.2.1 h.2.2.2.2.2.2.2.2.2.2.2.1 h.2.2.2.2.2.2.2.2.2.2.2.2.1 h.2.2.2.2.2.2.2.2.2.2.2.2.2.1 h.2.2.2.2.2.2.2.2.2.2.2.2.2.2.1 h.2.2.2.2.2.2.2.2.2.2.2.2.2.2.2.1 h.2.2.2.2.2.2.2.2.2.2.2.2.2.2.2.2.1 h.2.2.2.2.2.2.2.2.2.2.2.2.2.2.2.2.2.1 h.2.2.2.2.2.2.2.2.2.2.2.2.2.2.2.2.2.2.1 h.2.2.2.2.2.2.2.2.2.2.2.2.2.2.2.2.2.2.2.1 h.2.2.2.2.2.2.2.2.2.2.2.2.2.2.2.2.2.2.2.2.1 h.2.2.2.2.2.2.2.2.2.2.2.2.2.2.2.2.2.2.2.2.2.1
theorem ls{n:Nat}(C:X.Cfg)(hT:tI E0 TT libB n C.TB){c:Ctr}(hE:C.E=E0:=by rfl)(h1:(TT c.f).isSome=true:=by kernel_rfl)(hg:∀h,X.runT aV C () ((TT c.f).getD CO) c.outs (dn c.ins _ h).1 (jZ c.pts [] (dn c.ins _ h).2).1=c.g h:=by intro h;kernel_rfl):Lk (n+1) c:=Cj (n:=n) (C:=C) hE hT (Ct h1) hg
abbrev Uaa(t:Nat):Nat×Sh:=sP t I64
abbrev Xaa(t:Nat):Nat×Sh:=sP t .bool
abbrev Zaa(t r:Nat):Nat×Sh:=(t,.pk ⟨r,0,[]⟩ [0,0])
abbrev uaa(t:CT):CT:=.row true t
abbrev yaa(t:CT):CT:=.row false t
abbrev zaa(t:Nat):Nat×Sh:=pP t (2*t+2)
abbrev uab:List Sh:=uL [(yaa cM),(yaa gh)]
abbrev yab:List Sh:=uL [RI,I64]
abbrev zab:List Sh:=uL [.bool]
abbrev Uab:List Sh:=uL [N1,N1]
abbrev Xab:List Sh:=uL [(uaa (uaa KCn)),(uaa pf)]
abbrev Zab:List Sh:=uL [(uaa (.pair I64 I64))]
abbrev uac:List Sh:=uL [I64]
abbrev yac:List Sh:=uL [I64,I64]
abbrev zac:List Sh:=uL [(yaa (.pair I64 I64))]
abbrev Uac:List Sh:=uL [I64,I64,I64,I64,I64,I64,CW,cM]
abbrev Xac:List Sh:=uL [I64,I64,cM,I64,I64,I64,I64,I64,I64,CW,cM]
abbrev Zac:List Sh:=uL [(uaa I64)]
abbrev uad:List Sh:=uL [I64,I64,I64,I64,I64,I64,CW,(uaa KCn)]
abbrev yad:List Sh:=uL [(uaa (uaa KCn)),N1]
abbrev zad:List Sh:=uL [(uaa KCn)]
abbrev Uad:List Sh:=uL [(yaa (.pair I64 I64)),(yaa (.pair I64 I64))]
abbrev Xad:List Sh:=uL [(uaa (.pair I64 I64)),I64]
def cn(a0:LDCe):Option (LDCe×Unit):=
bif (cz 16 0 a0.length) then let x0:LDCe:=(List.append [] a0);
some (x0,()) else none
def iB:X.Cfg:=⟨E0,[],[],[]⟩
def eM:Ctr:=⟨35,0,zac,[],[⟨Zab,[.one],[]⟩],ap1 cn⟩
theorem iy:Lk 1 eM:=ls iB aN
def c7:Ctr:=⟨32,1,[.fn 33 [],shU (yaa (.pair I64 I64))],[],[⟨zac,[.one],[]⟩],ap1 bS⟩
theorem eK:Lvl E0 TT libB 1 c7:=(wK (zI rfl) gK).mono (by decide)
def gG(a0:LDCe) (a1:Int) (a2:Int):Option (LDCe×Unit):=
(cn a0).bind λ(x0,_)=>
let x1:LDCe:=[(a1,a2)];
bif (cz 16 x0.length x1.length) then let x2:LDCe:=(List.append x0 x1);
(bS x2).bind λ(x3,_)=>
some (x3,()) else none
def rF:X.Cfg:=⟨E0,[eM,c7],[],[]⟩
def mM:Ctr:=⟨13,2,[shU (yaa (.pair I64 I64)),.agg yac],[],[⟨zac,[.one],[]⟩],ap3 gG⟩
theorem ru:Lk 2 mM:=ls rF (aC iy (aC eK aN))
def bG:LDCe×LDCe×Int×Unit->Option ((LDCe×LDCe×Int×Unit)⊕((Bool×Unit)⊕(LDCe×LDCe×T00))):=λ(v0,v1,v2,_)=>
let x0:=bf v0.length;
bif decide (v2 < x0) then ((eO v2).bind λx1=>
(cT v0 x1).bind λx2=>
(eO v2).bind λx3=>
(cT v1 x3).bind λx4=>
bif (!((x2.1==x4.1) && ((x2.2==x4.2) && true))) then (some (.inr (.inl (false,())))) else
let x5:=w64 (v2+1);
some (.inl (v0,v1,x5,()))) else
some (.inr (.inr (v0,v1,v2,false,())))
def dG(a0:LDCe) (a1:LDCe):Option (Bool×Unit):=
let x0:=bf a0.length;
let x1:=bf a1.length;
bif (x0 != x1) then (some (false,())) else
(match bu bG NN (a0,a1,0,()) with
| none=>none
| some (.inl (x2,_))=>
some (x2,())
| some (.inr (x2,_))=>
some (true,()))
def qa:X.Cfg:=⟨E0,[],[],[⟨6,0,qS [sP 0 (yaa (.pair I64 I64)),sP 1 (yaa (.pair I64 I64)),Uaa 5] [],[(.ret,qS [Xaa 4] []),(.exit 0,qS [sP 0 (yaa (.pair I64 I64)),sP 1 (yaa (.pair I64 I64)),Uaa 5,Xaa 14] [])]⟩]⟩
def iG:Ctr:=⟨11,3,Uad,[],[⟨zab,[.one],[]⟩],ap2 dG⟩
theorem kX:Lk 1 iG:=ls qa aN
def co:Option (Bool×Unit):=
let x0:LDCe:=[(0,1),((-1),0)];
(gG x0 1 0).bind λ(x1,_)=>
let x2:LDCe:=[(0,1),(1,0),((-1),0)];
(dG x1 x2).bind λ(x3,_)=>
some (x3,())
def oP:X.Cfg:=⟨E0,[mM,iG],[],[]⟩
def gQ:Ctr:=⟨8,4,[],[],[⟨zab,[.one],[]⟩],λh=>co⟩
theorem jQ:Lk 3 gQ:=ls oP (aC ru (aC kX aN))
def d8:Ctr:=⟨34,7,uL [(yaa (yaa (.pair I64 I64)))],[],[⟨zac,[.one],[]⟩],ap1 cg⟩
theorem hJ:Lvl E0 TT libB 1 d8:=(wK (zI rfl) gv).mono (by decide)
def dQ(a0:LDCe) (a1:LDCe):Option (LDCe×Unit):=
let x0:List LDCe:=[a0,a1];
(cg x0).bind λ(x1,_)=>
(bS x1).bind λ(x2,_)=>
some (x2,())
def oQ:X.Cfg:=⟨E0,[d8,c7],[(7,(uaa (.pair I64 I64)))],[]⟩
def j9:Ctr:=⟨9,8,Uad,[],[⟨zac,[.one],[]⟩],ap2 dQ⟩
theorem oE:Lk 2 j9:=ls oQ (aC hJ (aC eK aN))
def dO(a0:Int):Option (Bool×Unit):=
bif decide (a0>=1) then (some ((decide (a0<=32)),())) else
some (false,())
def oM:X.Cfg:=⟨E0,[],[],[]⟩
def gO:Ctr:=⟨71,13,uac,[],[⟨zab,[.one],[]⟩],ap1 dO⟩
theorem jO:Lk 1 gO:=ls oM aN
def dz(a0:LDCn):Option (Bool×Unit):=
let x0:=bf a0.length;
(dO x0).bind λ(x1,_)=>
some ((!x1),())
def lr:X.Cfg:=⟨E0,[gO],[],[]⟩
def g5:Ctr:=⟨70,14,uL [cM],[],[⟨zab,[.one],[]⟩],ap1 dz⟩
theorem lp:Lk 2 g5:=ls lr (aC jO aN)
def bc:LLCn×T01->Option ((LLCn×T01)⊕((Int×Unit)⊕(LLCn×T03))):=λ(v0,v1,v2,_)=>
bif decide (v2 < v1) then ((eO v2).bind λx0=>
(cT v0 x0).bind λx1=>
(dz x1).bind λ(x2,_)=>
bif x2 then (some (.inr (.inl (v2,())))) else
let x3:=w64 (v2+1);
some (.inl (v0,v1,x3,()))) else
some (.inr (.inr (v0,v1,v2,false,())))
def cF(a0:List LDCn):Option (Int×Unit):=
let x0:=bf a0.length;
(match bu bc NN (a0,x0,0,()) with
| none=>none
| some (.inl (x1,_))=>
some (x1,())
| some (.inr (x1,_))=>
some ((-1),()))
def gz:X.Cfg:=⟨E0,[g5],[],[⟨3,0,(qS [sP 0 (yaa cM),(1,.fn 70 []),Uaa 7,Uaa 8] []),[(.ret,qS [Uaa 4] []),(.exit 0,(qS [sP 0 (yaa cM),(1,.fn 70 []),Uaa 7,Uaa 8,Xaa 9] []))]⟩]⟩
def dI:Ctr:=⟨87,15,[shU (yaa cM),.fn 70 []],[],[⟨uac,[.one],[]⟩],ap1 cF⟩
theorem gx:Lk 3 dI:=ls gz (aC lp aN)
def bF(a0:List LDCn):Option (Bool×Unit):=
(cF a0).bind λ(x0,_)=>
some ((decide (x0>=0)),())
def fD:X.Cfg:=⟨E0,[dI],[],[]⟩
def cZ:Ctr:=⟨69,16,[shU (yaa cM),.fn 70 []],[],[⟨zab,[.one],[]⟩],ap1 bF⟩
theorem fC:Lk 4 cZ:=ls fD (aC gx aN)
def eq(a0:List LDCn) (a1:LDTs):Option (Bool×Unit):=
let x0:=bf a0.length;
bif decide (x0<=4) then (let x1:Int:=(bf a1.length);
bif decide (x1<=4) then ((bF a0).bind λ(x2,_)=>
some ((!x2),())) else
some (false,())) else
some (false,())
def m9:X.Cfg:=⟨E0,[cZ],[],[]⟩
def ji:Ctr:=⟨60,17,[.agg uab],[],[⟨zab,[.one],[]⟩],ap2 eq⟩
theorem m0:Lk 5 ji:=ls m9 (aC fC aN)
def bY:LLCn×Int×T08->Option ((LLCn×Int×T08)⊕(LLCn×Int×Int×Bool×T06)):=λ(v0,v1,v2,v3,v4,v5,_)=>
bif decide (v2 < v1) then ((eO v2).bind λx0=>
(cT v0 x0).bind λx1=>
let x2:=bf x1.length;
bif (cz 8 v5.length (List.length [x2])) then let x3:List (Int):=(List.append v5 [x2]);
let x4:=w64 (v2+1);
some (.inl (v0,v1,x4,v3,v4,x3,())) else none) else
some (.inr (v0,v1,v2,false,v3,v4,v5,()))
def c9(a0:List LDCn) (a1:LDTs):Option (LI×Unit):=
let x0:=bf a0.length;
(bu bY NN (a0,x0,0,a0,a1,[],())).bind λ(x1,x2,x3,x4,x5,x6,x7,_)=>
some (x7,())
def oN:X.Cfg:=⟨E0,[],[],[(lx 4 0 [Zaa 3 9,sP 7 (yaa cM),Uaa 8,Uaa 9] [(4,uab),(9,Zac)] 10)]⟩
def gP:Ctr:=⟨41,18,[.agg uab],[],[⟨Zac,[.one],[]⟩],ap2 c9⟩
theorem jP:Lk 1 gP:=ls oN aN
def eu(a0:Int):Option (Bool×Unit):=
(dO a0).bind λ(x0,_)=>
some ((!x0),())
def na:X.Cfg:=⟨E0,[gO],[],[]⟩
def jj:Ctr:=⟨73,19,uac,[],[⟨zab,[.one],[]⟩],ap1 eu⟩
theorem m6:Lk 2 jj:=ls na (aC jO aN)
def bn:T05->Option (T05⊕((Int×Unit)⊕T09)):=λ(v0,v1,v2,_)=>
bif decide (v2 < v1) then ((eO v2).bind λx0=>
(cT v0 x0).bind λx1=>
(eu x1).bind λ(x2,_)=>
bif x2 then (some (.inr (.inl (v2,())))) else
let x3:=w64 (v2+1);
some (.inl (v0,v1,x3,()))) else
some (.inr (.inr (v0,v1,v2,false,())))
def cP(a0:List (Int)):Option (Int×Unit):=
let x0:=bf a0.length;
(match bu bn NN (a0,x0,0,()) with
| none=>none
| some (.inl (x1,_))=>
some (x1,())
| some (.inr (x1,_))=>
some ((-1),()))
def hY:X.Cfg:=⟨E0,[jj],[],[⟨3,0,(qS [sP 0 RI,(1,.fn 73 []),Uaa 7,Uaa 8] []),[(.ret,qS [Uaa 4] []),(.exit 0,(qS [sP 0 RI,(1,.fn 73 []),Uaa 7,Uaa 8,Xaa 9] []))]⟩]⟩
def d7:Ctr:=⟨88,20,[shU RI,.fn 73 []],[],[⟨uac,[.one],[]⟩],ap1 cP⟩
theorem g9:Lk 3 d7:=ls hY (aC m6 aN)
def bN(a0:List (Int)):Option (Bool×Unit):=
(cP a0).bind λ(x0,_)=>
some ((decide (x0>=0)),())
def ge:X.Cfg:=⟨E0,[d7],[],[]⟩
def dp:Ctr:=⟨72,21,[shU RI,.fn 73 []],[],[⟨zab,[.one],[]⟩],ap1 bN⟩
theorem gc:Lk 4 dp:=ls ge (aC g9 aN)
def bR:T0r->Option (T0r⊕(Int×Int×Int×Int×LI×T07)):=λ(v0,v1,v2,v3,v4,v5,v6,v7,_)=>
let x0:=w64 (v3*8);
bif decide (x0 < v2) then (let x1:LDCe:=[(v1,v3)];
bif (cz 16 v7.length x1.length) then let x2:LDCe:=(List.append v7 x1);
let x3:=w64 (v3+1);
some (.inl (v0,v1,v2,x3,v4,v5,v6,x2,())) else none) else
some (.inr (v0,v1,v2,v3,v4,v5,v6,false,v7,()))
def cc:T0d->Option (T0d⊕(Int×LI×T07)):=λ(v0,v1,v2,v3,v4,_)=>
bif decide (v3 < v2) then ((eO v3).bind λx0=>
(cT v1 x0).bind λx1=>
(bu bR NN (v0,v3,x1,0,v1,v2,v3,v4,())).bind λ(x2,x3,x4,x5,x6,x7,x8,x9,ac,_)=>
let ae:=w64 (x8+1);
some (.inl (x2,x6,x7,ae,ac,()))) else
some (.inr (v0,v1,v2,v3,false,v4,()))
def bQ:T04->Option (T04⊕T07):=λ(v0,v1,v2,_)=>
bif decide (v1 < v0) then (let x0:LDCe:=[((-1),v1)];
bif (cz 16 v2.length x0.length) then let x1:LDCe:=(List.append v2 x0);
let x2:=w64 (v1+1);
some (.inl (v0,x2,x1,())) else none) else
some (.inr (v0,v1,false,v2,()))
def fO(a0:List (Int)) (a1:Int):Option (LDCe×Int×Unit):=
let x0:=bf a0.length;
bif decide (x0 > 4) then (some ([],3,())) else
bif decide (a1 > 4) then (some ([],3,())) else
bif decide (a1 < 0) then (some ([],1,())) else
(bN a0).bind λ(x1,_)=>
bif x1 then (some ([],1,())) else
let x2:=bf a0.length;
(bu cc NN (a1,a0,x2,0,[],())).bind λ(x3,x4,x5,x6,x7,x8,_)=>
(bu bQ NN (x3,0,x8,())).bind λ(x9,ac,ae,af,_)=>
some (af,0,())
def qf:X.Cfg:=⟨E0,[dp],[],[⟨16,0,qS [Uaa 1,Zaa 6 15,Uaa 7,Uaa 8,Uaa 9,sP 24 RI,Uaa 25,Uaa 26] [(15,Zab)],[(.exit 2,qS [Uaa 1,Zaa 6 15,Uaa 7,Uaa 8,Uaa 9,sP 24 RI,Uaa 25,Uaa 26,Xaa 34] [(15,Zab)])]⟩,(lx 10 1 [Uaa 1,Zaa 6 15,sP 24 RI,Uaa 25,Uaa 26] [(15,Zab)] 27),⟨22,2,qS [Zaa 6 15,Uaa 44,Uaa 45] [(15,Zab)],[(.exit 4,qS [Zaa 6 15,Uaa 44,Uaa 45,Xaa 46] [(15,Zab)])]⟩]⟩
def li:Ctr:=⟨61,22,yab,[],[⟨Xad,[.one,.one],[]⟩],ap2 fO⟩
theorem pY:Lk 5 li:=ls qf (aC gc aN)
def b5(a0:LDCn):Option (LDCn×Unit):=
bif (cz 24 0 a0.length) then let x0:LDCn:=(List.append [] a0);
some (x0,()) else none
def ja:X.Cfg:=⟨E0,[],[],[]⟩
def dg:Ctr:=⟨75,23,uL [cM],[],[⟨zad,[.one],[]⟩],ap1 b5⟩
theorem eV:Lk 1 dg:=ls ja aN
def gH(a0:Int) (a1:Int) (a2:Int) (a3:Int) (a4:Int) (a5:Int) (a6:Int) (a7:LDCn):Option (T0q):=
(b5 a7).bind λ(x0,_)=>
some (a0,a1,a2,a3,a4,a5,a6,x0,())
def oR:X.Cfg:=⟨E0,[dg],[],[]⟩
def ke:Ctr:=⟨74,24,[.agg Uac],[],[⟨uad,[.agg 8],[]⟩],ap8 gH⟩
theorem oF:Lk 2 ke:=ls oR (aC eV aN)
def ig(a0:LDCn) (a1:Int):Option (LDCn×Unit):=
(bif decide (a1 < 0) then (some (a0,a1,true,())) else
bif decide (a1 > 32) then (some (a0,a1,true,())) else
let x0:=w64 (a1*8);
let x1:=bf a0.length;
some (a0,a1,(decide (x0>=x1)),()):Option (LDCn×T00)).bind λ(x0,x1,x2,_)=>
bif x2 then (some ([],())) else
let x3:=w64 (x1*8);
let x4:=w64 (x3+8);
let x5:=bf x0.length;
let x6:=mmR false x4 x5;
(eO x3).bind λx7=>
(eO x6).bind λx8=>
bif (g8 x7 x8 x0.length) then let x9:LDCn:=(By x0 x7 (Nat.sub x8 x7));
some (x9,()) else none
def qe:X.Cfg:=⟨E0,[],[],[⟨2,0,qE,[(.normal,qS [sP 0 cM,Uaa 1,Xaa 18] [])]⟩]⟩
def lh:Ctr:=⟨76,25,uL [cM,I64],[],[⟨uL [cM],[.one],[]⟩],ap2 ig⟩
theorem pX:Lk 1 lh:=ls qe aN
def fr(a0:List LDCn) (a1:LDTs) (a2:Int) (a3:Int):Option (Int×Int×LDCn×T0q):=
bif (a2==(-1)) then ((eO a3).bind λx0=>
(cT a1 x0).bind λx1=>
(gH x1.1 x1.2.1 x1.2.2.1 x1.2.2.2.1 x1.2.2.2.2.1 x1.2.2.2.2.2.1 x1.2.2.2.2.2.2.1 x1.2.2.2.2.2.2.2).bind λ(x2,x3,x4)=>
some (a2,a3,[],x2,x3,x4)) else
(eO a2).bind λx0=>
(cT a0 x0).bind λx1=>
(ig x1 a3).bind λ(x2,_)=>
(b5 x2).bind λ(x3,_)=>
some (a2,a3,x3,0,0,0,0,0,0,0,[],())
def rD:X.Cfg:=⟨E0,[ke,lh,dg],[],[]⟩
def mK:Ctr:=⟨62,26,[.agg uab,.agg yac],[],[⟨Xac,[.agg 11],[]⟩],ap4 fr⟩
theorem rq:Lk 3 mK:=ls rD (aC oF (aC pX (aC eV aN)))
def cu:T0x->Option (T0x⊕(Int×Int×Bool×T0w)):=λ(v0,v1,v2,v3,v4,v5,_)=>
bif decide (v1 < v0) then ((eO v1).bind λx0=>
(cT v4 x0).bind λx1=>
(cT v4 x0).bind λx2=>
(fr v2 v3 x2.1 x2.2).bind λ(x3,x4,x5,x6,x7,x8,x9,ac,ae,af,ag,_)=>
let ah:List (Int×Int×LDCn×Int×Int×Int×Int×Int×Int×Int×LDCn):=[(x3,(x4,(x5,(x6,(x7,(x8,(x9,(ac,(ae,(af,ag))))))))))];
bif (cz 120 v5.length ah.length) then let aj:List (Int×Int×LDCn×Int×Int×Int×Int×Int×Int×Int×LDCn):=(List.append v5 ah);
let ak:=w64 (v1+1);
some (.inl (v0,ak,v2,v3,v4,aj,())) else none) else
some (.inr (v0,v1,false,v2,v3,v4,v5,()))
def ft(a0:List LDCn) (a1:LDTs):Option ((List (Int×Int×LDCn×Int×Int×Int×Int×Int×Int×Int×LDCn))×Int×Unit):=
(eq a0 a1).bind λ(x0,_)=>
bif (!x0) then (some ([],1,())) else
(c9 a0 a1).bind λ(x1,_)=>
let x2:=bf a1.length;
(fO x1 x2).bind λ(x3,x4,_)=>
let x5:=bf x3.length;
(bu cu NN (x5,0,a0,a1,x3,[],())).bind λ(x6,x7,x8,x9,ac,ae,af,_)=>
some (af,0,())
def rE:X.Cfg:=⟨E0,[ji,gP,li,mK],[(31,(.pair I64 (.pair I64 (.pair (uaa KCn) pf)))),(32,(.pair I64 (.pair I64 (.pair (uaa KCn) pf))))],[(lx 8 0 [zaa 1,Zaa 6 15,Zaa 21 11,Uaa 22,Uaa 23] [(4,uab),(11,Zab),(15,[shU (uaa (.pair I64 (.pair I64 (.pair cM gh))))])] 24)]⟩
def mL:Ctr:=⟨39,27,[.agg uab],[],[⟨[shU (uaa (.pair I64 (.pair I64 (.pair cM gh)))),shU I64],[.one,.one],[]⟩],ap2 ft⟩
theorem rr:Lk 6 mL:=ls rE (aC m0 (aC jP (aC pY (aC rq aN))))
def bP:LI×T05->Option ((LI×T05)⊕((Bool×Unit)⊕(LI×T09))):=λ(v0,v1,v2,v3,_)=>
bif decide (v3 < v2) then ((eO v3).bind λx0=>
(cT v0 x0).bind λx1=>
(eO v3).bind λx2=>
(cT v1 x2).bind λx3=>
bif (x1 != x3) then (some (.inr (.inl (false,())))) else
let x4:=w64 (v3+1);
some (.inl (v0,v1,v2,x4,()))) else
some (.inr (.inr (v0,v1,v2,v3,false,())))
def cS(a0:List (Int)) (a1:List (Int)):Option (Bool×Unit):=
let x0:=bf a0.length;
let x1:=bf a1.length;
bif (x0 != x1) then (some (false,())) else
let x2:=bf a0.length;
(match bu bP NN (a0,a1,x2,0,()) with
| none=>none
| some (.inl (x3,_))=>
some (x3,())
| some (.inr (x3,_))=>
some (true,()))
def jU:X.Cfg:=⟨E0,[],[],[⟨6,0,qS [sP 0 RI,sP 1 RI,Uaa 12,Uaa 13] [],[(.ret,qS [Xaa 4] []),(.exit 0,qS [sP 0 RI,sP 1 RI,Uaa 12,Uaa 13,Xaa 14] [])]⟩]⟩
def fX:Ctr:=⟨40,28,uL [RI,RI],[],[⟨zab,[.one],[]⟩],ap2 cS⟩
theorem jN:Lk 1 fX:=ls jU aN
def bE:LDCn×LDCn×T01->Option ((LDCn×LDCn×T01)⊕((Bool×Unit)⊕(LDCn×LDCn×T03))):=λ(v0,v1,v2,v3,_)=>
bif decide (v3 < v2) then ((eO v3).bind λx0=>
(cT v0 x0).bind λx1=>
(eO v3).bind λx2=>
(cT v1 x2).bind λx3=>
let x4:Bool:=(!((x1.1==x3.1) && ((x1.2.1==x3.2.1) && ((x1.2.2.1==x3.2.2.1) && ((x1.2.2.2==x3.2.2.2) && true)))));
bif x4 then (some (.inr (.inl (false,())))) else
let x5:=w64 (v3+1);
some (.inl (v0,v1,v2,x5,()))) else
some (.inr (.inr (v0,v1,v2,v3,false,())))
def b4(a0:LDCn) (a1:LDCn):Option (Bool×Unit):=
let x0:=bf a0.length;
let x1:=bf a1.length;
bif (x0 != x1) then (some (false,())) else
let x2:=bf a0.length;
(match bu bE NN (a0,a1,x2,0,()) with
| none=>none
| some (.inl (x3,_))=>
some (x3,())
| some (.inr (x3,_))=>
some (true,()))
def i9:X.Cfg:=⟨E0,[],[],[⟨6,0,qS [sP 0 cM,sP 1 cM,Uaa 12,Uaa 13] [],[(.ret,qS [Xaa 4] []),(.exit 0,qS [sP 0 cM,sP 1 cM,Uaa 12,Uaa 13,Xaa 14] [])]⟩]⟩
def eW:Ctr:=⟨63,29,uL [cM,cM],[],[⟨zab,[.one],[]⟩],ap2 b4⟩
theorem i7:Lk 1 eW:=ls i9 aN
def eZ(a0:Int) (a1:Int) (a2:LDCn) (a3:Int) (a4:Int) (a5:Int) (a6:Int) (a7:Int) (a8:Int) (a9:Int) (a10:LDCn) (a11:Int) (a12:Int) (a13:LDCn) (a14:Int) (a15:Int) (a16:Int) (a17:Int) (a18:Int) (a19:Int) (a20:Int) (a21:LDCn):Option (Bool×Unit):=
bif ((a0==a11) && ((a1==a12) && true)) then ((b4 a2 a13).bind λ(x0,_)=>
bif x0 then (bif (a3==a14) then (bif (a4==a15) then (bif (a5==a16) then (bif (a6==a17) then (bif (a7==a18) then (bif (a8==a19) then (bif (a9==a20) then ((b4 a10 a21).bind λ(x1,_)=>
some (x1,())) else
some (false,())) else
some (false,())) else
some (false,())) else
some (false,())) else
some (false,())) else
some (false,())) else
some (false,())) else
some (false,())) else
some (false,())
def oO:X.Cfg:=⟨E0,[eW],[],[]⟩
def j8:Ctr:=⟨42,30,[.agg Xac,.agg Xac],[],[⟨zab,[.one],[]⟩],ap22 eZ⟩
theorem oD:Lk 2 j8:=ls oO (aC i7 aN)
def bH:T0B->Option (T0B⊕(Int×Int×Bool×T0A)):=λ(v0,v1,v2,v3,v4,_)=>
bif decide (v1 < v0) then (((eO v1).bind λx0=>
(cT v2 x0).bind λx1=>
(cT v2 x0).bind λx2=>
(eO v1).bind λx3=>
(cT v3 x3).bind λx4=>
(cT v3 x3).bind λx5=>
(eZ x2.1 x2.2.1 x2.2.2.1 x2.2.2.2.1 x2.2.2.2.2.1 x2.2.2.2.2.2.1 x2.2.2.2.2.2.2.1 x2.2.2.2.2.2.2.2.1 x2.2.2.2.2.2.2.2.2.1 x2.2.2.2.2.2.2.2.2.2.1 x2.2.2.2.2.2.2.2.2.2.2 x5.1 x5.2.1 x5.2.2.1 x5.2.2.2.1 x5.2.2.2.2.1 x5.2.2.2.2.2.1 x5.2.2.2.2.2.2.1 x5.2.2.2.2.2.2.2.1 x5.2.2.2.2.2.2.2.2.1 x5.2.2.2.2.2.2.2.2.2.1 x5.2.2.2.2.2.2.2.2.2.2).bind λ(x6,_)=>
bif (!x6) then ((eO v1).bind λx7=>
(cT v2 x7).bind λx8=>
(cT v2 x7).bind λx9=>
let ac:LDCe:=[(x9.1,x9.2.1)];
bif (cz 16 v4.length ac.length) then let ae:LDCe:=(List.append v4 ac);
some (v0,v1,v2,v3,ae,()) else none) else
some (v0,v1,v2,v3,v4,()):Option (T0B)).bind λ(x0,x1,x2,x3,x4,_)=>
let x5:=w64 (x1+1);
some (.inl (x0,x5,x2,x3,x4,()))) else
some (.inr (v0,v1,false,v2,v3,v4,()))
def bI(a0:List LDCn) (a1:LDTs) (a2:List LDCn) (a3:LDTs):Option (LDCe×Int×Unit):=
(ft a0 a1).bind λ(x0,x1,_)=>
(ft a2 a3).bind λ(x2,x3,_)=>
(bif (x1 != 0) then (some (true,x0,x2,())) else
bif (x3 != 0) then (some (true,x0,x2,())) else
(c9 a0 a1).bind λ(x4,_)=>
(c9 a2 a3).bind λ(x5,_)=>
(cS x4 x5).bind λ(x6,_)=>
bif (!x6) then (some (true,x0,x2,())) else
let x7:=bf a1.length;
let x8:=bf a3.length;
some ((x7 != x8),x0,x2,()):Option (Bool×(List (Int×Int×LDCn×Int×Int×Int×Int×Int×Int×Int×LDCn))×(List (Int×Int×LDCn×Int×Int×Int×Int×Int×Int×Int×LDCn))×Unit)).bind λ(x4,x5,x6,_)=>
bif x4 then (some ([],1,())) else
let x7:=bf x5.length;
(bu bH NN (x7,0,x5,x6,[],())).bind λ(x8,x9,ac,ae,af,ag,_)=>
some (ag,0,())
def mo:X.Cfg:=⟨E0,[mL,gP,fX,j8],[],[⟨4,0,qE,[(.normal,(qS [Zaa 6 15,Zaa 8 19,Xaa 44] [(15,[shU (uaa (.pair I64 (.pair I64 (.pair cM gh))))]),(19,[shU (uaa (.pair I64 (.pair I64 (.pair cM gh))))])]))]⟩,⟨12,1,qE,[(.normal,(qS [Zaa 6 15,Zaa 8 19,Zaa 10 23,Uaa 46,Uaa 47] [(15,[shU (uaa (.pair I64 (.pair I64 (.pair cM gh))))]),(19,[shU (uaa (.pair I64 (.pair I64 (.pair cM gh))))]),(23,Zab)]))]⟩,(lx 9 2 [Zaa 6 15,Zaa 8 19,Zaa 10 23,Uaa 46,Uaa 47] [(15,[shU (uaa (.pair I64 (.pair I64 (.pair cM gh))))]),(19,[shU (uaa (.pair I64 (.pair I64 (.pair cM gh))))]),(23,Zab)] 48)]⟩
def fK:Ctr:=⟨22,31,[.agg uab,.agg uab],[],[⟨Xad,[.one,.one],[]⟩],ap4 bI⟩
theorem iz:Lk 7 fK:=ls mo (aC rr (aC jP (aC jN (aC oD aN))))
def bW:T08->Option (T08⊕(Int×Bool×T06)):=λ(v0,v1,v2,v3,_)=>
let x0:=bf v1.length;
bif decide (v0 < x0) then ((eO v0).bind λx1=>
(cT v1 x1).bind λx2=>
let x3:=bf x2.length;
bif (cz 8 v3.length (List.length [x3])) then let x4:List (Int):=(List.append v3 [x3]);
let x5:=w64 (v0+1);
some (.inl (x5,v1,v2,x4,())) else none) else
some (.inr (v0,false,v1,v2,v3,()))
def eY(a0:List LDCn) (a1:LDTs):Option (LI×Unit):=
(bu bW NN (0,a0,a1,[],())).bind λ(x0,x1,x2,x3,x4,_)=>
some (x4,())
def oL:X.Cfg:=⟨E0,[],[],[(lx 4 0 [zaa 1,Zaa 3 9,Uaa 4] [(4,uab),(9,Zac)] 9)]⟩
def j7:Ctr:=⟨45,32,[.agg uab],[],[⟨Zac,[.one],[]⟩],ap2 eY⟩
theorem oC:Lk 1 j7:=ls oL aN
def bD:T05->Option (T05⊕((Int×Unit)⊕T09)):=λ(v0,v1,v2,_)=>
let x0:=bf v0.length;
bif decide (v2 < x0) then ((eO v2).bind λx1=>
(cT v0 x1).bind λx2=>
bif decide (x2 < 1) then (some (.inr (.inl (1,())))) else
(eO v2).bind λx3=>
(cT v0 x3).bind λx4=>
bif decide (x4 > 32) then (some (.inr (.inl (1,())))) else
let x5:=w64 (v2+1);
some (.inl (v0,v1,x5,()))) else
some (.inr (.inr (v0,v1,v2,false,())))
def eX(a0:List (Int)) (a1:Int):Option (Int×Unit):=
let x0:=bf a0.length;
bif decide (x0 > 4) then (some (3,())) else
bif decide (a1 > 4) then (some (3,())) else
(match bu bD NN (a0,a1,0,()) with
| none=>none
| some (.inl (x1,_))=>
some (x1,())
| some (.inr (x1,x2,_))=>
bif decide (x2 < 0) then (some (1,())) else
some (0,()))
def oK:X.Cfg:=⟨E0,[],[],[⟨6,0,qS [sP 0 RI,Uaa 1,Uaa 5] [],[(.ret,qS [Uaa 4] []),(.exit 0,qS [sP 0 RI,Uaa 1,Uaa 5,Xaa 16] [])]⟩]⟩
def j6:Ctr:=⟨64,33,yab,[],[⟨uac,[.one],[]⟩],ap2 eX⟩
theorem oB:Lk 1 j6:=ls oK aN
def eo(a0:List LDCn) (a1:LDTs):Option (Bool×Unit):=
(eY a0 a1).bind λ(x0,_)=>
let x1:=bf a1.length;
(eX x0 x1).bind λ(x2,_)=>
some ((x2==0),())
def m8:X.Cfg:=⟨E0,[j7,j6],[],[]⟩
def jh:Ctr:=⟨43,34,[.agg uab],[],[⟨zab,[.one],[]⟩],ap2 eo⟩
theorem mZ:Lk 2 jh:=ls m8 (aC oC (aC oB aN))
def ct(a0:Int) (a1:Int) (a2:Int) (a3:Int) (a4:Int) (a5:Int) (a6:Int) (a7:LDCn):Option (T0q):=
bif (cz 24 0 a7.length) then let x0:LDCn:=(List.append [] a7);
some (a0,a1,a2,a3,a4,a5,a6,x0,()) else none
def m7:X.Cfg:=⟨E0,[],[],[]⟩
def eB:Ctr:=⟨48,37,[.agg Uac],[],[⟨uad,[.agg 8],[]⟩],ap8 ct⟩
theorem gd:Lk 1 eB:=ls m7 aN
def dB(a0:List LDCn) (a1:LDTs) (a2:Int) (a3:Int):Option (Int×Int×LDCn×Int×Int×Int×Int×Int×Int×Int×LDCn×Int×Unit):=
(eo a0 a1).bind λ(x0,_)=>
bif (!x0) then (some (0,0,[],0,0,0,0,0,0,0,[],1,())) else
bif (a2==(-1)) then (bif decide (a3 < 0) then (some (0,0,[],0,0,0,0,0,0,0,[],30,())) else
let x1:=bf a1.length;
bif decide (a3>=x1) then (some (0,0,[],0,0,0,0,0,0,0,[],30,())) else
(eO a3).bind λx2=>
(cT a1 x2).bind λx3=>
(ct x3.1 x3.2.1 x3.2.2.1 x3.2.2.2.1 x3.2.2.2.2.1 x3.2.2.2.2.2.1 x3.2.2.2.2.2.2.1 x3.2.2.2.2.2.2.2).bind λ(x4,x5,x6,x7,x8,x9,ac,ae,_)=>
some (a2,a3,[],x4,x5,x6,x7,x8,x9,ac,ae,0,())) else
(bif decide (a2 < 0) then (some (true,a0,a1,a2,a3,0,0,(),0,0,0,0,0,0,0,(),())) else
let x1:=bf a0.length;
bif decide (a2>=x1) then (some (true,a0,a1,a2,a3,0,0,(),0,0,0,0,0,0,0,(),())) else
bif decide (a3 < 0) then (some (true,a0,a1,a2,a3,0,0,(),0,0,0,0,0,0,0,(),())) else
bif decide (a3 > 32) then (some (true,a0,a1,a2,a3,0,0,(),0,0,0,0,0,0,0,(),())) else
let x2:=w64 (a3*8);
(eO a2).bind λx3=>
(cT a0 x3).bind λx4=>
let x5:=bf x4.length;
some ((decide (x2>=x5)),a0,a1,a2,a3,0,0,(),0,0,0,0,0,0,0,(),()):Option (Bool×LLCn×LDTs×Int×Int×Int×Int×Unit×Int×Int×Int×Int×Int×Int×Int×Unit×Unit)).bind λ(x1,x2,x3,x4,x5,x6,x7,x8,x9,ac,ae,_)=>
bif x1 then (some (0,0,[],0,0,0,0,0,0,0,[],30,())) else
(eO x4).bind λam=>
(cT x2 am).bind λan=>
let ap:=w64 (x5*8);
let aq:=w64 (ap+8);
let au:=bf an.length;
let av:=mmR false aq au;
(eO ap).bind λaw=>
(eO av).bind λax=>
bif (g8 aw ax an.length) then let ay:LDCn:=(By an aw (Nat.sub ax aw));
bif (cz 24 0 ay.length) then let az:LDCn:=(List.append [] ay);
some (x4,x5,az,0,0,0,0,0,0,0,[],0,()) else none else none
def rB:X.Cfg:=⟨E0,[jh,eB],[],[⟨11,0,qE,[(.normal,(qS [zaa 2,zaa 3,zaa 4,Xaa 69] [(6,uab),(8,yac),(10,uL [I64,I64,N1,I64,I64,I64,I64,I64,I64,CW,N1])]))]⟩]⟩
def jt:Ctr:=⟨24,38,[.agg uab,.agg yac],[],[⟨uL [I64,I64,cM,I64,I64,I64,I64,I64,I64,CW,cM,I64],[.agg 11,.one],[]⟩],ap4 dB⟩
theorem mj:Lk 3 jt:=ls rB (aC mZ (aC gd aN))
def b6:LDCn×LDCn×Int×Unit->Option ((LDCn×LDCn×Int×Unit)⊕((Bool×Unit)⊕(LDCn×LDCn×T00))):=λ(v0,v1,v2,_)=>
let x0:=bf v0.length;
bif decide (v2 < x0) then ((eO v2).bind λx1=>
(cT v0 x1).bind λx2=>
(eO v2).bind λx3=>
(cT v1 x3).bind λx4=>
let x5:Bool:=(!((x2.1==x4.1) && ((x2.2.1==x4.2.1) && ((x2.2.2.1==x4.2.2.1) && ((x2.2.2.2==x4.2.2.2) && true)))));
bif x5 then (some (.inr (.inl (false,())))) else
let x6:=w64 (v2+1);
some (.inl (v0,v1,x6,()))) else
some (.inr (.inr (v0,v1,v2,false,())))
def cG(a0:LDCn) (a1:LDCn):Option (Bool×Unit):=
let x0:=bf a0.length;
let x1:=bf a1.length;
bif (x0 != x1) then (some (false,())) else
(match bu b6 NN (a0,a1,0,()) with
| none=>none
| some (.inl (x2,_))=>
some (x2,())
| some (.inr (x2,_))=>
some (true,()))
def kE:X.Cfg:=⟨E0,[],[],[⟨6,0,qS [sP 0 cM,sP 1 cM,Uaa 5] [],[(.ret,qS [Xaa 4] []),(.exit 0,qS [sP 0 cM,sP 1 cM,Uaa 5,Xaa 14] [])]⟩]⟩
def em:Ctr:=⟨51,40,uL [cM,cM],[],[⟨zab,[.one],[]⟩],ap2 cG⟩
theorem gy:Lk 1 em:=ls kE aN
def dy(a0:Int) (a1:Int) (a2:Int) (a3:Int) (a4:Int) (a5:Int) (a6:Int) (a7:LDCn) (a8:Int) (a9:Int) (a10:Int) (a11:Int) (a12:Int) (a13:Int) (a14:Int) (a15:LDCn):Option (Bool×Unit):=
bif (a0==a8) then (bif (a1==a9) then (bif (a2==a10) then (bif (a3==a11) then (bif (a4==a12) then (bif (a5==a13) then (bif (a6==a14) then ((cG a7 a15).bind λ(x0,_)=>
some (x0,())) else
some (false,())) else
some (false,())) else
some (false,())) else
some (false,())) else
some (false,())) else
some (false,())) else
some (false,())
def lq:X.Cfg:=⟨E0,[em],[],[]⟩
def gZ:Ctr:=⟨52,41,[.agg Uac,.agg Uac],[],[⟨zab,[.one],[]⟩],ap16 dy⟩
theorem ln:Lk 2 gZ:=ls lq (aC gy aN)
def jx(a0:List (Int)):Option (Bool×Unit):=
let x0:=bf a0.length;
some ((decide (x0<=400)),())
def yU:X.Cfg:=⟨E0,[],[],[]⟩
def pc:Ctr:=⟨16,49,uL [RI],[],[⟨zab,[.one],[]⟩],ap1 jx⟩
theorem sW:Lk 1 pc:=ls yU aN
def jm(a0:Int) (a1:Int):Option (Int×Unit):=
bif (a1 != 0) then let x0:Int:=(Int.tmod a0 a1);
(bif decide (x0 < 0) then (let x1:Int:=(w64 (x0+a1));
some (x1,())) else
some (x0,()):Option (Int×Unit)).bind λ(x1,_)=>
some (x1,()) else none
def rC:X.Cfg:=⟨E0,[],[],[⟨2,0,qE,[(.normal,qS [Uaa 5] [])]⟩]⟩
def mJ:Ctr:=⟨50,50,yac,[],[⟨uac,[.one],[]⟩],ap2 jm⟩
theorem rp:Lk 1 mJ:=ls rC aN
def iN(a0:Int) (a1:Int):Option (Int×Unit):=
(jm a0 a1).bind λ(x0,_)=>
some (x0,())
def yT:X.Cfg:=⟨E0,[mJ],[],[]⟩
def pb:Ctr:=⟨26,51,yac,[],[⟨uac,[.one],[]⟩],ap2 iN⟩
theorem sV:Lk 2 pb:=ls yT (aC rp aN)
def be(a0:Int) (a1:List (Int)) (a2:Int):Option (Int×LI×Int×Unit):=
let x0:=bf a1.length;
bif decide (a2>=x0) then (some (0,a1,a2,())) else
let x1:=w64 (a2+1);
let x2:=w64 (x1 - 1);
(eO x2).bind λx3=>
(cT a1 x3).bind λx4=>
(iN x4 a0).bind λ(x5,_)=>
some (x5,a1,x1,())
def rG:X.Cfg:=⟨E0,[pb],[],[]⟩
def dE:Ctr:=⟨20,52,[.ptr ⟨2,0,[]⟩ [0],shU I64],[(2,yab)],[⟨uac,[.one],[(2,yab)]⟩],ap3 be⟩
theorem ek:Lk 3 dE:=ls rG (aC sV aN)
def cV(a0:List (Int)) (a1:Int):Option (Int×Int×Int×Int×LI×Int×Unit):=
(be 5 a0 a1).bind λ(x0,x1,x2,_)=>
bif (x0==4) then ((be 3 x1 x2).bind λ(x3,x4,x5,_)=>
(be 8 x4 x5).bind λ(x6,x7)=>
some (1,0,x3,x6,x7)) else
(be 40 x1 x2).bind λ(x3,x4,x5,_)=>
let x6:=wk .u16 x3;
some (0,x6,0,0,x4,x5,())
def p7:X.Cfg:=⟨E0,[dE],[],[]⟩
def fW:Ctr:=⟨36,53,[.ptr ⟨2,0,[]⟩ [0]],[(2,yab)],[⟨uL [CB,CW,I64,I64],[.agg 4],[(2,yab)]⟩],ap2 cV⟩
theorem ix:Lk 4 fW:=ls p7 (aC ek aN)
def cE:T0z->Option (T0z⊕(Int×Bool×T0y)):=λ(v0,v1,v2,v3,v4,v5,v6,v7,v8,v9,v10,v11,v12,v13,v14,v15,v16,v17,v18,_)=>
bif decide (v0 < 8) then ((cV v1 v2).bind λ(x0,x1,x2,x3,x4,x5,_)=>
let x6:LDCn:=[(x0,(x1,(x2,x3)))];
bif (cz 24 v18.length x6.length) then let x7:LDCn:=(List.append v18 x6);
let x8:=w64 (v0+1);
some (.inl (x8,x4,x5,v3,v4,v5,v6,v7,v8,v9,v10,v11,v12,v13,v14,v15,v16,v17,x7,())) else none) else
some (.inr (v0,false,v1,v2,v3,v4,v5,v6,v7,v8,v9,v10,v11,v12,v13,v14,v15,v16,v17,v18,()))
def eF(a0:List (Int)) (a1:Int):Option (Int×Int×Int×Int×Int×Int×Int×LDCn×LI×Int×Unit):=
(be 5 a0 a1).bind λ(x0,x1,x2,_)=>
(be 20 x1 x2).bind λ(x3,x4,x5,_)=>
(be 30 x4 x5).bind λ(x6,x7,x8,_)=>
(be 4 x7 x8).bind λ(x9,ac,ae,_)=>
let af:=w64 (x9 - 1);
(be 4 ac ae).bind λ(ag,ah,aj,_)=>
let ak:=w64 (ag - 1);
(be 7 ah aj).bind λ(am,an,ap,_)=>
(be 9 an ap).bind λ(aq,au,av,_)=>
let aw:=wk .u16 aq;
(bu cE NN (0,au,av,0,0,0,0,0,0,0,(),x0,x3,x6,af,ak,am,aw,[],())).bind λ(ax,ay,az,aA,aB,aD,aE,aF,aG,aH,aI,aJ,aK,aL,aM,aO,aP,aQ,aR,aS,_)=>
some (aK,aL,aM,aO,aP,aQ,aR,aS,az,aA,())
def p8:X.Cfg:=⟨E0,[dE,fW],[],[(lx 4 0 [zaa 0,zaa 2,zaa 3,Uaa 4] [(2,yab),(6,uL [I64,I64,I64,I64,I64,I64,CW,N1]),(8,uad)] 24)]⟩
def iE:Ctr:=⟨37,54,[.ptr ⟨2,0,[]⟩ [0]],[(2,yab)],[⟨uad,[.agg 8],[(2,yab)]⟩],ap2 eF⟩
theorem kV:Lk 5 iE:=ls p8 (aC ek (aC ix aN))
def dx:T0u->Option (T0u⊕(Int×Int×Bool×T0n)):=λ(v0,v1,v2,v3,v4,v5,v6,v7,v8,_)=>
bif decide (v1>=0) then ((cV v2 v3).bind λ(x0,x1,x2,x3,x4,x5,_)=>
let x6:LDCn:=[(x0,(x1,(x2,x3)))];
bif (cz 24 v8.length x6.length) then let x7:LDCn:=(List.append v8 x6);
let x8:=w64 (v1 - 1);
some (.inl (v0,x8,x4,x5,v4,v5,v6,v7,x7,())) else none) else
some (.inr (v0,v1,false,v2,v3,v4,v5,v6,v7,v8,()))
def dw:T0k->Option (T0k⊕(Int×Bool×T0g)):=λ(v0,v1,v2,v3,v4,v5,v6,_)=>
bif decide (v0>=0) then ((be 24 v1 v2).bind λ(x0,x1,x2,_)=>
(bu dx NN (v0,x0,x1,x2,v3,v4,v5,v6,[],())).bind λ(x3,x4,x5,x6,x7,x8,x9,ac,ae,af,_)=>
bif (cz 24 ac.length (List.length [af])) then let ag:List LDCn:=(List.append ac [af]);
let ah:=w64 (x3 - 1);
some (.inl (ah,x6,x7,x8,x9,ag,ae,())) else none) else
some (.inr (v0,false,v1,v2,v3,v4,v5,v6,()))
def du:T0j->Option (T0j⊕T0p):=λ(v0,v1,v2,v3,v4,v5,v6,_)=>
bif decide (v0 > 0) then ((eF v1 v2).bind λ(x0,x1,x2,x3,x4,x5,x6,x7,x8,x9,_)=>
let ac:LDTs:=[(x0,(x1,(x2,(x3,(x4,(x5,(x6,x7)))))))];
bif (cz 80 v6.length ac.length) then let ae:LDTs:=(List.append v6 ac);
let af:=w64 (v0 - 1);
some (.inl (af,x8,x9,v3,v4,v5,ae,())) else none) else
some (.inr (v0,false,v1,v2,v3,v4,v5,v6,()))
def dN(a0:List (Int)) (a1:Int):Option (LLCn×LDTs×LI×Int×Unit):=
(be 3 a0 a1).bind λ(x0,x1,x2,_)=>
(bu dw NN (x0,x1,x2,(),(),[],(),())).bind λ(x3,x4,x5,x6,x7,x8,x9,ac,_)=>
(be 4 x5 x6).bind λ(ae,af,ag,_)=>
(bu du NN (ae,af,ag,x7,x8,x9,[],())).bind λ(ah,aj,ak,am,an,ap,aq,au,_)=>
some (aq,au,ak,am,())
def oJ:X.Cfg:=⟨E0,[dE,fW,iE],[(28,(uaa KCn)),(29,(uaa KCn)),(41,pf),(42,pf)],[⟨11,0,qS [zaa 0,zaa 2,zaa 3,Uaa 4,Zaa 5 13,Uaa 6] [(2,yab),(6,Uab),(8,yad),(13,zad)],[(.exit 2,qS [zaa 0,zaa 2,zaa 3,Uaa 4,Zaa 5 13,Uaa 6,Xaa 17] [(2,yab),(6,Uab),(8,yad),(13,zad)])]⟩,(lx 4 1 [zaa 0,zaa 2,zaa 3,Uaa 4] [(2,yab),(6,Uab),(8,yad)] 11),⟨17,2,qS [zaa 0,zaa 2,zaa 3,Uaa 7] [(2,yab),(6,Uab),(8,Xab)],[(.exit 4,qS [zaa 0,zaa 2,zaa 3,Uaa 7,Xaa 34] [(2,yab),(6,Uab),(8,Xab)])]⟩]⟩
def gN:Ctr:=⟨18,55,[.ptr ⟨2,0,[]⟩ [0]],[(2,yab)],[⟨Xab,[.agg 2],[(2,yab)]⟩],ap2 dN⟩
theorem jM:Lk 6 gN:=ls oJ (aC ek (aC ix (aC kV aN)))
def cb:T0m->Option (T0m⊕(Int×Bool×T0i)):=λ(v0,v1,v2,v3,v4,v5,v6,_)=>
let x0:=bf v1.length;
bif decide (v0 < x0) then ((eO v0).bind λx1=>
(cT v1 x1).bind λx2=>
bif (cz 24 0 x2.length) then let x3:LDCn:=(List.append [] x2);
bif (cz 24 v5.length (List.length [x3])) then let x4:List LDCn:=(List.append v5 [x3]);
let x5:=w64 (v0+1);
some (.inl (x5,v1,v2,v3,v4,x4,v6,())) else none else none) else
some (.inr (v0,false,v1,v2,v3,v4,v5,v6,()))
def ca:T0l->Option (T0l⊕(Int×Bool×T0h)):=λ(v0,v1,v2,v3,v4,v5,v6,_)=>
let x0:=bf v2.length;
bif decide (v0 < x0) then ((eO v0).bind λx1=>
(cT v2 x1).bind λx2=>
(ct x2.1 x2.2.1 x2.2.2.1 x2.2.2.2.1 x2.2.2.2.2.1 x2.2.2.2.2.2.1 x2.2.2.2.2.2.2.1 x2.2.2.2.2.2.2.2).bind λ(x3,x4,x5,x6,x7,x8,x9,ac,_)=>
let ae:LDTs:=[(x3,(x4,(x5,(x6,(x7,(x8,(x9,ac)))))))];
bif (cz 80 v6.length ae.length) then let af:LDTs:=(List.append v6 ae);
let ag:=w64 (v0+1);
some (.inl (ag,v1,v2,v3,v4,v5,af,())) else none) else
some (.inr (v0,false,v1,v2,v3,v4,v5,v6,()))
def eH(a0:List LDCn) (a1:LDTs):Option (T02):=
(bu cb NN (0,a0,a1,(),(),[],(),())).bind λ(x0,x1,x2,x3,x4,x5,x6,x7,_)=>
(bu ca NN (0,x2,x3,x4,x5,x6,[],())).bind λ(x8,x9,ac,ae,af,ag,ah)=>
some (ah)
def qd:X.Cfg:=⟨E0,[eB],[(22,(uaa KCn)),(23,(uaa KCn)),(40,pf),(41,pf)],[(lx 4 0 [zaa 1,zaa 2,zaa 3,Uaa 4] [(4,uab),(6,Uab),(8,yad)] 10),⟨10,1,qS [zaa 1,zaa 2,zaa 3,Uaa 5] [(4,uab),(6,Uab),(8,Xab)],[(.exit 2,qS [zaa 1,zaa 2,zaa 3,Uaa 5,Xaa 29] [(4,uab),(6,Uab),(8,Xab)])]⟩]⟩
def iH:Ctr:=⟨38,56,[.agg uab],[],[⟨Xab,[.agg 2],[]⟩],ap2 eH⟩
theorem kY:Lk 2 iH:=ls qd (aC gd aN)
def fq:T0s->Option (T0s⊕T0t):=λ(v0,v1,v2,v3,v4,v5,v6,v7,_)=>
bif decide (v1 < v0) then (((match (let x0:Int:=(bf v7.length);
bif decide (x0 > 0) then ((be 3 v2 v3).bind λ(x1,x2,x3,_)=>
bif (x1==2) then (let x4:Int:=(bf v7.length);
(be x4 x2 x3).bind λ(x5,x6,x7,_)=>
(eF x6 x7).bind λ(x8,x9,ac,ae,af,ag,ah,aj,ak,am,_)=>
(eO x5).bind λan=>
(cT v7 an).bind λap=>
(cT v7 an).bind λaq=>
let au:=(List.modify v7 an λe=>(x8,(x9,(ac,(ae,(af,(ag,(ah,aj))))))));
some (.inl (v0,v1,ak,am,v4,v5,v6,au,()))) else
some (.inr (v0,v1,false,x2,x3,v4,v5,v6,v7,()))) else
some (.inr (v0,v1,false,v2,v3,v4,v5,v6,v7,())):Option (T0s⊕T0t)) with
| none=>none
| some (.inl (x0,x1,x2,x3,x4,x5,x6,x7,_))=>
some (x0,x1,x2,x3,x4,x5,x6,x7,())
| some (.inr (x0,x1,x2,x3,x4,x5,x6,x7,x8,_))=>
let x9:=bf x7.length;
(be x9 x3 x4).bind λ(ac,ae,af,_)=>
(eO ac).bind λag=>
(cT x7 ag).bind λah=>
(cT x7 ag).bind λaj=>
(eO ac).bind λak=>
(cT x7 ak).bind λam=>
(cT x7 ak).bind λan=>
(cT x7 ak).bind λap=>
let aq:=bf ap.length;
(be aq ae af).bind λ(au,av,aw,_)=>
(cV av aw).bind λ(ax,ay,az,aA,aB,aD,_)=>
(eO au).bind λaE=>
(cT x7 ag).bind λaF=>
(cT aF aE).bind λaG=>
(cT x7 ag).bind λaH=>
(cT aH aE).bind λaI=>
let aJ:=(List.modify x7 ag λe=>(List.modify e aE λe=>(ax,(ay,(az,aA)))));
some (x0,x1,aB,aD,x5,x6,aJ,x8,())):Option (T0s)).bind λ(x0,x1,x2,x3,x4,x5,x6,x7,_)=>
let x8:=w64 (x1+1);
some (.inl (x0,x8,x2,x3,x4,x5,x6,x7,()))) else
some (.inr (v0,v1,false,v2,v3,v4,v5,v6,v7,()))
def dF(a0:List LDCn) (a1:LDTs) (a2:Int) (a3:List (Int)) (a4:Int):Option (LLCn×LDTs×LI×Int×Unit):=
(eH a0 a1).bind λ(x0,x1,_)=>
(bu fq NN (a2,0,a3,a4,(),(),x0,x1,())).bind λ(x2,x3,x4,x5,x6,x7,x8,x9,ac,_)=>
some (x9,ac,x5,x6,())
def p9:X.Cfg:=⟨E0,[iH,dE,iE,fW],[],[⟨8,0,qE,[(.exit 1,qS [zaa 0,Uaa 2,zaa 6,zaa 7,Uaa 8] [(2,yab),(14,Uab),(16,Xab)]),(.normal,qS [zaa 0,Uaa 2,zaa 6,zaa 7,Uaa 8,Xaa 25] [(2,yab),(14,Uab),(16,Xab)])]⟩,⟨7,1,qE,[(.normal,qS [zaa 0,Uaa 2,zaa 6,zaa 7,Uaa 8] [(2,yab),(14,Uab),(16,Xab)])]⟩,(lx 4 2 [zaa 0,Uaa 2,zaa 6,zaa 7,Uaa 8] [(2,yab),(14,Uab),(16,Xab)] 14)]⟩
def iF:Ctr:=⟨19,57,[.ptr ⟨2,0,[]⟩ [0],.agg uab,shU I64],[(2,yab)],[⟨Xab,[.agg 2],[(2,yab)]⟩],ap5 dF⟩
theorem kW:Lk 6 iF:=ls p9 (aC kY (aC ek (aC kV (aC ix aN))))
def ie(a0:Int) (a1:Int) (a2:Int) (a3:Int) (a4:Int) (a5:Int) (a6:Int) (a7:LDCn):Option (Bool×Unit):=
bif (a0==0) then (bif (a1==0) then (bif (a2==0) then (bif (a3==0) then (bif (a4==0) then (bif (a5==0) then (bif (a6==0) then (let x0:Int:=(bf a7.length);
some ((x0==0),())) else
some (false,())) else
some (false,())) else
some (false,())) else
some (false,())) else
some (false,())) else
some (false,())) else
some (false,())
def qb:X.Cfg:=⟨E0,[],[],[]⟩
def ld:Ctr:=⟨49,58,[.agg Uac],[],[⟨zab,[.one],[]⟩],ap8 ie⟩
theorem pV:Lk 1 ld:=ls qb aN
def dA(a0:List LDCn) (a1:LDTs) (a2:Int) (a3:Int) (a4:LDCn) (a5:Int) (a6:Int) (a7:Int) (a8:Int) (a9:Int) (a10:Int) (a11:Int) (a12:LDCn):Option (LLCn×LDTs×Int×Unit):=
(dB a0 a1 a2 a3).bind λ(x0,x1,x2,x3,x4,x5,x6,x7,x8,x9,ac,ae,_)=>
bif (ae != 0) then (some ([],[],ae,())) else
(let af:=bf a4.length;
let ag:=bf x2.length;
bif (af != ag) then (some (true,a0,a1,a2,a3,a4,a5,a6,a7,a8,a9,a10,a11,a12,(),(),())) else
bif (a2 != (-1)) then ((ie a5 a6 a7 a8 a9 a10 a11 a12).bind λ(ah,_)=>
some ((!ah),a0,a1,a2,a3,a4,a5,a6,a7,a8,a9,a10,a11,a12,(),(),())) else
some (false,a0,a1,a2,a3,a4,a5,a6,a7,a8,a9,a10,a11,a12,(),(),()):Option (Bool×LLCn×LDTs×Int×Int×LDCn×Int×Int×Int×Int×Int×Int×Int×LDCn×Unit×Unit×Unit)).bind λ(af,ag,ah,aj,ak,am,an,ap,aq,au,av,aw,ax,ay,az,aA,_)=>
bif af then (some ([],[],5,())) else
(eH ag ah).bind λ(aB,aD,_)=>
bif (aj==(-1)) then ((ct an ap aq au av aw ax ay).bind λ(aE,aF,aG,aH,aI,aJ,aK,aL,_)=>
(eO ak).bind λaM=>
(cT aD aM).bind λaO=>
(cT aD aM).bind λaP=>
let aQ:=(List.modify aD aM λe=>(aE,(aF,(aG,(aH,(aI,(aJ,(aK,aL))))))));
some (aB,aQ,0,())) else
((eO aj).bind λaE=>
(cT aB aE).bind λaF=>
(cT aB aE).bind λaG=>
let aH:=w64 (ak*8);
(cT aB aE).bind λaI=>
(eO aH).bind λaJ=>
bif (g8 aJ aI.length aI.length) then (cT aB aE).bind λaK=>
(cT aB aE).bind λaL=>
bif (g8 aJ (Nat.add aJ (Nat.min am.length (Nat.sub aI.length aJ))) aL.length) then bif (Nat.blt 0 (Nat.min am.length (Nat.sub aI.length aJ))) then (let aM:List LDCn:=(List.modify aB aE λe=>(fu aL aJ (Nat.min am.length (Nat.sub aI.length aJ)) am));
let aO:=(bf (Nat.min am.length (Nat.sub aI.length aJ)));
some (az,aA,aM,aD,())) else
let aM:=(bf (Nat.min am.length (Nat.sub aI.length aJ)));
some (az,aA,aB,aD,()) else none else none:Option (T0b)).bind λ(aE,aF,aG,aH,_)=>
some (aG,aH,0,())
def rA:X.Cfg:=⟨E0,[jt,ld,iH,eB],[],[⟨6,0,qE,[(.normal,qS [zaa 2,zaa 3,zaa 4,Xaa 38] [(6,uab),(8,Xac),(10,Uab)])]⟩,⟨13,1,qE,[(.normal,qS [zaa 4,zaa 8] [(10,Uab),(18,Xab)])]⟩]⟩
def mI:Ctr:=⟨25,59,[.agg uab,.agg Xac],[],[⟨uL [(uaa (uaa KCn)),(uaa pf),I64],[.agg 2,.one],[]⟩],ap13 dA⟩
theorem ro:Lk 4 mI:=ls rA (aC mj (aC pV (aC kY (aC gd aN))))
def cX:T0e->Option (T0e⊕((Bool×Unit)⊕(Int×Bool×T0a))):=λ(v0,v1,v2,v3,v4,_)=>
let x0:=bf v1.length;
bif decide (v0 < x0) then ((eO v0).bind λx1=>
(cT v1 x1).bind λx2=>
(eO v0).bind λx3=>
(cT v3 x3).bind λx4=>
(cG x2 x4).bind λ(x5,_)=>
bif (!x5) then (some (.inr (.inl (false,())))) else
let x6:=w64 (v0+1);
some (.inl (x6,v1,v2,v3,v4,()))) else
some (.inr (.inr (v0,false,v1,v2,v3,v4,())))
def cW:T0e->Option (T0e⊕((Bool×Unit)⊕(Int×Bool×T0a))):=λ(v0,v1,v2,v3,v4,_)=>
let x0:=bf v2.length;
bif decide (v0 < x0) then ((eO v0).bind λx1=>
(cT v2 x1).bind λx2=>
(eO v0).bind λx3=>
(cT v4 x3).bind λx4=>
(dy x2.1 x2.2.1 x2.2.2.1 x2.2.2.2.1 x2.2.2.2.2.1 x2.2.2.2.2.2.1 x2.2.2.2.2.2.2.1 x2.2.2.2.2.2.2.2 x4.1 x4.2.1 x4.2.2.1 x4.2.2.2.1 x4.2.2.2.2.1 x4.2.2.2.2.2.1 x4.2.2.2.2.2.2.1 x4.2.2.2.2.2.2.2).bind λ(x5,_)=>
bif (!x5) then (some (.inr (.inl (false,())))) else
let x6:=w64 (v0+1);
some (.inl (x6,v1,v2,v3,v4,()))) else
some (.inr (.inr (v0,false,v1,v2,v3,v4,())))
def eG(a0:List LDCn) (a1:LDTs) (a2:List LDCn) (a3:LDTs):Option (Bool×Unit):=
let x0:=bf a0.length;
let x1:=bf a2.length;
bif (x0 != x1) then (some (false,())) else
let x2:=bf a1.length;
let x3:=bf a3.length;
bif (x2 != x3) then (some (false,())) else
(match bu cX NN (0,a0,a1,a2,a3,()) with
| none=>none
| some (.inl (x4,_))=>
some (x4,())
| some (.inr (x4,x5,x6))=>
(match bu cW NN (0,x6) with
| none=>none
| some (.inl (ac,_))=>
some (ac,())
| some (.inr (ac,_))=>
some (true,())))
def qc:X.Cfg:=⟨E0,[em,gZ],[],[⟨6,0,qS [zaa 2,zaa 3,Uaa 5] [(6,uab),(8,uab)],[(.ret,qS [Xaa 4] []),(.exit 0,qS [zaa 2,zaa 3,Uaa 5,Xaa 27] [(6,uab),(8,uab)])]⟩,⟨14,1,qS [zaa 2,zaa 3,Uaa 6] [(6,uab),(8,uab)],[(.ret,qS [Xaa 4] []),(.exit 2,qS [zaa 2,zaa 3,Uaa 6,Xaa 46] [(6,uab),(8,uab)])]⟩]⟩
def lf:Ctr:=⟨27,60,[.agg uab,.agg uab],[],[⟨zab,[.one],[]⟩],ap4 eG⟩
theorem pW:Lk 3 lf:=ls qc (aC gy (aC ln aN))
def ch:T0v->Option (T0v⊕(Int×Int×Bool×T0o)):=λ(v0,v1,v2,v3,v4,v5,v6,v7,v8,_)=>
let x0:=bf v4.length;
bif decide (v1 < x0) then ((eO v1).bind λx1=>
(cT v4 x1).bind λx2=>
(cT v4 x1).bind λx3=>
(dB v2 v3 x3.1 x3.2).bind λ(x4,x5,x6,x7,x8,x9,ac,ae,af,ag,ah,aj,_)=>
bif (aj != 0) then (none) else
(dA v5 v6 x4 x5 x6 x7 x8 x9 ac ae af ag ah).bind λ(ak,am,an,_)=>
let ap:=bf v4.length;
(iN v0 ap).bind λ(aq,_)=>
bif (v1 != aq) then ((dA v7 v8 x4 x5 x6 x7 x8 x9 ac ae af ag ah).bind λ(au,av,aw,_)=>
let ax:=w64 (v1+1);
some (.inl (v0,ax,v2,v3,v4,ak,am,au,av,()))) else
let au:=w64 (v1+1);
some (.inl (v0,au,v2,v3,v4,ak,am,v7,v8,()))) else
some (.inr (v0,v1,false,v2,v3,v4,v5,v6,v7,v8,()))
def dC(a0:List (Int)) (a1:Int):Option (Bool×Unit):=
(jx a0).bind λ(x0,_)=>
bif (!x0) then ((co).bind λ(x1,_)=>
some (x1,())) else
(dN a0 0).bind λ(x1,x2,x3,x4,_)=>
(be 6 x3 x4).bind λ(x5,x6,x7,_)=>
(dF x1 x2 x5 x6 x7).bind λ(x8,x9,_)=>
(bI x1 x2 x8 x9).bind λ(af,ag,_)=>
(bI x1 x2 x1 x2).bind λ(ah,aj,_)=>
(bif (ag != 0) then (some (a1,true,x1,x2,x8,x9,af,())) else
bif (aj != 0) then (some (a1,true,x1,x2,x8,x9,af,())) else
let ak:=bf ah.length;
some (a1,(ak != 0),x1,x2,x8,x9,af,()):Option (Int×Bool×LLCn×LDTs×LLCn×LDTs×LDCe×Unit)).bind λ(ak,am,an,ap,aq,au,av,_)=>
bif am then (some (false,())) else
(bu ch NN (ak,0,aq,au,av,an,ap,an,ap,())).bind λ(aw,ax,ay,az,aA,aB,aD,aE,aF,aG,_)=>
(eG aD aE az aA).bind λ(aH,_)=>
bif aH then (let aI:Int:=(bf aB.length);
bif (aI==0) then ((co).bind λ(aJ,_)=>
some (aJ,())) else
(eG aF aG az aA).bind λ(aJ,_)=>
bif (!aJ) then ((co).bind λ(aK,_)=>
some (aK,())) else
some (false,())) else
some (false,())
def jq:X.Cfg:=⟨E0,[pc,gQ,gN,dE,iF,fK,jt,mI,pb,lf],[],[⟨10,0,qE,[(.normal,qS [Uaa 1,zaa 6,zaa 7,Zaa 8 19,Xaa 52] [(14,uab),(16,uab),(19,Zab)])]⟩,(lx 15 1 [Uaa 1,zaa 7,Zaa 8 19,zaa 12,zaa 13,Uaa 14] [(16,uab),(19,Zab),(26,uab),(28,uab)] 58)]⟩
def fJ:Ctr:=⟨5,61,yab,[],[⟨zab,[.one],[]⟩],ap2 dC⟩
theorem k_law27_DirtyCopies:Lk 8 fJ:=ls jq (aC sW (aC jQ (aC jM (aC ek (aC kW (aC iz (aC mj (aC ro (aC sV (aC pW aN))))))))))
def dP(a0:List (Int)):Option (Bool×Unit):=
(jx a0).bind λ(x0,_)=>
bif (!x0) then ((co).bind λ(x1,_)=>
some (x1,())) else
(dN a0 0).bind λ(x1,x2,x3,x4,_)=>
(be 5 x3 x4).bind λ(x5,x6,x7,_)=>
(dF x1 x2 x5 x6 x7).bind λ(x8,x9,ac,ae,_)=>
(be 5 ac ae).bind λ(af,ag,ah,_)=>
(dF x8 x9 af ag ah).bind λ(aj,ak,_)=>
(bI x1 x2 x8 x9).bind λ(ap,aq,_)=>
(bI x8 x9 x1 x2).bind λ(au,av,_)=>
(bI x8 x9 aj ak).bind λ(aw,ax,_)=>
(bI x1 x2 aj ak).bind λ(ay,az,_)=>
(dQ ap aw).bind λ(aA,_)=>
bif (aq==0) then (bif (av==0) then (bif (ax==0) then (bif (az==0) then ((dG ap au).bind λ(aB,_)=>
bif aB then ((dQ aA ay).bind λ(aD,_)=>
(dG aD aA).bind λ(aE,_)=>
bif aE then ((co).bind λ(aF,_)=>
some (aF,())) else
some (false,())) else
some (false,())) else
some (false,())) else
some (false,())) else
some (false,())) else
some (false,())
def jV:X.Cfg:=⟨E0,[pc,gQ,gN,dE,iF,fK,j9,iG],[],[]⟩
def fY:Ctr:=⟨6,62,uL [RI],[],[⟨zab,[.one],[]⟩],ap1 dP⟩
theorem k_law27_DirtySides:Lk 8 fY:=ls jV (aC sW (aC jQ (aC jM (aC ek (aC kW (aC iz (aC oE (aC kX aN))))))))
end
end Go.Proofs.Yteonljfnncdijaa
namespace Go.Proofs.Yteonljfnncdijaa
set_option maxRecDepth 100000
noncomputable section
end
end Go.Proofs.Yteonljfnncdijaa
namespace Go.Proofs.Yteonljfnncdijaa
open Go.RowKit
theorem Cy:(Try.prog.funcs.all λfn=>!(fn.name=="runtime.NumGoroutine"))=true:=by kernel_rfl
theorem ul:f8 Try.prog 17:=by
 obtain⟨fn,hf,hb⟩:∃fn,Try.prog.funcs[17]?=some fn/\fn.body.isSome=true:=by
  have hs:(match Try.prog.funcs[17]? with | some fn=>fn.body.isSome | none=>false)=true:=by kernel_rfl
  cases h:Try.prog.funcs[17]? with
  | none=>rw[h] at hs;cases hs
  | some fn=>rw[h] at hs;exact⟨fn,rfl,hs⟩
 obtain⟨c,hc⟩:=Option.isSome_iff_exists.1 hb;refine iC hf ?_ hc;obtain⟨hlt,he⟩:=Array.getElem?_eq_some_iff.1 hf;have:=Array.all_eq_true.1 Cy 17 hlt;rw[he] at this;simpa using this
def Bk(x:Value) (w:World) (e:Ending) (w':World):Prop:=e=.returned (.pointer (some ⟨w.heap.size,0,none⟩))/\w'=w.alloc (.cells #[x,.int .i64 0] 72)
theorem AP(x:Value) (hx:x.oneCell'=true) (w:World) :
 Calls Try.prog 17 #[x] w (Bk x w):=by
 cases x
 all_goals first
  | (go_enter Try.func17,Try.ntmps17
     go_wp2
     go_ret
     exact⟨rfl,rfl⟩)
  | simp[Value.oneCell'] at hx
theorem e0_ok:xK Try.prog E0:=by
 intro f n tm h;simp only[E0] at h;split at h
 ·rename_i e;subst e
  injection h with h
  injection h with h1 h2
  subst h1 h2;refine⟨ul,λx hx=>?_,72,λl2 w hl ZA=>?_⟩
  ·simp only[List.mem_cons,List.not_mem_nil,or_false] at hx;rcases hx with hx | hx
   ·injection hx
   ·injection hx with hx;rw[hx];rfl
  ·match l2,hl with
   | [x],_=>exact AP x (ZA x (by simp[bxV])) w
 ·simp at h
def Ok{α:Type}(o:Option α) (Q:α->Prop):Prop:=∃a,o=some a/\Q a
section
variable {α β:Type}
theorem Ok.ret{a:α}{Q:α->Prop}(h:Q a):Ok (some a) Q:=⟨a,rfl,h⟩
theorem Ok.bind{o:Option α}{f:α->Option β}{P:α->Prop}{Q:β->Prop}(h:Ok o P) (h2:∀a,P a->Ok (f a) Q):Ok (o.bind f) Q:=by
 obtain⟨a,rfl,h1⟩:=h
 simp_all
theorem Ok.mono{o:Option α}{P Q:α->Prop}(h:Ok o P) (h2:∀a,P a->Q a):Ok o Q:=by
 have ⟨a,e,h1⟩:=h;exact⟨a,e,h2 a h1⟩
theorem Ok.cond{c:Bool}{a b:Option α}{Q:α->Prop}(h1:c=true->Ok a Q) (h2:c=false->Ok b Q):Ok (bif c then a else b) Q:=by
 grind
class BP (b:Bool) (P N:outParam Prop):Prop where
 t:b=true->P
 f:b=false->N
theorem Ok.get{l:List α}{i:Nat}{f:α->Option β}{Q:β->Prop}(h:i < l.length) (h2:∀a,l[i]?=some a->Ok (f a) Q):Ok ((cT l i).bind f) Q:=by
 have e:cT l i=some l[i]:=oGE h
 simp_all
theorem Ok.nat{x:Int}{f:Nat->Option β}{Q:β->Prop}(h:0<=x) (h2:∀n:Nat,x=n->Ok (f n) Q):Ok ((eO x).bind f) Q:=by
 obtain⟨n,rfl⟩:∃n:Nat,x=n:=⟨x.toNat,by omega⟩;exact h2 n rfl
theorem Ok.val{v:α}{f:α->Option β}{Q:β->Prop}(h:∀x,x=v->Ok (f x) Q):Ok (f v) Q:=h v rfl
theorem Bn{c:Bool}{a b:Option α}{Q:α->Prop}(hc:c=true) (h1:Ok a Q):Ok (bif c then a else b) Q:=by simp_all
theorem nn{S T:Type}{f:S->Option (S⊕T)}(P:S->Prop) (R:T->Prop) (m:S->Nat) {n:Nat}{s:S}(hs:P s) (hm:m s < n)
 (h:∀s,P s->Ok (f s) λr=>match r with | .inl s'=>P s'/\m s' < m s | .inr t=>R t):Ok (bu f n s) R:=by
 induction n generalizing s with
 | zero=>omega
 | succ n ih=>
  have ⟨r,e,hr⟩:=h s hs
  cases r with
  | inl s'=>
   have ⟨t,e2,hq⟩:=ih hr.1 (by omega);exact⟨t,by simp[bu,e];exact e2,hq⟩
  | inr t=>exact⟨t,by simp[bu,e],hr⟩
theorem Ok.loop{S T:Type}{f:S->Option (S⊕T)}{g:T->Option β}{Q:β->Prop}(P:S->Prop) (R:T->Prop) (m:S->Nat) {n:Nat}{s:S}(hs:P s) (hm:m s < n)
 (h:∀s,P s->Ok (f s) λr=>match r with | .inl s'=>P s'/\m s' < m s | .inr t=>R t) (hg:∀t,R t->Ok (g t) Q):Ok ((bu f n s).bind g) Q:=(nn P R m hs hm h).bind hg
end
theorem bO{x:Int}(h1:-9223372036854775808<=x) (h2:x<=9223372036854775807):w64 x=x:=sf h1 h2
theorem bA(n:Nat):eO (n:Int)=some n:=rfl
theorem yJ(n:Nat):bf n=(n:Int):=rfl
theorem eA{S T:Type}{f:S->Option (S⊕T)}(st:Nat->S) {n N:Nat}{fin:T}(hn:n < N) (h:∀i,i < n->f (st i)=some (.inl (st (i+1)))) (he:f (st n)=some (.inr fin)):bu f N (st 0)=some fin:=by
 have ZZ:∀k i,i+k=n->k < N->∀M,k < M->bu f M (st i)=some fin:=by
  intro k
  induction k with
  | zero=>
   intro i hi _ M hM;obtain⟨M,rfl⟩:∃m,M=m+1:=⟨M - 1,by omega⟩
   have:i=n:=by omega
   subst this;simp[bu,he]
  | succ k ih=>
   intro i hi hk M hM;obtain⟨M,rfl⟩:∃m,M=m+1:=⟨M - 1,by omega⟩;simp only[bu,h i (by omega),oBS];exact ih (i+1) (by omega) (by omega) M (by omega)
 exact ZZ n 0 (by omega) hn N hn
theorem jK{S T:Type}{f:S->Option (S⊕T)}(st:Nat->S) (p:Nat->Prop) {n N:Nat}{bad:Nat->T}{fin:T}(hn:n < N)
 (h:∀i,i < n->(p i/\f (st i)=some (.inl (st (i+1))))\/(¬ p i/\f (st i)=some (.inr (bad i)))) (he:f (st n)=some (.inr fin)) :
 ((∀i,i < n->p i)/\bu f N (st 0)=some fin)\/∃k,k < n/\(∀i,i < k->p i)/\¬ p k/\bu f N (st 0)=some (bad k):=by
 have ZZ:∀k i,i+k=n->(∀j,j < i->p j)->∀M,k < M->((∀i,i < n->p i)/\bu f M (st i)=some fin)\/∃k,k < n/\(∀i,i < k->p i)/\¬ p k/\bu f M (st i)=some (bad k):=by
  intro k
  induction k with
  | zero=>
   intro i hi hp M hM;obtain⟨M,rfl⟩:∃m,M=m+1:=⟨M - 1,by omega⟩
   have:i=n:=by omega
   subst this;exact .inl ⟨hp,by simp[bu,he]⟩
  | succ k ih=>
   intro i hi hp M hM;obtain⟨M,rfl⟩:∃m,M=m+1:=⟨M - 1,by omega⟩;rcases h i (by omega) with ⟨h1,e⟩ | ⟨h1,e⟩
   ·simp only[bu,e,oBS]
    exact ih (i+1) (by omega) (λj hj=>by
     by_cases e:j=i
     ·subst e;exact h1
     ·exact hp j (by omega)) M (by omega)
   ·exact .inr ⟨i,by omega,hp,h1,by simp[bu,e]⟩
 exact ZZ n 0 (by omega) (λj hj=>by omega) N hn
abbrev Sm{α:Type}(l:List α):Prop:=l.length<=1099511627776
theorem rl{n:Nat}(h:n<=1099511627776):n < NN:=by unfold NN;omega
theorem bT{α:Type}{l:List α}{i:Nat}(h:i < l.length):cT l i=some l[i]:=oGE h
theorem BG(x y:PID):((x.1==y.1) && ((x.2==y.2) && true))=decide (x=y):=by
 rw[Bool.and_true,Bool.eq_iff_iff];simp[Prod.ext_iff]
theorem ly{α:Type}{l:List α}{i:Nat}(h:i < l.length):l.take i++[l[i]]=l.take (i+1):=(List.take_append_getElem h)
theorem vU{a b:List PID}(ha:Sm a) (hb:Sm b):dG a b=some (decide (a=b),()):=by
 unfold dG;simp only[yJ];by_cases hl:a.length=b.length
 rotate_left
 ·have:(((a.length:Int) != (b.length:Int)))=true:=by simp;omega
  rw[this,oCT,oDF λe=>hl (by rw[e])]
 have:(((a.length:Int) != (b.length:Int)))=false:=by simp;omega
 rw[this,oCF]
 have step:∀i,i < a.length->(a[i]?=b[i]?/\bG (a,b,(i:Int),())=some (.inl (a,b,((i+1:Nat):Int),())))\/(¬ a[i]?=b[i]?/\bG (a,b,(i:Int),())=some (.inr (.inl (false,())))):=by
  intro i hi;unfold bG;delta bf
  have ZW:i < b.length:=by omega
  dsimp only;rw[oDT (show (i:Int) < a.length by omega),oCT,bA];simp only[oBS,bT hi,bT ZW,BG];rw[bO (by omega) (by omega)];rw[oGE hi,oGE ZW];by_cases e:a[i]=b[i]
  ·rw[oDT e];exact .inl ⟨by rw[e],rfl⟩
  ·rw[oDF e];exact .inr ⟨λh=>e (by injection h),rfl⟩
 have fin:bG (a,b,(a.length:Int),())=some (.inr (.inr (a,b,(a.length:Int),false,()))):=by
  unfold bG;delta bf;dsimp only;rw[oDF (show ¬ (a.length:Int) < a.length by omega)];rfl
 rcases jK (f:=bG) (λi=>(a,b,(i:Int),())) _ (rl ha) step fin with ⟨h1,h2⟩ | ⟨k,hk,_,h1,h2⟩
 ·simp only[show bu bG NN (a,b,0,())=_ from h2];rw[oDT (p:=a=b)]
  exact List.ext_getElem? λi=>by
   by_cases hi:i < a.length
   ·exact h1 i hi
   ·rw[oGN (by omega),oGN (by omega)]
 ·simp only[show bu bG NN (a,b,0,())=_ from h2];rw[oDF λe=>h1 (by rw[e])]
theorem bK{sz n m:Nat}(h1:n<=1099511627776) (h2:m<=1099511627776) (h3:sz<=128) (h4:n+m<=1099511627776):cz sz n m=true:=by
 unfold cz;have:(n+m)*sz<=1099511627776*128:=Nat.mul_le_mul h4 h3;simp only[oBA,oDE];exact⟨h4,by omega⟩
theorem A3{a:List PID}(h:Sm a):cn a=some (a,()):=by
 unfold cn;rw[bK (by omega) h (by omega) (by have:=h;omega),oCT];rfl
theorem so{a:List PID}(h:Sm a):bS a=some (ga a,()):=oIP h
theorem CJ{a:List PID}(h:a.length+1<=1099511627776) (p r:Int):gG a p r=some (ga (a++[(p,r)]),()):=by
 unfold gG;rw[A3 (show Sm a by unfold Sm;omega),oBS];dsimp only;rw[bK (by omega) (by simp) (by omega) (by simpa using h),oCT];rw[so (show Sm (List.append a [(p,r)]) by unfold Sm;simpa using h)];rfl
theorem wG{a b:List PID}(h:a.length+b.length<=1099511627776):dQ a b=some (ga (a++b),()):=by
 unfold dQ cg
 have e:List.flatten [a,b]=a++b:=by simp
 dsimp only;rw[e,oIP ⟨by rw[List.length_append];exact h,by simp⟩,oBS];dsimp only;rw[so (show Sm (a++b) by unfold Sm;rw[List.length_append];exact h)];rfl
theorem mO:co=some (true,()):=by
 unfold co;dsimp only;rw[CJ (by simp),oBS];dsimp only
 have e:ga ([(0,1),(-1,0)]++[(1,0)])=[(0,1),(1,0),(-1,0)]:=by decide +kernel
 rw[e,vU (by unfold Sm;simp) (by unfold Sm;simp)];rfl
theorem iu{α S T:Type} [DecidableEq α] {a b:List α}(hl:a.length=b.length) (hs:Sm a) {f:S->Option (S⊕T)}(st:Nat->S) {bad fin:T}
 (step:∀i (h:i < a.length) (h':i < b.length),f (st i)=bif decide (a[i]=b[i]) then some (.inl (st (i+1))) else some (.inr bad)) (he:f (st a.length)=some (.inr fin)) :
 bu f NN (st 0)=some (bif decide (a=b) then fin else bad):=by
 rcases jK (f:=f) st (λi=>a[i]?=b[i]?) (bad:=λ_=>bad) (rl hs) (λi hi=>by
  rw[step i hi (hl ▸ hi),oGE hi,oGE (hl ▸ hi)];by_cases e:a[i]=b[i]'(hl ▸ hi)
  ·exact .inl ⟨by rw[e],by rw[oDT e];rfl⟩
  ·exact .inr ⟨λh=>e (by injection h),by rw[oDF e];rfl⟩) he with ⟨h1,h2⟩ | ⟨k,hk,_,h1,h2⟩
 ·rw[h2,oDT (p:=a=b)]
  ·rfl
  ·exact List.ext_getElem? λi=>by
    by_cases hi:i < a.length
    ·exact h1 i hi
    ·rw[oGN (by omega),oGN (by omega)]
 ·rw[h2,oDF λe=>h1 (by rw[e])];rfl
theorem kR{α:Type}{a b:List α}(h:a.length=b.length):((a.length:Int) != (b.length:Int))=false:=by simp;omega
theorem md{α:Type}{a b:List α}(h:¬ a.length=b.length):((a.length:Int) != (b.length:Int))=true:=by simp;omega
theorem BK(x y:Int):(x != y)=!decide (x=y):=by
 by_cases h:x=y
 ·subst h;simp
 ·rw[oDF h,bne_iff_ne.2 h];rfl
theorem j4{α:Type}(b:Bool) (x y:α):(bif !b then x else y)=bif b then y else x:=by cases b<;>rfl
theorem zU(x y:DCn):(!((x.1==y.1) && ((x.2.1==y.2.1) && ((x.2.2.1==y.2.2.1) && ((x.2.2.2==y.2.2.2) && true)))))=!decide (x=y):=by
 congr 1;rw[Bool.and_true,Bool.eq_iff_iff];simp[Prod.ext_iff]
theorem B0{a b:List Int}(ha:Sm a):cS a b=some (decide (a=b),()):=by
 unfold cS;delta bf;dsimp only;by_cases hl:a.length=b.length
 rotate_left
 ·rw[md hl,oCT,oDF λe=>hl (by rw[e])]
 rw[kR hl,oCF];have h0:=ha
 have:=iu (f:=bP) hl ha (λi=>(a,b,(a.length:Int),(i:Int),())) (bad:=.inl (false,())) (fin:=.inr (a,b,(a.length:Int),(a.length:Int),false,()))
  (λi h h'=>by
   unfold bP;dsimp only;rw[oDT (show (i:Int) < a.length by omega),oCT,bA];simp only[oBS,bT h,bT h',BK,j4];rw[bO (by omega) (by omega)]
   rfl)
  (by
   unfold bP;dsimp only;rw[oDF (show ¬ (a.length:Int) < a.length by omega)]
   rfl)
 rw[show bu bP NN (a,b,(a.length:Int),0,())=_ from this];by_cases e:a=b
 ·rw[oDT e];rfl
 ·rw[oDF e];rfl
theorem tk{a b:List DCn}(ha:Sm a):b4 a b=some (decide (a=b),()):=by
 unfold b4;delta bf;dsimp only;by_cases hl:a.length=b.length
 rotate_left
 ·rw[md hl,oCT,oDF λe=>hl (by rw[e])]
 rw[kR hl,oCF];have h0:=ha
 have:=iu (f:=bE) hl ha (λi=>(a,b,(a.length:Int),(i:Int),())) (bad:=.inl (false,())) (fin:=.inr (a,b,(a.length:Int),(a.length:Int),false,()))
  (λi h h'=>by
   unfold bE;dsimp only;rw[oDT (show (i:Int) < a.length by omega),oCT,bA];simp only[oBS,bT h,bT h',zU,j4];rw[bO (by omega) (by omega)]
   rfl)
  (by
   unfold bE;dsimp only;rw[oDF (show ¬ (a.length:Int) < a.length by omega)]
   rfl)
 rw[show bu bE NN (a,b,(a.length:Int),0,())=_ from this];by_cases e:a=b
 ·rw[oDT e];rfl
 ·rw[oDF e];rfl
theorem nF{a b:List DCn}(ha:Sm a):cG a b=some (decide (a=b),()):=by
 unfold cG;delta bf;dsimp only;by_cases hl:a.length=b.length
 rotate_left
 ·rw[md hl,oCT,oDF λe=>hl (by rw[e])]
 rw[kR hl,oCF];have h0:=ha
 have:=iu (f:=b6) hl ha (λi=>(a,b,(i:Int),())) (bad:=.inl (false,())) (fin:=.inr (a,b,(a.length:Int),false,()))
  (λi h h'=>by
   unfold b6;delta bf;dsimp only;rw[oDT (show (i:Int) < a.length by omega),oCT,bA];simp only[oBS,bT h,bT h',zU,j4];rw[bO (by omega) (by omega)]
   rfl)
  (by
   unfold b6;delta bf;dsimp only;rw[oDF (show ¬ (a.length:Int) < a.length by omega)]
   rfl)
 rw[show bu b6 NN (a,b,0,())=_ from this];by_cases e:a=b
 ·rw[oDT e];rfl
 ·rw[oDF e];rfl
abbrev PG:=Int×Int×List DCn×DTs
instance CX:DecidableEq DCn:=inferInstance
instance C5:DecidableEq (Int×Int×Int×List DCn):=inferInstance
instance CU:DecidableEq DTs:=inferInstanceAs (DecidableEq (Int×Int×Int×Int×(Int×Int×Int×List DCn)))
instance CV:DecidableEq PG:=inferInstanceAs (DecidableEq (Int×Int×List DCn×DTs))
theorem qB{x y:Int}{p:Prop} [Decidable p]:(bif (x==y) then (some (decide p,())) else some (false,()):Option (Bool×Unit))=some (decide (x=y/\p),()):=by
 by_cases h:x=y
 ·subst h;simp
 ·rw[oBF h,oDF (p:=x=y/\p) λe=>h e.1];rfl
theorem uQ{p q:Prop} [Decidable p] [Decidable q]:((some (decide p,())).bind λ(x0,_)=>bif x0 then some (decide q,()) else some (false,()):Option (Bool×Unit))=some (decide (p/\q),()):=by
 by_cases h:p<;>by_cases h':q<;>simp[h,h']
theorem uP{x y z w:Int}{p:Prop} [Decidable p]:(bif ((x==y) && ((z==w) && true)) then (some (decide p,())) else some (false,()):Option (Bool×Unit))=some (decide (x=y/\z=w/\p),()):=by
 by_cases h:x=y
 ·subst h;by_cases h:z=w
  ·subst h;simp
  ·rw[oBF h,oDF (p:=x=x/\z=w/\p) λe=>h e.2.1];simp
 ·rw[oBF h,oDF (p:=x=y/\z=w/\p) λe=>h e.1];rfl
theorem qC{o:Option (Bool×Unit)}:(o.bind λ(x0,_)=>some (x0,()))=o:=by
 cases o with
 | none=>rfl
 | some x=>obtain⟨x,⟨⟩⟩:=x;rfl
theorem A2{x y:PG}(hx:Sm x.2.2.1) (hy:Sm x.2.2.2.2.2.2.2.2.2.2) :
 eZ x.1 x.2.1 x.2.2.1 x.2.2.2.1 x.2.2.2.2.1 x.2.2.2.2.2.1 x.2.2.2.2.2.2.1 x.2.2.2.2.2.2.2.1 x.2.2.2.2.2.2.2.2.1 x.2.2.2.2.2.2.2.2.2.1 x.2.2.2.2.2.2.2.2.2.2 y.1 y.2.1 y.2.2.1 y.2.2.2.1 y.2.2.2.2.1 y.2.2.2.2.2.1 y.2.2.2.2.2.2.1 y.2.2.2.2.2.2.2.1 y.2.2.2.2.2.2.2.2.1 y.2.2.2.2.2.2.2.2.2.1 y.2.2.2.2.2.2.2.2.2.2=some (decide (x=y),()):=by
 unfold eZ;simp only[tk hx,tk hy,qC,qB,uQ,uP];congr 2;rw[decide_eq_decide];simp only[Prod.ext_iff,and_assoc]
theorem vQ{x y:DTs}(hx:Sm x.2.2.2.2.2.2.2) :
 dy x.1 x.2.1 x.2.2.1 x.2.2.2.1 x.2.2.2.2.1 x.2.2.2.2.2.1 x.2.2.2.2.2.2.1 x.2.2.2.2.2.2.2 y.1 y.2.1 y.2.2.1 y.2.2.2.1 y.2.2.2.2.1 y.2.2.2.2.2.1 y.2.2.2.2.2.2.1 y.2.2.2.2.2.2.2=some (decide (x=y),()):=by
 unfold dy;simp only[nF hx,qC,qB];congr 2;rw[decide_eq_decide];simp only[Prod.ext_iff,and_assoc]
abbrev CC:=List (List DCn)
abbrev TT':=List DTs
def szs(C:CC):List Int:=C.map λc=>(c.length:Int)
theorem de(C:CC):(szs C).length=C.length:=List.length_map _
theorem ia{α β:Type}{f:α->β}{l:List α}{i:Nat}(h:i < l.length):(l.take i).map f++[f l[i]]=(l.take (i+1)).map f:=by
 rw[<- ly h,List.map_append];rfl
theorem qX{C:CC}{T:TT'}(h:Sm C):c9 C T=some (szs C,()):=by
 unfold c9;delta bf;dsimp only;have h0:=h
 have step:∀i,i < C.length->bY (C,(C.length:Int),(i:Int),C,T,szs (C.take i),())=some (.inl (C,(C.length:Int),((i+1:Nat):Int),C,T,szs (C.take (i+1)),())):=by
  intro i hi;unfold bY;delta bf;dsimp only;rw[oDT (show (i:Int) < C.length by omega),oCT,bA];simp only[oBS,bT hi];rw[bK (by rw[de,oLT];omega) (by simp) (by omega) (by rw[de,oLT,List.length_singleton];omega),oCT,bO (by omega) (by omega)];have:List.append (szs (C.take i)) [((C[i].length:Nat):Int)]=szs (C.take (i+1)):=ia (f:=λc:List DCn=>(c.length:Int)) hi;rw[this];rfl
 have fin:bY (C,(C.length:Int),(C.length:Int),C,T,szs (C.take C.length),())=some (.inr (C,(C.length:Int),(C.length:Int),false,C,T,szs (C.take C.length),())):=by
  unfold bY;dsimp only;rw[oDF (show ¬ (C.length:Int) < C.length by omega)];rfl
 have:=eA (f:=bY) (λi=>(C,(C.length:Int),(i:Int),C,T,szs (C.take i),())) (rl h) step fin;rw[show bu bY NN (C,(C.length:Int),0,C,T,[],())=_ from this,List.take_length,oBS]
theorem Ae{C:CC}{T:TT'}(h:Sm C):eY C T=some (szs C,()):=by
 unfold eY;have h0:=h
 have step:∀i,i < C.length->bW ((i:Int),C,T,szs (C.take i),())=some (.inl (((i+1:Nat):Int),C,T,szs (C.take (i+1)),())):=by
  intro i hi;unfold bW;delta bf;dsimp only;rw[oDT (show (i:Int) < C.length by omega),oCT,bA];simp only[oBS,bT hi];rw[bK (by rw[de,oLT];omega) (by simp) (by omega) (by rw[de,oLT,List.length_singleton];omega),oCT,bO (by omega) (by omega)];have:List.append (szs (C.take i)) [((C[i].length:Nat):Int)]=szs (C.take (i+1)):=ia (f:=λc:List DCn=>(c.length:Int)) hi;rw[this];rfl
 have fin:bW ((C.length:Int),C,T,szs (C.take C.length),())=some (.inr ((C.length:Int),false,C,T,szs (C.take C.length),())):=by
  unfold bW;delta bf;dsimp only;rw[oDF (show ¬ (C.length:Int) < C.length by omega)];rfl
 have:=eA (f:=bW) (λi=>((i:Int),C,T,szs (C.take i),())) (rl h) step fin;rw[show bu bW NN (0,C,T,[],())=_ from this,List.take_length,oBS]
def okZ(z:Int):Bool:=decide (1<=z/\z<=32)
theorem ve(z:Int):dO z=some (okZ z,()):=by
 unfold dO okZ;by_cases h:z>=1
 ·rw[oDT h,oCT];congr 2;rw[decide_eq_decide];omega
 ·rw[oDF h,oCF,oDF (by omega)]
def shp(C:CC) (T:TT'):Prop:=C.length<=4/\T.length<=4/\∀c∈C,okZ (c.length:Int)=true
instance {C:CC} {T:TT'}:Decidable (shp C T):=inferInstanceAs (Decidable (_/\_/\_))
theorem tF{α:Type}{p:α->Bool}{l:List α}(h:∀i,(hi:i < l.length)->p l[i]=true):∀x∈l,p x=true:=by
 intro x hx;obtain⟨i,hi,rfl⟩:=List.mem_iff_getElem.1 hx;exact h i hi
theorem uE{C:CC}(h:Sm C):bF C=some (!decide (∀c∈C,okZ (c.length:Int)=true),()):=by
 unfold bF cF;delta bf;dsimp only;have h0:=h
 have step:∀i,i < C.length->((∀hi:i < C.length,okZ (C[i].length:Int)=true)/\bc (C,(C.length:Int),(i:Int),())=some (.inl (C,(C.length:Int),((i+1:Nat):Int),()))) \/
  (¬ (∀hi:i < C.length,okZ (C[i].length:Int)=true)/\bc (C,(C.length:Int),(i:Int),())=some (.inr (.inl ((i:Int),())))):=by
  intro i hi;unfold bc;dsimp only;rw[oDT (show (i:Int) < C.length by omega),oCT,bA]
  have e:dz C[i]=some (!okZ (C[i].length:Int),()):=by
   unfold dz;delta bf;dsimp only;rw[ve];rfl
  simp only[oBS,bT hi,e];rw[bO (by omega) (by omega)];by_cases q:okZ (C[i].length:Int)=true
  ·exact .inl ⟨λ_=>q,by rw[q];rfl⟩
  ·exact .inr ⟨λg=>q (g hi),by rw[Bool.not_eq_true] at q;rw[q];rfl⟩
 have fin:bc (C,(C.length:Int),(C.length:Int),())=some (.inr (.inr (C,(C.length:Int),(C.length:Int),false,()))):=by
  unfold bc;dsimp only;rw[oDF (show ¬ (C.length:Int) < C.length by omega)];rfl
 rcases jK (f:=bc) (λi=>(C,(C.length:Int),(i:Int),())) _ (rl h) step fin with ⟨h1,h2⟩ | ⟨k,hk,_,h1,h2⟩
 ·rw[show bu bc NN (C,(C.length:Int),0,())=_ from h2];rw[oDT (tF (p:=λc:List DCn=>okZ (c.length:Int)) λi hi=>h1 i hi hi)];rfl
 ·rw[show bu bc NN (C,(C.length:Int),0,())=_ from h2];rw[oDF (λg=>h1 λhi=>g _ (List.getElem_mem hi))];simp only[oBS];rw[oDT (show (k:Int)>=0 by omega)];rfl
theorem yp{C:CC}{T:TT'}(h:Sm C):eq C T=some (decide (shp C T),()):=by
 unfold eq;delta bf;dsimp only;by_cases h1:C.length<=4
 ·rw[oDT (show (C.length:Int)<=4 by omega),oCT];by_cases h2:T.length<=4
  ·rw[oDT (show (T.length:Int)<=4 by omega),oCT,uE h];simp only[oBS,Bool.not_not];congr 2;rw[decide_eq_decide];exact⟨λg=>⟨h1,h2,g⟩,λg=>g.2.2⟩
  ·rw[oDF (show ¬ (T.length:Int)<=4 by omega),oCF,oDF λg=>h2 g.2.1]
 ·rw[oDF (show ¬ (C.length:Int)<=4 by omega),oCF,oDF λg=>h1 g.1]
theorem uD{S:List Int}(h:Sm S) (hok:∀z∈S,okZ z=true):bN S=some (false,()):=by
 unfold bN cP;delta bf;dsimp only;have h0:=h
 have step:∀i,i < S.length->bn (S,(S.length:Int),(i:Int),())=some (.inl (S,(S.length:Int),((i+1:Nat):Int),())):=by
  intro i hi;unfold bn;dsimp only;rw[oDT (show (i:Int) < S.length by omega),oCT,bA]
  have e:eu S[i]=some (false,()):=by
   unfold eu;rw[ve,hok _ (List.getElem_mem hi)];rfl
  simp only[oBS,bT hi,e];rw[bO (by omega) (by omega)];rfl
 have fin:bn (S,(S.length:Int),(S.length:Int),())=some (.inr (.inr (S,(S.length:Int),(S.length:Int),false,()))):=by
  unfold bn;dsimp only;rw[oDF (show ¬ (S.length:Int) < S.length by omega)];rfl
 have:=eA (f:=bn) (λi=>(S,(S.length:Int),(i:Int),())) (rl h) step fin;rw[show bu bn NN (S,(S.length:Int),0,())=_ from this];rfl
theorem A4{S:List Int}{n:Nat}(h:Sm S):∃e:Int,eX S n=some (e,())/\(e=0↔S.length<=4/\n<=4/\∀z∈S,okZ z=true):=by
 unfold eX;delta bf;dsimp only;by_cases h1:S.length<=4
 rotate_left
 ·rw[oDT (show (S.length:Int) > 4 by omega),oCT];exact⟨3,rfl,λg=>absurd g (by decide),λg=>absurd g.1 h1⟩
 rw[oDF (show ¬ (S.length:Int) > 4 by omega),oCF];by_cases h2:n<=4
 rotate_left
 ·rw[oDT (show (n:Int) > 4 by omega),oCT];exact⟨3,rfl,λg=>absurd g (by decide),λg=>absurd g.2.1 h2⟩
 rw[oDF (show ¬ (n:Int) > 4 by omega),oCF];have h0:=h
 have step:∀i,i < S.length->((∀hi:i < S.length,okZ S[i]=true)/\bD (S,(n:Int),(i:Int),())=some (.inl (S,(n:Int),((i+1:Nat):Int),()))) \/
  (¬ (∀hi:i < S.length,okZ S[i]=true)/\bD (S,(n:Int),(i:Int),())=some (.inr (.inl (1,())))):=by
  intro i hi;unfold bD;delta bf;dsimp only;rw[oDT (show (i:Int) < S.length by omega),oCT,bA];simp only[oBS,bT hi];rw[bO (by omega) (by omega)];by_cases q1:S[i] < 1
  ·rw[oDT q1];exact .inr ⟨λg=>by have:=of_decide_eq_true (g hi);omega,rfl⟩
  ·rw[oDF q1,oCF];by_cases q2:S[i] > 32
   ·rw[oDT q2];exact .inr ⟨λg=>by have:=of_decide_eq_true (g hi);omega,rfl⟩
   ·rw[oDF q2,oCF];exact .inl ⟨λ_=>oDT (by omega),rfl⟩
 have fin:bD (S,(n:Int),(S.length:Int),())=some (.inr (.inr (S,(n:Int),(S.length:Int),false,()))):=by
  unfold bD;delta bf;dsimp only;rw[oDF (show ¬ (S.length:Int) < S.length by omega)];rfl
 rcases jK (f:=bD) (λi=>(S,(n:Int),(i:Int),())) _ (rl h) step fin with ⟨g1,g2⟩ | ⟨k,hk,_,g1,g2⟩
 ·rw[show bu bD NN (S,(n:Int),0,())=_ from g2];dsimp only;rw[oDF (show ¬ (n:Int) < 0 by omega)];exact⟨0,rfl,λ_=>⟨h1,h2,tF λi hi=>g1 i hi hi⟩,λ_=>rfl⟩
 ·rw[show bu bD NN (S,(n:Int),0,())=_ from g2];exact⟨1,rfl,λg=>absurd g (by decide),λg=>absurd (λhi=>g.2.2 _ (List.getElem_mem hi)) g1⟩
theorem of{C:CC}{T:TT'}:((szs C).length<=4/\T.length<=4/\∀z∈szs C,okZ z=true)↔shp C T:=by
 unfold shp szs;rw[List.length_map];simp
theorem yq{C:CC}{T:TT'}(h:Sm C):eo C T=some (decide (shp C T),()):=by
 unfold eo;rw[Ae h];obtain⟨e,h1,h2⟩:=A4 (S:=szs C) (n:=T.length) (show Sm (szs C) by unfold Sm;rw[de];exact h);rw[of] at h2;delta bf;simp only[oBS,h1];congr 2;rw[Bool.eq_iff_iff,beq_iff_eq,decide_eq_true_iff];exact h2
def nV(z:Int):Nat:=((z+7) / 8).toNat
def nH(S:List Int) (i:Nat):List PID:=(List.range (nV (S.getD i 0))).map λ(j:Nat)=>((i:Int),(j:Int))
def pgs(S:List Int) (n:Nat):List PID:=(List.range S.length).flatMap (nH S)++(List.range n).map λ(t:Nat)=>(-1,(t:Int))
def Szs(S:List Int):Prop:=S.length<=4/\∀z∈S,okZ z=true
theorem zJ{S:List Int}(h:Szs S) {i:Nat}(hi:i < S.length):1<=S[i]/\S[i]<=32:=of_decide_eq_true (h.2 _ (List.getElem_mem hi))
theorem zT{S:List Int}(h:Szs S) {i:Nat}(hi:i < S.length):nV (S.getD i 0)<=4:=by
 have:=zJ h hi
 have e:S.getD i 0=S[i]:=by simp[hi]
 rw[e];unfold nV;omega
theorem oq{S:List Int}(h:Szs S):∀i,i<=S.length->((List.range i).flatMap (nH S)).length<=4*i:=by
 intro i
 induction i with
 | zero=>intro _;simp
 | succ i ih=>
  intro hi;rw[List.range_succ,List.flatMap_append,List.length_append];have h1:=ih (by omega)
  have h2:(nH S i).length=nV (S.getD i 0):=by unfold nH;simp
  have h3:=zT h (i:=i) (by omega);simp only[List.flatMap_cons,List.flatMap_nil,List.append_nil];omega
theorem w7{S:List Int}(i:Nat):(List.range (i+1)).flatMap (nH S)=(List.range i).flatMap (nH S)++nH S i:=by
 rw[List.range_succ,List.flatMap_append];simp
theorem nI{α:Type}(f:Nat->α) (j:Nat):(List.range (j+1)).map f=(List.range j).map f++[f j]:=by
 rw[List.range_succ,List.map_append];rfl
theorem zO{z:Int}(h:1<=z/\z<=32) (j:Nat):((j:Int)*8 < z)↔j < nV z:=by
 unfold nV;omega
theorem BN{S:List Int}{n:Nat}(h:Szs S) (hn:n<=4):fO S n=some (pgs S n,0,()):=by
 unfold fO;delta bf;dsimp only;have h4:=h.1;rw[oDF (show ¬ (S.length:Int) > 4 by omega),oCF,oDF (show ¬ (n:Int) > 4 by omega),oCF,oDF (show ¬ (n:Int) < 0 by omega),oCF];rw[uD (by unfold Sm;omega) h.2,oBS];simp only[oCF]
 have U8:∀i,i < S.length->cc ((n:Int),S,(S.length:Int),(i:Int),(List.range i).flatMap (nH S),())=some (.inl ((n:Int),S,(S.length:Int),((i+1:Nat):Int),(List.range (i+1)).flatMap (nH S),())):=by
  intro i hi;have hz:=zJ h hi;have hl:=oq h i (by omega);have hc:=zT h hi
  have eg:S.getD i 0=S[i]:=by simp[hi]
  unfold cc;dsimp only;rw[oDT (show (i:Int) < S.length by omega),oCT,bA];simp only[oBS,bT hi]
  let A:=(List.range i).flatMap (nH S)
  let st:Nat->_:=λj=>((n:Int),(i:Int),S[i],(j:Int),S,(S.length:Int),(i:Int),A++(List.range j).map (λ(j:Nat)=>(((i:Int),(j:Int)):PID)),())
  have U7:∀j,j < nV S[i]->bR (st j)=some (.inl (st (j+1))):=by
   intro j hj;show bR ((n:Int),(i:Int),S[i],(j:Int),S,(S.length:Int),(i:Int),A++(List.range j).map (λ(j:Nat)=>(((i:Int),(j:Int)):PID)),())=_;unfold bR;dsimp only;rw[eg] at hc;rw[bO (x:=(j:Int)*8) (by omega) (by omega),oDT ((zO hz j).2 hj),oCT];have hA:A.length<=4*i:=hl;rw[bK (by rw[List.length_append,List.length_map,List.length_range];omega) (by simp) (by omega) (by rw[List.length_append,List.length_map,List.length_range,List.length_singleton];omega),oCT,bO (by omega) (by omega)]
   have e:List.append (A++(List.range j).map (λ(j:Nat)=>(((i:Int),(j:Int)):PID))) [((i:Int),(j:Int))]=A++(List.range (j+1)).map (λ(j:Nat)=>(((i:Int),(j:Int)):PID)):=by
    rw[nI,<- List.append_assoc];rfl
   rw[e];rfl
  have R7:bR (st (nV S[i]))=some (.inr ((n:Int),(i:Int),S[i],(nV S[i]:Int),S,(S.length:Int),(i:Int),false,A++(List.range (nV S[i])).map (λ(j:Nat)=>(((i:Int),(j:Int)):PID)),())):=by
   show bR ((n:Int),(i:Int),S[i],(nV S[i]:Int),S,(S.length:Int),(i:Int),A++(List.range (nV S[i])).map (λ(j:Nat)=>(((i:Int),(j:Int)):PID)),())=_;unfold bR;dsimp only;rw[eg] at hc;rw[bO (x:=(nV S[i]:Int)*8) (by omega) (by omega),oDF (λg=>by have:=(zO hz _).1 g;omega)];rfl
  have hI:=eA (f:=bR) st (n:=nV S[i]) (N:=NN) (by rw[eg] at hc;unfold NN;omega) U7 R7
  have e0:st 0=((n:Int),(i:Int),S[i],0,S,(S.length:Int),(i:Int),(List.range i).flatMap (nH S),()):=by
   show ((n:Int),(i:Int),S[i],(0:Int),S,(S.length:Int),(i:Int),A++[],())=_;rw[List.append_nil]
  rw[<- e0,hI];simp only[oBS];rw[bO (by omega) (by omega),w7]
  have er:(List.range (nV S[i])).map (λ(j:Nat)=>(((i:Int),(j:Int)):PID))=nH S i:=by unfold nH;rw[eg]
  rw[er];rfl
 have R8:cc ((n:Int),S,(S.length:Int),(S.length:Int),(List.range S.length).flatMap (nH S),())=some (.inr ((n:Int),S,(S.length:Int),(S.length:Int),false,(List.range S.length).flatMap (nH S),())):=by
  unfold cc;dsimp only;rw[oDF (show ¬ (S.length:Int) < S.length by omega)];rfl
 have hO:=eA (f:=cc) (λi=>((n:Int),S,(S.length:Int),(i:Int),(List.range i).flatMap (nH S),())) (n:=S.length) (N:=NN) (by unfold NN;omega) U8 R8;rw[show bu cc NN ((n:Int),S,(S.length:Int),0,[],())=_ from hO];simp only[oBS];have hl:=oq h S.length (Nat.le_refl _)
 let B:=(List.range S.length).flatMap (nH S)
 have hB:B.length<=4*S.length:=hl
 let st:Nat->_:=λt=>((n:Int),(t:Int),B++(List.range t).map (λ(t:Nat)=>((-1,(t:Int)):PID)),())
 have U9:∀t,t < n->bQ (st t)=some (.inl (st (t+1))):=by
  intro t ht;show bQ ((n:Int),(t:Int),B++(List.range t).map (λ(t:Nat)=>((-1,(t:Int)):PID)),())=_;unfold bQ;dsimp only;rw[oDT (show (t:Int) < n by omega),oCT];rw[bK (by rw[List.length_append,List.length_map,List.length_range];omega) (by simp) (by omega) (by rw[List.length_append,List.length_map,List.length_range,List.length_singleton];omega),oCT,bO (by omega) (by omega)]
  have e:List.append (B++(List.range t).map (λ(t:Nat)=>((-1,(t:Int)):PID))) [(-1,(t:Int))]=B++(List.range (t+1)).map (λ(t:Nat)=>((-1,(t:Int)):PID)):=by
   rw[nI,<- List.append_assoc];rfl
  rw[e];rfl
 have R9:bQ (st n)=some (.inr ((n:Int),(n:Int),false,B++(List.range n).map (λ(t:Nat)=>((-1,(t:Int)):PID)),())):=by
  show bQ ((n:Int),(n:Int),B++(List.range n).map (λ(t:Nat)=>((-1,(t:Int)):PID)),())=_;unfold bQ;dsimp only;rw[oDF (show ¬ (n:Int) < n by omega)];rfl
 have hT:=eA (f:=bQ) st (n:=n) (N:=NN) (by unfold NN;omega) U9 R9
 have e0:st 0=((n:Int),0,B,()):=by
  show ((n:Int),(0:Int),B++[],())=_;rw[List.append_nil]
 rw[e0] at hT;rw[hT];rfl
abbrev zTs:DTs:=(0,0,0,0,0,0,0,[])
def pg(C:CC) (T:TT') (p:PID):PG:=if p.1=-1 then (p.1,p.2,[],T.getD p.2.toNat zTs) else (p.1,p.2,((C.getD p.1.toNat []).drop (8*p.2.toNat)).take 8,zTs)
def SmT(T:TT'):Prop:=∀t∈T,Sm t.2.2.2.2.2.2.2
theorem oy{S:List Int}{i:Nat}{p:PID}:p∈nH S i↔∃j:Nat,j < nV (S.getD i 0)/\p=((i:Int),(j:Int)):=by
 unfold nH;simp only[List.mem_map,List.mem_range];exact⟨λ⟨j,h,e⟩=>⟨j,h,e.symm⟩,λ⟨j,h,e⟩=>⟨j,h,e.symm⟩⟩
theorem ir{S:List Int}{n:Nat}{p:PID}:p∈pgs S n↔(∃i j:Nat,i < S.length/\j < nV (S.getD i 0)/\p=((i:Int),(j:Int)))\/∃t:Nat,t < n/\p=(-1,(t:Int)):=by
 unfold pgs;simp only[List.mem_append,List.mem_flatMap,List.mem_range,oy,List.mem_map];constructor
 ·rintro (⟨i,hi,j,hj,e⟩ | ⟨t,ht,e⟩)
  ·exact .inl ⟨i,j,hi,hj,e⟩
  ·exact .inr ⟨t,ht,e.symm⟩
 ·rintro (⟨i,j,hi,hj,e⟩ | ⟨t,ht,e⟩)
  ·exact .inl ⟨i,hi,j,hj,e⟩
  ·exact .inr ⟨t,ht,e.symm⟩
theorem ri{S:List Int}{n:Nat}(h:Szs S) (hn:n<=4):(pgs S n).length<=20:=by
 have h1:=oq h S.length (Nat.le_refl _);have h2:=h.1;unfold pgs;rw[List.length_append,List.length_map,List.length_range];omega
theorem sI{C:CC}{T:TT'}(h:shp C T):Szs (szs C):=⟨by rw[de];exact h.1,(of.2 h).2.2⟩
theorem xo{a:List DCn}(h:Sm a):b5 a=some (a,()):=by
 unfold b5;rw[bK (by omega) h (by omega) (by have:=h;omega),oCT];rfl
theorem gI{C:CC}{i:Nat}(h:i < C.length):(szs C).getD i 0=(C[i].length:Int):=by simp[szs,h]
theorem zF{l:List DCn}{a:Nat}(h:a<=l.length):By l a (Nat.sub (Nat.min (a+8) l.length) a)=(l.drop a).take 8:=by
 unfold By;rcases Nat.le_total (a+8) l.length with h1 | h1
 ·rw[show Nat.min (a+8) l.length=a+8 from Nat.min_eq_left h1,show Nat.sub (a+8) a=8 by show a+8 - a=8;omega]
 ·rw[show Nat.min (a+8) l.length=l.length from Nat.min_eq_right h1,show Nat.sub l.length a=(l.drop a).length by rw[List.length_drop];rfl,List.take_length,List.take_of_length_le (by rw[List.length_drop];omega)]
theorem wF(a b:Nat):mmR false (a:Int) (b:Int)=(Nat.min a b:Nat):=by
 unfold mmR;simp only[Bool.false_eq_true,if_false];show _=((min a b:Nat):Int);split<;>omega
theorem sS{c:List DCn}{j:Nat}(h:j < nV (c.length:Int)):8*j < c.length:=by
 unfold nV at h;omega
theorem iq{C:CC}{T:TT'}{i j:Nat}(hi:i < C.length):pg C T ((i:Int),(j:Int))=((i:Int),(j:Int),((C[i].drop (8*j)).take 8),zTs):=by
 unfold pg;rw[oIN (by simp)];simp[hi]
theorem cY{C:CC}{T:TT'}{t:Nat}(ht:t < T.length):pg C T (-1,(t:Int))=(-1,(t:Int),[],T[t]):=by
 unfold pg;rw[oIP rfl];simp[ht]
def BW(x:PG):Int×Int×List DCn×Int×Int×Int×Int×Int×Int×Int×List DCn×Unit:=(x.1,x.2.1,x.2.2.1,x.2.2.2.1,x.2.2.2.2.1,x.2.2.2.2.2.1,x.2.2.2.2.2.2.1,x.2.2.2.2.2.2.2.1,x.2.2.2.2.2.2.2.2.1,x.2.2.2.2.2.2.2.2.2.1,x.2.2.2.2.2.2.2.2.2.2,())
theorem CE{C:CC}{T:TT'}(h:shp C T) (hT:SmT T) {p:PID}(hp:p∈pgs (szs C) T.length):fr C T p.1 p.2=some (BW (pg C T p)):=by
 unfold fr;rcases ir.1 hp with ⟨i,j,hi,hj,rfl⟩ | ⟨t,ht,rfl⟩
 ·rw[de] at hi;rw[gI hi] at hj;have ZY:=sS hj;have hok:=of_decide_eq_true (h.2.2 _ (List.getElem_mem hi));rw[oBF (show ((i:Int))≠-1 by omega),oCF,bA];simp only[oBS,bT hi];unfold ig;delta bf;dsimp only;rw[oDF (show ¬ (j:Int) < 0 by omega),oCF,oDF (show ¬ (j:Int) > 32 by omega),oCF];simp only[oBS];rw[bO (x:=(j:Int)*8) (by omega) (by omega),oDF (show ¬ (j:Int)*8>=(C[i].length:Int) by omega),oCF,bO (x:=(j:Int)*8+8) (by omega) (by omega)];rw[show (j:Int)*8=((8*j:Nat):Int) by omega,show ((8*j:Nat):Int)+8=((8*j+8:Nat):Int) by omega,wF,bA,bA];simp only[oBS]
  have ho:g8 (8*j) (Nat.min (8*j+8) C[i].length) C[i].length=true:=by
   unfold g8;have h1:Nat.min (8*j+8) C[i].length=min (8*j+8) C[i].length:=rfl;rw[h1];simp only[oBA,oDE];omega
  rw[ho,oCT,zF (by omega)];simp only[oBS];rw[xo (by unfold Sm;rw[oLT];omega),iq hi];rfl
 ·have hs:Sm (T[t]'ht).2.2.2.2.2.2.2:=hT _ (List.getElem_mem ht);rw[show ((-1:Int)==-1)=true from rfl,oCT,bA];simp only[oBS,bT ht];unfold gH;rw[xo hs,cY ht];rfl
theorem AZ{C:CC}{T:TT'}(h:shp C T) (hT:SmT T) {p:PID}(hp:p∈pgs (szs C) T.length):dB C T p.1 p.2=some ((pg C T p).1,(pg C T p).2.1,(pg C T p).2.2.1,(pg C T p).2.2.2.1,(pg C T p).2.2.2.2.1,(pg C T p).2.2.2.2.2.1,(pg C T p).2.2.2.2.2.2.1,(pg C T p).2.2.2.2.2.2.2.1,(pg C T p).2.2.2.2.2.2.2.2.1,(pg C T p).2.2.2.2.2.2.2.2.2.1,(pg C T p).2.2.2.2.2.2.2.2.2.2,0,()):=by
 unfold dB;have h4:=h.1;rw[yq (by unfold Sm;omega),oBS];dsimp only;rw[oDT h];simp only[oNT,oCF];rcases ir.1 hp with ⟨i,j,hi,hj,rfl⟩ | ⟨t,ht,rfl⟩
 ·rw[de] at hi;rw[gI hi] at hj;have ZY:=sS hj;have hok:=of_decide_eq_true (h.2.2 _ (List.getElem_mem hi));rw[oBF (show ((i:Int))≠-1 by omega),oCF];delta bf;dsimp only;rw[oDF (show ¬ (i:Int) < 0 by omega),oCF,oDF (show ¬ (i:Int)>=C.length by omega),oCF,oDF (show ¬ (j:Int) < 0 by omega),oCF,oDF (show ¬ (j:Int) > 32 by omega),oCF];rw[bA];simp only[oBS,bT hi];rw[bO (x:=(j:Int)*8) (by omega) (by omega),oDF (show ¬ (j:Int)*8>=(C[i].length:Int) by omega),oCF,bA];simp only[oBS,bT hi];rw[bO (x:=(j:Int)*8+8) (by omega) (by omega)];rw[show (j:Int)*8=((8*j:Nat):Int) by omega,show ((8*j:Nat):Int)+8=((8*j+8:Nat):Int) by omega,wF,bA,bA];simp only[oBS]
  have ho:g8 (8*j) (Nat.min (8*j+8) C[i].length) C[i].length=true:=by
   unfold g8;have h1:Nat.min (8*j+8) C[i].length=min (8*j+8) C[i].length:=rfl;rw[h1];simp only[oBA,oDE];omega
  rw[ho,oCT,zF (by omega),bK (by omega) (by rw[oLT];omega) (by omega) (by rw[oLT];omega),oCT,iq hi];rfl
 ·have hs:Sm (T[t]'ht).2.2.2.2.2.2.2:=hT _ (List.getElem_mem ht);rw[show ((-1:Int)==-1)=true from rfl,oCT];delta bf;dsimp only;rw[oDF (show ¬ (t:Int) < 0 by omega),oCF,oDF (show ¬ (t:Int)>=T.length by omega),oCF,bA];simp only[oBS,bT ht];unfold ct;rw[bK (by omega) hs (by omega) (by have:=hs;omega),oCT,cY ht];rfl
theorem B9{C:CC}{T:TT'}(h:shp C T) (hT:SmT T):ft C T=some ((pgs (szs C) T.length).map (pg C T),0,()):=by
 unfold ft;have h4:=h.1
 have hS:Sm C:=by unfold Sm;omega
 rw[yp hS,oBS];dsimp only;rw[oDT h];simp only[oNT,oCF];rw[qX hS,oBS];delta bf;dsimp only;rw[BN (sI h) h.2.1,oBS];dsimp only;have hlen:=ri (sI h) h.2.1;have hg:∀p∈pgs (szs C) T.length,fr C T p.1 p.2=some (BW (pg C T p)):=λp hp=>CE h hT hp;generalize pgs (szs C) T.length=ps at hlen hg ⊢
 have step:∀i,i < ps.length->cu ((ps.length:Int),(i:Int),C,T,ps,(ps.take i).map (pg C T),())=some (.inl ((ps.length:Int),((i+1:Nat):Int),C,T,ps,(ps.take (i+1)).map (pg C T),())):=by
  intro i hi;unfold cu;dsimp only;rw[oDT (show (i:Int) < ps.length by omega),oCT,bA];simp only[oBS,bT hi,hg _ (List.getElem_mem hi)];rw[bK (by rw[List.length_map,oLT];omega) (by simp) (by omega) (by rw[List.length_map,oLT,List.length_singleton];omega),oCT,bO (by omega) (by omega),<- ia hi];rfl
 have fin:cu ((ps.length:Int),(ps.length:Int),C,T,ps,(ps.take ps.length).map (pg C T),())=some (.inr ((ps.length:Int),(ps.length:Int),false,C,T,ps,(ps.take ps.length).map (pg C T),())):=by
  unfold cu;dsimp only;rw[oDF (show ¬ (ps.length:Int) < ps.length by omega)];rfl
 have:=eA (f:=cu) (λi=>((ps.length:Int),(i:Int),C,T,ps,(ps.take i).map (pg C T),())) (n:=ps.length) (N:=NN) (by unfold NN;omega) step fin;rw[show bu cu NN ((ps.length:Int),0,C,T,ps,[],())=_ from this,List.take_length];rfl
def Be(C:CC) (T:TT') (D:CC) (U:TT'):Prop:=shp C T/\shp D U/\szs C=szs D/\T.length=U.length
def dif(C:CC) (T:TT') (D:CC) (U:TT'):List PID:=(pgs (szs C) T.length).filter λp=>!decide (pg C T p=pg D U p)
theorem qT{α:Type}{q:α->Bool}{l:List α}{i:Nat}(h:i < l.length):(l.take (i+1)).filter q=(l.take i).filter q++bif q l[i] then [l[i]] else []:=by
 rw[<- ly h,List.filter_append];congr 1
theorem Cx{C:CC}{T:TT'}(p:PID):((pg C T p).1,(pg C T p).2.1)=p:=by
 unfold pg;split<;>rfl
theorem Cu{C:CC}{T:TT'}(h:shp C T) (hT:SmT T) {p:PID}(hp:p∈pgs (szs C) T.length):Sm (pg C T p).2.2.1/\Sm (pg C T p).2.2.2.2.2.2.2.2.2.2:=by
 rcases ir.1 hp with ⟨i,j,hi,hj,rfl⟩ | ⟨t,ht,rfl⟩
 ·rw[de] at hi;rw[iq hi];exact⟨by unfold Sm;rw[oLT];omega,by unfold Sm;simp⟩
 ·rw[cY ht];exact⟨by unfold Sm;simp,hT _ (List.getElem_mem ht)⟩
theorem oV{C:CC}{T:TT'}{D:CC}{U:TT'}(h:shp C T):(dif C T D U).length<=20:=Nat.le_trans (List.length_filter_le _ _) (ri (sI h) h.2.1)
theorem gB{C:CC}{T:TT'}{D:CC}{U:TT'}(h:Be C T D U) (hT:SmT T) (hU:SmT U):bI C T D U=some (dif C T D U,0,()):=by
 unfold bI;obtain⟨h1,h2,h3,h4⟩:=h;have k1:=h1.1;have k2:=h2.1
 have hC:Sm C:=by unfold Sm;omega
 have hD:Sm D:=by unfold Sm;omega
 rw[B9 h1 hT,oBS];dsimp only;rw[B9 h2 hU,oBS];dsimp only;simp only[bne_self_eq_false,oCF];rw[qX hC,oBS];dsimp only;rw[qX hD,oBS];dsimp only;rw[B0 (by unfold Sm;rw[de];omega),oBS,oDT h3];delta bf;simp only[oNT,oCF,oBS];rw[kR h4,oCF,<- h3,<- h4];unfold dif;have hlen:=ri (sI h1) h1.2.1;have hm:∀p∈pgs (szs C) T.length,Sm (pg C T p).2.2.1/\Sm (pg C T p).2.2.2.2.2.2.2.2.2.2:=λp hp=>Cu h1 hT hp;generalize pgs (szs C) T.length=ps at hlen hm ⊢;rw[List.length_map]
 have step:∀i,i < ps.length->bH ((ps.length:Int),(i:Int),ps.map (pg C T),ps.map (pg D U),(ps.take i).filter (λp=>!decide (pg C T p=pg D U p)),()) =
  some (.inl ((ps.length:Int),((i+1:Nat):Int),ps.map (pg C T),ps.map (pg D U),(ps.take (i+1)).filter (λp=>!decide (pg C T p=pg D U p)),())):=by
  intro i hi
  have VL:i < (ps.map (pg C T)).length:=by rw[List.length_map];exact hi
  have hi2:i < (ps.map (pg D U)).length:=by rw[List.length_map];exact hi
  obtain⟨m1,m2⟩:=hm _ (List.getElem_mem hi);unfold bH;dsimp only;rw[oDT (show (i:Int) < ps.length by omega),oCT,bA];simp only[oBS,bT VL,bT hi2,List.getElem_map];rw[A2 m1 m2];simp only[oBS];rw[qT hi];by_cases e:pg C T ps[i]=pg D U ps[i]
  ·rw[oDT e];simp only[oNT,oCF,oBS,List.append_nil];rw[bO (by omega) (by omega)];rfl
  ·rw[oDF e];simp only[Bool.not_false,oCT,oBS];have hf:=List.length_filter_le (λp=>!decide (pg C T p=pg D U p)) (ps.take i);rw[oLT] at hf;rw[bK (Nat.le_trans hf (by omega)) (by simp) (by omega) (Nat.le_trans (Nat.add_le_add_right hf _) (by rw[List.length_singleton];omega)),oCT,Cx];simp only[oBS];rw[bO (by omega) (by omega)];rfl
 have fin:bH ((ps.length:Int),(ps.length:Int),ps.map (pg C T),ps.map (pg D U),(ps.take ps.length).filter (λp=>!decide (pg C T p=pg D U p)),()) =
  some (.inr ((ps.length:Int),(ps.length:Int),false,ps.map (pg C T),ps.map (pg D U),(ps.take ps.length).filter (λp=>!decide (pg C T p=pg D U p)),())):=by
  unfold bH;dsimp only;rw[oDF (show ¬ (ps.length:Int) < ps.length by omega)];rfl
 have:=eA (f:=bH) (λi=>((ps.length:Int),(i:Int),ps.map (pg C T),ps.map (pg D U),(ps.take i).filter (λp=>!decide (pg C T p=pg D U p)),())) (n:=ps.length) (N:=NN) (by unfold NN;omega) step fin;rw[show bu bH NN ((ps.length:Int),0,ps.map (pg C T),ps.map (pg D U),[],())=_ from this,List.take_length];rfl
theorem BM{x n:Int}(hn:0 < n) (S3:n<=1099511627776):∃y,iN x n=some (y,())/\0<=y/\y < n:=by
 unfold iN jm;rw[bne_iff_ne.2 (show n≠0 by omega),oCT];have h1:=Int.lt_tmod_of_pos x hn;have h2:=Int.tmod_lt_of_pos x hn;dsimp only;by_cases h:Int.tmod x n < 0
 ·rw[oDT h,oCT,bO (by omega) (by omega)];exact⟨_,rfl,by omega,by omega⟩
 ·rw[oDF h,oCF];exact⟨_,rfl,by omega,by omega⟩
theorem dm{n:Int}(hn:0 < n) (S3:n<=1099511627776) {l:List Int}(hl:l.length<=400) {k:Int}(hk:0<=k):∃x k',be n l k=some (x,l,k',())/\0<=x/\x < n/\0<=k':=by
 unfold be;delta bf;dsimp only;by_cases h:k>=l.length
 ·rw[oDT h,oCT];exact⟨0,k,rfl,by omega,hn,hk⟩
 ·rw[oDF h,oCF,bO (x:=k+1) (by omega) (by omega),bO (by omega) (by omega)];obtain⟨i,rfl⟩:∃i:Nat,k=i:=⟨k.toNat,by omega⟩
  have hi:i < l.length:=by omega
  rw[show (i:Int)+1 - 1=i by omega,bA];simp only[oBS,bT hi];obtain⟨y,e,h1,h2⟩:=BM (x:=l[i]) hn S3;rw[e];exact⟨y,(i:Int)+1,rfl,h1,h2,by omega⟩
theorem xt{l:List Int}(hl:l.length<=400) {k:Int}(hk:0<=k):∃(c:DCn) (k':Int),cV l k=some (c.1,c.2.1,c.2.2.1,c.2.2.2,l,k',())/\0<=k':=by
 unfold cV;obtain⟨x,k1,e,_,_,h1⟩:=dm (n:=5) (by omega) (by omega) hl hk;rw[e];simp only[oBS];by_cases h:x=4
 ·rw[beq_iff_eq.2 h,oCT];obtain⟨x2,k2,e,_,_,h2⟩:=dm (n:=3) (by omega) (by omega) hl h1;rw[e];simp only[oBS];obtain⟨x3,k3,e,_,_,h3⟩:=dm (n:=8) (by omega) (by omega) hl h2;rw[e];exact⟨(1,0,x2,x3),k3,rfl,h3⟩
 ·rw[oBF h,oCF];obtain⟨x2,k2,e,_,_,h2⟩:=dm (n:=40) (by omega) (by omega) hl h1;rw[e];exact⟨(0,wk .u16 x2,0,0),k2,rfl,h2⟩
theorem zG{l:List Int}(hl:l.length<=400) {k:Int}(hk:0<=k):∃(v:DTs) (k':Int),eF l k=some (v.1,v.2.1,v.2.2.1,v.2.2.2.1,v.2.2.2.2.1,v.2.2.2.2.2.1,v.2.2.2.2.2.2.1,v.2.2.2.2.2.2.2,l,k',())/\v.2.2.2.2.2.2.2.length<=8/\0<=k':=by
 unfold eF;obtain⟨x1,k1,e,_,_,h1⟩:=dm (n:=5) (by omega) (by omega) hl hk;rw[e];simp only[oBS];obtain⟨x2,k2,e,_,_,h2⟩:=dm (n:=20) (by omega) (by omega) hl h1;rw[e];simp only[oBS];obtain⟨x3,k3,e,_,_,h3⟩:=dm (n:=30) (by omega) (by omega) hl h2;rw[e];simp only[oBS];obtain⟨x4,k4,e,_,_,h4⟩:=dm (n:=4) (by omega) (by omega) hl h3;rw[e];simp only[oBS];obtain⟨x5,k5,e,_,_,h5⟩:=dm (n:=4) (by omega) (by omega) hl h4;rw[e];simp only[oBS];obtain⟨x6,k6,e,_,_,h6⟩:=dm (n:=7) (by omega) (by omega) hl h5;rw[e];simp only[oBS];obtain⟨x7,k7,e,_,_,h7⟩:=dm (n:=9) (by omega) (by omega) hl h6;rw[e];simp only[oBS]
 let st:Int->Int->List DCn->_:=λi k r=>(i,l,k,(0:Int),(0:Int),(0:Int),(0:Int),(0:Int),(0:Int),(0:Int),(),x1,x2,x3,w64 (x4 - 1),w64 (x5 - 1),x6,wk .u16 x7,r,())
 have step:∀(i:Nat) (k:Int) (r:List DCn),0<=k->r.length=i->i < 8->∃(k':Int) (r':List DCn),0<=k'/\r'.length=i+1/\cE (st i k r)=some (.inl (st ((i+1:Nat):Int) k' r')):=by
  intro i k r hk hr hi;show ∃(k':Int) (r':List DCn),0<=k'/\r'.length=i+1/\cE ((i:Int),l,k,0,0,0,0,0,0,0,(),x1,x2,x3,w64 (x4 - 1),w64 (x5 - 1),x6,wk .u16 x7,r,())=_;unfold cE;dsimp only;rw[oDT (show (i:Int) < 8 by omega),oCT];obtain⟨c,k',e,Zb⟩:=xt hl hk;rw[e];simp only[oBS];rw[bK (by omega) (by simp) (by omega) (by rw[List.length_singleton];omega),oCT,bO (by omega) (by omega)];exact⟨k',r++[c],Zb,by rw[List.length_append,List.length_singleton,hr],rfl⟩
 have go:∀j i:Nat,i+j=8->∀(k:Int) (r:List DCn),0<=k->r.length=i->∀N,j < N->∃k' r',0<=k'/\r'.length=8/\bu cE N (st i k r)=some (8,false,l,k',0,0,0,0,0,0,0,(),x1,x2,x3,w64 (x4 - 1),w64 (x5 - 1),x6,wk .u16 x7,r',()):=by
  intro j
  induction j with
  | zero=>
   intro i hi k r hk hr N hN;obtain⟨N,rfl⟩:∃m,N=m+1:=⟨N - 1,by omega⟩;refine⟨k,r,hk,by omega,?_⟩
   obtain rfl:i=8:=by omega
   rfl
  | succ j ih=>
   intro i hi k r hk hr N hN;obtain⟨N,rfl⟩:∃m,N=m+1:=⟨N - 1,by omega⟩;obtain⟨k1,r1,Zf,Z6,e⟩:=step i k r hk hr (by omega);obtain⟨k2,r2,hk2,Xc,e2⟩:=ih (i+1) (by omega) k1 r1 Zf Z6 N (by omega);refine⟨k2,r2,hk2,Xc,?_⟩;simp only[bu,e,oBS];exact e2
 obtain⟨k8,r,Qc,hr,e⟩:=go 8 0 rfl k7 [] h7 rfl NN (by unfold NN;omega);rw[show bu cE NN (0,l,k7,0,0,0,0,0,0,0,(),x1,x2,x3,w64 (x4 - 1),w64 (x5 - 1),x6,wk .u16 x7,[],())=_ from e];exact⟨(x1,x2,x3,w64 (x4 - 1),w64 (x5 - 1),x6,wk .u16 x7,r),k8,rfl,by show r.length<=8;omega,Qc⟩
def qL(C:CC) (T:TT'):Prop:=1<=C.length/\shp C T/\SmT T
theorem va{l:List Int}(hl:l.length<=400) {k:Int}(hk:0<=k):∃(C:CC) (T:TT') (k':Int),dN l k=some (C,T,l,k',())/\qL C T/\0<=k':=by
 unfold dN;obtain⟨x1,k1,e,a1,b1,h1⟩:=dm (n:=3) (by omega) (by omega) hl hk;rw[e];simp only[oBS]
 have row:∀(j:Nat) (o:Int) (C:CC) (k:Int) (r:List DCn),0<=k->r.length+j<=32->∀N,j < N->∃k' r',0<=k'/\r'.length=r.length+j /\
  bu dx N (o,(j:Int) - 1,l,k,(),(),C,(),r,())=some (o,-1,false,l,k',(),(),C,(),r',()):=by
  intro j o C
  induction j with
  | zero=>
   intro k r hk hr N hN;obtain⟨N,rfl⟩:∃m,N=m+1:=⟨N - 1,by omega⟩;exact⟨k,r,hk,by omega,rfl⟩
  | succ j ih=>
   intro k r hk hr N hN;obtain⟨N,rfl⟩:∃m,N=m+1:=⟨N - 1,by omega⟩;obtain⟨c,k1,e,Zf⟩:=xt hl hk
   have e1:dx (o,((j+1:Nat):Int) - 1,l,k,(),(),C,(),r,())=some (.inl (o,(j:Int) - 1,l,k1,(),(),C,(),r++[c],())):=by
    unfold dx;dsimp only;rw[oDT (show ((j+1:Nat):Int) - 1>=0 by omega),oCT,e];simp only[oBS];rw[bK (by omega) (by simp) (by omega) (by rw[List.length_singleton];omega),oCT,bO (by omega) (by omega),show ((j+1:Nat):Int) - 1 - 1=(j:Int) - 1 by omega];rfl
   obtain⟨k2,r2,hk2,Xc,e2⟩:=ih k1 (r++[c]) Zf (by rw[List.length_append,List.length_singleton];omega) N (by omega);refine⟨k2,r2,hk2,by rw[Xc,List.length_append,List.length_singleton];omega,?_⟩;simp only[bu,e1,oBS];exact e2
 have TD:∀(j:Nat) (C:CC) (k:Int),0<=k->C.length+j<=4->(∀c∈C,okZ (c.length:Int)=true)->∀N,j < N->∃k' C',0<=k'/\C'.length=C.length+j/\(∀c∈C',okZ (c.length:Int)=true) /\
  bu dw N ((j:Int) - 1,l,k,(),(),C,(),())=some (-1,false,l,k',(),(),C',(),()):=by
  intro j
  induction j with
  | zero=>
   intro C k hk hC ho N hN;obtain⟨N,rfl⟩:∃m,N=m+1:=⟨N - 1,by omega⟩;exact⟨k,C,hk,by omega,ho,rfl⟩
  | succ j ih=>
   intro C k hk hC ho N hN;obtain⟨N,rfl⟩:∃m,N=m+1:=⟨N - 1,by omega⟩;obtain⟨y,k1,e,ya,yb,Zf⟩:=dm (n:=24) (by omega) (by omega) hl hk;obtain⟨k2,r,hk2,hr,e2⟩:=row (y.toNat+1) (((j+1:Nat):Int) - 1) C k1 [] Zf (by rw[List.length_nil];omega) NN (by unfold NN;omega);rw[show ((y.toNat+1:Nat):Int) - 1=y by omega] at e2;rw[List.length_nil] at hr
   have e1:dw (((j+1:Nat):Int) - 1,l,k,(),(),C,(),())=some (.inl ((j:Int) - 1,l,k2,(),(),C++[r],(),())):=by
    unfold dw;dsimp only;rw[oDT (show ((j+1:Nat):Int) - 1>=0 by omega),oCT,e];simp only[oBS];rw[e2];simp only[oBS];rw[bK (by omega) (by simp) (by omega) (by rw[List.length_singleton];omega),oCT,bO (by omega) (by omega),show ((j+1:Nat):Int) - 1 - 1=(j:Int) - 1 by omega];rfl
   obtain⟨k3,C3,hk3,PA,TS,e3⟩:=ih (C++[r]) k2 hk2 (by rw[List.length_append,List.length_singleton];omega) (by
    intro c hc;rcases List.mem_append.1 hc with hc | hc
    ·exact ho c hc
    ·rw[List.mem_singleton.1 hc]
     exact oDT (by omega)) N (by omega)
   refine⟨k3,C3,hk3,by rw[PA,List.length_append,List.length_singleton];omega,TS,?_⟩;simp only[bu,e1,oBS];exact e3
 obtain⟨k2,C,hk2,hC,ho,e2⟩:=TD (x1.toNat+1) [] k1 h1 (by rw[List.length_nil];omega) (by simp) NN (by unfold NN;omega);rw[show ((x1.toNat+1:Nat):Int) - 1=x1 by omega] at e2;rw[List.length_nil] at hC;rw[e2];simp only[oBS];obtain⟨x3,k3,e,a3,b3,h3⟩:=dm (n:=4) (by omega) (by omega) hl hk2;rw[e];simp only[oBS]
 have QY:∀(j:Nat) (T:TT') (k:Int),0<=k->T.length+j<=4->SmT T->∀N,j < N->∃k' T',0<=k'/\T'.length=T.length+j/\SmT T' /\
  bu du N ((j:Int),l,k,(),(),C,T,())=some (0,false,l,k',(),(),C,T',()):=by
  intro j
  induction j with
  | zero=>
   intro T k hk hT hs N hN;obtain⟨N,rfl⟩:∃m,N=m+1:=⟨N - 1,by omega⟩;exact⟨k,T,hk,by omega,hs,rfl⟩
  | succ j ih=>
   intro T k hk hT hs N hN;obtain⟨N,rfl⟩:∃m,N=m+1:=⟨N - 1,by omega⟩;obtain⟨v,k1,e,hv,Zf⟩:=zG hl hk
   have e1:du (((j+1:Nat):Int),l,k,(),(),C,T,())=some (.inl ((j:Int),l,k1,(),(),C,T++[v],())):=by
    unfold du;dsimp only;rw[oDT (show ((j+1:Nat):Int) > 0 by omega),oCT,e];simp only[oBS];rw[bK (by omega) (by simp) (by omega) (by rw[List.length_singleton];omega),oCT,bO (by omega) (by omega),show ((j+1:Nat):Int) - 1=(j:Int) by omega];rfl
   obtain⟨k3,T3,hk3,PM,Qy,e3⟩:=ih (T++[v]) k1 Zf (by rw[List.length_append,List.length_singleton];omega) (by
    intro t ht;rcases List.mem_append.1 ht with ht | ht
    ·exact hs t ht
    ·rw[List.mem_singleton.1 ht];unfold Sm
     omega) N (by omega)
   refine⟨k3,T3,hk3,by rw[PM,List.length_append,List.length_singleton];omega,Qy,?_⟩;simp only[bu,e1,oBS];exact e3
 obtain⟨k4,T,Qb,hT,hs,e4⟩:=QY x3.toNat [] k3 h3 (by rw[List.length_nil];omega) (by intro t ht;simp at ht) NN (by unfold NN;omega);rw[show ((x3.toNat:Nat):Int)=x3 by omega] at e4;rw[List.length_nil] at hT;rw[e4];exact⟨C,T,k4,rfl,⟨by omega,⟨by omega,by omega,ho⟩,hs⟩,Qb⟩
theorem tw{v:DTs}(h:Sm v.2.2.2.2.2.2.2):ct v.1 v.2.1 v.2.2.1 v.2.2.2.1 v.2.2.2.2.1 v.2.2.2.2.2.1 v.2.2.2.2.2.2.1 v.2.2.2.2.2.2.2=some (v.1,v.2.1,v.2.2.1,v.2.2.2.1,v.2.2.2.2.1,v.2.2.2.2.2.1,v.2.2.2.2.2.2.1,v.2.2.2.2.2.2.2,()):=by
 unfold ct;rw[bK (by omega) h (by omega) (by have:=h;omega),oCT];rfl
theorem xk{C:CC}{T:TT'}(h:shp C T) (hT:SmT T):eH C T=some (C,T,()):=by
 unfold eH;have h4:=h.1
 have step:∀i,i < C.length->cb ((i:Int),C,T,(),(),C.take i,(),())=some (.inl (((i+1:Nat):Int),C,T,(),(),C.take (i+1),(),())):=by
  intro i hi;have hok:=of_decide_eq_true (h.2.2 _ (List.getElem_mem hi));unfold cb;delta bf;dsimp only;rw[oDT (show (i:Int) < C.length by omega),oCT,bA];simp only[oBS,bT hi];rw[bK (by omega) (by omega) (by omega) (by omega),oCT,bK (by rw[oLT];omega) (by simp) (by omega) (by rw[oLT,List.length_singleton];omega),oCT,bO (by omega) (by omega),<- ly hi];rfl
 have fin:cb ((C.length:Int),C,T,(),(),C.take C.length,(),())=some (.inr ((C.length:Int),false,C,T,(),(),C.take C.length,(),())):=by
  unfold cb;delta bf;dsimp only;rw[oDF (show ¬ (C.length:Int) < C.length by omega)];rfl
 have:=eA (f:=cb) (λi=>((i:Int),C,T,(),(),C.take i,(),())) (n:=C.length) (N:=NN) (by unfold NN;omega) step fin;rw[show bu cb NN (0,C,T,(),(),[],(),())=_ from this,List.take_length,oBS];dsimp only;have t4:=h.2.1
 have U6:∀i,i < T.length->ca ((i:Int),C,T,(),(),C,T.take i,())=some (.inl (((i+1:Nat):Int),C,T,(),(),C,T.take (i+1),())):=by
  intro i hi;unfold ca;delta bf;dsimp only;rw[oDT (show (i:Int) < T.length by omega),oCT,bA];simp only[oBS,bT hi,tw (hT _ (List.getElem_mem hi))];rw[bK (by rw[oLT];omega) (by simp) (by omega) (by rw[oLT,List.length_singleton];omega),oCT,bO (by omega) (by omega),<- ly hi];rfl
 have R6:ca ((T.length:Int),C,T,(),(),C,T.take T.length,())=some (.inr ((T.length:Int),false,C,T,(),(),C,T.take T.length,())):=by
  unfold ca;delta bf;dsimp only;rw[oDF (show ¬ (T.length:Int) < T.length by omega)];rfl
 have:=eA (f:=ca) (λi=>((i:Int),C,T,(),(),C,T.take i,())) (n:=T.length) (N:=NN) (by unfold NN;omega) U6 R6;rw[show bu ca NN (0,C,T,(),(),C,[],())=_ from this,List.take_length];rfl
def pi(C:CC) (T:TT') (D:CC) (U:TT'):Prop:=szs D=szs C/\U.length=T.length/\SmT U
theorem iU{C:CC}{T:TT'}{D:CC}{U:TT'}(h:pi C T D U) (hs:shp C T):shp D U:=by
 rw[<- of,h.1,h.2.1];exact of.2 hs
theorem iO{C D:CC}(h:szs D=szs C):D.length=C.length:=by rw[<- de D,h,de]
theorem nv{C D:CC}(h:szs D=szs C) {i:Nat}(hi:i < C.length) (ZW:i < D.length):D[i].length=C[i].length:=by
 have e1:=gI hi;have e2:=gI ZW;rw[h,e1] at e2;omega
theorem tN{C:CC}{i:Nat}{f:List DCn->List DCn}(h:∀c,(f c).length=c.length):szs (C.modify i f)=szs C:=by
 unfold szs;apply List.ext_getElem?;intro j;rw[List.getElem?_map,List.getElem?_map,List.getElem?_modify]
 cases C[j]? with
 | none=>simp
 | some c=>
  simp only[oMS];split
  ·simp[h]
  ·simp
theorem nA{T:TT'}{i:Nat}{v:DTs}(h:SmT T) (hv:Sm v.2.2.2.2.2.2.2):SmT (T.modify i λ_=>v):=by
 intro t ht;obtain⟨j,hj⟩:=List.mem_iff_getElem?.1 ht;rw[List.getElem?_modify] at hj
 cases e:T[j]? with
 | none=>rw[e] at hj;simp at hj
 | some u=>
  rw[e] at hj;have hj:some (if i=j then v else u)=some t:=hj
  injection hj with hj
  split at hj
  ·rw[<- hj];exact hv
  ·rw[<- hj];exact h _ (List.mem_of_getElem? e)
theorem wC{C:CC}{T:TT'}(h:qL C T) {n:Int}(hn:0<=n) (S3:n < 6) {l:List Int}(hl:l.length<=400) {k:Int}(hk:0<=k) :
 ∃(D:CC) (U:TT') (k':Int),dF C T n l k=some (D,U,l,k',())/\pi C T D U/\0<=k':=by
 unfold dF;rw[xk h.2.1 h.2.2,oBS];dsimp only
 obtain⟨t,e,D,U,k',h1,h2,h3⟩:=nn (f:=fq) (λs=>∃(i:Nat) (k:Int) (D:CC) (U:TT'),s=(n,(i:Int),l,k,(),(),D,U,())/\(i:Int)<=n/\0<=k/\pi C T D U)
  (λt=>∃(D:CC) (U:TT') (k:Int),t=(n,n,false,l,k,(),(),D,U,())/\0<=k/\pi C T D U) (λs=>(n - s.2.1).toNat) (n:=NN) (s:=(n,0,l,k,(),(),C,T,())) ⟨0,k,C,T,rfl,hn,hk,rfl,rfl,h.2.2⟩ (by unfold NN;show (n - 0).toNat < _;omega) (by
  rintro s ⟨i,k,D,U,rfl,hi,hk,hL⟩;unfold fq;delta bf;dsimp only;have Qf:=iO hL.1;have OU:=h.1;have OV:=h.2.1.1;have hU:=hL.2.1;have OW:=h.2.1.2.1;by_cases hin:(i:Int) < n
  rotate_left
  ·rw[oDF hin]
   obtain rfl:(i:Int)=n:=by omega
   exact⟨_,rfl,D,U,k,rfl,hk,hL⟩
  rw[oDT hin,oCT]
  have T0:∀k0,0<=k0->Ok (((be (↑D.length) l k0).bind λ(x10,x11,x12,_)=>
   (eO x10).bind λVa=>
   (cT D Va).bind λO9=>
   (cT D Va).bind λO'=>
   (eO x10).bind λTE=>
   (cT D TE).bind λPa=>
   (cT D TE).bind λPb=>
   (cT D TE).bind λQ2=>
   (be (↑Q2.length) x11 x12).bind λ(x21,x22,x23,_)=>
   (cV x22 x23).bind λ(x24,x25,x26,x27,x28,x29,_)=>
   (eO x21).bind λTF=>
   (cT D Va).bind λQ3=>
   (cT Q3 TF).bind λPc=>
   (cT D Va).bind λQ4=>
   (cT Q4 TF).bind λPd=>
   some (n,(i:Int),x28,x29,(),(),(List.modify D Va λe=>(List.modify e TF λe=>(x24,(x25,(x26,x27))))),U,())):Option (Int×Int×(List (Int))×Int×Unit×Unit×(List (List DCn))×(List DTs)×Unit))
   λr=>∃(k':Int) (D':CC) (U':TT'),r=(n,(i:Int),l,k',(),(),D',U',())/\0<=k'/\pi C T D' U':=by
   intro k0 Qa;dsimp only;obtain⟨y,k1,e,ya,yb,Zf⟩:=dm (n:=(D.length:Int)) (by omega) (by omega) hl Qa;rw[e];obtain⟨a,rfl⟩:∃a:Nat,y=a:=⟨y.toNat,by omega⟩
   have ha:a < D.length:=by omega
   simp only[oBS,bA,bT ha];have hok:1<=(D[a].length:Int)/\(D[a].length:Int)<=32:=of_decide_eq_true ((iU hL h.2.1).2.2 _ (List.getElem_mem ha));obtain⟨z,k2,e,za,zb,hk2⟩:=dm (n:=(D[a].length:Int)) (by omega) (by omega) hl Zf;rw[e];obtain⟨b,rfl⟩:∃b:Nat,z=b:=⟨z.toNat,by omega⟩
   have hb:b < D[a].length:=by omega
   simp only[oBS];obtain⟨c,k3,e,hk3⟩:=xt hl hk2;rw[e];simp only[oBS,bA,bT hb];exact⟨_,rfl,k3,_,U,rfl,hk3,(tN λc=>oLM ..).trans hL.1,hL.2.1,hL.2.2⟩
  refine Ok.bind (P:=λr=>∃(k':Int) (D':CC) (U':TT'),r=(n,(i:Int),l,k',(),(),D',U',())/\0<=k'/\pi C T D' U') ?_ ?_
  ·by_cases hp:(U.length:Int) > 0
   rotate_left
   ·rw[oDF hp];exact T0 k hk
   rw[oDT hp,oCT];obtain⟨y,k1,e,ya,yb,Zf⟩:=dm (n:=3) (by omega) (by omega) hl hk;rw[e];simp only[oBS];by_cases h2:y=2
   rotate_left
   ·rw[oBF h2];exact T0 k1 Zf
   rw[beq_iff_eq.2 h2,oCT];obtain⟨z,k2,e,za,zb,hk2⟩:=dm (n:=(U.length:Int)) (by omega) (by omega) hl Zf;rw[e];obtain⟨a,rfl⟩:∃a:Nat,z=a:=⟨z.toNat,by omega⟩
   have ha:a < U.length:=by omega
   simp only[oBS];obtain⟨v,k3,e,hv,hk3⟩:=zG hl hk2;rw[e];simp only[oBS,bA,bT ha];exact⟨_,rfl,k3,D,_,rfl,hk3,hL.1,(oLM ..).trans hL.2.1,nA hL.2.2 (show v.2.2.2.2.2.2.2.length<=1099511627776 by omega)⟩
  ·rintro r ⟨k',D',U',rfl,Zb,T7⟩;dsimp only;rw[bO (by omega) (by omega)]
   exact⟨_,rfl,⟨i+1,k',D',U',rfl,by omega,Zb,T7⟩,by show (n - ((i:Int)+1)).toNat < (n - (i:Int)).toNat;omega⟩)
 rw[e,h1];exact⟨D,U,k',rfl,h3,h2⟩
def wB:List CT->CT
 | []=>.nat
 | [t]=>t
 | t :: u :: r=>.pair t (wB (u :: r))
def je:(l:List CT)->HL den l->den (wB l)
 | [],_=>(0:Nat)
 | [_],h=>h.1
 | _ :: u :: r,h=>(h.1,je (u :: r) h.2)
def encL:(l:List CT)->HL den l->List TV
 | [],_=>[]
 | t :: r,h=>enc t h.1++encL r h.2
theorem tn:∀(l:List CT) (h:HL den l),enc (wB l) (je l h)=encL l h
 | [],_=>rfl
 | [_],h=>(List.append_nil _).symm
 | _ :: u :: r,h=>by
  show enc _ h.1++enc (wB (u :: r)) (je (u :: r) h.2)=_;rw[tn (u :: r) h.2];rfl
def xH:(c:CT)->den c->Prop
 | .int k,n=>(Lit.int k n).wf=true
 | .str,s=>ByteArray.size s<=maxLen
 | .row _ t,xs=>List.length xs<=maxLen/\∀x∈xs,xH t x
 | .pair a b,x=>xH a x.1/\xH b x.2
 | _,_=>True
def GoodL:(l:List CT)->HL den l->Prop
 | [],_=>True
 | t :: r,h=>xH t h.1/\GoodL r h.2
theorem qh:∀(l:List CT) (h:HL den l),GoodL l h->xH (wB l) (je l h)
 | [],_,_=>trivial
 | [_],_,g=>g.1
 | _ :: u :: r,h,g=>⟨g.1,qh (u :: r) h.2 g.2⟩
def appL:(l m:List CT)->HL den l->HL den m->HL den (l++m)
 | [],_,_,k=>k
 | _ :: r,m,h,k=>(h.1,appL r m h.2 k)
theorem to:∀(l m:List CT) (h:HL den l) (k:HL den m),encL (l++m) (appL l m h k)=encL l h++encL m k
 | [],_,_,_=>rfl
 | t :: r,m,h,k=>by
  show enc t h.1++encL (r++m) (appL r m h.2 k)=(enc t h.1++encL r h.2)++_;rw[to r m h.2 k,List.append_assoc]
theorem s9:∀(l m:List CT) (h:HL den l) (k:HL den m),GoodL l h->GoodL m k->GoodL (l++m) (appL l m h k)
 | [],_,_,_,_,g=>g
 | _ :: r,m,h,k,g,g'=>⟨g.1,s9 r m h.2 k g.2 g'⟩
def RelL(w:World):List TV->List Value->Prop
 | [],[]=>True
 | t :: ts,v :: vs=>fe w (λ_=>True) t v/\RelL w ts vs
 | _,_=>False
theorem RelL.app{w:World}:∀{a:List TV}{x:List Value}{b:List TV}{y:List Value},RelL w a x->RelL w b y->RelL w (a++b) (x++y)
 | [],[],_,_,_,h=>h
 | _ :: a,_ :: x,_,_,g,h=>⟨g.1,RelL.app (a:=a) (x:=x) g.2 h⟩
 | [],_ :: _,_,_,g,_=>g.elim
 | _ :: _,[],_,_,g,_=>g.elim
theorem RelL.len{w:World}:∀{a:List TV}{x:List Value},RelL w a x->a.length=x.length
 | [],[],_=>rfl
 | _ :: a,_ :: x,g=>by rw[oLC,oLC,RelL.len (a:=a) (x:=x) g.2]
 | [],_ :: _,g=>g.elim
 | _ :: _,[],g=>g.elim
theorem RelL.get{w:World}:∀{a:List TV}{x:List Value},RelL w a x->∀j (h:j < a.length) (h':j < x.length),fe w (λ_=>True) a[j] x[j]
 | _ :: _,_ :: _,g,0,_,_=>g.1
 | _ :: a,_ :: x,g,j+1,h,h'=>RelL.get (a:=a) (x:=x) g.2 j (by simpa using h) (by simpa using h')
 | [],_,_,_,h,_=>by simp at h
 | _ :: _,[],g,_,_,_=>g.elim
def BE(P:Program) (g:TypeId->Option (List CT)):Nat->List Field->Option (List CT)
 | _,[]=>some []
 | off,f :: fs=>match g f.type with
  | some l=>if f.offset=off/\l.length=P.cellsOf f.type then (BE P g (off+l.length) fs).map (l++·) else none
  | none=>none
def lZ(P:Program):Nat->TypeId->Option (List CT)
 | 0,_=>none
 | n+1,t=>match P.underlying t with
  | some .bool=>some [.bool]
  | some (.int k)=>some [.int k]
  | some .string=>some [.str]
  | some (.slice e)=>match lZ P n e with
   | some l=>if l.length=P.cellsOf e then some [.row false (wB l)] else none
   | none=>none
  | some (.struct fs)=>match BE P (lZ P n) 0 fs.toList with
   | some l=>if l.length=P.cellsOf t then some l else none
   | none=>none
  | _=>none
section
variable {H:Type} {ec:TypeId×Value->H} {P:Program} {w:World} {base:Nat} {spare:Nat->Bool} {held:Bool}
theorem wR{g:TypeId->Option (List CT)}{m:Nat}{cs:List Value}
 (ih:∀t L,g t=some L->∀cs x,DataW.trod ec P w base spare held m t cs=some x->∃h:HL den L,GoodL L h/\RelL w (encL L h) cs) :
 ∀(fs:List Field) (off:Nat) (L:List CT),BE P g off fs=some L->(∀f∈fs,∃x,DataW.trod ec P w base spare held m f.type ((cs.drop f.offset).take (P.cellsOf f.type))=some x) ->
  ∃h:HL den L,GoodL L h/\RelL w (encL L h) ((cs.drop off).take L.length):=by
 intro fs
 induction fs with
 | nil=>
  intro off L hL _
  injection hL with hL
  subst hL;exact⟨(),trivial,trivial⟩
 | cons f fs Tu=>
  intro off L hL hx;unfold BE at hL;split at hL
  ·rename_i l hg;split at hL
   ·rename_i ho;obtain⟨rfl,hlen⟩:=ho
    cases hr:BE P g (f.offset+l.length) fs with
    | none=>simp_all
    | some L2=>
     rw[hr] at hL
     injection hL with hL
     subst hL;obtain⟨x,h1⟩:=hx f List.mem_cons_self;obtain⟨h,g1,r1⟩:=ih _ _ hg _ _ h1;have ⟨k,g2,r2⟩:=Tu _ _ hr λf' TM=>hx f' (List.mem_cons_of_mem _ TM);refine⟨appL l L2 h k,s9 _ _ _ _ g1 g2,?_⟩;rw[to,List.length_append,List.take_add,List.drop_drop];rw[hlen];rw[hlen] at r2;exact r1.app r2
   ·cases hL
  ·cases hL
theorem BT:∀(n:Nat) (t:TypeId) (L:List CT),lZ P n t=some L->∀(Ym:Nat) (cs:List Value) (x:DataW H×List MemPlace),DataW.trod ec P w base spare held Ym t cs=some x ->
 ∃h:HL den L,GoodL L h/\RelL w (encL L h) cs:=by
 intro n
 induction n with
 | zero=>intro t L h;cases h
 | succ n ih=>
  intro t L hL Ym cs x hx;unfold lZ at hL;split at hL
  ·rename_i ht
   injection hL with hL
   subst hL;obtain⟨b,rfl,_⟩:=DataW.trod_bool ht hx;exact⟨(b,()),⟨trivial,trivial⟩,.v rfl,trivial⟩
  ·rename_i k ht
   injection hL with hL
   subst hL;obtain⟨z,rfl,_,hw⟩:=DataW.trod_int ht hx;exact⟨(z,()),⟨hw,trivial⟩,.v rfl,trivial⟩
  ·rename_i ht
   injection hL with hL
   subst hL;obtain⟨s,rfl,_,hs⟩:=DataW.trod_string ht hx;exact⟨(s,()),⟨hs,trivial⟩,.v rfl,trivial⟩
  ·rename_i e ht;split at hL
   ·rename_i l hl;split at hL
    ·rename_i hsz
     injection hL with hL
     subst hL;rcases DataW.trod_slice ht hx with ⟨rfl,_⟩ | ⟨a,len,cap,Rc,rest,m,_,rfl,_,_,Y1,hmax,Zd,Z9,_,_⟩
     ·exact⟨([],()),⟨⟨Nat.zero_le _,λx hx=>by cases hx⟩,trivial⟩,.sl (c:=[]) 1 (λ_ _=>undef) (λi h=>by simp at h) (Nat.le_refl _) (Nat.zero_le _) (λ_=>rfl) (λi j h=>by simp at h) (λi j h=>by simp at h),trivial⟩
     ·have R3:∀i:Fin len,∃p:HL den l×List Value,GoodL l p.1/\RelL w (encL l p.1) p.2/\w.cells? base (a.add (i.1*P.cellsOf e)) (P.cellsOf e)=some p.2:=by
       intro i;have h1:=Z9 i.1 i.2;rw[oGE (by omega)] at h1;obtain⟨Pn,h2,h3⟩:=Option.bind_eq_some_iff.1 h1;obtain⟨h,g,r⟩:=ih _ _ hl _ _ _ h3;exact⟨(h,Pn),g,r,h2⟩
      obtain⟨f,hf⟩:=Classical.axiomOfChoice R3
      have R2:∀i,(encL l (f i).1).length=l.length:=λi=>by
       rw[(hf i).2.1.len,(World.cells?_some (hf i).2.2).2.1,hsz]
      have ZZ:fe w (λ_=>True) (.sl ((List.ofFn λi:Fin len=>je l (f i).1).map (enc (wB l)))) (.slice (some a) ((List.ofFn λi:Fin len=>je l (f i).1).map (enc (wB l))).length cap):=by
       have el:((List.ofFn λi:Fin len=>je l (f i).1).map (enc (wB l))).length=len:=by simp
       have eg:∀i (hi:i < ((List.ofFn λi:Fin len=>je l (f i).1).map (enc (wB l))).length),((List.ofFn λi:Fin len=>je l (f i).1).map (enc (wB l)))[i]=encL l (f ⟨i,by omega⟩).1:=by
        intro i hi;simp[tn]
       refine .sl l.length (λi j=>if h:i < len then (f ⟨i,h⟩).2.getD j undef else undef) (λi hi=>by rw[eg i hi,R2]) (by rw[el];exact Y1) hmax (λh=>by cases h) (λi j hi hj=>?_) (λi j hi hj=>?_)
       ·rw[el] at hi
        have cell:∀i' (ZW:i' < len) j',j' < l.length->w.cell? ((a.add (i'*l.length)).add j')=some ((f ⟨i',ZW⟩).2.getD j' undef):=by
         intro i' ZW j' ZY;have h1:=World.cells?_some (hf ⟨i',ZW⟩).2.2;have h2:=h1.2.2 j' (by omega);rw[hsz];rw[h2]
         have:j' < (f ⟨i',ZW⟩).2.length:=by rw[h1.2.1];omega
         simp[this]
        have h0:=World.cell?_spot (cell 0 (by omega) 0 (by omega));obtain⟨b,o,spot⟩:=a
        have UT:spot=none:=by simpa [Addr.add] using h0
        subst UT;refine⟨b,o,rfl,trivial,?_⟩;have h2:=cell i hi j hj;rw[Go.WideShapes.add_plain,Go.WideShapes.add_plain] at h2;rw[dif_pos hi,<- h2,Nat.add_assoc]
       ·rw[el] at hi;have hr:=(hf ⟨i,hi⟩).2.1
        have X2:j < (encL l (f ⟨i,hi⟩).1).length:=by rw[eg i (by omega)] at hj;exact hj
        have Vk:j < (f ⟨i,hi⟩).2.length:=by rw[<- hr.len];exact X2
        have h3:=hr.get j X2 Vk
        simp_all
      rw[List.length_map,List.length_ofFn] at ZZ;refine⟨(List.ofFn λi:Fin len=>je l (f i).1,()),⟨⟨by rw[List.length_ofFn];omega,λx hx=>?_⟩,trivial⟩,ZZ,trivial⟩;obtain⟨i,rfl⟩:=List.mem_ofFn.1 hx;exact qh _ _ (hf i).1
    ·cases hL
   ·cases hL
  ·rename_i fs ht;split at hL
   ·rename_i l hl;split at hL
    ·rename_i hsz
     injection hL with hL
     subst hL;obtain⟨xs,m,_,_,hlen,RV,hf⟩:=DataW.trod_struct ht hx
     obtain⟨h,g,r⟩:=wR (cs:=cs) (m:=m) (λt L hL cs x hx=>ih t L hL m cs x hx) fs.toList 0 l hl (by
      intro f PX;obtain⟨i,hi,rfl⟩:=List.mem_iff_getElem.1 PX
      have hi2:i < fs.size:=by simpa using hi
      have h1:=hf i fs[i] (by simp[hi2]);rw[oGE (by omega)] at h1
      exact⟨_,by simpa using h1⟩)
     refine⟨h,g,?_⟩;rw[List.drop_zero,hsz,<- hlen,List.take_length] at r;exact r
    ·cases hL
   ·cases hL
  ·cases hL
theorem intake_arg(n:Nat) {t:TypeId}{L:List CT}{v:Value}{d:DataW H}{p:List MemPlace}(hL:lZ P n t=some L) (h:DataW.Trod ec P w base spare held t v d p) :
 ∃h:HL den L,GoodL L h/\RelL w (encL L h) v.cells.toList:=by
 have ⟨Ym,hf⟩:=h;exact BT n t L hL Ym _ _ hf
end
theorem plain_one{w:World}{t:TV}{v:Value}(r:RelL w [t] [v]):se w t v:=r.1.plain
theorem BX(l:List Int):jx l=some (decide (l.length<=400),()):=by
 unfold jx;delta bf;dsimp only;congr 2;rw[decide_eq_decide];omega
theorem i4{C:CC}{T:TT'}{D:CC}{U:TT'}{E:CC}{V:TT'}(h:qL C T) (h1:pi C T D U) (h2:pi C T E V):Be D U E V:=
 ⟨iU h1 h.2.1,iU h2 h.2.1,h1.1.trans h2.1.symm,h1.2.1.trans h2.2.1.symm⟩
theorem pT{C:CC}{T:TT'}(h:qL C T):pi C T C T:=⟨rfl,rfl,h.2.2⟩
theorem iV{C:CC}{T:TT'}{D:CC}{U:TT'}(h:qL C T) (h1:pi C T D U):qL D U:=⟨by rw[iO h1.1];exact h.1,iU h1 h.2.1,h1.2.2⟩
theorem nM{C:CC}{T:TT'}{D:CC}{U:TT'}{E:CC}{V:TT'}(h1:pi C T D U) (h2:pi D U E V):pi C T E V:=⟨h2.1.trans h1.1,h2.2.1.trans h1.2.1,h2.2.2⟩
theorem zg{C:CC}{T:TT'}{D:CC}{U:TT'}(h:Be C T D U):dif D U C T=dif C T D U:=by
 unfold dif;rw[h.2.2.1,h.2.2.2];congr 1;funext p;congr 1;rw[decide_eq_decide];exact eq_comm
theorem mf{C:CC}{T:TT'}{D:CC}{U:TT'}{p:PID}:p∈dif C T D U↔p∈pgs (szs C) T.length/\pg C T p≠pg D U p:=by
 unfold dif;simp
theorem AA(l:List Int):dP l=some (true,()):=by
 unfold dP;rw[BX,oBS];dsimp only;by_cases hl:l.length<=400
 rotate_left
 ·rw[oDF hl];simp only[Bool.not_false,oCT];rw[mO];rfl
 rw[oDT hl];simp only[oNT,oCF];obtain⟨C,T,k1,e,hd,h1⟩:=va hl (Int.le_refl 0);rw[e,oBS];dsimp only;obtain⟨x,k2,e,xa,xb,h2⟩:=dm (n:=5) (by omega) (by omega) hl h1;rw[e,oBS];dsimp only;obtain⟨D,U,k3,e,hD,h3⟩:=wC hd xa (by omega) hl h2;rw[e,oBS];dsimp only;obtain⟨y,k4,e,ya,yb,h4⟩:=dm (n:=5) (by omega) (by omega) hl h3;rw[e,oBS];dsimp only;obtain⟨E,V,k5,e,PB,h5⟩:=wC (iV hd hD) ya (by omega) hl h4;have hE:=nM hD PB;have hs:=pT hd;rw[e,oBS];dsimp only;have a12:=i4 hd hs hD;have a21:=i4 hd hD hs;have Pj:=i4 hd hD hE;have a13:=i4 hd hs hE;rw[gB a12 hd.2.2 hD.2.2,oBS];dsimp only;rw[gB a21 hD.2.2 hd.2.2,oBS];dsimp only;rw[gB Pj hD.2.2 hE.2.2,oBS];dsimp only;rw[gB a13 hd.2.2 hE.2.2,oBS];dsimp only;have l1:=oV (D:=D) (U:=U) hd.2.1;have l2:=oV (D:=E) (U:=V) (iU hD hd.2.1);have l3:=oV (D:=E) (U:=V) hd.2.1;rw[wG (by omega),oBS];dsimp only;have hm:=py (dif C T D U++dif D U E V);rw[List.length_append] at hm;rw[zg a12];simp only[beq_self_eq_true,oCT];rw[vU (by unfold Sm;omega) (by unfold Sm;omega),oBS,oDT rfl];dsimp only;rw[oCT,wG (by omega),oBS];dsimp only
 have hq:ga (ga (dif C T D U++dif D U E V)++dif C T E V)=ga (dif C T D U++dif D U E V):=sq (pz _) λz=>by
  simp only[px,List.mem_append];constructor
  ·exact λh=>.inl h
  ·rintro (h | h)
   ·exact h
   ·obtain⟨m1,m2⟩:=mf.1 h;by_cases g:pg C T z=pg D U z
    ·exact .inr (mf.2 ⟨by rw[hD.1,hD.2.1];exact m1,g ▸ m2⟩)
    ·exact .inl (mf.2 ⟨m1,g⟩)
 rw[hq,vU (by unfold Sm;omega) (by unfold Sm;omega),oBS,oDT rfl];dsimp only;rw[oCT,mO];rfl
theorem law_DirtySides{h0:HL den [RI]}(g0:GoodL _ h0):fY.g (appL [RI] _ h0 ())=some (true,()):=AA h0.1
theorem yN{S T:Type}{f:S->Option (S⊕T)}(P:Nat->S->Prop) (R:T->Prop) {n:Nat}(step:∀i s,i < n->P i s->∃s',f s=some (.inl s')/\P (i+1) s') (fin:∀s,P n s->∃t,f s=some (.inr t)/\R t) {s:S}(h:P 0 s) {N:Nat}(hn:n < N) :
 ∃t,bu f N s=some t/\R t:=by
 have ZZ:∀k i s,i+k=n->P i s->∀M,k < M->∃t,bu f M s=some t/\R t:=by
  intro k
  induction k with
  | zero=>
   intro i s hi hP M hM;obtain⟨M,rfl⟩:∃m,M=m+1:=⟨M - 1,by omega⟩
   obtain rfl:i=n:=by omega
   obtain⟨t,e,hR⟩:=fin s hP;exact⟨t,by simp[bu,e],hR⟩
  | succ k ih=>
   intro i s hi hP M hM;obtain⟨M,rfl⟩:∃m,M=m+1:=⟨M - 1,by omega⟩;obtain⟨s',e,PI⟩:=step i s (by omega) hP;obtain⟨t,e2,hR⟩:=ih (i+1) s' (by omega) PI M (by omega);exact⟨t,by simp only[bu,e,oBS];exact e2,hR⟩
 exact ZZ n 0 s (by omega) h N hn
theorem zM{C:CC}{T:TT'}{D:CC}{U:TT'}(h:shp C T) (hT:SmT T):eG C T D U=some (decide (C=D/\T=U),()):=by
 unfold eG;delta bf;dsimp only;by_cases hl:C.length=D.length
 rotate_left
 ·rw[md hl,oCT,oDF (p:=C=D/\T=U) λe=>hl (by rw[e.1])]
 rw[kR hl,oCF];by_cases hm:T.length=U.length
 rotate_left
 ·rw[md hm,oCT,oDF (p:=C=D/\T=U) λe=>hm (by rw[e.2])]
 rw[kR hm,oCF];have c4:=h.1;have t4:=h.2.1
 have q1:=iu (f:=cX) hl (by unfold Sm;omega) (λi=>((i:Int),C,T,D,U,())) (bad:=.inl (false,())) (fin:=.inr ((C.length:Int),false,C,T,D,U,()))
  (λi h1 h2=>by
   have hok:=of_decide_eq_true (h.2.2 _ (List.getElem_mem h1));unfold cX;delta bf;dsimp only;rw[oDT (show (i:Int) < C.length by omega),oCT,bA];simp only[oBS,bT h1,bT h2];rw[nF (by unfold Sm;omega)];simp only[oBS,j4];rw[bO (by omega) (by omega)]
   rfl)
  (by
   unfold cX;delta bf;dsimp only;rw[oDF (show ¬ (C.length:Int) < C.length by omega)]
   rfl)
 have q2:=iu (f:=cW) hm (by unfold Sm;omega) (λi=>((i:Int),C,T,D,U,())) (bad:=.inl (false,())) (fin:=.inr ((T.length:Int),false,C,T,D,U,()))
  (λi h1 h2=>by
   unfold cW;delta bf;dsimp only;rw[oDT (show (i:Int) < T.length by omega),oCT,bA];simp only[oBS,bT h1,bT h2];rw[vQ (hT _ (List.getElem_mem h1))];simp only[oBS,j4];rw[bO (by omega) (by omega)]
   rfl)
  (by
   unfold cW;delta bf;dsimp only;rw[oDF (show ¬ (T.length:Int) < T.length by omega)]
   rfl)
 rw[show bu cX NN (0,C,T,D,U,())=_ from q1];by_cases e1:C=D
 rotate_left
 ·rw[oDF e1,oDF (p:=C=D/\T=U) λe=>e1 e.1];rfl
 rw[oDT e1];dsimp only[oCT];rw[show bu cW NN (0,C,T,D,U,())=_ from q2];by_cases e2:T=U
 ·rw[oDT e2,oDT (p:=C=D/\T=U) ⟨e1,e2⟩];rfl
 ·rw[oDF e2,oDF (p:=C=D/\T=U) λe=>e2 e.2];rfl
theorem wx{C:CC}{T:TT'}{D:CC}{U:TT'}(hs:szs D=szs C) (hU:U.length=T.length) (h:∀q∈pgs (szs C) T.length,pg C T q=pg D U q):C=D/\T=U:=by
 have hl:=iO hs;constructor
 ·refine List.ext_getElem hl.symm λi h1 h2=>?_;have hlen:=nv hs h1 h2;apply List.ext_getElem?;intro k;by_cases hk:k < C[i].length
  rotate_left
  ·rw[oGN (by omega),oGN (by omega)]
  have hq:((i:Int),((k / 8:Nat):Int))∈pgs (szs C) T.length:=by
   refine ir.2 (.inl ⟨i,k / 8,by rw[de];exact h1,?_,rfl⟩);rw[gI h1];unfold nV;omega
  have e:=h _ hq;rw[iq h1,iq h2] at e;have e1:(C[i].drop (8*(k / 8))).take 8=(D[i].drop (8*(k / 8))).take 8:=congrArg (λx:PG=>x.2.2.1) e;have e2:=congrArg (λx:List DCn=>x[k % 8]?) e1;simp only[List.getElem?_take,List.getElem?_drop] at e2;rw[oIP (Nat.mod_lt _ (by omega)),oIP (Nat.mod_lt _ (by omega)),Nat.div_add_mod] at e2;exact e2
 ·refine List.ext_getElem hU.symm λt h1 h2=>?_;have e:=h (-1,(t:Int)) (ir.2 (.inr ⟨t,h1,rfl⟩));rw[cY h1,cY h2] at e;exact congrArg (λx:PG=>x.2.2.2) e
theorem nz{c x:List DCn}{a k:Nat}(h:a+x.length<=c.length):(fu c a x.length x)[k]?=if k < a then c[k]? else if k < a+x.length then x[k - a]? else c[k]?:=by
 unfold fu;rw[List.take_length];by_cases h1:k < a
 ·rw[oIP h1,List.append_assoc,List.getElem?_append_left (by rw[oLT];omega),List.getElem?_take,oIP h1]
 ·rw[oIN h1];by_cases h2:k < a+x.length
  ·rw[oIP h2,List.getElem?_append_left (by rw[List.length_append,oLT];omega),List.getElem?_append_right (by rw[oLT];omega),oLT,Nat.min_eq_left (by omega)]
  ·rw[oIN h2,List.getElem?_append_right (by rw[List.length_append,oLT];omega),List.length_append,oLT,Nat.min_eq_left (by omega),List.getElem?_drop];congr 1;omega
theorem tP{c x:List DCn}{a:Nat}(h:a+x.length<=c.length):(fu c a x.length x).length=c.length:=by
 unfold fu;rw[List.take_length,List.length_append,List.length_append,oLT,List.length_drop,Nat.min_eq_left (by omega)];omega
theorem Cv{C:CC}{T:TT'}{D:CC}{U:TT'}(h:qL C T) (hL:pi C T D U) {p:PID}(hp:p∈pgs (szs C) T.length) :
 ∃(C':CC) (T':TT'),dA C T (pg D U p).1 (pg D U p).2.1 (pg D U p).2.2.1 (pg D U p).2.2.2.1 (pg D U p).2.2.2.2.1 (pg D U p).2.2.2.2.2.1 (pg D U p).2.2.2.2.2.2.1 (pg D U p).2.2.2.2.2.2.2.1 (pg D U p).2.2.2.2.2.2.2.2.1 (pg D U p).2.2.2.2.2.2.2.2.2.1 (pg D U p).2.2.2.2.2.2.2.2.2.2=some (C',T',0,()) /\
  pi C T C' T'/\∀q∈pgs (szs C) T.length,pg C' T' q=if q=p then pg D U p else pg C T q:=by
 have OT:=h.2.1.1;have Qf:=iO hL.1;rcases ir.1 hp with ⟨i,j,hi,hj,rfl⟩ | ⟨t,ht,rfl⟩
 ·rw[de] at hi
  have ZW:i < D.length:=by omega
  rw[gI hi] at hj;have ZY:=sS hj;have Y1:=nv hL.1 hi ZW;have hok:=of_decide_eq_true (h.2.1.2.2 _ (List.getElem_mem hi));rw[iq ZW];dsimp only;obtain⟨x,hx⟩:∃x,x=(D[i].drop (8*j)).take 8:=⟨_,rfl⟩
  have RV:x.length=min 8 (C[i].length - 8*j):=by rw[hx,oLT,List.length_drop,Y1]
  rw[<- hx];unfold dA;rw[show dB C T (i:Int) (j:Int)=_ from AZ h.2.1 h.2.2 hp,oBS,iq hi];delta bf;dsimp only;rw[bne_self_eq_false,oCF]
  have QK:x.length=((C[i].drop (8*j)).take 8).length:=by rw[RV,oLT,List.length_drop]
  rw[kR QK,oCF,bne_iff_ne.2 (show (i:Int)≠-1 by omega),oCT];have hz:ie 0 0 0 0 0 0 0 []=some (true,()):=rfl;rw[hz];simp only[oBS,oNT,oCF];rw[xk h.2.1 h.2.2,oBS];dsimp only;rw[oBF (show (i:Int)≠-1 by omega),oCF,bA];simp only[oBS,bT hi];rw[bO (by omega) (by omega),show (j:Int)*8=((8*j:Nat):Int) by omega,bA];simp only[oBS]
  have VO:Nat.min x.length (Nat.sub C[i].length (8*j))=x.length:=by
   show min x.length (C[i].length - 8*j)=x.length;omega
  have YF:g8 (8*j) C[i].length C[i].length=true:=by unfold g8;simp;omega
  have YQ:g8 (8*j) (Nat.add (8*j) x.length) C[i].length=true:=by
   show g8 (8*j) (8*j+x.length) C[i].length=true;unfold g8;simp;omega
  have hb:Nat.blt 0 x.length=true:=by rw[Nat.blt_eq];omega
  rw[YF,oCT,VO,YQ,oCT,hb,oCT];simp only[oBS]
  have Zr:8*j+x.length<=C[i].length:=by omega
  have YX:(C.modify i λ_=>fu C[i] (8*j) x.length x).length=C.length:=oLM ..
  have Z9:∀i' (h1:i' < C.length),(C.modify i λ_=>fu C[i] (8*j) x.length x)[i']'(by rw[YX];exact h1)=if i=i' then fu C[i] (8*j) x.length x else C[i']:=by
   intro i' h1;rw[List.getElem_modify]
  refine⟨_,T,rfl,⟨?_,rfl,h.2.2⟩,?_⟩
  ·unfold szs;apply List.ext_getElem?;intro k;rw[List.getElem?_map,List.getElem?_map];by_cases hk:k < C.length
   ·rw[oGE (by rw[YX];exact hk),oGE hk,Z9 k hk];simp only[oMS];by_cases e:i=k
    ·subst e;rw[oIP rfl,tP Zr]
    ·rw[oIN e]
   ·rw[oGN (by rw[YX];omega),oGN (by omega)]
  ·intro q hq;rcases ir.1 hq with ⟨a,b,ha,Z2,rfl⟩ | ⟨t,ht,rfl⟩
   ·rw[de] at ha;rw[gI ha] at Z2;have VD:=sS Z2;rw[iq (show a < (C.modify i λ_=>fu C[i] (8*j) x.length x).length by rw[YX];exact ha),Z9 a ha,iq ha];by_cases e:i=a
    ·subst e;rw[oIP rfl];by_cases e2:b=j
     ·subst e2;rw[oIP rfl];congr 3;apply List.ext_getElem?;intro k;rw[List.getElem?_take,List.getElem?_drop,nz Zr];by_cases hk:k < 8
      ·rw[oIP hk,oIN (by omega)];by_cases hk2:k < x.length
       ·rw[oIP (by omega),show 8*b+k - 8*b=k by omega]
       ·rw[oIN (by omega),oGN (by omega),oGN (by omega)]
      ·rw[oIN hk,oGN (by omega)]
     ·rw[oIN (by intro g;injection g with g1 g2;omega)];congr 3;apply List.ext_getElem?;intro k;rw[List.getElem?_take,List.getElem?_drop,List.getElem?_take,List.getElem?_drop,nz Zr];by_cases hk:k < 8
      ·rw[oIP hk,oIP hk];by_cases hk3:8*b+k < 8*j
       ·rw[oIP hk3]
       ·rw[oIN hk3,oIN (by omega)]
      ·rw[oIN hk,oIN hk]
    ·rw[oIN e,oIN (by intro g;injection g with g1 g2;omega)]
   ·rw[cY ht,oIN (by intro g;injection g with g1 g2;omega),cY ht]
 ·have Zi:t < U.length:=by rw[hL.2.1];exact ht
  rw[cY Zi];dsimp only;unfold dA;rw[show dB C T (-1) (t:Int)=_ from AZ h.2.1 h.2.2 hp,oBS,cY ht];delta bf;dsimp only;rw[bne_self_eq_false,oCF,kR rfl,oCF];rw[show ((-1:Int) != -1)=false from rfl,oCF];simp only[oBS,oCF];rw[xk h.2.1 h.2.2,oBS];dsimp only;rw[show ((-1:Int)==-1)=true from rfl,oCT,tw (hL.2.2 _ (List.getElem_mem Zi)),oBS];dsimp only;rw[bA];simp only[oBS,bT ht];have YX:(T.modify t λ_=>U[t]).length=T.length:=oLM ..
  have Z9:∀i' (h1:i' < T.length),(T.modify t λ_=>U[t])[i']'(by rw[YX];exact h1)=if t=i' then U[t] else T[i']:=by
   intro i' h1;rw[List.getElem_modify]
  refine⟨C,T.modify t λ_=>U[t],rfl,⟨rfl,YX,nA h.2.2 (hL.2.2 _ (List.getElem_mem Zi))⟩,?_⟩;intro q hq;rcases ir.1 hq with ⟨a,b,ha,Z2,rfl⟩ | ⟨s,hs,rfl⟩
  ·rw[de] at ha;rw[iq ha,oIN (by intro g;injection g with g1 g2;omega),iq ha]
  ·rw[cY (show s < (T.modify t λ_=>U[t]).length by rw[YX];exact hs),Z9 s hs,cY hs];by_cases e:t=s
   ·subst e;rw[oIP rfl,oIP rfl]
   ·rw[oIN e,oIN (by intro g;injection g with g1 g2;omega)]
theorem wA(S:List Int) (n:Nat):(pgs S n).Nodup:=by
 have hr:∀m:Nat,(List.range m).Pairwise (· < ·):=λm=>List.pairwise_lt_range;unfold pgs;refine List.pairwise_append.2 ⟨List.pairwise_flatMap.2 ⟨λi _=>?_,?_⟩,?_,?_⟩
 ·unfold nH;refine List.pairwise_map.2 ((hr _).imp λ{a b} h e=>?_)
  injection e with _ e
  omega
 ·refine (hr _).imp λ{a b} h x hx y hy e=>?_;obtain⟨j,_,rfl⟩:=oy.1 hx;obtain⟨j',_,rfl⟩:=oy.1 hy
  injection e with e _
  omega
 ·refine List.pairwise_map.2 ((hr _).imp λ{a b} h e=>?_)
  injection e with _ e
  omega
 ·intro x hx y hy e;obtain⟨i,_,hx⟩:=List.mem_flatMap.1 hx;obtain⟨j,_,rfl⟩:=oy.1 hx;obtain⟨t,_,rfl⟩:=List.mem_map.1 hy
  injection e with e _
  omega
def zA(C:CC) (T:TT') (D:CC) (U:TT') (W:PID->Prop) (C':CC) (T':TT'):Prop:=
 pi C T C' T'/\∀q∈pgs (szs C) T.length,(W q->pg C' T' q=pg D U q)/\(¬ W q->pg C' T' q=pg C T q)
theorem sQ{C:CC}{T:TT'}{D:CC}{U:TT'}(h:qL C T) (hL:pi C T D U) {W:PID->Prop}{C':CC}{T':TT'}(hP:zA C T D U W C' T') {p:PID}(hp:p∈pgs (szs C) T.length) :
 ∃(C2:CC) (T2:TT'),dA C' T' (pg D U p).1 (pg D U p).2.1 (pg D U p).2.2.1 (pg D U p).2.2.2.1 (pg D U p).2.2.2.2.1 (pg D U p).2.2.2.2.2.1 (pg D U p).2.2.2.2.2.2.1 (pg D U p).2.2.2.2.2.2.2.1 (pg D U p).2.2.2.2.2.2.2.2.1 (pg D U p).2.2.2.2.2.2.2.2.2.1 (pg D U p).2.2.2.2.2.2.2.2.2.2=some (C2,T2,0,()) /\
  zA C T D U (λq=>W q\/q=p) C2 T2:=by
 have h':=iV h hP.1;have T7:pi C' T' D U:=⟨hL.1.trans hP.1.1.symm,hL.2.1.trans hP.1.2.1.symm,hL.2.2⟩
 have hp':p∈pgs (szs C') T'.length:=by rw[hP.1.1,hP.1.2.1];exact hp
 obtain⟨C2,T2,e,h1,h2⟩:=Cv h' T7 hp';refine⟨C2,T2,e,nM hP.1 h1,λq hq=>?_⟩;have h3:=h2 q (by rw[hP.1.1,hP.1.2.1];exact hq);have h4:=hP.2 q hq;by_cases g:q=p
 ·subst g;rw[oIP rfl] at h3;exact⟨λ_=>h3,λn=>absurd (.inr rfl) n⟩
 ·rw[oIN g] at h3;rw[h3];exact⟨λw=>h4.1 (w.resolve_right g),λn=>h4.2 λw=>n (.inl w)⟩
theorem ot{C:CC}{T:TT'}{D:CC}{U:TT'}{W W':PID->Prop}{C':CC}{T':TT'}(hP:zA C T D U W C' T') (h:∀q,W q↔W' q):zA C T D U W' C' T':=
 ⟨hP.1,λq hq=>⟨λw=>(hP.2 q hq).1 ((h q).2 w),λn=>(hP.2 q hq).2 λw=>n ((h q).1 w)⟩⟩
theorem zj(l:List Int) (k:Int):dC l k=some (true,()):=by
 unfold dC;rw[BX,oBS];dsimp only;by_cases hl:l.length<=400
 rotate_left
 ·rw[oDF hl];simp only[Bool.not_false,oCT];rw[mO];rfl
 rw[oDT hl];simp only[oNT,oCF];obtain⟨C,T,k1,e,hd,h1⟩:=va hl (Int.le_refl 0);rw[e,oBS];dsimp only;obtain⟨x,k2,e,xa,xb,h2⟩:=dm (n:=6) (by omega) (by omega) hl h1;rw[e,oBS];dsimp only;obtain⟨D,U,k3,e,hD,h3⟩:=wC hd xa (by omega) hl h2;rw[e,oBS];dsimp only;have hs:=pT hd;have a12:=i4 hd hs hD;have a11:=i4 hd hs hs;rw[gB a12 hd.2.2 hD.2.2,oBS];dsimp only;rw[gB a11 hd.2.2 hd.2.2,oBS];dsimp only
 have e0:dif C T C T=[]:=by
  unfold dif;rw[List.filter_eq_nil_iff];intro p _;simp
 rw[e0];delta bf;simp only[bne_self_eq_false,oCF,oBS,List.length_nil,Int.natCast_zero];have hlen:=oV (D:=D) (U:=U) hd.2.1;obtain⟨L,hL⟩:∃L,L=dif C T D U:=⟨_,rfl⟩;rw[<- hL] at hlen ⊢;have hin:∀i (hi:i < L.length),L[i]∈pgs (szs C) T.length/\pg C T L[i]≠pg D U L[i]:=λi hi=>mf.1 (hL ▸ List.getElem_mem hi);have ZD:L.Nodup:=hL ▸ (wA _ _).filter _
 obtain⟨m,TP,hm2⟩:∃m:Int,(0 < L.length->iN k (L.length:Int)=some (m,()))/\(0 < L.length->0<=m/\m < L.length):=by
  by_cases g:0 < L.length
  ·obtain⟨m,e,g1,g2⟩:=BM (x:=k) (n:=(L.length:Int)) (by omega) (by omega);exact⟨m,λ_=>e,λ_=>⟨g1,g2⟩⟩
  ·exact⟨0,λh=>absurd h g,λh=>absurd h g⟩
 have sD:=iU hD hd.2.1
 obtain⟨t,e,C1,T1,C2,T2,rfl,WN,VA⟩:=yN (f:=ch)
  (λi s=>∃(C1:CC) (T1:TT') (C2:CC) (T2:TT'),s=(k,(i:Int),D,U,L,C1,T1,C2,T2,())/\zA C T D U (λq=>∃j,j < i/\L[j]?=some q) C1 T1/\zA C T D U (λq=>∃j,j < i/\(j:Int)≠m/\L[j]?=some q) C2 T2)
  (λt=>∃(C1:CC) (T1:TT') (C2:CC) (T2:TT'),t=(k,(L.length:Int),false,D,U,L,C1,T1,C2,T2,())/\zA C T D U (λq=>∃j,j < L.length/\L[j]?=some q) C1 T1/\zA C T D U (λq=>∃j,j < L.length/\(j:Int)≠m/\L[j]?=some q) C2 T2)
  (n:=L.length) (N:=NN)
  (by
   rintro i s hi ⟨C1,T1,C2,T2,rfl,WN,VA⟩;unfold ch;delta bf;dsimp only;rw[oDT (show (i:Int) < L.length by omega),oCT,bA];simp only[oBS,bT hi];have hp:=(hin i hi).1
   have Qq:L[i]∈pgs (szs D) U.length:=by rw[hD.1,hD.2.1];exact hp
   rw[AZ sD hD.2.2 Qq,oBS];dsimp only;rw[bne_self_eq_false,oCF];obtain⟨C3,T3,e3,PJ⟩:=sQ hd hD WN hp;rw[e3,oBS];dsimp only;rw[TP (by omega),oBS];dsimp only;rw[bO (by omega) (by omega)]
   have T8:zA C T D U (λq=>∃j,j < i+1/\L[j]?=some q) C3 T3:=ot PJ λq=>by
    constructor
    ·rintro (⟨j,h1,h2⟩ | rfl)
     ·exact⟨j,by omega,h2⟩
     ·exact⟨i,by omega,oGE hi⟩
    ·rintro⟨j,h1,h2⟩;by_cases g:j=i
     ·subst g;rw[oGE hi] at h2
      injection h2 with h2
      exact .inr h2.symm
     ·exact .inl ⟨j,by omega,h2⟩
   by_cases g:(i:Int)=m
   ·rw[bne_eq_false_iff_eq.2 g,oCF];refine⟨_,rfl,C3,T3,C2,T2,rfl,T8,ot VA λq=>?_⟩;constructor
    ·rintro⟨j,h1,h2⟩;exact⟨j,by omega,h2⟩
    ·rintro⟨j,h1,h2,h3⟩;exact⟨j,by omega,h2,h3⟩
   ·rw[bne_iff_ne.2 g,oCT];obtain⟨C4,T4,e4,PK⟩:=sQ hd hD VA hp;rw[e4,oBS];dsimp only;refine⟨_,rfl,C3,T3,C4,T4,rfl,T8,ot PK λq=>?_⟩;constructor
    ·rintro (⟨j,h1,h2⟩ | rfl)
     ·exact⟨j,by omega,h2⟩
     ·exact⟨i,by omega,g,oGE hi⟩
    ·rintro⟨j,h1,h2,h3⟩;by_cases g:j=i
     ·subst g;rw[oGE hi] at h3
      injection h3 with h3
      exact .inr h3.symm
     ·exact .inl ⟨j,by omega,h2,h3⟩)
  (by
   rintro s ⟨C1,T1,C2,T2,rfl,WN,VA⟩;unfold ch;delta bf;dsimp only;rw[oDF (show ¬ (L.length:Int) < L.length by omega)]
   exact⟨_,rfl,C1,T1,C2,T2,rfl,WN,VA⟩)
  (s:=(k,0,D,U,L,C,T,C,T,())) ⟨C,T,C,T,rfl,⟨hs,λq _=>⟨λ⟨j,h,_⟩=>absurd h (Nat.not_lt_zero j),λ_=>rfl⟩⟩,⟨hs,λq _=>⟨λ⟨j,h,_⟩=>absurd h (Nat.not_lt_zero j),λ_=>rfl⟩⟩⟩ (by unfold NN;omega)
 rw[e];simp only[oBS];have d1:=iV hd WN.1;have d2:=iV hd VA.1;rw[zM d1.2.1 d1.2.2,oBS];dsimp only
 have Pq:C1=D/\T1=U:=by
  refine wx (hD.1.trans WN.1.1.symm) (hD.2.1.trans WN.1.2.1.symm) λq hq=>?_;rw[WN.1.1,WN.1.2.1] at hq;have h4:=WN.2 q hq;by_cases g:pg C T q=pg D U q
  ·by_cases g2:∃j,j < L.length/\L[j]?=some q
   ·exact h4.1 g2
   ·rw[h4.2 g2,g]
  ·have:q∈L:=hL ▸ mf.2 ⟨hq,g⟩;obtain⟨j,hj⟩:=List.mem_iff_getElem?.1 this;exact h4.1 ⟨j,(oGS hj).1,hj⟩
 rw[oDT Pq,oCT];by_cases hz:L.length=0
 ·rw[beq_iff_eq.2 (show (L.length:Int)=0 by omega),oCT,mO];rfl
 rw[oBF (show (L.length:Int)≠0 by omega),oCF,zM d2.2.1 d2.2.2,oBS];dsimp only
 have QQ:¬ (C2=D/\T2=U):=by
  rintro⟨rfl,rfl⟩;obtain⟨n,rfl⟩:∃n:Nat,m=n:=⟨m.toNat,by have:=hm2 (by omega);omega⟩
  have hn:n < L.length:=by have:=hm2 (by omega);omega
  have hp:=hin n hn
  have h4:=(VA.2 L[n] hp.1).2 (by
   rintro⟨j,h1,h2,h3⟩
   have h5:L[j]=L[n]:=by
    rw[oGE h1] at h3;injection h3
   have h6:=(List.nodup_iff_pairwise_ne.1 ZD);rcases Nat.lt_trichotomy j n with g | g | g
   ·exact List.pairwise_iff_getElem.1 h6 j n h1 hn g h5
   ·exact h2 (by omega)
   ·exact List.pairwise_iff_getElem.1 h6 n j hn h1 g h5.symm)
  exact hp.2 h4.symm
 rw[oDF QQ];simp only[Bool.not_false,oCT];rw[mO];rfl
theorem law_DirtyCopies{h0:HL den [RI]}{h1:HL den [I64]}(g0:GoodL _ h0) (g1:GoodL _ h1):fJ.g (appL [RI] _ h0 (appL [I64] _ h1 ()))=some (true,()):=zj h0.1 h1.1
end Go.Proofs.Yteonljfnncdijaa
