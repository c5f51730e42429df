/- Part of the proof; no condition. -/
import Derived.Test.YteonljfnncdijaaDc
import Derived.Deep.Draws
import Derived.Sort.WalkB12
import Derived.Shelf.RegionOpenPlain
import Derived.Shelf.SlSortCmp.WholeK
import Derived.Shelf.SlSortCmp.NoneTotal
import Derived.Shelf.SlicesE.Clone
import Derived.Ground.SlgnProg
import Derived.Test.YteonljfnncdijaaProg
import Derived.Deep.DeepAppendRoom
import Derived.ArgAppend
import Derived.KernelRfl
import Derived.WalkKit
import Derived.WalkSpells
import Derived.Handy
import Derived.OpenShut
import Derived.Deep.Slices
set_option linter.unusedVariables false
set_option linter.unusedSimpArgs false
namespace Go.Proofs.Yteonljfnncdijaa
open Go.RowKit Go.Sort Go.Lib
structure bI (b:Nat) (w w':World):Prop where
 os:w'.os=w.os
 tape:w'.tape=w.tape
 output:w'.output=w.output
 size:w'.heap.size=w.heap.size
 block:∀k,k≠b->w'.heap[k]?=w.heap[k]?
theorem bI.set(b o:Nat) (w:World) (v:Value):bI b w (w.setCell ⟨b,o,none⟩ v):=⟨rfl,rfl,rfl,by simp,λk hk=>Below.heap_setCell w _ v k hk⟩
theorem bI.refl(b:Nat) (w:World):bI b w w:=⟨rfl,rfl,rfl,rfl,λ_ _=>rfl⟩
theorem bI.trans{b:Nat}{w w' X9:World}(h:bI b w w') (h':bI b w' X9):bI b w X9:=
 ⟨h'.os.trans h.os,h'.tape.trans h.tape,h'.output.trans h.output,h'.size.trans h.size,λk hk=>(h'.block k hk).trans (h.block k hk)⟩
theorem bI.setCells(b:Nat):∀(vs:List Value) (o:Nat) (w:World),bI b w (w.setCells b o vs)
 | [],_,_=>bI.refl _ _
 | v :: r,o,w=>(bI.set b o w v).trans (bI.setCells b r (o+1) _)
theorem bI.ahead(b:Nat) (w:World) (n:Nat):bI b w (Sort.ahead w n):=⟨rfl,rfl,rfl,rfl,λ_ _=>rfl⟩
theorem bI.drewN(b:Nat) (w:World) (n:Nat):bI b w (w.drewN n):=⟨rfl,rfl,rfl,rfl,λ_ _=>rfl⟩
theorem bI.putRow(b off:Nat) (w:World) (d:Array PID):bI b w (putRowK cY 2 w b off d):=by
 unfold putRowK Go.Sort.putRow mapBlock;exact⟨rfl,rfl,rfl,by simp,λk hk=>by simp[Array.getElem?_modify,Ne.symm hk]⟩
def eR(w:World) (b off:Nat) (l:List PID):Prop:=∀i (h:i < l.length),w.cell? ⟨b,off+i*2,none⟩=some (.int .i64 l[i].1)/\w.cell? ⟨b,off+i*2+1,none⟩=some (.int .i64 l[i].2)
theorem xR(x y:PID) (w:World):Sem.run Try.prog (binOp .neq 30 (.agg #[.int .i64 x.1,.int .i64 x.2]) (.agg #[.int .i64 y.1,.int .i64 y.2])) w=.ok (.bool (!decide (x=y))) w:=by
 have h:=w4 x y w;rw[run_eql_struct] at h;rw[run_neq_struct];revert h
 cases (Op.equalIn 10000 30 (.agg #[.int .i64 x.1,.int .i64 x.2]) (.agg #[.int .i64 y.1,.int .i64 y.2])).run Try.prog w with
 | ok b w'=>intro h;simp only[Result.andThen_ok] at h ⊢;injection h with h1 h2;injection h1 with h1;rw[h1,h2]
 | _=>intro h;simp[Result.andThen] at h
theorem tZ(op:BinOp) (a b:Operand) (x y:PID) (w:World):Sem.run Try.prog (eqGuard op 30 a b (.agg #[.int .i64 x.1,.int .i64 x.2]) (.agg #[.int .i64 y.1,.int .i64 y.2])) w=.ok () w:=
 (GuardAt.agg (P:=Try.prog) (T:=30) (λx:PID=>#[.int .i64 x.1,.int .i64 x.2]) (by kernel_rfl)) op a b x y w
theorem dc(b:Nat):∀(vs:List Value) (o:Nat) {w:World}{j:Nat},j < o->(w.setCells b o vs).cell? ⟨b,j,none⟩=w.cell? ⟨b,j,none⟩
 | [],_,_,_,_=>rfl
 | v :: r,o,w,j,h=>by
  show ((w.setCell ⟨b,o,none⟩ v).setCells b (o+1) r).cell? _=_;rw[dc b r (o+1) (by omega)];refine World.cell?_setCell_other (h:=?_) ..
  intro e;injection e with _ e _;omega
theorem qm(w:World) (ty:TypeId) (b o n c:Nat) (hn:0 < n) (hc:∀j,j < n*2->(w.cell? ⟨b,o+j,none⟩).isSome=true/\w.frozen? ⟨b,o+j,none⟩=false) :
 (Builtin.clear_ #[24] ty #[.slice (some ⟨b,o,none⟩) n c]).run Try.prog w=.ok (.tuple #[]) (w.setCells b o (List.replicate (n*2) (.int .i64 0))):=by
 have Xq:(Builtin.zeroCells #[.int .i64 0,.int .i64 0] n).toList=List.replicate (n*2) (.int .i64 0):=by
  simp[Builtin.zeroCells];apply List.ext_getElem
  ·simp
  ·intro i h1 h2;simp only[List.getElem_map,List.getElem_replicate]
   rcases Nat.mod_two_eq_zero_or_one i with e | e<;>simp[e]
 have hst:=run_storeCells_cells (P:=Try.prog) b o (List.replicate (n*2) (.int .i64 0)) 0 w (λj hj=>by simpa using (hc j (by simpa using hj)).1) (λj hj=>by simpa using (hc j (by simpa using hj)).2) (by intro v Y1;rw[List.eq_of_mem_replicate Y1];rfl);simp only[Nat.add_zero] at hst;obtain⟨m,rfl⟩:∃m,n=m+1:=⟨n - 1,by omega⟩;have hv:∀w,(zeroValue 30).run Try.prog w=.ok (.agg #[.int .i64 0,.int .i64 0]) w:=Try.zeroValue30;simp[Builtin.clear_,run_underlying Try.underlying24,hv,Value.cells,Xq,hst]
def wC(w w':World) (ZG off:Nat) (d:Array PID):Prop:=eR w' ZG off (compactUpTo d d.size)/\bI ZG w w'
theorem md{w:World}{ZG off:Nat}{d:Array PID}(h:HoldsK cY 2 w ZG off d) {l:List PID}(hl:l.length<=d.size) (he:∀i (h:i < l.length),l[i]=d[i]!):eR w ZG off l:=λi hi=>by
 have:=bD h (i:=i) (by omega);rw[he i hi];exact⟨this.1,this.2.1⟩
set_option maxHeartbeats 8000000 in
set_option maxRecDepth 1000000 in
theorem nM(ZG off cap:Nat) (d:Array PID) (w:World) (hH:HoldsK cY 2 w ZG off d) (hcap:d.size<=cap) (hsz:d.size<=4611686018427387904) :
 Calls Try.prog 55 #[.slice (some ⟨ZG,off,none⟩) d.size cap] w λe w'=>e=.returned (.slice (some ⟨ZG,off,none⟩) (compactUpTo d d.size).length cap)/\wC w w' ZG off d:=by
 have mixed:Try.prog.follows .mixedOrders=true:=by kernel_rfl
 have Qr:=λx y w=>w4 x y w;have QN:=λx y w=>xR x y w;have Qw:=λop a b x y w=>tZ op a b x y w
 have Xy:∀q,(∀j,j < d.size->keeps d j=true)->(compactUpTo d d.size).length=d.size/\wC w (w.drewN q) ZG off d:=by
  intro q ZS
  have e:compactUpTo d d.size=d.toList:=by rw[compactUpTo_all d _ ZS,range_map_get]
  refine⟨by rw[e];simp,?_,bI.drewN _ _ _⟩;rw[e]
  exact md (d:=d) (holdsK_ahead cY 2 w q ZG off d hH) (by simp) λi hi=>by simp at hi;simp[hi]
 have HS:Aside (∀q,(∀j,j < d.size->keeps d j=true)->(compactUpTo d d.size).length=d.size/\wC w (w.drewN q) ZG off d):=Xy;clear Xy;by_cases h2:d.size < 2
 ·have HH:Aside (HoldsK cY 2 w ZG off d):=hH;clear hH
  go_enter Try.func55,Try.ntmps55
  go_wp2
  go_ret
  obtain⟨e1,e2⟩:=HS.out 0 (λj hj=>keeps_lt_one d j (by omega));exact⟨by rw[e1];rfl,e2⟩
 ·go_enter Try.func55,Try.ntmps55
  go_wp2
  go_loopg [3] d.size (λg s3 wr=>∃k q:Nat,1<=k/\k<=d.size/\d.size - k<=g/\s3=.int .i64 k/\wr=w.drewN q/\∀j,j < k->keeps d j=true)
  case atStart=>exact⟨1,0,Nat.le_refl _,by omega,by omega,rfl,rfl,keeps_lt_one d⟩
  case round=>
   obtain⟨k,q,Yz,hk,hg,rfl,rfl,ZS⟩:=hrel;by_cases hlt:k < d.size
   ·obtain⟨c1,Ru,f1,P5⟩:=bD hH hlt;obtain⟨c0,Rt,f0,P4⟩:=bD hH (i:=k - 1) (by omega);have A:Aside (∀j,j < k->keeps d j=true):=ZS;have HH:Aside (HoldsK cY 2 w ZG off d):=hH;clear ZS hH;generalize hx:d[k]! = x at c1 Ru;generalize hy:d[k - 1]! = y at c0 Rt;have B:Aside (d[k]! = x/\d[k - 1]! = y):=⟨hx,hy⟩;clear hx hy;by_cases hdup:x=y
    ·subst hdup
     go_wp2_with fail
     go_region_o
     go_wp2
     clear c0 c1 Rt Ru f0 f1 P4 P5
     go_loopg [3,5] d.size (λg s3 s5 wr=>∃(kk k2 q2:Nat) (dk:Array PID),s3=.int .i64 kk/\s5=.int .i64 k2/\1<=k2/\k+k2<=d.size/\d.size - (k+k2)<=g/\wr=putRowK cY 2 (Sort.ahead w q2) ZG off dk/\CompInv d (k+k2) kk dk)
     case atStart=>exact⟨k,1,q+1,d,rfl,rfl,Nat.le_refl _,by omega,by omega,(putRowK_self cY 2 (Sort.ahead w (q+1)) ZG off d (holdsK_ahead cY 2 w (q+1) ZG off d HH.out)).symm,CompInv.start A.out (keeps_neg (by omega) (by rw[B.out.1,B.out.2]))⟩
     case round=>
      obtain⟨kk,k2,q2,dk,rfl,rfl,h1,YU,ZO,U9,hI⟩:=hrel;have hkk:=hI.lt;have hds:=hI.size
      have VA:HoldsK cY 2 wr ZG off dk:=by rw[U9];exact holdsK_putRowK cY 2 _ ZG off d dk (holdsK_ahead cY 2 w q2 ZG off d HH.out) hds
      have W2:Aside (wr=putRowK cY 2 (Sort.ahead w q2) ZG off dk):=U9;have I2:Aside (CompInv d (k+k2) kk dk):=hI;clear U9;by_cases hlt2:k+k2 < d.size
      ·obtain⟨cm,Rv,_,_⟩:=bD VA (i:=k+k2) (by omega);obtain⟨cp,Rw,_,_⟩:=bD VA (i:=k+k2 - 1) (by omega);obtain⟨ck,P0,fk,PE⟩:=bD VA (i:=kk) (by omega);rw[hI.high (k+k2) (by omega),show off+(k+k2)*2=off+k*2+k2*2 by omega] at cm Rv;rw[hI.high (k+k2 - 1) (by omega),show off+(k+k2 - 1)*2=off+k*2+(k2 - 1)*2 by omega] at cp Rw;clear VA hI;generalize hu:d[k+k2]! = u at cm Rv;generalize hv:d[k+k2 - 1]! = v at cp Rw;generalize dk[kk]! = old at ck P0;have C:Aside (d[k+k2]! = u/\d[k+k2 - 1]! = v):=⟨hu,hv⟩;clear hu hv;by_cases huv:u=v
       ·subst huv
        go_wp2_with fail
        go_region_o
        go_wp2
        go_roundg (d.size - (k+(k2+1)))
        case measure=>omega
        case rel=>exact⟨kk,k2+1,q2+1,dk,rfl,by go_num,by omega,by omega,Nat.le_refl _,by rw[W2.out];rfl,I2.out.skip (keeps_neg (by omega) (by rw[C.out.1,C.out.2]))⟩
       ·go_wp2_with fail
        go_region_o
        go_wp2
        go_roundg (d.size - (k+(k2+1)))
        case measure=>omega
        case rel=>exact⟨kk+1,k2+1,q2+1,dk.setIfInBounds kk u,by go_num,by go_num,by omega,by omega,Nat.le_refl _,wU (by omega) W2.out u,by have:=I2.out.keep hlt2 (keeps_pos (by rw[C.out.1,C.out.2];exact huv));rwa [C.out.1] at this⟩
      ·have XY:k+k2=d.size:=by omega
       have Zc:∀ty,(Builtin.clear_ #[24] ty #[.slice (some ⟨ZG,off+kk*2,none⟩) (d.size - kk) (cap - kk)]).run Try.prog wr=.ok (.tuple #[]) (wr.setCells ZG (off+kk*2) (List.replicate ((d.size - kk)*2) (.int .i64 0))):=λty=>qm wr ty ZG (off+kk*2) (d.size - kk) (cap - kk) (by omega) λj hj=>by
        have h:=bD VA (i:=kk+j / 2) (by omega);rcases Nat.mod_two_eq_zero_or_one j with e | e
        ·rw[show off+kk*2+j=off+(kk+j / 2)*2 by omega];exact⟨by rw[h.1];rfl,h.2.2.1⟩
        ·rw[show off+kk*2+j=off+(kk+j / 2)*2+1 by omega];exact⟨by rw[h.2.1];rfl,h.2.2.2⟩
       have HK:=Lib.hid VA;clear VA hI
       go_wp2
       go_ret
       have hI:=I2.out;rw[XY] at hI;have hl:=hI.len;refine⟨by rw[hl];rfl,λi hi=>?_,?_⟩
       ·rw[hl] at hi;have UD:=hI.low i hi;obtain⟨g1,g2,_,_⟩:=bD HK.out (i:=i) (by omega)
        have e:(compactUpTo d d.size)[i]'(by rw[hl];exact hi)=dk[i]!:=by
         have:=oGS UD;exact this.2
        rw[e];exact⟨by rw[dc _ _ _ (by omega)];exact g1,by rw[dc _ _ _ (by omega)];exact g2⟩
       ·rw[W2.out];exact ((bI.ahead _ _ _).trans (bI.putRow _ _ _ _)).trans (bI.setCells _ _ _ _)
    ·go_wp2_with fail
     go_region_o
     go_wp2
     go_roundg (d.size - (k+1))
     case measure=>omega
     case rel=>
      refine⟨k+1,q+1,by omega,by omega,Nat.le_refl _,by go_num,rfl,λj hj=>?_⟩;by_cases e:j=k
      ·subst e;exact keeps_pos (by rw[B.out.1,B.out.2];exact hdup)
      ·exact A.out j (by omega)
   ·have:k=d.size:=by omega
    subst this;have HH:Aside (HoldsK cY 2 w ZG off d):=hH;clear hH
    go_wp2
    go_ret
    obtain⟨e1,e2⟩:=HS.out q ZS;exact⟨by rw[e1];rfl,e2⟩
theorem eA(a b:PID):b6 a b=true↔(a.1≠-1/\b.1=-1)\/((a.1=-1↔b.1=-1)/\(a.1 < b.1\/a.1=b.1/\a.2 < b.2)):=by
 unfold b6;by_cases h1:a.1=-1<;>by_cases h2:b.1=-1<;>simp[h1,h2,oBF]
theorem dU(a:PID):b6 a a=false:=by
 rw[<- Bool.not_eq_true,eA];omega
theorem eJ{a b c:PID}(h1:b6 a b=true) (h2:b6 b c=true):b6 a c=true:=by
 rw[eA] at *;omega
theorem jL{a b:PID}(h1:b6 a b=false) (h2:b6 b a=false):a=b:=by
 rw[<- Bool.not_eq_true,eA] at *
 have e1:a.1=b.1:=by omega
 have e2:a.2=b.2:=by omega
 exact Prod.ext e1 e2
theorem nZ{a b:PID}(h1:b6 a b=true):b6 b a=false:=by
 rw[<- Bool.not_eq_true];intro h2;have:=eJ h1 h2;rw[dU] at this;cases this
theorem kA(a b:Int):(a < b/\lD a b=-1)\/(a=b/\lD a b=0)\/(b < a/\lD a b=1):=by
 unfold lD;by_cases h:a < b
 ·exact .inl ⟨h,oIP h⟩
 ·rw[oIN h];by_cases h2:b < a
  ·exact .inr (.inr ⟨h2,oIP h2⟩)
  ·exact .inr (.inl ⟨by omega,oIN h2⟩)
theorem jn(a:Int):(a=-1/\gt a=1)\/(a≠-1/\gt a=0):=by
 unfold gt;by_cases h:a=-1
 ·exact .inl ⟨h,oIP h⟩
 ·exact .inr ⟨h,oIN h⟩
theorem iP(x y:PID):ltOf s9 x y=b6 x y:=by
 rw[Bool.eq_iff_iff,eA];unfold ltOf s9;rw[decide_eq_true_iff]
 rcases jn x.1 with ⟨h1,e1⟩ | ⟨h1,e1⟩<;>rcases jn y.1 with ⟨h2,e2⟩ | ⟨h2,e2⟩<;>rw[e1,e2]<;>rcases kA x.1 y.1 with ⟨h3,e3⟩ | ⟨h3,e3⟩ | ⟨h3,e3⟩<;>rw[e3] <;>
  rcases kA x.2 y.2 with ⟨h4,e4⟩ | ⟨h4,e4⟩ | ⟨h4,e4⟩<;>rw[e4]<;>simp only[orI,lD]<;>simp<;>omega
theorem vi:SWO (ltOf s9) where
 irrefl x:=by rw[iP];exact dU x
 trans x y z h1 h2:=by rw[iP] at *;exact eJ h1 h2
 ntrans x y z h1 h2:=by
  rw[iP] at *;rw[<- Bool.not_eq_true,eA] at *;omega
abbrev Asc(l:List PID):Prop:=l.Pairwise λa b=>b6 a b=true
theorem kD:∀{a b:List PID},Asc a->Asc b->(∀x,x∈a↔x∈b)->a=b
 | [],[],_,_,_=>rfl
 | [],y :: b,_,_,h=>by have:=(h y).2 (by simp);simp at this
 | x :: a,[],_,_,h=>by have:=(h x).1 (by simp);simp at this
 | x :: a,y :: b,ha,hb,h=>by
  have VB:=List.pairwise_cons.1 ha;have Y2:=List.pairwise_cons.1 hb
  have e:x=y:=by
   have h1:=(h x).1 (by simp);have h2:=(h y).2 (by simp);rcases List.mem_cons.1 h1 with e | h1
   ·exact e
   ·rcases List.mem_cons.1 h2 with e | h2
    ·exact e.symm
    ·have g1:=Y2.1 x h1;have g2:=VB.1 y h2;rw[nZ g1] at g2;cases g2
  subst e;rw[kD VB.2 Y2.2 λz=>?_];constructor
  ·intro hz;rcases List.mem_cons.1 ((h z).1 (by simp[hz])) with e | h1
   ·subst e;have:=VB.1 z hz;rw[dU] at this;cases this
   ·exact h1
  ·intro hz;rcases List.mem_cons.1 ((h z).2 (by simp[hz])) with e | h1
   ·subst e;have:=Y2.1 z hz;rw[dU] at this;cases this
   ·exact h1
theorem nn(x z:PID):∀{l:List PID},z∈nq l x↔z=x\/z∈l
 | []=>by simp[nq]
 | y :: r=>by
  unfold nq;split
  ·rw[List.mem_cons,nn x z,List.mem_cons];constructor
   ·rintro (h | h | h)<;>simp[h]
   ·rintro (h | h | h)<;>simp[h]
  ·split
   ·rename_i e;subst e;simp
   ·simp
theorem sg(x:PID):∀{l:List PID},Asc l->Asc (nq l x)
 | [],_=>by simp[nq]
 | y :: r,h=>by
  have h':=List.pairwise_cons.1 h;unfold nq;split
  ·rename_i hy;refine List.pairwise_cons.2 ⟨λz hz=>?_,sg x h'.2⟩;rcases (nn x z).1 hz with rfl | hz
   ·exact hy
   ·exact h'.1 z hz
  ·rename_i hy;split
   ·exact h
   ·rename_i hne
    have Vu:b6 x y=true:=by
     rw[<- Bool.not_eq_false];intro e;exact hne (jL (by simpa using hy) e)
    refine List.pairwise_cons.2 ⟨λz hz=>?_,h⟩;rcases List.mem_cons.1 hz with rfl | hz
    ·exact Vu
    ·exact eJ Vu (h'.1 z hz)
theorem mj(l:List PID):∀{a:List PID},Asc a->Asc (l.foldl nq a)/\∀z,z∈l.foldl nq a↔z∈l\/z∈a:=by
 induction l with
 | nil=>intro a h;exact⟨h,λz=>by simp⟩
 | cons x l ih=>
  intro a h;obtain⟨h1,h2⟩:=ih (sg x h);refine⟨h1,λz=>?_⟩;rw[List.foldl_cons,h2,nn,List.mem_cons];constructor
  ·rintro (h | h | h)<;>simp[h]
  ·rintro ((h | h) | h)<;>simp[h]
theorem eX(l:List PID):Asc (cJ l):=(mj l (a:=[]) List.Pairwise.nil).1
theorem ge(l:List PID) (z:PID):z∈cJ l↔z∈l:=by
 rw[cJ,(mj l (a:=[]) List.Pairwise.nil).2];simp
theorem sortP_eq{l m:List PID}(h:Asc m) (hm:∀z,z∈m↔z∈l):cJ l=m:=kD (eX l) h λz=>(ge l z).trans (hm z).symm
theorem jY(d:Array PID) (hs:∀i,i+1 < d.size->b6 d[i+1]! d[i]! = false):∀m,m<=d.size ->
 Asc (compactUpTo d m)/\(∀z,z∈compactUpTo d m↔∃i,i < m/\z=d[i]!)/\(0 < m->∀z∈compactUpTo d m,z=d[m - 1]!\/b6 z d[m - 1]! = true):=by
 intro m
 induction m with
 | zero=>intro _;refine⟨by simp[compactUpTo],λz=>by simp[compactUpTo],λh=>by omega⟩
 | succ m ih=>
  intro hm;obtain⟨h1,h2,h3⟩:=ih (by omega);rw[compactUpTo_succ];by_cases h0:m=0
  ·subst h0;have:keeps d 0=true:=keeps_lt_one d 0 (by omega);rw[this];refine⟨by simp[compactUpTo],λz=>?_,λ_ z hz=>?_⟩
   ·simp only[compactUpTo,List.range_zero,List.filter_nil,List.map_nil,if_true,List.nil_append,List.mem_singleton];constructor
    ·intro e;exact⟨0,by omega,e⟩
    ·rintro⟨i,hi,e⟩;rw[e];congr 1;omega
   ·simp[compactUpTo] at hz;exact .inl hz
  ·have Vy:=h3 (by omega);have R7:=hs (m - 1) (by omega);rw[show m - 1+1=m by omega] at R7;by_cases e:d[m]! = d[m - 1]!
   ·rw[keeps_neg (by omega) e];simp only[Bool.false_eq_true,if_false,List.append_nil];refine⟨h1,λz=>?_,λ_ z hz=>?_⟩
    ·rw[h2];constructor
     ·rintro⟨i,hi,hz⟩;exact⟨i,by omega,hz⟩
     ·rintro⟨i,hi,hz⟩;by_cases hi2:i=m
      ·subst hi2;exact⟨i - 1,by omega,by rw[hz,e]⟩
      ·exact⟨i,by omega,hz⟩
    ·rw[Nat.add_sub_cancel,e];exact Vy z hz
   ·rw[keeps_pos e];simp only[if_true]
    have hlt:b6 d[m - 1]! d[m]! = true:=by
     rw[<- Bool.not_eq_false];intro g;exact e (jL R7 g)
    have ZS:∀z∈compactUpTo d m,b6 z d[m]! = true:=λz hz=>by
     rcases Vy z hz with g | g
     ·rw[g];exact hlt
     ·exact eJ g hlt
    refine⟨List.pairwise_append.2 ⟨h1,by simp,λa ha b hb=>?_⟩,λz=>?_,λ_ z hz=>?_⟩
    ·rw[List.mem_singleton.1 hb];exact ZS a ha
    ·rw[List.mem_append,h2,List.mem_singleton];constructor
     ·rintro (⟨i,hi,hz⟩ | hz)
      ·exact⟨i,by omega,hz⟩
      ·exact⟨m,by omega,hz⟩
     ·rintro⟨i,hi,hz⟩;by_cases hi2:i=m
      ·subst hi2;exact .inr hz
      ·exact .inl ⟨i,by omega,hz⟩
    ·rw[Nat.add_sub_cancel];rcases List.mem_append.1 hz with hz | hz
     ·exact .inr (ZS z hz)
     ·exact .inl (List.mem_singleton.1 hz)
theorem ly{l:List PID}{d:Array PID}(hp:∀z,z∈d.toList↔z∈l) (hs:∀i,i+1 < d.size->b6 d[i+1]! d[i]! = false):compactUpTo d d.size=cJ l:=by
 obtain⟨h1,h2,_⟩:=jY d hs d.size (Nat.le_refl _);refine (sortP_eq h1 λz=>?_).symm;rw[h2,<- hp];constructor
 ·rintro⟨i,hi,e⟩;rw[e];simp[hi]
 ·intro hz;obtain⟨i,hi,e⟩:=List.getElem_of_mem hz
  have ZW:i < d.size:=by simpa using hi
  exact⟨i,ZW,by rw[<- e];simp[ZW]⟩
end Go.Proofs.Yteonljfnncdijaa
namespace Go.Proofs.Yteonljfnncdijaa
open Go.Shelf
def mW:Go.Shelf.Ren:=⟨λ| 6=>54 | 15=>67 | 14=>66 | 28=>85 | 29=>86 | 20=>77 | 21=>78 | 22=>79 | 23=>80 | 24=>81 | 25=>82 | 26=>83 | 27=>84 | 46=>89 | 47=>90 | 48=>91 | 49=>92 | 50=>93 | 57=>94 | n=>n,λ| 22=>24 | 24=>30 | 25=>68 | 3=>3 | 39=>98 | 0=>0 | 53=>114 | 55=>116 | 4=>4 | 46=>107 | 45=>106 | 50=>111 | 5=>5 | 9=>9 | 66=>119 | 70=>123 | 76=>125 | 77=>126 | n=>n,λ| n=>n⟩
theorem qH:Go.Proofs.SlLaysF0.n6 Try.prog mW:={
 mixed:=by kernel_rfl
 f6:=⟨Try.f54.name,by decide,Try.func54.trans (congrArg some (by kernel_rfl))⟩
 f14:=⟨Try.f66.name,by decide,Try.func66.trans (congrArg some (by kernel_rfl))⟩
 f15:=Try.func67.trans (congrArg some (by kernel_rfl))
 f20:=⟨Try.f77.name,by decide,Try.func77.trans (congrArg some (by kernel_rfl))⟩
 f21:=⟨Try.f78.name,by decide,Try.func78.trans (congrArg some (by kernel_rfl))⟩
 f22:=⟨Try.f79.name,by decide,Try.func79.trans (congrArg some (by kernel_rfl))⟩
 f23:=⟨Try.f80.name,by decide,Try.func80.trans (congrArg some (by kernel_rfl))⟩
 f24:=⟨Try.f81.name,by decide,Try.func81.trans (congrArg some (by kernel_rfl))⟩
 f25:=⟨Try.f82.name,by decide,Try.func82.trans (congrArg some (by kernel_rfl))⟩
 f26:=⟨Try.f83.name,by decide,Try.func83.trans (congrArg some (by kernel_rfl))⟩
 f27:=⟨Try.f84.name,by decide,Try.func84.trans (congrArg some (by kernel_rfl))⟩
 f28:=Try.func85.trans (congrArg some (by kernel_rfl))
 f29:=Try.func86.trans (congrArg some (by kernel_rfl))
 f46:=⟨Try.f89.name,by decide,Try.func89.trans (congrArg some (by kernel_rfl))⟩
 f47:=Try.func90.trans (congrArg some (by kernel_rfl))
 f48:=Try.func91.trans (congrArg some (by kernel_rfl))
 f49:=⟨Try.f92.name,by decide,Try.func92.trans (congrArg some (by kernel_rfl))⟩
 f50:=⟨Try.f93.name,by decide,Try.func93.trans (congrArg some (by kernel_rfl))⟩
 f57:=⟨Try.f94.name,by decide,Try.func94.trans (congrArg some (by kernel_rfl))⟩
 t0:=Try.underlying0
 a0:=Try.isAgg0
 z0:=Try.sizeOf0
 v0:=Try.zeroValue0
 t3:=Try.underlying3
 a3:=Try.isAgg3
 z3:=Try.sizeOf3
 v3:=Try.zeroValue3
 t4:=Try.underlying4
 a4:=Try.isAgg4
 z4:=Try.sizeOf4
 v4:=Try.zeroValue4
 t5:=Try.underlying5
 a5:=Try.isAgg5
 z5:=Try.sizeOf5
 v5:=Try.zeroValue5
 t9:=Try.underlying9
 a9:=Try.isAgg9
 z9:=Try.sizeOf9
 v9:=Try.zeroValue9
 t22:=Try.underlying24
 a22:=Try.isAgg24
 z22:=Try.sizeOf24
 v22:=Try.zeroValue24
 t25:=Try.underlying68
 a25:=Try.isAgg68
 z25:=Try.sizeOf68
 v25:=Try.zeroValue68
 t39:=Try.underlying98
 a39:=Try.isAgg98
 z39:=Try.sizeOf98
 v39:=Try.zeroValue98
 t45:=Try.underlying106
 a45:=Try.isAgg106
 z45:=Try.sizeOf106
 v45:=Try.zeroValue106
 t46:=Try.underlying107
 a46:=Try.isAgg107
 z46:=Try.sizeOf107
 v46:=Try.zeroValue107
 t50:=Try.underlying111
 a50:=Try.isAgg111
 z50:=Try.sizeOf111
 v50:=Try.zeroValue111
 t53:=Try.underlying114
 a53:=Try.isAgg114
 z53:=Try.sizeOf114
 v53:=Try.zeroValue114
 t55:=Try.underlying116
 a55:=Try.isAgg116
 z55:=Try.sizeOf116
 v55:=Try.zeroValue116
 t66:=Try.underlying119
 a66:=Try.isAgg119
 z66:=Try.sizeOf119
 v66:=Try.zeroValue119
 t70:=Try.underlying123
 a70:=Try.isAgg123
 z70:=Try.sizeOf123
 v70:=Try.zeroValue123
 t76:=Try.underlying125
 a76:=Try.isAgg125
 z76:=Try.sizeOf125
 v76:=Try.zeroValue125
 t77:=Try.underlying126
 a77:=Try.isAgg126
 z77:=Try.sizeOf126
 v77:=Try.zeroValue126 }
def mC:Go.Shelf.Ren:=⟨λ| 41=>35 | n=>n,λ| 22=>24 | 23=>30 | 4=>4 | n=>n,λ| n=>n⟩
theorem o8:Go.Proofs.SlLaysE0.n41 Try.prog mC:={
 mixed:=by kernel_rfl
 f41:=⟨Try.f35.name,by decide,Try.func35.trans (congrArg some (by kernel_rfl))⟩
 t4:=Try.underlying4
 a4:=Try.isAgg4
 z4:=Try.sizeOf4
 v4:=Try.zeroValue4
 t22:=Try.underlying24
 a22:=Try.isAgg24
 z22:=Try.sizeOf24
 v22:=Try.zeroValue24 }
end Go.Proofs.Yteonljfnncdijaa
namespace Go.Proofs.Yteonljfnncdijaa
open Go.RowKit Go.Sort Go.Lib
theorem mz(p:Option Addr) (cap:Nat) (w:World):Calls Try.prog 55 #[.slice p 0 cap] w λe w'=>e=.returned (.slice p 0 cap)/\w'=w:=by
 go_enter Try.func55,Try.ntmps55
 go_wp2
 go_ret
 exact⟨rfl,rfl⟩
theorem qF(p:Option Addr) (cap:Nat) (fv:Value) (w:World):Calls Try.prog 54 #[.slice p 0 cap,fv] w λe w'=>e=.returned (.tuple #[])/\w'=w:=
 AnyF.slices_SortFunc_none qH p cap fv w
theorem to(ZG cap:Nat) (d:Array PID) (w:World) (hH:HoldsK cY 2 w ZG 0 d) (Wr:ZG < w.heap.size) (hsz:d.size < 4611686018427387904) :
 Calls Try.prog 54 #[.slice (some ⟨ZG,0,none⟩) d.size cap,.func (.func 33) #[] #[]] w λe w'=>
  e=.returned (.tuple #[])/\∃d' n os,PermIn 0 d.size d d'/\SortedIn (ltOf s9) 0 d.size d'/\w'=sortWorldK cY 2 w ZG 0 n d' os:=by
 have eg:∀args w,(callFunc 33 args).run Try.prog w=.ok (.enter 33 args) w:=fi Try.func33 (by kernel_rfl) rfl;have SW:CmpLays Try.prog 33 #[] cY 2 s9 ZG 0 d.size w:=λ_ _ _ _ x y=>rT x y _;exact AnyQ.slices_SortFunc qH 2 Try.isAgg30 Try.sizeOf30 cY (λ_=>rfl) (λx v hv=>by simp[cY] at hv;rcases hv with rfl | rfl<;>rfl) s9 vi 33 #[] ZG 0 cap d w eg SW hH Wr hsz
theorem iL:∃i z,Try.prog.info? 30=some i/\i.zero=some z/\i.size=2/\i.bytes=16/\z.cells.size=2:=by
 have h:(match Try.prog.info? 30 with | some i=>(match i.zero with | some z=>decide (i.size=2) && decide (i.bytes=16) && decide (z.cells.size=2) | none=>false) | none=>false)=true:=by kernel_rfl
 revert h
 cases Try.prog.info? 30 with
 | none=>intro h;cases h
 | some i=>
  intro h;simp only at h
  cases hz:i.zero with
  | none=>rw[hz] at h;cases h
  | some z=>
   rw[hz] at h;simp only[oBA,oDE] at h;exact⟨i,z,rfl,hz,h.1.1,h.1.2,h.2⟩
def c8(l:List PID):List Value:=l.flatMap cY
theorem ju(l:List PID):(c8 l).length=l.length*2:=by
 induction l with
 | nil=>rfl
 | cons x l ih=>simp[c8,cY] at ih ⊢;omega
theorem jv:∀(l:List PID) (i:Nat) (h:i < l.length),(c8 l)[i*2]?=some (.int .i64 l[i].1)/\(c8 l)[i*2+1]?=some (.int .i64 l[i].2)
 | x :: l,0,_=>⟨rfl,rfl⟩
 | x :: l,i+1,h=>by
  have:=jv l i (by simpa using h);have e:c8 (x :: l)=.int .i64 x.1 :: .int .i64 x.2 :: c8 l:=rfl;rw[e,show (i+1)*2=i*2+1+1 by omega];simpa using this
theorem mp(l:List PID):∀u∈c8 l,u.oneCell'=true:=by
 intro u hu;simp[c8,cY] at hu;obtain⟨_,_,_,h | h⟩:=hu<;>rw[h]<;>rfl
theorem jw{w:World}{b o:Nat}{l:List PID}(h:eR w b o l):∀j u,(c8 l)[j]?=some u->w.cell? ⟨b,o+j,none⟩=some u:=by
 intro j u hu
 have hj:j < l.length*2:=by rw[<- ju];exact (oGS hu).1
 have hi:j / 2 < l.length:=by omega
 have g:=jv l (j / 2) hi;have hc:=h (j / 2) hi;rcases Nat.mod_two_eq_zero_or_one j with e | e
 ·rw[show j=j / 2*2 by omega] at hu ⊢;rw[g.1] at hu
  injection hu with hu
  rw[<- hu];exact hc.1
 ·rw[show j=j / 2*2+1 by omega] at hu ⊢;rw[g.2] at hu
  injection hu with hu
  rw[<- hu,<- Nat.add_assoc];exact hc.2
theorem kt{w:World}{g cap:Nat}{cur:Array Value}{e:TypeId}{l:List PID}(hg:w.heap[g]?=some (.cells cur e (0,0))) (hcur:cur.size=cap*2) (hl:l.length<=cap) (ht:cur.toList.take (l.length*2)=c8 l):HoldsK cY 2 w g 0 l.toArray:=by
 intro j hj;rw[size_flatK] at hj
 have ZY:j < l.length*2:=by simpa using hj
 rw[Nat.zero_add,get_flatK _ _ _ _ hj,cell_of_row w g j cur e (0,0) hg]
 have hi:j / 2 < l.length:=by omega
 have e1:(c8 l)[j]?=cur.toList[j]?:=by rw[<- ht,List.getElem?_take_of_lt ZY]
 have e2:cur[j]?=cur.toList[j]?:=by simp
 have gg:=jv l (j / 2) hi
 have e3:l.toArray[j / 2]! = l[j / 2]:=by simp[hi]
 refine⟨?_,?_⟩
 ·rw[e2,<- e1,e3];rcases Nat.mod_two_eq_zero_or_one j with e | e
  ·rw[e];have:=gg.1;rw[show j / 2*2=j by omega] at this;exact this
  ·rw[e];have:=gg.2;rw[show j / 2*2+1=j by omega] at this;exact this
 ·simp[World.frozen?,hg]
theorem qk(ad:Addr) (cap:Nat) (w:World):Calls Try.prog 35 #[.slice (some ad) 0 cap] w λe w'=>Below w.heap.size w w'/\∃p,e=.returned (.slice p 0 0):=by
 obtain⟨i,z,hi,_⟩:=iL;have q:∀(w:World) (a:Option Addr) (n c n' c':Nat),(binOp .eql 24 (.slice a n c) (.slice none n' c')).run Try.prog w=.ok (.bool a.isNone) w:=λw a n c n' c'=>Lib.run_eql_slice_nil w _ _ a n c n' c' Try.underlying24;have hz:∀(w:World) (ty:TypeId) (s:Option Addr),(Builtin.append_ #[24,24] ty #[.slice s 0 0,.slice (some ad) 0 cap]).run Try.prog w=.ok (.slice s 0 0) w:=λw ty s=>cw w 24 ty 30 i Try.underlying24 hi s 0 0 (Nat.le_refl _) (some ad) cap;clear hi
 go_enter Try.func35,Try.ntmps35
 go_wp2
 go_ret
 exact⟨Below.alloc (Below.refl _ _) (Nat.le_refl _) _,_,rfl⟩
theorem sH(l:List PID) (a:Option Addr) (cap:Nat) (w:World) (ha:l≠[]->∃b o,a=some ⟨b,o,none⟩/\eR w b o l) (hl:l.length<=1099511627776) :
 Calls Try.prog 35 #[.slice a l.length cap] w λe w'=>Below w.heap.size w w'/\((l=[]/\∃p,e=.returned (.slice p 0 0)) \/
  ∃g c,e=.returned (.slice (some ⟨g,0,none⟩) l.length c)/\w.heap.size<=g/\g < w'.heap.size/\l.length<=c/\c<=maxLen/\HoldsK cY 2 w' g 0 l.toArray):=by
 obtain⟨i,z,hi,hz,hsz,XF,YE⟩:=iL
 have ZZ:∀b o,a=some ⟨b,o,none⟩->(∀j u,(c8 l)[j]?=some u->w.cell? ⟨b,o+j,none⟩=some u)->Calls Try.prog 35 #[.slice a l.length cap] w λe w'=>Below w.heap.size w w'/\((l=[]/\∃p,e=.returned (.slice p 0 0)) \/
  ∃g c,e=.returned (.slice (some ⟨g,0,none⟩) l.length c)/\w.heap.size<=g/\g < w'.heap.size/\l.length<=c/\c<=maxLen/\HoldsK cY 2 w' g 0 l.toArray):=by
  rintro b o rfl hc;have h:=AnyE.slices_Clone o8 i z 2 16 hi hz hsz XF YE (by omega) Try.sizeOf30 b o l.length cap (c8 l) w (ju l) (by unfold maxLen;omega) (by omega) hc (mp l);refine h.mono λe w' ⟨v',he,hown,_,hb⟩=>⟨hb,?_⟩;rcases hown.2 with ⟨rfl,hn⟩ | ⟨g,c,cur,rfl,hg,Vl,hcap,hmax,hcur,Y9⟩
  ·exact .inl ⟨oEN hn,none,he⟩
  ·exact .inr ⟨g,c,he,hg,(Array.getElem?_eq_some_iff.1 Vl).1,hcap,hmax,kt Vl hcur hcap Y9⟩
 by_cases hn:l=[]
 ·subst hn
  cases a with
  | none=>exact (AnyE.slices_Clone_nil o8 0 cap w).mono λe w' ⟨he,hw⟩=>by subst hw;exact⟨Below.refl _ _,.inl ⟨rfl,none,he⟩⟩
  | some ad=>exact (qk ad cap w).mono λe w' ⟨hb,h⟩=>⟨hb,.inl ⟨rfl,h⟩⟩
 ·obtain⟨b,o,e,hh⟩:=ha hn;exact ZZ b o e (jw hh)
theorem jJ{w w' X9:World}{g:Nat}(hb:Below w.heap.size w w') (hg:w.heap.size<=g) (h:bI g w' X9):Below w.heap.size w X9:=
 ⟨h.os.trans hb.os,h.tape.trans hb.tape,h.output.trans hb.output,by rw[h.size];exact hb.size,λk hk=>(h.block k (by omega)).trans (hb.block k hk)⟩
theorem qq{w w':World}{g n:Nat}{d:Array PID}{os:Array Obj}(hb:Below w.heap.size w w') (hg:w.heap.size<=g):Below w.heap.size w (sortWorldK cY 2 w' g 0 n d os):=by
 have h1:bI g w' (putRowK cY 2 (Sort.ahead w' n) g 0 d):=(bI.ahead g w' n).trans (bI.putRow g 0 _ d);have h2:=jJ hb hg h1;have e:sortWorldK cY 2 w' g 0 n d os=grow (putRowK cY 2 (Sort.ahead w' n) g 0 d) os:=rfl;rw[e];refine⟨h2.os,h2.tape,h2.output,Nat.le_trans h2.size (by simp[grow]),λk hk=>?_⟩;rw[<- h2.block k hk];show (_++os)[k]?=_;exact Array.getElem?_append_left (Nat.lt_of_lt_of_le hk h2.size)
theorem p5{w':World}{g n:Nat}{d d':Array PID}{os:Array Obj}(h:HoldsK cY 2 w' g 0 d) (hg:g < w'.heap.size) (hs:d'.size=d.size):HoldsK cY 2 (sortWorldK cY 2 w' g 0 n d' os) g 0 d':=by
 have e:sortWorldK cY 2 w' g 0 n d' os=grow (putRowK cY 2 (Sort.ahead w' n) g 0 d') os:=rfl;rw[e];exact holdsK_grow cY 2 _ os g 0 d' (by unfold putRowK;simpa using hg) (holdsK_putRowK cY 2 _ g 0 d d' (holdsK_ahead cY 2 w' n g 0 d h) hs)
theorem sf(x:PID):∀l:List PID,(nq l x).length<=l.length+1
 | []=>by simp[nq]
 | y :: r=>by
  unfold nq;split
  ·have:=sf x r;simp;omega
  ·split<;>simp
theorem gf(l:List PID):(cJ l).length<=l.length:=by
 have ZZ:∀(l a:List PID),(l.foldl nq a).length<=a.length+l.length:=by
  intro l
  induction l with
  | nil=>intro a;simp
  | cons x l ih=>
   intro a;have h1:=ih (nq a x);have h2:=sf x a;simp only[List.foldl_cons,oLC];omega
 have:=ZZ l [];simpa [cJ] using this
def xB(w w':World) (e:Ending) (m:List PID):Prop:=Below w.heap.size w w'/\((m=[]/\∃p,e=.returned (.slice p 0 0))\/∃g c,e=.returned (.slice (some ⟨g,0,none⟩) m.length c)/\w.heap.size<=g/\m.length<=c/\c<=maxLen/\eR w' g 0 m)
set_option maxHeartbeats 2000000 in
theorem pu(l:List PID) (a:Option Addr) (cap:Nat) (w:World) (ha:l≠[]->∃b o,a=some ⟨b,o,none⟩/\eR w b o l) (hl:l.length<=1099511627776) :
 Calls Try.prog 32 #[.func (.func 33) #[] #[],.slice a l.length cap] w λe w'=>xB w w' e (cJ l):=by
 have W4:=sH l a cap w ha hl
 have WZ:(l.length:Nat) < 4611686018427387904:=by omega
 clear ha
 go_enter Try.func32,Try.ntmps32
 go_wp2_with fail
 refine W4.mono ?_;rintro e w1 ⟨ZP,⟨rfl,p,rfl⟩ | ⟨g,c,rfl,hg,ZK,hc,hmax,hK⟩⟩
 ·go_wp2_with fail
  refine (qF p 0 _ w1).mono ?_;rintro e w2 ⟨rfl,rfl⟩
  go_wp2_with fail
  refine (mz p 0 w2).mono ?_;rintro e w3 ⟨rfl,rfl⟩
  go_wp2
  go_ret
  exact⟨ZP,.inl ⟨rfl,p,rfl⟩⟩
 ·have HB:=Lib.hid ZP;have HK:=Lib.hid hK;clear ZP hK W4
  go_wp2_with fail
  have hs:=to g c l.toArray w1 HK.out ZK (by simpa using WZ);refine hs.mono ?_;rintro e w2 ⟨rfl,d',n,os,hp,R6,rfl⟩
  have hsz:d'.size=l.length:=by simpa using hp.1
  have RF:=p5 (os:=os) (n:=n) HK.out ZK hp.1
  have Zy:∀z,z∈d'.toList↔z∈l:=λz=>by
   have:=hp.2.2.mem_iff (a:=z);simpa [Array.extract_eq_self_of_le,hsz] using this
  have Y8:∀i,i+1 < d'.size->b6 d'[i+1]! d'[i]! = false:=λi hi=>by
   rw[<- iP];exact R6 i (i+1) (by omega) (by omega) (by rw[List.size_toArray];omega)
  have HC:=Lib.hid (nM g 0 c d' (sortWorldK cY 2 w1 g 0 n d' os) RF (by omega) (by omega));have PW:=Lib.hid (qq (n:=n) (d:=d') (os:=os) HB.out hg);have HE:=Lib.hid (ly Zy Y8);have HL:=Lib.hid hsz;clear RF Zy Y8 hp R6 hs hsz
  go_wp2_with fail
  have hcc:=HC.out;rw[HL.out] at hcc;refine hcc.mono ?_;rintro e w3 ⟨rfl,T0,Qb⟩
  go_wp2
  go_ret
  have e:compactUpTo d' l.length=cJ l:=by rw[<- HL.out];exact HE.out
  have hlen:=gf l;exact⟨jJ PW.out hg Qb,.inr ⟨g,c,by rw[e];rfl,hg,by omega,hmax,by rw[<- HE.out];exact T0⟩⟩
theorem kK:dW Try.prog 32:=fi Try.func32 (by kernel_rfl) rfl
theorem mc{w:World}{F:Nat->Prop}{l:List PID}{x:Value}(h:dn w F (.sl (l.map hU)) x):∃a cap,x=.slice a l.length cap/\(l≠[]->∃b o,a=some ⟨b,o,none⟩/\eR w b o l):=by
 cases h with
 | @sl _ a cap sz u hsz hcap hmax hnil hcell hrec=>
  refine⟨a,cap,by simp,λhn=>?_⟩;have Z3:0 < l.length:=List.length_pos_iff.2 hn
  have hz:sz=2:=by
   have:=hsz 0 (by simpa using Z3);rw[<- this];simp[hU]
  subst hz;obtain⟨b,o,e,_,_⟩:=hcell 0 0 (by simpa using Z3) (by omega);refine⟨b,o,e,λi hi=>?_⟩
  have ZW:i < (l.map hU).length:=by simpa using hi
  have cell:∀j (hj:j < 2),w.cell? ⟨b,o+(i*2+j),none⟩=some (u i j):=λj hj=>by
   obtain⟨b',o',e',_,hc⟩:=hcell i j ZW hj;rw[e] at e'
   injection e' with e'
   injection e' with e1 e2
   subst e1;subst e2;exact hc
  have g0:=hrec i 0 ZW (by simp[hU]);have g1:=hrec i 1 ZW (by simp[hU]);have c0:=cell 0 (by omega);have c1:=cell 1 (by omega);revert g0 g1 c0 c1;generalize u i 0=u0;generalize u i 1=u1;intro g0 g1 c0 c1;simp only[List.getElem_map,hU,List.getElem_cons_zero,List.getElem_cons_succ] at g0 g1;cases g0;cases g1;exact⟨by rw[<- c0];congr 2,by rw[<- c1];congr 2⟩
theorem rz{w:World}{F:Nat->Prop}{l:List PID}{g c:Nat}(h:eR w g 0 l) (hl:l.length<=c) (hm:c<=maxLen) (hF:F g):dn w F (.sl (l.map hU)) (.slice (some ⟨g,0,none⟩) l.length c):=by
 have ZZ:=dn.sl (w:=w) (F:=F) (c:=l.map hU) (a:=some ⟨g,0,none⟩) (cap:=c) 2 (λi j=>if j=0 then .int .i64 (l.getD i (0,0)).1 else .int .i64 (l.getD i (0,0)).2) (λi hi=>by simp[hU]) (by simpa using hl) hm (λe=>by simp at e) (λi j hi hj=>?_) (λi j hi hj=>?_)
 ·rw[List.length_map] at ZZ;exact ZZ
 ·have ZW:i < l.length:=by simpa using hi
  have hh:=h i ZW;refine⟨g,0,rfl,hF,?_⟩
  have e:l.getD i (0,0)=l[i]:=by simp[ZW]
  rw[e];rcases Nat.lt_or_ge 0 j with h0 | h0
  ·have:j=1:=by omega
   subst this;rw[oIN (by omega),<- hh.2,Nat.add_assoc]
  ·have:j=0:=by omega
   subst this;rw[oIP rfl,<- hh.1];congr 2
 ·have ZW:i < l.length:=by simpa using hi
  have e:l.getD i (0,0)=l[i]:=by simp[ZW]
  simp only[List.getElem_map,hU,oLC,List.length_nil] at hj ⊢;rw[e];rcases Nat.lt_or_ge 0 j with h0 | h0
  ·have:j=1:=by omega
   subst this;exact .v rfl
  ·have:j=0:=by omega
   subst this;exact .v rfl
theorem oF{w w':World}{e:Ending}{m:List PID}{F:Nat->Prop}(h:xB w w' e m):∃x,e=.returned x/\Below w.heap.size w w'/\dn w' (λk=>F k\/w.heap.size<=k) (.sl (m.map hU)) x:=by
 obtain⟨hb,⟨rfl,p,he⟩ | ⟨g,c,he,hg,hl,hm,hh⟩⟩:=h
 ·exact⟨_,he,hb,.sl (c:=[]) 2 (λ_ _=>undef) (λi h=>by simp at h) (Nat.le_refl _) (Nat.zero_le _) (λ_=>rfl) (λi j h=>by simp at h) (λi j h=>by simp at h)⟩
 ·exact⟨_,he,hb,rz hh hl hm (.inr hg)⟩
theorem pt(l:List PID) (hl:l.length<=1099511627776):wE Try.prog 32 [.fn 33 [],.sl (l.map hU)] ((cJ l).map hU):=by
 intro avs w F hal ha
 match avs,hal with
 | [x,y],_=>
  have h0:=ha 0 (by simp) (by simp);have h1:=ha 1 (by simp) (by simp);simp only[List.getElem_cons_zero,List.getElem_cons_succ] at h0 h1;cases h0
  cases h1 with
  | im h1=>
   obtain⟨a,cap,rfl,hh⟩:=mc h1;exact (pu l a cap w hh hl).mono λe w' h=>oF h
theorem je{P:Program}{w:World}(t it ty e:TypeId) (i:TypeInfo) (z:Value) (ht:P.underlying t=some (.slice e)) (hit:P.underlying it=some (.int .i64)) (hi:P.info? e=some i) (hz:i.zero=some z) (Z3:0 < i.size)
 (n:Nat) (h0:0 < n) (SD:n<=1099511627776) (PI:n*i.bytes<=140737488355328) :
 (Builtin.append_ #[t,it] ty #[.slice none 0 0,.int .i64 n]).run P w =
  .ok (.slice (some ⟨w.heap.size,0,none⟩) n (grownCap w n 0 e)) (w.drew.alloc (.cells (Builtin.zeroCells z.cells n++Builtin.zeroCells z.cells (grownCap w n 0 e - n)) e)):=by
 have hn:n≠0:=by omega
 have SF:¬ (9223372036854775807 < (n:Int)):=by omega
 have hw:IntKind.i64.wrap (n:Int)=(n:Int):=n8 (by omega) (by omega)
 have To:¬ ((n:Int) < 0):=by omega
 have SM:¬ ((281474976710656:Int) < (n:Int)*(i.bytes:Int)):=by
  have e:(n:Int)*(i.bytes:Int)=((n*i.bytes:Nat):Int):=by simp
  rw[e];omega
 have SE:¬ (281474976710656 < Builtin.nextslicecap n 0*i.bytes):=by rw[nextslicecap_zero h0];omega
 have hm:n*i.size≠0:=by have:=Nat.mul_pos h0 Z3;omega
 have hsz:i.size≠0:=by omega
 simp[Builtin.append_,run_underlying ht,run_underlying hit,asInt,asIntOf,sizeOf,typeInfo,zeroValue,hi,hz,Builtin.lenOf,hn,SF,SE,Question.forced,run_firstCells_none,newRow,grownCap,asInt,hw,To,SM,hm,hsz]
theorem d4{P:Program}{ops:Array Oper}{rest:List Oper}{o:Oper}{a:Act}{Q:Exit->Act->World->Prop}{w:World}{t it:TypeId}(Xj:o.guard=none) (s x:Operand) (ho:o.op=.call { callee:=.builtin .append,args:=#[s,x],argTypes:=#[t,it] })
 {vs vx v':Value} {w':World} (hs:a.eval s=vs) (hx:a.eval x=vx) (hrun:(Builtin.append_ #[t,it] o.type #[vs,vx]).run P w=.ok v' w') (h:wpList P ops Q rest (a.put o.dst v') w'):wpList P ops Q (o :: rest) a w:=by
 refine wpList_plain Xj λK hK=>?_;unfold Oper.wp;simp[execOp,ho,resolve,invoke,builtin,hs,hx,hrun,Result.andThen];exact hK _ _ h
theorem qr{B:Nat}{a w:World}(h:Below B a w):Below B a w.drew:=⟨h.os,h.tape,h.output,h.size,h.block⟩
theorem uk(n:Nat) (w:World) (hn:n<=1099511627776):Calls Try.prog 59 #[.slice none 0 0,.int .i64 n] w λe w'=>Below w.heap.size w w'/\∃v,e=.returned v/\w'.ownsRow w.heap.size 30 2 v 0 []:=by
 obtain⟨i,z,hi,hz,hsz,XF,YE⟩:=iL;by_cases h0:n=0
 ·subst h0;clear hi hz hsz XF YE
  go_enter Try.func59,Try.ntmps59
  go_wp2
  go_ret
  exact⟨Below.refl _ _,_,rfl,rfl,.inl ⟨rfl,rfl⟩⟩
 ·have hz0:∀(w:World) (ty:TypeId),(Builtin.append_ #[24,3] ty #[.slice none 0 0,.int .i64 n]).run Try.prog w=.ok (.slice (some ⟨w.heap.size,0,none⟩) n (grownCap w n 0 30)) (w.drew.alloc (.cells (Builtin.zeroCells z.cells n++Builtin.zeroCells z.cells (grownCap w n 0 30 - n)) 30)):=λw ty=>
   je 24 3 ty 30 i z Try.underlying24 Try.underlying3 hi hz (by omega) n (by omega) hn (by rw[XF];omega)
  have hge:n<=grownCap w n 0 30:=grownCap_ge w n 0 _;have YU:grownCap w n 0 30<=maxLen:=grownCap_le_maxLen w n 0 _ (by unfold maxLen;omega);obtain⟨zc,Xq⟩:∃zc,zc=z.cells:=⟨_,rfl⟩;rw[<- Xq] at hz0 YE;have HZ:=Lib.hid YE;clear Xq hi hz hsz XF YE
  go_enter Try.func59,Try.ntmps59
  go_wp2_with (at_builtin;refine d4 rfl _ _ rfl rfl rfl (hz0 _ _) ?_)
  go_ret
  have Wu:(Builtin.zeroCells zc n++Builtin.zeroCells zc (grownCap w n 0 30 - n)).size=grownCap w n 0 30*2:=by
   rw[Array.size_append,size_zeroCells,size_zeroCells,HZ.out,<- Nat.add_mul];congr 1;omega
  refine⟨qr (Below.alloc (Below.refl _ _) (Nat.le_refl _) _),_,rfl,rfl,.inr ⟨w.heap.size,_,_,rfl,Nat.le_refl _,heap_alloc_new w _,Nat.zero_le _,YU,Wu,by simp⟩⟩
theorem jT{P:Program}{w:World}{t e:TypeId}(i:TypeInfo) (z:Value) (size bytes:Nat) (hu:P.underlying t=some (.slice e)) (hi:P.info? e=some i) (hz:i.zero=some z) (YA:i.size=size) (XF:i.bytes=bytes) (YE:z.cells.size=size) (Z3:0 < size)
 (ty:TypeId) (base:Nat) (v:Value) (n:Nat) (xs:List Value) (hown:w.ownsRow base e size v n xs)
 (ad:Addr) (m c:Nat) (news:List Value) (hl:news.length=m*size) (YV:∀(j:Nat) u,news[j]?=some u->w.cell? (ad.add j)=some u) (h1:∀u∈news,u.oneCell'=true)
 (RB:n+m<=maxLen) (WX:(n+m)*bytes<=140737488355328) (Yv:base<=w.heap.size) :
 ∃v' w',(Builtin.append_ #[t,t] ty #[v,.slice (some ad) m c]).run P w=.ok v' w'/\w'.ownsRow base e size v' (n+m) (xs++news)/\w.grownBy w' v.ownBlock:=by
 rcases hown.2 with ⟨rfl,hn⟩ | ⟨g,cap,cur,rfl,hb,Vl,hcap,hmax,hsz,Y9⟩
 ·subst hn;have hx:xs=[]:=oEN (by simpa using hown.1);subst hx;obtain⟨v',w',hr,ZB,hg,_⟩:=run_append_own (P:=P) w w.heap.size t ty e i z size bytes hu hi hz YA XF YE Z3 (.slice none 0 0) 0 [] ⟨by simp,.inl ⟨rfl,rfl⟩⟩ ad m c news hl YV h1 RB WX (Nat.le_refl _);refine⟨v',w',hr,⟨ZB.1,?_⟩,hg⟩;rcases ZB.2 with h | ⟨g,cap,cur,e1,e2,e3⟩
  ·exact .inl h
  ·exact .inr ⟨g,cap,cur,e1,Nat.le_trans Yv e2,e3⟩
 ·rcases Nat.lt_or_ge cap (n+m) with hlt | hge
  ·have hc:=@World.ownsRow.cells w base e size _ n xs hown;obtain⟨v',w',hr,ZB,hg⟩:=run_append_arg_grows (P:=P) w t ty e i z size bytes hu hi hz YA XF YE Z3 ⟨g,0,none⟩ n cap xs hown.1 (hc rfl) ad m c news hl YV hlt RB WX;refine⟨v',w',hr,⟨ZB.1,?_⟩,⟨hg.os,hg.tape,hg.output,hg.size,λk hk _=>hg.block k hk (by simp)⟩⟩;rcases ZB.2 with h | ⟨g,cap,cur,e1,e2,e3⟩
   ·exact .inl h
   ·exact .inr ⟨g,cap,cur,e1,Nat.le_trans Yv e2,e3⟩
  ·obtain⟨w',hr,ZB,hg⟩:=run_append_own_spare (P:=P) w base t ty e i size hu hi YA g n cap xs hown ad m c news hl YV h1 hge;exact⟨_,w',hr,ZB,hg⟩
theorem vO{w:World}(ty:TypeId) (base:Nat) (v:Value) (xs l:List PID) (hown:w.ownsRow base 30 2 v xs.length (c8 xs)) (Yv:base<=w.heap.size) (a:Option Addr) (cap:Nat) (ha:l≠[]->∃b o,a=some ⟨b,o,none⟩/\eR w b o l) (hlen:xs.length+l.length<=1099511627776) :
 ∃v' w',(Builtin.append_ #[24,24] ty #[v,.slice a l.length cap]).run Try.prog w=.ok v' w'/\w'.ownsRow base 30 2 v' (xs++l).length (c8 (xs++l))/\w.heap.size<=w'.heap.size/\w'.os=w.os/\w'.tape=w.tape/\w'.output=w.output/\∀k,k < base->w'.heap[k]?=w.heap[k]?:=by
 obtain⟨i,z,hi,hz,hsz,XF,YE⟩:=iL
 have e:c8 (xs++l)=c8 xs++c8 l:=by simp[c8]
 by_cases hl:l=[]
 ·subst hl;rcases hown.2 with ⟨rfl,hn⟩ | ⟨g,c,cur,rfl,hb,Vl,hcap,hmax,Xv,Y9⟩
  ·rw[hn] at hown;refine⟨_,w,cw w _ ty 30 i Try.underlying24 hi none 0 0 (Nat.le_refl _) a cap,by rw[List.append_nil,hn];exact hown,Nat.le_refl _,rfl,rfl,rfl,λ_ _=>rfl⟩
  ·exact⟨_,w,cw w _ ty 30 i Try.underlying24 hi _ _ c hcap a cap,by rw[List.append_nil];exact hown,Nat.le_refl _,rfl,rfl,rfl,λ_ _=>rfl⟩
 ·obtain⟨b,o,rfl,hh⟩:=ha hl;obtain⟨v',w',hr,ZB,hg⟩:=jT i z 2 16 Try.underlying24 hi hz hsz XF YE (by omega) ty base v xs.length (c8 xs) hown ⟨b,o,none⟩ l.length cap (c8 l) (ju l) (λj u hu=>by rw[bo];exact jw hh j u hu) (mp l) (by unfold maxLen;omega) (by omega) Yv;refine⟨v',w',hr,by rw[List.length_append,e];exact ZB,hg.size,hg.os,hg.tape,hg.output,λk hk=>hg.block k (by omega) λe2=>?_⟩;rcases hown.2 with ⟨rfl,_⟩ | ⟨g,c,cur,rfl,hb,_⟩
  ·simp[Value.ownBlock] at e2
  ·simp only[Value.ownBlock,oSJ] at e2;omega
def wA(w:World) (b o:Nat) (ls:List (List PID)):Prop:=∀i (h:i < ls.length),∃ai ci,w.cell? ⟨b,o+i,none⟩=some (.slice ai ls[i].length ci)/\(ls[i]≠[]->∃b' o',ai=some ⟨b',o',none⟩/\eR w b' o' ls[i])
theorem mo{ls:List (List PID)}{i:Nat}(h:i < ls.length):(ls.take (i+1)).flatten=(ls.take i).flatten++ls[i]:=by
 rw[<- List.take_append_getElem h,List.flatten_append];simp only[List.flatten_cons,List.flatten_nil,List.append_nil]
theorem nB{ls:List (List PID)}(i:Nat):(ls.take i).flatten.length<=ls.flatten.length:=by
 have:ls.flatten=(ls.take i).flatten++(ls.drop i).flatten:=by rw[<- List.flatten_append,List.take_append_drop]
 rw[this,List.length_append];omega
theorem nW{w w':World}(h:Below w.heap.size w w') {b o:Nat}{l:List PID}(hh:eR w b o l):eR w' b o l:=λi hi=>by
 obtain⟨h1,h2⟩:=hh i hi;have hb:=nV h1;exact⟨by rw[World.cell?_of_block (h.block b hb)];exact h1,by rw[World.cell?_of_block (h.block b hb)];exact h2⟩
theorem mE{B q:Nat}{w w1:World}(h:Below B (w.drewN q) w1):Below B w w1:=⟨h.os,h.tape,h.output,h.size,h.block⟩
set_option maxHeartbeats 4000000 in
theorem qi(ls:List (List PID)) (b o cap:Nat) (w:World) (hr:wA w b o ls) (hlen:ls.flatten.length<=1099511627776) (hm:ls.length<=1099511627776) :
 Calls Try.prog 34 #[.slice (some ⟨b,o,none⟩) ls.length cap] w λe w'=>Below w.heap.size w w'/\∃v,e=.returned v/\w'.ownsRow w.heap.size 30 2 v ls.flatten.length (c8 ls.flatten):=by
 have mixed:Try.prog.follows .mixedOrders=true:=by kernel_rfl
 have HR:Aside (wA w b o ls):=hr;clear hr
 go_enter Try.func34,Try.ntmps34
 go_wp2
 go_loopg [3,11] ls.length (λg s3 Rh wr=>∃i q:Nat,i<=ls.length/\ls.length - i<=g/\s3=.int .i64 ((ls.take i).flatten.length:Nat)/\Rh=.int .i64 i/\wr=w.drewN q)
 case atStart=>exact⟨0,0,by omega,by omega,rfl,rfl,rfl⟩
 case round=>
  obtain⟨i,q,hi,hg,rfl,rfl,rfl⟩:=hrel;have YU:=nB (ls:=ls) i;by_cases hlt:i < ls.length
  ·obtain⟨ai,ci,hc,_⟩:=HR.out i hlt;have WC:=nB (ls:=ls) (i+1)
   have V8:(ls.take (i+1)).flatten.length=(ls.take i).flatten.length+ls[i].length:=by rw[mo hlt,List.length_append]
   generalize hk:ls[i].length=k at hc V8;generalize hn:(ls.take i).flatten.length=n at YU V8;have HF:Aside ((ls.take (i+1)).flatten.length=n+k/\(ls.take (i+1)).flatten.length<=ls.flatten.length):=⟨V8,WC⟩
   have PN:n+k<=1099511627776:=by omega
   clear V8 WC hk hn YU
   go_wp2
   go_roundg (ls.length - (i+1))
   case measure=>omega
   case rel=>exact⟨i+1,q,by omega,Nat.le_refl _,by rw[HF.out.1];go_num,by go_num,rfl⟩
  ·have XK:i=ls.length:=by omega
   subst XK;rw[List.take_length] at YU ⊢;generalize hn:ls.flatten.length=n at YU hlen ⊢;have HN:Aside (ls.flatten.length=n):=hn;clear hn YU
   go_wp2_with fail
   refine (uk n _ hlen).mono ?_;rintro e w1 ⟨ZP,v,rfl,hown⟩;have HB:Aside (Below w.heap.size w w1/\w1.ownsRow w.heap.size 30 2 v 0 []):=⟨mE ZP,hown⟩;clear ZP hown
   go_wp2
   go_loopg [6,27] ls.length (λg s6 Rk wr=>∃j:Nat,j<=ls.length/\ls.length - j<=g/\Rk=.int .i64 j/\Below w.heap.size w wr/\wr.ownsRow w.heap.size 30 2 s6 (ls.take j).flatten.length (c8 (ls.take j).flatten))
   case atStart=>exact⟨0,by omega,by omega,rfl,HB.out.1,HB.out.2⟩
   case round=>
    obtain⟨j,hj,ZO,rfl,Z0,hown⟩:=hrel;by_cases hlt2:j < ls.length
    ·obtain⟨ai,ci,hc,Yp⟩:=HR.out j hlt2
     have Zl:wr.cell? ⟨b,o+j,none⟩=some (.slice ai ls[j].length ci):=by rw[World.cell?_of_block (Z0.block b (nV hc))];exact hc
     have WC:=nB (ls:=ls) (j+1);have V8:=mo hlt2
     have hsz:(ls.take j).flatten.length+ls[j].length<=1099511627776:=by
      have:(ls.take (j+1)).flatten.length=(ls.take j).flatten.length+ls[j].length:=by rw[V8,List.length_append]
      have:=HN.out;omega
     obtain⟨v',w',hrun,ZB,YA,R0,Wi,WG,Wr⟩:=vO (w:=wr) 24 w.heap.size _ (ls.take j).flatten ls[j] hown Z0.size ai ci (λhne=>by
      obtain⟨b',o',e1,e2⟩:=Yp hne
      exact⟨b',o',e1,nW Z0 e2⟩) hsz
     rw[<- V8] at ZB;have HO:Aside (w'.ownsRow w.heap.size 30 2 v' (ls.take (j+1)).flatten.length (c8 (ls.take (j+1)).flatten)/\Below w.heap.size w w'):=⟨ZB,⟨R0.trans Z0.os,Wi.trans Z0.tape,WG.trans Z0.output,Nat.le_trans Z0.size YA,λk hk=>(Wr k hk).trans (Z0.block k hk)⟩⟩;generalize ls[j].length=m at Zl hrun;clear ZB R0 Wi WG Wr YA Yp hown Z0 hc V8 hsz WC
     go_wp2_with (at_builtin;refine d4 rfl _ _ rfl rfl rfl hrun ?_)
     go_roundg (ls.length - (j+1))
     case measure=>omega
     case rel=>exact⟨j+1,by omega,Nat.le_refl _,by go_num,HO.out.2,HO.out.1⟩
    ·have hjl:j=ls.length:=by omega
     subst hjl;rw[List.take_length] at hown;have HO:Aside (Below w.heap.size w wr/\wr.ownsRow w.heap.size 30 2 u6 ls.flatten.length (c8 ls.flatten)):=⟨Z0,hown⟩;clear Z0 hown
     go_wp2
     go_ret
     exact⟨HO.out.1,_,rfl,HO.out.2⟩
theorem nL(a:Option Addr) (cap:Nat) (w:World):Calls Try.prog 34 #[.slice a 0 cap] w λe w'=>Below w.heap.size w w'/\e=.returned (.slice none 0 0):=by
 have mixed:Try.prog.follows .mixedOrders=true:=by kernel_rfl
 go_enter Try.func34,Try.ntmps34
 go_wp2
 refine wp_loop_rounds 1 ?_;rw[rounds_succ]
 go_wp2
 refine wp_loop_rounds 1 ?_;rw[rounds_succ]
 go_wp2
 go_ret
 exact⟨Below.refl _ _,rfl⟩
theorem lw:dW Try.prog 34:=fi Try.func34 (by kernel_rfl) rfl
theorem qh(ls:List (List PID)) (hl:ls.flatten.length<=1099511627776) (hm:ls.length<=1099511627776):wE Try.prog 34 [.sl (ls.map λx=>[TV.sl (x.map hU)])] (ls.flatten.map hU):=by
 intro avs w F hal ha
 match avs,hal with
 | [x],_=>
  have h0:=ha 0 (by simp) (by simp);simp only[List.getElem_cons_zero] at h0
  cases h0 with
  | im h0=>
   cases h0 with
   | @sl _ a cap sz u hsz hcap hmax hnil hcell hrec=>
    have UC:(ls.map λx=>[TV.sl (x.map hU)]).length=ls.length:=by simp
    rw[UC] at hcap ⊢;by_cases hn:ls=[]
    ·subst hn;exact (nL a cap w).mono λe w' ⟨hb,he⟩=>⟨_,he,hb,.sl (c:=[]) 2 (λ_ _=>undef) (λi h=>by simp at h) (Nat.le_refl _) (Nat.zero_le _) (λ_=>rfl) (λi j h=>by simp at h) (λi j h=>by simp at h)⟩
    ·have Z3:0 < ls.length:=List.length_pos_iff.2 hn
     have hz:sz=1:=by
      have:=hsz 0 (by simpa using Z3);rw[<- this];simp
     subst hz;obtain⟨b,o,e,_,_⟩:=hcell 0 0 (by simpa using Z3) (by omega);subst e
     have UX:wA w b o ls:=λi hi=>by
      obtain⟨b',o',e',_,hc⟩:=hcell i 0 (by simpa using hi) (by omega)
      injection e' with e'
      injection e' with e1 e2
      subst e1;subst e2;have hr:=hrec i 0 (by simpa using hi) (by simp);simp only[List.getElem_map,List.getElem_cons_zero] at hr;obtain⟨ai,ci,hu,hh⟩:=mc hr;exact⟨ai,ci,by rw[<- hu,<- hc];congr 2;omega,hh⟩
     refine (qi ls b o cap w UX hl hm).mono λe w' ⟨hb,v,he,hown⟩=>?_;refine oF ⟨hb,?_⟩;rcases hown.2 with ⟨rfl,h0⟩ | ⟨g,c,cur,rfl,hg,Vl,XG,W9,hcur,Y9⟩
     ·exact .inl ⟨oEN h0,none,he⟩
     ·have hK:=kt Vl hcur XG Y9;exact .inr ⟨g,c,he,hg,XG,W9,md hK (by simp) λi hi=>by rw[getElem!_pos _ i (by simpa using hi)];simp⟩
end Go.Proofs.Yteonljfnncdijaa
namespace Go.Proofs.Yteonljfnncdijaa
end Go.Proofs.Yteonljfnncdijaa
namespace Go.Proofs.Yteonljfnncdijaa
open Go.RowKit
def wI:FuncId->List TV->Option (List (List TV)):=λf vals=>
 if f=32 then (match vals with
  | [.fn g [],.sl c]=>if g=33 then (uX c).bind λl=>if l.length<=1099511627776 then some ((cJ l).map hU) else none else none
  | _=>none)
 else if f=34 then (match vals with
  | [.sl c]=>(nH c).bind λl=>if l.flatten.length<=1099511627776/\l.length<=1099511627776 then some (l.flatten.map hU) else none
  | _=>none)
 else none
def libB:bp:=uV wI
theorem libB_ok:cA Try.prog libB:=xa λf vals c h=>by
 unfold wI at h;split at h
 ·rename_i e;subst e;split at h
  ·split at h
   ·rename_i g c0 e;subst e;obtain⟨l,h1,h2⟩:=Option.bind_eq_some_iff.1 h;split at h2
    ·rename_i hl
     injection h2 with h2
     subst h2;rw[nG h1];exact⟨kK,pt l hl⟩
    ·cases h2
   ·cases h
  ·cases h
 ·split at h
  ·rename_i e;subst e;split at h
   ·obtain⟨l,h1,h2⟩:=Option.bind_eq_some_iff.1 h;split at h2
    ·rename_i hl
     injection h2 with h2
     subst h2;rw[o7 h1];exact⟨lw,qh l hl.1 hl.2⟩
    ·cases h2
   ·cases h
  ·cases h
def bn(a0:List PID):Option (List PID×Unit):=if a0.length<=1099511627776 then some (cJ a0,()) else none
def bz(a0:List (List PID)):Option (List PID×Unit):=if a0.flatten.length<=1099511627776/\a0.length<=1099511627776 then some (a0.flatten,()) else none
theorem eF{id:Nat}:fQ libB ⟨32,id,[.fn 33 [],shU (.row false (.pair (.int .i64) (.int .i64)))],[],[⟨[shU (.row false (.pair (.int .i64) (.int .i64)))],[.one],[]⟩],λh=>bn h.1⟩:=by
 rintro⟨l,h⟩ o x ho hx;have ho:(if List.length l<=1099511627776 then some (cJ l,()) else none)=some o:=ho;split at ho
 case isFalse=>cases ho
 rename_i hl
 injection ho with ho
 subst ho;cases hx;show uV wI 32 [.fn 33 [],.sl (l.map hU)] []=some (⟨[.sl ((cJ l).map hU)],[.one]⟩,[]);simp[uV,wI,mb,ln,hl]
theorem eu{id:Nat}:fQ libB ⟨34,id,[shU (.row false (.row false (.pair (.int .i64) (.int .i64))))],[],[⟨[shU (.row false (.pair (.int .i64) (.int .i64)))],[.one],[]⟩],λh=>bz h.1⟩:=by
 rintro⟨l,h⟩ o x ho hx;have ho:(if (List.flatten l).length<=1099511627776/\List.length l<=1099511627776 then some (List.flatten l,()) else none)=some o:=ho;split at ho
 case isFalse=>cases ho
 rename_i hl
 injection ho with ho
 subst ho;cases hx;show uV wI 34 [.sl (l.map λx=>[TV.sl (x.map hU)])] []=some (⟨[.sl (l.flatten.map hU)],[.one]⟩,[]);unfold uV;rw[oIP (by simp[mb])];unfold wI;rw[oIN (by decide),oIP rfl];simp only[mw,oBS,oIP hl,oMS]
end Go.Proofs.Yteonljfnncdijaa
namespace Go.Proofs.Yteonljfnncdijaa
open Go.RowKit
set_option maxRecDepth 100000
noncomputable section
abbrev DCe:Type:=(Int×Int)
def HH(f i:Nat):List (Nat×Option Nat):=if f=6 then (if i=3000011 then [(7,none),(9,none),(11,none),(13,none)] else []) else if f=76 then (if i=0 then [(4,none)] else []) else if f=62 then (if i=0 then [(4,some 2),(4,some 10)] else []) else if f=24 then (if i=0 then [(4,some 10),(4,some 2)] else []) else if f=53 then (if i=0 then [(4,none)] else []) else if f=30 then (if i=1 then [(5,none)] else []) else if f=31 then (if i=1 then [(5,none)] else []) else if f=5 then (if i=1 then [(12,some 0),(12,some 1),(13,some 0),(13,some 1)] else []) else []
def xb:List Nat:=[32,34]
def TT (f:FuncId):Option TFn:=if xb.contains f then none else hY Try.prog (HH f) f
theorem uR{f:FuncId}(h:xb.contains f=true):TT f=none:=oIP h
def E0:Env:=⟨λf=>if f=17 then some (1,[.arg 0,.val (.int .i64 0)]) else none,λf=>yf Try.prog f⟩
theorem tt_ok:sW Try.prog TT:=λf tf h=>vh HH (by kernel_rfl) f tf (by
 unfold TT at h
 split at h
 ·cases h
 ·exact h)
abbrev qE:Shs:=⟨[],[],[],([],[])⟩
abbrev qS(s:List (Nat×Sh))(c:List (Nat×List Sh)):Shs:=⟨s,c,[],([],[])⟩
abbrev N1:CT:=.nilr true
abbrev N0:CT:=.nilr false
abbrev CW:CT:=.int .u16
abbrev CB:CT:=.int .u8
abbrev uL(l:List CT):List Sh:=l.map fun c=>.d c ()
abbrev pP(t r:Nat):Nat×Sh:=(t,.ptr ⟨r,0,[]⟩ [0])
abbrev sP(t:Nat)(c:CT):Nat×Sh:=(t,.d c ())
abbrev Lk(n:Nat)(c:Ctr):Prop:=Lvl E0 TT libB n c
theorem aN{m:Nat}:ph E0 TT libB m []:=trivial
theorem aC{n m:Nat}{c:Ctr}{l:List Ctr}(h:Lk n c)(r:ph E0 TT libB m l)(hm:n≤m:=by decide):ph E0 TT libB m (c::l):=⟨h.mono hm,r⟩
abbrev lx(i n:Nat)(s:List (Nat×Sh))(c:List (Nat×List Sh))(b:Nat):mK:=⟨i,n,⟨s,c,[],([],[])⟩,[(.exit 0,⟨s++[(b,.d .bool ())],c,[],([],[])⟩)]⟩
abbrev LI:Type:=List Int
abbrev LDCe:Type:=List DCe
abbrev T00:Type:=LDCe×Int×Unit
abbrev T01:Type:=LI×Int×T00
noncomputable abbrev ap1{A0 D R:Type}(f:A0→R)(h:A0×D):R:=f h.1
noncomputable abbrev ap2{A0 A1 D R:Type}(f:A0→A1→R)(h:A0×A1×D):R:=f h.1 h.2.1
noncomputable abbrev ap3{A0 A1 A2 D R:Type}(f:A0→A1→A2→R)(h:A0×A1×A2×D):R:=f h.1 h.2.1 h.2.2.1
noncomputable abbrev ap4{A0 A1 A2 A3 D R:Type}(f:A0→A1→A2→A3→R)(h:A0×A1×A2×A3×D):R:=f h.1 h.2.1 h.2.2.1 h.2.2.2.1
theorem ls{n:Nat}(C:X.Cfg)(hT:ph E0 TT libB n C.TB){c:Ctr}(hE:C.E=E0:=by rfl)(h1:(TT c.f).isSome=true:=by kernel_rfl)(hg:∀h,X.runT aJ C () ((TT c.f).getD yg) c.outs (cb c.ins _ h).1 (gB c.pts [] (cb c.ins _ h).2).1=c.g h:=by intro h;kernel_rfl):Lk (n+1) c:=xH (n:=n) (C:=C) hE hT (xQ h1) hg
abbrev ze(t:Nat):Nat×Sh:=sP t I64
abbrev zf(t:Nat):Nat×Sh:=sP t .bool
abbrev zg(t r:Nat):Nat×Sh:=(t,.pk ⟨r,0,[]⟩ [0,0])
abbrev za(t:CT):CT:=.row true t
abbrev zb(t:CT):CT:=.row false t
abbrev zd(t:Nat):Nat×Sh:=pP t (2*t+2)
abbrev zh:List Sh:=uL [(zb (.pair I64 I64))]
abbrev zi:List Sh:=uL [I64,I64]
abbrev zj:List Sh:=uL [.bool]
abbrev zk:List Sh:=uL [(za (.pair I64 I64))]
abbrev zl:List Sh:=uL [(zb (.pair I64 I64)),(zb (.pair I64 I64))]
def bi(a0:LDCe):Option (LDCe×Unit):=
bif (dH 16 0 a0.length) then let x0:LDCe:=(List.append [] a0);
some (x0,()) else none
def fh:X.Cfg:=⟨E0,[],[],[]⟩
def bZ:Ctr:=⟨35,0,zh,[],[⟨zk,[.one],[]⟩],ap1 bi⟩
theorem cW:Lk 1 bZ:=ls fh aN
def b4:Ctr:=⟨32,1,[.fn 33 [],shU (zb (.pair I64 I64))],[],[⟨zh,[.one],[]⟩],ap1 bn⟩
theorem cX:Lvl E0 TT libB 1 b4:=(r7 (uR rfl) eF).mono (by decide)
def dy(a0:LDCe) (a1:Int) (a2:Int):Option (LDCe×Unit):=
(bi a0).bind λ(x0,_)=>
let x1:LDCe:=[(a1,a2)];
bif (dH 16 x0.length x1.length) then let x2:LDCe:=(List.append x0 x1);
(bn x2).bind λ(x3,_)=>
some (x3,()) else none
def ny:X.Cfg:=⟨E0,[bZ,b4],[],[]⟩
def f8:Ctr:=⟨13,2,[shU (zb (.pair I64 I64)),.agg zi],[],[⟨zh,[.one],[]⟩],ap3 dy⟩
theorem jo:Lk 2 f8:=ls ny (aC cW (aC cX aN))
def bj:LDCe×T00->Option ((LDCe×T00)⊕((Bool×Unit)⊕(LDCe×LDCe×Int×Bool×Unit))):=λ(v0,v1,v2,_)=>
let x0:=cV v0.length;
bif decide (v2 < x0) then ((oJ v2).bind λx1=>
(mP v0 x1).bind λx2=>
(oJ v2).bind λx3=>
(mP v1 x3).bind λx4=>
bif (!((x2.1==x4.1) && ((x2.2==x4.2) && true))) then (some (.inr (.inl (false,())))) else
let x5:=w64 (v2+1);
some (.inl (v0,v1,x5,()))) else
some (.inr (.inr (v0,v1,v2,false,())))
def bY(a0:LDCe) (a1:LDCe):Option (Bool×Unit):=
let x0:=cV a0.length;
let x1:=cV a1.length;
bif (x0 != x1) then (some (false,())) else
(match cB bj NN (a0,a1,0,()) with
| none=>none
| some (.inl (x2,_))=>
some (x2,())
| some (.inr (x2,_))=>
some (true,()))
def me:X.Cfg:=⟨E0,[],[],[⟨6,0,qS [sP 0 (zb (.pair I64 I64)),sP 1 (zb (.pair I64 I64)),ze 5] [],[(.ret,qS [zf 4] []),(.exit 0,qS [sP 0 (zb (.pair I64 I64)),sP 1 (zb (.pair I64 I64)),ze 5,zf 14] [])]⟩]⟩
def fm:Ctr:=⟨11,3,zl,[],[⟨zj,[.one],[]⟩],ap2 bY⟩
theorem iv:Lk 1 fm:=ls me aN
def co:Option (Bool×Unit):=
let x0:LDCe:=[(0,1),((-1),0)];
(dy x0 1 0).bind λ(x1,_)=>
let x2:LDCe:=[(0,1),(1,0),((-1),0)];
(bY x1 x2).bind λ(x3,_)=>
some (x3,())
def lf:X.Cfg:=⟨E0,[f8,fm],[],[]⟩
def gG:Ctr:=⟨8,4,[],[],[⟨zj,[.one],[]⟩],λh=>co⟩
theorem k8:Lk 3 gG:=ls lf (aC jo (aC iv aN))
def fB(a0:Int):Option (Int×Int×Unit):=
let x0:=Int.tmod a0 4;
let x1:=wk .i64 x0;
let x2:=w64 (x1 - 1);
let x3:=wk .u8 (Int.tdiv a0 4);
let x4:=wk .i64 x3;
let x5:=Int.tmod x4 5;
some (x2,x5,())
def p7:X.Cfg:=⟨E0,[],[],[]⟩
def ia:Ctr:=⟨14,5,uL [CB],[],[⟨zi,[.agg 2],[]⟩],ap1 fB⟩
theorem kp:Lk 1 ia:=ls p7 aN
def bE:LI×Int×LDCe×Unit->Option ((LI×Int×LDCe×Unit)⊕(LI×Int×Bool×LDCe×Unit)):=λ(v0,v1,v2,_)=>
let x0:=cV v0.length;
bif decide (v1 < x0) then ((oJ v1).bind λx1=>
(mP v0 x1).bind λx2=>
(fB x2).bind λ(x3,x4,_)=>
let x5:LDCe:=[(x3,x4)];
bif (dH 16 v2.length x5.length) then let x6:LDCe:=(List.append v2 x5);
let x7:=w64 (v1+1);
some (.inl (v0,x7,x6,())) else none) else
some (.inr (v0,v1,false,v2,()))
def cf(a0:List (Int)):Option (LDCe×Unit):=
(cB bE NN (a0,0,[],())).bind λ(x0,x1,x2,x3,_)=>
some (x3,())
def nw:X.Cfg:=⟨E0,[ia],[],[(lx 4 0 [sP 0 (zb CB),zg 3 9,ze 4] [(9,zk)] 8)]⟩
def jI:Ctr:=⟨10,6,uL [(zb CB)],[],[⟨zk,[.one],[]⟩],ap1 cf⟩
theorem nk:Lk 2 jI:=ls nw (aC kp aN)
def cG:Ctr:=⟨34,7,uL [(zb (zb (.pair I64 I64)))],[],[⟨zh,[.one],[]⟩],ap1 bz⟩
theorem eT:Lvl E0 TT libB 1 cG:=(r7 (uR rfl) eu).mono (by decide)
def bS(a0:LDCe) (a1:LDCe):Option (LDCe×Unit):=
let x0:List LDCe:=[a0,a1];
(bz x0).bind λ(x1,_)=>
(bn x1).bind λ(x2,_)=>
some (x2,())
def lh:X.Cfg:=⟨E0,[cG,b4],[(7,(za (.pair I64 I64)))],[]⟩
def gH:Ctr:=⟨9,8,zl,[],[⟨zh,[.one],[]⟩],ap2 bS⟩
theorem k9:Lk 2 gH:=ls lh (aC eT (aC cX aN))
def dg(a0:Int) (a1:Int) (a2:Int) (a3:Int):Option (Bool×Unit):=
bif (!((a0==(-1))==(a2==(-1)))) then (some ((a2==(-1)),())) else
bif decide (a0 < a2) then (some (true,())) else
bif (a0==a2) then (some ((decide (a1 < a3)),())) else
some (false,())
def ld:X.Cfg:=⟨E0,[],[],[]⟩
def gF:Ctr:=⟨12,9,[.agg zi,.agg zi],[],[⟨zj,[.one],[]⟩],ap4 dg⟩
theorem kZ:Lk 1 gF:=ls ld aN
def dL(a0:LDCe) (a1:Int):Option (LDCe×LDCe×Unit):=
let x0:=cV a0.length;
let x1:=mmR false a1 x0;
let x2:=mmR true 0 x1;
(oJ x2).bind λx3=>
bif (i7 0 x3 a0.length) then let x4:LDCe:=(ve a0 0 (Nat.sub x3 0));
(bi x4).bind λ(x5,_)=>
(oJ x2).bind λx6=>
bif (i7 x6 a0.length a0.length) then let x7:LDCe:=(ve a0 x6 (Nat.sub a0.length x6));
(bi x7).bind λ(x8,_)=>
some (x5,x8,()) else none else none
def mf:X.Cfg:=⟨E0,[bZ],[],[]⟩
def iB:Ctr:=⟨15,10,uL [(zb (.pair I64 I64)),I64],[],[⟨uL [(za (.pair I64 I64)),(za (.pair I64 I64))],[.one,.one],[]⟩],ap2 dL⟩
theorem ma:Lk 2 iB:=ls mf (aC cW aN)
def bd:T01->Option (T01⊕((Bool×Unit)⊕(LI×Int×LDCe×Int×Bool×Unit))):=λ(v0,v1,v2,v3,_)=>
let x0:=cV v2.length;
bif decide (v3 < x0) then (let x1:Int:=(w64 (v3 - 1));
(oJ x1).bind λx2=>
(mP v2 x2).bind λx3=>
(oJ v3).bind λx4=>
(mP v2 x4).bind λx5=>
(dg x3.1 x3.2 x5.1 x5.2).bind λ(x6,_)=>
bif (!x6) then (some (.inr (.inl (false,())))) else
let x7:=w64 (v3+1);
some (.inl (v0,v1,v2,x7,()))) else
some (.inr (.inr (v0,v1,v2,v3,false,())))
def bc:T01->Option (T01⊕((Bool×Unit)⊕(LI×Int×LDCe×Int×Bool×Unit))):=λ(v0,v1,v2,v3,_)=>
let x0:=cV v0.length;
bif decide (v3 < x0) then ((oJ v3).bind λx1=>
(mP v0 x1).bind λx2=>
(fB x2).bind λ(x3,x4,_)=>
(dy v2 x3 x4).bind λ(x5,_)=>
(bY x5 v2).bind λ(x6,_)=>
bif (!x6) then (some (.inr (.inl (false,())))) else
let x7:=w64 (v3+1);
some (.inl (v0,v1,v2,x7,()))) else
some (.inr (.inr (v0,v1,v2,v3,false,())))
def cq(a0:List (Int)) (a1:List (Int)) (a2:Int):Option (Bool×Unit):=
let x0:=cV a0.length;
let x1:=cV a1.length;
let x2:=w64 (x0+x1);
bif decide (x2 > 100) then ((co).bind λ(x3,_)=>
some (x3,())) else
(cf a0).bind λ(x3,_)=>
(bS [] x3).bind λ(x4,_)=>
(cf a1).bind λ(x5,_)=>
(bS [] x5).bind λ(x6,_)=>
(bS x4 x6).bind λ(x7,_)=>
(cf a1).bind λ(x8,_)=>
(cf a0).bind λ(x9,_)=>
(bS x8 x9).bind λ(ac,_)=>
(bY x7 ac).bind λ(ae,_)=>
bif (!ae) then (some (false,())) else
let af:=cV x7.length;
let ah:=cV a0.length;
let aj:=cV a1.length;
let ak:=w64 (ah+aj);
bif decide (af > ak) then (some (false,())) else
(match cB bd NN (a0,a2,x7,1,()) with
| none=>none
| some (.inl (am,_))=>
some (am,())
| some (.inr (am,an,ap,_))=>
(match cB bc NN (am,an,ap,0,()) with
| none=>none
| some (.inl (aq,_))=>
some (aq,())
| some (.inr (aq,au,av,_))=>
(dL av au).bind λ(aw,ax,_)=>
bif (dH 16 0 aw.length) then let ay:LDCe:=(List.append [] aw);
bif (dH 16 ay.length ax.length) then let az:LDCe:=(List.append ay ax);
(bY az av).bind λ(aA,_)=>
bif aA then (let aB:Int:=(cV aw.length);
let aD:=cV av.length;
let aE:=mmR false au aD;
let aF:=mmR true 0 aE;
bif (aB==aF) then ((co).bind λ(aG,_)=>
some (aG,())) else
some (false,())) else
some (false,()) else none else none))
def gx:X.Cfg:=⟨E0,[gG,jI,gH,fm,gF,ia,f8,iB],[],[⟨11,0,qS [sP 0 (zb CB),ze 2,sP 9 (zb (.pair I64 I64)),ze 11] [],[(.ret,qS [zf 6] []),(.exit 0,qS [sP 0 (zb CB),ze 2,sP 9 (zb (.pair I64 I64)),ze 11,zf 53] [])]⟩,⟨19,1,qS [sP 0 (zb CB),ze 2,sP 9 (zb (.pair I64 I64)),ze 12] [],[(.ret,qS [zf 6] []),(.exit 2,qS [sP 0 (zb CB),ze 2,sP 9 (zb (.pair I64 I64)),ze 12,zf 70] [])]⟩]⟩
def dT:Ctr:=⟨3,11,uL [(zb CB),(zb CB),I64],[],[⟨zj,[.one],[]⟩],ap3 cq⟩
theorem k_law27_DirtyLists:Lk 4 dT:=ls gx (aC k8 (aC nk (aC k9 (aC iv (aC kZ (aC kp (aC jo (aC ma aN))))))))
end
end Go.Proofs.Yteonljfnncdijaa
namespace Go.Proofs.Yteonljfnncdijaa
set_option maxRecDepth 100000
noncomputable section
end
end Go.Proofs.Yteonljfnncdijaa
namespace Go.Proofs.Yteonljfnncdijaa
open Go.RowKit
theorem xS:(Try.prog.funcs.all λfn=>!(fn.name=="runtime.NumGoroutine"))=true:=by kernel_rfl
theorem pU:dW Try.prog 17:=by
 obtain⟨fn,hf,hb⟩:∃fn,Try.prog.funcs[17]?=some fn/\fn.body.isSome=true:=by
  have hs:(match Try.prog.funcs[17]? with | some fn=>fn.body.isSome | none=>false)=true:=by kernel_rfl
  cases h:Try.prog.funcs[17]? with
  | none=>rw[h] at hs;cases hs
  | some fn=>rw[h] at hs;exact⟨fn,rfl,hs⟩
 obtain⟨c,hc⟩:=Option.isSome_iff_exists.1 hb;refine fi hf ?_ hc;obtain⟨hlt,he⟩:=Array.getElem?_eq_some_iff.1 hf;have:=Array.all_eq_true.1 xS 17 hlt;rw[he] at this;simpa using this
def wD(x:Value) (w:World) (e:Ending) (w':World):Prop:=e=.returned (.pointer (some ⟨w.heap.size,0,none⟩))/\w'=w.alloc (.cells #[x,.int .i64 0] 72)
theorem vZ(x:Value) (hx:x.oneCell'=true) (w:World) :
 Calls Try.prog 17 #[x] w (wD x w):=by
 cases x
 all_goals first
  | (go_enter Try.func17,Try.ntmps17
     go_wp2
     go_ret
     exact⟨rfl,rfl⟩)
  | simp[Value.oneCell'] at hx
theorem e0_ok:s8 Try.prog E0:=by
 intro f n tm h;simp only[E0] at h;split at h
 ·rename_i e;subst e
  injection h with h
  injection h with h1 h2
  subst h1 h2;refine⟨pU,λx hx=>?_,72,λl2 w hl ZA=>?_⟩
  ·simp only[List.mem_cons,List.not_mem_nil,or_false] at hx;rcases hx with hx | hx
   ·injection hx
   ·injection hx with hx;rw[hx];rfl
  ·match l2,hl with
   | [x],_=>exact vZ x (ZA x (by simp[bxV])) w
 ·simp at h
def Ok{α:Type}(o:Option α) (Q:α->Prop):Prop:=∃a,o=some a/\Q a
section
variable {α β:Type}
theorem Ok.ret{a:α}{Q:α->Prop}(h:Q a):Ok (some a) Q:=⟨a,rfl,h⟩
theorem Ok.bind{o:Option α}{f:α->Option β}{P:α->Prop}{Q:β->Prop}(h:Ok o P) (h2:∀a,P a->Ok (f a) Q):Ok (o.bind f) Q:=by
 obtain⟨a,rfl,h1⟩:=h
 simp_all
theorem Ok.mono{o:Option α}{P Q:α->Prop}(h:Ok o P) (h2:∀a,P a->Q a):Ok o Q:=by
 have ⟨a,e,h1⟩:=h;exact⟨a,e,h2 a h1⟩
theorem Ok.cond{c:Bool}{a b:Option α}{Q:α->Prop}(h1:c=true->Ok a Q) (h2:c=false->Ok b Q):Ok (bif c then a else b) Q:=by
 grind
class BP (b:Bool) (P N:outParam Prop):Prop where
 t:b=true->P
 f:b=false->N
theorem Ok.get{l:List α}{i:Nat}{f:α->Option β}{Q:β->Prop}(h:i < l.length) (h2:∀a,l[i]?=some a->Ok (f a) Q):Ok ((mP l i).bind f) Q:=by
 have e:mP l i=some l[i]:=oGE h
 simp_all
theorem Ok.nat{x:Int}{f:Nat->Option β}{Q:β->Prop}(h:0<=x) (h2:∀n:Nat,x=n->Ok (f n) Q):Ok ((oJ x).bind f) Q:=by
 obtain⟨n,rfl⟩:∃n:Nat,x=n:=⟨x.toNat,by omega⟩;exact h2 n rfl
theorem Ok.val{v:α}{f:α->Option β}{Q:β->Prop}(h:∀x,x=v->Ok (f x) Q):Ok (f v) Q:=h v rfl
theorem wG{c:Bool}{a b:Option α}{Q:α->Prop}(hc:c=true) (h1:Ok a Q):Ok (bif c then a else b) Q:=by simp_all
theorem pj{S T:Type}{f:S->Option (S⊕T)}(P:S->Prop) (R:T->Prop) (m:S->Nat) {n:Nat}{s:S}(hs:P s) (hm:m s < n)
 (h:∀s,P s->Ok (f s) λr=>match r with | .inl s'=>P s'/\m s' < m s | .inr t=>R t):Ok (cB f n s) R:=by
 induction n generalizing s with
 | zero=>omega
 | succ n ih=>
  have ⟨r,e,hr⟩:=h s hs
  cases r with
  | inl s'=>
   have ⟨t,e2,hq⟩:=ih hr.1 (by omega);exact⟨t,by simp[cB,e];exact e2,hq⟩
  | inr t=>exact⟨t,by simp[cB,e],hr⟩
theorem Ok.loop{S T:Type}{f:S->Option (S⊕T)}{g:T->Option β}{Q:β->Prop}(P:S->Prop) (R:T->Prop) (m:S->Nat) {n:Nat}{s:S}(hs:P s) (hm:m s < n)
 (h:∀s,P s->Ok (f s) λr=>match r with | .inl s'=>P s'/\m s' < m s | .inr t=>R t) (hg:∀t,R t->Ok (g t) Q):Ok ((cB f n s).bind g) Q:=(pj P R m hs hm h).bind hg
end
theorem j7{x:Int}(h1:-9223372036854775808<=x) (h2:x<=9223372036854775807):w64 x=x:=n8 h1 h2
theorem gY(n:Nat):oJ (n:Int)=some n:=rfl
theorem oI(n:Nat):cV n=(n:Int):=rfl
theorem kW{S T:Type}{f:S->Option (S⊕T)}(st:Nat->S) {n N:Nat}{ZC:T}(hn:n < N) (h:∀i,i < n->f (st i)=some (.inl (st (i+1)))) (he:f (st n)=some (.inr ZC)):cB f N (st 0)=some ZC:=by
 have ZZ:∀k i,i+k=n->k < N->∀M,k < M->cB f M (st i)=some ZC:=by
  intro k
  induction k with
  | zero=>
   intro i hi _ M hM;obtain⟨M,rfl⟩:∃m,M=m+1:=⟨M - 1,by omega⟩
   have:i=n:=by omega
   subst this;simp[cB,he]
  | succ k ih=>
   intro i hi hk M hM;obtain⟨M,rfl⟩:∃m,M=m+1:=⟨M - 1,by omega⟩;simp only[cB,h i (by omega),oBS];exact ih (i+1) (by omega) (by omega) M (by omega)
 exact ZZ n 0 (by omega) hn N hn
theorem rY{S T:Type}{f:S->Option (S⊕T)}(st:Nat->S) (p:Nat->Prop) {n N:Nat}{Su:Nat->T}{ZC:T}(hn:n < N)
 (h:∀i,i < n->(p i/\f (st i)=some (.inl (st (i+1))))\/(¬ p i/\f (st i)=some (.inr (Su i)))) (he:f (st n)=some (.inr ZC)) :
 ((∀i,i < n->p i)/\cB f N (st 0)=some ZC)\/∃k,k < n/\(∀i,i < k->p i)/\¬ p k/\cB f N (st 0)=some (Su k):=by
 have ZZ:∀k i,i+k=n->(∀j,j < i->p j)->∀M,k < M->((∀i,i < n->p i)/\cB f M (st i)=some ZC)\/∃k,k < n/\(∀i,i < k->p i)/\¬ p k/\cB f M (st i)=some (Su k):=by
  intro k
  induction k with
  | zero=>
   intro i hi hp M hM;obtain⟨M,rfl⟩:∃m,M=m+1:=⟨M - 1,by omega⟩
   have:i=n:=by omega
   subst this;exact .inl ⟨hp,by simp[cB,he]⟩
  | succ k ih=>
   intro i hi hp M hM;obtain⟨M,rfl⟩:∃m,M=m+1:=⟨M - 1,by omega⟩;rcases h i (by omega) with ⟨h1,e⟩ | ⟨h1,e⟩
   ·simp only[cB,e,oBS]
    exact ih (i+1) (by omega) (λj hj=>by
     by_cases e:j=i
     ·subst e;exact h1
     ·exact hp j (by omega)) M (by omega)
   ·exact .inr ⟨i,by omega,hp,h1,by simp[cB,e]⟩
 exact ZZ n 0 (by omega) (λj hj=>by omega) N hn
abbrev Sm{α:Type}(l:List α):Prop:=l.length<=1099511627776
theorem w7{n:Nat}(h:n<=1099511627776):n < NN:=by unfold NN;omega
theorem ku{α:Type}{l:List α}{i:Nat}(h:i < l.length):mP l i=some l[i]:=oGE h
theorem wZ(x y:PID):((x.1==y.1) && ((x.2==y.2) && true))=decide (x=y):=by
 rw[Bool.and_true,Bool.eq_iff_iff];simp[Prod.ext_iff]
theorem th{α:Type}{l:List α}{i:Nat}(h:i < l.length):l.take i++[l[i]]=l.take (i+1):=(List.take_append_getElem h)
theorem oC{a b:List PID}(ha:Sm a) (hb:Sm b):bY a b=some (decide (a=b),()):=by
 unfold bY;simp only[oI];by_cases hl:a.length=b.length
 rotate_left
 ·have:(((a.length:Int) != (b.length:Int)))=true:=by simp;omega
  rw[this,oCT,oDF λe=>hl (by rw[e])]
 have:(((a.length:Int) != (b.length:Int)))=false:=by simp;omega
 rw[this,oCF]
 have step:∀i,i < a.length->(a[i]?=b[i]?/\bj (a,b,(i:Int),())=some (.inl (a,b,((i+1:Nat):Int),())))\/(¬ a[i]?=b[i]?/\bj (a,b,(i:Int),())=some (.inr (.inl (false,())))):=by
  intro i hi;unfold bj;delta cV
  have ZW:i < b.length:=by omega
  dsimp only;rw[oDT (show (i:Int) < a.length by omega),oCT,gY];simp only[oBS,ku hi,ku ZW,wZ];rw[j7 (by omega) (by omega)];rw[oGE hi,oGE ZW];by_cases e:a[i]=b[i]
  ·rw[oDT e];exact .inl ⟨by rw[e],rfl⟩
  ·rw[oDF e];exact .inr ⟨λh=>e (by injection h),rfl⟩
 have ZC:bj (a,b,(a.length:Int),())=some (.inr (.inr (a,b,(a.length:Int),false,()))):=by
  unfold bj;delta cV;dsimp only;rw[oDF (show ¬ (a.length:Int) < a.length by omega)];rfl
 rcases rY (f:=bj) (λi=>(a,b,(i:Int),())) _ (w7 ha) step ZC with ⟨h1,h2⟩ | ⟨k,hk,_,h1,h2⟩
 ·simp only[show cB bj NN (a,b,0,())=_ from h2];rw[oDT (p:=a=b)]
  exact List.ext_getElem? λi=>by
   by_cases hi:i < a.length
   ·exact h1 i hi
   ·rw[oGN (by omega),oGN (by omega)]
 ·simp only[show cB bj NN (a,b,0,())=_ from h2];rw[oDF λe=>h1 (by rw[e])]
theorem wy(a b:PID):dg a.1 a.2 b.1 b.2=some (b6 a b,()):=by
 unfold dg b6;by_cases h:(a.1==-1)=(b.1==-1)
 ·simp only[h,beq_self_eq_true,oNT,oCF,bne_self_eq_false,Bool.false_eq_true,if_false];by_cases h1:a.1 < b.1
  ·simp[h1]
  ·by_cases h2:a.1=b.1
   ·simp[h2]
   ·simp[h1,oBF h2]
 ·have e1:((a.1==-1)==(b.1==-1))=false:=oBF h;have e2:((a.1==-1) != (b.1==-1))=true:=bne_iff_ne.2 h;simp only[e1,e2,Bool.not_false,oCT,if_true]
theorem ft{sz n m:Nat}(h1:n<=1099511627776) (h2:m<=1099511627776) (h3:sz<=128) (h4:n+m<=1099511627776):dH sz n m=true:=by
 unfold dH;have:(n+m)*sz<=1099511627776*128:=Nat.mul_le_mul h4 h3;simp only[oBA,oDE];exact⟨h4,by omega⟩
theorem nU{a:List PID}(h:Sm a):bi a=some (a,()):=by
 unfold bi;rw[ft (by omega) h (by omega) (by have:=h;omega),oCT];rfl
theorem og{a:List PID}(h:Sm a):bn a=some (cJ a,()):=oIP h
theorem xx{a:List PID}(h:a.length+1<=1099511627776) (p r:Int):dy a p r=some (cJ (a++[(p,r)]),()):=by
 unfold dy;rw[nU (show Sm a by unfold Sm;omega),oBS];dsimp only;rw[ft (by omega) (by simp) (by omega) (by simpa using h),oCT];rw[og (show Sm (List.append a [(p,r)]) by unfold Sm;simpa using h)];rfl
theorem kV{a b:List PID}(h:a.length+b.length<=1099511627776):bS a b=some (cJ (a++b),()):=by
 unfold bS bz
 have e:List.flatten [a,b]=a++b:=by simp
 dsimp only;rw[e,oIP ⟨by rw[List.length_append];exact h,by simp⟩,oBS];dsimp only;rw[og (show Sm (a++b) by unfold Sm;rw[List.length_append];exact h)];rfl
def idP(x:Int):PID:=(w64 (wk .i64 (Int.tmod x 4) - 1),Int.tmod (wk .i64 (wk .u8 (Int.tdiv x 4))) 5)
theorem ye(x:Int):fB x=some ((idP x).1,(idP x).2,()):=rfl
theorem xg{l:List Int}(h:Sm l):cf l=some (l.map idP,()):=by
 unfold cf
 have step:∀i,i < l.length->bE (l,(i:Int),(l.take i).map idP,())=some (.inl (l,((i+1:Nat):Int),(l.take (i+1)).map idP,())):=by
  intro i hi;unfold bE;delta cV;dsimp only;rw[oDT (show (i:Int) < l.length by omega),oCT,gY];simp only[oBS,ku hi,ye];rw[ft (by rw[List.length_map,oLT];have:=h;omega) (by simp) (by omega) (by rw[List.length_map,oLT,List.length_singleton];have:=h;omega),oCT];rw[j7 (by omega) (by have:=h;omega),<- th hi,List.map_append];rfl
 have ZC:bE (l,(l.length:Int),(l.take l.length).map idP,())=some (.inr (l,(l.length:Int),false,(l.take l.length).map idP,())):=by
  unfold bE;delta cV;dsimp only;rw[oDF (show ¬ (l.length:Int) < l.length by omega)];rfl
 have:=kW (f:=bE) (λi=>(l,(i:Int),(l.take i).map idP,())) (w7 h) step ZC;simp only[show cB bE NN (l,0,[],())=_ from this,List.take_length,oBS]
def eS(n:Nat) (k:Int):Nat:=(max 0 (min k (n:Int))).toNat
theorem yd(n:Nat) (k:Int):mmR true 0 (mmR false k (cV n))=(eS n k:Int):=by
 rw[oI];unfold mmR eS;simp only[Bool.false_eq_true,if_false,if_true];by_cases h1:(n:Int) < k
 ·rw[oIP h1,Int.min_eq_right (by omega)];by_cases h2:(0:Int) < n
  ·rw[oIP h2,Int.max_eq_right (by omega),Int.toNat_of_nonneg (by omega)]
  ·rw[oIN h2,Int.max_eq_left (by omega)];rfl
 ·rw[oIN h1,Int.min_eq_left (by omega)];by_cases h2:(0:Int) < k
  ·rw[oIP h2,Int.max_eq_right (by omega),Int.toNat_of_nonneg (by omega)]
  ·rw[oIN h2,Int.max_eq_left (by omega)];rfl
theorem oe(n:Nat) (k:Int):eS n k<=n:=by
 unfold eS;omega
theorem wS{a:List PID}(h:Sm a) (k:Int):dL a k=some (a.take (eS a.length k),a.drop (eS a.length k),()):=by
 unfold dL;dsimp only;have hk:=oe a.length k;have h0:=h;simp only[yd,gY,oBS]
 have e1:i7 0 (eS a.length k) a.length=true:=by unfold i7;simp[hk]
 have e2:i7 (eS a.length k) a.length a.length=true:=by unfold i7;simp[hk]
 have e3:ve a 0 (Nat.sub (eS a.length k) 0)=a.take (eS a.length k):=by unfold ve;rfl
 have e4:ve a (eS a.length k) (Nat.sub a.length (eS a.length k))=a.drop (eS a.length k):=by
  unfold ve;rw[List.take_of_length_le (by rw[List.length_drop];exact Nat.le_refl _)]
 rw[e1,oCT,e3,nU (by unfold Sm;rw[oLT];omega),oBS];dsimp only;rw[e2,oCT,e4,nU (by unfold Sm;rw[List.length_drop];omega)];rfl
theorem sR:co=some (true,()):=by
 unfold co;dsimp only;rw[xx (by simp),oBS];dsimp only
 have e:cJ ([(0,1),(-1,0)]++[(1,0)])=[(0,1),(1,0),(-1,0)]:=by decide +kernel
 rw[e,oC (by unfold Sm;simp) (by unfold Sm;simp)];rfl
theorem qG{l:List PID}{x:PID}(h:x∈l):cJ (cJ l++[x])=cJ l:=
 sortP_eq (eX l) λz=>by
  rw[List.mem_append,ge,List.mem_singleton];constructor
  ·exact λh1=>.inl h1
  ·rintro (h1 | rfl)
   ·exact h1
   ·exact h
theorem v8{l m:List Int}{k:Int}(hl:l.length<=1048576) (hm:m.length<=1048576):cq l m k=some (true,()):=by
 unfold cq;delta cV;dsimp only;rw[j7 (by omega) (by omega)];by_cases hb:(l.length:Int)+m.length > 100
 ·rw[oDT hb,oCT,sR];rfl
 rw[oDF hb,oCF,xg (show Sm l by unfold Sm;omega),oBS];dsimp only
 have q0:∀x:List Int,Sm (x.map idP)↔Sm x:=λx=>by unfold Sm;rw[List.length_map]
 have z1:=gf (l.map idP);have z2:=gf (m.map idP);rw[List.length_map] at z1 z2;rw[kV (by rw[List.length_map];simp only[List.length_nil];omega),oBS];dsimp only;rw[xg (show Sm m by unfold Sm;omega),oBS];dsimp only;rw[kV (by rw[List.length_map];simp only[List.length_nil];omega),oBS];dsimp only;rw[List.nil_append,List.nil_append,kV (by omega),oBS];dsimp only;rw[oBS,oBS];dsimp only;rw[kV (by rw[List.length_map,List.length_map];omega),oBS];dsimp only;obtain⟨J,hJ⟩:∃J,J=cJ (l.map idP++m.map idP):=⟨_,rfl⟩
 have ea:cJ (cJ (l.map idP)++cJ (m.map idP))=J:=by
  rw[hJ]
  exact sortP_eq (eX _) λz=>by simp only[ge,List.mem_append]
 have eb:cJ (m.map idP++l.map idP)=J:=by
  rw[hJ]
  exact sortP_eq (eX _) λz=>by simp only[ge,List.mem_append,or_comm]
 have PJ:J.length<=l.length+m.length:=by
  have:=gf (l.map idP++m.map idP);rw[<- hJ,List.length_append,List.length_map,List.length_map] at this;exact this
 have hA:Asc J:=hJ ▸ eX _;rw[ea,eb,oC (by unfold Sm;omega) (by unfold Sm;omega),oBS];dsimp only;rw[oDT (rfl:J=J)];simp only[oNT,oCF];rw[oDF (by omega),oCF]
 have step:∀i,i < J.length - 1->bd (l,k,J,((i+1:Nat):Int),())=some (.inl (l,k,J,((i+1+1:Nat):Int),())):=by
  intro i hi;unfold bd;delta cV;dsimp only
  have h1:i < J.length:=by omega
  have h2:i+1 < J.length:=by omega
  rw[oDT (show ((i+1:Nat):Int) < J.length by omega),oCT];rw[j7 (x:=((i+1:Nat):Int) - 1) (by omega) (by omega),show ((i+1:Nat):Int) - 1=(i:Int) by omega,gY,gY];simp only[oBS,ku h1,ku h2,wy];rw[List.pairwise_iff_getElem.1 hA i (i+1) h1 h2 (by omega),j7 (by omega) (by omega)];rfl
 have ZC:bd (l,k,J,((J.length - 1+1:Nat):Int),())=some (.inr (.inr (l,k,J,((J.length - 1+1:Nat):Int),false,()))):=by
  unfold bd;delta cV;dsimp only;rw[oDF (show ¬ ((J.length - 1+1:Nat):Int) < J.length by omega)];rfl
 have L0:=kW (f:=bd) (λi=>(l,k,J,((i+1:Nat):Int),())) (n:=J.length - 1) (N:=NN) (by unfold NN;omega) step ZC;rw[show cB bd NN (l,k,J,1,())=_ from L0];dsimp only
 have Vb:∀i,i < l.length->bc (l,k,J,(i:Int),())=some (.inl (l,k,J,((i+1:Nat):Int),())):=by
  intro i hi;unfold bc;delta cV;dsimp only;rw[oDT (show (i:Int) < l.length by omega),oCT,gY];simp only[oBS,ku hi,ye,xx (show J.length+1<=1099511627776 by omega)]
  have e:cJ (J++[((idP l[i]).1,(idP l[i]).2)])=J:=by
   rw[hJ];exact qG (List.mem_append_left _ (List.mem_map_of_mem (List.getElem_mem hi)))
  rw[e,oC (by unfold Sm;omega) (by unfold Sm;omega),oBS,oDT (rfl:J=J),j7 (by omega) (by omega)];rfl
 have Sz:bc (l,k,J,(l.length:Int),())=some (.inr (.inr (l,k,J,(l.length:Int),false,()))):=by
  unfold bc;delta cV;dsimp only;rw[oDF (show ¬ (l.length:Int) < l.length by omega)];rfl
 have L1:=kW (f:=bc) (λi=>(l,k,J,(i:Int),())) (n:=l.length) (N:=NN) (by unfold NN;omega) Vb Sz;rw[show cB bc NN (l,k,J,0,())=_ from L1];dsimp only;have hk:=oe J.length k;rw[wS (by unfold Sm;omega),oBS];dsimp only;rw[ft (by omega) (by rw[oLT];omega) (by omega) (by rw[oLT];omega),oCT];have en:List.append [] (J.take (eS J.length k))=J.take (eS J.length k):=rfl;rw[en,ft (by rw[oLT];omega) (by rw[List.length_drop];omega) (by omega) (by rw[oLT,List.length_drop];omega),oCT];have ej:List.append (J.take (eS J.length k)) (J.drop (eS J.length k))=J:=List.take_append_drop _ _;rw[ej,oC (by unfold Sm;omega) (by unfold Sm;omega),oBS,oDT (rfl:J=J)];dsimp only;rw[oCT];have em:mmR true 0 (mmR false k (J.length:Int))=(eS J.length k:Int):=yd _ _;rw[em,oLT,Nat.min_eq_left hk,beq_self_eq_true,oCT,sR];rfl
def mN:List CT->CT
 | []=>.nat
 | [t]=>t
 | t :: u :: r=>.pair t (mN (u :: r))
def dx:(l:List CT)->HL den l->den (mN l)
 | [],_=>(0:Nat)
 | [_],h=>h.1
 | _ :: u :: r,h=>(h.1,dx (u :: r) h.2)
def encL:(l:List CT)->HL den l->List TV
 | [],_=>[]
 | t :: r,h=>enc t h.1++encL r h.2
theorem oZ:∀(l:List CT) (h:HL den l),enc (mN l) (dx l h)=encL l h
 | [],_=>rfl
 | [_],h=>(List.append_nil _).symm
 | _ :: u :: r,h=>by
  show enc _ h.1++enc (mN (u :: r)) (dx (u :: r) h.2)=_;rw[oZ (u :: r) h.2];rfl
def sY:(c:CT)->den c->Prop
 | .int k,n=>(Lit.int k n).wf=true
 | .str,s=>ByteArray.size s<=maxLen
 | .row _ t,xs=>List.length xs<=maxLen/\∀x∈xs,sY t x
 | .pair a b,x=>sY a x.1/\sY b x.2
 | _,_=>True
def GoodL:(l:List CT)->HL den l->Prop
 | [],_=>True
 | t :: r,h=>sY t h.1/\GoodL r h.2
theorem mh:∀(l:List CT) (h:HL den l),GoodL l h->sY (mN l) (dx l h)
 | [],_,_=>trivial
 | [_],_,g=>g.1
 | _ :: u :: r,h,g=>⟨g.1,mh (u :: r) h.2 g.2⟩
def appL:(l m:List CT)->HL den l->HL den m->HL den (l++m)
 | [],_,_,k=>k
 | _ :: r,m,h,k=>(h.1,appL r m h.2 k)
theorem o4:∀(l m:List CT) (h:HL den l) (k:HL den m),encL (l++m) (appL l m h k)=encL l h++encL m k
 | [],_,_,_=>rfl
 | t :: r,m,h,k=>by
  show enc t h.1++encL (r++m) (appL r m h.2 k)=(enc t h.1++encL r h.2)++_;rw[o4 r m h.2 k,List.append_assoc]
theorem oS:∀(l m:List CT) (h:HL den l) (k:HL den m),GoodL l h->GoodL m k->GoodL (l++m) (appL l m h k)
 | [],_,_,_,_,g=>g
 | _ :: r,m,h,k,g,g'=>⟨g.1,oS r m h.2 k g.2 g'⟩
def mL:(c:CT)->den c->Nat
 | .int _,_=>1
 | .bool,_=>1
 | .str,_=>1
 | .row _ t,xs=>1+(List.map (mL t) xs).sum
 | .pair a b,x=>mL a x.1+mL b x.2
 | _,_=>0
def sizL:(l:List CT)->HL den l->Nat
 | [],_=>0
 | t :: r,h=>mL t h.1+sizL r h.2
theorem oi:∀(l:List CT) (h:HL den l),mL (mN l) (dx l h)=sizL l h
 | [],_=>rfl
 | [_],h=>(Nat.add_zero _).symm
 | _ :: u :: r,h=>by
  show mL _ h.1+mL (mN (u :: r)) (dx (u :: r) h.2)=_;rw[oi (u :: r) h.2];rfl
theorem qJ:∀(l m:List CT) (h:HL den l) (k:HL den m),sizL (l++m) (appL l m h k)=sizL l h+sizL m k
 | [],_,_,_=>(Nat.zero_add _).symm
 | t :: r,m,h,k=>by
  show mL t h.1+sizL (r++m) (appL r m h.2 k)=mL t h.1+sizL r h.2+sizL m k;rw[qJ r m h.2 k,Nat.add_assoc]
structure Bulk {H:Type} (B:DataW H->Nat):Prop where
 li:∀l,1<=B (.lit l)
 ni:1<=B .nil
 sl:∀es rs,1+(es.map B).sum<=B (.slice es rs)
 ag:∀xs,(xs.map B).sum<=B (.agg xs)
theorem mU{n:Nat}{f:Fin n->Nat}{l:List Nat}(hl:l.length=n) (h:∀i:Fin n,f i<=l.getD i.1 0):(List.ofFn f).sum<=l.sum:=by
 induction n generalizing l with
 | zero=>simp
 | succ n ih=>
  match l,hl with
  | x :: r,hl=>
   rw[List.ofFn_succ,List.sum_cons,List.sum_cons];exact Nat.add_le_add (h 0) (ih (by simpa using hl) λi=>by simpa using h i.succ)
def RelL(w:World):List TV->List Value->Prop
 | [],[]=>True
 | t :: ts,v :: vs=>dn w (λ_=>True) t v/\RelL w ts vs
 | _,_=>False
theorem RelL.app{w:World}:∀{a:List TV}{x:List Value}{b:List TV}{y:List Value},RelL w a x->RelL w b y->RelL w (a++b) (x++y)
 | [],[],_,_,_,h=>h
 | _ :: a,_ :: x,_,_,g,h=>⟨g.1,RelL.app (a:=a) (x:=x) g.2 h⟩
 | [],_ :: _,_,_,g,_=>g.elim
 | _ :: _,[],_,_,g,_=>g.elim
theorem RelL.len{w:World}:∀{a:List TV}{x:List Value},RelL w a x->a.length=x.length
 | [],[],_=>rfl
 | _ :: a,_ :: x,g=>by rw[oLC,oLC,RelL.len (a:=a) (x:=x) g.2]
 | [],_ :: _,g=>g.elim
 | _ :: _,[],g=>g.elim
theorem RelL.get{w:World}:∀{a:List TV}{x:List Value},RelL w a x->∀j (h:j < a.length) (h':j < x.length),dn w (λ_=>True) a[j] x[j]
 | _ :: _,_ :: _,g,0,_,_=>g.1
 | _ :: a,_ :: x,g,j+1,h,h'=>RelL.get (a:=a) (x:=x) g.2 j (by simpa using h) (by simpa using h')
 | [],_,_,_,h,_=>by simp at h
 | _ :: _,[],g,_,_,_=>g.elim
def wX(P:Program) (g:TypeId->Option (List CT)):Nat->List Field->Option (List CT)
 | _,[]=>some []
 | off,f :: fs=>match g f.type with
  | some l=>if f.offset=off/\l.length=P.cellsOf f.type then (wX P g (off+l.length) fs).map (l++·) else none
  | none=>none
def jc(P:Program):Nat->TypeId->Option (List CT)
 | 0,_=>none
 | n+1,t=>match P.underlying t with
  | some .bool=>some [.bool]
  | some (.int k)=>some [.int k]
  | some .string=>some [.str]
  | some (.slice e)=>match jc P n e with
   | some l=>if l.length=P.cellsOf e then some [.row false (mN l)] else none
   | none=>none
  | some (.struct fs)=>match wX P (jc P n) 0 fs.toList with
   | some l=>if l.length=P.cellsOf t then some l else none
   | none=>none
  | _=>none
section
variable {H:Type} {B:DataW H->Nat} {ec:TypeId×Value->H} {P:Program} {w:World} {base:Nat} {spare:Nat->Bool} {held:Bool}
theorem se{g:TypeId->Option (List CT)}{m:Nat}{cs:List Value}
 (ih:∀t L,g t=some L->∀cs x,DataW.trod ec P w base spare held m t cs=some x->∃h:HL den L,GoodL L h/\RelL w (encL L h) cs/\sizL L h<=B x.1) :
 ∀(fs:List Field) (xs:List (DataW H×List MemPlace)) (off:Nat) (L:List CT),wX P g off fs=some L->xs.length=fs.length->(∀(i:Nat) (f:Field),fs[i]?=some f->DataW.trod ec P w base spare held m f.type ((cs.drop f.offset).take (P.cellsOf f.type))=xs[i]?) ->
  ∃h:HL den L,GoodL L h/\RelL w (encL L h) ((cs.drop off).take L.length)/\sizL L h<=(xs.map λx=>B x.1).sum:=by
 intro fs
 induction fs with
 | nil=>
  intro xs off L hL _ _
  injection hL with hL
  subst hL;exact⟨(),trivial,trivial,Nat.zero_le _⟩
 | cons f fs TO=>
  intro xs off L hL V9 hx;unfold wX at hL
  obtain⟨x,xs,rfl⟩:∃y ys,xs=y :: ys:=by cases xs with | nil=>simp at V9 | cons y ys=>exact⟨y,ys,rfl⟩
  split at hL
  ·rename_i l hg;split at hL
   ·rename_i ho;obtain⟨rfl,hlen⟩:=ho
    cases hr:wX P g (f.offset+l.length) fs with
    | none=>rw[hr] at hL;cases hL
    | some L2=>
     rw[hr] at hL
     injection hL with hL
     subst hL;have h1:=hx 0 f rfl;rw[List.getElem?_cons_zero] at h1;obtain⟨h,g1,r1,z1⟩:=ih _ _ hg _ _ h1
     obtain⟨k,g2,r2,z2⟩:=TO xs _ _ hr (by simpa using V9) λi f' T3=>by simpa using hx (i+1) f' (by simpa using T3)
     refine⟨appL l L2 h k,oS _ _ _ _ g1 g2,?_,by rw[qJ,List.map_cons,List.sum_cons];exact Nat.add_le_add z1 z2⟩;rw[o4,List.length_append,List.take_add,List.drop_drop];rw[hlen];rw[hlen] at r2;exact r1.app r2
   ·cases hL
  ·cases hL
theorem xf(hB:Bulk B):∀(n:Nat) (t:TypeId) (L:List CT),jc P n t=some L->∀(Ym:Nat) (cs:List Value) (x:DataW H×List MemPlace),DataW.trod ec P w base spare held Ym t cs=some x ->
 ∃h:HL den L,GoodL L h/\RelL w (encL L h) cs/\sizL L h<=B x.1:=by
 intro n
 induction n with
 | zero=>intro t L h;cases h
 | succ n ih=>
  intro t L hL Ym cs x hx;unfold jc at hL;split at hL
  ·rename_i ht
   injection hL with hL
   subst hL;obtain⟨b,rfl,hd⟩:=DataW.trod_bool ht hx;exact⟨(b,()),⟨trivial,trivial⟩,⟨.v rfl,trivial⟩,by rw[hd];exact hB.li _⟩
  ·rename_i k ht
   injection hL with hL
   subst hL;obtain⟨z,rfl,hd,hw⟩:=DataW.trod_int ht hx;exact⟨(z,()),⟨hw,trivial⟩,⟨.v rfl,trivial⟩,by rw[hd];exact hB.li _⟩
  ·rename_i ht
   injection hL with hL
   subst hL;obtain⟨s,rfl,hd,hs⟩:=DataW.trod_string ht hx;exact⟨(s,()),⟨hs,trivial⟩,⟨.v rfl,trivial⟩,by rw[hd];exact hB.li _⟩
  ·rename_i e ht;split at hL
   ·rename_i l hl;split at hL
    ·rename_i hsz
     injection hL with hL
     subst hL;rcases DataW.trod_slice ht hx with ⟨rfl,hd⟩ | ⟨a,len,cap,XC,rest,m,_,rfl,hd,_,YU,hmax,Zi,Z6,_,_⟩
     ·exact⟨([],()),⟨⟨Nat.zero_le _,λx hx=>by cases hx⟩,trivial⟩,⟨.sl (c:=[]) 1 (λ_ _=>undef) (λi h=>by simp at h) (Nat.le_refl _) (Nat.zero_le _) (λ_=>rfl) (λi j h=>by simp at h) (λi j h=>by simp at h),trivial⟩,by rw[hd];exact hB.ni⟩
     ·have Sw:∀i:Fin len,∃p:HL den l×List Value,GoodL l p.1/\RelL w (encL l p.1) p.2/\w.cells? base (a.add (i.1*P.cellsOf e)) (P.cellsOf e)=some p.2/\sizL l p.1<=(XC.map λx=>B x.1).getD i.1 0:=by
       intro i;have h1:=Z6 i.1 i.2;rw[oGE (by omega)] at h1;obtain⟨P1,h2,h3⟩:=Option.bind_eq_some_iff.1 h1;obtain⟨h,g,r,z⟩:=ih _ _ hl _ _ _ h3;exact⟨(h,P1),g,r,h2,by simpa [Zi,i.2] using z⟩
      obtain⟨f,hf⟩:=Classical.axiomOfChoice Sw
      have Sv:∀i,(encL l (f i).1).length=l.length:=λi=>by
       rw[(hf i).2.1.len,(World.cells?_some (hf i).2.2.1).2.1,hsz]
      have ZZ:dn w (λ_=>True) (.sl ((List.ofFn λi:Fin len=>dx l (f i).1).map (enc (mN l)))) (.slice (some a) ((List.ofFn λi:Fin len=>dx l (f i).1).map (enc (mN l))).length cap):=by
       have el:((List.ofFn λi:Fin len=>dx l (f i).1).map (enc (mN l))).length=len:=by simp
       have eg:∀i (hi:i < ((List.ofFn λi:Fin len=>dx l (f i).1).map (enc (mN l))).length),((List.ofFn λi:Fin len=>dx l (f i).1).map (enc (mN l)))[i]=encL l (f ⟨i,by omega⟩).1:=by
        intro i hi;simp[oZ]
       refine .sl l.length (λi j=>if h:i < len then (f ⟨i,h⟩).2.getD j undef else undef) (λi hi=>by rw[eg i hi,Sv]) (by rw[el];exact YU) hmax (λh=>by cases h) (λi j hi hj=>?_) (λi j hi hj=>?_)
       ·rw[el] at hi
        have cell:∀i' (ZW:i' < len) j',j' < l.length->w.cell? ((a.add (i'*l.length)).add j')=some ((f ⟨i',ZW⟩).2.getD j' undef):=by
         intro i' ZW j' ZY;have h1:=World.cells?_some (hf ⟨i',ZW⟩).2.2.1;have h2:=h1.2.2 j' (by omega);rw[hsz];rw[h2]
         have:j' < (f ⟨i',ZW⟩).2.length:=by rw[h1.2.1];omega
         simp[this]
        have h0:=World.cell?_spot (cell 0 (by omega) 0 (by omega));obtain⟨b,o,spot⟩:=a
        have UZ:spot=none:=by simpa [Addr.add] using h0
        subst UZ;refine⟨b,o,rfl,trivial,?_⟩;have h2:=cell i hi j hj;rw[Go.WideShapes.add_plain,Go.WideShapes.add_plain] at h2;rw[dif_pos hi,<- h2,Nat.add_assoc]
       ·rw[el] at hi;have hr:=(hf ⟨i,hi⟩).2.1
        have X2:j < (encL l (f ⟨i,hi⟩).1).length:=by rw[eg i (by omega)] at hj;exact hj
        have VL:j < (f ⟨i,hi⟩).2.length:=by rw[<- hr.len];exact X2
        have h3:=hr.get j X2 VL
        have e1:(if h:i < len then (f ⟨i,h⟩).2.getD j undef else undef)=(f ⟨i,hi⟩).2[j]:=by
         rw[dif_pos hi];simp[VL]
        simp only[e1];have e2:((List.ofFn λi:Fin len=>dx l (f i).1).map (enc (mN l)))[i]'(by omega)=encL l (f ⟨i,hi⟩).1:=eg i (by omega);simp only[e2];exact h3
      rw[List.length_map,List.length_ofFn] at ZZ;refine⟨(List.ofFn λi:Fin len=>dx l (f i).1,()),⟨⟨by rw[List.length_ofFn];omega,λx hx=>?_⟩,trivial⟩,⟨ZZ,trivial⟩,?_⟩
      rotate_left
      ·rw[hd];refine Nat.le_trans ?_ (hB.sl _ _);show 1+(List.map (mL (mN l)) (List.ofFn λi:Fin len=>dx l (f i).1)).sum+0<=_;rw[List.map_ofFn,List.map_map]
       have:=mU (f:=mL (mN l) ∘ λi:Fin len=>dx l (f i).1) (l:=XC.map λx=>B x.1) (by simpa using Zi) λi=>by
        rw[Function.comp,oi];exact (hf i).2.2.2
       have e:(XC.map (B ∘ λx=>x.1)).sum=(XC.map λx=>B x.1).sum:=rfl;rw[e];omega
      obtain⟨i,rfl⟩:=List.mem_ofFn.1 hx;exact mh _ _ (hf i).1
    ·cases hL
   ·cases hL
  ·rename_i fs ht;split at hL
   ·rename_i l hl;split at hL
    ·rename_i hsz
     injection hL with hL
     subst hL;obtain⟨xs,m,_,hd,hlen,Ra,hf⟩:=DataW.trod_struct ht hx;obtain⟨h,g,r,z⟩:=se (cs:=cs) (m:=m) (λt L hL cs x hx=>ih t L hL m cs x hx) fs.toList xs 0 l hl (by simpa using Ra) λi f hi=>hf i f (by simpa using hi);refine⟨h,g,?_,by rw[hd];exact Nat.le_trans z (by have:=hB.ag (xs.map (·.1));rw[List.map_map] at this;exact this)⟩;rw[List.drop_zero,hsz,<- hlen,List.take_length] at r;exact r
    ·cases hL
   ·cases hL
  ·cases hL
theorem intake_arg(hB:Bulk B) (n:Nat) {t:TypeId}{L:List CT}{v:Value}{d:DataW H}{p:List MemPlace}(hL:jc P n t=some L) (h:DataW.Trod ec P w base spare held t v d p) :
 ∃h:HL den L,GoodL L h/\RelL w (encL L h) v.cells.toList/\sizL L h<=B d:=by
 obtain⟨Ym,hf⟩:=h;exact xf hB n t L hL Ym _ _ hf
end
theorem plain_one{w:World}{t:TV}{v:Value}(r:RelL w [t] [v]):n7 w t v:=r.1.plain
theorem qI{b:Bool}{t:CT}(h:∀x:den t,1<=mL t x):∀xs:List (den t),xs.length<=mL (.row b t) xs:=by
 intro xs;show xs.length<=1+(xs.map (mL t)).sum
 induction xs with
 | nil=>exact Nat.zero_le _
 | cons x r ih=>rw[List.map_cons,List.sum_cons,oLC];have:=h x;omega
theorem law_DirtyLists{h0:HL den [(.row false (.int .u8))]}{h1:HL den [(.row false (.int .u8))]}{h2:HL den [I64]}(g0:GoodL _ h0) (g1:GoodL _ h1) (g2:GoodL _ h2)
 (hz:sizL [(.row false (.int .u8))] h0+(sizL [(.row false (.int .u8))] h1+(sizL [I64] h2+(0)))<=1048576) :
 dT.g (appL [(.row false (.int .u8))] _ h0 (appL [(.row false (.int .u8))] _ h1 (appL [I64] _ h2 ())))=some (true,()):=by
 have z0:=qI (b:=false) (t:=.int .u8) (λ_=>Nat.le_refl _) h0.1;have z1:=qI (b:=false) (t:=.int .u8) (λ_=>Nat.le_refl _) h1.1;have e0:sizL [(.row false (.int .u8))] h0=mL (.row false (.int .u8)) h0.1+0:=rfl;have e1:sizL [(.row false (.int .u8))] h1=mL (.row false (.int .u8)) h1.1+0:=rfl;exact v8 (l:=h0.1) (m:=h1.1) (k:=h2.1) (by omega) (by omega)
end Go.Proofs.Yteonljfnncdijaa
