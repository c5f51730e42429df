/- Part of the proof; no condition. -/
import Derived.Test.YtgphpfjngblbiaaUc
import Derived.Deep.DeepAppendRoom
import Derived.ArgAppend
import Derived.Deep.OwnRows
import Derived.Deep.LoopGhost
import Derived.Deep.DeepCutAuto
import Derived.Deep.CutBlock
import Derived.Test.YtgphpfjngblbiaaProg
import Derived.KernelRfl
import Derived.WalkKit
import Derived.WalkSpells
import Derived.Handy
import Derived.OpenShut
set_option linter.unusedVariables false
set_option linter.unusedSimpArgs false
namespace Go.Proofs.Ytgphpfjngblbiaa
open Go.RowKit
def FZ(xs:List Int)(w:World)(e:Ending)(w':World):Prop:=
 ∃A c,e=.returned (.slice A xs.length c)/\ou .i64 w' (New w w') A xs/\w.grownBy w' none
theorem rR{w w0:World}{xs:List Int}{vs:Array Value}{t:TypeId}(h:w.heap.size<=w0.heap.size)(hv:vs=(xs.map (.int .i64)).toArray):ou .i64 (w0.alloc (.cells vs t)) (New w (w0.alloc (.cells vs t))) (some ⟨w0.heap.size,0,none⟩) xs:=by
 subst hv;intro i hi;refine⟨_,_,rfl,⟨h,by simp⟩,?_⟩;rw[World.cell?_alloc_new,Nat.zero_add,List.getElem?_toArray];exact oGE hi
set_option maxHeartbeats 1000000 in
theorem m9(op a b c i pc:Int)(w:World)(h0:0<=pc)(h1:pc<64):
 Calls Try.prog 34 #[.agg #[.int .i64 op,.int .i64 a,.int .i64 b,.int .i64 c,.int .i64 i],.int .i64 pc] w (FZ (tgt op i pc) w):=by
 have ha:w.grownBy (w.alloc (.cells #[.int .i64 op,.int .i64 a,.int .i64 b,.int .i64 c,.int .i64 i] 78)) none:=cj (cQ _ _) _;have Ha:=Lib.hid ha;clear ha;obtain⟨xs,Yh⟩:∃xs,xs=tgt op i pc:=⟨_,rfl⟩;rw[<- Yh];unfold tgt at Yh;have Ya:=Lib.hid Yh;clear Yh
 have Tq:∀(v:Int),xs=[v]->FZ xs w (.returned (.slice (some ⟨w.heap.size+1,0,none⟩) 1 1)) ((w.alloc (.cells #[.int .i64 op,.int .i64 a,.int .i64 b,.int .i64 c,.int .i64 i] 78)).alloc (.cells #[.int .i64 v] 3)):=by
  rintro v rfl;exact⟨_,1,rfl,by have:=rR (w:=w) (w0:=w.alloc (.cells #[.int .i64 op,.int .i64 a,.int .i64 b,.int .i64 c,.int .i64 i] 78)) (xs:=[v]) (vs:=#[.int .i64 v]) (t:=3) (by simp) rfl;simpa using this,cj Ha.out _⟩
 have W6:∀(u v:Int),xs=[u,v]->FZ xs w (.returned (.slice (some ⟨w.heap.size+1,0,none⟩) 2 2)) ((w.alloc (.cells #[.int .i64 op,.int .i64 a,.int .i64 b,.int .i64 c,.int .i64 i] 78)).alloc (.cells #[.int .i64 u,.int .i64 v] 3)):=by
  rintro u v rfl;exact⟨_,2,rfl,by have:=rR (w:=w) (w0:=w.alloc (.cells #[.int .i64 op,.int .i64 a,.int .i64 b,.int .i64 c,.int .i64 i] 78)) (xs:=[u,v]) (vs:=#[.int .i64 u,.int .i64 v]) (t:=3) (by simp) rfl;simpa using this,cj Ha.out _⟩
 have Tl:=Lib.hid Tq;have SR:=Lib.hid W6;clear Tq W6;cases j1:(op==18)
 ·cases j2:(op==21)
  ·cases r1:(op==22)
   ·cases r2:(op==24)
    ·cases z1:(op==19)
     ·cases z2:(op==20)
      ·have He:=Lib.hid (show xs=[pc+1] by rw[Ya.out];simp[*])
       go_enter Try.func34,Try.ntmps34
       go_wp2
       go_ret
       exact Tl.out _ He.out
      ·by_cases l1:i<pc+1
       ·have He:=Lib.hid (show xs=[i,pc+1] by rw[Ya.out];simp[*])
        go_enter Try.func34,Try.ntmps34
        go_wp2
        go_ret
        exact SR.out _ _ He.out
       ·by_cases l2:pc+1<i
        ·have He:=Lib.hid (show xs=[pc+1,i] by rw[Ya.out];simp[*])
         go_enter Try.func34,Try.ntmps34
         go_wp2
         go_ret
         exact SR.out _ _ He.out
        ·have He:=Lib.hid (show xs=[pc+1] by rw[Ya.out];simp[*])
         go_enter Try.func34,Try.ntmps34
         go_wp2
         go_ret
         exact Tl.out _ He.out
     ·by_cases l1:i<pc+1
      ·have He:=Lib.hid (show xs=[i,pc+1] by rw[Ya.out];simp[*])
       go_enter Try.func34,Try.ntmps34
       go_wp2
       go_ret
       exact SR.out _ _ He.out
      ·by_cases l2:pc+1<i
       ·have He:=Lib.hid (show xs=[pc+1,i] by rw[Ya.out];simp[*])
        go_enter Try.func34,Try.ntmps34
        go_wp2
        go_ret
        exact SR.out _ _ He.out
       ·have He:=Lib.hid (show xs=[pc+1] by rw[Ya.out];simp[*])
        go_enter Try.func34,Try.ntmps34
        go_wp2
        go_ret
        exact Tl.out _ He.out
    ·go_enter Try.func34,Try.ntmps34
     go_wp2
     go_ret
     have e:xs=[]:=by rw[Ya.out];simp[*]
     subst e;exact⟨none,0,rfl,Row.nil _ _ _,Ha.out⟩
   ·go_enter Try.func34,Try.ntmps34
    go_wp2
    go_ret
    have e:xs=[]:=by rw[Ya.out];simp[*]
    subst e;exact⟨none,0,rfl,Row.nil _ _ _,Ha.out⟩
  ·have He:=Lib.hid (show xs=[i] by rw[Ya.out];simp[*])
   go_enter Try.func34,Try.ntmps34
   go_wp2
   go_ret
   exact Tl.out _ He.out
 ·have He:=Lib.hid (show xs=[i] by rw[Ya.out];simp[*])
  go_enter Try.func34,Try.ntmps34
  go_wp2
  go_ret
  exact Tl.out _ He.out
structure Buf (k:IntKind)(e:TypeId)(w:World)(g c:Nat)(xs:List Int):Prop where
 len:xs.length<=c
 cap:c<=maxLen
 eq:∃cur:Array Value,w.heap[g]?=some (.cells cur e (0,0))/\cur.size=c/\cur.toList.take xs.length=xs.map (.int k)
theorem Buf.hi{k:IntKind}{e:TypeId}{w:World}{g c:Nat}{xs:List Int}(h:Buf k e w g c xs):g<w.heap.size:=by
 obtain⟨cur,h1,_⟩:=h.eq;exact(Array.getElem?_eq_some_iff.1 h1).1
theorem Buf.cell{k:IntKind}{e:TypeId}{w:World}{g c:Nat}{xs:List Int}(h:Buf k e w g c xs){j:Nat}(hj:j<xs.length):w.cell? ⟨g,j,none⟩=some (.int k xs[j]):=by
 obtain⟨cur,h1,h2,h3⟩:=h.eq;rw[cell_of_row _ _ _ _ _ _ h1]
 have h4:(cur.toList.take xs.length)[j]?=some (.int k xs[j]):=by rw[h3];simp[hj]
 rw[List.getElem?_take,oIP hj]at h4;simpa using h4
theorem Buf.free{k:IntKind}{e:TypeId}{w:World}{g c:Nat}{xs:List Int}(h:Buf k e w g c xs)(j:Nat):w.frozen? ⟨g,j,none⟩=false:=by
 obtain⟨cur,h1,_⟩:=h.eq;exact frozen_of_row _ _ _ _ _ h1
theorem Buf.ints{k:IntKind}{e:TypeId}{w:World}{g c:Nat}{xs:List Int}(h:Buf k e w g c xs):ou k w (λb=>b=g) (some ⟨g,0,none⟩) xs:=by
 intro i hi
 have ZO:i<xs.length:=by simpa using hi
 exact⟨g,0,rfl,rfl,by rw[Nat.zero_add,h.cell ZO];simp⟩
theorem Buf.low{k:IntKind}{e:TypeId}{w:World}{g c:Nat}{xs:List Int}(h:Buf k e w g c xs):ou k w (λb=>b<w.heap.size) (some ⟨g,0,none⟩) xs:=
 Row.sub h.ints λb hb=>by rw[hb];exact h.hi
theorem Buf.keep{k:IntKind}{e:TypeId}{w w':World}{g c:Nat}{xs:List Int}(h:Buf k e w g c xs)(hh:w'.heap[g]?=w.heap[g]?):Buf k e w' g c xs:=by
 obtain⟨cur,h1,h2⟩:=h.eq;exact⟨h.len,h.cap,cur,by rw[hh];exact h1,h2⟩
theorem Buf.grow{k:IntKind}{e:TypeId}{w w':World}{g c:Nat}{xs:List Int}(h:Buf k e w g c xs)(hg:w.grownBy w' none):Buf k e w' g c xs:=h.keep (hg.block _ h.hi (by simp))
theorem Buf.set{k:IntKind}{e:TypeId}{w:World}{g c:Nat}{xs:List Int}(h:Buf k e w g c xs)(j:Nat)(x:Int)(hj:j<xs.length):Buf k e (w.setCell ⟨g,j,none⟩ (.int k x)) g c (xs.set j x):=by
 obtain⟨cur,h1,h2,h3⟩:=h.eq;refine⟨by simpa using h.len,h.cap,cur.setIfInBounds j (.int k x),?_,by simpa using h2,?_⟩
 ·exact heap_setCell_same _ _ _ _ _ _ h1
 ·rw[List.length_set,List.map_set,<- h3,Array.toList_setIfInBounds];apply List.ext_getElem?;intro i;simp only[List.getElem?_take,List.getElem?_set];have:=h.len;split<;>(try split)<;>simp_all<;>omega
theorem Buf.tail{k:IntKind}{e:TypeId}{w:World}{g c:Nat}{xs:List Int}(h:Buf k e w g c xs):ou k w (λb=>b=g) (some ⟨g,1,none⟩) xs.tail:=by
 intro i hi
 have ZO:i+1<xs.length:=by simp at hi;omega
 exact⟨g,1,rfl,rfl,by rw[Nat.add_comm 1 i,h.cell ZO];simp⟩
theorem Buf.own{k:IntKind}{e:TypeId}{w:World}{g c base:Nat}{xs:List Int}(h:Buf k e w g c xs)(hb:base<=g):w.ownsRow base e 1 (.slice (some ⟨g,0,none⟩) xs.length c) xs.length (xs.map (.int k)):=by
 obtain⟨cur,h1,h2,h3⟩:=h.eq;exact⟨by simp,.inr ⟨g,c,cur,rfl,hb,h1,h.len,h.cap,by simp[h2],by simpa using h3⟩⟩
theorem lS{k:IntKind}{e:TypeId}{w:World}{base n:Nat}{v:Value}{xs:List Int}(h:w.ownsRow base e 1 v n (xs.map (.int k)))(hne:xs≠[]):
 ∃g c,n=xs.length/\v=.slice (some ⟨g,0,none⟩) xs.length c/\base<=g/\Buf k e w g c xs:=by
 obtain⟨h0,h1⟩:=h
 have hl:n=xs.length:=by simpa using h0.symm
 subst hl
 rcases h1 with⟨_,h1⟩|⟨g,c,cur,rfl,hb,h1,h2,h3,h4,h5⟩
 ·exact absurd (List.length_eq_zero_iff.1 h1) hne
 ·exact⟨g,c,rfl,rfl,hb,h2,h3,cur,h1,by simpa using h4,by simpa using h5⟩
theorem ou.cells{k:IntKind}{w:World}{F:Nat->Prop}{A:Option Addr}{xs:List Int}(h:ou k w F A xs)(hne:xs≠[]):
 ∃ad,A=some ad/\∀(j:Nat) u,(xs.map (Value.int k))[j]?=some u->w.cell? (ad.add j)=some u:=by
 have hl:0<xs.length:=List.length_pos_iff.2 hne;obtain⟨b,off,rfl,_,_⟩:=h.at_ hl;refine⟨_,rfl,λj u hj=>?_⟩
 have Z0:j<xs.length:=by
  rcases Nat.lt_or_ge j xs.length with h'|h'
  ·exact h'
  ·simp[h']at hj
 obtain⟨b',PS,e,_,hc⟩:=h.at_ Z0
 injection e with e;injection e with e1 e2;subst e1;subst e2
 rw[show(⟨b,off,none⟩:Addr).add j=⟨b,off+j,none⟩ by simp[Addr.add],hc];simpa[Z0]using hj
section
variable {P:Program} {ops:Array Oper} {rest:List Oper} {o:Oper} {a:Act} {Q:Exit->Act->World->Prop} {w:World}
end
section
variable {P:Program} {w:World}
theorem yB(k:IntKind)(t ty e:TypeId)(i:TypeInfo)(bytes:Nat)(ht:P.underlying t=some (.slice e))(hi:P.info? e=some i)(hz:i.zero=some (.int k 0))(VM:i.size=1)(U6:i.bytes=bytes)
 (g0 c0:Nat)(zs:List Int)(hB:Buf k e w g0 c0 zs)(A:Option Addr)(xs:List Int)(cp:Nat)(F:Nat->Prop)(hI:ou k w F A xs)(hne:xs≠[])(hm:zs.length+xs.length<=maxLen)(hb:(zs.length+xs.length)*bytes<=140737488355328):
 ∃g c w',(Builtin.append_ #[t,t] ty #[.slice (some ⟨g0,0,none⟩) zs.length c0,.slice A xs.length cp]).run P w=.ok (.slice (some ⟨g,0,none⟩) (zs++xs).length c) w'/\Buf k e w' g c (zs++xs)/\
  (g=g0/\c=c0/\w.grownBy w' (some g0)\/w.heap.size<=g/\w.grownBy w' none):=by
 obtain⟨ad,rfl,hc⟩:=hI.cells hne;have Uh:=hB.own (Nat.zero_le g0)
 have T8:zs++xs≠[]:=by simp[hne]
 rcases Nat.lt_or_ge c0 (zs.length+xs.length)with hl|hl
 ·obtain⟨v',w',hr,hown,hg⟩:=run_append_arg_grows (P:=P) w t ty e i (.int k 0) 1 bytes ht hi hz VM U6 rfl (by decide) ⟨g0,0,none⟩ zs.length c0 (zs.map (.int k)) (by simp) (λj u hj=>by
   have Z0:j<zs.length:=by
    rcases Nat.lt_or_ge j zs.length with h'|h'
    ·exact h'
    ·simp[h']at hj
   rw[show(⟨g0,0,none⟩:Addr).add j=⟨g0,j,none⟩from(by unfold Addr.add;split;(rename_i h0;subst h0;rfl);simp),hB.cell Z0]
   simpa[Z0]using hj) ad xs.length cp (xs.map (.int k)) (by simp) hc hl hm hb
  rw[<- List.map_append]at hown;obtain⟨g,c,_,rfl,hb,Vv⟩:=lS hown T8;exact⟨g,c,w',hr,Vv,.inr ⟨hb,hg⟩⟩
 ·obtain⟨w',hr,hown,hg⟩:=run_append_own_spare (P:=P) w 0 t ty e i 1 ht hi VM g0 zs.length c0 (zs.map (.int k)) Uh ad xs.length cp (xs.map (.int k)) (by simp) hc (by simp[Value.oneCell']) hl;rw[<- List.map_append]at hown;obtain⟨g,c,_,e,_,Vv⟩:=lS hown T8
  injection e with e1 e2 e3
  injection e1 with e1;injection e1 with e1
  subst e1;subst e3;exact⟨g0,c0,w',by rw[hr,List.length_append],Vv,.inl ⟨rfl,rfl,hg⟩⟩
end
def Bk(w:World)(q t:Nat)(vs:List Value):Prop:=w.heap[q]?=some (.cells vs.toArray t (0,0))
theorem Bk.hi{w:World}{q t:Nat}{vs:List Value}(h:Bk w q t vs):q<w.heap.size:=(Array.getElem?_eq_some_iff.1 h).1
theorem Bk.keep{w w':World}{q t:Nat}{vs:List Value}(h:Bk w q t vs)(hh:w'.heap[q]?=w.heap[q]?):Bk w' q t vs:=hh.trans h
theorem Bk.grow{w w':World}{q t:Nat}{vs:List Value}(h:Bk w q t vs)(hg:w.grownBy w' none):Bk w' q t vs:=h.keep (hg.block _ h.hi (by simp))
theorem Bk.cell{w:World}{q t:Nat}{vs:List Value}(h:Bk w q t vs)(j:Nat):w.cell? ⟨q,j,none⟩=vs[j]?:=by
 rw[cell_of_row _ _ _ _ _ _ h];simp
theorem Bk.free{w:World}{q t:Nat}{vs:List Value}(h:Bk w q t vs)(j:Nat):w.frozen? ⟨q,j,none⟩=false:=frozen_of_row _ _ _ _ _ h
theorem Bk.new{w:World}{t:Nat}{vs:List Value}:Bk (w.alloc (.cells vs.toArray t)) w.heap.size t vs:=heap_alloc_new w _
theorem Bk.set{w:World}{q t:Nat}{vs:List Value}(h:Bk w q t vs)(j:Nat)(v:Value):Bk (w.setCell ⟨q,j,none⟩ v) q t (vs.set j v):=by
 unfold Bk;rw[heap_setCell_same _ _ _ _ _ _ h];simp
theorem Bk.other{w:World}{q t q' j:Nat}{vs:List Value}(h:Bk w q t vs)(hne:q≠q')(v:Value):Bk (w.setCell ⟨q',j,none⟩ v) q t vs:=by
 unfold Bk;rw[heap_setCell_other _ _ _ _ hne];exact h
theorem Bk.drew{w:World}{q t:Nat}{vs:List Value}(h:Bk w q t vs):Bk w.drew q t vs:=h
abbrev fQ:=Int×Int×Int×Int×Int
def frI(x:fQ):Bool:=x.1==22||(x.1==23&&(x.2.2.2.2==10||x.2.2.2.2==12))
def ij(code:List fQ)(out:List Bool)(k:Int):Bool:=decide (k<0)||(decide ((code.length:Int)<=k)||(out[k.toNat]?).getD false)
def uY(code:List fQ):Nat->List Bool->Bool->List Int->Option (List Bool×Bool)
 |0,_,_,_=>none
 |n+1,out,fr,todo=>match todo.getLast? with
  |none=>some (out,fr)
  |some k=>if ij code out k=true then uY code n out fr todo.dropLast
   else match code[k.toNat]? with
    |some x=>uY code n (out.set k.toNat true) (fr||frI x) (todo.dropLast++tgt x.1 x.2.2.2.2 k)
    |none=>none
def nF(code:List fQ):Option (List Bool):=(uY code 10000 (List.replicate code.length false) false [0]).map λr=>r.1.map λb=>b||r.2
def s7(code:List fQ):Nat->List Bool->List Int->Option (List Bool)
 |0,_,_=>none
 |n+1,out,todo=>match todo.getLast? with
  |none=>some out
  |some k=>if k<0 then none else if ij code out k=true then s7 code n out todo.dropLast
   else match code[k.toNat]? with
    |some x=>s7 code n (out.set k.toNat true) (todo.dropLast++tgt x.1 x.2.2.2.2 k++(if frI x then(List.range code.length).map (λj:Nat=>(j:Int))else[]))
    |none=>none
def tG(code:List fQ):Option (List Bool):=s7 code 10000 (List.replicate code.length false) [0]
theorem uf:∃i,Try.prog.info? 3=some i/\i.zero=some (.int .i64 0)/\i.size=1/\i.bytes=8:=by
 have h:(match Try.prog.info? 3 with|some i=>(match i.zero with|some (.int .i64 n)=>decide (n=0)&&decide (i.size=1)&&decide (i.bytes=8)|_=>false)|none=>false)=true:=by kernel_rfl
 revert h
 cases Try.prog.info? 3 with
 |none=>intro h;cases h
 |some i=>
  intro h;simp only at h;split at h
  ·rename_i hz;simp only[oBA,oDE]at h;obtain⟨⟨rfl,h1⟩,h2⟩:=h;exact⟨i,rfl,hz,h1,h2⟩
  ·cases h
theorem ro:∃i,Try.prog.info? 4=some i/\i.zero=some (.bool false)/\i.size=1/\i.bytes=1:=by
 have h:(match Try.prog.info? 4 with|some i=>(match i.zero with|some (.bool n)=>!n&&decide (i.size=1)&&decide (i.bytes=1)|_=>false)|none=>false)=true:=by kernel_rfl
 revert h
 cases Try.prog.info? 4 with
 |none=>intro h;cases h
 |some i=>
  intro h;simp only at h;split at h
  ·rename_i b hz;simp only[oBA,oDE,Bool.not_eq_true']at h;obtain⟨⟨rfl,h1⟩,h2⟩:=h;exact⟨i,rfl,hz,h1,h2⟩
  ·cases h
theorem wG:Try.prog.underlying 23=some (.slice 3):=by kernel_rfl
theorem tj:Try.prog.underlying 74=some (.slice 4):=by kernel_rfl
structure qd (w:World)(A:Option Addr)(code:List fQ):Prop where
 ex:code≠[]->∃b off,A=some ⟨b,off,none⟩/\b<w.heap.size/\∀k (h:k<code.length),w.cell? ⟨b,off+k*5,none⟩=some (.int .i64 code[k].1)/\w.cell? ⟨b,off+k*5+1,none⟩=some (.int .i64 code[k].2.1)/\
  w.cell? ⟨b,off+k*5+2,none⟩=some (.int .i64 code[k].2.2.1)/\w.cell? ⟨b,off+k*5+3,none⟩=some (.int .i64 code[k].2.2.2.1)/\w.cell? ⟨b,off+k*5+4,none⟩=some (.int .i64 code[k].2.2.2.2)
theorem qd.grown{w w':World}{A:Option Addr}{code:List fQ}(h:qd w A code)(hg:w.grownBy w' none):qd w' A code:=⟨λhn=>by
 obtain⟨b,off,e,hb,hc⟩:=h.ex hn;have hh:∀o,w'.cell? ⟨b,o,none⟩=w.cell? ⟨b,o,none⟩:=λo=>World.cell?_of_block (hg.block b hb (by simp));refine⟨b,off,e,Nat.lt_of_lt_of_le hb hg.size,λk hk=>?_⟩;simp only[hh]
 exact hc k hk⟩
def gE(l:List Bool):List Value:=l.map .bool
theorem rm(l:List Bool)(k:Nat)(b:Bool):(gE l).set k (.bool b)=gE (l.set k b):=by simp[gE,List.map_set]
theorem nw(l:List Bool)(k:Nat):(gE l)[k]?=(l[k]?).map Value.bool:=by simp[gE]
theorem Buf.cut{k:IntKind}{e:TypeId}{w:World}{g c:Nat}{xs ys:List Int}(h:Buf k e w g c (xs++ys)):Buf k e w g c xs:=by
 obtain⟨h1,h2,cur,h3,h4,h5⟩:=h;refine⟨by rw[List.length_append]at h1;omega,h2,cur,h3,h4,?_⟩;have:=congrArg (List.take xs.length) h5;rw[List.take_take,List.length_append,Nat.min_eq_left (by omega)]at this;rw[this];simp
structure dW (w wr:World)(A:Option Addr)(code:List fQ)(cap:Nat)(S1 S2:Value)(out:List Bool)(g c:Nat)(todo:List Int):Prop where
 grown:w.grownBy wr none
 p:Bk wr w.heap.size 26 [.slice A code.length cap,S1,S2]
 o:Bk wr (w.heap.size+1) 4 (gE out)
 ol:out.length=code.length
 t:Buf .i64 3 wr g c todo
 g2:w.heap.size+2<=g
theorem dW.start{w:World}{A:Option Addr}{code:List fQ}{cap:Nat}{S1 S2:Value}:dW w (((w.alloc (.cells #[.slice A code.length cap,S1,S2] 26)).alloc (.cells (madeCells #[.bool false] code.length) 4)).alloc (.cells #[.int .i64 0] 3)) A code cap S1 S2 (List.replicate code.length false) (w.heap.size+2) 1 [0]:=by
 have g1:w.grownBy (w.alloc (.cells #[.slice A code.length cap,S1,S2] 26)) none:=cj (cQ _ _) _;have b1:Bk (w.alloc (.cells #[.slice A code.length cap,S1,S2] 26)) w.heap.size 26 [.slice A code.length cap,S1,S2]:=Bk.new
 have s1:(w.alloc (.cells #[.slice A code.length cap,S1,S2] 26)).heap.size=w.heap.size+1:=by simp
 generalize w.alloc (.cells #[.slice A code.length cap,S1,S2] 26)=w1 at *
 have hm:madeCells #[Value.bool false] code.length=(gE (List.replicate code.length false)).toArray:=by
  apply Array.ext';simp only[madeCells,gE];apply List.ext_getElem
  ·simp
  ·intro i h1 h2;simp[Nat.mod_one]
 rw[hm];have g2:w1.grownBy (w1.alloc (.cells (gE (List.replicate code.length false)).toArray 4)) none:=cj (cQ _ _) _;have b2:Bk (w1.alloc (.cells (gE (List.replicate code.length false)).toArray 4)) w1.heap.size 4 (gE (List.replicate code.length false)):=Bk.new
 have s2:(w1.alloc (.cells (gE (List.replicate code.length false)).toArray 4)).heap.size=w.heap.size+2:=by simp[s1]
 rw[s1]at b2;generalize w1.alloc (.cells (gE (List.replicate code.length false)).toArray 4)=w2 at *;have g3:w2.grownBy (w2.alloc (.cells #[.int .i64 0] 3)) none:=cj (cQ _ _) _;refine⟨gd (gd g1 g2) g3,(b1.grow g2).grow g3,b2.grow g3,by simp,⟨by simp,by simp[maxLen],#[.int .i64 0],?_,rfl,rfl⟩,Nat.le_refl _⟩;rw[<- s2];exact heap_alloc_new w2 _
theorem CU{code:List fQ}{n:Nat}{out:List Bool}{fr:Bool}{r:List Bool×Bool}(h:uY code n out fr []=some r):r=(out,fr):=by
 cases n with
 |zero=>cases h
 |succ n=>simpa[uY]using h.symm
theorem AF{code:List fQ}{n:Nat}{out:List Bool}{fr:Bool}{ys:List Int}{k:Int}{r:List Bool×Bool}(h:uY code n out fr (ys++[k])=some r):
 ∃m,n=m+1/\((ij code out k=true/\uY code m out fr ys=some r)\/(ij code out k=false/\∃x,code[k.toNat]?=some x/\uY code m (out.set k.toNat true) (fr||frI x) (ys++tgt x.1 x.2.2.2.2 k)=some r)):=by
 cases n with
 |zero=>cases h
 |succ n=>
  refine⟨n,rfl,?_⟩;simp only[uY,List.getLast?_append,List.getLast?_singleton,Option.some_or,List.dropLast_concat]at h;split at h
  ·rename_i hs;exact .inl ⟨hs,h⟩
  ·rename_i hs;split at h
   ·rename_i x hx;exact .inr ⟨by simpa using hs,x,hx,h⟩
   ·cases h
theorem dW.cell{w wr:World}{A:Option Addr}{code:List fQ}{cap g c:Nat}{S1 S2:Value}{out:List Bool}{todo:List Int}(h:dW w wr A code cap S1 S2 out g c todo){j:Nat}{v:Bool}(hv:out[j]?=some v):wr.cell? ⟨w.heap.size+1,j,none⟩=some (.bool v):=by
 rw[h.o.cell,nw,hv];rfl
theorem dW.mark{w wr:World}{A:Option Addr}{code:List fQ}{cap g c:Nat}{S1 S2:Value}{out:List Bool}{todo:List Int}(h:dW w wr A code cap S1 S2 out g c todo)(j:Nat):dW w (wr.setCell ⟨w.heap.size+1,j,none⟩ (.bool true)) A code cap S1 S2 (out.set j true) g c todo:=
 ⟨uB h.grown (.inr (by simp)) _,h.p.other (by simp) _,by rw[<- rm];exact h.o.set j _,by rw[List.length_set];exact h.ol,h.t.keep (Below.heap_setCell _ _ _ _ (λe=>by have:=h.g2;simp only at e;omega)),h.g2⟩
def nc(b:Bool)(out:List Bool)(j:Nat):List Bool:=(out.take j).map (λv=>v||b)++out.drop j
theorem yP(b:Bool)(out:List Bool):nc b out 0=out:=rfl
theorem A3(b:Bool)(out:List Bool)(j:Nat):(nc b out j).length=out.length:=by simp[nc];omega
theorem A5(b:Bool)(out:List Bool):nc b out out.length=out.map λv=>v||b:=by simp[nc]
theorem A4(b:Bool){out:List Bool}{j:Nat}{v:Bool}(h:out[j]?=some v):(nc b out j)[j]?=some v:=by
 have hj:j<out.length:=by
  rcases Nat.lt_or_ge j out.length with h'|h'
  ·exact h'
  ·rw[oGN h']at h;cases h
 have hl:((out.take j).map λv=>v||b).length=j:=by simp;omega
 unfold nc;rw[List.getElem?_append_right (by omega),hl,List.getElem?_drop,Nat.sub_self,Nat.add_zero,h]
theorem yQ(b:Bool){out:List Bool}{j:Nat}{v:Bool}(h:out[j]?=some v):(nc b out j).set j (v||b)=nc b out (j+1):=by
 have hj:j<out.length:=by
  rcases Nat.lt_or_ge j out.length with h'|h'
  ·exact h'
  ·rw[oGN h']at h;cases h
 have hl:((out.take j).map λv=>v||b).length=j:=by simp;omega
 have h1:out.drop j=v::out.drop (j+1):=by
  rw[List.drop_eq_getElem_cons hj];rw[oGE hj]at h
  injection h with h
  rw[h]
 have h2:out.take (j+1)=out.take j++[v]:=by
  rw[List.take_add_one,h];rfl
 unfold nc;rw[List.set_append,oIN (by omega),hl,Nat.sub_self,h1,List.set_cons_zero,h2,List.map_append,List.append_assoc];rfl
theorem jD(l:List Int):l=[]\/∃ys k,l=ys++[k]:=by
 rcases List.eq_nil_or_concat l with h|⟨ys,k,h⟩
 ·exact .inl h
 ·exact .inr ⟨ys,k,by rw[h,List.concat_eq_append]⟩
theorem fq{P:Program}{ops:Array Oper}{rest:List Oper}{o:Oper}{a:Act}{Q:Exit->Act->World->Prop}{w:World}{t it:TypeId}(Yp:o.guard=none)(s x:Operand)(ho:o.op=.call { callee:=.builtin .append,args:=#[s,x],argTypes:=#[t,it] })
 {vs vx v':Value}{w':World}(hs:a.eval s=vs)(hx:a.eval x=vx)(hrun:(Builtin.append_ #[t,it] o.type #[vs,vx]).run P w=.ok v' w')(h:wpList P ops Q rest (a.put o.dst v') w'):wpList P ops Q (o::rest) a w:=by
 refine wpList_plain Yp λK hK=>?_;unfold Oper.wp;simp[execOp,ho,resolve,invoke,builtin,hs,hx,hrun,Result.andThen];exact hK _ _ h
theorem vK{w:World}{g c:Nat}{ys xs:List Int}{A:Option Addr}{cp:Nat}(ty:TypeId)(hB:Buf .i64 3 w g c ys)(hI:ou .i64 w (λk=>k<w.heap.size) A xs)(hm:ys.length+xs.length<=1000000):
 ∃g' c' w',(Builtin.append_ #[23,23] ty #[.slice (some ⟨g,0,none⟩) ys.length c,.slice A xs.length cp]).run Try.prog w=.ok (.slice (some ⟨g',0,none⟩) (ys++xs).length c') w'/\Buf .i64 3 w' g' c' (ys++xs)/\
  (g'=g/\w.grownBy w' (some g)\/w.heap.size<=g'/\w.grownBy w' none):=by
 obtain⟨i0,hi,hz0,UX,X'⟩:=uf;by_cases hx:xs=[]
 ·subst hx;refine⟨g,c,w,?_,by simpa using hB,.inl ⟨rfl,cQ _ _⟩⟩;have:=j8 (P:=Try.prog) w 23 ty 3 i0 wG hi (some ⟨g,0,none⟩) ys.length c hB.len A cp;simpa using this
 ·obtain⟨g',c',w',hr,Vv,XG⟩:=yB (P:=Try.prog) .i64 23 ty 3 i0 8 wG hi hz0 UX X' g c ys hB A xs cp _ hI hx (by unfold maxLen;omega) (by omega);refine⟨g',c',w',hr,Vv,?_⟩
  rcases XG with⟨h1,_,h2⟩|h
  ·exact .inl ⟨h1,h2⟩
  ·exact .inr h
theorem dW.joined{w W W':World}{A:Option Addr}{code:List fQ}{cap g c g' c':Nat}{S1 S2:Value}{out:List Bool}{ys zs:List Int}(h:dW w W A code cap S1 S2 out g c ys)(hB:Buf .i64 3 W' g' c' zs)
 (XG:g'=g/\W.grownBy W' (some g)\/W.heap.size<=g'/\W.grownBy W' none):dW w W' A code cap S1 S2 out g' c' zs:=by
 have ZV:=h.g2;have hp:=h.p.hi;have ho:=h.o.hi;have hs:=h.grown.size
 rcases XG with⟨rfl,hg⟩|⟨hn,hg⟩
 ·exact⟨pH h.grown hg (by omega),h.p.keep (hg.block _ hp (by intro e;injection e;omega)),h.o.keep (hg.block _ ho (by intro e;injection e;omega)),h.ol,hB,ZV⟩
 ·exact⟨gd h.grown hg,h.p.grow hg,h.o.grow hg,h.ol,hB,by omega⟩
theorem dW.grow{w W W':World}{A:Option Addr}{code:List fQ}{cap g c:Nat}{S1 S2:Value}{out:List Bool}{ys:List Int}(h:dW w W A code cap S1 S2 out g c ys)(hg:W.grownBy W' none):dW w W' A code cap S1 S2 out g c ys:=
 ⟨gd h.grown hg,h.p.grow hg,h.o.grow hg,h.ol,h.t.grow hg,h.g2⟩
theorem rA(op i pc:Int):(tgt op i pc).length<=2:=by
 unfold tgt
 repeat' split
 all_goals simp
theorem CY{code:List fQ}{n:Nat}{out r:List Bool}(h:s7 code n out []=some r):r=out:=by
 cases n with
 |zero=>cases h
 |succ n=>simpa[s7]using h.symm
def rp(n:Nat):List Int:=(List.range n).map λj:Nat=>(j:Int)
theorem AH{code:List fQ}{n:Nat}{out:List Bool}{ys:List Int}{k:Int}{r:List Bool}(h:s7 code n out (ys++[k])=some r):
 0<=k/\∃m,n=m+1/\((ij code out k=true/\s7 code m out ys=some r)\/(ij code out k=false/\∃x,code[k.toNat]?=some x/\s7 code m (out.set k.toNat true) (ys++tgt x.1 x.2.2.2.2 k++(if frI x then rp code.length else[]))=some r)):=by
 cases n with
 |zero=>cases h
 |succ n=>
  simp only[s7,List.getLast?_append,List.getLast?_singleton,Option.some_or,List.dropLast_concat]at h;split at h
  ·cases h
  ·rename_i hk;refine⟨by omega,n,rfl,?_⟩;split at h
   ·rename_i hs;exact .inl ⟨hs,h⟩
   ·rename_i hs;split at h
    ·rename_i x hx;exact .inr ⟨by simpa using hs,x,hx,h⟩
    ·cases h
theorem B8(n:Nat):rp (n+1)=rp n++[(n:Int)]:=by simp[rp,List.range_succ]
theorem sX(n:Nat):(rp n).length=n:=by simp[rp]
theorem Bk.joined{w W W':World}{A:Option Addr}{code:List fQ}{cap g c g' q t:Nat}{S1 S2:Value}{out:List Bool}{ys:List Int}{vs:List Value}(_:dW w W A code cap S1 S2 out g c ys)(hq:Bk W q t vs)(hne:q≠g)
 (XG:g'=g/\W.grownBy W' (some g)\/W.heap.size<=g'/\W.grownBy W' none):Bk W' q t vs:=by
 rcases XG with⟨_,hg⟩|⟨_,hg⟩
 ·exact hq.keep (hg.block _ hq.hi (by intro e;injection e with e;exact hne e))
 ·exact hq.grow hg
def qb(R:List Bool)(w:World)(e:Ending)(w':World):Prop:=
 ∃q,e=.returned (.slice (some ⟨q,0,none⟩) R.length R.length)/\w.heap.size<=q/\Bk w' q 4 (gE R)/\w.grownBy w' none
set_option maxRecDepth 100000 in
set_option maxHeartbeats 4000000 in
theorem nb(A:Option Addr)(code:List fQ)(cap:Nat)(S1 S2:Value)(R:List Bool)(w:World)(hc:qd w A code)(h0:0<code.length)(h64:code.length<=64)(Ze:S1.oneCell'=true)(Y3:S2.oneCell'=true)(hR:nF code=some R):
 Calls Try.prog 32 #[.agg #[.slice A code.length cap,S1,S2]] w (qb R w):=by
 have HC:=Lib.hid hc;have HR:=Lib.hid hR;clear hc hR;obtain⟨i0,hi,hz0,UX,X'⟩:=uf;obtain⟨i1,hj,SB,Yx,X5⟩:=ro
 go_enter Try.func32,Try.ntmps32
 obtain⟨RR,Qn,Qo⟩:∃RR,uY code 10000 (List.replicate code.length false) false [0]=some RR/\R=RR.1.map λb=>b||RR.2:=by
  have:=HR.out;unfold nF at this;obtain⟨r,h1,h2⟩:=Option.map_eq_some_iff.1 this;exact⟨r,h1,h2.symm⟩
 have Ra:=Lib.hid Qn;have Om:=Lib.hid Qo;clear Qn Qo HR
 have ZM:i1.bytes*code.length<=281474976710656:=by rw[X5];omega
 have ZY:code.length<=9223372036854775807:=by omega
 go_wp2_with (at_make;go_loud (refine wpList_make_row _ rfl _ _ _ rfl 4 i1 (.bool false) tj hj SB Yx rfl .i64 .i64 code.length rfl rfl ZM ZY ?_))
 go_wp2_with fail
 go_loopg [4,5] 10000 (λn fr td wr=>∃(b:Bool)(g c:Nat)(todo:List Int)(out:List Bool),fr=.bool b/\td=.slice (some ⟨g,0,none⟩) todo.length c/\Hid (uY code n out b todo=some RR)/\Hid (dW w wr A code cap S1 S2 out g c todo)/\Hid (todo.length+2*n<=20001))
 case atStart=>
  exact⟨false,w.heap.size+2,1,[0],_,rfl,rfl,Ra,Lib.hid dW.start,Lib.hid (by simp)⟩
 case round=>
  obtain⟨b,g,c,todo,out,rfl,rfl,hrun,hW,hB⟩:=hrel;rcases jD todo with rfl|⟨ys,k,rfl⟩
  ·have He:=Lib.hid (CU hrun.out);have Wx:=Lib.hid hW.out.ol;clear hrun hB
   go_wp2_with fail
   go_loopw [78] (λi wx=>∃j:Nat,j<=code.length/\i=.int .i64 j/\w.grownBy wx none/\Hid (Bk wx (w.heap.size+1) 4 (gE (nc b out j)))) (λi _=>code.length-(intOf i).toNat)
   case atStart=>exact⟨0,by omega,rfl,hW.out.grown,Lib.hid (by rw[yP];exact hW.out.o)⟩
   case round=>
    obtain⟨j,hj,rfl,hg,hO⟩:=hrel;have HG:=Lib.hid hg;clear hg;by_cases hlt:j<code.length
    ·have x3:(j:Int)<(code.length:Int):=by omega
     obtain⟨v,hv⟩:∃v,out[j]?=some v:=⟨_,oGE (by rw[Wx.out];exact hlt)⟩;have Hv:=Lib.hid hv
     have ho:wr.cell? ⟨w.heap.size+1,j,none⟩=some (.bool v):=by rw[hO.out.cell,nw,A4 b hv];rfl
     have hf:wr.frozen? ⟨w.heap.size+1,j,none⟩=false:=hO.out.free j;have hn:Hid (∀z,z=(v||b)->Bk (wr.setCell ⟨w.heap.size+1,j,none⟩ (.bool z)) (w.heap.size+1) 4 (gE (nc b out (j+1)))):=Lib.hid (λz hz=>by rw[<- yQ b Hv.out,<- hz,<- rm];exact hO.out.set j _);clear hv;cases v
     all_goals cases b
     all_goals
      go_wp2_with fail
      go_roundw
      case rel=>exact⟨j+1,by omega,by go_num,uB HG.out (.inr (by simp)) _,Lib.hid (hn.out _ rfl)⟩
      case measure=>simp[intOf];omega
    ·have RX:j=code.length:=by omega
     subst RX
     go_wp2_with fail
     go_ret
     have SX:R=nc b out code.length:=by rw[Om.out,He.out,<- Wx.out,A5]
     refine⟨w.heap.size+1,by rw[SX,A3,Wx.out];rfl,by omega,?_,HG.out⟩;rw[SX];exact hO.out
  ·have hlen:(ys++[k]).length=ys.length+1:=by simp
   rw[hlen];obtain⟨m,hm,XG⟩:=AF hrun.out;have VW:=hB.out;rw[hlen]at VW
   have OG:(ys.length:Int)<=20001:=by omega
   have hk:wr.cell? ⟨g,ys.length,none⟩=some (.int .i64 k):=by
    have:=hW.out.t.cell (j:=ys.length) (by rw[hlen];omega);rw[this];simp
   have SZ:ys.length+1<=c:=by have:=hW.out.t.len;rw[hlen]at this;omega
   have OR:(ys.length:Int)<=(c:Int):=by omega
   have Yc:¬c=0:=by omega
   have HT:=Lib.hid hW.out.t.cut;have HH:=Lib.hid (And.intro hm (And.intro XG VW));clear hm XG VW hlen hrun hB;by_cases hk0:k<0
   ·have hs:ij code out k=true:=by simp[ij,hk0]
    have H1:=Lib.hid ((HH.out.2.1.resolve_right λh=>by rw[hs]at h;exact Bool.noConfusion h.1).2);clear hs
    go_wp2_with fail
    go_roundg m
    case measure=>have:=HH.out.1;omega
    case rel=>exact⟨b,g,c,ys,out,rfl,rfl,H1,Lib.hid ⟨hW.out.grown,hW.out.p,hW.out.o,hW.out.ol,HT.out,hW.out.g2⟩,Lib.hid (by have:=HH.out;omega)⟩
   ·obtain⟨j,rfl⟩:=Int.eq_ofNat_of_zero_le (show 0<=k by omega);by_cases hkn:code.length<=j
    ·have hs:ij code out (j:Int)=true:=by simp[ij,hkn]
     have H1:=Lib.hid ((HH.out.2.1.resolve_right λh=>by rw[hs]at h;exact Bool.noConfusion h.1).2)
     have hki:¬(j:Int)<(code.length:Int):=by omega
     have UQ:(code.length:Int)<=(j:Int):=by omega
     clear hs
     go_wp2_with fail
     go_roundg m
     case measure=>have:=HH.out.1;omega
     case rel=>exact⟨b,g,c,ys,out,rfl,rfl,H1,Lib.hid ⟨hW.out.grown,hW.out.p,hW.out.o,hW.out.ol,HT.out,hW.out.g2⟩,Lib.hid (by have:=HH.out;omega)⟩
    ·obtain⟨v,hv⟩:∃v,out[j]?=some v:=⟨_,oGE (by rw[hW.out.ol];omega)⟩;have Hv:=Lib.hid hv;have ho:=hW.out.cell hv;have hf:wr.frozen? ⟨w.heap.size+1,j,none⟩=false:=hW.out.o.free j
     have hki:(j:Int)<(code.length:Int):=by omega
     have UQ:¬(code.length:Int)<=(j:Int):=by omega
     clear hv;cases v
     case true=>
      have hs:ij code out (j:Int)=true:=by simp[ij,Hv.out]
      have H1:=Lib.hid ((HH.out.2.1.resolve_right λh=>by rw[hs]at h;exact Bool.noConfusion h.1).2);clear hs
      go_wp2_with fail
      go_roundg m
      case measure=>have:=HH.out.1;omega
      case rel=>exact⟨b,g,c,ys,out,rfl,rfl,H1,Lib.hid ⟨hW.out.grown,hW.out.p,hW.out.o,hW.out.ol,HT.out,hW.out.g2⟩,Lib.hid (by have:=HH.out;omega)⟩
     case false=>
      have hs:ij code out (j:Int)=false:=by simp[ij,Hv.out,hkn]
      obtain⟨x,hx,YB⟩:=(HH.out.2.1.resolve_left λh=>by rw[hs]at h;exact Bool.noConfusion h.1).2;have H1:=Lib.hid (And.intro hx YB);clear hs hx YB
      go_upto_region 9 with fail
      obtain⟨W2,U1⟩:∃W2,W2=wr.setCell ⟨w.heap.size+1,j,none⟩ (.bool true):=⟨_,rfl⟩
      have HM:=Lib.hid (show dW w W2 A code cap S1 S2 (out.set j true) g c ys by
       rw[U1]
       exact dW.mark ⟨hW.out.grown,hW.out.p,hW.out.o,hW.out.ol,HT.out,hW.out.g2⟩ j)
      rw[<- U1];clear U1 ho hf hk hW HT;obtain⟨cb,off,rfl,Zj,hcc⟩:=(HC.out.grown HM.out.grown).ex (by intro e;rw[e]at h0;simp at h0);have Vo:code[j]?=some x:=H1.out.1;obtain⟨e0,e1,e2,e3,e4⟩:=hcc j (by omega)
      have Yi:code[j]'(by omega)=x:=by
       rw[oGE (by omega)]at Vo;injection Vo
      rw[Yi]at e0 e1 e2 e3 e4;have p0:=HM.out.p.cell 0;simp only[List.getElem?_cons_zero]at p0;clear hcc Yi Vo;obtain⟨x0,x1,x2,x3,x4⟩:=x;dsimp only at e0 e1 e2 e3 e4
      go_upto_region 10 with fail
      obtain⟨W3,VY⟩:∃W3,W3=W2.alloc (.cells #[.int .i64 x0,.int .i64 x1,.int .i64 x2,.int .i64 x3,.int .i64 x4] 78):=⟨_,rfl⟩;have Tk:=Lib.hid (show dW w W3 (some ⟨cb,off,none⟩) code cap S1 S2 (out.set j true) g c ys by rw[VY];exact HM.out.grow (cj (cQ _ _) _));have HX:=Lib.hid (show Bk W3 W2.heap.size 78 [.int .i64 x0,.int .i64 x1,.int .i64 x2,.int .i64 x3,.int .i64 x4] by rw[VY];exact Bk.new);rw[<- VY];generalize W2.heap.size=q7 at *;clear VY HM e0 e1 e2 e3 e4 p0 Zj;have k0:=HX.out.cell 0;have k1:=HX.out.cell 1;have k2:=HX.out.cell 2;have k3:=HX.out.cell 3;have k4:=HX.out.cell 4;simp only[List.getElem?_cons_zero,List.getElem?_cons_succ]at k0 k1 k2 k3 k4
      go_cut [4] (λv wx=>v=.bool (b||frI (x0,x1,x2,x3,x4))/\W3=wx)
      case first=>
       cases b
       ·cases r22:(x0==22)
        ·cases r23:(x0==23)
         ·go_wp2_with fail
          go_meet
          exact⟨by simp[*,frI],rfl⟩
         ·cases r10:(x4==10)
          ·cases r12:(x4==12)
           all_goals
            go_wp2_with fail
            go_meet
            exact⟨by simp[*,frI],rfl⟩
          ·go_wp2_with fail
           go_meet
           exact⟨by simp[*,frI],rfl⟩
        ·go_wp2_with fail
         go_meet
         exact⟨by simp[*,frI],rfl⟩
       ·go_wp2_with fail
        go_meet
        exact⟨by simp[*,frI],rfl⟩
      case rest=>
       obtain⟨rfl,rfl⟩:=hcut
       go_wp2_with fail
       refine(nn x0 x1 x2 x3 x4 (j:Int) _ (by omega) (by omega)).mono ?_;rintro e w5 ⟨B,d,rfl,hI,UN,hd,_,_⟩;have Yn:ou .i64 w5 (λk=>k<w5.heap.size) B (tgt x0 x4 j):=Row.sub hI λk hk=>hk.2;have Ys:=rA x0 x4 j;obtain⟨xs,Yh⟩:∃xs,xs=tgt x0 x4 j:=⟨_,rfl⟩;have H2:Hid (uY code m (out.set j true) (b||frI (x0,x1,x2,x3,x4)) (ys++tgt x0 x4 (j:Int))=some RR):=Lib.hid H1.out.2;rw[<- Yh]at Yn Ys hd H2⊢;have UY:=Lib.hid (Tk.out.grow UN);have Rl:=HH.out.2.2;obtain⟨g',c',w6,hrun,Tt,Xb⟩:=vK (cp:=d) 23 UY.out.t Yn (by omega);have SQ:=Lib.hid (UY.out.joined Tt Xb);clear hI UN Yn Yh HX Tk Tt Xb Rl k0 k1 k2 k3 k4 hd
       go_wp2_with (at_builtin;go_loud (refine fq rfl _ _ rfl rfl rfl hrun ?_))
       go_roundg m
       case measure=>have:=HH.out.1;omega
       case rel=>exact⟨_,g',c',ys++xs,out.set j true,rfl,by rw[List.length_append],H2,SQ,Lib.hid (by have:=HH.out;rw[List.length_append];omega)⟩
set_option maxRecDepth 100000 in
set_option maxHeartbeats 1000000 in
theorem ph(A:Option Addr)(code:List fQ)(cap:Nat)(S1 S2:Value)(R:List Bool)(w:World)(hc:qd w A code)(h0:0<code.length)(h64:code.length<=64)(Ze:S1.oneCell'=true)(Y3:S2.oneCell'=true)(hR:tG code=some R):
 Calls Try.prog 33 #[.agg #[.slice A code.length cap,S1,S2]] w (qb R w):=by
 have HC:=Lib.hid hc;have Ra:Hid (s7 code 10000 (List.replicate code.length false) [0]=some R):=Lib.hid hR;clear hc hR;obtain⟨i1,hj,SB,Yx,X5⟩:=ro
 go_enter Try.func33,Try.ntmps33
 have ZM:i1.bytes*code.length<=281474976710656:=by rw[X5];omega
 have ZY:code.length<=9223372036854775807:=by omega
 go_wp2_with (at_make;go_loud (refine wpList_make_row _ rfl _ _ _ rfl 4 i1 (.bool false) tj hj SB Yx rfl .i64 .i64 code.length rfl rfl ZM ZY ?_))
 go_wp2_with fail
 go_loopg [4] 10000 (λn td wr=>∃(g c:Nat)(todo:List Int)(out:List Bool),td=.slice (some ⟨g,0,none⟩) todo.length c/\Hid (s7 code n out todo=some R)/\Hid (dW w wr A code cap S1 S2 out g c todo)/\Hid (todo.length+66*n<=660001))
 case atStart=>
  exact⟨w.heap.size+2,1,[0],_,rfl,Ra,Lib.hid dW.start,Lib.hid (by simp)⟩
 case round=>
  obtain⟨g,c,todo,out,rfl,hrun,hW,hB⟩:=hrel;rcases jD todo with rfl|⟨ys,k,rfl⟩
  ·have He:=Lib.hid (CY hrun.out);have Wx:=Lib.hid hW.out.ol;clear hrun hB
   go_wp2_with fail
   go_ret
   rw[He.out];exact⟨w.heap.size+1,by rw[Wx.out];rfl,by omega,hW.out.o,hW.out.grown⟩
  ·have hlen:(ys++[k]).length=ys.length+1:=by simp
   rw[hlen];obtain⟨hk0,m,hm,XG⟩:=AH hrun.out;have VW:=hB.out;rw[hlen]at VW
   have OG:(ys.length:Int)<=660001:=by omega
   have hk:wr.cell? ⟨g,ys.length,none⟩=some (.int .i64 k):=by
    have:=hW.out.t.cell (j:=ys.length) (by rw[hlen];omega);rw[this];simp
   have SZ:ys.length+1<=c:=by have:=hW.out.t.len;rw[hlen]at this;omega
   have OR:(ys.length:Int)<=(c:Int):=by omega
   have Yc:¬c=0:=by omega
   have p0:=hW.out.p.cell 0;simp only[List.getElem?_cons_zero]at p0;have HT:=Lib.hid hW.out.t.cut;have HH:=Lib.hid (And.intro hm (And.intro XG VW));clear hm XG VW hlen hrun hB;obtain⟨j,rfl⟩:=Int.eq_ofNat_of_zero_le hk0;by_cases hkn:code.length<=j
   ·have hs:ij code out (j:Int)=true:=by simp[ij,hkn]
    have H1:=Lib.hid ((HH.out.2.1.resolve_right λh=>by rw[hs]at h;exact Bool.noConfusion h.1).2)
    have hki:¬(j:Int)<(code.length:Int):=by omega
    have UQ:(code.length:Int)<=(j:Int):=by omega
    clear hs
    go_wp2_with fail
    go_roundg m
    case measure=>have:=HH.out.1;omega
    case rel=>exact⟨g,c,ys,out,rfl,H1,Lib.hid ⟨hW.out.grown,hW.out.p,hW.out.o,hW.out.ol,HT.out,hW.out.g2⟩,Lib.hid (by have:=HH.out;omega)⟩
   ·obtain⟨v,hv⟩:∃v,out[j]?=some v:=⟨_,oGE (by rw[hW.out.ol];omega)⟩;have Hv:=Lib.hid hv;have ho:=hW.out.cell hv;have hf:wr.frozen? ⟨w.heap.size+1,j,none⟩=false:=hW.out.o.free j
    have hki:(j:Int)<(code.length:Int):=by omega
    have UQ:¬(code.length:Int)<=(j:Int):=by omega
    clear hv;cases v
    case true=>
     have hs:ij code out (j:Int)=true:=by simp[ij,Hv.out]
     have H1:=Lib.hid ((HH.out.2.1.resolve_right λh=>by rw[hs]at h;exact Bool.noConfusion h.1).2);clear hs
     go_wp2_with fail
     go_roundg m
     case measure=>have:=HH.out.1;omega
     case rel=>exact⟨g,c,ys,out,rfl,H1,Lib.hid ⟨hW.out.grown,hW.out.p,hW.out.o,hW.out.ol,HT.out,hW.out.g2⟩,Lib.hid (by have:=HH.out;omega)⟩
    case false=>
     have hs:ij code out (j:Int)=false:=by simp[ij,Hv.out,hkn]
     obtain⟨x,hx,YB⟩:=(HH.out.2.1.resolve_left λh=>by rw[hs]at h;exact Bool.noConfusion h.1).2;have H1:=Lib.hid (And.intro hx YB);clear hs hx YB
     go_upto_region 8 with fail
     obtain⟨W2,U1⟩:∃W2,W2=wr.setCell ⟨w.heap.size+1,j,none⟩ (.bool true):=⟨_,rfl⟩
     have HM:=Lib.hid (show dW w W2 A code cap S1 S2 (out.set j true) g c ys by
      rw[U1]
      exact dW.mark ⟨hW.out.grown,hW.out.p,hW.out.o,hW.out.ol,HT.out,hW.out.g2⟩ j)
     rw[<- U1];clear U1 ho hf hk hW HT p0;obtain⟨cb,off,rfl,Zj,hcc⟩:=(HC.out.grown HM.out.grown).ex (by intro e;rw[e]at h0;simp at h0);have Vo:code[j]?=some x:=H1.out.1;obtain⟨e0,e1,e2,e3,e4⟩:=hcc j (by omega)
     have Yi:code[j]'(by omega)=x:=by
      rw[oGE (by omega)]at Vo;injection Vo
     rw[Yi]at e0 e1 e2 e3 e4;have p0:=HM.out.p.cell 0;simp only[List.getElem?_cons_zero]at p0;clear hcc Yi Vo;obtain⟨x0,x1,x2,x3,x4⟩:=x;dsimp only at e0 e1 e2 e3 e4
     go_upto_region 9 with fail
     obtain⟨W3,VY⟩:∃W3,W3=W2.alloc (.cells #[.int .i64 x0,.int .i64 x1,.int .i64 x2,.int .i64 x3,.int .i64 x4] 78):=⟨_,rfl⟩;have Tk:=Lib.hid (show dW w W3 (some ⟨cb,off,none⟩) code cap S1 S2 (out.set j true) g c ys by rw[VY];exact HM.out.grow (cj (cQ _ _) _));have HX:=Lib.hid (show Bk W3 W2.heap.size 78 [.int .i64 x0,.int .i64 x1,.int .i64 x2,.int .i64 x3,.int .i64 x4] by rw[VY];exact Bk.new)
     have QN:W2.heap.size≠g:=by have:=HM.out.t.hi;omega
     have P7:=Lib.hid QN;rw[<- VY];generalize W2.heap.size=q7 at *;clear VY HM e0 e1 e2 e3 e4 p0 Zj QN;have k0:=HX.out.cell 0;have k1:=HX.out.cell 1;have k2:=HX.out.cell 2;have k3:=HX.out.cell 3;have k4:=HX.out.cell 4;simp only[List.getElem?_cons_zero,List.getElem?_cons_succ]at k0 k1 k2 k3 k4
     go_wp2_with fail
     refine(m9 x0 x1 x2 x3 x4 (j:Int) _ (by omega) (by omega)).mono ?_;rintro e w5 ⟨B,d,rfl,hI,UN⟩;have Yn:ou .i64 w5 (λk=>k<w5.heap.size) B (tgt x0 x4 j):=Row.sub hI λk hk=>hk.2;have Ys:=rA x0 x4 j;have H2:Hid (s7 code m (out.set j true) (ys++tgt x0 x4 (j:Int)++(if frI (x0,x1,x2,x3,x4)then rp code.length else[]))=some R):=Lib.hid H1.out.2;obtain⟨xs,Yh⟩:∃xs,xs=tgt x0 x4 j:=⟨_,rfl⟩;rw[<- Yh]at Yn Ys H2⊢;have UY:=Lib.hid (Tk.out.grow UN);have Rl:=HH.out.2.2
     have T3:ys.length+xs.length<=1000000:=by omega
     clear Rl;obtain⟨zs,YF⟩:∃zs,zs=ys++xs:=⟨_,rfl⟩;have hJ:=vK (cp:=d) 23 UY.out.t Yn T3;rw[<- YF]at hJ H2;have On:Hid (zs.length<=ys.length+2):=Lib.hid (by rw[YF,List.length_append];omega);have P4:=Lib.hid (HX.out.grow UN);clear hI UN Yn HX Tk YF Yh Ys T3 k0 k1 k2 k3 k4;obtain⟨g',c',w6,hrun,Tt,Xb⟩:=hJ;have SQ:=Lib.hid (UY.out.joined Tt Xb);have P5:=Lib.hid (Bk.joined UY.out P4.out P7.out Xb);clear Tt Xb P7 UY P4;have k0:=P5.out.cell 0;have k4:=P5.out.cell 4;simp only[List.getElem?_cons_zero,List.getElem?_cons_succ]at k0 k4
     go_upto_region 10 with(at_builtin;go_loud (refine fq rfl _ _ rfl rfl rfl hrun ?_))
     clear hrun
     go_cut [68] (λv wx=>v=.bool (frI (x0,x1,x2,x3,x4))/\w6=wx)
     case first=>
      cases r22:(x0==22)
      ·cases r23:(x0==23)
       ·go_wp2_with fail
        go_meet
        exact⟨by simp[*,frI],rfl⟩
       ·cases r10:(x4==10)
        ·cases r12:(x4==12)
         all_goals
          go_wp2_with fail
          go_meet
          exact⟨by simp[*,frI],rfl⟩
        ·go_wp2_with fail
         go_meet
         exact⟨by simp[*,frI],rfl⟩
      ·go_wp2_with fail
       go_meet
       exact⟨by simp[*,frI],rfl⟩
     case rest=>
      obtain⟨rfl,rfl⟩:=hcut;have Pe:=HH.out.1;have Pd:=On.out;have ON:=HH.out.2.2;have Tm:=Lib.hid (show m<gk/\zs.length+66*gk<=660003 by omega);clear Pe Pd ON;cases hfr:frI (x0,x1,x2,x3,x4)
      ·have H3:Hid (s7 code m (out.set j true) zs=some R):=by
        have:=H2.out;rw[hfr]at this;exact Lib.hid (by simpa using this)
       clear hfr
       go_wp2_with fail
       go_roundg m
       case measure=>exact Tm.out.1
       case rel=>exact⟨g',c',zs,out.set j true,rfl,H3,SQ,Lib.hid (by have:=Tm.out;omega)⟩
      ·have H3:Hid (s7 code m (out.set j true) (zs++rp code.length)=some R):=by
        have:=H2.out;rw[hfr]at this;exact Lib.hid (by simpa using this)
       clear hfr
       go_wp2_with fail
       go_loopw [4,71] (λtd i wx=>∃l g2 c2:Nat,l<=code.length/\td=.slice (some ⟨g2,0,none⟩) (zs++rp l).length c2/\i=.int .i64 l/\Hid (dW w wx (some ⟨cb,off,none⟩) code cap S1 S2 (out.set j true) g2 c2 (zs++rp l))) (λ_ i _=>code.length-(intOf i).toNat)
       case atStart=>exact⟨0,g',c',by omega,by simp[rp],rfl,by simpa[rp]using SQ⟩
       case round=>
        obtain⟨l,g2,c2,hl,rfl,rfl,hM⟩:=hrel;by_cases hlt:l<code.length
        ·have x3:(l:Int)<(code.length:Int):=by omega
         have SW:dW w (wr.alloc (.cells #[.int .i64 l] 3)) (some ⟨cb,off,none⟩) code cap S1 S2 (out.set j true) g2 c2 (zs++rp l):=hM.out.grow (cj (cQ _ _) _);have Qj:ou .i64 (wr.alloc (.cells #[.int .i64 l] 3)) (λk=>k<(wr.alloc (.cells #[.int .i64 l] 3)).heap.size) (some ⟨wr.heap.size,0,none⟩) [(l:Int)]:=Row.sub (rR (w:=wr) (w0:=wr) (xs:=[(l:Int)]) (Nat.le_refl _) rfl) λk hk=>hk.2;obtain⟨ts,VN⟩:∃ts,ts=zs++rp l:=⟨_,rfl⟩
         have Wo:ts.length<=700000:=by rw[VN,List.length_append,sX];have:=Tm.out;omega
         have VG:zs++rp (l+1)=ts++[(l:Int)]:=by rw[VN,B8,List.append_assoc]
         have P6:=Lib.hid VG;rw[<- VN]at SW⊢;have hJ:=vK (cp:=1) 23 SW.t Qj (by simp;omega);have P3:=Lib.hid SW;clear VN VG hM Qj Wo SW;obtain⟨g3,c3,w7,hrun,Qg,Ug⟩:=hJ;have Ol:=Lib.hid (P3.out.joined Qg Ug);clear Qg Ug P3
         go_wp2_with (at_builtin;go_loud (refine fq rfl _ _ rfl rfl rfl hrun ?_))
         go_roundw
         case rel=>exact⟨l+1,g3,c3,by omega,by rw[P6.out,List.length_append];rfl,by go_num,by rw[P6.out];exact Ol⟩
         case measure=>simp[intOf];omega
        ·have Ye:l=code.length:=by omega
         subst Ye
         go_wp2_with fail
         go_roundg m
         case measure=>exact Tm.out.1
         case rel=>exact⟨g2,c2,_,out.set j true,rfl,H3,hM,Lib.hid (by rw[List.length_append,sX];have:=Tm.out;omega)⟩
inductive G7 (w:World)(F:Nat->Prop):TV->Value->Prop
 |im {c:List (List TV)} {x:Value} (h:gN w F (.sl c) x):G7 w F (.sl c) x
 |v {x:Value} (h:d8 x=true):G7 w F (.v x) x
 |fn {f:FuncId}:G7 w F (.fn f []) (.func (.func f) #[] #[])
 |ag {l:List TV} {cs:Array Value} (hl:cs.size=l.length) (h:∀j (hj:j<l.length),∃c,l[j]=.sl c/\gN w F (.sl c) (cs.getD j undef)):G7 w F (.agg l) (.agg cs)
def Dt:TV->Bool
 |.sl _=>true
 |_=>false
def xt:TV->Bool
 |.sl _=>true
 |.v _=>true
 |.fn _ []=>true
 |.agg l=>l.all Dt
 |_=>false
def GZ(P:Program)(f:FuncId)(vals:List TV)(c:List (List TV)):Prop:=
 ∀(avs:List Value)(w:World)(F:Nat->Prop),avs.length=vals.length->(∀j (h:j<vals.length)(h':j<avs.length),G7 w F vals[j] avs[j])->
  Calls P f avs.toArray w λe w2=>∃x,e=.returned x/\Below w.heap.size w w2/\gN w2 (λk=>F k\/w.heap.size<=k) (.sl c) x
def y9(R:FuncId->List TV->Option (List (List TV))):cZ:=λf vals pts=>
 match pts with
 | []=>if vals.all xt then(R f vals).map λc=>(⟨[.sl c],[.one]⟩,[])else none
 |_=>none
theorem Fs{P:Program}{R:FuncId->List TV->Option (List (List TV))}(hR:∀f vals c,R f vals=some c->ja P f/\GZ P f vals c):fR P (y9 R):=by
 intro f vals pts res Zp h
 cases pts with
 |cons _ _=>simp[y9]at h
 |nil=>
  simp only[y9]at h;split at h
  case isFalse=>simp at h
  rename_i ZQ;simp only[List.all_eq_true]at ZQ
  obtain⟨c,hc,he⟩:∃c,R f vals=some c/\(⟨[.sl c],[.one]⟩,[])=(res,Zp):=by
   cases hr:R f vals with
   |none=>simp[hr]at h
   |some c=>exact⟨c,rfl,by simpa[hr]using h⟩
  injection he with e1 e2
  subst e1 e2;obtain⟨Y4,R5⟩:=hR f vals c hc;refine⟨Y4,vals.length,Nat.le_refl _,λM avs w G hal hN QW YQ hI=>?_⟩;subst QW
  have VN:avs.toArray++Array.replicate (vals.length-avs.length) undef=avs.toArray:=by rw[hal];simp
  rw[VN]at hI
  have hst:∀j,(mkSt vals []).t j=vals.getD j .dead:=by
   intro j;simp[St.t,mkSt,nI]
  refine(R5 avs M.w0 (G.F M.A) hal λj hj Z0=>?_).mono λe w2 ⟨x,V5,hb,Wc⟩=>?_
  ·have ht:=hI.tmr j;rw[hst]at ht
   have e1:vals.getD j .dead=vals[j]:=by simp[hj]
   have e2:avs.toArray.getD j undef=avs[j]:=by simp[Array.getD_eq_getD_getElem?,Z0]
   rw[e1,e2]at ht;have ha:=ZQ _ (List.getElem_mem hj);revert ht ha;generalize vals[j]=t;generalize avs[j]=y;intro ht ha
   cases ht with
   |v h=>exact .v h
   |sl h=>exact .im h
   | @fn f l xs hl h=>
    cases l with
    |nil=>
     have:xs=#[]:=Array.eq_empty_of_size_eq_zero (by simpa using hl);subst this;exact .fn
    |cons _ _=>simp[xt]at ha
   | @agg l cs hl h=>
    refine .ag hl λj hj=>?_;have h1:Dt l[j]=true:=List.all_eq_true.1 ha _ (List.getElem_mem hj);have h2:=h j hj;revert h1 h2;generalize l[j]=t;intro h1 h2
    cases t with
    |sl c=>
     refine⟨c,rfl,?_⟩
     cases h2 with
     |sl h2=>exact h2
    |_=>simp[Dt]at h1
   |_=>simp[xt]at ha
  ·obtain⟨ZL,_⟩:=hI.grow (w':=w2) (λk hk=>hb.block k hk) hb.size hb.os hb.tape hb.output
   have hF:∀k,G.F M.A k\/M.w0.heap.size<=k->G.F M.A k:=by
    rintro k (hk|hk)
    ·exact hk
    ·refine⟨M.hA k hk,λr o hφ=>?_,λr b o n hβ e=>?_⟩
     ·have:=hI.core.live hφ;omega
     ·subst e;have:=hI.core.boxlt hβ;omega
   obtain⟨G',hg⟩:=ZL.addHand (Wc.frame (F':=G.F M.A) (λ_ _ _=>rfl) λk hk _=>hF k hk).toOwn;refine⟨x,mkSt vals [],V5,.inl ⟨[x],avs.toArray,G',rfl,hg.1,λj hj=>?_⟩,rfl⟩
   have:j=0:=by simpa using hj
   subst this;exact .inl rfl
def zp(l:List Bool):List (List TV):=l.map λb=>[.v (.bool b)]
def u4(x:fQ):List TV:=[.v (.int .i64 x.1),.v (.int .i64 x.2.1),.v (.int .i64 x.2.2.1),.v (.int .i64 x.2.2.2.1),.v (.int .i64 x.2.2.2.2)]
def FO:List TV->Option fQ
 | [.v (.int .i64 a),.v (.int .i64 b),.v (.int .i64 c),.v (.int .i64 d),.v (.int .i64 e)]=>some (a,b,c,d,e)
 |_=>none
def F8:List (List TV)->Option (List fQ)
 | []=>some []
 |x::r=>match FO x,F8 r with|some y,some l=>some (y::l)|_,_=>none
theorem DK(l:List fQ):F8 (l.map u4)=some l:=by
 induction l with
 |nil=>rfl
 |cons x r ih=>simp only[List.map_cons,F8,ih];rfl
theorem DL{x:List TV}{y:fQ}(h:FO x=some y):x=u4 y:=by
 unfold FO at h;split at h
 ·injection h with h;subst h;rfl
 ·cases h
theorem FN:∀{c:List (List TV)}{l:List fQ},F8 c=some l->c=l.map u4:=by
 intro c
 induction c with
 |nil=>intro l h;injection h with h;subst h;rfl
 |cons x r ih=>
  intro l h;simp only[F8]at h;split at h
  ·rename_i y q h1 h2
   injection h with h
   subst h;rw[DL h1,ih h2];rfl
  ·cases h
theorem GN{w:World}{F:Nat->Prop}{code:List fQ}{x:Value}(h:gN w F (.sl (code.map u4)) x):∃A cap,x=.slice A code.length cap/\qd w A code:=by
 cases h with
 | @sl _ a cap sz u hsz hcap hmax hnil hcell hrec=>
  refine⟨a,cap,by simp,⟨λhn=>?_⟩⟩;have Z3:0<code.length:=List.length_pos_iff.2 hn
  have hz:sz=5:=by
   have:=hsz 0 (by simpa using Z3);rw[<- this];simp[u4]
  subst hz;obtain⟨b,o,e,_,Yc⟩:=hcell 0 0 (by simpa using Z3) (by omega);refine⟨b,o,e,World.block_lt_of_cell? w _ Yc,λk hk=>?_⟩
  have YX:k<(code.map u4).length:=by simpa using hk
  have cell:∀j (hj:j<5),w.cell? ⟨b,o+k*5+j,none⟩=some (u k j):=λj hj=>by
   obtain⟨b',o',e',_,hc⟩:=hcell k j YX hj;rw[e]at e'
   injection e' with e'
   injection e' with e1 e2
   subst e1;subst e2;rw[Nat.add_assoc];exact hc
  have val:∀j (hj:j<5)(v:Value),(u4 code[k])[j]?=some (.v v)->u k j=v:=λj hj v hv=>by
   have g:=hrec k j YX (by simp[u4];omega)
   have e2:((code.map u4)[k])[j]'(by simp[u4];omega)=.v v:=by
    have h3:(code.map u4)[k]=u4 code[k]:=by simp
    have h4:((code.map u4)[k])[j]?=some (.v v):=by rw[h3];exact hv
    rw[oGE (by simp[u4];omega)]at h4;injection h4
   rw[e2]at g;cases g;rfl
  refine⟨?_,?_,?_,?_,?_⟩
  ·rw[<- val 0 (by omega) _ rfl];exact cell 0 (by omega)
  ·rw[<- val 1 (by omega) _ rfl];exact cell 1 (by omega)
  ·rw[<- val 2 (by omega) _ rfl];exact cell 2 (by omega)
  ·rw[<- val 3 (by omega) _ rfl];exact cell 3 (by omega)
  ·rw[<- val 4 (by omega) _ rfl];exact cell 4 (by omega)
theorem zg{w:World}{F:Nat->Prop}{q:Nat}{R:List Bool}(h:Bk w q 4 (gE R))(hF:F q)(hm:R.length<=maxLen):gN w F (.sl (zp R)) (.slice (some ⟨q,0,none⟩) R.length R.length):=by
 have hl:(zp R).length=R.length:=by simp[zp]
 have key:gN w F (.sl (zp R)) (.slice (some ⟨q,0,none⟩) (zp R).length R.length):=by
  refine .sl 1 (λi _=>.bool (R.getD i false)) (λi h=>by simp[zp]) (by rw[hl];exact Nat.le_refl _) hm (λh=>by simp at h) (λi j hi hj=>?_) (λi j hi hj=>?_)
  ·rw[hl]at hi
   obtain rfl:j=0:=by omega
   refine⟨q,0,rfl,hF,?_⟩;rw[h.cell,nw];simp[hi]
  ·rw[hl]at hi
   have Vd:j=0:=by simp[zp]at hj;exact hj
   subst Vd
   have:((zp R)[i]'(by rw[hl];exact hi))[0]'hj=.v (.bool (R.getD i false)):=by simp[zp,hi]
   rw[this];exact .v rfl
 rw[hl]at key;exact key
theorem tF{f:FuncId}{code:List fQ}{s1 s2:List (List TV)}{R:List Bool}(hm:code.length<=64)(hl:R.length=code.length)
 (hf:∀(A:Option Addr)(cap:Nat)(S1 S2:Value)(w:World),qd w A code->S1.oneCell'=true->S2.oneCell'=true->Calls Try.prog f #[.agg #[.slice A code.length cap,S1,S2]] w (qb R w)):
 GZ Try.prog f [.agg [.sl (code.map u4),.sl s1,.sl s2]] (zp R):=by
 intro avs w F hlen ha
 obtain⟨v0,rfl⟩:∃v0,avs=[v0]:=by
  match avs,hlen with
  | [v0],_=>exact⟨v0,rfl⟩
 have a0:=ha 0 (by simp) (by simp);simp only[List.getElem_cons_zero]at a0
 cases a0 with
 | @ag l cs W1 hj=>
  have hs:cs.size=3:=W1;obtain⟨c0,e0,i0⟩:=hj 0 (by simp);obtain⟨c1,e1,i1⟩:=hj 1 (by simp);obtain⟨c2,e2,i2⟩:=hj 2 (by simp);simp only[List.getElem_cons_zero,List.getElem_cons_succ]at e0 e1 e2
  injection e0 with e0
  injection e1 with e1
  injection e2 with e2
  subst e0 e1 e2;obtain⟨A,cap,ex,YC⟩:=GN i0
  have e:cs=#[.slice A code.length cap,cs.getD 1 undef,cs.getD 2 undef]:=by
   apply Array.ext
   ·simpa using hs
   ·intro j h2 h3
    have hjj:j<3:=by simpa using h3
    have e1:cs[j]=cs.getD j undef:=by simp[Array.getD,h2]
    rw[e1]
    match j,hjj with
    |0,_=>exact ex
    |1,_=>rfl
    |2,_=>rfl
  rw[e];refine(hf A cap _ _ w YC i1.one i2.one).mono ?_;rintro e w' ⟨q,rfl,hq,hB,hg⟩;exact⟨_,rfl,ww hg,zg hB (.inr hq) (by unfold maxLen;omega)⟩
theorem CV{code:List fQ}:∀{n:Nat}{out:List Bool}{fr:Bool}{todo:List Int}{r:List Bool×Bool},uY code n out fr todo=some r->r.1.length=out.length:=by
 intro n
 induction n with
 |zero=>intro out fr todo r h;cases h
 |succ n ih=>
  intro out fr todo r h;simp only[uY]at h;split at h
  ·injection h with h;subst h;rfl
  ·split at h
   ·exact ih h
   ·split at h
    ·rw[ih h,List.length_set]
    ·cases h
theorem CZ{code:List fQ}:∀{n:Nat}{out:List Bool}{todo:List Int}{r:List Bool},s7 code n out todo=some r->r.length=out.length:=by
 intro n
 induction n with
 |zero=>intro out todo r h;cases h
 |succ n ih=>
  intro out todo r h;simp only[s7]at h;split at h
  ·injection h with h;subst h;rfl
  ·split at h
   ·cases h
   ·split at h
    ·exact ih h
    ·split at h
     ·rw[ih h,List.length_set]
     ·cases h
theorem yF{code:List fQ}{R:List Bool}(h:nF code=some R):R.length=code.length:=by
 unfold nF at h;obtain⟨r,h1,rfl⟩:=Option.map_eq_some_iff.1 h;rw[List.length_map,CV h1,List.length_replicate]
theorem yG{code:List fQ}{R:List Bool}(h:tG code=some R):R.length=code.length:=by
 rw[CZ h,List.length_replicate]
theorem rL:ja Try.prog 32:=ms Try.func32 (by kernel_rfl) rfl
theorem sM:ja Try.prog 33:=ms Try.func33 (by kernel_rfl) rfl
def Hj:FuncId->List TV->Option (List (List TV)):=λf vals=>match vals with
 | [.agg [.sl c,.sl _,.sl _]]=>(F8 c).bind λcode=>if 0<code.length/\code.length<=64 then
  (if f=32 then(nF code).map zp else if f=33 then(tG code).map zp else none)else none
 |_=>none
def libB:cZ:=y9 Hj
theorem libB_ok:fR Try.prog libB:=Fs λf vals c h=>by
 unfold Hj at h;split at h
 ·rename_i c0 s1 s2;obtain⟨code,h1,h2⟩:=Option.bind_eq_some_iff.1 h;rw[FN h1];split at h2
  ·rename_i hb;split at h2
   ·rename_i e;subst e;obtain⟨R,h3,rfl⟩:=Option.map_eq_some_iff.1 h2;exact⟨rL,tF hb.2 (yF h3) λA cap S1 S2 w hc o1 o2=>nb A code cap S1 S2 R w hc hb.1 hb.2 o1 o2 h3⟩
   ·split at h2
    ·rename_i e;subst e;obtain⟨R,h3,rfl⟩:=Option.map_eq_some_iff.1 h2;exact⟨sM,tF hb.2 (yG h3) λA cap S1 S2 w hc o1 o2=>ph A code cap S1 S2 R w hc hb.1 hb.2 o1 o2 h3⟩
    ·cases h2
  ·cases h2
 ·cases h
def dO(a0:List fQ)(_:List Int)(_:List (List Int)):Option (List Bool×Unit):=if 0<a0.length/\a0.length<=64 then(nF a0).map λr=>(r,())else none
abbrev Ig:CT:=.pair I64 (.pair I64 (.pair I64 (.pair I64 I64)))
theorem nj{id:Nat}:lN libB ⟨32,id,[.agg [shU (.row false Ig),shU (.row false I64),shU (.row false (.row false (.int .u16)))]],[],[⟨[shU (.row false .bool)],[.one],[]⟩],λh=>dO h.1 h.2.1 h.2.2.1⟩:=by
 rintro⟨code,ss,dt,h⟩ o x ho hx;have ho:dO code ss dt=some o:=ho;unfold dO at ho;split at ho
 case isFalse=>cases ho
 rename_i hl;obtain⟨R,hR,rfl⟩:=Option.map_eq_some_iff.1 ho;cases hx;show y9 Hj 32 [.agg [.sl ((code:List fQ).map u4),.sl ((ss:List Int).map (enc I64)),.sl ((dt:List (List Int)).map (enc (.row false (.int .u16))))]] []=some (⟨[.sl (zp R)],[.one]⟩,[]);unfold y9;rw[oIP (by simp[xt,Dt])];unfold Hj;simp only[DK,oBS,oIP hl,if_true];rw[hR];rfl
end Go.Proofs.Ytgphpfjngblbiaa
namespace Go.Proofs.Ytgphpfjngblbiaa
open Go.RowKit
set_option maxRecDepth 100000
noncomputable section
abbrev KCe:CT:=(.pair (.int .u8) (.int .u16))
abbrev KIn:CT:=(.pair I64 (.pair I64 (.pair I64 (.pair I64 I64))))
abbrev IG:CT:=(.pair I64 (.pair .bool (.row false KCe)))
abbrev IF:CT:=(.pair I64 (.pair (.row false KCe) (.pair I64 (.pair I64 (.pair I64 (.pair I64 (.pair I64 (.int .u16))))))))
abbrev Hr:CT:=(.pair I64 (.pair .bool (.row true KCe)))
abbrev G8:CT:=(.pair I64 (.pair (.row true KCe) (.pair I64 (.pair I64 (.pair I64 (.pair I64 (.pair I64 (.int .u16))))))))
abbrev fS:CT:=(.row false KIn)
abbrev RW:CT:=(.row false (.int .u16))
abbrev RI:CT:=(.row false I64)
abbrev fY:CT:=(.row false KCe)
abbrev iI:CT:=(.row false IG)
abbrev lP:CT:=(.row true Hr)
abbrev nA:CT:=(.row false IF)
abbrev s6:CT:=(.row true G8)
abbrev DCe:Type:=(Int×Int)
abbrev DCn:Type:=(Int×Int×Int×Int)
abbrev DIn:Type:=(Int×Int×Int×Int×Int)
abbrev DOp:Type:=(Int×Int×Bool)
abbrev DLn:Type:=(Int×Bool×List DCe)
abbrev DTh:Type:=(Int×(List DCe)×Int×Int×Int×Int×Int×Int)
abbrev DOu:Type:=(Int×Int×List DCn)
abbrev DTs:Type:=(Int×Int×Int×Int×Int×Int×Int×List DCn)
abbrev DEn:Type:=(Int×Int×Int×Int×Int×Int×Int×Int×Int×(List DCn)×(List DCn)×Int×Int×Int×Int×(List DCn)×Int×Bool)
def HH(f i:Nat):List (Nat×Option Nat):=if f=40 then(if i=0 then[(8,none)]else[])else if f=12 then(if i=2 then[(3,some 1)]else if i=3 then[(3,some 0)]else[])else if f=17 then(if i=0 then[(4,some 0),(4,some 2),(4,some 3)]else[])else if f=37 then(if i=2000067 then[(2,none),(4,none),(8,none),(11,none),(12,none),(0,some 10),(0,some 18),(0,some 24)]else if i=0 then[(8,some 0)]else[])else if f=8 then(if i=2 then[(12,some 4),(14,some 4)]else[])else if f=18 then(if i=0 then[(4,some 0),(4,some 2),(4,some 3)]else[])else[]
def Gz:List Nat:=[32,33]
def TT (f:FuncId):Option TFn:=if Gz.contains f then none else nu Try.prog (HH f) f
theorem Gk{f:FuncId}(h:Gz.contains f=true):TT f=none:=oIP h
def E0:Env:=⟨λf=>if f=11 then some (1,[.arg 0,.val (.int .i64 0)])else none,λf=>Ih Try.prog f⟩
theorem tt_ok:Cb Try.prog TT:=λf tf h=>Ey HH (by kernel_rfl) f tf (by
 unfold TT at h
 split at h
 ·cases h
 ·exact h)
abbrev qE:Shs:=⟨[],[],[],([],[])⟩
abbrev qS(s:List (Nat×Sh))(c:List (Nat×List Sh)):Shs:=⟨s,c,[],([],[])⟩
abbrev N1:CT:=.nilr true
abbrev N0:CT:=.nilr false
abbrev CW:CT:=.int .u16
abbrev CB:CT:=.int .u8
abbrev uL(l:List CT):List Sh:=l.map fun c=>.d c ()
abbrev pP(t r:Nat):Nat×Sh:=(t,.ptr ⟨r,0,[]⟩ [0])
abbrev sP(t:Nat)(c:CT):Nat×Sh:=(t,.d c ())
abbrev Lk(n:Nat)(c:Ctr):Prop:=Lvl E0 TT libB n c
theorem aN{m:Nat}:yd E0 TT libB m []:=trivial
theorem aC{n m:Nat}{c:Ctr}{l:List Ctr}(h:Lk n c)(r:yd E0 TT libB m l)(hm:n≤m:=by decide):yd E0 TT libB m (c::l):=⟨h.mono hm,r⟩
abbrev lx(i n:Nat)(s:List (Nat×Sh))(c:List (Nat×List Sh))(b:Nat):uX:=⟨i,n,⟨s,c,[],([],[])⟩,[(.exit 0,⟨s++[(b,.d .bool ())],c,[],([],[])⟩)]⟩
abbrev LI:Type:=List Int
abbrev LLI:Type:=List (List Int)
abbrev LDCe:Type:=List DCe
abbrev LDIn:Type:=List DIn
abbrev LDLn:Type:=List DLn
abbrev LDTh:Type:=List DTh
abbrev T00:Type:=Bool×LI×Unit
abbrev T01:Type:=Int×Int×Unit
abbrev T02:Type:=Int×LI×Unit
abbrev T03:Type:=LDCe×LDLn×Unit
abbrev T04:Type:=LI×Int×Unit
abbrev T05:Type:=LI×LLI×Unit
abbrev T06:Type:=Int×Int×Bool×Unit
abbrev T07:Type:=Int×T01
abbrev T08:Type:=Int×Int×LDLn×Unit
abbrev T09:Type:=Int×T04
abbrev T0a:Type:=LDCe×T01
abbrev T0b:Type:=LDIn×T05
abbrev T0c:Type:=LI×T01
abbrev T0d:Type:=LI×T02
abbrev T0e:Type:=Bool×Bool×Bool×Bool×Unit
abbrev T0f:Type:=Int×Bool×T04
abbrev T0g:Type:=Int×Int×T03
abbrev T0h:Type:=Int×T09
abbrev T0i:Type:=Int×T0d
abbrev T0j:Type:=LDCe×LDLn×T03
abbrev T0k:Type:=LDIn×LI×LLI×LI×Unit
abbrev T0l:Type:=LI×T07
abbrev T0m:Type:=LI×T09
abbrev T0n:Type:=LI×T0c
abbrev T0o:Type:=Unit×T09
abbrev T0p:Type:=Unit×Unit×T03
abbrev T0q:Type:=Int×T0f
abbrev T0r:Type:=Int×Int×T07
abbrev T0s:Type:=Int×Int×T0b
abbrev T0t:Type:=LI×T0h
abbrev T0u:Type:=LI×Int×LDCe×LDLn×LDTh×Unit
abbrev T0v:Type:=Int×Int×Bool×T0b
abbrev T0w:Type:=Int×T0r
abbrev T0x:Type:=Int×Int×T0h
abbrev T0y:Type:=Int×Int×T0k
abbrev T0z:Type:=Int×T0u
abbrev T0A:Type:=LDCe×LDLn×T0p
abbrev T0B:Type:=LDIn×T0s
abbrev T0C:Type:=LI×T0q
abbrev T0D:Type:=LI×T0t
abbrev T0E:Type:=LLI×T0s
abbrev T0F:Type:=Int×Int×Bool×T0j
abbrev T0G:Type:=Int×Int×Bool×T0k
abbrev T0H:Type:=Int×T0w
abbrev T0I:Type:=Int×T0z
abbrev T0J:Type:=Int×T0B
abbrev T0K:Type:=LDIn×T0v
abbrev T0L:Type:=LDIn×T0y
abbrev T0M:Type:=LLI×T0v
abbrev T0N:Type:=Int×LDCe×T0w
abbrev T0O:Type:=Int×T0K
abbrev T0P:Type:=LDTh×T0I
abbrev T0Q:Type:=LI×Int×Unit×Unit×Unit×T0b
abbrev T0R:Type:=LI×Int×Unit×Unit×Unit×Unit×T05
abbrev T0S:Type:=Int×Int×T0H
abbrev T0T:Type:=Int×LI×Int×Int×Bool×T0l
abbrev T0U:Type:=Int×T0Q
abbrev T0V:Type:=LDIn×LI×LLI×LI×Int×T0p
abbrev T0W:Type:=LDLn×Int×Int×T0A
abbrev T0X:Type:=LI×Int×Int×T0C
abbrev T0Y:Type:=LI×Int×LI×Int×Int×T0l
abbrev T0Z:Type:=Int×Bool×T0Q
abbrev T10:Type:=Int×Int×Int×Int×Int×Bool×Bool×Bool×T00
abbrev T11:Type:=Int×T0U
abbrev T12:Type:=Int×Int×T0R
abbrev T13:Type:=LDIn×LI×LLI×LDIn×LI×LLI×T0m
abbrev T14:Type:=LI×Int×Int×Int×Int×Int×T0o
abbrev T15:Type:=LI×Int×Int×LI×T0x
abbrev T16:Type:=LI×Int×LDCe×LDLn×LDTh×T0u
abbrev T17:Type:=Unit×Int×Unit×Unit×Unit×T0u
abbrev T18:Type:=Bool×T16
abbrev T19:Type:=Int×Int×T0V
abbrev T1a:Type:=Int×T17
abbrev T1b:Type:=LDCe×Int×Int×T0N
abbrev T1c:Type:=LI×Int×Bool×LI×T0H
abbrev T1d:Type:=LI×Int×Int×LI×Int×Int×T0q
abbrev T1e:Type:=LI×Int×Int×LI×Int×Int×T0t
abbrev T1f:Type:=Int×Bool×T17
abbrev T1g:Type:=Int×Int×Bool×T0V
abbrev T1h:Type:=Int×Int×T10
abbrev T1i:Type:=Int×Int×T16
abbrev T1j:Type:=LI×Int×Int×T0X
abbrev T1k:Type:=LI×Int×LDCe×LDLn×LDTh×LI×Int×LDCe×LDLn×LDTh×T04
abbrev T1l:Type:=LLI×T19
abbrev T1m:Type:=(List (Bool))×Int×Int×T13
abbrev T1n:Type:=Int×Int×Bool×T10
abbrev T1o:Type:=LLI×T1g
abbrev T1p:Type:=Int×Int×LDIn×LI×LLI×T17
abbrev T1q:Type:=LI×Int×LDCe×LDLn×LDTh×T17
abbrev T1r:Type:=Int×LLI×Int×Int×LI×T19
abbrev T1s:Type:=Int×Int×LI×Int×Int×Int×Int×Int×Int×Int×Int×Int×Int×Int×T0e
abbrev T1t:Type:=LDIn×LI×LLI×LDIn×LI×LLI×T1k
abbrev T1u:Type:=LDTh×Int×Int×T1q
abbrev T1v:Type:=Int×T1t
abbrev T1w:Type:=Nat×Int×LI×Int×LDCe×LDLn×LDTh×LDIn×LI×LLI×T0S
abbrev T1x:Type:=Int×Bool×LDIn×LI×LLI×LDIn×LI×LLI×LI×Int×LDCe×LDLn×LDTh×LI×Int×LDCe×LDLn×LDTh×T1k
noncomputable abbrev ap1{A0 D R:Type}(f:A0→R)(h:A0×D):R:=f h.1
noncomputable abbrev ap2{A0 A1 D R:Type}(f:A0→A1→R)(h:A0×A1×D):R:=f h.1 h.2.1
noncomputable abbrev ap3{A0 A1 A2 D R:Type}(f:A0→A1→A2→R)(h:A0×A1×A2×D):R:=f h.1 h.2.1 h.2.2.1
noncomputable abbrev ap4{A0 A1 A2 A3 D R:Type}(f:A0→A1→A2→A3→R)(h:A0×A1×A2×A3×D):R:=f h.1 h.2.1 h.2.2.1 h.2.2.2.1
noncomputable abbrev ap5{A0 A1 A2 A3 A4 D R:Type}(f:A0→A1→A2→A3→A4→R)(h:A0×A1×A2×A3×A4×D):R:=f h.1 h.2.1 h.2.2.1 h.2.2.2.1 h.2.2.2.2.1
noncomputable abbrev ap7{A0 A1 A2 A3 A4 A5 A6 D R:Type}(f:A0→A1→A2→A3→A4→A5→A6→R)(h:A0×A1×A2×A3×A4×A5×A6×D):R:=f h.1 h.2.1 h.2.2.1 h.2.2.2.1 h.2.2.2.2.1 h.2.2.2.2.2.1 h.2.2.2.2.2.2.1
noncomputable abbrev ap8{A0 A1 A2 A3 A4 A5 A6 A7 D R:Type}(f:A0→A1→A2→A3→A4→A5→A6→A7→R)(h:A0×A1×A2×A3×A4×A5×A6×A7×D):R:=f h.1 h.2.1 h.2.2.1 h.2.2.2.1 h.2.2.2.2.1 h.2.2.2.2.2.1 h.2.2.2.2.2.2.1 h.2.2.2.2.2.2.2.1
noncomputable abbrev ap9{A0 A1 A2 A3 A4 A5 A6 A7 A8 D R:Type}(f:A0→A1→A2→A3→A4→A5→A6→A7→A8→R)(h:A0×A1×A2×A3×A4×A5×A6×A7×A8×D):R:=f h.1 h.2.1 h.2.2.1 h.2.2.2.1 h.2.2.2.2.1 h.2.2.2.2.2.1 h.2.2.2.2.2.2.1 h.2.2.2.2.2.2.2.1 h.2.2.2.2.2.2.2.2.1
noncomputable abbrev ap10{A0 A1 A2 A3 A4 A5 A6 A7 A8 A9 D R:Type}(f:A0→A1→A2→A3→A4→A5→A6→A7→A8→A9→R)(h:A0×A1×A2×A3×A4×A5×A6×A7×A8×A9×D):R:=f h.1 h.2.1 h.2.2.1 h.2.2.2.1 h.2.2.2.2.1 h.2.2.2.2.2.1 h.2.2.2.2.2.2.1 h.2.2.2.2.2.2.2.1 h.2.2.2.2.2.2.2.2.1 h.2.2.2.2.2.2.2.2.2.1
noncomputable abbrev ap16{A0 A1 A2 A3 A4 A5 A6 A7 A8 A9 A10 A11 A12 A13 A14 A15 D R:Type}(f:A0→A1→A2→A3→A4→A5→A6→A7→A8→A9→A10→A11→A12→A13→A14→A15→R)(h:A0×A1×A2×A3×A4×A5×A6×A7×A8×A9×A10×A11×A12×A13×A14×A15×D):R:=f h.1 h.2.1 h.2.2.1 h.2.2.2.1 h.2.2.2.2.1 h.2.2.2.2.2.1 h.2.2.2.2.2.2.1 h.2.2.2.2.2.2.2.1 h.2.2.2.2.2.2.2.2.1 h.2.2.2.2.2.2.2.2.2.1 h.2.2.2.2.2.2.2.2.2.2.1 h.2.2.2.2.2.2.2.2.2.2.2.1 h.2.2.2.2.2.2.2.2.2.2.2.2.1 h.2.2.2.2.2.2.2.2.2.2.2.2.2.1 h.2.2.2.2.2.2.2.2.2.2.2.2.2.2.1 h.2.2.2.2.2.2.2.2.2.2.2.2.2.2.2.1
theorem ls{n:Nat}(C:X.Cfg)(hT:yd E0 TT libB n C.TB){c:Ctr}(hE:C.E=E0:=by rfl)(h1:(TT c.f).isSome=true:=by kernel_rfl)(hg:∀h,X.runT bJ C () ((TT c.f).getD Ii) c.outs (eQ c.ins _ h).1 (mq c.pts [] (eQ c.ins _ h).2).1=c.g h:=by intro h;kernel_rfl):Lk (n+1) c:=Hi (n:=n) (C:=C) hE hT (Hu h1) hg
abbrev Uaa(t:Nat):Nat×Sh:=sP t I64
abbrev Xaa(t:Nat):Nat×Sh:=sP t .bool
abbrev Zaa(t r:Nat):Nat×Sh:=(t,.pk ⟨r,0,[]⟩ [0,0])
abbrev uaa(t:CT):CT:=.row true t
abbrev yaa(t:CT):CT:=.row false t
abbrev zaa(t:Nat):Nat×Sh:=pP t (2*t+2)
abbrev uab:List Sh:=uL [fS,RI,(yaa RW)]
abbrev yab:List Sh:=uL [RI,I64]
abbrev zab:List Sh:=uL [RI,CW]
abbrev Uab:List Sh:=uL [CB,CW]
abbrev Xab:List Sh:=uL [.bool]
abbrev Zab:List Sh:=uL [RI,CW,fY,iI,nA]
abbrev uac:List Sh:=uL [I64,I64,I64,I64,I64]
abbrev yac:List Sh:=uL [I64]
abbrev zac:List Sh:=uL [fY,iI]
abbrev Uac:List Sh:=uL [RI,CW,(uaa KCe),lP,s6]
abbrev Xac:List Sh:=uL [(uaa KCe),lP]
abbrev Zac:List Sh:=uL [I64,I64]
abbrev uad:List Sh:=uL [.bool,.bool,.bool,.bool]
abbrev yad:List Sh:=uL [N1,N1,N1]
abbrev zad:List Sh:=uL [(uaa I64)]
abbrev Uad:List Sh:=uL [N1,N1]
abbrev Xad:List Sh:=uL [(uaa CB)]
abbrev Zad:List Sh:=uL [I64,fY,I64,I64,I64,I64,I64,CW]
abbrev uae:List Sh:=uL [(uaa KIn),RI,(uaa (uaa CW))]
abbrev yae:List Sh:=uL [fS,RI,(uaa (uaa CW))]
abbrev zae:List Sh:=uL [N1,CW,N1,N1,N1]
abbrev Uae:List Sh:=uL [(uaa I64),CW]
abbrev Xae:List Sh:=uL [CB,CW,I64]
abbrev Zae:List Sh:=uL [(uaa KIn),RI,(yaa RW)]
def jA(a0:Int)(a1:Int):Option (Int×Unit):=
bif(a1 != 0)then let x0:Int:=(Int.tmod a0 a1);
(bif(decide (x0<0))then(let x1:Int:=(w64 (x0+a1));
some (x1,()))else
some (x0,()):Option (Int×Unit)).bind λ(x1,_)=>
some (x1,())else none
def vQ:X.Cfg:=⟨E0,[],[],[⟨2,0,qE,[(.normal,qS [Uaa 5] [])]⟩]⟩
def p7:Ctr:=⟨55,0,Zac,[],[⟨yac,[.one],[]⟩],ap2 jA⟩
theorem vI:Lk 1 p7:=ls vQ aN
def rC(a0:Int)(a1:Int):Option (Int×Unit):=
(jA a0 a1).bind λ(x0,_)=>
some (x0,())
def Dz:X.Cfg:=⟨E0,[p7],[],[]⟩
def xU:Ctr:=⟨21,1,Zac,[],[⟨yac,[.one],[]⟩],ap2 rC⟩
theorem Dq:Lk 2 xU:=ls Dz (aC vI aN)
def bL(a0:Int)(a1:List (Int))(a2:Int):Option (T09):=
let x0:=bQ a1.length;
bif(decide (a2>=x0))then(some (0,a1,a2,()))else
let x1:=w64 (a2+1);
let x2:=w64 (x1-1);
(cT x2).bind λx3=>
(bS a1 x3).bind λx4=>
(rC x4 a0).bind λ(x5,_)=>
some (x5,a1,x1,())
def vU:X.Cfg:=⟨E0,[xU],[],[]⟩
def d6:Ctr:=⟨36,2,[.ptr ⟨2,0,[]⟩ [0],shU I64],[(2,yab)],[⟨yac,[.one],[(2,yab)]⟩],ap3 bL⟩
theorem eD:Lk 3 d6:=ls vU (aC Dq aN)
def j5:T0i->Option (T0i⊕(Int×Bool×T0d)):=λ(v0,v1,v2,v3,_)=>
bif(decide (v0>0))then(let x0:List (Int):=[6,12,32];
(bL 3 v1 v2).bind λ(x1,x2,x3,_)=>
(cT x1).bind λx4=>
(bS x0 x4).bind λx5=>
(bS x0 x4).bind λx6=>
(bL x6 x2 x3).bind λ(x7,x8,x9,_)=>
let ac:=w64 (1+x7);
bif(cL 8 v3.length (List.length [ac]))then let ae:List (Int):=(List.append v3 [ac]);
let af:=w64 (v0-1);
some (.inl (af,x8,x9,ae,()))else none)else
some (.inr (v0,false,v1,v2,v3,()))
def iW(a0:List (Int))(a1:Int):Option (LI×T04):=
(bL 9 a0 a1).bind λ(x0,x1,x2,_)=>
let x3:=w64 (4+x0);
(bL 4 x1 x2).bind λ(x4,x5,x6,_)=>
(bU j5 NN (x4,x5,x6,[x3],())).bind λ(x7,x8,x9,ac,ae,_)=>
some (ae,x9,ac,())
def uz:X.Cfg:=⟨E0,[d6],[],[(lx 4 0 [zaa 0,Zaa 3 9,Uaa 4] [(2,yab),(9,zad)] 12)]⟩
def oq:Ctr:=⟨38,3,[.ptr ⟨2,0,[]⟩ [0]],[(2,yab)],[⟨zad,[.one],[(2,yab)]⟩],ap2 iW⟩
theorem ue:Lk 4 oq:=ls uz (aC eD aN)
def fa(a0:List (Int))(a1:Int):Option (T09):=
(bL 5 a0 a1).bind λ(x0,x1)=>
(bif(x0==0)then(some (x0,true,x1))else
bif(x0==1)then(some (x0,true,x1))else
some (x0,(x0==2),x1):Option (T0f)).bind λ(x3,x4,x5,x6,_)=>
bif x4 then((bL 8 x5 x6).bind λ(x7,x8,x9,_)=>
let ac:=wk .u16 x7;
some (ac,x8,x9,()))else
bif(x3==3)then((bL 3 x5 x6).bind λ(x7,x8,x9,_)=>
let ac:=w64 (65535-x7);
let ae:=wk .u16 ac;
some (ae,x8,x9,()))else
(bL 65536 x5 x6).bind λ(x7,x8,x9,_)=>
let ac:=wk .u16 x7;
some (ac,x8,x9,())
def vT:X.Cfg:=⟨E0,[d6],[],[⟨3,0,qE,[(.normal,qS [zaa 0,Uaa 4,Xaa 5] [(2,yab)])]⟩]⟩
def jN:Ctr:=⟨74,4,[.ptr ⟨2,0,[]⟩ [0]],[(2,yab)],[⟨uL [CW],[.one],[(2,yab)]⟩],ap2 fa⟩
theorem lJ:Lk 4 jN:=ls vT (aC eD aN)
def j4:T0i->Option (T0i⊕(Int×Bool×T0d)):=λ(v0,v1,v2,v3,_)=>
bif(decide (v0>0))then((fa v1 v2).bind λ(x0,x1,x2,_)=>
bif(cL 2 v3.length (List.length [x0]))then let x3:List (Int):=(List.append v3 [x0]);
let x4:=w64 (v0-1);
some (.inl (x4,x1,x2,x3,()))else none)else
some (.inr (v0,false,v1,v2,v3,()))
def iV(a0:Int)(a1:List (Int))(a2:Int):Option (LI×T04):=
let x0:=w64 (a0+1);
(bL x0 a1 a2).bind λ(x1,x2,x3,_)=>
(bU j4 NN (x1,x2,x3,[],())).bind λ(x4,x5,x6,x7,x8,_)=>
some (x8,x6,x7,())
def uy:X.Cfg:=⟨E0,[d6,jN],[],[(lx 4 0 [zaa 0,Zaa 5 13,Uaa 6] [(2,yab),(13,uL [(uaa CW)])] 12)]⟩
def oo:Ctr:=⟨39,5,[.ptr ⟨2,0,[]⟩ [0],shU I64],[(2,yab)],[⟨uL [(uaa CW)],[.one],[(2,yab)]⟩],ap3 iV⟩
theorem ud:Lk 5 oo:=ls uy (aC eD (aC lJ aN))
def ew(a0:Int)(a1:Int):Option (T0r):=
some (1,a0,0,0,a1,())
def FI:X.Cfg:=⟨E0,[],[],[]⟩
def wv:Ctr:=⟨41,6,Zac,[],[⟨uac,[.agg 5],[]⟩],ap2 ew⟩
theorem Bp:Lk 1 wv:=ls FI aN
def dZ(a0:Int):Option (T0r):=
some (23,0,0,0,a0,())
def Dx:X.Cfg:=⟨E0,[],[],[]⟩
def sV:Ctr:=⟨42,7,yac,[],[⟨uac,[.agg 5],[]⟩],ap1 dZ⟩
theorem xr:Lk 1 sV:=ls Dx aN
def gS(a0:Int)(a1:Int):Option (T0r):=
some (2,a0,a1,0,0,())
def Dy:X.Cfg:=⟨E0,[],[],[]⟩
def xT:Ctr:=⟨77,8,Zac,[],[⟨uac,[.agg 5],[]⟩],ap2 gS⟩
theorem Dp:Lk 1 xT:=ls Dy aN
def eo(a0:Int):Option (T0e):=
(bif(a0==1)then(some (a0,true,false,false,false,false,()))else
bif(a0==15)then(some (a0,true,false,false,false,false,()))else
bif(a0==19)then(some (a0,true,false,false,false,false,()))else
bif(a0==20)then(some (a0,true,false,false,false,false,()))else
some (a0,(a0==21),false,false,false,false,()):Option (Int×Bool×T0e)).bind λ(x0,x1,_)=>
bif x1 then(some (true,false,false,true,()))else
bif(x0==2)then(some (true,true,false,false,()))else
bif(x0==16)then(some (true,true,false,true,()))else
bif(x0==17)then(some (true,true,false,true,()))else
bif(x0==18)then(some (false,false,false,true,()))else
bif(x0==23)then(some (false,false,false,true,()))else
bif(x0==22)then(some (true,false,false,false,()))else
bif(x0==0)then(some (false,false,false,false,()))else
bif(x0==24)then(some (false,false,false,false,()))else
some (true,true,true,false,())
def uo:X.Cfg:=⟨E0,[],[],[⟨3,0,qE,[(.normal,qS [zaa 2,Uaa 3,Xaa 4] [(6,uad)])]⟩]⟩
def kE:Ctr:=⟨73,9,yac,[],[⟨uad,[.agg 4],[]⟩],ap1 eo⟩
theorem nP:Lk 1 kE:=ls uo aN
def dh(a0:Int):Option (Bool×Unit):=
bif(a0==18)then(some (true,()))else
bif(a0==19)then(some (true,()))else
bif(a0==20)then(some (true,()))else
some ((a0==21),())
def up:X.Cfg:=⟨E0,[],[],[]⟩
def fi:Ctr:=⟨43,10,yac,[],[⟨Xab,[.one],[]⟩],ap1 dh⟩
theorem gz:Lk 1 fi:=ls up aN
def gx(a0:Int)(a1:Int)(a2:List (Int))(a3:Int):Option (Int×T0x):=
(bL 25 a2 a3).bind λ(x0,x1,x2,_)=>
(eo x0).bind λ(x3,x4)=>
(bif x3 then((bL 8 x1 x2).bind λ(x7,x8,x9,_)=>
some (a0,a1,x8,x9,0,0,0,0,0,x0,x7,0,0,0,x3,x4))else
some (a0,a1,x1,x2,0,0,0,0,0,x0,0,0,0,0,x3,x4):Option (T1s)).bind λ(x7,x8,x9,ac,ae,af,ah,ai,aj,ak,am,an,ap,aq,av,ax,ay)=>
(bif ax then((bL 8 x9 ac).bind λ(aA,aB,aD,_)=>
some (x7,x8,aB,aD,ae,af,ah,ai,aj,ak,am,aA,ap,aq,av,ax,ay))else
some (x7,x8,x9,ac,ae,af,ah,ai,aj,ak,am,an,ap,aq,av,ax,ay):Option (T1s)).bind λ(aA,aB,aD,aE,aF,aG,aH,aI,aJ,aK,aL,aM,aO,aP,aQ,aR,aS,aT,_)=>
(bif aS then((bL 8 aD aE).bind λ(aU,aV,aW,_)=>
some (aA,aB,aV,aW,aF,aG,aH,aI,aJ,aK,aL,aM,aU,aP,aQ,aR,aS,aT,()))else
some (aA,aB,aD,aE,aF,aG,aH,aI,aJ,aK,aL,aM,aO,aP,aQ,aR,aS,aT,()):Option (T1s)).bind λ(aU,aV,aW,aY,aZ,ba,bc,bd,be,bf,bg,bh,bi,bj,bk,bm,bn,bo,_)=>
((dh bf).bind λ(bp,_)=>
bif bp then((bL aV aW aY).bind λ(bq,bt,bv,_)=>
some (bt,bv,aZ,ba,bc,bd,be,bf,bg,bh,bi,bq,()))else
bif(bf==15)then((bL aU aW aY).bind λ(bq,bt,bv,_)=>
some (bt,bv,aZ,ba,bc,bd,be,bf,bg,bh,bi,bq,()))else
bif(bf==23)then((bL 16 aW aY).bind λ(bq,bt,bv,_)=>
some (bt,bv,aZ,ba,bc,bd,be,bf,bg,bh,bi,bq,()))else
bif bo then((fa aW aY).bind λ(bq,bt,bv,_)=>
let bx:=wk .i64 bq;
some (bt,bv,aZ,ba,bc,bd,be,bf,bg,bh,bi,bx,()))else
some (aW,aY,aZ,ba,bc,bd,be,bf,bg,bh,bi,bj,()):Option (LI×Int×Int×T0S)).bind λ(bp,bq,bt,bv,bx,bA,bB,bC,bD,bE,bF,bG,_)=>
some (bC,bD,bE,bF,bG,bp,bq,())
def uA:X.Cfg:=⟨E0,[d6,kE,fi,jN],[],[⟨3,0,qE,[(.normal,qS [zaa 0,Uaa 1,Uaa 2,zaa 6,zaa 7,zaa 8] [(2,yab),(14,uac),(16,uac),(18,uad)])]⟩,⟨5,1,qE,[(.normal,qS [zaa 0,Uaa 1,Uaa 2,zaa 6,zaa 7,zaa 8] [(2,yab),(14,uac),(16,uac),(18,uad)])]⟩,⟨7,2,qE,[(.normal,qS [zaa 0,Uaa 1,Uaa 2,zaa 6,zaa 7,zaa 8] [(2,yab),(14,uac),(16,uac),(18,uad)])]⟩,⟨9,3,qE,[(.normal,qS [zaa 0,zaa 6,zaa 7] [(2,yab),(14,uac),(16,uac)])]⟩]⟩
def kI:Ctr:=⟨35,11,[.ptr ⟨2,0,[]⟩ [0],shU I64,shU I64],[(2,yab)],[⟨uac,[.agg 5],[(2,yab)]⟩],ap4 gx⟩
theorem nR:Lk 5 kI:=ls uA (aC eD (aC nP (aC gz (aC lJ aN))))
def jB(a0:List (Int))(a1:Int)(a2:Int)(a3:List (Int))(a4:Int):Option (LDIn×T04):=
let x0:=bQ a0.length;
(bL x0 a3 a4).bind λ(x1,x2,x3,_)=>
(cT x1).bind λx4=>
(bS a0 x4).bind λx5=>
let x6:=w64 (x5+1);
let x7:=mmR false 5 x6;
(bL x7 x2 x3).bind λ(x8,x9,ac,_)=>
(ew 2 x8).bind λ(ae,af,ah,ai,aj,_)=>
let ak:LDIn:=[(15,(1,(0,(0,x1)))),(ae,(af,(ah,(ai,aj))))];
(bL 20 x9 ac).bind λ(am,an,ap,_)=>
bif(am==0)then((bL 3 an ap).bind λ(aq,av,ax,_)=>
let ay:=w64 (3+aq);
(fa av ax).bind λ(az,aA,aB,_)=>
let aD:=wk .i64 az;
(ew ay aD).bind λ(aE,aF,aG,aH,aI,_)=>
let aJ:LDIn:=[(aE,(aF,(aG,(aH,aI))))];
some (aJ,aA,aB,()))else
bif(am==1)then(let aq:List (Int):=[3,4,5,10,13,14,11,9];
(bL 8 an ap).bind λ(av,ax,ay,_)=>
(cT av).bind λaz=>
(bS aq az).bind λaA=>
(bS aq az).bind λaB=>
(bL 3 ax ay).bind λ(aD,aE,aF,_)=>
let aG:=w64 (3+aD);
(bL 3 aE aF).bind λ(aH,aI,aJ,_)=>
let aK:=w64 (3+aH);
(bL 3 aI aJ).bind λ(aL,aM,aO,_)=>
let aP:=w64 (3+aL);
let aQ:LDIn:=[(aB,(aG,(aK,(aP,0))))];
some (aQ,aM,aO,()))else
bif(am==2)then(let aq:LDIn:=[(15,(6,(0,(0,x1))))];
some (aq,an,ap,()))else
bif(am==3)then((bL 5 an ap).bind λ(aq,av,ax,_)=>
let ay:=w64 (3+aq);
(cT x1).bind λaz=>
(bS a0 az).bind λaA=>
(bL aA av ax).bind λ(aB,aD,aE,_)=>
let aF:LDIn:=[(15,(6,(0,(0,x1)))),(17,(6,(ay,(0,aB))))];
some (aF,aD,aE,()))else
bif(am==4)then((bL 5 an ap).bind λ(aq,av,ax,_)=>
let ay:=w64 (3+aq);
(cT x1).bind λaz=>
(bS a0 az).bind λaA=>
(bL aA av ax).bind λ(aB,aD,aE,_)=>
let aF:LDIn:=[(15,(6,(0,(0,x1)))),(17,(6,(ay,(0,aB))))];
some (aF,aD,aE,()))else
bif(am==5)then((bL 4 an ap).bind λ(aq,av,ax,_)=>
let ay:=w64 (3+aq);
(cT x1).bind λaz=>
(bS a0 az).bind λaA=>
(bL aA av ax).bind λ(aB,aD,aE,_)=>
let aF:LDIn:=[(15,(6,(0,(0,x1)))),(16,(ay,(6,(0,aB))))];
some (aF,aD,aE,()))else
bif(am==6)then((bL 4 an ap).bind λ(aq,av,ax,_)=>
let ay:=w64 (3+aq);
(cT x1).bind λaz=>
(bS a0 az).bind λaA=>
(bL aA av ax).bind λ(aB,aD,aE,_)=>
let aF:LDIn:=[(15,(6,(0,(0,x1)))),(16,(ay,(6,(0,aB))))];
some (aF,aD,aE,()))else
bif(am==7)then((bL 3 an ap).bind λ(aq,av,ax,_)=>
(ew 0 aq).bind λ(ay,az,aA,aB,aD,_)=>
let aE:LDIn:=[(ay,(az,(aA,(aB,aD))))];
bif(cL 40 aE.length ak.length)then let aF:LDIn:=(List.append aE ak);
(dZ 13).bind λ(aG,aH,aI,aJ,aK,_)=>
let aL:LDIn:=[(aG,(aH,(aI,(aJ,aK))))];
bif(cL 40 aF.length aL.length)then let aM:LDIn:=(List.append aF aL);
some (aM,av,ax,())else none else none)else
bif(am==8)then((bL 3 an ap).bind λ(aq,av,ax,_)=>
(ew 0 aq).bind λ(ay,az,aA,aB,aD,_)=>
let aE:LDIn:=[(ay,(az,(aA,(aB,aD))))];
bif(cL 40 aE.length ak.length)then let aF:LDIn:=(List.append aE ak);
(dZ 13).bind λ(aG,aH,aI,aJ,aK,_)=>
let aL:LDIn:=[(aG,(aH,(aI,(aJ,aK))))];
bif(cL 40 aF.length aL.length)then let aM:LDIn:=(List.append aF aL);
some (aM,av,ax,())else none else none)else
bif(am==9)then((bL 3 an ap).bind λ(aq,av,ax,_)=>
(ew 0 aq).bind λ(ay,az,aA,aB,aD,_)=>
let aE:LDIn:=[(ay,(az,(aA,(aB,aD))))];
bif(cL 40 aE.length ak.length)then let aF:LDIn:=(List.append aE ak);
(dZ 14).bind λ(aG,aH,aI,aJ,aK,_)=>
(gS 3 0).bind λ(aL,aM,aO,aP,aQ,_)=>
let aR:LDIn:=[(aG,(aH,(aI,(aJ,aK)))),(aL,(aM,(aO,(aP,aQ))))];
bif(cL 40 aF.length aR.length)then let aS:LDIn:=(List.append aF aR);
some (aS,av,ax,())else none else none)else
bif(am==10)then((bL 3 an ap).bind λ(aq,av,ax,_)=>
(ew 0 aq).bind λ(ay,az,aA,aB,aD,_)=>
(bL 4 av ax).bind λ(aE,aF,aG,_)=>
(ew 1 aE).bind λ(aH,aI,aJ,aK,aL,_)=>
(dZ 3).bind λ(aM,aO,aP,aQ,aR,_)=>
(gS 7 0).bind λ(aS,aT,aU,aV,aW,_)=>
let aY:LDIn:=[(ay,(az,(aA,(aB,aD)))),(aH,(aI,(aJ,(aK,aL)))),(aM,(aO,(aP,(aQ,aR)))),(aS,(aT,(aU,(aV,aW))))];
some (aY,aF,aG,()))else
bif(am==11)then((gS 0 7).bind λ(aq,av,ax,ay,az,_)=>
let aA:LDIn:=[(aq,(av,(ax,(ay,az))))];
bif(cL 40 aA.length ak.length)then let aB:LDIn:=(List.append aA ak);
let aD:List (Int):=[1,2];
(bL 2 an ap).bind λ(aE,aF,aG,_)=>
(cT aE).bind λaH=>
(bS aD aH).bind λaI=>
(bS aD aH).bind λaJ=>
(dZ aJ).bind λ(aK,aL,aM,aO,aP,_)=>
let aQ:LDIn:=[(aK,(aL,(aM,(aO,aP))))];
bif(cL 40 aB.length aQ.length)then let aR:LDIn:=(List.append aB aQ);
some (aR,aF,aG,())else none else none)else
bif(am==12)then((gS 0 7).bind λ(aq,av,ax,ay,az,_)=>
(dZ 4).bind λ(aA,aB,aD,aE,aF,_)=>
let aG:LDIn:=[(aq,(av,(ax,(ay,az)))),(aA,(aB,(aD,(aE,aF))))];
(gS 0 7).bind λ(aH,aI,aJ,aK,aL,_)=>
(bL 4 an ap).bind λ(aM,aO,aP,_)=>
(ew 1 aM).bind λ(aQ,aR,aS,aT,aU,_)=>
(dZ 5).bind λ(aV,aW,aY,aZ,ba,_)=>
let bc:LDIn:=[(aH,(aI,(aJ,(aK,aL)))),(aQ,(aR,(aS,(aT,aU)))),(aV,(aW,(aY,(aZ,ba))))];
let bd:List LDIn:=[aG,bc];
(bL 2 aO aP).bind λ(be,bf)=>
(cT be).bind λbh=>
(bS bd bh).bind λbi=>
(bS bd bh).bind λbj=>
(bS bd bh).bind λbk=>
some (bk,bf))else
bif(am==13)then(let aq:List (Int):=[6,7,15];
(bL 3 an ap).bind λ(av,ax,ay,_)=>
(cT av).bind λaz=>
(bS aq az).bind λaA=>
(bS aq az).bind λaB=>
(dZ aB).bind λ(aD,aE,aF,aG,aH,_)=>
(bL 3 ax ay).bind λ(aI,aJ,aK,_)=>
let aL:=w64 (3+aI);
(gS aL 0).bind λ(aM,aO,aP,aQ,aR,_)=>
let aS:LDIn:=[(aD,(aE,(aF,(aG,aH)))),(aM,(aO,(aP,(aQ,aR))))];
some (aS,aJ,aK,()))else
bif(am==14)then((bL 3 an ap).bind λ(aq,av,ax,_)=>
(ew 0 aq).bind λ(ay,az,aA,aB,aD,_)=>
let aE:List (Int):=[8,9];
(bL 2 av ax).bind λ(aF,aG,aH,_)=>
(cT aF).bind λaI=>
(bS aE aI).bind λaJ=>
(bS aE aI).bind λaK=>
(dZ aK).bind λ(aL,aM,aO,aP,aQ,_)=>
let aR:LDIn:=[(ay,(az,(aA,(aB,aD)))),(aL,(aM,(aO,(aP,aQ))))];
some (aR,aG,aH,()))else
bif(am==15)then((bL 3 an ap).bind λ(aq,av,ax,_)=>
(ew 0 aq).bind λ(ay,az,aA,aB,aD,_)=>
let aE:List (Int):=[8,9];
(bL 2 av ax).bind λ(aF,aG,aH,_)=>
(cT aF).bind λaI=>
(bS aE aI).bind λaJ=>
(bS aE aI).bind λaK=>
(dZ aK).bind λ(aL,aM,aO,aP,aQ,_)=>
let aR:LDIn:=[(ay,(az,(aA,(aB,aD)))),(aL,(aM,(aO,(aP,aQ))))];
some (aR,aG,aH,()))else
bif(am==16)then((bL a1 an ap).bind λ(aq,av,ax,_)=>
(ew 0 aq).bind λ(ay,az,aA,aB,aD,_)=>
(gS 1 3).bind λ(aE,aF,aG,aH,aI,_)=>
(dZ 10).bind λ(aJ,aK,aL,aM,aO,_)=>
let aP:LDIn:=[(ay,(az,(aA,(aB,aD)))),(aE,(aF,(aG,(aH,aI)))),(aJ,(aK,(aL,(aM,aO))))];
some (aP,av,ax,()))else
bif(am==17)then(let aq:List (Int):=[a1,5];
(bL 2 an ap).bind λ(av,ax,ay,_)=>
(cT av).bind λaz=>
(bS aq az).bind λaA=>
(bS aq az).bind λaB=>
(bL aB ax ay).bind λ(aD,aE,aF,_)=>
(ew 0 aD).bind λ(aG,aH,aI,aJ,aK,_)=>
let aL:List (Int):=[12,11];
(bL 2 aE aF).bind λ(aM,aO,aP,_)=>
(cT aM).bind λaQ=>
(bS aL aQ).bind λaR=>
(bS aL aQ).bind λaS=>
(dZ aS).bind λ(aT,aU,aV,aW,aY,_)=>
let aZ:LDIn:=[(aG,(aH,(aI,(aJ,aK)))),(aT,(aU,(aV,(aW,aY))))];
some (aZ,aO,aP,()))else
bif(am==18)then((bL 4 an ap).bind λ(aq,av,ax,_)=>
let ay:=w64 (1+aq);
(ew 5 ay).bind λ(az,aA,aB,aD,aE,_)=>
(ew 4 1).bind λ(aF,aG,aH,aI,aJ,_)=>
let aK:=w64 (a2+2);
let aL:LDIn:=[(az,(aA,(aB,(aD,aE)))),(aF,(aG,(aH,(aI,aJ)))),(4,(5,(5,(4,0)))),(20,(5,(0,(0,aK))))];
some (aL,av,ax,()))else
let aq:=bQ a0.length;
(gx aq a1 an ap).bind λ(av,ax,ay,az,aA,aB,aD,_)=>
let aE:LDIn:=[(av,(ax,(ay,(az,aA))))];
some (aE,aB,aD,())
def vR:X.Cfg:=⟨E0,[d6,wv,jN,sV,xT,kI],[(156,(uaa KIn))],[]⟩
def p8:Ctr:=⟨40,12,[.ptr ⟨2,0,[]⟩ [0],shU RI,shU I64,shU I64],[(2,yab)],[⟨uL [fS],[.one],[(2,yab)]⟩],ap5 jB⟩
theorem vJ:Lk 6 p8:=ls vR (aC eD (aC Bp (aC lJ (aC xr (aC Dp (aC nR aN))))))
def ji:T12->Option (T12⊕(Int×Int×Bool×T0R)):=λ(v0,v1,v2,v3,v4,v5,v6,v7,v8,v9,_)=>
bif(decide (v1<v0))then((cT v1).bind λx0=>
(bS v8 x0).bind λx1=>
(bS v8 x0).bind λx2=>
(iV x2 v2 v3).bind λ(x3,x4,x5,_)=>
bif(cL 24 v9.length (List.length [x3]))then let x6:List LI:=(List.append v9 [x3]);
let x7:=w64 (v1+1);
some (.inl (v0,x7,x4,x5,v4,v5,v6,v7,v8,x6,()))else none)else
some (.inr (v0,v1,false,v2,v3,v4,v5,v6,v7,v8,v9,()))
def jh:T0U->Option (T0U⊕T0Z):=λ(v0,v1,v2,v3,v4,v5,v6,v7,v8,_)=>
bif(decide (v0>0))then((let x0:Int:=(bQ v6.length);
let x1:=w64 (x0+1);
let x2:=bQ v6.length;
(jB v7 x1 x2 v1 v2).bind λ(x3,x4,x5,_)=>
let x6:=bQ v6.length;
let x7:=bQ x3.length;
let x8:=w64 (x6+x7);
bif(decide (x8<=62))then(bif(cL 40 v6.length x3.length)then let x9:LDIn:=(List.append v6 x3);
some (v0,x4,x5,v3,v4,v5,x9,v7,v8,())else none)else
some (v0,x4,x5,v3,v4,v5,v6,v7,v8,()):Option (T0U)).bind λ(x0,x1,x2,x3,x4,x5,x6,x7,x8,_)=>
let x9:=w64 (x0-1);
some (.inl (x9,x1,x2,x3,x4,x5,x6,x7,x8,())))else
some (.inr (v0,false,v1,v2,v3,v4,v5,v6,v7,v8,()))
def dQ:T11->Option (T11⊕(Int×T0Z)):=λ(v0,v1,v2,v3,v4,v5,v6,v7,v8)=>
bif(decide (v1<v0))then(((cT v1).bind λx0=>
(bS v7 x0).bind λx1=>
(dh x1.1).bind λ(x2,_)=>
bif x2 then((cT v1).bind λx3=>
(bS v7 x3).bind λx4=>
let x5:=bQ v7.length;
bif(decide (x4.2.2.2.2>=x5))then((cT v1).bind λx6=>
(bS v7 x6).bind λx7=>
none)else
some (v0,v1,v2,v3,v4,v5,v6,v7,v8))else
some (v0,v1,v2,v3,v4,v5,v6,v7,v8):Option (T11)).bind λ(x0,x1,x2,x3,x4,x5,x6,x7,x8)=>
let ac:=w64 (x1+1);
some (.inl (x0,ac,x2,x3,x4,x5,x6,x7,x8)))else
some (.inr (v0,v1,false,v2,v3,v4,v5,v6,v7,v8))
def gp(a0:List (Int))(a1:Int):Option (LDIn×LI×LLI×T04):=
(iW a0 a1).bind λ(x0,x1,x2,_)=>
let x3:=bQ x0.length;
(bU ji NN (x3,0,x1,x2,(),(),(),(),x0,[],())).bind λ(x4,x5,x6,x7,x8,x9,ac,ae,af,ah)=>
(bL 12 x7 x8).bind λ(aj,ak,am,_)=>
let an:=w64 (1+aj);
(bU jh NN (an,ak,am,x9,ac,ae,[],ah)).bind λ(ap,aq,av,ax,ay,az,aA,aB,aD)=>
((bL 4 av ax).bind λ(aF,aG,aH,_)=>
bif(aF==0)then(let aI:Int:=(bQ aB.length);
let aJ:=w64 (aI+1);
(bL aJ aG aH).bind λ(aK,aL,aM,_)=>
let aO:LDIn:=[(18,(0,(0,(0,aK))))];
bif(cL 40 aB.length aO.length)then let aP:LDIn:=(List.append aB aO);
some (aL,aM,ay,az,aA,aP,aD)else none)else
bif(aF==1)then(let aI:LDIn:=[(24,(0,(0,(0,0))))];
bif(cL 40 aB.length aI.length)then let aJ:LDIn:=(List.append aB aI);
some (aG,aH,ay,az,aA,aJ,aD)else none)else
some (aG,aH,ay,az,aA,aB,aD):Option (T0Q)).bind λ(aF,aG,aH,aI,aJ,aK,aL,aM,_)=>
(bL 9 aF aG).bind λ(aO,aP,aQ,_)=>
(ew 0 aO).bind λ(aR,aS,aT,aU,aV,_)=>
(dZ 0).bind λ(aW,aY,aZ,ba,bc,_)=>
let bd:LDIn:=[(aR,(aS,(aT,(aU,aV)))),(aW,(aY,(aZ,(ba,bc))))];
bif(cL 40 aK.length bd.length)then let be:LDIn:=(List.append aK bd);
let bf:=bQ be.length;
bif(decide (bf>64))then(bif(iG 0 64 be.length)then let bg:LDIn:=(lO be 0 (Nat.sub 64 0));
let bh:=bQ bg.length;
(bU dQ NN (bh,0,aP,aQ,aH,aI,aJ,bg,aL,aM,())).bind λ(bi,bj,bk,bm,bn,bo,bp,bq,bt,bv,bx,_)=>
some (bt,bv,bx,bm,bn,())else none)else
let bg:=bQ be.length;
(bU dQ NN (bg,0,aP,aQ,aH,aI,aJ,be,aL,aM,())).bind λ(bh,bi,bj,bk,bm,bn,bo,bp,bq,bt,bv,_)=>
some (bq,bt,bv,bk,bm,())else none
def qC:X.Cfg:=⟨E0,[oq,oo,d6,p8,wv,sV,fi],[(24,(uaa CW)),(25,(uaa CW))],[(lx 4 0 [zaa 0,zaa 2,zaa 3,(13,.pk ⟨8,1,[]⟩ [0,0]),Uaa 14,Uaa 15] [(2,yab),(6,yad),(8,uL [N1,(uaa I64),(uaa (uaa CW))])] 16),⟨14,1,qE,[(.normal,qS [zaa 0,zaa 2,zaa 3,Uaa 6] [(2,yab),(6,yad),(8,uae)])]⟩,⟨11,2,qS [zaa 0,zaa 2,zaa 3,Uaa 6] [(2,yab),(6,yad),(8,uae)],[(.exit 2,qS [zaa 0,zaa 2,zaa 3,Uaa 6,Xaa 32] [(2,yab),(6,yad),(8,uae)])]⟩,⟨17,3,qE,[(.normal,qS [zaa 0,zaa 2,zaa 3] [(2,yab),(6,yad),(8,uae)])]⟩,⟨29,4,qE,[(.normal,qS [zaa 0,zaa 2,zaa 3,Uaa 101,Uaa 102] [(2,yab),(6,yad),(8,yae)])]⟩,⟨26,5,qS [zaa 0,zaa 2,zaa 3,Uaa 101,Uaa 102] [(2,yab),(6,yad),(8,yae)],[(.exit 5,qS [zaa 0,zaa 2,zaa 3,Uaa 101,Uaa 102,Xaa 103] [(2,yab),(6,yad),(8,yae)])]⟩]⟩
def lB:Ctr:=⟨12,13,[.ptr ⟨2,0,[]⟩ [0]],[(2,yab)],[⟨yae,[.agg 3],[(2,yab)]⟩],ap2 gp⟩
theorem qr:Lk 7 lB:=ls qC (aC ue (aC ud (aC eD (aC vJ (aC Bp (aC xr (aC gz aN)))))))
def kG:Ctr:=⟨32,14,[.agg uab],[],[⟨uL [(yaa .bool)],[.one],[]⟩],ap3 dO⟩
theorem py:Lvl E0 TT libB 1 kG:=(Ft (Gk rfl) nj).mono (by decide)
def mS:T0n->Option (T0n⊕((Bool×Unit)⊕(LI×LI×T06))):=λ(v0,v1,v2,v3,_)=>
bif(decide (v3<v2))then((cT v3).bind λx0=>
(bS v1 x0).bind λx1=>
bif(decide (x1<1))then(some (.inr (.inl (false,()))))else
bif(decide (x1>32))then(some (.inr (.inl (false,()))))else
let x2:=w64 (v3+1);
some (.inl (v0,v1,v2,x2,())))else
some (.inr (.inr (v0,v1,v2,v3,false,())))
def gg(a0:List (Int)):Option (Bool×Unit):=
let x0:=bQ a0.length;
(match bU mS NN (a0,a0,x0,0,())with
|none=>none
|some (.inl (x1,_))=>
some (x1,())
|some (.inr (x1,_))=>
let x6:=bQ x1.length;
bif(decide (x6>=1))then(let x7:Int:=(bQ x1.length);
some ((decide (x7<=4)),()))else
some (false,()))
def qu:X.Cfg:=⟨E0,[],[],[⟨3,0,qS [sP 0 RI,sP 5 RI,Uaa 6,Uaa 7] [],[(.ret,qS [Xaa 2] []),(.exit 0,qS [sP 0 RI,sP 5 RI,Uaa 6,Uaa 7,Xaa 8] [])]⟩]⟩
def je:Ctr:=⟨78,17,uL [RI],[],[⟨Xab,[.one],[]⟩],ap1 gg⟩
theorem lj:Lk 1 je:=ls qu aN
def jc(a0:Int):Option (T0e):=
(bif(a0==1)then(some (a0,true,false,false,false,false,()))else
bif(a0==15)then(some (a0,true,false,false,false,false,()))else
bif(a0==19)then(some (a0,true,false,false,false,false,()))else
bif(a0==20)then(some (a0,true,false,false,false,false,()))else
some (a0,(a0==21),false,false,false,false,()):Option (Int×Bool×T0e)).bind λ(x0,x1,_)=>
bif x1 then(some (true,false,false,true,()))else
bif(x0==2)then(some (true,true,false,false,()))else
bif(x0==16)then(some (true,true,false,true,()))else
bif(x0==17)then(some (true,true,false,true,()))else
bif(x0==18)then(some (false,false,false,true,()))else
bif(x0==23)then(some (false,false,false,true,()))else
bif(x0==22)then(some (true,false,false,false,()))else
bif(x0==0)then(some (false,false,false,false,()))else
bif(x0==24)then(some (false,false,false,false,()))else
some (true,true,true,false,())
def qz:X.Cfg:=⟨E0,[],[],[⟨3,0,qE,[(.normal,qS [zaa 2,Uaa 3,Xaa 4] [(6,uad)])]⟩]⟩
def ly:Ctr:=⟨100,18,yac,[],[⟨uad,[.agg 4],[]⟩],ap1 jc⟩
theorem qo:Lk 1 ly:=ls qz aN
def dy(a0:Bool)(a1:Int)(a2:Int):Option (Bool×Unit):=
bif(a1==0)then(some (true,()))else
bif a0 then(bif(decide (a1>0))then(some ((decide (a1<=a2)),()))else
some (false,()))else
some (false,())
def pG:X.Cfg:=⟨E0,[],[],[]⟩
def kH:Ctr:=⟨101,19,uL [.bool,I64,I64],[],[⟨Xab,[.one],[]⟩],ap3 dy⟩
theorem pz:Lk 1 kH:=ls pG aN
def gW(a0:Int):Option (Bool×Unit):=
bif(a0==18)then(some (true,()))else
bif(a0==19)then(some (true,()))else
bif(a0==20)then(some (true,()))else
some ((a0==21),())
def sF:X.Cfg:=⟨E0,[],[],[]⟩
def jM:Ctr:=⟨80,20,yac,[],[⟨Xab,[.one],[]⟩],ap1 gW⟩
theorem mj:Lk 1 jM:=ls sF aN
def iU(a0:Int):Option (Int×Unit):=
(gW a0).bind λ(x0,_)=>
bif x0 then(some (63,()))else
bif(a0==15)then(some (3,()))else
bif(a0==23)then(some (15,()))else
some (65535,())
def ux:X.Cfg:=⟨E0,[jM],[],[]⟩
def om:Ctr:=⟨102,21,yac,[],[⟨yac,[.one],[]⟩],ap1 iU⟩
theorem uc:Lk 2 om:=ls ux (aC mj aN)
def fH(a0:Int)(a1:Int)(a2:Int)(a3:Int)(a4:Int):Option (Bool×Unit):=
bif(decide (a0<0))then(some (false,()))else
bif(decide (a0>24))then(some (false,()))else
(jc a0).bind λ(x0,x1,x2,x3,_)=>
(dy x0 a1 7).bind λ(x4,_)=>
bif x4 then((dy x1 a2 7).bind λ(x5,_)=>
bif x5 then((dy x2 a3 7).bind λ(x6,_)=>
bif x6 then((iU a0).bind λ(x7,_)=>
(dy x3 a4 x7).bind λ(x8,_)=>
some (x8,()))else
some (false,()))else
some (false,()))else
some (false,())
def sE:X.Cfg:=⟨E0,[ly,kH,om],[],[]⟩
def jL:Ctr:=⟨79,22,[.agg uac],[],[⟨Xab,[.one],[]⟩],ap5 fH⟩
theorem mi:Lk 3 jL:=ls sE (aC qo (aC pz (aC uc aN)))
def jU:T0E->Option (T0E⊕((Int×Unit)⊕T0M)):=λ(v0,v1,v2,v3,v4,v5,_)=>
bif(decide (v2<v1))then((cT v2).bind λx0=>
(bS v0 x0).bind λx1=>
let x2:=bQ x1.length;
(cT v2).bind λx3=>
(bS v4 x3).bind λx4=>
bif(decide (x2>x4))then(some (.inr (.inl (1,()))))else
let x5:=w64 (v2+1);
some (.inl (v0,v1,x5,v3,v4,v5,())))else
some (.inr (.inr (v0,v1,v2,false,v3,v4,v5,())))
def dF:T0J->Option (T0J⊕((Int×Unit)⊕T0O)):=λ(v0,v1,v2,v3,v4,v5,v6,_)=>
bif(decide (v3<v2))then((match((cT v3).bind λx0=>
(bS v1 x0).bind λx1=>
(fH x1.1 x1.2.1 x1.2.2.1 x1.2.2.2.1 x1.2.2.2.2).bind λ(x2,_)=>
bif(!x2)then(some (.inl (5,())))else
((gW x1.1).bind λ(x3,_)=>
bif x3 then(let x4:Int:=(bQ v4.length);
bif(decide (x1.2.2.2.2>=x4))then(some (v0,v1,v2,v3,true,v4,v5,v6,()))else
bif(x1.1==15)then(let x5:Int:=(bQ v5.length);
some (v0,v1,v2,v3,(decide (x1.2.2.2.2>=x5)),v4,v5,v6,()))else
some (v0,v1,v2,v3,false,v4,v5,v6,()))else
bif(x1.1==15)then(let x4:Int:=(bQ v5.length);
some (v0,v1,v2,v3,(decide (x1.2.2.2.2>=x4)),v4,v5,v6,()))else
some (v0,v1,v2,v3,false,v4,v5,v6,()):Option (T0O)).bind λ(x3,x4,x5,x6,x7,x8)=>
bif x7 then(some (.inr (6,x4,x5,x6,x8)))else
some (.inr (x3,x4,x5,x6,x8)):Option ((Int×Unit)⊕T0J))with
|none=>none
|some (.inl (x0,_))=>
some (.inr (.inl (x0,())))
|some (.inr (x0,x1,x2,x3,x4,x5,x6,_))=>
let x7:=w64 (x3+1);
some (.inl (x0,x1,x2,x7,x4,x5,x6,()))))else
some (.inr (.inr (v0,v1,v2,v3,false,v4,v5,v6,())))
def gX(a0:LDIn)(a1:List (Int))(a2:List LI):Option (Int×Unit):=
(gg a1).bind λ(x0,_)=>
bif(!x0)then(some (1,()))else
let x1:=bQ a2.length;
let x2:=bQ a1.length;
bif(x1 != x2)then(some (1,()))else
let x3:=bQ a2.length;
(match bU jU NN (a2,x3,0,a0,a1,a2,())with
|none=>none
|some (.inl (x4,_))=>
some (x4,())
|some (.inr (x4,x5,x6,x7,x8,x9))=>
let ae:=bQ x8.length;
bif(ae==0)then(some (3,()))else
let af:=bQ x8.length;
bif(decide (af>64))then(some (3,()))else
let ah:=bQ x8.length;
(match bU dF NN (0,x8,ah,0,x8,x9)with
|none=>none
|some (.inl (ai,_))=>
some (ai,())
|some (.inr (ai,_))=>
some (ai,())))
def sG:X.Cfg:=⟨E0,[je,jL,jM],[],[⟨6,0,qS [zaa 1,sP 22 (yaa RW),Uaa 23,Uaa 24] [(4,uab)],[(.ret,qS [Uaa 2] []),(.exit 0,qS [zaa 1,sP 22 (yaa RW),Uaa 23,Uaa 24,Xaa 25] [(4,uab)])]⟩,⟨27,1,qE,[(.normal,qS [zaa 1,Uaa 5,sP 49 fS,Uaa 50,Uaa 51,Xaa 81] [(4,uab)])]⟩,⟨22,2,qE,[(.ret,qS [Uaa 2] []),(.normal,qS [zaa 1,Uaa 5,sP 49 fS,Uaa 50,Uaa 51] [(4,uab)])]⟩,⟨19,3,qS [zaa 1,Uaa 5,sP 49 fS,Uaa 50,Uaa 51] [(4,uab)],[(.ret,qS [Uaa 2] []),(.exit 2,qS [zaa 1,Uaa 5,sP 49 fS,Uaa 50,Uaa 51,Xaa 52] [(4,uab)])]⟩]⟩
def mL:Ctr:=⟨44,23,[.agg uab],[],[⟨yac,[.one],[]⟩],ap3 gX⟩
theorem sc:Lk 4 mL:=ls sG (aC lj (aC mi (aC mj aN)))
def fG(a0:LDIn)(a1:List (Int))(a2:List LI):Option (Int×Unit):=
(gX a0 a1 a2).bind λ(x0,_)=>
some (x0,())
def pF:X.Cfg:=⟨E0,[mL],[],[]⟩
def iD:Ctr:=⟨15,24,[.agg uab],[],[⟨yac,[.one],[]⟩],ap3 fG⟩
theorem kp:Lk 5 iD:=ls pF (aC sc aN)
def o7:LI×Int×T02->Option ((LI×Int×T02)⊕(LI×Int×Int×T00)):=λ(v0,v1,v2,v3,_)=>
bif(decide (v2<v1))then((cT v2).bind λx0=>
(bS v0 x0).bind λx1=>
let x2:Int:=(shR .shr .u16 x1 8);
let x3:=wk .u8 x2;
let x4:=wk .u8 x1;
let x5:List (Int):=[x3,x4];
bif(cL 1 v3.length x5.length)then let x6:List (Int):=(List.append v3 x5);
let x7:=w64 (v2+1);
some (.inl (v0,v1,x7,x6,()))else none)else
some (.inr (v0,v1,v2,false,v3,()))
def nD(a0:List (Int)):Option (LI×Unit):=
let x0:=bQ a0.length;
(bU o7 NN (a0,x0,0,[],())).bind λ(x1,x2,x3,x4,x5,_)=>
some (x5,())
def ug:X.Cfg:=⟨E0,[],[],[(lx 4 0 [Zaa 3 9,sP 6 RW,Uaa 7,Uaa 8] [(9,Xad)] 9)]⟩
def nZ:Ctr:=⟨62,25,uL [RW],[],[⟨Xad,[.one],[]⟩],ap1 nD⟩
theorem tV:Lk 1 nZ:=ls ug aN
def lf(a0:Int)(a1:Int)(a2:Int)(a3:Int)(a4:Int):Option (T04):=
(fH a0 a1 a2 a3 a4).bind λ(x0,_)=>
bif(!x0)then(some ([],1,()))else
let x1:=wk .u8 a0;
let x2:=wk .u8 a1;
let x3:=wk .u8 a2;
let x4:=wk .u8 a3;
let x5:Int:=(shR .shr .i64 a4 8);
let x6:=wk .u8 x5;
let x7:=wk .u8 a4;
let x8:List (Int):=[x1,x2,x3,x4,x6,x7];
some (x8,0,())
def qA:X.Cfg:=⟨E0,[jL],[],[]⟩
def lz:Ctr:=⟨63,26,[.agg uac],[],[⟨uL [(uaa CB),I64],[.one,.one],[]⟩],ap5 lf⟩
theorem qp:Lk 4 lz:=ls qA (aC mi aN)
def lF:LI×T0y->Option ((LI×T0y)⊕(LI×T0G)):=λ(v0,v1,v2,v3,v4,v5,v6,_)=>
bif(decide (v2<v1))then((cT v2).bind λx0=>
(bS v0 x0).bind λx1=>
let x2:=wk .u8 x1;
(cT v2).bind λx3=>
(bS v5 x3).bind λx4=>
let x5:=bQ x4.length;
let x6:=wk .u8 x5;
let x7:List (Int):=[x2,x6];
bif(cL 1 v6.length x7.length)then let x8:List (Int):=(List.append v6 x7);
(cT v2).bind λx9=>
(bS v5 x9).bind λac=>
(nD ac).bind λ(ae,_)=>
bif(cL 1 x8.length ae.length)then let af:List (Int):=(List.append x8 ae);
let ah:=w64 (v2+1);
some (.inl (v0,v1,ah,v3,v4,v5,af,()))else none else none)else
some (.inr (v0,v1,v2,false,v3,v4,v5,v6,()))
def lE:T0L->Option (T0L⊕(LDIn×T0G)):=λ(v0,v1,v2,v3,v4,v5,v6,_)=>
bif(decide (v2<v1))then((cT v2).bind λx0=>
(bS v0 x0).bind λx1=>
(lf x1.1 x1.2.1 x1.2.2.1 x1.2.2.2.1 x1.2.2.2.2).bind λ(x2,x3,_)=>
bif(cL 1 v6.length x2.length)then let x4:List (Int):=(List.append v6 x2);
let x5:=w64 (v2+1);
some (.inl (v0,v1,x5,v3,v4,v5,x4,()))else none)else
some (.inr (v0,v1,v2,false,v3,v4,v5,v6,()))
def jT(a0:LDIn)(a1:List (Int))(a2:List LI):Option (T04):=
(fG a0 a1 a2).bind λ(x0,_)=>
bif(x0 != 0)then(some ([],x0,()))else
let x1:=bQ a1.length;
let x2:=wk .u8 x1;
let x3:=bQ a1.length;
(bU lF NN (a1,x3,0,a0,a1,a2,[x2],())).bind λ(x4,x5,x6,x7,x8,x9,ac,ae,_)=>
let af:=bQ x8.length;
let ah:=wk .u8 af;
bif(cL 1 ae.length (List.length [ah]))then let ai:List (Int):=(List.append ae [ah]);
let aj:=bQ x8.length;
(bU lE NN (x8,aj,0,x8,x9,ac,ai,())).bind λ(ak,am,an,ap,aq,av,ax,ay,_)=>
some (ay,0,())else none
def oC:X.Cfg:=⟨E0,[iD,nZ,lz],[],[(lx 8 0 [zaa 1,Zaa 5 13,sP 23 RI,Uaa 24,Uaa 25] [(4,uab),(13,Xad)] 26),⟨17,1,qS [Zaa 5 13,sP 59 fS,Uaa 60,Uaa 61] [(4,uab),(13,Xad)],[(.exit 2,qS [Zaa 5 13,sP 59 fS,Uaa 60,Uaa 61,Xaa 62] [(4,uab),(13,Xad)])]⟩]⟩
def jW:Ctr:=⟨27,27,[.agg uab],[],[⟨uL [(uaa CB),I64],[.one,.one],[]⟩],ap3 jT⟩
theorem oB:Lk 6 jW:=ls oC (aC kp (aC tV (aC qp aN)))
def dm:T15->Option (T15⊕((Bool×Unit)⊕T1d)):=λ(v0,v1,v2,v3,v4,v5,v6,v7,v8,v9,_)=>
bif(decide (v7<v6))then((match((cT v7).bind λx0=>
(bS v8 x0).bind λx1=>
(cT v7).bind λx2=>
(bS v0 x2).bind λx3=>
let x4:=w64 (x1+x3);
bif(decide (v2<=x4))then((cT v7).bind λx5=>
(bS v8 x5).bind λx6=>
(cT v1).bind λx7=>
(bS v0 x7).bind λx8=>
let x9:=w64 (v2+x8);
bif(decide (x6<=x9))then(some (.inl (false,())))else
some (.inr (v0,v1,v2,v3,v4,v5,v6,v7,false,v8,v9,())))else
some (.inr (v0,v1,v2,v3,v4,v5,v6,v7,false,v8,v9,())):Option ((Bool×Unit)⊕T1d))with
|none=>none
|some (.inl (x0,_))=>
some (.inr (.inl (x0,())))
|some (.inr (x0,x1,x2,x3,x4,x5,x6,x7,x8,x9,ac,_))=>
let ae:=w64 (x7+1);
some (.inl (x0,x1,x2,x3,x4,x5,x6,ae,x9,ac,()))))else
some (.inr (.inr (v0,v1,v2,v3,v4,v5,v6,v7,false,v8,v9,())))
def dl:T0D->Option (T0D⊕((Bool×Unit)⊕(LI×T0C))):=λ(v0,v1,v2,v3,v4)=>
bif(decide (v3<v2))then((cT v3).bind λx0=>
(bS v1 x0).bind λx1=>
(bif(decide (x1<0))then(some (v0,v3,x1,v1,v2,v3,true,v4))else
bif(decide (x1>=512))then(some (v0,v3,x1,v1,v2,v3,true,v4))else
(cT v3).bind λx2=>
(bS v0 x2).bind λx3=>
let x4:=w64 (x1+x3);
some (v0,v3,x1,v1,v2,v3,(decide (x4>512)),v4):Option (T0X)).bind λ(x2,x3,x4,x5,x6,x7,x8,x9)=>
bif x8 then(some (.inr (.inl (false,()))))else
(match bU dm NN (x2,x3,x4,x5,x6,x7,x3,0,x9)with
|none=>none
|some (.inl (ae,_))=>
some (.inr (.inl (ae,())))
|some (.inr (ae,af,ah,ai,aj,ak,am,an,ap,aq))=>
let ax:=w64 (ak+1);
some (.inl (ae,ai,aj,ax,aq))))else
some (.inr (.inr (v0,v1,v2,v3,false,v4)))
def gn(a0:List (Int))(a1:Int)(a2:List (Int)):Option (Bool×Unit):=
(gg a2).bind λ(x0,_)=>
bif(!x0)then(some (false,()))else
let x1:=bQ a0.length;
let x2:=bQ a2.length;
bif(x1 != x2)then(some (false,()))else
let x3:=bQ a0.length;
(match bU dl NN (a2,a0,x3,0,a0,a1,())with
|none=>none
|some (.inl (x4,_))=>
some (x4,())
|some (.inr (x4,_))=>
some (true,()))
def qy:X.Cfg:=⟨E0,[je],[],[⟨12,0,qE,[(.normal,qS [sP 1 RI,zaa 2,Uaa 5,Uaa 6,sP 20 RI,Uaa 21,Uaa 22,Xaa 41] [(6,zab)])]⟩,⟨18,1,qE,[(.ret,qS [Xaa 4] []),(.normal,qS [sP 1 RI,zaa 2,Uaa 5,Uaa 6,sP 20 RI,Uaa 21,Uaa 22,Uaa 42,Uaa 43,Xaa 71] [(6,zab)])]⟩,⟨15,2,qS [sP 1 RI,zaa 2,Uaa 5,Uaa 6,sP 20 RI,Uaa 21,Uaa 22,Uaa 42,Uaa 43] [(6,zab)],[(.ret,qS [Xaa 4] []),(.exit 2,qS [sP 1 RI,zaa 2,Uaa 5,Uaa 6,sP 20 RI,Uaa 21,Uaa 22,Uaa 42,Uaa 43,Xaa 44] [(6,zab)])]⟩,⟨6,3,qS [sP 1 RI,zaa 2,sP 20 RI,Uaa 21,Uaa 22] [(6,zab)],[(.ret,qS [Xaa 4] []),(.exit 0,qS [sP 1 RI,zaa 2,sP 20 RI,Uaa 21,Uaa 22,Xaa 23] [(6,zab)])]⟩]⟩
def lw:Ctr:=⟨81,28,[.agg zab,shU RI],[],[⟨Xab,[.one],[]⟩],ap3 gn⟩
theorem qn:Lk 2 lw:=ls qy (aC lj aN)
def mT:T08->Option (T08⊕(Int×Int×Bool×LDLn×Unit)):=λ(v0,v1,v2,_)=>
bif(decide (v1<v0))then((cT v1).bind λx0=>
(bS v2 x0).bind λx1=>
(bS v2 x0).bind λx2=>
let x3:=(List.modify v2 x0 λe=>((-1),e.2));
let x4:=w64 (v1+1);
some (.inl (v0,x4,x3,())))else
some (.inr (v0,v1,false,v2,()))
def jb:Option (LDLn×Unit):=
bif(mc 4 4 3)then let x0:LDLn:=(List.replicate 4 (0,(false,[])));
let x1:=bQ x0.length;
(bU mT NN (x1,0,x0,())).bind λ(x2,x3,x4,x5,_)=>
some (x5,())else none
def qx:X.Cfg:=⟨E0,[],[(3,Hr)],[(lx 4 0 [Zaa 1 5,Uaa 5,Uaa 6] [(5,uL [lP])] 7)]⟩
def lu:Ctr:=⟨82,29,[],[],[⟨uL [lP],[.one],[]⟩],λh=>jb⟩
theorem qm:Lk 1 lu:=ls qx aN
def dN:LI×Int×Int×LDCe×Unit->Option ((LI×Int×Int×LDCe×Unit)⊕(LI×Int×Int×Bool×LDCe×Unit)):=λ(v0,v1,v2,v3,_)=>
bif(decide (v2<v1))then((cT v2).bind λx0=>
(bS v0 x0).bind λx1=>
let x2:LDCe:=[(0,x1)];
bif(cL 4 v3.length x2.length)then let x3:LDCe:=(List.append v3 x2);
let x4:=w64 (v2+1);
some (.inl (v0,v1,x4,x3,()))else none)else
some (.inr (v0,v1,v2,false,v3,()))
def gf(a0:List (Int)):Option (LDCe×Unit):=
let x0:=bQ a0.length;
(bU dN NN (a0,x0,0,[],())).bind λ(x1,x2,x3,x4,x5,_)=>
some (x5,())
def qt:X.Cfg:=⟨E0,[],[],[(lx 4 0 [Zaa 3 9,sP 6 RW,Uaa 7,Uaa 8] [(9,uL [(uaa KCe)])] 9)]⟩
def lp:Ctr:=⟨83,30,uL [RW],[],[⟨uL [(uaa KCe)],[.one],[]⟩],ap1 gf⟩
theorem qj:Lk 1 lp:=ls qt aN
def gJ:T1l->Option (T1l⊕((Int×Unit×Unit×Unit)⊕T1o)):=λ(v0,v1,v2,v3,v4,v5,v6,v7,v8,v9,v10,v11,_)=>
bif(decide (v2<v1))then((match((cT v2).bind λx0=>
(bS v0 x0).bind λx1=>
let x2:=bQ x1.length;
(cT v2).bind λx3=>
(bS v4 x3).bind λx4=>
bif(decide (x2>x4))then(some (.inl (1,(),(),())))else
(cT v2).bind λx5=>
(bS v6 x5).bind λx6=>
(cT x6).bind λx7=>
bif(iG x7 v10.length v10.length)then(gf x1).bind λ(x8,_)=>
bif(iG x7 (Nat.add x7 (Nat.min x8.length (Nat.sub v10.length x7))) v10.length)then bif(Nat.blt 0 (Nat.min x8.length (Nat.sub v10.length x7)))then(let x9:LDCe:=(ii v10 x7 (Nat.min x8.length (Nat.sub v10.length x7)) x8);
let ac:=(bQ (Nat.min x8.length (Nat.sub v10.length x7)));
some (.inr (v0,v1,v2,v3,v4,v5,v6,v7,v8,v9,x9,v11,())))else
let x9:=(bQ (Nat.min x8.length (Nat.sub v10.length x7)));
some (.inr (v0,v1,v2,v3,v4,v5,v6,v7,v8,v9,v10,v11,()))else none else none:Option ((Int×Unit×Unit×Unit)⊕T1l))with
|none=>none
|some (.inl (x0,x1,x2,_))=>
some (.inr (.inl (x0,x1,x2,())))
|some (.inr (x0,x1,x2,x3,x4,x5,x6,x7,x8,x9,ac,ae,_))=>
let af:=w64 (x2+1);
some (.inl (x0,x1,af,x3,x4,x5,x6,x7,x8,x9,ac,ae,()))))else
some (.inr (.inr (v0,v1,v2,false,v3,v4,v5,v6,v7,v8,v9,v10,v11,())))
def gT(a0:LDIn)(a1:List (Int))(a2:List LI)(a3:List (Int))(a4:Int):Option (LDCe×LDLn×Int×Unit):=
(gn a3 a4 a1).bind λ(x0,_)=>
bif(!x0)then(some ([],[],1,()))else
let x1:=bQ a2.length;
let x2:=bQ a1.length;
bif(x1 != x2)then(some ([],[],1,()))else
bif(mc 512 512 2)then let x3:LDCe:=(List.replicate 512 (0,0));
(jb).bind λ(x4,_)=>
let x5:=bQ a2.length;
(match bU gJ NN (a2,x5,0,a0,a1,a2,a3,a4,(),(),x3,x4,())with
|none=>none
|some (.inl (x6,x7,x8,_))=>
some ([],[],x6,())
|some (.inr (x6,x7,x8,x9,ac,ae,af,ah,ai,aj,ak,am,an,_))=>
some (am,an,0,()))else none
def sB:X.Cfg:=⟨E0,[lw,lu,lp],[],[⟨10,0,qE,[(.ret,qS [zaa 4,Uaa 5] [(10,Uad)]),(.normal,qS [zaa 2,zaa 3,zaa 4,zaa 6,sP 28 (yaa RW),Uaa 29,Uaa 30] [(6,uab),(8,zab),(10,Uad),(14,Xac)])]⟩,⟨7,1,qS [zaa 2,zaa 3,zaa 4,zaa 6,sP 28 (yaa RW),Uaa 29,Uaa 30] [(6,uab),(8,zab),(10,Uad),(14,Xac)],[(.ret,qS [zaa 4,Uaa 5] [(10,Uad)]),(.exit 0,qS [zaa 2,zaa 3,zaa 4,zaa 6,sP 28 (yaa RW),Uaa 29,Uaa 30,Xaa 31] [(6,uab),(8,zab),(10,Uad),(14,Xac)])]⟩]⟩
def mI:Ctr:=⟨47,31,[.agg uab,.agg zab],[],[⟨uL [(uaa KCe),lP,I64],[.agg 2,.one],[]⟩],ap5 gT⟩
theorem r8:Lk 3 mI:=ls sB (aC qn (aC qm (aC qj aN)))
def ej(a0:List (Int)):Option (LI×Unit):=
bif(cL 8 0 a0.length)then let x0:List (Int):=(List.append [] a0);
some (x0,())else none
def mp:X.Cfg:=⟨E0,[],[],[]⟩
def i8:Ctr:=⟨84,32,uL [RI],[],[⟨zad,[.one],[]⟩],ap1 ej⟩
theorem mf:Lk 1 i8:=ls mp aN
def gU(a0:List (Int))(a1:Int):Option (T04):=
(ej a0).bind λ(x0,_)=>
some (x0,a1,())
def sC:X.Cfg:=⟨E0,[i8],[],[]⟩
def mJ:Ctr:=⟨48,33,[.agg zab],[],[⟨Uae,[.agg 2],[]⟩],ap2 gU⟩
theorem r9:Lk 2 mJ:=ls sC (aC mf aN)
def lh:Option (T0N):=
bif(mc 8 8 2)then let x0:LDCe:=(List.replicate 8 (0,0));
some (0,x0,0,0,(-1),(-1),0,0,())else none
def qB:X.Cfg:=⟨E0,[],[],[]⟩
def lA:Ctr:=⟨49,34,[],[],[⟨uL [I64,(uaa KCe),I64,I64,I64,I64,I64,CW],[.agg 8],[]⟩],λh=>lh⟩
theorem qq:Lk 1 lA:=ls qB aN
def iT:T1a->Option (T1a⊕T1f):=λ(v0,v1,v2,v3,v4,v5,v6,v7,v8,v9,v10,_)=>
bif(decide (v0<4))then((lh).bind λ(x0,x1,x2,x3,x4,x5,x6,x7,_)=>
let x8:LDTh:=[(x0,(x1,(x2,(x3,(x4,(x5,(x6,x7)))))))];
bif(cL 80 v10.length x8.length)then let x9:LDTh:=(List.append v10 x8);
let ac:=w64 (v0+1);
some (.inl (ac,v1,v2,v3,v4,v5,v6,v7,v8,v9,x9,()))else none)else
some (.inr (v0,false,v1,v2,v3,v4,v5,v6,v7,v8,v9,v10,()))
def dp(a0:LDIn)(a1:List (Int))(a2:List LI)(a3:List (Int))(a4:Int):Option (LI×Int×LDCe×LDLn×LDTh×Int×Unit):=
(fG a0 a1 a2).bind λ(x0,_)=>
bif(x0 != 0)then(some ([],0,[],[],[],x0,()))else
(gT a0 a1 a2 a3 a4).bind λ(x1,x2,x3,_)=>
bif(x3 != 0)then(some ([],0,[],[],[],x3,()))else
(gU a3 a4).bind λ(x4,x5,_)=>
(bU iT NN (0,(),0,(),(),(),x4,x5,x1,x2,[],())).bind λ(x6,x7,x8,x9,ac,ae,af,ah,ai,aj,ak,am,_)=>
(bS am 0).bind λan=>
(bS am 0).bind λap=>
let aq:=List.modify am 0 λe=>(1,e.2);
some (ah,ai,aj,ak,aq,0,())
def pE:X.Cfg:=⟨E0,[iD,mI,mJ,lA],[(35,G8),(36,G8)],[(lx 12 0 [zaa 4,zaa 9,Uaa 30] [(10,zae),(20,uL [RI,CW,fY,iI,s6])] 31)]⟩
def iC:Ctr:=⟨17,35,[.agg uab,.agg zab],[],[⟨uL [RI,CW,fY,iI,s6,I64],[.agg 5,.one],[]⟩],ap5 dp⟩
theorem ko:Lk 6 iC:=ls pE (aC kp (aC r8 (aC r9 (aC qq aN))))
def gV:Option (Bool×Unit):=
let x0:LDIn:=[(0,(0,(0,(0,0))))];
(jT x0 [1] [[]]).bind λ(x1,x2,_)=>
(dp x0 [1] [[]] [3] 0).bind λ(x3,x4,x5,x6,x7,x8,_)=>
bif(x2==0)then(bif(x8==0)then(let x9:ByteArray:=(zE x1);
bif(Hm x9 (bytes [1,1,0,1,0,0,0,0,0,0]))then(let ac:Int:=(bQ x7.length);
bif(ac==4)then((bS x7 0).bind λae=>
(bS x7 0).bind λaf=>
bif(af.1==1)then((bS x7 1).bind λah=>
(bS x7 1).bind λai=>
some ((ai.1==0),()))else
some (false,()))else
some (false,()))else
some (false,()))else
some (false,()))else
some (false,())
def sD:X.Cfg:=⟨E0,[jW,iC],[(9,(uaa CW))],[]⟩
def mK:Ctr:=⟨10,36,[],[],[⟨Xab,[.one],[]⟩],λh=>gV⟩
theorem sb:Lk 7 mK:=ls sD (aC oB (aC ko aN))
def gI:T0n->Option (T0n⊕((Bool×Unit)⊕(LI×LI×T06))):=λ(v0,v1,v2,v3,_)=>
bif(decide (v3<v2))then((cT v3).bind λx0=>
(bS v1 x0).bind λx1=>
bif(decide (x1<1))then(some (.inr (.inl (false,()))))else
bif(decide (x1>32))then(some (.inr (.inl (false,()))))else
let x2:=w64 (v3+1);
some (.inl (v0,v1,v2,x2,())))else
some (.inr (.inr (v0,v1,v2,v3,false,())))
def df(a0:List (Int)):Option (Bool×Unit):=
let x0:=bQ a0.length;
(match bU gI NN (a0,a0,x0,0,())with
|none=>none
|some (.inl (x1,_))=>
some (x1,())
|some (.inr (x1,_))=>
let x6:=bQ x1.length;
bif(decide (x6>=1))then(let x7:Int:=(bQ x1.length);
some ((decide (x7<=4)),()))else
some (false,()))
def sy:X.Cfg:=⟨E0,[],[],[⟨3,0,qS [sP 0 RI,sP 5 RI,Uaa 6,Uaa 7] [],[(.ret,qS [Xaa 2] []),(.exit 0,qS [sP 0 RI,sP 5 RI,Uaa 6,Uaa 7,Xaa 8] [])]⟩]⟩
def g8:Ctr:=⟨45,38,uL [RI],[],[⟨Xab,[.one],[]⟩],ap1 df⟩
theorem jF:Lk 1 g8:=ls sy aN
def j3:T14->Option (T14⊕(LI×Int×Int×Int×Int×Int×Bool×T0o)):=λ(v0,v1,v2,v3,v4,v5,v6,v7,v8,v9,_)=>
bif(decide (v5<v4))then(let x0:Int:=(w64 (v5+v1));
bif(v2 != 0)then let x1:Int:=(Int.tmod x0 v2);
(cT x1).bind λx2=>
(bS v8 x2).bind λx3=>
(bS v8 x2).bind λx4=>
let x5:=List.modify v8 x2 λe=>v3;
(cT x1).bind λx6=>
(bS v0 x6).bind λx7=>
let x8:=w64 (x7+1);
let x9:=w64 (50*v2);
bif(x9 != 0)then let ac:Int:=(w64 (Int.tdiv v1 x9));
let ae:=Int.tmod ac 40;
let af:=w64 (x8+ae);
let ah:=w64 (v3+af);
let ai:=w64 (v5+1);
some (.inl (v0,v1,v2,ah,v4,ai,v6,v7,x5,v9,()))else none else none)else
some (.inr (v0,v1,v2,v3,v4,v5,false,v6,v7,v8,v9,()))
def iS(a0:List (Int))(a1:Int):Option (T0c):=
((df a0).bind λ(x0,_)=>
bif(!x0)then(some (a0,a1,true,(),0,()))else
bif(decide (a1<0))then(some (a0,a1,true,(),0,()))else
some (a0,a1,(decide (a1>1073741824)),(),0,()):Option (LI×Int×Bool×Unit×Int×Unit)).bind λ(x0,x1,x2,x3,x4,_)=>
bif x2 then(some ([],0,1,()))else
let x5:=bQ x0.length;
(cT x5).bind λx6=>
(cT x5).bind λx7=>
bif(mc x6 x7 1)then let x8:List (Int):=(List.replicate x6 0);
let x9:=w64 (40503*x1);
let ac:=wk .u16 x9;
bif(x5 != 0)then let ae:Int:=(w64 (Int.tdiv x1 x5));
let af:=Int.tmod ae 50;
let ah:=w64 (1+af);
(bU j3 NN (x0,x1,x5,ah,x5,0,x3,x4,x8,ac,())).bind λ(ai,aj,ak,am,an,ap,aq,av,ax,ay,az,_)=>
some (ay,az,0,())else none else none
def uv:X.Cfg:=⟨E0,[g8],[],[⟨2,0,qE,[(.normal,(qS [sP 0 RI,Uaa 1,zaa 4,Xaa 21] [(10,uL [N1,CW])]))]⟩,(lx 9 1 [sP 0 RI,Uaa 1,zaa 4,Uaa 6,zaa 7,Uaa 8,Uaa 36,Uaa 37] [(10,uL [N1,CW]),(16,Uae)] 38)]⟩
def oj:Ctr:=⟨20,39,yab,[],[⟨uL [(uaa I64),CW,I64],[.agg 2,.one],[]⟩],ap2 iS⟩
theorem ub:Lk 2 oj:=ls uv (aC jF aN)
def gY(a0:List (Int))(a1:List (Int))(a2:Int):Option (T0m):=
(bL 1048576 a1 a2).bind λ(x0,x1)=>
(iS a0 x0).bind λ(x3,x4,x5,_)=>
some (x3,x4,x1)
def sH:X.Cfg:=⟨E0,[d6,oj],[],[]⟩
def mM:Ctr:=⟨13,40,[.ptr ⟨2,0,[]⟩ [0],shU RI],[(2,yab)],[⟨Uae,[.agg 2],[(2,yab)]⟩],ap3 gY⟩
theorem se:Lk 4 mM:=ls sH (aC eD (aC ub aN))
def cI:T1h->Option (T1h⊕((Bool×Unit)⊕T1n)):=λ(v0,v1,v2,v3,v4,v5,v6,v7,v8,v9,v10,v11,_)=>
bif(decide (v1<v0))then((cT v1).bind λx0=>
(bS v11 x0).bind λx1=>
(bS v11 x0).bind λx2=>
(bif(decide (x2<0))then(some (v0,v1,true,v2,v3,v4,v5,v6,v7,v8,v9,v10,v11,()))else
bif(decide (x2>=8))then(some (v0,v1,true,v2,v3,v4,v5,v6,v7,v8,v9,v10,v11,()))else
(cT v1).bind λx3=>
bif(Nat.beq x3 0)then(bif(!v7)then(some (v0,v1,(x2 != 0),v2,v3,v4,v5,v6,v7,v8,v9,v10,v11,()))else
some (v0,v1,false,v2,v3,v4,v5,v6,v7,v8,v9,v10,v11,()))else
bif(Nat.beq x3 1)then(bif(!v8)then(some (v0,v1,(x2 != 0),v2,v3,v4,v5,v6,v7,v8,v9,v10,v11,()))else
some (v0,v1,false,v2,v3,v4,v5,v6,v7,v8,v9,v10,v11,()))else
bif(Nat.beq x3 2)then(bif(!v9)then(some (v0,v1,(x2 != 0),v2,v3,v4,v5,v6,v7,v8,v9,v10,v11,()))else
some (v0,v1,false,v2,v3,v4,v5,v6,v7,v8,v9,v10,v11,()))else
bif(Nat.beq x3 3)then bif(!v10)then(some (v0,v1,(x2 != 0),v2,v3,v4,v5,v6,v7,v8,v9,v10,v11,()))else
some (v0,v1,false,v2,v3,v4,v5,v6,v7,v8,v9,v10,v11,())else none:Option (T1n)).bind λ(x3,x4,x5,x6)=>
bif x5 then(some (.inr (.inl (false,()))))else
let ak:=w64 (x4+1);
some (.inl (x3,ak,x6)))else
some (.inr (.inr (v0,v1,false,v2,v3,v4,v5,v6,v7,v8,v9,v10,v11,())))
def eE(a0:Int)(a1:Int)(a2:Int)(a3:Int)(a4:Int):Option (Bool×Unit):=
bif(decide (a0<0))then(some (false,()))else
bif(decide (a0>24))then(some (false,()))else
(eo a0).bind λ(x0,x1,x2,x3,_)=>
let x4:List (Int):=[a1,a2,a3];
let x5:=bQ x4.length;
(match bU cI NN (x5,0,a0,a1,a2,a3,a4,x0,x1,x2,x3,x4,())with
|none=>none
|some (.inl (x6,_))=>
some (x6,())
|some (.inr (x6,x7,x8,x9,ac,ae,af,ah,ai,aj,ak,am,an,_))=>
(bif(decide (ah<0))then(some (true,x9,ac,ae,af,ah,()))else
bif(decide (ah>65535))then(some (true,x9,ac,ae,af,ah,()))else
bif(!am)then(some ((ah != 0),x9,ac,ae,af,ah,()))else
some (false,x9,ac,ae,af,ah,()):Option (Bool×T0r)).bind λ(ap,aq,av,ax,ay,az,_)=>
bif ap then(some (false,()))else
(dh aq).bind λ(aA,_)=>
bif aA then(some ((decide (az<64)),()))else
bif(aq==15)then(some ((decide (az<4)),()))else
bif(aq==23)then(some ((decide (az<=15)),()))else
some (true,()))
def sq:X.Cfg:=⟨E0,[kE,fi],[],[⟨12,0,qE,[(.normal,qS [zaa 1,zaa 3,Zaa 23 49,Uaa 24,Uaa 25,Xaa 45] [(4,uac),(8,uad),(49,zad)])]⟩,⟨7,1,qS [zaa 1,zaa 3,Zaa 23 49,Uaa 24,Uaa 25] [(4,uac),(8,uad),(49,zad)],[(.ret,qS [Xaa 2] []),(.exit 0,qS [zaa 1,zaa 3,Zaa 23 49,Uaa 24,Uaa 25,Xaa 26] [(4,uac),(8,uad),(49,zad)])]⟩,⟨15,2,qE,[(.normal,qS [zaa 1,Xaa 64] [(4,uac)])]⟩]⟩
def mE:Ctr:=⟨46,41,[.agg uac],[],[⟨Xab,[.one],[]⟩],ap5 eE⟩
theorem rY:Lk 2 mE:=ls sq (aC nP (aC gz aN))
def cH:T0E->Option (T0E⊕((Int×Unit)⊕T0M)):=λ(v0,v1,v2,v3,v4,v5,_)=>
bif(decide (v2<v1))then((cT v2).bind λx0=>
(bS v0 x0).bind λx1=>
let x2:=bQ x1.length;
(cT v2).bind λx3=>
(bS v4 x3).bind λx4=>
bif(decide (x2>x4))then(some (.inr (.inl (1,()))))else
let x5:=w64 (v2+1);
some (.inl (v0,v1,x5,v3,v4,v5,())))else
some (.inr (.inr (v0,v1,v2,false,v3,v4,v5,())))
def cN:T0B->Option (T0B⊕((Int×Unit)⊕T0K)):=λ(v0,v1,v2,v3)=>
bif(decide (v2<v1))then((cT v2).bind λx0=>
(bS v0 x0).bind λx1=>
(eE x1.1 x1.2.1 x1.2.2.1 x1.2.2.2.1 x1.2.2.2.2).bind λ(x2,_)=>
bif(!x2)then(some (.inr (.inl (5,()))))else
let x3:=w64 (v2+1);
some (.inl (v0,v1,x3,v3)))else
some (.inr (.inr (v0,v1,v2,false,v3)))
def cM:T0B->Option (T0B⊕((Int×Unit)⊕T0K)):=λ(v0,v1,v2,v3,v4,v5,_)=>
bif(decide (v2<v1))then((cT v2).bind λx0=>
(bS v0 x0).bind λx1=>
((dh x1.1).bind λ(x2,_)=>
bif x2 then(let x3:Int:=(bQ v3.length);
bif(decide (x1.2.2.2.2>=x3))then(some (v0,v1,v2,true,v3,v4,v5,()))else
bif(x1.1==15)then(let x4:Int:=(bQ v4.length);
some (v0,v1,v2,(decide (x1.2.2.2.2>=x4)),v3,v4,v5,()))else
some (v0,v1,v2,false,v3,v4,v5,()))else
bif(x1.1==15)then(let x3:Int:=(bQ v4.length);
some (v0,v1,v2,(decide (x1.2.2.2.2>=x3)),v3,v4,v5,()))else
some (v0,v1,v2,false,v3,v4,v5,()):Option (T0K)).bind λ(x2,x3,x4,x5,x6)=>
bif x5 then(some (.inr (.inl (6,()))))else
let x9:=w64 (x4+1);
some (.inl (x2,x3,x9,x6)))else
some (.inr (.inr (v0,v1,v2,false,v3,v4,v5,())))
def dY(a0:LDIn)(a1:List (Int))(a2:List LI):Option (Int×Unit):=
(df a1).bind λ(x0,_)=>
bif(!x0)then(some (1,()))else
let x1:=bQ a2.length;
let x2:=bQ a1.length;
bif(x1 != x2)then(some (1,()))else
let x3:=bQ a2.length;
(match bU cH NN (a2,x3,0,a0,a1,a2,())with
|none=>none
|some (.inl (x4,_))=>
some (x4,())
|some (.inr (x4,x5,x6,x7,x8,x9))=>
let ae:=bQ x8.length;
bif(decide (ae<1))then(some (3,()))else
let af:=bQ x8.length;
bif(decide (af>64))then(some (3,()))else
let ah:=bQ x8.length;
(match bU cN NN (x8,ah,0,x8,x9)with
|none=>none
|some (.inl (ai,_))=>
some (ai,())
|some (.inr (ai,aj,ak,am,an,ap))=>
let av:=bQ an.length;
(match bU cM NN (an,av,0,an,ap)with
|none=>none
|some (.inl (ax,_))=>
some (ax,())
|some (.inr (ax,_))=>
some (0,()))))
def so:X.Cfg:=⟨E0,[g8,mE,fi],[],[⟨6,0,qS [zaa 1,sP 23 (yaa RW),Uaa 24,Uaa 25] [(4,uab)],[(.ret,qS [Uaa 2] []),(.exit 0,qS [zaa 1,sP 23 (yaa RW),Uaa 24,Uaa 25,Xaa 26] [(4,uab)])]⟩,⟨18,1,qS [zaa 1,sP 50 fS,Uaa 51,Uaa 52] [(4,uab)],[(.ret,qS [Uaa 2] []),(.exit 2,qS [zaa 1,sP 50 fS,Uaa 51,Uaa 52,Xaa 53] [(4,uab)])]⟩,⟨32,2,qE,[(.normal,qS [zaa 1,sP 61 fS,Uaa 62,Uaa 63,Xaa 90] [(4,uab)])]⟩,⟨27,3,qS [zaa 1,sP 61 fS,Uaa 62,Uaa 63] [(4,uab)],[(.ret,qS [Uaa 2] []),(.exit 4,qS [zaa 1,sP 61 fS,Uaa 62,Uaa 63,Xaa 64] [(4,uab)])]⟩]⟩
def mD:Ctr:=⟨16,42,[.agg uab],[],[⟨yac,[.one],[]⟩],ap3 dY⟩
theorem rX:Lk 3 mD:=ls so (aC jF (aC rY (aC gz aN)))
def cP:T1e->Option (T1e⊕((Bool×Unit)⊕T1j)):=λ(v0,v1,v2,v3,v4,v5,v6,v7,v8,v9)=>
bif(decide (v8<v7))then((match((cT v8).bind λx0=>
(bS v6 x0).bind λx1=>
(cT v1).bind λx2=>
(bS v0 x2).bind λx3=>
let x4:=w64 (v2+x3);
bif(decide (x4>=x1))then((cT v8).bind λx5=>
(bS v0 x5).bind λx6=>
let x7:=w64 (x1+x6);
bif(decide (x7>=v2))then(some (.inl (false,())))else
some (.inr (v0,v1,v2,v3,v4,v5,v6,v7,v8,false,v9)))else
some (.inr (v0,v1,v2,v3,v4,v5,v6,v7,v8,false,v9)):Option ((Bool×Unit)⊕T1j))with
|none=>none
|some (.inl (x0,_))=>
some (.inr (.inl (x0,())))
|some (.inr (x0,x1,x2,x3,x4,x5,x6,x7,x8,x9,ac))=>
let af:=w64 (x8+1);
some (.inl (x0,x1,x2,x3,x4,x5,x6,x7,af,ac))))else
some (.inr (.inr (v0,v1,v2,v3,v4,v5,v6,v7,v8,false,v9)))
def cO:T0D->Option (T0D⊕((Bool×Unit)⊕(LI×T0C))):=λ(v0,v1,v2,v3,v4,v5,_)=>
bif(decide (v3<v2))then((cT v3).bind λx0=>
(bS v1 x0).bind λx1=>
bif(decide (x1<0))then(some (.inr (.inl (false,()))))else
(cT v3).bind λx2=>
(bS v0 x2).bind λx3=>
let x4:=w64 (512-x3);
bif(decide (x1>x4))then(some (.inr (.inl (false,()))))else
(cT v3).bind λx5=>
bif(iG 0 x5 v4.length)then let x6:List (Int):=(lO v4 0 (Nat.sub x5 0));
let x7:=bQ x6.length;
(match bU cP NN (v0,v3,x1,v1,v2,v3,x6,x7,0,v4,v5,())with
|none=>none
|some (.inl (x8,_))=>
some (.inr (.inl (x8,())))
|some (.inr (x8,x9,ac,ae,af,ah,ai,aj,ak,am,an))=>
let aq:=w64 (ah+1);
some (.inl (x8,ae,af,aq,an)))else none)else
some (.inr (.inr (v0,v1,v2,v3,false,v4,v5,())))
def de(a0:List (Int))(a1:Int)(a2:List (Int)):Option (Bool×Unit):=
(df a2).bind λ(x0,_)=>
bif(!x0)then(some (false,()))else
let x1:=bQ a0.length;
let x2:=bQ a2.length;
bif(x1 != x2)then(some (false,()))else
let x3:=bQ a0.length;
(match bU cO NN (a2,a0,x3,0,a0,a1,())with
|none=>none
|some (.inl (x4,_))=>
some (x4,())
|some (.inr (x4,_))=>
some (true,()))
def sx:X.Cfg:=⟨E0,[g8],[],[⟨18,0,qE,[(.ret,qS [Xaa 4] []),(.normal,qS [sP 1 RI,zaa 2,Uaa 5,Uaa 6,sP 21 RI,Uaa 22,Uaa 23,sP 42 RI,Uaa 43,Uaa 44,Xaa 66] [(6,zab)])]⟩,⟨15,1,qS [sP 1 RI,zaa 2,Uaa 5,Uaa 6,sP 21 RI,Uaa 22,Uaa 23,sP 42 RI,Uaa 43,Uaa 44] [(6,zab)],[(.ret,qS [Xaa 4] []),(.exit 2,qS [sP 1 RI,zaa 2,Uaa 5,Uaa 6,sP 21 RI,Uaa 22,Uaa 23,sP 42 RI,Uaa 43,Uaa 44,Xaa 45] [(6,zab)])]⟩,⟨6,2,qS [sP 1 RI,zaa 2,sP 21 RI,Uaa 22,Uaa 23] [(6,zab)],[(.ret,qS [Xaa 4] []),(.exit 0,qS [sP 1 RI,zaa 2,sP 21 RI,Uaa 22,Uaa 23,Xaa 24] [(6,zab)])]⟩]⟩
def mH:Ctr:=⟨50,43,[.agg zab,shU RI],[],[⟨Xab,[.one],[]⟩],ap3 de⟩
theorem r7:Lk 2 mH:=ls sx (aC jF aN)
def fE(a0:Int)(a1:Int):Option (Bool×Unit):=
some ((decide (a0<=2)),())
def sA:X.Cfg:=⟨E0,[],[],[]⟩
def jK:Ctr:=⟨88,44,[.agg Uab],[],[⟨Xab,[.one],[]⟩],ap2 fE⟩
theorem mh:Lk 1 jK:=ls sA aN
def gj:T0a->Option (T0a⊕((Bool×Unit)⊕(LDCe×T06))):=λ(v0,v1,v2,_)=>
bif(decide (v2<v1))then((cT v2).bind λx0=>
(bS v0 x0).bind λx1=>
(fE x1.1 x1.2).bind λ(x2,_)=>
bif(!x2)then(some (.inr (.inl (false,()))))else
let x3:=w64 (v2+1);
some (.inl (v0,v1,x3,())))else
some (.inr (.inr (v0,v1,v2,false,())))
def ig(a0:LDCe):Option (Bool×Unit):=
let x0:=bQ a0.length;
(match bU gj NN (a0,x0,0,())with
|none=>none
|some (.inl (x1,_))=>
some (x1,())
|some (.inr (x1,_))=>
some (true,()))
def vP:X.Cfg:=⟨E0,[jK],[],[⟨3,0,qS [sP 5 fY,Uaa 6,Uaa 7] [],[(.ret,qS [Xaa 2] []),(.exit 0,qS [sP 5 fY,Uaa 6,Uaa 7,Xaa 8] [])]⟩]⟩
def p6:Ctr:=⟨87,45,uL [fY],[],[⟨Xab,[.one],[]⟩],ap1 ig⟩
theorem vH:Lk 2 p6:=ls vP (aC mh aN)
def eY:LDLn×T0g->Option ((LDLn×T0g)⊕((Bool×Unit)⊕(LDLn×Int×Int×Bool×T03))):=λ(v0,v1,v2,v3)=>
bif(decide (v2<v1))then((cT v2).bind λx0=>
(bS v0 x0).bind λx1=>
bif(x1.1==(-1))then(bif x1.2.1 then(some (.inr (.inl (false,()))))else
let x2:=bQ x1.2.2.length;
bif(decide (x2>0))then(some (.inr (.inl (false,()))))else
let x3:=w64 (v2+1);
some (.inl (v0,v1,x3,v3)))else
(bif(decide (x1.1<0))then(some (v0,v1,v2,true,v3))else
bif(decide (x1.1>=128))then(some (v0,v1,v2,true,v3))else
let x2:=Int.tmod x1.1 4;
bif(x2 != v2)then(some (v0,v1,v2,true,v3))else
let x3:=bQ x1.2.2.length;
bif(x3 != 4)then(some (v0,v1,v2,true,v3))else
(ig x1.2.2).bind λ(x4,_)=>
some (v0,v1,v2,(!x4),v3):Option (LDLn×Int×Int×Bool×T03)).bind λ(x2,x3,x4,x5,x6)=>
bif x5 then(some (.inr (.inl (false,()))))else
let x8:=w64 (x4+1);
some (.inl (x2,x3,x8,x6)))else
some (.inr (.inr (v0,v1,v2,false,v3)))
def gR(a0:LDCe)(a1:LDLn):Option (Bool×Unit):=
(let x0:=bQ a0.length;
bif(x0 != 512)then(some (true,a0,a1,()))else
let x1:=bQ a1.length;
bif(x1 != 4)then(some (true,a0,a1,()))else
(ig a0).bind λ(x2,_)=>
some ((!x2),a0,a1,()):Option (Bool×T03)).bind λ(x0,x1,x2,_)=>
bif x0 then(some (false,()))else
let x3:=bQ x2.length;
(match bU eY NN (x2,x3,0,x1,x2,())with
|none=>none
|some (.inl (x4,_))=>
some (x4,())
|some (.inr (x4,_))=>
some (true,()))
def sw:X.Cfg:=⟨E0,[p6],[],[⟨2,0,qE,[(.normal,qS [zaa 1,Xaa 20] [(4,zac)])]⟩,⟨16,1,qE,[(.normal,qS [sP 22 iI,Uaa 23,Uaa 24,Xaa 66] [(4,zac)])]⟩,⟨6,2,qS [sP 22 iI,Uaa 23,Uaa 24] [(4,zac)],[(.ret,qS [Xaa 2] []),(.exit 0,qS [sP 22 iI,Uaa 23,Uaa 24,Xaa 25] [(4,zac)])]⟩]⟩
def mG:Ctr:=⟨56,46,[.agg zac],[],[⟨Xab,[.one],[]⟩],ap2 gR⟩
theorem r6:Lk 3 mG:=ls sw (aC vH aN)
def eX:T1b->Option (T1b⊕((Bool×Unit)⊕(LDCe×Int×Int×Bool×T0N))):=λ(v0,v1,v2,v3)=>
bif(decide (v2<v1))then((cT v2).bind λx0=>
(bS v0 x0).bind λx1=>
(fE x1.1 x1.2).bind λ(x2,_)=>
bif(!x2)then(some (.inr (.inl (false,()))))else
let x3:=w64 (v2+1);
some (.inl (v0,v1,x3,v3)))else
some (.inr (.inr (v0,v1,v2,false,v3)))
def gP(a0:Int)(a1:LDCe)(a2:Int)(a3:Int)(a4:Int)(a5:Int)(a6:Int)(a7:Int):Option (Bool×Unit):=
let x0:=bQ a1.length;
(match bU eX NN (a1,x0,0,a0,a1,a2,a3,a4,a5,a6,a7,())with
|none=>none
|some (.inl (x1,_))=>
some (x1,())
|some (.inr (x1,x2,x3,x4,x5,x6,x7,x8,x9,ac,ae,af,_))=>
bif(decide (x5>=0))then(bif(decide (x5<=4))then(let ah:Int:=(bQ x6.length);
bif(ah==8)then(bif(decide (x7>=0))then(bif(decide (x7<=255))then(bif(decide (x8>=0))then(bif(decide (x8<=1099511627776))then(bif(decide (x9>=(-1)))then(bif(decide (x9<=255))then(bif(decide (ac>=(-1)))then(bif(decide (ac<=255))then(bif(decide (ae>=0))then(some ((decide (ae<=6)),()))else
some (false,()))else
some (false,()))else
some (false,()))else
some (false,()))else
some (false,()))else
some (false,()))else
some (false,()))else
some (false,()))else
some (false,()))else
some (false,()))else
some (false,()))else
some (false,()))
def sm:X.Cfg:=⟨E0,[jK],[],[⟨3,0,qS [zaa 1,sP 6 fY,Uaa 7,Uaa 8] [(4,Zad)],[(.ret,qS [Xaa 2] []),(.exit 0,qS [zaa 1,sP 6 fY,Uaa 7,Uaa 8,Xaa 9] [(4,Zad)])]⟩]⟩
def mB:Ctr:=⟨57,47,[.agg Zad],[],[⟨Xab,[.one],[]⟩],ap8 gP⟩
theorem rV:Lk 2 mB:=ls sm (aC mh aN)
def gG:T0P->Option (T0P⊕((Bool×Unit)⊕(LDTh×Int×Int×Bool×T0u))):=λ(v0,v1,v2,v3)=>
bif(decide (v2<v1))then((cT v2).bind λx0=>
(bS v0 x0).bind λx1=>
(gP x1.1 x1.2.1 x1.2.2.1 x1.2.2.2.1 x1.2.2.2.2.1 x1.2.2.2.2.2.1 x1.2.2.2.2.2.2.1 x1.2.2.2.2.2.2.2).bind λ(x2,_)=>
bif(!x2)then(some (.inr (.inl (false,()))))else
let x3:=w64 (v2+1);
some (.inl (v0,v1,x3,v3)))else
some (.inr (.inr (v0,v1,v2,false,v3)))
def gO(a0:LDIn)(a1:List (Int))(a2:List LI)(a3:List (Int))(a4:Int)(a5:LDCe)(a6:LDLn)(a7:LDTh):Option (Bool×Unit):=
((dY a0 a1 a2).bind λ(x0,_)=>
bif(x0 != 0)then(some (true,a3,a4,a5,a6,a7,()))else
(de a3 a4 a1).bind λ(x1,_)=>
bif(!x1)then(some (true,a3,a4,a5,a6,a7,()))else
(gR a5 a6).bind λ(x2,_)=>
bif(!x2)then(some (true,a3,a4,a5,a6,a7,()))else
let x3:=bQ a7.length;
some ((x3 != 4),a3,a4,a5,a6,a7,()):Option (Bool×T0u)).bind λ(x0,x1,x2,x3,x4,x5,_)=>
bif x0 then(some (false,()))else
let x6:=bQ x5.length;
(match bU gG NN (x5,x6,0,x1,x2,x3,x4,x5,())with
|none=>none
|some (.inl (x7,_))=>
some (x7,())
|some (.inr (x7,_))=>
some (true,()))
def sj:X.Cfg:=⟨E0,[mD,mH,mG,mB],[],[⟨2,0,qE,[(.normal,qS [zaa 3,Xaa 29] [(8,Zab)])]⟩,⟨6,1,qS [sP 31 nA,Uaa 32,Uaa 33] [(8,Zab)],[(.ret,qS [Xaa 4] []),(.exit 0,qS [sP 31 nA,Uaa 32,Uaa 33,Xaa 34] [(8,Zab)])]⟩]⟩
def mz:Ctr:=⟨22,48,[.agg uab,.agg Zab],[],[⟨Xab,[.one],[]⟩],ap8 gO⟩
theorem rT:Lk 4 mz:=ls sj (aC rX (aC r7 (aC r6 (aC rV aN))))
def eu:T0W->Option (T0W⊕(LDLn×Int×Int×Bool×T0A)):=λ(v0,v1,v2,v3,v4,v5,v6,v7,v8,_)=>
bif(decide (v2<v1))then((cT v2).bind λx0=>
(bS v0 x0).bind λx1=>
bif(cL 4 0 x1.2.2.length)then let x2:LDCe:=(List.append [] x1.2.2);
let x3:LDLn:=[(x1.1,(x1.2.1,x2))];
bif(cL 40 v8.length x3.length)then let x4:LDLn:=(List.append v8 x3);
let x5:=w64 (v2+1);
some (.inl (v0,v1,x5,v3,v4,v5,v6,v7,x4,()))else none else none)else
some (.inr (v0,v1,v2,false,v3,v4,v5,v6,v7,v8,()))
def iQ(a0:LDCe)(a1:LDLn):Option (T03):=
bif(cL 4 0 a0.length)then let x0:LDCe:=(List.append [] a0);
let x1:=bQ a1.length;
(bU eu NN (a1,x1,0,a0,a1,(),(),x0,[],())).bind λ(x2,x3,x4,x5,x6,x7,x8,x9,ac)=>
some (ac)else none
def ut:X.Cfg:=⟨E0,[],[(24,Hr),(25,Hr)],[(lx 4 0 [zaa 2,zaa 3,sP 11 iI,Uaa 12,Uaa 13] [(4,zac),(6,Uad),(8,Xac)] 14)]⟩
def oh:Ctr:=⟨93,49,[.agg zac],[],[⟨Xac,[.agg 2],[]⟩],ap2 iQ⟩
theorem t8:Lk 1 oh:=ls ut aN
def en:T1u->Option (T1u⊕(LDTh×Int×Int×Bool×T1q)):=λ(v0,v1,v2,v3,v4,v5,v6,v7,v8,v9,v10,v11,v12,v13,v14,v15,v16,v17,_)=>
bif(decide (v2<v1))then((cT v2).bind λx0=>
(bS v0 x0).bind λx1=>
bif(cL 4 0 x1.2.1.length)then let x2:LDCe:=(List.append [] x1.2.1);
let x3:LDTh:=[(x1.1,(x2,(x1.2.2.1,(x1.2.2.2.1,(x1.2.2.2.2.1,(x1.2.2.2.2.2.1,(x1.2.2.2.2.2.2.1,x1.2.2.2.2.2.2.2)))))))];
bif(cL 80 v17.length x3.length)then let x4:LDTh:=(List.append v17 x3);
let x5:=w64 (v2+1);
some (.inl (v0,v1,x5,v3,v4,v5,v6,v7,v8,v9,v10,v11,v12,v13,v14,v15,v16,x4,()))else none else none)else
some (.inr (v0,v1,v2,false,v3,v4,v5,v6,v7,v8,v9,v10,v11,v12,v13,v14,v15,v16,v17,()))
def iN(a0:List (Int))(a1:Int)(a2:LDCe)(a3:LDLn)(a4:LDTh):Option (T0u):=
bif(cL 8 0 a0.length)then let x0:List (Int):=(List.append [] a0);
(iQ a2 a3).bind λ(x1,x2,_)=>
let x3:=bQ a4.length;
(bU en NN (a4,x3,0,a0,a1,a2,a3,a4,(),0,(),(),(),x0,a1,x1,x2,[],())).bind λ(x4,x5,x6,x7,x8,x9,ac,ae,af,ah,ai,aj,ak,am,an)=>
some (an)else none
def um:X.Cfg:=⟨E0,[oh],[(32,G8),(33,G8)],[(lx 4 0 [zaa 2,zaa 3,sP 19 nA,Uaa 20,Uaa 21] [(4,Zab),(6,zae),(8,Uac)] 22)]⟩
def oe:Ctr:=⟨75,50,[.agg Zab],[],[⟨Uac,[.agg 5],[]⟩],ap5 iN⟩
theorem tZ:Lk 2 oe:=ls um (aC t8 aN)
def cE(a0:Nat)(a1:Int)(a2:LDTh):Option (Int×LDTh×Unit):=
(bS a2 a0).bind λx0=>
let x1:=List.modify a2 a0 λe=>(4,e.2);
(bS x1 a0).bind λx2=>
let x3:=(List.modify x1 a0 λe=>(e.1,(e.2.1,(e.2.2.1,(e.2.2.2.1,(e.2.2.2.2.1,(e.2.2.2.2.2.1,(a1,e.2.2.2.2.2.2.2))))))));
(bS x3 a0).bind λx4=>
let x5:=(List.modify x3 a0 λe=>(e.1,(e.2.1,(e.2.2.1,(e.2.2.2.1,(e.2.2.2.2.1,(e.2.2.2.2.2.1,(e.2.2.2.2.2.2.1,0))))))));
some (2,x5,())
def uh:X.Cfg:=⟨E0,[],[],[]⟩
def oa:Ctr:=⟨94,51,[.ptr ⟨2,0,[((),(8,0))]⟩ [0,0],shU I64],[(2,uL [s6])],[⟨yac,[.one],[(2,uL [s6])]⟩],ap3 cE⟩
theorem tW:Lk 1 oa:=ls uh aN
def ch:T0Y->Option (T0Y⊕((Bool×T01)⊕(LI×T0T))):=λ(v0,v1,v2,v3,v4,v5)=>
bif(decide (v4<v3))then((match((cT v4).bind λx0=>
(bS v2 x0).bind λx1=>
bif(decide (v1>=x1))then((cT v4).bind λx2=>
(bS v0 x2).bind λx3=>
let x4:=w64 (x1+x3);
bif(decide (v1<x4))then(let x5:Int:=(w64 (v1-x1));
some (.inl (true,v4,x5,())))else
some (.inr (v0,v1,v4,x1,v2,v3,v4,false,v5)))else
some (.inr (v0,v1,v4,x1,v2,v3,v4,false,v5)):Option ((Bool×T01)⊕(LI×Int×Int×T0T)))with
|none=>none
|some (.inl (x0,x1,x2,_))=>
some (.inr (.inl (x0,x1,x2,())))
|some (.inr (x0,x1,x2,x3,x4,x5,x6,x7,x8))=>
let af:=w64 (x6+1);
some (.inl (x0,x1,x4,x5,af,x8))))else
some (.inr (.inr (v0,v1,v2,v3,v4,false,v5)))
def cY(a0:List (Int))(a1:Int)(a2:List (Int))(a3:Int):Option (T06):=
let x0:=bQ a0.length;
(match bU ch NN (a2,a3,a0,x0,0,a0,a1,0,0,())with
|none=>none
|some (.inl (x1,x2,x3,_))=>
some (x2,x3,x1,())
|some (.inr (x1,x2,x3,_))=>
some (0,0,false,()))
def pD:X.Cfg:=⟨E0,[],[],[⟨6,0,qE,[(.ret,qS [zaa 6,Xaa 7] [(14,Zac)]),(.normal,qS [sP 1 RI,Uaa 2,zaa 6,Uaa 8,Uaa 9,sP 11 RI,Uaa 12,Uaa 13,Xaa 30] [(8,zab),(14,Zac)])]⟩,⟨3,1,qS [sP 1 RI,Uaa 2,zaa 6,sP 11 RI,Uaa 12,Uaa 13] [(8,zab),(14,Zac)],[(.ret,qS [zaa 6,Xaa 7] [(14,Zac)]),(.exit 0,qS [sP 1 RI,Uaa 2,zaa 6,sP 11 RI,Uaa 12,Uaa 13,Xaa 14] [(8,zab),(14,Zac)])]⟩]⟩
def iB:Ctr:=⟨90,52,[.agg zab,shU RI,shU I64],[],[⟨uL [I64,I64,.bool],[.agg 2,.one],[]⟩],ap4 cY⟩
theorem km:Lk 1 iB:=ls pD aN
def gl(a0:List (Int))(a1:Int)(a2:Int):Option (Bool×Unit):=
bif(decide (a1>=0))then(let x0:Int:=(bQ a0.length);
bif(decide (a1<x0))then(bif(decide (a2>=0))then((cT a1).bind λx1=>
(bS a0 x1).bind λx2=>
some ((decide (a2<x2)),()))else
some (false,()))else
some (false,()))else
some (false,())
def qw:X.Cfg:=⟨E0,[],[],[]⟩
def lr:Ctr:=⟨105,53,[shU RI,.agg Zac],[],[⟨Xab,[.one],[]⟩],ap3 gl⟩
theorem ql:Lk 1 lr:=ls qw aN
def cX(a0:List (Int))(a1:Int)(a2:List (Int))(a3:Int)(a4:Int)(a5:Int)(a6:Bool):Option (T07):=
bif(a3 != 1)then(some (0,0,3,()))else
let x0:=wk .i64 a4;
(cY a0 a1 a2 x0).bind λ(x1,x2,x3,_)=>
bif(!x3)then(some (0,0,4,()))else
(bif a6 then(let x4:Int:=(wk .i64 a5);
let x5:=w64 (x2-x4);
some (a2,a0,a1,0,0,x1,x5,()))else
let x4:=wk .i64 a5;
let x5:=w64 (x2+x4);
some (a2,a0,a1,0,0,x1,x5,()):Option (LI×LI×T0r)).bind λ(x4,x5,x6,x7,x8,x9,ac,_)=>
(gl x4 x9 ac).bind λ(ae,_)=>
bif(!ae)then(some (0,0,4,()))else
(cT x9).bind λaf=>
(bS x5 af).bind λah=>
let ai:=w64 (ah+ac);
let aj:=wk .u16 ai;
some (1,aj,0,())
def ul:X.Cfg:=⟨E0,[iB,lr],[],[⟨8,0,qE,[(.normal,qS [sP 1 RI,zaa 5,zaa 10,zaa 12] [(12,zab),(22,Uab),(26,Zac)])]⟩]⟩
def kD:Ctr:=⟨95,54,[.agg zab,shU RI,.agg Uab,shU CW,shU .bool],[],[⟨Xae,[.agg 2,.one],[]⟩],ap7 cX⟩
theorem nO:Lk 2 kD:=ls ul (aC km (aC ql aN))
def fB(a0:Int)(a1:LDCe)(a2:LDLn):Option (Nat×T03):=
let x0:=w64 (Int.tdiv a0 4);
let x1:=Int.tmod x0 4;
(cT x1).bind λx2=>
(bS a2 x2).bind λx3=>
(bS a2 x2).bind λx4=>
bif(x4.1==x0)then(some (x2,a1,a2,()))else
((bS a2 x2).bind λx5=>
bif x5.2.1 then((bS a2 x2).bind λx6=>
let x7:=w64 (x6.1*4);
(cT x7).bind λx8=>
bif(iG x8 a1.length a1.length)then(bS a2 x2).bind λx9=>
(bS a2 x2).bind λac=>
bif(iG x8 (Nat.add x8 (Nat.min ac.2.2.length (Nat.sub a1.length x8))) a1.length)then bif(Nat.blt 0 (Nat.min ac.2.2.length (Nat.sub a1.length x8)))then(let ae:LDCe:=(ii a1 x8 (Nat.min ac.2.2.length (Nat.sub a1.length x8)) ac.2.2);
let af:=(bQ (Nat.min ac.2.2.length (Nat.sub a1.length x8)));
some (x0,x2,ae,a2,()))else
let ae:=(bQ (Nat.min ac.2.2.length (Nat.sub a1.length x8)));
some (x0,x2,a1,a2,())else none else none)else
some (x0,x2,a1,a2,()):Option (Int×Nat×T03)).bind λ(x5,x6,x7,x8,_)=>
(bS x8 x6).bind λx9=>
let ac:=List.modify x8 x6 λe=>(x5,e.2);
(bS ac x6).bind λae=>
let af:=(List.modify ac x6 λe=>(e.1,(false,e.2.2)));
let ah:=w64 (x5*4);
let ai:=w64 (x5+1);
let aj:=w64 (ai*4);
(cT ah).bind λak=>
(cT aj).bind λam=>
bif(iG ak am x7.length)then bif(cL 4 0 (List.length (lO x7 ak (Nat.sub am ak))))then let an:LDCe:=(List.append [] (lO x7 ak (Nat.sub am ak)));
(bS af x6).bind λap=>
let aq:=(List.modify af x6 λe=>(e.1,(e.2.1,an)));
some (x6,x7,aq,())else none else none
def su:X.Cfg:=⟨E0,[],[],[⟨6,0,qE,[(.normal,(qS [zaa 0,Uaa 5,(6,.ptr ⟨2,1,[((),(3,0))]⟩ [0,0])] [(2,Xac)]))]⟩]⟩
def jJ:Ctr:=⟨106,55,[.ptr ⟨2,0,[]⟩ [0],shU I64],[(2,Xac)],[⟨[.ptr ⟨2,1,[((),(3,0))]⟩ [0,0]],[.ptr],[(2,Xac)]⟩],ap3 fB⟩
theorem mg:Lk 1 jJ:=ls su aN
def iO(a0:Int)(a1:LDCe)(a2:LDLn):Option (T0g):=
(fB a0 a1 a2).bind λ(x0,x1,x2,_)=>
(bS x2 x0).bind λx3=>
let x4:=Int.tmod a0 4;
(cT x4).bind λx5=>
(bS x2 x0).bind λx6=>
(bS x6.2.2 x5).bind λx7=>
(bS x2 x0).bind λx8=>
(bS x8.2.2 x5).bind λx9=>
some (x9.1,x9.2,x1,x2,())
def uq:X.Cfg:=⟨E0,[jJ],[],[]⟩
def of:Ctr:=⟨96,56,[.ptr ⟨2,0,[]⟩ [0],shU I64],[(2,Xac)],[⟨Uab,[.agg 2],[(2,Xac)]⟩],ap3 iO⟩
theorem t6:Lk 2 of:=ls uq (aC mg aN)
def gQ(a0:Int)(a1:Int)(a2:Int)(a3:LDCe)(a4:LDLn):Option (T03):=
(fB a0 a3 a4).bind λ(x0,x1,x2,_)=>
(bS x2 x0).bind λx3=>
let x4:=Int.tmod a0 4;
(cT x4).bind λx5=>
(bS x2 x0).bind λx6=>
(bS x6.2.2 x5).bind λx7=>
(bS x2 x0).bind λx8=>
(bS x8.2.2 x5).bind λx9=>
let ac:=(List.modify x2 x0 λe=>(e.1,(e.2.1,(List.modify e.2.2 x5 λe=>(a1,a2)))));
(bS ac x0).bind λae=>
let af:=(List.modify ac x0 λe=>(e.1,(true,e.2.2)));
some (x1,af,())
def sr:X.Cfg:=⟨E0,[jJ],[],[]⟩
def mF:Ctr:=⟨97,57,[.ptr ⟨2,0,[]⟩ [0],shU I64,.agg Uab],[(2,Xac)],[⟨[],[],[(2,Xac)]⟩],ap5 gQ⟩
theorem rZ:Lk 2 mF:=ls sr (aC mg aN)
def fe(a0:Bool):Option (T01):=
bif a0 then(some (0,1,()))else
some (0,0,())
def uk:X.Cfg:=⟨E0,[],[],[]⟩
def kC:Ctr:=⟨107,58,Xab,[],[⟨Uab,[.agg 2],[]⟩],ap1 fe⟩
theorem nN:Lk 1 kC:=ls uk aN
def fw(a0:Int)(a1:Int)(a2:Int):Option (T07):=
bif(a0==3)then(let x0:Int:=(wk .u16 (a1+a2));
some (0,x0,0,()))else
bif(a0==4)then(let x0:Int:=(wk .u16 (a1-a2));
some (0,x0,0,()))else
bif(a0==5)then(let x0:Int:=(wk .u16 (a1*a2));
some (0,x0,0,()))else
bif(a0==6)then(bif(a2==0)then(some (0,0,5,()))else
bif(a0==6)then(bif(a2 != 0)then let x0:Int:=(wk .u16 (Int.tdiv a1 a2));
some (0,x0,0,())else none)else
bif(a2 != 0)then let x0:Int:=(Int.tmod a1 a2);
some (0,x0,0,())else none)else
bif(a0==7)then(bif(a2==0)then(some (0,0,5,()))else
bif(a0==6)then(bif(a2 != 0)then let x0:Int:=(wk .u16 (Int.tdiv a1 a2));
some (0,x0,0,())else none)else
bif(a2 != 0)then let x0:Int:=(Int.tmod a1 a2);
some (0,x0,0,())else none)else
bif(a0==8)then(let x0:Int:=(arR .and .u16 a1 a2);
some (0,x0,0,()))else
bif(a0==9)then(let x0:Int:=(arR .or .u16 a1 a2);
some (0,x0,0,()))else
bif(a0==10)then(let x0:Int:=(arR .xor .u16 a1 a2);
some (0,x0,0,()))else
bif(a0==11)then(let x0:Int:=(Int.tmod a2 16);
(cT x0).bind λx1=>
let x2:Int:=(shR .shl .u16 a1 x1);
some (0,x2,0,()))else
bif(a0==12)then(let x0:Int:=(Int.tmod a2 16);
(cT x0).bind λx1=>
let x2:Int:=(shR .shr .u16 a1 x1);
some (0,x2,0,()))else
(fe (decide (a1<a2))).bind λ(x0,x1,_)=>
some (x0,x1,0,())
def pC:X.Cfg:=⟨E0,[kC],[],[]⟩
def kA:Ctr:=⟨108,59,uL [I64,CW,CW],[],[⟨Xae,[.agg 2,.one],[]⟩],ap3 fw⟩
theorem px:Lk 2 kA:=ls pC (aC nN aN)
def fA(a0:List (Int))(a1:Int)(a2:List (Int))(a3:Int)(a4:Int)(a5:Int)(a6:Int):Option (Int×Int×T06):=
let x0:=wk .i64 a4;
(cY a0 a1 a2 x0).bind λ(x1,x2,x3,_)=>
let x4:=wk .i64 a6;
(cY a0 a1 a2 x4).bind λ(x5,x6,x7,_)=>
bif x3 then(bif x7 then(some (x1,x2,x5,x6,(x1==x5),()))else
some (x1,x2,x5,x6,false,()))else
some (x1,x2,x5,x6,false,())
def sn:X.Cfg:=⟨E0,[iB],[],[]⟩
def mC:Ctr:=⟨109,60,[.agg zab,shU RI,.agg Uab,.agg Uab],[],[⟨uL [I64,I64,I64,I64,.bool],[.agg 2,.agg 2,.one],[]⟩],ap7 fA⟩
theorem rW:Lk 2 mC:=ls sn (aC km aN)
def kQ(a0:List (Int))(a1:Int)(a2:List (Int))(a3:Int)(a4:Int)(a5:Int)(a6:Int)(a7:Int):Option (T07):=
bif(decide (a3<3))then(some (0,0,1,()))else
bif(decide (a3>14))then(some (0,0,1,()))else
(match(bif(a3==14)then((fe ((a4==a6)&&((a5==a7)&&true))).bind λ(x0,x1,_)=>
some (.inl (0,x0,x1,())))else
bif(a4==0)then(bif(a6==0)then((fw a3 a5 a7).bind λ(x0,x1,x2,_)=>
some (.inl (x2,x0,x1,())))else
(bif(a3==3)then(bif(a4==1)then(some (a2,a3,(a6==0),a0,a1,a4,a5,a6,a7,0,0,()))else
some (a2,a3,false,a0,a1,a4,a5,a6,a7,0,0,()))else
some (a2,a3,false,a0,a1,a4,a5,a6,a7,0,0,()):Option (T1c)).bind λ(x0,x1,x2,x3,x4,x5,x6,x7,x8,x9,ac,_)=>
bif x2 then((cX x3 x4 x0 x5 x6 x8 false).bind λ(ae,af,ah,_)=>
some (.inl (ah,ae,af,())))else
(bif(x1==3)then(bif(x5==0)then(some (x0,x1,(x7==1),x3,x4,x5,x6,x7,x8,x9,ac,()))else
some (x0,x1,false,x3,x4,x5,x6,x7,x8,x9,ac,()))else
some (x0,x1,false,x3,x4,x5,x6,x7,x8,x9,ac,()):Option (T1c)).bind λ(ae,af,ah,ai,aj,ak,am,an,ap,aq,av,_)=>
bif ah then((cX ai aj ae an ap am false).bind λ(ax,ay,az,_)=>
some (.inl (az,ax,ay,())))else
(bif(af==4)then(bif(ak==1)then(some (ae,af,(an==0),ai,aj,ak,am,an,ap,aq,av,()))else
some (ae,af,false,ai,aj,ak,am,an,ap,aq,av,()))else
some (ae,af,false,ai,aj,ak,am,an,ap,aq,av,()):Option (T1c)).bind λ(ax,ay,az,aA,aB,aD,aE,aF,aG,aH,aI,_)=>
bif az then((cX aA aB ax aD aE aG true).bind λ(aJ,aK,aL,_)=>
some (.inl (aL,aJ,aK,())))else
(bif(ay==4)then(bif(aD==1)then(some (ax,ay,(aF==1),aA,aB,aD,aE,aF,aG,aH,aI,()))else
some (ax,ay,false,aA,aB,aD,aE,aF,aG,aH,aI,()))else
bif(ay==13)then(bif(aD==1)then(some (ax,ay,(aF==1),aA,aB,aD,aE,aF,aG,aH,aI,()))else
some (ax,ay,false,aA,aB,aD,aE,aF,aG,aH,aI,()))else
some (ax,ay,false,aA,aB,aD,aE,aF,aG,aH,aI,()):Option (T1c)).bind λ(aJ,aK,aL,aM,aO,aP,aQ,aR,aS,aT,aU,_)=>
bif aL then((fA aM aO aJ aP aQ aR aS).bind λ(aV,aW,aY,aZ,ba,_)=>
bif(!ba)then(some (.inl (4,0,0,())))else
bif(aK==13)then((fe (decide (aW<aZ))).bind λ(bc,bd,_)=>
some (.inl (0,bc,bd,())))else
let bc:=w64 (aW-aZ);
let bd:=wk .u16 bc;
some (.inl (0,0,bd,())))else
some (.inr (aJ,aK,false,aM,aO,aP,aQ,aR,aS,aT,aU,())))else
(bif(a3==3)then(bif(a4==1)then(some (a2,a3,(a6==0),a0,a1,a4,a5,a6,a7,0,0,()))else
some (a2,a3,false,a0,a1,a4,a5,a6,a7,0,0,()))else
some (a2,a3,false,a0,a1,a4,a5,a6,a7,0,0,()):Option (T1c)).bind λ(x0,x1,x2,x3,x4,x5,x6,x7,x8,x9,ac,_)=>
bif x2 then((cX x3 x4 x0 x5 x6 x8 false).bind λ(ae,af,ah,_)=>
some (.inl (ah,ae,af,())))else
(bif(x1==3)then(bif(x5==0)then(some (x0,x1,(x7==1),x3,x4,x5,x6,x7,x8,x9,ac,()))else
some (x0,x1,false,x3,x4,x5,x6,x7,x8,x9,ac,()))else
some (x0,x1,false,x3,x4,x5,x6,x7,x8,x9,ac,()):Option (T1c)).bind λ(ae,af,ah,ai,aj,ak,am,an,ap,aq,av,_)=>
bif ah then((cX ai aj ae an ap am false).bind λ(ax,ay,az,_)=>
some (.inl (az,ax,ay,())))else
(bif(af==4)then(bif(ak==1)then(some (ae,af,(an==0),ai,aj,ak,am,an,ap,aq,av,()))else
some (ae,af,false,ai,aj,ak,am,an,ap,aq,av,()))else
some (ae,af,false,ai,aj,ak,am,an,ap,aq,av,()):Option (T1c)).bind λ(ax,ay,az,aA,aB,aD,aE,aF,aG,aH,aI,_)=>
bif az then((cX aA aB ax aD aE aG true).bind λ(aJ,aK,aL,_)=>
some (.inl (aL,aJ,aK,())))else
(bif(ay==4)then(bif(aD==1)then(some (ax,ay,(aF==1),aA,aB,aD,aE,aF,aG,aH,aI,()))else
some (ax,ay,false,aA,aB,aD,aE,aF,aG,aH,aI,()))else
bif(ay==13)then(bif(aD==1)then(some (ax,ay,(aF==1),aA,aB,aD,aE,aF,aG,aH,aI,()))else
some (ax,ay,false,aA,aB,aD,aE,aF,aG,aH,aI,()))else
some (ax,ay,false,aA,aB,aD,aE,aF,aG,aH,aI,()):Option (T1c)).bind λ(aJ,aK,aL,aM,aO,aP,aQ,aR,aS,aT,aU,_)=>
bif aL then((fA aM aO aJ aP aQ aR aS).bind λ(aV,aW,aY,aZ,ba,_)=>
bif(!ba)then(some (.inl (4,0,0,())))else
bif(aK==13)then((fe (decide (aW<aZ))).bind λ(bc,bd,_)=>
some (.inl (0,bc,bd,())))else
let bc:=w64 (aW-aZ);
let bd:=wk .u16 bc;
some (.inl (0,0,bd,())))else
some (.inr (aJ,aK,false,aM,aO,aP,aQ,aR,aS,aT,aU,())):Option (T07⊕T1c))with
|none=>none
|some (.inl (x0,x1,x2,_))=>
some (x1,x2,x0,())
|some (.inr (x0,x1,x2,x3,x4,x5,x6,x7,x8,x9,ac,_))=>
some (0,0,3,()))
def zi:X.Cfg:=⟨E0,[kC,kA,kD,mC],[],[⟨9,0,qE,[(.normal,qS [sP 1 RI,Uaa 2,zaa 5,zaa 8,zaa 9,zaa 10,Xaa 46] [(12,zab),(18,Uab),(20,Uab),(22,Uab)])]⟩,⟨11,1,qE,[(.normal,qS [sP 1 RI,Uaa 2,zaa 5,zaa 8,zaa 9,zaa 10,Xaa 67] [(12,zab),(18,Uab),(20,Uab),(22,Uab)])]⟩,⟨13,2,qE,[(.normal,qS [sP 1 RI,Uaa 2,zaa 5,zaa 8,zaa 9,zaa 10,Xaa 88] [(12,zab),(18,Uab),(20,Uab),(22,Uab)])]⟩,⟨15,3,qE,[(.normal,qS [sP 1 RI,Uaa 2,zaa 5,zaa 8,zaa 9,zaa 10,Xaa 109] [(12,zab),(18,Uab),(20,Uab),(22,Uab)])]⟩,⟨4,4,qE,[(.ret,qS [zaa 10,Uaa 11] [(22,Uab)]),(.normal,qS [sP 1 RI,Uaa 2,zaa 5,zaa 8,zaa 9,zaa 10,Xaa 109] [(12,zab),(18,Uab),(20,Uab),(22,Uab)])]⟩]⟩
def rk:Ctr:=⟨98,61,[.agg zab,shU RI,shU I64,.agg Uab,.agg Uab],[],[⟨Xae,[.agg 2,.one],[]⟩],ap8 kQ⟩
theorem zb:Lk 3 rk:=ls zi (aC nN (aC px (aC nO (aC rW aN))))
def gh(a0:Int):Option (Bool×Unit):=
(dh a0).bind λ(x0,_)=>
bif x0 then(some (true,()))else
bif(a0==22)then(some (true,()))else
some ((a0==24),())
def qv:X.Cfg:=⟨E0,[fi],[],[]⟩
def lq:Ctr:=⟨99,62,yac,[],[⟨Xab,[.one],[]⟩],ap1 gh⟩
theorem qk:Lk 2 lq:=ls qv (aC gz aN)
def dn(a0:LDIn)(a1:List (Int))(a2:List LI)(a3:Int)(a4:List (Int))(a5:Int)(a6:LDCe)(a7:LDLn)(a8:LDTh):Option (T0z):=
(cT a3).bind λx0=>
(bS a8 x0).bind λx1=>
(bS a8 x0).bind λx2=>
let x3:=bQ a0.length;
bif(decide (x2.2.2.1>=x3))then((cE x0 2 a8).bind λ(x4,x5,_)=>
some (x4,a4,a5,a6,a7,x5,()))else
(bS a8 x0).bind λx4=>
(cT x4.2.2.1).bind λx5=>
(bS a0 x5).bind λx6=>
(bS a8 x0).bind λx7=>
let x8:=w64 (x7.2.2.1+1);
(bS a8 x0).bind λx9=>
(cT x6.2.1).bind λac=>
(bS a8 x0).bind λae=>
(bS ae.2.1 ac).bind λaf=>
(bS a8 x0).bind λah=>
(bS ah.2.1 ac).bind λai=>
(bS a8 x0).bind λaj=>
(cT x6.2.2.1).bind λak=>
(bS a8 x0).bind λam=>
(bS am.2.1 ak).bind λan=>
(bS a8 x0).bind λap=>
(bS ap.2.1 ak).bind λaq=>
(match(bif(x6.1==0)then(some (.inl (x0,x8,a4,a5,a6,a7,a8,x6.1,x6.2.1,x6.2.2.1,x6.2.2.2.1,x6.2.2.2.2,())))else
bif(x6.1==1)then((bS a8 x0).bind λav=>
let ax:=wk .u16 x6.2.2.2.2;
(cT x6.2.1).bind λay=>
(bS a8 x0).bind λaz=>
(bS az.2.1 ay).bind λaA=>
(bS a8 x0).bind λaB=>
(bS aB.2.1 ay).bind λaD=>
let aE:=(List.modify a8 x0 λe=>(e.1,((List.modify e.2.1 ay λe=>(0,ax)),e.2.2)));
some (.inl (x0,x8,a4,a5,a6,a7,aE,x6.1,x6.2.1,x6.2.2.1,x6.2.2.2.1,x6.2.2.2.2,())))else
bif(x6.1==2)then((bS a8 x0).bind λav=>
(cT x6.2.1).bind λax=>
(bS a8 x0).bind λay=>
(bS ay.2.1 ax).bind λaz=>
(bS a8 x0).bind λaA=>
(bS aA.2.1 ax).bind λaB=>
let aD:=(List.modify a8 x0 λe=>(e.1,((List.modify e.2.1 ax λe=>(aq.1,aq.2)),e.2.2)));
some (.inl (x0,x8,a4,a5,a6,a7,aD,x6.1,x6.2.1,x6.2.2.1,x6.2.2.2.1,x6.2.2.2.2,())))else
bif(x6.1==15)then((bS a8 x0).bind λav=>
(cT x6.2.2.2.2).bind λax=>
(bS a4 ax).bind λay=>
let az:=wk .u16 ay;
(cT x6.2.1).bind λaA=>
(bS a8 x0).bind λaB=>
(bS aB.2.1 aA).bind λaD=>
(bS a8 x0).bind λaE=>
(bS aE.2.1 aA).bind λaF=>
let aG:=(List.modify a8 x0 λe=>(e.1,((List.modify e.2.1 aA λe=>(1,az)),e.2.2)));
some (.inl (x0,x8,a4,a5,a6,a7,aG,x6.1,x6.2.1,x6.2.2.1,x6.2.2.2.1,x6.2.2.2.2,())))else
bif(x6.1==16)then((bif(x6.1==17)then(some (x0,x8,a4,a5,a6,a7,a8,a0,a1,a2,x6.1,x6.2.1,x6.2.2.1,x6.2.2.2.1,x6.2.2.2.2,aq.1,aq.2,ai.1,ai.2,()))else
some (x0,x8,a4,a5,a6,a7,a8,a0,a1,a2,x6.1,x6.2.1,x6.2.2.1,x6.2.2.2.1,x6.2.2.2.2,aq.1,aq.2,aq.1,aq.2,()):Option (T1w)).bind λ(av,ax,ay,az,aA,aB,aD,aE,aF,aG,aH,aI,aJ,aK,aL,aM,aO,aP,aQ,_)=>
let aR:=wk .u16 aL;
(cX ay az aF aP aQ aR false).bind λ(aS,aT,aU,_)=>
bif(aU != 0)then((cE av aU aD).bind λ(aV,aW,_)=>
some (.inr (aV,ay,az,aA,aB,aW,())))else
bif(aH==16)then((bS aD av).bind λaV=>
let aW:=wk .i64 aT;
(iO aW aA aB).bind λ(aY,aZ,ba,bc,_)=>
(cT aI).bind λbd=>
(bS aD av).bind λbe=>
(bS be.2.1 bd).bind λbf=>
(bS aD av).bind λbg=>
(bS bg.2.1 bd).bind λbh=>
let bi:=(List.modify aD av λe=>(e.1,((List.modify e.2.1 bd λe=>(aY,aZ)),e.2.2)));
some (.inl (av,ax,ay,az,ba,bc,bi,aH,aI,aJ,aK,aL,())))else
let aV:=wk .i64 aT;
(gQ aV aM aO aA aB).bind λ(aW,aY,_)=>
some (.inl (av,ax,ay,az,aW,aY,aD,aH,aI,aJ,aK,aL,())))else
bif(x6.1==17)then((bif(x6.1==17)then(some (x0,x8,a4,a5,a6,a7,a8,a0,a1,a2,x6.1,x6.2.1,x6.2.2.1,x6.2.2.2.1,x6.2.2.2.2,aq.1,aq.2,ai.1,ai.2,()))else
some (x0,x8,a4,a5,a6,a7,a8,a0,a1,a2,x6.1,x6.2.1,x6.2.2.1,x6.2.2.2.1,x6.2.2.2.2,aq.1,aq.2,aq.1,aq.2,()):Option (T1w)).bind λ(av,ax,ay,az,aA,aB,aD,aE,aF,aG,aH,aI,aJ,aK,aL,aM,aO,aP,aQ,_)=>
let aR:=wk .u16 aL;
(cX ay az aF aP aQ aR false).bind λ(aS,aT,aU,_)=>
bif(aU != 0)then((cE av aU aD).bind λ(aV,aW,_)=>
some (.inr (aV,ay,az,aA,aB,aW,())))else
bif(aH==16)then((bS aD av).bind λaV=>
let aW:=wk .i64 aT;
(iO aW aA aB).bind λ(aY,aZ,ba,bc,_)=>
(cT aI).bind λbd=>
(bS aD av).bind λbe=>
(bS be.2.1 bd).bind λbf=>
(bS aD av).bind λbg=>
(bS bg.2.1 bd).bind λbh=>
let bi:=(List.modify aD av λe=>(e.1,((List.modify e.2.1 bd λe=>(aY,aZ)),e.2.2)));
some (.inl (av,ax,ay,az,ba,bc,bi,aH,aI,aJ,aK,aL,())))else
let aV:=wk .i64 aT;
(gQ aV aM aO aA aB).bind λ(aW,aY,_)=>
some (.inl (av,ax,ay,az,aW,aY,aD,aH,aI,aJ,aK,aL,())))else
bif(x6.1==18)then(some (.inl (x0,x6.2.2.2.2,a4,a5,a6,a7,a8,x6.1,x6.2.1,x6.2.2.1,x6.2.2.2.1,x6.2.2.2.2,())))else
bif(x6.1==19)then(bif(ai.1 != 0)then((cE x0 3 a8).bind λ(av,ax,_)=>
some (.inr (av,a4,a5,a6,a7,ax,())))else
bif((ai.2==0)==(x6.1==19))then(some (.inl (x0,x6.2.2.2.2,a4,a5,a6,a7,a8,x6.1,x6.2.1,x6.2.2.1,x6.2.2.2.1,x6.2.2.2.2,())))else
some (.inl (x0,x8,a4,a5,a6,a7,a8,x6.1,x6.2.1,x6.2.2.1,x6.2.2.2.1,x6.2.2.2.2,())))else
bif(x6.1==20)then(bif(ai.1 != 0)then((cE x0 3 a8).bind λ(av,ax,_)=>
some (.inr (av,a4,a5,a6,a7,ax,())))else
bif((ai.2==0)==(x6.1==19))then(some (.inl (x0,x6.2.2.2.2,a4,a5,a6,a7,a8,x6.1,x6.2.1,x6.2.2.1,x6.2.2.2.1,x6.2.2.2.2,())))else
some (.inl (x0,x8,a4,a5,a6,a7,a8,x6.1,x6.2.1,x6.2.2.1,x6.2.2.2.1,x6.2.2.2.2,())))else
bif(x6.1==21)then((bS a8 x0).bind λav=>
let ax:=wk .u16 x8;
(cT x6.2.1).bind λay=>
(bS a8 x0).bind λaz=>
(bS az.2.1 ay).bind λaA=>
(bS a8 x0).bind λaB=>
(bS aB.2.1 ay).bind λaD=>
let aE:=(List.modify a8 x0 λe=>(e.1,((List.modify e.2.1 ay λe=>(0,ax)),e.2.2)));
some (.inl (x0,x6.2.2.2.2,a4,a5,a6,a7,aE,x6.1,x6.2.1,x6.2.2.1,x6.2.2.2.1,x6.2.2.2.2,())))else
bif(x6.1==22)then(bif(ai.1 != 0)then((cE x0 3 a8).bind λ(av,ax,_)=>
some (.inr (av,a4,a5,a6,a7,ax,())))else
bif(decide (ai.2>255))then((cE x0 2 a8).bind λ(av,ax,_)=>
some (.inr (av,a4,a5,a6,a7,ax,())))else
let av:=wk .i64 ai.2;
some (.inl (x0,av,a4,a5,a6,a7,a8,x6.1,x6.2.1,x6.2.2.1,x6.2.2.2.1,x6.2.2.2.2,())))else
bif(x6.1==24)then((bS a8 x0).bind λav=>
bif(av.2.2.2.2.2.1==(-1))then((cE x0 1 a8).bind λ(ax,ay,_)=>
some (.inr (ax,a4,a5,a6,a7,ay,())))else
(bS a8 x0).bind λax=>
(bS a8 x0).bind λay=>
let az:=(List.modify a8 x0 λe=>(e.1,(e.2.1,(e.2.2.1,(e.2.2.2.1,(e.2.2.2.2.1,((-1),e.2.2.2.2.2.2)))))));
some (.inl (x0,ax.2.2.2.2.2.1,a4,a5,a6,a7,az,x6.1,x6.2.1,x6.2.2.1,x6.2.2.2.1,x6.2.2.2.2,())))else
bif(x6.1==23)then((bS a8 x0).bind λav=>
let ax:=List.modify a8 x0 λe=>(2,e.2);
(bS ax x0).bind λay=>
let az:=(List.modify ax x0 λe=>(e.1,(e.2.1,(x8,e.2.2.2))));
some (.inr (1,a4,a5,a6,a7,az,())))else
(bS a8 x0).bind λav=>
(cT x6.2.2.2.1).bind λax=>
(bS a8 x0).bind λay=>
(bS ay.2.1 ax).bind λaz=>
(bS a8 x0).bind λaA=>
(bS aA.2.1 ax).bind λaB=>
(kQ a4 a5 a1 x6.1 aq.1 aq.2 aB.1 aB.2).bind λ(aD,aE,aF,_)=>
bif(aF != 0)then((cE x0 aF a8).bind λ(aG,aH,_)=>
some (.inr (aG,a4,a5,a6,a7,aH,())))else
(bS a8 x0).bind λaG=>
(cT x6.2.1).bind λaH=>
(bS a8 x0).bind λaI=>
(bS aI.2.1 aH).bind λaJ=>
(bS a8 x0).bind λaK=>
(bS aK.2.1 aH).bind λaL=>
let aM:=(List.modify a8 x0 λe=>(e.1,((List.modify e.2.1 aH λe=>(aD,aE)),e.2.2)));
some (.inl (x0,x8,a4,a5,a6,a7,aM,x6.1,x6.2.1,x6.2.2.1,x6.2.2.2.1,x6.2.2.2.2,())):Option ((Nat×Int×LI×Int×LDCe×LDLn×LDTh×T0r)⊕T0z))with
|none=>none
|some (.inl (av,ax,ay,az,aA,aB,aD,aE,aF,aG,aH,aI,_))=>
(bS aD av).bind λaJ=>
let aK:=(List.modify aD av λe=>(e.1,(e.2.1,(ax,e.2.2.2))));
((gh aE).bind λ(aL,_)=>
bif aL then((bS aK av).bind λaM=>
let aO:=w64 (aM.2.2.2.1+1);
(bS aK av).bind λaP=>
let aQ:=(List.modify aK av λe=>(e.1,(e.2.1,(e.2.2.1,(aO,e.2.2.2.2)))));
some (ay,az,aA,aB,aQ,()))else
some (ay,az,aA,aB,aK,()):Option (T0u)).bind λ(aL,aM,aO,aP,aQ,_)=>
some ((-1),aL,aM,aO,aP,aQ,())
|some (.inr (av,ax,ay,az,aA,aB,_))=>
some (av,ax,ay,az,aA,aB,()))
def vO:X.Cfg:=⟨E0,[oa,kD,of,mF,rk,lq],[],[⟨17,0,qE,[(.normal,(qS [zaa 1,zaa 3,(7,.ptr ⟨4,4,[((),(8,0))]⟩ [0,0]),zaa 8,Uaa 9,zaa 11,zaa 12] [(4,Uac),(8,uab),(18,uac),(24,Uab),(26,Uab)]))]⟩,⟨8,1,qE,[(.normal,(qS [zaa 1,(7,.ptr ⟨4,4,[((),(8,0))]⟩ [0,0]),zaa 8,Uaa 9] [(4,Uac),(18,uac)])),(.ret,qS [zaa 1,Uaa 6] [(4,Uac)])]⟩,⟨52,2,qE,[(.normal,qS [zaa 1] [(4,Uac)])]⟩]⟩
def p5:Ctr:=⟨76,63,[.agg uab,.ptr ⟨4,0,[]⟩ [0],shU I64],[(4,Uac)],[⟨yac,[.one],[(4,Uac)]⟩],ap9 dn⟩
theorem vG:Lk 4 p5:=ls vO (aC tW (aC nO (aC t6 (aC rZ (aC zb (aC qk aN))))))
def dE:T1p->Option (T1p⊕T0I):=λ(v0,v1,v2,v3,v4,v5,v6,v7,v8,v9,v10,v11,v12,v13,v14,_)=>
(dn v2 v3 v4 v0 v10 v11 v12 v13 v14).bind λ(x0,x1,x2,x3,x4,x5,_)=>
bif(x0 != (-1))then(some (.inr (x0,0,x1,x2,x3,x4,x5,())))else
(cT v0).bind λx6=>
(bS x5 x6).bind λx7=>
(bS x5 x6).bind λx8=>
bif(x8.2.2.2.1==v1)then(some (.inr (0,0,x1,x2,x3,x4,x5,())))else
some (.inl (v0,v1,v2,v3,v4,v5,v6,v7,v8,v9,x1,x2,x3,x4,x5,()))
def dc(a0:LDIn)(a1:List (Int))(a2:List LI)(a3:List (Int))(a4:Int)(a5:LDCe)(a6:LDLn)(a7:LDTh)(a8:Int)(a9:Int):Option (LI×Int×LDCe×LDLn×LDTh×T01):=
((gO a0 a1 a2 a3 a4 a5 a6 a7).bind λ(x0,_)=>
bif(!x0)then(some (a8,a9,true,a0,a1,a2,a3,a4,a5,a6,a7,(),0,(),(),(),()))else
bif(decide (a8<0))then(some (a8,a9,true,a0,a1,a2,a3,a4,a5,a6,a7,(),0,(),(),(),()))else
bif(decide (a8>=4))then(some (a8,a9,true,a0,a1,a2,a3,a4,a5,a6,a7,(),0,(),(),(),()))else
bif(decide (a9<1))then(some (a8,a9,true,a0,a1,a2,a3,a4,a5,a6,a7,(),0,(),(),(),()))else
some (a8,a9,(decide (a9>64)),a0,a1,a2,a3,a4,a5,a6,a7,(),0,(),(),(),()):Option (Int×Int×Bool×LDIn×LI×LLI×LI×Int×LDCe×LDLn×LDTh×Unit×Int×Unit×Unit×Unit×Unit)).bind λ(x0,x1,x2,x3,x4,x5,x6,x7,x8,x9,ac,ae,af,ah,ai,aj,_)=>
bif x2 then(some ([],0,[],[],[],0,1,()))else
(iN x6 x7 x8 x9 ac).bind λ(ak,am,an,ap,aq,_)=>
(cT x0).bind λav=>
(bS ac av).bind λax=>
bif(ax.1 != 1)then(some (ak,am,an,ap,aq,3,0,()))else
(cT x0).bind λay=>
(bS aq ay).bind λaz=>
(bS aq ay).bind λaA=>
let aB:=w64 (aA.2.2.2.1+x1);
(bU dE NN (x0,aB,x3,x4,x5,ae,af,ah,ai,aj,ak,am,an,ap,aq,())).bind λ(aD,aE,aF,aG,aH,aI,aJ,_)=>
some (aF,aG,aH,aI,aJ,aD,aE,())
def sk:X.Cfg:=⟨E0,[mz,oe,p5],[],[⟨2,0,qE,[(.normal,qS [Uaa 2,Uaa 3,zaa 4,zaa 5,zaa 8,Xaa 33] [(10,uab),(12,Zab),(18,zae)])]⟩,⟨9,1,qS [Uaa 2,zaa 4,zaa 8,zaa 11,Uaa 12] [(10,uab),(18,zae),(24,Uac)],[(.ret,qS [zaa 8,Uaa 9,Uaa 10] [(18,Uac)])]⟩]⟩
def mA:Ctr:=⟨37,64,[.agg uab,.agg Zab,shU I64,shU I64],[],[⟨uL [RI,CW,(uaa KCe),lP,s6,I64,I64],[.agg 5,.one,.one],[]⟩],ap10 dc⟩
theorem rU:Lk 5 mA:=ls sk (aC rT (aC tZ (aC vG aN)))
def fD:Int×Int×T0m->Option ((Int×Int×T0m)⊕((Bool×Unit)⊕(Int×Int×Bool×T0m))):=λ(v0,v1,v2,v3,v4,v5,_)=>
bif(decide (v1<v0))then((cT v1).bind λx0=>
(bS v2 x0).bind λx1=>
(cT v1).bind λx2=>
(bS v4 x2).bind λx3=>
bif(x1 != x3)then(some (.inr (.inl (false,()))))else
let x4:=w64 (v1+1);
some (.inl (v0,x4,v2,v3,v4,v5,())))else
some (.inr (.inr (v0,v1,false,v2,v3,v4,v5,())))
def iR(a0:List (Int))(a1:Int)(a2:List (Int))(a3:Int):Option (Bool×Unit):=
bif(a1 != a3)then(some (false,()))else
let x0:=bQ a0.length;
let x1:=bQ a2.length;
bif(x0 != x1)then(some (false,()))else
let x2:=bQ a0.length;
(match bU fD NN (x2,0,a0,a1,a2,a3,())with
|none=>none
|some (.inl (x3,_))=>
some (x3,())
|some (.inr (x3,_))=>
some (true,()))
def uu:X.Cfg:=⟨E0,[],[],[⟨6,0,qS [zaa 2,zaa 3,Uaa 22,Uaa 23] [(6,zab),(8,zab)],[(.ret,qS [Xaa 4] []),(.exit 0,qS [zaa 2,zaa 3,Uaa 22,Uaa 23,Xaa 24] [(6,zab),(8,zab)])]⟩]⟩
def oi:Ctr:=⟨52,65,[.agg zab,.agg zab],[],[⟨Xab,[.one],[]⟩],ap4 iR⟩
theorem ua:Lk 1 oi:=ls uu aN
def fF:LDCe×T0a->Option ((LDCe×T0a)⊕((Bool×Unit)⊕(LDCe×LDCe×T06))):=λ(v0,v1,v2,v3,_)=>
bif(decide (v3<v2))then((cT v3).bind λx0=>
(bS v0 x0).bind λx1=>
(cT v3).bind λx2=>
(bS v1 x2).bind λx3=>
bif(!((x1.1==x3.1)&&((x1.2==x3.2)&&true)))then(some (.inr (.inl (false,()))))else
let x4:=w64 (v3+1);
some (.inl (v0,v1,v2,x4,())))else
some (.inr (.inr (v0,v1,v2,v3,false,())))
def ff(a0:LDCe)(a1:LDCe):Option (Bool×Unit):=
let x0:=bQ a0.length;
let x1:=bQ a1.length;
bif(x0 != x1)then(some (false,()))else
let x2:=bQ a0.length;
(match bU fF NN (a0,a1,x2,0,())with
|none=>none
|some (.inl (x3,_))=>
some (x3,())
|some (.inr (x3,_))=>
some (true,()))
def uw:X.Cfg:=⟨E0,[],[],[⟨6,0,qS [sP 0 fY,sP 1 fY,Uaa 12,Uaa 13] [],[(.ret,qS [Xaa 4] []),(.exit 0,qS [sP 0 fY,sP 1 fY,Uaa 12,Uaa 13,Xaa 14] [])]⟩]⟩
def kF:Ctr:=⟨86,66,uL [fY,fY],[],[⟨Xab,[.one],[]⟩],ap2 ff⟩
theorem nQ:Lk 1 kF:=ls uw aN
def fC:Int×Int×T0j->Option ((Int×Int×T0j)⊕((Bool×Unit)⊕T0F)):=λ(v0,v1,v2,v3,v4,v5,_)=>
bif(decide (v1<v0))then((cT v1).bind λx0=>
(bS v3 x0).bind λx1=>
(cT v1).bind λx2=>
(bS v5 x2).bind λx3=>
(bif(x1.1 != x3.1)then(some (v0,v1,true,v2,v3,v4,v5,()))else
bif(!(x1.2.1==x3.2.1))then(some (v0,v1,true,v2,v3,v4,v5,()))else
(ff x1.2.2 x3.2.2).bind λ(x4,_)=>
some (v0,v1,(!x4),v2,v3,v4,v5,()):Option (T0F)).bind λ(x4,x5,x6,x7)=>
bif x6 then(some (.inr (.inl (false,()))))else
let ae:=w64 (x5+1);
some (.inl (x4,ae,x7)))else
some (.inr (.inr (v0,v1,false,v2,v3,v4,v5,())))
def iP(a0:LDCe)(a1:LDLn)(a2:LDCe)(a3:LDLn):Option (Bool×Unit):=
(ff a0 a2).bind λ(x0,_)=>
bif(!x0)then(some (false,()))else
let x1:=bQ a1.length;
let x2:=bQ a3.length;
bif(x1 != x2)then(some (false,()))else
let x3:=bQ a1.length;
(match bU fC NN (x3,0,a0,a1,a2,a3,())with
|none=>none
|some (.inl (x4,_))=>
some (x4,())
|some (.inr (x4,_))=>
some (true,()))
def ur:X.Cfg:=⟨E0,[kF],[],[⟨12,0,qE,[(.normal,qS [zaa 2,zaa 3,Uaa 25,Uaa 26,Xaa 58] [(6,zac),(8,zac)])]⟩,⟨6,1,qS [zaa 2,zaa 3,Uaa 25,Uaa 26] [(6,zac),(8,zac)],[(.ret,qS [Xaa 4] []),(.exit 0,qS [zaa 2,zaa 3,Uaa 25,Uaa 26,Xaa 27] [(6,zac),(8,zac)])]⟩]⟩
def og:Ctr:=⟨53,67,[.agg zac,.agg zac],[],[⟨Xab,[.one],[]⟩],ap4 iP⟩
theorem t7:Lk 2 og:=ls ur (aC nQ aN)
def iM(a0:Int)(a1:LDCe)(a2:Int)(a3:Int)(a4:Int)(a5:Int)(a6:Int)(a7:Int)(a8:Int)(a9:LDCe)(a10:Int)(a11:Int)(a12:Int)(a13:Int)(a14:Int)(a15:Int):Option (Bool×Unit):=
bif(a0==a8)then(bif(a2==a10)then(bif(a3==a11)then(bif(a4==a12)then(bif(a5==a13)then(bif(a6==a14)then(bif(a7==a15)then((ff a1 a9).bind λ(x0,_)=>
some (x0,()))else
some (false,()))else
some (false,()))else
some (false,()))else
some (false,()))else
some (false,()))else
some (false,()))else
some (false,())
def uj:X.Cfg:=⟨E0,[kF],[],[]⟩
def od:Ctr:=⟨54,68,[.agg Zad,.agg Zad],[],[⟨Xab,[.one],[]⟩],ap16 iM⟩
theorem tY:Lk 2 od:=ls uj (aC nQ aN)
def fv:T1i->Option (T1i⊕((Bool×Unit)⊕(Int×Int×T18))):=λ(v0,v1,v2,v3,v4,v5,v6,v7,v8,v9,v10,v11,_)=>
bif(decide (v1<v0))then((cT v1).bind λx0=>
(bS v6 x0).bind λx1=>
(cT v1).bind λx2=>
(bS v11 x2).bind λx3=>
(iM x1.1 x1.2.1 x1.2.2.1 x1.2.2.2.1 x1.2.2.2.2.1 x1.2.2.2.2.2.1 x1.2.2.2.2.2.2.1 x1.2.2.2.2.2.2.2 x3.1 x3.2.1 x3.2.2.1 x3.2.2.2.1 x3.2.2.2.2.1 x3.2.2.2.2.2.1 x3.2.2.2.2.2.2.1 x3.2.2.2.2.2.2.2).bind λ(x4,_)=>
bif(!x4)then(some (.inr (.inl (false,()))))else
let x5:=w64 (v1+1);
some (.inl (v0,x5,v2,v3,v4,v5,v6,v7,v8,v9,v10,v11,())))else
some (.inr (.inr (v0,v1,false,v2,v3,v4,v5,v6,v7,v8,v9,v10,v11,())))
def iL(a0:List (Int))(a1:Int)(a2:LDCe)(a3:LDLn)(a4:LDTh)(a5:List (Int))(a6:Int)(a7:LDCe)(a8:LDLn)(a9:LDTh):Option (Bool×Unit):=
((iR a0 a1 a5 a6).bind λ(x0,_)=>
bif(!x0)then(some (true,a0,a1,a2,a3,a4,a5,a6,a7,a8,a9,()))else
(iP a2 a3 a7 a8).bind λ(x1,_)=>
bif(!x1)then(some (true,a0,a1,a2,a3,a4,a5,a6,a7,a8,a9,()))else
let x2:=bQ a4.length;
let x3:=bQ a9.length;
some ((x2 != x3),a0,a1,a2,a3,a4,a5,a6,a7,a8,a9,()):Option (T18)).bind λ(x0,x1,x2,x3,x4,x5,x6)=>
bif x0 then(some (false,()))else
let ae:=bQ x5.length;
(match bU fv NN (ae,0,x1,x2,x3,x4,x5,x6)with
|none=>none
|some (.inl (af,_))=>
some (af,())
|some (.inr (af,_))=>
some (true,()))
def ui:X.Cfg:=⟨E0,[oi,og,od],[],[⟨2,0,qE,[(.normal,qS [zaa 2,zaa 3,Xaa 28] [(6,Zab),(8,Zab)])]⟩,⟨6,1,qS [zaa 2,zaa 3,Uaa 31,Uaa 32] [(6,Zab),(8,Zab)],[(.ret,qS [Xaa 4] []),(.exit 0,qS [zaa 2,zaa 3,Uaa 31,Uaa 32,Xaa 33] [(6,Zab),(8,Zab)])]⟩]⟩
def oc:Ctr:=⟨19,69,[.agg Zab,.agg Zab],[],[⟨Xab,[.one],[]⟩],ap10 iL⟩
theorem tX:Lk 3 oc:=ls ui (aC ua (aC t7 (aC tY aN)))
def dx:T1m->Option (T1m⊕((List (Bool))×Int×Int×Bool×T13)):=λ(v0,v1,v2,v3,v4,v5,v6,v7,v8,v9,v10,v11,v12,_)=>
bif(decide (v2<v1))then(((cT v2).bind λx0=>
(bS v0 x0).bind λx1=>
bif(!x1)then(let x2:Int:=(bQ v4.length);
let x3:=bQ v3.length;
(gx x2 x3 v11 v12).bind λ(x4,x5,x6,x7,x8,x9,ac,_)=>
(cT v2).bind λae=>
(bS v6 ae).bind λaf=>
(bS v6 ae).bind λah=>
let ai:=(List.modify v6 ae λe=>(x4,(x5,(x6,(x7,x8)))));
some (v0,v1,v2,v3,v4,v5,ai,v7,v8,v9,v10,x9,ac,()))else
some (v0,v1,v2,v3,v4,v5,v6,v7,v8,v9,v10,v11,v12,()):Option (T1m)).bind λ(x0,x1,x2,x3,x4,x5,x6,x7,x8,x9,ac,ae,af,_)=>
let ah:=w64 (x2+1);
some (.inl (x0,x1,ah,x3,x4,x5,x6,x7,x8,x9,ac,ae,af,())))else
some (.inr (v0,v1,v2,false,v3,v4,v5,v6,v7,v8,v9,v10,v11,v12,()))
def dq:T1v->Option (T1v⊕(T1x⊕(Int×Bool×T1t))):=λ(v0,v1,v2,v3,v4,v5,v6,v7,v8,v9,v10,v11,v12,v13,v14,v15,v16,v17,v18,_)=>
bif(decide (v0<5))then((bL 9 v17 v18).bind λ(x0,x1)=>
let x3:=w64 (1+x0);
(dc v1 v2 v3 v7 v8 v9 v10 v11 0 x3).bind λ(x4,x5,x6,x7,x8,x9,ac,_)=>
(dc v4 v5 v6 v12 v13 v14 v15 v16 0 x3).bind λ(ae,af,ah,ai,aj,ak,am,_)=>
(bif(ac != am)then(some (ac,v0,true,v1,v2,v3,v4,v5,v6,v7,v8,v9,v10,v11,v12,v13,v14,v15,v16,x4,x5,x6,x7,x8,ae,af,ah,ai,aj,x1))else
bif(x9 != ak)then(some (ac,v0,true,v1,v2,v3,v4,v5,v6,v7,v8,v9,v10,v11,v12,v13,v14,v15,v16,x4,x5,x6,x7,x8,ae,af,ah,ai,aj,x1))else
(iL x4 x5 x6 x7 x8 ae af ah ai aj).bind λ(an,_)=>
some (ac,v0,(!an),v1,v2,v3,v4,v5,v6,v7,v8,v9,v10,v11,v12,v13,v14,v15,v16,x4,x5,x6,x7,x8,ae,af,ah,ai,aj,x1):Option (Int×T1x)).bind λ(an,ap,aq,av,ax,ay,az,aA,aB,aD,aE,aF,aG,aH,aI,aJ,aK,aL,aM,aO)=>
bif aq then(none)else
bif(an != 0)then(some (.inr (.inl (ap,true,av,ax,ay,az,aA,aB,aD,aE,aF,aG,aH,aI,aJ,aK,aL,aM,aO))))else
let bc:=w64 (ap+1);
some (.inl (bc,av,ax,ay,az,aA,aB,aO)))else
some (.inr (.inr (v0,false,v1,v2,v3,v4,v5,v6,v7,v8,v9,v10,v11,v12,v13,v14,v15,v16,v17,v18,())))
def dP(a0:List (Int))(a1:List (Int)):Option (Bool×Unit):=
(gp a0 0).bind λ(x0,x1,x2,x3,x4,_)=>
(dO x0 x1 x2).bind λ(x5,_)=>
let x6:=bQ x5.length;
let x7:=bQ x0.length;
bif(x6 != x7)then(some (false,()))else
bif(cL 40 0 x0.length)then let x8:LDIn:=(List.append [] x0);
let x9:=bQ x8.length;
(bU dx NN (x5,x9,0,x0,x1,x2,x8,x1,x2,x3,x4,a1,0,())).bind λ(ac,ae,af,ah,ai,aj,ak,am,an,ap,aq,av,_)=>
(gY aj aq av).bind λ(az,aA,aB)=>
(dp ai aj ak az aA).bind λ(aE,aF,aG,aH,aI,aJ,_)=>
(dp am an ap az aA).bind λ(aK,aL,aM,aO,aP,aQ,_)=>
bif(aJ != 0)then(some (false,()))else
bif(aQ != 0)then(some (false,()))else
(match bU dq NN (0,ai,aj,ak,am,an,ap,aE,aF,aG,aH,aI,aK,aL,aM,aO,aP,aB)with
|none=>none
|some (.inl (aR,aS,aT,aU,aV,aW,aY,aZ,ba,bc,bd,be,bf,bg,bh,bi,bj,bk,bm,bn,bo,_))=>
(gV).bind λ(bE,_)=>
some (bE,())
|some (.inr (aR,aS,aT,aU,aV,aW,aY,aZ,ba,bc,bd,be,bf,bg,bh,bi,bj,bk,bm,bn,_))=>
(gV).bind λ(bo,_)=>
some (bo,()))else none
def ju:X.Cfg:=⟨E0,[lB,kG,kI,mM,iC,d6,mA,oc,mK],[],[⟨15,0,qE,[(.normal,qS [pP 5 50,zaa 6,sP 7 (yaa .bool),zaa 8,pP 9 84,Uaa 44,Uaa 45] [(14,uab),(18,Zae),(50,yab),(84,yab)])]⟩,(lx 12 1 [pP 5 50,zaa 6,sP 7 (yaa .bool),zaa 8,pP 9 84,Uaa 44,Uaa 45] [(14,uab),(18,Zae),(50,yab),(84,yab)] 46),⟨34,2,qE,[(.normal,qS [pP 5 50,zaa 6,zaa 8,zaa 12,zaa 14,zaa 17,Uaa 19,zaa 20,Uaa 88,Xaa 122] [(14,uab),(18,uab),(26,Zab),(30,Zab),(36,Uac),(42,Uac),(50,yab)])]⟩,⟨26,3,qS [pP 5 50,zaa 6,zaa 8,zaa 12,zaa 14,Uaa 88] [(14,uab),(18,uab),(26,Zab),(30,Zab),(50,yab)],[(.exit 2,qS [pP 5 50,zaa 6,zaa 8,zaa 12,zaa 14,zaa 17,zaa 20,Uaa 88,Xaa 124] [(14,uab),(18,uab),(26,Zab),(30,Zab),(36,Uac),(42,Uac),(50,yab)]),(.exit 2,qS [pP 5 50,zaa 6,zaa 8,zaa 12,zaa 14,Uaa 88,Xaa 89] [(14,uab),(18,uab),(26,Zab),(30,Zab),(50,yab)])]⟩]⟩
def fj:Ctr:=⟨8,70,uL [RI,RI],[],[⟨Xab,[.one],[]⟩],ap2 dP⟩
theorem k_law08_ProgramUnreached:Lk 8 fj:=ls ju (aC qr (aC py (aC nR (aC se (aC ko (aC eD (aC rU (aC tX (aC sb aN)))))))))
def ox:T08->Option (T08⊕(Int×Int×Bool×LDLn×Unit)):=λ(v0,v1,v2,_)=>
bif(decide (v1<v0))then((cT v1).bind λx0=>
(bS v2 x0).bind λx1=>
(bS v2 x0).bind λx2=>
let x3:=(List.modify v2 x0 λe=>((-1),e.2));
let x4:=w64 (v1+1);
some (.inl (v0,x4,x3,())))else
some (.inr (v0,v1,false,v2,()))
def jz:Option (LDLn×Unit):=
bif(mc 4 4 3)then let x0:LDLn:=(List.replicate 4 (0,(false,[])));
let x1:=bQ x0.length;
(bU ox NN (x1,0,x0,())).bind λ(x2,x3,x4,x5,_)=>
some (x5,())else none
def cF:T1r->Option (T1r⊕(Int×LLI×Int×Int×LI×T1g)):=λ(v0,v1,v2,v3,v4,v5,v6,v7,v8,v9,v10,v11,v12,v13,v14,v15,_)=>
bif(decide (v6<v5))then((cT v6).bind λx0=>
(bS v4 x0).bind λx1=>
(cT v0).bind λx2=>
(bS v10 x2).bind λx3=>
let x4:=w64 (x3+v6);
(cT x4).bind λx5=>
(bS v14 x5).bind λx6=>
(bS v14 x5).bind λx7=>
let x8:=List.modify v14 x5 λe=>(e.1,x1);
let x9:=w64 (v6+1);
some (.inl (v0,v1,v2,v3,v4,v5,x9,v7,v8,v9,v10,v11,v12,v13,x8,v15,())))else
some (.inr (v0,v1,v2,v3,v4,v5,v6,false,v7,v8,v9,v10,v11,v12,v13,v14,v15,()))
def cg:T1l->Option (T1l⊕((Int×Unit×Unit×Unit)⊕T1o)):=λ(v0,v1,v2,v3,v4,v5)=>
bif(decide (v2<v1))then((cT v2).bind λx0=>
(bS v0 x0).bind λx1=>
let x2:=bQ x1.length;
(cT v2).bind λx3=>
(bS v4 x3).bind λx4=>
bif(decide (x2>x4))then(some (.inr (.inl (1,(),(),()))))else
let x5:=bQ x1.length;
(bU cF NN (v2,v0,v1,v2,x1,x5,0,v3,v4,v5)).bind λ(x6,x7,x8,x9,ac,ae,af,ah,ai)=>
let ay:=w64 (x9+1);
some (.inl (x7,x8,ay,ai)))else
some (.inr (.inr (v0,v1,v2,false,v3,v4,v5)))
def dk(a0:LDIn)(a1:List (Int))(a2:List LI)(a3:List (Int))(a4:Int):Option (LDCe×LDLn×Int×Unit):=
(de a3 a4 a1).bind λ(x0,_)=>
bif(!x0)then(some ([],[],1,()))else
let x1:=bQ a2.length;
let x2:=bQ a1.length;
bif(x1 != x2)then(some ([],[],1,()))else
bif(mc 512 512 2)then let x3:LDCe:=(List.replicate 512 (0,0));
(jz).bind λ(x4,_)=>
let x5:=bQ a2.length;
(match bU cg NN (a2,x5,0,a0,a1,a2,a3,a4,(),(),x3,x4,())with
|none=>none
|some (.inl (x6,x7,x8,_))=>
some ([],[],x6,())
|some (.inr (x6,x7,x8,x9,ac,ae,af,ah,ai,aj,ak,am,an,_))=>
some (am,an,0,()))else none
def gH:T1a->Option (T1a⊕T1f):=λ(v0,v1,v2,v3,v4,v5,v6,v7,v8,v9,v10,_)=>
bif(decide (v0<4))then(bif(mc 8 8 2)then let x0:LDCe:=(List.replicate 8 (0,0));
(bif(v0==0)then(some (v0,v1,v2,v3,v4,v5,v6,v7,v8,v9,v10,1,x0,0,0,(-1),(-1),0,0,()))else
some (v0,v1,v2,v3,v4,v5,v6,v7,v8,v9,v10,0,x0,0,0,(-1),(-1),0,0,()):Option (Int×Unit×Int×Unit×Unit×Unit×LI×Int×LDCe×LDLn×LDTh×T0N)).bind λ(x1,x2,x3,x4,x5,x6,x7,x8,x9,ac,ae,af,ah,ai,aj,ak,am,an,ap,_)=>
let aq:LDTh:=[(af,(ah,(ai,(aj,(ak,(am,(an,ap)))))))];
bif(cL 80 ae.length aq.length)then let av:LDTh:=(List.append ae aq);
let ax:=w64 (x1+1);
some (.inl (ax,x2,x3,x4,x5,x6,x7,x8,x9,ac,av,()))else none else none)else
some (.inr (v0,false,v1,v2,v3,v4,v5,v6,v7,v8,v9,v10,()))
def cR(a0:LDIn)(a1:List (Int))(a2:List LI)(a3:List (Int))(a4:Int):Option (LI×Int×LDCe×LDLn×LDTh×Int×Unit):=
(dY a0 a1 a2).bind λ(x0,_)=>
bif(x0 != 0)then(some ([],0,[],[],[],x0,()))else
(de a3 a4 a1).bind λ(x1,_)=>
bif(!x1)then(some ([],0,[],[],[],1,()))else
(dk a0 a1 a2 a3 a4).bind λ(x2,x3,x4,_)=>
bif(cL 8 0 a3.length)then let x5:List (Int):=(List.append [] a3);
(bU gH NN (0,(),0,(),(),(),x5,a4,x2,x3,[],())).bind λ(x6,x7,x8,x9,ac,ae,af,ah,ai,aj,ak,am,_)=>
some (ah,ai,aj,ak,am,0,())else none
end
end Go.Proofs.Ytgphpfjngblbiaa
namespace Go.Proofs.Ytgphpfjngblbiaa
set_option maxRecDepth 100000
noncomputable section
end
end Go.Proofs.Ytgphpfjngblbiaa
namespace Go.Proofs.Ytgphpfjngblbiaa
open Go.RowKit
theorem HF:(Try.prog.funcs.all λfn=>!(fn.name=="runtime.NumGoroutine"))=true:=by kernel_rfl
theorem yV:ja Try.prog 11:=by
 obtain⟨fn,hf,hb⟩:∃fn,Try.prog.funcs[11]?=some fn/\fn.body.isSome=true:=by
  have hs:(match Try.prog.funcs[11]? with|some fn=>fn.body.isSome|none=>false)=true:=by kernel_rfl
  cases h:Try.prog.funcs[11]? with
  |none=>rw[h]at hs;cases hs
  |some fn=>rw[h]at hs;exact⟨fn,rfl,hs⟩
 obtain⟨c,hc⟩:=Option.isSome_iff_exists.1 hb;refine ms hf ?_ hc;obtain⟨hlt,he⟩:=Array.getElem?_eq_some_iff.1 hf;have:=Array.all_eq_true.1 HF 11 hlt;rw[he]at this;simpa using this
def F2(x:Value)(w:World)(e:Ending)(w':World):Prop:=e=.returned (.pointer (some ⟨w.heap.size,0,none⟩))/\w'=w.alloc (.cells #[x,.int .i64 0] 88)
theorem Fh(x:Value)(hx:x.oneCell'=true)(w:World):
 Calls Try.prog 11 #[x] w (F2 x w):=by
 cases x
 all_goals first
  |(go_enter Try.func11,Try.ntmps11
    go_wp2
    go_ret
    exact⟨rfl,rfl⟩)
  |simp[Value.oneCell']at hx
theorem e0_ok:Cg Try.prog E0:=by
 intro f n tm h;simp only[E0]at h;split at h
 ·rename_i e;subst e
  injection h with h
  injection h with h1 h2
  subst h1 h2;refine⟨yV,λx hx=>?_,88,λl2 w hl ZB=>?_⟩
  ·simp only[List.mem_cons,List.not_mem_nil,or_false]at hx;rcases hx with hx|hx
   ·injection hx
   ·injection hx with hx;rw[hx];rfl
  ·match l2,hl with
   | [x],_=>exact Fh x (ZB x (by simp[bxV])) w
 ·simp at h
def Ok{α:Type}(o:Option α)(Q:α->Prop):Prop:=∃a,o=some a/\Q a
section
variable {α β:Type}
theorem Ok.ret{a:α}{Q:α->Prop}(h:Q a):Ok (some a) Q:=⟨a,rfl,h⟩
theorem Ok.bind{o:Option α}{f:α->Option β}{P:α->Prop}{Q:β->Prop}(h:Ok o P)(h2:∀a,P a->Ok (f a) Q):Ok (o.bind f) Q:=by
 obtain⟨a,rfl,h1⟩:=h
 simp_all
theorem Ok.mono{o:Option α}{P Q:α->Prop}(h:Ok o P)(h2:∀a,P a->Q a):Ok o Q:=by
 have ⟨a,e,h1⟩:=h;exact⟨a,e,h2 a h1⟩
theorem Ok.cond{c:Bool}{a b:Option α}{Q:α->Prop}(h1:c=true->Ok a Q)(h2:c=false->Ok b Q):Ok (bif c then a else b) Q:=by
 grind
class BP (b:Bool) (P N:outParam Prop):Prop where
 t:b=true->P
 f:b=false->N
instance (priority:=low) bpVar {b:Bool}:BP b (b=true) (b=false):=⟨id,id⟩
instance Iu {p:Prop}{i:Decidable p}:BP (@decide p i) p (¬p):=⟨of_decide_eq_true,of_decide_eq_false⟩
instance IJ {α:Type}[BEq α][LawfulBEq α]{a b:α}:BP (a==b) (a=b) (¬a=b):=⟨eq_of_beq,λh=>beq_eq_false_iff_ne.1 h⟩
instance II {α:Type}[BEq α][LawfulBEq α]{a b:α}:BP (a != b) (¬a=b) (a=b):=⟨λh=>bne_iff_ne.1 h,λh=>bne_eq_false_iff_eq.1 h⟩
instance It {b:Bool}{P N:Prop}[h:BP b P N]:BP (!b) N P:=⟨λe=>h.f (by simpa using e),λe=>h.t (by simpa using e)⟩
theorem bN{c:Bool}{P N:Prop}[h:BP c P N]{a b:Option α}{Q:α->Prop}(h1:P->Ok a Q)(h2:N->Ok b Q):Ok (bif c then a else b) Q:=by
 cases hc:c with
 |true=>exact h1 (h.t hc)
 |false=>exact h2 (h.f hc)
theorem Ok.get{l:List α}{i:Nat}{f:α->Option β}{Q:β->Prop}(h:i<l.length)(h2:∀a,l[i]?=some a->Ok (f a) Q):Ok ((bS l i).bind f) Q:=by
 have e:bS l i=some l[i]:=oGE h
 simp_all
theorem Ok.nat{x:Int}{f:Nat->Option β}{Q:β->Prop}(h:0<=x)(h2:∀n:Nat,x=n->Ok (f n) Q):Ok ((cT x).bind f) Q:=by
 obtain⟨n,rfl⟩:∃n:Nat,x=n:=⟨x.toNat,by omega⟩;exact h2 n rfl
theorem Ok.val{v:α}{f:α->Option β}{Q:β->Prop}(h:∀x,x=v->Ok (f x) Q):Ok (f v) Q:=h v rfl
theorem bP{c:Bool}{a b:Option α}{Q:α->Prop}(hc:c=true)(h1:Ok a Q):Ok (bif c then a else b) Q:=by simp_all
theorem hY{S T:Type}{f:S->Option (S⊕T)}(P:S->Prop)(R:T->Prop)(m:S->Nat){n:Nat}{s:S}(hs:P s)(hm:m s<n)
 (h:∀s,P s->Ok (f s) λr=>match r with|.inl s'=>P s'/\m s'<m s|.inr t=>R t):Ok (bU f n s) R:=by
 induction n generalizing s with
 |zero=>omega
 |succ n ih=>
  have ⟨r,e,hr⟩:=h s hs
  cases r with
  |inl s'=>
   have ⟨t,e2,hq⟩:=ih hr.1 (by omega);exact⟨t,by simp[bU,e];exact e2,hq⟩
  |inr t=>exact⟨t,by simp[bU,e],hr⟩
theorem Ok.loop{S T:Type}{f:S->Option (S⊕T)}{g:T->Option β}{Q:β->Prop}(P:S->Prop)(R:T->Prop)(m:S->Nat){n:Nat}{s:S}(hs:P s)(hm:m s<n)
 (h:∀s,P s->Ok (f s) λr=>match r with|.inl s'=>P s'/\m s'<m s|.inr t=>R t)(hg:∀t,R t->Ok (g t) Q):Ok ((bU f n s).bind g) Q:=(hY P R m hs hm h).bind hg
end
theorem bR{x:Int}(h1:-9223372036854775808<=x)(h2:x<=9223372036854775807):w64 x=x:=wrap_i64 h1 h2
theorem bV(n:Nat):cT (n:Int)=some n:=rfl
theorem bZ(n:Nat):bQ n=(n:Int):=rfl
theorem ca{α:Type}{l:List α}{i:Nat}{a:α}(h:l[i]?=some a):a∈l:=List.mem_of_getElem? h
def W16(x:Int):Prop:=0<=x/\x<=65535
theorem cn{x:Int}(h0:0<=x)(h1:x<=65535):wk .u16 x=x:=by
 unfold wk;rw[ry];omega
theorem cd{x:Int}(h0:-9223372036854775808<=x)(h1:x<=9223372036854775807):wk .i64 x=x:=bR h0 h1
theorem cV{b n m:Nat}(h:b<=1000/\n+m<=1000000):cL b n m=true:=by
 have:=Nat.mul_le_mul h.2 h.1;simp[cL];omega
structure DOk (l:List Int)(k:Int):Prop where
 num:∀x∈l,yb x
 len:l.length<=maxLen
 lo:0<=k
 hi:k<=l.length
theorem DOk.start{l:List Int}(h:∀x∈l,yb x)(hl:l.length<=maxLen):DOk l 0:=⟨h,hl,by omega,by omega⟩
theorem Gy{a b:Int}(ha:yb a)(hb:0<b)(ZY:b<=9223372036854775807):∃v,jA a b=some (v,())/\0<=v/\v<b:=by
 have hne:(b != 0)=true:=by simp;omega
 have hm:=Int.tmod_lt_of_pos a hb
 have hm2:-b<Int.tmod a b:=by
  have:=Int.tmod_lt_of_pos (-a) hb;rw[Int.neg_tmod]at this;omega
 unfold jA;simp[hne];by_cases h:Int.tmod a b<0
 ·refine⟨Int.tmod a b+b,?_,by omega,by omega⟩;simp[h,decide_true];rw[bR (by omega) (by omega)]
 ·refine⟨Int.tmod a b,?_,by omega,hm⟩;simp[h,decide_false,oCF]
section
variable {β:Type} {l:List Int} {k n:Int} {Q:β->Prop}
theorem dV{f:Int×List Int×Int×Unit->Option β}(h:DOk l k)(hn:0<n)(hn2:n<=9223372036854775807)(K:∀v k',0<=v->v<n->DOk l k'->Ok (f (v,l,k',())) Q):Ok ((bL n l k).bind f) Q:=by
 have hl:=h.len;have S5:=h.lo
 have XN:maxLen<=9223372036854775807:=by decide
 by_cases hk:k>=(l.length:Int)
 ·have e:bL n l k=some (0,l,k,()):=by unfold bL;simp[bZ,hk]
  simp_all
 ·obtain⟨j,rfl⟩:∃j:Nat,k=j:=⟨k.toNat,by omega⟩
  have hj:j<l.length:=by omega
  obtain⟨v,hv,h0,h1⟩:=Gy (h.num _ (List.getElem_mem hj)) hn hn2
  have e:bL n l j=some (v,l,(j:Int)+1,()):=by
   unfold bL;delta bQ
   try dsimp only
   rw[bR (x:=(j:Int)+1) (by omega) (by omega),bR (x:=(j:Int)+1-1) (by omega) (by omega)];rw[show(j:Int)+1-1=j by omega,bV];simp[hk,decide_false,oCF,oBS,bS,oGE hj,rC,hv]
  rw[e];exact K v _ h0 h1 ⟨h.num,hl,by omega,by omega⟩
theorem zQ{f:Int×List Int×Int×Unit->Option β}(h:DOk l k)(K:∀v k',0<=v->v<=65535->DOk l k'->Ok (f (v,l,k',())) Q):Ok ((fa l k).bind f) Q:=by
 have hw:Ok (fa l k) λr=>∃v k',r=(v,l,k',())/\0<=v/\v<=65535/\DOk l k':=by
  unfold fa
  (with_reducible refine dV (by assumption) (by omega) (by omega) (λv k a b d=>?_);try dsimp only)
  refine Ok.bind (P:=λr=>∃b,r=(v,b,l,k,())) ?_ ?_
  ·repeat ((with_reducible refine bN (λhc=>?_) λhc=>?_);· exact Ok.ret ⟨_,rfl⟩)
   exact Ok.ret ⟨_,rfl⟩
  ·rintro _ ⟨b,rfl⟩;refine Ok.cond (λ_=>?_) λ_=>?_
   ·(with_reducible refine dV (by assumption) (by omega) (by omega) (λv k a b d=>?_);try dsimp only)
    (simp (disch:=omega) only [bR,cn,cd,bZ])
    exact Ok.ret ⟨_,_,rfl,by omega,by omega,by assumption⟩
   ·(with_reducible refine bN (λhc=>?_) λhc=>?_)
    ·(with_reducible refine dV (by assumption) (by omega) (by omega) (λv k a b d=>?_);try dsimp only)
     (simp (disch:=omega) only [bR,cn,cd,bZ])
     exact Ok.ret ⟨_,_,rfl,by omega,by omega,by assumption⟩
    ·(with_reducible refine dV (by omega) (by omega) (by omega) (λv k a b d=>?_);try dsimp only)
     (simp (disch:=omega) only [bR,cn,cd,bZ])
     exact Ok.ret ⟨_,_,rfl,by omega,by omega,by omega⟩
 refine hw.bind ?_
 simp_all
end
def Cc(s:List Int):Prop:=1<=s.length/\s.length<=4/\∀x∈s,1<=x/\x<=32
theorem If{P:Int->Prop}{a b c:Int}(ha:P a)(hb:P b)(hc:P c):∀x∈[a,b,c],P x:=by
 simp_all
theorem Cw{l:List Int}{k:Int}(h:DOk l k):Ok (iW l k) λr=>∃s k',r=(s,l,k',())/\Cc s/\DOk l k':=by
 unfold iW
 (with_reducible refine dV (by assumption) (by omega) (by omega) (λv0 k0 a0 b0 d0=>?_);try dsimp only)
 (simp (disch:=omega) only [bR,cn,cd,bZ])
 (with_reducible refine dV (by assumption) (by omega) (by omega) (λv1 k1 a1 b1 d1=>?_);try dsimp only)
 refine Ok.loop (P:=λ((c,l',k',s,_):Int×List Int×Int×List Int×Unit)=>l'=l/\DOk l k'/\0<=c/\c+s.length<=4/\1<=s.length/\∀x∈s,1<=x/\x<=32)
  (R:=λ((_,_,l',k',s,_):Int×Bool×List Int×Int×List Int×Unit)=>l'=l/\DOk l k'/\Cc s) (m:=λs=>s.1.toNat) ⟨rfl,d1,a1,by simp;omega,by simp,by simp;omega⟩ (by unfold NN;dsimp only;omega) ?_ ?_
 ·rintro⟨c,l',k3,s,_⟩ ⟨rfl,XX,Yc,W1,Ze,hs⟩;dsimp only at *;unfold j5;dsimp only
  (with_reducible refine bN (λhc=>?_) λhc=>?_)
  ·(with_reducible refine dV (by assumption) (by omega) (by omega) (λv2 k2 a2 b2 d2=>?_);try dsimp only)
   (with_reducible refine Ok.nat (by omega) (λj hj=>?_);try dsimp only)
   have Zw:∀x∈[(6:Int),12,32],6<=x/\x<=32:=by simp_all
   refine Ok.get (by simp;omega) λa ha=>?_;refine Ok.get (by simp;omega) λb hb=>?_;have h7:=Zw b (ca hb)
   (with_reducible refine dV (by assumption) (by omega) (by omega) (λv3 k3 a3 b3 d3=>?_);try dsimp only)
   (simp (disch:=omega) only [bR,cn,cd,bZ])
   refine bP (cV (by simp;omega)) ?_;refine Ok.ret ⟨⟨rfl,by assumption,by omega,?_,?_,?_⟩,?_⟩
   ·simp;omega
   ·simp
   ·intro x hx;simp at hx;rcases hx with hx|rfl
    ·exact hs x hx
    ·omega
   ·dsimp only;omega
  ·exact Ok.ret ⟨rfl,XX,Ze,by dsimp only;omega,hs⟩
 ·rintro⟨a,b,l',k3,s,_⟩ ⟨rfl,XX,hs⟩;exact Ok.ret ⟨_,_,rfl,hs,XX⟩
def eO(op:Int):Bool:=!(op==18||op==23||op==0||op==24)
def eM(op:Int):Bool:=!(op==18||op==23||op==0||op==24||op==1||op==15||op==19||op==20||op==21||op==22)
def eH(op:Int):Bool:=!(op==18||op==23||op==0||op==24||op==1||op==15||op==19||op==20||op==21||op==22||op==2||op==16||op==17)
def eZ(op:Int):Bool:=op==1||op==15||op==19||op==20||op==21||op==16||op==17||op==18||op==23
def fU(op:Int):Bool:=op==18||op==19||op==20||op==21
theorem rz{op:Int}(h0:0<=op)(h1:op<=24):eo op=some (eO op,eM op,eH op,eZ op,()):=by
 obtain⟨n,rfl⟩:∃n:Nat,op=n:=⟨op.toNat,by omega⟩
 have hn:n<25:=by omega
 have key:∀n:Fin 25,(eo ((n.val:Nat):Int)).map (λx=>(x.1,x.2.1,x.2.2.1,x.2.2.2.1))=some (eO (n.val:Nat),eM (n.val:Nat),eH (n.val:Nat),eZ (n.val:Nat)):=by decide
 have:=key ⟨n,hn⟩
 cases h:eo (n:Int)with
 |none=>simp_all
 |some x=>
  obtain⟨a,b,c,d,_⟩:=x
  simp_all
theorem jG(op:Int):dh op=some (fU op,()):=by
 unfold dh fU
 grind
structure eb (n m:Int)(i:DIn):Prop where
 op:0<=i.1/\i.1<=24
 a:0<=i.2.1/\i.2.1<8/\(eO i.1=false->i.2.1=0)
 b:0<=i.2.2.1/\i.2.2.1<8/\(eM i.1=false->i.2.2.1=0)
 c:0<=i.2.2.2.1/\i.2.2.2.1<8/\(eH i.1=false->i.2.2.2.1=0)
 imm:0<=i.2.2.2.2/\i.2.2.2.2<=65535/\(eZ i.1=false->i.2.2.2.2=0)
 lea:i.1=15->i.2.2.2.2<n
 sys:i.1=23->i.2.2.2.2<=15
 jmp:fU i.1=true->i.2.2.2.2<m
theorem ins_mk{n m o a b c i:Int}(ho:0<=o/\o<=24)(ha:0<=a/\a<8)(hb:0<=b/\b<8)(hc:0<=c/\c<8)(hi:0<=i/\i<=65535)(hA:eO o=true\/a=0)(hB:eM o=true\/b=0)(hC:eH o=true\/c=0)(hI:eZ o=true\/i=0)
 (hl:o=15->i<n)(hs:o=23->i<=15)(hj:fU o=true->i<m):eb n m (o,a,b,c,i):=
 ⟨ho,⟨ha.1,ha.2,λh=>hA.elim (λh'=>by simp_all) id⟩,⟨hb.1,hb.2,λh=>hB.elim (λh'=>by simp_all) id⟩,
  ⟨hc.1,hc.2,λh=>hC.elim (λh'=>by simp_all) id⟩,⟨hi.1,hi.2,λh=>hI.elim (λh'=>by simp_all) id⟩,hl,hs,hj⟩
theorem tT{n m r v:Int}(h:0<=r/\r<8)(hv:0<=v/\v<=65535):eb n m (1,r,0,0,v):=ins_mk (by decide) h (by decide) (by decide) hv (.inl (by decide)) (.inr rfl) (.inr rfl) (.inl (by decide)) (by omega) (by omega) (λh=>absurd h (by decide))
theorem vA{n m r v:Int}(h:0<=r/\r<8)(hv:0<=v/\v<8):eb n m (2,r,v,0,0):=ins_mk (by decide) h hv (by decide) (by decide) (.inl (by decide)) (.inl (by decide)) (.inr rfl) (.inr rfl) (by omega) (by omega) (λh=>absurd h (by decide))
theorem o8{n m v:Int}(hv:0<=v/\v<=15):eb n m (23,0,0,0,v):=ins_mk (by decide) (by decide) (by decide) (by decide) (by omega) (.inr rfl) (.inr rfl) (.inr rfl) (.inl (by decide)) (by omega) (by omega) (λh=>absurd h (by decide))
theorem vC{n m r v:Int}(h:0<=r/\r<8)(hv:0<=v/\v<n)(hn:n<=4):eb n m (15,r,0,0,v):=ins_mk (by decide) h (by decide) (by decide) (by omega) (.inl (by decide)) (.inr rfl) (.inr rfl) (.inl (by decide)) (by omega) (by omega) (λh=>absurd h (by decide))
theorem zU{n m o a b v:Int}(ho:o=16\/o=17)(h:0<=a/\a<8)(hb:0<=b/\b<8)(hv:0<=v/\v<=65535):eb n m (o,a,b,0,v):=by
 rcases ho with rfl|rfl
 all_goals exact ins_mk (by decide) h hb (by decide) hv (.inl (by decide)) (.inl (by decide)) (.inr rfl) (.inl (by decide)) (by omega) (by omega) (λh=>absurd h (by decide))
theorem vv{n m o a b c:Int}(ho:3<=o/\o<=14)(h:0<=a/\a<8)(hb:0<=b/\b<8)(hc:0<=c/\c<8):eb n m (o,a,b,c,0):=
 ins_mk (by omega) h hb hc (by decide) (.inl (by unfold eO;simp;omega)) (.inl (by unfold eM;simp;omega)) (.inl (by unfold eH;simp;omega)) (.inr rfl) (by omega) (by omega) (λh=>by unfold fU at h;simp at h;omega)
theorem FA{n m v:Int}(hv:0<=v/\v<=65535)(hm:v<m):eb n m (18,0,0,0,v):=ins_mk (by decide) (by decide) (by decide) (by decide) hv (.inr rfl) (.inr rfl) (.inr rfl) (.inl (by decide)) (by omega) (by omega) (λ_=>hm)
theorem E6{n m:Int}:eb n m (24,0,0,0,0):=ins_mk (by decide) (by decide) (by decide) (by decide) (by decide) (.inr rfl) (.inr rfl) (.inr rfl) (.inr rfl) (by omega) (by omega) (λh=>absurd h (by decide))
theorem eb.mono{n m m':Int}{i:DIn}(h:eb n m i)(hm:m<=m'):eb n m' i:=⟨h.op,h.a,h.b,h.c,h.imm,h.lea,h.sys,λhj=>by have:=h.jmp hj;omega⟩
theorem vL{n m a v:Int}(h:0<=a/\a<8)(hv:0<=v/\v<=65535)(hm:v<m):eb n m (20,a,0,0,v):=ins_mk (by decide) h (by decide) (by decide) hv (.inl (by decide)) (.inr rfl) (.inr rfl) (.inl (by decide)) (by omega) (by omega) (λ_=>hm)
theorem xw{n most k:Int}{l:List Int}(h:DOk l k)(hn:1<=n/\n<=4)(hm:1<=most/\most<=100):Ok (gx n most l k) λr=>∃o a b c i k',r=(o,a,b,c,i,l,k',())/\eb n most (o,a,b,c,i)/\DOk l k':=by
 unfold gx
 (with_reducible refine dV (by assumption) (by omega) (by omega) (λv0 k0 a0 b0 d0=>?_);try dsimp only)
 rw[rz (by omega) (by omega)];simp only[oBS];refine Ok.bind (P:=λr=>∃x k',r=(n,most,l,k',0,0,0,0,0,v0,x,0,0,0,eO v0,eM v0,eH v0,eZ v0,())/\0<=x/\x<8/\(eO v0=false->x=0)/\DOk l k') ?_ ?_
 ·refine Ok.cond (λhc=>?_) λhc=>Ok.ret ⟨_,_,rfl,by omega,by omega,λ_=>rfl,d0⟩
  (with_reducible refine dV (by assumption) (by omega) (by omega) (λv1 k1 a1 b1 d1=>?_);try dsimp only)
  exact Ok.ret ⟨_,_,rfl,a1,b1,(λhh=>by rw[hc]at hh;cases hh),d1⟩
 rintro _ ⟨xa,k1,rfl,OJ,Wq,W8,d1⟩;dsimp only;refine Ok.bind (P:=λr=>∃x k',r=(n,most,l,k',0,0,0,0,0,v0,xa,x,0,0,eO v0,eM v0,eH v0,eZ v0,())/\0<=x/\x<8/\(eM v0=false->x=0)/\DOk l k') ?_ ?_
 ·refine Ok.cond (λhc=>?_) λhc=>Ok.ret ⟨_,_,rfl,by omega,by omega,λ_=>rfl,d1⟩
  (with_reducible refine dV (by assumption) (by omega) (by omega) (λv2 k2 a2 b2 d2=>?_);try dsimp only)
  exact Ok.ret ⟨_,_,rfl,a2,b2,(λhh=>by rw[hc]at hh;cases hh),d2⟩
 rintro _ ⟨xb,k2,rfl,Rt,ZM,ZY,d2⟩;dsimp only;refine Ok.bind (P:=λr=>∃x k',r=(n,most,l,k',0,0,0,0,0,v0,xa,xb,x,0,eO v0,eM v0,eH v0,eZ v0,())/\0<=x/\x<8/\(eH v0=false->x=0)/\DOk l k') ?_ ?_
 ·refine Ok.cond (λhc=>?_) λhc=>Ok.ret ⟨_,_,rfl,by omega,by omega,λ_=>rfl,d2⟩
  (with_reducible refine dV (by assumption) (by omega) (by omega) (λv3 k3 a3 b3 d3=>?_);try dsimp only)
  exact Ok.ret ⟨_,_,rfl,a3,b3,(λhh=>by rw[hc]at hh;cases hh),d3⟩
 rintro _ ⟨xc,k3,rfl,Yc,ZT,ZH,d3⟩;dsimp only;rw[jG];simp only[oBS];refine Ok.bind (P:=λr=>∃x k',r=(l,k',0,0,0,0,0,v0,xa,xb,xc,x,())/\0<=x/\x<=65535/\(eZ v0=false->x=0)/\(v0=15->x<n)/\(v0=23->x<=15)/\(fU v0=true->x<most)/\DOk l k') ?_ ?_
 ·refine Ok.cond (λhj=>?_) λhj=>?_
  ·(with_reducible refine dV (by assumption) (by omega) (by omega) (λv4 k4 a4 b4 d4=>?_);try dsimp only)
   have hne:v0≠15/\v0≠23:=by constructor<;>(rintro rfl;exact absurd hj (by decide))
   exact Ok.ret ⟨_,_,rfl,a4,by omega,(λhh=>by
    have:eZ v0=true:=by unfold fU at hj;unfold eZ;simp at hj⊢;omega
    rw[this]at hh;cases hh),by omega,by omega,λ_=>b4,d4⟩
  ·(with_reducible refine bN (λQu=>?_) λQu=>?_)
   ·subst Qu
    (with_reducible refine dV (by assumption) (by omega) (by omega) (λv4 k4 a4 b4 d4=>?_);try dsimp only)
    exact Ok.ret ⟨_,_,rfl,a4,by omega,λhh=>absurd hh (by decide),by omega,by omega,λhh=>absurd hh (by decide),d4⟩
   ·(with_reducible refine bN (λQv=>?_) λQv=>?_)
    ·subst Qv
     (with_reducible refine dV (by assumption) (by omega) (by omega) (λv4 k4 a4 b4 d4=>?_);try dsimp only)
     exact Ok.ret ⟨_,_,rfl,a4,by omega,λhh=>absurd hh (by decide),by omega,by omega,λhh=>absurd hh (by decide),d4⟩
    ·refine Ok.cond (λhu=>?_) λhu=>?_
     ·(with_reducible refine zQ (by assumption) (λv4 k4 a4 b4 d4=>?_);try dsimp only)
      (simp (disch:=omega) only [bR,cn,cd,bZ])
      exact Ok.ret ⟨_,_,rfl,a4,by omega,(λhh=>by rw[hu]at hh;cases hh),by omega,by omega,(λhh=>by rw[show fU v0=false from hj]at hh;cases hh),d4⟩
     ·exact Ok.ret ⟨_,_,rfl,by omega,by omega,λ_=>rfl,by omega,by omega,(λhh=>by rw[show fU v0=false from hj]at hh;cases hh),d3⟩
 rintro _ ⟨xi,k4,rfl,RU,Wa,hi2,O5,O6,O7,d4⟩;exact Ok.ret ⟨_,_,_,_,_,_,rfl,⟨⟨a0,by dsimp only;omega⟩,⟨OJ,Wq,W8⟩,⟨Rt,ZM,ZY⟩,⟨Yc,ZT,ZH⟩,⟨RU,Wa,hi2⟩,O5,O6,O7⟩,d4⟩
theorem hZ{α β:Type}{l:List α}{i:Nat}{f:α->Option β}{Q:β->Prop}(P:α->Prop)(h:i<l.length)(hP:∀x∈l,P x)(h2:∀a,P a->Ok (f a) Q):Ok ((bS l i).bind f) Q:=Ok.get h λa ha=>h2 a (hP a (ca ha))
theorem cU{α:Type}{P:α->Prop}:∀x∈([]:List α),P x:=λ_ h=>by cases h
theorem all_cons{α:Type}{P:α->Prop}{a:α}{l:List α}(h:P a)(h2:∀x∈l,P x):∀x∈a::l,P x:=by
 simp_all
theorem GA(a b:Int):ew a b=some (1,a,0,0,b,()):=rfl
theorem Gx(a b:Int):gS a b=some (2,a,b,0,0,()):=rfl
theorem D9(a:Int):dZ a=some (23,0,0,0,a,()):=rfl
theorem Il{x:Int}(h:1<=x):1<=mmR false 5 x/\mmR false 5 x<=5:=by
 unfold mmR;simp;omega
def xZ(n at_:Int)(l:List Int)(r:List DIn×List Int×Int×Unit):Prop:=∃xs k',r=(xs,l,k',())/\1<=xs.length/\xs.length<=6/\(∀i∈xs,eb n (at_+xs.length) i)/\DOk l k'
theorem rM{n at_:Int}{l:List Int}{xs:List DIn}{k:Int}(h1:1<=xs.length/\xs.length<=6)(h2:∀i∈xs,eb n (at_+xs.length) i)(h3:DOk l k):Ok (some (xs,l,k,())) (xZ n at_ l):=Ok.ret ⟨xs,k,rfl,h1.1,h1.2,h2,h3⟩
theorem Ff{s l:List Int}{at_ k:Int}(h:DOk l k)(hs:Cc s)(ha:0<=at_/\at_<=99):Ok (jB s (at_+1) at_ l k) (xZ s.length at_ l):=by
 obtain⟨Ze,Wk,hsz⟩:=hs
 have hn:1<=(s.length:Int)/\(s.length:Int)<=4:=by omega
 unfold jB;delta bQ;simp only[GA,Gx,D9,oBS]
 (with_reducible refine dV (by assumption) (by omega) (by omega) (λvr kr ar br dr=>?_);try dsimp only)
 refine Ok.nat (by omega) λj hj=>?_;refine hZ (λa=>1<=a/\a<=32) (by omega) hsz λz hz=>?_
 (simp (disch:=omega) only [bR,cn,cd,bZ])
 have h5:=Il (x:=z+1) (by omega);generalize mmR false 5 (z+1)=mm at h5
 (with_reducible refine dV (by assumption) (by omega) (by omega) (λvu ku au bu du=>?_);try dsimp only)
 (with_reducible refine dV (by assumption) (by omega) (by omega) (λvw kw aw bw dw=>?_);try dsimp only)
 iterate 19
  (with_reducible refine bN (λhcc=>?_) λhcc=>?_)
  ·repeat (first|(simp (disch:=omega) only [bR,cn,cd,bZ])|(with_reducible refine dV (by assumption) (by omega) (by omega) (λv k a b d=>?_);try dsimp only)|(with_reducible refine zQ (by assumption) (λv k a b d=>?_);try dsimp only)|(with_reducible refine Ok.nat (by omega) (λj hj=>?_);try dsimp only)|((with_reducible first|refine hZ (λa=>1<=a/\a<=32) (by omega) (by assumption) (λe he=>?_)|refine hZ (λa=>3<=a/\a<=14) (by simp only[oLC,List.length_nil];omega) (by(first|exact(all_cons (by omega) (all_cons (by omega) cU))|exact(all_cons (by omega) (all_cons (by omega) (all_cons (by omega) cU)))|exact(all_cons (by omega) (all_cons (by omega) (all_cons (by omega) (all_cons (by omega) (all_cons (by omega) (all_cons (by omega) (all_cons (by omega) (all_cons (by omega) cU)))))))))) (λe he=>?_)|refine hZ (λa=>0<=a/\a<=15) (by simp only[oLC,List.length_nil];omega) (by(first|exact(all_cons (by omega) (all_cons (by omega) cU))|exact(all_cons (by omega) (all_cons (by omega) (all_cons (by omega) cU)))|exact(all_cons (by omega) (all_cons (by omega) (all_cons (by omega) (all_cons (by omega) (all_cons (by omega) (all_cons (by omega) (all_cons (by omega) (all_cons (by omega) cU)))))))))) (λe he=>?_)|refine hZ (λa=>1<=a/\a<=100) (by simp only[oLC,List.length_nil];omega) (by(first|exact(all_cons (by omega) (all_cons (by omega) cU))|exact(all_cons (by omega) (all_cons (by omega) (all_cons (by omega) cU)))|exact(all_cons (by omega) (all_cons (by omega) (all_cons (by omega) (all_cons (by omega) (all_cons (by omega) (all_cons (by omega) (all_cons (by omega) (all_cons (by omega) cU)))))))))) (λe he=>?_));try dsimp only)|(with_reducible refine bP (cV (by first|omega|simp)) ?_;try dsimp only)|(refine hZ (λ(a:List DIn)=>(1<=a.length/\a.length<=6)/\∀i∈a,eb s.length (at_+a.length) i) (by simp only[oLC,List.length_nil];omega) (all_cons ⟨by simp,by((repeat' (first|exact cU|refine all_cons ?_ ?_|exact tT (by omega) (by omega)|exact vA (by omega) (by omega)|exact o8 (by omega)|exact vC (by omega) (by omega) (by omega)|exact zU (by omega) (by omega) (by omega) (by omega)|exact vv (by omega) (by omega) (by omega) (by omega)|exact vL (by omega) (by omega) (by simp only[oLC,List.length_nil];omega)));done)⟩ (all_cons ⟨by simp,by((repeat' (first|exact cU|refine all_cons ?_ ?_|exact tT (by omega) (by omega)|exact vA (by omega) (by omega)|exact o8 (by omega)|exact vC (by omega) (by omega) (by omega)|exact zU (by omega) (by omega) (by omega) (by omega)|exact vv (by omega) (by omega) (by omega) (by omega)|exact vL (by omega) (by omega) (by simp only[oLC,List.length_nil];omega)));done)⟩ cU)) (λe he=>?_);try dsimp only))
   first
    |exact rM he.1 he.2 (by assumption)
    |(refine rM (by simp) ?_ (by assumption);try simp only[List.append_eq,List.cons_append,List.nil_append]
      ((repeat' (first|exact cU|refine all_cons ?_ ?_|exact tT (by omega) (by omega)|exact vA (by omega) (by omega)|exact o8 (by omega)|exact vC (by omega) (by omega) (by omega)|exact zU (by omega) (by omega) (by omega) (by omega)|exact vv (by omega) (by omega) (by omega) (by omega)|exact vL (by omega) (by omega) (by simp only[oLC,List.length_nil];omega)));done))
 refine(xw (by assumption) hn (by omega)).bind ?_;rintro _ ⟨o,a,b,c,i,k',rfl,hi,hd⟩;exact rM (by simp) (all_cons (hi.mono (by simp)) cU) hd
theorem kf{α:Type}{P:α->Prop}{l m:List α}(h:∀x∈l,P x)(h2:∀x∈m,P x):∀x∈List.append l m,P x:=λx hx=>(List.mem_append.1 (show x∈l++m from hx)).elim (h x) (h2 x)
theorem fb{α:Type}(l m:List α):(List.append l m).length=l.length+m.length:=List.length_append
theorem Cn{l:List Int}{k n:Int}(h:DOk l k)(hn:0<=n/\n<=1000):Ok (iV n l k) λr=>∃ws k',r=(ws,l,k',())/\(ws.length:Int)<=n/\(∀w∈ws,W16 w)/\DOk l k':=by
 unfold iV
 (simp (disch:=omega) only [bR,cn,cd,bZ])
 (with_reducible refine dV (by assumption) (by omega) (by omega) (λv0 k0 a0 b0 d0=>?_);try dsimp only)
 refine Ok.loop (P:=λ((c,l',k',s,_):Int×List Int×Int×List Int×Unit)=>l'=l/\DOk l k'/\0<=c/\c+s.length<=n/\∀x∈s,W16 x)
  (R:=λ((_,_,l',k',s,_):Int×Bool×List Int×Int×List Int×Unit)=>l'=l/\DOk l k'/\(s.length:Int)<=n/\∀x∈s,W16 x) (m:=λs=>s.1.toNat) ⟨rfl,d0,a0,by simp;omega,cU⟩ (by unfold NN;dsimp only;omega) ?_ ?_
 ·rintro⟨c,l',k3,s,_⟩ ⟨rfl,XX,Yc,W1,hs⟩;unfold j4;dsimp only
  (with_reducible refine bN (λhcc=>?_) λhcc=>?_)
  ·(with_reducible refine zQ (by assumption) (λv1 k1 a1 b1 d1=>?_);try dsimp only)
   refine bP (cV (by simp;omega)) ?_
   (simp (disch:=omega) only [bR,cn,cd,bZ])
   exact Ok.ret ⟨⟨rfl,by omega,by omega,by rw[fb];simp;omega,kf hs (all_cons ⟨a1,b1⟩ cU)⟩,by omega⟩
  ·exact Ok.ret ⟨rfl,XX,by dsimp only;omega,hs⟩
 ·rintro⟨a,b,l',k3,s,_⟩ ⟨rfl,XX,hs,hw⟩;exact Ok.ret ⟨_,_,rfl,hs,hw,XX⟩
structure eU (code:List DIn)(s:List Int)(d:List (List Int)):Prop where
 sz:Cc s
 len:d.length=s.length
 fit:∀(j:Nat) x n,d[j]?=some x->s[j]?=some n->(x.length:Int)<=n
 num:∀x∈d,∀w∈x,W16 w
 clen:1<=code.length/\code.length<=64
 ins:∀i∈code,eb s.length code.length i
theorem xI{code:List DIn}{s:List Int}{d:List (List Int)}{l:List Int}{k:Int}(hp:eU code s d):
 Ok (bU dQ NN ((code.length:Int),0,l,k,(),(),(),code,s,d,())) λr=>∃a b c,r=(a,b,c,l,k,(),(),(),code,s,d,()):=by
 have:=Ok.loop (f:=dQ) (n:=NN) (Q:=λr=>∃a b c,r=(a,b,c,l,k,(),(),(),code,s,d,())) (s:=((code.length:Int),0,l,k,(),(),(),code,s,d,()))
  (P:=λs'=>∃i:Int,s'=((code.length:Int),i,l,k,(),(),(),code,s,d,())/\0<=i/\i<=code.length) (R:=λr=>∃a b c,r=(a,b,c,l,k,(),(),(),code,s,d,())) (m:=λs=>(s.1-s.2.1).toNat) ⟨0,rfl,by omega,by omega⟩ (by unfold NN;dsimp only;have:=hp.clen;omega) ?_ (λt ht=>Ok.ret ht)
 ·simp_all
 ·rintro _ ⟨i,rfl,RU,Wa⟩;unfold dQ;dsimp only;have hc:=hp.clen
  (with_reducible refine bN (λhcc=>?_) λhcc=>?_)
  ·refine Ok.bind (P:=λr=>r=((code.length:Int),i,l,k,(),(),(),code,s,d,())) ?_ ?_
   ·(with_reducible refine Ok.nat (by omega) (λj hj=>?_);try dsimp only)
    refine Ok.get (by omega) λx hx=>?_;have hin:=hp.ins x (ca hx);rw[jG];refine Ok.cond (λPa=>?_) λ_=>Ok.ret rfl;refine Ok.nat (by omega) λj2 X8=>?_;refine Ok.get (by omega) λy hy=>?_
    have hjj:j2=j:=by omega
    subst hjj;rw[hx]at hy
    injection hy with hy
    subst hy;have:=hin.jmp Pa;refine Ok.cond (λhcc=>?_) (λhcc=>?_)
    ·have h9:(x.2.2.2.2:Int)>=(code.length:Int):=of_decide_eq_true hcc;omega
    ·exact Ok.ret rfl
   ·rintro _ rfl;dsimp only
    (simp (disch:=omega) only [bR,cn,cd,bZ])
    exact Ok.ret ⟨⟨i+1,rfl,by omega,by omega⟩,by dsimp only;omega⟩
  ·exact Ok.ret ⟨_,_,_,rfl⟩
theorem yL{l:List Int}{k:Int}(h:DOk l k):Ok (gp l k) λr=>∃code s d k',r=(code,s,d,l,k',())/\eU code s d/\DOk l k':=by
 unfold gp;refine(Cw h).bind ?_;rintro _ ⟨s,k1,rfl,hs,hd⟩;obtain⟨Ze,Wk,hsz⟩:=id hs;dsimp only;delta bQ
 try dsimp only
 refine Ok.loop (P:=λs'=>∃k' d,s'=((s.length:Int),(d.length:Int),l,k',(),(),(),(),s,d,())/\DOk l k'/\d.length<=s.length/\(∀(j:Nat) x n,d[j]?=some x->s[j]?=some n->(x.length:Int)<=n)/\∀x∈d,∀w∈x,W16 w)
  (R:=λr=>∃a b c k' d,r=(a,b,c,l,k',(),(),(),(),s,d,())/\DOk l k'/\d.length=s.length/\(∀(j:Nat) x n,d[j]?=some x->s[j]?=some n->(x.length:Int)<=n)/\∀x∈d,∀w∈x,W16 w)
  (m:=λs=>(s.1-s.2.1).toNat) ⟨k1,[],rfl,hd,by simp,by simp,cU⟩ (by unfold NN;dsimp only;omega) ?_ ?_
 ·rintro _ ⟨k',d,rfl,YM,V4,ZN,XE⟩;unfold ji;dsimp only
  (with_reducible refine bN (λhcc=>?_) λhcc=>?_)
  ·(with_reducible refine Ok.nat (by omega) (λj hj=>?_);try dsimp only)
   refine Ok.get (by omega) λx hx=>?_;refine Ok.get (by omega) λy hy=>?_
   have Z0:j=d.length:=by omega
   subst Z0;have X5:=hsz y (ca hy);refine(Cn YM ⟨by omega,by omega⟩).bind ?_;rintro _ ⟨ws,k2,rfl,Tc,PH,hd2⟩;dsimp only;refine bP (cV (by simp;omega)) ?_
   (simp (disch:=omega) only [bR,cn,cd,bZ])
   refine Ok.ret ⟨⟨k2,List.append d [ws],by rw[fb];simp,hd2,by rw[fb];simp;omega,?_,kf XE (all_cons PH cU)⟩,by dsimp only;omega⟩;intro i x n hx hn;rw[show List.append d [ws]=d++[ws]from rfl,List.getElem?_append]at hx;split at hx
   ·exact ZN i x n hx hn
   ·rename_i Wt
    have:i-d.length=0:=by
     rcases Nat.eq_zero_or_pos (i-d.length)with h|h
     ·exact h
     ·rw[oGN (by simp;omega)]at hx;cases hx
    have hi:i=d.length:=by omega
    subst hi;simp at hx;subst hx;rw[hy]at hn
    injection hn with hn
    omega
  ·exact Ok.ret ⟨_,_,_,_,_,rfl,YM,by omega,ZN,XE⟩
 rintro _ ⟨a,b,c,k2,d,rfl,hd2,V4,ZN,XE⟩;dsimp only
 (with_reducible refine dV (by assumption) (by omega) (by omega) (λv0 k0 a0 b0 d0=>?_);try dsimp only)
 (simp (disch:=omega) only [bR,cn,cd,bZ])
 refine Ok.loop (P:=λs'=>∃i k' code,s'=(i,l,k',(),(),(),code,s,d,())/\0<=i/\i<=12/\DOk l k'/\code.length<=62/\∀i∈code,eb s.length code.length i)
  (R:=λr=>∃a b k' code,r=(a,b,l,k',(),(),(),code,s,d,())/\DOk l k'/\code.length<=62/\∀i∈code,eb s.length code.length i)
  (m:=λs=>s.1.toNat) ⟨_,_,[],rfl,by omega,by omega,d0,by simp,cU⟩ (by unfold NN;dsimp only;omega) ?_ ?_
 ·rintro _ ⟨i,k',code,rfl,RU,Wa,YM,ZE,XC⟩;unfold jh;dsimp only
  (with_reducible refine bN (λhcc=>?_) λhcc=>?_)
  ·refine Ok.bind (P:=λr=>∃k' code,r=(i,l,k',(),(),(),code,s,d,())/\DOk l k'/\code.length<=62/\∀i∈code,eb s.length code.length i) ?_ ?_
   ·(simp (disch:=omega) only [bR,cn,cd,bZ])
    refine(Ff YM hs ⟨by omega,by omega⟩).bind ?_;rintro _ ⟨xs,k3,rfl,Z4,NX,Yh,XX⟩;dsimp only
    (simp (disch:=omega) only [bR,cn,cd,bZ])
    (with_reducible refine bN (λhcc=>?_) λhcc=>?_)
    ·refine bP (cV (by omega)) ?_;refine Ok.ret ⟨_,_,rfl,XX,by rw[fb];omega,?_⟩;rw[fb];exact kf (λi hi=>(XC i hi).mono (by omega)) (λi hi=>(Yh i hi).mono (by omega))
    ·exact Ok.ret ⟨_,_,rfl,XX,ZE,XC⟩
   ·rintro _ ⟨k3,Y8,rfl,XX,TG,Xr⟩;dsimp only
    (simp (disch:=omega) only [bR,cn,cd,bZ])
    exact Ok.ret ⟨⟨_,_,_,rfl,by omega,by omega,XX,TG,Xr⟩,by dsimp only;omega⟩
  ·exact Ok.ret ⟨_,_,_,_,rfl,YM,ZE,XC⟩
 rintro _ ⟨a,b,k3,code,rfl,XX,ZE,XC⟩;dsimp only;refine Ok.bind (P:=λr=>∃k' code,r=(l,k',(),(),(),code,s,d,())/\DOk l k'/\code.length<=63/\∀i∈code,eb s.length (code.length+1) i) ?_ ?_
 ·(with_reducible refine dV (by assumption) (by omega) (by omega) (λv1 k1 a1 b1 d1=>?_);try dsimp only)
  (with_reducible refine bN (λhcc=>?_) λhcc=>?_)
  ·(simp (disch:=omega) only [bR,cn,cd,bZ])
   (with_reducible refine dV (by assumption) (by omega) (by omega) (λv2 k2 a2 b2 d2=>?_);try dsimp only)
   refine bP (cV (by simp;omega)) ?_;refine Ok.ret ⟨_,_,rfl,d2,by rw[fb];simp;omega,?_⟩;rw[fb];exact kf (λi hi=>(XC i hi).mono (by simp;omega)) (all_cons (FA (by omega) (by simp;omega)) cU)
  ·(with_reducible refine bN (λhcc=>?_) λhcc=>?_)
   ·refine bP (cV (by simp;omega)) ?_;refine Ok.ret ⟨_,_,rfl,d1,by rw[fb];simp;omega,?_⟩;rw[fb];exact kf (λi hi=>(XC i hi).mono (by simp;omega)) (all_cons E6 cU)
   ·exact Ok.ret ⟨_,_,rfl,d1,by omega,λi hi=>(XC i hi).mono (by omega)⟩
 rintro _ ⟨k4,Y8,rfl,NQ,TG,Xr⟩;dsimp only
 (with_reducible refine dV (by assumption) (by omega) (by omega) (λv3 k3 a3 b3 d3=>?_);try dsimp only)
 simp only[GA,D9,oBS];refine bP (cV (by simp;omega)) ?_;simp only[fb];refine Ok.cond (λhc=>?_) λ_=>?_
 ·have ZQ:∀i∈List.append Y8 [(1,0,0,0,v3),(23,0,0,0,0)],eb s.length (Y8.length+1) i:=kf Xr (all_cons (tT (by omega) (by omega)) (all_cons (o8 (by omega)) cU));simp only[oDE]at hc
  have SZ:(Y8.length:Int)+2>64:=by
   have:((Y8.length + [((1:Int),(0:Int),(0:Int),(0:Int),v3),(23,0,0,0,0)].length:Nat):Int)>64:=hc;simpa using this
  have Qe:Y8.length=63:=by omega
  refine bP (by rw[Qe];rfl) ?_
  have hlen:(lO (List.append Y8 [((1:Int),(0:Int),(0:Int),(0:Int),v3),(23,0,0,0,0)]) 0 (Nat.sub 64 0)).length=64:=by
   unfold lO;rw[oLT,List.drop_zero,fb,Qe];rfl
  have hp:eU (lO (List.append Y8 [((1:Int),(0:Int),(0:Int),(0:Int),v3),(23,0,0,0,0)]) 0 (Nat.sub 64 0)) s d:=by
   refine⟨hs,V4,ZN,XE,by rw[hlen];decide,λi hi=>?_⟩;rw[hlen];refine(ZQ i ?_).mono (by omega);unfold lO at hi;exact List.mem_of_mem_drop (List.mem_of_mem_take hi)
  refine(xI (l:=l) (k:=_) hp).bind ?_;rintro _ ⟨a,b,c,rfl⟩;exact Ok.ret ⟨_,_,_,_,rfl,hp,d3⟩
 ·have hp:eU (List.append Y8 [(1,0,0,0,v3),(23,0,0,0,0)]) s d:=by
   refine⟨hs,V4,ZN,XE,?_,?_⟩
   ·rw[fb];rename_i hc;have SZ:¬((Y8.length + [((1:Int),(0:Int),(0:Int),(0:Int),v3),(23,0,0,0,0)].length:Nat):Int)>64:=of_decide_eq_false hc;simp only[oLC,List.length_nil]at SZ⊢;omega
   ·rw[fb];exact kf (λi hi=>(Xr i hi).mono (by simp)) (all_cons (tT (by omega) (by omega)) (all_cons (o8 (by omega)) cU))
  have hf:=xI (l:=l) (k:=k3) hp;rw[fb]at hf;refine hf.bind ?_;rintro _ ⟨a,b,c,rfl⟩;exact Ok.ret ⟨_,_,_,_,rfl,hp,d3⟩
theorem DW{P:Int->Prop}{s:List Int}{i:Nat}{x:Int}(h:∀(j:Nat) y,j<i->s[j]?=some y->P y)(hx:s[i]?=some x)(hp:P x):∀(j:Nat) y,j<i+1->s[j]?=some y->P y:=by
 grind
theorem u6{s:List Int}(hl:s.length<=1000):Ok (df s) λr=>r.1=true↔Cc s:=by
 unfold df;delta bQ
 try dsimp only
 obtain⟨t,e,ht⟩:=hY (f:=gI) (n:=NN) (s:=(s,s,(s.length:Int),0,())) (P:=λs'=>∃i:Nat,s'=(s,s,(s.length:Int),(i:Int),())/\i<=s.length/\∀(j:Nat) y,j<i->s[j]?=some y->1<=y/\y<=32)
  (R:=λr=>(r=.inl (false,())/\∃y∈s,¬(1<=y/\y<=32))\/((∃a b c d,r=.inr (s,a,b,c,d,()))/\∀y∈s,1<=y/\y<=32)) (m:=λs'=>(s'.2.2.1-s'.2.2.2.1).toNat) ⟨0,rfl,by omega,λj y hj=>by omega⟩ (by unfold NN;dsimp only;omega) (by
   rintro _ ⟨i,rfl,hi,ZQ⟩;unfold gI
   (with_reducible refine bN (λhcc=>?_) λhcc=>?_)
   ·rw[bV];refine Ok.get (by omega) λx hx=>?_
    (with_reducible refine bN (λVA=>?_) λVA=>?_)
    ·exact Ok.ret (.inl ⟨rfl,x,ca hx,by omega⟩)
    ·(with_reducible refine bN (λTD=>?_) λTD=>?_)
     ·exact Ok.ret (.inl ⟨rfl,x,ca hx,by omega⟩)
     ·(simp (disch:=omega) only [bR,cn,cd,bZ])
      exact Ok.ret ⟨⟨i+1,rfl,by omega,DW ZQ hx ⟨by omega,by omega⟩⟩,by dsimp only;omega⟩
   ·refine Ok.ret (.inr ⟨⟨_,_,_,_,rfl⟩,λy hy=>?_⟩);have ⟨j,hj⟩:=List.getElem?_of_mem hy
    exact ZQ j y (by have:=(oGS hj).1;omega) hj)
 rw[e]
 rcases ht with⟨rfl,y,hy,hn⟩|⟨⟨a,b,c,d,rfl⟩,ZQ⟩
 ·exact Ok.ret ⟨λh=>(by cases h),λh=>absurd (h.2.2 y hy) hn⟩
 ·dsimp only
  (with_reducible refine bN (λhcc=>?_) λhcc=>?_)
  ·exact Ok.ret ⟨λh=>⟨by omega,(by have:=of_decide_eq_true h;omega),ZQ⟩,λh=>oDT (by have:=h.2.1;omega)⟩
  ·exact Ok.ret ⟨λh=>(by cases h),λh=>by have:=h.1;omega⟩
abbrev VS(xs:List Int):Prop:=Cc xs
theorem FJ{l:List Int}{k:Nat}(h:k<l.length):l.getD k 0=l[k]:=by simp[List.getD,h]
def jX(bs ss:List Int)(i:Nat):Prop:=
 0<=bs.getD i 0/\bs.getD i 0+ss.getD i 0<=512/\∀k,k<i->¬(bs.getD i 0<=bs.getD k 0+ss.getD k 0/\bs.getD k 0<=bs.getD i 0+ss.getD i 0)
def LV(bs ss:List Int):Prop:=VS ss/\bs.length=ss.length/\∀i,i<bs.length->jX bs ss i
theorem VS.at_{ss:List Int}(h:VS ss){i:Nat}(hi:i<ss.length):1<=ss[i]/\ss[i]<=32:=h.2.2 _ (List.getElem_mem hi)
def li(ss:List Int)(seed:Int):Nat->List Int×Int
 |0=>(List.replicate ss.length 0,1+seed/ss.length%50)
 |k+1=>((li ss seed k).1.set (((k+seed)%ss.length).toNat) (li ss seed k).2,(li ss seed k).2+(ss.getD ((k+seed)%ss.length).toNat 0+1+seed/(50*ss.length)%40))
def mkB(ss:List Int)(seed:Int):List Int:=(li ss seed ss.length).1
theorem Dk(ss:List Int)(seed:Int)(k:Nat):(li ss seed k).1.length=ss.length:=by
 induction k with
 |zero=>simp[li]
 |succ k ih=>simp[li,ih]
theorem VS.getD{ss:List Int}(h:VS ss){i:Nat}(hi:i<ss.length):1<=ss.getD i 0/\ss.getD i 0<=32:=by rw[FJ hi];exact h.at_ hi
theorem Ed{n k:Nat}{seed:Int}(hn:1<=n):0<=((k:Int)+seed)%n/\((k:Int)+seed)%n<n:=
 ⟨Int.emod_nonneg _ (by omega),Int.emod_lt_of_pos _ (by omega)⟩
theorem Fj{ss:List Int}{seed:Int}(h:VS ss)(hs:0<=seed)(k:Nat):1<=(li ss seed k).2/\(li ss seed k).2<=50+72*k:=by
 induction k with
 |zero=>simp[li];omega
 |succ k ih=>
  simp only[li];have hr:=Ed (k:=k) (seed:=seed) h.1;have:=h.getD (i:=(((k:Int)+seed)%ss.length).toNat) (by omega);omega
theorem Bn{ss:List Int}(h0:1<=ss.length)(h1:ss.length<=4):(∃a,ss=[a])\/(∃a b,ss=[a,b])\/(∃a b c,ss=[a,b,c])\/(∃a b c d,ss=[a,b,c,d]):=by
 match ss,h0,h1 with
 | [a],_,_=>simp_all
 | [a,b],_,_=>simp_all
 | [a,b,c],_,_=>simp_all
 | [a,b,c,d],_,_=>simp_all
theorem oH{P:Nat->Prop}(h0:P 0):∀i,i<1->P i:=by
 simp_all
theorem rI{P:Nat->Prop}(h0:P 0)(h1:P 1):∀i,i<2->P i:=by
 grind
theorem xd{P:Nat->Prop}(h0:P 0)(h1:P 1)(h2:P 2):∀i,i<3->P i:=by
 grind
theorem C5{P:Nat->Prop}(h0:P 0)(h1:P 1)(h2:P 2)(h3:P 3):∀i,i<4->P i:=by
 grind
def Ck(b s:Int):Prop:=0<=b/\b+s<=512
def dD(b s b' s':Int):Prop:=¬(b<=b'+s'/\b'<=b+s)
theorem LV1{a x:Int}(hv:VS [a])(h:Ck x a):LV [x] [a]:=
 ⟨hv,rfl,oH ⟨h.1,h.2,λk hk=>by omega⟩⟩
theorem LV2{a b x y:Int}(hv:VS [a,b])(h:Ck x a)(h':Ck y b)(h1:dD y b x a):LV [x,y] [a,b]:=
 ⟨hv,rfl,rI ⟨h.1,h.2,λk hk=>by omega⟩ ⟨h'.1,h'.2,oH h1⟩⟩
theorem LV3{a b c x y z:Int}(hv:VS [a,b,c])(h:Ck x a)(h':Ck y b)(Tr:Ck z c)(h1:dD y b x a)(h2:dD z c x a)(h3:dD z c y b):LV [x,y,z] [a,b,c]:=
 ⟨hv,rfl,xd ⟨h.1,h.2,λk hk=>by omega⟩ ⟨h'.1,h'.2,oH h1⟩ ⟨Tr.1,Tr.2,rI h2 h3⟩⟩
theorem LV4{a b c d x y z u:Int}(hv:VS [a,b,c,d])(h:Ck x a)(h':Ck y b)(Tr:Ck z c)(Ts:Ck u d)(h1:dD y b x a)(h2:dD z c x a)(h3:dD z c y b)(h4:dD u d x a)(h5:dD u d y b)(h6:dD u d z c):LV [x,y,z,u] [a,b,c,d]:=
 ⟨hv,rfl,C5 ⟨h.1,h.2,λk hk=>by omega⟩ ⟨h'.1,h'.2,oH h1⟩ ⟨Tr.1,Tr.2,rI h2 h3⟩ ⟨Ts.1,Ts.2,xd h4 h5 h6⟩⟩
theorem G6{ss:List Int}(hv:VS ss){seed:Int}(hs:0<=seed):LV (mkB ss seed) ss:=by
 have Xe:=hv
 rcases Bn hv.1 hv.2.1 with⟨a,rfl⟩|⟨a,b,rfl⟩|⟨a,b,c,rfl⟩|⟨a,b,c,d,rfl⟩
 ·obtain⟨_,_,hx⟩:=hv;have ha:=hx a (by simp)
  have e0:(((0:Nat):Int)+seed)%1=0:=by omega
  have hB:mkB [a] seed=[1+seed/1%50]:=by simp[mkB,li,List.replicate]
  rw[hB];exact LV1 Xe ⟨by omega,by omega⟩
 ·obtain⟨_,_,hx⟩:=hv;have ha:=hx a (by simp);have hb:=hx b (by simp)
  rcases(show seed%2=0\/seed%2=1 by omega)with ht|ht
  ·have e1:(1+seed)%2=1:=by omega
   simp only[mkB,li,oLC,List.length_nil,List.replicate];simp[ht,e1];exact LV2 Xe ⟨by omega,by omega⟩ ⟨by omega,by omega⟩ (by unfold dD;omega)
  ·have e1:(1+seed)%2=0:=by omega
   simp only[mkB,li,oLC,List.length_nil,List.replicate];simp[ht,e1];exact LV2 Xe ⟨by omega,by omega⟩ ⟨by omega,by omega⟩ (by unfold dD;omega)
 ·obtain⟨_,_,hx⟩:=hv;have ha:=hx a (by simp);have hb:=hx b (by simp);have hc:=hx c (by simp)
  rcases(show seed%3=0\/seed%3=1\/seed%3=2 by omega)with ht|ht|ht
  ·have e1:(1+seed)%3=1:=by omega
   have e2:(2+seed)%3=2:=by omega
   simp only[mkB,li,oLC,List.length_nil,List.replicate];simp[ht,e1,e2];exact LV3 Xe ⟨by omega,by omega⟩ ⟨by omega,by omega⟩ ⟨by omega,by omega⟩ (by unfold dD;omega) (by unfold dD;omega) (by unfold dD;omega)
  ·have e1:(1+seed)%3=2:=by omega
   have e2:(2+seed)%3=0:=by omega
   simp only[mkB,li,oLC,List.length_nil,List.replicate];simp[ht,e1,e2];exact LV3 Xe ⟨by omega,by omega⟩ ⟨by omega,by omega⟩ ⟨by omega,by omega⟩ (by unfold dD;omega) (by unfold dD;omega) (by unfold dD;omega)
  ·have e1:(1+seed)%3=0:=by omega
   have e2:(2+seed)%3=1:=by omega
   simp only[mkB,li,oLC,List.length_nil,List.replicate];simp[ht,e1,e2];exact LV3 Xe ⟨by omega,by omega⟩ ⟨by omega,by omega⟩ ⟨by omega,by omega⟩ (by unfold dD;omega) (by unfold dD;omega) (by unfold dD;omega)
 ·obtain⟨_,_,hx⟩:=hv;have ha:=hx a (by simp);have hb:=hx b (by simp);have hc:=hx c (by simp);have hd:=hx d (by simp)
  have hq:∀q g:Int,q=1+seed/4%50->g=seed/(50*4)%40->1<=q/\q<=50/\0<=g/\g<40:=λq g e e'=>by subst e;subst e';omega
  rcases(show seed%4=0\/seed%4=1\/seed%4=2\/seed%4=3 by omega)with ht|ht|ht|ht
  ·have e1:(1+seed)%4=1:=by omega
   have e2:(2+seed)%4=2:=by omega
   have e3:(3+seed)%4=3:=by omega
   simp only[mkB,li,oLC,List.length_nil,List.replicate];simp[ht,e1,e2,e3];exact LV4 Xe ⟨by omega,by omega⟩ ⟨by omega,by omega⟩ ⟨by omega,by omega⟩ ⟨by omega,by omega⟩ (by unfold dD;omega) (by unfold dD;omega) (by unfold dD;omega) (by unfold dD;omega) (by unfold dD;omega) (by unfold dD;omega)
  ·have e1:(1+seed)%4=2:=by omega
   have e2:(2+seed)%4=3:=by omega
   have e3:(3+seed)%4=0:=by omega
   simp only[mkB,li,oLC,List.length_nil,List.replicate];simp[ht,e1,e2,e3];exact LV4 Xe ⟨by omega,by omega⟩ ⟨by omega,by omega⟩ ⟨by omega,by omega⟩ ⟨by omega,by omega⟩ (by unfold dD;omega) (by unfold dD;omega) (by unfold dD;omega) (by unfold dD;omega) (by unfold dD;omega) (by unfold dD;omega)
  ·have e1:(1+seed)%4=3:=by omega
   have e2:(2+seed)%4=0:=by omega
   have e3:(3+seed)%4=1:=by omega
   simp only[mkB,li,oLC,List.length_nil,List.replicate];simp[ht,e1,e2,e3];exact LV4 Xe ⟨by omega,by omega⟩ ⟨by omega,by omega⟩ ⟨by omega,by omega⟩ ⟨by omega,by omega⟩ (by unfold dD;omega) (by unfold dD;omega) (by unfold dD;omega) (by unfold dD;omega) (by unfold dD;omega) (by unfold dD;omega)
  ·have e1:(1+seed)%4=0:=by omega
   have e2:(2+seed)%4=1:=by omega
   have e3:(3+seed)%4=2:=by omega
   simp only[mkB,li,oLC,List.length_nil,List.replicate];simp[ht,e1,e2,e3];exact LV4 Xe ⟨by omega,by omega⟩ ⟨by omega,by omega⟩ ⟨by omega,by omega⟩ ⟨by omega,by omega⟩ (by unfold dD;omega) (by unfold dD;omega) (by unfold dD;omega) (by unfold dD;omega) (by unfold dD;omega) (by unfold dD;omega)
theorem yW{α:Type}(l:List α)(i:Nat)(a:α):List.modify l i (λ_=>a)=l.set i a:=by
 apply List.ext_getElem?
 grind
theorem Fo{s:List Int}{seed:Int}(hs:Cc s)(h0:0<=seed)(h1:seed<=1073741824):Ok (iS s seed) λr=>∃key,r=(mkB s seed,key,0,())/\W16 key:=by
 obtain⟨Ze,Wk,hsz⟩:=id hs;unfold iS;delta bQ
 try dsimp only
 refine Ok.bind (P:=λr=>r=(s,seed,false,(),0,())) ?_ ?_
 ·refine(u6 (by omega)).bind ?_;rintro⟨v,_⟩ hv;have hv:v=true:=hv.2 hs;subst hv;simp only[oNT,oCF]
  (with_reducible refine bN (λZj=>?_) λZj=>?_)
  ·omega
  ·exact Ok.ret (by rw[oDF (by omega)])
 rintro _ rfl;dsimp only;refine Ok.cond (λh=>by cases h) λ_=>?_;rw[bV];simp only[oBS];refine bP (by unfold mc;rw[oBA];exact⟨oDT rfl,oDT (by omega)⟩) ?_;refine bP (by rw[bne_iff_ne];omega) ?_;have YD:Int.tdiv seed s.length=seed/s.length:=Int.tdiv_eq_ediv_of_nonneg h0;have hq:0<=seed/(s.length:Int)/\seed/(s.length:Int)<=seed:=⟨Int.ediv_nonneg h0 (by omega),Int.ediv_le_self _ h0⟩;have S6:Int.tmod (seed/(s.length:Int)) 50=seed/(s.length:Int)%50:=Int.tmod_eq_emod_of_nonneg hq.1;rw[YD,bR (x:=seed/(s.length:Int)) (by omega) (by omega),S6,bR (x:=1+seed/(s.length:Int)%50) (by omega) (by omega)]
 have Ve:W16 (wk .u16 (w64 (40503*seed))):=by
  unfold wk;rw[ry];exact⟨by omega,by omega⟩
 generalize wk .u16 (w64 (40503*seed))=key at Ve
 refine Ok.loop (P:=λs'=>∃k:Nat,s'=(s,seed,(s.length:Int),(li s seed k).2,(s.length:Int),(k:Int),(),0,(li s seed k).1,key,())/\k<=s.length) (R:=λr=>∃a b c d e f g h,r=(a,b,c,d,e,f,g,(),h,(li s seed s.length).1,key,()))
  (m:=λs'=>(s'.2.2.2.2.1-s'.2.2.2.2.2.1).toNat) ⟨0,rfl,by omega⟩ (by unfold NN;dsimp only;omega) ?_ ?_
 ·rintro _ ⟨k,rfl,hk⟩;unfold j3;dsimp only;have hb:=Fj hs h0 k
  (with_reducible refine bN (λhcc=>?_) λhcc=>?_)
  ·have hr:=Ed (k:=k) (seed:=seed) Ze;rw[bR (x:=(k:Int)+seed) (by omega) (by omega)];refine bP (by rw[bne_iff_ne];omega) ?_;rw[Int.tmod_eq_emod_of_nonneg (show 0<=(k:Int)+seed by omega)];refine Ok.nat hr.1 λr UU=>?_;have hl:=Dk s seed k;refine Ok.get (by omega) λx hx=>?_;refine Ok.get (by omega) λy hy=>?_;refine Ok.nat hr.1 λr2 Px=>?_
   have:r2=r:=by omega
   subst this;refine Ok.get (by omega) λz hz=>?_;have X':=hsz z (ca hz);rw[bR (x:=z+1) (by omega) (by omega),bR (x:=50*(s.length:Int)) (by omega) (by omega)];refine bP (by rw[bne_iff_ne];omega) ?_;have hd2:Int.tdiv seed (50*(s.length:Int))=seed/(50*s.length):=Int.tdiv_eq_ediv_of_nonneg h0;have XR:0<=seed/(50*(s.length:Int))/\seed/(50*(s.length:Int))<=seed:=⟨Int.ediv_nonneg h0 (by omega),Int.ediv_le_self _ h0⟩;have R7:Int.tmod (seed/(50*(s.length:Int))) 40=seed/(50*s.length)%40:=Int.tmod_eq_emod_of_nonneg XR.1;rw[hd2,bR (x:=seed/(50*(s.length:Int))) (by omega) (by omega),R7];generalize hg:seed/(50*(s.length:Int))%40=g
   have ZV:0<=g/\g<40:=by omega
   rw[bR (x:=z+1+g) (by omega) (by omega),bR (x:=(li s seed k).2+(z+1+g)) (by omega) (by omega),bR (x:=(k:Int)+1) (by omega) (by omega),yW]
   have e1:(li s seed (k+1)).1=(li s seed k).1.set r2 (li s seed k).2:=by
    simp only[li];rw[UU];rfl
   have e2:(li s seed (k+1)).2=(li s seed k).2+(z+1+g):=by
    simp only[li];rw[UU,hg,oTN,oGD,hz];rfl
   refine Ok.ret ⟨⟨k+1,?_,by omega⟩,by dsimp only;omega⟩;rw[e1,e2];rfl
  ·have:k=s.length:=by omega
   subst this;exact Ok.ret ⟨_,_,_,_,_,_,_,_,rfl⟩
 ·rintro _ ⟨a,b,c,d,e,f,g,h,rfl⟩;exact Ok.ret ⟨key,rfl,Ve⟩
theorem s8{S T:Type}{f:S->Option (S⊕T)}(st:Nat->S){n N:Nat}{t:T}(hn:n<N)(h:∀i,i<n->Ok (f (st i)) (·=.inl (st (i+1))))(he:Ok (f (st n)) (·=.inr t)):bU f N (st 0)=some t:=by
 have key:∀k i,i+k=n->∀N,k<N->bU f N (st i)=some t:=by
  intro k
  induction k with
  |zero=>
   intro i hi N hN;obtain⟨x,e,hx⟩:=he
   have:i=n:=by omega
   subst this;obtain⟨N',rfl⟩:∃N',N=N'+1:=⟨N-1,by omega⟩;simp[bU,e,hx]
  |succ k ih=>
   intro i hi N hN;have ⟨x,e,hx⟩:=h i (by omega);obtain⟨N',rfl⟩:∃N',N=N'+1:=⟨N-1,by omega⟩;simp[bU,e,hx];exact ih (i+1) (by omega) N' (by omega)
 simp_all
theorem Ok.eq{α:Type}{o:Option α}{a:α}(h:Ok o (·=a)):o=some a:=by
 obtain⟨x,e,rfl⟩:=h;exact e
theorem bW{l:List Int}{k:Nat}{x:Int}(h:l[k]?=some x):l.getD k 0=x:=by simp_all
theorem qP{s:List Int}(h:Cc s):df s=some (true,()):=by
 have ⟨⟨v,u⟩,e,hv⟩:=u6 (s:=s) (by have:=h.2.1;omega)
 simp_all
theorem jg{bs ss:List Int}{key:Int}(h:LV bs ss):de bs key ss=some (true,()):=by
 obtain⟨hs,hl,hr⟩:=h;have h4:=hs.2.1;unfold de;rw[qP hs];delta bQ;simp only[oBS,oNT,oCF,hl,bne_self_eq_false]
 have e:bU cO NN (ss,bs,(ss.length:Int),0,bs,key,())=some (.inr (ss,bs,(ss.length:Int),(ss.length:Int),false,bs,key,())):=by
  refine s8 (st:=λi=>(ss,bs,(ss.length:Int),(i:Int),bs,key,())) (n:=ss.length) (by unfold NN;omega) ?_ ?_
  ·intro i hi;unfold cO;dsimp only;have S9:=hr i (by omega);unfold jX at S9
   (with_reducible refine bN (λZW=>?_) λZW=>?_)
   ·rw[bV];simp only[oBS];refine Ok.get (by omega) λb hb=>?_;rw[bW hb]at S9
    (with_reducible refine bN (λZj=>?_) λZj=>?_)
    ·omega
    ·refine Ok.get (by omega) λz hz=>?_;rw[bW hz]at S9;have X':=hs.2.2 z (ca hz)
     (simp (disch:=omega) only [bR,cn,cd,bZ])
     (with_reducible refine bN (λhcc=>?_) λhcc=>?_)
     ·omega
     ·refine bP (by unfold iG;simp;omega) ?_
      have Tc:(lO bs 0 (Nat.sub i 0)).length=i:=by unfold lO;rw[oLT,List.drop_zero];show min i _=i;omega
      rw[Tc]
      have e:bU cP NN (ss,(i:Int),b,bs,(ss.length:Int),(i:Int),lO bs 0 (Nat.sub i 0),(i:Int),0,bs,key,())=some (.inr (ss,(i:Int),b,bs,(ss.length:Int),(i:Int),lO bs 0 (Nat.sub i 0),(i:Int),(i:Int),false,bs,key,())):=by
       refine s8 (st:=λj=>(ss,(i:Int),b,bs,(ss.length:Int),(i:Int),lO bs 0 (Nat.sub i 0),(i:Int),(j:Int),bs,key,())) (n:=i) (by unfold NN;omega) ?_ ?_
       ·intro j hj;unfold cP;dsimp only
        (with_reducible refine bN (λZW=>?_) λZW=>?_)
        ·rw[bV,bV];simp only[oBS]
         have hx:(bS (lO bs 0 (Nat.sub i 0)) j)=bs[j]?:=by
          unfold bS lO;rw[List.getElem?_take,List.drop_zero];exact oIP hj
         rw[hx];obtain⟨c,hc⟩:∃c,bs[j]?=some c:=⟨_,oGE (by omega)⟩;obtain⟨y,hy⟩:∃y,ss[j]?=some y:=⟨_,oGE (by omega)⟩;have X5:=hs.2.2 y (ca hy);have X9:bS ss i=some z:=hz;have WX:bS ss j=some y:=hy;rw[hc,X9,WX];simp only[oBS];have Ta:=(hr j (by omega)).1;have Up:=(hr j (by omega)).2.1;rw[bW hc]at Ta Up;rw[bW hy]at Up;have OL:=S9.2.2 j hj;rw[bW hc,bW hy]at OL;rw[bR (x:=b+z) (by omega) (by omega),bR (x:=c+y) (by omega) (by omega)];by_cases h1:b+z>=c
         ·have h2:¬c+y>=b:=by omega
          simp only[h1,h2,decide_true,decide_false,oCT,oCF]
          (simp (disch:=omega) only [bR,cn,cd,bZ])
          exact Ok.ret rfl
         ·simp only[h1,decide_false,oCF]
          (simp (disch:=omega) only [bR,cn,cd,bZ])
          exact Ok.ret rfl
        ·omega
       ·unfold cP;dsimp only
        (with_reducible refine bN (λZW=>?_) λZW=>?_)
        ·omega
        ·exact Ok.ret rfl
      rw[e]
      (simp (disch:=omega) only [bR,cn,cd,bZ])
      exact Ok.ret rfl
   ·omega
  ·unfold cO;dsimp only
   (with_reducible refine bN (λZW=>?_) λZW=>?_)
   ·omega
   ·exact Ok.ret rfl
 rw[e]
theorem Bx{n m o a b c i:Int}(h:eb n m (o,a,b,c,i))(hn:n<=4)(hm:m<=64):eE o a b c i=some (true,()):=by
 obtain⟨⟨o0,o1⟩,⟨a0,a1,a2⟩,⟨b0,b1,b2⟩,⟨c0,c1,c2⟩,⟨i0,i1,i2⟩,hl,hs,hj⟩:=h;dsimp only at *
 have step:∀(k:Nat)(x:Int)(u:Bool),k<3->[a,b,c][k]?=some x->(k=0->u=eO o)->(k=1->u=eM o)->(k=2->u=eH o)->0<=x->x<8->(u=false->x=0)->
  Ok (cI (3,(k:Int),o,a,b,c,i,eO o,eM o,eH o,eZ o,[a,b,c],())) (·=.inl (3,((k+1:Nat):Int),o,a,b,c,i,eO o,eM o,eH o,eZ o,[a,b,c],())):=by
  intro k x u hk hx h0 h1 h2 Td Z4 YB;unfold cI;dsimp only
  (with_reducible refine bN (λZW=>?_) λZW=>?_)
  ·rw[bV];simp only[oBS];rw[show bS [a,b,c] k=some x from hx];simp only[oBS];rw[oDF (show ¬x<0 by omega),oDF (show ¬x>=8 by omega)];simp only[oCF];have ZJ:Ok (some ((3:Int),(k:Int),false,o,a,b,c,i,eO o,eM o,eH o,eZ o,[a,b,c],())) (·=((3:Int),(k:Int),false,o,a,b,c,i,eO o,eM o,eH o,eZ o,[a,b,c],())):=Ok.ret rfl
   have W6:u=false->(x != 0)=false:=λh=>by rw[YB h];rfl
   refine Ok.bind (P:=(·=((3:Int),(k:Int),false,o,a,b,c,i,eO o,eM o,eH o,eZ o,[a,b,c],()))) ?_ ?_
   ·rcases(show k=0\/k=1\/k=2 by omega)with rfl|rfl|rfl
    ·rw[<- h0 rfl]at ZJ⊢;refine bP rfl ?_;refine Ok.cond (λhu=>?_) λ_=>ZJ;rw[W6 (by simpa using hu)];exact ZJ
    ·rw[<- h1 rfl]at ZJ⊢;refine Ok.cond (λhu=>by cases hu) λ_=>bP rfl (Ok.cond (λhu=>?_) λ_=>ZJ);rw[W6 (by simpa using hu)];exact ZJ
    ·rw[<- h2 rfl]at ZJ⊢;refine Ok.cond (λhu=>by cases hu) λ_=>Ok.cond (λhu=>by cases hu) λ_=>bP rfl (Ok.cond (λhu=>?_) λ_=>ZJ);rw[W6 (by simpa using hu)];exact ZJ
   ·rintro _ rfl;dsimp only;rw[bR (x:=(k:Int)+1) (by omega) (by omega)];exact Ok.ret rfl
  ·omega
 have e:bU cI NN (3,0,o,a,b,c,i,eO o,eM o,eH o,eZ o,[a,b,c],())=some (.inr (3,3,false,o,a,b,c,i,eO o,eM o,eH o,eZ o,[a,b,c],())):=by
  refine s8 (st:=λk=>(3,(k:Int),o,a,b,c,i,eO o,eM o,eH o,eZ o,[a,b,c],())) (n:=3) (by unfold NN;omega) ?_ ?_
  ·intro k hk
   rcases(show k=0\/k=1\/k=2 by omega)with rfl|rfl|rfl
   ·exact step 0 a _ (by omega) rfl (λ_=>rfl) (by omega) (by omega) a0 a1 a2
   ·exact step 1 b _ (by omega) rfl (by omega) (λ_=>rfl) (by omega) b0 b1 b2
   ·exact step 2 c _ (by omega) rfl (by omega) (by omega) (λ_=>rfl) c0 c1 c2
  ·exact Ok.ret rfl
 refine Ok.eq ?_;unfold eE;rw[oDF (show ¬o<0 by omega),oDF (show ¬o>24 by omega),rz o0 o1];simp only[oCF,oBS];rw[show bQ [a,b,c].length=3 from rfl,e];dsimp only;rw[oDF (show ¬i<0 by omega),oDF (show ¬i>65535 by omega)];simp only[oCF];refine Ok.bind (P:=(·=(false,o,a,b,c,i,()))) ?_ ?_
 ·refine Ok.cond (λhu=>?_) λ_=>Ok.ret rfl;exact Ok.ret (by rw[i2 (by simpa using hu)];rfl)
 rintro _ rfl;dsimp only;rw[jG];simp only[oCF,oBS];refine Ok.cond (λhu=>?_) λ_=>?_
 ·exact Ok.ret (by rw[oDT (by have:=hj hu;omega)])
 ·(with_reducible refine bN (λhcc=>?_) λhcc=>?_)
  ·exact Ok.ret (by rw[oDT (by have:=hl hcc;omega)])
  ·(with_reducible refine bN (λVA=>?_) λVA=>?_)
   ·exact Ok.ret (by rw[oDT (by have:=hs VA;omega)])
   ·exact Ok.ret rfl
theorem mu{code:List DIn}{s:List Int}{d:List (List Int)}(h:eU code s d):dY code s d=some (0,()):=by
 have hs:=h.sz;have Wk:=hs.2.1;have hc:=h.clen;have hl:=h.len
 have e0:bU cH NN (d,(d.length:Int),0,code,s,d,())=some (.inr (d,(d.length:Int),(d.length:Int),false,code,s,d,())):=by
  refine s8 (st:=λk=>(d,(d.length:Int),(k:Int),code,s,d,())) (n:=d.length) (by unfold NN;omega) ?_ ?_
  ·intro k hk;unfold cH;dsimp only
   (with_reducible refine bN (λZW=>?_) λZW=>?_)
   ·rw[bV];delta bQ;simp only[oBS];refine Ok.get (by omega) λx hx=>?_;refine Ok.get (by omega) λy hy=>?_;have:=h.fit k x y hx hy
    (with_reducible refine bN (λZj=>?_) λZj=>?_)
    ·omega
    ·(simp (disch:=omega) only [bR,cn,cd,bZ])
     exact Ok.ret rfl
   ·omega
  ·unfold cH;dsimp only
   (with_reducible refine bN (λZW=>?_) λZW=>?_)
   ·omega
   ·exact Ok.ret rfl
 have e1:bU cN NN (code,(code.length:Int),0,code,s,d,())=some (.inr (code,(code.length:Int),(code.length:Int),false,code,s,d,())):=by
  refine s8 (st:=λk=>(code,(code.length:Int),(k:Int),code,s,d,())) (n:=code.length) (by unfold NN;omega) ?_ ?_
  ·intro k hk;unfold cN;dsimp only
   (with_reducible refine bN (λZW=>?_) λZW=>?_)
   ·rw[bV];simp only[oBS];refine Ok.get (by omega) λx hx=>?_;obtain⟨o,a,b,c,i⟩:=x;rw[Bx (h.ins _ (ca hx)) (by omega) (by omega)]
    (simp (disch:=omega) only [bR,cn,cd,bZ])
    exact Ok.ret rfl
   ·omega
  ·unfold cN;dsimp only
   (with_reducible refine bN (λZW=>?_) λZW=>?_)
   ·omega
   ·exact Ok.ret rfl
 have e3:bU cM NN (code,(code.length:Int),0,code,s,d,())=some (.inr (code,(code.length:Int),(code.length:Int),false,code,s,d,())):=by
  refine s8 (st:=λk=>(code,(code.length:Int),(k:Int),code,s,d,())) (n:=code.length) (by unfold NN;omega) ?_ ?_
  ·intro k hk;unfold cM;dsimp only
   (with_reducible refine bN (λZW=>?_) λZW=>?_)
   ·rw[bV];simp only[oBS];refine Ok.get (by omega) λx hx=>?_;have hp:=h.ins x (ca hx);rw[jG];simp only[oBS];refine Ok.bind (P:=(·=(code,(code.length:Int),(k:Int),false,code,s,d,()))) ?_ ?_
    ·refine Ok.cond (λhj=>?_) λ_=>?_
     ·have:=hp.jmp hj
      (with_reducible refine bN (λZj=>?_) λZj=>?_)
      ·have Zj:x.2.2.2.2>=(code.length:Int):=Zj;omega
      ·(with_reducible refine bN (λhcc=>?_) λhcc=>?_)
       ·exact Ok.ret (by rw[oDF (show ¬x.2.2.2.2>=bQ s.length by rw[bZ];have:=hp.lea hcc;omega)])
       ·exact Ok.ret rfl
     ·(with_reducible refine bN (λhcc=>?_) λhcc=>?_)
      ·exact Ok.ret (by rw[oDF (show ¬x.2.2.2.2>=bQ s.length by rw[bZ];have:=hp.lea hcc;omega)])
      ·exact Ok.ret rfl
    ·rintro _ rfl;dsimp only;simp only[oCF]
     (simp (disch:=omega) only [bR,cn,cd,bZ])
     exact Ok.ret rfl
   ·omega
  ·unfold cM;dsimp only
   (with_reducible refine bN (λZW=>?_) λZW=>?_)
   ·omega
   ·exact Ok.ret rfl
 refine Ok.eq ?_;unfold dY;rw[qP hs];delta bQ;simp only[oBS,oNT,oCF,hl,bne_self_eq_false];rw[hl]at e0;rw[e0];dsimp only
 (with_reducible refine bN (λZW=>?_) λZW=>?_)
 ·omega
 ·(with_reducible refine bN (λZj=>?_) λZj=>?_)
  ·omega
  ·rw[e1];dsimp only;rw[e3];exact Ok.ret rfl
def RK(bs ss:List Int)(a:Int):Prop:=∃(j:Nat)(b z:Int),bs[j]?=some b/\ss[j]?=some z/\b<=a/\a<b+z
def kL(K:Int->Prop)(c:DCe):Prop:=0<=c.1/\c.1<=2/\0<=c.2/\c.2<=65535/\(c.1=1->K c.2)
theorem kL.mono{K K':Int->Prop}{c:DCe}(h:kL K c)(hk:∀a,K a->K' a):kL K' c:=⟨h.1,h.2.1,h.2.2.1,h.2.2.2.1,λe=>hk _ (h.2.2.2.2 e)⟩
theorem nY{K:Int->Prop}{v:Int}(h:0<=v/\v<=65535):kL K (0,v):=⟨by omega,by omega,h.1,h.2,λe=>absurd (show(0:Int)=1 from e) (by decide)⟩
def GX(K:Int->Prop)(i:Nat)(x:DLn):Prop:=(x.1=-1/\x.2.1=false/\x.2.2=[])\/(0<=x.1/\x.1<128/\x.1%4=i/\x.2.2.length=4/\∀c∈x.2.2,kL K c)
def Hs(cs:List DCe)(x:DLn):Prop:=x.1=-1\/x.2.1=true\/∀o:Nat,o<4->cs[(x.1*4).toNat+o]?=x.2.2[o]?
structure iE (K:Int->Prop)(cs:List DCe)(ls:List DLn):Prop where
 clen:cs.length=512
 cells:∀c∈cs,kL K c
 llen:ls.length=4
 lines:∀(i:Nat) x,ls[i]?=some x->GX K i x
 coh:∀(i:Nat) x,ls[i]?=some x->Hs cs x
structure rr (K:Int->Prop)(n:Int)(t:DTh):Prop where
 state:0<=t.1/\t.1<=4
 len:t.2.1.length=8
 regs:∀c∈t.2.1,kL K c
 pc:0<=t.2.2.1/\t.2.2.1<=255
 count:0<=t.2.2.2.1/\t.2.2.2.1<=n
 handler:-1<=t.2.2.2.2.1/\t.2.2.2.2.1<=255
 saved:-1<=t.2.2.2.2.2.1/\t.2.2.2.2.2.1<=255
 trap:0<=t.2.2.2.2.2.2.1/\t.2.2.2.2.2.2.1<=6
 code:W16 t.2.2.2.2.2.2.2
structure MOk (n:Int)(ss bs:List Int)(cs:List DCe)(ls:List DLn)(ts:List DTh):Prop where
 lay:LV bs ss
 mem:iE (RK bs ss) cs ls
 tlen:ts.length=4
 thr:∀t∈ts,rr (RK bs ss) n t
theorem xY{K:Int->Prop}{l:List DCe}(hl:l.length<=1000)(h:∀c∈l,kL K c):ig l=some (true,()):=by
 have e:bU gj NN (l,(l.length:Int),0,())=some (.inr (l,(l.length:Int),(l.length:Int),false,())):=by
  refine s8 (st:=λk=>(l,(l.length:Int),(k:Int),())) (n:=l.length) (by unfold NN;omega) ?_ ?_
  ·intro k hk;unfold gj
   (with_reducible refine bN (λZW=>?_) λZW=>?_)
   ·rw[bV];refine Ok.get (by omega) λx hx=>?_;have:=h x (ca hx);unfold fE;rw[oDT (show x.1<=2 from this.2.1)]
    (simp (disch:=omega) only [bR,cn,cd,bZ])
    exact Ok.ret rfl
   ·omega
  ·unfold gj
   (with_reducible refine bN (λZW=>?_) λZW=>?_)
   ·omega
   ·exact Ok.ret rfl
 refine Ok.eq ?_;unfold ig;delta bQ
 try dsimp only
 rw[e];exact Ok.ret rfl
theorem yf{K:Int->Prop}{cs:List DCe}{ls:List DLn}(h:iE K cs ls):gR cs ls=some (true,()):=by
 obtain⟨h1,h2,h3,h4,_⟩:=h
 have e:bU eY NN (ls,4,0,cs,ls,())=some (.inr (ls,4,4,false,cs,ls,())):=by
  refine s8 (st:=λk=>(ls,4,(k:Int),cs,ls,())) (n:=4) (by unfold NN;omega) ?_ ?_
  ·intro k hk;unfold eY;dsimp only
   (with_reducible refine bN (λZW=>?_) λZW=>?_)
   ·rw[bV];simp only[oBS];refine Ok.get (by omega) λx hx=>?_
    rcases h4 k x hx with⟨e1,e2,e3⟩|⟨g1,g2,g3,g4,g5⟩
    ·rw[e1,e2,e3]
     (simp (disch:=omega) only [bR,cn,cd,bZ])
     exact Ok.ret rfl
    ·rw[show(x.1==-1)=false by rw[beq_eq_false_iff_ne];omega,oDF (show ¬x.1<0 by omega),oDF (show ¬x.1>=128 by omega),Int.tmod_eq_emod_of_nonneg g1,g3,g4,xY (by omega) g5];simp;refine Ok.bind (P:=(·=(ls,4,(k:Int),false,cs,ls,()))) ?_ ?_
     ·refine Ok.cond (λh=>by cases h) λ_=>Ok.ret rfl
     ·rintro _ rfl;dsimp only;simp only[oCF]
      (simp (disch:=omega) only [bR,cn,cd,bZ])
      exact Ok.ret rfl
   ·omega
  ·unfold eY;exact Ok.ret rfl
 refine Ok.eq ?_;unfold gR;delta bQ;simp only[h1,h3,xY (show cs.length<=1000 by omega) h2,oBS,oNT];refine Ok.bind (P:=(·=(false,cs,ls,()))) ?_ ?_
 ·exact Ok.ret rfl
 ·rintro _ rfl;dsimp only;simp only[oCF];rw[h3,show((4:Nat):Int)=4 from rfl,e];exact Ok.ret rfl
theorem ye{K:Int->Prop}{t:DTh}(h:rr K 1099511627776 t):gP t.1 t.2.1 t.2.2.1 t.2.2.2.1 t.2.2.2.2.1 t.2.2.2.2.2.1 t.2.2.2.2.2.2.1 t.2.2.2.2.2.2.2=some (true,()):=by
 obtain⟨⟨a1,a2⟩,hl,hr,⟨b1,b2⟩,⟨c1,c2⟩,⟨d1,d2⟩,⟨e1,e2⟩,⟨f1,f2⟩,_⟩:=h;obtain⟨s,rs,pc,ct,ha,sa,tr,co⟩:=t;dsimp only at *
 have e:bU eX NN (rs,(rs.length:Int),0,s,rs,pc,ct,ha,sa,tr,co,())=some (.inr (rs,(rs.length:Int),(rs.length:Int),false,s,rs,pc,ct,ha,sa,tr,co,())):=by
  refine s8 (st:=λk=>(rs,(rs.length:Int),(k:Int),s,rs,pc,ct,ha,sa,tr,co,())) (n:=rs.length) (by unfold NN;omega) ?_ ?_
  ·intro k hk;unfold eX
   (with_reducible refine bN (λZW=>?_) λZW=>?_)
   ·rw[bV];refine Ok.get (by omega) λx hx=>?_;have:=hr x (ca hx);unfold fE;rw[oDT (show x.1<=2 from this.2.1)]
    (simp (disch:=omega) only [bR,cn,cd,bZ])
    exact Ok.ret rfl
   ·omega
  ·unfold eX
   (with_reducible refine bN (λZW=>?_) λZW=>?_)
   ·omega
   ·exact Ok.ret rfl
 refine Ok.eq ?_;unfold gP;delta bQ
 try dsimp only
 rw[e];dsimp only;rw[hl];refine bP (oDT a1) (bP (oDT a2) (bP rfl (bP (oDT b1) (bP (oDT b2) (bP (oDT c1) (bP (oDT c2) (bP (oDT d1) (bP (oDT d2) (bP (oDT e1) (bP (oDT e2) (bP (oDT f1) ?_)))))))))));exact Ok.ret (by simp_all)
theorem mP{code:List DIn}{ss bs:List Int}{d:List (List Int)}{n key:Int}{cs:List DCe}{ls:List DLn}{ts:List DTh}(hp:eU code ss d)(h:MOk n ss bs cs ls ts)(hn:n<=1099511627776):gO code ss d bs key cs ls ts=some (true,()):=by
 have ⟨h1,h2,h3,h4⟩:=h
 have e:bU gG NN (ts,4,0,bs,key,cs,ls,ts,())=some (.inr (ts,4,4,false,bs,key,cs,ls,ts,())):=by
  refine s8 (st:=λk=>(ts,4,(k:Int),bs,key,cs,ls,ts,())) (n:=4) (by unfold NN;omega) ?_ ?_
  ·intro k hk;unfold gG
   (with_reducible refine bN (λZW=>?_) λZW=>?_)
   ·rw[bV];refine Ok.get (by omega) λx hx=>?_;have ht:=h4 x (ca hx);rw[ye ⟨ht.state,ht.len,ht.regs,ht.pc,⟨ht.count.1,by have:=ht.count.2;omega⟩,ht.handler,ht.saved,ht.trap,ht.code⟩]
    (simp (disch:=omega) only [bR,cn,cd,bZ])
    exact Ok.ret rfl
   ·omega
  ·exact Ok.ret rfl
 refine Ok.eq ?_;unfold gO;rw[mu hp,jg h1,yf h2];delta bQ;simp only[oBS,oNT,oCF,bne_self_eq_false,h3];rw[show((4:Nat):Int)=4 from rfl,e];exact Ok.ret rfl
def cz:List DLn:=[(-1,false,[]),(-1,false,[]),(-1,false,[]),(-1,false,[])]
theorem sL:jz=some (cz,()):=by kernel_rfl
theorem BN{K:Int->Prop}{cs:List DCe}(h:cs.length=512)(hc:∀c∈cs,kL K c):iE K cs cz:=by
 have key:∀(i:Nat) x,cz[i]?=some x->x=(-1,false,[]):=λi x hx=>by
  have:=ca hx;simp[cz]at this;exact this
 exact⟨h,hc,rfl,λi x hx=>by rw[key i x hx];exact .inl ⟨rfl,rfl,rfl⟩,λi x hx=>by rw[key i x hx];exact .inl rfl⟩
theorem q9{α:Type}{P:α->Prop}{l:List α}{i:Nat}{f:α->α}(h:∀x∈l,P x)(hf:∀x,P x->P (f x)):∀x∈List.modify l i f,P x:=by
 intro x hx;have ⟨j,hj⟩:=List.getElem?_of_mem hx
 grind
theorem Fr{code:List DIn}{ss bs:List Int}{d:List (List Int)}{key:Int}(hp:eU code ss d)(hl:LV bs ss):Ok (dk code ss d bs key) λr=>∃cs,r=(cs,cz,0,())/\cs.length=512/\∀c∈cs,kL (λ_=>False) c:=by
 unfold dk;rw[jg hl,sL];delta bQ;simp only[oBS,oNT,oCF,hp.len,bne_self_eq_false];refine bP (by decide) ?_
 obtain⟨t,e,ht⟩:=hY (f:=cg) (n:=NN) (s:=(d,(ss.length:Int),0,code,ss,d,bs,key,(),(),List.replicate 512 (0,0),cz,()))
  (P:=λs'=>∃k:Nat,∃cs,s'=(d,(ss.length:Int),(k:Int),code,ss,d,bs,key,(),(),cs,cz,())/\k<=ss.length/\cs.length=512/\∀c∈cs,kL (λ_=>False) c)
  (R:=λr=>∃a b c e cs,r=.inr (a,b,c,e,code,ss,d,bs,key,(),(),cs,cz,())/\cs.length=512/\∀c∈cs,kL (λ_=>False) c) (m:=λs'=>(s'.2.1-s'.2.2.1).toNat)
  ⟨0,_,rfl,by omega,List.length_replicate,λc hc=>by rw[List.eq_of_mem_replicate hc];exact nY (by decide)⟩ (by unfold NN;dsimp only;have:=hp.sz.2.1;omega) (by
   rintro _ ⟨k,cs,rfl,hk,ZT,ZH⟩;unfold cg;dsimp only;have hlen:=hp.len;have Wk:=hp.sz.2.1
   (with_reducible refine bN (λZW=>?_) λZW=>?_)
   ·rw[bV];delta bQ;simp only[oBS];refine Ok.get (by omega) λx hx=>?_;refine Ok.get (by omega) λy hy=>?_;have hf:=hp.fit k x y hx hy;have XE:=hp.num x (ca hx);obtain⟨_,WC,hr⟩:=hl;have hrk:=hr k (by omega);unfold jX at hrk;obtain⟨b,hb⟩:∃b,bs[k]?=some b:=⟨_,oGE (by omega)⟩;rw[bW hb,bW hy]at hrk
    (with_reducible refine bN (λZj=>?_) λZj=>?_)
    ·omega
    ·refine Ok.loop (P:=λs'=>∃j:Nat,∃cs,s'=((k:Int),d,(ss.length:Int),(k:Int),x,(x.length:Int),(j:Int),code,ss,d,bs,key,(),(),cs,cz,())/\j<=x.length/\cs.length=512/\∀c∈cs,kL (λ_=>False) c)
      (R:=λr=>∃a b c e cs,r=(a,d,(ss.length:Int),(k:Int),b,c,e,false,code,ss,d,bs,key,(),(),cs,cz,())/\cs.length=512/\∀c∈cs,kL (λ_=>False) c) (m:=λs'=>(s'.2.2.2.2.2.1-s'.2.2.2.2.2.2.1).toNat)
      ⟨0,cs,rfl,by omega,ZT,ZH⟩ (by unfold NN;dsimp only;omega) ?_ ?_
     ·rintro _ ⟨j,cs,rfl,hj,ZT,ZH⟩;unfold cF;dsimp only
      (with_reducible refine bN (λhcc=>?_) λhcc=>?_)
      ·rw[bV,bV];simp only[oBS];refine Ok.get (by omega) λv hv=>?_;have VO:=XE v (ca hv);rw[show bS bs k=some b from hb];simp only[oBS]
       (simp (disch:=omega) only [bR,cn,cd,bZ])
       refine Ok.nat (by omega) λa ha=>?_;refine Ok.get (by omega) λc hc=>?_;refine Ok.get (by omega) λc' Xn=>?_;exact Ok.ret ⟨⟨j+1,_,rfl,by omega,by rw[oLM];exact ZT,q9 ZH λz hz=>⟨hz.1,hz.2.1,VO.1,VO.2,hz.2.2.2.2⟩⟩,by dsimp only;omega⟩
      ·exact Ok.ret ⟨_,_,_,_,_,rfl,ZT,ZH⟩
     ·rintro _ ⟨a,b,c,e,cs,rfl,ZT,ZH⟩;dsimp only
      (simp (disch:=omega) only [bR,cn,cd,bZ])
      exact Ok.ret ⟨⟨k+1,_,rfl,by omega,ZT,ZH⟩,by dsimp only;omega⟩
   ·exact Ok.ret ⟨_,_,_,_,_,rfl,ZT,ZH⟩)
 rw[e];obtain⟨a,b,c,e,cs,rfl,ZT,ZH⟩:=ht;exact Ok.ret ⟨cs,rfl,ZT,ZH⟩
theorem Gf{K:Int->Prop}:∀c∈List.replicate 8 ((0:Int),(0:Int)),kL K c:=λc hc=>by rw[List.eq_of_mem_replicate hc];exact nY (by decide)
theorem Ev{K:Int->Prop}{s:Int}(h:0<=s/\s<=4):rr K 0 (s,List.replicate 8 (0,0),0,0,-1,-1,0,0):=
 ⟨h,rfl,Gf,⟨by simp_all,by simp_all⟩,⟨by simp_all,by simp_all⟩,⟨by simp_all,by simp_all⟩,⟨by simp_all,by simp_all⟩,⟨by simp_all,by simp_all⟩,⟨by simp_all,by simp_all⟩⟩
theorem Ct{code:List DIn}{ss bs:List Int}{d:List (List Int)}{key:Int}(hp:eU code ss d)(hl:LV bs ss):Ok (cR code ss d bs key) λr=>∃cs ts,r=(bs,key,cs,cz,ts,0,())/\MOk 0 ss bs cs cz ts:=by
 unfold cR;rw[mu hp,jg hl];refine(Fr hp hl).bind ?_;rintro _ ⟨cs,rfl,ZT,ZH⟩;dsimp only;have WC:=hl.2.1;have Wk:=hp.sz.2.1;refine bP (cV (by omega)) ?_
 refine Ok.loop (P:=λs'=>∃k:Nat,∃ts,s'=((k:Int),(),0,(),(),(),bs,key,cs,cz,ts,())/\k<=4/\ts.length=k/\∀t∈ts,rr (RK bs ss) 0 t)
  (R:=λr=>∃a b ts,r=(a,b,(),0,(),(),(),bs,key,cs,cz,ts,())/\ts.length=4/\∀t∈ts,rr (RK bs ss) 0 t) (m:=λs'=>(4-s'.1).toNat) ⟨0,[],rfl,by omega,rfl,cU⟩ (by unfold NN;dsimp only;omega) ?_ ?_
 ·rintro _ ⟨k,ts,rfl,hk,Xd,YL⟩;unfold gH;dsimp only
  (with_reducible refine bN (λZW=>?_) λZW=>?_)
  ·refine bP (by decide) ?_;refine Ok.bind (P:=λr=>∃s,(0<=s/\s<=4)/\r=((k:Int),(),0,(),(),(),bs,key,cs,cz,ts,s,List.replicate 8 (0,0),0,0,-1,-1,0,0,())) ?_ ?_
   ·(with_reducible refine bN (λZj=>?_) λZj=>?_)
    ·exact Ok.ret ⟨1,by decide,rfl⟩
    ·exact Ok.ret ⟨0,by decide,rfl⟩
   ·rintro _ ⟨s,hs,rfl⟩;dsimp only;refine bP (cV (by simp;omega)) ?_
    (simp (disch:=omega) only [bR,cn,cd,bZ])
    exact Ok.ret ⟨⟨k+1,_,rfl,by omega,by rw[fb,Xd];rfl,kf YL (all_cons (Ev hs) cU)⟩,by dsimp only;omega⟩
  ·exact Ok.ret ⟨_,_,_,rfl,by omega,YL⟩
 ·rintro _ ⟨a,b,ts,rfl,Xd,YL⟩;exact Ok.ret ⟨cs,ts,rfl,hl,BN ZT λc hc=>(ZH c hc).mono λ_ h=>h.elim,Xd,YL⟩
def Pr(ss:List Int)(c:DCn):Prop:=
 ((c.1=0\/c.1=2)/\c.2.2.1=0/\c.2.2.2=0/\W16 c.2.1)\/(c.1=1/\c.2.1=0/\0<=c.2.2.1/\∃n,ss[c.2.2.1.toNat]?=some n/\0<=c.2.2.2/\c.2.2.2<n)
def ID(d:List (List DCn))(o:DOp):Prop:=(o.1=-1/\o.2.1=0/\o.2.2=false)\/(0<=o.1/\∃x,d[o.1.toNat]?=some x/\0<=o.2.1/\o.2.1<=x.length)
structure F4 (ss:List Int)(d:List (List DCn))(os:List DOp):Prop where
 dlen:d.length<=4
 flen:∀x∈d,x.length<=64
 cells:∀x∈d,∀c∈x,Pr ss c
 olen:os.length=8
 opens:∀o∈os,ID d o
def IC(ss:List Int)(i:Nat)(x:DOu):Prop:=x.1=i/\0<=x.2.1/\x.2.1<2/\x.2.2.length<=16/\∀c∈x.2.2,Pr ss c
structure HZ (ss:List Int)(ck rn:List Int)(ins:List (List Int))(d:List (List DCn))(os:List DOp)(us:List DOu):Prop where
 clock:ck.length<=64/\∀w∈ck,W16 w
 rand:rn.length<=64/\∀w∈rn,W16 w
 ilen:ins.length<=2
 inp:∀x∈ins,x.length<=64/\∀w∈x,W16 w
 files:F4 ss d os
 ulen:us.length<=200
 outs:∀(i:Nat) x,us[i]?=some x->IC ss i x
structure F3 (ow:List Int)(qs:List (List Int)):Prop where
 olen:ow.length=4
 qlen:qs.length=4
 owner:∀o∈ow,-1<=o/\o<=3
 queue:∀q∈qs,q.Nodup/\∀t∈q,0<=t/\t<=3
theorem GX.len{K:Int->Prop}{i:Nat}{x:DLn}(h:GX K i x):x.2.2.length<=4:=by
 rcases h with⟨_,_,h⟩|⟨_,_,_,h,_⟩
 ·simp_all
 ·omega
theorem BQ{K:Int->Prop}{cs:List DCe}{ls:List DLn}(h:iE K cs ls):iQ cs ls=some (cs,ls,()):=by
 obtain⟨h1,h2,h3,h4,_⟩:=h
 have e:bU eu NN (ls,(ls.length:Int),0,cs,ls,(),(),cs,[],())=some (ls,(ls.length:Int),(ls.length:Int),false,cs,ls,(),(),cs,ls,()):=by
  have:=s8 (f:=eu) (N:=NN) (st:=λk=>(ls,(ls.length:Int),(k:Int),cs,ls,(),(),cs,ls.take k,())) (n:=ls.length) (t:=(ls,(ls.length:Int),(ls.length:Int),false,cs,ls,(),(),cs,ls,())) (by unfold NN;omega) ?_ ?_
  ·exact this
  ·intro k hk;unfold eu
   (with_reducible refine bN (λZW=>?_) λZW=>?_)
   ·rw[bV];refine Ok.get (by omega) λx hx=>?_;have:=(h4 k x hx).len;refine bP (cV (by omega)) (bP (cV (by simp;omega)) ?_)
    (simp (disch:=omega) only [bR,cn,cd,bZ])
    refine Ok.ret ?_;rw[List.take_add_one,hx];rfl
   ·omega
  ·unfold eu
   (with_reducible refine bN (λZW=>?_) λZW=>?_)
   ·omega
   ·rw[List.take_length];exact Ok.ret rfl
 refine Ok.eq ?_;unfold iQ;refine bP (cV (by omega)) ?_;rw[show List.append [] cs=cs from rfl];delta bQ
 try dsimp only
 rw[e];exact Ok.ret rfl
theorem pT{n key:Int}{ss bs:List Int}{cs:List DCe}{ls:List DLn}{ts:List DTh}(h:MOk n ss bs cs ls ts):iN bs key cs ls ts=some (bs,key,cs,ls,ts,()):=by
 obtain⟨h1,h2,h3,h4⟩:=h;have hb:=h1.2.1;have Wk:=h1.1.2.1
 have e:bU en NN (ts,(ts.length:Int),0,bs,key,cs,ls,ts,(),0,(),(),(),bs,key,cs,ls,[],())=some (ts,(ts.length:Int),(ts.length:Int),false,bs,key,cs,ls,ts,(),0,(),(),(),bs,key,cs,ls,ts,()):=by
  have:=s8 (f:=en) (N:=NN) (st:=λk=>(ts,(ts.length:Int),(k:Int),bs,key,cs,ls,ts,(),0,(),(),(),bs,key,cs,ls,ts.take k,())) (n:=ts.length) (t:=(ts,(ts.length:Int),(ts.length:Int),false,bs,key,cs,ls,ts,(),0,(),(),(),bs,key,cs,ls,ts,())) (by unfold NN;omega) ?_ ?_
  ·exact this
  ·intro k hk;unfold en;dsimp only
   (with_reducible refine bN (λZW=>?_) λZW=>?_)
   ·rw[bV];refine Ok.get (by omega) λx hx=>?_;have:=(h4 x (ca hx)).len;refine bP (cV (by omega)) (bP (cV (by simp;omega)) ?_)
    (simp (disch:=omega) only [bR,cn,cd,bZ])
    refine Ok.ret ?_;rw[List.take_add_one,hx];rfl
   ·omega
  ·unfold en
   (with_reducible refine bN (λZW=>?_) λZW=>?_)
   ·omega
   ·rw[List.take_length];exact Ok.ret rfl
 refine Ok.eq ?_;unfold iN;refine bP (cV (by omega)) ?_;rw[BQ h2,show List.append [] bs=bs from rfl];delta bQ;simp;rw[e];exact Ok.ret rfl
theorem zl{α:Type}{l:List α}{i:Nat}{f:α->α}{a:α}(h:l[i]?=some a):(List.modify l i f)[i]?=some (f a):=by simp_all
theorem fL{α:Type}(l:List α)(i:Nat)(f g:α->α):List.modify (List.modify l i f) i g=List.modify l i λa=>g (f a):=by
 apply List.ext_getElem?
 grind
theorem Cm{n:Int}{ss bs:List Int}{cs:List DCe}{ls:List DLn}{ts:List DTh}(h:MOk n ss bs cs ls ts){i:Nat}{t:DTh}{f:DTh->DTh}(ht:ts[i]?=some t)(hf:rr (RK bs ss) n (f t)):MOk n ss bs cs ls (List.modify ts i f):=by
 refine⟨h.lay,h.mem,by rw[oLM];exact h.tlen,λx hx=>?_⟩;have ⟨j,hj⟩:=List.getElem?_of_mem hx;by_cases hij:i=j
 ·simp_all
 ·simp[hij]at hj
  have:ts[j]?=some x:=by simp_all
  exact h.thr x (ca this)
theorem Eu{n X6:Int}{ts:List DTh}{i:Nat}{t:DTh}(ht:ts[i]?=some t):cE i X6 ts=some (2,List.modify ts i λt=>(4,t.2.1,t.2.2.1,t.2.2.2.1,t.2.2.2.2.1,t.2.2.2.2.2.1,X6,0),()):=by
 refine Ok.eq ?_;have hl:=(oGS ht).1;refine Ok.get hl λ_ _=>?_;refine Ok.get (by simp_all) λ_ _=>?_;refine Ok.get (by simp_all) λ_ _=>?_;rw[fL,fL];exact Ok.ret rfl
theorem rr.ended{K:Int->Prop}{n X6:Int}{t:DTh}(h:rr K n t)(hw:0<=X6/\X6<=6):rr K n (4,t.2.1,t.2.2.1,t.2.2.2.1,t.2.2.2.2.1,t.2.2.2.2.2.1,X6,0):=
 ⟨⟨by omega,by omega⟩,h.len,h.regs,h.pc,h.count,h.handler,h.saved,hw,⟨by simp_all,by simp_all⟩⟩
theorem m7{ss bs:List Int}{key a:Int}(h:LV bs ss)(ha:0<=a/\a<=65535):Ok (cY bs key ss a) λr=>(r.2.2.1=true->∃b n,0<=r.1/\bs[r.1.toNat]?=some b/\ss[r.1.toNat]?=some n/\0<=r.2.1/\r.2.1<n/\a=b+r.2.1):=by
 obtain⟨hs,hl,hr⟩:=h;have Wk:=hs.2.1;unfold cY;delta bQ
 try dsimp only
 obtain⟨t,e,ht⟩:=hY (f:=ch) (n:=NN) (s:=(ss,a,bs,(bs.length:Int),0,bs,key,0,0,())) (P:=λs'=>∃k:Nat,s'=(ss,a,bs,(bs.length:Int),(k:Int),bs,key,0,0,())/\k<=bs.length)
  (R:=λr=>(∃x y,r=.inl (true,x,y,())/\∃b n,0<=x/\bs[x.toNat]?=some b/\ss[x.toNat]?=some n/\0<=y/\y<n/\a=b+y)\/∃z,r=.inr z) (m:=λs'=>(s'.2.2.2.1-s'.2.2.2.2.1).toNat) ⟨0,rfl,by omega⟩ (by unfold NN;dsimp only;omega) (by
   rintro _ ⟨k,rfl,hk⟩;unfold ch;dsimp only
   (with_reducible refine bN (λZW=>?_) λZW=>?_)
   ·rw[bV];simp only[oBS];obtain⟨b,hb⟩:∃b,bs[k]?=some b:=⟨_,oGE (by omega)⟩;obtain⟨y,hy⟩:∃y,ss[k]?=some y:=⟨_,oGE (by omega)⟩;have X5:=hs.2.2 y (ca hy);have hrk:=hr k (by omega);unfold jX at hrk;rw[bW hb,bW hy]at hrk;rw[show bS bs k=some b from hb];rw[show bS ss k=some y from hy];simp only[oBS];rw[bR (x:=b+y) (by omega) (by omega)];by_cases h1:a>=b
    ·by_cases h2:a<b+y
     ·simp only[h1,h2,decide_true,oCT];rw[bR (x:=a-b) (by omega) (by omega)];exact Ok.ret (.inl ⟨_,_,rfl,b,y,by omega,by rw[oTN];exact hb,by rw[oTN];exact hy,by omega,by omega,by omega⟩)
     ·simp only[h1,h2,decide_true,decide_false,oCT,oCF]
      (simp (disch:=omega) only [bR,cn,cd,bZ])
      exact Ok.ret ⟨⟨k+1,rfl,by omega⟩,by dsimp only;omega⟩
    ·simp only[h1,decide_false,oCF]
     (simp (disch:=omega) only [bR,cn,cd,bZ])
     exact Ok.ret ⟨⟨k+1,rfl,by omega⟩,by dsimp only;omega⟩
   ·exact Ok.ret (.inr ⟨_,rfl⟩))
 rw[e]
 rcases ht with⟨x,y,rfl,UB⟩|⟨z,rfl⟩
 ·exact Ok.ret λ_=>UB
 ·exact Ok.ret λh=>by cases h
theorem zf{ss:List Int}{r o:Int}:Ok (gl ss r o) λx=>x.1=true->0<=r/\0<=o/\∃n,ss[r.toNat]?=some n/\o<n:=by
 unfold gl;delta bQ
 (with_reducible refine bN (λZW=>?_) λZW=>?_)
 ·(with_reducible refine bN (λZj=>?_) λZj=>?_)
  ·(with_reducible refine bN (λhcc=>?_) λhcc=>?_)
   ·refine Ok.nat (by omega) λj hj=>?_;refine Ok.get (by omega) λn hn=>?_;exact Ok.ret λh=>⟨by omega,by omega,n,by simp_all,of_decide_eq_true h⟩
   ·exact Ok.ret λh=>by cases h
  ·exact Ok.ret λh=>by cases h
 ·exact Ok.ret λh=>by cases h
theorem po{ss bs:List Int}{key tag v n:Int}{back:Bool}(h:LV bs ss)(hv:W16 v)(hn:W16 n):Ok (cX bs key ss tag v n back) λr=>∃t x e,r=(t,x,e,())/\kL (RK bs ss) (t,x)/\0<=e/\e<=6/\(e=0->x<512):=by
 have hz:∀e:Int,0<e->e<=6->∃t x e',((0:Int),(0:Int),e,())=(t,x,e',())/\kL (RK bs ss) (t,x)/\0<=e'/\e'<=6/\(e'=0->x<512):=λe h1 h2=>⟨0,0,e,rfl,nY (by decide),by omega,h2,by omega⟩;obtain⟨v0,v1⟩:=hv;obtain⟨n0,n1⟩:=hn;unfold cX
 (with_reducible refine bN (λZW=>?_) λZW=>?_)
 ·exact Ok.ret (hz 3 (by decide) (by decide))
 ·rw[cd (x:=v) (by omega) (by omega),cd (x:=n) (by omega) (by omega)];refine(m7 h ⟨v0,v1⟩).bind ?_;rintro⟨r,o,ok,_⟩ Y6;dsimp only at Y6⊢
  (with_reducible refine bN (λZj=>?_) λZj=>?_)
  ·exact Ok.ret (hz 4 (by decide) (by decide))
  ·obtain⟨b,z,Pt,hb,PL,NV,NW,_⟩:=Y6 Zj;have X':=h.1.2.2 z (ca PL);refine Ok.bind (P:=λx=>∃o',x=(ss,bs,key,0,0,r,o',())/\-70000<=o'/\o'<=70000) ?_ ?_
   ·refine Ok.cond (λ_=>?_) λ_=>?_
    all_goals
     (simp (disch:=omega) only [bR,cn,cd,bZ])
     exact Ok.ret ⟨_,rfl,by omega,by omega⟩
   rintro _ ⟨o',rfl,XF,Sd⟩;dsimp only;refine zf.bind ?_;rintro⟨q,_⟩ hin;dsimp only at hin⊢
   (with_reducible refine bN (λhcc=>?_) λhcc=>?_)
   ·exact Ok.ret (hz 4 (by decide) (by decide))
   ·obtain⟨_,g1,m,g2,g3⟩:=hin hcc;refine Ok.nat Pt λj hj=>?_;subst hj;rw[oTN]at hb g2;have hjl:=(oGS hb).1;have Ta:=h.2.2 j hjl;unfold jX at Ta;rw[bW hb,bW g2]at Ta;rw[show bS bs j=some b from hb];simp only[oBS];rw[bR (x:=b+o') (by omega) (by omega),cn (x:=b+o') (by omega) (by omega)];exact Ok.ret ⟨_,_,_,rfl,⟨by dsimp only;omega,by dsimp only;omega,by dsimp only;omega,by dsimp only;omega,λ_=>⟨j,b,m,hb,g2,by dsimp only;omega,by dsimp only;omega⟩⟩,by decide,by decide,λ_=>by omega⟩
theorem iE.line{K:Int->Prop}{cs:List DCe}{ls:List DLn}(h:iE K cs ls){i:Nat}{x:DLn}{f:DLn->DLn}(hx:ls[i]?=some x)(hf:GX K i (f x))(hg:Hs cs (f x)):iE K cs (List.modify ls i f):=by
 have key:∀(j:Nat) y,(List.modify ls i f)[j]?=some y->GX K j y/\Hs cs y:=λj y hy=>by
  by_cases hij:i=j
  ·simp_all
  ·simp[hij]at hy;exact⟨h.lines j y (by simp_all),h.coh j y (by simp_all)⟩
 exact⟨h.clen,h.cells,by rw[oLM];exact h.llen,λj y hy=>(key j y hy).1,λj y hy=>(key j y hy).2⟩
theorem ym{cs xs:List DCe}{lo k:Nat}(h1:lo+4<=cs.length)(h3:4<=xs.length)(hk:k<lo\/lo+4<=k):(ii cs lo 4 xs)[k]?=cs[k]?:=by
 unfold ii;rcases hk with hk|hk
 ·rw[List.append_assoc,List.getElem?_append_left (by rw[oLT];omega),List.getElem?_take_of_lt hk]
 ·rw[List.getElem?_append_right (by simp;omega),List.getElem?_drop];congr 1;simp;omega
theorem zV{K:Int->Prop}{cs xs:List DCe}{lo n:Nat}(h1:cs.length=512)(h2:lo+n<=512)(h3:n<=xs.length)(hc:∀c∈cs,kL K c)(hx:∀c∈xs,kL K c):(ii cs lo n xs).length=512/\∀c∈ii cs lo n xs,kL K c:=by
 unfold ii;refine⟨?_,λc hh=>?_⟩
 ·simp;omega
 ·simp only[List.mem_append]at hh
  rcases hh with(hh|hh)|hh
  ·exact hc c (List.mem_of_mem_take hh)
  ·exact hx c (List.mem_of_mem_take hh)
  ·exact hc c (List.mem_of_mem_drop hh)
theorem xJ{K:Int->Prop}{cs:List DCe}{ls:List DLn}{a:Int}(h:iE K cs ls)(ha:0<=a/\a<512):Ok (fB a cs ls) λr=>∃i ZP Zz x,r=(i,ZP,Zz,())/\iE K ZP Zz/\Zz[i]?=some x/\x.1=a/4/\x.2.2.length=4:=by
 obtain⟨a0,a1⟩:=ha;obtain⟨h1,h2,h3,h4,h5⟩:=id h;unfold fB;rw[Int.tdiv_eq_ediv_of_nonneg a0,bR (x:=a/4) (by omega) (by omega)];dsimp only;rw[Int.tmod_eq_emod_of_nonneg (show 0<=a/4 by omega)];refine Ok.nat (by omega) λi hi=>?_
 have Xa:i<ls.length:=by omega
 obtain⟨x,hx⟩:∃x,ls[i]?=some x:=⟨_,oGE Xa⟩;have hg:bS ls i=some x:=hx;have hL:=h4 i x hx;simp only[hg,oBS]
 (with_reducible refine bN (λZW=>?_) λZW=>?_)
 ·refine Ok.ret ⟨i,cs,ls,x,rfl,h,hx,ZW,?_⟩
  rcases hL with⟨g1,_,_⟩|⟨_,_,_,g,_⟩
  ·omega
  ·exact g
 ·refine Ok.bind (P:=λr=>∃ZP,r=(a/4,i,ZP,ls,())/\ZP.length=512/\(∀c∈ZP,kL K c)/\∀(j:Nat) y,ls[j]?=some y->Hs ZP y) ?_ ?_
  ·refine Ok.cond (λhd=>?_) λ_=>Ok.ret ⟨cs,rfl,h1,h2,h5⟩
   rcases hL with⟨_,g,_⟩|⟨g1,g2,g3,g4,g5⟩
   ·rw[g]at hd;cases hd
   ·rw[bR (x:=x.1*4) (by omega) (by omega)];refine Ok.nat (by omega) λq hq=>?_;refine bP (by unfold iG;simp;omega) ?_
    try simp only[hg,oBS]
    rw[g4,h1]
    have R8:Nat.min 4 (Nat.sub 512 q)=4:=by
     show min 4 (512-q)=4;omega
    rw[R8];refine bP (by unfold iG;simp;omega) ?_;refine bP rfl ?_;obtain⟨s1,s2⟩:=zV (lo:=q) (n:=4) h1 (by omega) (by omega) h2 g5;refine Ok.ret ⟨_,rfl,s1,s2,λj y hy=>?_⟩;by_cases hij:j=i
    ·subst hij;rw[hx]at hy
     injection hy with hy
     subst hy;exact .inr (.inl hd)
    ·rcases h5 j y hy with g|g|g
     ·exact .inl g
     ·exact .inr (.inl g)
     ·rcases h4 j y hy with⟨g',_,_⟩|⟨y1,y2,y3,y4,y5⟩
      ·exact .inl g'
      ·refine .inr (.inr λo ho=>?_);rw[ym (by omega) (by omega) (by omega)];exact g o ho
  rintro _ ⟨ZP,rfl,c1,c2,c3⟩;dsimp only;rw[bR (x:=a/4*4) (by omega) (by omega),bR (x:=a/4+1) (by omega) (by omega),bR (x:=(a/4+1)*4) (by omega) (by omega)];simp only[hg,oBS];refine Ok.get (by rw[oLM];exact Xa) λ_ _=>?_;refine Ok.nat (by omega) λq hq=>?_;refine Ok.nat (by omega) λq2 XR=>?_;refine bP (by unfold iG;simp;omega) ?_
  have hw:(lO ZP q (Nat.sub q2 q)).length=4:=by
   unfold lO;rw[oLT,List.length_drop];show min (q2-q) _=4;omega
  refine bP (cV (by omega)) ?_;refine Ok.get (by rw[oLM,oLM];exact Xa) λ_ _=>?_;rw[fL,fL,show List.append [] (lO ZP q (Nat.sub q2 q))=lO ZP q (Nat.sub q2 q)from rfl];have Zw:iE K ZP ls:=⟨c1,c2,h3,h4,c3⟩;refine Ok.ret ⟨i,ZP,_,_,rfl,Zw.line hx (.inr ⟨by dsimp only;omega,by dsimp only;omega,by dsimp only;omega,hw,λc hc=>c2 c ?_⟩) (.inr (.inr λo ho=>?_)),zl hx,rfl,hw⟩
  ·dsimp only at hc;unfold lO at hc;exact List.mem_of_mem_drop (List.mem_of_mem_take hc)
  ·dsimp only;unfold lO;rw[hq,oTN,List.getElem?_take_of_lt (show o<Nat.sub q2 q by show o<q2-q;omega),List.getElem?_drop]
theorem Bm{K:Int->Prop}{cs:List DCe}{ls:List DLn}{a:Int}(h:iE K cs ls)(ha:0<=a/\a<512):Ok (iO a cs ls) λr=>∃t v ZP Zz,r=(t,v,ZP,Zz,())/\kL K (t,v)/\iE K ZP Zz:=by
 refine(xJ h ha).bind ?_;rintro _ ⟨i,ZP,Zz,x,rfl,hm,hx,Z4,YB⟩;have hg:bS Zz i=some x:=hx;simp[hg];rw[Int.tmod_eq_emod_of_nonneg ha.1];refine Ok.nat (by omega) λj hj=>?_;refine Ok.get (by omega) λ_ _=>?_;refine Ok.get (by omega) λc hc=>?_
 have ZH:kL K c:=by
  rcases hm.lines i x hx with⟨_,_,g⟩|⟨_,_,_,_,g⟩
  ·omega
  ·exact g c (ca hc)
 exact Ok.ret ⟨_,_,_,_,rfl,ZH,hm⟩
theorem yh{K:Int->Prop}{cs:List DCe}{ls:List DLn}{a t v:Int}(h:iE K cs ls)(ha:0<=a/\a<512)(hc:kL K (t,v)):Ok (gQ a t v cs ls) λr=>∃ZP Zz,r=(ZP,Zz,())/\iE K ZP Zz:=by
 refine(xJ h ha).bind ?_;rintro _ ⟨i,ZP,Zz,x,rfl,hm,hx,Z4,YB⟩;have hg:bS Zz i=some x:=hx;have Xa:=(oGS hx).1;simp[hg];rw[Int.tmod_eq_emod_of_nonneg ha.1];refine Ok.nat (by omega) λj hj=>?_;refine Ok.get (by omega) λ_ _=>?_;refine Ok.get (by omega) λ_ _=>?_;refine Ok.get (by simp_all) λ_ _=>?_;rw[fL];refine Ok.ret ⟨_,_,rfl,hm.line hx ?_ (.inr (.inl rfl))⟩
 rcases hm.lines i x hx with⟨_,_,g⟩|⟨g1,g2,g3,g4,g5⟩
 ·omega
 ·exact .inr ⟨g1,g2,g3,by simp_all,q9 g5 λ_ _=>hc⟩
theorem kN(x:Int):W16 (wk .u16 x):=by
 unfold wk;rw[ry];exact⟨by omega,by omega⟩
theorem DV{ss bs:List Int}{key t v t' v':Int}(h:LV bs ss)(hv:W16 v)(YV:W16 v'):Ok (fA bs key ss t v t' v') λ_=>True:=by
 obtain⟨v0,v1⟩:=hv;obtain⟨u0,u1⟩:=YV;unfold fA;rw[cd (x:=v) (by omega) (by omega),cd (by omega) (by omega)];refine(m7 h ⟨v0,v1⟩).bind ?_;rintro⟨r,o,ok,_⟩ _;refine(m7 h ⟨u0,u1⟩).bind ?_;rintro⟨r',o',PT,_⟩ _;cases ok<;>cases PT<;>exact Ok.ret trivial
theorem vY(b:Bool):fe b=some (0,(bif b then 1 else 0),()):=by cases b<;>rfl
theorem Gv{op b c:Int}(hb:W16 b)(hc:W16 c):Ok (fw op b c) λr=>∃v e,r=(0,v,e,())/\W16 v/\0<=e/\e<=6:=by
 obtain⟨b0,b1⟩:=hb;obtain⟨c0,c1⟩:=hc;have ZJ:∀x:Int,W16 x->Ok (some ((0:Int),x,(0:Int),())) λr=>∃v e,r=(0,v,e,())/\W16 v/\0<=e/\e<=6:=λx h=>Ok.ret ⟨x,0,rfl,h,by decide,by decide⟩;have z5:Ok (some ((0:Int),(0:Int),(5:Int),())) λr=>∃v e,r=(0,v,e,())/\W16 v/\0<=e/\e<=6:=Ok.ret ⟨0,5,rfl,⟨by decide,by decide⟩,by decide,by decide⟩;have hw:=kN;unfold fw
 (with_reducible refine bN (λZW=>?_) λZW=>?_)
 ·exact ZJ _ (kN _)
 (with_reducible refine bN (λZj=>?_) λZj=>?_)
 ·exact ZJ _ (kN _)
 (with_reducible refine bN (λhcc=>?_) λhcc=>?_)
 ·exact ZJ _ (kN _)
 have hq:∀X:Option (Int×Int×Int×Unit),c≠0->(X=(bif(op==6)then(bif(c != 0)then some ((0:Int),wk .u16 (Int.tdiv b c),(0:Int),())else none)else bif(c != 0)then some ((0:Int),Int.tmod b c,(0:Int),())else none))->Ok X λr=>∃v e,r=(0,v,e,())/\W16 v/\0<=e/\e<=6:=by
  rintro _ hne rfl;refine Ok.cond (λ_=>bP (by rw[bne_iff_ne];exact hne) (ZJ _ (kN _))) λ_=>bP (by rw[bne_iff_ne];exact hne) (ZJ _ ?_);rw[Int.tmod_eq_emod_of_nonneg b0];have h1:=Int.emod_nonneg b hne;have h2:=Int.emod_lt_of_pos b (show 0<c by omega);exact⟨h1,by omega⟩
 (with_reducible refine bN (λVA=>?_) λVA=>?_)
 ·(with_reducible refine bN (λTD=>?_) λTD=>?_)
  ·exact z5
  ·simp_all
 (with_reducible refine bN (λVA=>?_) λVA=>?_)
 ·(with_reducible refine bN (λTD=>?_) λTD=>?_)
  ·exact z5
  ·simp_all
 (with_reducible refine bN (λV2=>?_) λV2=>?_)
 ·exact ZJ _ (hw _)
 (with_reducible refine bN (λV2=>?_) λV2=>?_)
 ·exact ZJ _ (hw _)
 (with_reducible refine bN (λV2=>?_) λV2=>?_)
 ·exact ZJ _ (hw _)
 (with_reducible refine bN (λV2=>?_) λV2=>?_)
 ·rw[Int.tmod_eq_emod_of_nonneg c0];refine Ok.nat (by omega) λj hj=>?_;exact ZJ _ (hw _)
 (with_reducible refine bN (λV2=>?_) λV2=>?_)
 ·rw[Int.tmod_eq_emod_of_nonneg c0];refine Ok.nat (by omega) λj hj=>ZJ _ ?_;show W16 (Int.fdiv b (2 ^ (min j 16)));have hp:(0:Int)<2 ^ (min j 16):=Int.pow_pos (by decide);rw[Int.fdiv_eq_ediv_of_nonneg _ (by omega)];exact⟨Int.ediv_nonneg b0 (by omega),by have:=Int.ediv_le_self (2 ^ (min j 16)) b0;omega⟩
 rw[vY];refine ZJ _ ?_;cases decide (b<c)
 ·exact⟨by decide,by decide⟩
 ·exact⟨by decide,by decide⟩
def Ep(K:Int->Prop)(r:Int×Int×Int×Unit):Prop:=∃t v e,r=(t,v,e,())/\kL K (t,v)/\0<=e/\e<=6
theorem kx{K:Int->Prop}{t v e:Int}(h:kL K (t,v))(h0:0<=e)(h1:e<=6):Ok (some (t,v,e,())) (Ep K):=Ok.ret ⟨t,v,e,rfl,h,h0,h1⟩
theorem oL{K:Int->Prop}{v:Int}(h:W16 v):kL K (0,v):=nY h
theorem uJ{K:Int->Prop}(b:Bool):kL K (0,bif b then 1 else 0):=oL (by cases b<;>exact⟨by decide,by decide⟩)
theorem lQ{K:Int->Prop}:kL K (0,0):=oL ⟨by decide,by decide⟩
theorem HS{ss bs:List Int}{key op t v t' v':Int}(h:LV bs ss)(hb:kL (RK bs ss) (t,v))(hc:kL (RK bs ss) (t',v')):Ok (kQ bs key ss op t v t' v') (Ep (RK bs ss)):=by
 obtain⟨t0,t2,v0,v1,_⟩:=hb;obtain⟨u0,u2,w0,w1,_⟩:=hc;dsimp only at t0 t2 v0 v1 u0 u2 w0 w1;obtain⟨_,eN,n1,n2,rfl,WK,hn2,Pi⟩:=Gv (op:=op) (b:=v) (c:=v') ⟨v0,v1⟩ ⟨w0,w1⟩;obtain⟨_,eA,a1,a2,a3,rfl,Wq,W8,OK,_⟩:=po (key:=key) (tag:=t) (back:=false) h (v:=v) (n:=v') ⟨v0,v1⟩ ⟨w0,w1⟩;obtain⟨_,eB,b1,b2,b3,rfl,ZM,ZY,UK,_⟩:=po (key:=key) (tag:=t') (back:=false) h (v:=v') (n:=v) ⟨w0,w1⟩ ⟨v0,v1⟩;obtain⟨_,eC,c1,c2,c3,rfl,ZT,ZH,Tz,_⟩:=po (key:=key) (tag:=t) (back:=true) h (v:=v) (n:=v') ⟨v0,v1⟩ ⟨w0,w1⟩;obtain⟨⟨p1,p2,p3,p4,ok,_⟩,eP,_⟩:=DV (key:=key) (t:=t) (t':=t') h (v:=v) (v':=v') ⟨v0,v1⟩ ⟨w0,w1⟩;unfold kQ
 (with_reducible refine bN (λZW=>?_) λZW=>?_)
 ·exact kx lQ (by decide) (by decide)
 (with_reducible refine bN (λZj=>?_) λZj=>?_)
 ·exact kx lQ (by decide) (by decide)
 cases h14:(op==14)with
 |true=>
  simp only[oCT,vY,oBS];exact kx (uJ _) (by decide) (by decide)
 |false=>
  simp only[oCF,eN,eA,eB,eC,eP,oBS]
  rcases(show t=0\/t=1\/t=2 by omega)with rfl|rfl|rfl<;>rcases(show t'=0\/t'=1\/t'=2 by omega)with rfl|rfl|rfl
  all_goals
   cases h3:(op==3)<;>cases h4:(op==4)<;>cases h13:(op==13)<;>simp only[Int.reduceBEq,oCT,oCF,oBS,h3,h4,h13,vY,eN,eA,eB,eC,eP,BEq.rfl]
  all_goals first
   |exact kx (oL WK) hn2 Pi
   |exact kx Wq W8 OK
   |exact kx ZM ZY UK
   |exact kx ZT ZH Tz
   |exact kx lQ (by decide) (by decide)
   |(cases ok<;>first
    |exact kx lQ (by decide) (by decide)
    |exact kx (uJ _) (by decide) (by decide)
    |exact kx (oL (kN _)) (by decide) (by decide))
theorem pq{α:Type}{l:List α}{i:Nat}{a:α}(h:l[i]?=some a)(f:α->α):List.modify l i f=l.set i (f a):=by
 apply List.ext_getElem?
 grind
theorem mX{α:Type}{l:List α}{i:Nat}(h:i<l.length)(a:α):bS (l.set i a) i=some a:=by
 show(l.set i a)[i]?=some a
 simp_all
theorem yx{α:Type}{l:List α}{i:Nat}(h:i<l.length)(a:α)(f:α->α):List.modify (l.set i a) i f=l.set i (f a):=by
 rw[pq (mX h a),List.set_set]
theorem Be{α:Type}{P:α->Prop}{l:List α}{i:Nat}{a:α}(h:∀x∈l,P x)(ha:P a):∀x∈l.set i a,P x:=by
 grind
theorem MOk.set{n:Int}{ss bs:List Int}{cs ZP:List DCe}{ls Zz:List DLn}{ts:List DTh}(h:MOk n ss bs cs ls ts)(hm:iE (RK bs ss) ZP Zz){i:Nat}{t:DTh}(ht:rr (RK bs ss) n t):MOk n ss bs ZP Zz (ts.set i t):=
 ⟨h.lay,hm,by rw[List.length_set];exact h.tlen,Be h.thr ht⟩
def IE(code:List DIn)(t:DTh)(s:Int)(t':DTh):Prop:=
 (s=-1/\t'.1=1/\((t'.2.2.2.1=t.2.2.2.1/\t'.2.2.1=t.2.2.1+1)\/t'.2.2.2.1=t.2.2.2.1+1))\/(s=2/\t'.1=4/\t'.2.2.2.1=t.2.2.2.1)\/
  (s=1/\t'.1=2/\t'.2.2.2.1=t.2.2.2.1/\∃i:DIn,1<=t'.2.2.1/\code[(t'.2.2.1-1).toNat]?=some i/\i.1=23)
def wD(n key:Int)(code:List DIn)(ss bs:List Int)(ts:List DTh)(i:Nat)(t:DTh)(r:Int×List Int×Int×List DCe×List DLn×List DTh×Unit):Prop:=
 ∃s ZP Zz t',r=(s,bs,key,ZP,Zz,ts.set i t',())/\iE (RK bs ss) ZP Zz/\rr (RK bs ss) n t'/\IE code t s t'
theorem iu{n key:Int}{code:List DIn}{ss bs:List Int}{ts:List DTh}{i:Nat}{t t':DTh}{ZP:List DCe}{Zz:List DLn}(hm:iE (RK bs ss) ZP Zz)(ht:rr (RK bs ss) n t')(h1:t'.1=1)
 (h:(t'.2.2.2.1=t.2.2.2.1/\t'.2.2.1=t.2.2.1+1)\/t'.2.2.2.1=t.2.2.2.1+1):Ok (some (-1,bs,key,ZP,Zz,ts.set i t',())) (wD n key code ss bs ts i t):=Ok.ret ⟨_,_,_,_,rfl,hm,ht,.inl ⟨rfl,h1,h⟩⟩
theorem gZ{n key X6:Int}{code:List DIn}{ss bs:List Int}{ts:List DTh}{i:Nat}{t:DTh}{ZP:List DCe}{Zz:List DLn}(hm:iE (RK bs ss) ZP Zz)(ht:rr (RK bs ss) n t)(hw:0<=X6/\X6<=6):
 Ok (some (2,bs,key,ZP,Zz,ts.set i (4,t.2.1,t.2.2.1,t.2.2.2.1,t.2.2.2.2.1,t.2.2.2.2.2.1,X6,0),())) (wD n key code ss bs ts i t):=Ok.ret ⟨_,_,_,_,rfl,hm,ht.ended hw,.inr (.inl ⟨rfl,rfl,rfl⟩)⟩
theorem d9(op:Int):gh op=some (fU op||op==22||op==24,()):=by
 unfold gh;rw[jG]
 grind
set_option maxHeartbeats 4000000 in
theorem Eg{n key:Int}{code:List DIn}{ss bs:List Int}{d:List (List Int)}{cs:List DCe}{ls:List DLn}{ts:List DTh}{i:Nat}{t:DTh}(hp:eU code ss d)(h:MOk n ss bs cs ls ts)(ht:ts[i]?=some t)(hs:t.1=1)
 (hc:t.2.2.2.1+1<=n)(hn:n<=1099511627776):Ok (dn code ss d (i:Int) bs key cs ls ts) (wD n key code ss bs ts i t):=by
 have hok:=h.thr t (ca ht);have hm:=h.mem;obtain⟨_,hl,hr,⟨p0,p1⟩,⟨c0,c1⟩,ha,⟨s0,s1⟩,⟨r0,r1⟩,Qx⟩:=id hok;obtain⟨st,rs,pc,ct,hd,sa,tr,co⟩:=t;dsimp only at *;subst hs;have Xa:=(oGS ht).1;have hg:bS ts i=some (1,rs,pc,ct,hd,sa,tr,co):=ht;have e1:∀f:DTh->DTh,List.modify ts i f=ts.set i (f (1,rs,pc,ct,hd,sa,tr,co)):=λf=>pq ht f;have e2:∀x,bS (ts.set i x) i=some x:=λx=>mX Xa x;have e3:∀(x:DTh)(f:DTh->DTh),List.modify (ts.set i x) i f=ts.set i (f x):=λx f=>yx Xa x f
 have eT:∀X6,cE (i:Nat) X6 ts=some (2,ts.set i (4,rs,pc,ct,hd,sa,X6,0),()):=λX6=>by rw[Eu (n:=n) ht,e1]
 have mk:∀{SN:List DCe}{SL Re SO:Int},SN.length=8->(∀c∈SN,kL (RK bs ss) c)->0<=SL/\SL<=255->0<=Re/\Re<=n->-1<=SO/\SO<=255->rr (RK bs ss) n (1,SN,SL,Re,hd,SO,tr,co):=
  λh1 h2 h3 h4 h5=>⟨⟨show(0:Int)<=1 by decide,show(1:Int)<=4 by decide⟩,h1,h2,h3,h4,ha,h5,⟨r0,r1⟩,Qx⟩
 unfold dn;rw[bV];delta bQ;simp only[hg,oBS]
 (with_reducible refine bN (λZW=>?_) λZW=>?_)
 ·rw[eT 2];exact gZ hm hok (by decide)
 refine Ok.nat p0 λj hj=>?_;subst hj;have ZE:=hp.clen;refine Ok.get (by omega) λx hx=>?_;obtain⟨op,A,B,C,I⟩:=x;obtain⟨⟨o0,o1⟩,⟨A0,A1,_⟩,⟨B0,B1,_⟩,⟨C0,C1,_⟩,⟨I0,I1,_⟩,R3,PB,We⟩:=hp.ins _ (ca hx);dsimp only at *;obtain⟨A,rfl⟩:∃k:Nat,A=k:=⟨A.toNat,by omega⟩;obtain⟨B,rfl⟩:∃k:Nat,B=k:=⟨B.toNat,by omega⟩;obtain⟨C,rfl⟩:∃k:Nat,C=k:=⟨C.toNat,by omega⟩;obtain⟨I,rfl⟩:∃k:Nat,I=k:=⟨I.toNat,by omega⟩;obtain⟨⟨ta,va⟩,gA⟩:∃c,bS rs A=some c:=⟨_,oGE (by omega)⟩;obtain⟨⟨tb,vb⟩,gB⟩:∃c,bS rs B=some c:=⟨_,oGE (by omega)⟩;obtain⟨⟨tc,vc⟩,gC⟩:∃c,bS rs C=some c:=⟨_,oGE (by omega)⟩;have cA:=hr _ (ca gA);have cB:=hr _ (ca gB);have cC:=hr _ (ca gC);have eR:∀f:DCe->DCe,List.modify rs A f=rs.set A (f (ta,va)):=λf=>pq gA f;have w1:w64 ((j:Int)+1)=(j:Int)+1:=bR (by omega) (by omega);have wI:wk .u16 (I:Int)=I:=cn (by omega) (by omega);have Zm:∀{c:DCe},kL (RK bs ss) c->(rs.set A c).length=8/\∀x∈rs.set A c,kL (RK bs ss) x:=λhc=>⟨by rw[List.length_set];exact hl,Be hr hc⟩;have wc:w64 (ct+1)=ct+1:=bR (by omega) (by omega);simp only[bV,hg,gA,gB,oBS,w1,wI]
 rcases(show op=0\/op=1\/op=2\/op=15\/op=16\/op=17\/op=18\/op=19\/op=20\/op=21\/op=22\/op=23\/op=24\/(3<=op/\op<=14) by omega)with rfl|rfl|rfl|rfl|rfl|rfl|rfl|rfl|rfl|rfl|rfl|rfl|rfl|⟨q0,q1⟩
 all_goals try simp only[Int.reduceBEq,oCT,oCF,bV,hg,gA,gB,gC,e1,e2,e3,eR,eT,oBS,w1,wI,wc,d9,fU,Bool.or_false,Bool.or_true,Bool.or_self,bne_self_eq_false]
 ·exact iu hm (mk hl hr (by omega) (by omega) (by omega)) rfl (.inl ⟨rfl,rfl⟩)
 ·exact iu hm (mk (Zm (nY (by omega))).1 (Zm (nY (by omega))).2 (by omega) (by omega) (by omega)) rfl (.inl ⟨rfl,rfl⟩)
 ·exact iu hm (mk (Zm cB).1 (Zm cB).2 (by omega) (by omega) (by omega)) rfl (.inl ⟨rfl,rfl⟩)
 ·have hI:=R3 rfl;have WC:=h.lay.2.1;obtain⟨b,hb⟩:∃b,bs[I]?=some b:=⟨_,oGE (by omega)⟩;obtain⟨z,hz⟩:∃z,ss[I]?=some z:=⟨_,oGE (by omega)⟩;have Wu:=h.lay.2.2 I (by omega);unfold jX at Wu;rw[bW hb,bW hz]at Wu;have X':=h.lay.1.2.2 z (ca hz);have wb:wk .u16 b=b:=cn (by omega) (by omega);have gb:bS bs I=some b:=hb;simp only[gb,wb,Int.reduceBEq,oCT,oCF,bV,hg,gA,gB,gC,e1,e2,e3,eR,eT,oBS,w1,wI,wc,d9,fU,Bool.or_false,Bool.or_true,Bool.or_self,bne_self_eq_false];have Zj:kL (RK bs ss) (1,b):=⟨by dsimp only;omega,by dsimp only;omega,by dsimp only;omega,by dsimp only;omega,λ_=>⟨I,b,z,hb,hz,by dsimp only;omega,by dsimp only;omega⟩⟩;exact iu hm (mk (Zm Zj).1 (Zm Zj).2 (by omega) (by omega) (by omega)) rfl (.inl ⟨rfl,rfl⟩)
 ·obtain⟨_,em,t1,x1,e,rfl,ZT,TK,TM,WW⟩:=po (key:=key) (tag:=tb) (v:=vb) (n:=(I:Int)) (back:=false) h.lay ⟨cB.2.2.1,cB.2.2.2.1⟩ ⟨by omega,by omega⟩;simp only[em,oBS];by_cases hne:e=0
  ·subst hne;have wx:wk .i64 x1=x1:=cd (by have:=ZT.2.2.1;dsimp only at this;omega) (by have:=ZT.2.2.2.1;dsimp only at this;omega);obtain⟨_,el,t2,x2,P9,Q0,rfl,ZH,hm2⟩:=Bm (a:=x1) hm ⟨ZT.2.2.1,WW rfl⟩;simp only[wx,el,Int.reduceBEq,oCT,oCF,bV,hg,gA,gB,gC,e1,e2,e3,eR,eT,oBS,w1,wI,wc,d9,fU,Bool.or_false,Bool.or_true,Bool.or_self,bne_self_eq_false];exact iu hm2 (mk (Zm ZH).1 (Zm ZH).2 (by omega) (by omega) (by omega)) rfl (.inl ⟨rfl,rfl⟩)
  ·simp only[bne_iff_ne.2 hne,oCT];exact gZ hm hok ⟨TK,TM⟩
 ·obtain⟨_,em,t1,x1,e,rfl,ZT,TK,TM,WW⟩:=po (key:=key) (tag:=ta) (v:=va) (n:=(I:Int)) (back:=false) h.lay ⟨cA.2.2.1,cA.2.2.2.1⟩ ⟨by omega,by omega⟩;simp only[em,oBS];by_cases hne:e=0
  ·subst hne;have wx:wk .i64 x1=x1:=cd (by have:=ZT.2.2.1;dsimp only at this;omega) (by have:=ZT.2.2.2.1;dsimp only at this;omega);obtain⟨_,el,P9,Q0,rfl,hm2⟩:=yh (a:=x1) (t:=tb) (v:=vb) hm ⟨ZT.2.2.1,WW rfl⟩ cB;simp only[wx,el,Int.reduceBEq,oCT,oCF,bV,hg,gA,gB,gC,e1,e2,e3,eR,eT,oBS,w1,wI,wc,d9,fU,Bool.or_false,Bool.or_true,Bool.or_self,bne_self_eq_false];exact iu hm2 (mk hl hr (by omega) (by omega) (by omega)) rfl (.inl ⟨rfl,rfl⟩)
  ·simp only[bne_iff_ne.2 hne,oCT];exact gZ hm hok ⟨TK,TM⟩
 ·have:=We (by decide);exact iu hm (mk hl hr (by omega) (by omega) (by omega)) rfl (.inr rfl)
 ·have:=We (by decide);by_cases hta:ta=0
  ·subst hta
   cases va==0 with
   |true=>
    simp only[BEq.rfl,Int.reduceBEq,oCT,oCF,bV,hg,gA,gB,gC,e1,e2,e3,eR,eT,oBS,w1,wI,wc,d9,fU,Bool.or_false,Bool.or_true,Bool.or_self,bne_self_eq_false];exact iu hm (mk hl hr (by omega) (by omega) (by omega)) rfl (.inr rfl)
   |false=>
    simp only[show(false==true)=false from rfl,Int.reduceBEq,oCT,oCF,bV,hg,gA,gB,gC,e1,e2,e3,eR,eT,oBS,w1,wI,wc,d9,fU,Bool.or_false,Bool.or_true,Bool.or_self,bne_self_eq_false];exact iu hm (mk hl hr (by omega) (by omega) (by omega)) rfl (.inr rfl)
  ·simp only[bne_iff_ne.2 hta,oCT];exact gZ hm hok (by decide)
 ·have:=We (by decide);by_cases hta:ta=0
  ·subst hta
   cases va==0 with
   |true=>
    simp only[show(true==false)=false from rfl,Int.reduceBEq,oCT,oCF,bV,hg,gA,gB,gC,e1,e2,e3,eR,eT,oBS,w1,wI,wc,d9,fU,Bool.or_false,Bool.or_true,Bool.or_self,bne_self_eq_false];exact iu hm (mk hl hr (by omega) (by omega) (by omega)) rfl (.inr rfl)
   |false=>
    simp only[BEq.rfl,Int.reduceBEq,oCT,oCF,bV,hg,gA,gB,gC,e1,e2,e3,eR,eT,oBS,w1,wI,wc,d9,fU,Bool.or_false,Bool.or_true,Bool.or_self,bne_self_eq_false];exact iu hm (mk hl hr (by omega) (by omega) (by omega)) rfl (.inr rfl)
  ·simp only[bne_iff_ne.2 hta,oCT];exact gZ hm hok (by decide)
 ·have:=We (by decide);have wj:wk .u16 ((j:Int)+1)=(j:Int)+1:=cn (by omega) (by omega);rw[wj];exact iu hm (mk (Zm (nY (by omega))).1 (Zm (nY (by omega))).2 (by omega) (by omega) (by omega)) rfl (.inr rfl)
 ·by_cases hta:ta=0
  ·subst hta;have wa:wk .i64 va=va:=cd (by have:=cA.2.2.1;dsimp only at this;omega) (by have:=cA.2.2.2.1;dsimp only at this;omega);have a0:=cA.2.2.1;dsimp only at a0;by_cases hva:va>255
   ·simp only[oDT hva,bne_self_eq_false,oCT,oCF];exact gZ hm hok (by decide)
   ·simp only[oDF hva,wa,Int.reduceBEq,oCT,oCF,bV,hg,gA,gB,gC,e1,e2,e3,eR,eT,oBS,w1,wI,wc,d9,fU,Bool.or_false,Bool.or_true,Bool.or_self,bne_self_eq_false];exact iu hm (mk hl hr (by omega) (by omega) (by omega)) rfl (.inr rfl)
  ·simp only[bne_iff_ne.2 hta,oCT];exact gZ hm hok (by decide)
 ·refine Ok.ret ⟨_,_,_,_,rfl,hm,⟨⟨show(0:Int)<=2 by decide,show(2:Int)<=4 by decide⟩,hl,hr,⟨by dsimp only;omega,by dsimp only;omega⟩,⟨c0,by dsimp only;omega⟩,ha,⟨s0,s1⟩,⟨r0,r1⟩,Qx⟩,.inr (.inr ⟨rfl,rfl,rfl,(23,(A:Int),(B:Int),(C:Int),(I:Int)),by dsimp only;omega,?_,rfl⟩)⟩;dsimp only;rw[show(j:Int)+1-1=(j:Int) by omega,oTN];exact hx
 ·by_cases hsa:sa=-1
  ·simp only[beq_iff_eq.2 hsa,oCT];exact gZ hm hok (by decide)
  ·simp only[oBF hsa,Int.reduceBEq,oCT,oCF,bV,hg,gA,gB,gC,e1,e2,e3,eR,eT,oBS,w1,wI,wc,d9,fU,Bool.or_false,Bool.or_true,Bool.or_self,bne_self_eq_false];exact iu hm (mk hl hr (by omega) (by omega) (by omega)) rfl (.inr rfl)
 ·obtain⟨_,ed,t1,x1,e,rfl,ZT,TK,TM⟩:=HS (key:=key) (op:=op) h.lay cB cC;have n0:(op==0)=false:=oBF (by omega);have n1:(op==1)=false:=oBF (by omega);have n2:(op==2)=false:=oBF (by omega);have PN:(op==15)=false:=oBF (by omega);have PP:(op==16)=false:=oBF (by omega);have PQ:(op==17)=false:=oBF (by omega);have Q2:(op==18)=false:=oBF (by omega);have Q3:(op==19)=false:=oBF (by omega);have n20:(op==20)=false:=oBF (by omega);have Q4:(op==21)=false:=oBF (by omega);have Q5:(op==22)=false:=oBF (by omega);have PR:(op==23)=false:=oBF (by omega);have Q6:(op==24)=false:=oBF (by omega);simp only[n0,n1,n2,PN,PP,PQ,Q2,Q3,n20,Q4,Q5,PR,Q6,ed,Int.reduceBEq,oCT,oCF,bV,hg,gA,gB,gC,e1,e2,e3,eR,eT,oBS,w1,wI,wc,d9,fU,Bool.or_false,Bool.or_true,Bool.or_self,bne_self_eq_false];by_cases hne:e=0
  ·subst hne;simp only[Q2,Q3,n20,Q4,Q5,Q6,Int.reduceBEq,oCT,oCF,bV,hg,gA,gB,gC,e1,e2,e3,eR,eT,oBS,w1,wI,wc,d9,fU,Bool.or_false,Bool.or_true,Bool.or_self,bne_self_eq_false];exact iu hm (mk (Zm ZT).1 (Zm ZT).2 (by omega) (by omega) (by omega)) rfl (.inl ⟨rfl,rfl⟩)
  ·simp only[bne_iff_ne.2 hne,oCT];exact gZ hm hok ⟨TK,TM⟩
theorem rr.mono{K:Int->Prop}{n m:Int}{t:DTh}(h:rr K n t)(hm:n<=m):rr K m t:=⟨h.state,h.len,h.regs,h.pc,⟨h.count.1,by have:=h.count.2;omega⟩,h.handler,h.saved,h.trap,h.code⟩
theorem MOk.mono{n m:Int}{ss bs:List Int}{cs:List DCe}{ls:List DLn}{ts:List DTh}(h:MOk n ss bs cs ls ts)(hm:n<=m):MOk m ss bs cs ls ts:=⟨h.lay,h.mem,h.tlen,λt ht=>(h.thr t ht).mono hm⟩
theorem w8{α:Type}{l:List α}{i:Nat}{a:α}(h:l[i]?=some a):l.set i a=l:=by
 apply List.ext_getElem?
 grind
def Ie(code:List DIn)(s:Int)(t':DTh):Prop:=
 (s=0/\t'.1=1)\/(s=2/\t'.1=4)\/(s=1/\t'.1=2/\∃i:DIn,1<=t'.2.2.1/\code[(t'.2.2.1-1).toNat]?=some i/\i.1=23)
def F0(n key:Int)(code:List DIn)(ss bs:List Int)(ts:List DTh)(i:Nat)(r:List Int×Int×List DCe×List DLn×List DTh×Int×Int×Unit):Prop:=
 ∃s ZP Zz t',r=(bs,key,ZP,Zz,ts.set i t',s,0,())/\iE (RK bs ss) ZP Zz/\rr (RK bs ss) n t'/\((s=3/\ts[i]?=some t'/\t'.1≠1)\/Ie code s t')
def Hw(i:Nat)(s:Int×Int×(List DIn)×(List (Int))×(List (List (Int)))×Unit×Int×Unit×Unit×Unit×(List (Int))×Int×(List DCe)×(List DLn)×(List DTh)×Unit):Nat:=
 match s.2.2.2.2.2.2.2.2.2.2.2.2.2.2.1[i]? with
 |some t=>((s.2.1-t.2.2.2.1)*256+(255-t.2.2.1)).toNat
 |none=>0
theorem vf{i:Nat}{a b k:Int}{code:List DIn}{ss bs:List Int}{d:List (List Int)}{cs:List DCe}{ls:List DLn}{ts:List DTh}{t:DTh}(h:ts[i]?=some t):Hw i (a,b,code,ss,d,(),0,(),(),(),bs,k,cs,ls,ts,())=((b-t.2.2.2.1)*256+(255-t.2.2.1)).toNat:=by
 unfold Hw
 simp_all
theorem Cv{n key k:Int}{code:List DIn}{ss bs:List Int}{d:List (List Int)}{cs:List DCe}{ls:List DLn}{ts:List DTh}{i:Nat}(hp:eU code ss d)(h:MOk n ss bs cs ls ts)(Xt:0<=n)(hn:n+64<=1099511627776)(hi:i<4)(hk:1<=k/\k<=64):
 Ok (dc code ss d bs key cs ls ts (i:Int) k) (F0 (n+64) key code ss bs ts i):=by
 have Wo:=h.tlen;obtain⟨t,ht⟩:∃t,ts[i]?=some t:=⟨_,oGE (by omega)⟩;have hg:bS ts i=some t:=ht
 have Xa:i<ts.length:=by omega
 have hok:=h.thr t (ca ht);unfold dc;rw[mP hp h (by omega)];simp;rw[oDF (show ¬(i:Int)<0 by omega),oDF (show ¬(i:Int)>=4 by omega),oDF (show ¬k<1 by omega),oDF (show ¬k>64 by omega)];simp only[oBS,oCF,pT h,bV,hg]
 (with_reducible refine bN (λZW=>?_) λZW=>?_)
 ·refine Ok.ret ⟨3,cs,ls,t,?_,h.mem,hok.mono (by omega),.inl ⟨rfl,ht,ZW⟩⟩;rw[w8 ht]
 have U9:=hok.count;have hpc:=hok.pc;rw[bR (x:=t.2.2.2.1+k) (by omega) (by omega)]
 refine Ok.loop (P:=λs'=>∃ZP Zz t',s'=((i:Int),t.2.2.2.1+k,code,ss,d,(),0,(),(),(),bs,key,ZP,Zz,ts.set i t',())/\iE (RK bs ss) ZP Zz/\rr (RK bs ss) (n+64) t'/\t'.1=1/\t'.2.2.2.1<t.2.2.2.1+k)
  (R:=λr=>∃s ZP Zz t',r=(s,0,bs,key,ZP,Zz,ts.set i t',())/\iE (RK bs ss) ZP Zz/\rr (RK bs ss) (n+64) t'/\Ie code s t') (m:=Hw i) ⟨cs,ls,t,by rw[w8 ht],h.mem,hok.mono (by omega),ZW,by omega⟩ ?_ ?_ ?_
 ·rw[vf ht];unfold NN;omega
 ·rintro _ ⟨ZP,Zz,t',rfl,hm,Wn,hr,hlt⟩;have Zf:(ts.set i t')[i]?=some t':=mX Xa t';unfold dE;dsimp only;refine(Eg hp (((h.mono (show n<=n+64 by omega)).set hm Wn):MOk (n+64) ss bs ZP Zz (ts.set i t')) Zf hr (by omega) (by omega)).bind ?_;rintro _ ⟨s,P9,Q0,t2,rfl,hm2,WS,Y3⟩;dsimp only;rw[List.set_set]
  (with_reducible refine bN (λZj=>?_) λZj=>?_)
  ·refine Ok.ret ⟨_,_,_,_,rfl,hm2,WS,?_⟩
   rcases Y3 with⟨q,_⟩|⟨q1,q2,_⟩|⟨q1,q2,_,q3⟩
   ·exact absurd q Zj
   ·exact .inr (.inl ⟨q1,q2⟩)
   ·exact .inr (.inr ⟨q1,q2,q3⟩)
  ·rw[bV];simp only[oBS,mX Xa];have h0:=WS.count;have h1:=WS.pc;have h2:=Wn.pc
   rcases Y3 with⟨_,q1,q2⟩|⟨q1,_⟩|⟨q1,_⟩
   ·(with_reducible refine bN (λhcc=>?_) λhcc=>?_)
    ·exact Ok.ret ⟨_,_,_,_,rfl,hm2,WS,.inl ⟨rfl,q1⟩⟩
    ·refine Ok.ret ⟨⟨_,_,_,rfl,hm2,WS,q1,by omega⟩,?_⟩;rw[vf Zf,vf (mX Xa t2)];omega
   ·omega
   ·omega
 ·rintro _ ⟨s,ZP,Zz,t',rfl,hm,Wn,hs⟩;exact Ok.ret ⟨_,_,_,_,rfl,hm,Wn,.inr hs⟩
end Go.Proofs.Ytgphpfjngblbiaa
namespace Go.Proofs.Ytgphpfjngblbiaa
def Mk(out:List Bool)(k:Nat):Prop:=out[k]?=some true
def un:List Bool->Nat
 | []=>0
 |b::r=>(if b then 0 else 1)+un r
theorem D7:∀{out:List Bool}{k:Nat},out[k]?=some false->un (out.set k true)+1=un out:=by
 intro out
 induction out with
 |nil=>intro k h;simp at h
 |cons b r ih=>
  intro k h
  cases k with
  |zero=>
   simp only[List.getElem?_cons_zero,oSJ]at h;subst h;simp[un];omega
  |succ k=>
   simp only[List.getElem?_cons_succ]at h;have:=ih h;simp only[List.set_cons_succ,un];omega
theorem D8(n:Nat):un (List.replicate n false)=n:=by
 induction n with
 |zero=>rfl
 |succ n ih=>simp only[List.replicate_succ,un,ih];simp;omega
theorem mb{out:List Bool}{k i:Nat}(hk:k<out.length):Mk (out.set k true) i↔i=k\/Mk out i:=by
 unfold Mk;rw[List.getElem?_set];by_cases h:k=i
 ·subst h;simp[hk]
 ·simp[h,Ne.symm h]
theorem Bc{n k:Nat}:¬Mk (List.replicate n false) k:=by
 unfold Mk;rw[List.getElem?_replicate];split<;>simp
inductive Rs (code:List fQ):Nat->Prop
 |zero:0<code.length->Rs code 0
 |step {k t:Nat} {x:fQ}:Rs code k->code[k]?=some x->(t:Int)∈tgt x.1 x.2.2.2.2 k->t<code.length->Rs code t
inductive Rd (code:List fQ):Nat->Prop
 |zero:0<code.length->Rd code 0
 |step {k t:Nat} {x:fQ}:Rd code k->code[k]?=some x->(t:Int)∈tgt x.1 x.2.2.2.2 k->t<code.length->Rd code t
 |free {k t:Nat} {x:fQ}:Rd code k->code[k]?=some x->frI x=true->t<code.length->Rd code t
structure yc (S:Nat->Prop)(succ:fQ->Nat->List Int)(code:List fQ)(out:List Bool)(todo:List Int):Prop where
 len:out.length=code.length
 snd:∀k,Mk out k->S k
 snt:∀t:Nat,(t:Int)∈todo->t<code.length->S t
 cmp:∀k x,Mk out k->code[k]?=some x->∀t:Nat,(t:Int)∈succ x k->t<code.length->Mk out t\/(t:Int)∈todo
 fst:Mk out 0\/(0:Int)∈todo
theorem zW{code:List fQ}{out:List Bool}{k:Int}(hl:out.length=code.length):(ij code out k=true/\(∀t:Nat,(t:Int)=k->t<code.length->Mk out t))\/(ij code out k=false/\∃j:Nat,k=j/\j<code.length/\out[j]?=some false):=by
 unfold ij;by_cases h1:k<0
 ·left;refine⟨by simp[h1],λt ht _=>by omega⟩
 ·obtain⟨j,rfl⟩:=Int.eq_ofNat_of_zero_le (show 0<=k by omega);by_cases h2:(code.length:Int)<=j
  ·left;refine⟨by simp[h2],λt ht h=>by omega⟩
  ·have hj:j<out.length:=by omega
   have e:out[j]?=some out[j]:=oGE hj
   cases hv:out[j]with
   |true=>
    left;refine⟨by simp[e,hv],λt ht _=>?_⟩
    have:t=j:=by omega
    subst this;unfold Mk;rw[e,hv]
   |false=>
    right;refine⟨?_,j,rfl,by omega,by rw[e,hv]⟩
    have h3:¬((j:Int)<0):=by omega
    simp only[h3,h2,decide_false,Bool.false_or,oTN,e,hv,Option.getD_some]
theorem yc.skip{S:Nat->Prop}{succ:fQ->Nat->List Int}{code:List fQ}{out:List Bool}{ys:List Int}{k:Int}(h:yc S succ code out (ys++[k]))(hs:∀t:Nat,(t:Int)=k->t<code.length->Mk out t)(h0:0<code.length):yc S succ code out ys:=by
 refine⟨h.len,h.snd,λt ht=>h.snt t (by simp[ht]),λi x hi hx t ht hlt=>?_,?_⟩
 ·rcases h.cmp i x hi hx t ht hlt with h1|h1
  ·exact .inl h1
  ·rcases List.mem_append.1 h1 with h2|h2
   ·exact .inr h2
   ·exact .inl (hs t (by simpa using h2) hlt)
 ·rcases h.fst with h1|h1
  ·exact .inl h1
  ·rcases List.mem_append.1 h1 with h2|h2
   ·exact .inr h2
   ·exact .inl (hs 0 (by simpa using h2) h0)
theorem yc.mark{S:Nat->Prop}{succ:fQ->Nat->List Int}{code:List fQ}{out:List Bool}{ys:List Int}{j:Nat}{x:fQ}(h:yc S succ code out (ys++[(j:Int)]))(hj:j<code.length)(hx:code[j]?=some x)
 (hS:S j->∀t:Nat,(t:Int)∈succ x j->t<code.length->S t):yc S succ code (out.set j true) (ys++succ x j):=by
 have hjo:j<out.length:=by rw[h.len];exact hj
 have Qq:S j:=h.snt j (by simp) hj;refine⟨by rw[List.length_set];exact h.len,λk hk=>?_,λt ht hlt=>?_,λi y hi hy t ht hlt=>?_,?_⟩
 ·rcases(mb hjo).1 hk with rfl|hk
  ·exact Qq
  ·exact h.snd k hk
 ·rcases List.mem_append.1 ht with h1|h1
  ·exact h.snt t (by simp[h1]) hlt
  ·exact hS Qq t h1 hlt
 ·rcases(mb hjo).1 hi with rfl|hi
  ·rw[hx]at hy
   injection hy with hy
   subst hy;exact .inr (List.mem_append_right _ ht)
  ·rcases h.cmp i y hi hy t ht hlt with h1|h1
   ·exact .inl ((mb hjo).2 (.inr h1))
   ·rcases List.mem_append.1 h1 with h2|h2
    ·exact .inr (List.mem_append_left _ h2)
    ·have:t=j:=by have h3:=List.mem_singleton.1 h2;omega
     subst this;exact .inl ((mb hjo).2 (.inl rfl))
 ·rcases h.fst with h1|h1
  ·exact .inl ((mb hjo).2 (.inr h1))
  ·rcases List.mem_append.1 h1 with h2|h2
   ·exact .inr (List.mem_append_left _ h2)
   ·have:0=j:=by have h3:=List.mem_singleton.1 h2;omega
    subst this;exact .inl ((mb hjo).2 (.inl rfl))
theorem yc.start{S:Nat->Prop}{succ:fQ->Nat->List Int}{code:List fQ}(h0:S 0):yc S succ code (List.replicate code.length false) [0]:=
 ⟨by simp,λk hk=>absurd hk Bc,λt ht _=>by
  have:t=0:=by simpa using ht
  subst this;exact h0,λk x hk=>absurd hk Bc,.inr (by simp)⟩
def H4(code:List fQ)(out:List Bool)(fr:Bool):Prop:=fr=true↔∃k x,Mk out k/\code[k]?=some x/\frI x=true
theorem E4{code:List fQ}(h0:0<code.length):∀(n:Nat)(out:List Bool)(fr:Bool)(todo:List Int),yc (Rs code) (λx k=>tgt x.1 x.2.2.2.2 k) code out todo->H4 code out fr->3*un out+todo.length<n ->
 ∃Xh Qc,uY code n out fr todo=some (Xh,Qc)/\yc (Rs code) (λx k=>tgt x.1 x.2.2.2.2 k) code Xh []/\H4 code Xh Qc:=by
 intro n
 induction n with
 |zero=>intro out fr todo _ _ h;omega
 |succ n ih=>
  intro out fr todo hI hF hn;rcases jD todo with rfl|⟨ys,k,rfl⟩
  ·exact⟨out,fr,rfl,hI,hF⟩
  ·rw[List.length_append,List.length_singleton]at hn;simp only[uY,List.getLast?_append,List.getLast?_singleton,Option.some_or,List.dropLast_concat]
   rcases zW (code:=code) (k:=k) hI.len with⟨h1,h2⟩|⟨h1,j,rfl,hj,RY⟩
   ·rw[oIP h1];exact ih out fr ys (hI.skip h2 h0) hF (by omega)
   ·rw[oIN (by simp[h1])];have hx:code[j]?=some code[j]:=oGE hj
    have hjo:j<out.length:=by rw[hI.len];exact hj
    simp only[oTN,hx];have hu:=D7 RY;have hl:=rA code[j].1 code[j].2.2.2.2 j;refine ih _ _ _ (hI.mark hj hx λhS t ht hlt=>.step hS hx ht hlt) ?_ (by rw[List.length_append];omega);unfold H4 at *;rw[Bool.or_eq_true,hF];constructor
    ·rintro(⟨k,x,h3,h4,h5⟩|h3)
     ·exact⟨k,x,(mb hjo).2 (.inr h3),h4,h5⟩
     ·exact⟨j,_,(mb hjo).2 (.inl rfl),hx,h3⟩
    ·rintro⟨k,x,h3,h4,h5⟩
     rcases(mb hjo).1 h3 with rfl|h3
     ·rw[hx]at h4
      injection h4 with h4
      subst h4;exact .inr h5
     ·exact .inl ⟨k,x,h3,h4,h5⟩
def u9(code:List fQ)(x:fQ)(k:Nat):List Int:=tgt x.1 x.2.2.2.2 k++(if frI x then rp code.length else[])
theorem Dl{n t:Nat}:(t:Int)∈rp n↔t<n:=by
 unfold rp;rw[List.mem_map];constructor
 ·rintro⟨a,ha,e⟩;have:=List.mem_range.1 ha;omega
 ·intro h;exact⟨t,List.mem_range.2 h,rfl⟩
theorem E5{code:List fQ}(h0:0<code.length)(h64:code.length<=64)(Z3:∀(k:Nat)(x:fQ),code[k]?=some x->∀t∈tgt x.1 x.2.2.2.2 k,0<=t):∀(n:Nat)(out:List Bool)(todo:List Int),yc (Rd code) (u9 code) code out todo->(∀t∈todo,0<=t)->67*un out+todo.length<n ->
 ∃Xh,s7 code n out todo=some Xh/\yc (Rd code) (u9 code) code Xh []:=by
 intro n
 induction n with
 |zero=>intro out todo _ _ h;omega
 |succ n ih=>
  intro out todo hI hP hn;rcases jD todo with rfl|⟨ys,k,rfl⟩
  ·exact⟨out,rfl,hI⟩
  ·rw[List.length_append,List.length_singleton]at hn;have hk0:0<=k:=hP k (by simp);have Qm:∀t∈ys,0<=t:=λt ht=>hP t (by simp[ht]);simp only[s7,List.getLast?_append,List.getLast?_singleton,Option.some_or,List.dropLast_concat];rw[oIN (by omega)]
   rcases zW (code:=code) (k:=k) hI.len with⟨h1,h2⟩|⟨h1,j,rfl,hj,RY⟩
   ·rw[oIP h1];exact ih out ys (hI.skip h2 h0) Qm (by omega)
   ·rw[oIN (by simp[h1])];have hx:code[j]?=some code[j]:=oGE hj;simp only[oTN,hx];have hu:=D7 RY;have hl:=rA code[j].1 code[j].2.2.2.2 j
    have Ys:(if frI code[j]then rp code.length else[]).length<=64:=by split<;>simp[sX];omega
    rw[List.append_assoc];refine ih _ (ys++u9 code code[j] j) (hI.mark hj hx λhS t ht hlt=>?_) (λt ht=>?_) (by unfold u9;rw[List.length_append,List.length_append];omega)
    ·unfold u9 at ht;rcases List.mem_append.1 ht with h3|h3
     ·exact .step hS hx h3 hlt
     ·split at h3
      ·rename_i hf;exact .free hS hx hf hlt
      ·simp at h3
    ·rcases List.mem_append.1 ht with h3|h3
     ·exact Qm t h3
     ·unfold u9 at h3;rcases List.mem_append.1 h3 with h4|h4
      ·exact Z3 j _ hx t h4
      ·split at h4
       ·unfold rp at h4;obtain⟨i,_,rfl⟩:=List.mem_map.1 h4;omega
       ·simp at h4
theorem yE{code:List fQ}(h0:0<code.length)(h64:code.length<=64)(Z3:∀(k:Nat)(x:fQ),code[k]?=some x->∀t∈tgt x.1 x.2.2.2.2 k,0<=t):
 ∃R,nF code=some R/\tG code=some R/\R.length=code.length/\(∀k,k<code.length->(Mk R k↔Rd code k)):=by
 obtain⟨o1,fr,e1,i1,f1⟩:=E4 h0 10000 (List.replicate code.length false) false [0] (yc.start (.zero h0)) ⟨λh=>by simp at h,λ⟨k,_,h,_⟩=>absurd h Bc⟩ (by rw[D8];simp;omega);obtain⟨o2,e2,i2⟩:=E5 h0 h64 Z3 10000 (List.replicate code.length false) [0] (yc.start (.zero h0)) (by simp) (by rw[D8];simp;omega)
 have c1:∀k,Rs code k->Mk o1 k:=by
  intro k h
  induction h with
  |zero=>rcases i1.fst with h|h
         ·exact h
         ·simp at h
  |step hk hx ht hlt ih=>rcases i1.cmp _ _ ih hx _ ht hlt with h|h
                         ·exact h
                         ·simp at h
 have c2:∀k,Rd code k->Mk o2 k:=by
  intro k h
  induction h with
  |zero=>rcases i2.fst with h|h
         ·exact h
         ·simp at h
  |step hk hx ht hlt ih=>rcases i2.cmp _ _ ih hx _ (List.mem_append_left _ ht) hlt with h|h
                         ·exact h
                         ·simp at h
  |free hk hx hf hlt ih=>rcases i2.cmp _ _ ih hx _ (by unfold u9;rw[oIP hf];exact List.mem_append_right _ (Dl.2 hlt)) hlt with h|h
                         ·exact h
                         ·simp at h
 have sd:∀k,Rs code k->Rd code k:=by
  intro k h
  induction h with
  |zero h=>exact .zero h
  |step hk hx ht hlt ih=>exact .step ih hx ht hlt
 have key:∀k,k<code.length->(Mk (o1.map λb=>b||fr) k↔Rd code k):=by
  intro k hk
  have QF:k<o1.length:=by rw[i1.len];exact hk
  have hg:o1[k]?=some o1[k]:=oGE QF;unfold Mk;rw[List.getElem?_map,hg,oMS,oSJ,Bool.or_eq_true];constructor
  ·rintro(h|h)
   ·exact sd k (i1.snd k (by unfold Mk;rw[hg,h]))
   ·obtain⟨j,x,h1,h2,h3⟩:=f1.1 h;exact .free (sd j (i1.snd j h1)) h2 h3 hk
  ·intro h;by_cases hf:fr=true
   ·exact .inr hf
   ·left
    have:Rs code k:=by
     clear QF hg hk
     induction h with
     |zero h=>exact .zero h
     |step hk hx ht hlt ih=>exact .step ih hx ht hlt
     |free YX hx UM hlt ih=>exact absurd (f1.2 ⟨_,_,c1 _ ih,hx,UM⟩) hf
    have:=c1 k this;unfold Mk at this;rw[hg]at this;injection this
 refine⟨o1.map λb=>b||fr,by unfold nF;rw[e1];rfl,?_,by rw[List.length_map,i1.len],key⟩;unfold tG;rw[e2];congr 1;apply List.ext_getElem?;intro k;by_cases hk:k<code.length
 ·have h1:k<o2.length:=by rw[i2.len];exact hk
  have h2:k<(o1.map λb=>b||fr).length:=by rw[List.length_map,i1.len];exact hk
  have XD:=key k hk;have Wb:Mk o2 k↔Mk (o1.map λb=>b||fr) k:=⟨λh=>XD.2 (i2.snd k h),λh=>c2 k (XD.1 h)⟩;unfold Mk at Wb;rw[oGE h1,oGE h2]at Wb⊢;simp only[oSJ]at Wb⊢;exact Bool.eq_iff_iff.2 Wb
 ·rw[oGN (by rw[i2.len];omega),oGN (by rw[List.length_map,i1.len];omega)]
end Go.Proofs.Ytgphpfjngblbiaa
namespace Go.Proofs.Ytgphpfjngblbiaa
open Go.RowKit
theorem sW{α β:Type}(c:Bool)(a b:Option α)(f:α->Option β):(bif c then a else b).bind f=bif c then a.bind f else b.bind f:=by cases c<;>rfl
theorem Dd{code code':List DIn}{ss bs:List Int}{d:List (List Int)}{key:Int}{cs:List DCe}{ls:List DLn}{ts:List DTh}{t:DTh}{p:Nat}(hl:code'.length=code.length)(ht:bS ts 0=some t)(hp:t.2.2.1=(p:Int))
 (hc:p<code.length->code'[p]?=code[p]?):dn code' ss d 0 bs key cs ls ts=dn code ss d 0 bs key cs ls ts:=by
 have h0:cT 0=some 0:=rfl;unfold dn;rw[h0];simp only[oBS,ht,hl,hp,bV];by_cases h:code.length<=p
 ·have e:decide ((p:Int)>=bQ code.length)=true:=by simp only[bQ];exact oDT (by omega)
  simp only[e,oCT]
 ·have e1:bS code' p=bS code p:=hc (by omega);rw[e1]
  cases hx:bS code p with
  |none=>simp only[Option.bind_none]
  |some x=>
   simp only[oBS,sW]
def PO{α:Type}(o:Option α)(Q:α->Prop):Prop:=∀r,o=some r->Q r
theorem PO.ret{α:Type}{a:α}{Q:α->Prop}(h:Q a):PO (some a) Q:=λr e=>by injection e with e;exact e▸h
theorem qM{α:Type}{Q:α->Prop}:PO (none:Option α) Q:=λr e=>by cases e
theorem PO.bind{α β:Type}{o:Option α}{f:α->Option β}{Q:β->Prop}(h:∀x,o=some x->PO (f x) Q):PO (o.bind f) Q:=λr e=>by
 cases o with
 |none=>cases e
 |some x=>exact h x rfl r e
theorem PO.cond{α:Type}{c:Bool}{a b:Option α}{Q:α->Prop}(h1:c=true->PO a Q)(h2:c=false->PO b Q):PO (bif c then a else b) Q:=by cases c;exact h2 rfl;exact h1 rfl
theorem zN{α:Type}{o:Option α}{v:α}(h:o=some v)(P:α->Prop)(hp:PO o P):P v:=hp v h
theorem fu{i:Nat}{X6:Int}{ts:List DTh}{r:Int×List DTh×Unit}(h:cE i X6 ts=some r):r.1=2:=by
 have:PO (cE i X6 ts) (λr=>r.1=2):=by
  unfold cE;exact PO.bind λ_ _=>PO.bind λ_ _=>PO.bind λ_ _=>PO.ret rfl
 exact this r h
theorem gt{α:Type}{l:List α}{a:α}(h:bS l 0=some a)(f:α->α):bS (List.modify l 0 f) 0=some (f a):=by
 cases l with
 |nil=>cases h
 |cons x r=>
  have:x=a:=by simpa[bS]using h
  subst this;rfl
def Hg(t:DTh):Int:=t.2.2.2.2.2.1
def GoP(x:DIn)(p:Nat)(s:Nat×Int×List Int×Int×List DCe×List DLn×List DTh×Int×Int×Int×Int×Int×Unit):Prop:=
 s.1=0/\(x.1=22\/s.2.1∈tgt x.1 x.2.2.2.2 p)/\∃t',bS s.2.2.2.2.2.2.1 0=some t'/\Hg t'=-1
theorem iv{o i:Int}{p:Nat}(h1:o≠18)(h2:o≠21)(h3:o≠22)(h4:o≠24):((p:Int)+1)∈tgt o i p:=by
 unfold tgt;simp only[beq_iff_eq,Bool.or_eq_true,h1,h2,h3,h4,or_self,if_false]
 repeat' split
 all_goals simp
theorem xC{o i:Int}{p:Nat}(h:o=18\/o=19\/o=20\/o=21):i∈tgt o i p:=by
 unfold tgt;rcases h with rfl|rfl|rfl|rfl
 ·simp
 ·simp only[show((19:Int)==18||(19:Int)==21)=false from rfl,show((19:Int)==22||(19:Int)==24)=false from rfl,show((19:Int)==19||(19:Int)==20)=true from rfl,Bool.false_eq_true,if_false,if_true];split
  ·simp
  ·split
   ·simp
   ·simp;omega
 ·simp only[show((20:Int)==18||(20:Int)==21)=false from rfl,show((20:Int)==22||(20:Int)==24)=false from rfl,show((20:Int)==19||(20:Int)==20)=true from rfl,Bool.false_eq_true,if_false,if_true];split
  ·simp
  ·split
   ·simp
   ·simp;omega
 ·simp
theorem xV{a b:Int}(h:(a==b)=true):a=b:=by simpa using h
theorem GS{a b:Int}(h:(a==b)=false):a≠b:=by simpa using h
theorem Gu{code:List DIn}{ss bs:List Int}{d:List (List Int)}{key:Int}{cs:List DCe}{ls:List DLn}{ts:List DTh}{t:DTh}{x:DIn}{p:Nat}(ht:bS ts 0=some t)(hp:t.2.2.1=(p:Int))(hc:p<code.length)(h64:p<=1000)(hx:bS code p=some x)(hs:Hg t=-1):
 PO (dn code ss d 0 bs key cs ls ts) λr=>r.1=-1->∃t',bS r.2.2.2.2.2.1 0=some t'/\Hg t'=-1/\(x.1=22\/t'.2.2.1∈tgt x.1 x.2.2.2.2 p):=by
 have h0:cT 0=some 0:=rfl;have hw:w64 ((p:Int)+1)=(p:Int)+1:=bR (by omega) (by omega);unfold dn;rw[h0];simp only[oBS,ht,hp,bV,hx,sW,hw];rw[oDF (show ¬(p:Int)>=bQ code.length by simp only[bQ];omega)];simp only[oCF];refine PO.bind λQ9 _=>PO.bind λOc _=>PO.bind λOd _=>PO.bind λOe _=>PO.bind λOf _=>PO.bind λOg _=>?_;split
 ·exact qM
 all_goals
  rename_i TN
  have hP:=zN TN (λv=>match v with|.inl s=>GoP x p s|.inr s=>s.1≠-1) (by
   refine PO.cond (λc=>PO.ret ⟨rfl,.inr (iv (by have:=xV c;omega) (by have:=xV c;omega) (by have:=xV c;omega) (by have:=xV c;omega)),t,ht,hs⟩) λn0=>?_;refine PO.cond (λc=>?_) λn1=>?_
   ·have c:=xV c;refine PO.bind λ_ _=>PO.bind λ_ _=>PO.bind λ_ _=>?_;exact PO.ret ⟨rfl,.inr (iv (by omega) (by omega) (by omega) (by omega)),_,gt ht _,hs⟩
   refine PO.cond (λc=>?_) λn2=>?_
   ·have c:=xV c;refine PO.bind λ_ _=>PO.bind λ_ _=>PO.bind λ_ _=>?_;exact PO.ret ⟨rfl,.inr (iv (by omega) (by omega) (by omega) (by omega)),_,gt ht _,hs⟩
   refine PO.cond (λc=>?_) λn3=>?_
   ·have c:=xV c;refine PO.bind λ_ _=>PO.bind λ_ _=>PO.bind λ_ _=>PO.bind λ_ _=>PO.bind λ_ _=>?_;exact PO.ret ⟨rfl,.inr (iv (by omega) (by omega) (by omega) (by omega)),_,gt ht _,hs⟩
   refine PO.cond (λc=>?_) λn4=>?_
   ·have c:=xV c;refine PO.cond (λ_=>?_) λ_=>?_
    all_goals
     refine PO.bind λ⟨a1,a2,a3,_⟩ _=>?_;dsimp only;refine PO.cond (λ_=>PO.bind λ⟨b1,b2,_⟩ h=>PO.ret (show b1≠-1 from by have h2:b1=2:=fu h;omega)) λ_=>?_;refine PO.cond (λ_=>?_) λ_=>?_
     ·exact PO.bind λ⟨c1,c2,c3,c4,_⟩ _=>PO.bind λ_ _=>PO.bind λ_ _=>PO.bind λ_ _=>PO.ret ⟨rfl,.inr (iv (by omega) (by omega) (by omega) (by omega)),_,gt ht _,hs⟩
     ·exact PO.bind λ⟨c1,c2,_⟩ _=>PO.ret ⟨rfl,.inr (iv (by omega) (by omega) (by omega) (by omega)),t,ht,hs⟩
   refine PO.cond (λc=>?_) λn5=>?_
   ·have c:=xV c;refine PO.cond (λ_=>?_) λ_=>?_
    all_goals
     refine PO.bind λ⟨a1,a2,a3,_⟩ _=>?_;dsimp only;refine PO.cond (λ_=>PO.bind λ⟨b1,b2,_⟩ h=>PO.ret (show b1≠-1 from by have h2:b1=2:=fu h;omega)) λ_=>?_;refine PO.cond (λ_=>?_) λ_=>?_
     ·exact PO.bind λ⟨c1,c2,c3,c4,_⟩ _=>PO.bind λ_ _=>PO.bind λ_ _=>PO.bind λ_ _=>PO.ret ⟨rfl,.inr (iv (by omega) (by omega) (by omega) (by omega)),_,gt ht _,hs⟩
     ·exact PO.bind λ⟨c1,c2,_⟩ _=>PO.ret ⟨rfl,.inr (iv (by omega) (by omega) (by omega) (by omega)),t,ht,hs⟩
   refine PO.cond (λc=>PO.ret ⟨rfl,.inr (xC (by have:=xV c;omega)),t,ht,hs⟩) λn6=>?_;refine PO.cond (λc=>?_) λn7=>?_
   ·have c:=xV c;refine PO.cond (λ_=>PO.bind λ⟨b1,b2,_⟩ h=>PO.ret (show b1≠-1 from by have h2:b1=2:=fu h;omega)) λ_=>?_;exact PO.cond (λ_=>PO.ret ⟨rfl,.inr (xC (by omega)),t,ht,hs⟩) λ_=>PO.ret ⟨rfl,.inr (iv (by omega) (by omega) (by omega) (by omega)),t,ht,hs⟩
   refine PO.cond (λc=>?_) λn8=>?_
   ·have c:=xV c;refine PO.cond (λ_=>PO.bind λ⟨b1,b2,_⟩ h=>PO.ret (show b1≠-1 from by have h2:b1=2:=fu h;omega)) λ_=>?_;exact PO.cond (λ_=>PO.ret ⟨rfl,.inr (xC (by omega)),t,ht,hs⟩) λ_=>PO.ret ⟨rfl,.inr (iv (by omega) (by omega) (by omega) (by omega)),t,ht,hs⟩
   refine PO.cond (λc=>?_) λn9=>?_
   ·have c:=xV c;refine PO.bind λ_ _=>PO.bind λ_ _=>PO.bind λ_ _=>?_;exact PO.ret ⟨rfl,.inr (xC (by omega)),_,gt ht _,hs⟩
   refine PO.cond (λc=>?_) λSI=>?_
   ·have c:=xV c;refine PO.cond (λ_=>PO.bind λ⟨b1,b2,_⟩ h=>PO.ret (show b1≠-1 from by have h2:b1=2:=fu h;omega)) λ_=>?_;refine PO.cond (λ_=>PO.bind λ⟨b1,b2,_⟩ h=>PO.ret (show b1≠-1 from by have h2:b1=2:=fu h;omega)) λ_=>?_;exact PO.ret ⟨rfl,.inl c,t,ht,hs⟩
   refine PO.cond (λc=>?_) λSJ=>?_
   ·refine PO.cond (λ_=>PO.bind λ⟨b1,b2,_⟩ h=>PO.ret (show b1≠-1 from by have h2:b1=2:=fu h;omega)) λn=>absurd hs (GS n)
   refine PO.cond (λc=>?_) λN2=>?_
   ·exact PO.bind λ_ _=>PO.ret (show(1:Int)≠-1 by decide)
   have n6:=GS n6;have n9:=GS n9;have SI:=GS SI;have SJ:=GS SJ;refine PO.bind λ_ _=>PO.bind λ_ _=>PO.bind λ_ _=>PO.bind λ⟨a1,a2,a3,_⟩ _=>?_;dsimp only;refine PO.cond (λ_=>PO.bind λ⟨b1,b2,_⟩ h=>PO.ret (show b1≠-1 from by have h2:b1=2:=fu h;omega)) λ_=>?_
   exact PO.bind λ_ _=>PO.bind λ_ _=>PO.bind λ_ _=>PO.ret ⟨rfl,.inr (iv n6 n9 SI SJ),_,gt ht _,hs⟩)
 ·obtain⟨e0,RP,t',Zf,hs'⟩:=hP;dsimp only at e0 RP Zf;subst e0;rw[Zf];simp only[oBS];rw[Option.bind_assoc];refine PO.bind λ⟨Oh,_⟩ _=>?_;dsimp only;simp only[sW,Option.bind_assoc,oBS];refine PO.cond (λ_=>?_) λ_=>?_
  ·exact PO.bind λ_ _=>PO.bind λ_ _=>PO.ret λ_=>⟨_,gt (gt Zf _) _,hs',RP⟩
  ·exact PO.ret λ_=>⟨_,gt Zf _,hs',RP⟩
 ·exact PO.ret λh=>absurd h hP
theorem Eb{S T:Type}{f:S->Option (S⊕T)}(st:Nat->S){n N:Nat}{bad good:T}(p:Nat->Prop)(hn:n<N)
 (h:∀i,i<n->(∀j,j<i->p j)->(p i/\f (st i)=some (.inl (st (i+1))))\/(¬p i/\f (st i)=some (.inr bad)))(he:f (st n)=some (.inr good)):
 ((∀i,i<n->p i)/\bU f N (st 0)=some good)\/((¬ ∀i,i<n->p i)/\bU f N (st 0)=some bad):=by
 have key:∀k i,i+k=n->(∀j,j<i->p j)->∀N,k<N->((∀i,i<n->p i)/\bU f N (st i)=some good)\/((¬ ∀i,i<n->p i)/\bU f N (st i)=some bad):=by
  intro k
  induction k with
  |zero=>
   intro i hi hp N hN
   obtain rfl:i=n:=by omega
   obtain⟨N',rfl⟩:∃N',N=N'+1:=⟨N-1,by omega⟩;exact .inl ⟨hp,by simp only[bU,he,oBS]⟩
  |succ k ih=>
   intro i hi hp N hN;obtain⟨N',rfl⟩:∃N',N=N'+1:=⟨N-1,by omega⟩
   rcases h i (by omega) hp with⟨Sk,e⟩|⟨Sk,e⟩
   ·simp only[bU,e];refine ih (i+1) (by omega) (λj hj=>?_) N' (by omega);by_cases hji:j=i
    ·rw[hji];exact Sk
    ·exact hp j (by omega)
   ·exact .inr ⟨λg=>Sk (g i (by omega)),by simp only[bU,e,oBS]⟩
 simp_all
def Cd(o:Option (Bool×Unit))(p:Prop):Prop:=(p/\o=some (true,()))\/(¬p/\o=some (false,()))
theorem Cd.val{o:Option (Bool×Unit)}{p:Prop}(h:Cd o p):∃b,o=some (b,())/\(b=true↔p):=by
 rcases h with⟨h,e⟩|⟨h,e⟩
 all_goals simp_all
theorem Cd.same{o o':Option (Bool×Unit)}{p:Prop}(h:Cd o p)(h':Cd o' p):o=o':=by
 rcases h with⟨h,e⟩|⟨h,e⟩<;>rcases h' with⟨h',e'⟩|⟨h',e'⟩
 ·rw[e,e']
 ·simp_all
 ·simp_all
 ·rw[e,e']
theorem vg{ss:List Int}(h:ss.length<=1000):Cd (df ss) (Cc ss):=by
 have ⟨⟨v,u⟩,e,hv⟩:=u6 h
 cases v with
 |true=>exact .inl ⟨hv.1 rfl,e⟩
 |false=>exact .inr ⟨λg=>(by simp_all),e⟩
theorem Fy{bs ss:List Int}{key:Int}(hb:bs.length<=1000)(hs:ss.length<=1000)(hi:∀b∈bs,yb b):Cd (de bs key ss) (LV bs ss):=by
 unfold de
 rcases vg hs with⟨hz,e⟩|⟨hz,e⟩
 rotate_left
 ·rw[e];exact .inr ⟨λh=>hz h.1,rfl⟩
 rw[e];delta bQ;simp only[oBS,oNT,oCF];by_cases hl:(bs.length:Int)=ss.length
 rotate_left
 ·rw[bne_iff_ne.2 hl];exact .inr ⟨λh=>hl (by rw[h.2.1]),rfl⟩
 rw[bne_eq_false_iff_eq.2 hl];have h4:=hz.2.1
 have Xg:=Eb (f:=cO) (N:=NN) (bad:=.inl (false,())) (good:=.inr (ss,bs,(bs.length:Int),(bs.length:Int),false,bs,key,())) (λi=>(ss,bs,(bs.length:Int),(i:Int),bs,key,())) (n:=bs.length) (λi=>jX bs ss i) (by unfold NN;omega) (λi ZO X1=>by
  obtain⟨b,Y5⟩:∃b,bs[i]?=some b:=⟨_,oGE ZO⟩;obtain⟨z,YJ⟩:∃z,ss[i]?=some z:=⟨_,oGE (by omega)⟩;have X':=hz.2.2 z (ca YJ);have U3:=hi b (ca Y5);unfold yb at U3;unfold cO;delta bQ;dsimp only;rw[oDT (show(i:Int)<bs.length by omega),bV];simp only[oCT,oBS,show bS bs i=some b from Y5,show bS ss i=some z from YJ];rw[bR (x:=512-z) (by omega) (by omega)];by_cases h0:b<0
  ·rw[oDT h0];exact .inr ⟨λh=>by unfold jX at h;rw[bW Y5]at h;omega,rfl⟩
  rw[oDF h0];by_cases h1:b>512-z
  ·rw[oDT h1];exact .inr ⟨λh=>by unfold jX at h;rw[bW Y5,bW YJ]at h;omega,rfl⟩
  rw[oDF h1]
  have Tc:(lO bs 0 (Nat.sub i 0)).length=i:=by unfold lO;rw[oLT,List.drop_zero];show min i _=i;omega
  rw[show iG 0 i bs.length=true by unfold iG;simp;omega,Tc];simp only[oCT,oCF]
  rcases Eb (f:=cP) (N:=NN) (bad:=.inl (false,())) (good:=.inr (ss,(i:Int),b,bs,(bs.length:Int),(i:Int),lO bs 0 (Nat.sub i 0),(i:Int),(i:Int),false,bs,key,())) (λj=>(ss,(i:Int),b,bs,(bs.length:Int),(i:Int),lO bs 0 (Nat.sub i 0),(i:Int),(j:Int),bs,key,())) (n:=i) (λk=>¬(bs.getD i 0<=bs.getD k 0+ss.getD k 0/\bs.getD k 0<=bs.getD i 0+ss.getD i 0)) (by unfold NN;omega) (λj hj _=>by
   obtain⟨c,ZI⟩:∃c,bs[j]?=some c:=⟨_,oGE (by omega)⟩;obtain⟨y,V7⟩:∃y,ss[j]?=some y:=⟨_,oGE (by omega)⟩;have X5:=hz.2.2 y (ca V7);have hc:=X1 j hj;unfold jX at hc;rw[bW ZI,bW V7]at hc
   have hx:(bS (lO bs 0 (Nat.sub i 0)) j)=some c:=by
    unfold bS lO;rw[List.getElem?_take,List.drop_zero,<- ZI];exact oIP hj
   unfold cP;dsimp only;rw[oDT (show(j:Int)<i by omega),bV,bV];simp only[oCT,oBS,hx,show bS ss j=some y from V7,show bS ss i=some z from YJ];rw[bR (x:=b+z) (by omega) (by omega),bR (x:=c+y) (by omega) (by omega),bW Y5,bW YJ,bW ZI,bW V7];by_cases g1:b+z>=c
   ·rw[oDT g1];by_cases g2:c+y>=b
    ·simp_all
    ·rw[oDF g2];simp only[oCT,oCF];rw[bR (x:=(j:Int)+1) (by omega) (by omega)];exact .inl ⟨λh=>g2 (by omega),rfl⟩
   ·rw[oDF g1];simp only[oCT,oCF];rw[bR (x:=(j:Int)+1) (by omega) (by omega)]
    exact .inl ⟨λh=>g1 (by omega),rfl⟩) (by
   unfold cP;dsimp only;rw[oDF (show ¬(i:Int)<i by omega)]
   rfl)with⟨hp,e⟩|⟨hp,e⟩
  ·rw[show bU cP NN (ss,(i:Int),b,bs,(bs.length:Int),(i:Int),lO bs 0 (Nat.sub i 0),(i:Int),0,bs,key,())=_ from e];dsimp only;rw[bR (x:=(i:Int)+1) (by omega) (by omega)];refine .inl ⟨⟨?_,?_,hp⟩,rfl⟩
   ·rw[bW Y5];omega
   ·rw[bW Y5,bW YJ];omega
  ·rw[show bU cP NN (ss,(i:Int),b,bs,(bs.length:Int),(i:Int),lO bs 0 (Nat.sub i 0),(i:Int),0,bs,key,())=_ from e]
   exact .inr ⟨λh=>hp h.2.2,rfl⟩) (by
  unfold cO;dsimp only;rw[oDF (show ¬(bs.length:Int)<bs.length by omega)]
  rfl)
 simp only[oCF]
 rcases Xg with⟨hp,e⟩|⟨hp,e⟩
 ·rw[show bU cO NN (ss,bs,(bs.length:Int),0,bs,key,())=_ from e];exact .inl ⟨⟨hz,by omega,hp⟩,rfl⟩
 ·rw[show bU cO NN (ss,bs,(bs.length:Int),0,bs,key,())=_ from e];exact .inr ⟨λh=>hp h.2.2,rfl⟩
theorem tE:gg=df:=rfl
theorem Im{bs ss:List Int}{key:Int}(hb:bs.length<=1000)(hs:ss.length<=1000)(hi:∀b∈bs,yb b):Cd (gn bs key ss) (LV bs ss):=by
 unfold gn;rw[tE]
 rcases vg hs with⟨hz,e⟩|⟨hz,e⟩
 rotate_left
 ·rw[e];exact .inr ⟨λh=>hz h.1,rfl⟩
 rw[e];delta bQ;simp only[oBS,oNT,oCF];by_cases hl:(bs.length:Int)=ss.length
 rotate_left
 ·rw[bne_iff_ne.2 hl];exact .inr ⟨λh=>hl (by rw[h.2.1]),rfl⟩
 rw[bne_eq_false_iff_eq.2 hl];have h4:=hz.2.1
 have Xg:=Eb (f:=dl) (N:=NN) (bad:=.inl (false,())) (good:=.inr (ss,bs,(bs.length:Int),(bs.length:Int),false,bs,key,())) (λi=>(ss,bs,(bs.length:Int),(i:Int),bs,key,())) (n:=bs.length) (λi=>jX bs ss i) (by unfold NN;omega) (λi ZO X1=>by
  obtain⟨b,Y5⟩:∃b,bs[i]?=some b:=⟨_,oGE ZO⟩;obtain⟨z,YJ⟩:∃z,ss[i]?=some z:=⟨_,oGE (by omega)⟩;have X':=hz.2.2 z (ca YJ);have U3:=hi b (ca Y5);unfold yb at U3;unfold dl;dsimp only;rw[oDT (show(i:Int)<bs.length by omega),bV];simp only[oCT,oBS,show bS bs i=some b from Y5,show bS ss i=some z from YJ];by_cases h0:b<0
  ·rw[oDT h0];exact .inr ⟨λh=>by unfold jX at h;rw[bW Y5]at h;omega,rfl⟩
  rw[oDF h0];by_cases h1:b>=512
  ·rw[oDT h1];exact .inr ⟨λh=>by unfold jX at h;rw[bW Y5,bW YJ]at h;omega,rfl⟩
  rw[oDF h1,bR (x:=b+z) (by omega) (by omega)];by_cases h2:b+z>512
  ·rw[oDT h2];exact .inr ⟨λh=>by unfold jX at h;rw[bW Y5,bW YJ]at h;omega,rfl⟩
  rw[oDF h2];simp only[oCF,oBS]
  rcases Eb (f:=dm) (N:=NN) (bad:=.inl (false,())) (good:=.inr (ss,(i:Int),b,bs,(bs.length:Int),(i:Int),(i:Int),(i:Int),false,bs,key,())) (λj=>(ss,(i:Int),b,bs,(bs.length:Int),(i:Int),(i:Int),(j:Int),bs,key,())) (n:=i) (λk=>¬(bs.getD i 0<=bs.getD k 0+ss.getD k 0/\bs.getD k 0<=bs.getD i 0+ss.getD i 0)) (by unfold NN;omega) (λj hj _=>by
   obtain⟨c,ZI⟩:∃c,bs[j]?=some c:=⟨_,oGE (by omega)⟩;obtain⟨y,V7⟩:∃y,ss[j]?=some y:=⟨_,oGE (by omega)⟩;have X5:=hz.2.2 y (ca V7);have hc:=X1 j hj;unfold jX at hc;rw[bW ZI,bW V7]at hc;unfold dm;dsimp only;rw[oDT (show(j:Int)<i by omega),bV,bV];simp only[oCT,oBS,show bS bs j=some c from ZI,show bS ss j=some y from V7,show bS ss i=some z from YJ];rw[bR (x:=b+z) (by omega) (by omega),bR (x:=c+y) (by omega) (by omega),bW Y5,bW YJ,bW ZI,bW V7];by_cases g1:b<=c+y
   ·rw[oDT g1];by_cases g2:c<=b+z
    ·simp_all
    ·rw[oDF g2];simp only[oCT,oCF];rw[bR (x:=(j:Int)+1) (by omega) (by omega)];exact .inl ⟨λh=>g2 (by omega),rfl⟩
   ·rw[oDF g1];simp only[oCT,oCF];rw[bR (x:=(j:Int)+1) (by omega) (by omega)]
    exact .inl ⟨λh=>g1 (by omega),rfl⟩) (by
   unfold dm;dsimp only;rw[oDF (show ¬(i:Int)<i by omega)]
   rfl)with⟨hp,e⟩|⟨hp,e⟩
  ·rw[show bU dm NN (ss,(i:Int),b,bs,(bs.length:Int),(i:Int),(i:Int),0,bs,key,())=_ from e];dsimp only;rw[bR (x:=(i:Int)+1) (by omega) (by omega)];refine .inl ⟨⟨?_,?_,hp⟩,rfl⟩
   ·rw[bW Y5];omega
   ·rw[bW Y5,bW YJ];omega
  ·rw[show bU dm NN (ss,(i:Int),b,bs,(bs.length:Int),(i:Int),(i:Int),0,bs,key,())=_ from e]
   exact .inr ⟨λh=>hp h.2.2,rfl⟩) (by
  unfold dl;dsimp only;rw[oDF (show ¬(bs.length:Int)<bs.length by omega)]
  rfl)
 simp only[oCF]
 rcases Xg with⟨hp,e⟩|⟨hp,e⟩
 ·rw[show bU dl NN (ss,bs,(bs.length:Int),0,bs,key,())=_ from e];exact .inl ⟨⟨hz,by omega,hp⟩,rfl⟩
 ·rw[show bU dl NN (ss,bs,(bs.length:Int),0,bs,key,())=_ from e];exact .inr ⟨λh=>hp h.2.2,rfl⟩
end Go.Proofs.Ytgphpfjngblbiaa
