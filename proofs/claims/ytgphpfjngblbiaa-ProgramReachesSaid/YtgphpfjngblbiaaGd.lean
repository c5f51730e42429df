/- Part of the proof; no condition. -/
import Derived.Test.YtgphpfjngblbiaaGc
import Derived.Deep.DeepAppendRoom
import Derived.ArgAppend
import Derived.Deep.OwnRows
import Derived.Deep.LoopGhost
import Derived.Deep.DeepCutAuto
import Derived.Deep.CutBlock
import Derived.Test.YtgphpfjngblbiaaProg
import Derived.KernelRfl
import Derived.WalkKit
import Derived.WalkSpells
import Derived.Handy
import Derived.OpenShut
import Derived.Deep.Slices
set_option linter.unusedVariables false
set_option linter.unusedSimpArgs false
namespace Go.Proofs.Ytgphpfjngblbiaa
open Go.RowKit
def Ab(xs:List Int)(w:World)(e:Ending)(w':World):Prop:=
 ∃A c,e=.returned (.slice A xs.length c)/\kM .i64 w' (New w w') A xs/\w.grownBy w' none
theorem nT{w w0:World}{xs:List Int}{vs:Array Value}{t:TypeId}(h:w.heap.size<=w0.heap.size)(hv:vs=(xs.map (.int .i64)).toArray):kM .i64 (w0.alloc (.cells vs t)) (New w (w0.alloc (.cells vs t))) (some ⟨w0.heap.size,0,none⟩) xs:=by
 subst hv;intro i hi;refine⟨_,_,rfl,⟨h,by simp⟩,?_⟩;rw[World.cell?_alloc_new,Nat.zero_add,List.getElem?_toArray];exact oGE hi
set_option maxHeartbeats 1000000 in
theorem jO(op a b c i pc:Int)(w:World)(h0:0<=pc)(h1:pc<64):
 Calls Try.prog 34 #[.agg #[.int .i64 op,.int .i64 a,.int .i64 b,.int .i64 c,.int .i64 i],.int .i64 pc] w (Ab (tgt op i pc) w):=by
 have ha:w.grownBy (w.alloc (.cells #[.int .i64 op,.int .i64 a,.int .i64 b,.int .i64 c,.int .i64 i] 78)) none:=bT (b9 _ _) _;have Ha:=Lib.hid ha;clear ha;obtain⟨xs,Ys⟩:∃xs,xs=tgt op i pc:=⟨_,rfl⟩;rw[<- Ys];unfold tgt at Ys;have Yk:=Lib.hid Ys;clear Ys
 have T5:∀(v:Int),xs=[v]->Ab xs w (.returned (.slice (some ⟨w.heap.size+1,0,none⟩) 1 1)) ((w.alloc (.cells #[.int .i64 op,.int .i64 a,.int .i64 b,.int .i64 c,.int .i64 i] 78)).alloc (.cells #[.int .i64 v] 3)):=by
  rintro v rfl;exact⟨_,1,rfl,by have:=nT (w:=w) (w0:=w.alloc (.cells #[.int .i64 op,.int .i64 a,.int .i64 b,.int .i64 c,.int .i64 i] 78)) (xs:=[v]) (vs:=#[.int .i64 v]) (t:=3) (by simp) rfl;simpa using this,bT Ha.out _⟩
 have T6:∀(u v:Int),xs=[u,v]->Ab xs w (.returned (.slice (some ⟨w.heap.size+1,0,none⟩) 2 2)) ((w.alloc (.cells #[.int .i64 op,.int .i64 a,.int .i64 b,.int .i64 c,.int .i64 i] 78)).alloc (.cells #[.int .i64 u,.int .i64 v] 3)):=by
  rintro u v rfl;exact⟨_,2,rfl,by have:=nT (w:=w) (w0:=w.alloc (.cells #[.int .i64 op,.int .i64 a,.int .i64 b,.int .i64 c,.int .i64 i] 78)) (xs:=[u,v]) (vs:=#[.int .i64 u,.int .i64 v]) (t:=3) (by simp) rfl;simpa using this,bT Ha.out _⟩
 have T2:=Lib.hid T5;have TH:=Lib.hid T6;clear T5 T6;cases j1:(op==18)
 ·cases j2:(op==21)
  ·cases r1:(op==22)
   ·cases r2:(op==24)
    ·cases z1:(op==19)
     ·cases z2:(op==20)
      ·have He:=Lib.hid (show xs=[pc+1] by rw[Yk.out];simp[*])
       go_enter Try.func34,Try.ntmps34
       go_wp2
       go_ret
       exact T2.out _ He.out
      ·by_cases l1:i<pc+1
       ·have He:=Lib.hid (show xs=[i,pc+1] by rw[Yk.out];simp[*])
        go_enter Try.func34,Try.ntmps34
        go_wp2
        go_ret
        exact TH.out _ _ He.out
       ·by_cases l2:pc+1<i
        ·have He:=Lib.hid (show xs=[pc+1,i] by rw[Yk.out];simp[*])
         go_enter Try.func34,Try.ntmps34
         go_wp2
         go_ret
         exact TH.out _ _ He.out
        ·have He:=Lib.hid (show xs=[pc+1] by rw[Yk.out];simp[*])
         go_enter Try.func34,Try.ntmps34
         go_wp2
         go_ret
         exact T2.out _ He.out
     ·by_cases l1:i<pc+1
      ·have He:=Lib.hid (show xs=[i,pc+1] by rw[Yk.out];simp[*])
       go_enter Try.func34,Try.ntmps34
       go_wp2
       go_ret
       exact TH.out _ _ He.out
      ·by_cases l2:pc+1<i
       ·have He:=Lib.hid (show xs=[pc+1,i] by rw[Yk.out];simp[*])
        go_enter Try.func34,Try.ntmps34
        go_wp2
        go_ret
        exact TH.out _ _ He.out
       ·have He:=Lib.hid (show xs=[pc+1] by rw[Yk.out];simp[*])
        go_enter Try.func34,Try.ntmps34
        go_wp2
        go_ret
        exact T2.out _ He.out
    ·go_enter Try.func34,Try.ntmps34
     go_wp2
     go_ret
     have e:xs=[]:=by rw[Yk.out];simp[*]
     subst e;exact⟨none,0,rfl,Row.nil _ _ _,Ha.out⟩
   ·go_enter Try.func34,Try.ntmps34
    go_wp2
    go_ret
    have e:xs=[]:=by rw[Yk.out];simp[*]
    subst e;exact⟨none,0,rfl,Row.nil _ _ _,Ha.out⟩
  ·have He:=Lib.hid (show xs=[i] by rw[Yk.out];simp[*])
   go_enter Try.func34,Try.ntmps34
   go_wp2
   go_ret
   exact T2.out _ He.out
 ·have He:=Lib.hid (show xs=[i] by rw[Yk.out];simp[*])
  go_enter Try.func34,Try.ntmps34
  go_wp2
  go_ret
  exact T2.out _ He.out
structure Buf (k:IntKind)(e:TypeId)(w:World)(g c:Nat)(xs:List Int):Prop where
 len:xs.length<=c
 cap:c<=maxLen
 eq:∃cur:Array Value,w.heap[g]?=some (.cells cur e (0,0))/\cur.size=c/\cur.toList.take xs.length=xs.map (.int k)
theorem Buf.hi{k:IntKind}{e:TypeId}{w:World}{g c:Nat}{xs:List Int}(h:Buf k e w g c xs):g<w.heap.size:=by
 obtain⟨cur,h1,_⟩:=h.eq;exact(Array.getElem?_eq_some_iff.1 h1).1
theorem Buf.cell{k:IntKind}{e:TypeId}{w:World}{g c:Nat}{xs:List Int}(h:Buf k e w g c xs){j:Nat}(hj:j<xs.length):w.cell? ⟨g,j,none⟩=some (.int k xs[j]):=by
 obtain⟨cur,h1,h2,h3⟩:=h.eq;rw[cell_of_row _ _ _ _ _ _ h1]
 have h4:(cur.toList.take xs.length)[j]?=some (.int k xs[j]):=by rw[h3];simp[hj]
 rw[List.getElem?_take,oIP hj]at h4;simpa using h4
theorem Buf.free{k:IntKind}{e:TypeId}{w:World}{g c:Nat}{xs:List Int}(h:Buf k e w g c xs)(j:Nat):w.frozen? ⟨g,j,none⟩=false:=by
 obtain⟨cur,h1,_⟩:=h.eq;exact frozen_of_row _ _ _ _ _ h1
theorem Buf.ints{k:IntKind}{e:TypeId}{w:World}{g c:Nat}{xs:List Int}(h:Buf k e w g c xs):kM k w (λb=>b=g) (some ⟨g,0,none⟩) xs:=by
 intro i hi
 have ZL:i<xs.length:=by simpa using hi
 exact⟨g,0,rfl,rfl,by rw[Nat.zero_add,h.cell ZL];simp⟩
theorem Buf.low{k:IntKind}{e:TypeId}{w:World}{g c:Nat}{xs:List Int}(h:Buf k e w g c xs):kM k w (λb=>b<w.heap.size) (some ⟨g,0,none⟩) xs:=
 Row.sub h.ints λb hb=>by rw[hb];exact h.hi
theorem Buf.keep{k:IntKind}{e:TypeId}{w w':World}{g c:Nat}{xs:List Int}(h:Buf k e w g c xs)(hh:w'.heap[g]?=w.heap[g]?):Buf k e w' g c xs:=by
 obtain⟨cur,h1,h2⟩:=h.eq;exact⟨h.len,h.cap,cur,by rw[hh];exact h1,h2⟩
theorem Buf.grow{k:IntKind}{e:TypeId}{w w':World}{g c:Nat}{xs:List Int}(h:Buf k e w g c xs)(hg:w.grownBy w' none):Buf k e w' g c xs:=h.keep (hg.block _ h.hi (by simp))
theorem Buf.set{k:IntKind}{e:TypeId}{w:World}{g c:Nat}{xs:List Int}(h:Buf k e w g c xs)(j:Nat)(x:Int)(hj:j<xs.length):Buf k e (w.setCell ⟨g,j,none⟩ (.int k x)) g c (xs.set j x):=by
 obtain⟨cur,h1,h2,h3⟩:=h.eq;refine⟨by simpa using h.len,h.cap,cur.setIfInBounds j (.int k x),?_,by simpa using h2,?_⟩
 ·exact heap_setCell_same _ _ _ _ _ _ h1
 ·rw[List.length_set,List.map_set,<- h3,Array.toList_setIfInBounds];apply List.ext_getElem?;intro i;simp only[List.getElem?_take,List.getElem?_set];have:=h.len;split<;>(try split)<;>simp_all<;>omega
theorem Buf.tail{k:IntKind}{e:TypeId}{w:World}{g c:Nat}{xs:List Int}(h:Buf k e w g c xs):kM k w (λb=>b=g) (some ⟨g,1,none⟩) xs.tail:=by
 intro i hi
 have ZL:i+1<xs.length:=by simp at hi;omega
 exact⟨g,1,rfl,rfl,by rw[Nat.add_comm 1 i,h.cell ZL];simp⟩
theorem Buf.own{k:IntKind}{e:TypeId}{w:World}{g c base:Nat}{xs:List Int}(h:Buf k e w g c xs)(hb:base<=g):w.ownsRow base e 1 (.slice (some ⟨g,0,none⟩) xs.length c) xs.length (xs.map (.int k)):=by
 obtain⟨cur,h1,h2,h3⟩:=h.eq;exact⟨by simp,.inr ⟨g,c,cur,rfl,hb,h1,h.len,h.cap,by simp[h2],by simpa using h3⟩⟩
theorem iS{k:IntKind}{e:TypeId}{w:World}{base n:Nat}{v:Value}{xs:List Int}(h:w.ownsRow base e 1 v n (xs.map (.int k)))(hne:xs≠[]):
 ∃g c,n=xs.length/\v=.slice (some ⟨g,0,none⟩) xs.length c/\base<=g/\Buf k e w g c xs:=by
 obtain⟨h0,h1⟩:=h
 have hl:n=xs.length:=by simpa using h0.symm
 subst hl
 rcases h1 with⟨_,h1⟩|⟨g,c,cur,rfl,hb,h1,h2,h3,h4,h5⟩
 ·exact absurd (List.length_eq_zero_iff.1 h1) hne
 ·exact⟨g,c,rfl,rfl,hb,h2,h3,cur,h1,by simpa using h4,by simpa using h5⟩
theorem kM.cells{k:IntKind}{w:World}{F:Nat->Prop}{A:Option Addr}{xs:List Int}(h:kM k w F A xs)(hne:xs≠[]):
 ∃ad,A=some ad/\∀(j:Nat) u,(xs.map (Value.int k))[j]?=some u->w.cell? (ad.add j)=some u:=by
 have hl:0<xs.length:=List.length_pos_iff.2 hne;obtain⟨b,off,rfl,_,_⟩:=h.at_ hl;refine⟨_,rfl,λj u hj=>?_⟩
 have Z0:j<xs.length:=by
  rcases Nat.lt_or_ge j xs.length with h'|h'
  ·exact h'
  ·simp[h']at hj
 obtain⟨b',QU,e,_,hc⟩:=h.at_ Z0
 injection e with e;injection e with e1 e2;subst e1;subst e2
 rw[show(⟨b,off,none⟩:Addr).add j=⟨b,off+j,none⟩ by simp[Addr.add],hc];simpa[Z0]using hj
section
variable {P:Program} {ops:Array Oper} {rest:List Oper} {o:Oper} {a:Act} {Q:Exit->Act->World->Prop} {w:World}
end
section
variable {P:Program} {w:World}
theorem sF(k:IntKind)(t ty e:TypeId)(i:TypeInfo)(bytes:Nat)(ht:P.underlying t=some (.slice e))(hi:P.info? e=some i)(hz:i.zero=some (.int k 0))(Wc:i.size=1)(Vx:i.bytes=bytes)
 (g0 c0:Nat)(zs:List Int)(hB:Buf k e w g0 c0 zs)(A:Option Addr)(xs:List Int)(cp:Nat)(F:Nat->Prop)(hI:kM k w F A xs)(hne:xs≠[])(hm:zs.length+xs.length<=maxLen)(hb:(zs.length+xs.length)*bytes<=140737488355328):
 ∃g c w',(Builtin.append_ #[t,t] ty #[.slice (some ⟨g0,0,none⟩) zs.length c0,.slice A xs.length cp]).run P w=.ok (.slice (some ⟨g,0,none⟩) (zs++xs).length c) w'/\Buf k e w' g c (zs++xs)/\
  (g=g0/\c=c0/\w.grownBy w' (some g0)\/w.heap.size<=g/\w.grownBy w' none):=by
 obtain⟨ad,rfl,hc⟩:=hI.cells hne;have UO:=hB.own (Nat.zero_le g0)
 have UE:zs++xs≠[]:=by simp[hne]
 rcases Nat.lt_or_ge c0 (zs.length+xs.length)with hl|hl
 ·obtain⟨v',w',hr,hown,hg⟩:=run_append_arg_grows (P:=P) w t ty e i (.int k 0) 1 bytes ht hi hz Wc Vx rfl (by decide) ⟨g0,0,none⟩ zs.length c0 (zs.map (.int k)) (by simp) (λj u hj=>by
   have Z0:j<zs.length:=by
    rcases Nat.lt_or_ge j zs.length with h'|h'
    ·exact h'
    ·simp[h']at hj
   rw[show(⟨g0,0,none⟩:Addr).add j=⟨g0,j,none⟩from(by unfold Addr.add;split;(rename_i h0;subst h0;rfl);simp),hB.cell Z0]
   simpa[Z0]using hj) ad xs.length cp (xs.map (.int k)) (by simp) hc hl hm hb
  rw[<- List.map_append]at hown;obtain⟨g,c,_,rfl,hb,VW⟩:=iS hown UE;exact⟨g,c,w',hr,VW,.inr ⟨hb,hg⟩⟩
 ·obtain⟨w',hr,hown,hg⟩:=run_append_own_spare (P:=P) w 0 t ty e i 1 ht hi Wc g0 zs.length c0 (zs.map (.int k)) UO ad xs.length cp (xs.map (.int k)) (by simp) hc (by simp[Value.oneCell']) hl;rw[<- List.map_append]at hown;obtain⟨g,c,_,e,_,VW⟩:=iS hown UE
  injection e with e1 e2 e3
  injection e1 with e1;injection e1 with e1
  subst e1;subst e3;exact⟨g0,c0,w',by rw[hr,List.length_append],VW,.inl ⟨rfl,rfl,hg⟩⟩
end
def Bk(w:World)(q t:Nat)(vs:List Value):Prop:=w.heap[q]?=some (.cells vs.toArray t (0,0))
theorem Bk.hi{w:World}{q t:Nat}{vs:List Value}(h:Bk w q t vs):q<w.heap.size:=(Array.getElem?_eq_some_iff.1 h).1
theorem Bk.keep{w w':World}{q t:Nat}{vs:List Value}(h:Bk w q t vs)(hh:w'.heap[q]?=w.heap[q]?):Bk w' q t vs:=hh.trans h
theorem Bk.grow{w w':World}{q t:Nat}{vs:List Value}(h:Bk w q t vs)(hg:w.grownBy w' none):Bk w' q t vs:=h.keep (hg.block _ h.hi (by simp))
theorem Bk.cell{w:World}{q t:Nat}{vs:List Value}(h:Bk w q t vs)(j:Nat):w.cell? ⟨q,j,none⟩=vs[j]?:=by
 rw[cell_of_row _ _ _ _ _ _ h];simp
theorem Bk.free{w:World}{q t:Nat}{vs:List Value}(h:Bk w q t vs)(j:Nat):w.frozen? ⟨q,j,none⟩=false:=frozen_of_row _ _ _ _ _ h
theorem Bk.new{w:World}{t:Nat}{vs:List Value}:Bk (w.alloc (.cells vs.toArray t)) w.heap.size t vs:=heap_alloc_new w _
theorem Bk.set{w:World}{q t:Nat}{vs:List Value}(h:Bk w q t vs)(j:Nat)(v:Value):Bk (w.setCell ⟨q,j,none⟩ v) q t (vs.set j v):=by
 unfold Bk;rw[heap_setCell_same _ _ _ _ _ _ h];simp
theorem Bk.other{w:World}{q t q' j:Nat}{vs:List Value}(h:Bk w q t vs)(hne:q≠q')(v:Value):Bk (w.setCell ⟨q',j,none⟩ v) q t vs:=by
 unfold Bk;rw[heap_setCell_other _ _ _ _ hne];exact h
theorem Bk.drew{w:World}{q t:Nat}{vs:List Value}(h:Bk w q t vs):Bk w.drew q t vs:=h
abbrev dq:=Int×Int×Int×Int×Int
def frI(x:dq):Bool:=x.1==22||(x.1==23&&(x.2.2.2.2==10||x.2.2.2.2==12))
def eO(code:List dq)(out:List Bool)(k:Int):Bool:=decide (k<0)||(decide ((code.length:Int)<=k)||(out[k.toNat]?).getD false)
def pY(code:List dq):Nat->List Bool->Bool->List Int->Option (List Bool×Bool)
 |0,_,_,_=>none
 |n+1,out,fr,todo=>match todo.getLast? with
  |none=>some (out,fr)
  |some k=>if eO code out k=true then pY code n out fr todo.dropLast
   else match code[k.toNat]? with
    |some x=>pY code n (out.set k.toNat true) (fr||frI x) (todo.dropLast++tgt x.1 x.2.2.2.2 k)
    |none=>none
def ki(code:List dq):Option (List Bool):=(pY code 10000 (List.replicate code.length false) false [0]).map λr=>r.1.map λb=>b||r.2
def oD(code:List dq):Nat->List Bool->List Int->Option (List Bool)
 |0,_,_=>none
 |n+1,out,todo=>match todo.getLast? with
  |none=>some out
  |some k=>if k<0 then none else if eO code out k=true then oD code n out todo.dropLast
   else match code[k.toNat]? with
    |some x=>oD code n (out.set k.toNat true) (todo.dropLast++tgt x.1 x.2.2.2.2 k++(if frI x then(List.range code.length).map (λj:Nat=>(j:Int))else[]))
    |none=>none
def na(code:List dq):Option (List Bool):=oD code 10000 (List.replicate code.length false) [0]
theorem po:∃i,Try.prog.info? 3=some i/\i.zero=some (.int .i64 0)/\i.size=1/\i.bytes=8:=by
 have h:(match Try.prog.info? 3 with|some i=>(match i.zero with|some (.int .i64 n)=>decide (n=0)&&decide (i.size=1)&&decide (i.bytes=8)|_=>false)|none=>false)=true:=by kernel_rfl
 revert h
 cases Try.prog.info? 3 with
 |none=>intro h;cases h
 |some i=>
  intro h;simp only at h;split at h
  ·rename_i hz;simp only[oBA,oDE]at h;obtain⟨⟨rfl,h1⟩,h2⟩:=h;exact⟨i,rfl,hz,h1,h2⟩
  ·cases h
theorem nv:∃i,Try.prog.info? 4=some i/\i.zero=some (.bool false)/\i.size=1/\i.bytes=1:=by
 have h:(match Try.prog.info? 4 with|some i=>(match i.zero with|some (.bool n)=>!n&&decide (i.size=1)&&decide (i.bytes=1)|_=>false)|none=>false)=true:=by kernel_rfl
 revert h
 cases Try.prog.info? 4 with
 |none=>intro h;cases h
 |some i=>
  intro h;simp only at h;split at h
  ·rename_i b hz;simp only[oBA,oDE,Bool.not_eq_true']at h;obtain⟨⟨rfl,h1⟩,h2⟩:=h;exact⟨i,rfl,hz,h1,h2⟩
  ·cases h
theorem rf:Try.prog.underlying 23=some (.slice 3):=by kernel_rfl
theorem oI:Try.prog.underlying 74=some (.slice 4):=by kernel_rfl
structure ms (w:World)(A:Option Addr)(code:List dq):Prop where
 ex:code≠[]->∃b off,A=some ⟨b,off,none⟩/\b<w.heap.size/\∀k (h:k<code.length),w.cell? ⟨b,off+k*5,none⟩=some (.int .i64 code[k].1)/\w.cell? ⟨b,off+k*5+1,none⟩=some (.int .i64 code[k].2.1)/\
  w.cell? ⟨b,off+k*5+2,none⟩=some (.int .i64 code[k].2.2.1)/\w.cell? ⟨b,off+k*5+3,none⟩=some (.int .i64 code[k].2.2.2.1)/\w.cell? ⟨b,off+k*5+4,none⟩=some (.int .i64 code[k].2.2.2.2)
theorem ms.grown{w w':World}{A:Option Addr}{code:List dq}(h:ms w A code)(hg:w.grownBy w' none):ms w' A code:=⟨λhn=>by
 obtain⟨b,off,e,hb,hc⟩:=h.ex hn;have hh:∀o,w'.cell? ⟨b,o,none⟩=w.cell? ⟨b,o,none⟩:=λo=>World.cell?_of_block (hg.block b hb (by simp));refine⟨b,off,e,Nat.lt_of_lt_of_le hb hg.size,λk hk=>?_⟩;simp only[hh]
 exact hc k hk⟩
def en(l:List Bool):List Value:=l.map .bool
theorem nu(l:List Bool)(k:Nat)(b:Bool):(en l).set k (.bool b)=en (l.set k b):=by simp[en,List.map_set]
theorem j5(l:List Bool)(k:Nat):(en l)[k]?=(l[k]?).map Value.bool:=by simp[en]
theorem Buf.cut{k:IntKind}{e:TypeId}{w:World}{g c:Nat}{xs ys:List Int}(h:Buf k e w g c (xs++ys)):Buf k e w g c xs:=by
 obtain⟨h1,h2,cur,h3,h4,h5⟩:=h;refine⟨by rw[List.length_append]at h1;omega,h2,cur,h3,h4,?_⟩;have:=congrArg (List.take xs.length) h5;rw[List.take_take,List.length_append,Nat.min_eq_left (by omega)]at this;rw[this];simp
structure cM (w wr:World)(A:Option Addr)(code:List dq)(cap:Nat)(S1 S2:Value)(out:List Bool)(g c:Nat)(todo:List Int):Prop where
 grown:w.grownBy wr none
 p:Bk wr w.heap.size 26 [.slice A code.length cap,S1,S2]
 o:Bk wr (w.heap.size+1) 4 (en out)
 ol:out.length=code.length
 t:Buf .i64 3 wr g c todo
 g2:w.heap.size+2<=g
theorem cM.start{w:World}{A:Option Addr}{code:List dq}{cap:Nat}{S1 S2:Value}:cM w (((w.alloc (.cells #[.slice A code.length cap,S1,S2] 26)).alloc (.cells (madeCells #[.bool false] code.length) 4)).alloc (.cells #[.int .i64 0] 3)) A code cap S1 S2 (List.replicate code.length false) (w.heap.size+2) 1 [0]:=by
 have g1:w.grownBy (w.alloc (.cells #[.slice A code.length cap,S1,S2] 26)) none:=bT (b9 _ _) _;have b1:Bk (w.alloc (.cells #[.slice A code.length cap,S1,S2] 26)) w.heap.size 26 [.slice A code.length cap,S1,S2]:=Bk.new
 have s1:(w.alloc (.cells #[.slice A code.length cap,S1,S2] 26)).heap.size=w.heap.size+1:=by simp
 generalize w.alloc (.cells #[.slice A code.length cap,S1,S2] 26)=w1 at *
 have hm:madeCells #[Value.bool false] code.length=(en (List.replicate code.length false)).toArray:=by
  apply Array.ext';simp only[madeCells,en];apply List.ext_getElem
  ·simp
  ·intro i h1 h2;simp[Nat.mod_one]
 rw[hm];have g2:w1.grownBy (w1.alloc (.cells (en (List.replicate code.length false)).toArray 4)) none:=bT (b9 _ _) _;have b2:Bk (w1.alloc (.cells (en (List.replicate code.length false)).toArray 4)) w1.heap.size 4 (en (List.replicate code.length false)):=Bk.new
 have s2:(w1.alloc (.cells (en (List.replicate code.length false)).toArray 4)).heap.size=w.heap.size+2:=by simp[s1]
 rw[s1]at b2;generalize w1.alloc (.cells (en (List.replicate code.length false)).toArray 4)=w2 at *;have g3:w2.grownBy (w2.alloc (.cells #[.int .i64 0] 3)) none:=bT (b9 _ _) _;refine⟨d6 (d6 g1 g2) g3,(b1.grow g2).grow g3,b2.grow g3,by simp,⟨by simp,by simp[maxLen],#[.int .i64 0],?_,rfl,rfl⟩,Nat.le_refl _⟩;rw[<- s2];exact heap_alloc_new w2 _
theorem wY{code:List dq}{n:Nat}{out:List Bool}{fr:Bool}{r:List Bool×Bool}(h:pY code n out fr []=some r):r=(out,fr):=by
 cases n with
 |zero=>cases h
 |succ n=>simpa[pY]using h.symm
theorem uH{code:List dq}{n:Nat}{out:List Bool}{fr:Bool}{ys:List Int}{k:Int}{r:List Bool×Bool}(h:pY code n out fr (ys++[k])=some r):
 ∃m,n=m+1/\((eO code out k=true/\pY code m out fr ys=some r)\/(eO code out k=false/\∃x,code[k.toNat]?=some x/\pY code m (out.set k.toNat true) (fr||frI x) (ys++tgt x.1 x.2.2.2.2 k)=some r)):=by
 cases n with
 |zero=>cases h
 |succ n=>
  refine⟨n,rfl,?_⟩;simp only[pY,List.getLast?_append,List.getLast?_singleton,Option.some_or,List.dropLast_concat]at h;split at h
  ·rename_i hs;exact .inl ⟨hs,h⟩
  ·rename_i hs;split at h
   ·rename_i x hx;exact .inr ⟨by simpa using hs,x,hx,h⟩
   ·cases h
theorem cM.cell{w wr:World}{A:Option Addr}{code:List dq}{cap g c:Nat}{S1 S2:Value}{out:List Bool}{todo:List Int}(h:cM w wr A code cap S1 S2 out g c todo){j:Nat}{v:Bool}(hv:out[j]?=some v):wr.cell? ⟨w.heap.size+1,j,none⟩=some (.bool v):=by
 rw[h.o.cell,j5,hv];rfl
theorem cM.mark{w wr:World}{A:Option Addr}{code:List dq}{cap g c:Nat}{S1 S2:Value}{out:List Bool}{todo:List Int}(h:cM w wr A code cap S1 S2 out g c todo)(j:Nat):cM w (wr.setCell ⟨w.heap.size+1,j,none⟩ (.bool true)) A code cap S1 S2 (out.set j true) g c todo:=
 ⟨pB h.grown (.inr (by simp)) _,h.p.other (by simp) _,by rw[<- nu];exact h.o.set j _,by rw[List.length_set];exact h.ol,h.t.keep (Below.heap_setCell _ _ _ _ (λe=>by have:=h.g2;simp only at e;omega)),h.g2⟩
def jR(b:Bool)(out:List Bool)(j:Nat):List Bool:=(out.take j).map (λv=>v||b)++out.drop j
theorem sU(b:Bool)(out:List Bool):jR b out 0=out:=rfl
theorem u9(b:Bool)(out:List Bool)(j:Nat):(jR b out j).length=out.length:=by simp[jR];omega
theorem vb(b:Bool)(out:List Bool):jR b out out.length=out.map λv=>v||b:=by simp[jR]
theorem va(b:Bool){out:List Bool}{j:Nat}{v:Bool}(h:out[j]?=some v):(jR b out j)[j]?=some v:=by
 have hj:j<out.length:=by
  rcases Nat.lt_or_ge j out.length with h'|h'
  ·exact h'
  ·rw[oGN h']at h;cases h
 have hl:((out.take j).map λv=>v||b).length=j:=by simp;omega
 unfold jR;rw[List.getElem?_append_right (by omega),hl,List.getElem?_drop,Nat.sub_self,Nat.add_zero,h]
theorem sV(b:Bool){out:List Bool}{j:Nat}{v:Bool}(h:out[j]?=some v):(jR b out j).set j (v||b)=jR b out (j+1):=by
 have hj:j<out.length:=by
  rcases Nat.lt_or_ge j out.length with h'|h'
  ·exact h'
  ·rw[oGN h']at h;cases h
 have hl:((out.take j).map λv=>v||b).length=j:=by simp;omega
 have h1:out.drop j=v::out.drop (j+1):=by
  rw[List.drop_eq_getElem_cons hj];rw[oGE hj]at h
  injection h with h
  rw[h]
 have h2:out.take (j+1)=out.take j++[v]:=by
  rw[List.take_add_one,h];rfl
 unfold jR;rw[List.set_append,oIN (by omega),hl,Nat.sub_self,h1,List.set_cons_zero,h2,List.map_append,List.append_assoc];rfl
theorem ga(l:List Int):l=[]\/∃ys k,l=ys++[k]:=by
 rcases List.eq_nil_or_concat l with h|⟨ys,k,h⟩
 ·exact .inl h
 ·exact .inr ⟨ys,k,by rw[h,List.concat_eq_append]⟩
theorem dD{P:Program}{ops:Array Oper}{rest:List Oper}{o:Oper}{a:Act}{Q:Exit->Act->World->Prop}{w:World}{t it:TypeId}(Xn:o.guard=none)(s x:Operand)(ho:o.op=.call { callee:=.builtin .append,args:=#[s,x],argTypes:=#[t,it] })
 {vs vx v':Value}{w':World}(hs:a.eval s=vs)(hx:a.eval x=vx)(hrun:(Builtin.append_ #[t,it] o.type #[vs,vx]).run P w=.ok v' w')(h:wpList P ops Q rest (a.put o.dst v') w'):wpList P ops Q (o::rest) a w:=by
 refine wpList_plain Xn λK hK=>?_;unfold Oper.wp;simp[execOp,ho,resolve,invoke,builtin,hs,hx,hrun,Result.andThen];exact hK _ _ h
theorem qy{w:World}{g c:Nat}{ys xs:List Int}{A:Option Addr}{cp:Nat}(ty:TypeId)(hB:Buf .i64 3 w g c ys)(hI:kM .i64 w (λk=>k<w.heap.size) A xs)(hm:ys.length+xs.length<=1000000):
 ∃g' c' w',(Builtin.append_ #[23,23] ty #[.slice (some ⟨g,0,none⟩) ys.length c,.slice A xs.length cp]).run Try.prog w=.ok (.slice (some ⟨g',0,none⟩) (ys++xs).length c') w'/\Buf .i64 3 w' g' c' (ys++xs)/\
  (g'=g/\w.grownBy w' (some g)\/w.heap.size<=g'/\w.grownBy w' none):=by
 obtain⟨i0,hi,hz0,R2,Xk⟩:=po;by_cases hx:xs=[]
 ·subst hx;refine⟨g,c,w,?_,by simpa using hB,.inl ⟨rfl,b9 _ _⟩⟩;have:=gB (P:=Try.prog) w 23 ty 3 i0 rf hi (some ⟨g,0,none⟩) ys.length c hB.len A cp;simpa using this
 ·obtain⟨g',c',w',hr,VW,XZ⟩:=sF (P:=Try.prog) .i64 23 ty 3 i0 8 rf hi hz0 R2 Xk g c ys hB A xs cp _ hI hx (by unfold maxLen;omega) (by omega);refine⟨g',c',w',hr,VW,?_⟩
  rcases XZ with⟨h1,_,h2⟩|h
  ·exact .inl ⟨h1,h2⟩
  ·exact .inr h
theorem cM.joined{w W W':World}{A:Option Addr}{code:List dq}{cap g c g' c':Nat}{S1 S2:Value}{out:List Bool}{ys zs:List Int}(h:cM w W A code cap S1 S2 out g c ys)(hB:Buf .i64 3 W' g' c' zs)
 (XZ:g'=g/\W.grownBy W' (some g)\/W.heap.size<=g'/\W.grownBy W' none):cM w W' A code cap S1 S2 out g' c' zs:=by
 have ZV:=h.g2;have hp:=h.p.hi;have ho:=h.o.hi;have hs:=h.grown.size
 rcases XZ with⟨rfl,hg⟩|⟨hn,hg⟩
 ·exact⟨lY h.grown hg (by omega),h.p.keep (hg.block _ hp (by intro e;injection e;omega)),h.o.keep (hg.block _ ho (by intro e;injection e;omega)),h.ol,hB,ZV⟩
 ·exact⟨d6 h.grown hg,h.p.grow hg,h.o.grow hg,h.ol,hB,by omega⟩
theorem cM.grow{w W W':World}{A:Option Addr}{code:List dq}{cap g c:Nat}{S1 S2:Value}{out:List Bool}{ys:List Int}(h:cM w W A code cap S1 S2 out g c ys)(hg:W.grownBy W' none):cM w W' A code cap S1 S2 out g c ys:=
 ⟨d6 h.grown hg,h.p.grow hg,h.o.grow hg,h.ol,h.t.grow hg,h.g2⟩
theorem lr(op i pc:Int):(tgt op i pc).length<=2:=by
 unfold tgt
 repeat' split
 all_goals simp
theorem w9{code:List dq}{n:Nat}{out r:List Bool}(h:oD code n out []=some r):r=out:=by
 cases n with
 |zero=>cases h
 |succ n=>simpa[oD]using h.symm
def nw(n:Nat):List Int:=(List.range n).map λj:Nat=>(j:Int)
theorem uJ{code:List dq}{n:Nat}{out:List Bool}{ys:List Int}{k:Int}{r:List Bool}(h:oD code n out (ys++[k])=some r):
 0<=k/\∃m,n=m+1/\((eO code out k=true/\oD code m out ys=some r)\/(eO code out k=false/\∃x,code[k.toNat]?=some x/\oD code m (out.set k.toNat true) (ys++tgt x.1 x.2.2.2.2 k++(if frI x then nw code.length else[]))=some r)):=by
 cases n with
 |zero=>cases h
 |succ n=>
  simp only[oD,List.getLast?_append,List.getLast?_singleton,Option.some_or,List.dropLast_concat]at h;split at h
  ·cases h
  ·rename_i hk;refine⟨by omega,n,rfl,?_⟩;split at h
   ·rename_i hs;exact .inl ⟨hs,h⟩
   ·rename_i hs;split at h
    ·rename_i x hx;exact .inr ⟨by simpa using hs,x,hx,h⟩
    ·cases h
theorem wh(n:Nat):nw (n+1)=nw n++[(n:Int)]:=by simp[nw,List.range_succ]
theorem oA(n:Nat):(nw n).length=n:=by simp[nw]
theorem Bk.joined{w W W':World}{A:Option Addr}{code:List dq}{cap g c g' q t:Nat}{S1 S2:Value}{out:List Bool}{ys:List Int}{vs:List Value}(_:cM w W A code cap S1 S2 out g c ys)(hq:Bk W q t vs)(hne:q≠g)
 (XZ:g'=g/\W.grownBy W' (some g)\/W.heap.size<=g'/\W.grownBy W' none):Bk W' q t vs:=by
 rcases XZ with⟨_,hg⟩|⟨_,hg⟩
 ·exact hq.keep (hg.block _ hq.hi (by intro e;injection e with e;exact hne e))
 ·exact hq.grow hg
def mq(R:List Bool)(w:World)(e:Ending)(w':World):Prop:=
 ∃q,e=.returned (.slice (some ⟨q,0,none⟩) R.length R.length)/\w.heap.size<=q/\Bk w' q 4 (en R)/\w.grownBy w' none
set_option maxRecDepth 100000 in
set_option maxHeartbeats 4000000 in
theorem jQ(A:Option Addr)(code:List dq)(cap:Nat)(S1 S2:Value)(R:List Bool)(w:World)(hc:ms w A code)(h0:0<code.length)(T7:code.length<=64)(Zc:S1.oneCell'=true)(Y3:S2.oneCell'=true)(hR:ki code=some R):
 Calls Try.prog 32 #[.agg #[.slice A code.length cap,S1,S2]] w (mq R w):=by
 have HC:=Lib.hid hc;have HR:=Lib.hid hR;clear hc hR;obtain⟨i0,hi,hz0,R2,Xk⟩:=po;obtain⟨i1,hj,Tw,YH,Xj⟩:=nv
 go_enter Try.func32,Try.ntmps32
 obtain⟨RR,Ro,Rp⟩:∃RR,pY code 10000 (List.replicate code.length false) false [0]=some RR/\R=RR.1.map λb=>b||RR.2:=by
  have:=HR.out;unfold ki at this;obtain⟨r,h1,h2⟩:=Option.map_eq_some_iff.1 this;exact⟨r,h1,h2.symm⟩
 have R8:=Lib.hid Ro;have PA:=Lib.hid Rp;clear Ro Rp HR
 have ZO:i1.bytes*code.length<=281474976710656:=by rw[Xj];omega
 have ZY:code.length<=9223372036854775807:=by omega
 go_wp2_with (at_make;go_loud (refine wpList_make_row _ rfl _ _ _ rfl 4 i1 (.bool false) oI hj Tw YH rfl .i64 .i64 code.length rfl rfl ZO ZY ?_))
 go_wp2_with fail
 go_loopg [4,5] 10000 (λn fr td wr=>∃(b:Bool)(g c:Nat)(todo:List Int)(out:List Bool),fr=.bool b/\td=.slice (some ⟨g,0,none⟩) todo.length c/\Hid (pY code n out b todo=some RR)/\Hid (cM w wr A code cap S1 S2 out g c todo)/\Hid (todo.length+2*n<=20001))
 case atStart=>
  exact⟨false,w.heap.size+2,1,[0],_,rfl,rfl,R8,Lib.hid cM.start,Lib.hid (by simp)⟩
 case round=>
  obtain⟨b,g,c,todo,out,rfl,rfl,hrun,hW,hB⟩:=hrel;rcases ga todo with rfl|⟨ys,k,rfl⟩
  ·have He:=Lib.hid (wY hrun.out);have WP:=Lib.hid hW.out.ol;clear hrun hB
   go_wp2_with fail
   go_loopw [78] (λi wx=>∃j:Nat,j<=code.length/\i=.int .i64 j/\w.grownBy wx none/\Hid (Bk wx (w.heap.size+1) 4 (en (jR b out j)))) (λi _=>code.length-(intOf i).toNat)
   case atStart=>exact⟨0,by omega,rfl,hW.out.grown,Lib.hid (by rw[sU];exact hW.out.o)⟩
   case round=>
    obtain⟨j,hj,rfl,hg,hO⟩:=hrel;have HG:=Lib.hid hg;clear hg;by_cases hlt:j<code.length
    ·have x3:(j:Int)<(code.length:Int):=by omega
     obtain⟨v,hv⟩:∃v,out[j]?=some v:=⟨_,oGE (by rw[WP.out];exact hlt)⟩;have Hv:=Lib.hid hv
     have ho:wr.cell? ⟨w.heap.size+1,j,none⟩=some (.bool v):=by rw[hO.out.cell,j5,va b hv];rfl
     have hf:wr.frozen? ⟨w.heap.size+1,j,none⟩=false:=hO.out.free j;have hn:Hid (∀z,z=(v||b)->Bk (wr.setCell ⟨w.heap.size+1,j,none⟩ (.bool z)) (w.heap.size+1) 4 (en (jR b out (j+1)))):=Lib.hid (λz hz=>by rw[<- sV b Hv.out,<- hz,<- nu];exact hO.out.set j _);clear hv;cases v
     all_goals cases b
     all_goals
      go_wp2_with fail
      go_roundw
      case rel=>exact⟨j+1,by omega,by go_num,pB HG.out (.inr (by simp)) _,Lib.hid (hn.out _ rfl)⟩
      case measure=>simp[intOf];omega
    ·have SX:j=code.length:=by omega
     subst SX
     go_wp2_with fail
     go_ret
     have TL:R=jR b out code.length:=by rw[PA.out,He.out,<- WP.out,vb]
     refine⟨w.heap.size+1,by rw[TL,u9,WP.out];rfl,by omega,?_,HG.out⟩;rw[TL];exact hO.out
  ·have hlen:(ys++[k]).length=ys.length+1:=by simp
   rw[hlen];obtain⟨m,hm,XZ⟩:=uH hrun.out;have Wl:=hB.out;rw[hlen]at Wl
   have PT:(ys.length:Int)<=20001:=by omega
   have hk:wr.cell? ⟨g,ys.length,none⟩=some (.int .i64 k):=by
    have:=hW.out.t.cell (j:=ys.length) (by rw[hlen];omega);rw[this];simp
   have TO:ys.length+1<=c:=by have:=hW.out.t.len;rw[hlen]at this;omega
   have P0:(ys.length:Int)<=(c:Int):=by omega
   have WW:¬c=0:=by omega
   have HT:=Lib.hid hW.out.t.cut;have HH:=Lib.hid (And.intro hm (And.intro XZ Wl));clear hm XZ Wl hlen hrun hB;by_cases hk0:k<0
   ·have hs:eO code out k=true:=by simp[eO,hk0]
    have H1:=Lib.hid ((HH.out.2.1.resolve_right λh=>by rw[hs]at h;exact Bool.noConfusion h.1).2);clear hs
    go_wp2_with fail
    go_roundg m
    case measure=>have:=HH.out.1;omega
    case rel=>exact⟨b,g,c,ys,out,rfl,rfl,H1,Lib.hid ⟨hW.out.grown,hW.out.p,hW.out.o,hW.out.ol,HT.out,hW.out.g2⟩,Lib.hid (by have:=HH.out;omega)⟩
   ·obtain⟨j,rfl⟩:=Int.eq_ofNat_of_zero_le (show 0<=k by omega);by_cases hkn:code.length<=j
    ·have hs:eO code out (j:Int)=true:=by simp[eO,hkn]
     have H1:=Lib.hid ((HH.out.2.1.resolve_right λh=>by rw[hs]at h;exact Bool.noConfusion h.1).2)
     have hki:¬(j:Int)<(code.length:Int):=by omega
     have Vj:(code.length:Int)<=(j:Int):=by omega
     clear hs
     go_wp2_with fail
     go_roundg m
     case measure=>have:=HH.out.1;omega
     case rel=>exact⟨b,g,c,ys,out,rfl,rfl,H1,Lib.hid ⟨hW.out.grown,hW.out.p,hW.out.o,hW.out.ol,HT.out,hW.out.g2⟩,Lib.hid (by have:=HH.out;omega)⟩
    ·obtain⟨v,hv⟩:∃v,out[j]?=some v:=⟨_,oGE (by rw[hW.out.ol];omega)⟩;have Hv:=Lib.hid hv;have ho:=hW.out.cell hv;have hf:wr.frozen? ⟨w.heap.size+1,j,none⟩=false:=hW.out.o.free j
     have hki:(j:Int)<(code.length:Int):=by omega
     have Vj:¬(code.length:Int)<=(j:Int):=by omega
     clear hv;cases v
     case true=>
      have hs:eO code out (j:Int)=true:=by simp[eO,Hv.out]
      have H1:=Lib.hid ((HH.out.2.1.resolve_right λh=>by rw[hs]at h;exact Bool.noConfusion h.1).2);clear hs
      go_wp2_with fail
      go_roundg m
      case measure=>have:=HH.out.1;omega
      case rel=>exact⟨b,g,c,ys,out,rfl,rfl,H1,Lib.hid ⟨hW.out.grown,hW.out.p,hW.out.o,hW.out.ol,HT.out,hW.out.g2⟩,Lib.hid (by have:=HH.out;omega)⟩
     case false=>
      have hs:eO code out (j:Int)=false:=by simp[eO,Hv.out,hkn]
      obtain⟨x,hx,Yj⟩:=(HH.out.2.1.resolve_left λh=>by rw[hs]at h;exact Bool.noConfusion h.1).2;have H1:=Lib.hid (And.intro hx Yj);clear hs hx Yj
      go_upto_region 9 with fail
      obtain⟨W2,Vt⟩:∃W2,W2=wr.setCell ⟨w.heap.size+1,j,none⟩ (.bool true):=⟨_,rfl⟩
      have HM:=Lib.hid (show cM w W2 A code cap S1 S2 (out.set j true) g c ys by
       rw[Vt]
       exact cM.mark ⟨hW.out.grown,hW.out.p,hW.out.o,hW.out.ol,HT.out,hW.out.g2⟩ j)
      rw[<- Vt];clear Vt ho hf hk hW HT;obtain⟨cb,off,rfl,Uf,hcc⟩:=(HC.out.grown HM.out.grown).ex (by intro e;rw[e]at h0;simp at h0);have VP:code[j]?=some x:=H1.out.1;obtain⟨e0,e1,e2,e3,e4⟩:=hcc j (by omega)
      have Yt:code[j]'(by omega)=x:=by
       rw[oGE (by omega)]at VP;injection VP
      rw[Yt]at e0 e1 e2 e3 e4;have p0:=HM.out.p.cell 0;simp only[List.getElem?_cons_zero]at p0;clear hcc Yt VP;obtain⟨x0,x1,x2,x3,x4⟩:=x;dsimp only at e0 e1 e2 e3 e4
      go_upto_region 10 with fail
      obtain⟨W3,Wn⟩:∃W3,W3=W2.alloc (.cells #[.int .i64 x0,.int .i64 x1,.int .i64 x2,.int .i64 x3,.int .i64 x4] 78):=⟨_,rfl⟩;have T1:=Lib.hid (show cM w W3 (some ⟨cb,off,none⟩) code cap S1 S2 (out.set j true) g c ys by rw[Wn];exact HM.out.grow (bT (b9 _ _) _));have HX:=Lib.hid (show Bk W3 W2.heap.size 78 [.int .i64 x0,.int .i64 x1,.int .i64 x2,.int .i64 x3,.int .i64 x4] by rw[Wn];exact Bk.new);rw[<- Wn];generalize W2.heap.size=q7 at *;clear Wn HM e0 e1 e2 e3 e4 p0 Uf;have k0:=HX.out.cell 0;have k1:=HX.out.cell 1;have k2:=HX.out.cell 2;have k3:=HX.out.cell 3;have k4:=HX.out.cell 4;simp only[List.getElem?_cons_zero,List.getElem?_cons_succ]at k0 k1 k2 k3 k4
      go_cut [4] (λv wx=>v=.bool (b||frI (x0,x1,x2,x3,x4))/\W3=wx)
      case first=>
       cases b
       ·cases r22:(x0==22)
        ·cases r23:(x0==23)
         ·go_wp2_with fail
          go_meet
          exact⟨by simp[*,frI],rfl⟩
         ·cases r10:(x4==10)
          ·cases r12:(x4==12)
           all_goals
            go_wp2_with fail
            go_meet
            exact⟨by simp[*,frI],rfl⟩
          ·go_wp2_with fail
           go_meet
           exact⟨by simp[*,frI],rfl⟩
        ·go_wp2_with fail
         go_meet
         exact⟨by simp[*,frI],rfl⟩
       ·go_wp2_with fail
        go_meet
        exact⟨by simp[*,frI],rfl⟩
      case rest=>
       obtain⟨rfl,rfl⟩:=hcut
       go_wp2_with fail
       refine(jZ x0 x1 x2 x3 x4 (j:Int) _ (by omega) (by omega)).mono ?_;rintro e w5 ⟨B,d,rfl,hI,Vg,hd,_,_⟩;have Yx:kM .i64 w5 (λk=>k<w5.heap.size) B (tgt x0 x4 j):=Row.sub hI λk hk=>hk.2;have Yo:=lr x0 x4 j;obtain⟨xs,Ys⟩:∃xs,xs=tgt x0 x4 j:=⟨_,rfl⟩;have H2:Hid (pY code m (out.set j true) (b||frI (x0,x1,x2,x3,x4)) (ys++tgt x0 x4 (j:Int))=some RR):=Lib.hid H1.out.2;rw[<- Ys]at Yx Yo hd H2⊢;have Vp:=Lib.hid (T1.out.grow Vg);have Sl:=HH.out.2.2;obtain⟨g',c',w6,hrun,T8,Xv⟩:=qy (cp:=d) 23 Vp.out.t Yx (by omega);have TG:=Lib.hid (Vp.out.joined T8 Xv);clear hI Vg Yx Ys HX T1 T8 Xv Sl k0 k1 k2 k3 k4 hd
       go_wp2_with (at_builtin;go_loud (refine dD rfl _ _ rfl rfl rfl hrun ?_))
       go_roundg m
       case measure=>have:=HH.out.1;omega
       case rel=>exact⟨_,g',c',ys++xs,out.set j true,rfl,by rw[List.length_append],H2,TG,Lib.hid (by have:=HH.out;rw[List.length_append];omega)⟩
set_option maxRecDepth 100000 in
set_option maxHeartbeats 1000000 in
theorem lF(A:Option Addr)(code:List dq)(cap:Nat)(S1 S2:Value)(R:List Bool)(w:World)(hc:ms w A code)(h0:0<code.length)(T7:code.length<=64)(Zc:S1.oneCell'=true)(Y3:S2.oneCell'=true)(hR:na code=some R):
 Calls Try.prog 33 #[.agg #[.slice A code.length cap,S1,S2]] w (mq R w):=by
 have HC:=Lib.hid hc;have R8:Hid (oD code 10000 (List.replicate code.length false) [0]=some R):=Lib.hid hR;clear hc hR;obtain⟨i1,hj,Tw,YH,Xj⟩:=nv
 go_enter Try.func33,Try.ntmps33
 have ZO:i1.bytes*code.length<=281474976710656:=by rw[Xj];omega
 have ZY:code.length<=9223372036854775807:=by omega
 go_wp2_with (at_make;go_loud (refine wpList_make_row _ rfl _ _ _ rfl 4 i1 (.bool false) oI hj Tw YH rfl .i64 .i64 code.length rfl rfl ZO ZY ?_))
 go_wp2_with fail
 go_loopg [4] 10000 (λn td wr=>∃(g c:Nat)(todo:List Int)(out:List Bool),td=.slice (some ⟨g,0,none⟩) todo.length c/\Hid (oD code n out todo=some R)/\Hid (cM w wr A code cap S1 S2 out g c todo)/\Hid (todo.length+66*n<=660001))
 case atStart=>
  exact⟨w.heap.size+2,1,[0],_,rfl,R8,Lib.hid cM.start,Lib.hid (by simp)⟩
 case round=>
  obtain⟨g,c,todo,out,rfl,hrun,hW,hB⟩:=hrel;rcases ga todo with rfl|⟨ys,k,rfl⟩
  ·have He:=Lib.hid (w9 hrun.out);have WP:=Lib.hid hW.out.ol;clear hrun hB
   go_wp2_with fail
   go_ret
   rw[He.out];exact⟨w.heap.size+1,by rw[WP.out];rfl,by omega,hW.out.o,hW.out.grown⟩
  ·have hlen:(ys++[k]).length=ys.length+1:=by simp
   rw[hlen];obtain⟨hk0,m,hm,XZ⟩:=uJ hrun.out;have Wl:=hB.out;rw[hlen]at Wl
   have PT:(ys.length:Int)<=660001:=by omega
   have hk:wr.cell? ⟨g,ys.length,none⟩=some (.int .i64 k):=by
    have:=hW.out.t.cell (j:=ys.length) (by rw[hlen];omega);rw[this];simp
   have TO:ys.length+1<=c:=by have:=hW.out.t.len;rw[hlen]at this;omega
   have P0:(ys.length:Int)<=(c:Int):=by omega
   have WW:¬c=0:=by omega
   have p0:=hW.out.p.cell 0;simp only[List.getElem?_cons_zero]at p0;have HT:=Lib.hid hW.out.t.cut;have HH:=Lib.hid (And.intro hm (And.intro XZ Wl));clear hm XZ Wl hlen hrun hB;obtain⟨j,rfl⟩:=Int.eq_ofNat_of_zero_le hk0;by_cases hkn:code.length<=j
   ·have hs:eO code out (j:Int)=true:=by simp[eO,hkn]
    have H1:=Lib.hid ((HH.out.2.1.resolve_right λh=>by rw[hs]at h;exact Bool.noConfusion h.1).2)
    have hki:¬(j:Int)<(code.length:Int):=by omega
    have Vj:(code.length:Int)<=(j:Int):=by omega
    clear hs
    go_wp2_with fail
    go_roundg m
    case measure=>have:=HH.out.1;omega
    case rel=>exact⟨g,c,ys,out,rfl,H1,Lib.hid ⟨hW.out.grown,hW.out.p,hW.out.o,hW.out.ol,HT.out,hW.out.g2⟩,Lib.hid (by have:=HH.out;omega)⟩
   ·obtain⟨v,hv⟩:∃v,out[j]?=some v:=⟨_,oGE (by rw[hW.out.ol];omega)⟩;have Hv:=Lib.hid hv;have ho:=hW.out.cell hv;have hf:wr.frozen? ⟨w.heap.size+1,j,none⟩=false:=hW.out.o.free j
    have hki:(j:Int)<(code.length:Int):=by omega
    have Vj:¬(code.length:Int)<=(j:Int):=by omega
    clear hv;cases v
    case true=>
     have hs:eO code out (j:Int)=true:=by simp[eO,Hv.out]
     have H1:=Lib.hid ((HH.out.2.1.resolve_right λh=>by rw[hs]at h;exact Bool.noConfusion h.1).2);clear hs
     go_wp2_with fail
     go_roundg m
     case measure=>have:=HH.out.1;omega
     case rel=>exact⟨g,c,ys,out,rfl,H1,Lib.hid ⟨hW.out.grown,hW.out.p,hW.out.o,hW.out.ol,HT.out,hW.out.g2⟩,Lib.hid (by have:=HH.out;omega)⟩
    case false=>
     have hs:eO code out (j:Int)=false:=by simp[eO,Hv.out,hkn]
     obtain⟨x,hx,Yj⟩:=(HH.out.2.1.resolve_left λh=>by rw[hs]at h;exact Bool.noConfusion h.1).2;have H1:=Lib.hid (And.intro hx Yj);clear hs hx Yj
     go_upto_region 8 with fail
     obtain⟨W2,Vt⟩:∃W2,W2=wr.setCell ⟨w.heap.size+1,j,none⟩ (.bool true):=⟨_,rfl⟩
     have HM:=Lib.hid (show cM w W2 A code cap S1 S2 (out.set j true) g c ys by
      rw[Vt]
      exact cM.mark ⟨hW.out.grown,hW.out.p,hW.out.o,hW.out.ol,HT.out,hW.out.g2⟩ j)
     rw[<- Vt];clear Vt ho hf hk hW HT p0;obtain⟨cb,off,rfl,Uf,hcc⟩:=(HC.out.grown HM.out.grown).ex (by intro e;rw[e]at h0;simp at h0);have VP:code[j]?=some x:=H1.out.1;obtain⟨e0,e1,e2,e3,e4⟩:=hcc j (by omega)
     have Yt:code[j]'(by omega)=x:=by
      rw[oGE (by omega)]at VP;injection VP
     rw[Yt]at e0 e1 e2 e3 e4;have p0:=HM.out.p.cell 0;simp only[List.getElem?_cons_zero]at p0;clear hcc Yt VP;obtain⟨x0,x1,x2,x3,x4⟩:=x;dsimp only at e0 e1 e2 e3 e4
     go_upto_region 9 with fail
     obtain⟨W3,Wn⟩:∃W3,W3=W2.alloc (.cells #[.int .i64 x0,.int .i64 x1,.int .i64 x2,.int .i64 x3,.int .i64 x4] 78):=⟨_,rfl⟩;have T1:=Lib.hid (show cM w W3 (some ⟨cb,off,none⟩) code cap S1 S2 (out.set j true) g c ys by rw[Wn];exact HM.out.grow (bT (b9 _ _) _));have HX:=Lib.hid (show Bk W3 W2.heap.size 78 [.int .i64 x0,.int .i64 x1,.int .i64 x2,.int .i64 x3,.int .i64 x4] by rw[Wn];exact Bk.new)
     have RP:W2.heap.size≠g:=by have:=HM.out.t.hi;omega
     have Q8:=Lib.hid RP;rw[<- Wn];generalize W2.heap.size=q7 at *;clear Wn HM e0 e1 e2 e3 e4 p0 Uf RP;have k0:=HX.out.cell 0;have k1:=HX.out.cell 1;have k2:=HX.out.cell 2;have k3:=HX.out.cell 3;have k4:=HX.out.cell 4;simp only[List.getElem?_cons_zero,List.getElem?_cons_succ]at k0 k1 k2 k3 k4
     go_wp2_with fail
     refine(jO x0 x1 x2 x3 x4 (j:Int) _ (by omega) (by omega)).mono ?_;rintro e w5 ⟨B,d,rfl,hI,Vg⟩;have Yx:kM .i64 w5 (λk=>k<w5.heap.size) B (tgt x0 x4 j):=Row.sub hI λk hk=>hk.2;have Yo:=lr x0 x4 j;have H2:Hid (oD code m (out.set j true) (ys++tgt x0 x4 (j:Int)++(if frI (x0,x1,x2,x3,x4)then nw code.length else[]))=some R):=Lib.hid H1.out.2;obtain⟨xs,Ys⟩:∃xs,xs=tgt x0 x4 j:=⟨_,rfl⟩;rw[<- Ys]at Yx Yo H2⊢;have Vp:=Lib.hid (T1.out.grow Vg);have Sl:=HH.out.2.2
     have UA:ys.length+xs.length<=1000000:=by omega
     clear Sl;obtain⟨zs,YN⟩:∃zs,zs=ys++xs:=⟨_,rfl⟩;have hJ:=qy (cp:=d) 23 Vp.out.t Yx UA;rw[<- YN]at hJ H2;have PB:Hid (zs.length<=ys.length+2):=Lib.hid (by rw[YN,List.length_append];omega);have Q5:=Lib.hid (HX.out.grow Vg);clear hI Vg Yx HX T1 YN Ys Yo UA k0 k1 k2 k3 k4;obtain⟨g',c',w6,hrun,T8,Xv⟩:=hJ;have TG:=Lib.hid (Vp.out.joined T8 Xv);have Q6:=Lib.hid (Bk.joined Vp.out Q5.out Q8.out Xv);clear T8 Xv Q8 Vp Q5;have k0:=Q6.out.cell 0;have k4:=Q6.out.cell 4;simp only[List.getElem?_cons_zero,List.getElem?_cons_succ]at k0 k4
     go_upto_region 10 with(at_builtin;go_loud (refine dD rfl _ _ rfl rfl rfl hrun ?_))
     clear hrun
     go_cut [68] (λv wx=>v=.bool (frI (x0,x1,x2,x3,x4))/\w6=wx)
     case first=>
      cases r22:(x0==22)
      ·cases r23:(x0==23)
       ·go_wp2_with fail
        go_meet
        exact⟨by simp[*,frI],rfl⟩
       ·cases r10:(x4==10)
        ·cases r12:(x4==12)
         all_goals
          go_wp2_with fail
          go_meet
          exact⟨by simp[*,frI],rfl⟩
        ·go_wp2_with fail
         go_meet
         exact⟨by simp[*,frI],rfl⟩
      ·go_wp2_with fail
       go_meet
       exact⟨by simp[*,frI],rfl⟩
     case rest=>
      obtain⟨rfl,rfl⟩:=hcut;have Qm:=HH.out.1;have Qk:=PB.out;have PX:=HH.out.2.2;have T3:=Lib.hid (show m<gk/\zs.length+66*gk<=660003 by omega);clear Qm Qk PX;cases hfr:frI (x0,x1,x2,x3,x4)
      ·have H3:Hid (oD code m (out.set j true) zs=some R):=by
        have:=H2.out;rw[hfr]at this;exact Lib.hid (by simpa using this)
       clear hfr
       go_wp2_with fail
       go_roundg m
       case measure=>exact T3.out.1
       case rel=>exact⟨g',c',zs,out.set j true,rfl,H3,TG,Lib.hid (by have:=T3.out;omega)⟩
      ·have H3:Hid (oD code m (out.set j true) (zs++nw code.length)=some R):=by
        have:=H2.out;rw[hfr]at this;exact Lib.hid (by simpa using this)
       clear hfr
       go_wp2_with fail
       go_loopw [4,71] (λtd i wx=>∃l g2 c2:Nat,l<=code.length/\td=.slice (some ⟨g2,0,none⟩) (zs++nw l).length c2/\i=.int .i64 l/\Hid (cM w wx (some ⟨cb,off,none⟩) code cap S1 S2 (out.set j true) g2 c2 (zs++nw l))) (λ_ i _=>code.length-(intOf i).toNat)
       case atStart=>exact⟨0,g',c',by omega,by simp[nw],rfl,by simpa[nw]using TG⟩
       case round=>
        obtain⟨l,g2,c2,hl,rfl,rfl,hM⟩:=hrel;by_cases hlt:l<code.length
        ·have x3:(l:Int)<(code.length:Int):=by omega
         have TK:cM w (wr.alloc (.cells #[.int .i64 l] 3)) (some ⟨cb,off,none⟩) code cap S1 S2 (out.set j true) g2 c2 (zs++nw l):=hM.out.grow (bT (b9 _ _) _);have Rl:kM .i64 (wr.alloc (.cells #[.int .i64 l] 3)) (λk=>k<(wr.alloc (.cells #[.int .i64 l] 3)).heap.size) (some ⟨wr.heap.size,0,none⟩) [(l:Int)]:=Row.sub (nT (w:=wr) (w0:=wr) (xs:=[(l:Int)]) (Nat.le_refl _) rfl) λk hk=>hk.2;obtain⟨ts,We⟩:∃ts,ts=zs++nw l:=⟨_,rfl⟩
         have Wd:ts.length<=700000:=by rw[We,List.length_append,oA];have:=T3.out;omega
         have V7:zs++nw (l+1)=ts++[(l:Int)]:=by rw[We,wh,List.append_assoc]
         have Q7:=Lib.hid V7;rw[<- We]at TK⊢;have hJ:=qy (cp:=1) 23 TK.t Rl (by simp;omega);have Q4:=Lib.hid TK;clear We V7 hM Rl Wd TK;obtain⟨g3,c3,w7,hrun,Ri,UN⟩:=hJ;have Pz:=Lib.hid (Q4.out.joined Ri UN);clear Ri UN Q4
         go_wp2_with (at_builtin;go_loud (refine dD rfl _ _ rfl rfl rfl hrun ?_))
         go_roundw
         case rel=>exact⟨l+1,g3,c3,by omega,by rw[Q7.out,List.length_append];rfl,by go_num,by rw[Q7.out];exact Pz⟩
         case measure=>simp[intOf];omega
        ·have Yp:l=code.length:=by omega
         subst Yp
         go_wp2_with fail
         go_roundg m
         case measure=>exact T3.out.1
         case rel=>exact⟨g2,c2,_,out.set j true,rfl,H3,hM,Lib.hid (by rw[List.length_append,oA];have:=T3.out;omega)⟩
inductive AY (w:World)(F:Nat->Prop):TV->Value->Prop
 |im {c:List (List TV)} {x:Value} (h:eC w F (.sl c) x):AY w F (.sl c) x
 |v {x:Value} (h:cR x=true):AY w F (.v x) x
 |fn {f:FuncId}:AY w F (.fn f []) (.func (.func f) #[] #[])
 |ag {l:List TV} {cs:Array Value} (hl:cs.size=l.length) (h:∀j (hj:j<l.length),∃c,l[j]=.sl c/\eC w F (.sl c) (cs.getD j undef)):AY w F (.agg l) (.agg cs)
def vA:TV->Bool
 |.sl _=>true
 |_=>false
def pn:TV->Bool
 |.sl _=>true
 |.v _=>true
 |.fn _ []=>true
 |.agg l=>l.all vA
 |_=>false
def AX(P:Program)(f:FuncId)(vals:List TV)(c:List (List TV)):Prop:=
 ∀(avs:List Value)(w:World)(F:Nat->Prop),avs.length=vals.length->(∀j (h:j<vals.length)(h':j<avs.length),AY w F vals[j] avs[j])->
  Calls P f avs.toArray w λe w2=>∃x,e=.returned x/\Below w.heap.size w w2/\eC w2 (λk=>F k\/w.heap.size<=k) (.sl c) x
def pa(R:FuncId->List TV->Option (List (List TV))):ch:=λf vals pts=>
 match pts with
 | []=>if vals.all pn then(R f vals).map λc=>(⟨[.sl c],[.one]⟩,[])else none
 |_=>none
theorem zE{P:Program}{R:FuncId->List TV->Option (List (List TV))}(hR:∀f vals c,R f vals=some c->fC P f/\AX P f vals c):dO P (pa R):=by
 intro f vals pts res Zu h
 cases pts with
 |cons _ _=>simp[pa]at h
 |nil=>
  simp only[pa]at h;split at h
  case isFalse=>simp at h
  rename_i ZJ;simp only[List.all_eq_true]at ZJ
  obtain⟨c,hc,he⟩:∃c,R f vals=some c/\(⟨[.sl c],[.one]⟩,[])=(res,Zu):=by
   cases hr:R f vals with
   |none=>simp[hr]at h
   |some c=>exact⟨c,rfl,by simpa[hr]using h⟩
  injection he with e1 e2
  subst e1 e2;obtain⟨Zb,S8⟩:=hR f vals c hc;refine⟨Zb,vals.length,Nat.le_refl _,λM avs w G hal hN RZ YY hI=>?_⟩;subst RZ
  have We:avs.toArray++Array.replicate (vals.length-avs.length) undef=avs.toArray:=by rw[hal];simp
  rw[We]at hI
  have hst:∀j,(mkSt vals []).t j=vals.getD j .dead:=by
   intro j;simp[St.t,mkSt,ko]
  refine(S8 avs M.w0 (G.F M.A) hal λj hj Z0=>?_).mono λe w2 ⟨x,Wr,hb,Ww⟩=>?_
  ·have ht:=hI.tmr j;rw[hst]at ht
   have e1:vals.getD j .dead=vals[j]:=by simp[hj]
   have e2:avs.toArray.getD j undef=avs[j]:=by simp[Array.getD_eq_getD_getElem?,Z0]
   rw[e1,e2]at ht;have ha:=ZJ _ (List.getElem_mem hj);revert ht ha;generalize vals[j]=t;generalize avs[j]=y;intro ht ha
   cases ht with
   |v h=>exact .v h
   |sl h=>exact .im h
   | @fn f l xs hl h=>
    cases l with
    |nil=>
     have:xs=#[]:=Array.eq_empty_of_size_eq_zero (by simpa using hl);subst this;exact .fn
    |cons _ _=>simp[pn]at ha
   | @agg l cs hl h=>
    refine .ag hl λj hj=>?_;have h1:vA l[j]=true:=List.all_eq_true.1 ha _ (List.getElem_mem hj);have h2:=h j hj;revert h1 h2;generalize l[j]=t;intro h1 h2
    cases t with
    |sl c=>
     refine⟨c,rfl,?_⟩
     cases h2 with
     |sl h2=>exact h2
    |_=>simp[vA]at h1
   |_=>simp[pn]at ha
  ·obtain⟨ZR,_⟩:=hI.grow (w':=w2) (λk hk=>hb.block k hk) hb.size hb.os hb.tape hb.output
   have hF:∀k,G.F M.A k\/M.w0.heap.size<=k->G.F M.A k:=by
    rintro k (hk|hk)
    ·exact hk
    ·refine⟨M.hA k hk,λr o hφ=>?_,λr b o n hβ e=>?_⟩
     ·have:=hI.core.live hφ;omega
     ·subst e;have:=hI.core.boxlt hβ;omega
   obtain⟨G',hg⟩:=ZR.addHand (Ww.frame (F':=G.F M.A) (λ_ _ _=>rfl) λk hk _=>hF k hk).toOwn;refine⟨x,mkSt vals [],Wr,.inl ⟨[x],avs.toArray,G',rfl,hg.1,λj hj=>?_⟩,rfl⟩
   have:j=0:=by simpa using hj
   subst this;exact .inl rfl
def rW(l:List Bool):List (List TV):=l.map λb=>[.v (.bool b)]
def pL(x:dq):List TV:=[.v (.int .i64 x.1),.v (.int .i64 x.2.1),.v (.int .i64 x.2.2.1),.v (.int .i64 x.2.2.2.1),.v (.int .i64 x.2.2.2.2)]
def zU:List TV->Option dq
 | [.v (.int .i64 a),.v (.int .i64 b),.v (.int .i64 c),.v (.int .i64 d),.v (.int .i64 e)]=>some (a,b,c,d,e)
 |_=>none
def Ai:List (List TV)->Option (List dq)
 | []=>some []
 |x::r=>match zU x,Ai r with|some y,some l=>some (y::l)|_,_=>none
theorem rZ(l:List dq):Ai (l.map pL)=some l:=by
 induction l with
 |nil=>rfl
 |cons x r ih=>simp only[List.map_cons,Ai,ih];rfl
theorem xS{x:List TV}{y:dq}(h:zU x=some y):x=pL y:=by
 unfold zU at h;split at h
 ·injection h with h;subst h;rfl
 ·cases h
theorem zT:∀{c:List (List TV)}{l:List dq},Ai c=some l->c=l.map pL:=by
 intro c
 induction c with
 |nil=>intro l h;injection h with h;subst h;rfl
 |cons x r ih=>
  intro l h;simp only[Ai]at h;split at h
  ·rename_i y q h1 h2
   injection h with h
   subst h;rw[xS h1,ih h2];rfl
  ·cases h
theorem AP{w:World}{F:Nat->Prop}{code:List dq}{x:Value}(h:eC w F (.sl (code.map pL)) x):∃A cap,x=.slice A code.length cap/\ms w A code:=by
 cases h with
 | @sl _ a cap sz u hsz hcap hmax hnil hcell hrec=>
  refine⟨a,cap,by simp,⟨λhn=>?_⟩⟩;have Z4:0<code.length:=List.length_pos_iff.2 hn
  have hz:sz=5:=by
   have:=hsz 0 (by simpa using Z4);rw[<- this];simp[pL]
  subst hz;obtain⟨b,o,e,_,WW⟩:=hcell 0 0 (by simpa using Z4) (by omega);refine⟨b,o,e,World.block_lt_of_cell? w _ WW,λk hk=>?_⟩
  have Y6:k<(code.map pL).length:=by simpa using hk
  have cell:∀j (hj:j<5),w.cell? ⟨b,o+k*5+j,none⟩=some (u k j):=λj hj=>by
   obtain⟨b',o',e',_,hc⟩:=hcell k j Y6 hj;rw[e]at e'
   injection e' with e'
   injection e' with e1 e2
   subst e1;subst e2;rw[Nat.add_assoc];exact hc
  have val:∀j (hj:j<5)(v:Value),(pL code[k])[j]?=some (.v v)->u k j=v:=λj hj v hv=>by
   have g:=hrec k j Y6 (by simp[pL];omega)
   have e2:((code.map pL)[k])[j]'(by simp[pL];omega)=.v v:=by
    have h3:(code.map pL)[k]=pL code[k]:=by simp
    have h4:((code.map pL)[k])[j]?=some (.v v):=by rw[h3];exact hv
    rw[oGE (by simp[pL];omega)]at h4;injection h4
   rw[e2]at g;cases g;rfl
  refine⟨?_,?_,?_,?_,?_⟩
  ·rw[<- val 0 (by omega) _ rfl];exact cell 0 (by omega)
  ·rw[<- val 1 (by omega) _ rfl];exact cell 1 (by omega)
  ·rw[<- val 2 (by omega) _ rfl];exact cell 2 (by omega)
  ·rw[<- val 3 (by omega) _ rfl];exact cell 3 (by omega)
  ·rw[<- val 4 (by omega) _ rfl];exact cell 4 (by omega)
theorem th{w:World}{F:Nat->Prop}{q:Nat}{R:List Bool}(h:Bk w q 4 (en R))(hF:F q)(hm:R.length<=maxLen):eC w F (.sl (rW R)) (.slice (some ⟨q,0,none⟩) R.length R.length):=by
 have hl:(rW R).length=R.length:=by simp[rW]
 have ZX:eC w F (.sl (rW R)) (.slice (some ⟨q,0,none⟩) (rW R).length R.length):=by
  refine .sl 1 (λi _=>.bool (R.getD i false)) (λi h=>by simp[rW]) (by rw[hl];exact Nat.le_refl _) hm (λh=>by simp at h) (λi j hi hj=>?_) (λi j hi hj=>?_)
  ·rw[hl]at hi
   obtain rfl:j=0:=by omega
   refine⟨q,0,rfl,hF,?_⟩;rw[h.cell,j5];simp[hi]
  ·rw[hl]at hi
   have VE:j=0:=by simp[rW]at hj;exact hj
   subst VE
   have:((rW R)[i]'(by rw[hl];exact hi))[0]'hj=.v (.bool (R.getD i false)):=by simp[rW,hi]
   rw[this];exact .v rfl
 rw[hl]at ZX;exact ZX
theorem oU{f:FuncId}{code:List dq}{s1 s2:List (List TV)}{R:List Bool}(hm:code.length<=64)(hl:R.length=code.length)
 (hf:∀(A:Option Addr)(cap:Nat)(S1 S2:Value)(w:World),ms w A code->S1.oneCell'=true->S2.oneCell'=true->Calls Try.prog f #[.agg #[.slice A code.length cap,S1,S2]] w (mq R w)):
 AX Try.prog f [.agg [.sl (code.map pL),.sl s1,.sl s2]] (rW R):=by
 intro avs w F hlen ha
 obtain⟨v0,rfl⟩:∃v0,avs=[v0]:=by
  match avs,hlen with
  | [v0],_=>exact⟨v0,rfl⟩
 have a0:=ha 0 (by simp) (by simp);simp only[List.getElem_cons_zero]at a0
 cases a0 with
 | @ag l cs W1 hj=>
  have hs:cs.size=3:=W1;obtain⟨c0,e0,i0⟩:=hj 0 (by simp);obtain⟨c1,e1,i1⟩:=hj 1 (by simp);obtain⟨c2,e2,i2⟩:=hj 2 (by simp);simp only[List.getElem_cons_zero,List.getElem_cons_succ]at e0 e1 e2
  injection e0 with e0
  injection e1 with e1
  injection e2 with e2
  subst e0 e1 e2;obtain⟨A,cap,ex,YL⟩:=AP i0
  have e:cs=#[.slice A code.length cap,cs.getD 1 undef,cs.getD 2 undef]:=by
   apply Array.ext
   ·simpa using hs
   ·intro j h2 h3
    have hjj:j<3:=by simpa using h3
    have e1:cs[j]=cs.getD j undef:=by simp[Array.getD,h2]
    rw[e1]
    match j,hjj with
    |0,_=>exact ex
    |1,_=>rfl
    |2,_=>rfl
  rw[e];refine(hf A cap _ _ w YL i1.one i2.one).mono ?_;rintro e w' ⟨q,rfl,hq,hB,hg⟩;exact⟨_,rfl,qZ hg,th hB (.inr hq) (by unfold maxLen;omega)⟩
theorem wZ{code:List dq}:∀{n:Nat}{out:List Bool}{fr:Bool}{todo:List Int}{r:List Bool×Bool},pY code n out fr todo=some r->r.1.length=out.length:=by
 intro n
 induction n with
 |zero=>intro out fr todo r h;cases h
 |succ n ih=>
  intro out fr todo r h;simp only[pY]at h;split at h
  ·injection h with h;subst h;rfl
  ·split at h
   ·exact ih h
   ·split at h
    ·rw[ih h,List.length_set]
    ·cases h
theorem xd{code:List dq}:∀{n:Nat}{out:List Bool}{todo:List Int}{r:List Bool},oD code n out todo=some r->r.length=out.length:=by
 intro n
 induction n with
 |zero=>intro out todo r h;cases h
 |succ n ih=>
  intro out todo r h;simp only[oD]at h;split at h
  ·injection h with h;subst h;rfl
  ·split at h
   ·cases h
   ·split at h
    ·exact ih h
    ·split at h
     ·rw[ih h,List.length_set]
     ·cases h
theorem sJ{code:List dq}{R:List Bool}(h:ki code=some R):R.length=code.length:=by
 unfold ki at h;obtain⟨r,h1,rfl⟩:=Option.map_eq_some_iff.1 h;rw[List.length_map,wZ h1,List.length_replicate]
theorem sK{code:List dq}{R:List Bool}(h:na code=some R):R.length=code.length:=by
 rw[xd h,List.length_replicate]
theorem nO:fC Try.prog 32:=jo Try.func32 (by kernel_rfl) rfl
theorem om:fC Try.prog 33:=jo Try.func33 (by kernel_rfl) rfl
def Ag:FuncId->List TV->Option (List (List TV)):=λf vals=>match vals with
 | [.agg [.sl c,.sl _,.sl _]]=>(Ai c).bind λcode=>if 0<code.length/\code.length<=64 then
  (if f=32 then(ki code).map rW else if f=33 then(na code).map rW else none)else none
 |_=>none
def libB:ch:=pa Ag
theorem libB_ok:dO Try.prog libB:=zE λf vals c h=>by
 unfold Ag at h;split at h
 ·rename_i c0 s1 s2;obtain⟨code,h1,h2⟩:=Option.bind_eq_some_iff.1 h;rw[zT h1];split at h2
  ·rename_i hb;split at h2
   ·rename_i e;subst e;obtain⟨R,h3,rfl⟩:=Option.map_eq_some_iff.1 h2;exact⟨nO,oU hb.2 (sJ h3) λA cap S1 S2 w hc o1 o2=>jQ A code cap S1 S2 R w hc hb.1 hb.2 o1 o2 h3⟩
   ·split at h2
    ·rename_i e;subst e;obtain⟨R,h3,rfl⟩:=Option.map_eq_some_iff.1 h2;exact⟨om,oU hb.2 (sK h3) λA cap S1 S2 w hc o1 o2=>lF A code cap S1 S2 R w hc hb.1 hb.2 o1 o2 h3⟩
    ·cases h2
  ·cases h2
 ·cases h
def cE(a0:List dq)(_:List Int)(_:List (List Int)):Option (List Bool×Unit):=if 0<a0.length/\a0.length<=64 then(ki a0).map λr=>(r,())else none
def df(a0:List dq)(_:List Int)(_:List (List Int)):Option (List Bool×Unit):=if 0<a0.length/\a0.length<=64 then(na a0).map λr=>(r,())else none
abbrev Bo:CT:=.pair I64 (.pair I64 (.pair I64 (.pair I64 I64)))
theorem jX{id:Nat}:ic libB ⟨32,id,[.agg [shU (.row false Bo),shU (.row false I64),shU (.row false (.row false (.int .u16)))]],[],[⟨[shU (.row false .bool)],[.one],[]⟩],λh=>cE h.1 h.2.1 h.2.2.1⟩:=by
 rintro⟨code,ss,dt,h⟩ o x ho hx;have ho:cE code ss dt=some o:=ho;unfold cE at ho;split at ho
 case isFalse=>cases ho
 rename_i hl;obtain⟨R,hR,rfl⟩:=Option.map_eq_some_iff.1 ho;cases hx;show pa Ag 32 [.agg [.sl ((code:List dq).map pL),.sl ((ss:List Int).map (enc I64)),.sl ((dt:List (List Int)).map (enc (.row false (.int .u16))))]] []=some (⟨[.sl (rW R)],[.one]⟩,[]);unfold pa;rw[oIP (by simp[pn,vA])];unfold Ag;simp only[rZ,oBS,oIP hl,if_true];rw[hR];rfl
theorem lM{id:Nat}:ic libB ⟨33,id,[.agg [shU (.row false Bo),shU (.row false I64),shU (.row false (.row false (.int .u16)))]],[],[⟨[shU (.row false .bool)],[.one],[]⟩],λh=>df h.1 h.2.1 h.2.2.1⟩:=by
 rintro⟨code,ss,dt,h⟩ o x ho hx;have ho:df code ss dt=some o:=ho;unfold df at ho;split at ho
 case isFalse=>cases ho
 rename_i hl;obtain⟨R,hR,rfl⟩:=Option.map_eq_some_iff.1 ho;cases hx;show pa Ag 33 [.agg [.sl ((code:List dq).map pL),.sl ((ss:List Int).map (enc I64)),.sl ((dt:List (List Int)).map (enc (.row false (.int .u16))))]] []=some (⟨[.sl (rW R)],[.one]⟩,[]);unfold pa;rw[oIP (by simp[pn,vA])];unfold Ag;simp only[rZ,oBS,oIP hl];rw[oIN (by decide),oIP trivial,hR];rfl
end Go.Proofs.Ytgphpfjngblbiaa
namespace Go.Proofs.Ytgphpfjngblbiaa
open Go.RowKit
set_option maxRecDepth 100000
noncomputable section
abbrev KCe:CT:=(.pair (.int .u8) (.int .u16))
abbrev KIn:CT:=(.pair I64 (.pair I64 (.pair I64 (.pair I64 I64))))
abbrev BJ:CT:=(.pair I64 (.pair .bool (.row false KCe)))
abbrev Bv:CT:=(.pair I64 (.pair .bool (.row true KCe)))
abbrev Bm:CT:=(.pair I64 (.pair (.row true KCe) (.pair I64 (.pair I64 (.pair I64 (.pair I64 (.pair I64 (.int .u16))))))))
abbrev gT:CT:=(.row false KIn)
abbrev RW:CT:=(.row false (.int .u16))
abbrev RI:CT:=(.row false I64)
abbrev Bu:CT:=(.row false KCe)
abbrev Bt:CT:=(.row false BJ)
abbrev Al:CT:=(.row true Bv)
abbrev Bs:CT:=(.row true Bm)
abbrev DCe:Type:=(Int×Int)
abbrev DIn:Type:=(Int×Int×Int×Int×Int)
abbrev DLn:Type:=(Int×Bool×List DCe)
abbrev DTh:Type:=(Int×(List DCe)×Int×Int×Int×Int×Int×Int)
def HH(f i:Nat):List (Nat×Option Nat):=if f=40 then(if i=0 then[(8,none)]else[])else if f=12 then(if i=2 then[(3,some 1)]else if i=3 then[(3,some 0)]else[])else if f=17 then(if i=0 then[(4,some 0),(4,some 2),(4,some 3)]else[])else if f=37 then(if i=2000067 then[(2,none),(4,none),(8,none),(11,none),(12,none),(0,some 10),(0,some 18),(0,some 24)]else if i=0 then[(8,some 0)]else[])else if f=8 then(if i=2 then[(12,some 4),(14,some 4)]else[])else if f=18 then(if i=0 then[(4,some 0),(4,some 2),(4,some 3)]else[])else[]
def AB:List Nat:=[32,33]
def TT (f:FuncId):Option TFn:=if AB.contains f then none else j3 Try.prog (HH f) f
theorem yo{f:FuncId}(h:AB.contains f=true):TT f=none:=oIP h
def E0:Env:=⟨λf=>if f=11 then some (1,[.arg 0,.val (.int .i64 0)])else none,λf=>Bx Try.prog f⟩
theorem tt_ok:wl Try.prog TT:=λf tf h=>yK HH (by kernel_rfl) f tf (by
 unfold TT at h
 split at h
 ·cases h
 ·exact h)
abbrev qE:Shs:=⟨[],[],[],([],[])⟩
abbrev qS(s:List (Nat×Sh))(c:List (Nat×List Sh)):Shs:=⟨s,c,[],([],[])⟩
abbrev N1:CT:=.nilr true
abbrev N0:CT:=.nilr false
abbrev CW:CT:=.int .u16
abbrev CB:CT:=.int .u8
abbrev uL(l:List CT):List Sh:=l.map fun c=>.d c ()
abbrev pP(t r:Nat):Nat×Sh:=(t,.ptr ⟨r,0,[]⟩ [0])
abbrev sP(t:Nat)(c:CT):Nat×Sh:=(t,.d c ())
abbrev Lk(n:Nat)(c:Ctr):Prop:=Lvl E0 TT libB n c
theorem aN{m:Nat}:sk E0 TT libB m []:=trivial
theorem aC{n m:Nat}{c:Ctr}{l:List Ctr}(h:Lk n c)(r:sk E0 TT libB m l)(hm:n≤m:=by decide):sk E0 TT libB m (c::l):=⟨h.mono hm,r⟩
abbrev lx(i n:Nat)(s:List (Nat×Sh))(c:List (Nat×List Sh))(b:Nat):pX:=⟨i,n,⟨s,c,[],([],[])⟩,[(.exit 0,⟨s++[(b,.d .bool ())],c,[],([],[])⟩)]⟩
abbrev LI:Type:=List Int
abbrev LLI:Type:=List (List Int)
abbrev LDCe:Type:=List DCe
abbrev LDIn:Type:=List DIn
abbrev LDLn:Type:=List DLn
abbrev LDTh:Type:=List DTh
abbrev T00:Type:=Int×Int×Unit
abbrev T01:Type:=Int×LI×Unit
abbrev T02:Type:=LI×Int×Unit
abbrev T03:Type:=LI×LLI×Unit
abbrev T04:Type:=Int×T02
abbrev T05:Type:=LDIn×T03
abbrev T06:Type:=LI×T01
abbrev T07:Type:=Bool×Bool×Bool×Bool×Unit
abbrev T08:Type:=Int×Bool×T02
abbrev T09:Type:=Int×T04
abbrev T0a:Type:=Int×T06
abbrev T0b:Type:=LDIn×LI×LLI×LI×Unit
abbrev T0c:Type:=Int×T08
abbrev T0d:Type:=Int×Int×Int×T00
abbrev T0e:Type:=Int×Int×T05
abbrev T0f:Type:=Int×Int×Bool×T05
abbrev T0g:Type:=Int×Int×T09
abbrev T0h:Type:=Int×Int×T0b
abbrev T0i:Type:=Int×Bool×T0d
abbrev T0j:Type:=Int×Int×Bool×T0b
abbrev T0k:Type:=Int×LDIn×T0e
abbrev T0l:Type:=LDIn×T0h
abbrev T0m:Type:=(List (Bool))×(List (Bool))×(List (Bool))×T0e
abbrev T0n:Type:=Int×LDIn×T0f
abbrev T0o:Type:=LI×Int×Unit×Unit×Unit×T05
abbrev T0p:Type:=LI×Int×Unit×Unit×Unit×Unit×T03
abbrev T0q:Type:=Int×T0o
abbrev T0r:Type:=LDIn×LI×LLI×LI×Int×Unit×Unit×LDCe×LDLn×Unit
abbrev T0s:Type:=Int×Bool×T0o
abbrev T0t:Type:=Int×T0q
abbrev T0u:Type:=Int×Int×T0p
abbrev T0v:Type:=LI×Int×Int×LI×T0g
abbrev T0w:Type:=Unit×Int×Unit×Unit×Unit×LI×Int×LDCe×LDLn×LDTh×Unit
abbrev T0x:Type:=(List (Bool))×(List (Bool))×(List (Bool))×Int×Int×T0h
abbrev T0y:Type:=Int×T0w
abbrev T0z:Type:=LI×Int×Int×LI×Int×Int×T0c
abbrev T0A:Type:=(List (Bool))×(List (Bool))×(List (Bool))×Int×Int×T0j
abbrev T0B:Type:=LLI×Int×Int×T0r
abbrev T0C:Type:=Int×Int×LI×Int×Int×Int×Int×Int×Int×Int×Int×Int×Int×Int×T07
noncomputable abbrev ap1{A0 D R:Type}(f:A0→R)(h:A0×D):R:=f h.1
noncomputable abbrev ap2{A0 A1 D R:Type}(f:A0→A1→R)(h:A0×A1×D):R:=f h.1 h.2.1
noncomputable abbrev ap3{A0 A1 A2 D R:Type}(f:A0→A1→A2→R)(h:A0×A1×A2×D):R:=f h.1 h.2.1 h.2.2.1
noncomputable abbrev ap4{A0 A1 A2 A3 D R:Type}(f:A0→A1→A2→A3→R)(h:A0×A1×A2×A3×D):R:=f h.1 h.2.1 h.2.2.1 h.2.2.2.1
noncomputable abbrev ap5{A0 A1 A2 A3 A4 D R:Type}(f:A0→A1→A2→A3→A4→R)(h:A0×A1×A2×A3×A4×D):R:=f h.1 h.2.1 h.2.2.1 h.2.2.2.1 h.2.2.2.2.1
noncomputable abbrev ap6{A0 A1 A2 A3 A4 A5 D R:Type}(f:A0→A1→A2→A3→A4→A5→R)(h:A0×A1×A2×A3×A4×A5×D):R:=f h.1 h.2.1 h.2.2.1 h.2.2.2.1 h.2.2.2.2.1 h.2.2.2.2.2.1
theorem ls{n:Nat}(C:X.Cfg)(hT:sk E0 TT libB n C.TB){c:Ctr}(hE:C.E=E0:=by rfl)(h1:(TT c.f).isSome=true:=by kernel_rfl)(hg:∀h,X.runT bE C () ((TT c.f).getD By) c.outs (dm c.ins _ h).1 (jm c.pts [] (dm c.ins _ h).2).1=c.g h:=by intro h;kernel_rfl):Lk (n+1) c:=A5 (n:=n) (C:=C) hE hT (Bd h1) hg
abbrev Uaa(t:Nat):Nat×Sh:=sP t I64
abbrev Xaa(t:Nat):Nat×Sh:=sP t .bool
abbrev Zaa(t r:Nat):Nat×Sh:=(t,.pk ⟨r,0,[]⟩ [0,0])
abbrev uaa(t:CT):CT:=.row true t
abbrev yaa(t:CT):CT:=.row false t
abbrev zaa(t:Nat):Nat×Sh:=pP t (2*t+2)
abbrev uab:List Sh:=uL [RI,I64]
abbrev yab:List Sh:=uL [gT,RI,(yaa RW)]
abbrev zab:List Sh:=uL [I64,I64,I64,I64,I64]
abbrev Uab:List Sh:=uL [RI,CW]
abbrev Xab:List Sh:=uL [I64]
abbrev Zab:List Sh:=uL [(uaa I64)]
abbrev uac:List Sh:=uL [.bool]
abbrev yac:List Sh:=uL [N1,N1,N1]
abbrev zac:List Sh:=uL [.bool,.bool,.bool,.bool]
abbrev Uac:List Sh:=uL [(uaa CB)]
abbrev Xac:List Sh:=uL [N1,N1]
abbrev Zac:List Sh:=uL [I64,I64]
abbrev uad:List Sh:=uL [(uaa KIn),RI,(uaa (uaa CW))]
abbrev yad:List Sh:=uL [gT,RI,(uaa (uaa CW))]
abbrev zad:List Sh:=uL [(uaa KCe),Al]
def fX(a0:Int)(a1:Int):Option (Int×Unit):=
bif(a1 != 0)then let x0:Int:=(Int.tmod a0 a1);
(bif(decide (x0<0))then(let x1:Int:=(w64 (x0+a1));
some (x1,()))else
some (x0,()):Option (Int×Unit)).bind λ(x1,_)=>
some (x1,())else none
def qC:X.Cfg:=⟨E0,[],[],[⟨2,0,qE,[(.normal,qS [Uaa 5] [])]⟩]⟩
def ml:Ctr:=⟨55,0,Zac,[],[⟨Xab,[.one],[]⟩],ap2 fX⟩
theorem qw:Lk 1 ml:=ls qC aN
def nG(a0:Int)(a1:Int):Option (Int×Unit):=
(fX a0 a1).bind λ(x0,_)=>
some (x0,())
def xI:X.Cfg:=⟨E0,[ml],[],[]⟩
def sb:Ctr:=⟨21,1,Zac,[],[⟨Xab,[.one],[]⟩],ap2 nG⟩
theorem xz:Lk 2 sb:=ls xI (aC qw aN)
def bG(a0:Int)(a1:List (Int))(a2:Int):Option (T04):=
let x0:=cc a1.length;
bif(decide (a2>=x0))then(some (0,a1,a2,()))else
let x1:=w64 (a2+1);
let x2:=w64 (x1-1);
(eu x2).bind λx3=>
(cL a1 x3).bind λx4=>
(nG x4 a0).bind λ(x5,_)=>
some (x5,a1,x1,())
def qG:X.Cfg:=⟨E0,[sb],[],[]⟩
def dz:Ctr:=⟨36,2,[.ptr ⟨2,0,[]⟩ [0],shU I64],[(2,uab)],[⟨Xab,[.one],[(2,uab)]⟩],ap3 bG⟩
theorem d5:Lk 3 dz:=ls qG (aC xz aN)
def gy:T0a->Option (T0a⊕(Int×Bool×T06)):=λ(v0,v1,v2,v3,_)=>
bif(decide (v0>0))then(let x0:List (Int):=[6,12,32];
(bG 3 v1 v2).bind λ(x1,x2,x3,_)=>
(eu x1).bind λx4=>
(cL x0 x4).bind λx5=>
(cL x0 x4).bind λx6=>
(bG x6 x2 x3).bind λ(x7,x8,x9,_)=>
let ac:=w64 (1+x7);
bif(ck 8 v3.length (List.length [ac]))then let ae:List (Int):=(List.append v3 [ac]);
let af:=w64 (v0-1);
some (.inl (af,x8,x9,ae,()))else none)else
some (.inr (v0,false,v1,v2,v3,()))
def fh(a0:List (Int))(a1:Int):Option (LI×T02):=
(bG 9 a0 a1).bind λ(x0,x1,x2,_)=>
let x3:=w64 (4+x0);
(bG 4 x1 x2).bind λ(x4,x5,x6,_)=>
(c8 gy NN (x4,x5,x6,[x3],())).bind λ(x7,x8,x9,ac,ae,_)=>
some (ae,x9,ac,())
def pz:X.Cfg:=⟨E0,[dz],[],[(lx 4 0 [zaa 0,Zaa 3 9,Uaa 4] [(2,uab),(9,Zab)] 12)]⟩
def kJ:Ctr:=⟨38,3,[.ptr ⟨2,0,[]⟩ [0]],[(2,uab)],[⟨Zab,[.one],[(2,uab)]⟩],ap2 fh⟩
theorem pj:Lk 4 kJ:=ls pz (aC d5 aN)
def dx(a0:List (Int))(a1:Int):Option (T04):=
(bG 5 a0 a1).bind λ(x0,x1)=>
(bif(x0==0)then(some (x0,true,x1))else
bif(x0==1)then(some (x0,true,x1))else
some (x0,(x0==2),x1):Option (T08)).bind λ(x3,x4,x5,x6,_)=>
bif x4 then((bG 8 x5 x6).bind λ(x7,x8,x9,_)=>
let ac:=wk .u16 x7;
some (ac,x8,x9,()))else
bif(x3==3)then((bG 3 x5 x6).bind λ(x7,x8,x9,_)=>
let ac:=w64 (65535-x7);
let ae:=wk .u16 ac;
some (ae,x8,x9,()))else
(bG 65536 x5 x6).bind λ(x7,x8,x9,_)=>
let ac:=wk .u16 x7;
some (ac,x8,x9,())
def qF:X.Cfg:=⟨E0,[dz],[],[⟨3,0,qE,[(.normal,qS [zaa 0,Uaa 4,Xaa 5] [(2,uab)])]⟩]⟩
def gg:Ctr:=⟨74,4,[.ptr ⟨2,0,[]⟩ [0]],[(2,uab)],[⟨uL [CW],[.one],[(2,uab)]⟩],ap2 dx⟩
theorem iN:Lk 4 gg:=ls qF (aC d5 aN)
def gx:T0a->Option (T0a⊕(Int×Bool×T06)):=λ(v0,v1,v2,v3,_)=>
bif(decide (v0>0))then((dx v1 v2).bind λ(x0,x1,x2,_)=>
bif(ck 2 v3.length (List.length [x0]))then let x3:List (Int):=(List.append v3 [x0]);
let x4:=w64 (v0-1);
some (.inl (x4,x1,x2,x3,()))else none)else
some (.inr (v0,false,v1,v2,v3,()))
def ff(a0:Int)(a1:List (Int))(a2:Int):Option (LI×T02):=
let x0:=w64 (a0+1);
(bG x0 a1 a2).bind λ(x1,x2,x3,_)=>
(c8 gx NN (x1,x2,x3,[],())).bind λ(x4,x5,x6,x7,x8,_)=>
some (x8,x6,x7,())
def py:X.Cfg:=⟨E0,[dz,gg],[],[(lx 4 0 [zaa 0,Zaa 5 13,Uaa 6] [(2,uab),(13,uL [(uaa CW)])] 12)]⟩
def kI:Ctr:=⟨39,5,[.ptr ⟨2,0,[]⟩ [0],shU I64],[(2,uab)],[⟨uL [(uaa CW)],[.one],[(2,uab)]⟩],ap3 ff⟩
theorem pi:Lk 5 kI:=ls py (aC d5 (aC iN aN))
def cZ(a0:Int)(a1:Int):Option (T0d):=
some (1,a0,0,0,a1,())
def zP:X.Cfg:=⟨E0,[],[],[]⟩
def qY:Ctr:=⟨41,6,Zac,[],[⟨zab,[.agg 5],[]⟩],ap2 cZ⟩
theorem vo:Lk 1 qY:=ls zP aN
def cO(a0:Int):Option (T0d):=
some (23,0,0,0,a0,())
def xG:X.Cfg:=⟨E0,[],[],[]⟩
def oz:Ctr:=⟨42,7,Xab,[],[⟨zab,[.agg 5],[]⟩],ap1 cO⟩
theorem rH:Lk 1 oz:=ls xG aN
def eD(a0:Int)(a1:Int):Option (T0d):=
some (2,a0,a1,0,0,())
def xH:X.Cfg:=⟨E0,[],[],[]⟩
def sa:Ctr:=⟨77,8,Zac,[],[⟨zab,[.agg 5],[]⟩],ap2 eD⟩
theorem xy:Lk 1 sa:=ls xH aN
def ef(a0:Int):Option (T07):=
(bif(a0==1)then(some (a0,true,false,false,false,false,()))else
bif(a0==15)then(some (a0,true,false,false,false,false,()))else
bif(a0==19)then(some (a0,true,false,false,false,false,()))else
bif(a0==20)then(some (a0,true,false,false,false,false,()))else
some (a0,(a0==21),false,false,false,false,()):Option (Int×Bool×T07)).bind λ(x0,x1,_)=>
bif x1 then(some (true,false,false,true,()))else
bif(x0==2)then(some (true,true,false,false,()))else
bif(x0==16)then(some (true,true,false,true,()))else
bif(x0==17)then(some (true,true,false,true,()))else
bif(x0==18)then(some (false,false,false,true,()))else
bif(x0==23)then(some (false,false,false,true,()))else
bif(x0==22)then(some (true,false,false,false,()))else
bif(x0==0)then(some (false,false,false,false,()))else
bif(x0==24)then(some (false,false,false,false,()))else
some (true,true,true,false,())
def pt:X.Cfg:=⟨E0,[],[],[⟨3,0,qE,[(.normal,qS [zaa 2,Uaa 3,Xaa 4] [(6,zac)])]⟩]⟩
def kG:Ctr:=⟨73,9,Xab,[],[⟨zac,[.agg 4],[]⟩],ap1 ef⟩
theorem pf:Lk 1 kG:=ls pt aN
def ej(a0:Int):Option (Bool×Unit):=
bif(a0==18)then(some (true,()))else
bif(a0==19)then(some (true,()))else
bif(a0==20)then(some (true,()))else
some ((a0==21),())
def pu:X.Cfg:=⟨E0,[],[],[]⟩
def gN:Ctr:=⟨43,10,Xab,[],[⟨uac,[.one],[]⟩],ap1 ej⟩
theorem ky:Lk 1 gN:=ls pu aN
def fi(a0:Int)(a1:Int)(a2:List (Int))(a3:Int):Option (Int×T0g):=
(bG 25 a2 a3).bind λ(x0,x1,x2,_)=>
(ef x0).bind λ(x3,x4)=>
(bif x3 then((bG 8 x1 x2).bind λ(x7,x8,x9,_)=>
some (a0,a1,x8,x9,0,0,0,0,0,x0,x7,0,0,0,x3,x4))else
some (a0,a1,x1,x2,0,0,0,0,0,x0,0,0,0,0,x3,x4):Option (T0C)).bind λ(x7,x8,x9,ac,ae,af,ah,ai,aj,ak,am,an,ap,aq,av,ax,ay)=>
(bif ax then((bG 8 x9 ac).bind λ(aA,aB,aD,_)=>
some (x7,x8,aB,aD,ae,af,ah,ai,aj,ak,am,aA,ap,aq,av,ax,ay))else
some (x7,x8,x9,ac,ae,af,ah,ai,aj,ak,am,an,ap,aq,av,ax,ay):Option (T0C)).bind λ(aA,aB,aD,aE,aF,aG,aH,aI,aJ,aK,aL,aM,aO,aP,aQ,aR,aS,aT,_)=>
(bif aS then((bG 8 aD aE).bind λ(aU,aV,aW,_)=>
some (aA,aB,aV,aW,aF,aG,aH,aI,aJ,aK,aL,aM,aU,aP,aQ,aR,aS,aT,()))else
some (aA,aB,aD,aE,aF,aG,aH,aI,aJ,aK,aL,aM,aO,aP,aQ,aR,aS,aT,()):Option (T0C)).bind λ(aU,aV,aW,aY,aZ,a6,a7,a8,ba,bc,bd,be,bf,bg,bh,bi,bj,bk,_)=>
((ej bc).bind λ(bl,_)=>
bif bl then((bG aV aW aY).bind λ(bm,bn,bo,_)=>
some (bn,bo,aZ,a6,a7,a8,ba,bc,bd,be,bf,bm,()))else
bif(bc==15)then((bG aU aW aY).bind λ(bm,bn,bo,_)=>
some (bn,bo,aZ,a6,a7,a8,ba,bc,bd,be,bf,bm,()))else
bif(bc==23)then((bG 16 aW aY).bind λ(bm,bn,bo,_)=>
some (bn,bo,aZ,a6,a7,a8,ba,bc,bd,be,bf,bm,()))else
bif bk then((dx aW aY).bind λ(bm,bn,bo,_)=>
let bp:=wk .i64 bm;
some (bn,bo,aZ,a6,a7,a8,ba,bc,bd,be,bf,bp,()))else
some (aW,aY,aZ,a6,a7,a8,ba,bc,bd,be,bf,bg,()):Option (LI×Int×Int×Int×Int×Int×Int×T0d)).bind λ(bl,bm,bn,bo,bp,bq,bt,bv,bx,bz,bA,bB,_)=>
some (bv,bx,bz,bA,bB,bl,bm,())
def pA:X.Cfg:=⟨E0,[dz,kG,gN,gg],[],[⟨3,0,qE,[(.normal,qS [zaa 0,Uaa 1,Uaa 2,zaa 6,zaa 7,zaa 8] [(2,uab),(14,zab),(16,zab),(18,zac)])]⟩,⟨5,1,qE,[(.normal,qS [zaa 0,Uaa 1,Uaa 2,zaa 6,zaa 7,zaa 8] [(2,uab),(14,zab),(16,zab),(18,zac)])]⟩,⟨7,2,qE,[(.normal,qS [zaa 0,Uaa 1,Uaa 2,zaa 6,zaa 7,zaa 8] [(2,uab),(14,zab),(16,zab),(18,zac)])]⟩,⟨9,3,qE,[(.normal,qS [zaa 0,zaa 6,zaa 7] [(2,uab),(14,zab),(16,zab)])]⟩]⟩
def kK:Ctr:=⟨35,11,[.ptr ⟨2,0,[]⟩ [0],shU I64,shU I64],[(2,uab)],[⟨zab,[.agg 5],[(2,uab)]⟩],ap4 fi⟩
theorem pm:Lk 5 kK:=ls pA (aC d5 (aC pf (aC ky (aC iN aN))))
def f8(a0:List (Int))(a1:Int)(a2:Int)(a3:List (Int))(a4:Int):Option (LDIn×T02):=
let x0:=cc a0.length;
(bG x0 a3 a4).bind λ(x1,x2,x3,_)=>
(eu x1).bind λx4=>
(cL a0 x4).bind λx5=>
let x6:=w64 (x5+1);
let x7:=mmR false 5 x6;
(bG x7 x2 x3).bind λ(x8,x9,ac,_)=>
(cZ 2 x8).bind λ(ae,af,ah,ai,aj,_)=>
let ak:LDIn:=[(15,(1,(0,(0,x1)))),(ae,(af,(ah,(ai,aj))))];
(bG 20 x9 ac).bind λ(am,an,ap,_)=>
bif(am==0)then((bG 3 an ap).bind λ(aq,av,ax,_)=>
let ay:=w64 (3+aq);
(dx av ax).bind λ(az,aA,aB,_)=>
let aD:=wk .i64 az;
(cZ ay aD).bind λ(aE,aF,aG,aH,aI,_)=>
let aJ:LDIn:=[(aE,(aF,(aG,(aH,aI))))];
some (aJ,aA,aB,()))else
bif(am==1)then(let aq:List (Int):=[3,4,5,10,13,14,11,9];
(bG 8 an ap).bind λ(av,ax,ay,_)=>
(eu av).bind λaz=>
(cL aq az).bind λaA=>
(cL aq az).bind λaB=>
(bG 3 ax ay).bind λ(aD,aE,aF,_)=>
let aG:=w64 (3+aD);
(bG 3 aE aF).bind λ(aH,aI,aJ,_)=>
let aK:=w64 (3+aH);
(bG 3 aI aJ).bind λ(aL,aM,aO,_)=>
let aP:=w64 (3+aL);
let aQ:LDIn:=[(aB,(aG,(aK,(aP,0))))];
some (aQ,aM,aO,()))else
bif(am==2)then(let aq:LDIn:=[(15,(6,(0,(0,x1))))];
some (aq,an,ap,()))else
bif(am==3)then((bG 5 an ap).bind λ(aq,av,ax,_)=>
let ay:=w64 (3+aq);
(eu x1).bind λaz=>
(cL a0 az).bind λaA=>
(bG aA av ax).bind λ(aB,aD,aE,_)=>
let aF:LDIn:=[(15,(6,(0,(0,x1)))),(17,(6,(ay,(0,aB))))];
some (aF,aD,aE,()))else
bif(am==4)then((bG 5 an ap).bind λ(aq,av,ax,_)=>
let ay:=w64 (3+aq);
(eu x1).bind λaz=>
(cL a0 az).bind λaA=>
(bG aA av ax).bind λ(aB,aD,aE,_)=>
let aF:LDIn:=[(15,(6,(0,(0,x1)))),(17,(6,(ay,(0,aB))))];
some (aF,aD,aE,()))else
bif(am==5)then((bG 4 an ap).bind λ(aq,av,ax,_)=>
let ay:=w64 (3+aq);
(eu x1).bind λaz=>
(cL a0 az).bind λaA=>
(bG aA av ax).bind λ(aB,aD,aE,_)=>
let aF:LDIn:=[(15,(6,(0,(0,x1)))),(16,(ay,(6,(0,aB))))];
some (aF,aD,aE,()))else
bif(am==6)then((bG 4 an ap).bind λ(aq,av,ax,_)=>
let ay:=w64 (3+aq);
(eu x1).bind λaz=>
(cL a0 az).bind λaA=>
(bG aA av ax).bind λ(aB,aD,aE,_)=>
let aF:LDIn:=[(15,(6,(0,(0,x1)))),(16,(ay,(6,(0,aB))))];
some (aF,aD,aE,()))else
bif(am==7)then((bG 3 an ap).bind λ(aq,av,ax,_)=>
(cZ 0 aq).bind λ(ay,az,aA,aB,aD,_)=>
let aE:LDIn:=[(ay,(az,(aA,(aB,aD))))];
bif(ck 40 aE.length ak.length)then let aF:LDIn:=(List.append aE ak);
(cO 13).bind λ(aG,aH,aI,aJ,aK,_)=>
let aL:LDIn:=[(aG,(aH,(aI,(aJ,aK))))];
bif(ck 40 aF.length aL.length)then let aM:LDIn:=(List.append aF aL);
some (aM,av,ax,())else none else none)else
bif(am==8)then((bG 3 an ap).bind λ(aq,av,ax,_)=>
(cZ 0 aq).bind λ(ay,az,aA,aB,aD,_)=>
let aE:LDIn:=[(ay,(az,(aA,(aB,aD))))];
bif(ck 40 aE.length ak.length)then let aF:LDIn:=(List.append aE ak);
(cO 13).bind λ(aG,aH,aI,aJ,aK,_)=>
let aL:LDIn:=[(aG,(aH,(aI,(aJ,aK))))];
bif(ck 40 aF.length aL.length)then let aM:LDIn:=(List.append aF aL);
some (aM,av,ax,())else none else none)else
bif(am==9)then((bG 3 an ap).bind λ(aq,av,ax,_)=>
(cZ 0 aq).bind λ(ay,az,aA,aB,aD,_)=>
let aE:LDIn:=[(ay,(az,(aA,(aB,aD))))];
bif(ck 40 aE.length ak.length)then let aF:LDIn:=(List.append aE ak);
(cO 14).bind λ(aG,aH,aI,aJ,aK,_)=>
(eD 3 0).bind λ(aL,aM,aO,aP,aQ,_)=>
let aR:LDIn:=[(aG,(aH,(aI,(aJ,aK)))),(aL,(aM,(aO,(aP,aQ))))];
bif(ck 40 aF.length aR.length)then let aS:LDIn:=(List.append aF aR);
some (aS,av,ax,())else none else none)else
bif(am==10)then((bG 3 an ap).bind λ(aq,av,ax,_)=>
(cZ 0 aq).bind λ(ay,az,aA,aB,aD,_)=>
(bG 4 av ax).bind λ(aE,aF,aG,_)=>
(cZ 1 aE).bind λ(aH,aI,aJ,aK,aL,_)=>
(cO 3).bind λ(aM,aO,aP,aQ,aR,_)=>
(eD 7 0).bind λ(aS,aT,aU,aV,aW,_)=>
let aY:LDIn:=[(ay,(az,(aA,(aB,aD)))),(aH,(aI,(aJ,(aK,aL)))),(aM,(aO,(aP,(aQ,aR)))),(aS,(aT,(aU,(aV,aW))))];
some (aY,aF,aG,()))else
bif(am==11)then((eD 0 7).bind λ(aq,av,ax,ay,az,_)=>
let aA:LDIn:=[(aq,(av,(ax,(ay,az))))];
bif(ck 40 aA.length ak.length)then let aB:LDIn:=(List.append aA ak);
let aD:List (Int):=[1,2];
(bG 2 an ap).bind λ(aE,aF,aG,_)=>
(eu aE).bind λaH=>
(cL aD aH).bind λaI=>
(cL aD aH).bind λaJ=>
(cO aJ).bind λ(aK,aL,aM,aO,aP,_)=>
let aQ:LDIn:=[(aK,(aL,(aM,(aO,aP))))];
bif(ck 40 aB.length aQ.length)then let aR:LDIn:=(List.append aB aQ);
some (aR,aF,aG,())else none else none)else
bif(am==12)then((eD 0 7).bind λ(aq,av,ax,ay,az,_)=>
(cO 4).bind λ(aA,aB,aD,aE,aF,_)=>
let aG:LDIn:=[(aq,(av,(ax,(ay,az)))),(aA,(aB,(aD,(aE,aF))))];
(eD 0 7).bind λ(aH,aI,aJ,aK,aL,_)=>
(bG 4 an ap).bind λ(aM,aO,aP,_)=>
(cZ 1 aM).bind λ(aQ,aR,aS,aT,aU,_)=>
(cO 5).bind λ(aV,aW,aY,aZ,a6,_)=>
let a7:LDIn:=[(aH,(aI,(aJ,(aK,aL)))),(aQ,(aR,(aS,(aT,aU)))),(aV,(aW,(aY,(aZ,a6))))];
let a8:List LDIn:=[aG,a7];
(bG 2 aO aP).bind λ(ba,bc)=>
(eu ba).bind λbe=>
(cL a8 be).bind λbf=>
(cL a8 be).bind λbg=>
(cL a8 be).bind λbh=>
some (bh,bc))else
bif(am==13)then(let aq:List (Int):=[6,7,15];
(bG 3 an ap).bind λ(av,ax,ay,_)=>
(eu av).bind λaz=>
(cL aq az).bind λaA=>
(cL aq az).bind λaB=>
(cO aB).bind λ(aD,aE,aF,aG,aH,_)=>
(bG 3 ax ay).bind λ(aI,aJ,aK,_)=>
let aL:=w64 (3+aI);
(eD aL 0).bind λ(aM,aO,aP,aQ,aR,_)=>
let aS:LDIn:=[(aD,(aE,(aF,(aG,aH)))),(aM,(aO,(aP,(aQ,aR))))];
some (aS,aJ,aK,()))else
bif(am==14)then((bG 3 an ap).bind λ(aq,av,ax,_)=>
(cZ 0 aq).bind λ(ay,az,aA,aB,aD,_)=>
let aE:List (Int):=[8,9];
(bG 2 av ax).bind λ(aF,aG,aH,_)=>
(eu aF).bind λaI=>
(cL aE aI).bind λaJ=>
(cL aE aI).bind λaK=>
(cO aK).bind λ(aL,aM,aO,aP,aQ,_)=>
let aR:LDIn:=[(ay,(az,(aA,(aB,aD)))),(aL,(aM,(aO,(aP,aQ))))];
some (aR,aG,aH,()))else
bif(am==15)then((bG 3 an ap).bind λ(aq,av,ax,_)=>
(cZ 0 aq).bind λ(ay,az,aA,aB,aD,_)=>
let aE:List (Int):=[8,9];
(bG 2 av ax).bind λ(aF,aG,aH,_)=>
(eu aF).bind λaI=>
(cL aE aI).bind λaJ=>
(cL aE aI).bind λaK=>
(cO aK).bind λ(aL,aM,aO,aP,aQ,_)=>
let aR:LDIn:=[(ay,(az,(aA,(aB,aD)))),(aL,(aM,(aO,(aP,aQ))))];
some (aR,aG,aH,()))else
bif(am==16)then((bG a1 an ap).bind λ(aq,av,ax,_)=>
(cZ 0 aq).bind λ(ay,az,aA,aB,aD,_)=>
(eD 1 3).bind λ(aE,aF,aG,aH,aI,_)=>
(cO 10).bind λ(aJ,aK,aL,aM,aO,_)=>
let aP:LDIn:=[(ay,(az,(aA,(aB,aD)))),(aE,(aF,(aG,(aH,aI)))),(aJ,(aK,(aL,(aM,aO))))];
some (aP,av,ax,()))else
bif(am==17)then(let aq:List (Int):=[a1,5];
(bG 2 an ap).bind λ(av,ax,ay,_)=>
(eu av).bind λaz=>
(cL aq az).bind λaA=>
(cL aq az).bind λaB=>
(bG aB ax ay).bind λ(aD,aE,aF,_)=>
(cZ 0 aD).bind λ(aG,aH,aI,aJ,aK,_)=>
let aL:List (Int):=[12,11];
(bG 2 aE aF).bind λ(aM,aO,aP,_)=>
(eu aM).bind λaQ=>
(cL aL aQ).bind λaR=>
(cL aL aQ).bind λaS=>
(cO aS).bind λ(aT,aU,aV,aW,aY,_)=>
let aZ:LDIn:=[(aG,(aH,(aI,(aJ,aK)))),(aT,(aU,(aV,(aW,aY))))];
some (aZ,aO,aP,()))else
bif(am==18)then((bG 4 an ap).bind λ(aq,av,ax,_)=>
let ay:=w64 (1+aq);
(cZ 5 ay).bind λ(az,aA,aB,aD,aE,_)=>
(cZ 4 1).bind λ(aF,aG,aH,aI,aJ,_)=>
let aK:=w64 (a2+2);
let aL:LDIn:=[(az,(aA,(aB,(aD,aE)))),(aF,(aG,(aH,(aI,aJ)))),(4,(5,(5,(4,0)))),(20,(5,(0,(0,aK))))];
some (aL,av,ax,()))else
let aq:=cc a0.length;
(fi aq a1 an ap).bind λ(av,ax,ay,az,aA,aB,aD,_)=>
let aE:LDIn:=[(av,(ax,(ay,(az,aA))))];
some (aE,aB,aD,())
def qD:X.Cfg:=⟨E0,[dz,qY,gg,oz,sa,kK],[(156,(uaa KIn))],[]⟩
def mn:Ctr:=⟨40,12,[.ptr ⟨2,0,[]⟩ [0],shU RI,shU I64,shU I64],[(2,uab)],[⟨uL [gT],[.one],[(2,uab)]⟩],ap5 f8⟩
theorem qx:Lk 6 mn:=ls qD (aC d5 (aC vo (aC iN (aC rH (aC xy (aC pm aN))))))
def fI:T0u->Option (T0u⊕(Int×Int×Bool×T0p)):=λ(v0,v1,v2,v3,v4,v5,v6,v7,v8,v9,_)=>
bif(decide (v1<v0))then((eu v1).bind λx0=>
(cL v8 x0).bind λx1=>
(cL v8 x0).bind λx2=>
(ff x2 v2 v3).bind λ(x3,x4,x5,_)=>
bif(ck 24 v9.length (List.length [x3]))then let x6:List LI:=(List.append v9 [x3]);
let x7:=w64 (v1+1);
some (.inl (v0,x7,x4,x5,v4,v5,v6,v7,v8,x6,()))else none)else
some (.inr (v0,v1,false,v2,v3,v4,v5,v6,v7,v8,v9,()))
def fH:T0q->Option (T0q⊕T0s):=λ(v0,v1,v2,v3,v4,v5,v6,v7,v8,_)=>
bif(decide (v0>0))then((let x0:Int:=(cc v6.length);
let x1:=w64 (x0+1);
let x2:=cc v6.length;
(f8 v7 x1 x2 v1 v2).bind λ(x3,x4,x5,_)=>
let x6:=cc v6.length;
let x7:=cc x3.length;
let x8:=w64 (x6+x7);
bif(decide (x8<=62))then(bif(ck 40 v6.length x3.length)then let x9:LDIn:=(List.append v6 x3);
some (v0,x4,x5,v3,v4,v5,x9,v7,v8,())else none)else
some (v0,x4,x5,v3,v4,v5,v6,v7,v8,()):Option (T0q)).bind λ(x0,x1,x2,x3,x4,x5,x6,x7,x8,_)=>
let x9:=w64 (x0-1);
some (.inl (x9,x1,x2,x3,x4,x5,x6,x7,x8,())))else
some (.inr (v0,false,v1,v2,v3,v4,v5,v6,v7,v8,()))
def cF:T0t->Option (T0t⊕(Int×T0s)):=λ(v0,v1,v2,v3,v4,v5,v6,v7,v8)=>
bif(decide (v1<v0))then(((eu v1).bind λx0=>
(cL v7 x0).bind λx1=>
(ej x1.1).bind λ(x2,_)=>
bif x2 then((eu v1).bind λx3=>
(cL v7 x3).bind λx4=>
let x5:=cc v7.length;
bif(decide (x4.2.2.2.2>=x5))then((eu v1).bind λx6=>
(cL v7 x6).bind λx7=>
none)else
some (v0,v1,v2,v3,v4,v5,v6,v7,v8))else
some (v0,v1,v2,v3,v4,v5,v6,v7,v8):Option (T0t)).bind λ(x0,x1,x2,x3,x4,x5,x6,x7,x8)=>
let ac:=w64 (x1+1);
some (.inl (x0,ac,x2,x3,x4,x5,x6,x7,x8)))else
some (.inr (v0,v1,false,v2,v3,v4,v5,v6,v7,v8))
def d7(a0:List (Int))(a1:Int):Option (LDIn×LI×LLI×T02):=
(fh a0 a1).bind λ(x0,x1,x2,_)=>
let x3:=cc x0.length;
(c8 fI NN (x3,0,x1,x2,(),(),(),(),x0,[],())).bind λ(x4,x5,x6,x7,x8,x9,ac,ae,af,ah)=>
(bG 12 x7 x8).bind λ(aj,ak,am,_)=>
let an:=w64 (1+aj);
(c8 fH NN (an,ak,am,x9,ac,ae,[],ah)).bind λ(ap,aq,av,ax,ay,az,aA,aB,aD)=>
((bG 4 av ax).bind λ(aF,aG,aH,_)=>
bif(aF==0)then(let aI:Int:=(cc aB.length);
let aJ:=w64 (aI+1);
(bG aJ aG aH).bind λ(aK,aL,aM,_)=>
let aO:LDIn:=[(18,(0,(0,(0,aK))))];
bif(ck 40 aB.length aO.length)then let aP:LDIn:=(List.append aB aO);
some (aL,aM,ay,az,aA,aP,aD)else none)else
bif(aF==1)then(let aI:LDIn:=[(24,(0,(0,(0,0))))];
bif(ck 40 aB.length aI.length)then let aJ:LDIn:=(List.append aB aI);
some (aG,aH,ay,az,aA,aJ,aD)else none)else
some (aG,aH,ay,az,aA,aB,aD):Option (T0o)).bind λ(aF,aG,aH,aI,aJ,aK,aL,aM,_)=>
(bG 9 aF aG).bind λ(aO,aP,aQ,_)=>
(cZ 0 aO).bind λ(aR,aS,aT,aU,aV,_)=>
(cO 0).bind λ(aW,aY,aZ,a6,a7,_)=>
let a8:LDIn:=[(aR,(aS,(aT,(aU,aV)))),(aW,(aY,(aZ,(a6,a7))))];
bif(ck 40 aK.length a8.length)then let ba:LDIn:=(List.append aK a8);
let bc:=cc ba.length;
bif(decide (bc>64))then(bif(oM 0 64 ba.length)then let bd:LDIn:=(Ae ba 0 (Nat.sub 64 0));
let be:=cc bd.length;
(c8 cF NN (be,0,aP,aQ,aH,aI,aJ,bd,aL,aM,())).bind λ(bf,bg,bh,bi,bj,bk,bl,bm,bn,bo,bp,_)=>
some (bn,bo,bp,bi,bj,())else none)else
let bd:=cc ba.length;
(c8 cF NN (bd,0,aP,aQ,aH,aI,aJ,ba,aL,aM,())).bind λ(be,bf,bg,bh,bi,bj,bk,bl,bm,bn,bo,_)=>
some (bm,bn,bo,bh,bi,())else none
def mO:X.Cfg:=⟨E0,[kJ,kI,dz,mn,qY,oz,gN],[(24,(uaa CW)),(25,(uaa CW))],[(lx 4 0 [zaa 0,zaa 2,zaa 3,(13,.pk ⟨8,1,[]⟩ [0,0]),Uaa 14,Uaa 15] [(2,uab),(6,yac),(8,uL [N1,(uaa I64),(uaa (uaa CW))])] 16),⟨14,1,qE,[(.normal,qS [zaa 0,zaa 2,zaa 3,Uaa 6] [(2,uab),(6,yac),(8,uad)])]⟩,⟨11,2,qS [zaa 0,zaa 2,zaa 3,Uaa 6] [(2,uab),(6,yac),(8,uad)],[(.exit 2,qS [zaa 0,zaa 2,zaa 3,Uaa 6,Xaa 32] [(2,uab),(6,yac),(8,uad)])]⟩,⟨17,3,qE,[(.normal,qS [zaa 0,zaa 2,zaa 3] [(2,uab),(6,yac),(8,uad)])]⟩,⟨29,4,qE,[(.normal,qS [zaa 0,zaa 2,zaa 3,Uaa 101,Uaa 102] [(2,uab),(6,yac),(8,yad)])]⟩,⟨26,5,qS [zaa 0,zaa 2,zaa 3,Uaa 101,Uaa 102] [(2,uab),(6,yac),(8,yad)],[(.exit 5,qS [zaa 0,zaa 2,zaa 3,Uaa 101,Uaa 102,Xaa 103] [(2,uab),(6,yac),(8,yad)])]⟩]⟩
def iE:Ctr:=⟨12,13,[.ptr ⟨2,0,[]⟩ [0]],[(2,uab)],[⟨yad,[.agg 3],[(2,uab)]⟩],ap2 d7⟩
theorem mG:Lk 7 iE:=ls mO (aC pj (aC pi (aC d5 (aC qx (aC vo (aC rH (aC ky aN)))))))
def gP:Ctr:=⟨32,14,[.agg yab],[],[⟨uL [(yaa .bool)],[.one],[]⟩],ap3 cE⟩
theorem lQ:Lvl E0 TT libB 1 gP:=(vn (yo rfl) jX).mono (by decide)
def js:Ctr:=⟨33,15,[.agg yab],[],[⟨uL [(yaa .bool)],[.one],[]⟩],ap3 df⟩
theorem nW:Lvl E0 TT libB 1 js:=(vn (yo rfl) lM).mono (by decide)
def dF(a0:Int)(a1:Int)(a2:Int)(a3:Int)(a4:Int)(a5:Int):Option (LI×Unit):=
(match(bif(a0==18)then(some (.inl ([a4],())))else
bif(a0==21)then(some (.inl ([a4],())))else
bif(a0==22)then(some (.inl ([],())))else
bif(a0==24)then(some (.inl ([],())))else
bif(a0==19)then(let x0:Int:=(w64 (a5+1));
bif(decide (a4<x0))then(let x1:Int:=(w64 (a5+1));
let x2:List (Int):=[a4,x1];
some (.inl (x2,())))else
let x1:=w64 (a5+1);
bif(decide (a4>x1))then(let x2:Int:=(w64 (a5+1));
let x3:List (Int):=[x2,a4];
some (.inl (x3,())))else
some (.inr (.inl (a5,false,a0,a1,a2,a3,a4,()))))else
bif(a0==20)then(let x0:Int:=(w64 (a5+1));
bif(decide (a4<x0))then(let x1:Int:=(w64 (a5+1));
let x2:List (Int):=[a4,x1];
some (.inl (x2,())))else
let x1:=w64 (a5+1);
bif(decide (a4>x1))then(let x2:Int:=(w64 (a5+1));
let x3:List (Int):=[x2,a4];
some (.inl (x3,())))else
some (.inr (.inl (a5,false,a0,a1,a2,a3,a4,()))))else
some (.inr (.inr (a5,false,a0,a1,a2,a3,a4,()))):Option ((LI×Unit)⊕(T0i⊕T0i)))with
|none=>none
|some (.inl (x0,_))=>
some (x0,())
|some (.inr (.inl (x0,x1,x2,x3,x4,x5,x6,_)))=>
let x7:=w64 (x0+1);
some ([x7],())
|some (.inr (.inr (x0,x1,x2,x3,x4,x5,x6,_)))=>
let x7:=w64 (x0+1);
some ([x7],()))
def lU:X.Cfg:=⟨E0,[],[],[⟨1,0,qE,[(.ret,qS [Zaa 4 11] [(11,Zab)]),(.normal,qS [Uaa 1,zaa 2,Xaa 30] [(6,zab)]),(.normal,qS [Uaa 1,zaa 2,Xaa 16] [(6,zab)])]⟩]⟩
def gM:Ctr:=⟨34,16,[.agg zab,shU I64],[],[⟨Zab,[.one],[]⟩],ap6 dF⟩
theorem lO:Lk 1 gM:=ls lU aN
def jC:LI×LI×T00->Option ((LI×LI×T00)⊕((Bool×Unit)⊕(LI×LI×Int×Int×Bool×Unit))):=λ(v0,v1,v2,v3,_)=>
bif(decide (v3<v2))then((eu v3).bind λx0=>
(cL v1 x0).bind λx1=>
bif(decide (x1<1))then(some (.inr (.inl (false,()))))else
bif(decide (x1>32))then(some (.inr (.inl (false,()))))else
let x2:=w64 (v3+1);
some (.inl (v0,v1,v2,x2,())))else
some (.inr (.inr (v0,v1,v2,v3,false,())))
def fD(a0:List (Int)):Option (Bool×Unit):=
let x0:=cc a0.length;
(match c8 jC NN (a0,a0,x0,0,())with
|none=>none
|some (.inl (x1,_))=>
some (x1,())
|some (.inr (x1,_))=>
let x6:=cc x1.length;
bif(decide (x6>=1))then(let x7:Int:=(cc x1.length);
some ((decide (x7<=4)),()))else
some (false,()))
def mI:X.Cfg:=⟨E0,[],[],[⟨3,0,qS [sP 0 RI,sP 5 RI,Uaa 6,Uaa 7] [],[(.ret,qS [Xaa 2] []),(.exit 0,qS [sP 0 RI,sP 5 RI,Uaa 6,Uaa 7,Xaa 8] [])]⟩]⟩
def fF:Ctr:=⟨78,17,uL [RI],[],[⟨uac,[.one],[]⟩],ap1 fD⟩
theorem iu:Lk 1 fF:=ls mI aN
def iq(a0:Int):Option (T07):=
(bif(a0==1)then(some (a0,true,false,false,false,false,()))else
bif(a0==15)then(some (a0,true,false,false,false,false,()))else
bif(a0==19)then(some (a0,true,false,false,false,false,()))else
bif(a0==20)then(some (a0,true,false,false,false,false,()))else
some (a0,(a0==21),false,false,false,false,()):Option (Int×Bool×T07)).bind λ(x0,x1,_)=>
bif x1 then(some (true,false,false,true,()))else
bif(x0==2)then(some (true,true,false,false,()))else
bif(x0==16)then(some (true,true,false,true,()))else
bif(x0==17)then(some (true,true,false,true,()))else
bif(x0==18)then(some (false,false,false,true,()))else
bif(x0==23)then(some (false,false,false,true,()))else
bif(x0==22)then(some (true,false,false,false,()))else
bif(x0==0)then(some (false,false,false,false,()))else
bif(x0==24)then(some (false,false,false,false,()))else
some (true,true,true,false,())
def mL:X.Cfg:=⟨E0,[],[],[⟨3,0,qE,[(.normal,qS [zaa 2,Uaa 3,Xaa 4] [(6,zac)])]⟩]⟩
def iB:Ctr:=⟨100,18,Xab,[],[⟨zac,[.agg 4],[]⟩],ap1 iq⟩
theorem mD:Lk 1 iB:=ls mL aN
def c7(a0:Bool)(a1:Int)(a2:Int):Option (Bool×Unit):=
bif(a1==0)then(some (true,()))else
bif a0 then(bif(decide (a1>0))then(some ((decide (a1<=a2)),()))else
some (false,()))else
some (false,())
def lX:X.Cfg:=⟨E0,[],[],[]⟩
def gQ:Ctr:=⟨101,19,uL [.bool,I64,I64],[],[⟨uac,[.one],[]⟩],ap3 c7⟩
theorem lR:Lk 1 gQ:=ls lX aN
def f6(a0:Int):Option (Bool×Unit):=
bif(a0==18)then(some (true,()))else
bif(a0==19)then(some (true,()))else
bif(a0==20)then(some (true,()))else
some ((a0==21),())
def of:X.Cfg:=⟨E0,[],[],[]⟩
def gf:Ctr:=⟨80,20,Xab,[],[⟨uac,[.one],[]⟩],ap1 f6⟩
theorem jh:Lk 1 gf:=ls of aN
def kf(a0:Int):Option (Int×Unit):=
(f6 a0).bind λ(x0,_)=>
bif x0 then(some (63,()))else
bif(a0==15)then(some (3,()))else
bif(a0==23)then(some (15,()))else
some (65535,())
def px:X.Cfg:=⟨E0,[gf],[],[]⟩
def kH:Ctr:=⟨102,21,Xab,[],[⟨Xab,[.one],[]⟩],ap1 kf⟩
theorem ph:Lk 2 kH:=ls px (aC jh aN)
def fZ(a0:Int)(a1:Int)(a2:Int)(a3:Int)(a4:Int):Option (Bool×Unit):=
bif(decide (a0<0))then(some (false,()))else
bif(decide (a0>24))then(some (false,()))else
(iq a0).bind λ(x0,x1,x2,x3,_)=>
(c7 x0 a1 7).bind λ(x4,_)=>
bif x4 then((c7 x1 a2 7).bind λ(x5,_)=>
bif x5 then((c7 x2 a3 7).bind λ(x6,_)=>
bif x6 then((kf a0).bind λ(x7,_)=>
(c7 x3 a4 x7).bind λ(x8,_)=>
some (x8,()))else
some (false,()))else
some (false,()))else
some (false,())
def oe:X.Cfg:=⟨E0,[iB,gQ,kH],[],[]⟩
def ge:Ctr:=⟨79,22,[.agg zab],[],[⟨uac,[.one],[]⟩],ap5 fZ⟩
theorem jg:Lk 3 ge:=ls oe (aC mD (aC lR (aC ph aN)))
def kQ:LLI×T0e->Option ((LLI×T0e)⊕((Int×Unit)⊕(LLI×T0f))):=λ(v0,v1,v2,v3,v4,v5,_)=>
bif(decide (v2<v1))then((eu v2).bind λx0=>
(cL v0 x0).bind λx1=>
let x2:=cc x1.length;
(eu v2).bind λx3=>
(cL v4 x3).bind λx4=>
bif(decide (x2>x4))then(some (.inr (.inl (1,()))))else
let x5:=w64 (v2+1);
some (.inl (v0,v1,x5,v3,v4,v5,())))else
some (.inr (.inr (v0,v1,v2,false,v3,v4,v5,())))
def kP:T0k->Option (T0k⊕((Int×Unit)⊕T0n)):=λ(v0,v1,v2,v3,v4,v5,v6,_)=>
bif(decide (v3<v2))then((match((eu v3).bind λx0=>
(cL v1 x0).bind λx1=>
(fZ x1.1 x1.2.1 x1.2.2.1 x1.2.2.2.1 x1.2.2.2.2).bind λ(x2,_)=>
bif(!x2)then(some (.inl (5,())))else
((f6 x1.1).bind λ(x3,_)=>
bif x3 then(let x4:Int:=(cc v4.length);
bif(decide (x1.2.2.2.2>=x4))then(some (v0,v1,v2,v3,true,v4,v5,v6,()))else
bif(x1.1==15)then(let x5:Int:=(cc v5.length);
some (v0,v1,v2,v3,(decide (x1.2.2.2.2>=x5)),v4,v5,v6,()))else
some (v0,v1,v2,v3,false,v4,v5,v6,()))else
bif(x1.1==15)then(let x4:Int:=(cc v5.length);
some (v0,v1,v2,v3,(decide (x1.2.2.2.2>=x4)),v4,v5,v6,()))else
some (v0,v1,v2,v3,false,v4,v5,v6,()):Option (T0n)).bind λ(x3,x4,x5,x6,x7,x8)=>
bif x7 then(some (.inr (6,x4,x5,x6,x8)))else
some (.inr (x3,x4,x5,x6,x8)):Option ((Int×Unit)⊕T0k))with
|none=>none
|some (.inl (x0,_))=>
some (.inr (.inl (x0,())))
|some (.inr (x0,x1,x2,x3,x4,x5,x6,_))=>
let x7:=w64 (x3+1);
some (.inl (x0,x1,x2,x7,x4,x5,x6,()))))else
some (.inr (.inr (v0,v1,v2,v3,false,v4,v5,v6,())))
def iY(a0:LDIn)(a1:List (Int))(a2:List LI):Option (Int×Unit):=
(fD a1).bind λ(x0,_)=>
bif(!x0)then(some (1,()))else
let x1:=cc a2.length;
let x2:=cc a1.length;
bif(x1 != x2)then(some (1,()))else
let x3:=cc a2.length;
(match c8 kQ NN (a2,x3,0,a0,a1,a2,())with
|none=>none
|some (.inl (x4,_))=>
some (x4,())
|some (.inr (x4,x5,x6,x7,x8,x9))=>
let ae:=cc x8.length;
bif(ae==0)then(some (3,()))else
let af:=cc x8.length;
bif(decide (af>64))then(some (3,()))else
let ah:=cc x8.length;
(match c8 kP NN (0,x8,ah,0,x8,x9)with
|none=>none
|some (.inl (ai,_))=>
some (ai,())
|some (.inr (ai,_))=>
some (ai,())))
def og:X.Cfg:=⟨E0,[fF,ge,gf],[],[⟨6,0,qS [zaa 1,sP 22 (yaa RW),Uaa 23,Uaa 24] [(4,yab)],[(.ret,qS [Uaa 2] []),(.exit 0,qS [zaa 1,sP 22 (yaa RW),Uaa 23,Uaa 24,Xaa 25] [(4,yab)])]⟩,⟨27,1,qE,[(.normal,qS [zaa 1,Uaa 5,sP 49 gT,Uaa 50,Uaa 51,Xaa 81] [(4,yab)])]⟩,⟨22,2,qE,[(.ret,qS [Uaa 2] []),(.normal,qS [zaa 1,Uaa 5,sP 49 gT,Uaa 50,Uaa 51] [(4,yab)])]⟩,⟨19,3,qS [zaa 1,Uaa 5,sP 49 gT,Uaa 50,Uaa 51] [(4,yab)],[(.ret,qS [Uaa 2] []),(.exit 2,qS [zaa 1,Uaa 5,sP 49 gT,Uaa 50,Uaa 51,Xaa 52] [(4,yab)])]⟩]⟩
def jw:Ctr:=⟨44,23,[.agg yab],[],[⟨Xab,[.one],[]⟩],ap3 iY⟩
theorem n5:Lk 4 jw:=ls og (aC iu (aC jg (aC jh aN)))
def eN(a0:LDIn)(a1:List (Int))(a2:List LI):Option (Int×Unit):=
(iY a0 a1 a2).bind λ(x0,_)=>
some (x0,())
def lW:X.Cfg:=⟨E0,[jw],[],[]⟩
def eY:Ctr:=⟨15,24,[.agg yab],[],[⟨Xab,[.one],[]⟩],ap3 eN⟩
theorem gH:Lk 5 eY:=ls lW (aC n5 aN)
def lw:LI×Int×T01->Option ((LI×Int×T01)⊕(LI×Int×Int×Bool×LI×Unit)):=λ(v0,v1,v2,v3,_)=>
bif(decide (v2<v1))then((eu v2).bind λx0=>
(cL v0 x0).bind λx1=>
let x2:Int:=(shR .shr .u16 x1 8);
let x3:=wk .u8 x2;
let x4:=wk .u8 x1;
let x5:List (Int):=[x3,x4];
bif(ck 1 v3.length x5.length)then let x6:List (Int):=(List.append v3 x5);
let x7:=w64 (v2+1);
some (.inl (v0,v1,x7,x6,()))else none)else
some (.inr (v0,v1,v2,false,v3,()))
def ke(a0:List (Int)):Option (LI×Unit):=
let x0:=cc a0.length;
(c8 lw NN (a0,x0,0,[],())).bind λ(x1,x2,x3,x4,x5,_)=>
some (x5,())
def pq:X.Cfg:=⟨E0,[],[],[(lx 4 0 [Zaa 3 9,sP 6 RW,Uaa 7,Uaa 8] [(9,Uac)] 9)]⟩
def kF:Ctr:=⟨62,25,uL [RW],[],[⟨Uac,[.one],[]⟩],ap1 ke⟩
theorem pe:Lk 1 kF:=ls pq aN
def ir(a0:Int)(a1:Int)(a2:Int)(a3:Int)(a4:Int):Option (T02):=
(fZ a0 a1 a2 a3 a4).bind λ(x0,_)=>
bif(!x0)then(some ([],1,()))else
let x1:=wk .u8 a0;
let x2:=wk .u8 a1;
let x3:=wk .u8 a2;
let x4:=wk .u8 a3;
let x5:Int:=(shR .shr .i64 a4 8);
let x6:=wk .u8 x5;
let x7:=wk .u8 a4;
let x8:List (Int):=[x1,x2,x3,x4,x6,x7];
some (x8,0,())
def mM:X.Cfg:=⟨E0,[ge],[],[]⟩
def iC:Ctr:=⟨63,26,[.agg zab],[],[⟨uL [(uaa CB),I64],[.one,.one],[]⟩],ap5 ir⟩
theorem mE:Lk 4 iC:=ls mM (aC jg aN)
def iI:LI×T0h->Option ((LI×T0h)⊕(LI×T0j)):=λ(v0,v1,v2,v3,v4,v5,v6,_)=>
bif(decide (v2<v1))then((eu v2).bind λx0=>
(cL v0 x0).bind λx1=>
let x2:=wk .u8 x1;
(eu v2).bind λx3=>
(cL v5 x3).bind λx4=>
let x5:=cc x4.length;
let x6:=wk .u8 x5;
let x7:List (Int):=[x2,x6];
bif(ck 1 v6.length x7.length)then let x8:List (Int):=(List.append v6 x7);
(eu v2).bind λx9=>
(cL v5 x9).bind λac=>
(ke ac).bind λ(ae,_)=>
bif(ck 1 x8.length ae.length)then let af:List (Int):=(List.append x8 ae);
let ah:=w64 (v2+1);
some (.inl (v0,v1,ah,v3,v4,v5,af,()))else none else none)else
some (.inr (v0,v1,v2,false,v3,v4,v5,v6,()))
def iH:T0l->Option (T0l⊕(LDIn×T0j)):=λ(v0,v1,v2,v3,v4,v5,v6,_)=>
bif(decide (v2<v1))then((eu v2).bind λx0=>
(cL v0 x0).bind λx1=>
(ir x1.1 x1.2.1 x1.2.2.1 x1.2.2.2.1 x1.2.2.2.2).bind λ(x2,x3,_)=>
bif(ck 1 v6.length x2.length)then let x4:List (Int):=(List.append v6 x2);
let x5:=w64 (v2+1);
some (.inl (v0,v1,x5,v3,v4,v5,x4,()))else none)else
some (.inr (v0,v1,v2,false,v3,v4,v5,v6,()))
def gn(a0:LDIn)(a1:List (Int))(a2:List LI):Option (T02):=
(eN a0 a1 a2).bind λ(x0,_)=>
bif(x0 != 0)then(some ([],x0,()))else
let x1:=cc a1.length;
let x2:=wk .u8 x1;
let x3:=cc a1.length;
(c8 iI NN (a1,x3,0,a0,a1,a2,[x2],())).bind λ(x4,x5,x6,x7,x8,x9,ac,ae,_)=>
let af:=cc x8.length;
let ah:=wk .u8 af;
bif(ck 1 ae.length (List.length [ah]))then let ai:List (Int):=(List.append ae [ah]);
let aj:=cc x8.length;
(c8 iH NN (x8,aj,0,x8,x9,ac,ai,())).bind λ(ak,am,an,ap,aq,av,ax,ay,_)=>
some (ay,0,())else none
def kU:X.Cfg:=⟨E0,[eY,kF,iC],[],[(lx 8 0 [zaa 1,Zaa 5 13,sP 23 RI,Uaa 24,Uaa 25] [(4,yab),(13,Uac)] 26),⟨17,1,qS [Zaa 5 13,sP 59 gT,Uaa 60,Uaa 61] [(4,yab),(13,Uac)],[(.exit 2,qS [Zaa 5 13,sP 59 gT,Uaa 60,Uaa 61,Xaa 62] [(4,yab),(13,Uac)])]⟩]⟩
def gq:Ctr:=⟨27,27,[.agg yab],[],[⟨uL [(uaa CB),I64],[.one,.one],[]⟩],ap3 gn⟩
theorem kT:Lk 6 gq:=ls kU (aC gH (aC pe (aC mE aN)))
def jF:T0v->Option (T0v⊕((Bool×Unit)⊕T0z)):=λ(v0,v1,v2,v3,v4,v5,v6,v7,v8,v9,_)=>
bif(decide (v7<v6))then((match((eu v7).bind λx0=>
(cL v8 x0).bind λx1=>
(eu v7).bind λx2=>
(cL v0 x2).bind λx3=>
let x4:=w64 (x1+x3);
bif(decide (v2<=x4))then((eu v7).bind λx5=>
(cL v8 x5).bind λx6=>
(eu v1).bind λx7=>
(cL v0 x7).bind λx8=>
let x9:=w64 (v2+x8);
bif(decide (x6<=x9))then(some (.inl (false,())))else
some (.inr (v0,v1,v2,v3,v4,v5,v6,v7,false,v8,v9,())))else
some (.inr (v0,v1,v2,v3,v4,v5,v6,v7,false,v8,v9,())):Option ((Bool×Unit)⊕T0z))with
|none=>none
|some (.inl (x0,_))=>
some (.inr (.inl (x0,())))
|some (.inr (x0,x1,x2,x3,x4,x5,x6,x7,x8,x9,ac,_))=>
let ae:=w64 (x7+1);
some (.inl (x0,x1,x2,x3,x4,x5,x6,ae,x9,ac,()))))else
some (.inr (.inr (v0,v1,v2,v3,v4,v5,v6,v7,false,v8,v9,())))
def jE:LI×LI×T09->Option ((LI×LI×T09)⊕((Bool×Unit)⊕(LI×LI×T0c))):=λ(v0,v1,v2,v3,v4)=>
bif(decide (v3<v2))then((eu v3).bind λx0=>
(cL v1 x0).bind λx1=>
(bif(decide (x1<0))then(some (v0,v3,x1,v1,v2,v3,true,v4))else
bif(decide (x1>=512))then(some (v0,v3,x1,v1,v2,v3,true,v4))else
(eu v3).bind λx2=>
(cL v0 x2).bind λx3=>
let x4:=w64 (x1+x3);
some (v0,v3,x1,v1,v2,v3,(decide (x4>512)),v4):Option (LI×Int×Int×LI×T0c)).bind λ(x2,x3,x4,x5,x6,x7,x8,x9)=>
bif x8 then(some (.inr (.inl (false,()))))else
(match c8 jF NN (x2,x3,x4,x5,x6,x7,x3,0,x9)with
|none=>none
|some (.inl (ae,_))=>
some (.inr (.inl (ae,())))
|some (.inr (ae,af,ah,ai,aj,ak,am,an,ap,aq))=>
let ax:=w64 (ak+1);
some (.inl (ae,ai,aj,ax,aq))))else
some (.inr (.inr (v0,v1,v2,v3,false,v4)))
def io(a0:List (Int))(a1:Int)(a2:List (Int)):Option (Bool×Unit):=
(fD a2).bind λ(x0,_)=>
bif(!x0)then(some (false,()))else
let x1:=cc a0.length;
let x2:=cc a2.length;
bif(x1 != x2)then(some (false,()))else
let x3:=cc a0.length;
(match c8 jE NN (a2,a0,x3,0,a0,a1,())with
|none=>none
|some (.inl (x4,_))=>
some (x4,())
|some (.inr (x4,_))=>
some (true,()))
def mK:X.Cfg:=⟨E0,[fF],[],[⟨12,0,qE,[(.normal,qS [sP 1 RI,zaa 2,Uaa 5,Uaa 6,sP 20 RI,Uaa 21,Uaa 22,Xaa 41] [(6,Uab)])]⟩,⟨18,1,qE,[(.ret,qS [Xaa 4] []),(.normal,qS [sP 1 RI,zaa 2,Uaa 5,Uaa 6,sP 20 RI,Uaa 21,Uaa 22,Uaa 42,Uaa 43,Xaa 71] [(6,Uab)])]⟩,⟨15,2,qS [sP 1 RI,zaa 2,Uaa 5,Uaa 6,sP 20 RI,Uaa 21,Uaa 22,Uaa 42,Uaa 43] [(6,Uab)],[(.ret,qS [Xaa 4] []),(.exit 2,qS [sP 1 RI,zaa 2,Uaa 5,Uaa 6,sP 20 RI,Uaa 21,Uaa 22,Uaa 42,Uaa 43,Xaa 44] [(6,Uab)])]⟩,⟨6,3,qS [sP 1 RI,zaa 2,sP 20 RI,Uaa 21,Uaa 22] [(6,Uab)],[(.ret,qS [Xaa 4] []),(.exit 0,qS [sP 1 RI,zaa 2,sP 20 RI,Uaa 21,Uaa 22,Xaa 23] [(6,Uab)])]⟩]⟩
def iA:Ctr:=⟨81,28,[.agg Uab,shU RI],[],[⟨uac,[.one],[]⟩],ap3 io⟩
theorem mC:Lk 2 iA:=ls mK (aC iu aN)
def jD:Int×Int×LDLn×Unit->Option ((Int×Int×LDLn×Unit)⊕(Int×Int×Bool×LDLn×Unit)):=λ(v0,v1,v2,_)=>
bif(decide (v1<v0))then((eu v1).bind λx0=>
(cL v2 x0).bind λx1=>
(cL v2 x0).bind λx2=>
let x3:=(List.modify v2 x0 λe=>((-1),e.2));
let x4:=w64 (v1+1);
some (.inl (v0,x4,x3,())))else
some (.inr (v0,v1,false,v2,()))
def ij:Option (LDLn×Unit):=
bif(s6 4 4 3)then let x0:LDLn:=(List.replicate 4 (0,(false,[])));
let x1:=cc x0.length;
(c8 jD NN (x1,0,x0,())).bind λ(x2,x3,x4,x5,_)=>
some (x5,())else none
def mJ:X.Cfg:=⟨E0,[],[(3,Bv)],[(lx 4 0 [Zaa 1 5,Uaa 5,Uaa 6] [(5,uL [Al])] 7)]⟩
def iz:Ctr:=⟨82,29,[],[],[⟨uL [Al],[.one],[]⟩],λh=>ij⟩
theorem mB:Lk 1 iz:=ls mJ aN
def jB:LI×Int×Int×LDCe×Unit->Option ((LI×Int×Int×LDCe×Unit)⊕(LI×Int×Int×Bool×LDCe×Unit)):=λ(v0,v1,v2,v3,_)=>
bif(decide (v2<v1))then((eu v2).bind λx0=>
(cL v0 x0).bind λx1=>
let x2:LDCe:=[(0,x1)];
bif(ck 4 v3.length x2.length)then let x3:LDCe:=(List.append v3 x2);
let x4:=w64 (v2+1);
some (.inl (v0,v1,x4,x3,()))else none)else
some (.inr (v0,v1,v2,false,v3,()))
def ii(a0:List (Int)):Option (LDCe×Unit):=
let x0:=cc a0.length;
(c8 jB NN (a0,x0,0,[],())).bind λ(x1,x2,x3,x4,x5,_)=>
some (x5,())
def mH:X.Cfg:=⟨E0,[],[],[(lx 4 0 [Zaa 3 9,sP 6 RW,Uaa 7,Uaa 8] [(9,uL [(uaa KCe)])] 9)]⟩
def iy:Ctr:=⟨83,30,uL [RW],[],[⟨uL [(uaa KCe)],[.one],[]⟩],ap1 ii⟩
theorem mA:Lk 1 iy:=ls mH aN
def kO:T0B->Option (T0B⊕((Int×Unit×Unit×Unit)⊕(LLI×Int×Int×Bool×T0r))):=λ(v0,v1,v2,v3,v4,v5,v6,v7,v8,v9,v10,v11,_)=>
bif(decide (v2<v1))then((match((eu v2).bind λx0=>
(cL v0 x0).bind λx1=>
let x2:=cc x1.length;
(eu v2).bind λx3=>
(cL v4 x3).bind λx4=>
bif(decide (x2>x4))then(some (.inl (1,(),(),())))else
(eu v2).bind λx5=>
(cL v6 x5).bind λx6=>
(eu x6).bind λx7=>
bif(oM x7 v10.length v10.length)then(ii x1).bind λ(x8,_)=>
bif(oM x7 (Nat.add x7 (Nat.min x8.length (Nat.sub v10.length x7))) v10.length)then bif(Nat.blt 0 (Nat.min x8.length (Nat.sub v10.length x7)))then(let x9:LDCe:=(qa v10 x7 (Nat.min x8.length (Nat.sub v10.length x7)) x8);
let ac:=(cc (Nat.min x8.length (Nat.sub v10.length x7)));
some (.inr (v0,v1,v2,v3,v4,v5,v6,v7,v8,v9,x9,v11,())))else
let x9:=(cc (Nat.min x8.length (Nat.sub v10.length x7)));
some (.inr (v0,v1,v2,v3,v4,v5,v6,v7,v8,v9,v10,v11,()))else none else none:Option ((Int×Unit×Unit×Unit)⊕T0B))with
|none=>none
|some (.inl (x0,x1,x2,_))=>
some (.inr (.inl (x0,x1,x2,())))
|some (.inr (x0,x1,x2,x3,x4,x5,x6,x7,x8,x9,ac,ae,_))=>
let af:=w64 (x2+1);
some (.inl (x0,x1,af,x3,x4,x5,x6,x7,x8,x9,ac,ae,()))))else
some (.inr (.inr (v0,v1,v2,false,v3,v4,v5,v6,v7,v8,v9,v10,v11,())))
def iW(a0:LDIn)(a1:List (Int))(a2:List LI)(a3:List (Int))(a4:Int):Option (LDCe×LDLn×Int×Unit):=
(io a3 a4 a1).bind λ(x0,_)=>
bif(!x0)then(some ([],[],1,()))else
let x1:=cc a2.length;
let x2:=cc a1.length;
bif(x1 != x2)then(some ([],[],1,()))else
bif(s6 512 512 2)then let x3:LDCe:=(List.replicate 512 (0,0));
(ij).bind λ(x4,_)=>
let x5:=cc a2.length;
(match c8 kO NN (a2,x5,0,a0,a1,a2,a3,a4,(),(),x3,x4,())with
|none=>none
|some (.inl (x6,x7,x8,_))=>
some ([],[],x6,())
|some (.inr (x6,x7,x8,x9,ac,ae,af,ah,ai,aj,ak,am,an,_))=>
some (am,an,0,()))else none
def oa:X.Cfg:=⟨E0,[iA,iz,iy],[],[⟨10,0,qE,[(.ret,qS [zaa 4,Uaa 5] [(10,Xac)]),(.normal,qS [zaa 2,zaa 3,zaa 4,zaa 6,sP 28 (yaa RW),Uaa 29,Uaa 30] [(6,yab),(8,Uab),(10,Xac),(14,zad)])]⟩,⟨7,1,qS [zaa 2,zaa 3,zaa 4,zaa 6,sP 28 (yaa RW),Uaa 29,Uaa 30] [(6,yab),(8,Uab),(10,Xac),(14,zad)],[(.ret,qS [zaa 4,Uaa 5] [(10,Xac)]),(.exit 0,qS [zaa 2,zaa 3,zaa 4,zaa 6,sP 28 (yaa RW),Uaa 29,Uaa 30,Xaa 31] [(6,yab),(8,Uab),(10,Xac),(14,zad)])]⟩]⟩
def jt:Ctr:=⟨47,31,[.agg yab,.agg Uab],[],[⟨uL [(uaa KCe),Al,I64],[.agg 2,.one],[]⟩],ap5 iW⟩
theorem nX:Lk 3 jt:=ls oa (aC mC (aC mB (aC mA aN)))
def fe(a0:List (Int)):Option (LI×Unit):=
bif(ck 8 0 a0.length)then let x0:List (Int):=(List.append [] a0);
some (x0,())else none
def jl:X.Cfg:=⟨E0,[],[],[]⟩
def fw:Ctr:=⟨84,32,uL [RI],[],[⟨Zab,[.one],[]⟩],ap1 fe⟩
theorem jf:Lk 1 fw:=ls jl aN
def iX(a0:List (Int))(a1:Int):Option (T02):=
(fe a0).bind λ(x0,_)=>
some (x0,a1,())
def oc:X.Cfg:=⟨E0,[fw],[],[]⟩
def ju:Ctr:=⟨48,33,[.agg Uab],[],[⟨uL [(uaa I64),CW],[.agg 2],[]⟩],ap2 iX⟩
theorem nY:Lk 2 ju:=ls oc (aC jf aN)
def is:Option (Int×LDCe×Int×T0d):=
bif(s6 8 8 2)then let x0:LDCe:=(List.replicate 8 (0,0));
some (0,x0,0,0,(-1),(-1),0,0,())else none
def mN:X.Cfg:=⟨E0,[],[],[]⟩
def iD:Ctr:=⟨49,34,[],[],[⟨uL [I64,(uaa KCe),I64,I64,I64,I64,I64,CW],[.agg 8],[]⟩],λh=>is⟩
theorem mF:Lk 1 iD:=ls mN aN
def iV:T0y->Option (T0y⊕(Int×Bool×T0w)):=λ(v0,v1,v2,v3,v4,v5,v6,v7,v8,v9,v10,_)=>
bif(decide (v0<4))then((is).bind λ(x0,x1,x2,x3,x4,x5,x6,x7,_)=>
let x8:LDTh:=[(x0,(x1,(x2,(x3,(x4,(x5,(x6,x7)))))))];
bif(ck 80 v10.length x8.length)then let x9:LDTh:=(List.append v10 x8);
let ac:=w64 (v0+1);
some (.inl (ac,v1,v2,v3,v4,v5,v6,v7,v8,v9,x9,()))else none)else
some (.inr (v0,false,v1,v2,v3,v4,v5,v6,v7,v8,v9,v10,()))
def gw(a0:LDIn)(a1:List (Int))(a2:List LI)(a3:List (Int))(a4:Int):Option (LI×Int×LDCe×LDLn×LDTh×Int×Unit):=
(eN a0 a1 a2).bind λ(x0,_)=>
bif(x0 != 0)then(some ([],0,[],[],[],x0,()))else
(iW a0 a1 a2 a3 a4).bind λ(x1,x2,x3,_)=>
bif(x3 != 0)then(some ([],0,[],[],[],x3,()))else
(iX a3 a4).bind λ(x4,x5,_)=>
(c8 iV NN (0,(),0,(),(),(),x4,x5,x1,x2,[],())).bind λ(x6,x7,x8,x9,ac,ae,af,ah,ai,aj,ak,am,_)=>
(cL am 0).bind λan=>
(cL am 0).bind λap=>
let aq:=List.modify am 0 λe=>(1,e.2);
some (ah,ai,aj,ak,aq,0,())
def lV:X.Cfg:=⟨E0,[eY,jt,ju,iD],[(35,Bm),(36,Bm)],[(lx 12 0 [zaa 4,zaa 9,Uaa 30] [(10,uL [N1,CW,N1,N1,N1]),(20,uL [RI,CW,Bu,Bt,Bs])] 31)]⟩
def gO:Ctr:=⟨17,35,[.agg yab,.agg Uab],[],[⟨uL [RI,CW,Bu,Bt,Bs,I64],[.agg 5,.one],[]⟩],ap5 gw⟩
theorem lP:Lk 6 gO:=ls lV (aC gH (aC nX (aC nY (aC mF aN))))
def fY:Option (Bool×Unit):=
let x0:LDIn:=[(0,(0,(0,(0,0))))];
(gn x0 [1] [[]]).bind λ(x1,x2,_)=>
(gw x0 [1] [[]] [3] 0).bind λ(x3,x4,x5,x6,x7,x8,_)=>
bif(x2==0)then(bif(x8==0)then(let x9:ByteArray:=(tH x1);
bif(A7 x9 (bytes [1,1,0,1,0,0,0,0,0,0]))then(let ac:Int:=(cc x7.length);
bif(ac==4)then((cL x7 0).bind λae=>
(cL x7 0).bind λaf=>
bif(af.1==1)then((cL x7 1).bind λah=>
(cL x7 1).bind λai=>
some ((ai.1==0),()))else
some (false,()))else
some (false,()))else
some (false,()))else
some (false,()))else
some (false,())
def od:X.Cfg:=⟨E0,[gq,gO],[(9,(uaa CW))],[]⟩
def jv:Ctr:=⟨10,36,[],[],[⟨uac,[.one],[]⟩],λh=>fY⟩
theorem nZ:Lk 7 jv:=ls od (aC kT (aC lP aN))
def cg:T0x->Option (T0x⊕((Bool×Unit)⊕T0A)):=λ(v0,v1,v2,v3,v4,v5,v6,v7,v8,v9,v10,_)=>
bif(decide (v6<v5))then((match((eu v6).bind λx0=>
(cL v10 x0).bind λx1=>
(cL v10 x0).bind λx2=>
let x3:=cc v0.length;
bif(decide (x2<x3))then((eu x2).bind λx4=>
(cL v0 x4).bind λx5=>
bif(!x5)then(some (.inl (false,())))else
some (.inr (v0,v1,v2,v3,v4,v5,v6,false,v7,v8,v9,v10,())))else
some (.inr (v0,v1,v2,v3,v4,v5,v6,false,v7,v8,v9,v10,())):Option ((Bool×Unit)⊕T0A))with
|none=>none
|some (.inl (x0,_))=>
some (.inr (.inl (x0,())))
|some (.inr (x0,x1,x2,x3,x4,x5,x6,x7,x8))=>
let af:=w64 (x6+1);
some (.inl (x0,x1,x2,x3,x4,x5,af,x8))))else
some (.inr (.inr (v0,v1,v2,v3,v4,v5,v6,false,v7,v8,v9,v10,())))
def cf:T0m->Option (T0m⊕((Bool×Unit)⊕((List (Bool))×(List (Bool))×(List (Bool))×T0f))):=λ(v0,v1,v2,v3,v4,v5,v6,v7,_)=>
bif(decide (v4<v3))then((eu v4).bind λx0=>
(cL v2 x0).bind λx1=>
(eu v4).bind λx2=>
(cL v1 x2).bind λx3=>
bif(!(x1==x3))then(some (.inr (.inl (false,()))))else
bif(!x1)then(let x4:Int:=(w64 (v4+1));
some (.inl (v0,v1,v2,v3,x4,v5,v6,v7,())))else
(eu v4).bind λx4=>
(cL v5 x4).bind λx5=>
(dF x5.1 x5.2.1 x5.2.2.1 x5.2.2.2.1 x5.2.2.2.2 v4).bind λ(x6,_)=>
let x7:=cc x6.length;
(match c8 cg NN (v0,v1,v2,v3,v4,x7,0,v5,v6,v7,x6,())with
|none=>none
|some (.inl (x8,_))=>
some (.inr (.inl (x8,())))
|some (.inr (x8,x9,ac,ae,af,ah,ai,aj,ak,am,an,ap,_))=>
let aq:=w64 (af+1);
some (.inl (x8,x9,ac,ae,aq,ak,am,an,()))))else
some (.inr (.inr (v0,v1,v2,v3,v4,false,v5,v6,v7,())))
def cS(a0:List (Int)):Option (Bool×Unit):=
(d7 a0 0).bind λ(x0,x1,x2,_)=>
(cE x0 x1 x2).bind λ(x5,_)=>
let x6:=cc x5.length;
let x7:=cc x0.length;
bif(x6 != x7)then(some (false,()))else
(cL x5 0).bind λx8=>
bif(!x8)then(some (false,()))else
(df x0 x1 x2).bind λ(x9,_)=>
let ac:=cc x5.length;
(match c8 cf NN (x5,x9,x5,ac,0,x0,x1,x2,())with
|none=>none
|some (.inl (ae,_))=>
some (ae,())
|some (.inr (ae,_))=>
(fY).bind λ(aq,_)=>
some (aq,()))
def gr:X.Cfg:=⟨E0,[iE,gP,js,gM,jv],[],[⟨23,0,qE,[(.ret,qS [Xaa 2] []),(.normal,qS [zaa 3,sP 4 (yaa .bool),sP 5 (yaa .bool),sP 29 (yaa .bool),Uaa 30,Uaa 31,Zaa 50 103,Uaa 51,Uaa 52,Xaa 66] [(8,yab),(103,Zab)])]⟩,⟨20,1,qS [zaa 3,sP 4 (yaa .bool),sP 5 (yaa .bool),sP 29 (yaa .bool),Uaa 30,Uaa 31,Zaa 50 103,Uaa 51,Uaa 52] [(8,yab),(103,Zab)],[(.ret,qS [Xaa 2] []),(.exit 2,qS [zaa 3,sP 4 (yaa .bool),sP 5 (yaa .bool),sP 29 (yaa .bool),Uaa 30,Uaa 31,Zaa 50 103,Uaa 51,Uaa 52,Xaa 53] [(8,yab),(103,Zab)])]⟩,⟨9,2,qS [zaa 3,sP 4 (yaa .bool),sP 5 (yaa .bool),sP 29 (yaa .bool),Uaa 30,Uaa 31] [(8,yab)],[(.ret,qS [Xaa 2] []),(.exit 0,qS [zaa 3,sP 4 (yaa .bool),sP 5 (yaa .bool),sP 29 (yaa .bool),Uaa 30,Uaa 31,Xaa 32] [(8,yab)])]⟩]⟩
def dU:Ctr:=⟨7,37,uL [RI],[],[⟨uac,[.one],[]⟩],ap1 cS⟩
theorem k_law08_ProgramReaches:Lk 8 dU:=ls gr (aC mG (aC lQ (aC nW (aC lO (aC nZ aN)))))
end
end Go.Proofs.Ytgphpfjngblbiaa
namespace Go.Proofs.Ytgphpfjngblbiaa
set_option maxRecDepth 100000
noncomputable section
end
end Go.Proofs.Ytgphpfjngblbiaa
namespace Go.Proofs.Ytgphpfjngblbiaa
open Go.RowKit
theorem Be:(Try.prog.funcs.all λfn=>!(fn.name=="runtime.NumGoroutine"))=true:=by kernel_rfl
theorem sZ:fC Try.prog 11:=by
 obtain⟨fn,hf,hb⟩:∃fn,Try.prog.funcs[11]?=some fn/\fn.body.isSome=true:=by
  have hs:(match Try.prog.funcs[11]? with|some fn=>fn.body.isSome|none=>false)=true:=by kernel_rfl
  cases h:Try.prog.funcs[11]? with
  |none=>rw[h]at hs;cases hs
  |some fn=>rw[h]at hs;exact⟨fn,rfl,hs⟩
 obtain⟨c,hc⟩:=Option.isSome_iff_exists.1 hb;refine jo hf ?_ hc;obtain⟨hlt,he⟩:=Array.getElem?_eq_some_iff.1 hf;have:=Array.all_eq_true.1 Be 11 hlt;rw[he]at this;simpa using this
def Ad(x:Value)(w:World)(e:Ending)(w':World):Prop:=e=.returned (.pointer (some ⟨w.heap.size,0,none⟩))/\w'=w.alloc (.cells #[x,.int .i64 0] 88)
theorem zC(x:Value)(hx:x.oneCell'=true)(w:World):
 Calls Try.prog 11 #[x] w (Ad x w):=by
 cases x
 all_goals first
  |(go_enter Try.func11,Try.ntmps11
    go_wp2
    go_ret
    exact⟨rfl,rfl⟩)
  |simp[Value.oneCell']at hx
theorem e0_ok:wo Try.prog E0:=by
 intro f n tm h;simp only[E0]at h;split at h
 ·rename_i e;subst e
  injection h with h
  injection h with h1 h2
  subst h1 h2;refine⟨sZ,λx hx=>?_,88,λl2 w hl ZG=>?_⟩
  ·simp only[List.mem_cons,List.not_mem_nil,or_false]at hx;rcases hx with hx|hx
   ·injection hx
   ·injection hx with hx;rw[hx];rfl
  ·match l2,hl with
   | [x],_=>exact zC x (ZG x (by simp[bxV])) w
 ·simp at h
def Ok{α:Type}(o:Option α)(Q:α->Prop):Prop:=∃a,o=some a/\Q a
section
variable {α β:Type}
theorem Ok.ret{a:α}{Q:α->Prop}(h:Q a):Ok (some a) Q:=⟨a,rfl,h⟩
theorem Ok.bind{o:Option α}{f:α->Option β}{P:α->Prop}{Q:β->Prop}(h:Ok o P)(h2:∀a,P a->Ok (f a) Q):Ok (o.bind f) Q:=by
 obtain⟨a,rfl,h1⟩:=h
 simp_all
theorem Ok.mono{o:Option α}{P Q:α->Prop}(h:Ok o P)(h2:∀a,P a->Q a):Ok o Q:=by
 have ⟨a,e,h1⟩:=h;exact⟨a,e,h2 a h1⟩
theorem Ok.cond{c:Bool}{a b:Option α}{Q:α->Prop}(h1:c=true->Ok a Q)(h2:c=false->Ok b Q):Ok (bif c then a else b) Q:=by
 grind
class BP (b:Bool) (P N:outParam Prop):Prop where
 t:b=true->P
 f:b=false->N
instance BE {p:Prop}{i:Decidable p}:BP (@decide p i) p (¬p):=⟨of_decide_eq_true,of_decide_eq_false⟩
instance BK {α:Type}[BEq α][LawfulBEq α]{a b:α}:BP (a==b) (a=b) (¬a=b):=⟨eq_of_beq,λh=>beq_eq_false_iff_ne.1 h⟩
theorem de{c:Bool}{P N:Prop}[h:BP c P N]{a b:Option α}{Q:α->Prop}(h1:P->Ok a Q)(h2:N->Ok b Q):Ok (bif c then a else b) Q:=by
 cases hc:c with
 |true=>exact h1 (h.t hc)
 |false=>exact h2 (h.f hc)
theorem Ok.get{l:List α}{i:Nat}{f:α->Option β}{Q:β->Prop}(h:i<l.length)(h2:∀a,l[i]?=some a->Ok (f a) Q):Ok ((cL l i).bind f) Q:=by
 have e:cL l i=some l[i]:=oGE h
 simp_all
theorem Ok.nat{x:Int}{f:Nat->Option β}{Q:β->Prop}(h:0<=x)(h2:∀n:Nat,x=n->Ok (f n) Q):Ok ((eu x).bind f) Q:=by
 obtain⟨n,rfl⟩:∃n:Nat,x=n:=⟨x.toNat,by omega⟩;exact h2 n rfl
theorem Ok.val{v:α}{f:α->Option β}{Q:β->Prop}(h:∀x,x=v->Ok (f x) Q):Ok (f v) Q:=h v rfl
theorem dc{c:Bool}{a b:Option α}{Q:α->Prop}(hc:c=true)(h1:Ok a Q):Ok (bif c then a else b) Q:=by simp_all
theorem sm{S T:Type}{f:S->Option (S⊕T)}(P:S->Prop)(R:T->Prop)(m:S->Nat){n:Nat}{s:S}(hs:P s)(hm:m s<n)
 (h:∀s,P s->Ok (f s) λr=>match r with|.inl s'=>P s'/\m s'<m s|.inr t=>R t):Ok (c8 f n s) R:=by
 induction n generalizing s with
 |zero=>omega
 |succ n ih=>
  have ⟨r,e,hr⟩:=h s hs
  cases r with
  |inl s'=>
   have ⟨t,e2,hq⟩:=ih hr.1 (by omega);exact⟨t,by simp[c8,e];exact e2,hq⟩
  |inr t=>exact⟨t,by simp[c8,e],hr⟩
theorem Ok.loop{S T:Type}{f:S->Option (S⊕T)}{g:T->Option β}{Q:β->Prop}(P:S->Prop)(R:T->Prop)(m:S->Nat){n:Nat}{s:S}(hs:P s)(hm:m s<n)
 (h:∀s,P s->Ok (f s) λr=>match r with|.inl s'=>P s'/\m s'<m s|.inr t=>R t)(hg:∀t,R t->Ok (g t) Q):Ok ((c8 f n s).bind g) Q:=(sm P R m hs hm h).bind hg
end
theorem cK{x:Int}(h1:-9223372036854775808<=x)(h2:x<=9223372036854775807):w64 x=x:=wrap_i64 h1 h2
theorem nU(n:Nat):eu (n:Int)=some n:=rfl
theorem ct(n:Nat):cc n=(n:Int):=rfl
theorem lK{α:Type}{l:List α}{i:Nat}{a:α}(h:l[i]?=some a):a∈l:=List.mem_of_getElem? h
def W16(x:Int):Prop:=0<=x/\x<=65535
theorem cY{x:Int}(h0:0<=x)(h1:x<=65535):wk .u16 x=x:=by
 unfold wk;rw[wv];omega
theorem cX{x:Int}(h0:-9223372036854775808<=x)(h1:x<=9223372036854775807):wk .i64 x=x:=cK h0 h1
theorem fA{b n m:Nat}(h:b<=1000/\n+m<=1000000):ck b n m=true:=by
 have:=Nat.mul_le_mul h.2 h.1;simp[ck];omega
structure DOk (l:List Int)(k:Int):Prop where
 num:∀x∈l,AZ x
 len:l.length<=maxLen
 lo:0<=k
 hi:k<=l.length
theorem DOk.start{l:List Int}(h:∀x∈l,AZ x)(hl:l.length<=maxLen):DOk l 0:=⟨h,hl,by omega,by omega⟩
theorem AA{a b:Int}(ha:AZ a)(hb:0<b)(ZY:b<=9223372036854775807):∃v,fX a b=some (v,())/\0<=v/\v<b:=by
 have hne:(b != 0)=true:=by simp;omega
 have hm:=Int.tmod_lt_of_pos a hb
 have hm2:-b<Int.tmod a b:=by
  have:=Int.tmod_lt_of_pos (-a) hb;rw[Int.neg_tmod]at this;omega
 unfold fX;simp[hne];by_cases h:Int.tmod a b<0
 ·refine⟨Int.tmod a b+b,?_,by omega,by omega⟩;simp[h,decide_true];rw[cK (by omega) (by omega)]
 ·refine⟨Int.tmod a b,?_,by omega,hm⟩;simp[h,decide_false,oCF]
section
variable {β:Type} {l:List Int} {k n:Int} {Q:β->Prop}
theorem cV{f:Int×List Int×Int×Unit->Option β}(h:DOk l k)(hn:0<n)(Qp:n<=9223372036854775807)(K:∀v k',0<=v->v<n->DOk l k'->Ok (f (v,l,k',())) Q):Ok ((bG n l k).bind f) Q:=by
 have hl:=h.len;have TS:=h.lo
 have X6:maxLen<=9223372036854775807:=by decide
 by_cases hk:k>=(l.length:Int)
 ·have e:bG n l k=some (0,l,k,()):=by unfold bG;simp[ct,hk]
  simp_all
 ·obtain⟨j,rfl⟩:∃j:Nat,k=j:=⟨k.toNat,by omega⟩
  have hj:j<l.length:=by omega
  obtain⟨v,hv,h0,h1⟩:=AA (h.num _ (List.getElem_mem hj)) hn Qp
  have e:bG n l j=some (v,l,(j:Int)+1,()):=by
   unfold bG;delta cc
   try dsimp only
   rw[cK (x:=(j:Int)+1) (by omega) (by omega),cK (x:=(j:Int)+1-1) (by omega) (by omega)];rw[show(j:Int)+1-1=j by omega,nU];simp[hk,decide_false,oCF,oBS,cL,oGE hj,nG,hv]
  rw[e];exact K v _ h0 h1 ⟨h.num,hl,by omega,by omega⟩
theorem tS{f:Int×List Int×Int×Unit->Option β}(h:DOk l k)(K:∀v k',0<=v->v<=65535->DOk l k'->Ok (f (v,l,k',())) Q):Ok ((dx l k).bind f) Q:=by
 have hw:Ok (dx l k) λr=>∃v k',r=(v,l,k',())/\0<=v/\v<=65535/\DOk l k':=by
  unfold dx
  (with_reducible refine cV (by assumption) (by omega) (by omega) (λv k a b d=>?_);try dsimp only)
  refine Ok.bind (P:=λr=>∃b,r=(v,b,l,k,())) ?_ ?_
  ·repeat ((with_reducible refine de (λhc=>?_) λhc=>?_);· exact Ok.ret ⟨_,rfl⟩)
   exact Ok.ret ⟨_,rfl⟩
  ·rintro _ ⟨b,rfl⟩;refine Ok.cond (λ_=>?_) λ_=>?_
   ·(with_reducible refine cV (by assumption) (by omega) (by omega) (λv k a b d=>?_);try dsimp only)
    (simp (disch:=omega) only [cK,cY,cX,ct])
    exact Ok.ret ⟨_,_,rfl,by omega,by omega,by assumption⟩
   ·(with_reducible refine de (λhc=>?_) λhc=>?_)
    ·(with_reducible refine cV (by assumption) (by omega) (by omega) (λv k a b d=>?_);try dsimp only)
     (simp (disch:=omega) only [cK,cY,cX,ct])
     exact Ok.ret ⟨_,_,rfl,by omega,by omega,by assumption⟩
    ·(with_reducible refine cV (by omega) (by omega) (by omega) (λv k a b d=>?_);try dsimp only)
     (simp (disch:=omega) only [cK,cY,cX,ct])
     exact Ok.ret ⟨_,_,rfl,by omega,by omega,by omega⟩
 refine hw.bind ?_
 simp_all
end
def AT(s:List Int):Prop:=1<=s.length/\s.length<=4/\∀x∈s,1<=x/\x<=32
theorem Bw{P:Int->Prop}{a b c:Int}(ha:P a)(hb:P b)(hc:P c):∀x∈[a,b,c],P x:=by
 simp_all
theorem wC{l:List Int}{k:Int}(h:DOk l k):Ok (fh l k) λr=>∃s k',r=(s,l,k',())/\AT s/\DOk l k':=by
 unfold fh
 (with_reducible refine cV (by assumption) (by omega) (by omega) (λv0 k0 a0 b0 d0=>?_);try dsimp only)
 (simp (disch:=omega) only [cK,cY,cX,ct])
 (with_reducible refine cV (by assumption) (by omega) (by omega) (λv1 k1 a1 b1 d1=>?_);try dsimp only)
 refine Ok.loop (P:=λ((c,l',k',s,_):Int×List Int×Int×List Int×Unit)=>l'=l/\DOk l k'/\0<=c/\c+s.length<=4/\1<=s.length/\∀x∈s,1<=x/\x<=32)
  (R:=λ((_,_,l',k',s,_):Int×Bool×List Int×Int×List Int×Unit)=>l'=l/\DOk l k'/\AT s) (m:=λs=>s.1.toNat) ⟨rfl,d1,a1,by simp;omega,by simp,by simp;omega⟩ (by unfold NN;dsimp only;omega) ?_ ?_
 ·rintro⟨c,l',k3,s,_⟩ ⟨rfl,Xs,WW,W1,Zc,hs⟩;dsimp only at *;unfold gy;dsimp only
  (with_reducible refine de (λhc=>?_) λhc=>?_)
  ·(with_reducible refine cV (by assumption) (by omega) (by omega) (λv2 k2 a2 b2 d2=>?_);try dsimp only)
   (with_reducible refine Ok.nat (by omega) (λj hj=>?_);try dsimp only)
   have ZI:∀x∈[(6:Int),12,32],6<=x/\x<=32:=by simp_all
   refine Ok.get (by simp;omega) λa ha=>?_;refine Ok.get (by simp;omega) λb hb=>?_;have h7:=ZI b (lK hb)
   (with_reducible refine cV (by assumption) (by omega) (by omega) (λv3 k3 a3 b3 d3=>?_);try dsimp only)
   (simp (disch:=omega) only [cK,cY,cX,ct])
   refine dc (fA (by simp;omega)) ?_;refine Ok.ret ⟨⟨rfl,by assumption,by omega,?_,?_,?_⟩,?_⟩
   ·simp;omega
   ·simp
   ·intro x hx;simp at hx;rcases hx with hx|rfl
    ·exact hs x hx
    ·omega
   ·dsimp only;omega
  ·exact Ok.ret ⟨rfl,Xs,Zc,by dsimp only;omega,hs⟩
 ·rintro⟨a,b,l',k3,s,_⟩ ⟨rfl,Xs,hs⟩;exact Ok.ret ⟨_,_,rfl,hs,Xs⟩
def nE(op:Int):Bool:=!(op==18||op==23||op==0||op==24)
def nD(op:Int):Bool:=!(op==18||op==23||op==0||op==24||op==1||op==15||op==19||op==20||op==21||op==22)
def nC(op:Int):Bool:=!(op==18||op==23||op==0||op==24||op==1||op==15||op==19||op==20||op==21||op==22||op==2||op==16||op==17)
def my(op:Int):Bool:=op==1||op==15||op==19||op==20||op==21||op==16||op==17||op==18||op==23
def n6(op:Int):Bool:=op==18||op==19||op==20||op==21
theorem yH{op:Int}(h0:0<=op)(h1:op<=24):ef op=some (nE op,nD op,nC op,my op,()):=by
 obtain⟨n,rfl⟩:∃n:Nat,op=n:=⟨op.toNat,by omega⟩
 have hn:n<25:=by omega
 have ZX:∀n:Fin 25,(ef ((n.val:Nat):Int)).map (λx=>(x.1,x.2.1,x.2.2.1,x.2.2.2.1))=some (nE (n.val:Nat),nD (n.val:Nat),nC (n.val:Nat),my (n.val:Nat)):=by decide
 have:=ZX ⟨n,hn⟩
 cases h:ef (n:Int)with
 |none=>simp_all
 |some x=>
  obtain⟨a,b,c,d,_⟩:=x
  simp_all
theorem vp(op:Int):ej op=some (n6 op,()):=by
 unfold ej n6
 grind
structure c9 (n m:Int)(i:DIn):Prop where
 op:0<=i.1/\i.1<=24
 a:0<=i.2.1/\i.2.1<8/\(nE i.1=false->i.2.1=0)
 b:0<=i.2.2.1/\i.2.2.1<8/\(nD i.1=false->i.2.2.1=0)
 c:0<=i.2.2.2.1/\i.2.2.2.1<8/\(nC i.1=false->i.2.2.2.1=0)
 imm:0<=i.2.2.2.2/\i.2.2.2.2<=65535/\(my i.1=false->i.2.2.2.2=0)
 lea:i.1=15->i.2.2.2.2<n
 sys:i.1=23->i.2.2.2.2<=15
 jmp:n6 i.1=true->i.2.2.2.2<m
theorem ins_mk{n m o a b c i:Int}(ho:0<=o/\o<=24)(ha:0<=a/\a<8)(hb:0<=b/\b<8)(hc:0<=c/\c<8)(hi:0<=i/\i<=65535)(hA:nE o=true\/a=0)(hB:nD o=true\/b=0)(hC:nC o=true\/c=0)(hI:my o=true\/i=0)
 (hl:o=15->i<n)(hs:o=23->i<=15)(hj:n6 o=true->i<m):c9 n m (o,a,b,c,i):=
 ⟨ho,⟨ha.1,ha.2,λh=>hA.elim (λh'=>by simp_all) id⟩,⟨hb.1,hb.2,λh=>hB.elim (λh'=>by simp_all) id⟩,
  ⟨hc.1,hc.2,λh=>hC.elim (λh'=>by simp_all) id⟩,⟨hi.1,hi.2,λh=>hI.elim (λh'=>by simp_all) id⟩,hl,hs,hj⟩
theorem pb{n m r v:Int}(h:0<=r/\r<8)(hv:0<=v/\v<=65535):c9 n m (1,r,0,0,v):=ins_mk (by decide) h (by decide) (by decide) hv (.inl (by decide)) (.inr rfl) (.inr rfl) (.inl (by decide)) (by omega) (by omega) (λh=>absurd h (by decide))
theorem qp{n m r v:Int}(h:0<=r/\r<8)(hv:0<=v/\v<8):c9 n m (2,r,v,0,0):=ins_mk (by decide) h hv (by decide) (by decide) (.inl (by decide)) (.inl (by decide)) (.inr rfl) (.inr rfl) (by omega) (by omega) (λh=>absurd h (by decide))
theorem ly{n m v:Int}(hv:0<=v/\v<=15):c9 n m (23,0,0,0,v):=ins_mk (by decide) (by decide) (by decide) (by decide) (by omega) (.inr rfl) (.inr rfl) (.inr rfl) (.inl (by decide)) (by omega) (by omega) (λh=>absurd h (by decide))
theorem qr{n m r v:Int}(h:0<=r/\r<8)(hv:0<=v/\v<n)(hn:n<=4):c9 n m (15,r,0,0,v):=ins_mk (by decide) h (by decide) (by decide) (by omega) (.inl (by decide)) (.inr rfl) (.inr rfl) (.inl (by decide)) (by omega) (by omega) (λh=>absurd h (by decide))
theorem tW{n m o a b v:Int}(ho:o=16\/o=17)(h:0<=a/\a<8)(hb:0<=b/\b<8)(hv:0<=v/\v<=65535):c9 n m (o,a,b,0,v):=by
 rcases ho with rfl|rfl
 all_goals exact ins_mk (by decide) h hb (by decide) hv (.inl (by decide)) (.inl (by decide)) (.inr rfl) (.inl (by decide)) (by omega) (by omega) (λh=>absurd h (by decide))
theorem qm{n m o a b c:Int}(ho:3<=o/\o<=14)(h:0<=a/\a<8)(hb:0<=b/\b<8)(hc:0<=c/\c<8):c9 n m (o,a,b,c,0):=
 ins_mk (by omega) h hb hc (by decide) (.inl (by unfold nE;simp;omega)) (.inl (by unfold nD;simp;omega)) (.inl (by unfold nC;simp;omega)) (.inr rfl) (by omega) (by omega) (λh=>by unfold n6 at h;simp at h;omega)
theorem zI{n m v:Int}(hv:0<=v/\v<=65535)(hm:v<m):c9 n m (18,0,0,0,v):=ins_mk (by decide) (by decide) (by decide) (by decide) hv (.inr rfl) (.inr rfl) (.inr rfl) (.inl (by decide)) (by omega) (by omega) (λ_=>hm)
theorem zq{n m:Int}:c9 n m (24,0,0,0,0):=ins_mk (by decide) (by decide) (by decide) (by decide) (by decide) (.inr rfl) (.inr rfl) (.inr rfl) (.inr rfl) (by omega) (by omega) (λh=>absurd h (by decide))
theorem c9.mono{n m m':Int}{i:DIn}(h:c9 n m i)(hm:m<=m'):c9 n m' i:=⟨h.op,h.a,h.b,h.c,h.imm,h.lea,h.sys,λhj=>by have:=h.jmp hj;omega⟩
theorem qz{n m a v:Int}(h:0<=a/\a<8)(hv:0<=v/\v<=65535)(hm:v<m):c9 n m (20,a,0,0,v):=ins_mk (by decide) h (by decide) (by decide) hv (.inl (by decide)) (.inr rfl) (.inr rfl) (.inl (by decide)) (by omega) (by omega) (λ_=>hm)
theorem xC{n Yg k:Int}{l:List Int}(h:DOk l k)(hn:1<=n/\n<=4)(hm:1<=Yg/\Yg<=100):Ok (fi n Yg l k) λr=>∃o a b c i k',r=(o,a,b,c,i,l,k',())/\c9 n Yg (o,a,b,c,i)/\DOk l k':=by
 unfold fi
 (with_reducible refine cV (by assumption) (by omega) (by omega) (λv0 k0 a0 b0 d0=>?_);try dsimp only)
 rw[yH (by omega) (by omega)];simp only[oBS];refine Ok.bind (P:=λr=>∃x k',r=(n,Yg,l,k',0,0,0,0,0,v0,x,0,0,0,nE v0,nD v0,nC v0,my v0,())/\0<=x/\x<8/\(nE v0=false->x=0)/\DOk l k') ?_ ?_
 ·refine Ok.cond (λhc=>?_) λhc=>Ok.ret ⟨_,_,rfl,by omega,by omega,λ_=>rfl,d0⟩
  (with_reducible refine cV (by assumption) (by omega) (by omega) (λv1 k1 a1 b1 d1=>?_);try dsimp only)
  exact Ok.ret ⟨_,_,rfl,a1,b1,(λhh=>by rw[hc]at hh;cases hh),d1⟩
 rintro _ ⟨xa,k1,rfl,PV,V1,WT,d1⟩;dsimp only;refine Ok.bind (P:=λr=>∃x k',r=(n,Yg,l,k',0,0,0,0,0,v0,xa,x,0,0,nE v0,nD v0,nC v0,my v0,())/\0<=x/\x<8/\(nD v0=false->x=0)/\DOk l k') ?_ ?_
 ·refine Ok.cond (λhc=>?_) λhc=>Ok.ret ⟨_,_,rfl,by omega,by omega,λ_=>rfl,d1⟩
  (with_reducible refine cV (by assumption) (by omega) (by omega) (λv2 k2 a2 b2 d2=>?_);try dsimp only)
  exact Ok.ret ⟨_,_,rfl,a2,b2,(λhh=>by rw[hc]at hh;cases hh),d2⟩
 rintro _ ⟨xb,k2,rfl,Su,ZO,ZY,d2⟩;dsimp only;refine Ok.bind (P:=λr=>∃x k',r=(n,Yg,l,k',0,0,0,0,0,v0,xa,xb,x,0,nE v0,nD v0,nC v0,my v0,())/\0<=x/\x<8/\(nC v0=false->x=0)/\DOk l k') ?_ ?_
 ·refine Ok.cond (λhc=>?_) λhc=>Ok.ret ⟨_,_,rfl,by omega,by omega,λ_=>rfl,d2⟩
  (with_reducible refine cV (by assumption) (by omega) (by omega) (λv3 k3 a3 b3 d3=>?_);try dsimp only)
  exact Ok.ret ⟨_,_,rfl,a3,b3,(λhh=>by rw[hc]at hh;cases hh),d3⟩
 rintro _ ⟨xc,k3,rfl,WW,Zq,Zo,d3⟩;dsimp only;rw[vp];simp only[oBS];refine Ok.bind (P:=λr=>∃x k',r=(l,k',0,0,0,0,0,v0,xa,xb,xc,x,())/\0<=x/\x<=65535/\(my v0=false->x=0)/\(v0=15->x<n)/\(v0=23->x<=15)/\(n6 v0=true->x<Yg)/\DOk l k') ?_ ?_
 ·refine Ok.cond (λhj=>?_) λhj=>?_
  ·(with_reducible refine cV (by assumption) (by omega) (by omega) (λv4 k4 a4 b4 d4=>?_);try dsimp only)
   have hne:v0≠15/\v0≠23:=by constructor<;>(rintro rfl;exact absurd hj (by decide))
   exact Ok.ret ⟨_,_,rfl,a4,by omega,(λhh=>by
    have:my v0=true:=by unfold n6 at hj;unfold my;simp at hj⊢;omega
    rw[this]at hh;cases hh),by omega,by omega,λ_=>b4,d4⟩
  ·(with_reducible refine de (λRt=>?_) λRt=>?_)
   ·subst Rt
    (with_reducible refine cV (by assumption) (by omega) (by omega) (λv4 k4 a4 b4 d4=>?_);try dsimp only)
    exact Ok.ret ⟨_,_,rfl,a4,by omega,λhh=>absurd hh (by decide),by omega,by omega,λhh=>absurd hh (by decide),d4⟩
   ·(with_reducible refine de (λRu=>?_) λRu=>?_)
    ·subst Ru
     (with_reducible refine cV (by assumption) (by omega) (by omega) (λv4 k4 a4 b4 d4=>?_);try dsimp only)
     exact Ok.ret ⟨_,_,rfl,a4,by omega,λhh=>absurd hh (by decide),by omega,by omega,λhh=>absurd hh (by decide),d4⟩
    ·refine Ok.cond (λhu=>?_) λhu=>?_
     ·(with_reducible refine tS (by assumption) (λv4 k4 a4 b4 d4=>?_);try dsimp only)
      (simp (disch:=omega) only [cK,cY,cX,ct])
      exact Ok.ret ⟨_,_,rfl,a4,by omega,(λhh=>by rw[hu]at hh;cases hh),by omega,by omega,(λhh=>by rw[show n6 v0=false from hj]at hh;cases hh),d4⟩
     ·exact Ok.ret ⟨_,_,rfl,by omega,by omega,λ_=>rfl,by omega,by omega,(λhh=>by rw[show n6 v0=false from hj]at hh;cases hh),d3⟩
 rintro _ ⟨xi,k4,rfl,SU,Wu,SV,Qb,Qc,Qd,d4⟩;exact Ok.ret ⟨_,_,_,_,_,_,rfl,⟨⟨a0,by dsimp only;omega⟩,⟨PV,V1,WT⟩,⟨Su,ZO,ZY⟩,⟨WW,Zq,Zo⟩,⟨SU,Wu,SV⟩,Qb,Qc,Qd⟩,d4⟩
theorem eI{α β:Type}{l:List α}{i:Nat}{f:α->Option β}{Q:β->Prop}(P:α->Prop)(h:i<l.length)(hP:∀x∈l,P x)(h2:∀a,P a->Ok (f a) Q):Ok ((cL l i).bind f) Q:=Ok.get h λa ha=>h2 a (hP a (lK ha))
theorem cr{α:Type}{P:α->Prop}:∀x∈([]:List α),P x:=λ_ h=>by cases h
theorem all_cons{α:Type}{P:α->Prop}{a:α}{l:List α}(h:P a)(h2:∀x∈l,P x):∀x∈a::l,P x:=by
 simp_all
theorem AC(a b:Int):cZ a b=some (1,a,0,0,b,()):=rfl
theorem Az(a b:Int):eD a b=some (2,a,b,0,0,()):=rfl
theorem yp(a:Int):cO a=some (23,0,0,0,a,()):=rfl
theorem BB{x:Int}(h:1<=x):1<=mmR false 5 x/\mmR false 5 x<=5:=by
 unfold mmR;simp;omega
def sg(n at_:Int)(l:List Int)(r:List DIn×List Int×Int×Unit):Prop:=∃xs k',r=(xs,l,k',())/\1<=xs.length/\xs.length<=6/\(∀i∈xs,c9 n (at_+xs.length) i)/\DOk l k'
theorem nP{n at_:Int}{l:List Int}{xs:List DIn}{k:Int}(h1:1<=xs.length/\xs.length<=6)(h2:∀i∈xs,c9 n (at_+xs.length) i)(h3:DOk l k):Ok (some (xs,l,k,())) (sg n at_ l):=Ok.ret ⟨xs,k,rfl,h1.1,h1.2,h2,h3⟩
theorem zB{s l:List Int}{at_ k:Int}(h:DOk l k)(hs:AT s)(ha:0<=at_/\at_<=99):Ok (f8 s (at_+1) at_ l k) (sg s.length at_ l):=by
 obtain⟨Zc,QE,hsz⟩:=hs
 have hn:1<=(s.length:Int)/\(s.length:Int)<=4:=by omega
 unfold f8;delta cc;simp only[AC,Az,yp,oBS]
 (with_reducible refine cV (by assumption) (by omega) (by omega) (λvr kr ar br dr=>?_);try dsimp only)
 refine Ok.nat (by omega) λj hj=>?_;refine eI (λa=>1<=a/\a<=32) (by omega) hsz λz hz=>?_
 (simp (disch:=omega) only [cK,cY,cX,ct])
 have h5:=BB (x:=z+1) (by omega);generalize mmR false 5 (z+1)=mm at h5
 (with_reducible refine cV (by assumption) (by omega) (by omega) (λvu ku au bu du=>?_);try dsimp only)
 (with_reducible refine cV (by assumption) (by omega) (by omega) (λvw kw aw bw dw=>?_);try dsimp only)
 iterate 19
  (with_reducible refine de (λhcc=>?_) λhcc=>?_)
  ·repeat (first|(simp (disch:=omega) only [cK,cY,cX,ct])|(with_reducible refine cV (by assumption) (by omega) (by omega) (λv k a b d=>?_);try dsimp only)|(with_reducible refine tS (by assumption) (λv k a b d=>?_);try dsimp only)|(with_reducible refine Ok.nat (by omega) (λj hj=>?_);try dsimp only)|((with_reducible first|refine eI (λa=>1<=a/\a<=32) (by omega) (by assumption) (λe he=>?_)|refine eI (λa=>3<=a/\a<=14) (by simp only[oLC,List.length_nil];omega) (by(first|exact(all_cons (by omega) (all_cons (by omega) cr))|exact(all_cons (by omega) (all_cons (by omega) (all_cons (by omega) cr)))|exact(all_cons (by omega) (all_cons (by omega) (all_cons (by omega) (all_cons (by omega) (all_cons (by omega) (all_cons (by omega) (all_cons (by omega) (all_cons (by omega) cr)))))))))) (λe he=>?_)|refine eI (λa=>0<=a/\a<=15) (by simp only[oLC,List.length_nil];omega) (by(first|exact(all_cons (by omega) (all_cons (by omega) cr))|exact(all_cons (by omega) (all_cons (by omega) (all_cons (by omega) cr)))|exact(all_cons (by omega) (all_cons (by omega) (all_cons (by omega) (all_cons (by omega) (all_cons (by omega) (all_cons (by omega) (all_cons (by omega) (all_cons (by omega) cr)))))))))) (λe he=>?_)|refine eI (λa=>1<=a/\a<=100) (by simp only[oLC,List.length_nil];omega) (by(first|exact(all_cons (by omega) (all_cons (by omega) cr))|exact(all_cons (by omega) (all_cons (by omega) (all_cons (by omega) cr)))|exact(all_cons (by omega) (all_cons (by omega) (all_cons (by omega) (all_cons (by omega) (all_cons (by omega) (all_cons (by omega) (all_cons (by omega) (all_cons (by omega) cr)))))))))) (λe he=>?_));try dsimp only)|(with_reducible refine dc (fA (by first|omega|simp)) ?_;try dsimp only)|(refine eI (λ(a:List DIn)=>(1<=a.length/\a.length<=6)/\∀i∈a,c9 s.length (at_+a.length) i) (by simp only[oLC,List.length_nil];omega) (all_cons ⟨by simp,by((repeat' (first|exact cr|refine all_cons ?_ ?_|exact pb (by omega) (by omega)|exact qp (by omega) (by omega)|exact ly (by omega)|exact qr (by omega) (by omega) (by omega)|exact tW (by omega) (by omega) (by omega) (by omega)|exact qm (by omega) (by omega) (by omega) (by omega)|exact qz (by omega) (by omega) (by simp only[oLC,List.length_nil];omega)));done)⟩ (all_cons ⟨by simp,by((repeat' (first|exact cr|refine all_cons ?_ ?_|exact pb (by omega) (by omega)|exact qp (by omega) (by omega)|exact ly (by omega)|exact qr (by omega) (by omega) (by omega)|exact tW (by omega) (by omega) (by omega) (by omega)|exact qm (by omega) (by omega) (by omega) (by omega)|exact qz (by omega) (by omega) (by simp only[oLC,List.length_nil];omega)));done)⟩ cr)) (λe he=>?_);try dsimp only))
   first
    |exact nP he.1 he.2 (by assumption)
    |(refine nP (by simp) ?_ (by assumption);try simp only[List.append_eq,List.cons_append,List.nil_append]
      ((repeat' (first|exact cr|refine all_cons ?_ ?_|exact pb (by omega) (by omega)|exact qp (by omega) (by omega)|exact ly (by omega)|exact qr (by omega) (by omega) (by omega)|exact tW (by omega) (by omega) (by omega) (by omega)|exact qm (by omega) (by omega) (by omega) (by omega)|exact qz (by omega) (by omega) (by simp only[oLC,List.length_nil];omega)));done))
 refine(xC (by assumption) hn (by omega)).bind ?_;rintro _ ⟨o,a,b,c,i,k',rfl,hi,hd⟩;exact nP (by simp) (all_cons (hi.mono (by simp)) cr) hd
theorem iL{α:Type}{P:α->Prop}{l m:List α}(h:∀x∈l,P x)(h2:∀x∈m,P x):∀x∈List.append l m,P x:=λx hx=>(List.mem_append.1 (show x∈l++m from hx)).elim (h x) (h2 x)
theorem dJ{α:Type}(l m:List α):(List.append l m).length=l.length+m.length:=List.length_append
theorem ww{l:List Int}{k n:Int}(h:DOk l k)(hn:0<=n/\n<=1000):Ok (ff n l k) λr=>∃ws k',r=(ws,l,k',())/\(ws.length:Int)<=n/\(∀w∈ws,W16 w)/\DOk l k':=by
 unfold ff
 (simp (disch:=omega) only [cK,cY,cX,ct])
 (with_reducible refine cV (by assumption) (by omega) (by omega) (λv0 k0 a0 b0 d0=>?_);try dsimp only)
 refine Ok.loop (P:=λ((c,l',k',s,_):Int×List Int×Int×List Int×Unit)=>l'=l/\DOk l k'/\0<=c/\c+s.length<=n/\∀x∈s,W16 x)
  (R:=λ((_,_,l',k',s,_):Int×Bool×List Int×Int×List Int×Unit)=>l'=l/\DOk l k'/\(s.length:Int)<=n/\∀x∈s,W16 x) (m:=λs=>s.1.toNat) ⟨rfl,d0,a0,by simp;omega,cr⟩ (by unfold NN;dsimp only;omega) ?_ ?_
 ·rintro⟨c,l',k3,s,_⟩ ⟨rfl,Xs,WW,W1,hs⟩;unfold gx;dsimp only
  (with_reducible refine de (λhcc=>?_) λhcc=>?_)
  ·(with_reducible refine tS (by assumption) (λv1 k1 a1 b1 d1=>?_);try dsimp only)
   refine dc (fA (by simp;omega)) ?_
   (simp (disch:=omega) only [cK,cY,cX,ct])
   exact Ok.ret ⟨⟨rfl,by omega,by omega,by rw[dJ];simp;omega,iL hs (all_cons ⟨a1,b1⟩ cr)⟩,by omega⟩
  ·exact Ok.ret ⟨rfl,Xs,by dsimp only;omega,hs⟩
 ·rintro⟨a,b,l',k3,s,_⟩ ⟨rfl,Xs,hs,hw⟩;exact Ok.ret ⟨_,_,rfl,hs,hw,Xs⟩
structure sf (code:List DIn)(s:List Int)(d:List (List Int)):Prop where
 sz:AT s
 len:d.length=s.length
 fit:∀(j:Nat) x n,d[j]?=some x->s[j]?=some n->(x.length:Int)<=n
 num:∀x∈d,∀w∈x,W16 w
 clen:1<=code.length/\code.length<=64
 ins:∀i∈code,c9 s.length code.length i
theorem rS{code:List DIn}{s:List Int}{d:List (List Int)}{l:List Int}{k:Int}(hp:sf code s d):
 Ok (c8 cF NN ((code.length:Int),0,l,k,(),(),(),code,s,d,())) λr=>∃a b c,r=(a,b,c,l,k,(),(),(),code,s,d,()):=by
 have:=Ok.loop (f:=cF) (n:=NN) (Q:=λr=>∃a b c,r=(a,b,c,l,k,(),(),(),code,s,d,())) (s:=((code.length:Int),0,l,k,(),(),(),code,s,d,()))
  (P:=λs'=>∃i:Int,s'=((code.length:Int),i,l,k,(),(),(),code,s,d,())/\0<=i/\i<=code.length) (R:=λr=>∃a b c,r=(a,b,c,l,k,(),(),(),code,s,d,())) (m:=λs=>(s.1-s.2.1).toNat) ⟨0,rfl,by omega,by omega⟩ (by unfold NN;dsimp only;have:=hp.clen;omega) ?_ (λt ht=>Ok.ret ht)
 ·simp_all
 ·rintro _ ⟨i,rfl,SU,Wu⟩;unfold cF;dsimp only;have hc:=hp.clen
  (with_reducible refine de (λhcc=>?_) λhcc=>?_)
  ·refine Ok.bind (P:=λr=>r=((code.length:Int),i,l,k,(),(),(),code,s,d,())) ?_ ?_
   ·(with_reducible refine Ok.nat (by omega) (λj hj=>?_);try dsimp only)
    refine Ok.get (by omega) λx hx=>?_;have hin:=hp.ins x (lK hx);rw[vp];refine Ok.cond (λQh=>?_) λ_=>Ok.ret rfl;refine Ok.nat (by omega) λj2 X4=>?_;refine Ok.get (by omega) λy hy=>?_
    have hjj:j2=j:=by omega
    subst hjj;rw[hx]at hy
    injection hy with hy
    subst hy;have:=hin.jmp Qh;refine Ok.cond (λhcc=>?_) (λhcc=>?_)
    ·have h9:(x.2.2.2.2:Int)>=(code.length:Int):=of_decide_eq_true hcc;omega
    ·exact Ok.ret rfl
   ·rintro _ rfl;dsimp only
    (simp (disch:=omega) only [cK,cY,cX,ct])
    exact Ok.ret ⟨⟨i+1,rfl,by omega,by omega⟩,by dsimp only;omega⟩
  ·exact Ok.ret ⟨_,_,_,rfl⟩
theorem sQ{l:List Int}{k:Int}(h:DOk l k):Ok (d7 l k) λr=>∃code s d k',r=(code,s,d,l,k',())/\sf code s d/\DOk l k':=by
 unfold d7;refine(wC h).bind ?_;rintro _ ⟨s,k1,rfl,hs,hd⟩;obtain⟨Zc,QE,hsz⟩:=id hs;dsimp only;delta cc
 try dsimp only
 refine Ok.loop (P:=λs'=>∃k' d,s'=((s.length:Int),(d.length:Int),l,k',(),(),(),(),s,d,())/\DOk l k'/\d.length<=s.length/\(∀(j:Nat) x n,d[j]?=some x->s[j]?=some n->(x.length:Int)<=n)/\∀x∈d,∀w∈x,W16 w)
  (R:=λr=>∃a b c k' d,r=(a,b,c,l,k',(),(),(),(),s,d,())/\DOk l k'/\d.length=s.length/\(∀(j:Nat) x n,d[j]?=some x->s[j]?=some n->(x.length:Int)<=n)/\∀x∈d,∀w∈x,W16 w)
  (m:=λs=>(s.1-s.2.1).toNat) ⟨k1,[],rfl,hd,by simp,by simp,cr⟩ (by unfold NN;dsimp only;omega) ?_ ?_
 ·rintro _ ⟨k',d,rfl,YP,SG,ZP,W9⟩;unfold fI;dsimp only
  (with_reducible refine de (λhcc=>?_) λhcc=>?_)
  ·(with_reducible refine Ok.nat (by omega) (λj hj=>?_);try dsimp only)
   refine Ok.get (by omega) λx hx=>?_;refine Ok.get (by omega) λy hy=>?_
   have Z0:j=d.length:=by omega
   subst Z0;have Xj:=hsz y (lK hy);refine(ww YP ⟨by omega,by omega⟩).bind ?_;rintro _ ⟨ws,k2,rfl,Pp,QO,hd2⟩;dsimp only;refine dc (fA (by simp;omega)) ?_
   (simp (disch:=omega) only [cK,cY,cX,ct])
   refine Ok.ret ⟨⟨k2,List.append d [ws],by rw[dJ];simp,hd2,by rw[dJ];simp;omega,?_,iL W9 (all_cons QO cr)⟩,by dsimp only;omega⟩;intro i x n hx hn;rw[show List.append d [ws]=d++[ws]from rfl,List.getElem?_append]at hx;split at hx
   ·exact ZP i x n hx hn
   ·rename_i WL
    have:i-d.length=0:=by
     rcases Nat.eq_zero_or_pos (i-d.length)with h|h
     ·exact h
     ·rw[oGN (by simp;omega)]at hx;cases hx
    have hi:i=d.length:=by omega
    subst hi;simp at hx;subst hx;rw[hy]at hn
    injection hn with hn
    omega
  ·exact Ok.ret ⟨_,_,_,_,_,rfl,YP,by omega,ZP,W9⟩
 rintro _ ⟨a,b,c,k2,d,rfl,hd2,SG,ZP,W9⟩;dsimp only
 (with_reducible refine cV (by assumption) (by omega) (by omega) (λv0 k0 a0 b0 d0=>?_);try dsimp only)
 (simp (disch:=omega) only [cK,cY,cX,ct])
 refine Ok.loop (P:=λs'=>∃i k' code,s'=(i,l,k',(),(),(),code,s,d,())/\0<=i/\i<=12/\DOk l k'/\code.length<=62/\∀i∈code,c9 s.length code.length i)
  (R:=λr=>∃a b k' code,r=(a,b,l,k',(),(),(),code,s,d,())/\DOk l k'/\code.length<=62/\∀i∈code,c9 s.length code.length i)
  (m:=λs=>s.1.toNat) ⟨_,_,[],rfl,by omega,by omega,d0,by simp,cr⟩ (by unfold NN;dsimp only;omega) ?_ ?_
 ·rintro _ ⟨i,k',code,rfl,SU,Wu,YP,Zr,XX⟩;unfold fH;dsimp only
  (with_reducible refine de (λhcc=>?_) λhcc=>?_)
  ·refine Ok.bind (P:=λr=>∃k' code,r=(i,l,k',(),(),(),code,s,d,())/\DOk l k'/\code.length<=62/\∀i∈code,c9 s.length code.length i) ?_ ?_
   ·(simp (disch:=omega) only [cK,cY,cX,ct])
    refine(zB YP hs ⟨by omega,by omega⟩).bind ?_;rintro _ ⟨xs,k3,rfl,Z3,Pq,Ys,Xs⟩;dsimp only
    (simp (disch:=omega) only [cK,cY,cX,ct])
    (with_reducible refine de (λhcc=>?_) λhcc=>?_)
    ·refine dc (fA (by omega)) ?_;refine Ok.ret ⟨_,_,rfl,Xs,by rw[dJ];omega,?_⟩;rw[dJ];exact iL (λi hi=>(XX i hi).mono (by omega)) (λi hi=>(Ys i hi).mono (by omega))
    ·exact Ok.ret ⟨_,_,rfl,Xs,Zr,XX⟩
   ·rintro _ ⟨k3,Ze,rfl,Xs,Ui,XI⟩;dsimp only
    (simp (disch:=omega) only [cK,cY,cX,ct])
    exact Ok.ret ⟨⟨_,_,_,rfl,by omega,by omega,Xs,Ui,XI⟩,by dsimp only;omega⟩
  ·exact Ok.ret ⟨_,_,_,_,rfl,YP,Zr,XX⟩
 rintro _ ⟨a,b,k3,code,rfl,Xs,Zr,XX⟩;dsimp only;refine Ok.bind (P:=λr=>∃k' code,r=(l,k',(),(),(),code,s,d,())/\DOk l k'/\code.length<=63/\∀i∈code,c9 s.length (code.length+1) i) ?_ ?_
 ·(with_reducible refine cV (by assumption) (by omega) (by omega) (λv1 k1 a1 b1 d1=>?_);try dsimp only)
  (with_reducible refine de (λhcc=>?_) λhcc=>?_)
  ·(simp (disch:=omega) only [cK,cY,cX,ct])
   (with_reducible refine cV (by assumption) (by omega) (by omega) (λv2 k2 a2 b2 d2=>?_);try dsimp only)
   refine dc (fA (by simp;omega)) ?_;refine Ok.ret ⟨_,_,rfl,d2,by rw[dJ];simp;omega,?_⟩;rw[dJ];exact iL (λi hi=>(XX i hi).mono (by simp;omega)) (all_cons (zI (by omega) (by simp;omega)) cr)
  ·(with_reducible refine de (λhcc=>?_) λhcc=>?_)
   ·refine dc (fA (by simp;omega)) ?_;refine Ok.ret ⟨_,_,rfl,d1,by rw[dJ];simp;omega,?_⟩;rw[dJ];exact iL (λi hi=>(XX i hi).mono (by simp;omega)) (all_cons zq cr)
   ·exact Ok.ret ⟨_,_,rfl,d1,by omega,λi hi=>(XX i hi).mono (by omega)⟩
 rintro _ ⟨k4,Ze,rfl,Pl,Ui,XI⟩;dsimp only
 (with_reducible refine cV (by assumption) (by omega) (by omega) (λv3 k3 a3 b3 d3=>?_);try dsimp only)
 simp only[AC,yp,oBS];refine dc (fA (by simp;omega)) ?_;simp only[dJ];refine Ok.cond (λhc=>?_) λ_=>?_
 ·have ZJ:∀i∈List.append Ze [(1,0,0,0,v3),(23,0,0,0,0)],c9 s.length (Ze.length+1) i:=iL XI (all_cons (pb (by omega) (by omega)) (all_cons (ly (by omega)) cr));simp only[oDE]at hc
  have TO:(Ze.length:Int)+2>64:=by
   have:((Ze.length + [((1:Int),(0:Int),(0:Int),(0:Int),v3),(23,0,0,0,0)].length:Nat):Int)>64:=hc;simpa using this
  have Rg:Ze.length=63:=by omega
  refine dc (by rw[Rg];rfl) ?_
  have hlen:(Ae (List.append Ze [((1:Int),(0:Int),(0:Int),(0:Int),v3),(23,0,0,0,0)]) 0 (Nat.sub 64 0)).length=64:=by
   unfold Ae;rw[oLT,List.drop_zero,dJ,Rg];rfl
  have hp:sf (Ae (List.append Ze [((1:Int),(0:Int),(0:Int),(0:Int),v3),(23,0,0,0,0)]) 0 (Nat.sub 64 0)) s d:=by
   refine⟨hs,SG,ZP,W9,by rw[hlen];decide,λi hi=>?_⟩;rw[hlen];refine(ZJ i ?_).mono (by omega);unfold Ae at hi;exact List.mem_of_mem_drop (List.mem_of_mem_take hi)
  refine(rS (l:=l) (k:=_) hp).bind ?_;rintro _ ⟨a,b,c,rfl⟩;exact Ok.ret ⟨_,_,_,_,rfl,hp,d3⟩
 ·have hp:sf (List.append Ze [(1,0,0,0,v3),(23,0,0,0,0)]) s d:=by
   refine⟨hs,SG,ZP,W9,?_,?_⟩
   ·rw[dJ];rename_i hc;have TO:¬((Ze.length + [((1:Int),(0:Int),(0:Int),(0:Int),v3),(23,0,0,0,0)].length:Nat):Int)>64:=of_decide_eq_false hc;simp only[oLC,List.length_nil]at TO⊢;omega
   ·rw[dJ];exact iL (λi hi=>(XI i hi).mono (by simp)) (all_cons (pb (by omega) (by omega)) (all_cons (ly (by omega)) cr))
  have hf:=rS (l:=l) (k:=k3) hp;rw[dJ]at hf;refine hf.bind ?_;rintro _ ⟨a,b,c,rfl⟩;exact Ok.ret ⟨_,_,_,_,rfl,hp,d3⟩
abbrev VS(xs:List Int):Prop:=AT xs
theorem zQ{l:List Int}{k:Nat}(h:k<l.length):l.getD k 0=l[k]:=by simp[List.getD,h]
theorem VS.at_{ss:List Int}(h:VS ss){i:Nat}(hi:i<ss.length):1<=ss[i]/\ss[i]<=32:=h.2.2 _ (List.getElem_mem hi)
theorem VS.getD{ss:List Int}(h:VS ss){i:Nat}(hi:i<ss.length):1<=ss.getD i 0/\ss.getD i 0<=32:=by rw[zQ hi];exact h.at_ hi
theorem Bq{S T:Type}{f:S->Option (S⊕T)}(st:Nat->S){n N:Nat}{t:T}(hn:n<N)(h:∀i,i<n->Ok (f (st i)) (·=.inl (st (i+1))))(he:Ok (f (st n)) (·=.inr t)):c8 f N (st 0)=some t:=by
 have ZX:∀k i,i+k=n->∀N,k<N->c8 f N (st i)=some t:=by
  intro k
  induction k with
  |zero=>
   intro i hi N hN;obtain⟨x,e,hx⟩:=he
   have:i=n:=by omega
   subst this;obtain⟨N',rfl⟩:∃N',N=N'+1:=⟨N-1,by omega⟩;simp[c8,e,hx]
  |succ k ih=>
   intro i hi N hN;have ⟨x,e,hx⟩:=h i (by omega);obtain⟨N',rfl⟩:∃N',N=N'+1:=⟨N-1,by omega⟩;simp[c8,e,hx];exact ih (i+1) (by omega) N' (by omega)
 simp_all
theorem Ok.eq{α:Type}{o:Option α}{a:α}(h:Ok o (·=a)):o=some a:=by
 obtain⟨x,e,rfl⟩:=h;exact e
def ve:List CT->CT
 | []=>.nat
 | [t]=>t
 |t::u::r=>.pair t (ve (u::r))
def ig:(l:List CT)->HL den l->den (ve l)
 | [],_=>(0:Nat)
 | [_],h=>h.1
 |_::u::r,h=>(h.1,ig (u::r) h.2)
def encL:(l:List CT)->HL den l->List TV
 | [],_=>[]
 |t::r,h=>enc t h.1++encL r h.2
theorem rU:∀(l:List CT)(h:HL den l),enc (ve l) (ig l h)=encL l h
 | [],_=>rfl
 | [_],h=>(List.append_nil _).symm
 |_::u::r,h=>by
  show enc _ h.1++enc (ve (u::r)) (ig (u::r) h.2)=_;rw[rU (u::r) h.2];rfl
def tO:(c:CT)->den c->Prop
 |.int k,n=>(Lit.int k n).wf=true
 |.str,s=>ByteArray.size s<=maxLen
 |.row _ t,xs=>List.length xs<=maxLen/\∀x∈xs,tO t x
 |.pair a b,x=>tO a x.1/\tO b x.2
 |_,_=>True
def GoodL:(l:List CT)->HL den l->Prop
 | [],_=>True
 |t::r,h=>tO t h.1/\GoodL r h.2
theorem pD:∀(l:List CT)(h:HL den l),GoodL l h->tO (ve l) (ig l h)
 | [],_,_=>trivial
 | [_],_,g=>g.1
 |_::u::r,h,g=>⟨g.1,pD (u::r) h.2 g.2⟩
def appL:(l m:List CT)->HL den l->HL den m->HL den (l++m)
 | [],_,_,k=>k
 |_::r,m,h,k=>(h.1,appL r m h.2 k)
theorem rV:∀(l m:List CT)(h:HL den l)(k:HL den m),encL (l++m) (appL l m h k)=encL l h++encL m k
 | [],_,_,_=>rfl
 |t::r,m,h,k=>by
  show enc t h.1++encL (r++m) (appL r m h.2 k)=(enc t h.1++encL r h.2)++_;rw[rV r m h.2 k,List.append_assoc]
theorem rN:∀(l m:List CT)(h:HL den l)(k:HL den m),GoodL l h->GoodL m k->GoodL (l++m) (appL l m h k)
 | [],_,_,_,_,g=>g
 |_::r,m,h,k,g,g'=>⟨g.1,rN r m h.2 k g.2 g'⟩
def RelL(w:World):List TV->List Value->Prop
 | [],[]=>True
 |t::ts,v::vs=>eC w (λ_=>True) t v/\RelL w ts vs
 |_,_=>False
theorem RelL.app{w:World}:∀{a:List TV}{x:List Value}{b:List TV}{y:List Value},RelL w a x->RelL w b y->RelL w (a++b) (x++y)
 | [],[],_,_,_,h=>h
 |_::a,_::x,_,_,g,h=>⟨g.1,RelL.app (a:=a) (x:=x) g.2 h⟩
 | [],_::_,_,_,g,_=>g.elim
 |_::_,[],_,_,g,_=>g.elim
theorem RelL.len{w:World}:∀{a:List TV}{x:List Value},RelL w a x->a.length=x.length
 | [],[],_=>rfl
 |_::a,_::x,g=>by rw[oLC,oLC,RelL.len (a:=a) (x:=x) g.2]
 | [],_::_,g=>g.elim
 |_::_,[],g=>g.elim
theorem RelL.get{w:World}:∀{a:List TV}{x:List Value},RelL w a x->∀j (h:j<a.length)(h':j<x.length),eC w (λ_=>True) a[j] x[j]
 |_::_,_::_,g,0,_,_=>g.1
 |_::a,_::x,g,j+1,h,h'=>RelL.get (a:=a) (x:=x) g.2 j (by simpa using h) (by simpa using h')
 | [],_,_,_,h,_=>by simp at h
 |_::_,[],g,_,_,_=>g.elim
def Av(P:Program)(g:TypeId->Option (List CT)):Nat->List Field->Option (List CT)
 |_,[]=>some []
 |off,f::fs=>match g f.type with
  |some l=>if f.offset=off/\l.length=P.cellsOf f.type then(Av P g (off+l.length) fs).map (l++·)else none
  |none=>none
def lD(P:Program):Nat->TypeId->Option (List CT)
 |0,_=>none
 |n+1,t=>match P.underlying t with
  |some .bool=>some [.bool]
  |some (.int k)=>some [.int k]
  |some .string=>some [.str]
  |some (.slice e)=>match lD P n e with
   |some l=>if l.length=P.cellsOf e then some [.row false (ve l)]else none
   |none=>none
  |some (.struct fs)=>match Av P (lD P n) 0 fs.toList with
   |some l=>if l.length=P.cellsOf t then some l else none
   |none=>none
  |_=>none
section
variable {H:Type} {ec:TypeId×Value->H} {P:Program} {w:World} {base:Nat} {spare:Nat->Bool} {held:Bool}
theorem vC{g:TypeId->Option (List CT)}{m:Nat}{cs:List Value}
 (ih:∀t L,g t=some L->∀cs x,DataW.trod ec P w base spare held m t cs=some x->∃h:HL den L,GoodL L h/\RelL w (encL L h) cs):
 ∀(fs:List Field)(off:Nat)(L:List CT),Av P g off fs=some L->(∀f∈fs,∃x,DataW.trod ec P w base spare held m f.type ((cs.drop f.offset).take (P.cellsOf f.type))=some x)->
  ∃h:HL den L,GoodL L h/\RelL w (encL L h) ((cs.drop off).take L.length):=by
 intro fs
 induction fs with
 |nil=>
  intro off L hL _
  injection hL with hL
  subst hL;exact⟨(),trivial,trivial⟩
 |cons f fs TA=>
  intro off L hL hx;unfold Av at hL;split at hL
  ·rename_i l hg;split at hL
   ·rename_i ho;obtain⟨rfl,hlen⟩:=ho
    cases hr:Av P g (f.offset+l.length) fs with
    |none=>simp_all
    |some L2=>
     rw[hr]at hL
     injection hL with hL
     subst hL;obtain⟨x,h1⟩:=hx f List.mem_cons_self;obtain⟨h,g1,r1⟩:=ih _ _ hg _ _ h1;have ⟨k,g2,r2⟩:=TA _ _ hr λf' Vf=>hx f' (List.mem_cons_of_mem _ Vf);refine⟨appL l L2 h k,rN _ _ _ _ g1 g2,?_⟩;rw[rV,List.length_append,List.take_add,List.drop_drop];rw[hlen];rw[hlen]at r2;exact r1.app r2
   ·cases hL
  ·cases hL
theorem AF:∀(n:Nat)(t:TypeId)(L:List CT),lD P n t=some L->∀(Wj:Nat)(cs:List Value)(x:DataW H×List MemPlace),DataW.trod ec P w base spare held Wj t cs=some x ->
 ∃h:HL den L,GoodL L h/\RelL w (encL L h) cs:=by
 intro n
 induction n with
 |zero=>intro t L h;cases h
 |succ n ih=>
  intro t L hL Wj cs x hx;unfold lD at hL;split at hL
  ·rename_i ht
   injection hL with hL
   subst hL;obtain⟨b,rfl,_⟩:=DataW.trod_bool ht hx;exact⟨(b,()),⟨trivial,trivial⟩,.v rfl,trivial⟩
  ·rename_i k ht
   injection hL with hL
   subst hL;obtain⟨z,rfl,_,hw⟩:=DataW.trod_int ht hx;exact⟨(z,()),⟨hw,trivial⟩,.v rfl,trivial⟩
  ·rename_i ht
   injection hL with hL
   subst hL;obtain⟨s,rfl,_,hs⟩:=DataW.trod_string ht hx;exact⟨(s,()),⟨hs,trivial⟩,.v rfl,trivial⟩
  ·rename_i e ht;split at hL
   ·rename_i l hl;split at hL
    ·rename_i hsz
     injection hL with hL
     subst hL
     rcases DataW.trod_slice ht hx with⟨rfl,_⟩|⟨a,len,cap,Q',rest,m,_,rfl,_,_,Yp,hmax,Zg,Z6,_,_⟩
     ·exact⟨([],()),⟨⟨Nat.zero_le _,λx hx=>by cases hx⟩,trivial⟩,.sl (c:=[]) 1 (λ_ _=>undef) (λi h=>by simp at h) (Nat.le_refl _) (Nat.zero_le _) (λ_=>rfl) (λi j h=>by simp at h) (λi j h=>by simp at h),trivial⟩
     ·have R':∀i:Fin len,∃p:HL den l×List Value,GoodL l p.1/\RelL w (encL l p.1) p.2/\w.cells? base (a.add (i.1*P.cellsOf e)) (P.cellsOf e)=some p.2:=by
       intro i;have h1:=Z6 i.1 i.2;rw[oGE (by omega)]at h1;obtain⟨PF,h2,h3⟩:=Option.bind_eq_some_iff.1 h1;obtain⟨h,g,r⟩:=ih _ _ hl _ _ _ h3;exact⟨(h,PF),g,r,h2⟩
      obtain⟨f,hf⟩:=Classical.axiomOfChoice R'
      have clen:∀i,(encL l (f i).1).length=l.length:=λi=>by
       rw[(hf i).2.1.len,(World.cells?_some (hf i).2.2).2.1,hsz]
      have ZX:eC w (λ_=>True) (.sl ((List.ofFn λi:Fin len=>ig l (f i).1).map (enc (ve l)))) (.slice (some a) ((List.ofFn λi:Fin len=>ig l (f i).1).map (enc (ve l))).length cap):=by
       have el:((List.ofFn λi:Fin len=>ig l (f i).1).map (enc (ve l))).length=len:=by simp
       have eg:∀i (hi:i<((List.ofFn λi:Fin len=>ig l (f i).1).map (enc (ve l))).length),((List.ofFn λi:Fin len=>ig l (f i).1).map (enc (ve l)))[i]=encL l (f ⟨i,by omega⟩).1:=by
        intro i hi;simp[rU]
       refine .sl l.length (λi j=>if h:i<len then(f ⟨i,h⟩).2.getD j undef else undef) (λi hi=>by rw[eg i hi,clen]) (by rw[el];exact Yp) hmax (λh=>by cases h) (λi j hi hj=>?_) (λi j hi hj=>?_)
       ·rw[el]at hi
        have cell:∀i' (ZL:i'<len) j',j'<l.length->w.cell? ((a.add (i'*l.length)).add j')=some ((f ⟨i',ZL⟩).2.getD j' undef):=by
         intro i' ZL j' Z0;have h1:=World.cells?_some (hf ⟨i',ZL⟩).2.2;have h2:=h1.2.2 j' (by omega);rw[hsz];rw[h2]
         have:j'<(f ⟨i',ZL⟩).2.length:=by rw[h1.2.1];omega
         simp[this]
        have h0:=World.cell?_spot (cell 0 (by omega) 0 (by omega));obtain⟨b,o,spot⟩:=a
        have UY:spot=none:=by simpa[Addr.add]using h0
        subst UY;refine⟨b,o,rfl,trivial,?_⟩;have h2:=cell i hi j hj;rw[Go.WideShapes.add_plain,Go.WideShapes.add_plain]at h2;rw[dif_pos hi,<- h2,Nat.add_assoc]
       ·rw[el]at hi;have hr:=(hf ⟨i,hi⟩).2.1
        have X4:j<(encL l (f ⟨i,hi⟩).1).length:=by rw[eg i (by omega)]at hj;exact hj
        have Vh:j<(f ⟨i,hi⟩).2.length:=by rw[<- hr.len];exact X4
        have h3:=hr.get j X4 Vh
        simp_all
      rw[List.length_map,List.length_ofFn]at ZX;refine⟨(List.ofFn λi:Fin len=>ig l (f i).1,()),⟨⟨by rw[List.length_ofFn];omega,λx hx=>?_⟩,trivial⟩,ZX,trivial⟩;obtain⟨i,rfl⟩:=List.mem_ofFn.1 hx;exact pD _ _ (hf i).1
    ·cases hL
   ·cases hL
  ·rename_i fs ht;split at hL
   ·rename_i l hl;split at hL
    ·rename_i hsz
     injection hL with hL
     subst hL;obtain⟨xs,m,_,_,hlen,Pr,hf⟩:=DataW.trod_struct ht hx
     obtain⟨h,g,r⟩:=vC (cs:=cs) (m:=m) (λt L hL cs x hx=>ih t L hL m cs x hx) fs.toList 0 l hl (by
      intro f P4;obtain⟨i,hi,rfl⟩:=List.mem_iff_getElem.1 P4
      have SV:i<fs.size:=by simpa using hi
      have h1:=hf i fs[i] (by simp[SV]);rw[oGE (by omega)]at h1
      exact⟨_,by simpa using h1⟩)
     refine⟨h,g,?_⟩;rw[List.drop_zero,hsz,<- hlen,List.take_length]at r;exact r
    ·cases hL
   ·cases hL
  ·cases hL
theorem intake_arg(n:Nat){t:TypeId}{L:List CT}{v:Value}{d:DataW H}{p:List MemPlace}(hL:lD P n t=some L)(h:DataW.Trod ec P w base spare held t v d p):
 ∃h:HL den L,GoodL L h/\RelL w (encL L h) v.cells.toList:=by
 have ⟨Wj,hf⟩:=h;exact AF n t L hL Wj _ _ hf
end
theorem plain_one{w:World}{t:TV}{v:Value}(r:RelL w [t] [v]):rb w t v:=r.1.plain
end Go.Proofs.Ytgphpfjngblbiaa
namespace Go.Proofs.Ytgphpfjngblbiaa
def Mk(out:List Bool)(k:Nat):Prop:=out[k]?=some true
def un:List Bool->Nat
 | []=>0
 |b::r=>(if b then 0 else 1)+un r
theorem ym:∀{out:List Bool}{k:Nat},out[k]?=some false->un (out.set k true)+1=un out:=by
 intro out
 induction out with
 |nil=>intro k h;simp at h
 |cons b r ih=>
  intro k h
  cases k with
  |zero=>
   simp only[List.getElem?_cons_zero,oSJ]at h;subst h;simp[un];omega
  |succ k=>
   simp only[List.getElem?_cons_succ]at h;have:=ih h;simp only[List.set_cons_succ,un];omega
theorem yn(n:Nat):un (List.replicate n false)=n:=by
 induction n with
 |zero=>rfl
 |succ n ih=>simp only[List.replicate_succ,un,ih];simp;omega
theorem jd{out:List Bool}{k i:Nat}(hk:k<out.length):Mk (out.set k true) i↔i=k\/Mk out i:=by
 unfold Mk;rw[List.getElem?_set];by_cases h:k=i
 ·subst h;simp[hk]
 ·simp[h,Ne.symm h]
theorem vj{n k:Nat}:¬Mk (List.replicate n false) k:=by
 unfold Mk;rw[List.getElem?_replicate];split<;>simp
inductive Rs (code:List dq):Nat->Prop
 |zero:0<code.length->Rs code 0
 |step {k t:Nat} {x:dq}:Rs code k->code[k]?=some x->(t:Int)∈tgt x.1 x.2.2.2.2 k->t<code.length->Rs code t
inductive Rd (code:List dq):Nat->Prop
 |zero:0<code.length->Rd code 0
 |step {k t:Nat} {x:dq}:Rd code k->code[k]?=some x->(t:Int)∈tgt x.1 x.2.2.2.2 k->t<code.length->Rd code t
 |free {k t:Nat} {x:dq}:Rd code k->code[k]?=some x->frI x=true->t<code.length->Rd code t
structure sj (S:Nat->Prop)(succ:dq->Nat->List Int)(code:List dq)(out:List Bool)(todo:List Int):Prop where
 len:out.length=code.length
 snd:∀k,Mk out k->S k
 snt:∀t:Nat,(t:Int)∈todo->t<code.length->S t
 cmp:∀k x,Mk out k->code[k]?=some x->∀t:Nat,(t:Int)∈succ x k->t<code.length->Mk out t\/(t:Int)∈todo
 fst:Mk out 0\/(0:Int)∈todo
theorem tX{code:List dq}{out:List Bool}{k:Int}(hl:out.length=code.length):(eO code out k=true/\(∀t:Nat,(t:Int)=k->t<code.length->Mk out t))\/(eO code out k=false/\∃j:Nat,k=j/\j<code.length/\out[j]?=some false):=by
 unfold eO;by_cases h1:k<0
 ·left;refine⟨by simp[h1],λt ht _=>by omega⟩
 ·obtain⟨j,rfl⟩:=Int.eq_ofNat_of_zero_le (show 0<=k by omega);by_cases h2:(code.length:Int)<=j
  ·left;refine⟨by simp[h2],λt ht h=>by omega⟩
  ·have hj:j<out.length:=by omega
   have e:out[j]?=some out[j]:=oGE hj
   cases hv:out[j]with
   |true=>
    left;refine⟨by simp[e,hv],λt ht _=>?_⟩
    have:t=j:=by omega
    subst this;unfold Mk;rw[e,hv]
   |false=>
    right;refine⟨?_,j,rfl,by omega,by rw[e,hv]⟩
    have h3:¬((j:Int)<0):=by omega
    simp only[h3,h2,decide_false,Bool.false_or,oTN,e,hv,Option.getD_some]
theorem sj.skip{S:Nat->Prop}{succ:dq->Nat->List Int}{code:List dq}{out:List Bool}{ys:List Int}{k:Int}(h:sj S succ code out (ys++[k]))(hs:∀t:Nat,(t:Int)=k->t<code.length->Mk out t)(h0:0<code.length):sj S succ code out ys:=by
 refine⟨h.len,h.snd,λt ht=>h.snt t (by simp[ht]),λi x hi hx t ht hlt=>?_,?_⟩
 ·rcases h.cmp i x hi hx t ht hlt with h1|h1
  ·exact .inl h1
  ·rcases List.mem_append.1 h1 with h2|h2
   ·exact .inr h2
   ·exact .inl (hs t (by simpa using h2) hlt)
 ·rcases h.fst with h1|h1
  ·exact .inl h1
  ·rcases List.mem_append.1 h1 with h2|h2
   ·exact .inr h2
   ·exact .inl (hs 0 (by simpa using h2) h0)
theorem sj.mark{S:Nat->Prop}{succ:dq->Nat->List Int}{code:List dq}{out:List Bool}{ys:List Int}{j:Nat}{x:dq}(h:sj S succ code out (ys++[(j:Int)]))(hj:j<code.length)(hx:code[j]?=some x)
 (hS:S j->∀t:Nat,(t:Int)∈succ x j->t<code.length->S t):sj S succ code (out.set j true) (ys++succ x j):=by
 have hjo:j<out.length:=by rw[h.len];exact hj
 have Rq:S j:=h.snt j (by simp) hj;refine⟨by rw[List.length_set];exact h.len,λk hk=>?_,λt ht hlt=>?_,λi y hi hy t ht hlt=>?_,?_⟩
 ·rcases(jd hjo).1 hk with rfl|hk
  ·exact Rq
  ·exact h.snd k hk
 ·rcases List.mem_append.1 ht with h1|h1
  ·exact h.snt t (by simp[h1]) hlt
  ·exact hS Rq t h1 hlt
 ·rcases(jd hjo).1 hi with rfl|hi
  ·rw[hx]at hy
   injection hy with hy
   subst hy;exact .inr (List.mem_append_right _ ht)
  ·rcases h.cmp i y hi hy t ht hlt with h1|h1
   ·exact .inl ((jd hjo).2 (.inr h1))
   ·rcases List.mem_append.1 h1 with h2|h2
    ·exact .inr (List.mem_append_left _ h2)
    ·have:t=j:=by have h3:=List.mem_singleton.1 h2;omega
     subst this;exact .inl ((jd hjo).2 (.inl rfl))
 ·rcases h.fst with h1|h1
  ·exact .inl ((jd hjo).2 (.inr h1))
  ·rcases List.mem_append.1 h1 with h2|h2
   ·exact .inr (List.mem_append_left _ h2)
   ·have:0=j:=by have h3:=List.mem_singleton.1 h2;omega
    subst this;exact .inl ((jd hjo).2 (.inl rfl))
theorem sj.start{S:Nat->Prop}{succ:dq->Nat->List Int}{code:List dq}(h0:S 0):sj S succ code (List.replicate code.length false) [0]:=
 ⟨by simp,λk hk=>absurd hk vj,λt ht _=>by
  have:t=0:=by simpa using ht
  subst this;exact h0,λk x hk=>absurd hk vj,.inr (by simp)⟩
def Bn(code:List dq)(out:List Bool)(fr:Bool):Prop:=fr=true↔∃k x,Mk out k/\code[k]?=some x/\frI x=true
theorem zo{code:List dq}(h0:0<code.length):∀(n:Nat)(out:List Bool)(fr:Bool)(todo:List Int),sj (Rs code) (λx k=>tgt x.1 x.2.2.2.2 k) code out todo->Bn code out fr->3*un out+todo.length<n ->
 ∃Xz Rc,pY code n out fr todo=some (Xz,Rc)/\sj (Rs code) (λx k=>tgt x.1 x.2.2.2.2 k) code Xz []/\Bn code Xz Rc:=by
 intro n
 induction n with
 |zero=>intro out fr todo _ _ h;omega
 |succ n ih=>
  intro out fr todo hI hF hn;rcases ga todo with rfl|⟨ys,k,rfl⟩
  ·exact⟨out,fr,rfl,hI,hF⟩
  ·rw[List.length_append,List.length_singleton]at hn;simp only[pY,List.getLast?_append,List.getLast?_singleton,Option.some_or,List.dropLast_concat]
   rcases tX (code:=code) (k:=k) hI.len with⟨h1,h2⟩|⟨h1,j,rfl,hj,SY⟩
   ·rw[oIP h1];exact ih out fr ys (hI.skip h2 h0) hF (by omega)
   ·rw[oIN (by simp[h1])];have hx:code[j]?=some code[j]:=oGE hj
    have hjo:j<out.length:=by rw[hI.len];exact hj
    simp only[oTN,hx];have hu:=ym SY;have hl:=lr code[j].1 code[j].2.2.2.2 j;refine ih _ _ _ (hI.mark hj hx λhS t ht hlt=>.step hS hx ht hlt) ?_ (by rw[List.length_append];omega);unfold Bn at *;rw[Bool.or_eq_true,hF];constructor
    ·rintro(⟨k,x,h3,h4,h5⟩|h3)
     ·exact⟨k,x,(jd hjo).2 (.inr h3),h4,h5⟩
     ·exact⟨j,_,(jd hjo).2 (.inl rfl),hx,h3⟩
    ·rintro⟨k,x,h3,h4,h5⟩
     rcases(jd hjo).1 h3 with rfl|h3
     ·rw[hx]at h4
      injection h4 with h4
      subst h4;exact .inr h5
     ·exact .inl ⟨k,x,h3,h4,h5⟩
def p8(code:List dq)(x:dq)(k:Nat):List Int:=tgt x.1 x.2.2.2.2 k++(if frI x then nw code.length else[])
theorem xw{n t:Nat}:(t:Int)∈nw n↔t<n:=by
 unfold nw;rw[List.mem_map];constructor
 ·rintro⟨a,ha,e⟩;have:=List.mem_range.1 ha;omega
 ·intro h;exact⟨t,List.mem_range.2 h,rfl⟩
theorem zp{code:List dq}(h0:0<code.length)(T7:code.length<=64)(Z4:∀(k:Nat)(x:dq),code[k]?=some x->∀t∈tgt x.1 x.2.2.2.2 k,0<=t):∀(n:Nat)(out:List Bool)(todo:List Int),sj (Rd code) (p8 code) code out todo->(∀t∈todo,0<=t)->67*un out+todo.length<n ->
 ∃Xz,oD code n out todo=some Xz/\sj (Rd code) (p8 code) code Xz []:=by
 intro n
 induction n with
 |zero=>intro out todo _ _ h;omega
 |succ n ih=>
  intro out todo hI hP hn;rcases ga todo with rfl|⟨ys,k,rfl⟩
  ·exact⟨out,rfl,hI⟩
  ·rw[List.length_append,List.length_singleton]at hn;have hk0:0<=k:=hP k (by simp);have Rn:∀t∈ys,0<=t:=λt ht=>hP t (by simp[ht]);simp only[oD,List.getLast?_append,List.getLast?_singleton,Option.some_or,List.dropLast_concat];rw[oIN (by omega)]
   rcases tX (code:=code) (k:=k) hI.len with⟨h1,h2⟩|⟨h1,j,rfl,hj,SY⟩
   ·rw[oIP h1];exact ih out ys (hI.skip h2 h0) Rn (by omega)
   ·rw[oIN (by simp[h1])];have hx:code[j]?=some code[j]:=oGE hj;simp only[oTN,hx];have hu:=ym SY;have hl:=lr code[j].1 code[j].2.2.2.2 j
    have Yo:(if frI code[j]then nw code.length else[]).length<=64:=by split<;>simp[oA];omega
    rw[List.append_assoc];refine ih _ (ys++p8 code code[j] j) (hI.mark hj hx λhS t ht hlt=>?_) (λt ht=>?_) (by unfold p8;rw[List.length_append,List.length_append];omega)
    ·unfold p8 at ht;rcases List.mem_append.1 ht with h3|h3
     ·exact .step hS hx h3 hlt
     ·split at h3
      ·rename_i hf;exact .free hS hx hf hlt
      ·simp at h3
    ·rcases List.mem_append.1 ht with h3|h3
     ·exact Rn t h3
     ·unfold p8 at h3;rcases List.mem_append.1 h3 with h4|h4
      ·exact Z4 j _ hx t h4
      ·split at h4
       ·unfold nw at h4;obtain⟨i,_,rfl⟩:=List.mem_map.1 h4;omega
       ·simp at h4
theorem sI{code:List dq}(h0:0<code.length)(T7:code.length<=64)(Z4:∀(k:Nat)(x:dq),code[k]?=some x->∀t∈tgt x.1 x.2.2.2.2 k,0<=t):
 ∃R,ki code=some R/\na code=some R/\R.length=code.length/\(∀k,k<code.length->(Mk R k↔Rd code k)):=by
 obtain⟨o1,fr,e1,i1,f1⟩:=zo h0 10000 (List.replicate code.length false) false [0] (sj.start (.zero h0)) ⟨λh=>by simp at h,λ⟨k,_,h,_⟩=>absurd h vj⟩ (by rw[yn];simp;omega);obtain⟨o2,e2,i2⟩:=zp h0 T7 Z4 10000 (List.replicate code.length false) [0] (sj.start (.zero h0)) (by simp) (by rw[yn];simp;omega)
 have c1:∀k,Rs code k->Mk o1 k:=by
  intro k h
  induction h with
  |zero=>rcases i1.fst with h|h
         ·exact h
         ·simp at h
  |step hk hx ht hlt ih=>rcases i1.cmp _ _ ih hx _ ht hlt with h|h
                         ·exact h
                         ·simp at h
 have c2:∀k,Rd code k->Mk o2 k:=by
  intro k h
  induction h with
  |zero=>rcases i2.fst with h|h
         ·exact h
         ·simp at h
  |step hk hx ht hlt ih=>rcases i2.cmp _ _ ih hx _ (List.mem_append_left _ ht) hlt with h|h
                         ·exact h
                         ·simp at h
  |free hk hx hf hlt ih=>rcases i2.cmp _ _ ih hx _ (by unfold p8;rw[oIP hf];exact List.mem_append_right _ (xw.2 hlt)) hlt with h|h
                         ·exact h
                         ·simp at h
 have sd:∀k,Rs code k->Rd code k:=by
  intro k h
  induction h with
  |zero h=>exact .zero h
  |step hk hx ht hlt ih=>exact .step ih hx ht hlt
 have ZX:∀k,k<code.length->(Mk (o1.map λb=>b||fr) k↔Rd code k):=by
  intro k hk
  have RE:k<o1.length:=by rw[i1.len];exact hk
  have hg:o1[k]?=some o1[k]:=oGE RE;unfold Mk;rw[List.getElem?_map,hg,oMS,oSJ,Bool.or_eq_true];constructor
  ·rintro(h|h)
   ·exact sd k (i1.snd k (by unfold Mk;rw[hg,h]))
   ·obtain⟨j,x,h1,h2,h3⟩:=f1.1 h;exact .free (sd j (i1.snd j h1)) h2 h3 hk
  ·intro h;by_cases hf:fr=true
   ·exact .inr hf
   ·left
    have:Rs code k:=by
     clear RE hg hk
     induction h with
     |zero h=>exact .zero h
     |step hk hx ht hlt ih=>exact .step ih hx ht hlt
     |free Y6 hx Vf hlt ih=>exact absurd (f1.2 ⟨_,_,c1 _ ih,hx,Vf⟩) hf
    have:=c1 k this;unfold Mk at this;rw[hg]at this;injection this
 refine⟨o1.map λb=>b||fr,by unfold ki;rw[e1];rfl,?_,by rw[List.length_map,i1.len],ZX⟩;unfold na;rw[e2];congr 1;apply List.ext_getElem?;intro k;by_cases hk:k<code.length
 ·have h1:k<o2.length:=by rw[i2.len];exact hk
  have h2:k<(o1.map λb=>b||fr).length:=by rw[List.length_map,i1.len];exact hk
  have XY:=ZX k hk;have Wv:Mk o2 k↔Mk (o1.map λb=>b||fr) k:=⟨λh=>XY.2 (i2.snd k h),λh=>c2 k (XY.1 h)⟩;unfold Mk at Wv;rw[oGE h1,oGE h2]at Wv⊢;simp only[oSJ]at Wv⊢;exact Bool.eq_iff_iff.2 Wv
 ·rw[oGN (by rw[i2.len];omega),oGN (by rw[List.length_map,i1.len];omega)]
end Go.Proofs.Ytgphpfjngblbiaa
namespace Go.Proofs.Ytgphpfjngblbiaa
open Go.RowKit
theorem yw{h:den RI}(g:tO RI h):(∀z∈(show List Int from h),AZ z)/\(show List Int from h).length<=maxLen:=⟨λz hz=>bounds_i64 (g.2 z hz),g.1⟩
theorem sn{o a b c i k:Int}(h0:0<=k)(h1:k<=1000):dF o a b c i k=some (tgt o i k,()):=by
 have hw:w64 (k+1)=k+1:=cK (by omega) (by omega);unfold dF tgt;simp only[hw];cases e18:(o==18)<;>cases e21:(o==21)<;>cases e22:(o==22)<;>cases e24:(o==24)<;>cases e19:(o==19)<;>cases e20:(o==20)<;>simp only[oCT,oCF,Bool.or_true,Bool.or_false,Bool.true_or,Bool.false_or,Bool.or_self,if_true,Bool.false_eq_true,if_false]
 all_goals
  by_cases c1:i<k+1
  ·simp[c1,hw]
  ·by_cases c2:k+1<i
   ·simp[c1,c2,hw]
   ·simp[c1,c2,hw]
theorem yI{o i k:Int}(hi:0<=i)(hk:0<=k):∀t∈tgt o i k,0<=t:=by
 intro t ht;unfold tgt at ht
 repeat' split at ht
 all_goals simp at ht
 all_goals omega
theorem xg{code:List DIn}{ss:List Int}{dt:List (List Int)}{R:List Bool}{k:Nat}{n:Int}{ts:List Int}(hl:R.length<=1000)(h2:ts.length<=1000)(h0:∀t∈ts,0<=t)(h1:∀t:Nat,(t:Int)∈ts->t<R.length->Mk R t):
 c8 cg NN (R,R,R,n,(k:Int),(ts.length:Int),0,code,ss,dt,ts,())=some (.inr (R,R,R,n,(k:Int),(ts.length:Int),(ts.length:Int),false,code,ss,dt,ts,())):=by
 refine Bq (st:=λj=>(R,R,R,n,(k:Int),(ts.length:Int),(j:Int),code,ss,dt,ts,())) (n:=ts.length) (by unfold NN;omega) ?_ ?_
 ·intro j hj;unfold cg;delta cc;dsimp only;have hx:ts[j]?=some ts[j]:=oGE hj;have ZI:=List.getElem_mem hj;rw[oDT (show(j:Int)<ts.length by omega),nU];simp only[oCT,oBS,show cL ts j=some ts[j]from hx];obtain⟨t,ht⟩:=Int.eq_ofNat_of_zero_le (h0 _ ZI);rw[ht]at ZI⊢;by_cases hlt:t<R.length
  ·rw[oDT (show(t:Int)<R.length by omega),nU];have:=h1 t ZI hlt;simp only[oCT,oBS,show cL R t=some true from this,oNT,oCF];rw[cK (x:=(j:Int)+1) (by omega) (by omega)];exact Ok.ret rfl
  ·rw[oDF (show ¬(t:Int)<R.length by omega)];simp only[oCF];rw[cK (x:=(j:Int)+1) (by omega) (by omega)];exact Ok.ret rfl
 ·unfold cg;dsimp only;rw[oDF (show ¬(ts.length:Int)<ts.length by omega)];exact Ok.ret rfl
theorem uO{code:List DIn}{ss:List Int}{dt:List (List Int)}{R:List Bool}(T7:code.length<=64)(hlen:R.length=code.length)(Z4:∀(k:Nat)(x:dq),code[k]?=some x->∀t∈tgt x.1 x.2.2.2.2 k,0<=t)
 (Zr:∀(k:Nat)(x:dq),Mk R k->code[k]?=some x->∀t:Nat,(t:Int)∈tgt x.1 x.2.2.2.2 k->t<R.length->Mk R t):
 c8 cf NN (R,R,R,(R.length:Int),0,code,ss,dt,())=some (.inr (R,R,R,(R.length:Int),(R.length:Int),false,code,ss,dt,())):=by
 refine Bq (st:=λk=>(R,R,R,(R.length:Int),(k:Int),code,ss,dt,())) (n:=R.length) (by unfold NN;omega) ?_ ?_
 ·intro k hk;unfold cf;delta cc;dsimp only;have hx:R[k]?=some R[k]:=oGE hk
  have S6:k<code.length:=by omega
  have hy:code[k]?=some code[k]:=oGE S6;rw[oDT (show(k:Int)<R.length by omega),nU];simp only[oCT,oBS,show cL R k=some R[k]from hx,BEq.rfl,oNT,oCF]
  cases hv:R[k]with
  |false=>
   simp only[Bool.not_false,oCT];rw[cK (x:=(k:Int)+1) (by omega) (by omega)];exact Ok.ret rfl
  |true=>
   simp only[oNT,oCF,show cL code k=some code[k]from hy,oBS];rw[sn (by omega) (by omega)];simp only[oBS]
   have hM:Mk R k:=by unfold Mk;rw[hx,hv]
   have Yo:=lr code[k].1 code[k].2.2.2.2 k;rw[xg (by omega) (by omega) (Z4 k _ hy) λt ht hlt=>Zr k _ hM hy t ht hlt];dsimp only;rw[cK (x:=(k:Int)+1) (by omega) (by omega)];exact Ok.ret rfl
 ·unfold cf;dsimp only;rw[oDF (show ¬(R.length:Int)<R.length by omega)];exact Ok.ret rfl
theorem wc:fY=some (true,()):=by kernel_rfl
theorem reaches_law{l:List Int}(hl:∀x∈l,AZ x)(hm:l.length<=maxLen):cS l=some (true,()):=by
 refine Ok.eq ?_;unfold cS;refine(sQ (DOk.start hl hm)).bind ?_;rintro _ ⟨code,ss,dt,k1,rfl,hp,hd⟩;dsimp only;obtain⟨Zq,Zo⟩:=hp.clen;have Z4:∀(k:Nat)(x:dq),code[k]?=some x->∀t∈tgt x.1 x.2.2.2.2 k,0<=t:=λk x hx=>yI (hp.ins x (lK hx)).imm.1 (by omega);obtain⟨R,e1,e2,hlen,So⟩:=sI (code:=code) (by omega) Zo Z4;unfold cE df;rw[oIP (show 0<code.length/\code.length<=64 from⟨by omega,Zo⟩),oIP (show 0<code.length/\code.length<=64 from⟨by omega,Zo⟩),e1,e2];simp only[oMS,oBS];have h0:cL R 0=some true:=(So 0 (by omega)).2 (.zero (by omega))
 have Zr:∀(k:Nat)(x:dq),Mk R k->code[k]?=some x->∀t:Nat,(t:Int)∈tgt x.1 x.2.2.2.2 k->t<R.length->Mk R t:=λk x hk hx t ht hlt=>by
  have S6:=(oGS hx).1;exact(So t (by omega)).2 (.step ((So k S6).1 hk) hx ht (by omega))
 delta cc
 try dsimp only
 rw[hlen];simp only[bne_self_eq_false,oCF,h0,oBS,oNT];rw[<- hlen,uO Zo hlen Z4 Zr];simp only[wc,oBS];exact Ok.ret rfl
theorem law_ProgramReaches{h0:HL den [RI]}(g0:GoodL _ h0):dU.g (appL _ _ h0 ())=some (true,()):=
 reaches_law (yw g0.1).1 (yw g0.1).2
end Go.Proofs.Ytgphpfjngblbiaa
