/- Part of the proof; no condition. -/
import Derived.Test.YtbdhpgelkfncpaaKd
import Derived.Deep.RegionLaw
import Derived.Test.YtbdhpgelkfncpaaProg
import Derived.KernelRfl
import Derived.WalkKit
import Derived.WalkSpells
import Derived.Handy
import Derived.OpenShut
import Derived.Deep.Slices
set_option linter.unusedVariables false
set_option linter.unusedSimpArgs false
namespace Go.Proofs.Ytbdhpgelkfncpaa
open Go.RowKit Go.Maps
def Dh:i8:=(0,0,[],0,0,0,0,0,0,0,[])
def iW(p:i8):Int×Int:=(p.1,p.2.1)
def gQ(L:List i8)(id:Int×Int):i8:=L.foldl (λa p=>if iW p=id then p else a) Dh
theorem zj{L:List i8}{k:Nat}(h:k<L.length)(id:Int×Int):gQ (L.take (k+1)) id=if iW L[k]=id then L[k]else gQ (L.take k) id:=by
 unfold gQ;rw[List.take_succ_eq_append_getElem h,List.foldl_append];rfl
def rId:Rp (Int×Int):=mJ (rI .i64) (rI .i64)
theorem Ir:RIm rId (enc (.pair (.int .i64) (.int .i64))) λ_=>True:=(fj (nB _) (nB _)).weak (λ_=>rfl) λ_ _=>⟨trivial,trivial⟩
theorem Ma:SlT Try.prog 68 56 rId.size 16:=
 ⟨by kernel_rfl,by
  have h:(Try.prog.info? 56).map (λi=>(i.zero,i.size,i.bytes))=some (some (.agg #[.int .i64 0,.int .i64 0]),2,16):=by kernel_rfl
  obtain⟨i,hi,hz,hs,hb⟩:=info_parts h
  exact⟨i,_,hi,hz,hs,hb,rfl⟩,rId.pos⟩
theorem LR{w:World}{F:Nat->Prop}(x:Int×Int):rId.rep w F x [.int .i64 x.1,.int .i64 x.2]:=⟨[_],_,rfl,rfl,rfl⟩
theorem KY{w:World}{F:Nat->Prop}{x:Int×Int}{cs:List Value}(h:rId.rep w F x cs):cs=[.int .i64 x.1,.int .i64 x.2]:=by
 obtain⟨_,_,rfl,rfl,rfl⟩:=h;rfl
def pgC(p:i8)(y z:Value):List Value:=.int .i64 p.1 :: .int .i64 p.2.1::y::vwC p.2.2.2 z
theorem AX{w:World}{F:Nat->Prop}{p:i8}{cs:List Value}(h:rPg.rep w F p cs):∃y z,cs=pgC p y z/\RSl rCn w F p.2.2.1 y/\RSl rCn w F p.2.2.2.2.2.2.2.2.2.2 z:=by
 obtain⟨_,_,rfl,rfl,_,_,rfl,rfl,_,_,rfl,⟨y,rfl,hy⟩,hv⟩:=h;obtain⟨z,rfl,hz⟩:=Ih hv;exact⟨y,z,rfl,hy,hz⟩
theorem LL{w:World}{F:Nat->Prop}{p:i8}{y z:Value}(hy:RSl rCn w F p.2.2.1 y)(hz:RSl rCn w F p.2.2.2.2.2.2.2.2.2.2 z):rPg.rep w F p (pgC p y z):=
 ⟨[_],_,rfl,rfl,[_],_,rfl,rfl,[_],_,rfl,⟨y,rfl,hy⟩,LG hz⟩
theorem FY(w:World)(F:Nat->Prop):∃cs:List Value,zPg=.agg cs.toArray/\rPg.rep w F Dh cs:=⟨_,rfl,LL (p:=Dh) (RSl.nil _ _) (RSl.nil _ _)⟩
theorem uo{α:Type}{R:Rp α}{w:World}{F:Nat->Prop}:∀{xs:List α}{cs:List Value},ft R w F xs cs->∃WS:List (List Value),WS.length=xs.length/\cs=WS.flatten/\∀k (h:k<xs.length)(h':k<WS.length),R.rep w F xs[k] WS[k]
 | [],_,h=>⟨[],rfl,h,λk h=>by cases h⟩
 |x::r,_,⟨c,d,e,h1,h2⟩=>by
  obtain⟨WS,e1,e2,e3⟩:=uo h2;refine⟨c::WS,by simp[e1],by rw[e,e2];rfl,λk h h'=>?_⟩
  cases k with
  |zero=>exact h1
  |succ k=>exact e3 k (by simpa using h) (by simpa using h')
def IM(F:Nat->Prop)(w:World):Prop:=∀(w':World)(p:i8)(cs:List Value),w.grownBy w' none->rPg.rep w' F p cs->Calls Try.prog 34 #[.agg cs.toArray] w' λe w2=>∃Ve,e=.returned (.agg Ve.toArray)/\rPg.rep w2 (λk=>F k\/w'.heap.size<=k) p Ve/\w'.grownBy w2 none
def L6(ids sids:List (Int×Int))(w:World):Prop:=∀(w':World)(V:Value)(G:Nat->Prop),w.grownBy w' none->RSl rId w' G ids V->Calls Try.prog 33 #[V,.slice none 0 0] w' λe w2=>∃v,e=.returned v/\RSl rId w2 (λk=>G k\/w'.heap.size<=k) sids v/\w'.grownBy w2 none
def Kg(x:Int×Int):Prop:=(Lit.int .i64 x.1).wf=true/\(Lit.int .i64 x.2).wf=true
theorem MgS.row{w wr w':World}{xf xt yf yt:Int}{X Y:Value}{row:Option Nat}(h:MgS w xf xt yf yt X Y (w.heap.size+1+1+1) wr)(hg:wr.grownBy w' row)(hr:∀x,row=some x->w.heap.size+1+1+1<x):MgS w xf xt yf yt X Y (w.heap.size+1+1+1) w':=
 ⟨fY h.grown hg λx e=>by have:=hr x e;omega,h.b2.keep (hg.block _ h.b2.hi λe=>by have:=hr _ e.symm;omega),h.b3.keep (hg.block _ h.b3.hi λe=>by have:=hr _ e.symm;omega),h.b4.keep (hg.block _ h.b4.hi λe=>by have:=hr _ e.symm;omega),h.b6.keep (hg.block _ h.b6.hi λe=>by have:=hr _ e.symm;omega)⟩
structure M2 (w:World)(xf xt yf yt:Int)(X Y:Value)(F:Nat->Prop)(L:List Value)(b9 B2:Nat)(wL:World)(ps:List i8)(k m:Nat)(idsV:Value)(wr:World):Prop where
 bs:MgS w xf xt yf yt X Y (w.heap.size+1+1+1) wr
 map:∃f,PMp wr L b9 k f/\∀id,∃cs:List Value,f id=.agg cs.toArray/\rPg.rep wr F (gQ (ps.take k) id) cs
 ids:Mk rId 56 B2 wr (λ_=>False) idsV ((ps.take m).map iW)
 same:∀x,x<B2->x≠b9->wr.heap[x]?=wL.heap[x]?
 size:B2<=wr.heap.size
 b9q:w.heap.size+1+1+1<b9
 b9B:b9<B2
theorem yW{w wr w':World}{F:Nat->Prop}{p:i8}{cs:List Value}(hF:∀x,F x->x<w.heap.size)(hs:w.heap.size<=wr.heap.size)(h:rPg.rep wr F p cs){row:Option Nat}(hg:wr.grownBy w' row)(hr:∀x,row=some x->w.heap.size<=x):rPg.rep w' F p cs:=
 rPg.keep h λx hx=>hg.block x (by have:=hF x hx;omega) λe=>by have:=hr x e.symm;have:=hF x hx;omega
theorem M2.over{w:World}{xf xt yf yt:Int}{X Y:Value}{F:Nat->Prop}{L:List Value}{b9 B2:Nat}{wL:World}{ps:List i8}{k m m':Nat}{idsV Uz:Value}{wr w':World}{row:Option Nat}(h:M2 w xf xt yf yt X Y F L b9 B2 wL ps k m idsV wr)(hF:∀x,F x->x<w.heap.size)
 (hg:wr.grownBy w' row)(hr:∀x,row=some x->B2<=x)(hi:Mk rId 56 B2 w' (λ_=>False) Uz ((ps.take m').map iW)):M2 w xf xt yf yt X Y F L b9 B2 wL ps k m' Uz w':=by
 have h1:=h.b9q;have h2:=h.b9B;have h3:=h.size;refine⟨h.bs.row hg λx e=>by have:=hr x e;omega,?_,hi,λx hx hn=>(hg.block x (by omega) λe=>by have:=hr x e.symm;omega).trans (h.same x hx hn),Nat.le_trans h3 hg.size,h1,h2⟩;obtain⟨f,hP,hf⟩:=h.map;refine⟨f,hP.kept hg λe=>by have:=hr _ e.symm;omega,λid=>?_⟩;obtain⟨cs,e,hc⟩:=hf id;exact⟨cs,e,yW hF h.bs.grown.size hc hg λx e=>by have:=hr x e;omega⟩
theorem M2.grow{w:World}{xf xt yf yt:Int}{X Y:Value}{F:Nat->Prop}{L:List Value}{b9 B2:Nat}{wL:World}{ps:List i8}{k m:Nat}{idsV:Value}{wr w':World}(h:M2 w xf xt yf yt X Y F L b9 B2 wL ps k m idsV wr)(hF:∀x,F x->x<w.heap.size)
 (hg:wr.grownBy w' none):M2 w xf xt yf yt X Y F L b9 B2 wL ps k m idsV w':=h.over hF hg (λ_ e=>by cases e) (h.ids.grow hg)
theorem M2.put{w:World}{xf xt yf yt:Int}{X Y:Value}{F:Nat->Prop}{L:List Value}{b9 B2:Nat}{wL:World}{ps:List i8}{k m:Nat}{idsV:Value}{wr w':World}{p:i8}{cs:List Value}{f:Int×Int->Value}(h:M2 w xf xt yf yt X Y F L b9 B2 wL ps k m idsV wr)(hF:∀x,F x->x<w.heap.size)
 (hg:wr.grownBy w' (some b9))(hP:PMp w' L b9 (k+1) λx=>if x=iW p then .agg cs.toArray else f x)(hf:∀id,∃cs:List Value,f id=.agg cs.toArray/\rPg.rep wr F (gQ (ps.take k) id) cs)(hrep:rPg.rep wr F p cs)
 (QA:∀id,gQ (ps.take (k+1)) id=if iW p=id then p else gQ (ps.take k) id):M2 w xf xt yf yt X Y F L b9 B2 wL ps (k+1) m idsV w':=by
 have h1:=h.b9q;have h2:=h.b9B;have h3:=h.size;refine⟨h.bs.row hg λx e=>by injection e with e;omega,⟨_,hP,λid=>?_⟩,?_,λx hx hn=>(hg.block x (by omega) λe=>by injection e with e;exact hn e).trans (h.same x hx hn),Nat.le_trans h3 hg.size,h1,h2⟩
 ·rw[QA id];by_cases e:iW p=id
  ·rw[oIP e,oIP e.symm];exact⟨cs,rfl,yW hF h.bs.grown.size hrep hg λx e=>by injection e with e;omega⟩
  ·rw[oIN e,oIN λh=>e h.symm];obtain⟨Ve,e',hc⟩:=hf id;exact⟨Ve,e',yW hF h.bs.grown.size hc hg λx e=>by injection e with e;omega⟩
 ·have ZP:=h.ids.row;obtain⟨ds,d1,d2,d3⟩:=h.ids;refine⟨ds,d1.kept hg ?_,d2,ft.keep (λk hk=>hk.1.elim) d3⟩;cases hv:idsV.ownBlock
  ·exact .inl rfl
  ·exact .inr λe=>by injection e with e;have:=(ZP _ hv).1;omega
structure M3 (w:World)(xf xt yf yt:Int)(X Y:Value)(F:Nat->Prop)(L:List Value)(b9 n q13 B3:Nat)(ps:List i8)(G:Nat->Prop)(sids:List (Int×Int))(SV:Value)(k:Nat)(wr:World):Prop where
 bs:MgS w xf xt yf yt X Y (w.heap.size+1+1+1) wr
 map:∃f,PMp wr L b9 n f/\∀id,∃cs:List Value,f id=.agg cs.toArray/\rPg.rep wr F (gQ ps id) cs
 ids:RSl rId wr G sids SV
 out:∃v,Bk wr q13 28 [.int .i64 xf,.int .i64 yt,v]/\Mk rPg 58 B3 wr (λx=>F x\/B3<=x) v ((sids.take k).map (gQ ps))
 size:B3<=wr.heap.size
theorem M3.grow{w:World}{xf xt yf yt:Int}{X Y:Value}{F:Nat->Prop}{L:List Value}{b9 n q13 B3:Nat}{ps:List i8}{G:Nat->Prop}{sids:List (Int×Int)}{SV:Value}{k:Nat}{wr w':World}(h:M3 w xf xt yf yt X Y F L b9 n q13 B3 ps G sids SV k wr)(hg:wr.grownBy w' none):M3 w xf xt yf yt X Y F L b9 n q13 B3 ps G sids SV k w':=by
 refine⟨h.bs.grow hg,?_,h.ids.grow hg,?_,Nat.le_trans h.size hg.size⟩
 ·obtain⟨f,hP,hf⟩:=h.map;refine⟨f,hP.kept hg (by simp),λid=>?_⟩;obtain⟨cs,e,hc⟩:=hf id;exact⟨cs,e,rPg.grow hc hg⟩
 ·obtain⟨v,h1,h2⟩:=h.out;exact⟨v,h1.grow hg,h2.grow hg⟩
theorem M3.next{w:World}{xf xt yf yt:Int}{X Y:Value}{F:Nat->Prop}{L:List Value}{b9 n q13 B3:Nat}{ps:List i8}{G:Nat->Prop}{sids:List (Int×Int)}{SV:Value}{k:Nat}{wr w':World}(h:M3 w xf xt yf yt X Y F L b9 n q13 B3 ps G sids SV k wr)
 (hF:∀x,F x->x<w.heap.size)(hG:∀x,G x->x<B3/\x≠q13)(h9:w.heap.size+1+1+1<b9)(h9q:b9<q13)(hqB:q13<B3){row:Option Nat}(hg:wr.grownBy w' row)(hr:∀x,row=some x->B3<=x){v0 v:Value}(hb:Bk w' q13 28 [.int .i64 xf,.int .i64 yt,v0])
 (YN:Mk rPg 58 B3 w' (λx=>F x\/B3<=x) v ((sids.take (k+1)).map (gQ ps))):M3 w xf xt yf yt X Y F L b9 n q13 B3 ps G sids SV (k+1) (w'.setCell ⟨q13,2,none⟩ v):=by
 have h3:=h.size;have ZH:w'.grownBy (w'.setCell ⟨q13,2,none⟩ v) (some q13):=grown_set (bY _ _) (.inl rfl) _;have ZD:∀x,x<B3->x≠q13->(w'.setCell ⟨q13,2,none⟩ v).heap[x]?=wr.heap[x]?:=λx hx hn=>(cU _ _ _ hn).trans (hg.block x (by omega) λe=>by have:=hr x e.symm;omega);have hw:=h.bs.grown.size;refine⟨(h.bs.row hg λx e=>by have:=hr x e;omega).row ZH λx e=>by injection e with e;omega,?_,h.ids.keep λx hx=>ZD x (hG x hx).1 (hG x hx).2,⟨v,hb.set 2 v,YN.setBelow hqB (λhx=>by rcases hx with hx|hx;(have:=hF _ hx;dsimp only at this;omega);(dsimp only at hx;omega)) v⟩,by rw[uZ];exact Nat.le_trans h3 hg.size⟩;obtain⟨f,hP,hf⟩:=h.map;refine⟨f,(hP.kept hg λe=>by have:=hr _ e.symm;omega).kept ZH λe=>by injection e with e;omega,λid=>?_⟩;obtain⟨cs,e,hc⟩:=hf id;exact⟨cs,e,rPg.keep hc λx hx=>ZD x (by have:=hF x hx;omega) (by have:=hF x hx;omega)⟩
section
variable {α:Type} {P:Program} {w:World} {R:Rp α} {t e:TypeId} {bytes:Nat}
theorem BQ{ops:Array Oper}{o:Oper}{a:Act}{K:Act->World->Prop}{Q:Exit->Act->World->Prop}{E:Prop}(Yh:o.guard=none)(s x:Operand)(T:SlT P t e R.size bytes)(YD:bytes<=128)(ho:o.op=.call { callee:=.builtin .append,args:=#[s,x],argTypes:=#[t,t] })
 (base:Nat)(G:Nat->Prop)(v:Value)(xs:List α)(hs:a.eval s=v)(hown:Mk R e base w G v xs)(ZE:base<=w.heap.size)
 (b:Nat)(y:α)(cs:List Value)(hx:a.eval x=.slice (some ⟨b,0,none⟩) 1 1)(hy:R.rep w (λk=>G k/\some k≠v.ownBlock) y cs)(hc:∀(j:Nat) u,cs[j]?=some u->w.cell? ⟨b,j,none⟩=some u)
 (hlen:xs.length+1<=1099511627776)
 (h:∀v' w',Mk R e base w' G v' (xs++[y])->w.grownBy w' v.ownBlock->K (a.put o.dst v') w'):if Region.wanted o (yielded ops a.tmps)=true then Oper.wp P o a w K Q else E:=by
 have hw:Region.wanted o (yielded ops a.tmps)=true:=by simp[Region.wanted,Yh]
 rw[oIP hw];obtain⟨ds,h1,h2,h3⟩:=hown
 have hcell:∀(j:Nat) u,cs[j]?=some u->w.cell? ((⟨b,0,none⟩:Addr).add j)=some u:=λj u hu=>by
  rw[show(⟨b,0,none⟩:Addr).add j=⟨b,j,none⟩ by unfold Addr.add;split<;>simp_all];exact hc j u hu
 obtain⟨v',w',hrun,ZZ,hg,W1⟩:=mV (P:=P) (w:=w) T o.type base v xs.length ds h1 ⟨b,0,none⟩ 1 1 cs (by rw[R.len hy];simp) hcell (R.one hy) (rK (by omega)) (wl hlen YD) ZE;unfold Oper.wp;simp only[execOp,ho,resolve,invoke,builtin,Sem.run_bind,Sem.run_pure,Result.andThen_ok,List.map_toArray,List.map_cons,List.map_nil,hs,hx,hrun];refine h v' w' ⟨ds++cs,by rw[List.length_append];exact ZZ,by simpa using hlen,?_⟩ hg;have ZW:=(ft.append h3 (ft.single hy)).live;refine(ft.keep (w':=w') (λk hk=>hg.block k hk.2 hk.1.2) ZW).sub λk hk=>⟨hk.1.1,?_⟩;rcases W1 with e|W1
 ·rw[e];exact hk.1.2
 ·intro e;have:=W1 k e.symm;omega
end
set_option maxRecDepth 100000 in
set_option maxHeartbeats 8000000 in
theorem Cp(F:Nat->Prop)(xs ys:List i8)(sids:List (Int×Int))(X Y:Value)(xf xt yt:Int)(w:World)(hx:RSl rPg w F xs X)(hy:RSl rPg w F ys Y)
 (Tz:FU (.agg #[.int .i64 xf,.int .i64 xt,X]) 0 w)(TC:FU (.agg #[.int .i64 xt,.int .i64 yt,Y]) 0 w)(NM:∀p∈xs++ys,Kg (iW p))(Sk:∀s∈sids,Kg s)(hlen:xs.length+ys.length<=1099511627776)(Wb:sids.length<=1099511627776)
 (Ng:L6 ((xs++ys).map iW) sids w)(QF:IM (λk=>F k/\k<w.heap.size) w):
 Calls Try.prog 16 #[.agg #[.int .i64 xf,.int .i64 xt,X],.agg #[.int .i64 xt,.int .i64 yt,Y]] w λe w'=>
  ∃v,e=.returned (.tuple #[.agg #[.int .i64 xf,.int .i64 yt,v],.int .i64 0])/\RSl rPg w' (λk=>F k\/w.heap.size<=k) (sids.map (gQ (xs++ys))) v/\w.grownBy w' none:=by
 have HX:=Lib.hid hx;have HY:=Lib.hid hy;obtain⟨A1,c1,rfl,_,_,SA⟩:=hx.size_eq;obtain⟨A2,c2,rfl,_,_,P7⟩:=hy.size_eq;have QO:=Lib.hid Tz;have SM:=Lib.hid TC;have HWF:=Lib.hid NM;have HSW:=Lib.hid Sk;have HDM:=Lib.hid Ng;have HPG:=Lib.hid QF;have SO:=Lib.hid (And.intro hlen Wb);obtain⟨n1,XF⟩:∃n,n=xs.length:=⟨_,rfl⟩;obtain⟨n2,Vk⟩:∃n,n=ys.length:=⟨_,rfl⟩;obtain⟨yf,QI⟩:∃yf,yf=xt:=⟨_,rfl⟩;obtain⟨cd,TA⟩:∃cd:Int,cd=0:=⟨_,rfl⟩;obtain⟨ce,TD⟩:∃ce:Int,ce=0:=⟨_,rfl⟩;rw[<- XF]at HX QO⊢;rw[<- Vk]at HY SM⊢;rw[<- QI]at SM;rw[<- TA]at QO;rw[<- TD]at SM;have p':=Lib.hid (And.intro TA TD);have HN:=Lib.hid (And.intro XF Vk);have HYF:=Lib.hid QI
 have eY:(Value.agg #[.int .i64 xt,.int .i64 yt,.slice A2 n2 c2])=.agg #[.int .i64 yf,.int .i64 yt,.slice A2 n2 c2]:=by rw[QI]
 rw[eY];clear hx hy Tz TC NM Sk Ng QF hlen Wb TA TD XF Vk QI SA P7 eY
 go_enter Try.func16,Try.ntmps16
 go_upto_region 2 with fail
 have Q7:MgS w xf xt yf yt (.slice A1 n1 c1) (.slice A2 n2 c2) (w.heap.size+1+1+1) ((((w.alloc (.cells #[.int .i64 xf,.int .i64 xt,.slice A1 n1 c1] 28)).alloc (.cells #[.int .i64 yf,.int .i64 yt,.slice A2 n2 c2] 28)).alloc (.cells #[.int .i64 0,.int .i64 0,.slice none 0 0] 28)).alloc (.cells #[.int .i64 xf,.int .i64 xt,.slice A1 n1 c1,.int .i64 yf,.int .i64 yt,.slice A2 n2 c2] 28)):=by
  have e1:(w.alloc (.cells #[.int .i64 xf,.int .i64 xt,.slice A1 n1 c1] 28)).heap.size=w.heap.size+1:=by simp
  have e2:((w.alloc (.cells #[.int .i64 xf,.int .i64 xt,.slice A1 n1 c1] 28)).alloc (.cells #[.int .i64 yf,.int .i64 yt,.slice A2 n2 c2] 28)).heap.size=w.heap.size+1+1:=by simp
  have e3:(((w.alloc (.cells #[.int .i64 xf,.int .i64 xt,.slice A1 n1 c1] 28)).alloc (.cells #[.int .i64 yf,.int .i64 yt,.slice A2 n2 c2] 28)).alloc (.cells #[.int .i64 0,.int .i64 0,.slice none 0 0] 28)).heap.size=w.heap.size+1+1+1:=by simp
  have g1:w.grownBy (w.alloc (.cells #[.int .i64 xf,.int .i64 xt,.slice A1 n1 c1] 28)) none:=bW (bY _ _) _;have b2:Bk (w.alloc (.cells #[.int .i64 xf,.int .i64 xt,.slice A1 n1 c1] 28)) w.heap.size 28 [.int .i64 xf,.int .i64 xt,.slice A1 n1 c1]:=Bk.new;have g2:(w.alloc (.cells #[.int .i64 xf,.int .i64 xt,.slice A1 n1 c1] 28)).grownBy ((w.alloc (.cells #[.int .i64 xf,.int .i64 xt,.slice A1 n1 c1] 28)).alloc (.cells #[.int .i64 yf,.int .i64 yt,.slice A2 n2 c2] 28)) none:=bW (bY _ _) _;have b3:Bk ((w.alloc (.cells #[.int .i64 xf,.int .i64 xt,.slice A1 n1 c1] 28)).alloc (.cells #[.int .i64 yf,.int .i64 yt,.slice A2 n2 c2] 28)) (w.alloc (.cells #[.int .i64 xf,.int .i64 xt,.slice A1 n1 c1] 28)).heap.size 28 [.int .i64 yf,.int .i64 yt,.slice A2 n2 c2]:=Bk.new;have g3:((w.alloc (.cells #[.int .i64 xf,.int .i64 xt,.slice A1 n1 c1] 28)).alloc (.cells #[.int .i64 yf,.int .i64 yt,.slice A2 n2 c2] 28)).grownBy (((w.alloc (.cells #[.int .i64 xf,.int .i64 xt,.slice A1 n1 c1] 28)).alloc (.cells #[.int .i64 yf,.int .i64 yt,.slice A2 n2 c2] 28)).alloc (.cells #[.int .i64 0,.int .i64 0,.slice none 0 0] 28)) none:=bW (bY _ _) _;have b4:Bk (((w.alloc (.cells #[.int .i64 xf,.int .i64 xt,.slice A1 n1 c1] 28)).alloc (.cells #[.int .i64 yf,.int .i64 yt,.slice A2 n2 c2] 28)).alloc (.cells #[.int .i64 0,.int .i64 0,.slice none 0 0] 28)) ((w.alloc (.cells #[.int .i64 xf,.int .i64 xt,.slice A1 n1 c1] 28)).alloc (.cells #[.int .i64 yf,.int .i64 yt,.slice A2 n2 c2] 28)).heap.size 28 [.int .i64 0,.int .i64 0,.slice none 0 0]:=Bk.new;have g4:(((w.alloc (.cells #[.int .i64 xf,.int .i64 xt,.slice A1 n1 c1] 28)).alloc (.cells #[.int .i64 yf,.int .i64 yt,.slice A2 n2 c2] 28)).alloc (.cells #[.int .i64 0,.int .i64 0,.slice none 0 0] 28)).grownBy ((((w.alloc (.cells #[.int .i64 xf,.int .i64 xt,.slice A1 n1 c1] 28)).alloc (.cells #[.int .i64 yf,.int .i64 yt,.slice A2 n2 c2] 28)).alloc (.cells #[.int .i64 0,.int .i64 0,.slice none 0 0] 28)).alloc (.cells #[.int .i64 xf,.int .i64 xt,.slice A1 n1 c1,.int .i64 yf,.int .i64 yt,.slice A2 n2 c2] 28)) none:=bW (bY _ _) _;have b6:Bk ((((w.alloc (.cells #[.int .i64 xf,.int .i64 xt,.slice A1 n1 c1] 28)).alloc (.cells #[.int .i64 yf,.int .i64 yt,.slice A2 n2 c2] 28)).alloc (.cells #[.int .i64 0,.int .i64 0,.slice none 0 0] 28)).alloc (.cells #[.int .i64 xf,.int .i64 xt,.slice A1 n1 c1,.int .i64 yf,.int .i64 yt,.slice A2 n2 c2] 28)) (((w.alloc (.cells #[.int .i64 xf,.int .i64 xt,.slice A1 n1 c1] 28)).alloc (.cells #[.int .i64 yf,.int .i64 yt,.slice A2 n2 c2] 28)).alloc (.cells #[.int .i64 0,.int .i64 0,.slice none 0 0] 28)).heap.size 28 [.int .i64 xf,.int .i64 xt,.slice A1 n1 c1,.int .i64 yf,.int .i64 yt,.slice A2 n2 c2]:=Bk.new;rw[e1]at b3;rw[e2]at b4;rw[e3]at b6;exact⟨b8 (b8 (b8 g1 g2) g3) g4,((b2.grow g2).grow g3).grow g4,(b3.grow g3).grow g4,b4.grow g4,b6⟩
 generalize(((w.alloc (.cells #[.int .i64 xf,.int .i64 xt,.slice A1 n1 c1] 28)).alloc (.cells #[.int .i64 yf,.int .i64 yt,.slice A2 n2 c2] 28)).alloc (.cells #[.int .i64 0,.int .i64 0,.slice none 0 0] 28)).alloc (.cells #[.int .i64 xf,.int .i64 xt,.slice A1 n1 c1,.int .i64 yf,.int .i64 yt,.slice A2 n2 c2] 28)=W at *;have QR:=Lib.hid Q7;clear Q7
 go_loopw [20] (λi wr=>(i=.int .i64 0\/(i=.int .i64 1/\cd=0)\/(i=.int .i64 2/\cd=0/\ce=0))/\MgS w xf xt yf yt (.slice A1 n1 c1) (.slice A2 n2 c2) (w.heap.size+1+1+1) wr) (λi _=>2-(intOf i).toNat)
 case atStart=>exact⟨.inl rfl,QR.out⟩
 case round=>
  obtain⟨hi,hS⟩:=hrel;have HS:=Lib.hid hS;have U4:=hS.b6.cell 0;have U5:=hS.b6.cell 1;have U6:=hS.b6.cell 2;have U7:=hS.b6.cell 3;have U8:=hS.b6.cell 4;have U9:=hS.b6.cell 5;simp only[List.getElem?_cons_zero,List.getElem?_cons_succ]at U4 U5 U6 U7 U8 U9;clear hS QR;rcases hi with rfl|⟨rfl,Wy⟩|⟨rfl,Wy,Zp⟩
  ·go_wp2_with fail
   refine(QO.out _ (b8 HS.out.grown (bW (bY _ _) _))).mono ?_;rintro e w5 ⟨rfl,Xq⟩;have Yf:=Lib.hid ((HS.out.grow (bW (bY wr none) (.cells #[.int .i64 xf,.int .i64 xt,.slice A1 n1 c1] 28))).grow Xq);clear Xq U4 U5 U6 U7 U8 U9;by_cases hc:cd=0
   ·have UK:(cd != 0)=false:=by simp[hc]
    have Hc:=Lib.hid hc;clear hc
    go_wp2_with fail
    go_roundw
    case rel=>exact⟨.inr (.inl ⟨by go_num,Hc.out⟩),Yf.out⟩
    case measure=>simp[intOf]
   ·have UK:(cd != 0)=true:=by simp[hc]
    exact absurd p'.out.1 hc
  ·have QN:=Lib.hid Wy;clear Wy
   go_wp2_with fail
   refine(SM.out _ (b8 HS.out.grown (bW (bY _ _) _))).mono ?_;rintro e w5 ⟨rfl,Xq⟩;have Yf:=Lib.hid ((HS.out.grow (bW (bY wr none) (.cells #[.int .i64 yf,.int .i64 yt,.slice A2 n2 c2] 28))).grow Xq);clear Xq U4 U5 U6 U7 U8 U9;by_cases hc:ce=0
   ·have UK:(ce != 0)=false:=by simp[hc]
    have Hc:=Lib.hid hc;clear hc
    go_wp2_with fail
    go_roundw
    case rel=>exact⟨.inr (.inr ⟨by go_num,QN.out,Hc.out⟩),Yf.out⟩
    case measure=>simp[intOf]
   ·have UK:(ce != 0)=true:=by simp[hc]
    exact absurd p'.out.2 hc
  ·have X6:=HS.out.b2.cell 1;have SE:=HS.out.b2.cell 2;have Ye:=HS.out.b3.cell 0;have Ym:=HS.out.b3.cell 2;simp only[List.getElem?_cons_zero,List.getElem?_cons_succ]at X6 SE Ye Ym
   have hnb:(xt != yf)=false:=by simp[HYF.out]
   have hmm:=@run_makeMap Try.prog;clear Wy Zp U4 U5 U6 U7 U8 U9
   go_upto_region 12 with fail
   have Nl:wr.grownBy (wr.alloc (.map #[] 0)) none:=bW (bY _ _) _;have QS:=Lib.hid (HS.out.grow Nl);have h9:(wr.alloc (.map #[] 0)).heap[wr.heap.size]?=some (.map #[] 0):=heap_alloc_new wr _
   have hs9:wr.heap.size<(wr.alloc (.map #[] 0)).heap.size:=by simp
   have Tc:=HS.out.grown.size;have hwr3:=HS.out.b6.hi;have H9:=Lib.hid h9;clear X6 SE Ye Ym Nl h9 hnb hmm;generalize wr.alloc (.map #[] 0)=W9 at *;generalize hb9:wr.heap.size=b9 at *;have SE:=QS.out.b2.cell 2;have Ym:=QS.out.b3.cell 2;simp only[List.getElem?_cons_zero,List.getElem?_cons_succ]at SE Ym
   go_wp2_with fail
   have Pk:W9.grownBy (W9.alloc (.cells #[.slice A1 n1 c1,.slice A2 n2 c2] 26)) none:=bW (bY _ _) _;have TJ:=b8 QS.out.grown Pk;refine(yd (λk=>F k/\k<w.heap.size) xs ys W9.heap.size 2 _ _ _ Bk.new (HX.out.live.grow TJ) (HY.out.live.grow TJ) SO.out.1).mono ?_;rintro e Ws ⟨V,rfl,YN,Ru⟩;have Py:Mk rPg 58 (W9.heap.size+1) Ws (λk=>F k/\k<w.heap.size) V (xs++ys):=(YN.base (by simp)).subG λk hk=>hk.1;obtain⟨n,hn⟩:∃n,n=(xs++ys).length:=⟨_,rfl⟩;obtain⟨AV,cV,eV⟩:=YN.shape;rw[<- hn]at eV;subst eV;have Qv:=b8 Pk Ru;have Mt:=Lib.hid (QS.out.grow Qv);have hsL:=Qv.size
   have Tv:Ws.heap[b9]?=some (.map #[] 0):=by rw[Qv.block b9 hs9 (by simp)];exact H9.out
   obtain⟨cs,hown,Pz,Uu⟩:=Py;obtain⟨WS,Zp,Ze,Vh⟩:=uo Uu
   have Qp:∃gV,∀k,k<n->AV=some ⟨gV,0,none⟩/\gV<Ws.heap.size/\b9<gV/\∀(w':World),w'.heap[gV]?=Ws.heap[gV]?->∀(h':k<WS.length) (j:Nat) u,j<11->WS[k][j]?=some u->w'.cell? ⟨gV,k*11+j,none⟩=some u:=by
    rcases hown.2 with⟨e1,e2⟩|⟨g,cap,cur,e1,hb,YW,hcap,hmax,hsz,Zy⟩
    ·exact⟨0,λk hk=>by omega⟩
    ·refine⟨g,λk hk=>⟨by injection e1 with e1,(Array.getElem?_eq_some_iff.1 YW).1,by omega,λw' Sy h' j u hj hu=>?_⟩⟩;have hcell:=World.ownsRow.cells (g:=g) hown (by rw[e1];rfl)
     have hlen:∀q∈WS,q.length=11:=λq hq=>by
      obtain⟨i,hi,rfl⟩:=List.getElem_of_mem hq;exact rPg.len (Vh i (by omega) hi)
     have Zq:=ic (c:=WS) (sz:=11) (λi h=>hlen _ (List.getElem_mem h)) (i:=k) (j:=j) h' (by rw[hlen _ (List.getElem_mem h')];exact hj)
     have h2:=hcell (k*11+j) u (by
      rw[Ze,Zq,<- hu]
      exact(oGE _).symm)
     rw[dz,Nat.zero_add]at h2;rw[World.cell?_of_block (w:=Ws) Sy];exact h2
   obtain⟨gV,Qp⟩:=Qp;have HC:=Lib.hid Qp;have aN:=Lib.hid (λk h h'=>rPg.sub (G:=λk=>F k/\k<w.heap.size) (Vh k h h') λx hx=>hx.1);have HCL:=Lib.hid Zp;have Hn:=Lib.hid hn;clear hown Uu Zp Ze Vh Qp YN Ru Qv Pk TJ SE Ym Pz hn;obtain⟨L,hL⟩:∃L:List Value,L=zPg::WS.map (λq=>.agg q.toArray):=⟨_,rfl⟩
   have SD:zPg∈L:=by rw[hL];simp
   have HZL:=Lib.hid SD;have HL:=Lib.hid hL
   have OL:w.heap.size+1+1+1<b9:=by omega
   have OK:b9<Ws.heap.size:=(Array.getElem?_eq_some_iff.1 Tv).1
   have E':=Lib.hid (show M2 w xf xt yf yt (.slice A1 n1 c1) (.slice A2 n2 c2) (λk=>F k/\k<w.heap.size) L b9 Ws.heap.size Ws (xs++ys) 0 0 (.slice none 0 0) Ws from
    ⟨Mt.out,⟨λ_=>zPg,⟨_,⟨#[],0,Tv,⟨by simp,MapKept.stamped_empty 0,by simp⟩,Nat.le_refl _,rfl⟩,λ_ _ _ _=>by
     obtain⟨i,h1,h2⟩:=El SD
     exact⟨i,h1,h2⟩⟩,λid=>FY _ _⟩,Mk.nil _ _ _ _ _,λ_ _ _=>rfl,Nat.le_refl _,OL,OK⟩)
   clear SD hL Tv Mt QS
   go_wp2_with fail
   go_loopw [10,45] (λids i wr=>∃k:Nat,k<=n/\i=.int .i64 k/\M2 w xf xt yf yt (.slice A1 n1 c1) (.slice A2 n2 c2) (λk=>F k/\k<w.heap.size) L b9 Ws.heap.size Ws (xs++ys) k k ids wr) (λ_ i _=>n-(intOf i).toNat)
   case atStart=>exact⟨0,Nat.zero_le _,rfl,E'.out⟩
   case round=>
    clear E';obtain⟨k,hk,rfl,hm⟩:=hrel;have HM:=Lib.hid hm;clear hm;by_cases hlt:k<n
    ·obtain⟨hAV,Z0,ZH,ZV⟩:=HC.out k hlt
     have Qz:k<WS.length:=by rw[HCL.out,<- Hn.out];exact hlt
     have RG:k<(xs++ys).length:=by rw[<- Hn.out];exact hlt
     obtain⟨y,z,XW,hy,hz⟩:=AX (aN.out k RG Qz)
     have PY:Value.agg WS[k].toArray∈L:=by
      rw[HL.out];exact List.mem_cons_of_mem _ (List.mem_map.2 ⟨_,List.getElem_mem Qz,rfl⟩)
     have Ny:=HWF.out _ (List.getElem_mem RG);have hrep:=aN.out k RG Qz;have So:(xs++ys).take (k+1)=(xs++ys).take k++[(xs++ys)[k]]:=List.take_succ_eq_append_getElem RG;have QA:=λid=>zj RG id;have hcell:=ZV wr (HM.out.same gV Z0 (by omega)) Qz;generalize(xs++ys)[k]=p at *;generalize WS[k]=cs at *;subst XW;obtain⟨a,c,pc,v0,v1,v2,v3,v4,v5,v6,pr⟩:=p;obtain⟨Ay,cy,rfl,_,_,_⟩:=hy.size_eq;obtain⟨Az,cz,rfl,_,_,_⟩:=hz.size_eq;subst hAV;dsimp only at *;generalize pc.length=ly at *;generalize pr.length=lz at *;have Ti:=Lib.hid hrep;have Lk:=Lib.hid Ny;have Oh:=Lib.hid So;have HLS:=Lib.hid QA;simp only[pgC,vwC]at PY hcell;have HVL:=Lib.hid PY;have c0:=hcell 0 _ (by decide) rfl;have Oj:=hcell 1 _ (by decide) rfl;have Vd:=hcell 2 _ (by decide) rfl;have c3':=hcell 3 _ (by decide) rfl;have c4:=hcell 4 _ (by decide) rfl;have c5:=hcell 5 _ (by decide) rfl;have c6:=hcell 6 _ (by decide) rfl;have c7:=hcell 7 _ (by decide) rfl;have c8:=hcell 8 _ (by decide) rfl;have c9:=hcell 9 _ (by decide) rfl;have c10:=hcell 10 _ (by decide) rfl;simp only[Nat.add_zero]at c0;clear hcell ZV PY Ny hrep So QA hy hz
     have x2:(0:Int)<=(k:Int):=by omega
     have x3:(k:Int)<(n:Int):=by omega
     have x5:(k:Int).toNat=k:=by omega
     have Yw:wr.grownBy (wr.alloc (.cells #[.int .i64 a,.int .i64 c,.slice Ay ly cy,.int .i64 v0,.int .i64 v1,.int .i64 v2,.int .i64 v3,.int .i64 v4,.int .i64 v5,.int .u16 v6,.slice Az lz cz] 58)) none:=bW (bY _ _) _;have YC:Bk (wr.alloc (.cells #[.int .i64 a,.int .i64 c,.slice Ay ly cy,.int .i64 v0,.int .i64 v1,.int .i64 v2,.int .i64 v3,.int .i64 v4,.int .i64 v5,.int .u16 v6,.slice Az lz cz] 58)) wr.heap.size 58 [.int .i64 a,.int .i64 c,.slice Ay ly cy,.int .i64 v0,.int .i64 v1,.int .i64 v2,.int .i64 v3,.int .i64 v4,.int .i64 v5,.int .u16 v6,.slice Az lz cz]:=Bk.new;obtain⟨f,Na,XD⟩:=(HM.out.grow (λx h=>h.2) Yw).map;obtain⟨w7,hrun,M',Pi⟩:=Na.update (show k<9223372036854775807 by have:=SO.out.1;have:=Hn.out;simp at this;omega) Lk.out.1 Lk.out.2 HVL.out;simp only[iW]at hrun;have hw6:=YC.hi;have h97:=HM.out.b9B;have V9:=YC.keep (Pi.block _ hw6 (by have:=HM.out.size;intro e;injection e with e;omega));have UC:=Lib.hid ((HM.out.grow (λx h=>h.2) Yw).put (λx h=>h.2) Pi M' XD (rPg.grow (rPg.keep (w':=wr) Ti.out λx hx=>HM.out.same x (by have:=HM.out.b9q;have:=HM.out.b9B;have:=hx.2;omega) (by have:=HM.out.b9q;have:=hx.2;omega)) Yw) HLS.out);have QM:=Lib.hid V9;have m0:=YC.cell 0;have m1:=YC.cell 1;have m2:=YC.cell 2;have m3:=YC.cell 3;have m4:=YC.cell 4;have m5:=YC.cell 5;have m6:=YC.cell 6;have m7:=YC.cell 7;have m8:=YC.cell 8;have m9:=YC.cell 9;have m10:=YC.cell 10;simp only[List.getElem?_cons_zero,List.getElem?_cons_succ]at m0 m1 m2 m3 m4 m5 m6 m7 m8 m9 m10;have o0:=V9.cell 0;have o1:=V9.cell 1;simp only[List.getElem?_cons_zero,List.getElem?_cons_succ]at o0 o1;clear V9;clear M' Pi XD Na YC
     go_upto_region 15 with fail
     generalize wr.alloc (.cells #[.int .i64 a,.int .i64 c,.slice Ay ly cy,.int .i64 v0,.int .i64 v1,.int .i64 v2,.int .i64 v3,.int .i64 v4,.int .i64 v5,.int .u16 v6,.slice Az lz cz] 58)=W6 at *;have Oi:=Lib.hid (show w7.grownBy (w7.alloc (.cells #[.int .i64 a,.int .i64 c] 56)) none from bW (bY _ _) _);obtain⟨AI,cI,eI⟩:=UC.out.ids.shape;generalize hidl:((xs++ys).take k).map iW=IL at eI;have SN:=Lib.hid hidl;have heI:=Lib.hid eI;subst eI;clear hidl
     go_upto_region 16 with fail
     go_wp2_with (at_builtin;go_loud (refine wB (R:=rId) rfl (.tmp 53) (.tmp 56) Ma (by decide) rfl Ws.heap.size (λ_=>False) (.slice AI IL.length cI) IL rfl ?c1 ?c2 w7.heap.size (a,c) [.int .i64 a,.int .i64 c] rfl ?c3 ?c4 ?c5 ?_))
     case c1=>have hx:=UC.out.ids.grow Oi.out;rw[SN.out]at hx;exact hx
     case c2=>have:=UC.out.size;have:=Oi.out.size;omega
     case c3=>exact LR (a,c)
     case c5=>rw[<- SN.out];have:=SO.out.1;have:=Hn.out;simp at this⊢;omega
     intro v' w12 VR Rv;have ZP:=UC.out.ids.row;obtain⟨AJ,cJ,rfl⟩:=VR.shape
     have XG:n<=1099511627776:=by have:=SO.out.1;have:=Hn.out;simp at this;omega
     have Od:=Lib.hid ((UC.out.grow (λx h=>h.2) Oi.out).over (λx h=>h.2) Rv (λx e=>(ZP x e).1) (m':=k+1) (by rw[Oh.out,List.map_append,SN.out];exact VR));clear VR Rv ZP
     go_wp2_with fail
     go_roundw
     case rel=>exact⟨k+1,by omega,by go_num,Od.out⟩
     case measure=>simp[intOf];omega
    ·have RF:k=n:=by omega
     subst RF;have M0:=HM.out.bs.b2.cell 0;have M1:=HM.out.bs.b3.cell 1;simp only[List.getElem?_cons_zero,List.getElem?_cons_succ]at M0 M1;obtain⟨AI,cI,eI⟩:=HM.out.ids.shape
     have PK:(xs++ys).take k=xs++ys:=by rw[Hn.out];exact List.take_length
     have HPS:=Lib.hid PK;have Oc:=Lib.hid ((HM.out.ids.done (F:=λx=>Ws.heap.size<=x) (λ_ h=>h) λ_ h=>h.elim).live);rw[PK]at Oc eI;generalize hidl:((xs++ys).map iW).length=il at eI;subst eI;clear hidl PK;have S2:wr.grownBy (wr.alloc (.cells #[.int .i64 xf,.int .i64 yt,.slice none 0 0] 28)) none:=bW (bY _ _) _;have Xh:=Lib.hid (show Bk (wr.alloc (.cells #[.int .i64 xf,.int .i64 yt,.slice none 0 0] 28)) wr.heap.size 28 [.int .i64 xf,.int .i64 yt,.slice none 0 0]from Bk.new);have SR:=Lib.hid (HM.out.grow (λx h=>h.2) S2);have B':=Lib.hid S2;clear S2
     go_upto_region 19 with fail
     go_wp2_with fail
     refine(HDM.out _ _ _ SR.out.bs.grown (Oc.out.grow B'.out)).mono ?_;rintro e SJ ⟨SV,rfl,S9,Wi⟩;have h99:=SR.out.b9q;have h9B:=SR.out.b9B;have M6:=HM.out.size;have PP:=Wi.size;simp at PP
     have Qq:∃G:Nat->Prop,(∀x,G x->x<SJ.heap.size/\x≠wr.heap.size)/\M3 w xf xt yf yt (.slice A1 n1 c1) (.slice A2 n2 c2) (λk=>F k/\k<w.heap.size) L b9 k wr.heap.size SJ.heap.size (xs++ys) G sids SV 0 SJ:=
      ⟨_,λx hx=>⟨hx.2,by rcases hx.1 with h|h;(have:=h.2;omega);(simp at h;omega)⟩,(SR.out.grow (λx h=>h.2) Wi).bs,by have:=(SR.out.grow (λx h=>h.2) Wi).map;rw[HPS.out]at this;exact this,S9.live,⟨_,Xh.out.grow Wi,Mk.nil _ _ _ _ _⟩,Nat.le_refl _⟩
     obtain⟨G,hG,Qq⟩:=Qq;have Oe:=Lib.hid Qq;have HGG:=Lib.hid hG;clear Qq hG;obtain⟨AS,cS,rfl,_,_,Wb⟩:=S9.size_eq;obtain⟨nS,QD⟩:∃n,n=sids.length:=⟨_,rfl⟩;rw[<- QD]at Oe;rw[<- QD]at Wb⊢;have Ql:=Lib.hid QD;have HG19:=Lib.hid Wi;generalize hq13:wr.heap.size=q13 at *;clear S9 Wi QD SR Xh B' Oc M0 M1
     have hB3:q13<SJ.heap.size:=by omega
     generalize hgb3:SJ.heap.size=B3 at *;clear HM
     go_wp2_with fail
     go_loopw [67] (λi wy=>∃m:Nat,m<=nS/\i=.int .i64 m/\M3 w xf xt yf yt (.slice A1 n1 c1) (.slice A2 n2 c2) (λk=>F k/\k<w.heap.size) L b9 k q13 B3 (xs++ys) G sids (.slice AS nS cS) m wy) (λi _=>nS-(intOf i).toNat)
     case atStart=>exact⟨0,Nat.zero_le _,rfl,Oe.out⟩
     case round=>
      clear Oe;obtain⟨m,hm,rfl,hst⟩:=hrel;have HM:=Lib.hid hst;clear hst;by_cases hlt:m<nS
      ·have PA:m<sids.length:=by rw[<- Ql.out];exact hlt
       obtain⟨qs,so,cS',scs,e,_,_,hGq,hid,hcl⟩:=HM.out.ids.at_ PA;rw[<- Ql.out]at e
       injection e with e1 e2 e3
       subst e1;subst e3;have So:sids.take (m+1)=sids.take m++[sids[m]]:=List.take_succ_eq_append_getElem PA;have Sk:=HSW.out _ (List.getElem_mem PA);generalize sids[m]=s at *;obtain⟨a,c⟩:=s;have e:=KY hid;subst e;have s0:=hcl 0 _ rfl;have s1:=hcl 1 _ rfl;simp only[show rId.size=2 from rfl,Nat.add_zero]at s0 s1;rw[<- Nat.add_assoc]at s1;clear hid hcl
       have x2:(0:Int)<=(m:Int):=by omega
       have x3:(m:Int)<(nS:Int):=by omega
       have x5:(m:Int).toNat=m:=by omega
       obtain⟨f,hP,hf⟩:=HM.out.map;obtain⟨cs,MW,hrep⟩:=hf (a,c);have Yw:wr.grownBy (wr.alloc (.cells #[.int .i64 a,.int .i64 c] 56)) none:=bW (bY _ _) _;have Tu:Bk (wr.alloc (.cells #[.int .i64 a,.int .i64 c] 56)) wr.heap.size 56 [.int .i64 a,.int .i64 c]:=Bk.new;have R9:=((hP.kept Yw (by simp)).kept (dq (bY _ none)) (by simp)).lookup HZL.out Sk.1 Sk.2;rw[MW]at R9;have Ti:=Lib.hid ((rPg.grow hrep Yw));have Oh:=Lib.hid So;have Yd:=Lib.hid Yw;generalize hlp:gQ (xs++ys) (a,c)=p at *;have HLP:=Lib.hid hlp;clear hP hf hrep MW So Yw hlp;obtain⟨v0,Xo,YN⟩:=HM.out.out;have r0:=(Tu.drew).cell 0;have r1:=(Tu.drew).cell 1;have j2:=((Xo.grow Yd.out).drew).cell 2;simp only[List.getElem?_cons_zero,List.getElem?_cons_succ]at r0 r1 j2;have Xh:=Lib.hid (Xo.grow Yd.out);have SQ:=Lib.hid (YN.grow Yd.out);clear Xo YN Tu;have hq13:=Xh.out.hi;generalize hilm:(sids.take m).map (gQ (xs++ys))=IL at *;have SN:=Lib.hid hilm;clear hilm
       go_upto_region 22 with fail
       generalize hW15:wr.alloc (.cells #[.int .i64 a,.int .i64 c] 56)=W15 at *;clear hW15
       go_region_law (first
        |(go_simp;go_at_call 34;refine(HPG.out _ p cs (dq (b8 HM.out.bs.grown Yd.out)) (rPg.grow Ti.out (dq (bY _ none)))).mono ?_;rintro e N0 ⟨Ve,rfl,X2,Wj⟩;obtain⟨y',z',rfl,V4,SC⟩:=AX X2;have Wj:=b8 (dq (bY W15 none)) Wj;have j3:=(Xh.out.grow Wj).cell 2;have q3:=(Xh.out.grow Wj).hi;simp only[List.getElem?_cons_zero,List.getElem?_cons_succ]at j3;have Og:=Lib.hid X2;have Vo:=Lib.hid Wj;clear X2 Wj V4 SC;simp only[pgC,vwC])
        |(refine BQ (R:=rPg) rfl (.tmp 72) (.tmp 77) Lv (by decide) (by rfl) B3 (λx=>(F x/\x<w.heap.size)\/B3<=x) v0 IL (by rfl) (SQ.out.grow (bW Vo.out _)) (by have h1:=HM.out.size;have h2:=Yd.out.size;have h3:=Vo.out.size;replace h3:W15.heap.size<=N0.heap.size:=h3;simp;omega) N0.heap.size p (pgC p y' z') (by rfl) (rPg.sub (rPg.grow Og.out (bW (bY _ none) _)) (λx hx=>⟨by rcases hx with h|h;exact .inl h;exact .inr (by have h1:=HM.out.size;have h2:=Yd.out.size;replace h:W15.heap.size<=x:=h;omega),λe=>by have h1:=SQ.out.row x e.symm;have h2:=HM.out.size;have h3:=HM.out.bs.grown.size;(rcases hx with h|h;(have:=h.2;omega);(replace h:W15.heap.size<=x:=h;omega))⟩)) (λj u hj=>Hw rfl hj) (by rw[<- SN.out];have:=SO.out.2;simp;omega) ?_;intro v' w24 VS TH;obtain⟨A4,c4,rfl⟩:=VS.shape;have VC:=((Xh.out.grow (bW Vo.out (.cells (pgC p y' z').toArray 58))).keep (TH.block _ (Xh.out.grow (bW Vo.out (.cells (pgC p y' z').toArray 58))).hi (λe=>by have h1:=(SQ.out.row _ e.symm).1;omega)));have f24:=VC.free 2;have j24:=VC.cell 2;simp only[List.getElem?_cons_zero,List.getElem?_cons_succ]at j24;have q24:=VC.hi;have N4:=Lib.hid VC;have QQ:=Lib.hid VS;have N5:=Lib.hid TH;clear VC VS TH))
       all_goals
        have HSX:=Lib.hid (HM.out.next (λx h=>h.2) (λx h=>HGG.out x h) h99 (show b9<q13 by omega) hB3 (b8 (lW (bW (b8 Yd.out Vo.out) (.cells (pgC p y' z').toArray 58))) N5.out) (λx e=>(SQ.out.row x e).1) N4.out (by rw[Oh.out,List.map_append,SN.out,List.map_cons,List.map_nil,HLP.out];exact QQ.out))
        have XG:nS<=1099511627776:=by rw[Ql.out];exact SO.out.2
        go_wp2_with fail
        go_roundw
        case rel=>exact⟨m+1,by omega,by go_num,by have NG:=HSX.out;simp only[List.length_append,oLC,List.length_nil,Nat.zero_add]at NG;exact NG⟩
        case measure=>simp[intOf];omega
      ·have QC:m=nS:=by omega
       subst QC;obtain⟨v0,Xo,YN⟩:=HM.out.out;have j0:=Xo.cell 0;have j1:=Xo.cell 1;have j2:=Xo.cell 2;have Y5:=HM.out.bs.b4.cell 0;have Y6:=HM.out.bs.b4.cell 1;have V5:=HM.out.bs.b4.cell 2;have WT:=HM.out.bs.b4.free 0;have f41:=HM.out.bs.b4.free 1;have Oy:=HM.out.bs.b4.free 2;have q4:=HM.out.bs.b4.hi;simp only[List.getElem?_cons_zero,List.getElem?_cons_succ]at Y5 Y6 V5 j0 j1 j2;obtain⟨A5,c5,e5⟩:=YN.shape
       have Nc:sids.take m=sids:=by rw[Ql.out];exact List.take_length
       rw[Nc]at YN e5;generalize hl5:(sids.map (gQ (xs++ys))).length=l5 at e5;subst e5;have SQ:=Lib.hid YN;clear YN Nc hl5 Xo
       go_wp2_with fail
       refine bodyPost_ret (v:=.tuple #[.agg #[.int .i64 xf,.int .i64 yt,.slice A5 l5 c5],.int .i64 0]) (by simp[results,Try.results16,go_sem,Y5,Y6,V5,q4]) rfl ?_;refine⟨_,rfl,?_,HM.out.bs.err _ _ _⟩;refine((SQ.out.done (F:=λx=>(F x/\x<w.heap.size)\/B3<=x) (λk hk=>.inr hk) λk hk=>hk).keep (λx hx=>?_)).sub λx hx=>?_
       ·have hne:x≠w.heap.size+1+1:=by rcases hx with h|h;(have:=h.2;omega);omega
        rw[cU _ _ _ hne,cU _ _ _ hne,cU _ _ _ hne]
       ·rcases hx with h|h
        ·exact .inl h.1
        ·exact .inr (by omega)
end Go.Proofs.Ytbdhpgelkfncpaa
namespace Go.Proofs.Ytbdhpgelkfncpaa
open Go.RowKit
inductive qD (w:World)(F:Nat->Prop):TV->Value->Prop
 |im {t:TV} {x:Value} (h:fR w F t x):qD w F t x
 |fn {f:FuncId}:qD w F (.fn f []) (.func (.func f) #[] #[])
 |ag {l:List TV} {cs:Array Value} (hl:cs.size=l.length) (h:∀j (hj:j<l.length),fR w F l[j] (cs.getD j undef)):qD w F (.agg l) (.agg cs)
def KW:TV->Bool
 |.v _=>true
 |.sl _=>true
 |_=>false
def zq:TV->Bool
 |.sl _=>true
 |.v _=>true
 |.fn _ []=>true
 |.agg l=>l.all KW
 |_=>false
def BI(P:Program)(f:FuncId)(vals:List TV)(r:sO):Prop:=
 r.cells.all KW=true/\∀(avs:List Value)(w:World)(F:Nat->Prop),avs.length=vals.length->(∀j (h:j<vals.length)(h':j<avs.length),qD w F vals[j] avs[j])->
  Calls P f avs.toArray w λe w2=>∃ys,e=.returned (ji r.sh ys)/\ys.length=r.cells.length/\Below w.heap.size w w2/\∀j (h:j<r.cells.length),fR w2 (λk=>F k\/w.heap.size<=k) r.cells[j] (ys.getD j undef)
def xk(R:FuncId->List TV->Option sO):dw:=λf vals pts=>
 match pts with
 | []=>if vals.all zq then(R f vals).map λr=>(r,[])else none
 |_=>none
section
variable {M:Fm} {σ:St} {ts:Array Value} {w:World}
theorem Inv.addHands{F:Nat->Prop}:∀{z:List TV}{ys:List Value}{H:List TV}{xs:List Value}{G:Gh},Inv M σ H xs ts w G->(∀k,F k->G.F M.A k)->z.length=ys.length->(∀j (h:j<z.length),fR w F z[j] (ys.getD j undef))->∃G',Inv M σ (H++z) (xs++ys) ts w G':=by
 intro z
 induction z with
 |nil=>
  intro ys H xs G hI _ hl _;have:ys=[]:=List.length_eq_zero_iff.1 hl.symm;subst this;exact⟨G,by simpa using hI⟩
 |cons t z ih=>
  intro ys H xs G hI hF hl hz
  cases ys with
  |nil=>simp at hl
  |cons y ys=>
   obtain⟨G1,hg⟩:=hI.addHand ((hz 0 (by simp)).frame (F':=G.F M.A) (λ_ _ _=>rfl) λk hk _=>hF k hk).toOwn
   obtain⟨G2,ZJ⟩:=ih hg.1 (λk hk=>hg.2.1 k (hF k hk)) (by simpa using hl) λj hj=>by have:=hz (j+1) (by simpa using hj);simpa using this
   refine⟨G2,?_⟩;simpa using ZJ
end
theorem JL{P:Program}{R:FuncId->List TV->Option sO}(hR:∀f vals r,R f vals=some r->gX P f/\BI P f vals r):eR P (xk R):=by
 intro f vals pts res Zt h
 cases pts with
 |cons _ _=>simp[xk]at h
 |nil=>
  simp only[xk]at h;split at h
  case isFalse=>simp at h
  rename_i ZW;simp only[List.all_eq_true]at ZW
  obtain⟨r,hr,he⟩:∃r,R f vals=some r/\(r,[])=(res,Zt):=by
   cases hr:R f vals with
   |none=>simp[hr]at h
   |some c=>exact⟨c,rfl,by simpa[hr]using h⟩
  injection he with e1 e2
  subst e1 e2;obtain⟨Y9,Wl,TN⟩:=hR f vals r hr;refine⟨Y9,vals.length,Nat.le_refl _,λM avs w G hal hN QH Yz hI=>?_⟩;subst QH
  have Sq:avs.toArray++Array.replicate (vals.length-avs.length) undef=avs.toArray:=by rw[hal];simp
  rw[Sq]at hI
  have hst:∀j,(mkSt vals []).t j=vals.getD j .dead:=by
   intro j;simp[St.t,mkSt,jI]
  refine(TN avs M.w0 (G.F M.A) hal λj hj ZU=>?_).mono λe w2 ⟨ys,VJ,hlen,hb,Ya⟩=>?_
  ·have ht:=hI.tmr j;rw[hst]at ht
   have e1:vals.getD j .dead=vals[j]:=by simp[hj]
   have e2:avs.toArray.getD j undef=avs[j]:=by simp[Array.getD_eq_getD_getElem?,ZU]
   rw[e1,e2]at ht;have ha:=ZW _ (List.getElem_mem hj);revert ht ha;generalize vals[j]=t;generalize avs[j]=y;intro ht ha
   cases ht with
   |v h=>exact .im (.v h)
   |sl h=>exact .im h
   | @fn f l xs hl h=>
    cases l with
    |nil=>
     have:xs=#[]:=Array.eq_empty_of_size_eq_zero (by simpa using hl);subst this;exact .fn
    |cons _ _=>simp[zq]at ha
   | @agg l cs hl h=>
    refine .ag hl λj hj=>?_;have h1:KW l[j]=true:=List.all_eq_true.1 ha _ (List.getElem_mem hj);have h2:=h j hj;revert h1 h2;generalize l[j]=t;generalize cs.getD j undef=z;intro h1 h2
    cases h2 with
    |v h2=>exact .v h2
    |sl h2=>exact h2
    |_=>simp[KW]at h1
   |_=>simp[zq]at ha
  ·obtain⟨ZJ,_⟩:=hI.grow (w':=w2) (λk hk=>hb.block k hk) hb.size hb.os hb.tape hb.output
   have hF:∀k,G.F M.A k\/M.w0.heap.size<=k->G.F M.A k:=by
    rintro k (hk|hk)
    ·exact hk
    ·refine⟨M.hA k hk,λr o hφ=>?_,λr b o n hβ e=>?_⟩
     ·have:=hI.core.live hφ;omega
     ·subst e;have:=hI.core.boxlt hβ;omega
   obtain⟨G',WV⟩:=ZJ.addHands hF hlen.symm Ya;refine⟨_,mkSt vals [],VJ,.inl ⟨ys,avs.toArray,G',rfl,by simpa using WV,λj hj=>.inl ?_⟩,rfl⟩;have:=List.all_eq_true.1 Wl _ (List.getElem_mem hj);revert this;generalize r.cells[j]=t;intro this
   cases t with
   |v _=>rfl
   |sl _=>rfl
   |_=>simp[KW]at this
def E2:TV->Bool
 |.v _=>true
 |.sl _=>true
 |.ow _=>true
 |_=>false
theorem qZ{w:World}{F:Nat->Prop}{a:Option Addr}:fR w F (.sl []) (.slice a 0 0):=
 .sl (c:=[]) 1 (λ_ _=>.nilFunc) (λi h=>by simp at h) (Nat.le_refl _) (Nat.zero_le _) (λ_=>rfl) (λi j h=>by simp at h) (λi j h=>by simp at h)
theorem qD.toTm{w:World}{F:Nat->Prop}{V:Vs}{C:Cs}{G:Gh}{t:TV}{x:Value}(h:qD w F t x):TmR w F V C G t x:=by
 cases h with
 |im h=>exact h.toTm
 |fn=>exact .fn rfl λj hj=>by simp at hj
 |ag hl h=>exact .agg hl λj hj=>(h j hj).toTm
theorem qD.frame{w w':World}{F F':Nat->Prop}{t:TV}{x:Value}(h:qD w F t x)(hw:∀k,F k->k<w.heap.size->w'.heap[k]?=w.heap[k]?)(hF:∀k,F k->k<w.heap.size->F' k):qD w' F' t x:=by
 cases h with
 |im h=>exact .im (h.frame hw hF)
 |fn=>exact .fn
 |ag hl h=>exact .ag hl λj hj=>(h j hj).frame hw hF
theorem oN{P:Program}{B:dw}(hB:eR P B){f:FuncId}{vals:List TV}{avs:List Value}{res:sO}{w:World}{F:Nat->Prop}(h:B f vals []=some (res,[]))(Zq:res.cells.all E2=true)(hl:avs.length=vals.length)
 (hv:∀j (h:j<vals.length)(h':j<avs.length),qD w F vals[j] avs[j]):
 Calls P f avs.toArray w λe w'=>∃ys,e=.returned (ji res.sh ys)/\ys.length=res.cells.length/\Below w.heap.size w w'/\∀j (h:j<res.cells.length),fR w' (λk=>F k\/w.heap.size<=k) res.cells[j].imm (ys.getD j undef):=by
 obtain⟨Y9,N,hN,hc⟩:=hB f vals [] _ _ h;obtain⟨M,hM⟩:∃M:Fm,M=⟨w,λk=>F k\/w.heap.size<=k,λ_=>False,λ_=>none,N,λk hk=>.inr hk⟩:=⟨_,rfl⟩;have Y8:∀k,F k->frG.F M.A k:=λk hk=>⟨by rw[hM];exact .inl hk,λ_ _ h=>h,λ_ _ _ _ h=>by simp[frG]at h⟩
 have hst:∀i,(mkSt vals []).t i=vals.getD i .dead:=by
  intro i;simp[St.t,mkSt,jI]
 have hE:∀r o,cB M (mkSt vals []) [] r o=.dead:=by
  intro r o;unfold cB;split
  ·simp
  ·rfl
 have hI:Inv M (mkSt vals []) [] [] (avs.toArray++Array.replicate (N-avs.length) undef) w frG:=by
  refine⟨⟨λr o=>.inl ⟨hE r o,λ_ h=>h⟩,λ_ _ _ _ h=>by simp[frG]at h,λ_ _ _ _ h=>by simp[frG]at h,λ_ _ _ _ _ _ _ h=>by simp[frG]at h,λ_ _ _ _ h=>by simp[frG]at h,λ_ _ _ _ _ h=>h.elim,λ_ _ _ h=>h.elim⟩,λi=>?_,⟨by rw[hM],by rw[hM],by rw[hM],by rw[hM];exact Nat.le_refl _,λ_ _ _ _=>by rw[hM],λ_ _ _ _ h=>by simp[hM]at h,λ_ _ _ h=>h.elim,λ_ _ _ _ h=>by simp[frG]at h,λ_ h=>by simp[frG]at h⟩,λr l h=>by simp[mkSt,cx]at h,?_,rfl,λj hj=>by simp at hj,λ_ _ _ _ h=>by simp[frG]at h⟩
  ·rw[hst];by_cases hi:i<vals.length
   ·have ZM:i<avs.length:=by omega
    have e1:vals.getD i .dead=vals[i]:=by simp[hi]
    have e2:(avs.toArray++Array.replicate (N-avs.length) undef).getD i undef=avs[i]:=by
     simp[Array.getD_eq_getD_getElem?,Array.getElem?_append,ZM]
    rw[e1,e2];exact((hv i hi ZM).frame (w':=w) (F':=frG.F M.A) (λ_ _ _=>rfl) λk hk _=>Y8 k hk).toTm
   ·have e1:vals.getD i .dead=.dead:=by rw[oGD,oGN (by omega)];rfl
    rw[e1];exact .dead
  ·rw[hM];simp;omega
 refine(hc M avs w frG hl (by rw[hM]) (by rw[hM]) (λr hr=>by simp[hM]at hr) hI).mono λe w2 ⟨v,σ2,he,Yg,_⟩=>?_
 rcases Yg with⟨ys,ts2,G2,rfl,ZJ,_⟩|⟨q,vs,l,pv,ts2,G2,ZV,_⟩
 rotate_left
 ·rw[ZV]at Zq;simp[E2]at Zq
 have ZN:∀j (h:j<res.cells.length),res.cells[j]≠.dead:=λj hj e=>by
  have:=List.all_eq_true.1 Zq res.cells[j] (List.getElem_mem hj);rw[e]at this;simp[E2]at this
 obtain⟨G3,UP,Wl⟩:=ZJ.dropImm ZN;refine⟨ys,he,ZJ.hand.symm,⟨?_,?_,?_,?_,λk hk=>?_⟩,λj hj=>(Wl j hj).frame (λ_ _ _=>rfl) λk hk _=>?_⟩
 ·have:=ZJ.fram.os;rw[hM]at this;exact this
 ·have:=ZJ.fram.tape;rw[hM]at this;exact this
 ·have:=ZJ.fram.output;rw[hM]at this;exact this
 ·have:=ZJ.fram.size;rw[hM]at this;exact this
 ·have:=ZJ.fram.old k (by rw[hM];exact hk) (by rw[hM];exact λh=>h) λ_ _ _ _ h=>by simp[hM]at h
  rw[this,hM]
 ·have:=hk.1;rw[hM]at this;exact this
abbrev Kv:CT:=(.pair (.int .u8) (.pair (.int .u16) (.pair I64 I64)))
abbrev Dd:CT:=(.pair I64 (.pair I64 (.pair I64 (.pair I64 (.pair I64 (.pair I64 (.pair (.int .u16) (.row false Kv))))))))
abbrev k9:CT:=(.row false Kv)
abbrev RIi:CT:=(.row false I64)
abbrev LE:Type:=(Int×Int)
abbrev nu:Type:=(Int×Int×Int×Int)
abbrev L1:Type:=(Int×Int×Int×Int×Int×Int×Int×List nu)
def HHi(f i:Nat):List (Nat×Option Nat):=if f=62 then(if i=0 then[(4,none)]else[])else[]
def Iw:List Nat:=[57,56]
noncomputable def TTi (f:FuncId):Option TFn:=if Iw.contains f then none else nJ Try.prog (HHi f) f
theorem Dn{f:FuncId}(h:Iw.contains f=true):TTi f=none:=oIP h
noncomputable def E0i:Env:=⟨λ_=>none,λf=>L3 Try.prog f⟩
theorem KD:Dc Try.prog TTi:=λf tf h=>Dp HHi (by kernel_rfl) f tf (by
 unfold TTi at h;split at h
 ·cases h
 ·exact h)
def mT(a0:Int):Option (Bool×Unit):=
bif(decide (a0>=1))then(some ((decide (a0<=32)),()))else
some (false,())
noncomputable def tw:X.Cfg:=⟨E0i,[],[],[]⟩
def nc:Ctr:=⟨86,0,[shU I64],[],[⟨[shU .bool],[.one],[]⟩],λh=>mT h.1⟩
set_option maxRecDepth 100000 in
theorem s7:Lvl E0i TTi mz 1 nc:=cb (n:=0) (C:=tw) rfl (.intro) (cg (by kernel_rfl)) (λh=>by kernel_rfl)
def ko(a0:List nu):Option (Bool×Unit):=
let x0:Int:=(cf (List.length a0));
(mT x0).bind λ(x1,_)=>
some ((!x1),())
noncomputable def pE:X.Cfg:=⟨E0i,[nc],[],[]⟩
def kG:Ctr:=⟨85,1,[shU k9],[],[⟨[shU .bool],[.one],[]⟩],λh=>ko h.1⟩
set_option maxRecDepth 100000 in
theorem pD:Lvl E0i TTi mz 2 kG:=cb (n:=1) (C:=pE) rfl (.intro (s7.mono (by decide)) (.intro)) (cg (by kernel_rfl)) (λh=>by kernel_rfl)
def iP:(List (List nu))×Int×Int×Unit->Option (((List (List nu))×Int×Int×Unit)⊕((Int×Unit)⊕((List (List nu))×Int×Int×Bool×Unit))):=λ(v0,v1,v2,_)=>
bif(decide (v2<v1))then((eo v2).bind λx0=>
(dt v0 x0).bind λx1=>
(ko x1).bind λ(x2,_)=>
bif x2 then(some (.inr (.inl (v2,()))))else
let x3:Int:=(w64 (v2+1));
some (.inl (v0,v1,x3,())))else
some (.inr (.inr (v0,v1,v2,false,())))
def fT(a0:List (List nu)):Option (Int×Unit):=
let x0:Int:=(cf (List.length a0));
(match cr iP NN (a0,x0,0,())with
|none=>none
|some (.inl (x1,_))=>
some (x1,())
|some (.inr (x1,x2,x3,x4,_))=>
some ((-1),()))
noncomputable def j8:X.Cfg:=⟨E0i,[kG],[],[⟨3,0,⟨[(0,shU (.row false k9)),(1,.fn 85 []),(7,shU I64),(8,shU I64)],[],[],([],[])⟩,[(.ret,⟨[(4,shU I64)],[],[],([],[])⟩),(.exit 0,⟨[(0,shU (.row false k9)),(1,.fn 85 []),(7,shU I64),(8,shU I64),(9,shU .bool)],[],[],([],[])⟩)]⟩]⟩
def f8:Ctr:=⟨91,2,[shU (.row false k9),.fn 85 []],[],[⟨[shU I64],[.one],[]⟩],λh=>fT h.1⟩
set_option maxRecDepth 100000 in
theorem jX:Lvl E0i TTi mz 3 f8:=cb (n:=2) (C:=j8) rfl (.intro (pD.mono (by decide)) (.intro)) (cg (by kernel_rfl)) (λh=>by kernel_rfl)
def ff(a0:List (List nu)):Option (Bool×Unit):=
(fT a0).bind λ(x0,_)=>
some ((decide (x0>=0)),())
noncomputable def iZ:X.Cfg:=⟨E0i,[f8],[],[]⟩
def fq:Ctr:=⟨84,3,[shU (.row false k9),.fn 85 []],[],[⟨[shU .bool],[.one],[]⟩],λh=>ff h.1⟩
set_option maxRecDepth 100000 in
theorem iY:Lvl E0i TTi mz 4 fq:=cb (n:=3) (C:=iZ) rfl (.intro (jX.mono (by decide)) (.intro)) (cg (by kernel_rfl)) (λh=>by kernel_rfl)
def lD(a0:List (List nu))(a1:List L1):Option (Bool×Unit):=
let x0:Int:=(cf (List.length a0));
bif(decide (x0<=4))then(let x1:Int:=(cf (List.length a1));
bif(decide (x1<=4))then((ff a0).bind λ(x2,_)=>
some ((!x2),()))else
some (false,()))else
some (false,())
noncomputable def rU:X.Cfg:=⟨E0i,[fq],[],[]⟩
def l6:Ctr:=⟨73,4,[.agg [shU (.row false k9),shU (.row false Dd)]],[],[⟨[shU .bool],[.one],[]⟩],λh=>lD h.1 h.2.1⟩
set_option maxRecDepth 100000 in
theorem rO:Lvl E0i TTi mz 5 l6:=cb (n:=4) (C:=rU) rfl (.intro (iY.mono (by decide)) (.intro)) (cg (by kernel_rfl)) (λh=>by kernel_rfl)
def nP(a0:List nu)(a1:Int):Option ((List nu)×Unit):=
(bif(decide (a1<0))then(some (a0,a1,true,()))else
bif(decide (a1>32))then(some (a0,a1,true,()))else
let x0:Int:=(w64 (a1*8));
let x1:Int:=(cf (List.length a0));
some (a0,a1,(decide (x0>=x1)),()):Option ((List nu)×Int×Bool×Unit)).bind λ(x0,x1,x2,_)=>
bif x2 then(some ([],()))else
let x3:Int:=(w64 (x1*8));
let x4:Int:=(w64 (x3+8));
let x5:Int:=(cf (List.length x0));
let x6:Int:=(mmR false x4 x5);
(eo x3).bind λx7=>
(eo x6).bind λx8=>
bif(lm x7 x8 (List.length x0))then let x9:List nu:=(Ie x0 x7 (Nat.sub x8 x7));
some (x9,())else none
noncomputable def vB:X.Cfg:=⟨E0i,[],[],[⟨2,0,⟨[],[],[],([],[])⟩,[(.normal,⟨[(0,shU k9),(1,shU I64),(18,shU .bool)],[],[],([],[])⟩)]⟩]⟩
def oH:Ctr:=⟨62,5,[shU k9,shU I64],[],[⟨[shU k9],[.one],[]⟩],λh=>nP h.1 h.2.1⟩
set_option maxRecDepth 100000 in
theorem vl:Lvl E0i TTi mz 1 oH:=cb (n:=0) (C:=vB) rfl (.intro) (cg (by kernel_rfl)) (λh=>by kernel_rfl)
def mS(a0:List (List nu))(a1:List L1)(a2:Int)(a3:Int):Option (Bool×Unit):=
bif(a2==(-1))then(bif(decide (a3>=0))then(let x0:Int:=(cf (List.length a1));
some ((decide (a3<x0)),()))else
some (false,()))else
bif(decide (a2>=0))then(let x0:Int:=(cf (List.length a0));
bif(decide (a2<x0))then((eo a2).bind λx1=>
(dt a0 x1).bind λx2=>
(nP x2 a3).bind λ(x3,_)=>
let x4:Int:=(cf (List.length x3));
some ((decide (x4>0)),()))else
some (false,()))else
some (false,())
noncomputable def tu:X.Cfg:=⟨E0i,[oH],[],[]⟩
def nb:Ctr:=⟨76,6,[.agg [shU (.row false k9),shU (.row false Dd)],.agg [shU I64,shU I64]],[],[⟨[shU .bool],[.one],[]⟩],λh=>mS h.1 h.2.1 h.2.2.1 h.2.2.2.1⟩
set_option maxRecDepth 100000 in
theorem sZ:Lvl E0i TTi mz 2 nb:=cb (n:=1) (C:=tu) rfl (.intro (vl.mono (by decide)) (.intro)) (cg (by kernel_rfl)) (λh=>by kernel_rfl)
def d4(a0:List (List nu))(a1:List L1)(a2:Int)(a3:Int):Option (Int×Unit):=
(lD a0 a1).bind λ(x0,_)=>
bif(!x0)then(some (1,()))else
(mS a0 a1 a2 a3).bind λ(x1,_)=>
bif(!x1)then(some (30,()))else
some (0,())
noncomputable def vC:X.Cfg:=⟨E0i,[l6,nb],[],[]⟩
def wj:Ctr:=⟨53,7,[.agg [shU (.row false k9),shU (.row false Dd)],.agg [shU I64,shU I64]],[],[⟨[shU I64],[.one],[]⟩],λh=>d4 h.1 h.2.1 h.2.2.1 h.2.2.2.1⟩
set_option maxRecDepth 100000 in
theorem vm:Lvl E0i TTi mz 6 wj:=cb (n:=5) (C:=vC) rfl (.intro (rO.mono (by decide)) (.intro (sZ.mono (by decide)) (.intro))) (cg (by kernel_rfl)) (λh=>by kernel_rfl)
def fU(a0:Int)(a1:Int)(a2:Int)(a3:Int)(a4:Int)(a5:Int)(a6:Int)(a7:List nu):Option (Bool×Unit):=
bif(a0==0)then(bif(a1==0)then(bif(a2==0)then(bif(a3==0)then(bif(a4==0)then(bif(a5==0)then(bif(a6==0)then(let x0:Int:=(cf (List.length a7));
some ((x0==0),()))else
some (false,()))else
some (false,()))else
some (false,()))else
some (false,()))else
some (false,()))else
some (false,()))else
some (false,())
noncomputable def tz:X.Cfg:=⟨E0i,[],[],[]⟩
def tR:Ctr:=⟨63,8,[.agg [shU I64,shU I64,shU I64,shU I64,shU I64,shU I64,shU (.int .u16),shU k9]],[],[⟨[shU .bool],[.one],[]⟩],λh=>fU h.1 h.2.1 h.2.2.1 h.2.2.2.1 h.2.2.2.2.1 h.2.2.2.2.2.1 h.2.2.2.2.2.2.1 h.2.2.2.2.2.2.2.1⟩
set_option maxRecDepth 100000 in
theorem s8:Lvl E0i TTi mz 1 tR:=cb (n:=0) (C:=tz) rfl (.intro) (cg (by kernel_rfl)) (λh=>by kernel_rfl)
def nQ(a0:Int)(a1:Int):Option (Int×Unit):=
(bif(decide (a0<0))then(some (true,()))else
bif(decide (a1>200))then(some (true,()))else
some ((decide (a0>a1)),()):Option (Bool×Unit)).bind λ(x0,_)=>
bif x0 then(some (6,()))else
some (0,())
noncomputable def vE:X.Cfg:=⟨E0i,[],[],[⟨2,0,⟨[],[],[],([],[])⟩,[(.normal,⟨[(15,shU .bool)],[],[],([],[])⟩)]⟩]⟩
def oJ:Ctr:=⟨30,9,[shU I64,shU I64],[],[⟨[shU I64],[.one],[]⟩],λh=>nQ h.1 h.2.1⟩
set_option maxRecDepth 100000 in
theorem vo:Lvl E0i TTi mz 1 oJ:=cb (n:=0) (C:=vE) rfl (.intro) (cg (by kernel_rfl)) (λh=>by kernel_rfl)
def kL(a0:Int)(a1:Int):Option (Int×Unit):=
bif(a0==(-1))then(some (1,()))else
some (0,())
noncomputable def vD:X.Cfg:=⟨E0i,[],[],[]⟩
def oI:Ctr:=⟨72,10,[.agg [shU I64,shU I64]],[],[⟨[shU I64],[.one],[]⟩],λh=>kL h.1 h.2.1⟩
set_option maxRecDepth 100000 in
theorem vn:Lvl E0i TTi mz 1 oI:=cb (n:=0) (C:=vD) rfl (.intro) (cg (by kernel_rfl)) (λh=>by kernel_rfl)
def fa(a0:Int):Option (Bool×Unit):=
some ((a0 != a0),())
noncomputable def lu:X.Cfg:=⟨E0i,[],[],[]⟩
def gS:Ctr:=⟨83,11,[shU I64],[],[⟨[shU .bool],[.one],[]⟩],λh=>fa h.1⟩
set_option maxRecDepth 100000 in
theorem lp:Lvl E0i TTi mz 1 gS:=cb (n:=0) (C:=lu) rfl (.intro) (cg (by kernel_rfl)) (λh=>by kernel_rfl)
def dy(a0:Int)(a1:Int):Option (Int×Unit):=
(fa a0).bind λ(x0,_)=>
(fa a1).bind λ(x1,_)=>
bif x0 then(bif x1 then(some (0,()))else
some ((-1),()))else
bif x1 then(some (1,()))else
bif(decide (a0<a1))then(some ((-1),()))else
bif(decide (a0>a1))then(some (1,()))else
some (0,())
noncomputable def jy:X.Cfg:=⟨E0i,[gS],[],[]⟩
def fL:Ctr:=⟨71,12,[shU I64,shU I64],[],[⟨[shU I64],[.one],[]⟩],λh=>dy h.1 h.2.1⟩
set_option maxRecDepth 100000 in
theorem jw:Lvl E0i TTi mz 2 fL:=cb (n:=1) (C:=jy) rfl (.intro (lp.mono (by decide)) (.intro)) (cg (by kernel_rfl)) (λh=>by kernel_rfl)
def ny:Int×(List (Int))×Int×Int×Unit->Option ((Int×(List (Int))×Int×Int×Unit)⊕((Int×Unit)⊕(Int×(List (Int))×Int×Int×Bool×Unit))):=λ(v0,v1,v2,v3,_)=>
bif(decide (v3<v2))then((eo v3).bind λx0=>
(dt v1 x0).bind λx1=>
bif(x1 != v0)then(some (.inr (.inl (x1,()))))else
let x2:Int:=(w64 (v3+1));
some (.inl (v0,v1,v2,x2,())))else
some (.inr (.inr (v0,v1,v2,v3,false,())))
def lf(a0:List (Int)):Option (Int×Unit):=
let x0:Int:=(cf (List.length a0));
(match cr ny NN (0,a0,x0,0,())with
|none=>none
|some (.inl (x1,_))=>
some (x1,())
|some (.inr (x1,x2,x3,x4,x5,_))=>
some (x1,()))
noncomputable def qy:X.Cfg:=⟨E0i,[],[],[⟨4,0,⟨[(3,shU I64),(6,shU RIi),(7,shU I64),(8,shU I64)],[],[],([],[])⟩,[(.ret,⟨[(2,shU I64)],[],[],([],[])⟩),(.exit 0,⟨[(3,shU I64),(6,shU RIi),(7,shU I64),(8,shU I64),(9,shU .bool)],[],[],([],[])⟩)]⟩]⟩
def li:Ctr:=⟨70,13,[shU RIi],[],[⟨[shU I64],[.one],[]⟩],λh=>lf h.1⟩
set_option maxRecDepth 100000 in
theorem qv:Lvl E0i TTi mz 1 li:=cb (n:=0) (C:=qy) rfl (.intro) (cg (by kernel_rfl)) (λh=>by kernel_rfl)
def mU(a0:Int)(a1:Int)(a2:Int)(a3:Int):Option (Int×Unit):=
(kL a0 a1).bind λ(x0,_)=>
(kL a2 a3).bind λ(x1,_)=>
(dy x0 x1).bind λ(x2,_)=>
(dy a0 a2).bind λ(x3,_)=>
(dy a1 a3).bind λ(x4,_)=>
let x5:List (Int):=[x2,x3,x4];
(lf x5).bind λ(x6,_)=>
some (x6,())
noncomputable def tA:X.Cfg:=⟨E0i,[oI,fL,li],[],[]⟩
def ng:Ctr:=⟨45,14,[.agg [shU I64,shU I64],.agg [shU I64,shU I64]],[],[⟨[shU I64],[.one],[]⟩],λh=>mU h.1 h.2.1 h.2.2.1 h.2.2.2.1⟩
set_option maxRecDepth 100000 in
theorem s9:Lvl E0i TTi mz 3 ng:=cb (n:=2) (C:=tA) rfl (.intro (vn.mono (by decide)) (.intro (jw.mono (by decide)) (.intro (qv.mono (by decide)) (.intro)))) (cg (by kernel_rfl)) (λh=>by kernel_rfl)
def pb:Int×Int×Int×(List (Int×Int×(List nu)×Int×Int×Int×Int×Int×Int×Int×List nu))×Unit->Option ((Int×Int×Int×(List (Int×Int×(List nu)×Int×Int×Int×Int×Int×Int×Int×List nu))×Unit)⊕((Int×Unit)⊕(Int×Bool×Int×Int×(List (Int×Int×(List nu)×Int×Int×Int×Int×Int×Int×Int×List nu))×Unit))):=λ(v0,v1,v2,v3,_)=>
let x0:Int:=(cf (List.length v3));
bif(decide (v0<x0))then(let x1:Int:=(w64 (v0-1));
(eo x1).bind λx2=>
(dt v3 x2).bind λx3=>
(eo v0).bind λx4=>
(dt v3 x4).bind λx5=>
(mU x3.1 x3.2.1 x5.1 x5.2.1).bind λ(x6,_)=>
bif(decide (x6>=0))then(some (.inr (.inl (5,()))))else
let x7:Int:=(w64 (v0+1));
some (.inl (x7,v1,v2,v3,())))else
some (.inr (.inr (v0,false,v1,v2,v3,())))
def d9(a0:Int)(a1:Int)(a2:List (Int×Int×(List nu)×Int×Int×Int×Int×Int×Int×Int×List nu)):Option (Int×Unit):=
(nQ a0 a1).bind λ(x0,_)=>
bif(x0 != 0)then(some (x0,()))else
(match cr pb NN (1,a0,a1,a2,())with
|none=>none
|some (.inl (x1,_))=>
some (x1,())
|some (.inr (x1,x2,x3,x4,x5,_))=>
some (0,()))
noncomputable def tC:X.Cfg:=⟨E0i,[oJ,ng],[],[⟨7,0,⟨[(1,.ptr ⟨4,0,[]⟩ [0]),(4,shU I64)],[(4,[shU I64,shU I64,shU (.row false (.pair I64 (.pair I64 (.pair k9 Dd))))])],[],([],[])⟩,[(.ret,⟨[(2,shU I64)],[],[],([],[])⟩),(.exit 0,⟨[(1,.ptr ⟨4,0,[]⟩ [0]),(4,shU I64),(17,shU .bool)],[(4,[shU I64,shU I64,shU (.row false (.pair I64 (.pair I64 (.pair k9 Dd))))])],[],([],[])⟩)]⟩]⟩
def tT:Ctr:=⟨24,15,[.agg [shU I64,shU I64,shU (.row false (.pair I64 (.pair I64 (.pair k9 Dd))))]],[],[⟨[shU I64],[.one],[]⟩],λh=>d9 h.1 h.2.1 h.2.2.1⟩
set_option maxRecDepth 100000 in
theorem te:Lvl E0i TTi mz 4 tT:=cb (n:=3) (C:=tC) rfl (.intro (vo.mono (by decide)) (.intro (s9.mono (by decide)) (.intro))) (cg (by kernel_rfl)) (λh=>by kernel_rfl)
def gJ:Ctr:=⟨57,16,[shU (.row false (.row false (.pair I64 I64)))],[],[⟨[shU (.row false (.pair I64 I64))],[.one],[]⟩],λh=>dW h.1⟩
theorem kQ:Lvl E0i TTi mz 1 gJ:=(vk (Dn rfl) kA).mono (by decide)
def gR:Ctr:=⟨56,17,[.fn 45 [],shU (.row false (.pair I64 I64))],[],[⟨[shU (.row false (.pair I64 I64))],[.one],[]⟩],λh=>d5 h.1⟩
theorem ln:Lvl E0i TTi mz 1 gR:=(vk (Dn rfl) kP).mono (by decide)
def eX(a0:List LE)(a1:List LE):Option ((List LE)×Unit):=
let x0:List (List LE):=[a0,a1];
(dW x0).bind λ(x1,_)=>
(d5 x1).bind λ(x2,_)=>
some (x2,())
noncomputable def tB:X.Cfg:=⟨E0i,[gJ,gR],[(7,(.row true (.pair I64 I64)))],[]⟩
def tS:Ctr:=⟨33,18,[shU (.row false (.pair I64 I64)),shU (.row false (.pair I64 I64))],[],[⟨[shU (.row false (.pair I64 I64))],[.one],[]⟩],λh=>eX h.1 h.2.1⟩
set_option maxRecDepth 100000 in
theorem td:Lvl E0i TTi mz 2 tS:=cb (n:=1) (C:=tB) rfl (.intro (kQ.mono (by decide)) (.intro (ln.mono (by decide)) (.intro))) (cg (by kernel_rfl)) (λh=>by kernel_rfl)
def dD(a0:List nu):Option ((List nu)×Unit):=
bif(dg 24 0 (List.length a0))then let x0:List nu:=(List.append [] a0);
some (x0,())else none
noncomputable def lU:X.Cfg:=⟨E0i,[],[],[]⟩
def fG:Ctr:=⟨58,19,[shU k9],[],[⟨[shU (.row true Kv)],[.one],[]⟩],λh=>dD h.1⟩
set_option maxRecDepth 100000 in
theorem iD:Lvl E0i TTi mz 1 fG:=cb (n:=0) (C:=lU) rfl (.intro) (cg (by kernel_rfl)) (λh=>by kernel_rfl)
def jT(a0:Int)(a1:Int)(a2:Int)(a3:Int)(a4:Int)(a5:Int)(a6:Int)(a7:List nu):Option (Int×Int×Int×Int×Int×Int×Int×(List nu)×Unit):=
(dD a7).bind λ(x0,_)=>
some (a0,a1,a2,a3,a4,a5,a6,x0,())
noncomputable def tD:X.Cfg:=⟨E0i,[fG],[],[]⟩
def nh:Ctr:=⟨59,20,[.agg [shU I64,shU I64,shU I64,shU I64,shU I64,shU I64,shU (.int .u16),shU k9]],[],[⟨[shU I64,shU I64,shU I64,shU I64,shU I64,shU I64,shU (.int .u16),shU (.row true Kv)],[.agg 8],[]⟩],λh=>jT h.1 h.2.1 h.2.2.1 h.2.2.2.1 h.2.2.2.2.1 h.2.2.2.2.2.1 h.2.2.2.2.2.2.1 h.2.2.2.2.2.2.2.1⟩
set_option maxRecDepth 100000 in
theorem tg:Lvl E0i TTi mz 2 nh:=cb (n:=1) (C:=tD) rfl (.intro (iD.mono (by decide)) (.intro)) (cg (by kernel_rfl)) (λh=>by kernel_rfl)
def jU(a0:Int)(a1:Int)(a2:List nu)(a3:Int)(a4:Int)(a5:Int)(a6:Int)(a7:Int)(a8:Int)(a9:Int)(a10:List nu):Option (Int×Int×(List nu)×Int×Int×Int×Int×Int×Int×Int×(List nu)×Unit):=
(dD a2).bind λ(x0,_)=>
(jT a3 a4 a5 a6 a7 a8 a9 a10).bind λ(x1,x2,x3,x4,x5,x6,x7,x8,_)=>
some (a0,a1,x0,x1,x2,x3,x4,x5,x6,x7,x8,())
noncomputable def tE:X.Cfg:=⟨E0i,[fG,nh],[],[]⟩
def tU:Ctr:=⟨34,21,[.agg [shU I64,shU I64,shU k9,shU I64,shU I64,shU I64,shU I64,shU I64,shU I64,shU (.int .u16),shU k9]],[],[⟨[shU I64,shU I64,shU (.row true Kv),shU I64,shU I64,shU I64,shU I64,shU I64,shU I64,shU (.int .u16),shU (.row true Kv)],[.agg 11],[]⟩],λh=>jU h.1 h.2.1 h.2.2.1 h.2.2.2.1 h.2.2.2.2.1 h.2.2.2.2.2.1 h.2.2.2.2.2.2.1 h.2.2.2.2.2.2.2.1 h.2.2.2.2.2.2.2.2.1 h.2.2.2.2.2.2.2.2.2.1 h.2.2.2.2.2.2.2.2.2.2.1⟩
set_option maxRecDepth 100000 in
theorem th:Lvl E0i TTi mz 3 tU:=cb (n:=2) (C:=tE) rfl (.intro (iD.mono (by decide)) (.intro (tg.mono (by decide)) (.intro))) (cg (by kernel_rfl)) (λh=>by kernel_rfl)
def lM:CT->Bool
 |.int _=>true
 |.bool=>true
 |.row _ t=>lM t
 |.pair a b=>lM a&&lM b
 |_=>false
theorem i7{α β:Type}{f:α->β}(hf:∀{x y:α},f x=f y->x=y):∀{xs ys:List α},xs.map f=ys.map f->xs=ys
 | [],[],_=>rfl
 | [],_::_,h=>by simp at h
 |_::_,[],h=>by simp at h
 |x::xs,y::ys,h=>by
  simp only[List.map_cons,List.cons.injEq]at h;rw[hf h.1,i7 hf h.2]
theorem sg:∀(t:CT),lM t=true->∀{x y:den t},enc t x=enc t y->x=y:=by
 intro t
 induction t with
 |int k=>intro _ x y h;simp only[enc,List.cons.injEq,TV.v.injEq,and_true]at h;injection h
 |bool=>intro _ x y h;simp only[enc,List.cons.injEq,TV.v.injEq,and_true]at h;injection h
 |str=>intro h;simp[lM]at h
 |nat=>intro h;simp[lM]at h
 |nilr o=>intro h;simp[lM]at h
 |row o t ih=>
  intro hp x y h;have ih:=@ih hp
  have h2:List.map (enc t) (x:List (den t))=List.map (enc t) (y:List (den t)):=by
   cases o
   ·simp only[enc,List.cons.injEq,TV.sl.injEq,and_true]at h;exact h
   ·simp only[enc,List.cons.injEq,TV.ow.injEq,and_true]at h;exact h
  exact i7 (λe=>ih e) h2
 |pair a b Zb Y4=>
  intro hp x y h;simp only[lM,oBA]at hp;obtain⟨x1,x2⟩:=x;obtain⟨y1,y2⟩:=y;simp only[enc]at h;obtain⟨h1,h2⟩:=List.append_inj h (by rw[dx,dx]);rw[@Zb hp.1 _ _ h1,@Y4 hp.2 _ _ h2]
theorem K8:Df Try.prog E0i:=λf n tm h=>by simp[E0i]at h
theorem KZ(k:Nat):eR Try.prog (runF E0i TTi mz k):=runF_ok KD K8 EU k
theorem fF{w w':World}(h:Below w.heap.size w w'):w.grownBy w' none:=⟨h.os,h.tape,h.output,h.size,λk hk _=>h.block k hk⟩
theorem Fl(C:List (List Cn4))(T:List Vw8)(r i fe:Int)(h:d4 C T r i=some (fe,())):
 runF E0i TTi mz (NN+6) 53 [.agg [.sl (C.map (enc cCs)),.sl (T.map (enc cVw))],.agg [.v (.int .i64 r),.v (.int .i64 i)]] []=some (⟨[.v (.int .i64 fe)],[.one]⟩,[]):=
 vm 6 (Nat.le_refl _) ⟨C,T,r,i,()⟩ (fe,()) _ h rfl
theorem CF{w:World}{F:Nat->Prop}{C:List (List Cn4)}{T:List Vw8}{U V:Value}{r i fe:Int}(hu:RSl rCs w F C U)(hv:RSl rVw w F T V)(h:d4 C T r i=some (fe,())):
 ∀w',w.grownBy w' none->Calls Try.prog 53 #[.agg #[U,V],.agg #[.int .i64 r,.int .i64 i]] w' λe w2=>e=.returned (.int .i64 fe)/\w'.grownBy w2 none:=λw' hg=>by
 refine(oN (KZ _) (Fl C T r i fe h) rfl (avs:=[.agg #[U,V],.agg #[.int .i64 r,.int .i64 i]]) (w:=w') (F:=F) rfl λj hj _=>?_).mono ?_
 ·have hj:j<2:=hj
  match j,hj with
  |0,_=>
   refine .ag rfl λj hj=>?_;have hj:j<2:=hj
   match j,hj with
   |0,_=>exact n8 wS (hu.grow hg)
   |1,_=>exact n8 AO (hv.grow hg)
  |1,_=>
   refine .ag rfl λj hj=>?_;have hj:j<2:=hj
   match j,hj with
   |0,_=>exact .v rfl
   |1,_=>exact .v rfl
 ·rintro e w2 ⟨ys,rfl,hl,hb,Ya⟩;obtain⟨y,rfl⟩:=List.length_eq_one_iff.1 hl;have h0:=Ya 0 Nat.one_pos;replace h0:fR w2 _ (.v (.int .i64 fe)) y:=h0
  cases h0 with
  |v _=>exact⟨rfl,fF hb⟩
theorem CI(v0 v1 v2 v3 v4 v5 v6:Int)(L:List Cn4)(eb:Bool)(h:fU v0 v1 v2 v3 v4 v5 v6 L=some (eb,())):
 runF E0i TTi mz (NN+1) 63 [.agg [.v (.int .i64 v0),.v (.int .i64 v1),.v (.int .i64 v2),.v (.int .i64 v3),.v (.int .i64 v4),.v (.int .i64 v5),.v (.int .u16 v6),.sl (L.map (enc cCn))]] []=some (⟨[.v (.bool eb)],[.one]⟩,[]):=
 s8 1 (Nat.le_refl _) ⟨v0,v1,v2,v3,v4,v5,v6,L,()⟩ (eb,()) _ h rfl
theorem zN{w:World}{F:Nat->Prop}{v0 v1 v2 v3 v4 v5 v6:Int}{L:List Cn4}{Z:Value}{eb:Bool}(hz:RSl rCn w F L Z)(h:fU v0 v1 v2 v3 v4 v5 v6 L=some (eb,())):
 ∀w',w.grownBy w' none->Calls Try.prog 63 #[.agg #[.int .i64 v0,.int .i64 v1,.int .i64 v2,.int .i64 v3,.int .i64 v4,.int .i64 v5,.int .u16 v6,Z]] w' λe w2=>e=.returned (.bool eb)/\w'.grownBy w2 none:=λw' hg=>by
 refine(oN (KZ _) (CI v0 v1 v2 v3 v4 v5 v6 L eb h) rfl (avs:=[.agg #[.int .i64 v0,.int .i64 v1,.int .i64 v2,.int .i64 v3,.int .i64 v4,.int .i64 v5,.int .u16 v6,Z]]) (w:=w') (F:=F) rfl λj hj _=>?_).mono ?_
 ·have hj:j<1:=hj
  match j,hj with
  |0,_=>
   refine .ag rfl λj hj=>?_;have hj:j<8:=hj
   match j,hj with
   |0,_=>exact .v rfl
   |1,_=>exact .v rfl
   |2,_=>exact .v rfl
   |3,_=>exact .v rfl
   |4,_=>exact .v rfl
   |5,_=>exact .v rfl
   |6,_=>exact .v rfl
   |7,_=>exact n8 Is (hz.grow hg)
 ·rintro e w2 ⟨ys,rfl,hl,hb,Ya⟩;obtain⟨y,rfl⟩:=List.length_eq_one_iff.1 hl;have h0:=Ya 0 Nat.one_pos;replace h0:fR w2 _ (.v (.bool eb)) y:=h0
  cases h0 with
  |v _=>exact⟨rfl,fF hb⟩
theorem CZ(xf xt:Int)(xs:List i8)(c:Int)(h:d9 xf xt xs=some (c,())):
 runF E0i TTi mz (NN+4) 24 [.agg [.v (.int .i64 xf),.v (.int .i64 xt),.sl (xs.map (enc cPg))]] []=some (⟨[.v (.int .i64 c)],[.one]⟩,[]):=
 te 4 (Nat.le_refl _) ⟨xf,xt,xs,()⟩ (c,()) _ h rfl
theorem sw{w:World}{F:Nat->Prop}{xf xt:Int}{xs:List i8}{X:Value}{c:Int}(hx:RSl rPg w F xs X)(h:d9 xf xt xs=some (c,())):FU (.agg #[.int .i64 xf,.int .i64 xt,X]) c w:=λw' hg=>by
 refine(oN (KZ _) (CZ xf xt xs c h) rfl (avs:=[.agg #[.int .i64 xf,.int .i64 xt,X]]) (w:=w') (F:=F) rfl λj hj _=>?_).mono ?_
 ·have hj:j<1:=hj
  match j,hj with
  |0,_=>
   refine .ag rfl λj hj=>?_;have hj:j<3:=hj
   match j,hj with
   |0,_=>exact .v rfl
   |1,_=>exact .v rfl
   |2,_=>exact n8 ry (hx.grow hg)
 ·rintro e w2 ⟨ys,rfl,hl,hb,Ya⟩;obtain⟨y,rfl⟩:=List.length_eq_one_iff.1 hl;have h0:=Ya 0 Nat.one_pos;replace h0:fR w2 _ (.v (.int .i64 c)) y:=h0
  cases h0 with
  |v _=>exact⟨rfl,fF hb⟩
theorem zO(ids sids:List (Int×Int))(h:eX ids []=some (sids,())):
 runF E0i TTi mz (NN+2) 33 [.sl (ids.map (enc (.pair (.int .i64) (.int .i64)))),.sl []] []=some (⟨[.sl (sids.map (enc (.pair (.int .i64) (.int .i64))))],[.one]⟩,[]):=
 td 2 (Nat.le_refl _) ⟨ids,[],()⟩ (sids,()) _ h rfl
theorem zM(l:List (Int×Int)):(TV.sl (l.map (enc (.pair (.int .i64) (.int .i64))))).imm=.sl (l.map (enc (.pair (.int .i64) (.int .i64)))):=by
 simp only[TV.imm]
theorem xX{w:World}{ids sids:List (Int×Int)}(h:eX ids []=some (sids,()))(hs:sids.length<=1099511627776):L6 ids sids w:=λw' V G hg hv=>by
 refine(oN (KZ _) (zO ids sids h) rfl (avs:=[V,.slice none 0 0]) (w:=w') (F:=G) rfl λj hj _=>?_).mono ?_
 ·have hj:j<2:=hj
  match j,hj with
  |0,_=>exact .im (n8 Ir hv)
  |1,_=>exact .im qZ
 ·rintro e w2 ⟨ys,rfl,hl,hb,Ya⟩;obtain⟨y,rfl⟩:=List.length_eq_one_iff.1 hl;have h0:=Ya 0 Nat.one_pos;replace h0:fR w2 _ (TV.sl (sids.map (enc (.pair (.int .i64) (.int .i64))))).imm y:=h0;rw[zM]at h0;exact⟨y,rfl,uy Ir h0 (λ_ _=>trivial) hs,fF hb⟩
theorem sn{l:List Cn4}(h:l.length<=1099511627776):dD l=some (l,()):=by
 have:dg 24 0 (List.length l)=true:=by
  unfold dg;simp only[oBA,oDE];omega
 unfold dD;rw[this];rfl
theorem EF(p:i8)(h:PgB p):
 runF E0i TTi mz (NN+3) 34 [.agg (enc cPg p)] []=some (⟨[.v (.int .i64 p.1),.v (.int .i64 p.2.1),.ow (p.2.2.1.map (enc cCn)),.v (.int .i64 p.2.2.2.1),.v (.int .i64 p.2.2.2.2.1),.v (.int .i64 p.2.2.2.2.2.1),.v (.int .i64 p.2.2.2.2.2.2.1),.v (.int .i64 p.2.2.2.2.2.2.2.1),.v (.int .i64 p.2.2.2.2.2.2.2.2.1),.v (.int .u16 p.2.2.2.2.2.2.2.2.2.1),.ow (p.2.2.2.2.2.2.2.2.2.2.map (enc cCn))],[.agg 11]⟩,[]):=by
 obtain⟨a,c,pc,v0,v1,v2,v3,v4,v5,v6,pr⟩:=p
 exact th 3 (Nat.le_refl _) ⟨a,c,pc,v0,v1,v2,v3,v4,v5,v6,pr,()⟩ (a,c,pc,v0,v1,v2,v3,v4,v5,v6,pr,()) _ (by
  show jU a c pc v0 v1 v2 v3 v4 v5 v6 pr=_;unfold jU jT;rw[sn h.1,sn h.2]
  rfl) rfl
theorem uB(l:List Cn4):(TV.ow (l.map (enc cCn))).imm=.sl (l.map (enc cCn)):=by
 simp only[TV.imm,jR,List.map_map];rfl
theorem GJ{w:World}{F:Nat->Prop}{p:i8}{cs:List Value}(h:rPg.rep w F p cs):PgB p:=by
 obtain⟨y,z,_,hy,hz⟩:=AX h;obtain⟨_,_,_,_,_,h1⟩:=hy.size_eq;obtain⟨_,_,_,_,_,h2⟩:=hz.size_eq;exact⟨h1,h2⟩
theorem Ck{w:World}{F:Nat->Prop}:IM F w:=λw' p cs hg hr=>by
 have hB:=GJ hr;refine(oN (KZ _) (EF p hB) rfl (avs:=[.agg cs.toArray]) (w:=w') (F:=F) rfl λj hj _=>?_).mono ?_
 ·have hj:j<1:=hj
  match j,hj with
  |0,_=>
   have hrel:=ry.to hr;refine .ag (by simpa using hrel.len) λj hj=>?_;have:=hrel.get j hj;simpa[Array.getD_eq_getD_getElem?,oGD]using this
 ·rintro e w2 ⟨ys,rfl,hl,hb,Ya⟩;have hlen:ys.length=11:=hl
  have hrel:ml w2 (λk=>F k\/w'.heap.size<=k) (enc cPg p) ys:=by
   refine ml.of (by rw[hlen];rfl) λj hj=>?_
   have RC:j<11:=by rw[dx]at hj;exact hj
   have h0:=Ya j RC
   match j,RC with
   |0,_=>exact h0
   |1,_=>exact h0
   |2,_=>
    replace h0:fR w2 _ (TV.ow (p.2.2.1.map (enc cCn))).imm (ys.getD 2 undef):=h0;rw[uB]at h0;exact h0
   |3,_=>exact h0
   |4,_=>exact h0
   |5,_=>exact h0
   |6,_=>exact h0
   |7,_=>exact h0
   |8,_=>exact h0
   |9,_=>exact h0
   |10,_=>
    replace h0:fR w2 _ (TV.ow (p.2.2.2.2.2.2.2.2.2.2.map (enc cCn))).imm (ys.getD 10 undef):=h0;rw[uB]at h0;exact h0
  refine⟨ys,?_,ry.of hrel hB,fF hb⟩
  match ys,hlen with
  | [a0,a1,a2,a3,a4,a5,a6,a7,a8,a9,a10],_=>rfl
theorem qD.agg_out{w:World}{F:Nat->Prop}{l:List TV}{x:Value}(h:qD w F (.agg l) x):∃cs:List Value,x=.agg cs.toArray/\ml w F l cs:=by
 cases h with
 |im h=>cases h
 | @ag _ cs hl h=>
  refine⟨cs.toList,by simp,ml.of (by simpa using hl.symm) λj hj=>?_⟩;have:=h j hj;simpa[Array.getD_eq_getD_getElem?,oGD]using this
theorem sF{w w':World}(h:w.grownBy w' none):Below w.heap.size w w':=⟨h.os,h.tape,h.output,h.size,λk hk=>h.block k hk (by simp)⟩
def D8(C:List (List Cn4))(T:List Vw8)(cells L:List Cn4):Bool:=decide (C.length<=1099511627776)&&C.all (λx=>decide (x.length<=1099511627776))&&decide (T.length<=1099511627776)&&T.all (λx=>decide (x.2.2.2.2.2.2.2.length<=1099511627776))&&decide (cells.length<=1099511627776)&&decide (L.length<=1099511627776)
def cY(C:List (List Cn4))(T:List Vw8)(a0 a1:Int)(cells:List Cn4)(v0 v1 v2 v3 v4 v5 v6:Int)(L:List Cn4):Option (List (List Cn4)×List Vw8×Int×Unit):=
 if D8 C T cells L=true then
  (d4 C T a0 a1).bind λ(fe,_)=>
  if fe≠0 then some ([],[],fe,())
  else if a0=-1 then(if 0<cells.length then some ([],[],5,())else if 0<=a1/\a1.toNat<T.length then some (C,T.set a1.toNat (v0,v1,v2,v3,v4,v5,v6,L),0,())else none)
  else if 0<=a0/\a0.toNat<C.length/\0<=a1/\a1<=32/\8*a1.toNat<(C.getD a0.toNat []).length then
   (fU v0 v1 v2 v3 v4 v5 v6 L).bind λ(eb,_)=>
   if cells.length≠min 8 ((C.getD a0.toNat []).length-8*a1.toNat)\/eb=false then some ([],[],5,())else some (C.set a0.toNat (jF (C.getD a0.toNat []) a1.toNat cells),T,0,())
  else none
 else none
def mj(C':List (List Cn4))(T':List Vw8)(err:Int)(w:World)(e:Ending)(w':World):Prop:=
 ∃a b,e=.returned (.tuple #[.agg #[a,b],.int .i64 err])/\RSl rCs w' (λk=>w.heap.size<=k) C' a/\RSl rVw w' (λk=>w.heap.size<=k) T' b/\w.grownBy w' none
theorem mj.nil{w w':World}{e:Ending}{err:Int}(h:e=.returned (.tuple #[.agg #[.slice none 0 0,.slice none 0 0],.int .i64 err])/\w.grownBy w' none):mj [] [] err w e w':=⟨_,_,h.1,RSl.nil _ _,RSl.nil _ _,h.2⟩
theorem mj.ret{C:List (List Cn4)}{T:List Vw8}{w w':World}{e:Ending}(h:BE C T w e w'):mj C T 0 w e w':=h
theorem D5{F:Nat->Prop}{C:List (List Cn4)}{T:List Vw8}{a0 a1:Int}{cells:List Cn4}{v0 v1 v2 v3 v4 v5 v6:Int}{L:List Cn4}{U V Y Z:Value}{w:World}{C':List (List Cn4)}{T':List Vw8}{err:Int}
 (hu:RSl rCs w F C U)(hv:RSl rVw w F T V)(hy:RSl rCn w F cells Y)(hz:RSl rCn w F L Z)(h:cY C T a0 a1 cells v0 v1 v2 v3 v4 v5 v6 L=some (C',T',err,())):
 Calls Try.prog 36 #[.agg #[U,V],.agg #[.int .i64 a0,.int .i64 a1,Y,.int .i64 v0,.int .i64 v1,.int .i64 v2,.int .i64 v3,.int .i64 v4,.int .i64 v5,.int .u16 v6,Z]] w (mj C' T' err w):=by
 unfold cY at h;split at h
 case isFalse=>cases h
 obtain⟨⟨fe,u⟩,hf,h⟩:=Option.bind_eq_some_iff.1 h;have ZQ:=CF hu hv hf;dsimp only at h;split at h
 ·rename_i hne
  injection h with h
  injection h with h1 h
  injection h with h2 h
  injection h with h3 h
  subst h1 h2 h3;exact(Gu F C T a0 a1 cells v0 v1 v2 v3 v4 v5 v6 L U V Y Z w fe hu hv hy hz ZQ (by simpa using hne)).mono λe w' h=>mj.nil h
 rename_i h0
 have h0:fe=0:=by simpa using h0
 split at h
 ·rename_i hr;split at h
  ·rename_i hc
   injection h with h
   injection h with h1 h
   injection h with h2 h
   injection h with h3 h
   subst h1 h2 h3;exact(D3 F C T a0 a1 cells v0 v1 v2 v3 v4 v5 v6 L U V Y Z w fe hu hv hy hz ZQ h0 hr hc).mono λe w' h=>mj.nil h
  ·rename_i hc;split at h
   case isFalse=>cases h
   rename_i hj;obtain⟨j,rfl⟩:=Int.eq_ofNat_of_zero_le hj.1
   injection h with h
   injection h with h1 h
   injection h with h2 h
   injection h with h3 h
   subst h1 h2 h3 hr;exact(B4 F C T j cells v0 v1 v2 v3 v4 v5 v6 L U V Y Z w fe hu hv hy hz ZQ h0 (by omega) (by simpa using hj.2)).mono λe w' h=>mj.ret h
 ·split at h
  case isFalse=>cases h
  rename_i hg;obtain⟨g1,g2,g3,g4,g5⟩:=hg;obtain⟨k,rfl⟩:=Int.eq_ofNat_of_zero_le g1;obtain⟨j,rfl⟩:=Int.eq_ofNat_of_zero_le g3;simp only[oTN]at g2 g5 h
  have e1:C.getD k []=C[k]:=by simp[oGD,g2]
  rw[e1]at g5 h;obtain⟨⟨eb,u2⟩,he,h⟩:=Option.bind_eq_some_iff.1 h;have ZA:=λw' hg=>zN (w:=w) hz he w' hg;dsimp only at h;split at h
  ·rename_i hc
   injection h with h
   injection h with h1 h
   injection h with h2 h
   injection h with h3 h
   subst h1 h2 h3;by_cases hcl:cells.length=min 8 (C[k].length-8*j)
   ·exact(D1 F C T k j cells v0 v1 v2 v3 v4 v5 v6 L U V Y Z w fe hu hv hy hz ZQ eb ZA h0 g2 (by omega) g5 hcl (by rcases hc with hc|hc;exact absurd hcl hc;exact hc)).mono λe w' h=>mj.nil h
   ·exact(D2 F C T k j cells v0 v1 v2 v3 v4 v5 v6 L U V Y Z w fe hu hv hy hz ZQ eb ZA h0 g2 (by omega) g5 hcl).mono λe w' h=>mj.nil h
  ·rename_i hc
   injection h with h
   injection h with h1 h
   injection h with h2 h
   injection h with h3 h
   subst h1 h2 h3;exact(D4 F C T k j cells v0 v1 v2 v3 v4 v5 v6 L U V Y Z w fe hu hv hy hz ZQ eb ZA h0 g2 (by omega) g5 (by omega) (by cases eb;exact absurd (.inr rfl) hc;rfl)).mono λe w' h=>mj.ret h
theorem Jp{C:List (List Cn4)}{T:List Vw8}{p:i8}{C':List (List Cn4)}{T':List Vw8}{err:Int}(h:cY C T p.1 p.2.1 p.2.2.1 p.2.2.2.1 p.2.2.2.2.1 p.2.2.2.2.2.1 p.2.2.2.2.2.2.1 p.2.2.2.2.2.2.2.1 p.2.2.2.2.2.2.2.2.1 p.2.2.2.2.2.2.2.2.2.1 p.2.2.2.2.2.2.2.2.2.2=some (C',T',err,())):
 BI Try.prog 36 [.agg [.sl (C.map (enc cCs)),.sl (T.map (enc cVw))],.agg (enc cPg p)] ⟨[.sl (C'.map (enc cCs)),.sl (T'.map (enc cVw)),.v (.int .i64 err)],[.agg 2,.one]⟩:=by
 have hok:D8 C T p.2.2.1 p.2.2.2.2.2.2.2.2.2.2=true:=by
  unfold cY at h;split at h
  ·assumption
  ·cases h
 simp only[D8,oBA,oDE,List.all_eq_true]at hok;obtain⟨⟨⟨⟨⟨o1,o2⟩,o3⟩,o4⟩,o5⟩,o6⟩:=hok;refine⟨rfl,λavs w F hl hv=>?_⟩
 obtain⟨x,y,rfl⟩:∃x y,avs=[x,y]:=by
  match avs,hl with
  | [x,y],_=>exact⟨x,y,rfl⟩
 obtain⟨cs,rfl,XW⟩:=(hv 0 (by simp) (by simp)).agg_out;obtain⟨ds,rfl,hds⟩:=(hv 1 (by simp) (by simp)).agg_out;obtain⟨U,_,rfl,hU,V,_,rfl,hV,rfl⟩:=XW;have QF:=ry.of hds ⟨o5,o6⟩;obtain⟨Y,Z,rfl,hY,hZ⟩:=AX QF;have hu:RSl rCs w F C U:=uy wS hU (λx hx=>o2 x hx) o1;have P0:RSl rVw w F T V:=uy AO hV (λx hx=>o4 x hx) o3;refine(D5 hu P0 hY hZ h).mono ?_;rintro e w' ⟨a,b,rfl,ha,hb,hg⟩;refine⟨[a,b,.int .i64 err],rfl,rfl,sF hg,λj hj=>?_⟩;have hj:j<3:=hj
 match j,hj with
 |0,_=>exact n8 wS (ha.sub λk hk=>.inr hk)
 |1,_=>exact n8 AO (hb.sub λk hk=>.inr hk)
 |2,_=>exact .v rfl
def wfP(x:Int×Int):Bool:=(Lit.int .i64 x.1).wf&&(Lit.int .i64 x.2).wf
theorem If{x:Int×Int}(h:wfP x=true):Kg x:=by
 simp only[wfP,oBA]at h;exact h
def pA(xs ys:List i8):Bool:=decide (xs.length+ys.length<=1099511627776)&&(xs++ys).all (λp=>decide (p.2.2.1.length<=1099511627776)&&decide (p.2.2.2.2.2.2.2.2.2.2.length<=1099511627776)&&wfP (iW p))
def cW(xf xt:Int)(xs:List i8)(yf yt:Int)(ys:List i8):Option (Int×Int×List i8×Int×Unit):=
 if pA xs ys=true then
  (d9 xf xt xs).bind λ(cd,_)=>
  (d9 yf yt ys).bind λ(ce,_)=>
  if cd≠0 then some (0,0,[],cd,())
  else if ce≠0 then some (0,0,[],ce,())
  else if xt≠yf then some (0,0,[],35,())
  else(eX ((xs++ys).map iW) []).bind λ(sids,_)=>
   if sids.length<=1099511627776/\sids.all wfP=true then some (xf,yt,sids.map (gQ (xs++ys)),0,())else none
 else none
def BG(F:Nat->Prop)(f t:Int)(zs:List i8)(err:Int)(w:World)(e:Ending)(w':World):Prop:=
 ∃v,e=.returned (.tuple #[.agg #[.int .i64 f,.int .i64 t,v],.int .i64 err])/\RSl rPg w' (λk=>F k\/w.heap.size<=k) zs v/\w.grownBy w' none
theorem zh{F:Nat->Prop}{xs ys:List i8}{X Y:Value}{xf xt yf yt:Int}{w:World}{f t err:Int}{zs:List i8}(hx:RSl rPg w F xs X)(hy:RSl rPg w F ys Y)(h:cW xf xt xs yf yt ys=some (f,t,zs,err,())):
 Calls Try.prog 16 #[.agg #[.int .i64 xf,.int .i64 xt,X],.agg #[.int .i64 yf,.int .i64 yt,Y]] w (BG F f t zs err w):=by
 unfold cW at h;split at h
 case isFalse=>cases h
 rename_i hok;simp only[pA,oBA,oDE,List.all_eq_true]at hok;obtain⟨⟨cd,u1⟩,Tz,h⟩:=Option.bind_eq_some_iff.1 h;obtain⟨⟨ce,u2⟩,TC,h⟩:=Option.bind_eq_some_iff.1 h;have hd:=sw hx Tz;have he:=sw hy TC;dsimp only at h
 have bad:∀r,((cd≠0/\r=cd)\/(cd=0/\ce≠0/\r=ce)\/(cd=0/\ce=0/\xt≠yf/\r=35))->Calls Try.prog 16 #[.agg #[.int .i64 xf,.int .i64 xt,X],.agg #[.int .i64 yf,.int .i64 yt,Y]] w (BG F 0 0 [] r w):=λr hr=>by
  obtain⟨A1,c1,rfl,_⟩:=hx.size_eq;obtain⟨A2,c2,rfl,_⟩:=hy.size_eq;exact(EO A1 A2 xs.length ys.length c1 c2 xf xt yf yt w cd ce hd he r hr).mono λe w' h=>⟨_,h.1,RSl.nil _ _,h.2⟩
 split at h
 ·rename_i h1
  injection h with h
  injection h with e1 h
  injection h with e2 h
  injection h with e3 h
  injection h with e4 h
  subst e1 e2 e3 e4;exact bad _ (.inl ⟨h1,rfl⟩)
 rename_i h1
 have h1:cd=0:=by simpa using h1
 split at h
 ·rename_i h2
  injection h with h
  injection h with e1 h
  injection h with e2 h
  injection h with e3 h
  injection h with e4 h
  subst e1 e2 e3 e4;exact bad _ (.inr (.inl ⟨h1,h2,rfl⟩))
 rename_i h2
 have h2:ce=0:=by simpa using h2
 split at h
 ·rename_i h3
  injection h with h
  injection h with e1 h
  injection h with e2 h
  injection h with e3 h
  injection h with e4 h
  subst e1 e2 e3 e4;exact bad _ (.inr (.inr ⟨h1,h2,h3,rfl⟩))
 rename_i h3
 have h3:xt=yf:=by simpa using h3
 obtain⟨⟨sids,u3⟩,hm,h⟩:=Option.bind_eq_some_iff.1 h;dsimp only at h;split at h
 case isFalse=>cases h
 rename_i h4
 injection h with h
 injection h with e1 h
 injection h with e2 h
 injection h with e3 h
 injection h with e4 h
 subst e1 e2 e3 e4 h1 h2 h3;exact Cp F xs ys sids X Y xf xt yt w hx hy hd he (λp hp=>If (hok.2 p hp).2) (λs hs=>If (List.all_eq_true.1 h4.2 s hs)) hok.1 h4.1 (xX hm h4.1) Ck
theorem EM{xf xt yf yt:Int}{xs ys zs:List i8}{f t err:Int}(h:cW xf xt xs yf yt ys=some (f,t,zs,err,())):
 BI Try.prog 16 [.agg [.v (.int .i64 xf),.v (.int .i64 xt),.sl (xs.map (enc cPg))],.agg [.v (.int .i64 yf),.v (.int .i64 yt),.sl (ys.map (enc cPg))]] ⟨[.v (.int .i64 f),.v (.int .i64 t),.sl (zs.map (enc cPg)),.v (.int .i64 err)],[.agg 3,.one]⟩:=by
 have hok:pA xs ys=true:=by
  unfold cW at h;split at h
  ·assumption
  ·cases h
 simp only[pA,oBA,oDE,List.all_eq_true]at hok;refine⟨rfl,λavs w F hl hv=>?_⟩
 obtain⟨x,y,rfl⟩:∃x y,avs=[x,y]:=by
  match avs,hl with
  | [x,y],_=>exact⟨x,y,rfl⟩
 obtain⟨cs,rfl,XW⟩:=(hv 0 (by simp) (by simp)).agg_out;obtain⟨ds,rfl,hds⟩:=(hv 1 (by simp) (by simp)).agg_out;obtain⟨a1,_,rfl,i1,a2,_,rfl,i2,X,_,rfl,hX,rfl⟩:=XW;obtain⟨b1,_,rfl,j1,b2,_,rfl,j2,Y,_,rfl,hY,rfl⟩:=hds;cases i1;cases i2;cases j1;cases j2;have hx:RSl rPg w F xs X:=uy ry hX (λp hp=>⟨(hok.2 p (List.mem_append_left _ hp)).1.1,(hok.2 p (List.mem_append_left _ hp)).1.2⟩) (by omega);have hy:RSl rPg w F ys Y:=uy ry hY (λp hp=>⟨(hok.2 p (List.mem_append_right _ hp)).1.1,(hok.2 p (List.mem_append_right _ hp)).1.2⟩) (by omega);refine(zh hx hy h).mono ?_;rintro e w' ⟨v,rfl,hr,hg⟩;refine⟨[.int .i64 f,.int .i64 t,v,.int .i64 err],rfl,rfl,sF hg,λj hj=>?_⟩;have hj:j<4:=hj
 match j,hj with
 |0,_=>exact .v rfl
 |1,_=>exact .v rfl
 |2,_=>exact n8 ry hr
 |3,_=>exact .v rfl
def lH(C:List (List Cn4))(T:List Vw8)(p:i8):List TV:=[.agg [.sl (C.map (enc cCs)),.sl (T.map (enc cVw))],.agg (enc cPg p)]
def D7(C':List (List Cn4))(T':List Vw8)(err:Int):sO:=⟨[.sl (C'.map (enc cCs)),.sl (T'.map (enc cVw)),.v (.int .i64 err)],[.agg 2,.one]⟩
def iC(xf xt:Int)(xs:List i8)(yf yt:Int)(ys:List i8):List TV:=[.agg [.v (.int .i64 xf),.v (.int .i64 xt),.sl (xs.map (enc cPg))],.agg [.v (.int .i64 yf),.v (.int .i64 yt),.sl (ys.map (enc cPg))]]
def vh(f t:Int)(zs:List i8)(err:Int):sO:=⟨[.v (.int .i64 f),.v (.int .i64 t),.sl (zs.map (enc cPg)),.v (.int .i64 err)],[.agg 3,.one]⟩
def Kb(f:FuncId)(vals:List TV)(r:sO):Prop:=f=36/\∃(C:List (List Cn4))(T:List Vw8)(p:i8)(C':List (List Cn4))(T':List Vw8)(err:Int),vals=lH C T p/\cY C T p.1 p.2.1 p.2.2.1 p.2.2.2.1 p.2.2.2.2.1 p.2.2.2.2.2.1 p.2.2.2.2.2.2.1 p.2.2.2.2.2.2.2.1 p.2.2.2.2.2.2.2.2.1 p.2.2.2.2.2.2.2.2.2.1 p.2.2.2.2.2.2.2.2.2.2=some (C',T',err,())/\r=D7 C' T' err
def Ao(f:FuncId)(vals:List TV)(r:sO):Prop:=f=16/\∃(xf xt:Int)(xs:List i8)(yf yt:Int)(ys:List i8)(g t:Int)(zs:List i8)(err:Int),vals=iC xf xt xs yf yt ys/\cW xf xt xs yf yt ys=some (g,t,zs,err,())/\r=vh g t zs err
theorem Jq{C D:List (List Cn4)}{T U:List Vw8}{p q:i8}(h:lH C T p=lH D U q):C=D/\T=U/\p=q:=by
 simp only[lH,List.cons.injEq,TV.agg.injEq,TV.sl.injEq,and_true]at h;exact⟨i7 (λe=>sg cCs rfl e) h.1.1,i7 (λe=>sg cVw rfl e) h.1.2,sg cPg rfl h.2⟩
theorem EN{a b c d a' b' c' d':Int}{xs ys xs' N3:List i8}(h:iC a b xs c d ys=iC a' b' xs' c' d' N3):a=a'/\b=b'/\xs=xs'/\c=c'/\d=d'/\ys=N3:=by
 simp only[iC,List.cons.injEq,TV.agg.injEq,TV.sl.injEq,TV.v.injEq,Value.int.injEq,and_true,true_and]at h;exact⟨h.1.1,h.1.2.1,i7 (λe=>sg cPg rfl e) h.1.2.2,h.2.1,h.2.2.1,i7 (λe=>sg cPg rfl e) h.2.2.2⟩
theorem B5:gX Try.prog 36:=jr Try.func36 (by kernel_rfl) rfl
theorem xg:gX Try.prog 16:=jr Try.func16 (by kernel_rfl) rfl
noncomputable def tF (f:FuncId)(vals:List TV):Option sO:=@dite _ (∃r,Kb f vals r\/Ao f vals r) (Classical.propDecidable _) (λh=>some (Classical.choose h)) (λ_=>none)
theorem G9:∀f vals r,tF f vals=some r->gX Try.prog f/\BI Try.prog f vals r:=by
 intro f vals r h;unfold tF at h;split at h
 case isFalse=>cases h
 rename_i hx
 injection h with h
 have hs:=Classical.choose_spec hx;rw[h]at hs
 rcases hs with⟨rfl,C,T,p,C',T',err,rfl,hr,rfl⟩|⟨rfl,xf,xt,xs,yf,yt,ys,g,t,zs,err,rfl,hr,rfl⟩
 ·exact⟨B5,Jp hr⟩
 ·exact⟨xg,EM hr⟩
theorem Fc{C:List (List Cn4)}{T:List Vw8}{p:i8}{C':List (List Cn4)}{T':List Vw8}{err:Int}(h:cY C T p.1 p.2.1 p.2.2.1 p.2.2.2.1 p.2.2.2.2.1 p.2.2.2.2.2.1 p.2.2.2.2.2.2.1 p.2.2.2.2.2.2.2.1 p.2.2.2.2.2.2.2.2.1 p.2.2.2.2.2.2.2.2.2.1 p.2.2.2.2.2.2.2.2.2.2=some (C',T',err,())):
 tF 36 (lH C T p)=some (D7 C' T' err):=by
 have hx:∃r,Kb 36 (lH C T p) r\/Ao 36 (lH C T p) r:=⟨_,.inl ⟨rfl,C,T,p,C',T',err,rfl,h,rfl⟩⟩;unfold tF;rw[dif_pos hx];have hs:=Classical.choose_spec hx;congr 1
 rcases hs with⟨_,C2,T2,p2,C3,T3,e3,e,hr,h3⟩|⟨e,_⟩
 ·obtain⟨rfl,rfl,rfl⟩:=Jq e;rw[h]at hr
  injection hr with hr
  injection hr with e1 hr
  injection hr with e2 hr
  injection hr with e3 hr
  subst e1 e2 e3;exact h3
 ·exact absurd e (by decide)
theorem zx{xf xt yf yt:Int}{xs ys zs:List i8}{g t err:Int}(h:cW xf xt xs yf yt ys=some (g,t,zs,err,())):
 tF 16 (iC xf xt xs yf yt ys)=some (vh g t zs err):=by
 have hx:∃r,Kb 16 (iC xf xt xs yf yt ys) r\/Ao 16 (iC xf xt xs yf yt ys) r:=⟨_,.inr ⟨rfl,xf,xt,xs,yf,yt,ys,g,t,zs,err,rfl,h,rfl⟩⟩;unfold tF;rw[dif_pos hx];have hs:=Classical.choose_spec hx;congr 1
 rcases hs with⟨e,_⟩|⟨_,_,_,_,_,_,_,_,_,_,_,e,hr,h3⟩
 ·exact absurd e (by decide)
 ·obtain⟨rfl,rfl,rfl,rfl,rfl,rfl⟩:=EN e;rw[h]at hr
  injection hr with hr
  injection hr with e1 hr
  injection hr with e2 hr
  injection hr with e3 hr
  injection hr with e4 hr
  subst e1 e2 e3 e4;exact h3
noncomputable def libBj:dw:=λf vals pts=>match xk tF f vals pts with|some r=>some r|none=>mz f vals pts
theorem libBj_ok:eR Try.prog libBj:=by
 intro f vals pts res Zt h;unfold libBj at h;split at h
 ·rename_i r hr
  injection h with h
  subst h;exact JL G9 f vals pts _ _ hr
 ·exact EU f vals pts _ _ h
theorem Ct{f:FuncId}{vals:List TV}{pts:List (Nat×List TV)}(h1:f≠36)(h2:f≠16):libBj f vals pts=mz f vals pts:=by
 have h:xk tF f vals pts=none:=by
  unfold xk;split
  ·split
   ·have:tF f vals=none:=by
     unfold tF;rw[dif_neg];rintro⟨r,⟨e,_⟩|⟨e,_⟩⟩
     ·exact h1 e
     ·exact h2 e
    rw[this];rfl
   ·rfl
  ·rfl
 unfold libBj;rw[h]
abbrev sRg:CT:=.row false (.row false cCn)
abbrev sTs:CT:=.row false cVw
abbrev sPs:CT:=.row false cPg
set_option maxHeartbeats 4000000 in
set_option maxRecDepth 100000 in
def yk(id:Nat):Ctr:=⟨36,id,[.agg [shU sRg,shU sTs],.agg [shU I64,shU I64,shU (.row false cCn),shU I64,shU I64,shU I64,shU I64,shU I64,shU I64,shU (.int .u16),shU (.row false cCn)]],[],[⟨[shU sRg,shU sTs,shU I64],[.agg 2,.one],[]⟩],
 λh=>cY h.1 h.2.1 h.2.2.1 h.2.2.2.1 h.2.2.2.2.1 h.2.2.2.2.2.1 h.2.2.2.2.2.2.1 h.2.2.2.2.2.2.2.1 h.2.2.2.2.2.2.2.2.1 h.2.2.2.2.2.2.2.2.2.1 h.2.2.2.2.2.2.2.2.2.2.1 h.2.2.2.2.2.2.2.2.2.2.2.1 h.2.2.2.2.2.2.2.2.2.2.2.2.1⟩
set_option maxHeartbeats 4000000 in
set_option maxRecDepth 100000 in
theorem sY{id:Nat}:ki libBj (yk id):=by
 rintro⟨C,T,a0,a1,cells,v0,v1,v2,v3,v4,v5,v6,L,h⟩ ⟨C',T',err,u⟩ x ho hx;have ho:cY C T a0 a1 cells v0 v1 v2 v3 v4 v5 v6 L=some (C',T',err,()):=ho;cases hx;show libBj 36 (lH C T (a0,a1,cells,v0,v1,v2,v3,v4,v5,v6,L)) []=some (D7 C' T' err,[]);unfold libBj xk;rw[oIP (by rfl),Fc ho];rfl
set_option maxHeartbeats 4000000 in
set_option maxRecDepth 100000 in
def tQ(id:Nat):Ctr:=⟨16,id,[.agg [shU I64,shU I64,shU sPs],.agg [shU I64,shU I64,shU sPs]],[],[⟨[shU I64,shU I64,shU sPs,shU I64],[.agg 3,.one],[]⟩],
 λh=>cW h.1 h.2.1 h.2.2.1 h.2.2.2.1 h.2.2.2.2.1 h.2.2.2.2.2.1⟩
set_option maxHeartbeats 4000000 in
set_option maxRecDepth 100000 in
theorem qu{id:Nat}:ki libBj (tQ id):=by
 rintro⟨xf,xt,xs,yf,yt,ys,h⟩ ⟨g,t,zs,err,u⟩ x ho hx;have ho:cW xf xt xs yf yt ys=some (g,t,zs,err,()):=ho;cases hx;show libBj 16 (iC xf xt xs yf yt ys) []=some (vh g t zs err,[]);unfold libBj xk;rw[oIP (by rfl),zx ho];rfl
theorem ki.join{c:Ctr}(h:ki mz c)(h1:c.f≠36)(h2:c.f≠16):ki libBj c:=λa o x ho hx=>(Ct h1 h2).trans (h a o x ho hx)
end Go.Proofs.Ytbdhpgelkfncpaa
namespace Go.Proofs.Ytbdhpgelkfncpaa
open Go.RowKit
set_option maxRecDepth 100000
noncomputable section
abbrev KCn:CT:=(.pair (.int .u8) (.pair (.int .u16) (.pair I64 I64)))
abbrev fr:CT:=(.pair I64 (.pair I64 (.pair I64 (.pair I64 (.pair I64 (.pair I64 (.pair (.int .u16) (.row false KCn))))))))
abbrev tY:CT:=(.pair I64 (.pair I64 (.pair I64 (.pair I64 (.pair I64 (.pair I64 (.pair (.int .u16) (.row true KCn))))))))
abbrev dB:CT:=(.row false KCn)
abbrev RI:CT:=(.row false I64)
abbrev DCe:Type:=(Int×Int)
abbrev DCn:Type:=(Int×Int×Int×Int)
abbrev DTs:Type:=(Int×Int×Int×Int×Int×Int×Int×List DCn)
def HH(f i:Nat):List (Nat×Option Nat):=if f=22 then(if i=3000012 then[(10,some 0),(10,some 1)]else[])else if f=5 then(if i=1000004 then[(2,none)]else if i=1000009 then[(9,none)]else if i=1000013 then[(2,none)]else[])else if f=62 then(if i=0 then[(4,none)]else[])else if f=54 then(if i=0 then[(4,some 2),(4,some 10)]else[])else if f=31 then(if i=0 then[(4,some 2),(4,some 10)]else[])else if f=35 then(if i=1000005 then[(6,none)]else if i=1000010 then[(6,none)]else[])else if f=17 then(if i=3000007 then[(9,some 0),(9,some 1)]else if i=0 then[(6,some 0),(6,some 1)]else[])else if f=42 then(if i=0 then[(4,some 10),(4,some 2)]else[])else[]
def KT:List Nat:=[36,16]
def TT (f:FuncId):Option TFn:=if KT.contains f then none else nJ Try.prog (HH f) f
theorem Ik{f:FuncId}(h:KT.contains f=true):TT f=none:=oIP h
def E0:Env:=⟨λf=>if f=11 then some (1,[.arg 0,.val (.int .i64 0)])else none,λf=>L3 Try.prog f⟩
theorem tt_ok:Dc Try.prog TT:=λf tf h=>Dp HH (by kernel_rfl) f tf (by
 unfold TT at h
 split at h
 ·cases h
 ·exact h)
abbrev qE:Shs:=⟨[],[],[],([],[])⟩
abbrev qS(s:List (Nat×Sh))(c:List (Nat×List Sh)):Shs:=⟨s,c,[],([],[])⟩
abbrev N1:CT:=.nilr true
abbrev N0:CT:=.nilr false
abbrev CW:CT:=.int .u16
abbrev CB:CT:=.int .u8
abbrev uL(l:List CT):List Sh:=l.map fun c=>.d c ()
abbrev pP(t r:Nat):Nat×Sh:=(t,.ptr ⟨r,0,[]⟩ [0])
abbrev sP(t:Nat)(c:CT):Nat×Sh:=(t,.d c ())
abbrev Lk(n:Nat)(c:Ctr):Prop:=Lvl E0 TT mz n c
theorem aN{m:Nat}:BJ E0 TT mz m []:=trivial
theorem aC{n m:Nat}{c:Ctr}{l:List Ctr}(h:Lk n c)(r:BJ E0 TT mz m l)(hm:n≤m:=by decide):BJ E0 TT mz m (c::l):=⟨h.mono hm,r⟩
abbrev lx(i n:Nat)(s:List (Nat×Sh))(c:List (Nat×List Sh))(b:Nat):yw:=⟨i,n,⟨s,c,[],([],[])⟩,[(.exit 0,⟨s++[(b,.d .bool ())],c,[],([],[])⟩)]⟩
abbrev LI:Type:=List Int
abbrev LDCe:Type:=List DCe
abbrev LDCn:Type:=List DCn
abbrev LDTs:Type:=List DTs
abbrev LLCn:Type:=List (List DCn)
abbrev T00:Type:=Int×Bool×Unit
abbrev T01:Type:=Int×Int×Unit
abbrev T02:Type:=LI×Int×Unit
abbrev T03:Type:=LLCn×LDTs×Unit
abbrev T04:Type:=Unit×Unit×Unit
abbrev T05:Type:=Int×T00
abbrev T06:Type:=Int×Int×LDCe×Unit
abbrev T07:Type:=LI×T01
abbrev T08:Type:=LLCn×LDTs×LI×Unit
abbrev T09:Type:=Int×Int×Bool×LDCe×Unit
abbrev T0a:Type:=Int×T08
abbrev T0b:Type:=LI×T05
abbrev T0c:Type:=LI×T06
abbrev T0d:Type:=LLCn×LDTs×T03
abbrev T0e:Type:=LLCn×LDTs×T04
abbrev T0f:Type:=Unit×Unit×T03
abbrev T0g:Type:=Unit×Unit×LLCn×Unit×Unit
abbrev T0h:Type:=Bool×T0d
abbrev T0i:Type:=Int×T0c
abbrev T0j:Type:=Int×T0d
abbrev T0k:Type:=LI×T09
abbrev T0l:Type:=Int×Int×T0e
abbrev T0m:Type:=LI×Int×T0f
abbrev T0n:Type:=LI×Int×T0g
abbrev T0o:Type:=LLCn×LDTs×T0f
abbrev T0p:Type:=LLCn×LDTs×T0g
abbrev T0q:Type:=Int×Int×Bool×T0e
abbrev T0r:Type:=Int×T0m
abbrev T0s:Type:=Int×T0n
abbrev T0t:Type:=Int×T0o
abbrev T0u:Type:=Int×T0p
abbrev T0v:Type:=LI×Int×Unit×Unit×LLCn×Unit×LDCn×Unit
abbrev T0w:Type:=Int×Bool×T0m
abbrev T0x:Type:=Int×Int×Int×Int×Int×Int×Int×LDCn×Unit
abbrev T0y:Type:=Int×Int×Int×T0i
abbrev T0z:Type:=Int×T0r
abbrev T0A:Type:=Int×T0w
abbrev T0B:Type:=Int×Int×T0v
abbrev T0C:Type:=Int×Int×LDCn×T0x
abbrev T0D:Type:=(List (Int×Int×LDCn×Int×Int×Int×Int×Int×Int×Int×LDCn))×Int×Unit
abbrev T0E:Type:=Int×(List (Int×Int×LDCn×Int×Int×Int×Int×Int×Int×Int×LDCn))×Unit
abbrev T0F:Type:=Int×Int×LDCn×Int×Int×Int×Int×Int×Int×Int×LDCn×Int×Unit
abbrev T0G:Type:=Int×T0E
abbrev T0H:Type:=Bool×T0G
abbrev T0I:Type:=Int×Int×T0D
abbrev T0J:Type:=Int×T0G
abbrev T0K:Type:=LLCn×LDTs×LDCe×(List (Int×Int×LDCn×Int×Int×Int×Int×Int×Int×Int×LDCn))×Unit
abbrev T0L:Type:=Int×T0H
abbrev T0M:Type:=Int×T0K
abbrev T0N:Type:=Int×Bool×T0K
abbrev T0O:Type:=Int×T0M
abbrev T0P:Type:=Int×Int×(List (Int×Int×LDCn×Int×Int×Int×Int×Int×Int×Int×LDCn))×T0f
abbrev T0Q:Type:=LLCn×LDTs×Int×Int×(List (Int×Int×LDCn×Int×Int×Int×Int×Int×Int×Int×LDCn))×T04
abbrev T0R:Type:=Int×T0Q
abbrev T0S:Type:=LI×Int×Int×Int×Int×Int×Int×Int×Int×Unit×T0x
abbrev T0T:Type:=Int×T0S
abbrev T0U:Type:=LLCn×LDTs×Int×Int×Unit×LDCe×T0G
abbrev T0V:Type:=Int×T0U
abbrev T0W:Type:=Int×Bool×T0U
abbrev T0X:Type:=Int×T0V
abbrev T0Y:Type:=(List (Int×Int×LDCn×Int×Int×Int×Int×Int×Int×Int×LDCn))×T0D
abbrev T0Z:Type:=(List (Int×Int×LDCn×Int×Int×Int×Int×Int×Int×Int×LDCn))×(List (Int×Int×LDCn×Int×Int×Int×Int×Int×Int×Int×LDCn))×LDCe×Unit
abbrev T10:Type:=(List (Int×Int×LDCn×Int×Int×Int×Int×Int×Int×Int×LDCn))×Int×T0C
abbrev T11:Type:=Int×T0Z
abbrev T12:Type:=Int×Bool×T0Z
abbrev T13:Type:=Int×T11
abbrev T14:Type:=Int×Int×(List (Int×Int×LDCn×Int×Int×Int×Int×Int×Int×Int×LDCn))×Int×Int×Unit×T0G
abbrev T15:Type:=(List (Int×Int×LDCn×Int×Int×Int×Int×Int×Int×Int×LDCn))×Int×Int×T0P
abbrev T16:Type:=Int×T14
abbrev T17:Type:=Int×Int×(List (Int×Int×LDCn×Int×Int×Int×Int×Int×Int×Int×LDCn))×T14
abbrev T18:Type:=Int×T17
noncomputable abbrev ap1{A0 D R:Type}(f:A0→R)(h:A0×D):R:=f h.1
noncomputable abbrev ap2{A0 A1 D R:Type}(f:A0→A1→R)(h:A0×A1×D):R:=f h.1 h.2.1
noncomputable abbrev ap3{A0 A1 A2 D R:Type}(f:A0→A1→A2→R)(h:A0×A1×A2×D):R:=f h.1 h.2.1 h.2.2.1
noncomputable abbrev ap4{A0 A1 A2 A3 D R:Type}(f:A0→A1→A2→A3→R)(h:A0×A1×A2×A3×D):R:=f h.1 h.2.1 h.2.2.1 h.2.2.2.1
noncomputable abbrev ap5{A0 A1 A2 A3 A4 D R:Type}(f:A0→A1→A2→A3→A4→R)(h:A0×A1×A2×A3×A4×D):R:=f h.1 h.2.1 h.2.2.1 h.2.2.2.1 h.2.2.2.2.1
noncomputable abbrev ap6{A0 A1 A2 A3 A4 A5 D R:Type}(f:A0→A1→A2→A3→A4→A5→R)(h:A0×A1×A2×A3×A4×A5×D):R:=f h.1 h.2.1 h.2.2.1 h.2.2.2.1 h.2.2.2.2.1 h.2.2.2.2.2.1
noncomputable abbrev ap8{A0 A1 A2 A3 A4 A5 A6 A7 D R:Type}(f:A0→A1→A2→A3→A4→A5→A6→A7→R)(h:A0×A1×A2×A3×A4×A5×A6×A7×D):R:=f h.1 h.2.1 h.2.2.1 h.2.2.2.1 h.2.2.2.2.1 h.2.2.2.2.2.1 h.2.2.2.2.2.2.1 h.2.2.2.2.2.2.2.1
noncomputable abbrev ap13{A0 A1 A2 A3 A4 A5 A6 A7 A8 A9 A10 A11 A12 D R:Type}(f:A0→A1→A2→A3→A4→A5→A6→A7→A8→A9→A10→A11→A12→R)(h:A0×A1×A2×A3×A4×A5×A6×A7×A8×A9×A10×A11×A12×D):R:=f h.1 h.2.1 h.2.2.1 h.2.2.2.1 h.2.2.2.2.1 h.2.2.2.2.2.1 h.2.2.2.2.2.2.1 h.2.2.2.2.2.2.2.1 h.2.2.2.2.2.2.2.2.1 h.2.2.2.2.2.2.2.2.2.1 h.2.2.2.2.2.2.2.2.2.2.1 h.2.2.2.2.2.2.2.2.2.2.2.1 h.2.2.2.2.2.2.2.2.2.2.2.2.1
noncomputable abbrev ap16{A0 A1 A2 A3 A4 A5 A6 A7 A8 A9 A10 A11 A12 A13 A14 A15 D R:Type}(f:A0→A1→A2→A3→A4→A5→A6→A7→A8→A9→A10→A11→A12→A13→A14→A15→R)(h:A0×A1×A2×A3×A4×A5×A6×A7×A8×A9×A10×A11×A12×A13×A14×A15×D):R:=f h.1 h.2.1 h.2.2.1 h.2.2.2.1 h.2.2.2.2.1 h.2.2.2.2.2.1 h.2.2.2.2.2.2.1 h.2.2.2.2.2.2.2.1 h.2.2.2.2.2.2.2.2.1 h.2.2.2.2.2.2.2.2.2.1 h.2.2.2.2.2.2.2.2.2.2.1 h.2.2.2.2.2.2.2.2.2.2.2.1 h.2.2.2.2.2.2.2.2.2.2.2.2.1 h.2.2.2.2.2.2.2.2.2.2.2.2.2.1 h.2.2.2.2.2.2.2.2.2.2.2.2.2.2.1 h.2.2.2.2.2.2.2.2.2.2.2.2.2.2.2.1
noncomputable abbrev ap22{A0 A1 A2 A3 A4 A5 A6 A7 A8 A9 A10 A11 A12 A13 A14 A15 A16 A17 A18 A19 A20 A21 D R:Type}(f:A0→A1→A2→A3→A4→A5→A6→A7→A8→A9→A10→A11→A12→A13→A14→A15→A16→A17→A18→A19→A20→A21→R)(h:A0×A1×A2×A3×A4×A5×A6×A7×A8×A9×A10×A11×A12×A13×A14×A15×A16×A17×A18×A19×A20×A21×D):R:=f h.1 h.2.1 h.2.2.1 h.2.2.2.1 h.2.2.2.2.1 h.2.2.2.2.2.1 h.2.2.2.2.2.2.1 h.2.2.2.2.2.2.2.1 h.2.2.2.2.2.2.2.2.1 h.2.2.2.2.2.2.2.2.2.1 h.2.2.2.2.2.2.2.2.2.2.1 h.2.2.2.2.2.2.2.2.2.2.2.1 h.2.2.2.2.2.2.2.2.2.2.2.2.1 h.2.2.2.2.2.2.2.2.2.2.2.2.2.1 h.2.2.2.2.2.2.2.2.2.2.2.2.2.2.1 h.2.2.2.2.2.2.2.2.2.2.2.2.2.2.2.1 h.2.2.2.2.2.2.2.2.2.2.2.2.2.2.2.2.1 h.2.2.2.2.2.2.2.2.2.2.2.2.2.2.2.2.2.1 h.2.2.2.2.2.2.2.2.2.2.2.2.2.2.2.2.2.2.1 h.2.2.2.2.2.2.2.2.2.2.2.2.2.2.2.2.2.2.2.1 h.2.2.2.2.2.2.2.2.2.2.2.2.2.2.2.2.2.2.2.2.1 h.2.2.2.2.2.2.2.2.2.2.2.2.2.2.2.2.2.2.2.2.2.1
theorem ls{n:Nat}(C:X.Cfg)(hT:BJ E0 TT mz n C.TB){c:Ctr}(hE:C.E=E0:=by rfl)(h1:(TT c.f).isSome=true:=by kernel_rfl)(hg:∀h,X.runT bV C () ((TT c.f).getD Md) c.outs (fZ c.ins _ h).1 (oB c.pts [] (fZ c.ins _ h).2).1=c.g h:=by intro h;kernel_rfl):Lk (n+1) c:=cb (n:=n) (C:=C) hE hT (cg h1) hg
abbrev yaa(t:Nat):Nat×Sh:=sP t I64
abbrev zaa(t:Nat):Nat×Sh:=sP t .bool
abbrev Uaa(t r:Nat):Nat×Sh:=(t,.pk ⟨r,0,[]⟩ [0,0])
abbrev Xi(t:CT):CT:=.row true t
abbrev Xj(t:CT):CT:=.row false t
abbrev uaa(t:Nat):Nat×Sh:=pP t (2*t+2)
abbrev Xaa:List Sh:=uL [(Xj dB),(Xj fr)]
abbrev Zaa:List Sh:=uL [RI,I64]
abbrev uab:List Sh:=uL [N1,N1]
abbrev yab:List Sh:=uL [.bool]
abbrev zab:List Sh:=uL [I64]
abbrev Uab:List Sh:=uL [(Xi (Xi KCn)),(Xi tY)]
abbrev Xab:List Sh:=uL [I64,I64]
abbrev Zab:List Sh:=uL [(Xi (.pair I64 I64))]
abbrev uac:List Sh:=uL [I64,I64,I64,I64,I64,I64,CW,dB]
abbrev yac:List Sh:=uL [I64,I64,I64,I64,I64,I64,CW,(Xi KCn)]
abbrev zac:List Sh:=uL [(Xi (Xi KCn)),N1]
abbrev Uac:List Sh:=uL [I64,I64,dB,I64,I64,I64,I64,I64,I64,CW,dB]
abbrev Xac:List Sh:=uL [(Xi dB),(Xi fr)]
abbrev Zac:List Sh:=uL [(Xi KCn)]
abbrev uad:List Sh:=uL [I64,I64,N1]
abbrev yad:List Sh:=uL [(Xi (.pair I64 I64)),I64]
abbrev zad:List Sh:=uL [(Xj dB),(Xj fr),I64]
def ee(a0:Int)(a1:Int)(a2:Int)(a3:Int)(a4:Int)(a5:Int)(a6:Int)(a7:LDCn):Option (T0x):=
bif(dg 24 0 a7.length)then let x0:LDCn:=(List.append [] a7);
some (a0,a1,a2,a3,a4,a5,a6,x0,())else none
def tG:X.Cfg:=⟨E0,[],[],[]⟩
def ni:Ctr:=⟨40,2,[.agg uac],[],[⟨yac,[.agg 8],[]⟩],ap8 ee⟩
theorem tj:Lvl E0 TT libBj 1 ni:=cb (n:=0) (C:=tG) rfl (.intro) (cg (by kernel_rfl)) (λh=>by kernel_rfl)
def dR:T0u->Option (T0u⊕(Int×Bool×T0p)):=λ(v0,v1,v2,v3,v4,v5,v6,_)=>
let x0:=cf v1.length;
bif(decide (v0<x0))then((eo v0).bind λx1=>
(dt v1 x1).bind λx2=>
bif(dg 24 0 x2.length)then let x3:LDCn:=(List.append [] x2);
bif(dg 24 v5.length (List.length [x3]))then let x4:List LDCn:=(List.append v5 [x3]);
let x5:=w64 (v0+1);
some (.inl (x5,v1,v2,v3,v4,x4,v6,()))else none else none)else
some (.inr (v0,false,v1,v2,v3,v4,v5,v6,()))
def dQ:T0t->Option (T0t⊕(Int×Bool×T0o)):=λ(v0,v1,v2,v3,v4,v5,v6,_)=>
let x0:=cf v2.length;
bif(decide (v0<x0))then((eo v0).bind λx1=>
(dt v2 x1).bind λx2=>
(ee x2.1 x2.2.1 x2.2.2.1 x2.2.2.2.1 x2.2.2.2.2.1 x2.2.2.2.2.2.1 x2.2.2.2.2.2.2.1 x2.2.2.2.2.2.2.2).bind λ(x3,x4,x5,x6,x7,x8,x9,ac,_)=>
let ae:LDTs:=[(x3,(x4,(x5,(x6,(x7,(x8,(x9,ac)))))))];
bif(dg 80 v6.length ae.length)then let af:LDTs:=(List.append v6 ae);
let ah:=w64 (v0+1);
some (.inl (ah,v1,v2,v3,v4,v5,af,()))else none)else
some (.inr (v0,false,v1,v2,v3,v4,v5,v6,()))
def fC(a0:List LDCn)(a1:LDTs):Option (T03):=
(cr dR NN (0,a0,a1,(),(),[],(),())).bind λ(x0,x1,x2,x3,x4,x5,x6,x7,_)=>
(cr dQ NN (0,x2,x3,x4,x5,x6,[],())).bind λ(x8,x9,ac,ae,af,ah,aj)=>
some (aj)
def xD:X.Cfg:=⟨E0,[ni],[(22,(Xi KCn)),(23,(Xi KCn)),(40,tY),(41,tY)],[(lx 4 0 [uaa 1,uaa 2,uaa 3,yaa 4] [(4,Xaa),(6,uab),(8,zac)] 10),⟨10,1,qS [uaa 1,uaa 2,uaa 3,yaa 5] [(4,Xaa),(6,uab),(8,Uab)],[(.exit 2,qS [uaa 1,uaa 2,uaa 3,yaa 5,zaa 29] [(4,Xaa),(6,uab),(8,Uab)])]⟩]⟩
def l9:Ctr:=⟨20,3,[.agg Xaa],[],[⟨Uab,[.agg 2],[]⟩],ap2 fC⟩
theorem p5:Lvl E0 TT libBj 2 l9:=cb (n:=1) (C:=xD) rfl (.intro (tj.mono (by decide)) (.intro)) (cg (by kernel_rfl)) (λh=>by kernel_rfl)
def gw(a0:Int):Option (Bool×Unit):=
bif(decide (a0>=1))then(some ((decide (a0<=32)),()))else
some (false,())
def vI:X.Cfg:=⟨E0,[],[],[]⟩
def kS:Ctr:=⟨86,4,zab,[],[⟨yab,[.one],[]⟩],ap1 gw⟩
theorem om:Lvl E0 TT libBj 1 kS:=cb (n:=0) (C:=vI) rfl (.intro) (cg (by kernel_rfl)) (λh=>by kernel_rfl)
def gh(a0:LDCn):Option (Bool×Unit):=
let x0:=cf a0.length;
(gw x0).bind λ(x1,_)=>
some ((!x1),())
def qA:X.Cfg:=⟨E0,[kS],[],[]⟩
def lk:Ctr:=⟨85,5,uL [dB],[],[⟨yab,[.one],[]⟩],ap1 gh⟩
theorem qx:Lvl E0 TT libBj 2 lk:=cb (n:=1) (C:=qA) rfl (.intro (om.mono (by decide)) (.intro)) (cg (by kernel_rfl)) (λh=>by kernel_rfl)
def cn:LLCn×T01->Option ((LLCn×T01)⊕((Int×Unit)⊕(LLCn×T05))):=λ(v0,v1,v2,_)=>
bif(decide (v2<v1))then((eo v2).bind λx0=>
(dt v0 x0).bind λx1=>
(gh x1).bind λ(x2,_)=>
bif x2 then(some (.inr (.inl (v2,()))))else
let x3:=w64 (v2+1);
some (.inl (v0,v1,x3,())))else
some (.inr (.inr (v0,v1,v2,false,())))
def eD(a0:List LDCn):Option (Int×Unit):=
let x0:=cf a0.length;
(match cr cn NN (a0,x0,0,())with
|none=>none
|some (.inl (x1,_))=>
some (x1,())
|some (.inr (x1,_))=>
some ((-1),()))
def kE:X.Cfg:=⟨E0,[lk],[],[⟨3,0,(qS [sP 0 (Xj dB),(1,.fn 85 []),yaa 7,yaa 8] []),[(.ret,qS [yaa 4] []),(.exit 0,(qS [sP 0 (Xj dB),(1,.fn 85 []),yaa 7,yaa 8,zaa 9] []))]⟩]⟩
def gq:Ctr:=⟨91,6,[shU (Xj dB),.fn 85 []],[],[⟨zab,[.one],[]⟩],ap1 eD⟩
theorem kC:Lvl E0 TT libBj 3 gq:=cb (n:=2) (C:=kE) rfl (.intro (qx.mono (by decide)) (.intro)) (cg (by kernel_rfl)) (λh=>by kernel_rfl)
def dl(a0:List LDCn):Option (Bool×Unit):=
(eD a0).bind λ(x0,_)=>
some ((decide (x0>=0)),())
def jn:X.Cfg:=⟨E0,[gq],[],[]⟩
def fH:Ctr:=⟨84,7,[shU (Xj dB),.fn 85 []],[],[⟨yab,[.one],[]⟩],ap1 dl⟩
theorem jl:Lvl E0 TT libBj 4 fH:=cb (n:=3) (C:=jn) rfl (.intro (kC.mono (by decide)) (.intro)) (cg (by kernel_rfl)) (λh=>by kernel_rfl)
def fW(a0:List LDCn)(a1:LDTs):Option (Bool×Unit):=
let x0:=cf a0.length;
bif(decide (x0<=4))then(let x1:Int:=(cf a1.length);
bif(decide (x1<=4))then((dl a0).bind λ(x2,_)=>
some ((!x2),()))else
some (false,()))else
some (false,())
def tH:X.Cfg:=⟨E0,[fH],[],[]⟩
def kf:Ctr:=⟨73,8,[.agg Xaa],[],[⟨yab,[.one],[]⟩],ap2 fW⟩
theorem mX:Lvl E0 TT libBj 5 kf:=cb (n:=4) (C:=tH) rfl (.intro (jl.mono (by decide)) (.intro)) (cg (by kernel_rfl)) (λh=>by kernel_rfl)
def dJ:LLCn×Int×T0a->Option ((LLCn×Int×T0a)⊕(LLCn×Int×Int×Bool×T08)):=λ(v0,v1,v2,v3,v4,v5,_)=>
bif(decide (v2<v1))then((eo v2).bind λx0=>
(dt v0 x0).bind λx1=>
let x2:=cf x1.length;
bif(dg 8 v5.length (List.length [x2]))then let x3:List (Int):=(List.append v5 [x2]);
let x4:=w64 (v2+1);
some (.inl (v0,v1,x4,v3,v4,x3,()))else none)else
some (.inr (v0,v1,v2,false,v3,v4,v5,()))
def fJ(a0:List LDCn)(a1:LDTs):Option (LI×Unit):=
let x0:=cf a0.length;
(cr dJ NN (a0,x0,0,a0,a1,[],())).bind λ(x1,x2,x3,x4,x5,x6,x7,_)=>
some (x7,())
def vJ:X.Cfg:=⟨E0,[],[],[(lx 4 0 [Uaa 3 9,sP 7 (Xj dB),yaa 8,yaa 9] [(4,Xaa),(9,uL [(Xi I64)])] 10)]⟩
def kT:Ctr:=⟨51,9,[.agg Xaa],[],[⟨uL [(Xi I64)],[.one],[]⟩],ap2 fJ⟩
theorem oo:Lvl E0 TT libBj 1 kT:=cb (n:=0) (C:=vJ) rfl (.intro) (cg (by kernel_rfl)) (λh=>by kernel_rfl)
def ij(a0:Int):Option (Bool×Unit):=
(gw a0).bind λ(x0,_)=>
some ((!x0),())
def tI:X.Cfg:=⟨E0,[kS],[],[]⟩
def nj:Ctr:=⟨88,10,zab,[],[⟨yab,[.one],[]⟩],ap1 ij⟩
theorem tp:Lvl E0 TT libBj 2 nj:=cb (n:=1) (C:=tI) rfl (.intro (om.mono (by decide)) (.intro)) (cg (by kernel_rfl)) (λh=>by kernel_rfl)
def cE:T07->Option (T07⊕((Int×Unit)⊕T0b)):=λ(v0,v1,v2,_)=>
bif(decide (v2<v1))then((eo v2).bind λx0=>
(dt v0 x0).bind λx1=>
(ij x1).bind λ(x2,_)=>
bif x2 then(some (.inr (.inl (v2,()))))else
let x3:=w64 (v2+1);
some (.inl (v0,v1,x3,())))else
some (.inr (.inr (v0,v1,v2,false,())))
def fb(a0:List (Int)):Option (Int×Unit):=
let x0:=cf a0.length;
(match cr cE NN (a0,x0,0,())with
|none=>none
|some (.inl (x1,_))=>
some (x1,())
|some (.inr (x1,_))=>
some ((-1),()))
def lw:X.Cfg:=⟨E0,[nj],[],[⟨3,0,(qS [sP 0 RI,(1,.fn 88 []),yaa 7,yaa 8] []),[(.ret,qS [yaa 4] []),(.exit 0,(qS [sP 0 RI,(1,.fn 88 []),yaa 7,yaa 8,zaa 9] []))]⟩]⟩
def gU:Ctr:=⟨92,11,[shU RI,.fn 88 []],[],[⟨zab,[.one],[]⟩],ap1 fb⟩
theorem lq:Lvl E0 TT libBj 3 gU:=cb (n:=2) (C:=lw) rfl (.intro (tp.mono (by decide)) (.intro)) (cg (by kernel_rfl)) (λh=>by kernel_rfl)
def dC(a0:List (Int)):Option (Bool×Unit):=
(fb a0).bind λ(x0,_)=>
some ((decide (x0>=0)),())
def j9:X.Cfg:=⟨E0,[gU],[],[]⟩
def f9:Ctr:=⟨87,12,[shU RI,.fn 88 []],[],[⟨yab,[.one],[]⟩],ap1 dC⟩
theorem jY:Lvl E0 TT libBj 4 f9:=cb (n:=3) (C:=j9) rfl (.intro (lq.mono (by decide)) (.intro)) (cg (by kernel_rfl)) (λh=>by kernel_rfl)
def dG:T0y->Option (T0y⊕(Int×Int×Int×Int×T0k)):=λ(v0,v1,v2,v3,v4,v5,v6,v7,_)=>
let x0:=w64 (v3*8);
bif(decide (x0<v2))then(let x1:LDCe:=[(v1,v3)];
bif(dg 16 v7.length x1.length)then let x2:LDCe:=(List.append v7 x1);
let x3:=w64 (v3+1);
some (.inl (v0,v1,v2,x3,v4,v5,v6,x2,()))else none)else
some (.inr (v0,v1,v2,v3,v4,v5,v6,false,v7,()))
def dS:T0i->Option (T0i⊕(Int×T0k)):=λ(v0,v1,v2,v3,v4,_)=>
bif(decide (v3<v2))then((eo v3).bind λx0=>
(dt v1 x0).bind λx1=>
(cr dG NN (v0,v3,x1,0,v1,v2,v3,v4,())).bind λ(x2,x3,x4,x5,x6,x7,x8,x9,ac,_)=>
let ae:=w64 (x8+1);
some (.inl (x2,x6,x7,ae,ac,())))else
some (.inr (v0,v1,v2,v3,false,v4,()))
def dF:T06->Option (T06⊕T09):=λ(v0,v1,v2,_)=>
bif(decide (v1<v0))then(let x0:LDCe:=[((-1),v1)];
bif(dg 16 v2.length x0.length)then let x1:LDCe:=(List.append v2 x0);
let x2:=w64 (v1+1);
some (.inl (v0,x2,x1,()))else none)else
some (.inr (v0,v1,false,v2,()))
def jC(a0:List (Int))(a1:Int):Option (LDCe×Int×Unit):=
let x0:=cf a0.length;
bif(decide (x0>4))then(some ([],3,()))else
bif(decide (a1>4))then(some ([],3,()))else
bif(decide (a1<0))then(some ([],1,()))else
(dC a0).bind λ(x1,_)=>
bif x1 then(some ([],1,()))else
let x2:=cf a0.length;
(cr dS NN (a1,a0,x2,0,[],())).bind λ(x3,x4,x5,x6,x7,x8,_)=>
(cr dF NN (x3,0,x8,())).bind λ(x9,ac,ae,af,_)=>
some (af,0,())
def xG:X.Cfg:=⟨E0,[f9],[],[⟨16,0,qS [yaa 1,Uaa 6 15,yaa 7,yaa 8,yaa 9,sP 24 RI,yaa 25,yaa 26] [(15,Zab)],[(.exit 2,qS [yaa 1,Uaa 6 15,yaa 7,yaa 8,yaa 9,sP 24 RI,yaa 25,yaa 26,zaa 34] [(15,Zab)])]⟩,(lx 10 1 [yaa 1,Uaa 6 15,sP 24 RI,yaa 25,yaa 26] [(15,Zab)] 27),⟨22,2,qS [Uaa 6 15,yaa 44,yaa 45] [(15,Zab)],[(.exit 4,qS [Uaa 6 15,yaa 44,yaa 45,zaa 46] [(15,Zab)])]⟩]⟩
def qg:Ctr:=⟨74,13,Zaa,[],[⟨yad,[.one,.one],[]⟩],ap2 jC⟩
theorem xq:Lvl E0 TT libBj 5 qg:=cb (n:=4) (C:=xG) rfl (.intro (jY.mono (by decide)) (.intro)) (cg (by kernel_rfl)) (λh=>by kernel_rfl)
def dp(a0:LDCn):Option (LDCn×Unit):=
bif(dg 24 0 a0.length)then let x0:LDCn:=(List.append [] a0);
some (x0,())else none
def mO:X.Cfg:=⟨E0,[],[],[]⟩
def ew:Ctr:=⟨58,14,uL [dB],[],[⟨Zac,[.one],[]⟩],ap1 dp⟩
theorem fP:Lvl E0 TT libBj 1 ew:=cb (n:=0) (C:=mO) rfl (.intro) (cg (by kernel_rfl)) (λh=>by kernel_rfl)
def gz(a0:Int)(a1:Int)(a2:Int)(a3:Int)(a4:Int)(a5:Int)(a6:Int)(a7:LDCn):Option (T0x):=
(dp a7).bind λ(x0,_)=>
some (a0,a1,a2,a3,a4,a5,a6,x0,())
def vP:X.Cfg:=⟨E0,[ew],[],[]⟩
def kV:Ctr:=⟨59,15,[.agg uac],[],[⟨yac,[.agg 8],[]⟩],ap8 gz⟩
theorem ot:Lvl E0 TT libBj 2 kV:=cb (n:=1) (C:=vP) rfl (.intro (fP.mono (by decide)) (.intro)) (cg (by kernel_rfl)) (λh=>by kernel_rfl)
def gj(a0:LDCn)(a1:Int):Option (LDCn×Unit):=
(bif(decide (a1<0))then(some (a0,a1,true,()))else
bif(decide (a1>32))then(some (a0,a1,true,()))else
let x0:=w64 (a1*8);
let x1:=cf a0.length;
some (a0,a1,(decide (x0>=x1)),()):Option (LDCn×T00)).bind λ(x0,x1,x2,_)=>
bif x2 then(some ([],()))else
let x3:=w64 (x1*8);
let x4:=w64 (x3+8);
let x5:=cf x0.length;
let x6:=mmR false x4 x5;
(eo x3).bind λx7=>
(eo x6).bind λx8=>
bif(lm x7 x8 x0.length)then let x9:LDCn:=(Ie x0 x7 (Nat.sub x8 x7));
some (x9,())else none
def xE:X.Cfg:=⟨E0,[],[],[⟨2,0,qE,[(.normal,qS [sP 0 dB,yaa 1,zaa 18] [])]⟩]⟩
def ma:Ctr:=⟨62,16,uL [dB,I64],[],[⟨uL [dB],[.one],[]⟩],ap2 gj⟩
theorem p6:Lvl E0 TT libBj 1 ma:=cb (n:=0) (C:=xE) rfl (.intro) (cg (by kernel_rfl)) (λh=>by kernel_rfl)
def g9(a0:List LDCn)(a1:LDTs)(a2:Int)(a3:Int):Option (T0C):=
bif(a2==(-1))then((eo a3).bind λx0=>
(dt a1 x0).bind λx1=>
(gz x1.1 x1.2.1 x1.2.2.1 x1.2.2.2.1 x1.2.2.2.2.1 x1.2.2.2.2.2.1 x1.2.2.2.2.2.2.1 x1.2.2.2.2.2.2.2).bind λ(x2,x3,x4)=>
some (a2,a3,[],x2,x3,x4))else
(eo a2).bind λx0=>
(dt a0 x0).bind λx1=>
(gj x1 a3).bind λ(x2,_)=>
(dp x2).bind λ(x3,_)=>
some (a2,a3,x3,0,0,0,0,0,0,0,[],())
def zA:X.Cfg:=⟨E0,[kV,ma,ew],[],[]⟩
def nL:Ctr:=⟨54,17,[.agg Xaa,.agg Xab],[],[⟨Uac,[.agg 11],[]⟩],ap4 g9⟩
theorem rQ:Lvl E0 TT libBj 3 nL:=cb (n:=2) (C:=zA) rfl (.intro (ot.mono (by decide)) (.intro (p6.mono (by decide)) (.intro (fP.mono (by decide)) (.intro)))) (cg (by kernel_rfl)) (λh=>by kernel_rfl)
def ef:T0O->Option (T0O⊕(Int×T0N)):=λ(v0,v1,v2,v3,v4,v5,_)=>
bif(decide (v1<v0))then((eo v1).bind λx0=>
(dt v4 x0).bind λx1=>
(dt v4 x0).bind λx2=>
(g9 v2 v3 x2.1 x2.2).bind λ(x3,x4,x5,x6,x7,x8,x9,ac,ae,af,ah,_)=>
let aj:List (Int×Int×LDCn×Int×Int×Int×Int×Int×Int×Int×LDCn):=[(x3,(x4,(x5,(x6,(x7,(x8,(x9,(ac,(ae,(af,ah))))))))))];
bif(dg 120 v5.length aj.length)then let ak:List (Int×Int×LDCn×Int×Int×Int×Int×Int×Int×Int×LDCn):=(List.append v5 aj);
let an:=w64 (v1+1);
some (.inl (v0,an,v2,v3,v4,ak,()))else none)else
some (.inr (v0,v1,false,v2,v3,v4,v5,()))
def jf(a0:List LDCn)(a1:LDTs):Option (T0D):=
(fW a0 a1).bind λ(x0,_)=>
bif(!x0)then(some ([],1,()))else
(fJ a0 a1).bind λ(x1,_)=>
let x2:=cf a1.length;
(jC x1 x2).bind λ(x3,x4,_)=>
let x5:=cf x3.length;
(cr ef NN (x5,0,a0,a1,x3,[],())).bind λ(x6,x7,x8,x9,ac,ae,af,_)=>
some (af,0,())
def zC:X.Cfg:=⟨E0,[kf,kT,qg,nL],[(31,(.pair I64 (.pair I64 (.pair (Xi KCn) tY)))),(32,(.pair I64 (.pair I64 (.pair (Xi KCn) tY))))],[(lx 8 0 [uaa 1,Uaa 6 15,Uaa 21 11,yaa 22,yaa 23] [(4,Xaa),(11,Zab),(15,[shU (Xi (.pair I64 (.pair I64 (.pair dB fr))))])] 24)]⟩
def sC:Ctr:=⟨49,18,[.agg Xaa],[],[⟨[shU (Xi (.pair I64 (.pair I64 (.pair dB fr)))),shU I64],[.one,.one],[]⟩],ap2 jf⟩
theorem zo:Lvl E0 TT libBj 6 sC:=cb (n:=5) (C:=zC) rfl (.intro (mX.mono (by decide)) (.intro (oo.mono (by decide)) (.intro (xq.mono (by decide)) (.intro (rQ.mono (by decide)) (.intro))))) (cg (by kernel_rfl)) (λh=>by kernel_rfl)
def dE:LI×T07->Option ((LI×T07)⊕((Bool×Unit)⊕(LI×T0b))):=λ(v0,v1,v2,v3,_)=>
bif(decide (v3<v2))then((eo v3).bind λx0=>
(dt v0 x0).bind λx1=>
(eo v3).bind λx2=>
(dt v1 x2).bind λx3=>
bif(x1 != x3)then(some (.inr (.inl (false,()))))else
let x4:=w64 (v3+1);
some (.inl (v0,v1,v2,x4,())))else
some (.inr (.inr (v0,v1,v2,v3,false,())))
def fi(a0:List (Int))(a1:List (Int)):Option (Bool×Unit):=
let x0:=cf a0.length;
let x1:=cf a1.length;
bif(x0 != x1)then(some (false,()))else
let x2:=cf a0.length;
(match cr dE NN (a0,a1,x2,0,())with
|none=>none
|some (.inl (x3,_))=>
some (x3,())
|some (.inr (x3,_))=>
some (true,()))
def oy:X.Cfg:=⟨E0,[],[],[⟨6,0,qS [sP 0 RI,sP 1 RI,yaa 12,yaa 13] [],[(.ret,qS [zaa 4] []),(.exit 0,qS [sP 0 RI,sP 1 RI,yaa 12,yaa 13,zaa 14] [])]⟩]⟩
def jO:Ctr:=⟨50,19,uL [RI,RI],[],[⟨yab,[.one],[]⟩],ap2 fi⟩
theorem ol:Lvl E0 TT libBj 1 jO:=cb (n:=0) (C:=oy) rfl (.intro) (cg (by kernel_rfl)) (λh=>by kernel_rfl)
def dh:LDCn×LDCn×T01->Option ((LDCn×LDCn×T01)⊕((Bool×Unit)⊕(LDCn×LDCn×T05))):=λ(v0,v1,v2,v3,_)=>
bif(decide (v3<v2))then((eo v3).bind λx0=>
(dt v0 x0).bind λx1=>
(eo v3).bind λx2=>
(dt v1 x2).bind λx3=>
let x4:Bool:=(!((x1.1==x3.1)&&((x1.2.1==x3.2.1)&&((x1.2.2.1==x3.2.2.1)&&((x1.2.2.2==x3.2.2.2)&&true)))));
bif x4 then(some (.inr (.inl (false,()))))else
let x5:=w64 (v3+1);
some (.inl (v0,v1,v2,x5,())))else
some (.inr (.inr (v0,v1,v2,v3,false,())))
def dK(a0:LDCn)(a1:LDCn):Option (Bool×Unit):=
let x0:=cf a0.length;
let x1:=cf a1.length;
bif(x0 != x1)then(some (false,()))else
let x2:=cf a0.length;
(match cr dh NN (a0,a1,x2,0,())with
|none=>none
|some (.inl (x3,_))=>
some (x3,())
|some (.inr (x3,_))=>
some (true,()))
def mN:X.Cfg:=⟨E0,[],[],[⟨6,0,qS [sP 0 dB,sP 1 dB,yaa 12,yaa 13] [],[(.ret,qS [zaa 4] []),(.exit 0,qS [sP 0 dB,sP 1 dB,yaa 12,yaa 13,zaa 14] [])]⟩]⟩
def iM:Ctr:=⟨75,20,uL [dB,dB],[],[⟨yab,[.one],[]⟩],ap2 dK⟩
theorem mL:Lvl E0 TT libBj 1 iM:=cb (n:=0) (C:=mN) rfl (.intro) (cg (by kernel_rfl)) (λh=>by kernel_rfl)
def iT(a0:Int)(a1:Int)(a2:LDCn)(a3:Int)(a4:Int)(a5:Int)(a6:Int)(a7:Int)(a8:Int)(a9:Int)(a10:LDCn)(a11:Int)(a12:Int)(a13:LDCn)(a14:Int)(a15:Int)(a16:Int)(a17:Int)(a18:Int)(a19:Int)(a20:Int)(a21:LDCn):Option (Bool×Unit):=
bif((a0==a11)&&((a1==a12)&&true))then((dK a2 a13).bind λ(x0,_)=>
bif x0 then(bif(a3==a14)then(bif(a4==a15)then(bif(a5==a16)then(bif(a6==a17)then(bif(a7==a18)then(bif(a8==a19)then(bif(a9==a20)then((dK a10 a21).bind λ(x1,_)=>
some (x1,()))else
some (false,()))else
some (false,()))else
some (false,()))else
some (false,()))else
some (false,()))else
some (false,()))else
some (false,()))else
some (false,()))else
some (false,())
def vK:X.Cfg:=⟨E0,[iM],[],[]⟩
def oQ:Ctr:=⟨52,21,[.agg Uac,.agg Uac],[],[⟨yab,[.one],[]⟩],ap22 iT⟩
theorem vt:Lvl E0 TT libBj 2 oQ:=cb (n:=1) (C:=vK) rfl (.intro (mL.mono (by decide)) (.intro)) (cg (by kernel_rfl)) (λh=>by kernel_rfl)
def dm:T13->Option (T13⊕(Int×T12)):=λ(v0,v1,v2,v3,v4,_)=>
bif(decide (v1<v0))then(((eo v1).bind λx0=>
(dt v2 x0).bind λx1=>
(dt v2 x0).bind λx2=>
(eo v1).bind λx3=>
(dt v3 x3).bind λx4=>
(dt v3 x3).bind λx5=>
(iT x2.1 x2.2.1 x2.2.2.1 x2.2.2.2.1 x2.2.2.2.2.1 x2.2.2.2.2.2.1 x2.2.2.2.2.2.2.1 x2.2.2.2.2.2.2.2.1 x2.2.2.2.2.2.2.2.2.1 x2.2.2.2.2.2.2.2.2.2.1 x2.2.2.2.2.2.2.2.2.2.2 x5.1 x5.2.1 x5.2.2.1 x5.2.2.2.1 x5.2.2.2.2.1 x5.2.2.2.2.2.1 x5.2.2.2.2.2.2.1 x5.2.2.2.2.2.2.2.1 x5.2.2.2.2.2.2.2.2.1 x5.2.2.2.2.2.2.2.2.2.1 x5.2.2.2.2.2.2.2.2.2.2).bind λ(x6,_)=>
bif(!x6)then((eo v1).bind λx7=>
(dt v2 x7).bind λx8=>
(dt v2 x7).bind λx9=>
let ac:LDCe:=[(x9.1,x9.2.1)];
bif(dg 16 v4.length ac.length)then let ae:LDCe:=(List.append v4 ac);
some (v0,v1,v2,v3,ae,())else none)else
some (v0,v1,v2,v3,v4,()):Option (T13)).bind λ(x0,x1,x2,x3,x4,_)=>
let x5:=w64 (x1+1);
some (.inl (x0,x5,x2,x3,x4,())))else
some (.inr (v0,v1,false,v2,v3,v4,()))
def gx(a0:List LDCn)(a1:LDTs)(a2:List LDCn)(a3:LDTs):Option (LDCe×Int×Unit):=
(jf a0 a1).bind λ(x0,x1,_)=>
(jf a2 a3).bind λ(x2,x3,_)=>
(bif(x1 != 0)then(some (true,x0,x2,()))else
bif(x3 != 0)then(some (true,x0,x2,()))else
(fJ a0 a1).bind λ(x4,_)=>
(fJ a2 a3).bind λ(x5,_)=>
(fi x4 x5).bind λ(x6,_)=>
bif(!x6)then(some (true,x0,x2,()))else
let x7:=cf a1.length;
let x8:=cf a3.length;
some ((x7 != x8),x0,x2,()):Option (Bool×(List (Int×Int×LDCn×Int×Int×Int×Int×Int×Int×Int×LDCn))×(List (Int×Int×LDCn×Int×Int×Int×Int×Int×Int×Int×LDCn))×Unit)).bind λ(x4,x5,x6,_)=>
bif x4 then(some ([],1,()))else
let x7:=cf x5.length;
(cr dm NN (x7,0,x5,x6,[],())).bind λ(x8,x9,ac,ae,af,ah,_)=>
some (ah,0,())
def rW:X.Cfg:=⟨E0,[sC,kT,jO,oQ],[],[⟨4,0,qE,[(.normal,(qS [Uaa 6 15,Uaa 8 19,zaa 44] [(15,[shU (Xi (.pair I64 (.pair I64 (.pair dB fr))))]),(19,[shU (Xi (.pair I64 (.pair I64 (.pair dB fr))))])]))]⟩,⟨12,1,qE,[(.normal,(qS [Uaa 6 15,Uaa 8 19,Uaa 10 23,yaa 46,yaa 47] [(15,[shU (Xi (.pair I64 (.pair I64 (.pair dB fr))))]),(19,[shU (Xi (.pair I64 (.pair I64 (.pair dB fr))))]),(23,Zab)]))]⟩,(lx 9 2 [Uaa 6 15,Uaa 8 19,Uaa 10 23,yaa 46,yaa 47] [(15,[shU (Xi (.pair I64 (.pair I64 (.pair dB fr))))]),(19,[shU (Xi (.pair I64 (.pair I64 (.pair dB fr))))]),(23,Zab)] 48)]⟩
def mb:Ctr:=⟨29,22,[.agg Xaa,.agg Xaa],[],[⟨yad,[.one,.one],[]⟩],ap4 gx⟩
theorem rR:Lvl E0 TT libBj 7 mb:=cb (n:=6) (C:=rW) rfl (.intro (zo.mono (by decide)) (.intro (oo.mono (by decide)) (.intro (ol.mono (by decide)) (.intro (vt.mono (by decide)) (.intro))))) (cg (by kernel_rfl)) (λh=>by kernel_rfl)
def iA(a0:Int)(a1:Int):Option (Int×Unit):=
(bif(decide (a0<0))then(some (true,()))else
bif(decide (a1>200))then(some (true,()))else
some ((decide (a0>a1)),()):Option (Bool×Unit)).bind λ(x0,_)=>
bif x0 then(some (6,()))else
some (0,())
def xI:X.Cfg:=⟨E0,[],[],[⟨2,0,qE,[(.normal,qS [zaa 15] [])]⟩]⟩
def md:Ctr:=⟨30,23,Xab,[],[⟨zab,[.one],[]⟩],ap2 iA⟩
theorem p7:Lvl E0 TT libBj 1 md:=cb (n:=0) (C:=xI) rfl (.intro) (cg (by kernel_rfl)) (λh=>by kernel_rfl)
def iS(a0:List LDCn)(a1:LDTs)(a2:Int)(a3:Int):Option (Bool×Unit):=
bif(a2==(-1))then(bif(decide (a3>=0))then(let x0:Int:=(cf a1.length);
some ((decide (a3<x0)),()))else
some (false,()))else
bif(decide (a2>=0))then(let x0:Int:=(cf a0.length);
bif(decide (a2<x0))then((eo a2).bind λx1=>
(dt a0 x1).bind λx2=>
(gj x2 a3).bind λ(x3,_)=>
let x4:=cf x3.length;
some ((decide (x4>0)),()))else
some (false,()))else
some (false,())
def vH:X.Cfg:=⟨E0,[ma],[],[]⟩
def oP:Ctr:=⟨76,24,[.agg Xaa,.agg Xab],[],[⟨yab,[.one],[]⟩],ap4 iS⟩
theorem vq:Lvl E0 TT libBj 2 oP:=cb (n:=1) (C:=vH) rfl (.intro (p6.mono (by decide)) (.intro)) (cg (by kernel_rfl)) (λh=>by kernel_rfl)
def iy(a0:List LDCn)(a1:LDTs)(a2:Int)(a3:Int):Option (Int×Unit):=
(fW a0 a1).bind λ(x0,_)=>
bif(!x0)then(some (1,()))else
(iS a0 a1 a2 a3).bind λ(x1,_)=>
bif(!x1)then(some (30,()))else
some (0,())
def xF:X.Cfg:=⟨E0,[kf,oP],[],[]⟩
def qf:Ctr:=⟨53,25,[.agg Xaa,.agg Xab],[],[⟨zab,[.one],[]⟩],ap4 iy⟩
theorem xp:Lvl E0 TT libBj 6 qf:=cb (n:=5) (C:=xF) rfl (.intro (mX.mono (by decide)) (.intro (vq.mono (by decide)) (.intro))) (cg (by kernel_rfl)) (λh=>by kernel_rfl)
def kM(a0:List LDCn)(a1:LDTs)(a2:Int)(a3:Int):Option (T0F):=
(iy a0 a1 a2 a3).bind λ(x0,_)=>
bif(x0 != 0)then(some (0,0,[],0,0,0,0,0,0,0,[],x0,()))else
(g9 a0 a1 a2 a3).bind λ(x1,x2,x3,x4,x5,x6,x7,x8,x9,ac,ae,_)=>
some (x1,x2,x3,x4,x5,x6,x7,x8,x9,ac,ae,0,())
def zB:X.Cfg:=⟨E0,[qf,nL],[],[]⟩
def sB:Ctr:=⟨31,26,[.agg Xaa,.agg Xab],[],[⟨uL [I64,I64,dB,I64,I64,I64,I64,I64,I64,CW,dB,I64],[.agg 11,.one],[]⟩],ap4 kM⟩
theorem zn:Lvl E0 TT libBj 7 sB:=cb (n:=6) (C:=zB) rfl (.intro (xp.mono (by decide)) (.intro (rQ.mono (by decide)) (.intro))) (cg (by kernel_rfl)) (λh=>by kernel_rfl)
def fD:T0X->Option (T0X⊕((Int×Int×Int×Unit×Unit)⊕(Int×T0W))):=λ(v0,v1,v2,v3,v4,v5,v6,v7,v8,v9,v10,_)=>
bif(decide (v1<v0))then((eo v1).bind λx0=>
(dt v7 x0).bind λx1=>
(dt v7 x0).bind λx2=>
(kM v2 v3 x2.1 x2.2).bind λ(x3,x4,x5,x6,x7,x8,x9,ac,ae,af,ah,aj,_)=>
bif(aj != 0)then(some (.inr (.inl (aj,0,0,(),()))))else
let ak:List (Int×Int×LDCn×Int×Int×Int×Int×Int×Int×Int×LDCn):=[(x3,(x4,(x5,(x6,(x7,(x8,(x9,(ac,(ae,(af,ah))))))))))];
bif(dg 120 v10.length ak.length)then let an:List (Int×Int×LDCn×Int×Int×Int×Int×Int×Int×Int×LDCn):=(List.append v10 ak);
let ap:=w64 (v1+1);
some (.inl (v0,ap,v2,v3,v4,v5,v6,v7,v8,v9,an,()))else none)else
some (.inr (.inr (v0,v1,false,v2,v3,v4,v5,v6,v7,v8,v9,v10,())))
def eM(a0:List LDCn)(a1:LDTs)(a2:List LDCn)(a3:LDTs)(a4:Int)(a5:Int):Option (T0I):=
(gx a0 a1 a2 a3).bind λ(x0,x1,_)=>
bif(x1 != 0)then(some (0,0,[],x1,()))else
(iA a4 a5).bind λ(x2,_)=>
bif(x2 != 0)then(some (0,0,[],x2,()))else
let x3:=cf x0.length;
(match cr fD NN (x3,0,a2,a3,0,0,(),x0,a4,a5,[],())with
|none=>none
|some (.inl (x4,x5,x6,x7,_))=>
some (x5,x6,[],x4,())
|some (.inr (x4,x5,x6,x7,x8,x9,ac,ae,af,ah,aj,ak,_))=>
some (ah,aj,ak,0,()))
def xJ:X.Cfg:=⟨E0,[mb,md,sB],[(57,(.pair I64 (.pair I64 (.pair (Xi KCn) tY)))),(58,(.pair I64 (.pair I64 (.pair (Xi KCn) tY))))],[⟨12,0,(qS [uaa 5,uaa 8,uaa 13,Uaa 38 23,yaa 39,yaa 40] [(12,Xaa),(18,uad),(23,Zab),(28,[shU I64,shU I64,shU (Xi (.pair I64 (.pair I64 (.pair dB fr))))])]),[(.ret,qS [uaa 8,yaa 9] [(18,uad)]),(.exit 0,(qS [uaa 5,uaa 8,uaa 13,Uaa 38 23,yaa 39,yaa 40,zaa 41] [(12,Xaa),(18,uad),(23,Zab),(28,[shU I64,shU I64,shU (Xi (.pair I64 (.pair I64 (.pair dB fr))))])]))]⟩]⟩
def me:Ctr:=⟨15,27,[.agg Xaa,.agg Xaa,shU I64,shU I64],[],[⟨[shU I64,shU I64,shU (Xi (.pair I64 (.pair I64 (.pair dB fr)))),shU I64],[.agg 3,.one],[]⟩],ap6 eM⟩
theorem p8:Lvl E0 TT libBj 8 me:=cb (n:=7) (C:=xJ) rfl (.intro (rR.mono (by decide)) (.intro (p7.mono (by decide)) (.intro (zn.mono (by decide)) (.intro)))) (cg (by kernel_rfl)) (λh=>by kernel_rfl)
def iz(a0:Int)(a1:Int):Option (Int×Unit):=
bif(a0==(-1))then(some (1,()))else
some (0,())
def xH:X.Cfg:=⟨E0,[],[],[]⟩
def qh:Ctr:=⟨72,28,[.agg Xab],[],[⟨zab,[.one],[]⟩],ap2 iz⟩
theorem xr:Lvl E0 TT libBj 1 qh:=cb (n:=0) (C:=xH) rfl (.intro) (cg (by kernel_rfl)) (λh=>by kernel_rfl)
def d6(a0:Int):Option (Bool×Unit):=
some ((a0 != a0),())
def lV:X.Cfg:=⟨E0,[],[],[]⟩
def iG:Ctr:=⟨83,29,zab,[],[⟨yab,[.one],[]⟩],ap1 d6⟩
theorem lS:Lvl E0 TT libBj 1 iG:=cb (n:=0) (C:=lV) rfl (.intro) (cg (by kernel_rfl)) (λh=>by kernel_rfl)
def cN(a0:Int)(a1:Int):Option (Int×Unit):=
(d6 a0).bind λ(x0,_)=>
(d6 a1).bind λ(x1,_)=>
bif x0 then(bif x1 then(some (0,()))else
some ((-1),()))else
bif x1 then(some (1,()))else
bif(decide (a0<a1))then(some ((-1),()))else
bif(decide (a0>a1))then(some (1,()))else
some (0,())
def ke:X.Cfg:=⟨E0,[iG],[],[]⟩
def ga:Ctr:=⟨71,30,Xab,[],[⟨zab,[.one],[]⟩],ap2 cN⟩
theorem jZ:Lvl E0 TT libBj 2 ga:=cb (n:=1) (C:=ke) rfl (.intro (lS.mono (by decide)) (.intro)) (cg (by kernel_rfl)) (λh=>by kernel_rfl)
def dH:Int×T07->Option ((Int×T07)⊕((Int×Unit)⊕(Int×T0b))):=λ(v0,v1,v2,v3,_)=>
bif(decide (v3<v2))then((eo v3).bind λx0=>
(dt v1 x0).bind λx1=>
bif(x1 != v0)then(some (.inr (.inl (x1,()))))else
let x2:=w64 (v3+1);
some (.inl (v0,v1,v2,x2,())))else
some (.inr (.inr (v0,v1,v2,v3,false,())))
def gA(a0:List (Int)):Option (Int×Unit):=
let x0:=cf a0.length;
(match cr dH NN (0,a0,x0,0,())with
|none=>none
|some (.inl (x1,_))=>
some (x1,())
|some (.inr (x1,_))=>
some (x1,()))
def rX:X.Cfg:=⟨E0,[],[],[⟨4,0,qS [yaa 3,sP 6 RI,yaa 7,yaa 8] [],[(.ret,qS [yaa 2] []),(.exit 0,qS [yaa 3,sP 6 RI,yaa 7,yaa 8,zaa 9] [])]⟩]⟩
def mg:Ctr:=⟨70,31,uL [RI],[],[⟨zab,[.one],[]⟩],ap1 gA⟩
theorem rS:Lvl E0 TT libBj 1 mg:=cb (n:=0) (C:=rX) rfl (.intro) (cg (by kernel_rfl)) (λh=>by kernel_rfl)
def iV(a0:Int)(a1:Int)(a2:Int)(a3:Int):Option (Int×Unit):=
(iz a0 a1).bind λ(x0,_)=>
(iz a2 a3).bind λ(x1,_)=>
(cN x0 x1).bind λ(x2,_)=>
(cN a0 a2).bind λ(x3,_)=>
(cN a1 a3).bind λ(x4,_)=>
let x5:List (Int):=[x2,x3,x4];
(gA x5).bind λ(x6,_)=>
some (x6,())
def vM:X.Cfg:=⟨E0,[qh,ga,mg],[],[]⟩
def oT:Ctr:=⟨45,32,[.agg Xab,.agg Xab],[],[⟨zab,[.one],[]⟩],ap4 iV⟩
theorem vv:Lvl E0 TT libBj 3 oT:=cb (n:=2) (C:=vM) rfl (.intro (xr.mono (by decide)) (.intro (jZ.mono (by decide)) (.intro (rS.mono (by decide)) (.intro)))) (cg (by kernel_rfl)) (λh=>by kernel_rfl)
def eT:T0J->Option (T0J⊕((Int×Unit)⊕T0L)):=λ(v0,v1,v2,v3,_)=>
let x0:=cf v3.length;
bif(decide (v0<x0))then(let x1:Int:=(w64 (v0-1));
(eo x1).bind λx2=>
(dt v3 x2).bind λx3=>
(eo v0).bind λx4=>
(dt v3 x4).bind λx5=>
(iV x3.1 x3.2.1 x5.1 x5.2.1).bind λ(x6,_)=>
bif(decide (x6>=0))then(some (.inr (.inl (5,()))))else
let x7:=w64 (v0+1);
some (.inl (x7,v1,v2,v3,())))else
some (.inr (.inr (v0,false,v1,v2,v3,())))
def gy(a0:Int)(a1:Int)(a2:List (Int×Int×LDCn×Int×Int×Int×Int×Int×Int×Int×LDCn)):Option (Int×Unit):=
(iA a0 a1).bind λ(x0,_)=>
bif(x0 != 0)then(some (x0,()))else
(match cr eT NN (1,a0,a1,a2,())with
|none=>none
|some (.inl (x1,_))=>
some (x1,())
|some (.inr (x1,_))=>
some (0,()))
def vN:X.Cfg:=⟨E0,[md,oT],[],[⟨7,0,(qS [uaa 1,yaa 4] [(4,[shU I64,shU I64,shU (Xj (.pair I64 (.pair I64 (.pair dB fr))))])]),[(.ret,qS [yaa 2] []),(.exit 0,(qS [uaa 1,yaa 4,zaa 17] [(4,[shU I64,shU I64,shU (Xj (.pair I64 (.pair I64 (.pair dB fr))))])]))]⟩]⟩
def oV:Ctr:=⟨24,33,[.agg [shU I64,shU I64,shU (Xj (.pair I64 (.pair I64 (.pair dB fr))))]],[],[⟨zab,[.one],[]⟩],ap3 gy⟩
theorem vy:Lvl E0 TT libBj 4 oV:=cb (n:=3) (C:=vN) rfl (.intro (p7.mono (by decide)) (.intro (vv.mono (by decide)) (.intro))) (cg (by kernel_rfl)) (λh=>by kernel_rfl)
def dX(a0:List LDCn):Option (LLCn×Unit):=
bif(dg 24 0 a0.length)then let x0:List LDCn:=(List.append [] a0);
some (x0,())else none
def lA:X.Cfg:=⟨E0,[],[(5,(Xi KCn)),(7,(Xi KCn))],[]⟩
def gW:Ctr:=⟨60,34,uL [(Xj dB)],[],[⟨uL [(Xi dB)],[.one],[]⟩],ap1 dX⟩
theorem lr:Lvl E0 TT libBj 1 gW:=cb (n:=0) (C:=lA) rfl (.intro) (cg (by kernel_rfl)) (λh=>by kernel_rfl)
def eO(a0:LDTs):Option (LDTs×Unit):=
bif(dg 80 0 a0.length)then let x0:LDTs:=(List.append [] a0);
some (x0,())else none
def nH:X.Cfg:=⟨E0,[],[(5,tY),(7,tY)],[]⟩
def jt:Ctr:=⟨61,35,uL [(Xj fr)],[],[⟨uL [(Xi fr)],[.one],[]⟩],ap1 eO⟩
theorem nF:Lvl E0 TT libBj 1 jt:=cb (n:=0) (C:=nH) rfl (.intro) (cg (by kernel_rfl)) (λh=>by kernel_rfl)
def eF:T0l->Option (T0l⊕T0q):=λ(v0,v1,v2,v3)=>
bif(decide (v1<v0))then((eo v1).bind λx0=>
(dt v2 x0).bind λx1=>
(dt v2 x0).bind λx2=>
(dp x2).bind λ(x3,_)=>
(eo v1).bind λx4=>
(dt v2 x4).bind λx5=>
(dt v2 x4).bind λx6=>
let x7:=List.modify v2 x4 λe=>x3;
let x8:=w64 (v1+1);
some (.inl (v0,x8,x7,v3)))else
some (.inr (v0,v1,false,v2,v3))
def eE:T0l->Option (T0l⊕T0q):=λ(v0,v1,v2,v3,v4)=>
bif(decide (v1<v0))then((eo v1).bind λx0=>
(dt v3 x0).bind λx1=>
(dt v3 x0).bind λx2=>
(gz x2.1 x2.2.1 x2.2.2.1 x2.2.2.2.1 x2.2.2.2.2.1 x2.2.2.2.2.2.1 x2.2.2.2.2.2.2.1 x2.2.2.2.2.2.2.2).bind λ(x3,x4,x5,x6,x7,x8,x9,ac,_)=>
(eo v1).bind λae=>
(dt v3 ae).bind λaf=>
(dt v3 ae).bind λah=>
let aj:=(List.modify v3 ae λe=>(x3,(x4,(x5,(x6,(x7,(x8,(x9,ac))))))));
let ak:=w64 (v1+1);
some (.inl (v0,ak,v2,aj,v4)))else
some (.inr (v0,v1,false,v2,v3,v4))
def io(a0:List LDCn)(a1:LDTs):Option (T03):=
(dX a0).bind λ(x0,_)=>
(eO a1).bind λ(x1,_)=>
let x2:=cf x0.length;
(cr eF NN (x2,0,x0,x1,(),(),())).bind λ(x3,x4,x5,x6,x7,x8)=>
let ac:=cf x7.length;
(cr eE NN (ac,0,x6,x7,x8)).bind λ(ae,af,ah,aj,ak,_)=>
some (aj,ak,())
def tJ:X.Cfg:=⟨E0,[gW,jt,ew,kV],[],[(lx 4 0 [uaa 1,uaa 2,Uaa 16 4,yaa 17,yaa 18] [(4,Xac),(6,uab)] 19),⟨11,1,(qS [uaa 1,uaa 2,(31,.pk ⟨4,1,[]⟩ [0,0]),yaa 32,yaa 33] [(4,Xac),(6,uab)]),[(.exit 2,(qS [uaa 1,uaa 2,(31,.pk ⟨4,1,[]⟩ [0,0]),yaa 32,yaa 33,zaa 34] [(4,Xac),(6,uab)]))]⟩]⟩
def nn:Ctr:=⟨35,36,[.agg Xaa],[],[⟨Xac,[.agg 2],[]⟩],ap2 io⟩
theorem tr:Lvl E0 TT libBj 3 nn:=cb (n:=2) (C:=tJ) rfl (.intro (lr.mono (by decide)) (.intro (nF.mono (by decide)) (.intro (fP.mono (by decide)) (.intro (ot.mono (by decide)) (.intro))))) (cg (by kernel_rfl)) (λh=>by kernel_rfl)
def sA:Ctr:=⟨36,37,[.agg Xaa,.agg Uac],[],[⟨zad,[.agg 2,.one],[]⟩],ap13 cY⟩
theorem zm:Lvl E0 TT libBj 1 sA:=(vk (Ik rfl) sY).mono (by decide)
def eU:T15->Option (T15⊕((Int×T04)⊕((List (Int×Int×LDCn×Int×Int×Int×Int×Int×Int×Int×LDCn))×Int×Int×Bool×T0P))):=λ(v0,v1,v2,v3,v4,v5,v6,v7,v8,v9,_)=>
bif(decide (v2<v1))then((eo v2).bind λx0=>
(dt v0 x0).bind λx1=>
(cY v8 v9 x1.1 x1.2.1 x1.2.2.1 x1.2.2.2.1 x1.2.2.2.2.1 x1.2.2.2.2.2.1 x1.2.2.2.2.2.2.1 x1.2.2.2.2.2.2.2.1 x1.2.2.2.2.2.2.2.2.1 x1.2.2.2.2.2.2.2.2.2.1 x1.2.2.2.2.2.2.2.2.2.2).bind λ(x2,x3,x4,_)=>
bif(x4 != 0)then(some (.inr (.inl (x4,(),(),()))))else
let x5:=w64 (v2+1);
some (.inl (v0,v1,x5,v3,v4,v5,v6,v7,x2,x3,())))else
some (.inr (.inr (v0,v1,v2,false,v3,v4,v5,v6,v7,v8,v9,())))
def dN(a0:List LDCn)(a1:LDTs)(a2:Int)(a3:Int)(a4:Int)(a5:List (Int×Int×LDCn×Int×Int×Int×Int×Int×Int×Int×LDCn)):Option (LLCn×LDTs×Int×Unit):=
(gy a3 a4 a5).bind λ(x0,_)=>
bif(x0 != 0)then(some ([],[],x0,()))else
bif(a2 != a3)then(some ([],[],35,()))else
(io a0 a1).bind λ(x1,x2,_)=>
let x3:=cf a5.length;
(match cr eU NN (a5,x3,0,a3,a4,a5,(),(),x1,x2,())with
|none=>none
|some (.inl (x4,x5,x6,_))=>
some ([],[],x4,())
|some (.inr (x4,x5,x6,x7,x8,x9,ac,ae,af,ah,aj,_))=>
some (ah,aj,0,()))
def vO:X.Cfg:=⟨E0,[oV,nn,sA],[],[⟨11,0,(qS [uaa 6,uaa 9,(28,shU (Xj (.pair I64 (.pair I64 (.pair dB fr))))),yaa 29,yaa 30] [(12,[shU I64,shU I64,shU (Xj (.pair I64 (.pair I64 (.pair dB fr))))]),(14,uab),(20,Xaa)]),[(.ret,qS [uaa 6,yaa 7] [(14,uab)]),(.exit 0,(qS [uaa 6,uaa 9,(28,shU (Xj (.pair I64 (.pair I64 (.pair dB fr))))),yaa 29,yaa 30,zaa 31] [(12,[shU I64,shU I64,shU (Xj (.pair I64 (.pair I64 (.pair dB fr))))]),(14,uab),(20,Xaa)]))]⟩]⟩
def kU:Ctr:=⟨17,38,[.agg Xaa,shU I64,.agg [shU I64,shU I64,shU (Xj (.pair I64 (.pair I64 (.pair dB fr))))]],[],[⟨zad,[.agg 2,.one],[]⟩],ap6 dN⟩
theorem oq:Lvl E0 TT libBj 5 kU:=cb (n:=4) (C:=vO) rfl (.intro (vy.mono (by decide)) (.intro (tr.mono (by decide)) (.intro (zm.mono (by decide)) (.intro)))) (cg (by kernel_rfl)) (λh=>by kernel_rfl)
def dL:LDCn×LDCn×Int×Unit->Option ((LDCn×LDCn×Int×Unit)⊕((Bool×Unit)⊕(LDCn×LDCn×T00))):=λ(v0,v1,v2,_)=>
let x0:=cf v0.length;
bif(decide (v2<x0))then((eo v2).bind λx1=>
(dt v0 x1).bind λx2=>
(eo v2).bind λx3=>
(dt v1 x3).bind λx4=>
let x5:Bool:=(!((x2.1==x4.1)&&((x2.2.1==x4.2.1)&&((x2.2.2.1==x4.2.2.1)&&((x2.2.2.2==x4.2.2.2)&&true)))));
bif x5 then(some (.inr (.inl (false,()))))else
let x6:=w64 (v2+1);
some (.inl (v0,v1,x6,())))else
some (.inr (.inr (v0,v1,v2,false,())))
def dP(a0:LDCn)(a1:LDCn):Option (Bool×Unit):=
let x0:=cf a0.length;
let x1:=cf a1.length;
bif(x0 != x1)then(some (false,()))else
(match cr dL NN (a0,a1,0,())with
|none=>none
|some (.inl (x2,_))=>
some (x2,())
|some (.inr (x2,_))=>
some (true,()))
def pF:X.Cfg:=⟨E0,[],[],[⟨6,0,qS [sP 0 dB,sP 1 dB,yaa 5] [],[(.ret,qS [zaa 4] []),(.exit 0,qS [sP 0 dB,sP 1 dB,yaa 5,zaa 14] [])]⟩]⟩
def ie:Ctr:=⟨37,39,uL [dB,dB],[],[⟨yab,[.one],[]⟩],ap2 dP⟩
theorem kD:Lvl E0 TT libBj 1 ie:=cb (n:=0) (C:=pF) rfl (.intro) (cg (by kernel_rfl)) (λh=>by kernel_rfl)
def eS(a0:Int)(a1:Int)(a2:Int)(a3:Int)(a4:Int)(a5:Int)(a6:Int)(a7:LDCn)(a8:Int)(a9:Int)(a10:Int)(a11:Int)(a12:Int)(a13:Int)(a14:Int)(a15:LDCn):Option (Bool×Unit):=
bif(a0==a8)then(bif(a1==a9)then(bif(a2==a10)then(bif(a3==a11)then(bif(a4==a12)then(bif(a5==a13)then(bif(a6==a14)then((dP a7 a15).bind λ(x0,_)=>
some (x0,()))else
some (false,()))else
some (false,()))else
some (false,()))else
some (false,()))else
some (false,()))else
some (false,()))else
some (false,())
def qz:X.Cfg:=⟨E0,[ie],[],[]⟩
def lj:Ctr:=⟨38,40,[.agg uac,.agg uac],[],[⟨yab,[.one],[]⟩],ap16 eS⟩
theorem qw:Lvl E0 TT libBj 2 lj:=cb (n:=1) (C:=qz) rfl (.intro (kD.mono (by decide)) (.intro)) (cg (by kernel_rfl)) (λh=>by kernel_rfl)
def fB:T0j->Option (T0j⊕((Bool×Unit)⊕(Int×T0h))):=λ(v0,v1,v2,v3,v4,_)=>
let x0:=cf v1.length;
bif(decide (v0<x0))then((eo v0).bind λx1=>
(dt v1 x1).bind λx2=>
(eo v0).bind λx3=>
(dt v3 x3).bind λx4=>
(dP x2 x4).bind λ(x5,_)=>
bif(!x5)then(some (.inr (.inl (false,()))))else
let x6:=w64 (v0+1);
some (.inl (x6,v1,v2,v3,v4,())))else
some (.inr (.inr (v0,false,v1,v2,v3,v4,())))
def fA:T0j->Option (T0j⊕((Bool×Unit)⊕(Int×T0h))):=λ(v0,v1,v2,v3,v4,_)=>
let x0:=cf v2.length;
bif(decide (v0<x0))then((eo v0).bind λx1=>
(dt v2 x1).bind λx2=>
(eo v0).bind λx3=>
(dt v4 x3).bind λx4=>
(eS x2.1 x2.2.1 x2.2.2.1 x2.2.2.2.1 x2.2.2.2.2.1 x2.2.2.2.2.2.1 x2.2.2.2.2.2.2.1 x2.2.2.2.2.2.2.2 x4.1 x4.2.1 x4.2.2.1 x4.2.2.2.1 x4.2.2.2.2.1 x4.2.2.2.2.2.1 x4.2.2.2.2.2.2.1 x4.2.2.2.2.2.2.2).bind λ(x5,_)=>
bif(!x5)then(some (.inr (.inl (false,()))))else
let x6:=w64 (v0+1);
some (.inl (x6,v1,v2,v3,v4,())))else
some (.inr (.inr (v0,false,v1,v2,v3,v4,())))
def eL(a0:List LDCn)(a1:LDTs)(a2:List LDCn)(a3:LDTs):Option (Bool×Unit):=
let x0:=cf a0.length;
let x1:=cf a2.length;
bif(x0 != x1)then(some (false,()))else
let x2:=cf a1.length;
let x3:=cf a3.length;
bif(x2 != x3)then(some (false,()))else
(match cr fB NN (0,a0,a1,a2,a3,())with
|none=>none
|some (.inl (x4,_))=>
some (x4,())
|some (.inr (x4,x5,x6))=>
(match cr fA NN (0,x6)with
|none=>none
|some (.inl (ac,_))=>
some (ac,())
|some (.inr (ac,_))=>
some (true,())))
def xC:X.Cfg:=⟨E0,[ie,lj],[],[⟨6,0,qS [uaa 2,uaa 3,yaa 5] [(6,Xaa),(8,Xaa)],[(.ret,qS [zaa 4] []),(.exit 0,qS [uaa 2,uaa 3,yaa 5,zaa 27] [(6,Xaa),(8,Xaa)])]⟩,⟨14,1,qS [uaa 2,uaa 3,yaa 6] [(6,Xaa),(8,Xaa)],[(.ret,qS [zaa 4] []),(.exit 2,qS [uaa 2,uaa 3,yaa 6,zaa 46] [(6,Xaa),(8,Xaa)])]⟩]⟩
def l8:Ctr:=⟨18,41,[.agg Xaa,.agg Xaa],[],[⟨yab,[.one],[]⟩],ap4 eL⟩
theorem pZ:Lvl E0 TT libBj 3 l8:=cb (n:=2) (C:=xC) rfl (.intro (kD.mono (by decide)) (.intro (qw.mono (by decide)) (.intro))) (cg (by kernel_rfl)) (λh=>by kernel_rfl)
def iU:Option (Bool×Unit):=
bif(GR 9 9 4)then let x0:LDCn:=(List.replicate 9 (0,(0,(0,0))));
(fC [x0] []).bind λ(x1,x2,_)=>
(dt x1 0).bind λx3=>
(dt x1 0).bind λx4=>
(dt x1 0).bind λx5=>
(dt x5 8).bind λx6=>
(dt x1 0).bind λx7=>
(dt x7 8).bind λx8=>
let x9:=(List.modify x1 0 λe=>(List.modify e 8 λe=>(e.1,(3,e.2.2))));
(eM [x0] [] x9 x2 2 5).bind λ(ac,ae,af,ah,_)=>
(dN [x0] [] 2 ac ae af).bind λ(aj,ak,an,_)=>
(dN [x0] [] 3 ac ae af).bind λ(ap,aq,au,_)=>
bif(ah==0)then(bif(an==0)then(bif(au==35)then(let av:Int:=(cf af.length);
bif(av==1)then((eL aj ak x9 x2).bind λ(aw,_)=>
some (aw,()))else
some (false,()))else
some (false,()))else
some (false,()))else
some (false,())else none
def vL:X.Cfg:=⟨E0,[l9,me,kU,l8],[(10,(Xi KCn))],[]⟩
def oS:Ctr:=⟨8,42,[],[],[⟨yab,[.one],[]⟩],λh=>iU⟩
theorem vu:Lvl E0 TT libBj 9 oS:=cb (n:=8) (C:=vL) rfl (.intro (p5.mono (by decide)) (.intro (p8.mono (by decide)) (.intro (oq.mono (by decide)) (.intro (pZ.mono (by decide)) (.intro))))) (cg (by kernel_rfl)) (λh=>by kernel_rfl)
def dI:T0a->Option (T0a⊕(Int×Bool×T08)):=λ(v0,v1,v2,v3,_)=>
let x0:=cf v1.length;
bif(decide (v0<x0))then((eo v0).bind λx1=>
(dt v1 x1).bind λx2=>
let x3:=cf x2.length;
bif(dg 8 v3.length (List.length [x3]))then let x4:List (Int):=(List.append v3 [x3]);
let x5:=w64 (v0+1);
some (.inl (x5,v1,v2,x4,()))else none)else
some (.inr (v0,false,v1,v2,v3,()))
def fI(a0:List LDCn)(a1:LDTs):Option (LI×Unit):=
(cr dI NN (0,a0,a1,[],())).bind λ(x0,x1,x2,x3,x4,_)=>
some (x4,())
def de:T07->Option (T07⊕((Int×Unit)⊕T0b)):=λ(v0,v1,v2,_)=>
let x0:=cf v0.length;
bif(decide (v2<x0))then((eo v2).bind λx1=>
(dt v0 x1).bind λx2=>
bif(decide (x2<1))then(some (.inr (.inl (1,()))))else
(eo v2).bind λx3=>
(dt v0 x3).bind λx4=>
bif(decide (x4>32))then(some (.inr (.inl (1,()))))else
let x5:=w64 (v2+1);
some (.inl (v0,v1,x5,())))else
some (.inr (.inr (v0,v1,v2,false,())))
def iR(a0:List (Int))(a1:Int):Option (Int×Unit):=
let x0:=cf a0.length;
bif(decide (x0>4))then(some (3,()))else
bif(decide (a1>4))then(some (3,()))else
(match cr de NN (a0,a1,0,())with
|none=>none
|some (.inl (x1,_))=>
some (x1,())
|some (.inr (x1,x2,_))=>
bif(decide (x2<0))then(some (1,()))else
some (0,()))
def fV(a0:List LDCn)(a1:LDTs):Option (Bool×Unit):=
(fI a0 a1).bind λ(x0,_)=>
let x1:=cf a1.length;
(iR x0 x1).bind λ(x2,_)=>
some ((x2==0),())
def nz:LI×T02->Option ((LI×T02)⊕((Bool×Unit)⊕(LI×LI×T00))):=λ(v0,v1,v2,_)=>
let x0:=cf v0.length;
bif(decide (v2<x0))then((eo v2).bind λx1=>
(dt v0 x1).bind λx2=>
(eo v2).bind λx3=>
(dt v1 x3).bind λx4=>
bif(x2 != x4)then(some (.inr (.inl (false,()))))else
let x5:=w64 (v2+1);
some (.inl (v0,v1,x5,())))else
some (.inr (.inr (v0,v1,v2,false,())))
def qp(a0:List (Int))(a1:List (Int)):Option (Bool×Unit):=
let x0:=cf a0.length;
let x1:=cf a1.length;
bif(x0 != x1)then(some (false,()))else
(match cr nz NN (a0,a1,0,())with
|none=>none
|some (.inl (x2,_))=>
some (x2,())
|some (.inr (x2,_))=>
some (true,()))
def rm:LI×Int×T06->Option ((LI×Int×T06)⊕(LI×Int×T09)):=λ(v0,v1,v2,v3,v4,_)=>
let x0:=w64 (v3*8);
(eo v2).bind λx1=>
(dt v0 x1).bind λx2=>
bif(decide (x0<x2))then(let x3:LDCe:=[(v2,v3)];
bif(dg 16 v4.length x3.length)then let x4:LDCe:=(List.append v4 x3);
let x5:=w64 (v3+1);
some (.inl (v0,v1,v2,x5,x4,()))else none)else
some (.inr (v0,v1,v2,v3,false,v4,()))
def rl:T0c->Option (T0c⊕T0k):=λ(v0,v1,v2,v3,_)=>
let x0:=cf v0.length;
bif(decide (v2<x0))then((cr rm NN (v0,v1,v2,0,v3,())).bind λ(x1,x2,x3,x4,x5,x6,_)=>
let x7:=w64 (x3+1);
some (.inl (x1,x2,x7,x6,())))else
some (.inr (v0,v1,v2,false,v3,()))
def rk:T06->Option (T06⊕T09):=λ(v0,v1,v2,_)=>
bif(decide (v1<v0))then(let x0:LDCe:=[((-1),v1)];
bif(dg 16 v2.length x0.length)then let x1:LDCe:=(List.append v2 x0);
let x2:=w64 (v1+1);
some (.inl (v0,x2,x1,()))else none)else
some (.inr (v0,v1,false,v2,()))
def wI(a0:List (Int))(a1:Int):Option (LDCe×Int×Unit):=
(iR a0 a1).bind λ(x0,_)=>
bif(x0 != 0)then(some ([],x0,()))else
(cr rl NN (a0,a1,0,[],())).bind λ(x1,x2,x3,x4,x5,_)=>
(cr rk NN (x2,0,x5,())).bind λ(x6,x7,x8,x9,_)=>
some (x9,0,())
def je(a0:List LDCn)(a1:LDTs)(a2:Int)(a3:Int):Option (T0F):=
(fV a0 a1).bind λ(x0,_)=>
bif(!x0)then(some (0,0,[],0,0,0,0,0,0,0,[],1,()))else
bif(a2==(-1))then(bif(decide (a3<0))then(some (0,0,[],0,0,0,0,0,0,0,[],30,()))else
let x1:=cf a1.length;
bif(decide (a3>=x1))then(some (0,0,[],0,0,0,0,0,0,0,[],30,()))else
(eo a3).bind λx2=>
(dt a1 x2).bind λx3=>
(ee x3.1 x3.2.1 x3.2.2.1 x3.2.2.2.1 x3.2.2.2.2.1 x3.2.2.2.2.2.1 x3.2.2.2.2.2.2.1 x3.2.2.2.2.2.2.2).bind λ(x4,x5,x6,x7,x8,x9,ac,ae,_)=>
some (a2,a3,[],x4,x5,x6,x7,x8,x9,ac,ae,0,()))else
(bif(decide (a2<0))then(some (true,a0,a1,a2,a3,0,0,(),0,0,0,0,0,0,0,(),()))else
let x1:=cf a0.length;
bif(decide (a2>=x1))then(some (true,a0,a1,a2,a3,0,0,(),0,0,0,0,0,0,0,(),()))else
bif(decide (a3<0))then(some (true,a0,a1,a2,a3,0,0,(),0,0,0,0,0,0,0,(),()))else
bif(decide (a3>32))then(some (true,a0,a1,a2,a3,0,0,(),0,0,0,0,0,0,0,(),()))else
let x2:=w64 (a3*8);
(eo a2).bind λx3=>
(dt a0 x3).bind λx4=>
let x5:=cf x4.length;
some ((decide (x2>=x5)),a0,a1,a2,a3,0,0,(),0,0,0,0,0,0,0,(),()):Option (Bool×LLCn×LDTs×Int×Int×Int×Int×Unit×Int×Int×Int×Int×Int×Int×Int×Unit×Unit)).bind λ(x1,x2,x3,x4,x5,x6,x7,x8,x9,ac,ae,_)=>
bif x1 then(some (0,0,[],0,0,0,0,0,0,0,[],30,()))else
(eo x4).bind λap=>
(dt x2 ap).bind λaq=>
let au:=w64 (x5*8);
let av:=w64 (au+8);
let aw:=cf aq.length;
let ax:=mmR false av aw;
(eo au).bind λay=>
(eo ax).bind λaz=>
bif(lm ay az aq.length)then let aA:LDCn:=(Ie aq ay (Nat.sub az ay));
bif(dg 24 0 aA.length)then let aB:LDCn:=(List.append [] aA);
some (x4,x5,aB,0,0,0,0,0,0,0,[],0,())else none else none
def sV:T0M->Option (T0M⊕T0N):=λ(v0,v1,v2,v3,v4,_)=>
let x0:=cf v3.length;
bif(decide (v0<x0))then((eo v0).bind λx1=>
(dt v3 x1).bind λx2=>
(dt v3 x1).bind λx3=>
(je v1 v2 x3.1 x3.2).bind λ(x4,x5,x6,x7,x8,x9,ac,ae,af,ah,aj,ak,_)=>
let an:List (Int×Int×LDCn×Int×Int×Int×Int×Int×Int×Int×LDCn):=[(x4,(x5,(x6,(x7,(x8,(x9,(ac,(ae,(af,(ah,aj))))))))))];
bif(dg 120 v4.length an.length)then let ap:List (Int×Int×LDCn×Int×Int×Int×Int×Int×Int×Int×LDCn):=(List.append v4 an);
let aq:=w64 (v0+1);
some (.inl (aq,v1,v2,v3,ap,()))else none)else
some (.inr (v0,false,v1,v2,v3,v4,()))
def rn(a0:List LDCn)(a1:LDTs):Option (T0D):=
(fI a0 a1).bind λ(x0,_)=>
let x1:=cf a1.length;
(wI x0 x1).bind λ(x2,x3,_)=>
bif(x3 != 0)then(some ([],1,()))else
(cr sV NN (0,a0,a1,x2,[],())).bind λ(x4,x5,x6,x7,x8,x9,_)=>
some (x9,0,())
def nV(a0:Int)(a1:Int)(a2:LDCn)(a3:Int)(a4:Int)(a5:Int)(a6:Int)(a7:Int)(a8:Int)(a9:Int)(a10:LDCn)(a11:Int)(a12:Int)(a13:LDCn)(a14:Int)(a15:Int)(a16:Int)(a17:Int)(a18:Int)(a19:Int)(a20:Int)(a21:LDCn):Option (Bool×Unit):=
bif((a0==a11)&&((a1==a12)&&true))then((dP a2 a13).bind λ(x0,_)=>
bif x0 then((eS a3 a4 a5 a6 a7 a8 a9 a10 a14 a15 a16 a17 a18 a19 a20 a21).bind λ(x1,_)=>
some (x1,()))else
some (false,()))else
some (false,())
def nT:T11->Option (T11⊕T12):=λ(v0,v1,v2,v3,_)=>
let x0:=cf v1.length;
bif(decide (v0<x0))then(((eo v0).bind λx1=>
(dt v1 x1).bind λx2=>
(dt v1 x1).bind λx3=>
(eo v0).bind λx4=>
(dt v2 x4).bind λx5=>
(dt v2 x4).bind λx6=>
(nV x3.1 x3.2.1 x3.2.2.1 x3.2.2.2.1 x3.2.2.2.2.1 x3.2.2.2.2.2.1 x3.2.2.2.2.2.2.1 x3.2.2.2.2.2.2.2.1 x3.2.2.2.2.2.2.2.2.1 x3.2.2.2.2.2.2.2.2.2.1 x3.2.2.2.2.2.2.2.2.2.2 x6.1 x6.2.1 x6.2.2.1 x6.2.2.2.1 x6.2.2.2.2.1 x6.2.2.2.2.2.1 x6.2.2.2.2.2.2.1 x6.2.2.2.2.2.2.2.1 x6.2.2.2.2.2.2.2.2.1 x6.2.2.2.2.2.2.2.2.2.1 x6.2.2.2.2.2.2.2.2.2.2).bind λ(x7,_)=>
bif(!x7)then((eo v0).bind λx8=>
(dt v1 x8).bind λx9=>
(dt v1 x8).bind λac=>
let ae:LDCe:=[(ac.1,ac.2.1)];
bif(dg 16 v3.length ae.length)then let af:LDCe:=(List.append v3 ae);
some (v0,v1,v2,af,())else none)else
some (v0,v1,v2,v3,()):Option (T11)).bind λ(x1,x2,x3,x4,_)=>
let x5:=w64 (x1+1);
some (.inl (x5,x2,x3,x4,())))else
some (.inr (v0,false,v1,v2,v3,()))
def rj(a0:List LDCn)(a1:LDTs)(a2:List LDCn)(a3:LDTs):Option (LDCe×Int×Unit):=
((fV a0 a1).bind λ(x0,_)=>
bif(!x0)then(some (true,a0,a1,a2,a3,()))else
(fV a2 a3).bind λ(x1,_)=>
bif(!x1)then(some (true,a0,a1,a2,a3,()))else
(fI a0 a1).bind λ(x2,_)=>
(fI a2 a3).bind λ(x3,_)=>
(qp x2 x3).bind λ(x4,_)=>
bif(!x4)then(some (true,a0,a1,a2,a3,()))else
let x5:=cf a1.length;
let x6:=cf a3.length;
some ((x5 != x6),a0,a1,a2,a3,()):Option (T0h)).bind λ(x0,x1,x2,x3,x4,_)=>
bif x0 then(some ([],1,()))else
(rn x1 x2).bind λ(x5,x6,_)=>
(rn x3 x4).bind λ(x7,x8,_)=>
(cr nT NN (0,x5,x7,[],())).bind λ(x9,ac,ae,af,ah,_)=>
some (ah,0,())
def ua(a0:Int):Option (Bool×Unit):=
bif(decide (a0>=0))then(some ((decide (a0<=200)),()))else
some (false,())
def nU(a0:Int)(a1:Int)(a2:Int)(a3:Int):Option (Bool×Unit):=
bif(!((a0==(-1))==(a2==(-1))))then(some ((a2==(-1)),()))else
bif(decide (a0<a2))then(some (true,()))else
bif(a0==a2)then(some ((decide (a1<a3)),()))else
some (false,())
def qn:T0J->Option (T0J⊕((Int×Unit)⊕T0L)):=λ(v0,v1,v2,v3,_)=>
let x0:=cf v3.length;
bif(decide (v0<x0))then(let x1:Int:=(w64 (v0-1));
(eo x1).bind λx2=>
(dt v3 x2).bind λx3=>
(eo v0).bind λx4=>
(dt v3 x4).bind λx5=>
(nU x3.1 x3.2.1 x5.1 x5.2.1).bind λ(x6,_)=>
bif(!x6)then(some (.inr (.inl (5,()))))else
let x7:=w64 (v0+1);
some (.inl (x7,v1,v2,v3,())))else
some (.inr (.inr (v0,false,v1,v2,v3,())))
def gv(a0:Int)(a1:Int)(a2:List (Int×Int×LDCn×Int×Int×Int×Int×Int×Int×Int×LDCn)):Option (Int×Unit):=
((ua a0).bind λ(x0,_)=>
bif(!x0)then(some (true,a0,a1,a2,()))else
(ua a1).bind λ(x1,_)=>
bif(!x1)then(some (true,a0,a1,a2,()))else
some ((decide (a0>a1)),a0,a1,a2,()):Option (T0H)).bind λ(x0,x1,x2)=>
bif x0 then(some (6,()))else
(match cr qn NN (1,x1,x2)with
|none=>none
|some (.inl (x4,_))=>
some (x4,())
|some (.inr (x4,_))=>
some (0,()))
def ri:T0V->Option (T0V⊕T0W):=λ(v0,v1,v2,v3,v4,v5,v6,v7,v8,v9,_)=>
let x0:=cf v6.length;
bif(decide (v0<x0))then((eo v0).bind λx1=>
(dt v6 x1).bind λx2=>
(dt v6 x1).bind λx3=>
(je v1 v2 x3.1 x3.2).bind λ(x4,x5,x6,x7,x8,x9,ac,ae,af,ah,aj,ak,_)=>
let an:List (Int×Int×LDCn×Int×Int×Int×Int×Int×Int×Int×LDCn):=[(x4,(x5,(x6,(x7,(x8,(x9,(ac,(ae,(af,(ah,aj))))))))))];
bif(dg 120 v9.length an.length)then let ap:List (Int×Int×LDCn×Int×Int×Int×Int×Int×Int×Int×LDCn):=(List.append v9 an);
let aq:=w64 (v0+1);
some (.inl (aq,v1,v2,v3,v4,v5,v6,v7,v8,ap,()))else none)else
some (.inr (v0,false,v1,v2,v3,v4,v5,v6,v7,v8,v9,()))
def wG(a0:List LDCn)(a1:LDTs)(a2:List LDCn)(a3:LDTs)(a4:Int)(a5:Int):Option (T0I):=
(rj a0 a1 a2 a3).bind λ(x0,x1,_)=>
bif(x1 != 0)then(some (0,0,[],x1,()))else
(gv a4 a5 []).bind λ(x2,_)=>
bif(x2 != 0)then(some (0,0,[],6,()))else
(cr ri NN (0,a2,a3,0,0,(),x0,a4,a5,[],())).bind λ(x3,x4,x5,x6,x7,x8,x9,ac,ae,af,ah,_)=>
some (ae,af,ah,0,())
def wH(a0:Int)(a1:Int)(a2:Int)(a3:Int)(a4:Int)(a5:Int)(a6:Int)(a7:LDCn):Option (Bool×Unit):=
bif(a0==0)then(bif(a1==0)then(bif(a2==0)then(bif(a3==0)then(bif(a4==0)then(bif(a5==0)then(bif(a6==0)then(let x0:Int:=(cf a7.length);
some ((x0==0),()))else
some (false,()))else
some (false,()))else
some (false,()))else
some (false,()))else
some (false,()))else
some (false,()))else
some (false,())
def yF(a0:List LDCn)(a1:LDTs)(a2:Int)(a3:Int)(a4:LDCn)(a5:Int)(a6:Int)(a7:Int)(a8:Int)(a9:Int)(a10:Int)(a11:Int)(a12:LDCn):Option (LLCn×LDTs×Int×Unit):=
(je a0 a1 a2 a3).bind λ(x0,x1,x2,x3,x4,x5,x6,x7,x8,x9,ac,ae,_)=>
bif(ae != 0)then(some ([],[],ae,()))else
(let af:=cf a4.length;
let ah:=cf x2.length;
bif(af != ah)then(some (true,a0,a1,a2,a3,a4,a5,a6,a7,a8,a9,a10,a11,a12,(),(),()))else
bif(a2 != (-1))then((wH a5 a6 a7 a8 a9 a10 a11 a12).bind λ(aj,_)=>
some ((!aj),a0,a1,a2,a3,a4,a5,a6,a7,a8,a9,a10,a11,a12,(),(),()))else
some (false,a0,a1,a2,a3,a4,a5,a6,a7,a8,a9,a10,a11,a12,(),(),()):Option (Bool×LLCn×LDTs×Int×Int×LDCn×Int×Int×Int×Int×Int×Int×Int×LDCn×T04)).bind λ(af,ah,aj,ak,an,ap,aq,au,av,aw,ax,ay,az,aA,aB,aD,_)=>
bif af then(some ([],[],5,()))else
(fC ah aj).bind λ(aE,aF,_)=>
bif(ak==(-1))then((ee aq au av aw ax ay az aA).bind λ(aG,aH,aI,aJ,aK,aL,aM,aO,_)=>
(eo an).bind λaP=>
(dt aF aP).bind λaQ=>
(dt aF aP).bind λaR=>
let aS:=(List.modify aF aP λe=>(aG,(aH,(aI,(aJ,(aK,(aL,(aM,aO))))))));
some (aE,aS,0,()))else
((eo ak).bind λaG=>
(dt aE aG).bind λaH=>
(dt aE aG).bind λaI=>
let aJ:=w64 (an*8);
(dt aE aG).bind λaK=>
(eo aJ).bind λaL=>
bif(lm aL aK.length aK.length)then(dt aE aG).bind λaM=>
(dt aE aG).bind λaO=>
bif(lm aL (Nat.add aL (Nat.min ap.length (Nat.sub aK.length aL))) aO.length)then bif(Nat.blt 0 (Nat.min ap.length (Nat.sub aK.length aL)))then(let aP:List LDCn:=(List.modify aE aG λe=>(gB aO aL (Nat.min ap.length (Nat.sub aK.length aL)) ap));
let aQ:=(cf (Nat.min ap.length (Nat.sub aK.length aL)));
some (aB,aD,aP,aF,()))else
let aP:=(cf (Nat.min ap.length (Nat.sub aK.length aL)));
some (aB,aD,aE,aF,())else none else none:Option (T0f)).bind λ(aG,aH,aI,aJ,_)=>
some (aI,aJ,0,())
def qo:T0R->Option (T0R⊕((Int×T04)⊕(Int×Bool×T0Q))):=λ(v0,v1,v2,v3,v4,v5,v6)=>
let x0:=cf v5.length;
bif(decide (v0<x0))then((eo v0).bind λx1=>
(dt v5 x1).bind λx2=>
(yF v1 v2 x2.1 x2.2.1 x2.2.2.1 x2.2.2.2.1 x2.2.2.2.2.1 x2.2.2.2.2.2.1 x2.2.2.2.2.2.2.1 x2.2.2.2.2.2.2.2.1 x2.2.2.2.2.2.2.2.2.1 x2.2.2.2.2.2.2.2.2.2.1 x2.2.2.2.2.2.2.2.2.2.2).bind λ(x3,x4,x5,_)=>
bif(x5 != 0)then(some (.inr (.inl (x5,(),(),()))))else
let x6:=w64 (v0+1);
some (.inl (x6,x3,x4,v3,v4,v5,v6)))else
some (.inr (.inr (v0,false,v1,v2,v3,v4,v5,v6)))
def uU(a0:List LDCn)(a1:LDTs)(a2:Int)(a3:Int)(a4:Int)(a5:List (Int×Int×LDCn×Int×Int×Int×Int×Int×Int×Int×LDCn)):Option (LLCn×LDTs×Int×Unit):=
(gv a3 a4 a5).bind λ(x0,_)=>
bif(x0 != 0)then(some ([],[],x0,()))else
bif(a2 != a3)then(some ([],[],35,()))else
(match cr qo NN (0,a0,a1,a3,a4,a5,(),(),())with
|none=>none
|some (.inl (x1,x2,x3,_))=>
some ([],[],x1,())
|some (.inr (x1,x2,x3,x4,_))=>
(fC x3 x4).bind λ(ac,ae,_)=>
some (ac,ae,0,()))
def oU:Ctr:=⟨16,59,[.agg [shU I64,shU I64,shU (Xj (.pair I64 (.pair I64 (.pair dB fr))))],.agg [shU I64,shU I64,shU (Xj (.pair I64 (.pair I64 (.pair dB fr))))]],[],[⟨[shU I64,shU I64,shU (Xj (.pair I64 (.pair I64 (.pair dB fr)))),shU I64],[.agg 3,.one],[]⟩],ap6 cW⟩
theorem vw:Lvl E0 TT libBj 1 oU:=(vk (Ik rfl) qu).mono (by decide)
def sU:T10->Option (T10⊕((List (Int×Int×LDCn×Int×Int×Int×Int×Int×Int×Int×LDCn))×Int×Bool×T0C)):=λ(v0,v1,v2,v3,v4)=>
let x0:=cf v0.length;
bif(decide (v1<x0))then((eo v1).bind λx1=>
(dt v0 x1).bind λx2=>
(nU x2.1 x2.2.1 v2 v3).bind λ(x3,_)=>
bif x3 then(let x4:Int:=(w64 (v1+1));
some (.inl (v0,x4,v2,v3,v4)))else
some (.inr (v0,v1,false,v2,v3,v4)))else
some (.inr (v0,v1,false,v2,v3,v4))
def rh(a0:List (Int×Int×LDCn×Int×Int×Int×Int×Int×Int×Int×LDCn))(a1:Int)(a2:Int)(a3:LDCn)(a4:Int)(a5:Int)(a6:Int)(a7:Int)(a8:Int)(a9:Int)(a10:Int)(a11:LDCn):Option ((List (Int×Int×LDCn×Int×Int×Int×Int×Int×Int×Int×LDCn))×Unit):=
(cr sU NN (a0,0,a1,a2,a3,a4,a5,a6,a7,a8,a9,a10,a11,())).bind λ(x0,x1,x2,x3,x4,x5,x6,x7,x8,x9,ac,ae,af,ah,_)=>
(eo x1).bind λaj=>
bif(lm 0 aj x0.length)then let ak:List (Int×Int×LDCn×Int×Int×Int×Int×Int×Int×Int×LDCn):=(Ie x0 0 (Nat.sub aj 0));
bif(dg 120 0 ak.length)then let an:List (Int×Int×LDCn×Int×Int×Int×Int×Int×Int×Int×LDCn):=(List.append [] ak);
let ap:List (Int×Int×LDCn×Int×Int×Int×Int×Int×Int×Int×LDCn):=[(x3,(x4,(x5,(x6,(x7,(x8,(x9,(ac,(ae,(af,ah))))))))))];
bif(dg 120 an.length ap.length)then let aq:List (Int×Int×LDCn×Int×Int×Int×Int×Int×Int×Int×LDCn):=(List.append an ap);
(let au:=cf x0.length;
bif(decide (x1<au))then((eo x1).bind λav=>
(dt x0 av).bind λaw=>
bif((aw.1==x3)&&((aw.2.1==x4)&&true))then(let ax:Int:=(w64 (x1+1));
some (x0,ax,aq,()))else
some (x0,x1,aq,()))else
some (x0,x1,aq,()):Option ((List (Int×Int×LDCn×Int×Int×Int×Int×Int×Int×Int×LDCn))×T0E)).bind λ(au,av,aw,_)=>
(eo av).bind λax=>
bif(lm ax au.length au.length)then let ay:List (Int×Int×LDCn×Int×Int×Int×Int×Int×Int×Int×LDCn):=(Ie au ax (Nat.sub au.length ax));
bif(dg 120 aw.length ay.length)then let az:List (Int×Int×LDCn×Int×Int×Int×Int×Int×Int×Int×LDCn):=(List.append aw ay);
some (az,())else none else none else none else none else none
def qm:T18->Option (T18⊕(Int×Bool×T17)):=λ(v0,v1,v2,v3,v4,v5,v6,v7,v8,v9,v10,v11,v12,_)=>
let x0:=cf v3.length;
bif(decide (v0<x0))then((eo v0).bind λx1=>
(dt v3 x1).bind λx2=>
(rh v12 x2.1 x2.2.1 x2.2.2.1 x2.2.2.2.1 x2.2.2.2.2.1 x2.2.2.2.2.2.1 x2.2.2.2.2.2.2.1 x2.2.2.2.2.2.2.2.1 x2.2.2.2.2.2.2.2.2.1 x2.2.2.2.2.2.2.2.2.2.1 x2.2.2.2.2.2.2.2.2.2.2).bind λ(x3,_)=>
let x4:=w64 (v0+1);
some (.inl (x4,v1,v2,v3,v4,v5,v6,v7,v8,v9,v10,v11,x3,())))else
some (.inr (v0,false,v1,v2,v3,v4,v5,v6,v7,v8,v9,v10,v11,v12,()))
def qk:T16->Option (T16⊕(Int×Bool×T14)):=λ(v0,v1,v2,v3,v4,v5,v6,v7,v8,v9,_)=>
let x0:=cf v3.length;
bif(decide (v0<x0))then((eo v0).bind λx1=>
(dt v3 x1).bind λx2=>
(rh v9 x2.1 x2.2.1 x2.2.2.1 x2.2.2.2.1 x2.2.2.2.2.1 x2.2.2.2.2.2.1 x2.2.2.2.2.2.2.1 x2.2.2.2.2.2.2.2.1 x2.2.2.2.2.2.2.2.2.1 x2.2.2.2.2.2.2.2.2.2.1 x2.2.2.2.2.2.2.2.2.2.2).bind λ(x3,_)=>
let x4:=w64 (v0+1);
some (.inl (x4,v1,v2,v3,v4,v5,v6,v7,v8,x3,())))else
some (.inr (v0,false,v1,v2,v3,v4,v5,v6,v7,v8,v9,()))
def uT(a0:Int)(a1:Int)(a2:List (Int×Int×LDCn×Int×Int×Int×Int×Int×Int×Int×LDCn))(a3:Int)(a4:Int)(a5:List (Int×Int×LDCn×Int×Int×Int×Int×Int×Int×Int×LDCn)):Option (T0I):=
(gv a0 a1 a2).bind λ(x0,_)=>
bif(x0 != 0)then(some (0,0,[],x0,()))else
(gv a3 a4 a5).bind λ(x1,_)=>
bif(x1 != 0)then(some (0,0,[],x1,()))else
bif(a1 != a3)then(some (0,0,[],35,()))else
(cr qm NN (0,a0,a1,a2,a3,a4,a5,0,0,(),a0,a4,[],())).bind λ(x2,x3,x4,x5,x6,x7)=>
(cr qk NN (0,x7)).bind λ(an,ap,aq,au,av,aw,ax,ay,az,aA,aB,_)=>
some (az,aA,aB,0,())
def mH:T0Y->Option (T0Y⊕((Bool×Unit)⊕((List (Int×Int×LDCn×Int×Int×Int×Int×Int×Int×Int×LDCn))×(List (Int×Int×LDCn×Int×Int×Int×Int×Int×Int×Int×LDCn))×T00))):=λ(v0,v1,v2,_)=>
let x0:=cf v0.length;
bif(decide (v2<x0))then((eo v2).bind λx1=>
(dt v0 x1).bind λx2=>
(eo v2).bind λx3=>
(dt v1 x3).bind λx4=>
(nV x2.1 x2.2.1 x2.2.2.1 x2.2.2.2.1 x2.2.2.2.2.1 x2.2.2.2.2.2.1 x2.2.2.2.2.2.2.1 x2.2.2.2.2.2.2.2.1 x2.2.2.2.2.2.2.2.2.1 x2.2.2.2.2.2.2.2.2.2.1 x2.2.2.2.2.2.2.2.2.2.2 x4.1 x4.2.1 x4.2.2.1 x4.2.2.2.1 x4.2.2.2.2.1 x4.2.2.2.2.2.1 x4.2.2.2.2.2.2.1 x4.2.2.2.2.2.2.2.1 x4.2.2.2.2.2.2.2.2.1 x4.2.2.2.2.2.2.2.2.2.1 x4.2.2.2.2.2.2.2.2.2.2).bind λ(x5,_)=>
bif(!x5)then(some (.inr (.inl (false,()))))else
let x6:=w64 (v2+1);
some (.inl (v0,v1,x6,())))else
some (.inr (.inr (v0,v1,v2,false,())))
def pd(a0:List (Int×Int×LDCn×Int×Int×Int×Int×Int×Int×Int×LDCn))(a1:List (Int×Int×LDCn×Int×Int×Int×Int×Int×Int×Int×LDCn)):Option (Bool×Unit):=
let x0:=cf a0.length;
let x1:=cf a1.length;
bif(x0 != x1)then(some (false,()))else
(match cr mH NN (a0,a1,0,())with
|none=>none
|some (.inl (x2,_))=>
some (x2,())
|some (.inr (x2,_))=>
some (true,()))
def pN(a0:Int)(a1:Int)(a2:List (Int×Int×LDCn×Int×Int×Int×Int×Int×Int×Int×LDCn))(a3:Int)(a4:Int)(a5:List (Int×Int×LDCn×Int×Int×Int×Int×Int×Int×Int×LDCn)):Option (Bool×Unit):=
bif(a0==a3)then(bif(a1==a4)then((pd a2 a5).bind λ(x0,_)=>
some (x0,()))else
some (false,()))else
some (false,())
def F1(a0:List LDCn)(a1:LDTs)(a2:List LDCn)(a3:LDTs)(a4:Int)(a5:Int)(a6:Int)(a7:Int)(a8:Int)(a9:List (Int×Int×LDCn×Int×Int×Int×Int×Int×Int×Int×LDCn))(a10:Int)(a11:Int)(a12:List (Int×Int×LDCn×Int×Int×Int×Int×Int×Int×Int×LDCn)):Option (Bool×Unit):=
(eM a0 a1 a2 a3 a4 a5).bind λ(x0,x1,x2,x3,_)=>
(wG a0 a1 a2 a3 a4 a5).bind λ(x4,x5,x6,x7,_)=>
(dN a0 a1 a6 a7 a8 a9).bind λ(x8,x9,ac,_)=>
(uU a0 a1 a6 a7 a8 a9).bind λ(ae,af,ah,_)=>
(cW a7 a8 a9 a10 a11 a12).bind λ(aj,ak,an,ap,_)=>
(uT a7 a8 a9 a10 a11 a12).bind λ(aq,au,av,aw,_)=>
bif(x3==x7)then(bif(ac==ah)then(bif(ap==aw)then((pN x0 x1 x2 x4 x5 x6).bind λ(ax,_)=>
bif ax then((eL x8 x9 ae af).bind λ(ay,_)=>
bif ay then((pN aj ak an aq au av).bind λ(az,_)=>
bif az then((gy a7 a8 a9).bind λ(aA,_)=>
(gv a7 a8 a9).bind λ(aB,_)=>
some ((aA==aB),()))else
some (false,()))else
some (false,()))else
some (false,()))else
some (false,()))else
some (false,()))else
some (false,())
def qG(a0:List (Int)):Option (Bool×Unit):=
let x0:=cf a0.length;
some ((decide (x0<=400)),())
def Hb:X.Cfg:=⟨E0,[],[],[]⟩
def BA:Ctr:=⟨10,66,uL [RI],[],[⟨yab,[.one],[]⟩],ap1 qG⟩
theorem GX:Lvl E0 TT libBj 1 BA:=cb (n:=0) (C:=Hb) rfl (.intro) (cg (by kernel_rfl)) (λh=>by kernel_rfl)
def nA(a0:Int)(a1:Int):Option (Int×Unit):=
bif(a1 != 0)then let x0:Int:=(Int.tmod a0 a1);
(bif(decide (x0<0))then(let x1:Int:=(w64 (x0+a1));
some (x1,()))else
some (x0,()):Option (Int×Unit)).bind λ(x1,_)=>
some (x1,())else none
def zy:X.Cfg:=⟨E0,[],[],[⟨2,0,qE,[(.normal,qS [yaa 5] [])]⟩]⟩
def sy:Ctr:=⟨48,67,Xab,[],[⟨zab,[.one],[]⟩],ap2 nA⟩
theorem zl:Lvl E0 TT libBj 1 sy:=cb (n:=0) (C:=zy) rfl (.intro) (cg (by kernel_rfl)) (λh=>by kernel_rfl)
def qF(a0:Int)(a1:Int):Option (Int×Unit):=
(nA a0 a1).bind λ(x0,_)=>
some (x0,())
def Ha:X.Cfg:=⟨E0,[sy],[],[]⟩
def Bz:Ctr:=⟨28,68,Xab,[],[⟨zab,[.one],[]⟩],ap2 qF⟩
theorem GV:Lvl E0 TT libBj 2 Bz:=cb (n:=1) (C:=Ha) rfl (.intro (zl.mono (by decide)) (.intro)) (cg (by kernel_rfl)) (λh=>by kernel_rfl)
def cq(a0:Int)(a1:List (Int))(a2:Int):Option (Int×T02):=
let x0:=cf a1.length;
bif(decide (a2>=x0))then(some (0,a1,a2,()))else
let x1:=w64 (a2+1);
let x2:=w64 (x1-1);
(eo x2).bind λx3=>
(dt a1 x3).bind λx4=>
(qF x4 a0).bind λ(x5,_)=>
some (x5,a1,x1,())
def zD:X.Cfg:=⟨E0,[Bz],[],[]⟩
def ig:Ctr:=⟨14,69,[.ptr ⟨2,0,[]⟩ [0],shU I64],[(2,Zaa)],[⟨zab,[.one],[(2,Zaa)]⟩],ap3 cq⟩
theorem jm:Lvl E0 TT libBj 3 ig:=cb (n:=2) (C:=zD) rfl (.intro (GV.mono (by decide)) (.intro)) (cg (by kernel_rfl)) (λh=>by kernel_rfl)
def fw(a0:List (Int))(a1:Int):Option (Int×Int×Int×Int×T02):=
(cq 5 a0 a1).bind λ(x0,x1,x2,_)=>
bif(x0==4)then((cq 3 x1 x2).bind λ(x3,x4,x5,_)=>
(cq 8 x4 x5).bind λ(x6,x7)=>
some (1,0,x3,x6,x7))else
(cq 40 x1 x2).bind λ(x3,x4,x5,_)=>
let x6:=wk .u16 x3;
some (0,x6,0,0,x4,x5,())
def xz:X.Cfg:=⟨E0,[ig],[],[]⟩
def jN:Ctr:=⟨26,70,[.ptr ⟨2,0,[]⟩ [0]],[(2,Zaa)],[⟨uL [CB,CW,I64,I64],[.agg 4],[(2,Zaa)]⟩],ap2 fw⟩
theorem lR:Lvl E0 TT libBj 4 jN:=cb (n:=3) (C:=xz) rfl (.intro (jm.mono (by decide)) (.intro)) (cg (by kernel_rfl)) (λh=>by kernel_rfl)
def eC:T0T->Option (T0T⊕(Int×Bool×T0S)):=λ(v0,v1,v2,v3,v4,v5,v6,v7,v8,v9,v10,v11,v12,v13,v14,v15,v16,v17,v18,_)=>
bif(decide (v0<8))then((fw v1 v2).bind λ(x0,x1,x2,x3,x4,x5,_)=>
let x6:LDCn:=[(x0,(x1,(x2,x3)))];
bif(dg 24 v18.length x6.length)then let x7:LDCn:=(List.append v18 x6);
let x8:=w64 (v0+1);
some (.inl (x8,x4,x5,v3,v4,v5,v6,v7,v8,v9,v10,v11,v12,v13,v14,v15,v16,v17,x7,()))else none)else
some (.inr (v0,false,v1,v2,v3,v4,v5,v6,v7,v8,v9,v10,v11,v12,v13,v14,v15,v16,v17,v18,()))
def iw(a0:List (Int))(a1:Int):Option (Int×Int×Int×Int×Int×Int×Int×LDCn×T02):=
(cq 5 a0 a1).bind λ(x0,x1,x2,_)=>
(cq 20 x1 x2).bind λ(x3,x4,x5,_)=>
(cq 30 x4 x5).bind λ(x6,x7,x8,_)=>
(cq 4 x7 x8).bind λ(x9,ac,ae,_)=>
let af:=w64 (x9-1);
(cq 4 ac ae).bind λ(ah,aj,ak,_)=>
let an:=w64 (ah-1);
(cq 7 aj ak).bind λ(ap,aq,au,_)=>
(cq 9 aq au).bind λ(av,aw,ax,_)=>
let ay:=wk .u16 av;
(cr eC NN (0,aw,ax,0,0,0,0,0,0,0,(),x0,x3,x6,af,an,ap,ay,[],())).bind λ(az,aA,aB,aD,aE,aF,aG,aH,aI,aJ,aK,aL,aM,aO,aP,aQ,aR,aS,aT,aU,_)=>
some (aM,aO,aP,aQ,aR,aS,aT,aU,aB,aD,())
def xA:X.Cfg:=⟨E0,[ig,jN],[],[(lx 4 0 [uaa 0,uaa 2,uaa 3,yaa 4] [(2,Zaa),(6,uL [I64,I64,I64,I64,I64,I64,CW,N1]),(8,yac)] 24)]⟩
def l7:Ctr:=⟨27,71,[.ptr ⟨2,0,[]⟩ [0]],[(2,Zaa)],[⟨yac,[.agg 8],[(2,Zaa)]⟩],ap2 iw⟩
theorem pY:Lvl E0 TT libBj 5 l7:=cb (n:=4) (C:=xA) rfl (.intro (jm.mono (by decide)) (.intro (lR.mono (by decide)) (.intro))) (cg (by kernel_rfl)) (λh=>by kernel_rfl)
def ge:T0B->Option (T0B⊕(Int×Int×Bool×T0v)):=λ(v0,v1,v2,v3,v4,v5,v6,v7,v8,_)=>
bif(decide (v1>=0))then((fw v2 v3).bind λ(x0,x1,x2,x3,x4,x5,_)=>
let x6:LDCn:=[(x0,(x1,(x2,x3)))];
bif(dg 24 v8.length x6.length)then let x7:LDCn:=(List.append v8 x6);
let x8:=w64 (v1-1);
some (.inl (v0,x8,x4,x5,v4,v5,v6,v7,x7,()))else none)else
some (.inr (v0,v1,false,v2,v3,v4,v5,v6,v7,v8,()))
def gd:T0s->Option (T0s⊕(Int×Bool×T0n)):=λ(v0,v1,v2,v3,v4,v5,v6,_)=>
bif(decide (v0>=0))then((cq 24 v1 v2).bind λ(x0,x1,x2,_)=>
(cr ge NN (v0,x0,x1,x2,v3,v4,v5,v6,[],())).bind λ(x3,x4,x5,x6,x7,x8,x9,ac,ae,af,_)=>
bif(dg 24 ac.length (List.length [af]))then let ah:List LDCn:=(List.append ac [af]);
let aj:=w64 (x3-1);
some (.inl (aj,x6,x7,x8,x9,ah,ae,()))else none)else
some (.inr (v0,false,v1,v2,v3,v4,v5,v6,()))
def gc:T0r->Option (T0r⊕T0w):=λ(v0,v1,v2,v3,v4,v5,v6,_)=>
bif(decide (v0>0))then((iw v1 v2).bind λ(x0,x1,x2,x3,x4,x5,x6,x7,x8,x9,_)=>
let ac:LDTs:=[(x0,(x1,(x2,(x3,(x4,(x5,(x6,x7)))))))];
bif(dg 80 v6.length ac.length)then let ae:LDTs:=(List.append v6 ac);
let af:=w64 (v0-1);
some (.inl (af,x8,x9,v3,v4,v5,ae,()))else none)else
some (.inr (v0,false,v1,v2,v3,v4,v5,v6,()))
def iQ(a0:List (Int))(a1:Int):Option (LLCn×LDTs×T02):=
(cq 3 a0 a1).bind λ(x0,x1,x2,_)=>
(cr gd NN (x0,x1,x2,(),(),[],(),())).bind λ(x3,x4,x5,x6,x7,x8,x9,ac,_)=>
(cq 4 x5 x6).bind λ(ae,af,ah,_)=>
(cr gc NN (ae,af,ah,x7,x8,x9,[],())).bind λ(aj,ak,an,ap,aq,au,av,aw,_)=>
some (av,aw,an,ap,())
def vG:X.Cfg:=⟨E0,[ig,jN,l7],[(28,(Xi KCn)),(29,(Xi KCn)),(41,tY),(42,tY)],[⟨11,0,qS [uaa 0,uaa 2,uaa 3,yaa 4,Uaa 5 13,yaa 6] [(2,Zaa),(6,uab),(8,zac),(13,Zac)],[(.exit 2,qS [uaa 0,uaa 2,uaa 3,yaa 4,Uaa 5 13,yaa 6,zaa 17] [(2,Zaa),(6,uab),(8,zac),(13,Zac)])]⟩,(lx 4 1 [uaa 0,uaa 2,uaa 3,yaa 4] [(2,Zaa),(6,uab),(8,zac)] 11),⟨17,2,qS [uaa 0,uaa 2,uaa 3,yaa 7] [(2,Zaa),(6,uab),(8,Uab)],[(.exit 4,qS [uaa 0,uaa 2,uaa 3,yaa 7,zaa 34] [(2,Zaa),(6,uab),(8,Uab)])]⟩]⟩
def oO:Ctr:=⟨12,72,[.ptr ⟨2,0,[]⟩ [0]],[(2,Zaa)],[⟨Uab,[.agg 2],[(2,Zaa)]⟩],ap2 iQ⟩
theorem vp:Lvl E0 TT libBj 6 oO:=cb (n:=5) (C:=vG) rfl (.intro (jm.mono (by decide)) (.intro (lR.mono (by decide)) (.intro (pY.mono (by decide)) (.intro)))) (cg (by kernel_rfl)) (λh=>by kernel_rfl)
def jd:T0z->Option (T0z⊕T0A):=λ(v0,v1,v2,v3,v4,v5,v6,v7,_)=>
bif(decide (v1<v0))then(((match(let x0:Int:=(cf v7.length);
bif(decide (x0>0))then((cq 3 v2 v3).bind λ(x1,x2,x3,_)=>
bif(x1==2)then(let x4:Int:=(cf v7.length);
(cq x4 x2 x3).bind λ(x5,x6,x7,_)=>
(iw x6 x7).bind λ(x8,x9,ac,ae,af,ah,aj,ak,an,ap,_)=>
(eo x5).bind λaq=>
(dt v7 aq).bind λau=>
(dt v7 aq).bind λav=>
let aw:=(List.modify v7 aq λe=>(x8,(x9,(ac,(ae,(af,(ah,(aj,ak))))))));
some (.inl (v0,v1,an,ap,v4,v5,v6,aw,())))else
some (.inr (v0,v1,false,x2,x3,v4,v5,v6,v7,())))else
some (.inr (v0,v1,false,v2,v3,v4,v5,v6,v7,())):Option (T0z⊕T0A))with
|none=>none
|some (.inl (x0,x1,x2,x3,x4,x5,x6,x7,_))=>
some (x0,x1,x2,x3,x4,x5,x6,x7,())
|some (.inr (x0,x1,x2,x3,x4,x5,x6,x7,x8,_))=>
let x9:=cf x7.length;
(cq x9 x3 x4).bind λ(ac,ae,af,_)=>
(eo ac).bind λah=>
(dt x7 ah).bind λaj=>
(dt x7 ah).bind λak=>
(eo ac).bind λan=>
(dt x7 an).bind λap=>
(dt x7 an).bind λaq=>
(dt x7 an).bind λau=>
let av:=cf au.length;
(cq av ae af).bind λ(aw,ax,ay,_)=>
(fw ax ay).bind λ(az,aA,aB,aD,aE,aF,_)=>
(eo aw).bind λaG=>
(dt x7 ah).bind λaH=>
(dt aH aG).bind λaI=>
(dt x7 ah).bind λaJ=>
(dt aJ aG).bind λaK=>
let aL:=(List.modify x7 ah λe=>(List.modify e aG λe=>(az,(aA,(aB,aD)))));
some (x0,x1,aE,aF,x5,x6,aL,x8,())):Option (T0z)).bind λ(x0,x1,x2,x3,x4,x5,x6,x7,_)=>
let x8:=w64 (x1+1);
some (.inl (x0,x8,x2,x3,x4,x5,x6,x7,())))else
some (.inr (v0,v1,false,v2,v3,v4,v5,v6,v7,()))
def ix(a0:List LDCn)(a1:LDTs)(a2:Int)(a3:List (Int))(a4:Int):Option (LLCn×LDTs×T02):=
(fC a0 a1).bind λ(x0,x1,_)=>
(cr jd NN (a2,0,a3,a4,(),(),x0,x1,())).bind λ(x2,x3,x4,x5,x6,x7,x8,x9,ac,_)=>
some (x9,ac,x5,x6,())
def xB:X.Cfg:=⟨E0,[l9,ig,l7,jN],[],[⟨8,0,qE,[(.exit 1,qS [uaa 0,yaa 2,uaa 6,uaa 7,yaa 8] [(2,Zaa),(14,uab),(16,Uab)]),(.normal,qS [uaa 0,yaa 2,uaa 6,uaa 7,yaa 8,zaa 25] [(2,Zaa),(14,uab),(16,Uab)])]⟩,⟨7,1,qE,[(.normal,qS [uaa 0,yaa 2,uaa 6,uaa 7,yaa 8] [(2,Zaa),(14,uab),(16,Uab)])]⟩,(lx 4 2 [uaa 0,yaa 2,uaa 6,uaa 7,yaa 8] [(2,Zaa),(14,uab),(16,Uab)] 14)]⟩
def qe:Ctr:=⟨13,73,[.ptr ⟨2,0,[]⟩ [0],.agg Xaa,shU I64],[(2,Zaa)],[⟨Uab,[.agg 2],[(2,Zaa)]⟩],ap5 ix⟩
theorem xo:Lvl E0 TT libBj 6 qe:=cb (n:=5) (C:=xB) rfl (.intro (p5.mono (by decide)) (.intro (jm.mono (by decide)) (.intro (pY.mono (by decide)) (.intro (lR.mono (by decide)) (.intro))))) (cg (by kernel_rfl)) (λh=>by kernel_rfl)
def fN(a0:List (Int))(a1:Int)(a2:Int)(a3:Int):Option (Bool×Unit):=
(qG a0).bind λ(x0,_)=>
bif(!x0)then((iU).bind λ(x1,_)=>
some (x1,()))else
(iQ a0 0).bind λ(x1,x2,x3,x4,_)=>
(cq 5 x3 x4).bind λ(x5,x6,x7,_)=>
(ix x1 x2 x5 x6 x7).bind λ(x8,x9,ac,ae,_)=>
(cq 5 ac ae).bind λ(af,ah,aj,_)=>
(ix x8 x9 af ah aj).bind λ(ak,an,_)=>
let au:=wk .i64 a1;
let av:=Int.tmod au 60;
let aw:=wk .i64 a2;
let ax:=Int.tmod aw 60;
let ay:=w64 (av+ax);
let az:=wk .i64 a3;
let aA:=Int.tmod az 60;
let aB:=w64 (ay+aA);
(eM x1 x2 x8 x9 av ay).bind λ(aD,aE,aF,aG,_)=>
(eM x8 x9 ak an ay aB).bind λ(aH,aI,aJ,aK,_)=>
(cW aD aE aF aH aI aJ).bind λ(aL,aM,aO,aP,_)=>
(eM ak an ak an av aB).bind λ(aQ,aR,aS,aT,_)=>
(dN x1 x2 av aD aE aF).bind λ(aU,aV,aW,_)=>
(dN aU aV ay aH aI aJ).bind λ(aY,aZ,ba,_)=>
(dN x1 x2 av aL aM aO).bind λ(bc,bd,be,_)=>
(bif(aG != 0)then(some (av,aB,true,x8,x9,ak,an,aD,aE,aF,aH,aI,aJ,aL,aM,aO,aQ,aR,aS,aU,aV,aY,aZ,bc,bd,()))else
bif(aK != 0)then(some (av,aB,true,x8,x9,ak,an,aD,aE,aF,aH,aI,aJ,aL,aM,aO,aQ,aR,aS,aU,aV,aY,aZ,bc,bd,()))else
bif(aP != 0)then(some (av,aB,true,x8,x9,ak,an,aD,aE,aF,aH,aI,aJ,aL,aM,aO,aQ,aR,aS,aU,aV,aY,aZ,bc,bd,()))else
bif(aT != 0)then(some (av,aB,true,x8,x9,ak,an,aD,aE,aF,aH,aI,aJ,aL,aM,aO,aQ,aR,aS,aU,aV,aY,aZ,bc,bd,()))else
bif(aW != 0)then(some (av,aB,true,x8,x9,ak,an,aD,aE,aF,aH,aI,aJ,aL,aM,aO,aQ,aR,aS,aU,aV,aY,aZ,bc,bd,()))else
bif(ba != 0)then(some (av,aB,true,x8,x9,ak,an,aD,aE,aF,aH,aI,aJ,aL,aM,aO,aQ,aR,aS,aU,aV,aY,aZ,bc,bd,()))else
some (av,aB,(be != 0),x8,x9,ak,an,aD,aE,aF,aH,aI,aJ,aL,aM,aO,aQ,aR,aS,aU,aV,aY,aZ,bc,bd,()):Option (Int×Int×Bool×LLCn×LDTs×LLCn×LDTs×Int×Int×(List (Int×Int×LDCn×Int×Int×Int×Int×Int×Int×Int×LDCn))×Int×Int×(List (Int×Int×LDCn×Int×Int×Int×Int×Int×Int×Int×LDCn))×Int×Int×(List (Int×Int×LDCn×Int×Int×Int×Int×Int×Int×Int×LDCn))×Int×Int×(List (Int×Int×LDCn×Int×Int×Int×Int×Int×Int×Int×LDCn))×LLCn×LDTs×T0d)).bind λ(bf,bg,bh,bi,bj,bk,bl,bm,bn,bo,bp,bq,bt,bu,bv,bw,bx,bz,bA,bB,bC,bD,bE,bF,bG,_)=>
bif bh then(some (false,()))else
(eL bB bC bi bj).bind λ(bH,_)=>
bif bH then((eL bD bE bk bl).bind λ(bI,_)=>
bif bI then((eL bF bG bk bl).bind λ(bJ,_)=>
bif bJ then(let bL:Int:=(cf bA.length);
bif(bL==0)then(let bM:Int:=(cf bw.length);
let bN:=cf bo.length;
let bO:=cf bt.length;
let bP:=w64 (bN+bO);
bif(decide (bM<=bP))then(bif(bu==bf)then(bif(bv==bg)then((iU).bind λ(bQ,_)=>
some (bQ,()))else
some (false,()))else
some (false,()))else
some (false,()))else
some (false,()))else
some (false,()))else
some (false,()))else
some (false,())
def mP:X.Cfg:=⟨E0,[BA,oS,oO,ig,qe,me,oU,kU,l8],[],[⟨19,0,qE,[(.normal,(qS [uaa 11,uaa 12,yaa 13,yaa 15,uaa 16,uaa 18,uaa 20,uaa 22,uaa 24,uaa 26,uaa 28,zaa 137] [(24,Xaa),(26,Xaa),(34,[shU I64,shU I64,shU (Xj (.pair I64 (.pair I64 (.pair dB fr))))]),(38,[shU I64,shU I64,shU (Xj (.pair I64 (.pair I64 (.pair dB fr))))]),(42,[shU I64,shU I64,shU (Xj (.pair I64 (.pair I64 (.pair dB fr))))]),(46,[shU I64,shU I64,shU (Xi (.pair I64 (.pair I64 (.pair dB fr))))]),(50,Xaa),(54,Xaa),(58,Xaa)]))]⟩]⟩
def iN:Ctr:=⟨4,74,uL [RI,CB,CB,CB],[],[⟨yab,[.one],[]⟩],ap4 fN⟩
theorem k_law29_DeltaFollows:Lvl E0 TT libBj 10 iN:=cb (n:=9) (C:=mP) rfl (.intro (GX.mono (by decide)) (.intro (vu.mono (by decide)) (.intro (vp.mono (by decide)) (.intro (jm.mono (by decide)) (.intro (xo.mono (by decide)) (.intro (p8.mono (by decide)) (.intro (vw.mono (by decide)) (.intro (oq.mono (by decide)) (.intro (pZ.mono (by decide)) (.intro)))))))))) (cg (by kernel_rfl)) (λh=>by kernel_rfl)
end
end Go.Proofs.Ytbdhpgelkfncpaa
namespace Go.Proofs.Ytbdhpgelkfncpaa
set_option maxRecDepth 100000
noncomputable section
end
end Go.Proofs.Ytbdhpgelkfncpaa
namespace Go.Proofs.Ytbdhpgelkfncpaa
open Go.RowKit
theorem LM:(Try.prog.funcs.all λfn=>!(fn.name=="runtime.NumGoroutine"))=true:=by kernel_rfl
theorem Co:gX Try.prog 11:=by
 obtain⟨fn,hf,hb⟩:∃fn,Try.prog.funcs[11]?=some fn/\fn.body.isSome=true:=by
  have hs:(match Try.prog.funcs[11]? with|some fn=>fn.body.isSome|none=>false)=true:=by kernel_rfl
  cases h:Try.prog.funcs[11]? with
  |none=>rw[h]at hs;cases hs
  |some fn=>rw[h]at hs;exact⟨fn,rfl,hs⟩
 obtain⟨c,hc⟩:=Option.isSome_iff_exists.1 hb;refine jr hf ?_ hc;obtain⟨hlt,he⟩:=Array.getElem?_eq_some_iff.1 hf;have:=Array.all_eq_true.1 LM 11 hlt;rw[he]at this;simpa using this
def Ki(x:Value)(w:World)(e:Ending)(w':World):Prop:=e=.returned (.pointer (some ⟨w.heap.size,0,none⟩))/\w'=w.alloc (.cells #[x,.int .i64 0] 64)
theorem JG(x:Value)(hx:x.oneCell'=true)(w:World):
 Calls Try.prog 11 #[x] w (Ki x w):=by
 cases x
 all_goals first
  |(go_enter Try.func11,Try.ntmps11
    go_wp2
    go_ret
    exact⟨rfl,rfl⟩)
  |simp[Value.oneCell']at hx
theorem e0_ok:Df Try.prog E0:=by
 intro f n tm h;simp only[E0]at h;split at h
 ·rename_i e;subst e
  injection h with h
  injection h with h1 h2
  subst h1 h2;refine⟨Co,λx hx=>?_,64,λl2 w hl Zs=>?_⟩
  ·simp only[List.mem_cons,List.not_mem_nil,or_false]at hx;rcases hx with hx|hx
   ·injection hx
   ·injection hx with hx;rw[hx];rfl
  ·match l2,hl with
   | [x],_=>exact JG x (Zs x (by simp[bxV])) w
 ·simp at h
def Ok{α:Type}(o:Option α)(Q:α->Prop):Prop:=∃a,o=some a/\Q a
section
variable {α β:Type}
theorem Ok.ret{a:α}{Q:α->Prop}(h:Q a):Ok (some a) Q:=⟨a,rfl,h⟩
theorem Ok.bind{o:Option α}{f:α->Option β}{P:α->Prop}{Q:β->Prop}(h:Ok o P)(h2:∀a,P a->Ok (f a) Q):Ok (o.bind f) Q:=by
 obtain⟨a,rfl,h1⟩:=h
 simp_all
theorem Ok.mono{o:Option α}{P Q:α->Prop}(h:Ok o P)(h2:∀a,P a->Q a):Ok o Q:=by
 have ⟨a,e,h1⟩:=h;exact⟨a,e,h2 a h1⟩
theorem Ok.cond{c:Bool}{a b:Option α}{Q:α->Prop}(h1:c=true->Ok a Q)(h2:c=false->Ok b Q):Ok (bif c then a else b) Q:=by
 grind
class BP (b:Bool) (P N:outParam Prop):Prop where
 t:b=true->P
 f:b=false->N
theorem Ok.get{l:List α}{i:Nat}{f:α->Option β}{Q:β->Prop}(h:i<l.length)(h2:∀a,l[i]?=some a->Ok (f a) Q):Ok ((dt l i).bind f) Q:=by
 have e:dt l i=some l[i]:=oGE h
 simp_all
theorem Ok.nat{x:Int}{f:Nat->Option β}{Q:β->Prop}(h:0<=x)(h2:∀n:Nat,x=n->Ok (f n) Q):Ok ((eo x).bind f) Q:=by
 obtain⟨n,rfl⟩:∃n:Nat,x=n:=⟨x.toNat,by omega⟩;exact h2 n rfl
theorem Ok.val{v:α}{f:α->Option β}{Q:β->Prop}(h:∀x,x=v->Ok (f x) Q):Ok (f v) Q:=h v rfl
theorem Kn{c:Bool}{a b:Option α}{Q:α->Prop}(hc:c=true)(h1:Ok a Q):Ok (bif c then a else b) Q:=by simp_all
theorem t6{S T:Type}{f:S->Option (S⊕T)}(P:S->Prop)(R:T->Prop)(m:S->Nat){n:Nat}{s:S}(hs:P s)(hm:m s<n)
 (h:∀s,P s->Ok (f s) λr=>match r with|.inl s'=>P s'/\m s'<m s|.inr t=>R t):Ok (cr f n s) R:=by
 induction n generalizing s with
 |zero=>omega
 |succ n ih=>
  have ⟨r,e,hr⟩:=h s hs
  cases r with
  |inl s'=>
   have ⟨t,e2,hq⟩:=ih hr.1 (by omega);exact⟨t,by simp[cr,e];exact e2,hq⟩
  |inr t=>exact⟨t,by simp[cr,e],hr⟩
theorem Ok.loop{S T:Type}{f:S->Option (S⊕T)}{g:T->Option β}{Q:β->Prop}(P:S->Prop)(R:T->Prop)(m:S->Nat){n:Nat}{s:S}(hs:P s)(hm:m s<n)
 (h:∀s,P s->Ok (f s) λr=>match r with|.inl s'=>P s'/\m s'<m s|.inr t=>R t)(hg:∀t,R t->Ok (g t) Q):Ok ((cr f n s).bind g) Q:=(t6 P R m hs hm h).bind hg
end
theorem cZ{x:Int}(h1:-9223372036854775808<=x)(h2:x<=9223372036854775807):w64 x=x:=wrap_i64 h1 h2
theorem cM(n:Nat):eo (n:Int)=some n:=rfl
theorem fm{S T:Type}{f:S->Option (S⊕T)}(st:Nat->S){n N:Nat}{fin:T}(hn:n<N)(h:∀i,i<n->f (st i)=some (.inl (st (i+1))))(he:f (st n)=some (.inr fin)):cr f N (st 0)=some fin:=by
 have ZR:∀k i,i+k=n->k<N->∀M,k<M->cr f M (st i)=some fin:=by
  intro k
  induction k with
  |zero=>
   intro i hi _ M hM;obtain⟨M,rfl⟩:∃m,M=m+1:=⟨M-1,by omega⟩
   have:i=n:=by omega
   subst this;simp[cr,he]
  |succ k ih=>
   intro i hi hk M hM;obtain⟨M,rfl⟩:∃m,M=m+1:=⟨M-1,by omega⟩;simp only[cr,h i (by omega),oBS];exact ih (i+1) (by omega) (by omega) M (by omega)
 exact ZR n 0 (by omega) hn N hn
theorem oi{S T:Type}{f:S->Option (S⊕T)}(st:Nat->S)(p:Nat->Prop){n N:Nat}{bad:Nat->T}{fin:T}(hn:n<N)
 (h:∀i,i<n->(p i/\f (st i)=some (.inl (st (i+1))))\/(¬p i/\f (st i)=some (.inr (bad i))))(he:f (st n)=some (.inr fin)):
 ((∀i,i<n->p i)/\cr f N (st 0)=some fin)\/∃k,k<n/\(∀i,i<k->p i)/\¬p k/\cr f N (st 0)=some (bad k):=by
 have ZR:∀k i,i+k=n->(∀j,j<i->p j)->∀M,k<M->((∀i,i<n->p i)/\cr f M (st i)=some fin)\/∃k,k<n/\(∀i,i<k->p i)/\¬p k/\cr f M (st i)=some (bad k):=by
  intro k
  induction k with
  |zero=>
   intro i hi hp M hM;obtain⟨M,rfl⟩:∃m,M=m+1:=⟨M-1,by omega⟩
   have:i=n:=by omega
   subst this;exact .inl ⟨hp,by simp[cr,he]⟩
  |succ k ih=>
   intro i hi hp M hM;obtain⟨M,rfl⟩:∃m,M=m+1:=⟨M-1,by omega⟩
   rcases h i (by omega)with⟨h1,e⟩|⟨h1,e⟩
   ·simp only[cr,e,oBS]
    exact ih (i+1) (by omega) (λj hj=>by
     by_cases e:j=i
     ·subst e;exact h1
     ·exact hp j (by omega)) M (by omega)
   ·exact .inr ⟨i,by omega,hp,h1,by simp[cr,e]⟩
 exact ZR n 0 (by omega) (λj hj=>by omega) N hn
abbrev Sm{α:Type}(l:List α):Prop:=l.length<=1099511627776
theorem qt{n:Nat}(h:n<=1099511627776):n<NN:=by unfold NN;omega
theorem du{α:Type}{l:List α}{i:Nat}(h:i<l.length):dt l i=some l[i]:=oGE h
theorem nR{α:Type}{l:List α}{i:Nat}(h:i<l.length):l.take i++[l[i]]=l.take (i+1):=(List.take_append_getElem h)
theorem df{sz n m:Nat}(h1:n<=1099511627776)(h2:m<=1099511627776)(h3:sz<=128)(h4:n+m<=1099511627776):dg sz n m=true:=by
 unfold dg;have:(n+m)*sz<=1099511627776*128:=Nat.mul_le_mul h4 h3;simp only[oBA,oDE];exact⟨h4,by omega⟩
theorem F4{a:List PID}(h:Sm a):d5 a=some (jv a,()):=oIP h
theorem JK{a b:List PID}(h:a.length+b.length<=1099511627776):eX a b=some (jv (a++b),()):=by
 unfold eX dW
 have e:List.flatten [a,b]=a++b:=by simp
 dsimp only;rw[e,oIP ⟨by rw[List.length_append];exact h,by simp⟩,oBS];dsimp only;rw[F4 (show Sm (a++b) by unfold Sm;rw[List.length_append];exact h)];rfl
set_option maxRecDepth 100000 in
theorem FH:iU=some (true,()):=by kernel_rfl
theorem lO{α S T:Type}[DecidableEq α]{a b:List α}(hl:a.length=b.length)(hs:Sm a){f:S->Option (S⊕T)}(st:Nat->S){bad fin:T}
 (step:∀i (h:i<a.length)(h':i<b.length),f (st i)=bif decide (a[i]=b[i])then some (.inl (st (i+1)))else some (.inr bad))(he:f (st a.length)=some (.inr fin)):
 cr f NN (st 0)=some (bif decide (a=b)then fin else bad):=by
 rcases oi (f:=f) st (λi=>a[i]?=b[i]?) (bad:=λ_=>bad) (qt hs) (λi hi=>by
  rw[step i hi (hl▸hi),oGE hi,oGE (hl▸hi)];by_cases e:a[i]=b[i]'(hl▸hi)
  ·exact .inl ⟨by rw[e],by rw[oDT e];rfl⟩
  ·exact .inr ⟨λh=>e (by injection h),by rw[oDF e];rfl⟩) he with⟨h1,h2⟩|⟨k,hk,_,h1,h2⟩
 ·rw[h2,oDT (p:=a=b)]
  ·rfl
  ·exact List.ext_getElem? λi=>by
    by_cases hi:i<a.length
    ·exact h1 i hi
    ·rw[oGN (by omega),oGN (by omega)]
 ·rw[h2,oDF λe=>h1 (by rw[e])];rfl
theorem uu{α:Type}{a b:List α}(h:a.length=b.length):((a.length:Int) != (b.length:Int))=false:=by simp;omega
theorem rF{α:Type}{a b:List α}(h:¬a.length=b.length):((a.length:Int) != (b.length:Int))=true:=by simp;omega
theorem KP(x y:Int):(x != y)=!decide (x=y):=by
 by_cases h:x=y
 ·subst h;simp
 ·rw[oDF h,bne_iff_ne.2 h];rfl
theorem oG{α:Type}(b:Bool)(x y:α):(bif !b then x else y)=bif b then y else x:=by cases b<;>rfl
theorem IE(x y:DCn):(!((x.1==y.1)&&((x.2.1==y.2.1)&&((x.2.2.1==y.2.2.1)&&((x.2.2.2==y.2.2.2)&&true)))))=!decide (x=y):=by
 congr 1;rw[Bool.and_true,Bool.eq_iff_iff];simp[Prod.ext_iff]
theorem K6{a b:List Int}(ha:Sm a):fi a b=some (decide (a=b),()):=by
 unfold fi;delta cf;dsimp only;by_cases hl:a.length=b.length
 rotate_left
 ·rw[rF hl,oCT,oDF λe=>hl (by rw[e])]
 rw[uu hl,oCF];have h0:=ha
 have:=lO (f:=dE) hl ha (λi=>(a,b,(a.length:Int),(i:Int),())) (bad:=.inl (false,())) (fin:=.inr (a,b,(a.length:Int),(a.length:Int),false,()))
  (λi h h'=>by
   unfold dE;dsimp only;rw[oDT (show(i:Int)<a.length by omega),oCT,cM];simp only[oBS,du h,du h',KP,oG];rw[cZ (by omega) (by omega)]
   rfl)
  (by
   unfold dE;dsimp only;rw[oDF (show ¬(a.length:Int)<a.length by omega)]
   rfl)
 rw[show cr dE NN (a,b,(a.length:Int),0,())=_ from this];by_cases e:a=b
 ·rw[oDT e];rfl
 ·rw[oDF e];rfl
theorem Bo{a b:List DCn}(ha:Sm a):dK a b=some (decide (a=b),()):=by
 unfold dK;delta cf;dsimp only;by_cases hl:a.length=b.length
 rotate_left
 ·rw[rF hl,oCT,oDF λe=>hl (by rw[e])]
 rw[uu hl,oCF];have h0:=ha
 have:=lO (f:=dh) hl ha (λi=>(a,b,(a.length:Int),(i:Int),())) (bad:=.inl (false,())) (fin:=.inr (a,b,(a.length:Int),(a.length:Int),false,()))
  (λi h h'=>by
   unfold dh;dsimp only;rw[oDT (show(i:Int)<a.length by omega),oCT,cM];simp only[oBS,du h,du h',IE,oG];rw[cZ (by omega) (by omega)]
   rfl)
  (by
   unfold dh;dsimp only;rw[oDF (show ¬(a.length:Int)<a.length by omega)]
   rfl)
 rw[show cr dh NN (a,b,(a.length:Int),0,())=_ from this];by_cases e:a=b
 ·rw[oDT e];rfl
 ·rw[oDF e];rfl
theorem uk{a b:List DCn}(ha:Sm a):dP a b=some (decide (a=b),()):=by
 unfold dP;delta cf;dsimp only;by_cases hl:a.length=b.length
 rotate_left
 ·rw[rF hl,oCT,oDF λe=>hl (by rw[e])]
 rw[uu hl,oCF];have h0:=ha
 have:=lO (f:=dL) hl ha (λi=>(a,b,(i:Int),())) (bad:=.inl (false,())) (fin:=.inr (a,b,(a.length:Int),false,()))
  (λi h h'=>by
   unfold dL;delta cf;dsimp only;rw[oDT (show(i:Int)<a.length by omega),oCT,cM];simp only[oBS,du h,du h',IE,oG];rw[cZ (by omega) (by omega)]
   rfl)
  (by
   unfold dL;delta cf;dsimp only;rw[oDF (show ¬(a.length:Int)<a.length by omega)]
   rfl)
 rw[show cr dL NN (a,b,0,())=_ from this];by_cases e:a=b
 ·rw[oDT e];rfl
 ·rw[oDF e];rfl
abbrev PG:=Int×Int×List DCn×DTs
instance Mm:DecidableEq DCn:=inferInstance
instance Ms:DecidableEq (Int×Int×Int×List DCn):=inferInstance
instance Mj:DecidableEq DTs:=inferInstanceAs (DecidableEq (Int×Int×Int×Int×(Int×Int×Int×List DCn)))
instance Ml:DecidableEq PG:=inferInstanceAs (DecidableEq (Int×Int×List DCn×DTs))
theorem yl{x y:Int}{p:Prop}[Decidable p]:(bif(x==y)then(some (decide p,()))else some (false,()):Option (Bool×Unit))=some (decide (x=y/\p),()):=by
 by_cases h:x=y
 ·subst h;simp
 ·rw[oBF h,oDF (p:=x=y/\p) λe=>h e.1];rfl
theorem C4{p q:Prop}[Decidable p][Decidable q]:((some (decide p,())).bind λ(x0,_)=>bif x0 then some (decide q,())else some (false,()):Option (Bool×Unit))=some (decide (p/\q),()):=by
 by_cases h:p<;>by_cases h':q<;>simp[h,h']
theorem C0{x y z w:Int}{p:Prop}[Decidable p]:(bif((x==y)&&((z==w)&&true))then(some (decide p,()))else some (false,()):Option (Bool×Unit))=some (decide (x=y/\z=w/\p),()):=by
 by_cases h:x=y
 ·subst h;by_cases h:z=w
  ·subst h;simp
  ·rw[oBF h,oDF (p:=x=x/\z=w/\p) λe=>h e.2.1];simp
 ·rw[oBF h,oDF (p:=x=y/\z=w/\p) λe=>h e.1];rfl
theorem ym{o:Option (Bool×Unit)}:(o.bind λ(x0,_)=>some (x0,()))=o:=by
 cases o with
 |none=>rfl
 |some x=>obtain⟨x,⟨⟩⟩:=x;rfl
theorem JW{x y:PG}(hx:Sm x.2.2.1)(hy:Sm x.2.2.2.2.2.2.2.2.2.2):
 iT x.1 x.2.1 x.2.2.1 x.2.2.2.1 x.2.2.2.2.1 x.2.2.2.2.2.1 x.2.2.2.2.2.2.1 x.2.2.2.2.2.2.2.1 x.2.2.2.2.2.2.2.2.1 x.2.2.2.2.2.2.2.2.2.1 x.2.2.2.2.2.2.2.2.2.2 y.1 y.2.1 y.2.2.1 y.2.2.2.1 y.2.2.2.2.1 y.2.2.2.2.2.1 y.2.2.2.2.2.2.1 y.2.2.2.2.2.2.2.1 y.2.2.2.2.2.2.2.2.1 y.2.2.2.2.2.2.2.2.2.1 y.2.2.2.2.2.2.2.2.2.2=some (decide (x=y),()):=by
 unfold iT;simp only[Bo hx,Bo hy,ym,yl,C4,C0];congr 2;rw[decide_eq_decide];simp only[Prod.ext_iff,and_assoc]
theorem Eb{x y:DTs}(hx:Sm x.2.2.2.2.2.2.2):
 eS x.1 x.2.1 x.2.2.1 x.2.2.2.1 x.2.2.2.2.1 x.2.2.2.2.2.1 x.2.2.2.2.2.2.1 x.2.2.2.2.2.2.2 y.1 y.2.1 y.2.2.1 y.2.2.2.1 y.2.2.2.2.1 y.2.2.2.2.2.1 y.2.2.2.2.2.2.1 y.2.2.2.2.2.2.2=some (decide (x=y),()):=by
 unfold eS;simp only[uk hx,ym,yl];congr 2;rw[decide_eq_decide];simp only[Prod.ext_iff,and_assoc]
abbrev CC:=List (List DCn)
abbrev TT':=List DTs
def szs(C:CC):List Int:=C.map λc=>(c.length:Int)
theorem fE(C:CC):(szs C).length=C.length:=List.length_map _
theorem jB{α β:Type}{f:α->β}{l:List α}{i:Nat}(h:i<l.length):(l.take i).map f++[f l[i]]=(l.take (i+1)).map f:=by
 rw[<- nR h,List.map_append];rfl
theorem yJ{C:CC}{T:TT'}(h:Sm C):fJ C T=some (szs C,()):=by
 unfold fJ;delta cf;dsimp only;have h0:=h
 have step:∀i,i<C.length->dJ (C,(C.length:Int),(i:Int),C,T,szs (C.take i),())=some (.inl (C,(C.length:Int),((i+1:Nat):Int),C,T,szs (C.take (i+1)),())):=by
  intro i hi;unfold dJ;delta cf;dsimp only;rw[oDT (show(i:Int)<C.length by omega),oCT,cM];simp only[oBS,du hi];rw[df (by rw[fE,oLT];omega) (by simp) (by omega) (by rw[fE,oLT,List.length_singleton];omega),oCT,cZ (by omega) (by omega)];have:List.append (szs (C.take i)) [((C[i].length:Nat):Int)]=szs (C.take (i+1)):=jB (f:=λc:List DCn=>(c.length:Int)) hi;rw[this];rfl
 have fin:dJ (C,(C.length:Int),(C.length:Int),C,T,szs (C.take C.length),())=some (.inr (C,(C.length:Int),(C.length:Int),false,C,T,szs (C.take C.length),())):=by
  unfold dJ;dsimp only;rw[oDF (show ¬(C.length:Int)<C.length by omega)];rfl
 have:=fm (f:=dJ) (λi=>(C,(C.length:Int),(i:Int),C,T,szs (C.take i),())) (qt h) step fin;rw[show cr dJ NN (C,(C.length:Int),0,C,T,[],())=_ from this,List.take_length,oBS]
theorem I0{C:CC}{T:TT'}(h:Sm C):fI C T=some (szs C,()):=by
 unfold fI;have h0:=h
 have step:∀i,i<C.length->dI ((i:Int),C,T,szs (C.take i),())=some (.inl (((i+1:Nat):Int),C,T,szs (C.take (i+1)),())):=by
  intro i hi;unfold dI;delta cf;dsimp only;rw[oDT (show(i:Int)<C.length by omega),oCT,cM];simp only[oBS,du hi];rw[df (by rw[fE,oLT];omega) (by simp) (by omega) (by rw[fE,oLT,List.length_singleton];omega),oCT,cZ (by omega) (by omega)];have:List.append (szs (C.take i)) [((C[i].length:Nat):Int)]=szs (C.take (i+1)):=jB (f:=λc:List DCn=>(c.length:Int)) hi;rw[this];rfl
 have fin:dI ((C.length:Int),C,T,szs (C.take C.length),())=some (.inr ((C.length:Int),false,C,T,szs (C.take C.length),())):=by
  unfold dI;delta cf;dsimp only;rw[oDF (show ¬(C.length:Int)<C.length by omega)];rfl
 have:=fm (f:=dI) (λi=>((i:Int),C,T,szs (C.take i),())) (qt h) step fin;rw[show cr dI NN (0,C,T,[],())=_ from this,List.take_length,oBS]
def okZ(z:Int):Bool:=decide (1<=z/\z<=32)
theorem Du(z:Int):gw z=some (okZ z,()):=by
 unfold gw okZ;by_cases h:z>=1
 ·rw[oDT h,oCT];congr 2;rw[decide_eq_decide];omega
 ·rw[oDF h,oCF,oDF (by omega)]
def shp(C:CC)(T:TT'):Prop:=C.length<=4/\T.length<=4/\∀c∈C,okZ (c.length:Int)=true
instance {C:CC} {T:TT'}:Decidable (shp C T):=inferInstanceAs (Decidable (_/\_/\_))
theorem BD{α:Type}{p:α->Bool}{l:List α}(h:∀i,(hi:i<l.length)->p l[i]=true):∀x∈l,p x=true:=by
 intro x hx;obtain⟨i,hi,rfl⟩:=List.mem_iff_getElem.1 hx;exact h i hi
theorem CN{C:CC}(h:Sm C):dl C=some (!decide (∀c∈C,okZ (c.length:Int)=true),()):=by
 unfold dl eD;delta cf;dsimp only;have h0:=h
 have step:∀i,i<C.length->((∀hi:i<C.length,okZ (C[i].length:Int)=true)/\cn (C,(C.length:Int),(i:Int),())=some (.inl (C,(C.length:Int),((i+1:Nat):Int),())))\/
  (¬(∀hi:i<C.length,okZ (C[i].length:Int)=true)/\cn (C,(C.length:Int),(i:Int),())=some (.inr (.inl ((i:Int),())))):=by
  intro i hi;unfold cn;dsimp only;rw[oDT (show(i:Int)<C.length by omega),oCT,cM]
  have e:gh C[i]=some (!okZ (C[i].length:Int),()):=by
   unfold gh;delta cf;dsimp only;rw[Du];rfl
  simp only[oBS,du hi,e];rw[cZ (by omega) (by omega)];by_cases q:okZ (C[i].length:Int)=true
  ·exact .inl ⟨λ_=>q,by rw[q];rfl⟩
  ·exact .inr ⟨λg=>q (g hi),by rw[Bool.not_eq_true]at q;rw[q];rfl⟩
 have fin:cn (C,(C.length:Int),(C.length:Int),())=some (.inr (.inr (C,(C.length:Int),(C.length:Int),false,()))):=by
  unfold cn;dsimp only;rw[oDF (show ¬(C.length:Int)<C.length by omega)];rfl
 rcases oi (f:=cn) (λi=>(C,(C.length:Int),(i:Int),())) _ (qt h) step fin with⟨h1,h2⟩|⟨k,hk,_,h1,h2⟩
 ·rw[show cr cn NN (C,(C.length:Int),0,())=_ from h2];rw[oDT (BD (p:=λc:List DCn=>okZ (c.length:Int)) λi hi=>h1 i hi hi)];rfl
 ·rw[show cr cn NN (C,(C.length:Int),0,())=_ from h2];rw[oDF (λg=>h1 λhi=>g _ (List.getElem_mem hi))];simp only[oBS];rw[oDT (show(k:Int)>=0 by omega)];rfl
theorem AM{C:CC}{T:TT'}(h:Sm C):fW C T=some (decide (shp C T),()):=by
 unfold fW;delta cf;dsimp only;by_cases h1:C.length<=4
 ·rw[oDT (show(C.length:Int)<=4 by omega),oCT];by_cases h2:T.length<=4
  ·rw[oDT (show(T.length:Int)<=4 by omega),oCT,CN h];simp only[oBS,Bool.not_not];congr 2;rw[decide_eq_decide];exact⟨λg=>⟨h1,h2,g⟩,λg=>g.2.2⟩
  ·rw[oDF (show ¬(T.length:Int)<=4 by omega),oCF,oDF λg=>h2 g.2.1]
 ·rw[oDF (show ¬(C.length:Int)<=4 by omega),oCF,oDF λg=>h1 g.1]
theorem CM{S:List Int}(h:Sm S)(hok:∀z∈S,okZ z=true):dC S=some (false,()):=by
 unfold dC fb;delta cf;dsimp only;have h0:=h
 have step:∀i,i<S.length->cE (S,(S.length:Int),(i:Int),())=some (.inl (S,(S.length:Int),((i+1:Nat):Int),())):=by
  intro i hi;unfold cE;dsimp only;rw[oDT (show(i:Int)<S.length by omega),oCT,cM]
  have e:ij S[i]=some (false,()):=by
   unfold ij;rw[Du,hok _ (List.getElem_mem hi)];rfl
  simp only[oBS,du hi,e];rw[cZ (by omega) (by omega)];rfl
 have fin:cE (S,(S.length:Int),(S.length:Int),())=some (.inr (.inr (S,(S.length:Int),(S.length:Int),false,()))):=by
  unfold cE;dsimp only;rw[oDF (show ¬(S.length:Int)<S.length by omega)];rfl
 have:=fm (f:=cE) (λi=>(S,(S.length:Int),(i:Int),())) (qt h) step fin;rw[show cr cE NN (S,(S.length:Int),0,())=_ from this];rfl
theorem JY{S:List Int}{n:Nat}(h:Sm S):∃e:Int,iR S n=some (e,())/\(e=0↔S.length<=4/\n<=4/\∀z∈S,okZ z=true):=by
 unfold iR;delta cf;dsimp only;by_cases h1:S.length<=4
 rotate_left
 ·rw[oDT (show(S.length:Int)>4 by omega),oCT];exact⟨3,rfl,λg=>absurd g (by decide),λg=>absurd g.1 h1⟩
 rw[oDF (show ¬(S.length:Int)>4 by omega),oCF];by_cases h2:n<=4
 rotate_left
 ·rw[oDT (show(n:Int)>4 by omega),oCT];exact⟨3,rfl,λg=>absurd g (by decide),λg=>absurd g.2.1 h2⟩
 rw[oDF (show ¬(n:Int)>4 by omega),oCF];have h0:=h
 have step:∀i,i<S.length->((∀hi:i<S.length,okZ S[i]=true)/\de (S,(n:Int),(i:Int),())=some (.inl (S,(n:Int),((i+1:Nat):Int),())))\/
  (¬(∀hi:i<S.length,okZ S[i]=true)/\de (S,(n:Int),(i:Int),())=some (.inr (.inl (1,())))):=by
  intro i hi;unfold de;delta cf;dsimp only;rw[oDT (show(i:Int)<S.length by omega),oCT,cM];simp only[oBS,du hi];rw[cZ (by omega) (by omega)];by_cases q1:S[i]<1
  ·rw[oDT q1];exact .inr ⟨λg=>by have:=of_decide_eq_true (g hi);omega,rfl⟩
  ·rw[oDF q1,oCF];by_cases q2:S[i]>32
   ·rw[oDT q2];exact .inr ⟨λg=>by have:=of_decide_eq_true (g hi);omega,rfl⟩
   ·rw[oDF q2,oCF];exact .inl ⟨λ_=>oDT (by omega),rfl⟩
 have fin:de (S,(n:Int),(S.length:Int),())=some (.inr (.inr (S,(n:Int),(S.length:Int),false,()))):=by
  unfold de;delta cf;dsimp only;rw[oDF (show ¬(S.length:Int)<S.length by omega)];rfl
 rcases oi (f:=de) (λi=>(S,(n:Int),(i:Int),())) _ (qt h) step fin with⟨g1,g2⟩|⟨k,hk,_,g1,g2⟩
 ·rw[show cr de NN (S,(n:Int),0,())=_ from g2];dsimp only;rw[oDF (show ¬(n:Int)<0 by omega)];exact⟨0,rfl,λ_=>⟨h1,h2,BD λi hi=>g1 i hi hi⟩,λ_=>rfl⟩
 ·rw[show cr de NN (S,(n:Int),0,())=_ from g2];exact⟨1,rfl,λg=>absurd g (by decide),λg=>absurd (λhi=>g.2.2 _ (List.getElem_mem hi)) g1⟩
theorem uX{C:CC}{T:TT'}:((szs C).length<=4/\T.length<=4/\∀z∈szs C,okZ z=true)↔shp C T:=by
 unfold shp szs;rw[List.length_map];simp
theorem Gt{C:CC}{T:TT'}(h:Sm C):fV C T=some (decide (shp C T),()):=by
 unfold fV;rw[I0 h];obtain⟨e,h1,h2⟩:=JY (S:=szs C) (n:=T.length) (show Sm (szs C) by unfold Sm;rw[fE];exact h);rw[uX]at h2;delta cf;simp only[oBS,h1];congr 2;rw[Bool.eq_iff_iff,beq_iff_eq,decide_eq_true_iff];exact h2
def uG(z:Int):Nat:=((z+7)/8).toNat
def um(S:List Int)(i:Nat):List PID:=(List.range (uG (S.getD i 0))).map λ(j:Nat)=>((i:Int),(j:Int))
def pgs(S:List Int)(n:Nat):List PID:=(List.range S.length).flatMap (um S)++(List.range n).map λ(t:Nat)=>(-1,(t:Int))
def Szs(S:List Int):Prop:=S.length<=4/\∀z∈S,okZ z=true
theorem Il{S:List Int}(h:Szs S){i:Nat}(hi:i<S.length):1<=S[i]/\S[i]<=32:=of_decide_eq_true (h.2 _ (List.getElem_mem hi))
theorem Ft{S:List Int}(h:Szs S){i:Nat}(hi:i<S.length):uG (S.getD i 0)<=4:=by
 have:=Il h hi
 have e:S.getD i 0=S[i]:=by simp[hi]
 rw[e];unfold uG;omega
theorem vb{S:List Int}(h:Szs S):∀i,i<=S.length->((List.range i).flatMap (um S)).length<=4*i:=by
 intro i
 induction i with
 |zero=>intro _;simp
 |succ i ih=>
  intro hi;rw[List.range_succ,List.flatMap_append,List.length_append];have h1:=ih (by omega)
  have h2:(um S i).length=uG (S.getD i 0):=by unfold um;simp
  have h3:=Ft h (i:=i) (by omega);simp only[List.flatMap_cons,List.flatMap_nil,List.append_nil];omega
theorem Fi{S:List Int}(i:Nat):(List.range (i+1)).flatMap (um S)=(List.range i).flatMap (um S)++um S i:=by
 rw[List.range_succ,List.flatMap_append];simp
theorem up{α:Type}(f:Nat->α)(j:Nat):(List.range (j+1)).map f=(List.range j).map f++[f j]:=by
 rw[List.range_succ,List.map_append];rfl
theorem Iv{z:Int}(h:1<=z/\z<=32)(j:Nat):((j:Int)*8<z)↔j<uG z:=by
 unfold uG;omega
theorem KR{S:List Int}{n:Nat}(h:Szs S)(hn:n<=4):jC S n=some (pgs S n,0,()):=by
 unfold jC;delta cf;dsimp only;have h4:=h.1;rw[oDF (show ¬(S.length:Int)>4 by omega),oCF,oDF (show ¬(n:Int)>4 by omega),oCF,oDF (show ¬(n:Int)<0 by omega),oCF];rw[CM (by unfold Sm;omega) h.2,oBS];simp only[oCF]
 have SI:∀i,i<S.length->dS ((n:Int),S,(S.length:Int),(i:Int),(List.range i).flatMap (um S),())=some (.inl ((n:Int),S,(S.length:Int),((i+1:Nat):Int),(List.range (i+1)).flatMap (um S),())):=by
  intro i hi;have hz:=Il h hi;have hl:=vb h i (by omega);have hc:=Ft h hi
  have eg:S.getD i 0=S[i]:=by simp[hi]
  unfold dS;dsimp only;rw[oDT (show(i:Int)<S.length by omega),oCT,cM];simp only[oBS,du hi]
  let A:=(List.range i).flatMap (um S)
  let st:Nat->_:=λj=>((n:Int),(i:Int),S[i],(j:Int),S,(S.length:Int),(i:Int),A++(List.range j).map (λ(j:Nat)=>(((i:Int),(j:Int)):PID)),())
  have SH:∀j,j<uG S[i]->dG (st j)=some (.inl (st (j+1))):=by
   intro j hj;show dG ((n:Int),(i:Int),S[i],(j:Int),S,(S.length:Int),(i:Int),A++(List.range j).map (λ(j:Nat)=>(((i:Int),(j:Int)):PID)),())=_;unfold dG;dsimp only;rw[eg]at hc;rw[cZ (x:=(j:Int)*8) (by omega) (by omega),oDT ((Iv hz j).2 hj),oCT];have hA:A.length<=4*i:=hl;rw[df (by rw[List.length_append,List.length_map,List.length_range];omega) (by simp) (by omega) (by rw[List.length_append,List.length_map,List.length_range,List.length_singleton];omega),oCT,cZ (by omega) (by omega)]
   have e:List.append (A++(List.range j).map (λ(j:Nat)=>(((i:Int),(j:Int)):PID))) [((i:Int),(j:Int))]=A++(List.range (j+1)).map (λ(j:Nat)=>(((i:Int),(j:Int)):PID)):=by
    rw[up,<- List.append_assoc];rfl
   rw[e];rfl
  have OA:dG (st (uG S[i]))=some (.inr ((n:Int),(i:Int),S[i],(uG S[i]:Int),S,(S.length:Int),(i:Int),false,A++(List.range (uG S[i])).map (λ(j:Nat)=>(((i:Int),(j:Int)):PID)),())):=by
   show dG ((n:Int),(i:Int),S[i],(uG S[i]:Int),S,(S.length:Int),(i:Int),A++(List.range (uG S[i])).map (λ(j:Nat)=>(((i:Int),(j:Int)):PID)),())=_;unfold dG;dsimp only;rw[eg]at hc;rw[cZ (x:=(uG S[i]:Int)*8) (by omega) (by omega),oDF (λg=>by have:=(Iv hz _).1 g;omega)];rfl
  have hI:=fm (f:=dG) st (n:=uG S[i]) (N:=NN) (by rw[eg]at hc;unfold NN;omega) SH OA
  have e0:st 0=((n:Int),(i:Int),S[i],0,S,(S.length:Int),(i:Int),(List.range i).flatMap (um S),()):=by
   show((n:Int),(i:Int),S[i],(0:Int),S,(S.length:Int),(i:Int),A++[],())=_;rw[List.append_nil]
  rw[<- e0,hI];simp only[oBS];rw[cZ (by omega) (by omega),Fi]
  have er:(List.range (uG S[i])).map (λ(j:Nat)=>(((i:Int),(j:Int)):PID))=um S i:=by unfold um;rw[eg]
  rw[er];rfl
 have OB:dS ((n:Int),S,(S.length:Int),(S.length:Int),(List.range S.length).flatMap (um S),())=some (.inr ((n:Int),S,(S.length:Int),(S.length:Int),false,(List.range S.length).flatMap (um S),())):=by
  unfold dS;dsimp only;rw[oDF (show ¬(S.length:Int)<S.length by omega)];rfl
 have hO:=fm (f:=dS) (λi=>((n:Int),S,(S.length:Int),(i:Int),(List.range i).flatMap (um S),())) (n:=S.length) (N:=NN) (by unfold NN;omega) SI OB;rw[show cr dS NN ((n:Int),S,(S.length:Int),0,[],())=_ from hO];simp only[oBS];have hl:=vb h S.length (Nat.le_refl _)
 let B:=(List.range S.length).flatMap (um S)
 have hB:B.length<=4*S.length:=hl
 let st:Nat->_:=λt=>((n:Int),(t:Int),B++(List.range t).map (λ(t:Nat)=>((-1,(t:Int)):PID)),())
 have stepT:∀t,t<n->dF (st t)=some (.inl (st (t+1))):=by
  intro t ht;show dF ((n:Int),(t:Int),B++(List.range t).map (λ(t:Nat)=>((-1,(t:Int)):PID)),())=_;unfold dF;dsimp only;rw[oDT (show(t:Int)<n by omega),oCT];rw[df (by rw[List.length_append,List.length_map,List.length_range];omega) (by simp) (by omega) (by rw[List.length_append,List.length_map,List.length_range,List.length_singleton];omega),oCT,cZ (by omega) (by omega)]
  have e:List.append (B++(List.range t).map (λ(t:Nat)=>((-1,(t:Int)):PID))) [(-1,(t:Int))]=B++(List.range (t+1)).map (λ(t:Nat)=>((-1,(t:Int)):PID)):=by
   rw[up,<- List.append_assoc];rfl
  rw[e];rfl
 have OC:dF (st n)=some (.inr ((n:Int),(n:Int),false,B++(List.range n).map (λ(t:Nat)=>((-1,(t:Int)):PID)),())):=by
  show dF ((n:Int),(n:Int),B++(List.range n).map (λ(t:Nat)=>((-1,(t:Int)):PID)),())=_;unfold dF;dsimp only;rw[oDF (show ¬(n:Int)<n by omega)];rfl
 have hT:=fm (f:=dF) st (n:=n) (N:=NN) (by unfold NN;omega) stepT OC
 have e0:st 0=((n:Int),0,B,()):=by
  show((n:Int),(0:Int),B++[],())=_;rw[List.append_nil]
 rw[e0]at hT;rw[hT];rfl
abbrev zTs:DTs:=(0,0,0,0,0,0,0,[])
def pg(C:CC)(T:TT')(p:PID):PG:=if p.1=-1 then(p.1,p.2,[],T.getD p.2.toNat zTs)else(p.1,p.2,((C.getD p.1.toNat []).drop (8*p.2.toNat)).take 8,zTs)
def SmT(T:TT'):Prop:=∀t∈T,Sm t.2.2.2.2.2.2.2
theorem vi{S:List Int}{i:Nat}{p:PID}:p∈um S i↔∃j:Nat,j<uG (S.getD i 0)/\p=((i:Int),(j:Int)):=by
 unfold um;simp only[List.mem_map,List.mem_range];exact⟨λ⟨j,h,e⟩=>⟨j,h,e.symm⟩,λ⟨j,h,e⟩=>⟨j,h,e.symm⟩⟩
theorem jV{S:List Int}{n:Nat}{p:PID}:p∈pgs S n↔(∃i j:Nat,i<S.length/\j<uG (S.getD i 0)/\p=((i:Int),(j:Int)))\/∃t:Nat,t<n/\p=(-1,(t:Int)):=by
 unfold pgs;simp only[List.mem_append,List.mem_flatMap,List.mem_range,vi,List.mem_map];constructor
 ·rintro(⟨i,hi,j,hj,e⟩|⟨t,ht,e⟩)
  ·exact .inl ⟨i,j,hi,hj,e⟩
  ·exact .inr ⟨t,ht,e.symm⟩
 ·rintro(⟨i,j,hi,hj,e⟩|⟨t,ht,e⟩)
  ·exact .inl ⟨i,hi,j,hj,e⟩
  ·exact .inr ⟨t,ht,e.symm⟩
theorem y9{S:List Int}{n:Nat}(h:Szs S)(hn:n<=4):(pgs S n).length<=20:=by
 have h1:=vb h S.length (Nat.le_refl _);have h2:=h.1;unfold pgs;rw[List.length_append,List.length_map,List.length_range];omega
theorem pO{C:CC}{T:TT'}(h:shp C T):Szs (szs C):=⟨by rw[fE];exact h.1,(uX.2 h).2.2⟩
theorem wi{a:List DCn}(h:Sm a):dp a=some (a,()):=by
 unfold dp;rw[df (by omega) h (by omega) (by have:=h;omega),oCT];rfl
theorem jD{C:CC}{i:Nat}(h:i<C.length):(szs C).getD i 0=(C[i].length:Int):=by simp[szs,h]
theorem Dl{l:List DCn}{a:Nat}(h:a<=l.length):Ie l a (Nat.sub (Nat.min (a+8) l.length) a)=(l.drop a).take 8:=by
 unfold Ie;rcases Nat.le_total (a+8) l.length with h1|h1
 ·rw[show Nat.min (a+8) l.length=a+8 from Nat.min_eq_left h1,show Nat.sub (a+8) a=8 by show a+8-a=8;omega]
 ·rw[show Nat.min (a+8) l.length=l.length from Nat.min_eq_right h1,show Nat.sub l.length a=(l.drop a).length by rw[List.length_drop];rfl,List.take_length,List.take_of_length_le (by rw[List.length_drop];omega)]
theorem zg(a b:Nat):mmR false (a:Int) (b:Int)=(Nat.min a b:Nat):=by
 unfold mmR;simp only[Bool.false_eq_true,if_false];show _=((min a b:Nat):Int);split<;>omega
theorem xi{c:List DCn}{j:Nat}(h:j<uG (c.length:Int)):8*j<c.length:=by
 unfold uG at h;omega
theorem mW{C:CC}{T:TT'}{i j:Nat}(hi:i<C.length):pg C T ((i:Int),(j:Int))=((i:Int),(j:Int),((C[i].drop (8*j)).take 8),zTs):=by
 unfold pg;rw[oIN (by simp)];simp[hi]
theorem fX{C:CC}{T:TT'}{t:Nat}(ht:t<T.length):pg C T (-1,(t:Int))=(-1,(t:Int),[],T[t]):=by
 unfold pg;rw[oIP rfl];simp[ht]
def K3(x:PG):Int×Int×List DCn×Int×Int×Int×Int×Int×Int×Int×List DCn×Unit:=(x.1,x.2.1,x.2.2.1,x.2.2.2.1,x.2.2.2.2.1,x.2.2.2.2.2.1,x.2.2.2.2.2.2.1,x.2.2.2.2.2.2.2.1,x.2.2.2.2.2.2.2.2.1,x.2.2.2.2.2.2.2.2.2.1,x.2.2.2.2.2.2.2.2.2.2,())
theorem K1{C:CC}{T:TT'}(h:shp C T)(hT:SmT T){p:PID}(hp:p∈pgs (szs C) T.length):g9 C T p.1 p.2=some (K3 (pg C T p)):=by
 unfold g9
 rcases jV.1 hp with⟨i,j,hi,hj,rfl⟩|⟨t,ht,rfl⟩
 ·rw[fE]at hi;rw[jD hi]at hj;have ZU:=xi hj;have hok:=of_decide_eq_true (h.2.2 _ (List.getElem_mem hi));rw[oBF (show((i:Int))≠-1 by omega),oCF,cM];simp only[oBS,du hi];unfold gj;delta cf;dsimp only;rw[oDF (show ¬(j:Int)<0 by omega),oCF,oDF (show ¬(j:Int)>32 by omega),oCF];simp only[oBS];rw[cZ (x:=(j:Int)*8) (by omega) (by omega),oDF (show ¬(j:Int)*8>=(C[i].length:Int) by omega),oCF,cZ (x:=(j:Int)*8+8) (by omega) (by omega)];rw[show(j:Int)*8=((8*j:Nat):Int) by omega,show((8*j:Nat):Int)+8=((8*j+8:Nat):Int) by omega,zg,cM,cM];simp only[oBS]
  have ho:lm (8*j) (Nat.min (8*j+8) C[i].length) C[i].length=true:=by
   unfold lm;have h1:Nat.min (8*j+8) C[i].length=min (8*j+8) C[i].length:=rfl;rw[h1];simp only[oBA,oDE];omega
  rw[ho,oCT,Dl (by omega)];simp only[oBS];rw[wi (by unfold Sm;rw[oLT];omega),mW hi];rfl
 ·have hs:Sm (T[t]'ht).2.2.2.2.2.2.2:=hT _ (List.getElem_mem ht);rw[show((-1:Int)==-1)=true from rfl,oCT,cM];simp only[oBS,du ht];unfold gz;rw[wi hs,fX ht];rfl
theorem Mg{C:CC}{T:TT'}(h:shp C T)(hT:SmT T){p:PID}(hp:p∈pgs (szs C) T.length):je C T p.1 p.2=some ((pg C T p).1,(pg C T p).2.1,(pg C T p).2.2.1,(pg C T p).2.2.2.1,(pg C T p).2.2.2.2.1,(pg C T p).2.2.2.2.2.1,(pg C T p).2.2.2.2.2.2.1,(pg C T p).2.2.2.2.2.2.2.1,(pg C T p).2.2.2.2.2.2.2.2.1,(pg C T p).2.2.2.2.2.2.2.2.2.1,(pg C T p).2.2.2.2.2.2.2.2.2.2,0,()):=by
 unfold je;have h4:=h.1;rw[Gt (by unfold Sm;omega),oBS];dsimp only;rw[oDT h];simp only[oNT,oCF]
 rcases jV.1 hp with⟨i,j,hi,hj,rfl⟩|⟨t,ht,rfl⟩
 ·rw[fE]at hi;rw[jD hi]at hj;have ZU:=xi hj;have hok:=of_decide_eq_true (h.2.2 _ (List.getElem_mem hi));rw[oBF (show((i:Int))≠-1 by omega),oCF];delta cf;dsimp only;rw[oDF (show ¬(i:Int)<0 by omega),oCF,oDF (show ¬(i:Int)>=C.length by omega),oCF,oDF (show ¬(j:Int)<0 by omega),oCF,oDF (show ¬(j:Int)>32 by omega),oCF];rw[cM];simp only[oBS,du hi];rw[cZ (x:=(j:Int)*8) (by omega) (by omega),oDF (show ¬(j:Int)*8>=(C[i].length:Int) by omega),oCF,cM];simp only[oBS,du hi];rw[cZ (x:=(j:Int)*8+8) (by omega) (by omega)];rw[show(j:Int)*8=((8*j:Nat):Int) by omega,show((8*j:Nat):Int)+8=((8*j+8:Nat):Int) by omega,zg,cM,cM];simp only[oBS]
  have ho:lm (8*j) (Nat.min (8*j+8) C[i].length) C[i].length=true:=by
   unfold lm;have h1:Nat.min (8*j+8) C[i].length=min (8*j+8) C[i].length:=rfl;rw[h1];simp only[oBA,oDE];omega
  rw[ho,oCT,Dl (by omega),df (by omega) (by rw[oLT];omega) (by omega) (by rw[oLT];omega),oCT,mW hi];rfl
 ·have hs:Sm (T[t]'ht).2.2.2.2.2.2.2:=hT _ (List.getElem_mem ht);rw[show((-1:Int)==-1)=true from rfl,oCT];delta cf;dsimp only;rw[oDF (show ¬(t:Int)<0 by omega),oCF,oDF (show ¬(t:Int)>=T.length by omega),oCF,cM];simp only[oBS,du ht];unfold ee;rw[df (by omega) hs (by omega) (by have:=hs;omega),oCT,fX ht];rfl
theorem Lj{C:CC}{T:TT'}(h:shp C T)(hT:SmT T):jf C T=some ((pgs (szs C) T.length).map (pg C T),0,()):=by
 unfold jf;have h4:=h.1
 have hS:Sm C:=by unfold Sm;omega
 rw[AM hS,oBS];dsimp only;rw[oDT h];simp only[oNT,oCF];rw[yJ hS,oBS];delta cf;dsimp only;rw[KR (pO h) h.2.1,oBS];dsimp only;have hlen:=y9 (pO h) h.2.1;have hg:∀p∈pgs (szs C) T.length,g9 C T p.1 p.2=some (K3 (pg C T p)):=λp hp=>K1 h hT hp;generalize pgs (szs C) T.length=ps at hlen hg⊢
 have step:∀i,i<ps.length->ef ((ps.length:Int),(i:Int),C,T,ps,(ps.take i).map (pg C T),())=some (.inl ((ps.length:Int),((i+1:Nat):Int),C,T,ps,(ps.take (i+1)).map (pg C T),())):=by
  intro i hi;unfold ef;dsimp only;rw[oDT (show(i:Int)<ps.length by omega),oCT,cM];simp only[oBS,du hi,hg _ (List.getElem_mem hi)];rw[df (by rw[List.length_map,oLT];omega) (by simp) (by omega) (by rw[List.length_map,oLT,List.length_singleton];omega),oCT,cZ (by omega) (by omega),<- jB hi];rfl
 have fin:ef ((ps.length:Int),(ps.length:Int),C,T,ps,(ps.take ps.length).map (pg C T),())=some (.inr ((ps.length:Int),(ps.length:Int),false,C,T,ps,(ps.take ps.length).map (pg C T),())):=by
  unfold ef;dsimp only;rw[oDF (show ¬(ps.length:Int)<ps.length by omega)];rfl
 have:=fm (f:=ef) (λi=>((ps.length:Int),(i:Int),C,T,ps,(ps.take i).map (pg C T),())) (n:=ps.length) (N:=NN) (by unfold NN;omega) step fin;rw[show cr ef NN ((ps.length:Int),0,C,T,ps,[],())=_ from this,List.take_length];rfl
def J8(C:CC)(T:TT')(D:CC)(U:TT'):Prop:=shp C T/\shp D U/\szs C=szs D/\T.length=U.length
def dif(C:CC)(T:TT')(D:CC)(U:TT'):List PID:=(pgs (szs C) T.length).filter λp=>!decide (pg C T p=pg D U p)
theorem yD{α:Type}{q:α->Bool}{l:List α}{i:Nat}(h:i<l.length):(l.take (i+1)).filter q=(l.take i).filter q++bif q l[i]then[l[i]]else[]:=by
 rw[<- nR h,List.filter_append];congr 1
theorem GI{C:CC}{T:TT'}(p:PID):((pg C T p).1,(pg C T p).2.1)=p:=by
 unfold pg;split<;>rfl
theorem IZ{C:CC}{T:TT'}(h:shp C T)(hT:SmT T){p:PID}(hp:p∈pgs (szs C) T.length):Sm (pg C T p).2.2.1/\Sm (pg C T p).2.2.2.2.2.2.2.2.2.2:=by
 rcases jV.1 hp with⟨i,j,hi,hj,rfl⟩|⟨t,ht,rfl⟩
 ·rw[fE]at hi;rw[mW hi];exact⟨by unfold Sm;rw[oLT];omega,by unfold Sm;simp⟩
 ·rw[fX ht];exact⟨by unfold Sm;simp,hT _ (List.getElem_mem ht)⟩
theorem zP{C:CC}{T:TT'}{D:CC}{U:TT'}(h:shp C T):(dif C T D U).length<=20:=Nat.le_trans (List.length_filter_le _ _) (y9 (pO h) h.2.1)
theorem FG{C:CC}{T:TT'}{D:CC}{U:TT'}(h:J8 C T D U)(hT:SmT T)(hU:SmT U):gx C T D U=some (dif C T D U,0,()):=by
 unfold gx;obtain⟨h1,h2,h3,h4⟩:=h;have k1:=h1.1;have k2:=h2.1
 have hC:Sm C:=by unfold Sm;omega
 have hD:Sm D:=by unfold Sm;omega
 rw[Lj h1 hT,oBS];dsimp only;rw[Lj h2 hU,oBS];dsimp only;simp only[bne_self_eq_false,oCF];rw[yJ hC,oBS];dsimp only;rw[yJ hD,oBS];dsimp only;rw[K6 (by unfold Sm;rw[fE];omega),oBS,oDT h3];delta cf;simp only[oNT,oCF,oBS];rw[uu h4,oCF,<- h3,<- h4];unfold dif;have hlen:=y9 (pO h1) h1.2.1;have hm:∀p∈pgs (szs C) T.length,Sm (pg C T p).2.2.1/\Sm (pg C T p).2.2.2.2.2.2.2.2.2.2:=λp hp=>IZ h1 hT hp;generalize pgs (szs C) T.length=ps at hlen hm⊢;rw[List.length_map]
 have step:∀i,i<ps.length->dm ((ps.length:Int),(i:Int),ps.map (pg C T),ps.map (pg D U),(ps.take i).filter (λp=>!decide (pg C T p=pg D U p)),())=
  some (.inl ((ps.length:Int),((i+1:Nat):Int),ps.map (pg C T),ps.map (pg D U),(ps.take (i+1)).filter (λp=>!decide (pg C T p=pg D U p)),())):=by
  intro i hi
  have TK:i<(ps.map (pg C T)).length:=by rw[List.length_map];exact hi
  have hi2:i<(ps.map (pg D U)).length:=by rw[List.length_map];exact hi
  obtain⟨m1,m2⟩:=hm _ (List.getElem_mem hi);unfold dm;dsimp only;rw[oDT (show(i:Int)<ps.length by omega),oCT,cM];simp only[oBS,du TK,du hi2,List.getElem_map];rw[JW m1 m2];simp only[oBS];rw[yD hi];by_cases e:pg C T ps[i]=pg D U ps[i]
  ·rw[oDT e];simp only[oNT,oCF,oBS,List.append_nil];rw[cZ (by omega) (by omega)];rfl
  ·rw[oDF e];simp only[Bool.not_false,oCT,oBS];have hf:=List.length_filter_le (λp=>!decide (pg C T p=pg D U p)) (ps.take i);rw[oLT]at hf;rw[df (Nat.le_trans hf (by omega)) (by simp) (by omega) (Nat.le_trans (Nat.add_le_add_right hf _) (by rw[List.length_singleton];omega)),oCT,GI];simp only[oBS];rw[cZ (by omega) (by omega)];rfl
 have fin:dm ((ps.length:Int),(ps.length:Int),ps.map (pg C T),ps.map (pg D U),(ps.take ps.length).filter (λp=>!decide (pg C T p=pg D U p)),())=
  some (.inr ((ps.length:Int),(ps.length:Int),false,ps.map (pg C T),ps.map (pg D U),(ps.take ps.length).filter (λp=>!decide (pg C T p=pg D U p)),())):=by
  unfold dm;dsimp only;rw[oDF (show ¬(ps.length:Int)<ps.length by omega)];rfl
 have:=fm (f:=dm) (λi=>((ps.length:Int),(i:Int),ps.map (pg C T),ps.map (pg D U),(ps.take i).filter (λp=>!decide (pg C T p=pg D U p)),())) (n:=ps.length) (N:=NN) (by unfold NN;omega) step fin;rw[show cr dm NN ((ps.length:Int),0,ps.map (pg C T),ps.map (pg D U),[],())=_ from this,List.take_length];rfl
theorem LO{x n:Int}(hn:0<n)(Wm:n<=1099511627776):∃y,qF x n=some (y,())/\0<=y/\y<n:=by
 unfold qF nA;rw[bne_iff_ne.2 (show n≠0 by omega),oCT];have h1:=Int.lt_tmod_of_pos x hn;have h2:=Int.tmod_lt_of_pos x hn;dsimp only;by_cases h:Int.tmod x n<0
 ·rw[oDT h,oCT,cZ (by omega) (by omega)];exact⟨_,rfl,by omega,by omega⟩
 ·rw[oDF h,oCF];exact⟨_,rfl,by omega,by omega⟩
theorem gm{n:Int}(hn:0<n)(Wm:n<=1099511627776){l:List Int}(hl:l.length<=400){k:Int}(hk:0<=k):∃x k',cq n l k=some (x,l,k',())/\0<=x/\x<n/\0<=k':=by
 unfold cq;delta cf;dsimp only;by_cases h:k>=l.length
 ·rw[oDT h,oCT];exact⟨0,k,rfl,by omega,hn,hk⟩
 ·rw[oDF h,oCF,cZ (x:=k+1) (by omega) (by omega),cZ (by omega) (by omega)];obtain⟨i,rfl⟩:∃i:Nat,k=i:=⟨k.toNat,by omega⟩
  have hi:i<l.length:=by omega
  rw[show(i:Int)+1-1=i by omega,cM];simp only[oBS,du hi];obtain⟨y,e,h1,h2⟩:=LO (x:=l[i]) hn Wm;rw[e];exact⟨y,(i:Int)+1,rfl,h1,h2,by omega⟩
theorem Fz{l:List Int}(hl:l.length<=400){k:Int}(hk:0<=k):∃(c:DCn)(k':Int),fw l k=some (c.1,c.2.1,c.2.2.1,c.2.2.2,l,k',())/\0<=k':=by
 unfold fw;obtain⟨x,k1,e,_,_,h1⟩:=gm (n:=5) (by omega) (by omega) hl hk;rw[e];simp only[oBS];by_cases h:x=4
 ·rw[beq_iff_eq.2 h,oCT];obtain⟨x2,k2,e,_,_,h2⟩:=gm (n:=3) (by omega) (by omega) hl h1;rw[e];simp only[oBS];obtain⟨x3,k3,e,_,_,h3⟩:=gm (n:=8) (by omega) (by omega) hl h2;rw[e];exact⟨(1,0,x2,x3),k3,rfl,h3⟩
 ·rw[oBF h,oCF];obtain⟨x2,k2,e,_,_,h2⟩:=gm (n:=40) (by omega) (by omega) hl h1;rw[e];exact⟨(0,wk .u16 x2,0,0),k2,rfl,h2⟩
theorem Ii{l:List Int}(hl:l.length<=400){k:Int}(hk:0<=k):∃(v:DTs)(k':Int),iw l k=some (v.1,v.2.1,v.2.2.1,v.2.2.2.1,v.2.2.2.2.1,v.2.2.2.2.2.1,v.2.2.2.2.2.2.1,v.2.2.2.2.2.2.2,l,k',())/\v.2.2.2.2.2.2.2.length<=8/\0<=k':=by
 unfold iw;obtain⟨x1,k1,e,_,_,h1⟩:=gm (n:=5) (by omega) (by omega) hl hk;rw[e];simp only[oBS];obtain⟨x2,k2,e,_,_,h2⟩:=gm (n:=20) (by omega) (by omega) hl h1;rw[e];simp only[oBS];obtain⟨x3,k3,e,_,_,h3⟩:=gm (n:=30) (by omega) (by omega) hl h2;rw[e];simp only[oBS];obtain⟨x4,k4,e,_,_,h4⟩:=gm (n:=4) (by omega) (by omega) hl h3;rw[e];simp only[oBS];obtain⟨x5,k5,e,_,_,h5⟩:=gm (n:=4) (by omega) (by omega) hl h4;rw[e];simp only[oBS];obtain⟨x6,k6,e,_,_,h6⟩:=gm (n:=7) (by omega) (by omega) hl h5;rw[e];simp only[oBS];obtain⟨x7,k7,e,_,_,h7⟩:=gm (n:=9) (by omega) (by omega) hl h6;rw[e];simp only[oBS]
 let st:Int->Int->List DCn->_:=λi k r=>(i,l,k,(0:Int),(0:Int),(0:Int),(0:Int),(0:Int),(0:Int),(0:Int),(),x1,x2,x3,w64 (x4-1),w64 (x5-1),x6,wk .u16 x7,r,())
 have step:∀(i:Nat)(k:Int)(r:List DCn),0<=k->r.length=i->i<8->∃(k':Int)(r':List DCn),0<=k'/\r'.length=i+1/\eC (st i k r)=some (.inl (st ((i+1:Nat):Int) k' r')):=by
  intro i k r hk hr hi;show ∃(k':Int)(r':List DCn),0<=k'/\r'.length=i+1/\eC ((i:Int),l,k,0,0,0,0,0,0,0,(),x1,x2,x3,w64 (x4-1),w64 (x5-1),x6,wk .u16 x7,r,())=_;unfold eC;dsimp only;rw[oDT (show(i:Int)<8 by omega),oCT];obtain⟨c,k',e,YR⟩:=Fz hl hk;rw[e];simp only[oBS];rw[df (by omega) (by simp) (by omega) (by rw[List.length_singleton];omega),oCT,cZ (by omega) (by omega)];exact⟨k',r++[c],YR,by rw[List.length_append,List.length_singleton,hr],rfl⟩
 have go:∀j i:Nat,i+j=8->∀(k:Int)(r:List DCn),0<=k->r.length=i->∀N,j<N->∃k' r',0<=k'/\r'.length=8/\cr eC N (st i k r)=some (8,false,l,k',0,0,0,0,0,0,0,(),x1,x2,x3,w64 (x4-1),w64 (x5-1),x6,wk .u16 x7,r',()):=by
  intro j
  induction j with
  |zero=>
   intro i hi k r hk hr N hN;obtain⟨N,rfl⟩:∃m,N=m+1:=⟨N-1,by omega⟩;refine⟨k,r,hk,by omega,?_⟩
   obtain rfl:i=8:=by omega
   rfl
  |succ j ih=>
   intro i hi k r hk hr N hN;obtain⟨N,rfl⟩:∃m,N=m+1:=⟨N-1,by omega⟩;obtain⟨k1,r1,Y2,Z5,e⟩:=step i k r hk hr (by omega);obtain⟨k2,r2,hk2,VW,e2⟩:=ih (i+1) (by omega) k1 r1 Y2 Z5 N (by omega);refine⟨k2,r2,hk2,VW,?_⟩;simp only[cr,e,oBS];exact e2
 obtain⟨k8,r,hk8,hr,e⟩:=go 8 0 rfl k7 [] h7 rfl NN (by unfold NN;omega);rw[show cr eC NN (0,l,k7,0,0,0,0,0,0,0,(),x1,x2,x3,w64 (x4-1),w64 (x5-1),x6,wk .u16 x7,[],())=_ from e];exact⟨(x1,x2,x3,w64 (x4-1),w64 (x5-1),x6,wk .u16 x7,r),k8,rfl,by show r.length<=8;omega,hk8⟩
def sK(C:CC)(T:TT'):Prop:=1<=C.length/\shp C T/\SmT T
theorem IX{l:List Int}(hl:l.length<=400){k:Int}(hk:0<=k):∃(C:CC)(T:TT')(k':Int),iQ l k=some (C,T,l,k',())/\sK C T/\0<=k':=by
 unfold iQ;obtain⟨x1,k1,e,a1,b1,h1⟩:=gm (n:=3) (by omega) (by omega) hl hk;rw[e];simp only[oBS]
 have row:∀(j:Nat)(o:Int)(C:CC)(k:Int)(r:List DCn),0<=k->r.length+j<=32->∀N,j<N->∃k' r',0<=k'/\r'.length=r.length+j /\
  cr ge N (o,(j:Int)-1,l,k,(),(),C,(),r,())=some (o,-1,false,l,k',(),(),C,(),r',()):=by
  intro j o C
  induction j with
  |zero=>
   intro k r hk hr N hN;obtain⟨N,rfl⟩:∃m,N=m+1:=⟨N-1,by omega⟩;exact⟨k,r,hk,by omega,rfl⟩
  |succ j ih=>
   intro k r hk hr N hN;obtain⟨N,rfl⟩:∃m,N=m+1:=⟨N-1,by omega⟩;obtain⟨c,k1,e,Y2⟩:=Fz hl hk
   have e1:ge (o,((j+1:Nat):Int)-1,l,k,(),(),C,(),r,())=some (.inl (o,(j:Int)-1,l,k1,(),(),C,(),r++[c],())):=by
    unfold ge;dsimp only;rw[oDT (show((j+1:Nat):Int)-1>=0 by omega),oCT,e];simp only[oBS];rw[df (by omega) (by simp) (by omega) (by rw[List.length_singleton];omega),oCT,cZ (by omega) (by omega),show((j+1:Nat):Int)-1-1=(j:Int)-1 by omega];rfl
   obtain⟨k2,r2,hk2,VW,e2⟩:=ih k1 (r++[c]) Y2 (by rw[List.length_append,List.length_singleton];omega) N (by omega);refine⟨k2,r2,hk2,by rw[VW,List.length_append,List.length_singleton];omega,?_⟩;simp only[cr,e1,oBS];exact e2
 have Qi:∀(j:Nat)(C:CC)(k:Int),0<=k->C.length+j<=4->(∀c∈C,okZ (c.length:Int)=true)->∀N,j<N->∃k' C',0<=k'/\C'.length=C.length+j/\(∀c∈C',okZ (c.length:Int)=true)/\
  cr gd N ((j:Int)-1,l,k,(),(),C,(),())=some (-1,false,l,k',(),(),C',(),()):=by
  intro j
  induction j with
  |zero=>
   intro C k hk hC ho N hN;obtain⟨N,rfl⟩:∃m,N=m+1:=⟨N-1,by omega⟩;exact⟨k,C,hk,by omega,ho,rfl⟩
  |succ j ih=>
   intro C k hk hC ho N hN;obtain⟨N,rfl⟩:∃m,N=m+1:=⟨N-1,by omega⟩;obtain⟨y,k1,e,ya,yb,Y2⟩:=gm (n:=24) (by omega) (by omega) hl hk;obtain⟨k2,r,hk2,hr,e2⟩:=row (y.toNat+1) (((j+1:Nat):Int)-1) C k1 [] Y2 (by rw[List.length_nil];omega) NN (by unfold NN;omega);rw[show((y.toNat+1:Nat):Int)-1=y by omega]at e2;rw[List.length_nil]at hr
   have e1:gd (((j+1:Nat):Int)-1,l,k,(),(),C,(),())=some (.inl ((j:Int)-1,l,k2,(),(),C++[r],(),())):=by
    unfold gd;dsimp only;rw[oDT (show((j+1:Nat):Int)-1>=0 by omega),oCT,e];simp only[oBS];rw[e2];simp only[oBS];rw[df (by omega) (by simp) (by omega) (by rw[List.length_singleton];omega),oCT,cZ (by omega) (by omega),show((j+1:Nat):Int)-1-1=(j:Int)-1 by omega];rfl
   obtain⟨k3,C3,hk3,hC3,X',e3⟩:=ih (C++[r]) k2 hk2 (by rw[List.length_append,List.length_singleton];omega) (by
    intro c hc;rcases List.mem_append.1 hc with hc|hc
    ·exact ho c hc
    ·rw[List.mem_singleton.1 hc]
     exact oDT (by omega)) N (by omega)
   refine⟨k3,C3,hk3,by rw[hC3,List.length_append,List.length_singleton];omega,X',?_⟩;simp only[cr,e1,oBS];exact e3
 obtain⟨k2,C,hk2,hC,ho,e2⟩:=Qi (x1.toNat+1) [] k1 h1 (by rw[List.length_nil];omega) (by simp) NN (by unfold NN;omega);rw[show((x1.toNat+1:Nat):Int)-1=x1 by omega]at e2;rw[List.length_nil]at hC;rw[e2];simp only[oBS];obtain⟨x3,k3,e,a3,b3,h3⟩:=gm (n:=4) (by omega) (by omega) hl hk2;rw[e];simp only[oBS]
 have ths:∀(j:Nat)(T:TT')(k:Int),0<=k->T.length+j<=4->SmT T->∀N,j<N->∃k' T',0<=k'/\T'.length=T.length+j/\SmT T' /\
  cr gc N ((j:Int),l,k,(),(),C,T,())=some (0,false,l,k',(),(),C,T',()):=by
  intro j
  induction j with
  |zero=>
   intro T k hk hT hs N hN;obtain⟨N,rfl⟩:∃m,N=m+1:=⟨N-1,by omega⟩;exact⟨k,T,hk,by omega,hs,rfl⟩
  |succ j ih=>
   intro T k hk hT hs N hN;obtain⟨N,rfl⟩:∃m,N=m+1:=⟨N-1,by omega⟩;obtain⟨v,k1,e,hv,Y2⟩:=Ii hl hk
   have e1:gc (((j+1:Nat):Int),l,k,(),(),C,T,())=some (.inl ((j:Int),l,k1,(),(),C,T++[v],())):=by
    unfold gc;dsimp only;rw[oDT (show((j+1:Nat):Int)>0 by omega),oCT,e];simp only[oBS];rw[df (by omega) (by simp) (by omega) (by rw[List.length_singleton];omega),oCT,cZ (by omega) (by omega),show((j+1:Nat):Int)-1=(j:Int) by omega];rfl
   obtain⟨k3,T3,hk3,hT3,TY,e3⟩:=ih (T++[v]) k1 Y2 (by rw[List.length_append,List.length_singleton];omega) (by
    intro t ht;rcases List.mem_append.1 ht with ht|ht
    ·exact hs t ht
    ·rw[List.mem_singleton.1 ht];unfold Sm
     omega) N (by omega)
   refine⟨k3,T3,hk3,by rw[hT3,List.length_append,List.length_singleton];omega,TY,?_⟩;simp only[cr,e1,oBS];exact e3
 obtain⟨k4,T,hk4,hT,hs,e4⟩:=ths x3.toNat [] k3 h3 (by rw[List.length_nil];omega) (by intro t ht;simp at ht) NN (by unfold NN;omega);rw[show((x3.toNat:Nat):Int)=x3 by omega]at e4;rw[List.length_nil]at hT;rw[e4];exact⟨C,T,k4,rfl,⟨by omega,⟨by omega,by omega,ho⟩,hs⟩,hk4⟩
theorem Hr{v:DTs}(h:Sm v.2.2.2.2.2.2.2):ee v.1 v.2.1 v.2.2.1 v.2.2.2.1 v.2.2.2.2.1 v.2.2.2.2.2.1 v.2.2.2.2.2.2.1 v.2.2.2.2.2.2.2=some (v.1,v.2.1,v.2.2.1,v.2.2.2.1,v.2.2.2.2.1,v.2.2.2.2.2.1,v.2.2.2.2.2.2.1,v.2.2.2.2.2.2.2,()):=by
 unfold ee;rw[df (by omega) h (by omega) (by have:=h;omega),oCT];rfl
theorem Le{C:CC}{T:TT'}(h:shp C T)(hT:SmT T):fC C T=some (C,T,()):=by
 unfold fC;have h4:=h.1
 have step:∀i,i<C.length->dR ((i:Int),C,T,(),(),C.take i,(),())=some (.inl (((i+1:Nat):Int),C,T,(),(),C.take (i+1),(),())):=by
  intro i hi;have hok:=of_decide_eq_true (h.2.2 _ (List.getElem_mem hi));unfold dR;delta cf;dsimp only;rw[oDT (show(i:Int)<C.length by omega),oCT,cM];simp only[oBS,du hi];rw[df (by omega) (by omega) (by omega) (by omega),oCT,df (by rw[oLT];omega) (by simp) (by omega) (by rw[oLT,List.length_singleton];omega),oCT,cZ (by omega) (by omega),<- nR hi];rfl
 have fin:dR ((C.length:Int),C,T,(),(),C.take C.length,(),())=some (.inr ((C.length:Int),false,C,T,(),(),C.take C.length,(),())):=by
  unfold dR;delta cf;dsimp only;rw[oDF (show ¬(C.length:Int)<C.length by omega)];rfl
 have:=fm (f:=dR) (λi=>((i:Int),C,T,(),(),C.take i,(),())) (n:=C.length) (N:=NN) (by unfold NN;omega) step fin;rw[show cr dR NN (0,C,T,(),(),[],(),())=_ from this,List.take_length,oBS];dsimp only;have t4:=h.2.1
 have SG:∀i,i<T.length->dQ ((i:Int),C,T,(),(),C,T.take i,())=some (.inl (((i+1:Nat):Int),C,T,(),(),C,T.take (i+1),())):=by
  intro i hi;unfold dQ;delta cf;dsimp only;rw[oDT (show(i:Int)<T.length by omega),oCT,cM];simp only[oBS,du hi,Hr (hT _ (List.getElem_mem hi))];rw[df (by rw[oLT];omega) (by simp) (by omega) (by rw[oLT,List.length_singleton];omega),oCT,cZ (by omega) (by omega),<- nR hi];rfl
 have Oz:dQ ((T.length:Int),C,T,(),(),C,T.take T.length,())=some (.inr ((T.length:Int),false,C,T,(),(),C,T.take T.length,())):=by
  unfold dQ;delta cf;dsimp only;rw[oDF (show ¬(T.length:Int)<T.length by omega)];rfl
 have:=fm (f:=dQ) (λi=>((i:Int),C,T,(),(),C,T.take i,())) (n:=T.length) (N:=NN) (by unfold NN;omega) SG Oz;rw[show cr dQ NN (0,C,T,(),(),C,[],())=_ from this,List.take_length];rfl
def sQ(C:CC)(T:TT')(D:CC)(U:TT'):Prop:=szs D=szs C/\U.length=T.length/\SmT U
theorem iX{C:CC}{T:TT'}{D:CC}{U:TT'}(h:sQ C T D U)(hs:shp C T):shp D U:=by
 rw[<- uX,h.1,h.2.1];exact uX.2 hs
theorem mq{C D:CC}(h:szs D=szs C):D.length=C.length:=by rw[<- fE D,h,fE]
theorem ub{C D:CC}(h:szs D=szs C){i:Nat}(hi:i<C.length)(ZM:i<D.length):D[i].length=C[i].length:=by
 have e1:=jD hi;have e2:=jD ZM;rw[h,e1]at e2;omega
theorem BO{C:CC}{i:Nat}{f:List DCn->List DCn}(h:∀c,(f c).length=c.length):szs (C.modify i f)=szs C:=by
 unfold szs;apply List.ext_getElem?;intro j;rw[List.getElem?_map,List.getElem?_map,List.getElem?_modify]
 cases C[j]? with
 |none=>simp
 |some c=>
  simp only[oMS];split
  ·simp[h]
  ·simp
theorem uf{T:TT'}{i:Nat}{v:DTs}(h:SmT T)(hv:Sm v.2.2.2.2.2.2.2):SmT (T.modify i λ_=>v):=by
 intro t ht;obtain⟨j,hj⟩:=List.mem_iff_getElem?.1 ht;rw[List.getElem?_modify]at hj
 cases e:T[j]? with
 |none=>rw[e]at hj;simp at hj
 |some u=>
  rw[e]at hj;have hj:some (if i=j then v else u)=some t:=hj
  injection hj with hj
  split at hj
  ·rw[<- hj];exact hv
  ·rw[<- hj];exact h _ (List.mem_of_getElem? e)
theorem Iu{C:CC}{T:TT'}(h:sK C T){n:Int}(hn:0<=n)(Wm:n<6){l:List Int}(hl:l.length<=400){k:Int}(hk:0<=k):
 ∃(D:CC)(U:TT')(k':Int),ix C T n l k=some (D,U,l,k',())/\sQ C T D U/\0<=k':=by
 unfold ix;rw[Le h.2.1 h.2.2,oBS];dsimp only
 obtain⟨t,e,D,U,k',h1,h2,h3⟩:=t6 (f:=jd) (λs=>∃(i:Nat)(k:Int)(D:CC)(U:TT'),s=(n,(i:Int),l,k,(),(),D,U,())/\(i:Int)<=n/\0<=k/\sQ C T D U)
  (λt=>∃(D:CC)(U:TT')(k:Int),t=(n,n,false,l,k,(),(),D,U,())/\0<=k/\sQ C T D U) (λs=>(n-s.2.1).toNat) (n:=NN) (s:=(n,0,l,k,(),(),C,T,())) ⟨0,k,C,T,rfl,hn,hk,rfl,rfl,h.2.2⟩ (by unfold NN;show(n-0).toNat<_;omega) (by
  rintro s ⟨i,k,D,U,rfl,hi,hk,hL⟩;unfold jd;delta cf;dsimp only;have hlD:=mq hL.1;have hD1:=h.1;have hD4:=h.2.1.1;have hU:=hL.2.1;have hU4:=h.2.1.2.1;by_cases hin:(i:Int)<n
  rotate_left
  ·rw[oDF hin]
   obtain rfl:(i:Int)=n:=by omega
   exact⟨_,rfl,D,U,k,rfl,hk,hL⟩
  rw[oDT hin,oCT]
  have QY:∀k0,0<=k0->Ok (((cq (↑D.length) l k0).bind λ(x10,x11,x12,_)=>
   (eo x10).bind λSK=>
   (dt D SK).bind λx14=>
   (dt D SK).bind λx15=>
   (eo x10).bind λQj=>
   (dt D Qj).bind λx17=>
   (dt D Qj).bind λx18=>
   (dt D Qj).bind λx19=>
   (cq (↑x19.length) x11 x12).bind λ(x21,x22,x23,_)=>
   (fw x22 x23).bind λ(x24,x25,x26,x27,x28,x29,_)=>
   (eo x21).bind λQk=>
   (dt D SK).bind λx31=>
   (dt x31 Qk).bind λx32=>
   (dt D SK).bind λx33=>
   (dt x33 Qk).bind λx34=>
   some (n,(i:Int),x28,x29,(),(),(List.modify D SK λe=>(List.modify e Qk λe=>(x24,(x25,(x26,x27))))),U,())):Option (Int×Int×(List (Int))×Int×Unit×Unit×(List (List DCn))×(List DTs)×Unit))
   λr=>∃(k':Int)(D':CC)(U':TT'),r=(n,(i:Int),l,k',(),(),D',U',())/\0<=k'/\sQ C T D' U':=by
   intro k0 hk0;dsimp only;obtain⟨y,k1,e,ya,yb,Y2⟩:=gm (n:=(D.length:Int)) (by omega) (by omega) hl hk0;rw[e];obtain⟨a,rfl⟩:∃a:Nat,y=a:=⟨y.toNat,by omega⟩
   have ha:a<D.length:=by omega
   simp only[oBS,cM,du ha];have hok:1<=(D[a].length:Int)/\(D[a].length:Int)<=32:=of_decide_eq_true ((iX hL h.2.1).2.2 _ (List.getElem_mem ha));obtain⟨z,k2,e,za,zb,hk2⟩:=gm (n:=(D[a].length:Int)) (by omega) (by omega) hl Y2;rw[e];obtain⟨b,rfl⟩:∃b:Nat,z=b:=⟨z.toNat,by omega⟩
   have hb:b<D[a].length:=by omega
   simp only[oBS];obtain⟨c,k3,e,hk3⟩:=Fz hl hk2;rw[e];simp only[oBS,cM,du hb];exact⟨_,rfl,k3,_,U,rfl,hk3,(BO λc=>oLM ..).trans hL.1,hL.2.1,hL.2.2⟩
  refine Ok.bind (P:=λr=>∃(k':Int)(D':CC)(U':TT'),r=(n,(i:Int),l,k',(),(),D',U',())/\0<=k'/\sQ C T D' U') ?_ ?_
  ·by_cases hp:(U.length:Int)>0
   rotate_left
   ·rw[oDF hp];exact QY k hk
   rw[oDT hp,oCT];obtain⟨y,k1,e,ya,yb,Y2⟩:=gm (n:=3) (by omega) (by omega) hl hk;rw[e];simp only[oBS];by_cases h2:y=2
   rotate_left
   ·rw[oBF h2];exact QY k1 Y2
   rw[beq_iff_eq.2 h2,oCT];obtain⟨z,k2,e,za,zb,hk2⟩:=gm (n:=(U.length:Int)) (by omega) (by omega) hl Y2;rw[e];obtain⟨a,rfl⟩:∃a:Nat,z=a:=⟨z.toNat,by omega⟩
   have ha:a<U.length:=by omega
   simp only[oBS];obtain⟨v,k3,e,hv,hk3⟩:=Ii hl hk2;rw[e];simp only[oBS,cM,du ha];exact⟨_,rfl,k3,D,_,rfl,hk3,hL.1,(oLM ..).trans hL.2.1,uf hL.2.2 (show v.2.2.2.2.2.2.2.length<=1099511627776 by omega)⟩
  ·rintro r ⟨k',D',U',rfl,YR,Q5⟩;dsimp only;rw[cZ (by omega) (by omega)]
   exact⟨_,rfl,⟨i+1,k',D',U',rfl,by omega,YR,Q5⟩,by show(n-((i:Int)+1)).toNat<(n-(i:Int)).toNat;omega⟩)
 rw[e,h1];exact⟨D,U,k',rfl,h3,h2⟩
theorem LT(l:List Int):qG l=some (decide (l.length<=400),()):=by
 unfold qG;delta cf;dsimp only;congr 2;rw[decide_eq_decide];omega
theorem wn{C:CC}{T:TT'}{D:CC}{U:TT'}{E:CC}{V:TT'}(h:sK C T)(h1:sQ C T D U)(h2:sQ C T E V):J8 D U E V:=
 ⟨iX h1 h.2.1,iX h2 h.2.1,h1.1.trans h2.1.symm,h1.2.1.trans h2.2.1.symm⟩
theorem ET{C:CC}{T:TT'}(h:sK C T):sQ C T C T:=⟨rfl,rfl,h.2.2⟩
theorem pB{C:CC}{T:TT'}{D:CC}{U:TT'}(h:sK C T)(h1:sQ C T D U):sK D U:=⟨by rw[mq h1.1];exact h.1,iX h1 h.2.1,h1.2.2⟩
theorem uv{C:CC}{T:TT'}{D:CC}{U:TT'}{E:CC}{V:TT'}(h1:sQ C T D U)(h2:sQ D U E V):sQ C T E V:=⟨h2.1.trans h1.1,h2.2.1.trans h1.2.1,h2.2.2⟩
theorem rJ{C:CC}{T:TT'}{D:CC}{U:TT'}{p:PID}:p∈dif C T D U↔p∈pgs (szs C) T.length/\pg C T p≠pg D U p:=by
 unfold dif;simp
theorem GT{S T:Type}{f:S->Option (S⊕T)}(P:Nat->S->Prop)(R:T->Prop){n:Nat}(step:∀i s,i<n->P i s->∃s',f s=some (.inl s')/\P (i+1) s')(fin:∀s,P n s->∃t,f s=some (.inr t)/\R t){s:S}(h:P 0 s){N:Nat}(hn:n<N):
 ∃t,cr f N s=some t/\R t:=by
 have ZR:∀k i s,i+k=n->P i s->∀M,k<M->∃t,cr f M s=some t/\R t:=by
  intro k
  induction k with
  |zero=>
   intro i s hi hP M hM;obtain⟨M,rfl⟩:∃m,M=m+1:=⟨M-1,by omega⟩
   obtain rfl:i=n:=by omega
   obtain⟨t,e,hR⟩:=fin s hP;exact⟨t,by simp[cr,e],hR⟩
  |succ k ih=>
   intro i s hi hP M hM;obtain⟨M,rfl⟩:∃m,M=m+1:=⟨M-1,by omega⟩;obtain⟨s',e,hP'⟩:=step i s (by omega) hP;obtain⟨t,e2,hR⟩:=ih (i+1) s' (by omega) hP' M (by omega);exact⟨t,by simp only[cr,e,oBS];exact e2,hR⟩
 exact ZR n 0 s (by omega) h N hn
theorem Iq{C:CC}{T:TT'}{D:CC}{U:TT'}(h:shp C T)(hT:SmT T):eL C T D U=some (decide (C=D/\T=U),()):=by
 unfold eL;delta cf;dsimp only;by_cases hl:C.length=D.length
 rotate_left
 ·rw[rF hl,oCT,oDF (p:=C=D/\T=U) λe=>hl (by rw[e.1])]
 rw[uu hl,oCF];by_cases hm:T.length=U.length
 rotate_left
 ·rw[rF hm,oCT,oDF (p:=C=D/\T=U) λe=>hm (by rw[e.2])]
 rw[uu hm,oCF];have c4:=h.1;have t4:=h.2.1
 have q1:=lO (f:=fB) hl (by unfold Sm;omega) (λi=>((i:Int),C,T,D,U,())) (bad:=.inl (false,())) (fin:=.inr ((C.length:Int),false,C,T,D,U,()))
  (λi h1 h2=>by
   have hok:=of_decide_eq_true (h.2.2 _ (List.getElem_mem h1));unfold fB;delta cf;dsimp only;rw[oDT (show(i:Int)<C.length by omega),oCT,cM];simp only[oBS,du h1,du h2];rw[uk (by unfold Sm;omega)];simp only[oBS,oG];rw[cZ (by omega) (by omega)]
   rfl)
  (by
   unfold fB;delta cf;dsimp only;rw[oDF (show ¬(C.length:Int)<C.length by omega)]
   rfl)
 have q2:=lO (f:=fA) hm (by unfold Sm;omega) (λi=>((i:Int),C,T,D,U,())) (bad:=.inl (false,())) (fin:=.inr ((T.length:Int),false,C,T,D,U,()))
  (λi h1 h2=>by
   unfold fA;delta cf;dsimp only;rw[oDT (show(i:Int)<T.length by omega),oCT,cM];simp only[oBS,du h1,du h2];rw[Eb (hT _ (List.getElem_mem h1))];simp only[oBS,oG];rw[cZ (by omega) (by omega)]
   rfl)
  (by
   unfold fA;delta cf;dsimp only;rw[oDF (show ¬(T.length:Int)<T.length by omega)]
   rfl)
 rw[show cr fB NN (0,C,T,D,U,())=_ from q1];by_cases e1:C=D
 rotate_left
 ·rw[oDF e1,oDF (p:=C=D/\T=U) λe=>e1 e.1];rfl
 rw[oDT e1];dsimp only[oCT];rw[show cr fA NN (0,C,T,D,U,())=_ from q2];by_cases e2:T=U
 ·rw[oDT e2,oDT (p:=C=D/\T=U) ⟨e1,e2⟩];rfl
 ·rw[oDF e2,oDF (p:=C=D/\T=U) λe=>e2 e.2];rfl
theorem EE{C:CC}{T:TT'}{D:CC}{U:TT'}(hs:szs D=szs C)(hU:U.length=T.length)(h:∀q∈pgs (szs C) T.length,pg C T q=pg D U q):C=D/\T=U:=by
 have hl:=mq hs;constructor
 ·refine List.ext_getElem hl.symm λi h1 h2=>?_;have hlen:=ub hs h1 h2;apply List.ext_getElem?;intro k;by_cases hk:k<C[i].length
  rotate_left
  ·rw[oGN (by omega),oGN (by omega)]
  have hq:((i:Int),((k/8:Nat):Int))∈pgs (szs C) T.length:=by
   refine jV.2 (.inl ⟨i,k/8,by rw[fE];exact h1,?_,rfl⟩);rw[jD h1];unfold uG;omega
  have e:=h _ hq;rw[mW h1,mW h2]at e;have e1:(C[i].drop (8*(k/8))).take 8=(D[i].drop (8*(k/8))).take 8:=congrArg (λx:PG=>x.2.2.1) e;have e2:=congrArg (λx:List DCn=>x[k%8]?) e1;simp only[List.getElem?_take,List.getElem?_drop]at e2;rw[oIP (Nat.mod_lt _ (by omega)),oIP (Nat.mod_lt _ (by omega)),Nat.div_add_mod]at e2;exact e2
 ·refine List.ext_getElem hU.symm λt h1 h2=>?_;have e:=h (-1,(t:Int)) (jV.2 (.inr ⟨t,h1,rfl⟩));rw[fX h1,fX h2]at e;exact congrArg (λx:PG=>x.2.2.2) e
theorem ue{c x:List DCn}{a k:Nat}(h:a+x.length<=c.length):(gB c a x.length x)[k]?=if k<a then c[k]? else if k<a+x.length then x[k-a]? else c[k]?:=by
 unfold gB;rw[List.take_length];by_cases h1:k<a
 ·rw[oIP h1,List.append_assoc,List.getElem?_append_left (by rw[oLT];omega),List.getElem?_take,oIP h1]
 ·rw[oIN h1];by_cases h2:k<a+x.length
  ·rw[oIP h2,List.getElem?_append_left (by rw[List.length_append,oLT];omega),List.getElem?_append_right (by rw[oLT];omega),oLT,Nat.min_eq_left (by omega)]
  ·rw[oIN h2,List.getElem?_append_right (by rw[List.length_append,oLT];omega),List.length_append,oLT,Nat.min_eq_left (by omega),List.getElem?_drop];congr 1;omega
theorem BS{c x:List DCn}{a:Nat}(h:a+x.length<=c.length):(gB c a x.length x).length=c.length:=by
 unfold gB;rw[List.take_length,List.length_append,List.length_append,oLT,List.length_drop,Nat.min_eq_left (by omega)];omega
theorem D0{α:Type}{l:List α}{i:Nat}{x:α}:l.set i x=l.modify i λ_=>x:=by
 apply List.ext_getElem?;intro k;rw[List.getElem?_set,List.getElem?_modify];by_cases e:i=k
 ·subst e;by_cases h:i<l.length
  ·simp[h]
  ·simp[h]
 ·simp[e]
theorem KN{c:List DCn}{j:Nat}(hc:c.length<=32)(h:8*j<c.length):gj c (j:Int)=some ((c.drop (8*j)).take 8,()):=by
 unfold gj;delta cf;dsimp only;rw[oDF (show ¬(j:Int)<0 by omega),oCF,oDF (show ¬(j:Int)>32 by omega),oCF];simp only[oBS];rw[cZ (x:=(j:Int)*8) (by omega) (by omega),oDF (show ¬(j:Int)*8>=(c.length:Int) by omega),oCF,cZ (x:=(j:Int)*8+8) (by omega) (by omega)];rw[show(j:Int)*8=((8*j:Nat):Int) by omega,show((8*j:Nat):Int)+8=((8*j+8:Nat):Int) by omega,zg,cM,cM];simp only[oBS]
 have ho:lm (8*j) (Nat.min (8*j+8) c.length) c.length=true:=by
  unfold lm;have h1:Nat.min (8*j+8) c.length=min (8*j+8) c.length:=rfl;rw[h1];simp only[oBA,oDE];omega
 rw[ho,oCT,Dl (by omega)]
theorem IA{C:CC}{T:TT'}(h:shp C T){p:PID}(hp:p∈pgs (szs C) T.length):iy C T p.1 p.2=some (0,()):=by
 have h4:=h.1;unfold iy;rw[AM (show Sm C by unfold Sm;omega),oBS];dsimp only;rw[oDT h,oNT,oCF]
 have ht:iS C T p.1 p.2=some (true,()):=by
  unfold iS
  rcases jV.1 hp with⟨i,j,hi,hj,rfl⟩|⟨t,ht,rfl⟩
  ·rw[fE]at hi;rw[jD hi]at hj;have ZU:=xi hj;have hok:=of_decide_eq_true (h.2.2 _ (List.getElem_mem hi));delta cf;dsimp only;rw[oBF (show((i:Int))≠-1 by omega),oCF,oDT (show(i:Int)>=0 by omega),oCT,oDT (show(i:Int)<(C.length:Int) by omega),oCT,cM];simp only[oBS,du hi];rw[KN (by omega) ZU,oBS];dsimp only;rw[oDT];simp only[oLT,List.length_drop];omega
  ·delta cf;dsimp only;rw[show((-1:Int)==-1)=true from rfl,oCT,oDT (show(t:Int)>=0 by omega),oCT,oDT (show(t:Int)<(T.length:Int) by omega)]
 rw[ht];rfl
theorem IB{C:CC}{T:TT'}(h:shp C T){p:PID}(hp:p∈pgs (szs C) T.length):d4 C T p.1 p.2=some (0,()):=(show d4 C T p.1 p.2=iy C T p.1 p.2 from rfl).trans (IA h hp)
theorem Io{C:CC}{T:TT'}(h:sK C T){x y:List DCn}(hx:Sm x)(hy:Sm y):D8 C T x y=true:=by
 have h1:=h.2.1.1;have h2:=h.2.1.2.1;simp only[D8,oBA,oDE,List.all_eq_true];refine⟨⟨⟨⟨⟨by omega,λc hc=>?_⟩,by omega⟩,λt ht=>h.2.2 t ht⟩,hx⟩,hy⟩;have:=of_decide_eq_true (h.2.1.2.2 c hc);omega
theorem LJ{C:CC}{T:TT'}{D:CC}{U:TT'}(h:sK C T)(hL:sQ C T D U){p:PID}(hp:p∈pgs (szs C) T.length):
 ∃(C':CC)(T':TT'),cY C T (pg D U p).1 (pg D U p).2.1 (pg D U p).2.2.1 (pg D U p).2.2.2.1 (pg D U p).2.2.2.2.1 (pg D U p).2.2.2.2.2.1 (pg D U p).2.2.2.2.2.2.1 (pg D U p).2.2.2.2.2.2.2.1 (pg D U p).2.2.2.2.2.2.2.2.1 (pg D U p).2.2.2.2.2.2.2.2.2.1 (pg D U p).2.2.2.2.2.2.2.2.2.2=some (C',T',0,())/\
  sQ C T C' T'/\∀q∈pgs (szs C) T.length,pg C' T' q=if q=p then pg D U p else pg C T q:=by
 have hC4:=h.2.1.1;have hlD:=mq hL.1
 rcases jV.1 hp with⟨i,j,hi,hj,rfl⟩|⟨t,ht,rfl⟩
 ·rw[fE]at hi
  have ZM:i<D.length:=by omega
  rw[jD hi]at hj;have ZU:=xi hj;have YS:=ub hL.1 hi ZM;have hok:=of_decide_eq_true (h.2.1.2.2 _ (List.getElem_mem hi));rw[mW ZM];dsimp only;obtain⟨x,hx⟩:∃x,x=(D[i].drop (8*j)).take 8:=⟨_,rfl⟩
  have SA:x.length=min 8 (C[i].length-8*j):=by rw[hx,oLT,List.length_drop,YS]
  rw[<- hx]
  have ZP:jF C[i] j x=gB C[i] (8*j) x.length x:=by
   unfold jF gB;rw[List.take_length]
  have hset:cY C T (i:Int) (j:Int) x 0 0 0 0 0 0 0 []=some (C.modify i λ_=>gB C[i] (8*j) x.length x,T,0,()):=by
   unfold cY;rw[oIP (Io h (by omega) (by simp)),show d4 C T (i:Int) (j:Int)=_ from IB h.2.1 hp,oBS];dsimp only;rw[oIN (by simp),oIN (by omega),oIP ⟨by omega,by simpa using hi,by omega,by omega,by simp only[oTN];rw[show C.getD i []=C[i] by simp[oGD,hi]];exact ZU⟩];simp only[oTN];rw[show C.getD i []=C[i] by simp[oGD,hi],show fU 0 0 0 0 0 0 0 []=some (true,())from rfl,oBS];dsimp only;rw[oIN (by simp;omega),ZP,D0]
  have hfit:8*j+x.length<=C[i].length:=by omega
  have Yx:(C.modify i λ_=>gB C[i] (8*j) x.length x).length=C.length:=oLM ..
  have Z6:∀i' (h1:i'<C.length),(C.modify i λ_=>gB C[i] (8*j) x.length x)[i']'(by rw[Yx];exact h1)=if i=i' then gB C[i] (8*j) x.length x else C[i']:=by
   intro i' h1;rw[List.getElem_modify]
  refine⟨_,T,hset,⟨?_,rfl,h.2.2⟩,?_⟩
  ·unfold szs;apply List.ext_getElem?;intro k;rw[List.getElem?_map,List.getElem?_map];by_cases hk:k<C.length
   ·rw[oGE (by rw[Yx];exact hk),oGE hk,Z6 k hk];simp only[oMS];by_cases e:i=k
    ·subst e;rw[oIP rfl,BS hfit]
    ·rw[oIN e]
   ·rw[oGN (by rw[Yx];omega),oGN (by omega)]
  ·intro q hq
   rcases jV.1 hq with⟨a,b,ha,Z',rfl⟩|⟨t,ht,rfl⟩
   ·rw[fE]at ha;rw[jD ha]at Z';have Z9:=xi Z';rw[mW (show a<(C.modify i λ_=>gB C[i] (8*j) x.length x).length by rw[Yx];exact ha),Z6 a ha,mW ha];by_cases e:i=a
    ·subst e;rw[oIP rfl];by_cases e2:b=j
     ·subst e2;rw[oIP rfl];congr 3;apply List.ext_getElem?;intro k;rw[List.getElem?_take,List.getElem?_drop,ue hfit];by_cases hk:k<8
      ·rw[oIP hk,oIN (by omega)];by_cases hk2:k<x.length
       ·rw[oIP (by omega),show 8*b+k-8*b=k by omega]
       ·rw[oIN (by omega),oGN (by omega),oGN (by omega)]
      ·rw[oIN hk,oGN (by omega)]
     ·rw[oIN (by intro g;injection g with g1 g2;omega)];congr 3;apply List.ext_getElem?;intro k;rw[List.getElem?_take,List.getElem?_drop,List.getElem?_take,List.getElem?_drop,ue hfit];by_cases hk:k<8
      ·rw[oIP hk,oIP hk];by_cases hk3:8*b+k<8*j
       ·rw[oIP hk3]
       ·rw[oIN hk3,oIN (by omega)]
      ·rw[oIN hk,oIN hk]
    ·rw[oIN e,oIN (by intro g;injection g with g1 g2;omega)]
   ·rw[fX ht,oIN (by intro g;injection g with g1 g2;omega),fX ht]
 ·have YZ:t<U.length:=by rw[hL.2.1];exact ht
  rw[fX YZ];dsimp only
  have hset:cY C T (-1) (t:Int) [] U[t].1 U[t].2.1 U[t].2.2.1 U[t].2.2.2.1 U[t].2.2.2.2.1 U[t].2.2.2.2.2.1 U[t].2.2.2.2.2.2.1 U[t].2.2.2.2.2.2.2=some (C,T.modify t λ_=>U[t],0,()):=by
   unfold cY;rw[oIP (Io h (by simp) (hL.2.2 _ (List.getElem_mem YZ))),show d4 C T (-1) (t:Int)=_ from IB h.2.1 hp,oBS];dsimp only;rw[oIN (by simp),oIP rfl,oIN (by simp),oIP ⟨by omega,by simpa using ht⟩];simp only[oTN];rw[D0]
  have Yx:(T.modify t λ_=>U[t]).length=T.length:=oLM ..
  have Z6:∀i' (h1:i'<T.length),(T.modify t λ_=>U[t])[i']'(by rw[Yx];exact h1)=if t=i' then U[t]else T[i']:=by
   intro i' h1;rw[List.getElem_modify]
  refine⟨C,T.modify t λ_=>U[t],hset,⟨rfl,Yx,uf h.2.2 (hL.2.2 _ (List.getElem_mem YZ))⟩,?_⟩;intro q hq
  rcases jV.1 hq with⟨a,b,ha,Z',rfl⟩|⟨s,hs,rfl⟩
  ·rw[fE]at ha;rw[mW ha,oIN (by intro g;injection g with g1 g2;omega),mW ha]
  ·rw[fX (show s<(T.modify t λ_=>U[t]).length by rw[Yx];exact hs),Z6 s hs,fX hs];by_cases e:t=s
   ·subst e;rw[oIP rfl,oIP rfl]
   ·rw[oIN e,oIN (by intro g;injection g with g1 g2;omega)]
theorem Im{f t:Int}(h1:0<=f)(h2:t<=200)(h3:f<=t):iA f t=some (0,()):=by
 unfold iA;rw[oDF (show ¬f<0 by omega),oCF,oDF (show ¬t>200 by omega),oCF,oDF (show ¬f>t by omega)];rfl
theorem Iy(x:PID):iz x.1 x.2=some (mK x.1,()):=by
 unfold iz mK;by_cases h:x.1=-1
 ·rw[h];rfl
 ·rw[oBF h,oIN h];rfl
theorem LX(x y:Int):cN x y=some (uI x y,()):=by
 unfold cN d6 uI;simp only[bne_self_eq_false,oBS,oCF];by_cases h:x<y
 ·simp[h]
 ·by_cases h2:y<x
  ·simp[h,h2]
  ·simp[h,h2]
theorem Mc(x y z:Int):gA [x,y,z]=some (orI x y z,()):=by
 unfold gA;delta cf;dsimp only
 have h2:=oi (f:=dH) (st:=λi=>((0:Int),[x,y,z],(3:Int),(i:Int),())) (p:=λi=>[x,y,z].getD i 0=0) (n:=3) (N:=NN) (bad:=λi=>.inl ([x,y,z].getD i 0,())) (fin:=.inr (0,[x,y,z],3,3,false,())) (qt (by omega)) (λi hi=>by
  unfold dH;dsimp only;rw[oDT (show(i:Int)<3 by omega),oCT,cM];simp only[oBS];have hl:i < [x,y,z].length:=hi;rw[du hl,oBS]
  have e:[x,y,z].getD i 0=[x,y,z][i]:=by rw[oGD,oGE hl];rfl
  rw[e];generalize[x,y,z][i]=v;by_cases h:v=0
  ·subst h;refine .inl ⟨rfl,?_⟩;rw[bne_self_eq_false,oCF,cZ (by omega) (by omega)];rfl
  ·refine .inr ⟨h,?_⟩
   rw[bne_iff_ne.2 h,oCT]) (by
  unfold dH
  rfl)
 rcases h2 with⟨h1,h2⟩|⟨k,hk,h1,h3,h2⟩
 ·rw[show cr dH NN (0,[x,y,z],([x,y,z].length:Int),0,())=_ from h2];have a:=h1 0 (by omega);have b:=h1 1 (by omega);have c:=h1 2 (by omega);simp at a b c;subst a b c;rfl
 ·rw[show cr dH NN (0,[x,y,z],([x,y,z].length:Int),0,())=_ from h2];dsimp only
  match k,hk with
  |0,_=>simp at h3;simp[orI,h3]
  |1,_=>have a:=h1 0 (by omega);simp at a h3;simp[orI,h3,a]
  |2,_=>have a:=h1 0 (by omega);have b:=h1 1 (by omega);simp at a b h3;simp[orI,a,b]
theorem JF(x y:PID):iV x.1 x.2 y.1 y.2=some (Dg x y,()):=by
 unfold iV;rw[Iy,Iy];simp only[oBS,LX,Mc];rfl
def L7(l:List PG):Prop:=∀i (h:i+1<l.length),eW (l[i].1,l[i].2.1) (l[i+1].1,l[i+1].2.1)=true
theorem Af{f t:Int}{l:List PG}(h1:0<=f)(h2:t<=200)(h3:f<=t)(hl:Sm l)(ha:L7 l):gy f t l=some (0,()):=by
 unfold gy;rw[Im h1 h2 h3,oBS];dsimp only;rw[bne_self_eq_false,oCF]
 have h:=fm (f:=eT) (st:=λi=>(((i+1:Nat):Int),f,t,l,())) (n:=l.length-1) (N:=NN) (fin:=.inr ((((l.length-1)+1:Nat):Int),false,f,t,l,())) (qt (by omega)) (λi hi=>by
  unfold eT;delta cf;dsimp only;rw[oDT (show((i+1:Nat):Int)<(l.length:Int) by omega),oCT,cZ (x:=((i+1:Nat):Int)-1) (by omega) (by omega),show((i+1:Nat):Int)-1=(i:Int) by omega,cM,cM];simp only[oBS];rw[du (show i<l.length by omega),du (show i+1<l.length by omega)];simp only[oBS];have e:=JF (l[i].1,l[i].2.1) (l[i+1].1,l[i+1].2.1);rw[e,oBS]
  have ho:Dg (l[i].1,l[i].2.1) (l[i+1].1,l[i+1].2.1)<0:=by
   have:=ha i (by omega);rw[<- oh]at this;exact of_decide_eq_true this
  dsimp only;rw[oDF (by omega),oCF,cZ (by omega) (by omega)]
  rfl) (by
  unfold eT;delta cf;dsimp only
  rw[oDF (by omega),oCF])
 rw[show cr eT NN (1,f,t,l,())=_ from h]
theorem yu{i j i' j':Nat}(h:i<i'\/i=i'/\j<j'):eW ((i:Int),(j:Int)) ((i':Int),(j':Int))=true:=by
 unfold eW;rw[oBF (show(i:Int)≠-1 by omega),oBF (show(i':Int)≠-1 by omega)];rcases h with h|⟨rfl,h⟩
 ·simp[h]
 ·simp[h]
theorem J3(S:List Int)(n:Nat):Asc (pgs S n):=by
 have hr:∀m:Nat,(List.range m).Pairwise (· < ·):=λm=>List.pairwise_lt_range;unfold pgs;refine List.pairwise_append.2 ⟨List.pairwise_flatMap.2 ⟨λi _=>?_,?_⟩,?_,?_⟩
 ·unfold um;exact List.pairwise_map.2 ((hr _).imp λ{a b} h=>yu (.inr ⟨rfl,h⟩))
 ·refine(hr _).imp λ{a b} h x hx y hy=>?_;obtain⟨j,_,rfl⟩:=vi.1 hx;obtain⟨j',_,rfl⟩:=vi.1 hy;exact yu (.inl h)
 ·refine List.pairwise_map.2 ((hr _).imp λ{a b} h=>?_);unfold eW;simp[h]
 ·intro x hx y hy;obtain⟨i,_,hx⟩:=List.mem_flatMap.1 hx;obtain⟨j,_,rfl⟩:=vi.1 hx;obtain⟨t,_,rfl⟩:=List.mem_map.1 hy;unfold eW;rw[oBF (show(i:Int)≠-1 by omega)];rfl
theorem wm(C:CC)(T:TT')(D:CC)(U:TT'):Asc (dif C T D U):=List.Pairwise.filter _ (J3 _ _)
theorem FI{D:CC}{U:TT'}{l:List PID}(h:Asc l):L7 (l.map (pg D U)):=λi hi=>by
 have hi2:i+1<l.length:=by simpa using hi
 simp only[List.getElem_map];rw[GI,GI];exact List.pairwise_iff_getElem.1 h i (i+1) (by omega) hi2 (by omega)
theorem LS{C:CC}{T:TT'}(h:shp C T)(hT:SmT T){p:PID}(hp:p∈pgs (szs C) T.length):kM C T p.1 p.2=some ((pg C T p).1,(pg C T p).2.1,(pg C T p).2.2.1,(pg C T p).2.2.2.1,(pg C T p).2.2.2.2.1,(pg C T p).2.2.2.2.2.1,(pg C T p).2.2.2.2.2.2.1,(pg C T p).2.2.2.2.2.2.2.1,(pg C T p).2.2.2.2.2.2.2.2.1,(pg C T p).2.2.2.2.2.2.2.2.2.1,(pg C T p).2.2.2.2.2.2.2.2.2.2,0,()):=by
 unfold kM;rw[IA h hp,oBS];dsimp only;rw[bne_self_eq_false,oCF,K1 h hT hp];rfl
theorem EQ{C:CC}{T:TT'}{D:CC}{U:TT'}(h:J8 C T D U)(hT:SmT T)(hU:SmT U){f t:Int}(h1:0<=f)(h2:t<=200)(h3:f<=t):eM C T D U f t=some (f,t,(dif C T D U).map (pg D U),0,()):=by
 have hlen:=zP (D:=D) (U:=U) h.1;unfold eM;rw[FG h hT hU,oBS];dsimp only;rw[bne_self_eq_false,oCF,Im h1 h2 h3,oBS];delta cf;dsimp only;rw[bne_self_eq_false,oCF];obtain⟨l,hl⟩:∃l,l=dif C T D U:=⟨_,rfl⟩
 have Zr:∀p∈l,p∈pgs (szs D) U.length:=λp hp=>by
  rw[hl]at hp;rw[<- h.2.2.1,<- h.2.2.2];exact(rJ.1 hp).1
 rw[<- hl]at hlen⊢
 have RL:=fm (f:=fD) (st:=λi=>((l.length:Int),(i:Int),D,U,(0:Int),(0:Int),(),l,f,t,(l.take i).map (pg D U),())) (n:=l.length) (N:=NN) (fin:=.inr ((l.length:Int),(l.length:Int),false,D,U,(0:Int),(0:Int),(),l,f,t,(l.take l.length).map (pg D U),())) (qt (by omega)) (λi hi=>by
  unfold fD;dsimp only;rw[oDT (show(i:Int)<(l.length:Int) by omega),oCT,cM];simp only[oBS];rw[du hi];simp only[oBS];rw[LS h.2.1 hU (Zr _ (List.getElem_mem hi)),oBS];dsimp only;rw[bne_self_eq_false,oCF,df (by rw[List.length_map,oLT];omega) (by simp) (by omega) (by rw[List.length_map,oLT];simp;omega),oCT,cZ (by omega) (by omega)];rw[<- jB hi]
  rfl) (by
  unfold fD;dsimp only
  rw[oDF (by omega),oCF])
 rw[show cr fD NN ((l.length:Int),0,D,U,0,0,(),l,f,t,[],())=_ from RL];dsimp only;rw[List.take_length]
def IK(C:CC)(T:TT')(D:CC)(U:TT')(W:PID->Prop)(C':CC)(T':TT'):Prop:=
 sQ C T C' T'/\∀q∈pgs (szs C) T.length,(W q->pg C' T' q=pg D U q)/\(¬W q->pg C' T' q=pg C T q)
theorem AZ{C:CC}{T:TT'}{D:CC}{U:TT'}{W W':PID->Prop}{C':CC}{T':TT'}(hP:IK C T D U W C' T')(h:∀q,W q↔W' q):IK C T D U W' C' T':=
 ⟨hP.1,λq hq=>⟨λw=>(hP.2 q hq).1 ((h q).2 w),λn=>(hP.2 q hq).2 λw=>n ((h q).1 w)⟩⟩
theorem EA{C:CC}{T:TT'}{D:CC}{U:TT'}(h:sK C T)(hL:sQ C T D U){W:PID->Prop}{C':CC}{T':TT'}(hP:IK C T D U W C' T'){p:PID}(hp:p∈pgs (szs C) T.length):
 ∃(C2:CC)(T2:TT'),cY C' T' (pg D U p).1 (pg D U p).2.1 (pg D U p).2.2.1 (pg D U p).2.2.2.1 (pg D U p).2.2.2.2.1 (pg D U p).2.2.2.2.2.1 (pg D U p).2.2.2.2.2.2.1 (pg D U p).2.2.2.2.2.2.2.1 (pg D U p).2.2.2.2.2.2.2.2.1 (pg D U p).2.2.2.2.2.2.2.2.2.1 (pg D U p).2.2.2.2.2.2.2.2.2.2=some (C2,T2,0,())/\
  IK C T D U (λq=>W q\/q=p) C2 T2:=by
 have h':=pB h hP.1;have Q5:sQ C' T' D U:=⟨hL.1.trans hP.1.1.symm,hL.2.1.trans hP.1.2.1.symm,hL.2.2⟩
 have hp':p∈pgs (szs C') T'.length:=by rw[hP.1.1,hP.1.2.1];exact hp
 obtain⟨C2,T2,e,h1,h2⟩:=LJ h' Q5 hp';refine⟨C2,T2,e,uv hP.1 h1,λq hq=>?_⟩;have h3:=h2 q (by rw[hP.1.1,hP.1.2.1];exact hq);have h4:=hP.2 q hq;by_cases g:q=p
 ·subst g;rw[oIP rfl]at h3;exact⟨λ_=>h3,λn=>absurd (.inr rfl) n⟩
 ·rw[oIN g]at h3;rw[h3];exact⟨λw=>h4.1 (w.resolve_right g),λn=>h4.2 λw=>n (.inl w)⟩
theorem rG{α:Type}{l:List α}{i:Nat}(h:i<l.length){f:α->α}(hf:f l[i]=l[i]):l.modify i f=l:=by
 apply List.ext_getElem?;intro k;rw[List.getElem?_modify];by_cases e:i=k
 ·subst e;rw[oGE h];simp[hf]
 ·simp[e]
theorem Ld{C:CC}{T:TT'}(h:shp C T)(hT:SmT T):io C T=some (C,T,()):=by
 have h1:=h.1;have h2:=h.2.1;unfold io
 have e1:dX C=some (C,()):=by
  unfold dX;rw[df (by omega) (by omega) (by omega) (by omega),oCT];rfl
 have e2:eO T=some (T,()):=by
  unfold eO;rw[df (by omega) (by omega) (by omega) (by omega),oCT];rfl
 rw[e1,oBS];dsimp only;rw[e2,oBS];delta cf;dsimp only
 have l0:=fm (f:=eF) (st:=λi=>((C.length:Int),(i:Int),C,T,(),(),())) (n:=C.length) (N:=NN) (fin:=((C.length:Int),(C.length:Int),false,C,T,(),(),())) (qt (by omega)) (λi hi=>by
  unfold eF;dsimp only;have hok:=of_decide_eq_true (h.2.2 _ (List.getElem_mem hi));rw[oDT (show(i:Int)<(C.length:Int) by omega),oCT,cM];simp only[oBS];rw[du hi];simp only[oBS];rw[wi (by unfold Sm;omega),oBS];dsimp only;rw[rG hi rfl,cZ (by omega) (by omega)]
  rfl) (by
  unfold eF;dsimp only
  rw[oDF (by omega),oCF])
 rw[show cr eF NN ((C.length:Int),0,C,T,(),(),())=_ from l0,oBS];dsimp only
 have l1:=fm (f:=eE) (st:=λi=>((T.length:Int),(i:Int),C,T,(),(),())) (n:=T.length) (N:=NN) (fin:=((T.length:Int),(T.length:Int),false,C,T,(),(),())) (qt (by omega)) (λi hi=>by
  unfold eE;dsimp only;rw[oDT (show(i:Int)<(T.length:Int) by omega),oCT,cM];simp only[oBS];rw[du hi];simp only[oBS];unfold gz;rw[wi (hT _ (List.getElem_mem hi))];simp only[oBS];rw[rG hi rfl,cZ (by omega) (by omega)]
  rfl) (by
  unfold eE;dsimp only
  rw[oDF (by omega),oCF])
 rw[show cr eE NN ((T.length:Int),0,C,T,(),(),())=_ from l1];rfl
theorem Ak{C:CC}{T:TT'}{D:CC}{U:TT'}(h:sK C T)(hL:sQ C T D U){l:List PID}(ha:Asc l)(hl:l.length<=1000)(hm:∀p∈l,p∈pgs (szs C) T.length){f t:Int}(h1:0<=f)(h2:t<=200)(h3:f<=t):
 ∃(C':CC)(T':TT'),dN C T f f t (l.map (pg D U))=some (C',T',0,())/\IK C T D U (·∈l) C' T':=by
 unfold dN;rw[Af h1 h2 h3 (by unfold Sm;rw[List.length_map];omega) (FI ha),oBS];delta cf;dsimp only;rw[bne_self_eq_false,oCF,bne_self_eq_false,oCF,Ld h.2.1 h.2.2,oBS];dsimp only;rw[List.length_map]
 obtain⟨r,hr,C',T',e,hP⟩:=GT (f:=eU) (P:=λi s=>∃(C':CC)(T':TT'),s=(l.map (pg D U),(l.length:Int),(i:Int),f,t,l.map (pg D U),(),(),C',T',())/\IK C T D U (·∈l.take i) C' T')
  (R:=λr=>∃(C':CC)(T':TT'),r=.inr (l.map (pg D U),(l.length:Int),(l.length:Int),false,f,t,l.map (pg D U),(),(),C',T',())/\IK C T D U (·∈l) C' T') (n:=l.length) (λi s hi hs=>by
   obtain⟨C',T',rfl,hP⟩:=hs;obtain⟨C2,T2,e,OR⟩:=EA h hL hP (hm _ (List.getElem_mem hi));refine⟨(l.map (pg D U),(l.length:Int),((i+1:Nat):Int),f,t,l.map (pg D U),(),(),C2,T2,()),?_,C2,T2,rfl,AZ OR λq=>?_⟩
   ·unfold eU;dsimp only;rw[oDT (show(i:Int)<(l.length:Int) by omega),oCT,cM];simp only[oBS];rw[du (show i<(l.map (pg D U)).length by rw[List.length_map];exact hi)];simp only[oBS,List.getElem_map];rw[e,oBS];dsimp only;rw[bne_self_eq_false,oCF,cZ (by omega) (by omega)];rfl
   ·rw[<- nR hi,List.mem_append,List.mem_singleton]) (λs hs=>by
   obtain⟨C',T',rfl,hP⟩:=hs;refine⟨_,?_,C',T',rfl,AZ hP λq=>by rw[List.take_length]⟩;unfold eU;dsimp only
   rw[oDF (by omega),oCF]) (s:=(l.map (pg D U),(l.length:Int),((0:Nat):Int),f,t,l.map (pg D U),(),(),C,T,())) ⟨C,T,rfl,⟨⟨rfl,rfl,h.2.2⟩,λq _=>⟨λw=>by simp at w,λ_=>rfl⟩⟩⟩ (N:=NN) (qt (by omega))
 subst e;rw[show cr eU NN (l.map (pg D U),(l.length:Int),0,f,t,l.map (pg D U),(),(),C,T,())=_ from hr];exact⟨C',T',rfl,hP⟩
theorem xN(l:List PID):∀a:List PID,(l.foldl xw a).length<=a.length+l.length:=by
 induction l with
 |nil=>intro a;simp
 |cons x r ih=>
  intro a;rw[List.foldl_cons,oLC];have h1:=ih (xw a x);have h2:=zt x a;omega
theorem vQ{L:List PG}{id:PID}{v:PG}(h:∀p∈L,iW p=id->p=v):∀a:PG,((∃p∈L,iW p=id)\/a=v)->L.foldl (λa p=>if iW p=id then p else a) a=v:=by
 induction L with
 |nil=>intro a ha;rcases ha with⟨p,hp,_⟩|ha;simp at hp;exact ha
 |cons x L ih=>
  intro a ha;rw[List.foldl_cons];apply ih λp hp=>h p (by simp[hp]);by_cases e:iW x=id
  ·rw[oIP e];exact .inr (h x (by simp) e)
  ·rw[oIN e]
   rcases ha with⟨p,hp,e2⟩|ha
   ·rcases List.mem_cons.1 hp with rfl|hp
    ·exact absurd e2 e
    ·exact .inl ⟨p,hp,e2⟩
   ·exact .inr ha
theorem pS{D:CC}{U:TT'}(p:PID):iW (pg D U p)=p:=GI p
theorem GU{D:CC}{U:TT'}{E:CC}{V:TT'}{l m:List PID}{p:PID}(hp:p∈l\/p∈m)(he:p∈l->p ∉ m->pg D U p=pg E V p):gQ (l.map (pg D U)++m.map (pg E V)) p=pg E V p:=by
 unfold gQ;rw[List.foldl_append]
 have h2:∀q∈m.map (pg E V),iW q=p->q=pg E V p:=λq hq e=>by
  obtain⟨r,_,rfl⟩:=List.mem_map.1 hq;rw[pS]at e;rw[e]
 have h1:∀q∈l.map (pg D U),iW q=p->q=pg D U p:=λq hq e=>by
  obtain⟨r,_,rfl⟩:=List.mem_map.1 hq;rw[pS]at e;rw[e]
 by_cases hm:p∈m
 ·exact vQ h2 _ (.inl ⟨_,List.mem_map.2 ⟨p,hm,rfl⟩,pS p⟩)
 ·have hl:=hp.resolve_right hm;refine vQ h2 _ (.inr ?_);rw[vQ h1 _ (.inl ⟨_,List.mem_map.2 ⟨p,hl,rfl⟩,pS p⟩)];exact he hl hm
theorem AW{S:List Int}{n:Nat}(h:Szs S)(hn:n<=4){p:PID}(hp:p∈pgs S n):wfP p=true:=by
 have h4:=h.1
 rcases jV.1 hp with⟨i,j,hi,hj,rfl⟩|⟨t,ht,rfl⟩
 ·have:=Ft h hi;simp only[wfP,oBA];refine⟨?_,?_⟩
  ·simp[Lit.wf,IntKind.min,IntKind.max,IntKind.signed,IntKind.bits];omega
  ·simp[Lit.wf,IntKind.min,IntKind.max,IntKind.signed,IntKind.bits];omega
 ·simp only[wfP,oBA];refine⟨rfl,?_⟩;simp[Lit.wf,IntKind.min,IntKind.max,IntKind.signed,IntKind.bits];omega
theorem JI{C:CC}{T:TT'}{D:CC}{U:TT'}{E:CC}{V:TT'}(h:sK C T)(hD:sQ C T D U)(hE:sQ C T E V){l m:List PID}(al:Asc l)(am:Asc m)(hl:∀p∈l,p∈pgs (szs C) T.length)(hm:∀p∈m,p∈pgs (szs C) T.length)(kl:l.length<=1000)(km:m.length<=1000)
 (he:∀p∈l,p ∉ m->pg D U p=pg E V p){f g t:Int}(h1:0<=f)(h2:f<=g)(h3:g<=t)(h4:t<=200):
 cW f g (l.map (pg D U)) g t (m.map (pg E V))=some (f,t,(jv (l++m)).map (pg E V),0,()):=by
 have sD:=iX hD h.2.1;have sE:=iX hE h.2.1
 have hok:pA (l.map (pg D U)) (m.map (pg E V))=true:=by
  simp only[pA,oBA,oDE,List.all_eq_true];refine⟨by rw[List.length_map,List.length_map];omega,λq hq=>?_⟩;rcases List.mem_append.1 hq with hq|hq
  ·obtain⟨p,hp,rfl⟩:=List.mem_map.1 hq;have:=IZ sD hD.2.2 (p:=p) (by rw[hD.1,hD.2.1];exact hl p hp);exact⟨⟨this.1,this.2⟩,by rw[pS];exact AW (pO h.2.1) h.2.1.2.1 (hl p hp)⟩
  ·obtain⟨p,hp,rfl⟩:=List.mem_map.1 hq;have:=IZ sE hE.2.2 (p:=p) (by rw[hE.1,hE.2.1];exact hm p hp);exact⟨⟨this.1,this.2⟩,by rw[pS];exact AW (pO h.2.1) h.2.1.2.1 (hm p hp)⟩
 unfold cW;rw[oIP hok,show d9 f g (l.map (pg D U))=_ from Af h1 (by omega) h2 (by unfold Sm;rw[List.length_map];omega) (FI al),oBS];dsimp only;rw[show d9 g t (m.map (pg E V))=_ from Af (by omega) h4 h3 (by unfold Sm;rw[List.length_map];omega) (FI am),oBS];dsimp only;rw[oIN (by simp),oIN (by simp),oIN (by simp)]
 have Pq:(l.map (pg D U)++m.map (pg E V)).map iW=l++m:=by
  rw[List.map_append,List.map_map,List.map_map];have e1:(iW ∘ pg D U)=id:=funext λp=>pS p;have e2:(iW ∘ pg E V)=id:=funext λp=>pS p;rw[e1,e2,List.map_id,List.map_id]
 rw[Pq,JK (by rw[List.length_append];simp;omega),List.append_nil,oBS];dsimp only;have Wb:(jv (l++m)).length<=0+(l++m).length:=xN (l++m) []
 have ZW:(jv (l++m)).all wfP=true:=by
  rw[List.all_eq_true];intro p hp;have hp:=(kp _ _).1 hp;rcases List.mem_append.1 hp with hp|hp
  ·exact AW (pO h.2.1) h.2.1.2.1 (hl p hp)
  ·exact AW (pO h.2.1) h.2.1.2.1 (hm p hp)
 rw[oIP ⟨by rw[List.length_append]at Wb;omega,ZW⟩]
 have e:(jv (l++m)).map (gQ (l.map (pg D U)++m.map (pg E V)))=(jv (l++m)).map (pg E V):=by
  refine List.map_congr_left λp hp=>?_;have hp:=(kp _ _).1 hp;exact GU (List.mem_append.1 hp) (he p)
 rw[e]
theorem vc{C:CC}{T:TT'}{D:CC}{U:TT'}(hL:sQ C T D U){l:List PID}(hl:∀p,p∈pgs (szs C) T.length->p ∉ l->pg C T p=pg D U p){C':CC}{T':TT'}(hP:IK C T D U (·∈l) C' T'):C'=D/\T'=U:=by
 refine EE (hL.1.trans hP.1.1.symm) (hL.2.1.trans hP.1.2.1.symm) λq hq=>?_;rw[hP.1.1,hP.1.2.1]at hq;have h:=hP.2 q hq;by_cases g:q∈l
 ·exact h.1 g
 ·rw[h.2 g];exact hl q hq g
theorem rE{C:CC}{T:TT'}{D:CC}{U:TT'}{p:PID}(hp:p∈pgs (szs C) T.length)(h:p ∉ dif C T D U):pg C T p=pg D U p:=Classical.byContradiction λn=>h (rJ.2 ⟨hp,n⟩)
theorem Ho(C:CC)(T:TT'):dif C T C T=[]:=by
 unfold dif;simp
theorem LH{a:Int}(h:0<=a/\a<=255):0<=Int.tmod (wk .i64 a) 60/\Int.tmod (wk .i64 a) 60<60:=by
 have e:wk .i64 a=a:=wrap_i64 (by omega) (by omega);rw[e];exact⟨Int.tmod_nonneg _ h.1,Int.tmod_lt_of_pos _ (by omega)⟩
theorem Fg(l:List Int){a b c:Int}(ha:0<=a/\a<=255)(hb:0<=b/\b<=255)(hc:0<=c/\c<=255):fN l a b c=some (true,()):=by
 unfold fN;rw[LT,oBS];dsimp only;by_cases hl:l.length<=400
 rotate_left
 ·rw[oDF hl];simp only[Bool.not_false,oCT];rw[FH];rfl
 rw[oDT hl];simp only[oNT,oCF];obtain⟨C,T,k1,e,hd,h1⟩:=IX hl (Int.le_refl 0);rw[e,oBS];dsimp only;obtain⟨x,k2,e,xa,xb,h2⟩:=gm (n:=5) (by omega) (by omega) hl h1;rw[e,oBS];dsimp only;obtain⟨D,U,k3,e,hD,h3⟩:=Iu hd xa (by omega) hl h2;rw[e,oBS];dsimp only;obtain⟨y,k4,e,ya,yb,h4⟩:=gm (n:=5) (by omega) (by omega) hl h3;rw[e,oBS];dsimp only;obtain⟨E,V,k5,e,OM,h5⟩:=Iu (pB hd hD) ya (by omega) hl h4;have hE:=uv hD OM;have hs:=ET hd;rw[e,oBS];dsimp only;have a12:=wn hd hs hD;have a23:=wn hd hD hE;have a33:=wn hd hE hE;obtain⟨f0,f1⟩:=LH ha;obtain⟨g0,g1⟩:=LH hb;obtain⟨t0,t1⟩:=LH hc;generalize Int.tmod (wk .i64 a) 60=f at *;generalize Int.tmod (wk .i64 b) 60=g at *;generalize Int.tmod (wk .i64 c) 60=t at *;rw[cZ (x:=f+g) (by omega) (by omega),cZ (x:=f+g+t) (by omega) (by omega)];have m1:∀p∈dif C T D U,p∈pgs (szs C) T.length:=λp hp=>(rJ.1 hp).1
 have m2:∀p∈dif D U E V,p∈pgs (szs C) T.length:=λp hp=>by
  have:=(rJ.1 hp).1;rw[hD.1,hD.2.1]at this;exact this
 have l1:=zP (D:=D) (U:=U) hd.2.1;have l2:=zP (D:=E) (U:=V) (iX hD hd.2.1);have Wb:(jv (dif C T D U++dif D U E V)).length<=0+(dif C T D U++dif D U E V).length:=xN _ [];rw[List.length_append]at Wb;rw[EQ a12 hd.2.2 hD.2.2 f0 (by omega) (by omega),oBS];dsimp only;rw[EQ a23 hD.2.2 hE.2.2 (by omega) (by omega) (by omega),oBS];dsimp only;rw[JI hd hD hE (wm _ _ _ _) (wm _ _ _ _) m1 m2 (by omega) (by omega) (λp hp hn=>rE (by rw[hD.1,hD.2.1];exact m1 p hp) hn) f0 (by omega) (by omega) (by omega),oBS];dsimp only;rw[EQ a33 hE.2.2 hE.2.2 f0 (by omega) (by omega),oBS];dsimp only;obtain⟨C1,T1,e,hP⟩:=Ak hd hD (wm C T D U) (by omega) m1 f0 (t:=f+g) (by omega) (by omega);obtain⟨rfl,rfl⟩:=vc hD (λp hp hn=>rE hp hn) hP;rw[e,oBS];dsimp only;obtain⟨C2,T2,e,OR⟩:=Ak (pB hd hD) OM (wm C1 T1 E V) (by omega) (λp hp=>(rJ.1 hp).1) (f:=f+g) (t:=f+g+t) (by omega) (by omega) (by omega);obtain⟨rfl,rfl⟩:=vc OM (λp hp hn=>rE hp hn) OR;rw[e,oBS];dsimp only
 obtain⟨C3,T3,e,hP3⟩:=Ak hd hE (wJ (dif C T C1 T1++dif C1 T1 C2 T2)) (by omega) (λp hp=>by
  rcases List.mem_append.1 ((kp _ _).1 hp)with h|h
  ·exact m1 p h
  ·exact m2 p h) f0 (t:=f+g+t) (by omega) (by omega)
 obtain⟨rfl,rfl⟩:=vc hE (λp hp hn=>by
  have h1:p ∉ dif C T C1 T1:=λh=>hn ((kp _ _).2 (List.mem_append_left _ h));have h2:p ∉ dif C1 T1 C2 T2:=λh=>hn ((kp _ _).2 (List.mem_append_right _ h))
  exact(rE hp h1).trans (rE (by rw[hD.1,hD.2.1];exact hp) h2)) hP3
 rw[e,oBS];dsimp only;simp only[bne_self_eq_false,oCF,oBS];rw[Iq (iX hD hd.2.1) hD.2.2,oBS];dsimp only;rw[oDT ⟨rfl,rfl⟩,oCT,Iq (iX hE hd.2.1) hE.2.2,oBS];dsimp only;rw[oDT ⟨rfl,rfl⟩,oCT,oBS];delta cf;dsimp only;rw[oCT,Ho,List.map_nil];rw[show((([]:List PG).length:Int)==0)=true from rfl,oCT];simp only[List.length_map];rw[cZ (by omega) (by omega),oDT (by omega),oCT,beq_self_eq_true,oCT,beq_self_eq_true,oCT,FH];rfl
def EJ:List CT->CT
 | []=>.nat
 | [t]=>t
 |t::u::r=>.pair t (EJ (u::r))
def mR:(l:List CT)->HL den l->den (EJ l)
 | [],_=>(0:Nat)
 | [_],h=>h.1
 |_::u::r,h=>(h.1,mR (u::r) h.2)
def encL:(l:List CT)->HL den l->List TV
 | [],_=>[]
 |t::r,h=>enc t h.1++encL r h.2
theorem Bp:∀(l:List CT)(h:HL den l),enc (EJ l) (mR l h)=encL l h
 | [],_=>rfl
 | [_],h=>(List.append_nil _).symm
 |_::u::r,h=>by
  show enc _ h.1++enc (EJ (u::r)) (mR (u::r) h.2)=_;rw[Bp (u::r) h.2];rfl
def FQ:(c:CT)->den c->Prop
 |.int k,n=>(Lit.int k n).wf=true
 |.str,s=>ByteArray.size s<=maxLen
 |.row _ t,xs=>List.length xs<=maxLen/\∀x∈xs,FQ t x
 |.pair a b,x=>FQ a x.1/\FQ b x.2
 |_,_=>True
def GoodL:(l:List CT)->HL den l->Prop
 | [],_=>True
 |t::r,h=>FQ t h.1/\GoodL r h.2
theorem xL:∀(l:List CT)(h:HL den l),GoodL l h->FQ (EJ l) (mR l h)
 | [],_,_=>trivial
 | [_],_,g=>g.1
 |_::u::r,h,g=>⟨g.1,xL (u::r) h.2 g.2⟩
def appL:(l m:List CT)->HL den l->HL den m->HL den (l++m)
 | [],_,_,k=>k
 |_::r,m,h,k=>(h.1,appL r m h.2 k)
theorem Bq:∀(l m:List CT)(h:HL den l)(k:HL den m),encL (l++m) (appL l m h k)=encL l h++encL m k
 | [],_,_,_=>rfl
 |t::r,m,h,k=>by
  show enc t h.1++encL (r++m) (appL r m h.2 k)=(enc t h.1++encL r h.2)++_;rw[Bq r m h.2 k,List.append_assoc]
theorem Bg:∀(l m:List CT)(h:HL den l)(k:HL den m),GoodL l h->GoodL m k->GoodL (l++m) (appL l m h k)
 | [],_,_,_,_,g=>g
 |_::r,m,h,k,g,g'=>⟨g.1,Bg r m h.2 k g.2 g'⟩
def RelL(w:World):List TV->List Value->Prop
 | [],[]=>True
 |t::ts,v::vs=>fR w (λ_=>True) t v/\RelL w ts vs
 |_,_=>False
theorem RelL.app{w:World}:∀{a:List TV}{x:List Value}{b:List TV}{y:List Value},RelL w a x->RelL w b y->RelL w (a++b) (x++y)
 | [],[],_,_,_,h=>h
 |_::a,_::x,_,_,g,h=>⟨g.1,RelL.app (a:=a) (x:=x) g.2 h⟩
 | [],_::_,_,_,g,_=>g.elim
 |_::_,[],_,_,g,_=>g.elim
theorem RelL.len{w:World}:∀{a:List TV}{x:List Value},RelL w a x->a.length=x.length
 | [],[],_=>rfl
 |_::a,_::x,g=>by rw[oLC,oLC,RelL.len (a:=a) (x:=x) g.2]
 | [],_::_,g=>g.elim
 |_::_,[],g=>g.elim
theorem RelL.get{w:World}:∀{a:List TV}{x:List Value},RelL w a x->∀j (h:j<a.length)(h':j<x.length),fR w (λ_=>True) a[j] x[j]
 |_::_,_::_,g,0,_,_=>g.1
 |_::a,_::x,g,j+1,h,h'=>RelL.get (a:=a) (x:=x) g.2 j (by simpa using h) (by simpa using h')
 | [],_,_,_,h,_=>by simp at h
 |_::_,[],g,_,_,_=>g.elim
def KI(P:Program)(g:TypeId->Option (List CT)):Nat->List Field->Option (List CT)
 |_,[]=>some []
 |off,f::fs=>match g f.type with
  |some l=>if f.offset=off/\l.length=P.cellsOf f.type then(KI P g (off+l.length) fs).map (l++·)else none
  |none=>none
def ru(P:Program):Nat->TypeId->Option (List CT)
 |0,_=>none
 |n+1,t=>match P.underlying t with
  |some .bool=>some [.bool]
  |some (.int k)=>some [.int k]
  |some .string=>some [.str]
  |some (.slice e)=>match ru P n e with
   |some l=>if l.length=P.cellsOf e then some [.row false (EJ l)]else none
   |none=>none
  |some (.struct fs)=>match KI P (ru P n) 0 fs.toList with
   |some l=>if l.length=P.cellsOf t then some l else none
   |none=>none
  |_=>none
section
variable {H:Type} {ec:TypeId×Value->H} {P:Program} {w:World} {base:Nat} {spare:Nat->Bool} {held:Bool}
theorem E4{g:TypeId->Option (List CT)}{m:Nat}{cs:List Value}
 (ih:∀t L,g t=some L->∀cs x,DataW.trod ec P w base spare held m t cs=some x->∃h:HL den L,GoodL L h/\RelL w (encL L h) cs):
 ∀(fs:List Field)(off:Nat)(L:List CT),KI P g off fs=some L->(∀f∈fs,∃x,DataW.trod ec P w base spare held m f.type ((cs.drop f.offset).take (P.cellsOf f.type))=some x)->
  ∃h:HL den L,GoodL L h/\RelL w (encL L h) ((cs.drop off).take L.length):=by
 intro fs
 induction fs with
 |nil=>
  intro off L hL _
  injection hL with hL
  subst hL;exact⟨(),trivial,trivial⟩
 |cons f fs P'=>
  intro off L hL hx;unfold KI at hL;split at hL
  ·rename_i l hg;split at hL
   ·rename_i ho;obtain⟨rfl,hlen⟩:=ho
    cases hr:KI P g (f.offset+l.length) fs with
    |none=>simp_all
    |some L2=>
     rw[hr]at hL
     injection hL with hL
     subst hL;obtain⟨x,h1⟩:=hx f List.mem_cons_self;obtain⟨h,g1,r1⟩:=ih _ _ hg _ _ h1;have ⟨k,g2,r2⟩:=P' _ _ hr λf' Qt=>hx f' (List.mem_cons_of_mem _ Qt);refine⟨appL l L2 h k,Bg _ _ _ _ g1 g2,?_⟩;rw[Bq,List.length_append,List.take_add,List.drop_drop];rw[hlen];rw[hlen]at r2;exact r1.app r2
   ·cases hL
  ·cases hL
theorem KX:∀(n:Nat)(t:TypeId)(L:List CT),ru P n t=some L->∀(XH:Nat)(cs:List Value)(x:DataW H×List MemPlace),DataW.trod ec P w base spare held XH t cs=some x ->
 ∃h:HL den L,GoodL L h/\RelL w (encL L h) cs:=by
 intro n
 induction n with
 |zero=>intro t L h;cases h
 |succ n ih=>
  intro t L hL XH cs x hx;unfold ru at hL;split at hL
  ·rename_i ht
   injection hL with hL
   subst hL;obtain⟨b,rfl,_⟩:=DataW.trod_bool ht hx;exact⟨(b,()),⟨trivial,trivial⟩,.v rfl,trivial⟩
  ·rename_i k ht
   injection hL with hL
   subst hL;obtain⟨z,rfl,_,hw⟩:=DataW.trod_int ht hx;exact⟨(z,()),⟨hw,trivial⟩,.v rfl,trivial⟩
  ·rename_i ht
   injection hL with hL
   subst hL;obtain⟨s,rfl,_,hs⟩:=DataW.trod_string ht hx;exact⟨(s,()),⟨hs,trivial⟩,.v rfl,trivial⟩
  ·rename_i e ht;split at hL
   ·rename_i l hl;split at hL
    ·rename_i hsz
     injection hL with hL
     subst hL
     rcases DataW.trod_slice ht hx with⟨rfl,_⟩|⟨a,len,cap,MX,rest,m,_,rfl,_,_,YS,hmax,YQ,Z6,_,_⟩
     ·exact⟨([],()),⟨⟨Nat.zero_le _,λx hx=>by cases hx⟩,trivial⟩,.sl (c:=[]) 1 (λ_ _=>undef) (λi h=>by simp at h) (Nat.le_refl _) (Nat.zero_le _) (λ_=>rfl) (λi j h=>by simp at h) (λi j h=>by simp at h),trivial⟩
     ·have Ov:∀i:Fin len,∃p:HL den l×List Value,GoodL l p.1/\RelL w (encL l p.1) p.2/\w.cells? base (a.add (i.1*P.cellsOf e)) (P.cellsOf e)=some p.2:=by
       intro i;have h1:=Z6 i.1 i.2;rw[oGE (by omega)]at h1;obtain⟨Ve,h2,h3⟩:=Option.bind_eq_some_iff.1 h1;obtain⟨h,g,r⟩:=ih _ _ hl _ _ _ h3;exact⟨(h,Ve),g,r,h2⟩
      obtain⟨f,hf⟩:=Classical.axiomOfChoice Ov
      have Ou:∀i,(encL l (f i).1).length=l.length:=λi=>by
       rw[(hf i).2.1.len,(World.cells?_some (hf i).2.2).2.1,hsz]
      have ZR:fR w (λ_=>True) (.sl ((List.ofFn λi:Fin len=>mR l (f i).1).map (enc (EJ l)))) (.slice (some a) ((List.ofFn λi:Fin len=>mR l (f i).1).map (enc (EJ l))).length cap):=by
       have el:((List.ofFn λi:Fin len=>mR l (f i).1).map (enc (EJ l))).length=len:=by simp
       have eg:∀i (hi:i<((List.ofFn λi:Fin len=>mR l (f i).1).map (enc (EJ l))).length),((List.ofFn λi:Fin len=>mR l (f i).1).map (enc (EJ l)))[i]=encL l (f ⟨i,by omega⟩).1:=by
        intro i hi;simp[Bp]
       refine .sl l.length (λi j=>if h:i<len then(f ⟨i,h⟩).2.getD j undef else undef) (λi hi=>by rw[eg i hi,Ou]) (by rw[el];exact YS) hmax (λh=>by cases h) (λi j hi hj=>?_) (λi j hi hj=>?_)
       ·rw[el]at hi
        have cell:∀i' (ZM:i'<len) j',j'<l.length->w.cell? ((a.add (i'*l.length)).add j')=some ((f ⟨i',ZM⟩).2.getD j' undef):=by
         intro i' ZM j' ZU;have h1:=World.cells?_some (hf ⟨i',ZM⟩).2.2;have h2:=h1.2.2 j' (by omega);rw[hsz];rw[h2]
         have:j'<(f ⟨i',ZM⟩).2.length:=by rw[h1.2.1];omega
         simp[this]
        have h0:=World.cell?_spot (cell 0 (by omega) 0 (by omega));obtain⟨b,o,spot⟩:=a
        have Sg:spot=none:=by simpa[Addr.add]using h0
        subst Sg;refine⟨b,o,rfl,trivial,?_⟩;have h2:=cell i hi j hj;rw[Go.WideShapes.add_plain,Go.WideShapes.add_plain]at h2;rw[dif_pos hi,<- h2,Nat.add_assoc]
       ·rw[el]at hi;have hr:=(hf ⟨i,hi⟩).2.1
        have XK:j<(encL l (f ⟨i,hi⟩).1).length:=by rw[eg i (by omega)]at hj;exact hj
        have S3:j<(f ⟨i,hi⟩).2.length:=by rw[<- hr.len];exact XK
        have h3:=hr.get j XK S3
        simp_all
      rw[List.length_map,List.length_ofFn]at ZR;refine⟨(List.ofFn λi:Fin len=>mR l (f i).1,()),⟨⟨by rw[List.length_ofFn];omega,λx hx=>?_⟩,trivial⟩,ZR,trivial⟩;obtain⟨i,rfl⟩:=List.mem_ofFn.1 hx;exact xL _ _ (hf i).1
    ·cases hL
   ·cases hL
  ·rename_i fs ht;split at hL
   ·rename_i l hl;split at hL
    ·rename_i hsz
     injection hL with hL
     subst hL;obtain⟨xs,m,_,_,hlen,SA,hf⟩:=DataW.trod_struct ht hx
     obtain⟨h,g,r⟩:=E4 (cs:=cs) (m:=m) (λt L hL cs x hx=>ih t L hL m cs x hx) fs.toList 0 l hl (by
      intro f hfm;obtain⟨i,hi,rfl⟩:=List.mem_iff_getElem.1 hfm
      have hi2:i<fs.size:=by simpa using hi
      have h1:=hf i fs[i] (by simp[hi2]);rw[oGE (by omega)]at h1
      exact⟨_,by simpa using h1⟩)
     refine⟨h,g,?_⟩;rw[List.drop_zero,hsz,<- hlen,List.take_length]at r;exact r
    ·cases hL
   ·cases hL
  ·cases hL
theorem intake_arg(n:Nat){t:TypeId}{L:List CT}{v:Value}{d:DataW H}{p:List MemPlace}(hL:ru P n t=some L)(h:DataW.Trod ec P w base spare held t v d p):
 ∃h:HL den L,GoodL L h/\RelL w (encL L h) v.cells.toList:=by
 have ⟨XH,hf⟩:=h;exact KX n t L hL XH _ _ hf
end
theorem plain_one{w:World}{t:TV}{v:Value}(r:RelL w [t] [v]):An w t v:=r.1.plain
theorem IT{h:HL den [(.int .u8)]}(g:GoodL [(.int .u8)] h):0<=h.1/\h.1<=255:=by
 have h1:(Lit.int .u8 h.1).wf=true:=g.1;simp[Lit.wf,IntKind.min,IntKind.max,IntKind.signed,IntKind.bits]at h1;omega
theorem law_DeltaFollows{h0:HL den [RI]}{h1 h2 h3:HL den [(.int .u8)]}(g0:GoodL _ h0)(g1:GoodL _ h1)(g2:GoodL _ h2)(g3:GoodL _ h3):iN.g (appL [RI] _ h0 (appL [(.int .u8)] _ h1 (appL [(.int .u8)] _ h2 (appL [(.int .u8)] _ h3 ()))))=some (true,()):=Fg h0.1 (IT g1) (IT g2) (IT g3)
end Go.Proofs.Ytbdhpgelkfncpaa
