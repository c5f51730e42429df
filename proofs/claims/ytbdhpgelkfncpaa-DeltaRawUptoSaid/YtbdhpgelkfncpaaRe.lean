/- Part of the proof; no condition. -/
import Derived.Test.YtbdhpgelkfncpaaRd
import Derived.Deep.RegionLaw
import Derived.Test.YtbdhpgelkfncpaaProg
import Derived.KernelRfl
import Derived.WalkKit
import Derived.WalkSpells
import Derived.Handy
import Derived.OpenShut
import Derived.Deep.Slices
set_option linter.unusedVariables false
set_option linter.unusedSimpArgs false
namespace Go.Proofs.Ytbdhpgelkfncpaa
open Go.RowKit Go.Maps
def At:iM:=(0,0,[],0,0,0,0,0,0,0,[])
def bY(p:iM):Int×Int:=(p.1,p.2.1)
def is(L:List iM)(id:Int×Int):iM:=L.foldl (λa p=>if bY p=id then p else a) At
theorem zj{L:List iM}{k:Nat}(h:k<L.length)(id:Int×Int):is (L.take (k+1)) id=if bY L[k]=id then L[k]else is (L.take k) id:=by
 unfold is;rw[List.take_succ_eq_append_getElem h,List.foldl_append];rfl
def rId:Rp (Int×Int):=mG (rI .i64) (rI .i64)
theorem Ix:RIm rId (enc (.pair (.int .i64) (.int .i64))) λ_=>True:=(eG (nq _) (nq _)).weak (λ_=>rfl) λ_ _=>⟨trivial,trivial⟩
theorem Mq:SlT Try.prog 68 56 rId.size 16:=
 ⟨by kernel_rfl,by
  have h:(Try.prog.info? 56).map (λi=>(i.zero,i.size,i.bytes))=some (some (.agg #[.int .i64 0,.int .i64 0]),2,16):=by kernel_rfl
  obtain⟨i,hi,hz,hs,hb⟩:=info_parts h
  exact⟨i,_,hi,hz,hs,hb,rfl⟩,rId.pos⟩
theorem L8{w:World}{F:Nat->Prop}(x:Int×Int):rId.rep w F x [.int .i64 x.1,.int .i64 x.2]:=⟨[_],_,rfl,rfl,rfl⟩
theorem Lf{w:World}{F:Nat->Prop}{x:Int×Int}{cs:List Value}(h:rId.rep w F x cs):cs=[.int .i64 x.1,.int .i64 x.2]:=by
 obtain⟨_,_,rfl,rfl,rfl⟩:=h;rfl
def pgC(p:iM)(y z:Value):List Value:=.int .i64 p.1 :: .int .i64 p.2.1::y::vwC p.2.2.2 z
theorem A9{w:World}{F:Nat->Prop}{p:iM}{cs:List Value}(h:rPg.rep w F p cs):∃y z,cs=pgC p y z/\RSl rCn w F p.2.2.1 y/\RSl rCn w F p.2.2.2.2.2.2.2.2.2.2 z:=by
 obtain⟨_,_,rfl,rfl,_,_,rfl,rfl,_,_,rfl,⟨y,rfl,hy⟩,hv⟩:=h;obtain⟨z,rfl,hz⟩:=Iq hv;exact⟨y,z,rfl,hy,hz⟩
theorem L3{w:World}{F:Nat->Prop}{p:iM}{y z:Value}(hy:RSl rCn w F p.2.2.1 y)(hz:RSl rCn w F p.2.2.2.2.2.2.2.2.2.2 z):rPg.rep w F p (pgC p y z):=
 ⟨[_],_,rfl,rfl,[_],_,rfl,rfl,[_],_,rfl,⟨y,rfl,hy⟩,LZ hz⟩
theorem Gi(w:World)(F:Nat->Prop):∃cs:List Value,zPg=.agg cs.toArray/\rPg.rep w F At cs:=⟨_,rfl,L3 (p:=At) (RSl.nil _ _) (RSl.nil _ _)⟩
theorem ug{α:Type}{R:Rp α}{w:World}{F:Nat->Prop}:∀{xs:List α}{cs:List Value},eJ R w F xs cs->∃WR:List (List Value),WR.length=xs.length/\cs=WR.flatten/\∀k (h:k<xs.length)(h':k<WR.length),R.rep w F xs[k] WR[k]
 | [],_,h=>⟨[],rfl,h,λk h=>by cases h⟩
 |x::r,_,⟨c,d,e,h1,h2⟩=>by
  obtain⟨WR,e1,e2,e3⟩:=ug h2;refine⟨c::WR,by simp[e1],by rw[e,e2];rfl,λk h h'=>?_⟩
  cases k with
  |zero=>exact h1
  |succ k=>exact e3 k (by simpa using h) (by simpa using h')
def IR(F:Nat->Prop)(w:World):Prop:=∀(w':World)(p:iM)(cs:List Value),w.grownBy w' none->rPg.rep w' F p cs->Calls Try.prog 34 #[.agg cs.toArray] w' λe w2=>∃Vd,e=.returned (.agg Vd.toArray)/\rPg.rep w2 (λk=>F k\/w'.heap.size<=k) p Vd/\w'.grownBy w2 none
def Mn(ids sids:List (Int×Int))(w:World):Prop:=∀(w':World)(V:Value)(G:Nat->Prop),w.grownBy w' none->RSl rId w' G ids V->Calls Try.prog 33 #[V,.slice none 0 0] w' λe w2=>∃v,e=.returned v/\RSl rId w2 (λk=>G k\/w'.heap.size<=k) sids v/\w'.grownBy w2 none
def Km(x:Int×Int):Prop:=(Lit.int .i64 x.1).wf=true/\(Lit.int .i64 x.2).wf=true
theorem MgS.row{w wr w':World}{xf xt yf yt:Int}{X Y:Value}{row:Option Nat}(h:MgS w xf xt yf yt X Y (w.heap.size+1+1+1) wr)(hg:wr.grownBy w' row)(hr:∀x,row=some x->w.heap.size+1+1+1<x):MgS w xf xt yf yt X Y (w.heap.size+1+1+1) w':=
 ⟨fw h.grown hg λx e=>by have:=hr x e;omega,h.b2.keep (hg.block _ h.b2.hi λe=>by have:=hr _ e.symm;omega),h.b3.keep (hg.block _ h.b3.hi λe=>by have:=hr _ e.symm;omega),h.b4.keep (hg.block _ h.b4.hi λe=>by have:=hr _ e.symm;omega),h.b6.keep (hg.block _ h.b6.hi λe=>by have:=hr _ e.symm;omega)⟩
structure M2 (w:World)(xf xt yf yt:Int)(X Y:Value)(F:Nat->Prop)(L:List Value)(b9 B2:Nat)(wL:World)(ps:List iM)(k m:Nat)(idsV:Value)(wr:World):Prop where
 bs:MgS w xf xt yf yt X Y (w.heap.size+1+1+1) wr
 map:∃f,PMp wr L b9 k f/\∀id,∃cs:List Value,f id=.agg cs.toArray/\rPg.rep wr F (is (ps.take k) id) cs
 ids:Mk rId 56 B2 wr (λ_=>False) idsV ((ps.take m).map bY)
 same:∀x,x<B2->x≠b9->wr.heap[x]?=wL.heap[x]?
 size:B2<=wr.heap.size
 b9q:w.heap.size+1+1+1<b9
 b9B:b9<B2
theorem yY{w wr w':World}{F:Nat->Prop}{p:iM}{cs:List Value}(hF:∀x,F x->x<w.heap.size)(hs:w.heap.size<=wr.heap.size)(h:rPg.rep wr F p cs){row:Option Nat}(hg:wr.grownBy w' row)(hr:∀x,row=some x->w.heap.size<=x):rPg.rep w' F p cs:=
 rPg.keep h λx hx=>hg.block x (by have:=hF x hx;omega) λe=>by have:=hr x e.symm;have:=hF x hx;omega
theorem M2.over{w:World}{xf xt yf yt:Int}{X Y:Value}{F:Nat->Prop}{L:List Value}{b9 B2:Nat}{wL:World}{ps:List iM}{k m m':Nat}{idsV Uv:Value}{wr w':World}{row:Option Nat}(h:M2 w xf xt yf yt X Y F L b9 B2 wL ps k m idsV wr)(hF:∀x,F x->x<w.heap.size)
 (hg:wr.grownBy w' row)(hr:∀x,row=some x->B2<=x)(hi:Mk rId 56 B2 w' (λ_=>False) Uv ((ps.take m').map bY)):M2 w xf xt yf yt X Y F L b9 B2 wL ps k m' Uv w':=by
 have h1:=h.b9q;have h2:=h.b9B;have h3:=h.size;refine⟨h.bs.row hg λx e=>by have:=hr x e;omega,?_,hi,λx hx hn=>(hg.block x (by omega) λe=>by have:=hr x e.symm;omega).trans (h.same x hx hn),Nat.le_trans h3 hg.size,h1,h2⟩;obtain⟨f,hP,hf⟩:=h.map;refine⟨f,hP.kept hg λe=>by have:=hr _ e.symm;omega,λid=>?_⟩;obtain⟨cs,e,hc⟩:=hf id;exact⟨cs,e,yY hF h.bs.grown.size hc hg λx e=>by have:=hr x e;omega⟩
theorem M2.grow{w:World}{xf xt yf yt:Int}{X Y:Value}{F:Nat->Prop}{L:List Value}{b9 B2:Nat}{wL:World}{ps:List iM}{k m:Nat}{idsV:Value}{wr w':World}(h:M2 w xf xt yf yt X Y F L b9 B2 wL ps k m idsV wr)(hF:∀x,F x->x<w.heap.size)
 (hg:wr.grownBy w' none):M2 w xf xt yf yt X Y F L b9 B2 wL ps k m idsV w':=h.over hF hg (λ_ e=>by cases e) (h.ids.grow hg)
theorem M2.put{w:World}{xf xt yf yt:Int}{X Y:Value}{F:Nat->Prop}{L:List Value}{b9 B2:Nat}{wL:World}{ps:List iM}{k m:Nat}{idsV:Value}{wr w':World}{p:iM}{cs:List Value}{f:Int×Int->Value}(h:M2 w xf xt yf yt X Y F L b9 B2 wL ps k m idsV wr)(hF:∀x,F x->x<w.heap.size)
 (hg:wr.grownBy w' (some b9))(hP:PMp w' L b9 (k+1) λx=>if x=bY p then .agg cs.toArray else f x)(hf:∀id,∃cs:List Value,f id=.agg cs.toArray/\rPg.rep wr F (is (ps.take k) id) cs)(hrep:rPg.rep wr F p cs)
 (Qw:∀id,is (ps.take (k+1)) id=if bY p=id then p else is (ps.take k) id):M2 w xf xt yf yt X Y F L b9 B2 wL ps (k+1) m idsV w':=by
 have h1:=h.b9q;have h2:=h.b9B;have h3:=h.size;refine⟨h.bs.row hg λx e=>by injection e with e;omega,⟨_,hP,λid=>?_⟩,?_,λx hx hn=>(hg.block x (by omega) λe=>by injection e with e;exact hn e).trans (h.same x hx hn),Nat.le_trans h3 hg.size,h1,h2⟩
 ·rw[Qw id];by_cases e:bY p=id
  ·rw[oIP e,oIP e.symm];exact⟨cs,rfl,yY hF h.bs.grown.size hrep hg λx e=>by injection e with e;omega⟩
  ·rw[oIN e,oIN λh=>e h.symm];obtain⟨Vd,e',hc⟩:=hf id;exact⟨Vd,e',yY hF h.bs.grown.size hc hg λx e=>by injection e with e;omega⟩
 ·have ZP:=h.ids.row;obtain⟨ds,d1,d2,d3⟩:=h.ids;refine⟨ds,d1.kept hg ?_,d2,eJ.keep (λk hk=>hk.1.elim) d3⟩;cases hv:idsV.ownBlock
  ·exact .inl rfl
  ·exact .inr λe=>by injection e with e;have:=(ZP _ hv).1;omega
structure M3 (w:World)(xf xt yf yt:Int)(X Y:Value)(F:Nat->Prop)(L:List Value)(b9 n q13 B3:Nat)(ps:List iM)(G:Nat->Prop)(sids:List (Int×Int))(SV:Value)(k:Nat)(wr:World):Prop where
 bs:MgS w xf xt yf yt X Y (w.heap.size+1+1+1) wr
 map:∃f,PMp wr L b9 n f/\∀id,∃cs:List Value,f id=.agg cs.toArray/\rPg.rep wr F (is ps id) cs
 ids:RSl rId wr G sids SV
 out:∃v,Bk wr q13 28 [.int .i64 xf,.int .i64 yt,v]/\Mk rPg 58 B3 wr (λx=>F x\/B3<=x) v ((sids.take k).map (is ps))
 size:B3<=wr.heap.size
theorem M3.grow{w:World}{xf xt yf yt:Int}{X Y:Value}{F:Nat->Prop}{L:List Value}{b9 n q13 B3:Nat}{ps:List iM}{G:Nat->Prop}{sids:List (Int×Int)}{SV:Value}{k:Nat}{wr w':World}(h:M3 w xf xt yf yt X Y F L b9 n q13 B3 ps G sids SV k wr)(hg:wr.grownBy w' none):M3 w xf xt yf yt X Y F L b9 n q13 B3 ps G sids SV k w':=by
 refine⟨h.bs.grow hg,?_,h.ids.grow hg,?_,Nat.le_trans h.size hg.size⟩
 ·obtain⟨f,hP,hf⟩:=h.map;refine⟨f,hP.kept hg (by simp),λid=>?_⟩;obtain⟨cs,e,hc⟩:=hf id;exact⟨cs,e,rPg.grow hc hg⟩
 ·obtain⟨v,h1,h2⟩:=h.out;exact⟨v,h1.grow hg,h2.grow hg⟩
theorem M3.next{w:World}{xf xt yf yt:Int}{X Y:Value}{F:Nat->Prop}{L:List Value}{b9 n q13 B3:Nat}{ps:List iM}{G:Nat->Prop}{sids:List (Int×Int)}{SV:Value}{k:Nat}{wr w':World}(h:M3 w xf xt yf yt X Y F L b9 n q13 B3 ps G sids SV k wr)
 (hF:∀x,F x->x<w.heap.size)(hG:∀x,G x->x<B3/\x≠q13)(h9:w.heap.size+1+1+1<b9)(h9q:b9<q13)(hqB:q13<B3){row:Option Nat}(hg:wr.grownBy w' row)(hr:∀x,row=some x->B3<=x){v0 v:Value}(hb:Bk w' q13 28 [.int .i64 xf,.int .i64 yt,v0])
 (YP:Mk rPg 58 B3 w' (λx=>F x\/B3<=x) v ((sids.take (k+1)).map (is ps))):M3 w xf xt yf yt X Y F L b9 n q13 B3 ps G sids SV (k+1) (w'.setCell ⟨q13,2,none⟩ v):=by
 have h3:=h.size;have ZH:w'.grownBy (w'.setCell ⟨q13,2,none⟩ v) (some q13):=grown_set (aY _ _) (.inl rfl) _;have ZD:∀x,x<B3->x≠q13->(w'.setCell ⟨q13,2,none⟩ v).heap[x]?=wr.heap[x]?:=λx hx hn=>(bQ _ _ _ hn).trans (hg.block x (by omega) λe=>by have:=hr x e.symm;omega);have hw:=h.bs.grown.size;refine⟨(h.bs.row hg λx e=>by have:=hr x e;omega).row ZH λx e=>by injection e with e;omega,?_,h.ids.keep λx hx=>ZD x (hG x hx).1 (hG x hx).2,⟨v,hb.set 2 v,YP.setBelow hqB (λhx=>by rcases hx with hx|hx;(have:=hF _ hx;dsimp only at this;omega);(dsimp only at hx;omega)) v⟩,by rw[uQ];exact Nat.le_trans h3 hg.size⟩;obtain⟨f,hP,hf⟩:=h.map;refine⟨f,(hP.kept hg λe=>by have:=hr _ e.symm;omega).kept ZH λe=>by injection e with e;omega,λid=>?_⟩;obtain⟨cs,e,hc⟩:=hf id;exact⟨cs,e,rPg.keep hc λx hx=>ZD x (by have:=hF x hx;omega) (by have:=hF x hx;omega)⟩
section
variable {α:Type} {P:Program} {w:World} {R:Rp α} {t e:TypeId} {bytes:Nat}
theorem BU{ops:Array Oper}{o:Oper}{a:Act}{K:Act->World->Prop}{Q:Exit->Act->World->Prop}{E:Prop}(Yj:o.guard=none)(s x:Operand)(T:SlT P t e R.size bytes)(YE:bytes<=128)(ho:o.op=.call { callee:=.builtin .append,args:=#[s,x],argTypes:=#[t,t] })
 (base:Nat)(G:Nat->Prop)(v:Value)(xs:List α)(hs:a.eval s=v)(hown:Mk R e base w G v xs)(ZE:base<=w.heap.size)
 (b:Nat)(y:α)(cs:List Value)(hx:a.eval x=.slice (some ⟨b,0,none⟩) 1 1)(hy:R.rep w (λk=>G k/\some k≠v.ownBlock) y cs)(hc:∀(j:Nat) u,cs[j]?=some u->w.cell? ⟨b,j,none⟩=some u)
 (hlen:xs.length+1<=1099511627776)
 (h:∀v' w',Mk R e base w' G v' (xs++[y])->w.grownBy w' v.ownBlock->K (a.put o.dst v') w'):if Region.wanted o (yielded ops a.tmps)=true then Oper.wp P o a w K Q else E:=by
 have hw:Region.wanted o (yielded ops a.tmps)=true:=by simp[Region.wanted,Yj]
 rw[oIP hw];obtain⟨ds,h1,h2,h3⟩:=hown
 have hcell:∀(j:Nat) u,cs[j]?=some u->w.cell? ((⟨b,0,none⟩:Addr).add j)=some u:=λj u hu=>by
  rw[show(⟨b,0,none⟩:Addr).add j=⟨b,j,none⟩ by unfold Addr.add;split<;>simp_all];exact hc j u hu
 obtain⟨v',w',hrun,ZZ,hg,W1⟩:=mQ (P:=P) (w:=w) T o.type base v xs.length ds h1 ⟨b,0,none⟩ 1 1 cs (by rw[R.len hy];simp) hcell (R.one hy) (rF (by omega)) (wj hlen YE) ZE;unfold Oper.wp;simp only[execOp,ho,resolve,invoke,builtin,Sem.run_bind,Sem.run_pure,Result.andThen_ok,List.map_toArray,List.map_cons,List.map_nil,hs,hx,hrun];refine h v' w' ⟨ds++cs,by rw[List.length_append];exact ZZ,by simpa using hlen,?_⟩ hg;have ZW:=(eJ.append h3 (eJ.single hy)).live;refine(eJ.keep (w':=w') (λk hk=>hg.block k hk.2 hk.1.2) ZW).sub λk hk=>⟨hk.1.1,?_⟩;rcases W1 with e|W1
 ·rw[e];exact hk.1.2
 ·intro e;have:=W1 k e.symm;omega
end
set_option maxRecDepth 100000 in
set_option maxHeartbeats 8000000 in
theorem Cx(F:Nat->Prop)(xs ys:List iM)(sids:List (Int×Int))(X Y:Value)(xf xt yt:Int)(w:World)(hx:RSl rPg w F xs X)(hy:RSl rPg w F ys Y)
 (Tt:Gd (.agg #[.int .i64 xf,.int .i64 xt,X]) 0 w)(Tv:Gd (.agg #[.int .i64 xt,.int .i64 yt,Y]) 0 w)(NR:∀p∈xs++ys,Km (bY p))(Sc:∀s∈sids,Km s)(hlen:xs.length+ys.length<=1099511627776)(Vj:sids.length<=1099511627776)
 (Nk:Mn ((xs++ys).map bY) sids w)(QB:IR (λk=>F k/\k<w.heap.size) w):
 Calls Try.prog 16 #[.agg #[.int .i64 xf,.int .i64 xt,X],.agg #[.int .i64 xt,.int .i64 yt,Y]] w λe w'=>
  ∃v,e=.returned (.tuple #[.agg #[.int .i64 xf,.int .i64 yt,v],.int .i64 0])/\RSl rPg w' (λk=>F k\/w.heap.size<=k) (sids.map (is (xs++ys))) v/\w.grownBy w' none:=by
 have HX:=Lib.hid hx;have HY:=Lib.hid hy;obtain⟨A1,c1,rfl,_,_,Sv⟩:=hx.size_eq;obtain⟨A2,c2,rfl,_,_,P6⟩:=hy.size_eq;have QK:=Lib.hid Tt;have SF:=Lib.hid Tv;have HWF:=Lib.hid NR;have HSW:=Lib.hid Sc;have HDM:=Lib.hid Nk;have HPG:=Lib.hid QB;have SH:=Lib.hid (And.intro hlen Vj);obtain⟨n1,XE⟩:∃n,n=xs.length:=⟨_,rfl⟩;obtain⟨n2,Vi⟩:∃n,n=ys.length:=⟨_,rfl⟩;obtain⟨yf,QE⟩:∃yf,yf=xt:=⟨_,rfl⟩;obtain⟨cd,Tu⟩:∃cd:Int,cd=0:=⟨_,rfl⟩;obtain⟨ce,Tw⟩:∃ce:Int,ce=0:=⟨_,rfl⟩;rw[<- XE]at HX QK⊢;rw[<- Vi]at HY SF⊢;rw[<- QE]at SF;rw[<- Tu]at QK;rw[<- Tw]at SF;have HCC:=Lib.hid (And.intro Tu Tw);have HN:=Lib.hid (And.intro XE Vi);have HYF:=Lib.hid QE
 have eY:(Value.agg #[.int .i64 xt,.int .i64 yt,.slice A2 n2 c2])=.agg #[.int .i64 yf,.int .i64 yt,.slice A2 n2 c2]:=by rw[QE]
 rw[eY];clear hx hy Tt Tv NR Sc Nk QB hlen Vj Tu Tw XE Vi QE Sv P6 eY
 go_enter Try.func16,Try.ntmps16
 go_upto_region 2 with fail
 have Q1:MgS w xf xt yf yt (.slice A1 n1 c1) (.slice A2 n2 c2) (w.heap.size+1+1+1) ((((w.alloc (.cells #[.int .i64 xf,.int .i64 xt,.slice A1 n1 c1] 28)).alloc (.cells #[.int .i64 yf,.int .i64 yt,.slice A2 n2 c2] 28)).alloc (.cells #[.int .i64 0,.int .i64 0,.slice none 0 0] 28)).alloc (.cells #[.int .i64 xf,.int .i64 xt,.slice A1 n1 c1,.int .i64 yf,.int .i64 yt,.slice A2 n2 c2] 28)):=by
  have e1:(w.alloc (.cells #[.int .i64 xf,.int .i64 xt,.slice A1 n1 c1] 28)).heap.size=w.heap.size+1:=by simp
  have e2:((w.alloc (.cells #[.int .i64 xf,.int .i64 xt,.slice A1 n1 c1] 28)).alloc (.cells #[.int .i64 yf,.int .i64 yt,.slice A2 n2 c2] 28)).heap.size=w.heap.size+1+1:=by simp
  have e3:(((w.alloc (.cells #[.int .i64 xf,.int .i64 xt,.slice A1 n1 c1] 28)).alloc (.cells #[.int .i64 yf,.int .i64 yt,.slice A2 n2 c2] 28)).alloc (.cells #[.int .i64 0,.int .i64 0,.slice none 0 0] 28)).heap.size=w.heap.size+1+1+1:=by simp
  have g1:w.grownBy (w.alloc (.cells #[.int .i64 xf,.int .i64 xt,.slice A1 n1 c1] 28)) none:=aW (aY _ _) _;have b2:Bk (w.alloc (.cells #[.int .i64 xf,.int .i64 xt,.slice A1 n1 c1] 28)) w.heap.size 28 [.int .i64 xf,.int .i64 xt,.slice A1 n1 c1]:=Bk.new;have g2:(w.alloc (.cells #[.int .i64 xf,.int .i64 xt,.slice A1 n1 c1] 28)).grownBy ((w.alloc (.cells #[.int .i64 xf,.int .i64 xt,.slice A1 n1 c1] 28)).alloc (.cells #[.int .i64 yf,.int .i64 yt,.slice A2 n2 c2] 28)) none:=aW (aY _ _) _;have b3:Bk ((w.alloc (.cells #[.int .i64 xf,.int .i64 xt,.slice A1 n1 c1] 28)).alloc (.cells #[.int .i64 yf,.int .i64 yt,.slice A2 n2 c2] 28)) (w.alloc (.cells #[.int .i64 xf,.int .i64 xt,.slice A1 n1 c1] 28)).heap.size 28 [.int .i64 yf,.int .i64 yt,.slice A2 n2 c2]:=Bk.new;have g3:((w.alloc (.cells #[.int .i64 xf,.int .i64 xt,.slice A1 n1 c1] 28)).alloc (.cells #[.int .i64 yf,.int .i64 yt,.slice A2 n2 c2] 28)).grownBy (((w.alloc (.cells #[.int .i64 xf,.int .i64 xt,.slice A1 n1 c1] 28)).alloc (.cells #[.int .i64 yf,.int .i64 yt,.slice A2 n2 c2] 28)).alloc (.cells #[.int .i64 0,.int .i64 0,.slice none 0 0] 28)) none:=aW (aY _ _) _;have b4:Bk (((w.alloc (.cells #[.int .i64 xf,.int .i64 xt,.slice A1 n1 c1] 28)).alloc (.cells #[.int .i64 yf,.int .i64 yt,.slice A2 n2 c2] 28)).alloc (.cells #[.int .i64 0,.int .i64 0,.slice none 0 0] 28)) ((w.alloc (.cells #[.int .i64 xf,.int .i64 xt,.slice A1 n1 c1] 28)).alloc (.cells #[.int .i64 yf,.int .i64 yt,.slice A2 n2 c2] 28)).heap.size 28 [.int .i64 0,.int .i64 0,.slice none 0 0]:=Bk.new;have g4:(((w.alloc (.cells #[.int .i64 xf,.int .i64 xt,.slice A1 n1 c1] 28)).alloc (.cells #[.int .i64 yf,.int .i64 yt,.slice A2 n2 c2] 28)).alloc (.cells #[.int .i64 0,.int .i64 0,.slice none 0 0] 28)).grownBy ((((w.alloc (.cells #[.int .i64 xf,.int .i64 xt,.slice A1 n1 c1] 28)).alloc (.cells #[.int .i64 yf,.int .i64 yt,.slice A2 n2 c2] 28)).alloc (.cells #[.int .i64 0,.int .i64 0,.slice none 0 0] 28)).alloc (.cells #[.int .i64 xf,.int .i64 xt,.slice A1 n1 c1,.int .i64 yf,.int .i64 yt,.slice A2 n2 c2] 28)) none:=aW (aY _ _) _;have b6:Bk ((((w.alloc (.cells #[.int .i64 xf,.int .i64 xt,.slice A1 n1 c1] 28)).alloc (.cells #[.int .i64 yf,.int .i64 yt,.slice A2 n2 c2] 28)).alloc (.cells #[.int .i64 0,.int .i64 0,.slice none 0 0] 28)).alloc (.cells #[.int .i64 xf,.int .i64 xt,.slice A1 n1 c1,.int .i64 yf,.int .i64 yt,.slice A2 n2 c2] 28)) (((w.alloc (.cells #[.int .i64 xf,.int .i64 xt,.slice A1 n1 c1] 28)).alloc (.cells #[.int .i64 yf,.int .i64 yt,.slice A2 n2 c2] 28)).alloc (.cells #[.int .i64 0,.int .i64 0,.slice none 0 0] 28)).heap.size 28 [.int .i64 xf,.int .i64 xt,.slice A1 n1 c1,.int .i64 yf,.int .i64 yt,.slice A2 n2 c2]:=Bk.new;rw[e1]at b3;rw[e2]at b4;rw[e3]at b6;exact⟨be (be (be g1 g2) g3) g4,((b2.grow g2).grow g3).grow g4,(b3.grow g3).grow g4,b4.grow g4,b6⟩
 generalize(((w.alloc (.cells #[.int .i64 xf,.int .i64 xt,.slice A1 n1 c1] 28)).alloc (.cells #[.int .i64 yf,.int .i64 yt,.slice A2 n2 c2] 28)).alloc (.cells #[.int .i64 0,.int .i64 0,.slice none 0 0] 28)).alloc (.cells #[.int .i64 xf,.int .i64 xt,.slice A1 n1 c1,.int .i64 yf,.int .i64 yt,.slice A2 n2 c2] 28)=W at *;have QN:=Lib.hid Q1;clear Q1
 go_loopw [20] (λi wr=>(i=.int .i64 0\/(i=.int .i64 1/\cd=0)\/(i=.int .i64 2/\cd=0/\ce=0))/\MgS w xf xt yf yt (.slice A1 n1 c1) (.slice A2 n2 c2) (w.heap.size+1+1+1) wr) (λi _=>2-(intOf i).toNat)
 case atStart=>exact⟨.inl rfl,QN.out⟩
 case round=>
  obtain⟨hi,hS⟩:=hrel;have HS:=Lib.hid hS;have U4:=hS.b6.cell 0;have U5:=hS.b6.cell 1;have U6:=hS.b6.cell 2;have U7:=hS.b6.cell 3;have U8:=hS.b6.cell 4;have U9:=hS.b6.cell 5;simp only[List.getElem?_cons_zero,List.getElem?_cons_succ]at U4 U5 U6 U7 U8 U9;clear hS QN;rcases hi with rfl|⟨rfl,Wy⟩|⟨rfl,Wy,Zp⟩
  ·go_wp2_with fail
   refine(QK.out _ (be HS.out.grown (aW (aY _ _) _))).mono ?_;rintro e w5 ⟨rfl,Xp⟩;have Yh:=Lib.hid ((HS.out.grow (aW (aY wr none) (.cells #[.int .i64 xf,.int .i64 xt,.slice A1 n1 c1] 28))).grow Xp);clear Xp U4 U5 U6 U7 U8 U9;by_cases hc:cd=0
   ·have UG:(cd != 0)=false:=by simp[hc]
    have Hc:=Lib.hid hc;clear hc
    go_wp2_with fail
    go_roundw
    case rel=>exact⟨.inr (.inl ⟨by go_num,Hc.out⟩),Yh.out⟩
    case measure=>simp[intOf]
   ·have UG:(cd != 0)=true:=by simp[hc]
    exact absurd HCC.out.1 hc
  ·have QJ:=Lib.hid Wy;clear Wy
   go_wp2_with fail
   refine(SF.out _ (be HS.out.grown (aW (aY _ _) _))).mono ?_;rintro e w5 ⟨rfl,Xp⟩;have Yh:=Lib.hid ((HS.out.grow (aW (aY wr none) (.cells #[.int .i64 yf,.int .i64 yt,.slice A2 n2 c2] 28))).grow Xp);clear Xp U4 U5 U6 U7 U8 U9;by_cases hc:ce=0
   ·have UG:(ce != 0)=false:=by simp[hc]
    have Hc:=Lib.hid hc;clear hc
    go_wp2_with fail
    go_roundw
    case rel=>exact⟨.inr (.inr ⟨by go_num,QJ.out,Hc.out⟩),Yh.out⟩
    case measure=>simp[intOf]
   ·have UG:(ce != 0)=true:=by simp[hc]
    exact absurd HCC.out.2 hc
  ·have X7:=HS.out.b2.cell 1;have Sz:=HS.out.b2.cell 2;have Yg:=HS.out.b3.cell 0;have Yo:=HS.out.b3.cell 2;simp only[List.getElem?_cons_zero,List.getElem?_cons_succ]at X7 Sz Yg Yo
   have hnb:(xt != yf)=false:=by simp[HYF.out]
   have hmm:=@run_makeMap Try.prog;clear Wy Zp U4 U5 U6 U7 U8 U9
   go_upto_region 12 with fail
   have Np:wr.grownBy (wr.alloc (.map #[] 0)) none:=aW (aY _ _) _;have QO:=Lib.hid (HS.out.grow Np);have h9:(wr.alloc (.map #[] 0)).heap[wr.heap.size]?=some (.map #[] 0):=heap_alloc_new wr _
   have hs9:wr.heap.size<(wr.alloc (.map #[] 0)).heap.size:=by simp
   have S2:=HS.out.grown.size;have hwr3:=HS.out.b6.hi;have H9:=Lib.hid h9;clear X7 Sz Yg Yo Np h9 hnb hmm;generalize wr.alloc (.map #[] 0)=W9 at *;generalize hb9:wr.heap.size=b9 at *;have Sz:=QO.out.b2.cell 2;have Yo:=QO.out.b3.cell 2;simp only[List.getElem?_cons_zero,List.getElem?_cons_succ]at Sz Yo
   go_wp2_with fail
   have Pj:W9.grownBy (W9.alloc (.cells #[.slice A1 n1 c1,.slice A2 n2 c2] 26)) none:=aW (aY _ _) _;have TD:=be QO.out.grown Pj;refine(yb (λk=>F k/\k<w.heap.size) xs ys W9.heap.size 2 _ _ _ Bk.new (HX.out.live.grow TD) (HY.out.live.grow TD) SH.out.1).mono ?_;rintro e Wq ⟨V,rfl,YP,Rn⟩;have Px:Mk rPg 58 (W9.heap.size+1) Wq (λk=>F k/\k<w.heap.size) V (xs++ys):=(YP.base (by simp)).subG λk hk=>hk.1;obtain⟨n,hn⟩:∃n,n=(xs++ys).length:=⟨_,rfl⟩;obtain⟨AV,cV,eV⟩:=YP.shape;rw[<- hn]at eV;subst eV;have Qr:=be Pj Rn;have p6:=Lib.hid (QO.out.grow Qr);have hsL:=Qr.size
   have Tp:Wq.heap[b9]?=some (.map #[] 0):=by rw[Qr.block b9 hs9 (by simp)];exact H9.out
   obtain⟨cs,hown,Py,Uq⟩:=Px;obtain⟨WR,Zp,Ze,Vf⟩:=ug Uq
   have Ql:∃gV,∀k,k<n->AV=some ⟨gV,0,none⟩/\gV<Wq.heap.size/\b9<gV/\∀(w':World),w'.heap[gV]?=Wq.heap[gV]?->∀(h':k<WR.length) (j:Nat) u,j<11->WR[k][j]?=some u->w'.cell? ⟨gV,k*11+j,none⟩=some u:=by
    rcases hown.2 with⟨e1,e2⟩|⟨g,cap,cur,e1,hb,YX,hcap,hmax,hsz,Zx⟩
    ·exact⟨0,λk hk=>by omega⟩
    ·refine⟨g,λk hk=>⟨by injection e1 with e1,(Array.getElem?_eq_some_iff.1 YX).1,by omega,λw' Sr h' j u hj hu=>?_⟩⟩;have hcell:=World.ownsRow.cells (g:=g) hown (by rw[e1];rfl)
     have hlen:∀q∈WR,q.length=11:=λq hq=>by
      obtain⟨i,hi,rfl⟩:=List.getElem_of_mem hq;exact rPg.len (Vf i (by omega) hi)
     have Zq:=gJ (c:=WR) (sz:=11) (λi h=>hlen _ (List.getElem_mem h)) (i:=k) (j:=j) h' (by rw[hlen _ (List.getElem_mem h')];exact hj)
     have h2:=hcell (k*11+j) u (by
      rw[Ze,Zq,<- hu]
      exact(oGE _).symm)
     rw[cr,Nat.zero_add]at h2;rw[World.cell?_of_block (w:=Wq) Sr];exact h2
   obtain⟨gV,Ql⟩:=Ql;have HC:=Lib.hid Ql;have HC3:=Lib.hid (λk h h'=>rPg.sub (G:=λk=>F k/\k<w.heap.size) (Vf k h h') λx hx=>hx.1);have HCL:=Lib.hid Zp;have Hn:=Lib.hid hn;clear hown Uq Zp Ze Vf Ql YP Rn Qr Pj TD Sz Yo Py hn;obtain⟨L,hL⟩:∃L:List Value,L=zPg::WR.map (λq=>.agg q.toArray):=⟨_,rfl⟩
   have Sy:zPg∈L:=by rw[hL];simp
   have HZL:=Lib.hid Sy;have HL:=Lib.hid hL
   have OM:w.heap.size+1+1+1<b9:=by omega
   have OL:b9<Wq.heap.size:=(Array.getElem?_eq_some_iff.1 Tp).1
   have d4:=Lib.hid (show M2 w xf xt yf yt (.slice A1 n1 c1) (.slice A2 n2 c2) (λk=>F k/\k<w.heap.size) L b9 Wq.heap.size Wq (xs++ys) 0 0 (.slice none 0 0) Wq from
    ⟨p6.out,⟨λ_=>zPg,⟨_,⟨#[],0,Tp,⟨by simp,MapKept.stamped_empty 0,by simp⟩,Nat.le_refl _,rfl⟩,λ_ _ _ _=>by
     obtain⟨i,h1,h2⟩:=Ez Sy
     exact⟨i,h1,h2⟩⟩,λid=>Gi _ _⟩,Mk.nil _ _ _ _ _,λ_ _ _=>rfl,Nat.le_refl _,OM,OL⟩)
   clear Sy hL Tp p6 QO
   go_wp2_with fail
   go_loopw [10,45] (λids i wr=>∃k:Nat,k<=n/\i=.int .i64 k/\M2 w xf xt yf yt (.slice A1 n1 c1) (.slice A2 n2 c2) (λk=>F k/\k<w.heap.size) L b9 Wq.heap.size Wq (xs++ys) k k ids wr) (λ_ i _=>n-(intOf i).toNat)
   case atStart=>exact⟨0,Nat.zero_le _,rfl,d4.out⟩
   case round=>
    clear d4;obtain⟨k,hk,rfl,hm⟩:=hrel;have HM:=Lib.hid hm;clear hm;by_cases hlt:k<n
    ·obtain⟨hAV,Z0,ZH,ZV⟩:=HC.out k hlt
     have Qv:k<WR.length:=by rw[HCL.out,<- Hn.out];exact hlt
     have Rz:k<(xs++ys).length:=by rw[<- Hn.out];exact hlt
     obtain⟨y,z,XW,hy,hz⟩:=A9 (HC3.out k Rz Qv)
     have PX:Value.agg WR[k].toArray∈L:=by
      rw[HL.out];exact List.mem_cons_of_mem _ (List.mem_map.2 ⟨_,List.getElem_mem Qv,rfl⟩)
     have NC:=HWF.out _ (List.getElem_mem Rz);have hrep:=HC3.out k Rz Qv;have Sf:(xs++ys).take (k+1)=(xs++ys).take k++[(xs++ys)[k]]:=List.take_succ_eq_append_getElem Rz;have Qw:=λid=>zj Rz id;have hcell:=ZV wr (HM.out.same gV Z0 (by omega)) Qv;generalize(xs++ys)[k]=p at *;generalize WR[k]=cs at *;subst XW;obtain⟨a,c,pc,v0,v1,v2,v3,v4,v5,v6,pr⟩:=p;obtain⟨Ay,cy,rfl,_,_,_⟩:=hy.size_eq;obtain⟨Az,cz,rfl,_,_,_⟩:=hz.size_eq;subst hAV;dsimp only at *;generalize pc.length=ly at *;generalize pr.length=lz at *;have S8:=Lib.hid hrep;have p5:=Lib.hid NC;have Om:=Lib.hid Sf;have HLS:=Lib.hid Qw;simp only[pgC,vwC]at PX hcell;have HVL:=Lib.hid PX;have c0:=hcell 0 _ (by decide) rfl;have Oo:=hcell 1 _ (by decide) rfl;have Vc:=hcell 2 _ (by decide) rfl;have c3':=hcell 3 _ (by decide) rfl;have c4:=hcell 4 _ (by decide) rfl;have c5:=hcell 5 _ (by decide) rfl;have c6:=hcell 6 _ (by decide) rfl;have c7:=hcell 7 _ (by decide) rfl;have c8:=hcell 8 _ (by decide) rfl;have c9:=hcell 9 _ (by decide) rfl;have c10:=hcell 10 _ (by decide) rfl;simp only[Nat.add_zero]at c0;clear hcell ZV PX NC hrep Sf Qw hy hz
     have x2:(0:Int)<=(k:Int):=by omega
     have x3:(k:Int)<(n:Int):=by omega
     have x5:(k:Int).toNat=k:=by omega
     have Yy:wr.grownBy (wr.alloc (.cells #[.int .i64 a,.int .i64 c,.slice Ay ly cy,.int .i64 v0,.int .i64 v1,.int .i64 v2,.int .i64 v3,.int .i64 v4,.int .i64 v5,.int .u16 v6,.slice Az lz cz] 58)) none:=aW (aY _ _) _;have YD:Bk (wr.alloc (.cells #[.int .i64 a,.int .i64 c,.slice Ay ly cy,.int .i64 v0,.int .i64 v1,.int .i64 v2,.int .i64 v3,.int .i64 v4,.int .i64 v5,.int .u16 v6,.slice Az lz cz] 58)) wr.heap.size 58 [.int .i64 a,.int .i64 c,.slice Ay ly cy,.int .i64 v0,.int .i64 v1,.int .i64 v2,.int .i64 v3,.int .i64 v4,.int .i64 v5,.int .u16 v6,.slice Az lz cz]:=Bk.new;obtain⟨f,Nd,XC⟩:=(HM.out.grow (λx h=>h.2) Yy).map;obtain⟨w7,hrun,Nc,Ph⟩:=Nd.update (show k<9223372036854775807 by have:=SH.out.1;have:=Hn.out;simp at this;omega) p5.out.1 p5.out.2 HVL.out;simp only[bY]at hrun;have hw6:=YD.hi;have h97:=HM.out.b9B;have V9:=YD.keep (Ph.block _ hw6 (by have:=HM.out.size;intro e;injection e with e;omega));have Uy:=Lib.hid ((HM.out.grow (λx h=>h.2) Yy).put (λx h=>h.2) Ph Nc XC (rPg.grow (rPg.keep (w':=wr) S8.out λx hx=>HM.out.same x (by have:=HM.out.b9q;have:=HM.out.b9B;have:=hx.2;omega) (by have:=HM.out.b9q;have:=hx.2;omega)) Yy) HLS.out);have QI:=Lib.hid V9;have m0:=YD.cell 0;have m1:=YD.cell 1;have m2:=YD.cell 2;have m3:=YD.cell 3;have m4:=YD.cell 4;have m5:=YD.cell 5;have m6:=YD.cell 6;have m7:=YD.cell 7;have m8:=YD.cell 8;have m9:=YD.cell 9;have m10:=YD.cell 10;simp only[List.getElem?_cons_zero,List.getElem?_cons_succ]at m0 m1 m2 m3 m4 m5 m6 m7 m8 m9 m10;have o0:=V9.cell 0;have o1:=V9.cell 1;simp only[List.getElem?_cons_zero,List.getElem?_cons_succ]at o0 o1;clear V9;clear Nc Ph XC Nd YD
     go_upto_region 15 with fail
     generalize wr.alloc (.cells #[.int .i64 a,.int .i64 c,.slice Ay ly cy,.int .i64 v0,.int .i64 v1,.int .i64 v2,.int .i64 v3,.int .i64 v4,.int .i64 v5,.int .u16 v6,.slice Az lz cz] 58)=W6 at *;have On:=Lib.hid (show w7.grownBy (w7.alloc (.cells #[.int .i64 a,.int .i64 c] 56)) none from aW (aY _ _) _);obtain⟨AI,cI,eI⟩:=Uy.out.ids.shape;generalize hidl:((xs++ys).take k).map bY=IL at eI;have SG:=Lib.hid hidl;have heI:=Lib.hid eI;subst eI;clear hidl
     go_upto_region 16 with fail
     go_wp2_with (at_builtin;go_loud (refine wv (R:=rId) rfl (.tmp 53) (.tmp 56) Mq (by decide) rfl Wq.heap.size (λ_=>False) (.slice AI IL.length cI) IL rfl ?c1 ?c2 w7.heap.size (a,c) [.int .i64 a,.int .i64 c] rfl ?c3 ?c4 ?c5 ?_))
     case c1=>have hx:=Uy.out.ids.grow On.out;rw[SG.out]at hx;exact hx
     case c2=>have:=Uy.out.size;have:=On.out.size;omega
     case c3=>exact L8 (a,c)
     case c5=>rw[<- SG.out];have:=SH.out.1;have:=Hn.out;simp at this⊢;omega
     intro v' w12 VQ Ro;have ZP:=Uy.out.ids.row;obtain⟨AJ,cJ,rfl⟩:=VQ.shape
     have XF:n<=1099511627776:=by have:=SH.out.1;have:=Hn.out;simp at this;omega
     have Oh:=Lib.hid ((Uy.out.grow (λx h=>h.2) On.out).over (λx h=>h.2) Ro (λx e=>(ZP x e).1) (m':=k+1) (by rw[Om.out,List.map_append,SG.out];exact VQ));clear VQ Ro ZP
     go_wp2_with fail
     go_roundw
     case rel=>exact⟨k+1,by omega,by go_num,Oh.out⟩
     case measure=>simp[intOf];omega
    ·have Ry:k=n:=by omega
     subst Ry;have M5:=HM.out.bs.b2.cell 0;have M6:=HM.out.bs.b3.cell 1;simp only[List.getElem?_cons_zero,List.getElem?_cons_succ]at M5 M6;obtain⟨AI,cI,eI⟩:=HM.out.ids.shape
     have PJ:(xs++ys).take k=xs++ys:=by rw[Hn.out];exact List.take_length
     have HPS:=Lib.hid PJ;have Og:=Lib.hid ((HM.out.ids.done (F:=λx=>Wq.heap.size<=x) (λ_ h=>h) λ_ h=>h.elim).live);rw[PJ]at Og eI;generalize hidl:((xs++ys).map bY).length=il at eI;subst eI;clear hidl PJ;have SU:wr.grownBy (wr.alloc (.cells #[.int .i64 xf,.int .i64 yt,.slice none 0 0] 28)) none:=aW (aY _ _) _;have Xg:=Lib.hid (show Bk (wr.alloc (.cells #[.int .i64 xf,.int .i64 yt,.slice none 0 0] 28)) wr.heap.size 28 [.int .i64 xf,.int .i64 yt,.slice none 0 0]from Bk.new);have SJ:=Lib.hid (HM.out.grow (λx h=>h.2) SU);have aN:=Lib.hid SU;clear SU
     go_upto_region 19 with fail
     go_wp2_with fail
     refine(HDM.out _ _ _ SJ.out.bs.grown (Og.out.grow aN.out)).mono ?_;rintro e SC ⟨SV,rfl,S0,Wh⟩;have h99:=SJ.out.b9q;have h9B:=SJ.out.b9B;have M':=HM.out.size;have PO:=Wh.size;simp at PO
     have Qm:∃G:Nat->Prop,(∀x,G x->x<SC.heap.size/\x≠wr.heap.size)/\M3 w xf xt yf yt (.slice A1 n1 c1) (.slice A2 n2 c2) (λk=>F k/\k<w.heap.size) L b9 k wr.heap.size SC.heap.size (xs++ys) G sids SV 0 SC:=
      ⟨_,λx hx=>⟨hx.2,by rcases hx.1 with h|h;(have:=h.2;omega);(simp at h;omega)⟩,(SJ.out.grow (λx h=>h.2) Wh).bs,by have:=(SJ.out.grow (λx h=>h.2) Wh).map;rw[HPS.out]at this;exact this,S0.live,⟨_,Xg.out.grow Wh,Mk.nil _ _ _ _ _⟩,Nat.le_refl _⟩
     obtain⟨G,hG,Qm⟩:=Qm;have Oi:=Lib.hid Qm;have HGG:=Lib.hid hG;clear Qm hG;obtain⟨AS,cS,rfl,_,_,Vj⟩:=S0.size_eq;obtain⟨nS,Qz⟩:∃n,n=sids.length:=⟨_,rfl⟩;rw[<- Qz]at Oi;rw[<- Qz]at Vj⊢;have Qh:=Lib.hid Qz;have HG19:=Lib.hid Wh;generalize hq13:wr.heap.size=q13 at *;clear S0 Wh Qz SJ Xg aN Og M5 M6
     have hB3:q13<SC.heap.size:=by omega
     generalize hgb3:SC.heap.size=B3 at *;clear HM
     go_wp2_with fail
     go_loopw [67] (λi wy=>∃m:Nat,m<=nS/\i=.int .i64 m/\M3 w xf xt yf yt (.slice A1 n1 c1) (.slice A2 n2 c2) (λk=>F k/\k<w.heap.size) L b9 k q13 B3 (xs++ys) G sids (.slice AS nS cS) m wy) (λi _=>nS-(intOf i).toNat)
     case atStart=>exact⟨0,Nat.zero_le _,rfl,Oi.out⟩
     case round=>
      clear Oi;obtain⟨m,hm,rfl,hst⟩:=hrel;have HM:=Lib.hid hst;clear hst;by_cases hlt:m<nS
      ·have Pz:m<sids.length:=by rw[<- Qh.out];exact hlt
       obtain⟨qs,so,cS',scs,e,_,_,hGq,hid,hcl⟩:=HM.out.ids.at_ Pz;rw[<- Qh.out]at e
       injection e with e1 e2 e3
       subst e1;subst e3;have Sf:sids.take (m+1)=sids.take m++[sids[m]]:=List.take_succ_eq_append_getElem Pz;have Sc:=HSW.out _ (List.getElem_mem Pz);generalize sids[m]=s at *;obtain⟨a,c⟩:=s;have e:=Lf hid;subst e;have s0:=hcl 0 _ rfl;have s1:=hcl 1 _ rfl;simp only[show rId.size=2 from rfl,Nat.add_zero]at s0 s1;rw[<- Nat.add_assoc]at s1;clear hid hcl
       have x2:(0:Int)<=(m:Int):=by omega
       have x3:(m:Int)<(nS:Int):=by omega
       have x5:(m:Int).toNat=m:=by omega
       obtain⟨f,hP,hf⟩:=HM.out.map;obtain⟨cs,M0,hrep⟩:=hf (a,c);have Yy:wr.grownBy (wr.alloc (.cells #[.int .i64 a,.int .i64 c] 56)) none:=aW (aY _ _) _;have To:Bk (wr.alloc (.cells #[.int .i64 a,.int .i64 c] 56)) wr.heap.size 56 [.int .i64 a,.int .i64 c]:=Bk.new;have R3:=((hP.kept Yy (by simp)).kept (cg (aY _ none)) (by simp)).lookup HZL.out Sc.1 Sc.2;rw[M0]at R3;have S8:=Lib.hid ((rPg.grow hrep Yy));have Om:=Lib.hid Sf;have Ye:=Lib.hid Yy;generalize hlp:is (xs++ys) (a,c)=p at *;have HLP:=Lib.hid hlp;clear hP hf hrep M0 Sf Yy hlp;obtain⟨v0,Xn,YP⟩:=HM.out.out;have r0:=(To.drew).cell 0;have r1:=(To.drew).cell 1;have j2:=((Xn.grow Ye.out).drew).cell 2;simp only[List.getElem?_cons_zero,List.getElem?_cons_succ]at r0 r1 j2;have Xg:=Lib.hid (Xn.grow Ye.out);have SI:=Lib.hid (YP.grow Ye.out);clear Xn YP To;have hq13:=Xg.out.hi;generalize hilm:(sids.take m).map (is (xs++ys))=IL at *;have SG:=Lib.hid hilm;clear hilm
       go_upto_region 22 with fail
       generalize hW15:wr.alloc (.cells #[.int .i64 a,.int .i64 c] 56)=W15 at *;clear hW15
       go_region_law (first
        |(go_simp;go_at_call 34;refine(HPG.out _ p cs (cg (be HM.out.bs.grown Ye.out)) (rPg.grow S8.out (cg (aY _ none)))).mono ?_;rintro e N5 ⟨Vd,rfl,X3,Wi⟩;obtain⟨y',z',rfl,VZ,Sx⟩:=A9 X3;have Wi:=be (cg (aY W15 none)) Wi;have j3:=(Xg.out.grow Wi).cell 2;have q3:=(Xg.out.grow Wi).hi;simp only[List.getElem?_cons_zero,List.getElem?_cons_succ]at j3;have Ol:=Lib.hid X3;have Vn:=Lib.hid Wi;clear X3 Wi VZ Sx;simp only[pgC,vwC])
        |(refine BU (R:=rPg) rfl (.tmp 72) (.tmp 77) LP (by decide) (by rfl) B3 (λx=>(F x/\x<w.heap.size)\/B3<=x) v0 IL (by rfl) (SI.out.grow (aW Vn.out _)) (by have h1:=HM.out.size;have h2:=Ye.out.size;have h3:=Vn.out.size;replace h3:W15.heap.size<=N5.heap.size:=h3;simp;omega) N5.heap.size p (pgC p y' z') (by rfl) (rPg.sub (rPg.grow Ol.out (aW (aY _ none) _)) (λx hx=>⟨by rcases hx with h|h;exact .inl h;exact .inr (by have h1:=HM.out.size;have h2:=Ye.out.size;replace h:W15.heap.size<=x:=h;omega),λe=>by have h1:=SI.out.row x e.symm;have h2:=HM.out.size;have h3:=HM.out.bs.grown.size;(rcases hx with h|h;(have:=h.2;omega);(replace h:W15.heap.size<=x:=h;omega))⟩)) (λj u hj=>H5 rfl hj) (by rw[<- SG.out];have:=SH.out.2;simp;omega) ?_;intro v' w24 VR TA;obtain⟨A4,c4,rfl⟩:=VR.shape;have VB:=((Xg.out.grow (aW Vn.out (.cells (pgC p y' z').toArray 58))).keep (TA.block _ (Xg.out.grow (aW Vn.out (.cells (pgC p y' z').toArray 58))).hi (λe=>by have h1:=(SI.out.row _ e.symm).1;omega)));have f24:=VB.free 2;have j24:=VB.cell 2;simp only[List.getElem?_cons_zero,List.getElem?_cons_succ]at j24;have q24:=VB.hi;have N8:=Lib.hid VB;have QM:=Lib.hid VR;have Oa:=Lib.hid TA;clear VB VR TA))
       all_goals
        have HSX:=Lib.hid (HM.out.next (λx h=>h.2) (λx h=>HGG.out x h) h99 (show b9<q13 by omega) hB3 (be (lS (aW (be Ye.out Vn.out) (.cells (pgC p y' z').toArray 58))) Oa.out) (λx e=>(SI.out.row x e).1) N8.out (by rw[Om.out,List.map_append,SG.out,List.map_cons,List.map_nil,HLP.out];exact QM.out))
        have XF:nS<=1099511627776:=by rw[Qh.out];exact SH.out.2
        go_wp2_with fail
        go_roundw
        case rel=>exact⟨m+1,by omega,by go_num,by have NK:=HSX.out;simp only[List.length_append,oLC,List.length_nil,Nat.zero_add]at NK;exact NK⟩
        case measure=>simp[intOf];omega
      ·have Qy:m=nS:=by omega
       subst Qy;obtain⟨v0,Xn,YP⟩:=HM.out.out;have j0:=Xn.cell 0;have j1:=Xn.cell 1;have j2:=Xn.cell 2;have Y5:=HM.out.bs.b4.cell 0;have Y6:=HM.out.bs.b4.cell 1;have V3:=HM.out.bs.b4.cell 2;have WS:=HM.out.bs.b4.free 0;have f41:=HM.out.bs.b4.free 1;have OC:=HM.out.bs.b4.free 2;have q4:=HM.out.bs.b4.hi;simp only[List.getElem?_cons_zero,List.getElem?_cons_succ]at Y5 Y6 V3 j0 j1 j2;obtain⟨A5,c5,e5⟩:=YP.shape
       have Ng:sids.take m=sids:=by rw[Qh.out];exact List.take_length
       rw[Ng]at YP e5;generalize hl5:(sids.map (is (xs++ys))).length=l5 at e5;subst e5;have SI:=Lib.hid YP;clear YP Ng hl5 Xn
       go_wp2_with fail
       refine bodyPost_ret (v:=.tuple #[.agg #[.int .i64 xf,.int .i64 yt,.slice A5 l5 c5],.int .i64 0]) (by simp[results,Try.results16,go_sem,Y5,Y6,V3,q4]) rfl ?_;refine⟨_,rfl,?_,HM.out.bs.err _ _ _⟩;refine((SI.out.done (F:=λx=>(F x/\x<w.heap.size)\/B3<=x) (λk hk=>.inr hk) λk hk=>hk).keep (λx hx=>?_)).sub λx hx=>?_
       ·have hne:x≠w.heap.size+1+1:=by rcases hx with h|h;(have:=h.2;omega);omega
        rw[bQ _ _ _ hne,bQ _ _ _ hne,bQ _ _ _ hne]
       ·rcases hx with h|h
        ·exact .inl h.1
        ·exact .inr (by omega)
end Go.Proofs.Ytbdhpgelkfncpaa
namespace Go.Proofs.Ytbdhpgelkfncpaa
open Go.RowKit
inductive qG (w:World)(F:Nat->Prop):TV->Value->Prop
 |im {t:TV} {x:Value} (h:fm w F t x):qG w F t x
 |fn {f:FuncId}:qG w F (.fn f []) (.func (.func f) #[] #[])
 |ag {l:List TV} {cs:Array Value} (hl:cs.size=l.length) (h:∀j (hj:j<l.length),fm w F l[j] (cs.getD j undef)):qG w F (.agg l) (.agg cs)
def Ld:TV->Bool
 |.v _=>true
 |.sl _=>true
 |_=>false
def zt:TV->Bool
 |.sl _=>true
 |.v _=>true
 |.fn _ []=>true
 |.agg l=>l.all Ld
 |_=>false
def BN(P:Program)(f:FuncId)(vals:List TV)(r:sR):Prop:=
 r.cells.all Ld=true/\∀(avs:List Value)(w:World)(F:Nat->Prop),avs.length=vals.length->(∀j (h:j<vals.length)(h':j<avs.length),qG w F vals[j] avs[j])->
  Calls P f avs.toArray w λe w2=>∃ys,e=.returned (iX r.sh ys)/\ys.length=r.cells.length/\Below w.heap.size w w2/\∀j (h:j<r.cells.length),fm w2 (λk=>F k\/w.heap.size<=k) r.cells[j] (ys.getD j undef)
def xb(R:FuncId->List TV->Option sR):cj:=λf vals pts=>
 match pts with
 | []=>if vals.all zt then(R f vals).map λr=>(r,[])else none
 |_=>none
section
variable {M:Fm} {σ:St} {ts:Array Value} {w:World}
theorem Inv.addHands{F:Nat->Prop}:∀{z:List TV}{ys:List Value}{H:List TV}{xs:List Value}{G:Gh},Inv M σ H xs ts w G->(∀k,F k->G.F M.A k)->z.length=ys.length->(∀j (h:j<z.length),fm w F z[j] (ys.getD j undef))->∃G',Inv M σ (H++z) (xs++ys) ts w G':=by
 intro z
 induction z with
 |nil=>
  intro ys H xs G hI _ hl _;have:ys=[]:=List.length_eq_zero_iff.1 hl.symm;subst this;exact⟨G,by simpa using hI⟩
 |cons t z ih=>
  intro ys H xs G hI hF hl hz
  cases ys with
  |nil=>simp at hl
  |cons y ys=>
   obtain⟨G1,hg⟩:=hI.addHand ((hz 0 (by simp)).frame (F':=G.F M.A) (λ_ _ _=>rfl) λk hk _=>hF k hk).toOwn
   obtain⟨G2,ZJ⟩:=ih hg.1 (λk hk=>hg.2.1 k (hF k hk)) (by simpa using hl) λj hj=>by have:=hz (j+1) (by simpa using hj);simpa using this
   refine⟨G2,?_⟩;simpa using ZJ
end
theorem JQ{P:Program}{R:FuncId->List TV->Option sR}(hR:∀f vals r,R f vals=some r->gA P f/\BN P f vals r):ee P (xb R):=by
 intro f vals pts res Zs h
 cases pts with
 |cons _ _=>simp[xb]at h
 |nil=>
  simp only[xb]at h;split at h
  case isFalse=>simp at h
  rename_i ZW;simp only[List.all_eq_true]at ZW
  obtain⟨r,hr,he⟩:∃r,R f vals=some r/\(r,[])=(res,Zs):=by
   cases hr:R f vals with
   |none=>simp[hr]at h
   |some c=>exact⟨c,rfl,by simpa[hr]using h⟩
  injection he with e1 e2
  subst e1 e2;obtain⟨Y9,Wk,TH⟩:=hR f vals r hr;refine⟨Y9,vals.length,Nat.le_refl _,λM avs w G hal hN QD YA hI=>?_⟩;subst QD
  have Sk:avs.toArray++Array.replicate (vals.length-avs.length) undef=avs.toArray:=by rw[hal];simp
  rw[Sk]at hI
  have hst:∀j,(mkSt vals []).t j=vals.getD j .dead:=by
   intro j;simp[St.t,mkSt,jo]
  refine(TH avs M.w0 (G.F M.A) hal λj hj ZT=>?_).mono λe w2 ⟨ys,VI,hlen,hb,Yb⟩=>?_
  ·have ht:=hI.tmr j;rw[hst]at ht
   have e1:vals.getD j .dead=vals[j]:=by simp[hj]
   have e2:avs.toArray.getD j undef=avs[j]:=by simp[Array.getD_eq_getD_getElem?,ZT]
   rw[e1,e2]at ht;have ha:=ZW _ (List.getElem_mem hj);revert ht ha;generalize vals[j]=t;generalize avs[j]=y;intro ht ha
   cases ht with
   |v h=>exact .im (.v h)
   |sl h=>exact .im h
   | @fn f l xs hl h=>
    cases l with
    |nil=>
     have:xs=#[]:=Array.eq_empty_of_size_eq_zero (by simpa using hl);subst this;exact .fn
    |cons _ _=>simp[zt]at ha
   | @agg l cs hl h=>
    refine .ag hl λj hj=>?_;have h1:Ld l[j]=true:=List.all_eq_true.1 ha _ (List.getElem_mem hj);have h2:=h j hj;revert h1 h2;generalize l[j]=t;generalize cs.getD j undef=z;intro h1 h2
    cases h2 with
    |v h2=>exact .v h2
    |sl h2=>exact h2
    |_=>simp[Ld]at h1
   |_=>simp[zt]at ha
  ·obtain⟨ZJ,_⟩:=hI.grow (w':=w2) (λk hk=>hb.block k hk) hb.size hb.os hb.tape hb.output
   have hF:∀k,G.F M.A k\/M.w0.heap.size<=k->G.F M.A k:=by
    rintro k (hk|hk)
    ·exact hk
    ·refine⟨M.hA k hk,λr o hφ=>?_,λr b o n hβ e=>?_⟩
     ·have:=hI.core.live hφ;omega
     ·subst e;have:=hI.core.boxlt hβ;omega
   obtain⟨G',WU⟩:=ZJ.addHands hF hlen.symm Yb;refine⟨_,mkSt vals [],VI,.inl ⟨ys,avs.toArray,G',rfl,by simpa using WU,λj hj=>.inl ?_⟩,rfl⟩;have:=List.all_eq_true.1 Wk _ (List.getElem_mem hj);revert this;generalize r.cells[j]=t;intro this
   cases t with
   |v _=>rfl
   |sl _=>rfl
   |_=>simp[Ld]at this
def Fi:TV->Bool
 |.v _=>true
 |.sl _=>true
 |.ow _=>true
 |_=>false
theorem q9{w:World}{F:Nat->Prop}{a:Option Addr}:fm w F (.sl []) (.slice a 0 0):=
 .sl (c:=[]) 1 (λ_ _=>.nilFunc) (λi h=>by simp at h) (Nat.le_refl _) (Nat.zero_le _) (λ_=>rfl) (λi j h=>by simp at h) (λi j h=>by simp at h)
theorem qG.toTm{w:World}{F:Nat->Prop}{V:Vs}{C:Cs}{G:Gh}{t:TV}{x:Value}(h:qG w F t x):TmR w F V C G t x:=by
 cases h with
 |im h=>exact h.toTm
 |fn=>exact .fn rfl λj hj=>by simp at hj
 |ag hl h=>exact .agg hl λj hj=>(h j hj).toTm
theorem qG.frame{w w':World}{F F':Nat->Prop}{t:TV}{x:Value}(h:qG w F t x)(hw:∀k,F k->k<w.heap.size->w'.heap[k]?=w.heap[k]?)(hF:∀k,F k->k<w.heap.size->F' k):qG w' F' t x:=by
 cases h with
 |im h=>exact .im (h.frame hw hF)
 |fn=>exact .fn
 |ag hl h=>exact .ag hl λj hj=>(h j hj).frame hw hF
theorem oJ{P:Program}{B:cj}(hB:ee P B){f:FuncId}{vals:List TV}{avs:List Value}{res:sR}{w:World}{F:Nat->Prop}(h:B f vals []=some (res,[]))(Zq:res.cells.all Fi=true)(hl:avs.length=vals.length)
 (hv:∀j (h:j<vals.length)(h':j<avs.length),qG w F vals[j] avs[j]):
 Calls P f avs.toArray w λe w'=>∃ys,e=.returned (iX res.sh ys)/\ys.length=res.cells.length/\Below w.heap.size w w'/\∀j (h:j<res.cells.length),fm w' (λk=>F k\/w.heap.size<=k) res.cells[j].imm (ys.getD j undef):=by
 obtain⟨Y9,N,hN,hc⟩:=hB f vals [] _ _ h;obtain⟨M,hM⟩:∃M:Fm,M=⟨w,λk=>F k\/w.heap.size<=k,λ_=>False,λ_=>none,N,λk hk=>.inr hk⟩:=⟨_,rfl⟩;have Y8:∀k,F k->frG.F M.A k:=λk hk=>⟨by rw[hM];exact .inl hk,λ_ _ h=>h,λ_ _ _ _ h=>by simp[frG]at h⟩
 have hst:∀i,(mkSt vals []).t i=vals.getD i .dead:=by
  intro i;simp[St.t,mkSt,jo]
 have hE:∀r o,bv M (mkSt vals []) [] r o=.dead:=by
  intro r o;unfold bv;split
  ·simp
  ·rfl
 have hI:Inv M (mkSt vals []) [] [] (avs.toArray++Array.replicate (N-avs.length) undef) w frG:=by
  refine⟨⟨λr o=>.inl ⟨hE r o,λ_ h=>h⟩,λ_ _ _ _ h=>by simp[frG]at h,λ_ _ _ _ h=>by simp[frG]at h,λ_ _ _ _ _ _ _ h=>by simp[frG]at h,λ_ _ _ _ h=>by simp[frG]at h,λ_ _ _ _ _ h=>h.elim,λ_ _ _ h=>h.elim⟩,λi=>?_,⟨by rw[hM],by rw[hM],by rw[hM],by rw[hM];exact Nat.le_refl _,λ_ _ _ _=>by rw[hM],λ_ _ _ _ h=>by simp[hM]at h,λ_ _ _ h=>h.elim,λ_ _ _ _ h=>by simp[frG]at h,λ_ h=>by simp[frG]at h⟩,λr l h=>by simp[mkSt,bt]at h,?_,rfl,λj hj=>by simp at hj,λ_ _ _ _ h=>by simp[frG]at h⟩
  ·rw[hst];by_cases hi:i<vals.length
   ·have ZK:i<avs.length:=by omega
    have e1:vals.getD i .dead=vals[i]:=by simp[hi]
    have e2:(avs.toArray++Array.replicate (N-avs.length) undef).getD i undef=avs[i]:=by
     simp[Array.getD_eq_getD_getElem?,Array.getElem?_append,ZK]
    rw[e1,e2];exact((hv i hi ZK).frame (w':=w) (F':=frG.F M.A) (λ_ _ _=>rfl) λk hk _=>Y8 k hk).toTm
   ·have e1:vals.getD i .dead=.dead:=by rw[oGD,oGN (by omega)];rfl
    rw[e1];exact .dead
  ·rw[hM];simp;omega
 refine(hc M avs w frG hl (by rw[hM]) (by rw[hM]) (λr hr=>by simp[hM]at hr) hI).mono λe w2 ⟨v,σ2,he,Yi,_⟩=>?_
 rcases Yi with⟨ys,ts2,G2,rfl,ZJ,_⟩|⟨q,vs,l,pv,ts2,G2,ZV,_⟩
 rotate_left
 ·rw[ZV]at Zq;simp[Fi]at Zq
 have ZN:∀j (h:j<res.cells.length),res.cells[j]≠.dead:=λj hj e=>by
  have:=List.all_eq_true.1 Zq res.cells[j] (List.getElem_mem hj);rw[e]at this;simp[Fi]at this
 obtain⟨G3,UL,Wk⟩:=ZJ.dropImm ZN;refine⟨ys,he,ZJ.hand.symm,⟨?_,?_,?_,?_,λk hk=>?_⟩,λj hj=>(Wk j hj).frame (λ_ _ _=>rfl) λk hk _=>?_⟩
 ·have:=ZJ.fram.os;rw[hM]at this;exact this
 ·have:=ZJ.fram.tape;rw[hM]at this;exact this
 ·have:=ZJ.fram.output;rw[hM]at this;exact this
 ·have:=ZJ.fram.size;rw[hM]at this;exact this
 ·have:=ZJ.fram.old k (by rw[hM];exact hk) (by rw[hM];exact λh=>h) λ_ _ _ _ h=>by simp[hM]at h
  rw[this,hM]
 ·have:=hk.1;rw[hM]at this;exact this
abbrev KB:CT:=(.pair (.int .u8) (.pair (.int .u16) (.pair I64 I64)))
abbrev Do:CT:=(.pair I64 (.pair I64 (.pair I64 (.pair I64 (.pair I64 (.pair I64 (.pair (.int .u16) (.row false KB))))))))
abbrev kT:CT:=(.row false KB)
abbrev RIi:CT:=(.row false I64)
abbrev LX:Type:=(Int×Int)
abbrev ng:Type:=(Int×Int×Int×Int)
abbrev Mh:Type:=(Int×Int×Int×Int×Int×Int×Int×List ng)
def HHi(f i:Nat):List (Nat×Option Nat):=if f=62 then(if i=0 then[(4,none)]else[])else[]
def ID:List Nat:=[57,56]
noncomputable def TTi (f:FuncId):Option TFn:=if ID.contains f then none else nD Try.prog (HHi f) f
theorem Dw{f:FuncId}(h:ID.contains f=true):TTi f=none:=oIP h
noncomputable def E0i:Env:=⟨λ_=>none,λf=>Mj Try.prog f⟩
theorem KM:Dn Try.prog TTi:=λf tf h=>Dy HHi (by kernel_rfl) f tf (by
 unfold TTi at h;split at h
 ·cases h
 ·exact h)
def mO(a0:Int):Option (Bool×Unit):=
bif(decide (a0>=1))then(some ((decide (a0<=32)),()))else
some (false,())
noncomputable def tu:X.Cfg:=⟨E0i,[],[],[]⟩
def mX:Ctr:=⟨86,0,[shU I64],[],[⟨[shU .bool],[.one],[]⟩],λh=>mO h.1⟩
set_option maxRecDepth 100000 in
theorem sZ:Lvl E0i TTi mu 1 mX:=bd (n:=0) (C:=tu) rfl (.intro) (bh (by kernel_rfl)) (λh=>by kernel_rfl)
def jN(a0:List ng):Option (Bool×Unit):=
let x0:Int:=(bf (List.length a0));
(mO x0).bind λ(x1,_)=>
some ((!x1),())
noncomputable def pI:X.Cfg:=⟨E0i,[mX],[],[]⟩
def kg:Ctr:=⟨85,1,[shU kT],[],[⟨[shU .bool],[.one],[]⟩],λh=>jN h.1⟩
set_option maxRecDepth 100000 in
theorem pG:Lvl E0i TTi mu 2 kg:=bd (n:=1) (C:=pI) rfl (.intro (sZ.mono (by decide)) (.intro)) (bh (by kernel_rfl)) (λh=>by kernel_rfl)
def iw:(List (List ng))×Int×Int×Unit->Option (((List (List ng))×Int×Int×Unit)⊕((Int×Unit)⊕((List (List ng))×Int×Int×Bool×Unit))):=λ(v0,v1,v2,_)=>
bif(decide (v2<v1))then((dS v2).bind λx0=>
(cU v0 x0).bind λx1=>
(jN x1).bind λ(x2,_)=>
bif x2 then(some (.inr (.inl (v2,()))))else
let x3:Int:=(w64 (v2+1));
some (.inl (v0,v1,x3,())))else
some (.inr (.inr (v0,v1,v2,false,())))
def fr(a0:List (List ng)):Option (Int×Unit):=
let x0:Int:=(bf (List.length a0));
(match bm iw NN (a0,x0,0,())with
|none=>none
|some (.inl (x1,_))=>
some (x1,())
|some (.inr (x1,x2,x3,x4,_))=>
some ((-1),()))
noncomputable def jF:X.Cfg:=⟨E0i,[kg],[],[⟨3,0,⟨[(0,shU (.row false kT)),(1,.fn 85 []),(7,shU I64),(8,shU I64)],[],[],([],[])⟩,[(.ret,⟨[(4,shU I64)],[],[],([],[])⟩),(.exit 0,⟨[(0,shU (.row false kT)),(1,.fn 85 []),(7,shU I64),(8,shU I64),(9,shU .bool)],[],[],([],[])⟩)]⟩]⟩
def fB:Ctr:=⟨91,2,[shU (.row false kT),.fn 85 []],[],[⟨[shU I64],[.one],[]⟩],λh=>fr h.1⟩
set_option maxRecDepth 100000 in
theorem jB:Lvl E0i TTi mu 3 fB:=bd (n:=2) (C:=jF) rfl (.intro (pG.mono (by decide)) (.intro)) (bh (by kernel_rfl)) (λh=>by kernel_rfl)
def eD(a0:List (List ng)):Option (Bool×Unit):=
(fr a0).bind λ(x0,_)=>
some ((decide (x0>=0)),())
noncomputable def iF:X.Cfg:=⟨E0i,[fB],[],[]⟩
def eH:Ctr:=⟨84,3,[shU (.row false kT),.fn 85 []],[],[⟨[shU .bool],[.one],[]⟩],λh=>eD h.1⟩
set_option maxRecDepth 100000 in
theorem iD:Lvl E0i TTi mu 4 eH:=bd (n:=3) (C:=iF) rfl (.intro (jB.mono (by decide)) (.intro)) (bh (by kernel_rfl)) (λh=>by kernel_rfl)
def lw(a0:List (List ng))(a1:List Mh):Option (Bool×Unit):=
let x0:Int:=(bf (List.length a0));
bif(decide (x0<=4))then(let x1:Int:=(bf (List.length a1));
bif(decide (x1<=4))then((eD a0).bind λ(x2,_)=>
some ((!x2),()))else
some (false,()))else
some (false,())
noncomputable def rR:X.Cfg:=⟨E0i,[eH],[],[]⟩
def lW:Ctr:=⟨73,4,[.agg [shU (.row false kT),shU (.row false Do)]],[],[⟨[shU .bool],[.one],[]⟩],λh=>lw h.1 h.2.1⟩
set_option maxRecDepth 100000 in
theorem rK:Lvl E0i TTi mu 5 lW:=bd (n:=4) (C:=rR) rfl (.intro (iD.mono (by decide)) (.intro)) (bh (by kernel_rfl)) (λh=>by kernel_rfl)
def nJ(a0:List ng)(a1:Int):Option ((List ng)×Unit):=
(bif(decide (a1<0))then(some (a0,a1,true,()))else
bif(decide (a1>32))then(some (a0,a1,true,()))else
let x0:Int:=(w64 (a1*8));
let x1:Int:=(bf (List.length a0));
some (a0,a1,(decide (x0>=x1)),()):Option ((List ng)×Int×Bool×Unit)).bind λ(x0,x1,x2,_)=>
bif x2 then(some ([],()))else
let x3:Int:=(w64 (x1*8));
let x4:Int:=(w64 (x3+8));
let x5:Int:=(bf (List.length x0));
let x6:Int:=(mmR false x4 x5);
(dS x3).bind λx7=>
(dS x6).bind λx8=>
bif(gq x7 x8 (List.length x0))then let x9:List ng:=(Au x0 x7 (Nat.sub x8 x7));
some (x9,())else none
noncomputable def vp:X.Cfg:=⟨E0i,[],[],[⟨2,0,⟨[],[],[],([],[])⟩,[(.normal,⟨[(0,shU kT),(1,shU I64),(18,shU .bool)],[],[],([],[])⟩)]⟩]⟩
def oE:Ctr:=⟨62,5,[shU kT,shU I64],[],[⟨[shU kT],[.one],[]⟩],λh=>nJ h.1 h.2.1⟩
set_option maxRecDepth 100000 in
theorem u7:Lvl E0i TTi mu 1 oE:=bd (n:=0) (C:=vp) rfl (.intro) (bh (by kernel_rfl)) (λh=>by kernel_rfl)
def mN(a0:List (List ng))(a1:List Mh)(a2:Int)(a3:Int):Option (Bool×Unit):=
bif(a2==(-1))then(bif(decide (a3>=0))then(let x0:Int:=(bf (List.length a1));
some ((decide (a3<x0)),()))else
some (false,()))else
bif(decide (a2>=0))then(let x0:Int:=(bf (List.length a0));
bif(decide (a2<x0))then((dS a2).bind λx1=>
(cU a0 x1).bind λx2=>
(nJ x2 a3).bind λ(x3,_)=>
let x4:Int:=(bf (List.length x3));
some ((decide (x4>0)),()))else
some (false,()))else
some (false,())
noncomputable def tr:X.Cfg:=⟨E0i,[oE],[],[]⟩
def mW:Ctr:=⟨76,6,[.agg [shU (.row false kT),shU (.row false Do)],.agg [shU I64,shU I64]],[],[⟨[shU .bool],[.one],[]⟩],λh=>mN h.1 h.2.1 h.2.2.1 h.2.2.2.1⟩
set_option maxRecDepth 100000 in
theorem sY:Lvl E0i TTi mu 2 mW:=bd (n:=1) (C:=tr) rfl (.intro (u7.mono (by decide)) (.intro)) (bh (by kernel_rfl)) (λh=>by kernel_rfl)
def fV(a0:List (List ng))(a1:List Mh)(a2:Int)(a3:Int):Option (Int×Unit):=
(lw a0 a1).bind λ(x0,_)=>
bif(!x0)then(some (1,()))else
(mN a0 a1 a2 a3).bind λ(x1,_)=>
bif(!x1)then(some (30,()))else
some (0,())
noncomputable def vq:X.Cfg:=⟨E0i,[lW,mW],[],[]⟩
def wi:Ctr:=⟨53,7,[.agg [shU (.row false kT),shU (.row false Do)],.agg [shU I64,shU I64]],[],[⟨[shU I64],[.one],[]⟩],λh=>fV h.1 h.2.1 h.2.2.1 h.2.2.2.1⟩
set_option maxRecDepth 100000 in
theorem u9:Lvl E0i TTi mu 6 wi:=bd (n:=5) (C:=vq) rfl (.intro (rK.mono (by decide)) (.intro (sY.mono (by decide)) (.intro))) (bh (by kernel_rfl)) (λh=>by kernel_rfl)
def dx(a0:Int)(a1:Int)(a2:Int)(a3:Int)(a4:Int)(a5:Int)(a6:Int)(a7:List ng):Option (Bool×Unit):=
bif(a0==0)then(bif(a1==0)then(bif(a2==0)then(bif(a3==0)then(bif(a4==0)then(bif(a5==0)then(bif(a6==0)then(let x0:Int:=(bf (List.length a7));
some ((x0==0),()))else
some (false,()))else
some (false,()))else
some (false,()))else
some (false,()))else
some (false,()))else
some (false,()))else
some (false,())
noncomputable def tw:X.Cfg:=⟨E0i,[],[],[]⟩
def tR:Ctr:=⟨63,8,[.agg [shU I64,shU I64,shU I64,shU I64,shU I64,shU I64,shU (.int .u16),shU kT]],[],[⟨[shU .bool],[.one],[]⟩],λh=>dx h.1 h.2.1 h.2.2.1 h.2.2.2.1 h.2.2.2.2.1 h.2.2.2.2.2.1 h.2.2.2.2.2.2.1 h.2.2.2.2.2.2.2.1⟩
set_option maxRecDepth 100000 in
theorem s7:Lvl E0i TTi mu 1 tR:=bd (n:=0) (C:=tw) rfl (.intro) (bh (by kernel_rfl)) (λh=>by kernel_rfl)
def nK(a0:Int)(a1:Int):Option (Int×Unit):=
(bif(decide (a0<0))then(some (true,()))else
bif(decide (a1>200))then(some (true,()))else
some ((decide (a0>a1)),()):Option (Bool×Unit)).bind λ(x0,_)=>
bif x0 then(some (6,()))else
some (0,())
noncomputable def vu:X.Cfg:=⟨E0i,[],[],[⟨2,0,⟨[],[],[],([],[])⟩,[(.normal,⟨[(15,shU .bool)],[],[],([],[])⟩)]⟩]⟩
def oG:Ctr:=⟨30,9,[shU I64,shU I64],[],[⟨[shU I64],[.one],[]⟩],λh=>nK h.1 h.2.1⟩
set_option maxRecDepth 100000 in
theorem vb:Lvl E0i TTi mu 1 oG:=bd (n:=0) (C:=vu) rfl (.intro) (bh (by kernel_rfl)) (λh=>by kernel_rfl)
def kt(a0:Int)(a1:Int):Option (Int×Unit):=
bif(a0==(-1))then(some (1,()))else
some (0,())
noncomputable def vt:X.Cfg:=⟨E0i,[],[],[]⟩
def oF:Ctr:=⟨72,10,[.agg [shU I64,shU I64]],[],[⟨[shU I64],[.one],[]⟩],λh=>kt h.1 h.2.1⟩
set_option maxRecDepth 100000 in
theorem va:Lvl E0i TTi mu 1 oF:=bd (n:=0) (C:=vt) rfl (.intro) (bh (by kernel_rfl)) (λh=>by kernel_rfl)
def eA(a0:Int):Option (Bool×Unit):=
some ((a0 != a0),())
noncomputable def ln:X.Cfg:=⟨E0i,[],[],[]⟩
def gw:Ctr:=⟨83,11,[shU I64],[],[⟨[shU .bool],[.one],[]⟩],λh=>eA h.1⟩
set_option maxRecDepth 100000 in
theorem lk:Lvl E0i TTi mu 1 gw:=bd (n:=0) (C:=ln) rfl (.intro) (bh (by kernel_rfl)) (λh=>by kernel_rfl)
def co(a0:Int)(a1:Int):Option (Int×Unit):=
(eA a0).bind λ(x0,_)=>
(eA a1).bind λ(x1,_)=>
bif x0 then(bif x1 then(some (0,()))else
some ((-1),()))else
bif x1 then(some (1,()))else
bif(decide (a0<a1))then(some ((-1),()))else
bif(decide (a0>a1))then(some (1,()))else
some (0,())
noncomputable def je:X.Cfg:=⟨E0i,[gw],[],[]⟩
def fc:Ctr:=⟨71,12,[shU I64,shU I64],[],[⟨[shU I64],[.one],[]⟩],λh=>co h.1 h.2.1⟩
set_option maxRecDepth 100000 in
theorem jc:Lvl E0i TTi mu 2 fc:=bd (n:=1) (C:=je) rfl (.intro (lk.mono (by decide)) (.intro)) (bh (by kernel_rfl)) (λh=>by kernel_rfl)
def nn:Int×(List (Int))×Int×Int×Unit->Option ((Int×(List (Int))×Int×Int×Unit)⊕((Int×Unit)⊕(Int×(List (Int))×Int×Int×Bool×Unit))):=λ(v0,v1,v2,v3,_)=>
bif(decide (v3<v2))then((dS v3).bind λx0=>
(cU v1 x0).bind λx1=>
bif(x1 != v0)then(some (.inr (.inl (x1,()))))else
let x2:Int:=(w64 (v3+1));
some (.inl (v0,v1,v2,x2,())))else
some (.inr (.inr (v0,v1,v2,v3,false,())))
def kX(a0:List (Int)):Option (Int×Unit):=
let x0:Int:=(bf (List.length a0));
(match bm nn NN (0,a0,x0,0,())with
|none=>none
|some (.inl (x1,_))=>
some (x1,())
|some (.inr (x1,x2,x3,x4,x5,_))=>
some (x1,()))
noncomputable def qy:X.Cfg:=⟨E0i,[],[],[⟨4,0,⟨[(3,shU I64),(6,shU RIi),(7,shU I64),(8,shU I64)],[],[],([],[])⟩,[(.ret,⟨[(2,shU I64)],[],[],([],[])⟩),(.exit 0,⟨[(3,shU I64),(6,shU RIi),(7,shU I64),(8,shU I64),(9,shU .bool)],[],[],([],[])⟩)]⟩]⟩
def k9:Ctr:=⟨70,13,[shU RIi],[],[⟨[shU I64],[.one],[]⟩],λh=>kX h.1⟩
set_option maxRecDepth 100000 in
theorem qv:Lvl E0i TTi mu 1 k9:=bd (n:=0) (C:=qy) rfl (.intro) (bh (by kernel_rfl)) (λh=>by kernel_rfl)
def mP(a0:Int)(a1:Int)(a2:Int)(a3:Int):Option (Int×Unit):=
(kt a0 a1).bind λ(x0,_)=>
(kt a2 a3).bind λ(x1,_)=>
(co x0 x1).bind λ(x2,_)=>
(co a0 a2).bind λ(x3,_)=>
(co a1 a3).bind λ(x4,_)=>
let x5:List (Int):=[x2,x3,x4];
(kX x5).bind λ(x6,_)=>
some (x6,())
noncomputable def tz:X.Cfg:=⟨E0i,[oF,fc,k9],[],[]⟩
def mY:Ctr:=⟨45,14,[.agg [shU I64,shU I64],.agg [shU I64,shU I64]],[],[⟨[shU I64],[.one],[]⟩],λh=>mP h.1 h.2.1 h.2.2.1 h.2.2.2.1⟩
set_option maxRecDepth 100000 in
theorem s8:Lvl E0i TTi mu 3 mY:=bd (n:=2) (C:=tz) rfl (.intro (va.mono (by decide)) (.intro (jc.mono (by decide)) (.intro (qv.mono (by decide)) (.intro)))) (bh (by kernel_rfl)) (λh=>by kernel_rfl)
def pb:Int×Int×Int×(List (Int×Int×(List ng)×Int×Int×Int×Int×Int×Int×Int×List ng))×Unit->Option ((Int×Int×Int×(List (Int×Int×(List ng)×Int×Int×Int×Int×Int×Int×Int×List ng))×Unit)⊕((Int×Unit)⊕(Int×Bool×Int×Int×(List (Int×Int×(List ng)×Int×Int×Int×Int×Int×Int×Int×List ng))×Unit))):=λ(v0,v1,v2,v3,_)=>
let x0:Int:=(bf (List.length v3));
bif(decide (v0<x0))then(let x1:Int:=(w64 (v0-1));
(dS x1).bind λx2=>
(cU v3 x2).bind λx3=>
(dS v0).bind λx4=>
(cU v3 x4).bind λx5=>
(mP x3.1 x3.2.1 x5.1 x5.2.1).bind λ(x6,_)=>
bif(decide (x6>=0))then(some (.inr (.inl (5,()))))else
let x7:Int:=(w64 (v0+1));
some (.inl (x7,v1,v2,v3,())))else
some (.inr (.inr (v0,false,v1,v2,v3,())))
def eo(a0:Int)(a1:Int)(a2:List (Int×Int×(List ng)×Int×Int×Int×Int×Int×Int×Int×List ng)):Option (Int×Unit):=
(nK a0 a1).bind λ(x0,_)=>
bif(x0 != 0)then(some (x0,()))else
(match bm pb NN (1,a0,a1,a2,())with
|none=>none
|some (.inl (x1,_))=>
some (x1,())
|some (.inr (x1,x2,x3,x4,x5,_))=>
some (0,()))
noncomputable def tB:X.Cfg:=⟨E0i,[oG,mY],[],[⟨7,0,⟨[(1,.ptr ⟨4,0,[]⟩ [0]),(4,shU I64)],[(4,[shU I64,shU I64,shU (.row false (.pair I64 (.pair I64 (.pair kT Do))))])],[],([],[])⟩,[(.ret,⟨[(2,shU I64)],[],[],([],[])⟩),(.exit 0,⟨[(1,.ptr ⟨4,0,[]⟩ [0]),(4,shU I64),(17,shU .bool)],[(4,[shU I64,shU I64,shU (.row false (.pair I64 (.pair I64 (.pair kT Do))))])],[],([],[])⟩)]⟩]⟩
def tT:Ctr:=⟨24,15,[.agg [shU I64,shU I64,shU (.row false (.pair I64 (.pair I64 (.pair kT Do))))]],[],[⟨[shU I64],[.one],[]⟩],λh=>eo h.1 h.2.1 h.2.2.1⟩
set_option maxRecDepth 100000 in
theorem td:Lvl E0i TTi mu 4 tT:=bd (n:=3) (C:=tB) rfl (.intro (vb.mono (by decide)) (.intro (s8.mono (by decide)) (.intro))) (bh (by kernel_rfl)) (λh=>by kernel_rfl)
def gj:Ctr:=⟨57,16,[shU (.row false (.row false (.pair I64 I64)))],[],[⟨[shU (.row false (.pair I64 I64))],[.one],[]⟩],λh=>dl h.1⟩
theorem kD:Lvl E0i TTi mu 1 gj:=(u5 (Dw rfl) jZ).mono (by decide)
def gv:Ctr:=⟨56,17,[.fn 45 [],shU (.row false (.pair I64 I64))],[],[⟨[shU (.row false (.pair I64 I64))],[.one],[]⟩],λh=>dq h.1⟩
theorem lj:Lvl E0i TTi mu 1 gv:=(u5 (Dw rfl) kC).mono (by decide)
def en(a0:List LX)(a1:List LX):Option ((List LX)×Unit):=
let x0:List (List LX):=[a0,a1];
(dl x0).bind λ(x1,_)=>
(dq x1).bind λ(x2,_)=>
some (x2,())
noncomputable def tA:X.Cfg:=⟨E0i,[gj,gv],[(7,(.row true (.pair I64 I64)))],[]⟩
def tS:Ctr:=⟨33,18,[shU (.row false (.pair I64 I64)),shU (.row false (.pair I64 I64))],[],[⟨[shU (.row false (.pair I64 I64))],[.one],[]⟩],λh=>en h.1 h.2.1⟩
set_option maxRecDepth 100000 in
theorem s9:Lvl E0i TTi mu 2 tS:=bd (n:=1) (C:=tA) rfl (.intro (kD.mono (by decide)) (.intro (lj.mono (by decide)) (.intro))) (bh (by kernel_rfl)) (λh=>by kernel_rfl)
def cA(a0:List ng):Option ((List ng)×Unit):=
bif(cq 24 0 (List.length a0))then let x0:List ng:=(List.append [] a0);
some (x0,())else none
noncomputable def lQ:X.Cfg:=⟨E0i,[],[],[]⟩
def eS:Ctr:=⟨58,19,[shU kT],[],[⟨[shU (.row true KB)],[.one],[]⟩],λh=>cA h.1⟩
set_option maxRecDepth 100000 in
theorem g8:Lvl E0i TTi mu 1 eS:=bd (n:=0) (C:=lQ) rfl (.intro) (bh (by kernel_rfl)) (λh=>by kernel_rfl)
def jy(a0:Int)(a1:Int)(a2:Int)(a3:Int)(a4:Int)(a5:Int)(a6:Int)(a7:List ng):Option (Int×Int×Int×Int×Int×Int×Int×(List ng)×Unit):=
(cA a7).bind λ(x0,_)=>
some (a0,a1,a2,a3,a4,a5,a6,x0,())
noncomputable def tC:X.Cfg:=⟨E0i,[eS],[],[]⟩
def mZ:Ctr:=⟨59,20,[.agg [shU I64,shU I64,shU I64,shU I64,shU I64,shU I64,shU (.int .u16),shU kT]],[],[⟨[shU I64,shU I64,shU I64,shU I64,shU I64,shU I64,shU (.int .u16),shU (.row true KB)],[.agg 8],[]⟩],λh=>jy h.1 h.2.1 h.2.2.1 h.2.2.2.1 h.2.2.2.2.1 h.2.2.2.2.2.1 h.2.2.2.2.2.2.1 h.2.2.2.2.2.2.2.1⟩
set_option maxRecDepth 100000 in
theorem te:Lvl E0i TTi mu 2 mZ:=bd (n:=1) (C:=tC) rfl (.intro (g8.mono (by decide)) (.intro)) (bh (by kernel_rfl)) (λh=>by kernel_rfl)
def jz(a0:Int)(a1:Int)(a2:List ng)(a3:Int)(a4:Int)(a5:Int)(a6:Int)(a7:Int)(a8:Int)(a9:Int)(a10:List ng):Option (Int×Int×(List ng)×Int×Int×Int×Int×Int×Int×Int×(List ng)×Unit):=
(cA a2).bind λ(x0,_)=>
(jy a3 a4 a5 a6 a7 a8 a9 a10).bind λ(x1,x2,x3,x4,x5,x6,x7,x8,_)=>
some (a0,a1,x0,x1,x2,x3,x4,x5,x6,x7,x8,())
noncomputable def tD:X.Cfg:=⟨E0i,[eS,mZ],[],[]⟩
def tU:Ctr:=⟨34,21,[.agg [shU I64,shU I64,shU kT,shU I64,shU I64,shU I64,shU I64,shU I64,shU I64,shU (.int .u16),shU kT]],[],[⟨[shU I64,shU I64,shU (.row true KB),shU I64,shU I64,shU I64,shU I64,shU I64,shU I64,shU (.int .u16),shU (.row true KB)],[.agg 11],[]⟩],λh=>jz h.1 h.2.1 h.2.2.1 h.2.2.2.1 h.2.2.2.2.1 h.2.2.2.2.2.1 h.2.2.2.2.2.2.1 h.2.2.2.2.2.2.2.1 h.2.2.2.2.2.2.2.2.1 h.2.2.2.2.2.2.2.2.2.1 h.2.2.2.2.2.2.2.2.2.2.1⟩
set_option maxRecDepth 100000 in
theorem tg:Lvl E0i TTi mu 3 tU:=bd (n:=2) (C:=tD) rfl (.intro (g8.mono (by decide)) (.intro (te.mono (by decide)) (.intro))) (bh (by kernel_rfl)) (λh=>by kernel_rfl)
def lJ:CT->Bool
 |.int _=>true
 |.bool=>true
 |.row _ t=>lJ t
 |.pair a b=>lJ a&&lJ b
 |_=>false
theorem iL{α β:Type}{f:α->β}(hf:∀{x y:α},f x=f y->x=y):∀{xs ys:List α},xs.map f=ys.map f->xs=ys
 | [],[],_=>rfl
 | [],_::_,h=>by simp at h
 |_::_,[],h=>by simp at h
 |x::xs,y::ys,h=>by
  simp only[List.map_cons,List.cons.injEq]at h;rw[hf h.1,iL hf h.2]
theorem sg:∀(t:CT),lJ t=true->∀{x y:den t},enc t x=enc t y->x=y:=by
 intro t
 induction t with
 |int k=>intro _ x y h;simp only[enc,List.cons.injEq,TV.v.injEq,and_true]at h;injection h
 |bool=>intro _ x y h;simp only[enc,List.cons.injEq,TV.v.injEq,and_true]at h;injection h
 |str=>intro h;simp[lJ]at h
 |nat=>intro h;simp[lJ]at h
 |nilr o=>intro h;simp[lJ]at h
 |row o t ih=>
  intro hp x y h;have ih:=@ih hp
  have h2:List.map (enc t) (x:List (den t))=List.map (enc t) (y:List (den t)):=by
   cases o
   ·simp only[enc,List.cons.injEq,TV.sl.injEq,and_true]at h;exact h
   ·simp only[enc,List.cons.injEq,TV.ow.injEq,and_true]at h;exact h
  exact iL (λe=>ih e) h2
 |pair a b Za Y4=>
  intro hp x y h;simp only[lJ,oBA]at hp;obtain⟨x1,x2⟩:=x;obtain⟨y1,y2⟩:=y;simp only[enc]at h;obtain⟨h1,h2⟩:=List.append_inj h (by rw[cn,cn]);rw[@Za hp.1 _ _ h1,@Y4 hp.2 _ _ h2]
theorem Ls:Dq Try.prog E0i:=λf n tm h=>by simp[E0i]at h
theorem Lg(k:Nat):ee Try.prog (runF E0i TTi mu k):=runF_ok KM Ls Fb k
theorem eR{w w':World}(h:Below w.heap.size w w'):w.grownBy w' none:=⟨h.os,h.tape,h.output,h.size,λk hk _=>h.block k hk⟩
theorem FC(C:List (List Cn4))(T:List Vw8)(r i fe:Int)(h:fV C T r i=some (fe,())):
 runF E0i TTi mu (NN+6) 53 [.agg [.sl (C.map (enc cCs)),.sl (T.map (enc cVw))],.agg [.v (.int .i64 r),.v (.int .i64 i)]] []=some (⟨[.v (.int .i64 fe)],[.one]⟩,[]):=
 u9 6 (Nat.le_refl _) ⟨C,T,r,i,()⟩ (fe,()) _ h rfl
theorem CP{w:World}{F:Nat->Prop}{C:List (List Cn4)}{T:List Vw8}{U V:Value}{r i fe:Int}(hu:RSl rCs w F C U)(hv:RSl rVw w F T V)(h:fV C T r i=some (fe,())):
 ∀w',w.grownBy w' none->Calls Try.prog 53 #[.agg #[U,V],.agg #[.int .i64 r,.int .i64 i]] w' λe w2=>e=.returned (.int .i64 fe)/\w'.grownBy w2 none:=λw' hg=>by
 refine(oJ (Lg _) (FC C T r i fe h) rfl (avs:=[.agg #[U,V],.agg #[.int .i64 r,.int .i64 i]]) (w:=w') (F:=F) rfl λj hj _=>?_).mono ?_
 ·have hj:j<2:=hj
  match j,hj with
  |0,_=>
   refine .ag rfl λj hj=>?_;have hj:j<2:=hj
   match j,hj with
   |0,_=>exact nT wN (hu.grow hg)
   |1,_=>exact nT AU (hv.grow hg)
  |1,_=>
   refine .ag rfl λj hj=>?_;have hj:j<2:=hj
   match j,hj with
   |0,_=>exact .v rfl
   |1,_=>exact .v rfl
 ·rintro e w2 ⟨ys,rfl,hl,hb,Yb⟩;obtain⟨y,rfl⟩:=List.length_eq_one_iff.1 hl;have h0:=Yb 0 Nat.one_pos;replace h0:fm w2 _ (.v (.int .i64 fe)) y:=h0
  cases h0 with
  |v _=>exact⟨rfl,eR hb⟩
theorem CS(v0 v1 v2 v3 v4 v5 v6:Int)(L:List Cn4)(eb:Bool)(h:dx v0 v1 v2 v3 v4 v5 v6 L=some (eb,())):
 runF E0i TTi mu (NN+1) 63 [.agg [.v (.int .i64 v0),.v (.int .i64 v1),.v (.int .i64 v2),.v (.int .i64 v3),.v (.int .i64 v4),.v (.int .i64 v5),.v (.int .u16 v6),.sl (L.map (enc cCn))]] []=some (⟨[.v (.bool eb)],[.one]⟩,[]):=
 s7 1 (Nat.le_refl _) ⟨v0,v1,v2,v3,v4,v5,v6,L,()⟩ (eb,()) _ h rfl
theorem zR{w:World}{F:Nat->Prop}{v0 v1 v2 v3 v4 v5 v6:Int}{L:List Cn4}{Z:Value}{eb:Bool}(hz:RSl rCn w F L Z)(h:dx v0 v1 v2 v3 v4 v5 v6 L=some (eb,())):
 ∀w',w.grownBy w' none->Calls Try.prog 63 #[.agg #[.int .i64 v0,.int .i64 v1,.int .i64 v2,.int .i64 v3,.int .i64 v4,.int .i64 v5,.int .u16 v6,Z]] w' λe w2=>e=.returned (.bool eb)/\w'.grownBy w2 none:=λw' hg=>by
 refine(oJ (Lg _) (CS v0 v1 v2 v3 v4 v5 v6 L eb h) rfl (avs:=[.agg #[.int .i64 v0,.int .i64 v1,.int .i64 v2,.int .i64 v3,.int .i64 v4,.int .i64 v5,.int .u16 v6,Z]]) (w:=w') (F:=F) rfl λj hj _=>?_).mono ?_
 ·have hj:j<1:=hj
  match j,hj with
  |0,_=>
   refine .ag rfl λj hj=>?_;have hj:j<8:=hj
   match j,hj with
   |0,_=>exact .v rfl
   |1,_=>exact .v rfl
   |2,_=>exact .v rfl
   |3,_=>exact .v rfl
   |4,_=>exact .v rfl
   |5,_=>exact .v rfl
   |6,_=>exact .v rfl
   |7,_=>exact nT Iy (hz.grow hg)
 ·rintro e w2 ⟨ys,rfl,hl,hb,Yb⟩;obtain⟨y,rfl⟩:=List.length_eq_one_iff.1 hl;have h0:=Yb 0 Nat.one_pos;replace h0:fm w2 _ (.v (.bool eb)) y:=h0
  cases h0 with
  |v _=>exact⟨rfl,eR hb⟩
theorem Dc(xf xt:Int)(xs:List iM)(c:Int)(h:eo xf xt xs=some (c,())):
 runF E0i TTi mu (NN+4) 24 [.agg [.v (.int .i64 xf),.v (.int .i64 xt),.sl (xs.map (enc cPg))]] []=some (⟨[.v (.int .i64 c)],[.one]⟩,[]):=
 td 4 (Nat.le_refl _) ⟨xf,xt,xs,()⟩ (c,()) _ h rfl
theorem sx{w:World}{F:Nat->Prop}{xf xt:Int}{xs:List iM}{X:Value}{c:Int}(hx:RSl rPg w F xs X)(h:eo xf xt xs=some (c,())):Gd (.agg #[.int .i64 xf,.int .i64 xt,X]) c w:=λw' hg=>by
 refine(oJ (Lg _) (Dc xf xt xs c h) rfl (avs:=[.agg #[.int .i64 xf,.int .i64 xt,X]]) (w:=w') (F:=F) rfl λj hj _=>?_).mono ?_
 ·have hj:j<1:=hj
  match j,hj with
  |0,_=>
   refine .ag rfl λj hj=>?_;have hj:j<3:=hj
   match j,hj with
   |0,_=>exact .v rfl
   |1,_=>exact .v rfl
   |2,_=>exact nT rv (hx.grow hg)
 ·rintro e w2 ⟨ys,rfl,hl,hb,Yb⟩;obtain⟨y,rfl⟩:=List.length_eq_one_iff.1 hl;have h0:=Yb 0 Nat.one_pos;replace h0:fm w2 _ (.v (.int .i64 c)) y:=h0
  cases h0 with
  |v _=>exact⟨rfl,eR hb⟩
theorem zS(ids sids:List (Int×Int))(h:en ids []=some (sids,())):
 runF E0i TTi mu (NN+2) 33 [.sl (ids.map (enc (.pair (.int .i64) (.int .i64)))),.sl []] []=some (⟨[.sl (sids.map (enc (.pair (.int .i64) (.int .i64))))],[.one]⟩,[]):=
 s9 2 (Nat.le_refl _) ⟨ids,[],()⟩ (sids,()) _ h rfl
theorem zQ(l:List (Int×Int)):(TV.sl (l.map (enc (.pair (.int .i64) (.int .i64))))).imm=.sl (l.map (enc (.pair (.int .i64) (.int .i64)))):=by
 simp only[TV.imm]
theorem xX{w:World}{ids sids:List (Int×Int)}(h:en ids []=some (sids,()))(hs:sids.length<=1099511627776):Mn ids sids w:=λw' V G hg hv=>by
 refine(oJ (Lg _) (zS ids sids h) rfl (avs:=[V,.slice none 0 0]) (w:=w') (F:=G) rfl λj hj _=>?_).mono ?_
 ·have hj:j<2:=hj
  match j,hj with
  |0,_=>exact .im (nT Ix hv)
  |1,_=>exact .im q9
 ·rintro e w2 ⟨ys,rfl,hl,hb,Yb⟩;obtain⟨y,rfl⟩:=List.length_eq_one_iff.1 hl;have h0:=Yb 0 Nat.one_pos;replace h0:fm w2 _ (TV.sl (sids.map (enc (.pair (.int .i64) (.int .i64))))).imm y:=h0;rw[zQ]at h0;exact⟨y,rfl,um Ix h0 (λ_ _=>trivial) hs,eR hb⟩
theorem sq{l:List Cn4}(h:l.length<=1099511627776):cA l=some (l,()):=by
 have:cq 24 0 (List.length l)=true:=by
  unfold cq;simp only[oBA,oDE];omega
 unfold cA;rw[this];rfl
theorem EV(p:iM)(h:PgB p):
 runF E0i TTi mu (NN+3) 34 [.agg (enc cPg p)] []=some (⟨[.v (.int .i64 p.1),.v (.int .i64 p.2.1),.ow (p.2.2.1.map (enc cCn)),.v (.int .i64 p.2.2.2.1),.v (.int .i64 p.2.2.2.2.1),.v (.int .i64 p.2.2.2.2.2.1),.v (.int .i64 p.2.2.2.2.2.2.1),.v (.int .i64 p.2.2.2.2.2.2.2.1),.v (.int .i64 p.2.2.2.2.2.2.2.2.1),.v (.int .u16 p.2.2.2.2.2.2.2.2.2.1),.ow (p.2.2.2.2.2.2.2.2.2.2.map (enc cCn))],[.agg 11]⟩,[]):=by
 obtain⟨a,c,pc,v0,v1,v2,v3,v4,v5,v6,pr⟩:=p
 exact tg 3 (Nat.le_refl _) ⟨a,c,pc,v0,v1,v2,v3,v4,v5,v6,pr,()⟩ (a,c,pc,v0,v1,v2,v3,v4,v5,v6,pr,()) _ (by
  show jz a c pc v0 v1 v2 v3 v4 v5 v6 pr=_;unfold jz jy;rw[sq h.1,sq h.2]
  rfl) rfl
theorem uq(l:List Cn4):(TV.ow (l.map (enc cCn))).imm=.sl (l.map (enc cCn)):=by
 simp only[TV.imm,jw,List.map_map];rfl
theorem G8{w:World}{F:Nat->Prop}{p:iM}{cs:List Value}(h:rPg.rep w F p cs):PgB p:=by
 obtain⟨y,z,_,hy,hz⟩:=A9 h;obtain⟨_,_,_,_,_,h1⟩:=hy.size_eq;obtain⟨_,_,_,_,_,h2⟩:=hz.size_eq;exact⟨h1,h2⟩
theorem Cr{w:World}{F:Nat->Prop}:IR F w:=λw' p cs hg hr=>by
 have hB:=G8 hr;refine(oJ (Lg _) (EV p hB) rfl (avs:=[.agg cs.toArray]) (w:=w') (F:=F) rfl λj hj _=>?_).mono ?_
 ·have hj:j<1:=hj
  match j,hj with
  |0,_=>
   have hrel:=rv.toI hr;refine .ag (by simpa using hrel.len) λj hj=>?_;have:=hrel.get j hj;simpa[Array.getD_eq_getD_getElem?,oGD]using this
 ·rintro e w2 ⟨ys,rfl,hl,hb,Yb⟩;have hlen:ys.length=11:=hl
  have hrel:me w2 (λk=>F k\/w'.heap.size<=k) (enc cPg p) ys:=by
   refine me.of (by rw[hlen];rfl) λj hj=>?_
   have Rw:j<11:=by rw[cn]at hj;exact hj
   have h0:=Yb j Rw
   match j,Rw with
   |0,_=>exact h0
   |1,_=>exact h0
   |2,_=>
    replace h0:fm w2 _ (TV.ow (p.2.2.1.map (enc cCn))).imm (ys.getD 2 undef):=h0;rw[uq]at h0;exact h0
   |3,_=>exact h0
   |4,_=>exact h0
   |5,_=>exact h0
   |6,_=>exact h0
   |7,_=>exact h0
   |8,_=>exact h0
   |9,_=>exact h0
   |10,_=>
    replace h0:fm w2 _ (TV.ow (p.2.2.2.2.2.2.2.2.2.2.map (enc cCn))).imm (ys.getD 10 undef):=h0;rw[uq]at h0;exact h0
  refine⟨ys,?_,rv.of hrel hB,eR hb⟩
  match ys,hlen with
  | [a0,a1,a2,a3,a4,a5,a6,a7,a8,a9,a10],_=>rfl
theorem qG.agg_out{w:World}{F:Nat->Prop}{l:List TV}{x:Value}(h:qG w F (.agg l) x):∃cs:List Value,x=.agg cs.toArray/\me w F l cs:=by
 cases h with
 |im h=>cases h
 | @ag _ cs hl h=>
  refine⟨cs.toList,by simp,me.of (by simpa using hl.symm) λj hj=>?_⟩;have:=h j hj;simpa[Array.getD_eq_getD_getElem?,oGD]using this
theorem sH{w w':World}(h:w.grownBy w' none):Below w.heap.size w w':=⟨h.os,h.tape,h.output,h.size,λk hk=>h.block k hk (by simp)⟩
def Em(C:List (List Cn4))(T:List Vw8)(cells L:List Cn4):Bool:=decide (C.length<=1099511627776)&&C.all (λx=>decide (x.length<=1099511627776))&&decide (T.length<=1099511627776)&&T.all (λx=>decide (x.2.2.2.2.2.2.2.length<=1099511627776))&&decide (cells.length<=1099511627776)&&decide (L.length<=1099511627776)
def cN(C:List (List Cn4))(T:List Vw8)(a0 a1:Int)(cells:List Cn4)(v0 v1 v2 v3 v4 v5 v6:Int)(L:List Cn4):Option (List (List Cn4)×List Vw8×Int×Unit):=
 if Em C T cells L=true then
  (fV C T a0 a1).bind λ(fe,_)=>
  if fe≠0 then some ([],[],fe,())
  else if a0=-1 then(if 0<cells.length then some ([],[],5,())else if 0<=a1/\a1.toNat<T.length then some (C,T.set a1.toNat (v0,v1,v2,v3,v4,v5,v6,L),0,())else none)
  else if 0<=a0/\a0.toNat<C.length/\0<=a1/\a1<=32/\8*a1.toNat<(C.getD a0.toNat []).length then
   (dx v0 v1 v2 v3 v4 v5 v6 L).bind λ(eb,_)=>
   if cells.length≠min 8 ((C.getD a0.toNat []).length-8*a1.toNat)\/eb=false then some ([],[],5,())else some (C.set a0.toNat (jl (C.getD a0.toNat []) a1.toNat cells),T,0,())
  else none
 else none
def md(C':List (List Cn4))(T':List Vw8)(err:Int)(w:World)(e:Ending)(w':World):Prop:=
 ∃a b,e=.returned (.tuple #[.agg #[a,b],.int .i64 err])/\RSl rCs w' (λk=>w.heap.size<=k) C' a/\RSl rVw w' (λk=>w.heap.size<=k) T' b/\w.grownBy w' none
theorem md.nil{w w':World}{e:Ending}{err:Int}(h:e=.returned (.tuple #[.agg #[.slice none 0 0,.slice none 0 0],.int .i64 err])/\w.grownBy w' none):md [] [] err w e w':=⟨_,_,h.1,RSl.nil _ _,RSl.nil _ _,h.2⟩
theorem md.ret{C:List (List Cn4)}{T:List Vw8}{w w':World}{e:Ending}(h:BJ C T w e w'):md C T 0 w e w':=h
theorem Ej{F:Nat->Prop}{C:List (List Cn4)}{T:List Vw8}{a0 a1:Int}{cells:List Cn4}{v0 v1 v2 v3 v4 v5 v6:Int}{L:List Cn4}{U V Y Z:Value}{w:World}{C':List (List Cn4)}{T':List Vw8}{err:Int}
 (hu:RSl rCs w F C U)(hv:RSl rVw w F T V)(hy:RSl rCn w F cells Y)(hz:RSl rCn w F L Z)(h:cN C T a0 a1 cells v0 v1 v2 v3 v4 v5 v6 L=some (C',T',err,())):
 Calls Try.prog 36 #[.agg #[U,V],.agg #[.int .i64 a0,.int .i64 a1,Y,.int .i64 v0,.int .i64 v1,.int .i64 v2,.int .i64 v3,.int .i64 v4,.int .i64 v5,.int .u16 v6,Z]] w (md C' T' err w):=by
 unfold cN at h;split at h
 case isFalse=>cases h
 obtain⟨⟨fe,u⟩,hf,h⟩:=Option.bind_eq_some_iff.1 h;have ZR:=CP hu hv hf;dsimp only at h;split at h
 ·rename_i hne
  injection h with h
  injection h with h1 h
  injection h with h2 h
  injection h with h3 h
  subst h1 h2 h3;exact(GL F C T a0 a1 cells v0 v1 v2 v3 v4 v5 v6 L U V Y Z w fe hu hv hy hz ZR (by simpa using hne)).mono λe w' h=>md.nil h
 rename_i h0
 have h0:fe=0:=by simpa using h0
 split at h
 ·rename_i hr;split at h
  ·rename_i hc
   injection h with h
   injection h with h1 h
   injection h with h2 h
   injection h with h3 h
   subst h1 h2 h3;exact(Eh F C T a0 a1 cells v0 v1 v2 v3 v4 v5 v6 L U V Y Z w fe hu hv hy hz ZR h0 hr hc).mono λe w' h=>md.nil h
  ·rename_i hc;split at h
   case isFalse=>cases h
   rename_i hj;obtain⟨j,rfl⟩:=Int.eq_ofNat_of_zero_le hj.1
   injection h with h
   injection h with h1 h
   injection h with h2 h
   injection h with h3 h
   subst h1 h2 h3 hr;exact(B9 F C T j cells v0 v1 v2 v3 v4 v5 v6 L U V Y Z w fe hu hv hy hz ZR h0 (by omega) (by simpa using hj.2)).mono λe w' h=>md.ret h
 ·split at h
  case isFalse=>cases h
  rename_i hg;obtain⟨g1,g2,g3,g4,g5⟩:=hg;obtain⟨k,rfl⟩:=Int.eq_ofNat_of_zero_le g1;obtain⟨j,rfl⟩:=Int.eq_ofNat_of_zero_le g3;simp only[oTN]at g2 g5 h
  have e1:C.getD k []=C[k]:=by simp[oGD,g2]
  rw[e1]at g5 h;obtain⟨⟨eb,u2⟩,he,h⟩:=Option.bind_eq_some_iff.1 h;have Zz:=λw' hg=>zR (w:=w) hz he w' hg;dsimp only at h;split at h
  ·rename_i hc
   injection h with h
   injection h with h1 h
   injection h with h2 h
   injection h with h3 h
   subst h1 h2 h3;by_cases hcl:cells.length=min 8 (C[k].length-8*j)
   ·exact(Ef F C T k j cells v0 v1 v2 v3 v4 v5 v6 L U V Y Z w fe hu hv hy hz ZR eb Zz h0 g2 (by omega) g5 hcl (by rcases hc with hc|hc;exact absurd hcl hc;exact hc)).mono λe w' h=>md.nil h
   ·exact(Eg F C T k j cells v0 v1 v2 v3 v4 v5 v6 L U V Y Z w fe hu hv hy hz ZR eb Zz h0 g2 (by omega) g5 hcl).mono λe w' h=>md.nil h
  ·rename_i hc
   injection h with h
   injection h with h1 h
   injection h with h2 h
   injection h with h3 h
   subst h1 h2 h3;exact(Ei F C T k j cells v0 v1 v2 v3 v4 v5 v6 L U V Y Z w fe hu hv hy hz ZR eb Zz h0 g2 (by omega) g5 (by omega) (by cases eb;exact absurd (.inr rfl) hc;rfl)).mono λe w' h=>md.ret h
theorem Js{C:List (List Cn4)}{T:List Vw8}{p:iM}{C':List (List Cn4)}{T':List Vw8}{err:Int}(h:cN C T p.1 p.2.1 p.2.2.1 p.2.2.2.1 p.2.2.2.2.1 p.2.2.2.2.2.1 p.2.2.2.2.2.2.1 p.2.2.2.2.2.2.2.1 p.2.2.2.2.2.2.2.2.1 p.2.2.2.2.2.2.2.2.2.1 p.2.2.2.2.2.2.2.2.2.2=some (C',T',err,())):
 BN Try.prog 36 [.agg [.sl (C.map (enc cCs)),.sl (T.map (enc cVw))],.agg (enc cPg p)] ⟨[.sl (C'.map (enc cCs)),.sl (T'.map (enc cVw)),.v (.int .i64 err)],[.agg 2,.one]⟩:=by
 have hok:Em C T p.2.2.1 p.2.2.2.2.2.2.2.2.2.2=true:=by
  unfold cN at h;split at h
  ·assumption
  ·cases h
 simp only[Em,oBA,oDE,List.all_eq_true]at hok;obtain⟨⟨⟨⟨⟨o1,o2⟩,o3⟩,o4⟩,o5⟩,o6⟩:=hok;refine⟨rfl,λavs w F hl hv=>?_⟩
 obtain⟨x,y,rfl⟩:∃x y,avs=[x,y]:=by
  match avs,hl with
  | [x,y],_=>exact⟨x,y,rfl⟩
 obtain⟨cs,rfl,XW⟩:=(hv 0 (by simp) (by simp)).agg_out;obtain⟨ds,rfl,hds⟩:=(hv 1 (by simp) (by simp)).agg_out;obtain⟨U,_,rfl,hU,V,_,rfl,hV,rfl⟩:=XW;have QB:=rv.of hds ⟨o5,o6⟩;obtain⟨Y,Z,rfl,hY,hZ⟩:=A9 QB;have hu:RSl rCs w F C U:=um wN hU (λx hx=>o2 x hx) o1;have PZ:RSl rVw w F T V:=um AU hV (λx hx=>o4 x hx) o3;refine(Ej hu PZ hY hZ h).mono ?_;rintro e w' ⟨a,b,rfl,ha,hb,hg⟩;refine⟨[a,b,.int .i64 err],rfl,rfl,sH hg,λj hj=>?_⟩;have hj:j<3:=hj
 match j,hj with
 |0,_=>exact nT wN (ha.sub λk hk=>.inr hk)
 |1,_=>exact nT AU (hb.sub λk hk=>.inr hk)
 |2,_=>exact .v rfl
def wfP(x:Int×Int):Bool:=(Lit.int .i64 x.1).wf&&(Lit.int .i64 x.2).wf
theorem Io{x:Int×Int}(h:wfP x=true):Km x:=by
 simp only[wfP,oBA]at h;exact h
def pD(xs ys:List iM):Bool:=decide (xs.length+ys.length<=1099511627776)&&(xs++ys).all (λp=>decide (p.2.2.1.length<=1099511627776)&&decide (p.2.2.2.2.2.2.2.2.2.2.length<=1099511627776)&&wfP (bY p))
def bV(xf xt:Int)(xs:List iM)(yf yt:Int)(ys:List iM):Option (Int×Int×List iM×Int×Unit):=
 if pD xs ys=true then
  (eo xf xt xs).bind λ(cd,_)=>
  (eo yf yt ys).bind λ(ce,_)=>
  if cd≠0 then some (0,0,[],cd,())
  else if ce≠0 then some (0,0,[],ce,())
  else if xt≠yf then some (0,0,[],35,())
  else(en ((xs++ys).map bY) []).bind λ(sids,_)=>
   if sids.length<=1099511627776/\sids.all wfP=true then some (xf,yt,sids.map (is (xs++ys)),0,())else none
 else none
def BL(F:Nat->Prop)(f t:Int)(zs:List iM)(err:Int)(w:World)(e:Ending)(w':World):Prop:=
 ∃v,e=.returned (.tuple #[.agg #[.int .i64 f,.int .i64 t,v],.int .i64 err])/\RSl rPg w' (λk=>F k\/w.heap.size<=k) zs v/\w.grownBy w' none
theorem zg{F:Nat->Prop}{xs ys:List iM}{X Y:Value}{xf xt yf yt:Int}{w:World}{f t err:Int}{zs:List iM}(hx:RSl rPg w F xs X)(hy:RSl rPg w F ys Y)(h:bV xf xt xs yf yt ys=some (f,t,zs,err,())):
 Calls Try.prog 16 #[.agg #[.int .i64 xf,.int .i64 xt,X],.agg #[.int .i64 yf,.int .i64 yt,Y]] w (BL F f t zs err w):=by
 unfold bV at h;split at h
 case isFalse=>cases h
 rename_i hok;simp only[pD,oBA,oDE,List.all_eq_true]at hok;obtain⟨⟨cd,u1⟩,Tt,h⟩:=Option.bind_eq_some_iff.1 h;obtain⟨⟨ce,u2⟩,Tv,h⟩:=Option.bind_eq_some_iff.1 h;have hd:=sx hx Tt;have he:=sx hy Tv;dsimp only at h
 have bad:∀r,((cd≠0/\r=cd)\/(cd=0/\ce≠0/\r=ce)\/(cd=0/\ce=0/\xt≠yf/\r=35))->Calls Try.prog 16 #[.agg #[.int .i64 xf,.int .i64 xt,X],.agg #[.int .i64 yf,.int .i64 yt,Y]] w (BL F 0 0 [] r w):=λr hr=>by
  obtain⟨A1,c1,rfl,_⟩:=hx.size_eq;obtain⟨A2,c2,rfl,_⟩:=hy.size_eq;exact(E5 A1 A2 xs.length ys.length c1 c2 xf xt yf yt w cd ce hd he r hr).mono λe w' h=>⟨_,h.1,RSl.nil _ _,h.2⟩
 split at h
 ·rename_i h1
  injection h with h
  injection h with e1 h
  injection h with e2 h
  injection h with e3 h
  injection h with e4 h
  subst e1 e2 e3 e4;exact bad _ (.inl ⟨h1,rfl⟩)
 rename_i h1
 have h1:cd=0:=by simpa using h1
 split at h
 ·rename_i h2
  injection h with h
  injection h with e1 h
  injection h with e2 h
  injection h with e3 h
  injection h with e4 h
  subst e1 e2 e3 e4;exact bad _ (.inr (.inl ⟨h1,h2,rfl⟩))
 rename_i h2
 have h2:ce=0:=by simpa using h2
 split at h
 ·rename_i h3
  injection h with h
  injection h with e1 h
  injection h with e2 h
  injection h with e3 h
  injection h with e4 h
  subst e1 e2 e3 e4;exact bad _ (.inr (.inr ⟨h1,h2,h3,rfl⟩))
 rename_i h3
 have h3:xt=yf:=by simpa using h3
 obtain⟨⟨sids,u3⟩,hm,h⟩:=Option.bind_eq_some_iff.1 h;dsimp only at h;split at h
 case isFalse=>cases h
 rename_i h4
 injection h with h
 injection h with e1 h
 injection h with e2 h
 injection h with e3 h
 injection h with e4 h
 subst e1 e2 e3 e4 h1 h2 h3;exact Cx F xs ys sids X Y xf xt yt w hx hy hd he (λp hp=>Io (hok.2 p hp).2) (λs hs=>Io (List.all_eq_true.1 h4.2 s hs)) hok.1 h4.1 (xX hm h4.1) Cr
theorem E3{xf xt yf yt:Int}{xs ys zs:List iM}{f t err:Int}(h:bV xf xt xs yf yt ys=some (f,t,zs,err,())):
 BN Try.prog 16 [.agg [.v (.int .i64 xf),.v (.int .i64 xt),.sl (xs.map (enc cPg))],.agg [.v (.int .i64 yf),.v (.int .i64 yt),.sl (ys.map (enc cPg))]] ⟨[.v (.int .i64 f),.v (.int .i64 t),.sl (zs.map (enc cPg)),.v (.int .i64 err)],[.agg 3,.one]⟩:=by
 have hok:pD xs ys=true:=by
  unfold bV at h;split at h
  ·assumption
  ·cases h
 simp only[pD,oBA,oDE,List.all_eq_true]at hok;refine⟨rfl,λavs w F hl hv=>?_⟩
 obtain⟨x,y,rfl⟩:∃x y,avs=[x,y]:=by
  match avs,hl with
  | [x,y],_=>exact⟨x,y,rfl⟩
 obtain⟨cs,rfl,XW⟩:=(hv 0 (by simp) (by simp)).agg_out;obtain⟨ds,rfl,hds⟩:=(hv 1 (by simp) (by simp)).agg_out;obtain⟨a1,_,rfl,i1,a2,_,rfl,i2,X,_,rfl,hX,rfl⟩:=XW;obtain⟨b1,_,rfl,j1,b2,_,rfl,j2,Y,_,rfl,hY,rfl⟩:=hds;cases i1;cases i2;cases j1;cases j2;have hx:RSl rPg w F xs X:=um rv hX (λp hp=>⟨(hok.2 p (List.mem_append_left _ hp)).1.1,(hok.2 p (List.mem_append_left _ hp)).1.2⟩) (by omega);have hy:RSl rPg w F ys Y:=um rv hY (λp hp=>⟨(hok.2 p (List.mem_append_right _ hp)).1.1,(hok.2 p (List.mem_append_right _ hp)).1.2⟩) (by omega);refine(zg hx hy h).mono ?_;rintro e w' ⟨v,rfl,hr,hg⟩;refine⟨[.int .i64 f,.int .i64 t,v,.int .i64 err],rfl,rfl,sH hg,λj hj=>?_⟩;have hj:j<4:=hj
 match j,hj with
 |0,_=>exact .v rfl
 |1,_=>exact .v rfl
 |2,_=>exact nT rv hr
 |3,_=>exact .v rfl
def lE(C:List (List Cn4))(T:List Vw8)(p:iM):List TV:=[.agg [.sl (C.map (enc cCs)),.sl (T.map (enc cVw))],.agg (enc cPg p)]
def El(C':List (List Cn4))(T':List Vw8)(err:Int):sR:=⟨[.sl (C'.map (enc cCs)),.sl (T'.map (enc cVw)),.v (.int .i64 err)],[.agg 2,.one]⟩
def gZ(xf xt:Int)(xs:List iM)(yf yt:Int)(ys:List iM):List TV:=[.agg [.v (.int .i64 xf),.v (.int .i64 xt),.sl (xs.map (enc cPg))],.agg [.v (.int .i64 yf),.v (.int .i64 yt),.sl (ys.map (enc cPg))]]
def uZ(f t:Int)(zs:List iM)(err:Int):sR:=⟨[.v (.int .i64 f),.v (.int .i64 t),.sl (zs.map (enc cPg)),.v (.int .i64 err)],[.agg 3,.one]⟩
def Kh(f:FuncId)(vals:List TV)(r:sR):Prop:=f=36/\∃(C:List (List Cn4))(T:List Vw8)(p:iM)(C':List (List Cn4))(T':List Vw8)(err:Int),vals=lE C T p/\cN C T p.1 p.2.1 p.2.2.1 p.2.2.2.1 p.2.2.2.2.1 p.2.2.2.2.2.1 p.2.2.2.2.2.2.1 p.2.2.2.2.2.2.2.1 p.2.2.2.2.2.2.2.2.1 p.2.2.2.2.2.2.2.2.2.1 p.2.2.2.2.2.2.2.2.2.2=some (C',T',err,())/\r=El C' T' err
def Aq(f:FuncId)(vals:List TV)(r:sR):Prop:=f=16/\∃(xf xt:Int)(xs:List iM)(yf yt:Int)(ys:List iM)(g t:Int)(zs:List iM)(err:Int),vals=gZ xf xt xs yf yt ys/\bV xf xt xs yf yt ys=some (g,t,zs,err,())/\r=uZ g t zs err
theorem Jt{C D:List (List Cn4)}{T U:List Vw8}{p q:iM}(h:lE C T p=lE D U q):C=D/\T=U/\p=q:=by
 simp only[lE,List.cons.injEq,TV.agg.injEq,TV.sl.injEq,and_true]at h;exact⟨iL (λe=>sg cCs rfl e) h.1.1,iL (λe=>sg cVw rfl e) h.1.2,sg cPg rfl h.2⟩
theorem E4{a b c d a' b' c' d':Int}{xs ys xs' N7:List iM}(h:gZ a b xs c d ys=gZ a' b' xs' c' d' N7):a=a'/\b=b'/\xs=xs'/\c=c'/\d=d'/\ys=N7:=by
 simp only[gZ,List.cons.injEq,TV.agg.injEq,TV.sl.injEq,TV.v.injEq,Value.int.injEq,and_true,true_and]at h;exact⟨h.1.1,h.1.2.1,iL (λe=>sg cPg rfl e) h.1.2.2,h.2.1,h.2.2.1,iL (λe=>sg cPg rfl e) h.2.2.2⟩
theorem Ca:gA Try.prog 36:=i8 Try.func36 (by kernel_rfl) rfl
theorem wZ:gA Try.prog 16:=i8 Try.func16 (by kernel_rfl) rfl
noncomputable def tE (f:FuncId)(vals:List TV):Option sR:=@dite _ (∃r,Kh f vals r\/Aq f vals r) (Classical.propDecidable _) (λh=>some (Classical.choose h)) (λ_=>none)
theorem Ho:∀f vals r,tE f vals=some r->gA Try.prog f/\BN Try.prog f vals r:=by
 intro f vals r h;unfold tE at h;split at h
 case isFalse=>cases h
 rename_i hx
 injection h with h
 have hs:=Classical.choose_spec hx;rw[h]at hs
 rcases hs with⟨rfl,C,T,p,C',T',err,rfl,hr,rfl⟩|⟨rfl,xf,xt,xs,yf,yt,ys,g,t,zs,err,rfl,hr,rfl⟩
 ·exact⟨Ca,Js hr⟩
 ·exact⟨wZ,E3 hr⟩
theorem Fs{C:List (List Cn4)}{T:List Vw8}{p:iM}{C':List (List Cn4)}{T':List Vw8}{err:Int}(h:cN C T p.1 p.2.1 p.2.2.1 p.2.2.2.1 p.2.2.2.2.1 p.2.2.2.2.2.1 p.2.2.2.2.2.2.1 p.2.2.2.2.2.2.2.1 p.2.2.2.2.2.2.2.2.1 p.2.2.2.2.2.2.2.2.2.1 p.2.2.2.2.2.2.2.2.2.2=some (C',T',err,())):
 tE 36 (lE C T p)=some (El C' T' err):=by
 have hx:∃r,Kh 36 (lE C T p) r\/Aq 36 (lE C T p) r:=⟨_,.inl ⟨rfl,C,T,p,C',T',err,rfl,h,rfl⟩⟩;unfold tE;rw[dif_pos hx];have hs:=Classical.choose_spec hx;congr 1
 rcases hs with⟨_,C2,T2,p2,C3,T3,e3,e,hr,h3⟩|⟨e,_⟩
 ·obtain⟨rfl,rfl,rfl⟩:=Jt e;rw[h]at hr
  injection hr with hr
  injection hr with e1 hr
  injection hr with e2 hr
  injection hr with e3 hr
  subst e1 e2 e3;exact h3
 ·exact absurd e (by decide)
theorem zA{xf xt yf yt:Int}{xs ys zs:List iM}{g t err:Int}(h:bV xf xt xs yf yt ys=some (g,t,zs,err,())):
 tE 16 (gZ xf xt xs yf yt ys)=some (uZ g t zs err):=by
 have hx:∃r,Kh 16 (gZ xf xt xs yf yt ys) r\/Aq 16 (gZ xf xt xs yf yt ys) r:=⟨_,.inr ⟨rfl,xf,xt,xs,yf,yt,ys,g,t,zs,err,rfl,h,rfl⟩⟩;unfold tE;rw[dif_pos hx];have hs:=Classical.choose_spec hx;congr 1
 rcases hs with⟨e,_⟩|⟨_,_,_,_,_,_,_,_,_,_,_,e,hr,h3⟩
 ·exact absurd e (by decide)
 ·obtain⟨rfl,rfl,rfl,rfl,rfl,rfl⟩:=E4 e;rw[h]at hr
  injection hr with hr
  injection hr with e1 hr
  injection hr with e2 hr
  injection hr with e3 hr
  injection hr with e4 hr
  subst e1 e2 e3 e4;exact h3
noncomputable def libBj:cj:=λf vals pts=>match xb tE f vals pts with|some r=>some r|none=>mu f vals pts
theorem libBj_ok:ee Try.prog libBj:=by
 intro f vals pts res Zs h;unfold libBj at h;split at h
 ·rename_i r hr
  injection h with h
  subst h;exact JQ Ho f vals pts _ _ hr
 ·exact Fb f vals pts _ _ h
theorem CD{f:FuncId}{vals:List TV}{pts:List (Nat×List TV)}(h1:f≠36)(h2:f≠16):libBj f vals pts=mu f vals pts:=by
 have h:xb tE f vals pts=none:=by
  unfold xb;split
  ·split
   ·have:tE f vals=none:=by
     unfold tE;rw[dif_neg];rintro⟨r,⟨e,_⟩|⟨e,_⟩⟩
     ·exact h1 e
     ·exact h2 e
    rw[this];rfl
   ·rfl
  ·rfl
 unfold libBj;rw[h]
abbrev sRg:CT:=.row false (.row false cCn)
abbrev sTs:CT:=.row false cVw
abbrev sPs:CT:=.row false cPg
set_option maxHeartbeats 4000000 in
set_option maxRecDepth 100000 in
def yi(id:Nat):Ctr:=⟨36,id,[.agg [shU sRg,shU sTs],.agg [shU I64,shU I64,shU (.row false cCn),shU I64,shU I64,shU I64,shU I64,shU I64,shU I64,shU (.int .u16),shU (.row false cCn)]],[],[⟨[shU sRg,shU sTs,shU I64],[.agg 2,.one],[]⟩],
 λh=>cN h.1 h.2.1 h.2.2.1 h.2.2.2.1 h.2.2.2.2.1 h.2.2.2.2.2.1 h.2.2.2.2.2.2.1 h.2.2.2.2.2.2.2.1 h.2.2.2.2.2.2.2.2.1 h.2.2.2.2.2.2.2.2.2.1 h.2.2.2.2.2.2.2.2.2.2.1 h.2.2.2.2.2.2.2.2.2.2.2.1 h.2.2.2.2.2.2.2.2.2.2.2.2.1⟩
set_option maxHeartbeats 4000000 in
set_option maxRecDepth 100000 in
theorem sX{id:Nat}:jL libBj (yi id):=by
 rintro⟨C,T,a0,a1,cells,v0,v1,v2,v3,v4,v5,v6,L,h⟩ ⟨C',T',err,u⟩ x ho hx;have ho:cN C T a0 a1 cells v0 v1 v2 v3 v4 v5 v6 L=some (C',T',err,()):=ho;cases hx;show libBj 36 (lE C T (a0,a1,cells,v0,v1,v2,v3,v4,v5,v6,L)) []=some (El C' T' err,[]);unfold libBj xb;rw[oIP (by rfl),Fs ho];rfl
set_option maxHeartbeats 4000000 in
set_option maxRecDepth 100000 in
def tQ(id:Nat):Ctr:=⟨16,id,[.agg [shU I64,shU I64,shU sPs],.agg [shU I64,shU I64,shU sPs]],[],[⟨[shU I64,shU I64,shU sPs,shU I64],[.agg 3,.one],[]⟩],
 λh=>bV h.1 h.2.1 h.2.2.1 h.2.2.2.1 h.2.2.2.2.1 h.2.2.2.2.2.1⟩
set_option maxHeartbeats 4000000 in
set_option maxRecDepth 100000 in
theorem qu{id:Nat}:jL libBj (tQ id):=by
 rintro⟨xf,xt,xs,yf,yt,ys,h⟩ ⟨g,t,zs,err,u⟩ x ho hx;have ho:bV xf xt xs yf yt ys=some (g,t,zs,err,()):=ho;cases hx;show libBj 16 (gZ xf xt xs yf yt ys) []=some (uZ g t zs err,[]);unfold libBj xb;rw[oIP (by rfl),zA ho];rfl
theorem jL.join{c:Ctr}(h:jL mu c)(h1:c.f≠36)(h2:c.f≠16):jL libBj c:=λa o x ho hx=>(CD h1 h2).trans (h a o x ho hx)
end Go.Proofs.Ytbdhpgelkfncpaa
namespace Go.Proofs.Ytbdhpgelkfncpaa
open Go.RowKit
set_option maxRecDepth 100000
noncomputable section
abbrev KCn:CT:=(.pair (.int .u8) (.pair (.int .u16) (.pair I64 I64)))
abbrev bF:CT:=(.pair I64 (.pair I64 (.pair I64 (.pair I64 (.pair I64 (.pair I64 (.pair (.int .u16) (.row false KCn))))))))
abbrev sM:CT:=(.pair I64 (.pair I64 (.pair I64 (.pair I64 (.pair I64 (.pair I64 (.pair (.int .u16) (.row true KCn))))))))
abbrev bn:CT:=(.row false KCn)
abbrev RI:CT:=(.row false I64)
abbrev DCe:Type:=(Int×Int)
abbrev DCn:Type:=(Int×Int×Int×Int)
abbrev DTs:Type:=(Int×Int×Int×Int×Int×Int×Int×List DCn)
def HH(f i:Nat):List (Nat×Option Nat):=if f=22 then(if i=3000012 then[(10,some 0),(10,some 1)]else[])else if f=5 then(if i=1000004 then[(2,none)]else if i=1000009 then[(9,none)]else if i=1000013 then[(2,none)]else[])else if f=62 then(if i=0 then[(4,none)]else[])else if f=54 then(if i=0 then[(4,some 2),(4,some 10)]else[])else if f=31 then(if i=0 then[(4,some 2),(4,some 10)]else[])else if f=35 then(if i=1000005 then[(6,none)]else if i=1000010 then[(6,none)]else[])else if f=17 then(if i=3000007 then[(9,some 0),(9,some 1)]else if i=0 then[(6,some 0),(6,some 1)]else[])else if f=42 then(if i=0 then[(4,some 10),(4,some 2)]else[])else[]
def La:List Nat:=[36,16]
def TT (f:FuncId):Option TFn:=if La.contains f then none else nD Try.prog (HH f) f
theorem Is{f:FuncId}(h:La.contains f=true):TT f=none:=oIP h
def E0:Env:=⟨λf=>if f=11 then some (1,[.arg 0,.val (.int .i64 0)])else none,λf=>Mj Try.prog f⟩
theorem tt_ok:Dn Try.prog TT:=λf tf h=>Dy HH (by kernel_rfl) f tf (by
 unfold TT at h
 split at h
 ·cases h
 ·exact h)
abbrev qE:Shs:=⟨[],[],[],([],[])⟩
abbrev qS(s:List (Nat×Sh))(c:List (Nat×List Sh)):Shs:=⟨s,c,[],([],[])⟩
abbrev N1:CT:=.nilr true
abbrev N0:CT:=.nilr false
abbrev CW:CT:=.int .u16
abbrev CB:CT:=.int .u8
abbrev uL(l:List CT):List Sh:=l.map fun c=>.d c ()
abbrev pP(t r:Nat):Nat×Sh:=(t,.ptr ⟨r,0,[]⟩ [0])
abbrev sP(t:Nat)(c:CT):Nat×Sh:=(t,.d c ())
abbrev Lk(n:Nat)(c:Ctr):Prop:=Lvl E0 TT mu n c
theorem aN{m:Nat}:BO E0 TT mu m []:=trivial
theorem aC{n m:Nat}{c:Ctr}{l:List Ctr}(h:Lk n c)(r:BO E0 TT mu m l)(hm:n≤m:=by decide):BO E0 TT mu m (c::l):=⟨h.mono hm,r⟩
abbrev lx(i n:Nat)(s:List (Nat×Sh))(c:List (Nat×List Sh))(b:Nat):yx:=⟨i,n,⟨s,c,[],([],[])⟩,[(.exit 0,⟨s++[(b,.d .bool ())],c,[],([],[])⟩)]⟩
abbrev LI:Type:=List Int
abbrev LDCe:Type:=List DCe
abbrev LDCn:Type:=List DCn
abbrev LDTs:Type:=List DTs
abbrev LLCn:Type:=List (List DCn)
abbrev T00:Type:=Int×Bool×Unit
abbrev T01:Type:=Int×Int×Unit
abbrev T02:Type:=LLCn×LDTs×Unit
abbrev T03:Type:=Unit×Unit×Unit
abbrev T04:Type:=Int×T00
abbrev T05:Type:=Int×Int×LDCe×Unit
abbrev T06:Type:=LI×T01
abbrev T07:Type:=LLCn×LDTs×LI×Unit
abbrev T08:Type:=Int×Int×Bool×LDCe×Unit
abbrev T09:Type:=Int×Int×T02
abbrev T0a:Type:=Int×T07
abbrev T0b:Type:=LI×T04
abbrev T0c:Type:=LI×T05
abbrev T0d:Type:=LLCn×LDTs×T02
abbrev T0e:Type:=LLCn×LDTs×T03
abbrev T0f:Type:=Unit×Unit×T02
abbrev T0g:Type:=Bool×T0d
abbrev T0h:Type:=Int×T0c
abbrev T0i:Type:=Int×T0d
abbrev T0j:Type:=LI×T08
abbrev T0k:Type:=Int×Int×T0e
abbrev T0l:Type:=LLCn×LDTs×T0f
abbrev T0m:Type:=LLCn×LDTs×Unit×Unit×LLCn×Unit×Unit
abbrev T0n:Type:=Int×Int×Bool×T0e
abbrev T0o:Type:=Int×T0l
abbrev T0p:Type:=Int×T0m
abbrev T0q:Type:=Int×Int×Int×Int×Int×Int×Int×LDCn×Unit
abbrev T0r:Type:=Int×Int×Int×T0h
abbrev T0s:Type:=Int×Int×LDCn×T0q
abbrev T0t:Type:=(List (Int×Int×LDCn×Int×Int×Int×Int×Int×Int×Int×LDCn))×Int×Unit
abbrev T0u:Type:=Int×(List (Int×Int×LDCn×Int×Int×Int×Int×Int×Int×Int×LDCn))×Unit
abbrev T0v:Type:=Int×Int×LDCn×Int×Int×Int×Int×Int×Int×Int×LDCn×Int×Unit
abbrev T0w:Type:=(List (Int×Int×LDCn×Int×Int×Int×Int×Int×Int×Int×LDCn))×T01
abbrev T0x:Type:=Int×T0u
abbrev T0y:Type:=Bool×T0x
abbrev T0z:Type:=Int×Int×T0t
abbrev T0A:Type:=Int×T0x
abbrev T0B:Type:=LLCn×LDTs×LDCe×(List (Int×Int×LDCn×Int×Int×Int×Int×Int×Int×Int×LDCn))×Unit
abbrev T0C:Type:=Int×T0y
abbrev T0D:Type:=Int×T0B
abbrev T0E:Type:=Int×Bool×T0B
abbrev T0F:Type:=Int×T0D
abbrev T0G:Type:=Int×Int×(List (Int×Int×LDCn×Int×Int×Int×Int×Int×Int×Int×LDCn))×T0f
abbrev T0H:Type:=LLCn×LDTs×Int×Int×(List (Int×Int×LDCn×Int×Int×Int×Int×Int×Int×Int×LDCn))×T03
abbrev T0I:Type:=Int×T0H
abbrev T0J:Type:=LLCn×LDTs×Int×Int×Unit×LDCe×T0x
abbrev T0K:Type:=Int×T0J
abbrev T0L:Type:=Int×Bool×T0J
abbrev T0M:Type:=Int×T0K
abbrev T0N:Type:=(List (Int×Int×LDCn×Int×Int×Int×Int×Int×Int×Int×LDCn))×T0t
abbrev T0O:Type:=(List (Int×Int×LDCn×Int×Int×Int×Int×Int×Int×Int×LDCn))×(List (Int×Int×LDCn×Int×Int×Int×Int×Int×Int×Int×LDCn))×LDCe×Unit
abbrev T0P:Type:=(List (Int×Int×LDCn×Int×Int×Int×Int×Int×Int×Int×LDCn))×Int×T0s
abbrev T0Q:Type:=Int×T0O
abbrev T0R:Type:=Int×Bool×T0O
abbrev T0S:Type:=Int×T0Q
abbrev T0T:Type:=Int×Int×(List (Int×Int×LDCn×Int×Int×Int×Int×Int×Int×Int×LDCn))×Int×Int×Unit×T0x
abbrev T0U:Type:=(List (Int×Int×LDCn×Int×Int×Int×Int×Int×Int×Int×LDCn))×Int×Int×T0G
abbrev T0V:Type:=Int×T0T
abbrev T0W:Type:=Int×Int×(List (Int×Int×LDCn×Int×Int×Int×Int×Int×Int×Int×LDCn))×T0T
abbrev T0X:Type:=Int×T0W
noncomputable abbrev ap1{A0 D R:Type}(f:A0→R)(h:A0×D):R:=f h.1
noncomputable abbrev ap2{A0 A1 D R:Type}(f:A0→A1→R)(h:A0×A1×D):R:=f h.1 h.2.1
noncomputable abbrev ap3{A0 A1 A2 D R:Type}(f:A0→A1→A2→R)(h:A0×A1×A2×D):R:=f h.1 h.2.1 h.2.2.1
noncomputable abbrev ap4{A0 A1 A2 A3 D R:Type}(f:A0→A1→A2→A3→R)(h:A0×A1×A2×A3×D):R:=f h.1 h.2.1 h.2.2.1 h.2.2.2.1
noncomputable abbrev ap6{A0 A1 A2 A3 A4 A5 D R:Type}(f:A0→A1→A2→A3→A4→A5→R)(h:A0×A1×A2×A3×A4×A5×D):R:=f h.1 h.2.1 h.2.2.1 h.2.2.2.1 h.2.2.2.2.1 h.2.2.2.2.2.1
noncomputable abbrev ap8{A0 A1 A2 A3 A4 A5 A6 A7 D R:Type}(f:A0→A1→A2→A3→A4→A5→A6→A7→R)(h:A0×A1×A2×A3×A4×A5×A6×A7×D):R:=f h.1 h.2.1 h.2.2.1 h.2.2.2.1 h.2.2.2.2.1 h.2.2.2.2.2.1 h.2.2.2.2.2.2.1 h.2.2.2.2.2.2.2.1
noncomputable abbrev ap12{A0 A1 A2 A3 A4 A5 A6 A7 A8 A9 A10 A11 D R:Type}(f:A0→A1→A2→A3→A4→A5→A6→A7→A8→A9→A10→A11→R)(h:A0×A1×A2×A3×A4×A5×A6×A7×A8×A9×A10×A11×D):R:=f h.1 h.2.1 h.2.2.1 h.2.2.2.1 h.2.2.2.2.1 h.2.2.2.2.2.1 h.2.2.2.2.2.2.1 h.2.2.2.2.2.2.2.1 h.2.2.2.2.2.2.2.2.1 h.2.2.2.2.2.2.2.2.2.1 h.2.2.2.2.2.2.2.2.2.2.1 h.2.2.2.2.2.2.2.2.2.2.2.1
noncomputable abbrev ap13{A0 A1 A2 A3 A4 A5 A6 A7 A8 A9 A10 A11 A12 D R:Type}(f:A0→A1→A2→A3→A4→A5→A6→A7→A8→A9→A10→A11→A12→R)(h:A0×A1×A2×A3×A4×A5×A6×A7×A8×A9×A10×A11×A12×D):R:=f h.1 h.2.1 h.2.2.1 h.2.2.2.1 h.2.2.2.2.1 h.2.2.2.2.2.1 h.2.2.2.2.2.2.1 h.2.2.2.2.2.2.2.1 h.2.2.2.2.2.2.2.2.1 h.2.2.2.2.2.2.2.2.2.1 h.2.2.2.2.2.2.2.2.2.2.1 h.2.2.2.2.2.2.2.2.2.2.2.1 h.2.2.2.2.2.2.2.2.2.2.2.2.1
noncomputable abbrev ap16{A0 A1 A2 A3 A4 A5 A6 A7 A8 A9 A10 A11 A12 A13 A14 A15 D R:Type}(f:A0→A1→A2→A3→A4→A5→A6→A7→A8→A9→A10→A11→A12→A13→A14→A15→R)(h:A0×A1×A2×A3×A4×A5×A6×A7×A8×A9×A10×A11×A12×A13×A14×A15×D):R:=f h.1 h.2.1 h.2.2.1 h.2.2.2.1 h.2.2.2.2.1 h.2.2.2.2.2.1 h.2.2.2.2.2.2.1 h.2.2.2.2.2.2.2.1 h.2.2.2.2.2.2.2.2.1 h.2.2.2.2.2.2.2.2.2.1 h.2.2.2.2.2.2.2.2.2.2.1 h.2.2.2.2.2.2.2.2.2.2.2.1 h.2.2.2.2.2.2.2.2.2.2.2.2.1 h.2.2.2.2.2.2.2.2.2.2.2.2.2.1 h.2.2.2.2.2.2.2.2.2.2.2.2.2.2.1 h.2.2.2.2.2.2.2.2.2.2.2.2.2.2.2.1
noncomputable abbrev ap22{A0 A1 A2 A3 A4 A5 A6 A7 A8 A9 A10 A11 A12 A13 A14 A15 A16 A17 A18 A19 A20 A21 D R:Type}(f:A0→A1→A2→A3→A4→A5→A6→A7→A8→A9→A10→A11→A12→A13→A14→A15→A16→A17→A18→A19→A20→A21→R)(h:A0×A1×A2×A3×A4×A5×A6×A7×A8×A9×A10×A11×A12×A13×A14×A15×A16×A17×A18×A19×A20×A21×D):R:=f h.1 h.2.1 h.2.2.1 h.2.2.2.1 h.2.2.2.2.1 h.2.2.2.2.2.1 h.2.2.2.2.2.2.1 h.2.2.2.2.2.2.2.1 h.2.2.2.2.2.2.2.2.1 h.2.2.2.2.2.2.2.2.2.1 h.2.2.2.2.2.2.2.2.2.2.1 h.2.2.2.2.2.2.2.2.2.2.2.1 h.2.2.2.2.2.2.2.2.2.2.2.2.1 h.2.2.2.2.2.2.2.2.2.2.2.2.2.1 h.2.2.2.2.2.2.2.2.2.2.2.2.2.2.1 h.2.2.2.2.2.2.2.2.2.2.2.2.2.2.2.1 h.2.2.2.2.2.2.2.2.2.2.2.2.2.2.2.2.1 h.2.2.2.2.2.2.2.2.2.2.2.2.2.2.2.2.2.1 h.2.2.2.2.2.2.2.2.2.2.2.2.2.2.2.2.2.2.1 h.2.2.2.2.2.2.2.2.2.2.2.2.2.2.2.2.2.2.2.1 h.2.2.2.2.2.2.2.2.2.2.2.2.2.2.2.2.2.2.2.2.1 h.2.2.2.2.2.2.2.2.2.2.2.2.2.2.2.2.2.2.2.2.2.1
theorem ls{n:Nat}(C:X.Cfg)(hT:BO E0 TT mu n C.TB){c:Ctr}(hE:C.E=E0:=by rfl)(h1:(TT c.f).isSome=true:=by kernel_rfl)(hg:∀h,X.runT aV C () ((TT c.f).getD Mt) c.outs (fA c.ins _ h).1 (oz c.pts [] (fA c.ins _ h).2).1=c.g h:=by intro h;kernel_rfl):Lk (n+1) c:=bd (n:=n) (C:=C) hE hT (bh h1) hg
abbrev yaa(t:Nat):Nat×Sh:=sP t I64
abbrev zaa(t:Nat):Nat×Sh:=sP t .bool
abbrev Uaa(t r:Nat):Nat×Sh:=(t,.pk ⟨r,0,[]⟩ [0,0])
abbrev Xh(t:CT):CT:=.row true t
abbrev Xi(t:CT):CT:=.row false t
abbrev uaa(t:Nat):Nat×Sh:=pP t (2*t+2)
abbrev Xaa:List Sh:=uL [(Xi bn),(Xi bF)]
abbrev Zaa:List Sh:=uL [.bool]
abbrev uab:List Sh:=uL [(Xh (.pair I64 I64))]
abbrev yab:List Sh:=uL [I64]
abbrev zab:List Sh:=uL [N1,N1]
abbrev Uab:List Sh:=uL [I64,I64]
abbrev Xab:List Sh:=uL [I64,I64,bn,I64,I64,I64,I64,I64,I64,CW,bn]
abbrev Zab:List Sh:=uL [I64,I64,N1]
abbrev uac:List Sh:=uL [I64,I64,I64,I64,I64,I64,CW,bn]
abbrev yac:List Sh:=uL [(Xh (Xh KCn)),(Xh sM)]
abbrev zac:List Sh:=uL [(Xh I64)]
abbrev Uac:List Sh:=uL [(Xh (.pair I64 I64)),I64]
abbrev Xac:List Sh:=uL [(Xh bn),(Xh bF)]
abbrev Zac:List Sh:=uL [RI,I64]
abbrev uad:List Sh:=uL [I64,I64,I64,I64,I64,I64,CW,(Xh KCn)]
abbrev yad:List Sh:=uL [I64,I64,bn,I64,I64,I64,I64,I64,I64,CW,bn,I64]
abbrev zad:List Sh:=uL [(Xi bn),(Xi bF),I64]
abbrev Uad:List Sh:=uL [(Xh (Xh KCn)),(Xh sM),I64]
def ie:T09->Option (T09⊕(Int×Int×Bool×T02)):=λ(v0,v1,v2,v3,_)=>
let x0:=bf v2.length;
bif(decide (v1<x0))then(let x1:Int:=(w64 (v0+4));
(dS v1).bind λx2=>
(cU v2 x2).bind λx3=>
let x4:=bf x3.length;
let x5:=w64 (x1+x4);
let x6:=w64 (v1+1);
some (.inl (x5,x6,v2,v3,())))else
some (.inr (v0,v1,false,v2,v3,()))
def ic:T09->Option (T09⊕(Int×Int×Bool×T02)):=λ(v0,v1,v2,v3,_)=>
let x0:=bf v3.length;
bif(decide (v1<x0))then(let x1:Int:=(w64 (v0+10));
(dS v1).bind λx2=>
(cU v3 x2).bind λx3=>
let x4:=bf x3.2.2.2.2.2.2.2.length;
let x5:=w64 (x1+x4);
let x6:=w64 (v1+1);
some (.inl (x5,x6,v2,v3,())))else
some (.inr (v0,v1,false,v2,v3,()))
def fW(a0:List LDCn)(a1:LDTs):Option (Bool×Unit):=
(bm ie NN (0,0,a0,a1,())).bind λ(x0,x1,x2,x3)=>
(bm ic NN (x0,0,x3)).bind λ(x5,_)=>
some ((decide (x5<=1500)),())
def vw:X.Cfg:=⟨E0,[],[],[(lx 4 0 [uaa 1,yaa 3,yaa 4] [(4,Xaa)] 10),⟨10,1,qS [uaa 1,yaa 3,yaa 5] [(4,Xaa)],[(.exit 2,qS [uaa 1,yaa 3,yaa 5,zaa 26] [(4,Xaa)])]⟩]⟩
def oL:Ctr:=⟨6,0,[.agg Xaa],[],[⟨Zaa,[.one],[]⟩],ap2 fW⟩
theorem vc:Lvl E0 TT libBj 1 oL:=bd (n:=0) (C:=vw) rfl (.intro) (bh (by kernel_rfl)) (λh=>by kernel_rfl)
def iS:T0w->Option (T0w⊕((List (Int×Int×LDCn×Int×Int×Int×Int×Int×Int×Int×LDCn))×T04)):=λ(v0,v1,v2,_)=>
let x0:=bf v0.length;
bif(decide (v2<x0))then(let x1:Int:=(w64 (v1+4));
(dS v2).bind λx2=>
(cU v0 x2).bind λx3=>
let x4:=bf x3.2.2.1.length;
let x5:=w64 (x1+x4);
(dS v2).bind λx6=>
(cU v0 x6).bind λx7=>
let x8:=bf x7.2.2.2.2.2.2.2.2.2.2.length;
let x9:=w64 (x5+x8);
let ac:=w64 (v2+1);
some (.inl (v0,x9,ac,())))else
some (.inr (v0,v1,v2,false,()))
def gT(a0:List (Int×Int×LDCn×Int×Int×Int×Int×Int×Int×Int×LDCn)):Option (Bool×Unit):=
(bm iS NN (a0,0,0,())).bind λ(x0,x1,_)=>
some ((decide (x1<=1500)),())
def xw:X.Cfg:=⟨E0,[],[],[(lx 4 0 [(0,shU (Xi (.pair I64 (.pair I64 (.pair bn bF))))),yaa 3,yaa 4] [] 8)]⟩
def qg:Ctr:=⟨7,1,[shU (Xi (.pair I64 (.pair I64 (.pair bn bF))))],[],[⟨Zaa,[.one],[]⟩],ap1 gT⟩
theorem xg:Lvl E0 TT libBj 1 qg:=bd (n:=0) (C:=xw) rfl (.intro) (bh (by kernel_rfl)) (λh=>by kernel_rfl)
def dy(a0:Int)(a1:Int)(a2:Int)(a3:Int)(a4:Int)(a5:Int)(a6:Int)(a7:LDCn):Option (T0q):=
bif(cq 24 0 a7.length)then let x0:LDCn:=(List.append [] a7);
some (a0,a1,a2,a3,a4,a5,a6,x0,())else none
def tF:X.Cfg:=⟨E0,[],[],[]⟩
def gP:Ctr:=⟨40,2,[.agg uac],[],[⟨uad,[.agg 8],[]⟩],ap8 dy⟩
theorem jD:Lvl E0 TT libBj 1 gP:=bd (n:=0) (C:=tF) rfl (.intro) (bh (by kernel_rfl)) (λh=>by kernel_rfl)
def de:T0p->Option (T0p⊕(Int×Bool×T0m)):=λ(v0,v1,v2,v3,v4,v5,v6,_)=>
let x0:=bf v1.length;
bif(decide (v0<x0))then((dS v0).bind λx1=>
(cU v1 x1).bind λx2=>
bif(cq 24 0 x2.length)then let x3:LDCn:=(List.append [] x2);
bif(cq 24 v5.length (List.length [x3]))then let x4:List LDCn:=(List.append v5 [x3]);
let x5:=w64 (v0+1);
some (.inl (x5,v1,v2,v3,v4,x4,v6,()))else none else none)else
some (.inr (v0,false,v1,v2,v3,v4,v5,v6,()))
def dc:T0o->Option (T0o⊕(Int×Bool×T0l)):=λ(v0,v1,v2,v3,v4,v5,v6,_)=>
let x0:=bf v2.length;
bif(decide (v0<x0))then((dS v0).bind λx1=>
(cU v2 x1).bind λx2=>
(dy x2.1 x2.2.1 x2.2.2.1 x2.2.2.2.1 x2.2.2.2.2.1 x2.2.2.2.2.2.1 x2.2.2.2.2.2.2.1 x2.2.2.2.2.2.2.2).bind λ(x3,x4,x5,x6,x7,x8,x9,ac,_)=>
let ae:LDTs:=[(x3,(x4,(x5,(x6,(x7,(x8,(x9,ac)))))))];
bif(cq 80 v6.length ae.length)then let af:LDTs:=(List.append v6 ae);
let ah:=w64 (v0+1);
some (.inl (ah,v1,v2,v3,v4,v5,af,()))else none)else
some (.inr (v0,false,v1,v2,v3,v4,v5,v6,()))
def fM(a0:List LDCn)(a1:LDTs):Option (T02):=
(bm de NN (0,a0,a1,(),(),[],(),())).bind λ(x0,x1,x2,x3,x4,x5,x6,x7,_)=>
(bm dc NN (0,x2,x3,x4,x5,x6,[],())).bind λ(x8,x9,ac,ae,af,ah,aj)=>
some (aj)
def xC:X.Cfg:=⟨E0,[gP],[(22,(Xh KCn)),(23,(Xh KCn)),(40,sM),(41,sM)],[(lx 4 0 [uaa 1,uaa 2,uaa 3,yaa 4] [(4,Xaa),(6,zab),(8,uL [(Xh (Xh KCn)),N1])] 10),⟨10,1,qS [uaa 1,uaa 2,uaa 3,yaa 5] [(4,Xaa),(6,zab),(8,yac)],[(.exit 2,qS [uaa 1,uaa 2,uaa 3,yaa 5,zaa 29] [(4,Xaa),(6,zab),(8,yac)])]⟩]⟩
def ju:Ctr:=⟨20,3,[.agg Xaa],[],[⟨yac,[.agg 2],[]⟩],ap2 fM⟩
theorem lN:Lvl E0 TT libBj 2 ju:=bd (n:=1) (C:=xC) rfl (.intro (jD.mono (by decide)) (.intro)) (bh (by kernel_rfl)) (λh=>by kernel_rfl)
def fZ(a0:Int):Option (Bool×Unit):=
bif(decide (a0>=1))then(some ((decide (a0<=32)),()))else
some (false,())
def vG:X.Cfg:=⟨E0,[],[],[]⟩
def kK:Ctr:=⟨86,4,yab,[],[⟨Zaa,[.one],[]⟩],ap1 fZ⟩
theorem og:Lvl E0 TT libBj 1 kK:=bd (n:=0) (C:=vG) rfl (.intro) (bh (by kernel_rfl)) (λh=>by kernel_rfl)
def fG(a0:LDCn):Option (Bool×Unit):=
let x0:=bf a0.length;
(fZ x0).bind λ(x1,_)=>
some ((!x1),())
def qB:X.Cfg:=⟨E0,[kK],[],[]⟩
def lb:Ctr:=⟨85,5,uL [bn],[],[⟨Zaa,[.one],[]⟩],ap1 fG⟩
theorem qx:Lvl E0 TT libBj 2 lb:=bd (n:=1) (C:=qB) rfl (.intro (og.mono (by decide)) (.intro)) (bh (by kernel_rfl)) (λh=>by kernel_rfl)
def bk:LLCn×T01->Option ((LLCn×T01)⊕((Int×Unit)⊕(LLCn×T04))):=λ(v0,v1,v2,_)=>
bif(decide (v2<v1))then((dS v2).bind λx0=>
(cU v0 x0).bind λx1=>
(fG x1).bind λ(x2,_)=>
bif x2 then(some (.inr (.inl (v2,()))))else
let x3:=w64 (v2+1);
some (.inl (v0,v1,x3,())))else
some (.inr (.inr (v0,v1,v2,false,())))
def dJ(a0:List LDCn):Option (Int×Unit):=
let x0:=bf a0.length;
(match bm bk NN (a0,x0,0,())with
|none=>none
|some (.inl (x1,_))=>
some (x1,())
|some (.inr (x1,_))=>
some ((-1),()))
def ke:X.Cfg:=⟨E0,[lb],[],[⟨3,0,(qS [sP 0 (Xi bn),(1,.fn 85 []),yaa 7,yaa 8] []),[(.ret,qS [yaa 4] []),(.exit 0,(qS [sP 0 (Xi bn),(1,.fn 85 []),yaa 7,yaa 8,zaa 9] []))]⟩]⟩
def fQ:Ctr:=⟨91,6,[shU (Xi bn),.fn 85 []],[],[⟨yab,[.one],[]⟩],ap1 dJ⟩
theorem j9:Lvl E0 TT libBj 3 fQ:=bd (n:=2) (C:=ke) rfl (.intro (qx.mono (by decide)) (.intro)) (bh (by kernel_rfl)) (λh=>by kernel_rfl)
def b7(a0:List LDCn):Option (Bool×Unit):=
(dJ a0).bind λ(x0,_)=>
some ((decide (x0>=0)),())
def i4:X.Cfg:=⟨E0,[fQ],[],[]⟩
def eT:Ctr:=⟨84,7,[shU (Xi bn),.fn 85 []],[],[⟨Zaa,[.one],[]⟩],ap1 b7⟩
theorem i3:Lvl E0 TT libBj 4 eT:=bd (n:=3) (C:=i4) rfl (.intro (j9.mono (by decide)) (.intro)) (bh (by kernel_rfl)) (λh=>by kernel_rfl)
def fu(a0:List LDCn)(a1:LDTs):Option (Bool×Unit):=
let x0:=bf a0.length;
bif(decide (x0<=4))then(let x1:Int:=(bf a1.length);
bif(decide (x1<=4))then((b7 a0).bind λ(x2,_)=>
some ((!x2),()))else
some (false,()))else
some (false,())
def tH:X.Cfg:=⟨E0,[eT],[],[]⟩
def jJ:Ctr:=⟨73,8,[.agg Xaa],[],[⟨Zaa,[.one],[]⟩],ap2 fu⟩
theorem mS:Lvl E0 TT libBj 5 jJ:=bd (n:=4) (C:=tH) rfl (.intro (i3.mono (by decide)) (.intro)) (bh (by kernel_rfl)) (λh=>by kernel_rfl)
def cM:LLCn×Int×T0a->Option ((LLCn×Int×T0a)⊕(LLCn×Int×Int×Bool×T07)):=λ(v0,v1,v2,v3,v4,v5,_)=>
bif(decide (v2<v1))then((dS v2).bind λx0=>
(cU v0 x0).bind λx1=>
let x2:=bf x1.length;
bif(cq 8 v5.length (List.length [x2]))then let x3:List (Int):=(List.append v5 [x2]);
let x4:=w64 (v2+1);
some (.inl (v0,v1,x4,v3,v4,x3,()))else none)else
some (.inr (v0,v1,v2,false,v3,v4,v5,()))
def eX(a0:List LDCn)(a1:LDTs):Option (LI×Unit):=
let x0:=bf a0.length;
(bm cM NN (a0,x0,0,a0,a1,[],())).bind λ(x1,x2,x3,x4,x5,x6,x7,_)=>
some (x7,())
def vH:X.Cfg:=⟨E0,[],[],[(lx 4 0 [Uaa 3 9,sP 7 (Xi bn),yaa 8,yaa 9] [(4,Xaa),(9,zac)] 10)]⟩
def kL:Ctr:=⟨51,9,[.agg Xaa],[],[⟨zac,[.one],[]⟩],ap2 eX⟩
theorem oh:Lvl E0 TT libBj 1 kL:=bd (n:=0) (C:=vH) rfl (.intro) (bh (by kernel_rfl)) (λh=>by kernel_rfl)
def gL(a0:Int):Option (Bool×Unit):=
(fZ a0).bind λ(x0,_)=>
some ((!x0),())
def tI:X.Cfg:=⟨E0,[kK],[],[]⟩
def na:Ctr:=⟨88,10,yab,[],[⟨Zaa,[.one],[]⟩],ap1 gL⟩
theorem th:Lvl E0 TT libBj 2 na:=bd (n:=1) (C:=tI) rfl (.intro (og.mono (by decide)) (.intro)) (bh (by kernel_rfl)) (λh=>by kernel_rfl)
def bB:T06->Option (T06⊕((Int×Unit)⊕T0b)):=λ(v0,v1,v2,_)=>
bif(decide (v2<v1))then((dS v2).bind λx0=>
(cU v0 x0).bind λx1=>
(gL x1).bind λ(x2,_)=>
bif x2 then(some (.inr (.inl (v2,()))))else
let x3:=w64 (v2+1);
some (.inl (v0,v1,x3,())))else
some (.inr (.inr (v0,v1,v2,false,())))
def eB(a0:List (Int)):Option (Int×Unit):=
let x0:=bf a0.length;
(match bm bB NN (a0,x0,0,())with
|none=>none
|some (.inl (x1,_))=>
some (x1,())
|some (.inr (x1,_))=>
some ((-1),()))
def lp:X.Cfg:=⟨E0,[na],[],[⟨3,0,(qS [sP 0 RI,(1,.fn 88 []),yaa 7,yaa 8] []),[(.ret,qS [yaa 4] []),(.exit 0,(qS [sP 0 RI,(1,.fn 88 []),yaa 7,yaa 8,zaa 9] []))]⟩]⟩
def gy:Ctr:=⟨92,11,[shU RI,.fn 88 []],[],[⟨yab,[.one],[]⟩],ap1 eB⟩
theorem ll:Lvl E0 TT libBj 3 gy:=bd (n:=2) (C:=lp) rfl (.intro (th.mono (by decide)) (.intro)) (bh (by kernel_rfl)) (λh=>by kernel_rfl)
def cu(a0:List (Int)):Option (Bool×Unit):=
(eB a0).bind λ(x0,_)=>
some ((decide (x0>=0)),())
def jG:X.Cfg:=⟨E0,[gy],[],[]⟩
def fC:Ctr:=⟨87,12,[shU RI,.fn 88 []],[],[⟨Zaa,[.one],[]⟩],ap1 cu⟩
theorem jC:Lvl E0 TT libBj 4 fC:=bd (n:=3) (C:=jG) rfl (.intro (ll.mono (by decide)) (.intro)) (bh (by kernel_rfl)) (λh=>by kernel_rfl)
def cF:T0r->Option (T0r⊕(Int×Int×Int×Int×T0j)):=λ(v0,v1,v2,v3,v4,v5,v6,v7,_)=>
let x0:=w64 (v3*8);
bif(decide (x0<v2))then(let x1:LDCe:=[(v1,v3)];
bif(cq 16 v7.length x1.length)then let x2:LDCe:=(List.append v7 x1);
let x3:=w64 (v3+1);
some (.inl (v0,v1,v2,x3,v4,v5,v6,x2,()))else none)else
some (.inr (v0,v1,v2,v3,v4,v5,v6,false,v7,()))
def df:T0h->Option (T0h⊕(Int×T0j)):=λ(v0,v1,v2,v3,v4,_)=>
bif(decide (v3<v2))then((dS v3).bind λx0=>
(cU v1 x0).bind λx1=>
(bm cF NN (v0,v3,x1,0,v1,v2,v3,v4,())).bind λ(x2,x3,x4,x5,x6,x7,x8,x9,ac,_)=>
let ae:=w64 (x8+1);
some (.inl (x2,x6,x7,ae,ac,())))else
some (.inr (v0,v1,v2,v3,false,v4,()))
def cE:T05->Option (T05⊕T08):=λ(v0,v1,v2,_)=>
bif(decide (v1<v0))then(let x0:LDCe:=[((-1),v1)];
bif(cq 16 v2.length x0.length)then let x1:LDCe:=(List.append v2 x0);
let x2:=w64 (v1+1);
some (.inl (v0,x2,x1,()))else none)else
some (.inr (v0,v1,false,v2,()))
def jj(a0:List (Int))(a1:Int):Option (LDCe×Int×Unit):=
let x0:=bf a0.length;
bif(decide (x0>4))then(some ([],3,()))else
bif(decide (a1>4))then(some ([],3,()))else
bif(decide (a1<0))then(some ([],1,()))else
(cu a0).bind λ(x1,_)=>
bif x1 then(some ([],1,()))else
let x2:=bf a0.length;
(bm df NN (a1,a0,x2,0,[],())).bind λ(x3,x4,x5,x6,x7,x8,_)=>
(bm cE NN (x3,0,x8,())).bind λ(x9,ac,ae,af,_)=>
some (af,0,())
def xF:X.Cfg:=⟨E0,[fC],[],[⟨16,0,qS [yaa 1,Uaa 6 15,yaa 7,yaa 8,yaa 9,sP 24 RI,yaa 25,yaa 26] [(15,uab)],[(.exit 2,qS [yaa 1,Uaa 6 15,yaa 7,yaa 8,yaa 9,sP 24 RI,yaa 25,yaa 26,zaa 34] [(15,uab)])]⟩,(lx 10 1 [yaa 1,Uaa 6 15,sP 24 RI,yaa 25,yaa 26] [(15,uab)] 27),⟨22,2,qS [Uaa 6 15,yaa 44,yaa 45] [(15,uab)],[(.exit 4,qS [Uaa 6 15,yaa 44,yaa 45,zaa 46] [(15,uab)])]⟩]⟩
def qn:Ctr:=⟨74,13,Zac,[],[⟨Uac,[.one,.one],[]⟩],ap2 jj⟩
theorem xo:Lvl E0 TT libBj 5 qn:=bd (n:=4) (C:=xF) rfl (.intro (jC.mono (by decide)) (.intro)) (bh (by kernel_rfl)) (λh=>by kernel_rfl)
def cf(a0:LDCn):Option (LDCn×Unit):=
bif(cq 24 0 a0.length)then let x0:LDCn:=(List.append [] a0);
some (x0,())else none
def mL:X.Cfg:=⟨E0,[],[],[]⟩
def dG:Ctr:=⟨58,14,uL [bn],[],[⟨uL [(Xh KCn)],[.one],[]⟩],ap1 cf⟩
theorem fi:Lvl E0 TT libBj 1 dG:=bd (n:=0) (C:=mL) rfl (.intro) (bh (by kernel_rfl)) (λh=>by kernel_rfl)
def f8(a0:Int)(a1:Int)(a2:Int)(a3:Int)(a4:Int)(a5:Int)(a6:Int)(a7:LDCn):Option (T0q):=
(cf a7).bind λ(x0,_)=>
some (a0,a1,a2,a3,a4,a5,a6,x0,())
def vO:X.Cfg:=⟨E0,[dG],[],[]⟩
def kO:Ctr:=⟨59,15,[.agg uac],[],[⟨uad,[.agg 8],[]⟩],ap8 f8⟩
theorem om:Lvl E0 TT libBj 2 kO:=bd (n:=1) (C:=vO) rfl (.intro (fi.mono (by decide)) (.intro)) (bh (by kernel_rfl)) (λh=>by kernel_rfl)
def dU(a0:LDCn)(a1:Int):Option (LDCn×Unit):=
(bif(decide (a1<0))then(some (a0,a1,true,()))else
bif(decide (a1>32))then(some (a0,a1,true,()))else
let x0:=w64 (a1*8);
let x1:=bf a0.length;
some (a0,a1,(decide (x0>=x1)),()):Option (LDCn×T00)).bind λ(x0,x1,x2,_)=>
bif x2 then(some ([],()))else
let x3:=w64 (x1*8);
let x4:=w64 (x3+8);
let x5:=bf x0.length;
let x6:=mmR false x4 x5;
(dS x3).bind λx7=>
(dS x6).bind λx8=>
bif(gq x7 x8 x0.length)then let x9:LDCn:=(Au x0 x7 (Nat.sub x8 x7));
some (x9,())else none
def xD:X.Cfg:=⟨E0,[],[],[⟨2,0,qE,[(.normal,qS [sP 0 bn,yaa 1,zaa 18] [])]⟩]⟩
def lZ:Ctr:=⟨62,16,uL [bn,I64],[],[⟨uL [bn],[.one],[]⟩],ap2 dU⟩
theorem p8:Lvl E0 TT libBj 1 lZ:=bd (n:=0) (C:=xD) rfl (.intro) (bh (by kernel_rfl)) (λh=>by kernel_rfl)
def gE(a0:List LDCn)(a1:LDTs)(a2:Int)(a3:Int):Option (T0s):=
bif(a2==(-1))then((dS a3).bind λx0=>
(cU a1 x0).bind λx1=>
(f8 x1.1 x1.2.1 x1.2.2.1 x1.2.2.2.1 x1.2.2.2.2.1 x1.2.2.2.2.2.1 x1.2.2.2.2.2.2.1 x1.2.2.2.2.2.2.2).bind λ(x2,x3,x4)=>
some (a2,a3,[],x2,x3,x4))else
(dS a2).bind λx0=>
(cU a0 x0).bind λx1=>
(dU x1 a3).bind λ(x2,_)=>
(cf x2).bind λ(x3,_)=>
some (a2,a3,x3,0,0,0,0,0,0,0,[],())
def zF:X.Cfg:=⟨E0,[kO,lZ,dG],[],[]⟩
def nF:Ctr:=⟨54,17,[.agg Xaa,.agg Uab],[],[⟨Xab,[.agg 11],[]⟩],ap4 gE⟩
theorem rN:Lvl E0 TT libBj 3 nF:=bd (n:=2) (C:=zF) rfl (.intro (om.mono (by decide)) (.intro (p8.mono (by decide)) (.intro (fi.mono (by decide)) (.intro)))) (bh (by kernel_rfl)) (λh=>by kernel_rfl)
def dA:T0F->Option (T0F⊕(Int×T0E)):=λ(v0,v1,v2,v3,v4,v5,_)=>
bif(decide (v1<v0))then((dS v1).bind λx0=>
(cU v4 x0).bind λx1=>
(cU v4 x0).bind λx2=>
(gE v2 v3 x2.1 x2.2).bind λ(x3,x4,x5,x6,x7,x8,x9,ac,ae,af,ah,_)=>
let aj:List (Int×Int×LDCn×Int×Int×Int×Int×Int×Int×Int×LDCn):=[(x3,(x4,(x5,(x6,(x7,(x8,(x9,(ac,(ae,(af,ah))))))))))];
bif(cq 120 v5.length aj.length)then let ak:List (Int×Int×LDCn×Int×Int×Int×Int×Int×Int×Int×LDCn):=(List.append v5 aj);
let am:=w64 (v1+1);
some (.inl (v0,am,v2,v3,v4,ak,()))else none)else
some (.inr (v0,v1,false,v2,v3,v4,v5,()))
def fH(a0:List LDCn)(a1:LDTs):Option (T0t):=
(fu a0 a1).bind λ(x0,_)=>
bif(!x0)then(some ([],1,()))else
(eX a0 a1).bind λ(x1,_)=>
let x2:=bf a1.length;
(jj x1 x2).bind λ(x3,x4,_)=>
let x5:=bf x3.length;
(bm dA NN (x5,0,a0,a1,x3,[],())).bind λ(x6,x7,x8,x9,ac,ae,af,_)=>
some (af,0,())
def zH:X.Cfg:=⟨E0,[jJ,kL,qn,nF],[(31,(.pair I64 (.pair I64 (.pair (Xh KCn) sM)))),(32,(.pair I64 (.pair I64 (.pair (Xh KCn) sM))))],[(lx 8 0 [uaa 1,Uaa 6 15,Uaa 21 11,yaa 22,yaa 23] [(4,Xaa),(11,uab),(15,[shU (Xh (.pair I64 (.pair I64 (.pair bn bF))))])] 24)]⟩
def sF:Ctr:=⟨49,18,[.agg Xaa],[],[⟨[shU (Xh (.pair I64 (.pair I64 (.pair bn bF)))),shU I64],[.one,.one],[]⟩],ap2 fH⟩
theorem zr:Lvl E0 TT libBj 6 sF:=bd (n:=5) (C:=zH) rfl (.intro (mS.mono (by decide)) (.intro (oh.mono (by decide)) (.intro (xo.mono (by decide)) (.intro (rN.mono (by decide)) (.intro))))) (bh (by kernel_rfl)) (λh=>by kernel_rfl)
def cB:LI×T06->Option ((LI×T06)⊕((Bool×Unit)⊕(LI×T0b))):=λ(v0,v1,v2,v3,_)=>
bif(decide (v3<v2))then((dS v3).bind λx0=>
(cU v0 x0).bind λx1=>
(dS v3).bind λx2=>
(cU v1 x2).bind λx3=>
bif(x1 != x3)then(some (.inr (.inl (false,()))))else
let x4:=w64 (v3+1);
some (.inl (v0,v1,v2,x4,())))else
some (.inr (.inr (v0,v1,v2,v3,false,())))
def eF(a0:List (Int))(a1:List (Int)):Option (Bool×Unit):=
let x0:=bf a0.length;
let x1:=bf a1.length;
bif(x0 != x1)then(some (false,()))else
let x2:=bf a0.length;
(match bm cB NN (a0,a1,x2,0,())with
|none=>none
|some (.inl (x3,_))=>
some (x3,())
|some (.inr (x3,_))=>
some (true,()))
def ou:X.Cfg:=⟨E0,[],[],[⟨6,0,qS [sP 0 RI,sP 1 RI,yaa 12,yaa 13] [],[(.ret,qS [zaa 4] []),(.exit 0,qS [sP 0 RI,sP 1 RI,yaa 12,yaa 13,zaa 14] [])]⟩]⟩
def jt:Ctr:=⟨50,19,uL [RI,RI],[],[⟨Zaa,[.one],[]⟩],ap2 eF⟩
theorem n9:Lvl E0 TT libBj 1 jt:=bd (n:=0) (C:=ou) rfl (.intro) (bh (by kernel_rfl)) (λh=>by kernel_rfl)
def b5:LDCn×LDCn×T01->Option ((LDCn×LDCn×T01)⊕((Bool×Unit)⊕(LDCn×LDCn×T04))):=λ(v0,v1,v2,v3,_)=>
bif(decide (v3<v2))then((dS v3).bind λx0=>
(cU v0 x0).bind λx1=>
(dS v3).bind λx2=>
(cU v1 x2).bind λx3=>
let x4:Bool:=(!((x1.1==x3.1)&&((x1.2.1==x3.2.1)&&((x1.2.2.1==x3.2.2.1)&&((x1.2.2.2==x3.2.2.2)&&true)))));
bif x4 then(some (.inr (.inl (false,()))))else
let x5:=w64 (v3+1);
some (.inl (v0,v1,v2,x5,())))else
some (.inr (.inr (v0,v1,v2,v3,false,())))
def cO(a0:LDCn)(a1:LDCn):Option (Bool×Unit):=
let x0:=bf a0.length;
let x1:=bf a1.length;
bif(x0 != x1)then(some (false,()))else
let x2:=bf a0.length;
(match bm b5 NN (a0,a1,x2,0,())with
|none=>none
|some (.inl (x3,_))=>
some (x3,())
|some (.inr (x3,_))=>
some (true,()))
def mK:X.Cfg:=⟨E0,[],[],[⟨6,0,qS [sP 0 bn,sP 1 bn,yaa 12,yaa 13] [],[(.ret,qS [zaa 4] []),(.exit 0,qS [sP 0 bn,sP 1 bn,yaa 12,yaa 13,zaa 14] [])]⟩]⟩
def iu:Ctr:=⟨75,20,uL [bn,bn],[],[⟨Zaa,[.one],[]⟩],ap2 cO⟩
theorem mI:Lvl E0 TT libBj 1 iu:=bd (n:=0) (C:=mK) rfl (.intro) (bh (by kernel_rfl)) (λh=>by kernel_rfl)
def iz(a0:Int)(a1:Int)(a2:LDCn)(a3:Int)(a4:Int)(a5:Int)(a6:Int)(a7:Int)(a8:Int)(a9:Int)(a10:LDCn)(a11:Int)(a12:Int)(a13:LDCn)(a14:Int)(a15:Int)(a16:Int)(a17:Int)(a18:Int)(a19:Int)(a20:Int)(a21:LDCn):Option (Bool×Unit):=
bif((a0==a11)&&((a1==a12)&&true))then((cO a2 a13).bind λ(x0,_)=>
bif x0 then(bif(a3==a14)then(bif(a4==a15)then(bif(a5==a16)then(bif(a6==a17)then(bif(a7==a18)then(bif(a8==a19)then(bif(a9==a20)then((cO a10 a21).bind λ(x1,_)=>
some (x1,()))else
some (false,()))else
some (false,()))else
some (false,()))else
some (false,()))else
some (false,()))else
some (false,()))else
some (false,()))else
some (false,()))else
some (false,())
def vI:X.Cfg:=⟨E0,[iu],[],[]⟩
def oP:Ctr:=⟨52,21,[.agg Xab,.agg Xab],[],[⟨Zaa,[.one],[]⟩],ap22 iz⟩
theorem vh:Lvl E0 TT libBj 2 oP:=bd (n:=1) (C:=vI) rfl (.intro (mI.mono (by decide)) (.intro)) (bh (by kernel_rfl)) (λh=>by kernel_rfl)
def ca:T0S->Option (T0S⊕(Int×T0R)):=λ(v0,v1,v2,v3,v4,_)=>
bif(decide (v1<v0))then(((dS v1).bind λx0=>
(cU v2 x0).bind λx1=>
(cU v2 x0).bind λx2=>
(dS v1).bind λx3=>
(cU v3 x3).bind λx4=>
(cU v3 x3).bind λx5=>
(iz x2.1 x2.2.1 x2.2.2.1 x2.2.2.2.1 x2.2.2.2.2.1 x2.2.2.2.2.2.1 x2.2.2.2.2.2.2.1 x2.2.2.2.2.2.2.2.1 x2.2.2.2.2.2.2.2.2.1 x2.2.2.2.2.2.2.2.2.2.1 x2.2.2.2.2.2.2.2.2.2.2 x5.1 x5.2.1 x5.2.2.1 x5.2.2.2.1 x5.2.2.2.2.1 x5.2.2.2.2.2.1 x5.2.2.2.2.2.2.1 x5.2.2.2.2.2.2.2.1 x5.2.2.2.2.2.2.2.2.1 x5.2.2.2.2.2.2.2.2.2.1 x5.2.2.2.2.2.2.2.2.2.2).bind λ(x6,_)=>
bif(!x6)then((dS v1).bind λx7=>
(cU v2 x7).bind λx8=>
(cU v2 x7).bind λx9=>
let ac:LDCe:=[(x9.1,x9.2.1)];
bif(cq 16 v4.length ac.length)then let ae:LDCe:=(List.append v4 ac);
some (v0,v1,v2,v3,ae,())else none)else
some (v0,v1,v2,v3,v4,()):Option (T0S)).bind λ(x0,x1,x2,x3,x4,_)=>
let x5:=w64 (x1+1);
some (.inl (x0,x5,x2,x3,x4,())))else
some (.inr (v0,v1,false,v2,v3,v4,()))
def dL(a0:List LDCn)(a1:LDTs)(a2:List LDCn)(a3:LDTs):Option (LDCe×Int×Unit):=
(fH a0 a1).bind λ(x0,x1,_)=>
(fH a2 a3).bind λ(x2,x3,_)=>
(bif(x1 != 0)then(some (true,x0,x2,()))else
bif(x3 != 0)then(some (true,x0,x2,()))else
(eX a0 a1).bind λ(x4,_)=>
(eX a2 a3).bind λ(x5,_)=>
(eF x4 x5).bind λ(x6,_)=>
bif(!x6)then(some (true,x0,x2,()))else
let x7:=bf a1.length;
let x8:=bf a3.length;
some ((x7 != x8),x0,x2,()):Option (Bool×(List (Int×Int×LDCn×Int×Int×Int×Int×Int×Int×Int×LDCn))×(List (Int×Int×LDCn×Int×Int×Int×Int×Int×Int×Int×LDCn))×Unit)).bind λ(x4,x5,x6,_)=>
bif x4 then(some ([],1,()))else
let x7:=bf x5.length;
(bm ca NN (x7,0,x5,x6,[],())).bind λ(x8,x9,ac,ae,af,ah,_)=>
some (ah,0,())
def rU:X.Cfg:=⟨E0,[sF,kL,jt,oP],[],[⟨4,0,qE,[(.normal,(qS [Uaa 6 15,Uaa 8 19,zaa 44] [(15,[shU (Xh (.pair I64 (.pair I64 (.pair bn bF))))]),(19,[shU (Xh (.pair I64 (.pair I64 (.pair bn bF))))])]))]⟩,⟨12,1,qE,[(.normal,(qS [Uaa 6 15,Uaa 8 19,Uaa 10 23,yaa 46,yaa 47] [(15,[shU (Xh (.pair I64 (.pair I64 (.pair bn bF))))]),(19,[shU (Xh (.pair I64 (.pair I64 (.pair bn bF))))]),(23,uab)]))]⟩,(lx 9 2 [Uaa 6 15,Uaa 8 19,Uaa 10 23,yaa 46,yaa 47] [(15,[shU (Xh (.pair I64 (.pair I64 (.pair bn bF))))]),(19,[shU (Xh (.pair I64 (.pair I64 (.pair bn bF))))]),(23,uab)] 48)]⟩
def l6:Ctr:=⟨29,22,[.agg Xaa,.agg Xaa],[],[⟨Uac,[.one,.one],[]⟩],ap4 dL⟩
theorem rO:Lvl E0 TT libBj 7 l6:=bd (n:=6) (C:=rU) rfl (.intro (zr.mono (by decide)) (.intro (oh.mono (by decide)) (.intro (n9.mono (by decide)) (.intro (vh.mono (by decide)) (.intro))))) (bh (by kernel_rfl)) (λh=>by kernel_rfl)
def eP(a0:Int)(a1:Int):Option (Int×Unit):=
(bif(decide (a0<0))then(some (true,()))else
bif(decide (a1>200))then(some (true,()))else
some ((decide (a0>a1)),()):Option (Bool×Unit)).bind λ(x0,_)=>
bif x0 then(some (6,()))else
some (0,())
def xH:X.Cfg:=⟨E0,[],[],[⟨2,0,qE,[(.normal,qS [zaa 15] [])]⟩]⟩
def l7:Ctr:=⟨30,23,Uab,[],[⟨yab,[.one],[]⟩],ap2 eP⟩
theorem p9:Lvl E0 TT libBj 1 l7:=bd (n:=0) (C:=xH) rfl (.intro) (bh (by kernel_rfl)) (λh=>by kernel_rfl)
def eW(a0:List LDCn)(a1:LDTs)(a2:Int)(a3:Int):Option (Bool×Unit):=
bif(a2==(-1))then(bif(decide (a3>=0))then(let x0:Int:=(bf a1.length);
some ((decide (a3<x0)),()))else
some (false,()))else
bif(decide (a2>=0))then(let x0:Int:=(bf a0.length);
bif(decide (a2<x0))then((dS a2).bind λx1=>
(cU a0 x1).bind λx2=>
(dU x2 a3).bind λ(x3,_)=>
let x4:=bf x3.length;
some ((decide (x4>0)),()))else
some (false,()))else
some (false,())
def vF:X.Cfg:=⟨E0,[lZ],[],[]⟩
def oO:Ctr:=⟨76,24,[.agg Xaa,.agg Uab],[],[⟨Zaa,[.one],[]⟩],ap4 eW⟩
theorem vg:Lvl E0 TT libBj 2 oO:=bd (n:=1) (C:=vF) rfl (.intro (p8.mono (by decide)) (.intro)) (bh (by kernel_rfl)) (λh=>by kernel_rfl)
def eO(a0:List LDCn)(a1:LDTs)(a2:Int)(a3:Int):Option (Int×Unit):=
(fu a0 a1).bind λ(x0,_)=>
bif(!x0)then(some (1,()))else
(eW a0 a1 a2 a3).bind λ(x1,_)=>
bif(!x1)then(some (30,()))else
some (0,())
def xE:X.Cfg:=⟨E0,[jJ,oO],[],[]⟩
def qm:Ctr:=⟨53,25,[.agg Xaa,.agg Uab],[],[⟨yab,[.one],[]⟩],ap4 eO⟩
theorem xn:Lvl E0 TT libBj 6 qm:=bd (n:=5) (C:=xE) rfl (.intro (mS.mono (by decide)) (.intro (vg.mono (by decide)) (.intro))) (bh (by kernel_rfl)) (λh=>by kernel_rfl)
def kv(a0:List LDCn)(a1:LDTs)(a2:Int)(a3:Int):Option (T0v):=
(eO a0 a1 a2 a3).bind λ(x0,_)=>
bif(x0 != 0)then(some (0,0,[],0,0,0,0,0,0,0,[],x0,()))else
(gE a0 a1 a2 a3).bind λ(x1,x2,x3,x4,x5,x6,x7,x8,x9,ac,ae,_)=>
some (x1,x2,x3,x4,x5,x6,x7,x8,x9,ac,ae,0,())
def zG:X.Cfg:=⟨E0,[qm,nF],[],[]⟩
def sE:Ctr:=⟨31,26,[.agg Xaa,.agg Uab],[],[⟨yad,[.agg 11,.one],[]⟩],ap4 kv⟩
theorem zq:Lvl E0 TT libBj 7 sE:=bd (n:=6) (C:=zG) rfl (.intro (xn.mono (by decide)) (.intro (rN.mono (by decide)) (.intro))) (bh (by kernel_rfl)) (λh=>by kernel_rfl)
def eQ:T0M->Option (T0M⊕((Int×Int×Int×Unit×Unit)⊕(Int×T0L))):=λ(v0,v1,v2,v3,v4,v5,v6,v7,v8,v9,v10,_)=>
bif(decide (v1<v0))then((dS v1).bind λx0=>
(cU v7 x0).bind λx1=>
(cU v7 x0).bind λx2=>
(kv v2 v3 x2.1 x2.2).bind λ(x3,x4,x5,x6,x7,x8,x9,ac,ae,af,ah,aj,_)=>
bif(aj != 0)then(some (.inr (.inl (aj,0,0,(),()))))else
let ak:List (Int×Int×LDCn×Int×Int×Int×Int×Int×Int×Int×LDCn):=[(x3,(x4,(x5,(x6,(x7,(x8,(x9,(ac,(ae,(af,ah))))))))))];
bif(cq 120 v10.length ak.length)then let am:List (Int×Int×LDCn×Int×Int×Int×Int×Int×Int×Int×LDCn):=(List.append v10 ak);
let an:=w64 (v1+1);
some (.inl (v0,an,v2,v3,v4,v5,v6,v7,v8,v9,am,()))else none)else
some (.inr (.inr (v0,v1,false,v2,v3,v4,v5,v6,v7,v8,v9,v10,())))
def dV(a0:List LDCn)(a1:LDTs)(a2:List LDCn)(a3:LDTs)(a4:Int)(a5:Int):Option (T0z):=
(dL a0 a1 a2 a3).bind λ(x0,x1,_)=>
bif(x1 != 0)then(some (0,0,[],x1,()))else
(eP a4 a5).bind λ(x2,_)=>
bif(x2 != 0)then(some (0,0,[],x2,()))else
let x3:=bf x0.length;
(match bm eQ NN (x3,0,a2,a3,0,0,(),x0,a4,a5,[],())with
|none=>none
|some (.inl (x4,x5,x6,x7,_))=>
some (x5,x6,[],x4,())
|some (.inr (x4,x5,x6,x7,x8,x9,ac,ae,af,ah,aj,ak,_))=>
some (ah,aj,ak,0,()))
def xI:X.Cfg:=⟨E0,[l6,l7,sE],[(57,(.pair I64 (.pair I64 (.pair (Xh KCn) sM)))),(58,(.pair I64 (.pair I64 (.pair (Xh KCn) sM))))],[⟨12,0,(qS [uaa 5,uaa 8,uaa 13,Uaa 38 23,yaa 39,yaa 40] [(12,Xaa),(18,Zab),(23,uab),(28,[shU I64,shU I64,shU (Xh (.pair I64 (.pair I64 (.pair bn bF))))])]),[(.ret,qS [uaa 8,yaa 9] [(18,Zab)]),(.exit 0,(qS [uaa 5,uaa 8,uaa 13,Uaa 38 23,yaa 39,yaa 40,zaa 41] [(12,Xaa),(18,Zab),(23,uab),(28,[shU I64,shU I64,shU (Xh (.pair I64 (.pair I64 (.pair bn bF))))])]))]⟩]⟩
def l8:Ctr:=⟨15,27,[.agg Xaa,.agg Xaa,shU I64,shU I64],[],[⟨[shU I64,shU I64,shU (Xh (.pair I64 (.pair I64 (.pair bn bF)))),shU I64],[.agg 3,.one],[]⟩],ap6 dV⟩
theorem qa:Lvl E0 TT libBj 8 l8:=bd (n:=7) (C:=xI) rfl (.intro (rO.mono (by decide)) (.intro (p9.mono (by decide)) (.intro (zq.mono (by decide)) (.intro)))) (bh (by kernel_rfl)) (λh=>by kernel_rfl)
def gX(a0:Int)(a1:Int):Option (Int×Unit):=
bif(a0==(-1))then(some (1,()))else
some (0,())
def xG:X.Cfg:=⟨E0,[],[],[]⟩
def qo:Ctr:=⟨72,28,[.agg Uab],[],[⟨yab,[.one],[]⟩],ap2 gX⟩
theorem xp:Lvl E0 TT libBj 1 qo:=bd (n:=0) (C:=xG) rfl (.intro) (bh (by kernel_rfl)) (λh=>by kernel_rfl)
def dt(a0:Int):Option (Bool×Unit):=
some ((a0 != a0),())
def lR:X.Cfg:=⟨E0,[],[],[]⟩
def ia:Ctr:=⟨83,29,yab,[],[⟨Zaa,[.one],[]⟩],ap1 dt⟩
theorem lO:Lvl E0 TT libBj 1 ia:=bd (n:=0) (C:=lR) rfl (.intro) (bh (by kernel_rfl)) (λh=>by kernel_rfl)
def bJ(a0:Int)(a1:Int):Option (Int×Unit):=
(dt a0).bind λ(x0,_)=>
(dt a1).bind λ(x1,_)=>
bif x0 then(bif x1 then(some (0,()))else
some ((-1),()))else
bif x1 then(some (1,()))else
bif(decide (a0<a1))then(some ((-1),()))else
bif(decide (a0>a1))then(some (1,()))else
some (0,())
def jH:X.Cfg:=⟨E0,[ia],[],[]⟩
def fD:Ctr:=⟨71,30,Uab,[],[⟨yab,[.one],[]⟩],ap2 bJ⟩
theorem jE:Lvl E0 TT libBj 2 fD:=bd (n:=1) (C:=jH) rfl (.intro (lO.mono (by decide)) (.intro)) (bh (by kernel_rfl)) (λh=>by kernel_rfl)
def cG:Int×T06->Option ((Int×T06)⊕((Int×Unit)⊕(Int×T0b))):=λ(v0,v1,v2,v3,_)=>
bif(decide (v3<v2))then((dS v3).bind λx0=>
(cU v1 x0).bind λx1=>
bif(x1 != v0)then(some (.inr (.inl (x1,()))))else
let x2:=w64 (v3+1);
some (.inl (v0,v1,v2,x2,())))else
some (.inr (.inr (v0,v1,v2,v3,false,())))
def f9(a0:List (Int)):Option (Int×Unit):=
let x0:=bf a0.length;
(match bm cG NN (0,a0,x0,0,())with
|none=>none
|some (.inl (x1,_))=>
some (x1,())
|some (.inr (x1,_))=>
some (x1,()))
def rV:X.Cfg:=⟨E0,[],[],[⟨4,0,qS [yaa 3,sP 6 RI,yaa 7,yaa 8] [],[(.ret,qS [yaa 2] []),(.exit 0,qS [yaa 3,sP 6 RI,yaa 7,yaa 8,zaa 9] [])]⟩]⟩
def l9:Ctr:=⟨70,31,uL [RI],[],[⟨yab,[.one],[]⟩],ap1 f9⟩
theorem rP:Lvl E0 TT libBj 1 l9:=bd (n:=0) (C:=rV) rfl (.intro) (bh (by kernel_rfl)) (λh=>by kernel_rfl)
def iC(a0:Int)(a1:Int)(a2:Int)(a3:Int):Option (Int×Unit):=
(gX a0 a1).bind λ(x0,_)=>
(gX a2 a3).bind λ(x1,_)=>
(bJ x0 x1).bind λ(x2,_)=>
(bJ a0 a2).bind λ(x3,_)=>
(bJ a1 a3).bind λ(x4,_)=>
let x5:List (Int):=[x2,x3,x4];
(f9 x5).bind λ(x6,_)=>
some (x6,())
def vL:X.Cfg:=⟨E0,[qo,fD,l9],[],[]⟩
def oT:Ctr:=⟨45,32,[.agg Uab,.agg Uab],[],[⟨yab,[.one],[]⟩],ap4 iC⟩
theorem vk:Lvl E0 TT libBj 3 oT:=bd (n:=2) (C:=vL) rfl (.intro (xp.mono (by decide)) (.intro (jE.mono (by decide)) (.intro (rP.mono (by decide)) (.intro)))) (bh (by kernel_rfl)) (λh=>by kernel_rfl)
def bW:T0A->Option (T0A⊕((Int×Unit)⊕T0C)):=λ(v0,v1,v2,v3,_)=>
let x0:=bf v3.length;
bif(decide (v0<x0))then(let x1:Int:=(w64 (v0-1));
(dS x1).bind λx2=>
(cU v3 x2).bind λx3=>
(dS v0).bind λx4=>
(cU v3 x4).bind λx5=>
(iC x3.1 x3.2.1 x5.1 x5.2.1).bind λ(x6,_)=>
bif(decide (x6>=0))then(some (.inr (.inl (5,()))))else
let x7:=w64 (v0+1);
some (.inl (x7,v1,v2,v3,())))else
some (.inr (.inr (v0,false,v1,v2,v3,())))
def cx(a0:Int)(a1:Int)(a2:List (Int×Int×LDCn×Int×Int×Int×Int×Int×Int×Int×LDCn)):Option (Int×Unit):=
(eP a0 a1).bind λ(x0,_)=>
bif(x0 != 0)then(some (x0,()))else
(match bm bW NN (1,a0,a1,a2,())with
|none=>none
|some (.inl (x1,_))=>
some (x1,())
|some (.inr (x1,_))=>
some (0,()))
def vM:X.Cfg:=⟨E0,[l7,oT],[],[⟨7,0,(qS [uaa 1,yaa 4] [(4,[shU I64,shU I64,shU (Xi (.pair I64 (.pair I64 (.pair bn bF))))])]),[(.ret,qS [yaa 2] []),(.exit 0,(qS [uaa 1,yaa 4,zaa 17] [(4,[shU I64,shU I64,shU (Xi (.pair I64 (.pair I64 (.pair bn bF))))])]))]⟩]⟩
def kM:Ctr:=⟨24,33,[.agg [shU I64,shU I64,shU (Xi (.pair I64 (.pair I64 (.pair bn bF))))]],[],[⟨yab,[.one],[]⟩],ap3 cx⟩
theorem oi:Lvl E0 TT libBj 4 kM:=bd (n:=3) (C:=vM) rfl (.intro (p9.mono (by decide)) (.intro (vk.mono (by decide)) (.intro))) (bh (by kernel_rfl)) (λh=>by kernel_rfl)
def dm(a0:List LDCn):Option (LLCn×Unit):=
bif(cq 24 0 a0.length)then let x0:List LDCn:=(List.append [] a0);
some (x0,())else none
def lq:X.Cfg:=⟨E0,[],[(5,(Xh KCn)),(7,(Xh KCn))],[]⟩
def gz:Ctr:=⟨60,34,uL [(Xi bn)],[],[⟨uL [(Xh bn)],[.one],[]⟩],ap1 dm⟩
theorem lm:Lvl E0 TT libBj 1 gz:=bd (n:=0) (C:=lq) rfl (.intro) (bh (by kernel_rfl)) (λh=>by kernel_rfl)
def dX(a0:LDTs):Option (LDTs×Unit):=
bif(cq 80 0 a0.length)then let x0:LDTs:=(List.append [] a0);
some (x0,())else none
def nB:X.Cfg:=⟨E0,[],[(5,sM),(7,sM)],[]⟩
def ja:Ctr:=⟨61,35,uL [(Xi bF)],[],[⟨uL [(Xh bF)],[.one],[]⟩],ap1 dX⟩
theorem ny:Lvl E0 TT libBj 1 ja:=bd (n:=0) (C:=nB) rfl (.intro) (bh (by kernel_rfl)) (λh=>by kernel_rfl)
def dN:T0k->Option (T0k⊕T0n):=λ(v0,v1,v2,v3)=>
bif(decide (v1<v0))then((dS v1).bind λx0=>
(cU v2 x0).bind λx1=>
(cU v2 x0).bind λx2=>
(cf x2).bind λ(x3,_)=>
(dS v1).bind λx4=>
(cU v2 x4).bind λx5=>
(cU v2 x4).bind λx6=>
let x7:=List.modify v2 x4 λe=>x3;
let x8:=w64 (v1+1);
some (.inl (v0,x8,x7,v3)))else
some (.inr (v0,v1,false,v2,v3))
def dM:T0k->Option (T0k⊕T0n):=λ(v0,v1,v2,v3,v4)=>
bif(decide (v1<v0))then((dS v1).bind λx0=>
(cU v3 x0).bind λx1=>
(cU v3 x0).bind λx2=>
(f8 x2.1 x2.2.1 x2.2.2.1 x2.2.2.2.1 x2.2.2.2.2.1 x2.2.2.2.2.2.1 x2.2.2.2.2.2.2.1 x2.2.2.2.2.2.2.2).bind λ(x3,x4,x5,x6,x7,x8,x9,ac,_)=>
(dS v1).bind λae=>
(cU v3 ae).bind λaf=>
(cU v3 ae).bind λah=>
let aj:=(List.modify v3 ae λe=>(x3,(x4,(x5,(x6,(x7,(x8,(x9,ac))))))));
let ak:=w64 (v1+1);
some (.inl (v0,ak,v2,aj,v4)))else
some (.inr (v0,v1,false,v2,v3,v4))
def gM(a0:List LDCn)(a1:LDTs):Option (T02):=
(dm a0).bind λ(x0,_)=>
(dX a1).bind λ(x1,_)=>
let x2:=bf x0.length;
(bm dN NN (x2,0,x0,x1,(),(),())).bind λ(x3,x4,x5,x6,x7,x8)=>
let ac:=bf x7.length;
(bm dM NN (ac,0,x6,x7,x8)).bind λ(ae,af,ah,aj,ak,_)=>
some (aj,ak,())
def tJ:X.Cfg:=⟨E0,[gz,ja,dG,kO],[],[(lx 4 0 [uaa 1,uaa 2,Uaa 16 4,yaa 17,yaa 18] [(4,Xac),(6,zab)] 19),⟨11,1,(qS [uaa 1,uaa 2,(31,.pk ⟨4,1,[]⟩ [0,0]),yaa 32,yaa 33] [(4,Xac),(6,zab)]),[(.exit 2,(qS [uaa 1,uaa 2,(31,.pk ⟨4,1,[]⟩ [0,0]),yaa 32,yaa 33,zaa 34] [(4,Xac),(6,zab)]))]⟩]⟩
def nb:Ctr:=⟨35,36,[.agg Xaa],[],[⟨Xac,[.agg 2],[]⟩],ap2 gM⟩
theorem tj:Lvl E0 TT libBj 3 nb:=bd (n:=2) (C:=tJ) rfl (.intro (lm.mono (by decide)) (.intro (ny.mono (by decide)) (.intro (fi.mono (by decide)) (.intro (om.mono (by decide)) (.intro))))) (bh (by kernel_rfl)) (λh=>by kernel_rfl)
def sD:Ctr:=⟨36,37,[.agg Xaa,.agg Xab],[],[⟨zad,[.agg 2,.one],[]⟩],ap13 cN⟩
theorem zo:Lvl E0 TT libBj 1 sD:=(u5 (Is rfl) sX).mono (by decide)
def bH:T0U->Option (T0U⊕((Int×T03)⊕((List (Int×Int×LDCn×Int×Int×Int×Int×Int×Int×Int×LDCn))×Int×Int×Bool×T0G))):=λ(v0,v1,v2,v3,v4,v5,v6,v7,v8,v9,_)=>
bif(decide (v2<v1))then((dS v2).bind λx0=>
(cU v0 x0).bind λx1=>
(cN v8 v9 x1.1 x1.2.1 x1.2.2.1 x1.2.2.2.1 x1.2.2.2.2.1 x1.2.2.2.2.2.1 x1.2.2.2.2.2.2.1 x1.2.2.2.2.2.2.2.1 x1.2.2.2.2.2.2.2.2.1 x1.2.2.2.2.2.2.2.2.2.1 x1.2.2.2.2.2.2.2.2.2.2).bind λ(x2,x3,x4,_)=>
bif(x4 != 0)then(some (.inr (.inl (x4,(),(),()))))else
let x5:=w64 (v2+1);
some (.inl (v0,v1,x5,v3,v4,v5,v6,v7,x2,x3,())))else
some (.inr (.inr (v0,v1,v2,false,v3,v4,v5,v6,v7,v8,v9,())))
def eZ(a0:List LDCn)(a1:LDTs)(a2:Int)(a3:Int)(a4:Int)(a5:List (Int×Int×LDCn×Int×Int×Int×Int×Int×Int×Int×LDCn)):Option (LLCn×LDTs×Int×Unit):=
(cx a3 a4 a5).bind λ(x0,_)=>
bif(x0 != 0)then(some ([],[],x0,()))else
bif(a2 != a3)then(some ([],[],35,()))else
(gM a0 a1).bind λ(x1,x2,_)=>
let x3:=bf a5.length;
(match bm bH NN (a5,x3,0,a3,a4,a5,(),(),x1,x2,())with
|none=>none
|some (.inl (x4,x5,x6,_))=>
some ([],[],x4,())
|some (.inr (x4,x5,x6,x7,x8,x9,ac,ae,af,ah,aj,_))=>
some (ah,aj,0,()))
def vN:X.Cfg:=⟨E0,[kM,nb,sD],[],[⟨11,0,(qS [uaa 6,uaa 9,(28,shU (Xi (.pair I64 (.pair I64 (.pair bn bF))))),yaa 29,yaa 30] [(12,[shU I64,shU I64,shU (Xi (.pair I64 (.pair I64 (.pair bn bF))))]),(14,zab),(20,Xaa)]),[(.ret,qS [uaa 6,yaa 7] [(14,zab)]),(.exit 0,(qS [uaa 6,uaa 9,(28,shU (Xi (.pair I64 (.pair I64 (.pair bn bF))))),yaa 29,yaa 30,zaa 31] [(12,[shU I64,shU I64,shU (Xi (.pair I64 (.pair I64 (.pair bn bF))))]),(14,zab),(20,Xaa)]))]⟩]⟩
def kN:Ctr:=⟨17,38,[.agg Xaa,shU I64,.agg [shU I64,shU I64,shU (Xi (.pair I64 (.pair I64 (.pair bn bF))))]],[],[⟨zad,[.agg 2,.one],[]⟩],ap6 eZ⟩
theorem ol:Lvl E0 TT libBj 5 kN:=bd (n:=4) (C:=vN) rfl (.intro (oi.mono (by decide)) (.intro (tj.mono (by decide)) (.intro (zo.mono (by decide)) (.intro)))) (bh (by kernel_rfl)) (λh=>by kernel_rfl)
def cQ:LDCn×LDCn×Int×Unit->Option ((LDCn×LDCn×Int×Unit)⊕((Bool×Unit)⊕(LDCn×LDCn×T00))):=λ(v0,v1,v2,_)=>
let x0:=bf v0.length;
bif(decide (v2<x0))then((dS v2).bind λx1=>
(cU v0 x1).bind λx2=>
(dS v2).bind λx3=>
(cU v1 x3).bind λx4=>
let x5:Bool:=(!((x2.1==x4.1)&&((x2.2.1==x4.2.1)&&((x2.2.2.1==x4.2.2.1)&&((x2.2.2.2==x4.2.2.2)&&true)))));
bif x5 then(some (.inr (.inl (false,()))))else
let x6:=w64 (v2+1);
some (.inl (v0,v1,x6,())))else
some (.inr (.inr (v0,v1,v2,false,())))
def cX(a0:LDCn)(a1:LDCn):Option (Bool×Unit):=
let x0:=bf a0.length;
let x1:=bf a1.length;
bif(x0 != x1)then(some (false,()))else
(match bm cQ NN (a0,a1,0,())with
|none=>none
|some (.inl (x2,_))=>
some (x2,())
|some (.inr (x2,_))=>
some (true,()))
def pK:X.Cfg:=⟨E0,[],[],[⟨6,0,qS [sP 0 bn,sP 1 bn,yaa 5] [],[(.ret,qS [zaa 4] []),(.exit 0,qS [sP 0 bn,sP 1 bn,yaa 5,zaa 14] [])]⟩]⟩
def fa:Ctr:=⟨37,39,uL [bn,bn],[],[⟨Zaa,[.one],[]⟩],ap2 cX⟩
theorem gI:Lvl E0 TT libBj 1 fa:=bd (n:=0) (C:=pK) rfl (.intro) (bh (by kernel_rfl)) (λh=>by kernel_rfl)
def em(a0:Int)(a1:Int)(a2:Int)(a3:Int)(a4:Int)(a5:Int)(a6:Int)(a7:LDCn)(a8:Int)(a9:Int)(a10:Int)(a11:Int)(a12:Int)(a13:Int)(a14:Int)(a15:LDCn):Option (Bool×Unit):=
bif(a0==a8)then(bif(a1==a9)then(bif(a2==a10)then(bif(a3==a11)then(bif(a4==a12)then(bif(a5==a13)then(bif(a6==a14)then((cX a7 a15).bind λ(x0,_)=>
some (x0,()))else
some (false,()))else
some (false,()))else
some (false,()))else
some (false,()))else
some (false,()))else
some (false,()))else
some (false,())
def qA:X.Cfg:=⟨E0,[fa],[],[]⟩
def iq:Ctr:=⟨38,40,[.agg uac,.agg uac],[],[⟨Zaa,[.one],[]⟩],ap16 em⟩
theorem k8:Lvl E0 TT libBj 2 iq:=bd (n:=1) (C:=qA) rfl (.intro (gI.mono (by decide)) (.intro)) (bh (by kernel_rfl)) (λh=>by kernel_rfl)
def eN:T0i->Option (T0i⊕((Bool×Unit)⊕(Int×T0g))):=λ(v0,v1,v2,v3,v4,_)=>
let x0:=bf v1.length;
bif(decide (v0<x0))then((dS v0).bind λx1=>
(cU v1 x1).bind λx2=>
(dS v0).bind λx3=>
(cU v3 x3).bind λx4=>
(cX x2 x4).bind λ(x5,_)=>
bif(!x5)then(some (.inr (.inl (false,()))))else
let x6:=w64 (v0+1);
some (.inl (x6,v1,v2,v3,v4,())))else
some (.inr (.inr (v0,false,v1,v2,v3,v4,())))
def eM:T0i->Option (T0i⊕((Bool×Unit)⊕(Int×T0g))):=λ(v0,v1,v2,v3,v4,_)=>
let x0:=bf v2.length;
bif(decide (v0<x0))then((dS v0).bind λx1=>
(cU v2 x1).bind λx2=>
(dS v0).bind λx3=>
(cU v4 x3).bind λx4=>
(em x2.1 x2.2.1 x2.2.2.1 x2.2.2.2.1 x2.2.2.2.2.1 x2.2.2.2.2.2.1 x2.2.2.2.2.2.2.1 x2.2.2.2.2.2.2.2 x4.1 x4.2.1 x4.2.2.1 x4.2.2.2.1 x4.2.2.2.2.1 x4.2.2.2.2.2.1 x4.2.2.2.2.2.2.1 x4.2.2.2.2.2.2.2).bind λ(x5,_)=>
bif(!x5)then(some (.inr (.inl (false,()))))else
let x6:=w64 (v0+1);
some (.inl (x6,v1,v2,v3,v4,())))else
some (.inr (.inr (v0,false,v1,v2,v3,v4,())))
def gW(a0:List LDCn)(a1:LDTs)(a2:List LDCn)(a3:LDTs):Option (Bool×Unit):=
let x0:=bf a0.length;
let x1:=bf a2.length;
bif(x0 != x1)then(some (false,()))else
let x2:=bf a1.length;
let x3:=bf a3.length;
bif(x2 != x3)then(some (false,()))else
(match bm eN NN (0,a0,a1,a2,a3,())with
|none=>none
|some (.inl (x4,_))=>
some (x4,())
|some (.inr (x4,x5,x6))=>
(match bm eM NN (0,x6)with
|none=>none
|some (.inl (ac,_))=>
some (ac,())
|some (.inr (ac,_))=>
some (true,())))
def xA:X.Cfg:=⟨E0,[fa,iq],[],[⟨6,0,qS [uaa 2,uaa 3,yaa 5] [(6,Xaa),(8,Xaa)],[(.ret,qS [zaa 4] []),(.exit 0,qS [uaa 2,uaa 3,yaa 5,zaa 27] [(6,Xaa),(8,Xaa)])]⟩,⟨14,1,qS [uaa 2,uaa 3,yaa 6] [(6,Xaa),(8,Xaa)],[(.ret,qS [zaa 4] []),(.exit 2,qS [uaa 2,uaa 3,yaa 6,zaa 46] [(6,Xaa),(8,Xaa)])]⟩]⟩
def lY:Ctr:=⟨18,41,[.agg Xaa,.agg Xaa],[],[⟨Zaa,[.one],[]⟩],ap4 gW⟩
theorem p7:Lvl E0 TT libBj 3 lY:=bd (n:=2) (C:=xA) rfl (.intro (gI.mono (by decide)) (.intro (k8.mono (by decide)) (.intro))) (bh (by kernel_rfl)) (λh=>by kernel_rfl)
def iA:Option (Bool×Unit):=
bif(Hg 9 9 4)then let x0:LDCn:=(List.replicate 9 (0,(0,(0,0))));
(fM [x0] []).bind λ(x1,x2,_)=>
(cU x1 0).bind λx3=>
(cU x1 0).bind λx4=>
(cU x1 0).bind λx5=>
(cU x5 8).bind λx6=>
(cU x1 0).bind λx7=>
(cU x7 8).bind λx8=>
let x9:=(List.modify x1 0 λe=>(List.modify e 8 λe=>(e.1,(3,e.2.2))));
(dV [x0] [] x9 x2 2 5).bind λ(ac,ae,af,ah,_)=>
(eZ [x0] [] 2 ac ae af).bind λ(aj,ak,am,_)=>
(eZ [x0] [] 3 ac ae af).bind λ(an,ap,aq,_)=>
bif(ah==0)then(bif(am==0)then(bif(aq==35)then(let au:Int:=(bf af.length);
bif(au==1)then((gW aj ak x9 x2).bind λ(av,_)=>
some (av,()))else
some (false,()))else
some (false,()))else
some (false,()))else
some (false,())else none
def vJ:X.Cfg:=⟨E0,[ju,l8,kN,lY],[(10,(Xh KCn))],[]⟩
def oQ:Ctr:=⟨8,42,[],[],[⟨Zaa,[.one],[]⟩],λh=>iA⟩
theorem vi:Lvl E0 TT libBj 9 oQ:=bd (n:=8) (C:=vJ) rfl (.intro (lN.mono (by decide)) (.intro (qa.mono (by decide)) (.intro (ol.mono (by decide)) (.intro (p7.mono (by decide)) (.intro))))) (bh (by kernel_rfl)) (λh=>by kernel_rfl)
def cL:T0a->Option (T0a⊕(Int×Bool×T07)):=λ(v0,v1,v2,v3,_)=>
let x0:=bf v1.length;
bif(decide (v0<x0))then((dS v0).bind λx1=>
(cU v1 x1).bind λx2=>
let x3:=bf x2.length;
bif(cq 8 v3.length (List.length [x3]))then let x4:List (Int):=(List.append v3 [x3]);
let x5:=w64 (v0+1);
some (.inl (x5,v1,v2,x4,()))else none)else
some (.inr (v0,false,v1,v2,v3,()))
def dZ(a0:List LDCn)(a1:LDTs):Option (LI×Unit):=
(bm cL NN (0,a0,a1,[],())).bind λ(x0,x1,x2,x3,x4,_)=>
some (x4,())
def vD:X.Cfg:=⟨E0,[],[],[(lx 4 0 [uaa 1,Uaa 3 9,yaa 4] [(4,Xaa),(9,zac)] 9)]⟩
def iH:Ctr:=⟨67,43,[.agg Xaa],[],[⟨zac,[.one],[]⟩],ap2 dZ⟩
theorem kE:Lvl E0 TT libBj 1 iH:=bd (n:=0) (C:=vD) rfl (.intro) (bh (by kernel_rfl)) (λh=>by kernel_rfl)
def bU:T06->Option (T06⊕((Int×Unit)⊕T0b)):=λ(v0,v1,v2,_)=>
let x0:=bf v0.length;
bif(decide (v2<x0))then((dS v2).bind λx1=>
(cU v0 x1).bind λx2=>
bif(decide (x2<1))then(some (.inr (.inl (1,()))))else
(dS v2).bind λx3=>
(cU v0 x3).bind λx4=>
bif(decide (x4>32))then(some (.inr (.inl (1,()))))else
let x5:=w64 (v2+1);
some (.inl (v0,v1,x5,())))else
some (.inr (.inr (v0,v1,v2,false,())))
def fX(a0:List (Int))(a1:Int):Option (Int×Unit):=
let x0:=bf a0.length;
bif(decide (x0>4))then(some (3,()))else
bif(decide (a1>4))then(some (3,()))else
(match bm bU NN (a0,a1,0,())with
|none=>none
|some (.inl (x1,_))=>
some (x1,())
|some (.inr (x1,x2,_))=>
bif(decide (x2<0))then(some (1,()))else
some (0,()))
def vC:X.Cfg:=⟨E0,[],[],[⟨6,0,qS [sP 0 RI,yaa 1,yaa 5] [],[(.ret,qS [yaa 4] []),(.exit 0,qS [sP 0 RI,yaa 1,yaa 5,zaa 16] [])]⟩]⟩
def kH:Ctr:=⟨81,44,Zac,[],[⟨yab,[.one],[]⟩],ap2 fX⟩
theorem od:Lvl E0 TT libBj 1 kH:=bd (n:=0) (C:=vC) rfl (.intro) (bh (by kernel_rfl)) (λh=>by kernel_rfl)
def eu(a0:List LDCn)(a1:LDTs):Option (Bool×Unit):=
(dZ a0 a1).bind λ(x0,_)=>
let x1:=bf a1.length;
(fX x0 x1).bind λ(x2,_)=>
some ((x2==0),())
def tG:X.Cfg:=⟨E0,[iH,kH],[],[]⟩
def jI:Ctr:=⟨65,45,[.agg Xaa],[],[⟨Zaa,[.one],[]⟩],ap2 eu⟩
theorem mR:Lvl E0 TT libBj 2 jI:=bd (n:=1) (C:=tG) rfl (.intro (kE.mono (by decide)) (.intro (od.mono (by decide)) (.intro))) (bh (by kernel_rfl)) (λh=>by kernel_rfl)
def cY:LI×LI×Int×Unit->Option ((LI×LI×Int×Unit)⊕((Bool×Unit)⊕(LI×LI×T00))):=λ(v0,v1,v2,_)=>
let x0:=bf v0.length;
bif(decide (v2<x0))then((dS v2).bind λx1=>
(cU v0 x1).bind λx2=>
(dS v2).bind λx3=>
(cU v1 x3).bind λx4=>
bif(x2 != x4)then(some (.inr (.inl (false,()))))else
let x5:=w64 (v2+1);
some (.inl (v0,v1,x5,())))else
some (.inr (.inr (v0,v1,v2,false,())))
def fF(a0:List (Int))(a1:List (Int)):Option (Bool×Unit):=
let x0:=bf a0.length;
let x1:=bf a1.length;
bif(x0 != x1)then(some (false,()))else
(match bm cY NN (a0,a1,0,())with
|none=>none
|some (.inl (x2,_))=>
some (x2,())
|some (.inr (x2,_))=>
some (true,()))
def qz:X.Cfg:=⟨E0,[],[],[⟨6,0,qS [sP 0 RI,sP 1 RI,yaa 5] [],[(.ret,qS [zaa 4] []),(.exit 0,qS [sP 0 RI,sP 1 RI,yaa 5,zaa 14] [])]⟩]⟩
def la:Ctr:=⟨66,46,uL [RI,RI],[],[⟨Zaa,[.one],[]⟩],ap2 fF⟩
theorem qw:Lvl E0 TT libBj 1 la:=bd (n:=0) (C:=qz) rfl (.intro) (bh (by kernel_rfl)) (λh=>by kernel_rfl)
def cD:LI×Int×T05->Option ((LI×Int×T05)⊕(LI×Int×T08)):=λ(v0,v1,v2,v3,v4,_)=>
let x0:=w64 (v3*8);
(dS v2).bind λx1=>
(cU v0 x1).bind λx2=>
bif(decide (x0<x2))then(let x3:LDCe:=[(v2,v3)];
bif(cq 16 v4.length x3.length)then let x4:LDCe:=(List.append v4 x3);
let x5:=w64 (v3+1);
some (.inl (v0,v1,v2,x5,x4,()))else none)else
some (.inr (v0,v1,v2,v3,false,v4,()))
def cZ:T0c->Option (T0c⊕T0j):=λ(v0,v1,v2,v3,_)=>
let x0:=bf v0.length;
bif(decide (v2<x0))then((bm cD NN (v0,v1,v2,0,v3,())).bind λ(x1,x2,x3,x4,x5,x6,_)=>
let x7:=w64 (x3+1);
some (.inl (x1,x2,x7,x6,())))else
some (.inr (v0,v1,v2,false,v3,()))
def cC:T05->Option (T05⊕T08):=λ(v0,v1,v2,_)=>
bif(decide (v1<v0))then(let x0:LDCe:=[((-1),v1)];
bif(cq 16 v2.length x0.length)then let x1:LDCe:=(List.append v2 x0);
let x2:=w64 (v1+1);
some (.inl (v0,x2,x1,()))else none)else
some (.inr (v0,v1,false,v2,()))
def ji(a0:List (Int))(a1:Int):Option (LDCe×Int×Unit):=
(fX a0 a1).bind λ(x0,_)=>
bif(x0 != 0)then(some ([],x0,()))else
(bm cZ NN (a0,a1,0,[],())).bind λ(x1,x2,x3,x4,x5,_)=>
(bm cC NN (x2,0,x5,())).bind λ(x6,x7,x8,x9,_)=>
some (x9,0,())
def xB:X.Cfg:=⟨E0,[kH],[],[⟨13,0,qS [sP 0 RI,yaa 1,Uaa 7 17,yaa 8,yaa 9] [(17,uab)],[(.exit 2,qS [sP 0 RI,yaa 1,Uaa 7 17,yaa 8,yaa 9,zaa 29] [(17,uab)])]⟩,(lx 8 1 [sP 0 RI,yaa 1,Uaa 7 17,yaa 8] [(17,uab)] 20),⟨19,2,qS [yaa 1,Uaa 7 17,yaa 10] [(17,uab)],[(.exit 4,qS [yaa 1,Uaa 7 17,yaa 10,zaa 40] [(17,uab)])]⟩]⟩
def qk:Ctr:=⟨82,47,Zac,[],[⟨Uac,[.one,.one],[]⟩],ap2 ji⟩
theorem xm:Lvl E0 TT libBj 2 qk:=bd (n:=1) (C:=xB) rfl (.intro (od.mono (by decide)) (.intro)) (bh (by kernel_rfl)) (λh=>by kernel_rfl)
def d7(a0:List LDCn)(a1:LDTs)(a2:Int)(a3:Int):Option (T0v):=
(eu a0 a1).bind λ(x0,_)=>
bif(!x0)then(some (0,0,[],0,0,0,0,0,0,0,[],1,()))else
bif(a2==(-1))then(bif(decide (a3<0))then(some (0,0,[],0,0,0,0,0,0,0,[],30,()))else
let x1:=bf a1.length;
bif(decide (a3>=x1))then(some (0,0,[],0,0,0,0,0,0,0,[],30,()))else
(dS a3).bind λx2=>
(cU a1 x2).bind λx3=>
(dy x3.1 x3.2.1 x3.2.2.1 x3.2.2.2.1 x3.2.2.2.2.1 x3.2.2.2.2.2.1 x3.2.2.2.2.2.2.1 x3.2.2.2.2.2.2.2).bind λ(x4,x5,x6,x7,x8,x9,ac,ae,_)=>
some (a2,a3,[],x4,x5,x6,x7,x8,x9,ac,ae,0,()))else
(bif(decide (a2<0))then(some (true,a0,a1,a2,a3,0,0,(),0,0,0,0,0,0,0,(),()))else
let x1:=bf a0.length;
bif(decide (a2>=x1))then(some (true,a0,a1,a2,a3,0,0,(),0,0,0,0,0,0,0,(),()))else
bif(decide (a3<0))then(some (true,a0,a1,a2,a3,0,0,(),0,0,0,0,0,0,0,(),()))else
bif(decide (a3>32))then(some (true,a0,a1,a2,a3,0,0,(),0,0,0,0,0,0,0,(),()))else
let x2:=w64 (a3*8);
(dS a2).bind λx3=>
(cU a0 x3).bind λx4=>
let x5:=bf x4.length;
some ((decide (x2>=x5)),a0,a1,a2,a3,0,0,(),0,0,0,0,0,0,0,(),()):Option (Bool×LLCn×LDTs×Int×Int×Int×Int×Unit×Int×Int×Int×Int×Int×Int×Int×Unit×Unit)).bind λ(x1,x2,x3,x4,x5,x6,x7,x8,x9,ac,ae,_)=>
bif x1 then(some (0,0,[],0,0,0,0,0,0,0,[],30,()))else
(dS x4).bind λan=>
(cU x2 an).bind λap=>
let aq:=w64 (x5*8);
let au:=w64 (aq+8);
let av:=bf ap.length;
let aw:=mmR false au av;
(dS aq).bind λax=>
(dS aw).bind λay=>
bif(gq ax ay ap.length)then let az:LDCn:=(Au ap ax (Nat.sub ay ax));
bif(cq 24 0 az.length)then let aA:LDCn:=(List.append [] az);
some (x4,x5,aA,0,0,0,0,0,0,0,[],0,())else none else none
def zD:X.Cfg:=⟨E0,[jI,gP],[],[⟨11,0,qE,[(.normal,(qS [uaa 2,uaa 3,uaa 4,zaa 69] [(6,Xaa),(8,Uab),(10,uL [I64,I64,N1,I64,I64,I64,I64,I64,I64,CW,N1])]))]⟩]⟩
def kI:Ctr:=⟨42,48,[.agg Xaa,.agg Uab],[],[⟨yad,[.agg 11,.one],[]⟩],ap4 d7⟩
theorem nz:Lvl E0 TT libBj 3 kI:=bd (n:=2) (C:=zD) rfl (.intro (mR.mono (by decide)) (.intro (jD.mono (by decide)) (.intro))) (bh (by kernel_rfl)) (λh=>by kernel_rfl)
def dz:T0D->Option (T0D⊕T0E):=λ(v0,v1,v2,v3,v4,_)=>
let x0:=bf v3.length;
bif(decide (v0<x0))then((dS v0).bind λx1=>
(cU v3 x1).bind λx2=>
(cU v3 x1).bind λx3=>
(d7 v1 v2 x3.1 x3.2).bind λ(x4,x5,x6,x7,x8,x9,ac,ae,af,ah,aj,ak,_)=>
let am:List (Int×Int×LDCn×Int×Int×Int×Int×Int×Int×Int×LDCn):=[(x4,(x5,(x6,(x7,(x8,(x9,(ac,(ae,(af,(ah,aj))))))))))];
bif(cq 120 v4.length am.length)then let an:List (Int×Int×LDCn×Int×Int×Int×Int×Int×Int×Int×LDCn):=(List.append v4 am);
let ap:=w64 (v0+1);
some (.inl (ap,v1,v2,v3,an,()))else none)else
some (.inr (v0,false,v1,v2,v3,v4,()))
def iU(a0:List LDCn)(a1:LDTs):Option (T0t):=
(dZ a0 a1).bind λ(x0,_)=>
let x1:=bf a1.length;
(ji x0 x1).bind λ(x2,x3,_)=>
bif(x3 != 0)then(some ([],1,()))else
(bm dz NN (0,a0,a1,x2,[],())).bind λ(x4,x5,x6,x7,x8,x9,_)=>
some (x9,0,())
def zE:X.Cfg:=⟨E0,[iH,qk,kI],[(38,(.pair I64 (.pair I64 (.pair (Xh KCn) sM)))),(39,(.pair I64 (.pair I64 (.pair (Xh KCn) sM))))],[(lx 8 0 [uaa 1,Uaa 4 11,Uaa 6 15,yaa 7] [(4,Xaa),(11,uab),(15,[shU (Xh (.pair I64 (.pair I64 (.pair bn bF))))])] 24)]⟩
def sC:Ctr:=⟨68,49,[.agg Xaa],[],[⟨[shU (Xh (.pair I64 (.pair I64 (.pair bn bF)))),shU I64],[.one,.one],[]⟩],ap2 iU⟩
theorem zn:Lvl E0 TT libBj 4 sC:=bd (n:=3) (C:=zE) rfl (.intro (kE.mono (by decide)) (.intro (xm.mono (by decide)) (.intro (nz.mono (by decide)) (.intro)))) (bh (by kernel_rfl)) (λh=>by kernel_rfl)
def fY(a0:Int)(a1:Int)(a2:LDCn)(a3:Int)(a4:Int)(a5:Int)(a6:Int)(a7:Int)(a8:Int)(a9:Int)(a10:LDCn)(a11:Int)(a12:Int)(a13:LDCn)(a14:Int)(a15:Int)(a16:Int)(a17:Int)(a18:Int)(a19:Int)(a20:Int)(a21:LDCn):Option (Bool×Unit):=
bif((a0==a11)&&((a1==a12)&&true))then((cX a2 a13).bind λ(x0,_)=>
bif x0 then((em a3 a4 a5 a6 a7 a8 a9 a10 a14 a15 a16 a17 a18 a19 a20 a21).bind λ(x1,_)=>
some (x1,()))else
some (false,()))else
some (false,())
def vE:X.Cfg:=⟨E0,[fa,iq],[],[]⟩
def kJ:Ctr:=⟨64,50,[.agg Xab,.agg Xab],[],[⟨Zaa,[.one],[]⟩],ap22 fY⟩
theorem oe:Lvl E0 TT libBj 3 kJ:=bd (n:=2) (C:=vE) rfl (.intro (gI.mono (by decide)) (.intro (k8.mono (by decide)) (.intro))) (bh (by kernel_rfl)) (λh=>by kernel_rfl)
def b8:T0Q->Option (T0Q⊕T0R):=λ(v0,v1,v2,v3,_)=>
let x0:=bf v1.length;
bif(decide (v0<x0))then(((dS v0).bind λx1=>
(cU v1 x1).bind λx2=>
(cU v1 x1).bind λx3=>
(dS v0).bind λx4=>
(cU v2 x4).bind λx5=>
(cU v2 x4).bind λx6=>
(fY x3.1 x3.2.1 x3.2.2.1 x3.2.2.2.1 x3.2.2.2.2.1 x3.2.2.2.2.2.1 x3.2.2.2.2.2.2.1 x3.2.2.2.2.2.2.2.1 x3.2.2.2.2.2.2.2.2.1 x3.2.2.2.2.2.2.2.2.2.1 x3.2.2.2.2.2.2.2.2.2.2 x6.1 x6.2.1 x6.2.2.1 x6.2.2.2.1 x6.2.2.2.2.1 x6.2.2.2.2.2.1 x6.2.2.2.2.2.2.1 x6.2.2.2.2.2.2.2.1 x6.2.2.2.2.2.2.2.2.1 x6.2.2.2.2.2.2.2.2.2.1 x6.2.2.2.2.2.2.2.2.2.2).bind λ(x7,_)=>
bif(!x7)then((dS v0).bind λx8=>
(cU v1 x8).bind λx9=>
(cU v1 x8).bind λac=>
let ae:LDCe:=[(ac.1,ac.2.1)];
bif(cq 16 v3.length ae.length)then let af:LDCe:=(List.append v3 ae);
some (v0,v1,v2,af,())else none)else
some (v0,v1,v2,v3,()):Option (T0Q)).bind λ(x1,x2,x3,x4,_)=>
let x5:=w64 (x1+1);
some (.inl (x5,x2,x3,x4,())))else
some (.inr (v0,false,v1,v2,v3,()))
def dK(a0:List LDCn)(a1:LDTs)(a2:List LDCn)(a3:LDTs):Option (LDCe×Int×Unit):=
((eu a0 a1).bind λ(x0,_)=>
bif(!x0)then(some (true,a0,a1,a2,a3,()))else
(eu a2 a3).bind λ(x1,_)=>
bif(!x1)then(some (true,a0,a1,a2,a3,()))else
(dZ a0 a1).bind λ(x2,_)=>
(dZ a2 a3).bind λ(x3,_)=>
(fF x2 x3).bind λ(x4,_)=>
bif(!x4)then(some (true,a0,a1,a2,a3,()))else
let x5:=bf a1.length;
let x6:=bf a3.length;
some ((x5 != x6),a0,a1,a2,a3,()):Option (T0g)).bind λ(x0,x1,x2,x3,x4,_)=>
bif x0 then(some ([],1,()))else
(iU x1 x2).bind λ(x5,x6,_)=>
(iU x3 x4).bind λ(x7,x8,_)=>
(bm b8 NN (0,x5,x7,[],())).bind λ(x9,ac,ae,af,ah,_)=>
some (ah,0,())
def rT:X.Cfg:=⟨E0,[jI,iH,la,sC,kJ],[],[⟨2,0,qE,[(.normal,qS [uaa 2,uaa 3,zaa 36] [(6,Xaa),(8,Xaa)])]⟩,⟨12,1,qE,[(.normal,(qS [Uaa 6 15,Uaa 8 19,Uaa 10 23,yaa 11] [(15,[shU (Xh (.pair I64 (.pair I64 (.pair bn bF))))]),(19,[shU (Xh (.pair I64 (.pair I64 (.pair bn bF))))]),(23,uab)]))]⟩,(lx 9 2 [Uaa 6 15,Uaa 8 19,Uaa 10 23,yaa 11] [(15,[shU (Xh (.pair I64 (.pair I64 (.pair bn bF))))]),(19,[shU (Xh (.pair I64 (.pair I64 (.pair bn bF))))]),(23,uab)] 50)]⟩
def lX:Ctr:=⟨41,51,[.agg Xaa,.agg Xaa],[],[⟨Uac,[.one,.one],[]⟩],ap4 dK⟩
theorem rM:Lvl E0 TT libBj 5 lX:=bd (n:=4) (C:=rT) rfl (.intro (mR.mono (by decide)) (.intro (kE.mono (by decide)) (.intro (qw.mono (by decide)) (.intro (zn.mono (by decide)) (.intro (oe.mono (by decide)) (.intro)))))) (bh (by kernel_rfl)) (λh=>by kernel_rfl)
def jO(a0:Int):Option (Bool×Unit):=
bif(decide (a0>=0))then(some ((decide (a0<=200)),()))else
some (false,())
def CK:X.Cfg:=⟨E0,[],[],[]⟩
def uD:Ctr:=⟨46,52,yab,[],[⟨Zaa,[.one],[]⟩],ap1 jO⟩
theorem CF:Lvl E0 TT libBj 1 uD:=bd (n:=0) (C:=CK) rfl (.intro) (bh (by kernel_rfl)) (λh=>by kernel_rfl)
def dY(a0:Int)(a1:Int)(a2:Int)(a3:Int):Option (Bool×Unit):=
bif(!((a0==(-1))==(a2==(-1))))then(some ((a2==(-1)),()))else
bif(decide (a0<a2))then(some (true,()))else
bif(a0==a2)then(some ((decide (a1<a3)),()))else
some (false,())
def vB:X.Cfg:=⟨E0,[],[],[]⟩
def kG:Ctr:=⟨47,53,[.agg Uab,.agg Uab],[],[⟨Zaa,[.one],[]⟩],ap4 dY⟩
theorem oc:Lvl E0 TT libBj 1 kG:=bd (n:=0) (C:=vB) rfl (.intro) (bh (by kernel_rfl)) (λh=>by kernel_rfl)
def ek:T0A->Option (T0A⊕((Int×Unit)⊕T0C)):=λ(v0,v1,v2,v3,_)=>
let x0:=bf v3.length;
bif(decide (v0<x0))then(let x1:Int:=(w64 (v0-1));
(dS x1).bind λx2=>
(cU v3 x2).bind λx3=>
(dS v0).bind λx4=>
(cU v3 x4).bind λx5=>
(dY x3.1 x3.2.1 x5.1 x5.2.1).bind λ(x6,_)=>
bif(!x6)then(some (.inr (.inl (5,()))))else
let x7:=w64 (v0+1);
some (.inl (x7,v1,v2,v3,())))else
some (.inr (.inr (v0,false,v1,v2,v3,())))
def cw(a0:Int)(a1:Int)(a2:List (Int×Int×LDCn×Int×Int×Int×Int×Int×Int×Int×LDCn)):Option (Int×Unit):=
((jO a0).bind λ(x0,_)=>
bif(!x0)then(some (true,a0,a1,a2,()))else
(jO a1).bind λ(x1,_)=>
bif(!x1)then(some (true,a0,a1,a2,()))else
some ((decide (a0>a1)),a0,a1,a2,()):Option (T0y)).bind λ(x0,x1,x2)=>
bif x0 then(some (6,()))else
(match bm ek NN (1,x1,x2)with
|none=>none
|some (.inl (x4,_))=>
some (x4,())
|some (.inr (x4,_))=>
some (0,()))
def vz:X.Cfg:=⟨E0,[uD,kG],[],[⟨2,0,qE,[(.normal,(qS [uaa 1,zaa 20] [(4,[shU I64,shU I64,shU (Xi (.pair I64 (.pair I64 (.pair bn bF))))])]))]⟩,⟨6,1,(qS [uaa 1,yaa 3] [(4,[shU I64,shU I64,shU (Xi (.pair I64 (.pair I64 (.pair bn bF))))])]),[(.ret,qS [yaa 2] []),(.exit 0,(qS [uaa 1,yaa 3,zaa 25] [(4,[shU I64,shU I64,shU (Xi (.pair I64 (.pair I64 (.pair bn bF))))])]))]⟩]⟩
def gk:Ctr:=⟨25,54,[.agg [shU I64,shU I64,shU (Xi (.pair I64 (.pair I64 (.pair bn bF))))]],[],[⟨yab,[.one],[]⟩],ap3 cw⟩
theorem iE:Lvl E0 TT libBj 2 gk:=bd (n:=1) (C:=vz) rfl (.intro (CF.mono (by decide)) (.intro (oc.mono (by decide)) (.intro))) (bh (by kernel_rfl)) (λh=>by kernel_rfl)
def eL:T0K->Option (T0K⊕T0L):=λ(v0,v1,v2,v3,v4,v5,v6,v7,v8,v9,_)=>
let x0:=bf v6.length;
bif(decide (v0<x0))then((dS v0).bind λx1=>
(cU v6 x1).bind λx2=>
(cU v6 x1).bind λx3=>
(d7 v1 v2 x3.1 x3.2).bind λ(x4,x5,x6,x7,x8,x9,ac,ae,af,ah,aj,ak,_)=>
let am:List (Int×Int×LDCn×Int×Int×Int×Int×Int×Int×Int×LDCn):=[(x4,(x5,(x6,(x7,(x8,(x9,(ac,(ae,(af,(ah,aj))))))))))];
bif(cq 120 v9.length am.length)then let an:List (Int×Int×LDCn×Int×Int×Int×Int×Int×Int×Int×LDCn):=(List.append v9 am);
let ap:=w64 (v0+1);
some (.inl (ap,v1,v2,v3,v4,v5,v6,v7,v8,an,()))else none)else
some (.inr (v0,false,v1,v2,v3,v4,v5,v6,v7,v8,v9,()))
def fL(a0:List LDCn)(a1:LDTs)(a2:List LDCn)(a3:LDTs)(a4:Int)(a5:Int):Option (T0z):=
(dK a0 a1 a2 a3).bind λ(x0,x1,_)=>
bif(x1 != 0)then(some (0,0,[],x1,()))else
(cw a4 a5 []).bind λ(x2,_)=>
bif(x2 != 0)then(some (0,0,[],6,()))else
(bm eL NN (0,a2,a3,0,0,(),x0,a4,a5,[],())).bind λ(x3,x4,x5,x6,x7,x8,x9,ac,ae,af,ah,_)=>
some (ae,af,ah,0,())
def xy:X.Cfg:=⟨E0,[lX,gk,kI],[(51,(.pair I64 (.pair I64 (.pair (Xh KCn) sM)))),(52,(.pair I64 (.pair I64 (.pair (Xh KCn) sM))))],[(lx 11 0 [uaa 5,uaa 8,Uaa 10 23,uaa 12,yaa 13] [(12,Xaa),(18,Zab),(23,uab),(26,[shU I64,shU I64,shU (Xh (.pair I64 (.pair I64 (.pair bn bF))))])] 36)]⟩
def qi:Ctr:=⟨21,55,[.agg Xaa,.agg Xaa,shU I64,shU I64],[],[⟨[shU I64,shU I64,shU (Xh (.pair I64 (.pair I64 (.pair bn bF)))),shU I64],[.agg 3,.one],[]⟩],ap6 fL⟩
theorem xj:Lvl E0 TT libBj 6 qi:=bd (n:=5) (C:=xy) rfl (.intro (rM.mono (by decide)) (.intro (iE.mono (by decide)) (.intro (nz.mono (by decide)) (.intro)))) (bh (by kernel_rfl)) (λh=>by kernel_rfl)
def jh(a0:Int)(a1:Int)(a2:Int)(a3:Int)(a4:Int)(a5:Int)(a6:Int)(a7:LDCn):Option (Bool×Unit):=
bif(a0==0)then(bif(a1==0)then(bif(a2==0)then(bif(a3==0)then(bif(a4==0)then(bif(a5==0)then(bif(a6==0)then(let x0:Int:=(bf a7.length);
some ((x0==0),()))else
some (false,()))else
some (false,()))else
some (false,()))else
some (false,()))else
some (false,()))else
some (false,()))else
some (false,())
def xz:X.Cfg:=⟨E0,[],[],[]⟩
def qj:Ctr:=⟨69,56,[.agg uac],[],[⟨Zaa,[.one],[]⟩],ap8 jh⟩
theorem xk:Lvl E0 TT libBj 1 qj:=bd (n:=0) (C:=xz) rfl (.intro) (bh (by kernel_rfl)) (λh=>by kernel_rfl)
def ku(a0:List LDCn)(a1:LDTs)(a2:Int)(a3:Int)(a4:LDCn)(a5:Int)(a6:Int)(a7:Int)(a8:Int)(a9:Int)(a10:Int)(a11:Int)(a12:LDCn):Option (LLCn×LDTs×Int×Unit):=
(d7 a0 a1 a2 a3).bind λ(x0,x1,x2,x3,x4,x5,x6,x7,x8,x9,ac,ae,_)=>
bif(ae != 0)then(some ([],[],ae,()))else
(let af:=bf a4.length;
let ah:=bf x2.length;
bif(af != ah)then(some (true,a0,a1,a2,a3,a4,a5,a6,a7,a8,a9,a10,a11,a12,(),(),()))else
bif(a2 != (-1))then((jh a5 a6 a7 a8 a9 a10 a11 a12).bind λ(aj,_)=>
some ((!aj),a0,a1,a2,a3,a4,a5,a6,a7,a8,a9,a10,a11,a12,(),(),()))else
some (false,a0,a1,a2,a3,a4,a5,a6,a7,a8,a9,a10,a11,a12,(),(),()):Option (Bool×LLCn×LDTs×Int×Int×LDCn×Int×Int×Int×Int×Int×Int×Int×LDCn×T03)).bind λ(af,ah,aj,ak,am,an,ap,aq,au,av,aw,ax,ay,az,aA,aB,_)=>
bif af then(some ([],[],5,()))else
(fM ah aj).bind λ(aD,aE,_)=>
bif(ak==(-1))then((dy ap aq au av aw ax ay az).bind λ(aF,aG,aH,aI,aJ,aK,aL,aM,_)=>
(dS am).bind λaO=>
(cU aE aO).bind λaP=>
(cU aE aO).bind λaQ=>
let aR:=(List.modify aE aO λe=>(aF,(aG,(aH,(aI,(aJ,(aK,(aL,aM))))))));
some (aD,aR,0,()))else
((dS ak).bind λaF=>
(cU aD aF).bind λaG=>
(cU aD aF).bind λaH=>
let aI:=w64 (am*8);
(cU aD aF).bind λaJ=>
(dS aI).bind λaK=>
bif(gq aK aJ.length aJ.length)then(cU aD aF).bind λaL=>
(cU aD aF).bind λaM=>
bif(gq aK (Nat.add aK (Nat.min an.length (Nat.sub aJ.length aK))) aM.length)then bif(Nat.blt 0 (Nat.min an.length (Nat.sub aJ.length aK)))then(let aO:List LDCn:=(List.modify aD aF λe=>(lC aM aK (Nat.min an.length (Nat.sub aJ.length aK)) an));
let aP:=(bf (Nat.min an.length (Nat.sub aJ.length aK)));
some (aA,aB,aO,aE,()))else
let aO:=(bf (Nat.min an.length (Nat.sub aJ.length aK)));
some (aA,aB,aD,aE,())else none else none:Option (T0f)).bind λ(aF,aG,aH,aI,_)=>
some (aH,aI,0,())
def zC:X.Cfg:=⟨E0,[kI,qj,ju,gP],[],[⟨6,0,qE,[(.normal,qS [uaa 2,uaa 3,uaa 4,zaa 38] [(6,Xaa),(8,Xab),(10,zab)])]⟩,⟨13,1,qE,[(.normal,qS [uaa 4,uaa 8] [(10,zab),(18,yac)])]⟩]⟩
def sB:Ctr:=⟨43,57,[.agg Xaa,.agg Xab],[],[⟨Uad,[.agg 2,.one],[]⟩],ap13 ku⟩
theorem zm:Lvl E0 TT libBj 4 sB:=bd (n:=3) (C:=zC) rfl (.intro (nz.mono (by decide)) (.intro (xk.mono (by decide)) (.intro (lN.mono (by decide)) (.intro (jD.mono (by decide)) (.intro))))) (bh (by kernel_rfl)) (λh=>by kernel_rfl)
def bG:T0I->Option (T0I⊕((Int×T03)⊕(Int×Bool×T0H))):=λ(v0,v1,v2,v3,v4,v5,v6)=>
let x0:=bf v5.length;
bif(decide (v0<x0))then((dS v0).bind λx1=>
(cU v5 x1).bind λx2=>
(ku v1 v2 x2.1 x2.2.1 x2.2.2.1 x2.2.2.2.1 x2.2.2.2.2.1 x2.2.2.2.2.2.1 x2.2.2.2.2.2.2.1 x2.2.2.2.2.2.2.2.1 x2.2.2.2.2.2.2.2.2.1 x2.2.2.2.2.2.2.2.2.2.1 x2.2.2.2.2.2.2.2.2.2.2).bind λ(x3,x4,x5,_)=>
bif(x5 != 0)then(some (.inr (.inl (x5,(),(),()))))else
let x6:=w64 (v0+1);
some (.inl (x6,x3,x4,v3,v4,v5,v6)))else
some (.inr (.inr (v0,false,v1,v2,v3,v4,v5,v6)))
def iy(a0:List LDCn)(a1:LDTs)(a2:Int)(a3:Int)(a4:Int)(a5:List (Int×Int×LDCn×Int×Int×Int×Int×Int×Int×Int×LDCn)):Option (LLCn×LDTs×Int×Unit):=
(cw a3 a4 a5).bind λ(x0,_)=>
bif(x0 != 0)then(some ([],[],x0,()))else
bif(a2 != a3)then(some ([],[],35,()))else
(match bm bG NN (0,a0,a1,a3,a4,a5,(),(),())with
|none=>none
|some (.inl (x1,x2,x3,_))=>
some ([],[],x1,())
|some (.inr (x1,x2,x3,x4,_))=>
(fM x3 x4).bind λ(ac,ae,_)=>
some (ac,ae,0,()))
def vA:X.Cfg:=⟨E0,[gk,sB,ju],[],[⟨10,0,(qS [uaa 3,uaa 5,uaa 6,yaa 9] [(8,Xaa),(12,[shU I64,shU I64,shU (Xi (.pair I64 (.pair I64 (.pair bn bF))))]),(14,zab)]),[(.ret,qS [uaa 6,yaa 7] [(14,zab)]),(.exit 0,(qS [uaa 3,uaa 5,uaa 6,yaa 9,zaa 27] [(8,Xaa),(12,[shU I64,shU I64,shU (Xi (.pair I64 (.pair I64 (.pair bn bF))))]),(14,zab)]))]⟩]⟩
def oN:Ctr:=⟨22,58,[.agg Xaa,shU I64,.agg [shU I64,shU I64,shU (Xi (.pair I64 (.pair I64 (.pair bn bF))))]],[],[⟨Uad,[.agg 2,.one],[]⟩],ap6 iy⟩
theorem vf:Lvl E0 TT libBj 5 oN:=bd (n:=4) (C:=vA) rfl (.intro (iE.mono (by decide)) (.intro (zm.mono (by decide)) (.intro (lN.mono (by decide)) (.intro)))) (bh (by kernel_rfl)) (λh=>by kernel_rfl)
def oU:Ctr:=⟨16,59,[.agg [shU I64,shU I64,shU (Xi (.pair I64 (.pair I64 (.pair bn bF))))],.agg [shU I64,shU I64,shU (Xi (.pair I64 (.pair I64 (.pair bn bF))))]],[],[⟨[shU I64,shU I64,shU (Xi (.pair I64 (.pair I64 (.pair bn bF)))),shU I64],[.agg 3,.one],[]⟩],ap6 bV⟩
theorem vl:Lvl E0 TT libBj 1 oU:=(u5 (Is rfl) qu).mono (by decide)
def ft:T0P->Option (T0P⊕((List (Int×Int×LDCn×Int×Int×Int×Int×Int×Int×Int×LDCn))×Int×Bool×T0s)):=λ(v0,v1,v2,v3,v4)=>
let x0:=bf v0.length;
bif(decide (v1<x0))then((dS v1).bind λx1=>
(cU v0 x1).bind λx2=>
(dY x2.1 x2.2.1 v2 v3).bind λ(x3,_)=>
bif x3 then(let x4:Int:=(w64 (v1+1));
some (.inl (v0,x4,v2,v3,v4)))else
some (.inr (v0,v1,false,v2,v3,v4)))else
some (.inr (v0,v1,false,v2,v3,v4))
def iT(a0:List (Int×Int×LDCn×Int×Int×Int×Int×Int×Int×Int×LDCn))(a1:Int)(a2:Int)(a3:LDCn)(a4:Int)(a5:Int)(a6:Int)(a7:Int)(a8:Int)(a9:Int)(a10:Int)(a11:LDCn):Option ((List (Int×Int×LDCn×Int×Int×Int×Int×Int×Int×Int×LDCn))×Unit):=
(bm ft NN (a0,0,a1,a2,a3,a4,a5,a6,a7,a8,a9,a10,a11,())).bind λ(x0,x1,x2,x3,x4,x5,x6,x7,x8,x9,ac,ae,af,ah,_)=>
(dS x1).bind λaj=>
bif(gq 0 aj x0.length)then let ak:List (Int×Int×LDCn×Int×Int×Int×Int×Int×Int×Int×LDCn):=(Au x0 0 (Nat.sub aj 0));
bif(cq 120 0 ak.length)then let am:List (Int×Int×LDCn×Int×Int×Int×Int×Int×Int×Int×LDCn):=(List.append [] ak);
let an:List (Int×Int×LDCn×Int×Int×Int×Int×Int×Int×Int×LDCn):=[(x3,(x4,(x5,(x6,(x7,(x8,(x9,(ac,(ae,(af,ah))))))))))];
bif(cq 120 am.length an.length)then let ap:List (Int×Int×LDCn×Int×Int×Int×Int×Int×Int×Int×LDCn):=(List.append am an);
(let aq:=bf x0.length;
bif(decide (x1<aq))then((dS x1).bind λau=>
(cU x0 au).bind λav=>
bif((av.1==x3)&&((av.2.1==x4)&&true))then(let aw:Int:=(w64 (x1+1));
some (x0,aw,ap,()))else
some (x0,x1,ap,()))else
some (x0,x1,ap,()):Option ((List (Int×Int×LDCn×Int×Int×Int×Int×Int×Int×Int×LDCn))×T0u)).bind λ(aq,au,av,_)=>
(dS au).bind λaw=>
bif(gq aw aq.length aq.length)then let ax:List (Int×Int×LDCn×Int×Int×Int×Int×Int×Int×Int×LDCn):=(Au aq aw (Nat.sub aq.length aw));
bif(cq 120 av.length ax.length)then let ay:List (Int×Int×LDCn×Int×Int×Int×Int×Int×Int×Int×LDCn):=(List.append av ax);
some (ay,())else none else none else none else none else none
def zB:X.Cfg:=⟨E0,[kG],[(23,(.pair I64 (.pair I64 (.pair (Xh KCn) sM)))),(27,(.pair I64 (.pair I64 (.pair (Xh KCn) sM)))),(30,(.pair I64 (.pair I64 (.pair (Xh KCn) sM)))),(31,(.pair I64 (.pair I64 (.pair (Xh KCn) sM)))),(52,(.pair I64 (.pair I64 (.pair (Xh KCn) sM))))],[(lx 3 0 [(0,shU (Xi (.pair I64 (.pair I64 (.pair bn bF))))),uaa 3,yaa 5] [(8,Xab)] 20),⟨8,1,qE,[(.normal,(qS [(0,shU (Xi (.pair I64 (.pair I64 (.pair bn bF))))),yaa 5,Uaa 6 15] [(15,[shU (Xh (.pair I64 (.pair I64 (.pair bn bF))))])]))]⟩]⟩
def sA:Ctr:=⟨44,60,[shU (Xi (.pair I64 (.pair I64 (.pair bn bF)))),.agg Xab],[],[⟨[shU (Xh (.pair I64 (.pair I64 (.pair bn bF))))],[.one],[]⟩],ap12 iT⟩
theorem zl:Lvl E0 TT libBj 2 sA:=bd (n:=1) (C:=zB) rfl (.intro (oc.mono (by decide)) (.intro)) (bh (by kernel_rfl)) (λh=>by kernel_rfl)
def ej:T0X->Option (T0X⊕(Int×Bool×T0W)):=λ(v0,v1,v2,v3,v4,v5,v6,v7,v8,v9,v10,v11,v12,_)=>
let x0:=bf v3.length;
bif(decide (v0<x0))then((dS v0).bind λx1=>
(cU v3 x1).bind λx2=>
(iT v12 x2.1 x2.2.1 x2.2.2.1 x2.2.2.2.1 x2.2.2.2.2.1 x2.2.2.2.2.2.1 x2.2.2.2.2.2.2.1 x2.2.2.2.2.2.2.2.1 x2.2.2.2.2.2.2.2.2.1 x2.2.2.2.2.2.2.2.2.2.1 x2.2.2.2.2.2.2.2.2.2.2).bind λ(x3,_)=>
let x4:=w64 (v0+1);
some (.inl (x4,v1,v2,v3,v4,v5,v6,v7,v8,v9,v10,v11,x3,())))else
some (.inr (v0,false,v1,v2,v3,v4,v5,v6,v7,v8,v9,v10,v11,v12,()))
def ef:T0V->Option (T0V⊕(Int×Bool×T0T)):=λ(v0,v1,v2,v3,v4,v5,v6,v7,v8,v9,_)=>
let x0:=bf v3.length;
bif(decide (v0<x0))then((dS v0).bind λx1=>
(cU v3 x1).bind λx2=>
(iT v9 x2.1 x2.2.1 x2.2.2.1 x2.2.2.2.1 x2.2.2.2.2.1 x2.2.2.2.2.2.1 x2.2.2.2.2.2.2.1 x2.2.2.2.2.2.2.2.1 x2.2.2.2.2.2.2.2.2.1 x2.2.2.2.2.2.2.2.2.2.1 x2.2.2.2.2.2.2.2.2.2.2).bind λ(x3,_)=>
let x4:=w64 (v0+1);
some (.inl (x4,v1,v2,v3,v4,v5,v6,v7,v8,x3,())))else
some (.inr (v0,false,v1,v2,v3,v4,v5,v6,v7,v8,v9,()))
def ix(a0:Int)(a1:Int)(a2:List (Int×Int×LDCn×Int×Int×Int×Int×Int×Int×Int×LDCn))(a3:Int)(a4:Int)(a5:List (Int×Int×LDCn×Int×Int×Int×Int×Int×Int×Int×LDCn)):Option (T0z):=
(cw a0 a1 a2).bind λ(x0,_)=>
bif(x0 != 0)then(some (0,0,[],x0,()))else
(cw a3 a4 a5).bind λ(x1,_)=>
bif(x1 != 0)then(some (0,0,[],x1,()))else
bif(a1 != a3)then(some (0,0,[],35,()))else
(bm ej NN (0,a0,a1,a2,a3,a4,a5,0,0,(),a0,a4,[],())).bind λ(x2,x3,x4,x5,x6,x7)=>
(bm ef NN (0,x7)).bind λ(am,an,ap,aq,au,av,aw,ax,ay,az,aA,_)=>
some (ay,az,aA,0,())
def vy:X.Cfg:=⟨E0,[gk,sA],[],[(lx 15 0 [uaa 2,uaa 3,uaa 4,uaa 8,yaa 9] [(6,[shU I64,shU I64,shU (Xi (.pair I64 (.pair I64 (.pair bn bF))))]),(8,[shU I64,shU I64,shU (Xi (.pair I64 (.pair I64 (.pair bn bF))))]),(10,Zab),(18,[shU I64,shU I64,shU (Xh (.pair I64 (.pair I64 (.pair bn bF))))])] 38),⟨21,1,(qS [uaa 3,uaa 4,uaa 8,yaa 10] [(8,[shU I64,shU I64,shU (Xi (.pair I64 (.pair I64 (.pair bn bF))))]),(10,Zab),(18,[shU I64,shU I64,shU (Xh (.pair I64 (.pair I64 (.pair bn bF))))])]),[(.exit 2,(qS [uaa 3,uaa 4,uaa 8,yaa 10,zaa 54] [(8,[shU I64,shU I64,shU (Xi (.pair I64 (.pair I64 (.pair bn bF))))]),(10,Zab),(18,[shU I64,shU I64,shU (Xh (.pair I64 (.pair I64 (.pair bn bF))))])]))]⟩]⟩
def oM:Ctr:=⟨23,61,[.agg [shU I64,shU I64,shU (Xi (.pair I64 (.pair I64 (.pair bn bF))))],.agg [shU I64,shU I64,shU (Xi (.pair I64 (.pair I64 (.pair bn bF))))]],[],[⟨[shU I64,shU I64,shU (Xh (.pair I64 (.pair I64 (.pair bn bF)))),shU I64],[.agg 3,.one],[]⟩],ap6 ix⟩
theorem ve:Lvl E0 TT libBj 3 oM:=bd (n:=2) (C:=vy) rfl (.intro (iE.mono (by decide)) (.intro (zl.mono (by decide)) (.intro))) (bh (by kernel_rfl)) (λh=>by kernel_rfl)
def cP:T0N->Option (T0N⊕((Bool×Unit)⊕((List (Int×Int×LDCn×Int×Int×Int×Int×Int×Int×Int×LDCn))×(List (Int×Int×LDCn×Int×Int×Int×Int×Int×Int×Int×LDCn))×T00))):=λ(v0,v1,v2,_)=>
let x0:=bf v0.length;
bif(decide (v2<x0))then((dS v2).bind λx1=>
(cU v0 x1).bind λx2=>
(dS v2).bind λx3=>
(cU v1 x3).bind λx4=>
(fY x2.1 x2.2.1 x2.2.2.1 x2.2.2.2.1 x2.2.2.2.2.1 x2.2.2.2.2.2.1 x2.2.2.2.2.2.2.1 x2.2.2.2.2.2.2.2.1 x2.2.2.2.2.2.2.2.2.1 x2.2.2.2.2.2.2.2.2.2.1 x2.2.2.2.2.2.2.2.2.2.2 x4.1 x4.2.1 x4.2.2.1 x4.2.2.2.1 x4.2.2.2.2.1 x4.2.2.2.2.2.1 x4.2.2.2.2.2.2.1 x4.2.2.2.2.2.2.2.1 x4.2.2.2.2.2.2.2.2.1 x4.2.2.2.2.2.2.2.2.2.1 x4.2.2.2.2.2.2.2.2.2.2).bind λ(x5,_)=>
bif(!x5)then(some (.inr (.inl (false,()))))else
let x6:=w64 (v2+1);
some (.inl (v0,v1,x6,())))else
some (.inr (.inr (v0,v1,v2,false,())))
def eU(a0:List (Int×Int×LDCn×Int×Int×Int×Int×Int×Int×Int×LDCn))(a1:List (Int×Int×LDCn×Int×Int×Int×Int×Int×Int×Int×LDCn)):Option (Bool×Unit):=
let x0:=bf a0.length;
let x1:=bf a1.length;
bif(x0 != x1)then(some (false,()))else
(match bm cP NN (a0,a1,0,())with
|none=>none
|some (.inl (x2,_))=>
some (x2,())
|some (.inr (x2,_))=>
some (true,()))
def pJ:X.Cfg:=⟨E0,[kJ],[],[⟨6,0,qS [(0,shU (Xi (.pair I64 (.pair I64 (.pair bn bF))))),(1,shU (Xi (.pair I64 (.pair I64 (.pair bn bF))))),yaa 5] [],[(.ret,qS [zaa 4] []),(.exit 0,qS [(0,shU (Xi (.pair I64 (.pair I64 (.pair bn bF))))),(1,shU (Xi (.pair I64 (.pair I64 (.pair bn bF))))),yaa 5,zaa 14] [])]⟩]⟩
def kj:Ctr:=⟨39,62,[shU (Xi (.pair I64 (.pair I64 (.pair bn bF)))),shU (Xi (.pair I64 (.pair I64 (.pair bn bF))))],[],[⟨Zaa,[.one],[]⟩],ap2 eU⟩
theorem pH:Lvl E0 TT libBj 4 kj:=bd (n:=3) (C:=pJ) rfl (.intro (oe.mono (by decide)) (.intro)) (bh (by kernel_rfl)) (λh=>by kernel_rfl)
def gU(a0:Int)(a1:Int)(a2:List (Int×Int×LDCn×Int×Int×Int×Int×Int×Int×Int×LDCn))(a3:Int)(a4:Int)(a5:List (Int×Int×LDCn×Int×Int×Int×Int×Int×Int×Int×LDCn)):Option (Bool×Unit):=
bif(a0==a3)then(bif(a1==a4)then((eU a2 a5).bind λ(x0,_)=>
some (x0,()))else
some (false,()))else
some (false,())
def xx:X.Cfg:=⟨E0,[kj],[],[]⟩
def qh:Ctr:=⟨19,63,[.agg [shU I64,shU I64,shU (Xi (.pair I64 (.pair I64 (.pair bn bF))))],.agg [shU I64,shU I64,shU (Xi (.pair I64 (.pair I64 (.pair bn bF))))]],[],[⟨Zaa,[.one],[]⟩],ap6 gU⟩
theorem xi:Lvl E0 TT libBj 5 qh:=bd (n:=4) (C:=xx) rfl (.intro (pH.mono (by decide)) (.intro)) (bh (by kernel_rfl)) (λh=>by kernel_rfl)
def iB(a0:List LDCn)(a1:LDTs)(a2:List LDCn)(a3:LDTs)(a4:Int)(a5:Int)(a6:Int)(a7:Int)(a8:Int)(a9:List (Int×Int×LDCn×Int×Int×Int×Int×Int×Int×Int×LDCn))(a10:Int)(a11:Int)(a12:List (Int×Int×LDCn×Int×Int×Int×Int×Int×Int×Int×LDCn)):Option (Bool×Unit):=
(dV a0 a1 a2 a3 a4 a5).bind λ(x0,x1,x2,x3,_)=>
(fL a0 a1 a2 a3 a4 a5).bind λ(x4,x5,x6,x7,_)=>
(eZ a0 a1 a6 a7 a8 a9).bind λ(x8,x9,ac,_)=>
(iy a0 a1 a6 a7 a8 a9).bind λ(ae,af,ah,_)=>
(bV a7 a8 a9 a10 a11 a12).bind λ(aj,ak,am,an,_)=>
(ix a7 a8 a9 a10 a11 a12).bind λ(ap,aq,au,av,_)=>
bif(x3==x7)then(bif(ac==ah)then(bif(an==av)then((gU x0 x1 x2 x4 x5 x6).bind λ(aw,_)=>
bif aw then((gW x8 x9 ae af).bind λ(ax,_)=>
bif ax then((gU aj ak am ap aq au).bind λ(ay,_)=>
bif ay then((cx a7 a8 a9).bind λ(az,_)=>
(cw a7 a8 a9).bind λ(aA,_)=>
some ((az==aA),()))else
some (false,()))else
some (false,()))else
some (false,()))else
some (false,()))else
some (false,()))else
some (false,())
def vK:X.Cfg:=⟨E0,[l8,qi,kN,oN,oU,oM,qh,lY,kM,gk],[],[]⟩
def oS:Ctr:=⟨9,64,[.agg Xaa,.agg Xaa,shU I64,shU I64,shU I64,.agg [shU I64,shU I64,shU (Xi (.pair I64 (.pair I64 (.pair bn bF))))],.agg [shU I64,shU I64,shU (Xi (.pair I64 (.pair I64 (.pair bn bF))))]],[],[⟨Zaa,[.one],[]⟩],ap13 iB⟩
theorem vj:Lvl E0 TT libBj 9 oS:=bd (n:=8) (C:=vK) rfl (.intro (qa.mono (by decide)) (.intro (xj.mono (by decide)) (.intro (ol.mono (by decide)) (.intro (vf.mono (by decide)) (.intro (vl.mono (by decide)) (.intro (ve.mono (by decide)) (.intro (xi.mono (by decide)) (.intro (p7.mono (by decide)) (.intro (oi.mono (by decide)) (.intro (iE.mono (by decide)) (.intro))))))))))) (bh (by kernel_rfl)) (λh=>by kernel_rfl)
def ig(a0:List LDCn)(a1:LDTs)(a2:List LDCn)(a3:LDTs)(a4:Int)(a5:Int)(a6:Int)(a7:Int)(a8:Int)(a9:List (Int×Int×LDCn×Int×Int×Int×Int×Int×Int×Int×LDCn))(a10:Int)(a11:Int)(a12:List (Int×Int×LDCn×Int×Int×Int×Int×Int×Int×Int×LDCn)):Option (Bool×Unit):=
((fW a0 a1).bind λ(x0,_)=>
bif(!x0)then(some (a4,a5,a6,true,a0,a1,a2,a3,a7,a8,a9,a10,a11,a12,()))else
(fW a2 a3).bind λ(x1,_)=>
bif(!x1)then(some (a4,a5,a6,true,a0,a1,a2,a3,a7,a8,a9,a10,a11,a12,()))else
(gT a9).bind λ(x2,_)=>
bif(!x2)then(some (a4,a5,a6,true,a0,a1,a2,a3,a7,a8,a9,a10,a11,a12,()))else
(gT a12).bind λ(x3,_)=>
some (a4,a5,a6,(!x3),a0,a1,a2,a3,a7,a8,a9,a10,a11,a12,()):Option (Int×Int×Int×Bool×LLCn×LDTs×LLCn×LDTs×Int×Int×(List (Int×Int×LDCn×Int×Int×Int×Int×Int×Int×Int×LDCn))×T0x)).bind λ(x0,x1,x2,x3,x4,x5,x6,x7,x8,x9,ac,ae,af,ah,_)=>
bif x3 then((iA).bind λ(aj,_)=>
some (aj,()))else
(iB x4 x5 x6 x7 x0 x1 x2 x8 x9 ac ae af ah).bind λ(aj,_)=>
bif aj then((iA).bind λ(ak,_)=>
some (ak,()))else
some (false,())
def qC:X.Cfg:=⟨E0,[oL,qg,oQ,oS],[],[⟨2,0,qE,[(.normal,(qS [yaa 2,yaa 3,yaa 4,uaa 7,uaa 8,uaa 12,uaa 13,zaa 34] [(16,Xaa),(18,Xaa),(26,[shU I64,shU I64,shU (Xi (.pair I64 (.pair I64 (.pair bn bF))))]),(28,[shU I64,shU I64,shU (Xi (.pair I64 (.pair I64 (.pair bn bF))))])]))]⟩]⟩
def ld:Ctr:=⟨3,65,[.agg Xaa,.agg Xaa,shU I64,shU I64,shU I64,.agg [shU I64,shU I64,shU (Xi (.pair I64 (.pair I64 (.pair bn bF))))],.agg [shU I64,shU I64,shU (Xi (.pair I64 (.pair I64 (.pair bn bF))))]],[],[⟨Zaa,[.one],[]⟩],ap13 ig⟩
theorem k_law29_DeltaRaw:Lvl E0 TT libBj 10 ld:=bd (n:=9) (C:=qC) rfl (.intro (vc.mono (by decide)) (.intro (xg.mono (by decide)) (.intro (vi.mono (by decide)) (.intro (vj.mono (by decide)) (.intro))))) (bh (by kernel_rfl)) (λh=>by kernel_rfl)
end
end Go.Proofs.Ytbdhpgelkfncpaa
namespace Go.Proofs.Ytbdhpgelkfncpaa
set_option maxRecDepth 100000
noncomputable section
end
end Go.Proofs.Ytbdhpgelkfncpaa
namespace Go.Proofs.Ytbdhpgelkfncpaa
open Go.RowKit
theorem L4:(Try.prog.funcs.all λfn=>!(fn.name=="runtime.NumGoroutine"))=true:=by kernel_rfl
theorem Cw:gA Try.prog 11:=by
 obtain⟨fn,hf,hb⟩:∃fn,Try.prog.funcs[11]?=some fn/\fn.body.isSome=true:=by
  have hs:(match Try.prog.funcs[11]? with|some fn=>fn.body.isSome|none=>false)=true:=by kernel_rfl
  cases h:Try.prog.funcs[11]? with
  |none=>rw[h]at hs;cases hs
  |some fn=>rw[h]at hs;exact⟨fn,rfl,hs⟩
 obtain⟨c,hc⟩:=Option.isSome_iff_exists.1 hb;refine i8 hf ?_ hc;obtain⟨hlt,he⟩:=Array.getElem?_eq_some_iff.1 hf;have:=Array.all_eq_true.1 L4 11 hlt;rw[he]at this;simpa using this
def Ko(x:Value)(w:World)(e:Ending)(w':World):Prop:=e=.returned (.pointer (some ⟨w.heap.size,0,none⟩))/\w'=w.alloc (.cells #[x,.int .i64 0] 64)
theorem JM(x:Value)(hx:x.oneCell'=true)(w:World):
 Calls Try.prog 11 #[x] w (Ko x w):=by
 cases x
 all_goals first
  |(go_enter Try.func11,Try.ntmps11
    go_wp2
    go_ret
    exact⟨rfl,rfl⟩)
  |simp[Value.oneCell']at hx
theorem e0_ok:Dq Try.prog E0:=by
 intro f n tm h;simp only[E0]at h;split at h
 ·rename_i e;subst e
  injection h with h
  injection h with h1 h2
  subst h1 h2;refine⟨Cw,λx hx=>?_,64,λl2 w hl Zr=>?_⟩
  ·simp only[List.mem_cons,List.not_mem_nil,or_false]at hx;rcases hx with hx|hx
   ·injection hx
   ·injection hx with hx;rw[hx];rfl
  ·match l2,hl with
   | [x],_=>exact JM x (Zr x (by simp[bxV])) w
 ·simp at h
def Ok{α:Type}(o:Option α)(Q:α->Prop):Prop:=∃a,o=some a/\Q a
section
variable {α β:Type}
theorem Ok.ret{a:α}{Q:α->Prop}(h:Q a):Ok (some a) Q:=⟨a,rfl,h⟩
theorem Ok.bind{o:Option α}{f:α->Option β}{P:α->Prop}{Q:β->Prop}(h:Ok o P)(h2:∀a,P a->Ok (f a) Q):Ok (o.bind f) Q:=by
 obtain⟨a,rfl,h1⟩:=h
 simp_all
theorem Ok.mono{o:Option α}{P Q:α->Prop}(h:Ok o P)(h2:∀a,P a->Q a):Ok o Q:=by
 have ⟨a,e,h1⟩:=h;exact⟨a,e,h2 a h1⟩
theorem Ok.cond{c:Bool}{a b:Option α}{Q:α->Prop}(h1:c=true->Ok a Q)(h2:c=false->Ok b Q):Ok (bif c then a else b) Q:=by
 grind
class BP (b:Bool) (P N:outParam Prop):Prop where
 t:b=true->P
 f:b=false->N
theorem Ok.get{l:List α}{i:Nat}{f:α->Option β}{Q:β->Prop}(h:i<l.length)(h2:∀a,l[i]?=some a->Ok (f a) Q):Ok ((cU l i).bind f) Q:=by
 have e:cU l i=some l[i]:=oGE h
 simp_all
theorem Ok.nat{x:Int}{f:Nat->Option β}{Q:β->Prop}(h:0<=x)(h2:∀n:Nat,x=n->Ok (f n) Q):Ok ((dS x).bind f) Q:=by
 obtain⟨n,rfl⟩:∃n:Nat,x=n:=⟨x.toNat,by omega⟩;exact h2 n rfl
theorem Ok.val{v:α}{f:α->Option β}{Q:β->Prop}(h:∀x,x=v->Ok (f x) Q):Ok (f v) Q:=h v rfl
theorem Kt{c:Bool}{a b:Option α}{Q:α->Prop}(hc:c=true)(h1:Ok a Q):Ok (bif c then a else b) Q:=by simp_all
theorem mg{S T:Type}{f:S->Option (S⊕T)}(P:S->Prop)(R:T->Prop)(m:S->Nat){n:Nat}{s:S}(hs:P s)(hm:m s<n)
 (h:∀s,P s->Ok (f s) λr=>match r with|.inl s'=>P s'/\m s'<m s|.inr t=>R t):Ok (bm f n s) R:=by
 induction n generalizing s with
 |zero=>omega
 |succ n ih=>
  have ⟨r,e,hr⟩:=h s hs
  cases r with
  |inl s'=>
   have ⟨t,e2,hq⟩:=ih hr.1 (by omega);exact⟨t,by simp[bm,e];exact e2,hq⟩
  |inr t=>exact⟨t,by simp[bm,e],hr⟩
theorem Ok.loop{S T:Type}{f:S->Option (S⊕T)}{g:T->Option β}{Q:β->Prop}(P:S->Prop)(R:T->Prop)(m:S->Nat){n:Nat}{s:S}(hs:P s)(hm:m s<n)
 (h:∀s,P s->Ok (f s) λr=>match r with|.inl s'=>P s'/\m s'<m s|.inr t=>R t)(hg:∀t,R t->Ok (g t) Q):Ok ((bm f n s).bind g) Q:=(mg P R m hs hm h).bind hg
end
theorem bz{x:Int}(h1:-9223372036854775808<=x)(h2:x<=9223372036854775807):w64 x=x:=wrap_i64 h1 h2
theorem bj(n:Nat):dS (n:Int)=some n:=rfl
theorem bZ{S T:Type}{f:S->Option (S⊕T)}(st:Nat->S){n N:Nat}{fin:T}(hn:n<N)(h:∀i,i<n->f (st i)=some (.inl (st (i+1))))(he:f (st n)=some (.inr fin)):bm f N (st 0)=some fin:=by
 have ZQ:∀k i,i+k=n->k<N->∀M,k<M->bm f M (st i)=some fin:=by
  intro k
  induction k with
  |zero=>
   intro i hi _ M hM;obtain⟨M,rfl⟩:∃m,M=m+1:=⟨M-1,by omega⟩
   have:i=n:=by omega
   subst this;simp[bm,he]
  |succ k ih=>
   intro i hi hk M hM;obtain⟨M,rfl⟩:∃m,M=m+1:=⟨M-1,by omega⟩;simp only[bm,h i (by omega),oBS];exact ih (i+1) (by omega) (by omega) M (by omega)
 exact ZQ n 0 (by omega) hn N hn
theorem jY{S T:Type}{f:S->Option (S⊕T)}(st:Nat->S)(p:Nat->Prop){n N:Nat}{bad:Nat->T}{fin:T}(hn:n<N)
 (h:∀i,i<n->(p i/\f (st i)=some (.inl (st (i+1))))\/(¬p i/\f (st i)=some (.inr (bad i))))(he:f (st n)=some (.inr fin)):
 ((∀i,i<n->p i)/\bm f N (st 0)=some fin)\/∃k,k<n/\(∀i,i<k->p i)/\¬p k/\bm f N (st 0)=some (bad k):=by
 have ZQ:∀k i,i+k=n->(∀j,j<i->p j)->∀M,k<M->((∀i,i<n->p i)/\bm f M (st i)=some fin)\/∃k,k<n/\(∀i,i<k->p i)/\¬p k/\bm f M (st i)=some (bad k):=by
  intro k
  induction k with
  |zero=>
   intro i hi hp M hM;obtain⟨M,rfl⟩:∃m,M=m+1:=⟨M-1,by omega⟩
   have:i=n:=by omega
   subst this;exact .inl ⟨hp,by simp[bm,he]⟩
  |succ k ih=>
   intro i hi hp M hM;obtain⟨M,rfl⟩:∃m,M=m+1:=⟨M-1,by omega⟩
   rcases h i (by omega)with⟨h1,e⟩|⟨h1,e⟩
   ·simp only[bm,e,oBS]
    exact ih (i+1) (by omega) (λj hj=>by
     by_cases e:j=i
     ·subst e;exact h1
     ·exact hp j (by omega)) M (by omega)
   ·exact .inr ⟨i,by omega,hp,h1,by simp[bm,e]⟩
 exact ZQ n 0 (by omega) (λj hj=>by omega) N hn
abbrev Sm{α:Type}(l:List α):Prop:=l.length<=1099511627776
theorem lh{n:Nat}(h:n<=1099511627776):n<NN:=by unfold NN;omega
theorem bw{α:Type}{l:List α}{i:Nat}(h:i<l.length):cU l i=some l[i]:=oGE h
theorem KZ(x y:PID):((x.1==y.1)&&((x.2==y.2)&&true))=decide (x=y):=by
 rw[Bool.and_true,Bool.eq_iff_iff];simp[Prod.ext_iff]
theorem nL{α:Type}{l:List α}{i:Nat}(h:i<l.length):l.take i++[l[i]]=l.take (i+1):=(List.take_append_getElem h)
theorem Ao(a b:PID):dY a.1 a.2 b.1 b.2=some (cH a b,()):=by
 unfold dY cH;by_cases h:(a.1==-1)=(b.1==-1)
 ·simp only[h,beq_self_eq_true,oNT,oCF,bne_self_eq_false,Bool.false_eq_true,if_false];by_cases h1:a.1<b.1
  ·simp[h1]
  ·by_cases h2:a.1=b.1
   ·simp[h2]
   ·simp[h1,oBF h2]
 ·have e1:((a.1==-1)==(b.1==-1))=false:=oBF h;have e2:((a.1==-1) != (b.1==-1))=true:=bne_iff_ne.2 h;simp only[e1,e2,Bool.not_false,oCT,if_true]
theorem bL{sz n m:Nat}(h1:n<=1099511627776)(h2:m<=1099511627776)(h3:sz<=128)(h4:n+m<=1099511627776):cq sz n m=true:=by
 unfold cq;have:(n+m)*sz<=1099511627776*128:=Nat.mul_le_mul h4 h3;simp only[oBA,oDE];exact⟨h4,by omega⟩
theorem Gn{a:List PID}(h:Sm a):dq a=some (kx a,()):=oIP h
theorem JO{a b:List PID}(h:a.length+b.length<=1099511627776):en a b=some (kx (a++b),()):=by
 unfold en dl
 have e:List.flatten [a,b]=a++b:=by simp
 dsimp only;rw[e,oIP ⟨by rw[List.length_append];exact h,by simp⟩,oBS];dsimp only;rw[Gn (show Sm (a++b) by unfold Sm;rw[List.length_append];exact h)];rfl
set_option maxRecDepth 100000 in
theorem J9:iA=some (true,()):=by kernel_rfl
theorem jX{α S T:Type}[DecidableEq α]{a b:List α}(hl:a.length=b.length)(hs:Sm a){f:S->Option (S⊕T)}(st:Nat->S){bad fin:T}
 (step:∀i (h:i<a.length)(h':i<b.length),f (st i)=bif decide (a[i]=b[i])then some (.inl (st (i+1)))else some (.inr bad))(he:f (st a.length)=some (.inr fin)):
 bm f NN (st 0)=some (bif decide (a=b)then fin else bad):=by
 rcases jY (f:=f) st (λi=>a[i]?=b[i]?) (bad:=λ_=>bad) (lh hs) (λi hi=>by
  rw[step i hi (hl▸hi),oGE hi,oGE (hl▸hi)];by_cases e:a[i]=b[i]'(hl▸hi)
  ·exact .inl ⟨by rw[e],by rw[oDT e];rfl⟩
  ·exact .inr ⟨λh=>e (by injection h),by rw[oDF e];rfl⟩) he with⟨h1,h2⟩|⟨k,hk,_,h1,h2⟩
 ·rw[h2,oDT (p:=a=b)]
  ·rfl
  ·exact List.ext_getElem? λi=>by
    by_cases hi:i<a.length
    ·exact h1 i hi
    ·rw[oGN (by omega),oGN (by omega)]
 ·rw[h2,oDF λe=>h1 (by rw[e])];rfl
theorem n7{α:Type}{a b:List α}(h:a.length=b.length):((a.length:Int) != (b.length:Int))=false:=by simp;omega
theorem kz{α:Type}{a b:List α}(h:¬a.length=b.length):((a.length:Int) != (b.length:Int))=true:=by simp;omega
theorem IC(x y:Int):(x != y)=!decide (x=y):=by
 by_cases h:x=y
 ·subst h;simp
 ·rw[oDF h,bne_iff_ne.2 h];rfl
theorem mA{α:Type}(b:Bool)(x y:α):(bif !b then x else y)=bif b then y else x:=by cases b<;>rfl
theorem IK(x y:DCn):(!((x.1==y.1)&&((x.2.1==y.2.1)&&((x.2.2.1==y.2.2.1)&&((x.2.2.2==y.2.2.2)&&true)))))=!decide (x=y):=by
 congr 1;rw[Bool.and_true,Bool.eq_iff_iff];simp[Prod.ext_iff]
theorem IH{a b:List Int}(ha:Sm a):eF a b=some (decide (a=b),()):=by
 unfold eF;delta bf;dsimp only;by_cases hl:a.length=b.length
 rotate_left
 ·rw[kz hl,oCT,oDF λe=>hl (by rw[e])]
 rw[n7 hl,oCF];have h0:=ha
 have:=jX (f:=cB) hl ha (λi=>(a,b,(a.length:Int),(i:Int),())) (bad:=.inl (false,())) (fin:=.inr (a,b,(a.length:Int),(a.length:Int),false,()))
  (λi h h'=>by
   unfold cB;dsimp only;rw[oDT (show(i:Int)<a.length by omega),oCT,bj];simp only[oBS,bw h,bw h',IC,mA];rw[bz (by omega) (by omega)]
   rfl)
  (by
   unfold cB;dsimp only;rw[oDF (show ¬(a.length:Int)<a.length by omega)]
   rfl)
 rw[show bm cB NN (a,b,(a.length:Int),0,())=_ from this];by_cases e:a=b
 ·rw[oDT e];rfl
 ·rw[oDF e];rfl
theorem wM{a b:List Int}(ha:Sm a):fF a b=some (decide (a=b),()):=by
 unfold fF;delta bf;dsimp only;by_cases hl:a.length=b.length
 rotate_left
 ·rw[kz hl,oCT,oDF λe=>hl (by rw[e])]
 rw[n7 hl,oCF];have h0:=ha
 have:=jX (f:=cY) hl ha (λi=>(a,b,(i:Int),())) (bad:=.inl (false,())) (fin:=.inr (a,b,(a.length:Int),false,()))
  (λi h h'=>by
   unfold cY;delta bf;dsimp only;rw[oDT (show(i:Int)<a.length by omega),oCT,bj];simp only[oBS,bw h,bw h',IC,mA];rw[bz (by omega) (by omega)]
   rfl)
  (by
   unfold cY;delta bf;dsimp only;rw[oDF (show ¬(a.length:Int)<a.length by omega)]
   rfl)
 rw[show bm cY NN (a,b,0,())=_ from this];by_cases e:a=b
 ·rw[oDT e];rfl
 ·rw[oDF e];rfl
theorem Bu{a b:List DCn}(ha:Sm a):cO a b=some (decide (a=b),()):=by
 unfold cO;delta bf;dsimp only;by_cases hl:a.length=b.length
 rotate_left
 ·rw[kz hl,oCT,oDF λe=>hl (by rw[e])]
 rw[n7 hl,oCF];have h0:=ha
 have:=jX (f:=b5) hl ha (λi=>(a,b,(a.length:Int),(i:Int),())) (bad:=.inl (false,())) (fin:=.inr (a,b,(a.length:Int),(a.length:Int),false,()))
  (λi h h'=>by
   unfold b5;dsimp only;rw[oDT (show(i:Int)<a.length by omega),oCT,bj];simp only[oBS,bw h,bw h',IK,mA];rw[bz (by omega) (by omega)]
   rfl)
  (by
   unfold b5;dsimp only;rw[oDF (show ¬(a.length:Int)<a.length by omega)]
   rfl)
 rw[show bm b5 NN (a,b,(a.length:Int),0,())=_ from this];by_cases e:a=b
 ·rw[oDT e];rfl
 ·rw[oDF e];rfl
theorem pj{a b:List DCn}(ha:Sm a):cX a b=some (decide (a=b),()):=by
 unfold cX;delta bf;dsimp only;by_cases hl:a.length=b.length
 rotate_left
 ·rw[kz hl,oCT,oDF λe=>hl (by rw[e])]
 rw[n7 hl,oCF];have h0:=ha
 have:=jX (f:=cQ) hl ha (λi=>(a,b,(i:Int),())) (bad:=.inl (false,())) (fin:=.inr (a,b,(a.length:Int),false,()))
  (λi h h'=>by
   unfold cQ;delta bf;dsimp only;rw[oDT (show(i:Int)<a.length by omega),oCT,bj];simp only[oBS,bw h,bw h',IK,mA];rw[bz (by omega) (by omega)]
   rfl)
  (by
   unfold cQ;delta bf;dsimp only;rw[oDF (show ¬(a.length:Int)<a.length by omega)]
   rfl)
 rw[show bm cQ NN (a,b,0,())=_ from this];by_cases e:a=b
 ·rw[oDT e];rfl
 ·rw[oDF e];rfl
abbrev PG:=Int×Int×List DCn×DTs
instance MA:DecidableEq DCn:=inferInstance
instance MH:DecidableEq (Int×Int×Int×List DCn):=inferInstance
instance My:DecidableEq DTs:=inferInstanceAs (DecidableEq (Int×Int×Int×Int×(Int×Int×Int×List DCn)))
instance Mz:DecidableEq PG:=inferInstanceAs (DecidableEq (Int×Int×List DCn×DTs))
theorem yk{x y:Int}{p:Prop}[Decidable p]:(bif(x==y)then(some (decide p,()))else some (false,()):Option (Bool×Unit))=some (decide (x=y/\p),()):=by
 by_cases h:x=y
 ·subst h;simp
 ·rw[oBF h,oDF (p:=x=y/\p) λe=>h e.1];rfl
theorem uB{p q:Prop}[Decidable p][Decidable q]:((some (decide p,())).bind λ(x0,_)=>bif x0 then some (decide q,())else some (false,()):Option (Bool×Unit))=some (decide (p/\q),()):=by
 by_cases h:p<;>by_cases h':q<;>simp[h,h']
theorem uA{x y z w:Int}{p:Prop}[Decidable p]:(bif((x==y)&&((z==w)&&true))then(some (decide p,()))else some (false,()):Option (Bool×Unit))=some (decide (x=y/\z=w/\p),()):=by
 by_cases h:x=y
 ·subst h;by_cases h:z=w
  ·subst h;simp
  ·rw[oBF h,oDF (p:=x=x/\z=w/\p) λe=>h e.2.1];simp
 ·rw[oBF h,oDF (p:=x=y/\z=w/\p) λe=>h e.1];rfl
theorem sG{o:Option (Bool×Unit)}:(o.bind λ(x0,_)=>some (x0,()))=o:=by
 cases o with
 |none=>rfl
 |some x=>obtain⟨x,⟨⟩⟩:=x;rfl
theorem J2{x y:PG}(hx:Sm x.2.2.1)(hy:Sm x.2.2.2.2.2.2.2.2.2.2):
 iz x.1 x.2.1 x.2.2.1 x.2.2.2.1 x.2.2.2.2.1 x.2.2.2.2.2.1 x.2.2.2.2.2.2.1 x.2.2.2.2.2.2.2.1 x.2.2.2.2.2.2.2.2.1 x.2.2.2.2.2.2.2.2.2.1 x.2.2.2.2.2.2.2.2.2.2 y.1 y.2.1 y.2.2.1 y.2.2.2.1 y.2.2.2.2.1 y.2.2.2.2.2.1 y.2.2.2.2.2.2.1 y.2.2.2.2.2.2.2.1 y.2.2.2.2.2.2.2.2.1 y.2.2.2.2.2.2.2.2.2.1 y.2.2.2.2.2.2.2.2.2.2=some (decide (x=y),()):=by
 unfold iz;simp only[Bu hx,Bu hy,sG,yk,uB,uA];congr 2;rw[decide_eq_decide];simp only[Prod.ext_iff,and_assoc]
theorem wK{x y:DTs}(hx:Sm x.2.2.2.2.2.2.2):
 em x.1 x.2.1 x.2.2.1 x.2.2.2.1 x.2.2.2.2.1 x.2.2.2.2.2.1 x.2.2.2.2.2.2.1 x.2.2.2.2.2.2.2 y.1 y.2.1 y.2.2.1 y.2.2.2.1 y.2.2.2.2.1 y.2.2.2.2.2.1 y.2.2.2.2.2.2.1 y.2.2.2.2.2.2.2=some (decide (x=y),()):=by
 unfold em;simp only[pj hx,sG,yk];congr 2;rw[decide_eq_decide];simp only[Prod.ext_iff,and_assoc]
theorem FE{x y:PG}(hx:Sm x.2.2.1)(hy:Sm x.2.2.2.2.2.2.2.2.2.2):
 fY x.1 x.2.1 x.2.2.1 x.2.2.2.1 x.2.2.2.2.1 x.2.2.2.2.2.1 x.2.2.2.2.2.2.1 x.2.2.2.2.2.2.2.1 x.2.2.2.2.2.2.2.2.1 x.2.2.2.2.2.2.2.2.2.1 x.2.2.2.2.2.2.2.2.2.2 y.1 y.2.1 y.2.2.1 y.2.2.2.1 y.2.2.2.2.1 y.2.2.2.2.2.1 y.2.2.2.2.2.2.1 y.2.2.2.2.2.2.2.1 y.2.2.2.2.2.2.2.2.1 y.2.2.2.2.2.2.2.2.2.1 y.2.2.2.2.2.2.2.2.2.2=some (decide (x=y),()):=by
 unfold fY;have:=wK (x:=x.2.2.2) (y:=y.2.2.2) hy;simp only[pj hx,this,sG,uB,uA];congr 2;rw[decide_eq_decide];simp only[Prod.ext_iff,and_assoc]
abbrev CC:=List (List DCn)
abbrev TT':=List DTs
def szs(C:CC):List Int:=C.map λc=>(c.length:Int)
theorem fI(C:CC):(szs C).length=C.length:=List.length_map _
theorem fK{α β:Type}{f:α->β}{l:List α}{i:Nat}(h:i<l.length):(l.take i).map f++[f l[i]]=(l.take (i+1)).map f:=by
 rw[<- nL h,List.map_append];rfl
theorem rk{C:CC}{T:TT'}(h:Sm C):eX C T=some (szs C,()):=by
 unfold eX;delta bf;dsimp only;have h0:=h
 have step:∀i,i<C.length->cM (C,(C.length:Int),(i:Int),C,T,szs (C.take i),())=some (.inl (C,(C.length:Int),((i+1:Nat):Int),C,T,szs (C.take (i+1)),())):=by
  intro i hi;unfold cM;delta bf;dsimp only;rw[oDT (show(i:Int)<C.length by omega),oCT,bj];simp only[oBS,bw hi];rw[bL (by rw[fI,oLT];omega) (by simp) (by omega) (by rw[fI,oLT,List.length_singleton];omega),oCT,bz (by omega) (by omega)];have:List.append (szs (C.take i)) [((C[i].length:Nat):Int)]=szs (C.take (i+1)):=fK (f:=λc:List DCn=>(c.length:Int)) hi;rw[this];rfl
 have fin:cM (C,(C.length:Int),(C.length:Int),C,T,szs (C.take C.length),())=some (.inr (C,(C.length:Int),(C.length:Int),false,C,T,szs (C.take C.length),())):=by
  unfold cM;dsimp only;rw[oDF (show ¬(C.length:Int)<C.length by omega)];rfl
 have:=bZ (f:=cM) (λi=>(C,(C.length:Int),(i:Int),C,T,szs (C.take i),())) (lh h) step fin;rw[show bm cM NN (C,(C.length:Int),0,C,T,[],())=_ from this,List.take_length,oBS]
theorem pd{C:CC}{T:TT'}(h:Sm C):dZ C T=some (szs C,()):=by
 unfold dZ;have h0:=h
 have step:∀i,i<C.length->cL ((i:Int),C,T,szs (C.take i),())=some (.inl (((i+1:Nat):Int),C,T,szs (C.take (i+1)),())):=by
  intro i hi;unfold cL;delta bf;dsimp only;rw[oDT (show(i:Int)<C.length by omega),oCT,bj];simp only[oBS,bw hi];rw[bL (by rw[fI,oLT];omega) (by simp) (by omega) (by rw[fI,oLT,List.length_singleton];omega),oCT,bz (by omega) (by omega)];have:List.append (szs (C.take i)) [((C[i].length:Nat):Int)]=szs (C.take (i+1)):=fK (f:=λc:List DCn=>(c.length:Int)) hi;rw[this];rfl
 have fin:cL ((C.length:Int),C,T,szs (C.take C.length),())=some (.inr ((C.length:Int),false,C,T,szs (C.take C.length),())):=by
  unfold cL;delta bf;dsimp only;rw[oDF (show ¬(C.length:Int)<C.length by omega)];rfl
 have:=bZ (f:=cL) (λi=>((i:Int),C,T,szs (C.take i),())) (lh h) step fin;rw[show bm cL NN (0,C,T,[],())=_ from this,List.take_length,oBS]
def okZ(z:Int):Bool:=decide (1<=z/\z<=32)
theorem DG(z:Int):fZ z=some (okZ z,()):=by
 unfold fZ okZ;by_cases h:z>=1
 ·rw[oDT h,oCT];congr 2;rw[decide_eq_decide];omega
 ·rw[oDF h,oCF,oDF (by omega)]
def shp(C:CC)(T:TT'):Prop:=C.length<=4/\T.length<=4/\∀c∈C,okZ (c.length:Int)=true
instance {C:CC} {T:TT'}:Decidable (shp C T):=inferInstanceAs (Decidable (_/\_/\_))
theorem BI{α:Type}{p:α->Bool}{l:List α}(h:∀i,(hi:i<l.length)->p l[i]=true):∀x∈l,p x=true:=by
 intro x hx;obtain⟨i,hi,rfl⟩:=List.mem_iff_getElem.1 hx;exact h i hi
theorem CZ{C:CC}(h:Sm C):b7 C=some (!decide (∀c∈C,okZ (c.length:Int)=true),()):=by
 unfold b7 dJ;delta bf;dsimp only;have h0:=h
 have step:∀i,i<C.length->((∀hi:i<C.length,okZ (C[i].length:Int)=true)/\bk (C,(C.length:Int),(i:Int),())=some (.inl (C,(C.length:Int),((i+1:Nat):Int),())))\/
  (¬(∀hi:i<C.length,okZ (C[i].length:Int)=true)/\bk (C,(C.length:Int),(i:Int),())=some (.inr (.inl ((i:Int),())))):=by
  intro i hi;unfold bk;dsimp only;rw[oDT (show(i:Int)<C.length by omega),oCT,bj]
  have e:fG C[i]=some (!okZ (C[i].length:Int),()):=by
   unfold fG;delta bf;dsimp only;rw[DG];rfl
  simp only[oBS,bw hi,e];rw[bz (by omega) (by omega)];by_cases q:okZ (C[i].length:Int)=true
  ·exact .inl ⟨λ_=>q,by rw[q];rfl⟩
  ·exact .inr ⟨λg=>q (g hi),by rw[Bool.not_eq_true]at q;rw[q];rfl⟩
 have fin:bk (C,(C.length:Int),(C.length:Int),())=some (.inr (.inr (C,(C.length:Int),(C.length:Int),false,()))):=by
  unfold bk;dsimp only;rw[oDF (show ¬(C.length:Int)<C.length by omega)];rfl
 rcases jY (f:=bk) (λi=>(C,(C.length:Int),(i:Int),())) _ (lh h) step fin with⟨h1,h2⟩|⟨k,hk,_,h1,h2⟩
 ·rw[show bm bk NN (C,(C.length:Int),0,())=_ from h2];rw[oDT (BI (p:=λc:List DCn=>okZ (c.length:Int)) λi hi=>h1 i hi hi)];rfl
 ·rw[show bm bk NN (C,(C.length:Int),0,())=_ from h2];rw[oDF (λg=>h1 λhi=>g _ (List.getElem_mem hi))];simp only[oBS];rw[oDT (show(k:Int)>=0 by omega)];rfl
theorem qL{C:CC}{T:TT'}(h:Sm C):fu C T=some (decide (shp C T),()):=by
 unfold fu;delta bf;dsimp only;by_cases h1:C.length<=4
 ·rw[oDT (show(C.length:Int)<=4 by omega),oCT];by_cases h2:T.length<=4
  ·rw[oDT (show(T.length:Int)<=4 by omega),oCT,CZ h];simp only[oBS,Bool.not_not];congr 2;rw[decide_eq_decide];exact⟨λg=>⟨h1,h2,g⟩,λg=>g.2.2⟩
  ·rw[oDF (show ¬(T.length:Int)<=4 by omega),oCF,oDF λg=>h2 g.2.1]
 ·rw[oDF (show ¬(C.length:Int)<=4 by omega),oCF,oDF λg=>h1 g.1]
theorem CY{S:List Int}(h:Sm S)(hok:∀z∈S,okZ z=true):cu S=some (false,()):=by
 unfold cu eB;delta bf;dsimp only;have h0:=h
 have step:∀i,i<S.length->bB (S,(S.length:Int),(i:Int),())=some (.inl (S,(S.length:Int),((i+1:Nat):Int),())):=by
  intro i hi;unfold bB;dsimp only;rw[oDT (show(i:Int)<S.length by omega),oCT,bj]
  have e:gL S[i]=some (false,()):=by
   unfold gL;rw[DG,hok _ (List.getElem_mem hi)];rfl
  simp only[oBS,bw hi,e];rw[bz (by omega) (by omega)];rfl
 have fin:bB (S,(S.length:Int),(S.length:Int),())=some (.inr (.inr (S,(S.length:Int),(S.length:Int),false,()))):=by
  unfold bB;dsimp only;rw[oDF (show ¬(S.length:Int)<S.length by omega)];rfl
 have:=bZ (f:=bB) (λi=>(S,(S.length:Int),(i:Int),())) (lh h) step fin;rw[show bm bB NN (S,(S.length:Int),0,())=_ from this];rfl
theorem FT{S:List Int}{n:Nat}(h:Sm S):∃e:Int,fX S n=some (e,())/\(e=0↔S.length<=4/\n<=4/\∀z∈S,okZ z=true):=by
 unfold fX;delta bf;dsimp only;by_cases h1:S.length<=4
 rotate_left
 ·rw[oDT (show(S.length:Int)>4 by omega),oCT];exact⟨3,rfl,λg=>absurd g (by decide),λg=>absurd g.1 h1⟩
 rw[oDF (show ¬(S.length:Int)>4 by omega),oCF];by_cases h2:n<=4
 rotate_left
 ·rw[oDT (show(n:Int)>4 by omega),oCT];exact⟨3,rfl,λg=>absurd g (by decide),λg=>absurd g.2.1 h2⟩
 rw[oDF (show ¬(n:Int)>4 by omega),oCF];have h0:=h
 have step:∀i,i<S.length->((∀hi:i<S.length,okZ S[i]=true)/\bU (S,(n:Int),(i:Int),())=some (.inl (S,(n:Int),((i+1:Nat):Int),())))\/
  (¬(∀hi:i<S.length,okZ S[i]=true)/\bU (S,(n:Int),(i:Int),())=some (.inr (.inl (1,())))):=by
  intro i hi;unfold bU;delta bf;dsimp only;rw[oDT (show(i:Int)<S.length by omega),oCT,bj];simp only[oBS,bw hi];rw[bz (by omega) (by omega)];by_cases q1:S[i]<1
  ·rw[oDT q1];exact .inr ⟨λg=>by have:=of_decide_eq_true (g hi);omega,rfl⟩
  ·rw[oDF q1,oCF];by_cases q2:S[i]>32
   ·rw[oDT q2];exact .inr ⟨λg=>by have:=of_decide_eq_true (g hi);omega,rfl⟩
   ·rw[oDF q2,oCF];exact .inl ⟨λ_=>oDT (by omega),rfl⟩
 have fin:bU (S,(n:Int),(S.length:Int),())=some (.inr (.inr (S,(n:Int),(S.length:Int),false,()))):=by
  unfold bU;delta bf;dsimp only;rw[oDF (show ¬(S.length:Int)<S.length by omega)];rfl
 rcases jY (f:=bU) (λi=>(S,(n:Int),(i:Int),())) _ (lh h) step fin with⟨g1,g2⟩|⟨k,hk,_,g1,g2⟩
 ·rw[show bm bU NN (S,(n:Int),0,())=_ from g2];dsimp only;rw[oDF (show ¬(n:Int)<0 by omega)];exact⟨0,rfl,λ_=>⟨h1,h2,BI λi hi=>g1 i hi hi⟩,λ_=>rfl⟩
 ·rw[show bm bU NN (S,(n:Int),0,())=_ from g2];exact⟨1,rfl,λg=>absurd g (by decide),λg=>absurd (λhi=>g.2.2 _ (List.getElem_mem hi)) g1⟩
theorem Ea{C:CC}{T:TT'}:((szs C).length<=4/\T.length<=4/\∀z∈szs C,okZ z=true)↔shp C T:=by
 unfold shp szs;rw[List.length_map];simp
theorem ky{C:CC}{T:TT'}(h:Sm C):eu C T=some (decide (shp C T),()):=by
 unfold eu;rw[pd h];obtain⟨e,h1,h2⟩:=FT (S:=szs C) (n:=T.length) (show Sm (szs C) by unfold Sm;rw[fI];exact h);rw[Ea]at h2;delta bf;simp only[oBS,h1];congr 2;rw[Bool.eq_iff_iff,beq_iff_eq,decide_eq_true_iff];exact h2
def oZ(z:Int):Nat:=((z+7)/8).toNat
def nU(S:List Int)(i:Nat):List PID:=(List.range (oZ (S.getD i 0))).map λ(j:Nat)=>((i:Int),(j:Int))
def pgs(S:List Int)(n:Nat):List PID:=(List.range S.length).flatMap (nU S)++(List.range n).map λ(t:Nat)=>(-1,(t:Int))
def Szs(S:List Int):Prop:=S.length<=4/\∀z∈S,okZ z=true
theorem Dz{S:List Int}(h:Szs S){i:Nat}(hi:i<S.length):1<=S[i]/\S[i]<=32:=of_decide_eq_true (h.2 _ (List.getElem_mem hi))
theorem FN{S:List Int}(h:Szs S){i:Nat}(hi:i<S.length):oZ (S.getD i 0)<=4:=by
 have:=Dz h hi
 have e:S.getD i 0=S[i]:=by simp[hi]
 rw[e];unfold oZ;omega
theorem nW{S:List Int}(h:Szs S):∀i,i<=S.length->((List.range i).flatMap (nU S)).length<=4*i:=by
 intro i
 induction i with
 |zero=>intro _;simp
 |succ i ih=>
  intro hi;rw[List.range_succ,List.flatMap_append,List.length_append];have h1:=ih (by omega)
  have h2:(nU S i).length=oZ (S.getD i 0):=by unfold nU;simp
  have h3:=FN h (i:=i) (by omega);simp only[List.flatMap_cons,List.flatMap_nil,List.append_nil];omega
theorem xR{S:List Int}(i:Nat):(List.range (i+1)).flatMap (nU S)=(List.range i).flatMap (nU S)++nU S i:=by
 rw[List.range_succ,List.flatMap_append];simp
theorem mq{α:Type}(f:Nat->α)(j:Nat):(List.range (j+1)).map f=(List.range j).map f++[f j]:=by
 rw[List.range_succ,List.map_append];rfl
theorem w8{z:Int}(h:1<=z/\z<=32)(j:Nat):((j:Int)*8<z)↔j<oZ z:=by
 unfold oZ;omega
theorem K6{S:List Int}{n:Nat}(h:Szs S)(hn:n<=4):jj S n=some (pgs S n,0,()):=by
 unfold jj;delta bf;dsimp only;have h4:=h.1;rw[oDF (show ¬(S.length:Int)>4 by omega),oCF,oDF (show ¬(n:Int)>4 by omega),oCF,oDF (show ¬(n:Int)<0 by omega),oCF];rw[CY (by unfold Sm;omega) h.2,oBS];simp only[oCF]
 have V6:∀i,i<S.length->df ((n:Int),S,(S.length:Int),(i:Int),(List.range i).flatMap (nU S),())=some (.inl ((n:Int),S,(S.length:Int),((i+1:Nat):Int),(List.range (i+1)).flatMap (nU S),())):=by
  intro i hi;have hz:=Dz h hi;have hl:=nW h i (by omega);have hc:=FN h hi
  have eg:S.getD i 0=S[i]:=by simp[hi]
  unfold df;dsimp only;rw[oDT (show(i:Int)<S.length by omega),oCT,bj];simp only[oBS,bw hi]
  let A:=(List.range i).flatMap (nU S)
  let st:Nat->_:=λj=>((n:Int),(i:Int),S[i],(j:Int),S,(S.length:Int),(i:Int),A++(List.range j).map (λ(j:Nat)=>(((i:Int),(j:Int)):PID)),())
  have V5:∀j,j<oZ S[i]->cF (st j)=some (.inl (st (j+1))):=by
   intro j hj;show cF ((n:Int),(i:Int),S[i],(j:Int),S,(S.length:Int),(i:Int),A++(List.range j).map (λ(j:Nat)=>(((i:Int),(j:Int)):PID)),())=_;unfold cF;dsimp only;rw[eg]at hc;rw[bz (x:=(j:Int)*8) (by omega) (by omega),oDT ((w8 hz j).2 hj),oCT];have hA:A.length<=4*i:=hl;rw[bL (by rw[List.length_append,List.length_map,List.length_range];omega) (by simp) (by omega) (by rw[List.length_append,List.length_map,List.length_range,List.length_singleton];omega),oCT,bz (by omega) (by omega)]
   have e:List.append (A++(List.range j).map (λ(j:Nat)=>(((i:Int),(j:Int)):PID))) [((i:Int),(j:Int))]=A++(List.range (j+1)).map (λ(j:Nat)=>(((i:Int),(j:Int)):PID)):=by
    rw[mq,<- List.append_assoc];rfl
   rw[e];rfl
  have Te:cF (st (oZ S[i]))=some (.inr ((n:Int),(i:Int),S[i],(oZ S[i]:Int),S,(S.length:Int),(i:Int),false,A++(List.range (oZ S[i])).map (λ(j:Nat)=>(((i:Int),(j:Int)):PID)),())):=by
   show cF ((n:Int),(i:Int),S[i],(oZ S[i]:Int),S,(S.length:Int),(i:Int),A++(List.range (oZ S[i])).map (λ(j:Nat)=>(((i:Int),(j:Int)):PID)),())=_;unfold cF;dsimp only;rw[eg]at hc;rw[bz (x:=(oZ S[i]:Int)*8) (by omega) (by omega),oDF (λg=>by have:=(w8 hz _).1 g;omega)];rfl
  have hI:=bZ (f:=cF) st (n:=oZ S[i]) (N:=NN) (by rw[eg]at hc;unfold NN;omega) V5 Te
  have e0:st 0=((n:Int),(i:Int),S[i],0,S,(S.length:Int),(i:Int),(List.range i).flatMap (nU S),()):=by
   show((n:Int),(i:Int),S[i],(0:Int),S,(S.length:Int),(i:Int),A++[],())=_;rw[List.append_nil]
  rw[<- e0,hI];simp only[oBS];rw[bz (by omega) (by omega),xR]
  have er:(List.range (oZ S[i])).map (λ(j:Nat)=>(((i:Int),(j:Int)):PID))=nU S i:=by unfold nU;rw[eg]
  rw[er];rfl
 have Tf:df ((n:Int),S,(S.length:Int),(S.length:Int),(List.range S.length).flatMap (nU S),())=some (.inr ((n:Int),S,(S.length:Int),(S.length:Int),false,(List.range S.length).flatMap (nU S),())):=by
  unfold df;dsimp only;rw[oDF (show ¬(S.length:Int)<S.length by omega)];rfl
 have hO:=bZ (f:=df) (λi=>((n:Int),S,(S.length:Int),(i:Int),(List.range i).flatMap (nU S),())) (n:=S.length) (N:=NN) (by unfold NN;omega) V6 Tf;rw[show bm df NN ((n:Int),S,(S.length:Int),0,[],())=_ from hO];simp only[oBS];have hl:=nW h S.length (Nat.le_refl _)
 let B:=(List.range S.length).flatMap (nU S)
 have hB:B.length<=4*S.length:=hl
 let st:Nat->_:=λt=>((n:Int),(t:Int),B++(List.range t).map (λ(t:Nat)=>((-1,(t:Int)):PID)),())
 have stepT:∀t,t<n->cE (st t)=some (.inl (st (t+1))):=by
  intro t ht;show cE ((n:Int),(t:Int),B++(List.range t).map (λ(t:Nat)=>((-1,(t:Int)):PID)),())=_;unfold cE;dsimp only;rw[oDT (show(t:Int)<n by omega),oCT];rw[bL (by rw[List.length_append,List.length_map,List.length_range];omega) (by simp) (by omega) (by rw[List.length_append,List.length_map,List.length_range,List.length_singleton];omega),oCT,bz (by omega) (by omega)]
  have e:List.append (B++(List.range t).map (λ(t:Nat)=>((-1,(t:Int)):PID))) [(-1,(t:Int))]=B++(List.range (t+1)).map (λ(t:Nat)=>((-1,(t:Int)):PID)):=by
   rw[mq,<- List.append_assoc];rfl
  rw[e];rfl
 have Tg:cE (st n)=some (.inr ((n:Int),(n:Int),false,B++(List.range n).map (λ(t:Nat)=>((-1,(t:Int)):PID)),())):=by
  show cE ((n:Int),(n:Int),B++(List.range n).map (λ(t:Nat)=>((-1,(t:Int)):PID)),())=_;unfold cE;dsimp only;rw[oDF (show ¬(n:Int)<n by omega)];rfl
 have hT:=bZ (f:=cE) st (n:=n) (N:=NN) (by unfold NN;omega) stepT Tg
 have e0:st 0=((n:Int),0,B,()):=by
  show((n:Int),(0:Int),B++[],())=_;rw[List.append_nil]
 rw[e0]at hT;rw[hT];rfl
theorem K7{S:List Int}{n:Nat}(h:Szs S)(hn:n<=4):ji S n=some (pgs S n,0,()):=by
 unfold ji;have h4:=h.1;obtain⟨e,h1,h2⟩:=FT (S:=S) (n:=n) (by unfold Sm;omega);have e0:e=0:=h2.2 ⟨h.1,hn,h.2⟩;subst e0;rw[h1,oBS];simp only[bne_self_eq_false,oCF]
 have V6:∀i,i<S.length->cZ (S,(n:Int),(i:Int),(List.range i).flatMap (nU S),())=some (.inl (S,(n:Int),((i+1:Nat):Int),(List.range (i+1)).flatMap (nU S),())):=by
  intro i hi;have hz:=Dz h hi;have hl:=nW h i (by omega);have hc:=FN h hi
  have eg:S.getD i 0=S[i]:=by simp[hi]
  unfold cZ;delta bf;dsimp only;rw[oDT (show(i:Int)<S.length by omega),oCT]
  let A:=(List.range i).flatMap (nU S)
  let st:Nat->_:=λj=>(S,(n:Int),(i:Int),(j:Int),A++(List.range j).map (λ(j:Nat)=>(((i:Int),(j:Int)):PID)),())
  have V5:∀j,j<oZ S[i]->cD (st j)=some (.inl (st (j+1))):=by
   intro j hj;show cD (S,(n:Int),(i:Int),(j:Int),A++(List.range j).map (λ(j:Nat)=>(((i:Int),(j:Int)):PID)),())=_;unfold cD;dsimp only;rw[eg]at hc;rw[bj];simp only[oBS,bw hi];rw[bz (x:=(j:Int)*8) (by omega) (by omega),oDT ((w8 hz j).2 hj),oCT];have hA:A.length<=4*i:=hl;rw[bL (by rw[List.length_append,List.length_map,List.length_range];omega) (by simp) (by omega) (by rw[List.length_append,List.length_map,List.length_range,List.length_singleton];omega),oCT,bz (by omega) (by omega)]
   have e:List.append (A++(List.range j).map (λ(j:Nat)=>(((i:Int),(j:Int)):PID))) [((i:Int),(j:Int))]=A++(List.range (j+1)).map (λ(j:Nat)=>(((i:Int),(j:Int)):PID)):=by
    rw[mq,<- List.append_assoc];rfl
   rw[e];rfl
  have Te:cD (st (oZ S[i]))=some (.inr (S,(n:Int),(i:Int),(oZ S[i]:Int),false,A++(List.range (oZ S[i])).map (λ(j:Nat)=>(((i:Int),(j:Int)):PID)),())):=by
   show cD (S,(n:Int),(i:Int),(oZ S[i]:Int),A++(List.range (oZ S[i])).map (λ(j:Nat)=>(((i:Int),(j:Int)):PID)),())=_;unfold cD;dsimp only;rw[eg]at hc;rw[bj];simp only[oBS,bw hi];rw[bz (x:=(oZ S[i]:Int)*8) (by omega) (by omega),oDF (λg=>by have:=(w8 hz _).1 g;omega)];rfl
  have hI:=bZ (f:=cD) st (n:=oZ S[i]) (N:=NN) (by rw[eg]at hc;unfold NN;omega) V5 Te
  have e0:st 0=(S,(n:Int),(i:Int),0,(List.range i).flatMap (nU S),()):=by
   show(S,(n:Int),(i:Int),(0:Int),A++[],())=_;rw[List.append_nil]
  rw[<- e0,hI];simp only[oBS];rw[bz (by omega) (by omega),xR]
  have er:(List.range (oZ S[i])).map (λ(j:Nat)=>(((i:Int),(j:Int)):PID))=nU S i:=by unfold nU;rw[eg]
  rw[er];rfl
 have Tf:cZ (S,(n:Int),(S.length:Int),(List.range S.length).flatMap (nU S),())=some (.inr (S,(n:Int),(S.length:Int),false,(List.range S.length).flatMap (nU S),())):=by
  unfold cZ;delta bf;dsimp only;rw[oDF (show ¬(S.length:Int)<S.length by omega)];rfl
 have hO:=bZ (f:=cZ) (λi=>(S,(n:Int),(i:Int),(List.range i).flatMap (nU S),())) (n:=S.length) (N:=NN) (by unfold NN;omega) V6 Tf;rw[show bm cZ NN (S,(n:Int),0,[],())=_ from hO];simp only[oBS];have hl:=nW h S.length (Nat.le_refl _)
 let B:=(List.range S.length).flatMap (nU S)
 have hB:B.length<=4*S.length:=hl
 let st:Nat->_:=λt=>((n:Int),(t:Int),B++(List.range t).map (λ(t:Nat)=>((-1,(t:Int)):PID)),())
 have stepT:∀t,t<n->cC (st t)=some (.inl (st (t+1))):=by
  intro t ht;show cC ((n:Int),(t:Int),B++(List.range t).map (λ(t:Nat)=>((-1,(t:Int)):PID)),())=_;unfold cC;dsimp only;rw[oDT (show(t:Int)<n by omega),oCT];rw[bL (by rw[List.length_append,List.length_map,List.length_range];omega) (by simp) (by omega) (by rw[List.length_append,List.length_map,List.length_range,List.length_singleton];omega),oCT,bz (by omega) (by omega)]
  have e:List.append (B++(List.range t).map (λ(t:Nat)=>((-1,(t:Int)):PID))) [(-1,(t:Int))]=B++(List.range (t+1)).map (λ(t:Nat)=>((-1,(t:Int)):PID)):=by
   rw[mq,<- List.append_assoc];rfl
  rw[e];rfl
 have Tg:cC (st n)=some (.inr ((n:Int),(n:Int),false,B++(List.range n).map (λ(t:Nat)=>((-1,(t:Int)):PID)),())):=by
  show cC ((n:Int),(n:Int),B++(List.range n).map (λ(t:Nat)=>((-1,(t:Int)):PID)),())=_;unfold cC;dsimp only;rw[oDF (show ¬(n:Int)<n by omega)];rfl
 have hT:=bZ (f:=cC) st (n:=n) (N:=NN) (by unfold NN;omega) stepT Tg
 have e0:st 0=((n:Int),0,B,()):=by
  show((n:Int),(0:Int),B++[],())=_;rw[List.append_nil]
 rw[e0]at hT;rw[hT];rfl
abbrev zTs:DTs:=(0,0,0,0,0,0,0,[])
def pg(C:CC)(T:TT')(p:PID):PG:=if p.1=-1 then(p.1,p.2,[],T.getD p.2.toNat zTs)else(p.1,p.2,((C.getD p.1.toNat []).drop (8*p.2.toNat)).take 8,zTs)
def SmT(T:TT'):Prop:=∀t∈T,Sm t.2.2.2.2.2.2.2
theorem JP{S:List Int}{i:Nat}{p:PID}:p∈nU S i↔∃j:Nat,j<oZ (S.getD i 0)/\p=((i:Int),(j:Int)):=by
 unfold nU;simp only[List.mem_map,List.mem_range];exact⟨λ⟨j,h,e⟩=>⟨j,h,e.symm⟩,λ⟨j,h,e⟩=>⟨j,h,e.symm⟩⟩
theorem pE{S:List Int}{n:Nat}{p:PID}:p∈pgs S n↔(∃i j:Nat,i<S.length/\j<oZ (S.getD i 0)/\p=((i:Int),(j:Int)))\/∃t:Nat,t<n/\p=(-1,(t:Int)):=by
 unfold pgs;simp only[List.mem_append,List.mem_flatMap,List.mem_range,JP,List.mem_map];constructor
 ·rintro(⟨i,hi,j,hj,e⟩|⟨t,ht,e⟩)
  ·exact .inl ⟨i,j,hi,hj,e⟩
  ·exact .inr ⟨t,ht,e.symm⟩
 ·rintro(⟨i,j,hi,hj,e⟩|⟨t,ht,e⟩)
  ·exact .inl ⟨i,hi,j,hj,e⟩
  ·exact .inr ⟨t,ht,e.symm⟩
theorem rB{S:List Int}{n:Nat}(h:Szs S)(hn:n<=4):(pgs S n).length<=20:=by
 have h1:=nW h S.length (Nat.le_refl _);have h2:=h.1;unfold pgs;rw[List.length_append,List.length_map,List.length_range];omega
theorem ro{C:CC}{T:TT'}(h:shp C T):Szs (szs C):=⟨by rw[fI];exact h.1,(Ea.2 h).2.2⟩
theorem wh{a:List DCn}(h:Sm a):cf a=some (a,()):=by
 unfold cf;rw[bL (by omega) h (by omega) (by have:=h;omega),oCT];rfl
theorem qH{C:CC}{i:Nat}(h:i<C.length):(szs C).getD i 0=(C[i].length:Int):=by simp[szs,h]
theorem Du{l:List DCn}{a:Nat}(h:a<=l.length):Au l a (Nat.sub (Nat.min (a+8) l.length) a)=(l.drop a).take 8:=by
 unfold Au;rcases Nat.le_total (a+8) l.length with h1|h1
 ·rw[show Nat.min (a+8) l.length=a+8 from Nat.min_eq_left h1,show Nat.sub (a+8) a=8 by show a+8-a=8;omega]
 ·rw[show Nat.min (a+8) l.length=l.length from Nat.min_eq_right h1,show Nat.sub l.length a=(l.drop a).length by rw[List.length_drop];rfl,List.take_length,List.take_of_length_le (by rw[List.length_drop];omega)]
theorem zf(a b:Nat):mmR false (a:Int) (b:Int)=(Nat.min a b:Nat):=by
 unfold mmR;simp only[Bool.false_eq_true,if_false];show _=((min a b:Nat):Int);split<;>omega
theorem E8{c:List DCn}{j:Nat}(h:j<oZ (c.length:Int)):8*j<c.length:=by
 unfold oZ at h;omega
theorem A8{C:CC}{T:TT'}{i j:Nat}(hi:i<C.length):pg C T ((i:Int),(j:Int))=((i:Int),(j:Int),((C[i].drop (8*j)).take 8),zTs):=by
 unfold pg;rw[oIN (by simp)];simp[hi]
theorem nX{C:CC}{T:TT'}{t:Nat}(ht:t<T.length):pg C T (-1,(t:Int))=(-1,(t:Int),[],T[t]):=by
 unfold pg;rw[oIP rfl];simp[ht]
def Lm(x:PG):Int×Int×List DCn×Int×Int×Int×Int×Int×Int×Int×List DCn×Unit:=(x.1,x.2.1,x.2.2.1,x.2.2.2.1,x.2.2.2.2.1,x.2.2.2.2.2.1,x.2.2.2.2.2.2.1,x.2.2.2.2.2.2.2.1,x.2.2.2.2.2.2.2.2.1,x.2.2.2.2.2.2.2.2.2.1,x.2.2.2.2.2.2.2.2.2.2,())
theorem Li{C:CC}{T:TT'}(h:shp C T)(hT:SmT T){p:PID}(hp:p∈pgs (szs C) T.length):gE C T p.1 p.2=some (Lm (pg C T p)):=by
 unfold gE
 rcases pE.1 hp with⟨i,j,hi,hj,rfl⟩|⟨t,ht,rfl⟩
 ·rw[fI]at hi;rw[qH hi]at hj;have ZT:=E8 hj;have hok:=of_decide_eq_true (h.2.2 _ (List.getElem_mem hi));rw[oBF (show((i:Int))≠-1 by omega),oCF,bj];simp only[oBS,bw hi];unfold dU;delta bf;dsimp only;rw[oDF (show ¬(j:Int)<0 by omega),oCF,oDF (show ¬(j:Int)>32 by omega),oCF];simp only[oBS];rw[bz (x:=(j:Int)*8) (by omega) (by omega),oDF (show ¬(j:Int)*8>=(C[i].length:Int) by omega),oCF,bz (x:=(j:Int)*8+8) (by omega) (by omega)];rw[show(j:Int)*8=((8*j:Nat):Int) by omega,show((8*j:Nat):Int)+8=((8*j+8:Nat):Int) by omega,zf,bj,bj];simp only[oBS]
  have ho:gq (8*j) (Nat.min (8*j+8) C[i].length) C[i].length=true:=by
   unfold gq;have h1:Nat.min (8*j+8) C[i].length=min (8*j+8) C[i].length:=rfl;rw[h1];simp only[oBA,oDE];omega
  rw[ho,oCT,Du (by omega)];simp only[oBS];rw[wh (by unfold Sm;rw[oLT];omega),A8 hi];rfl
 ·have hs:Sm (T[t]'ht).2.2.2.2.2.2.2:=hT _ (List.getElem_mem ht);rw[show((-1:Int)==-1)=true from rfl,oCT,bj];simp only[oBS,bw ht];unfold f8;rw[wh hs,nX ht];rfl
theorem JZ{C:CC}{T:TT'}(h:shp C T)(hT:SmT T){p:PID}(hp:p∈pgs (szs C) T.length):d7 C T p.1 p.2=some ((pg C T p).1,(pg C T p).2.1,(pg C T p).2.2.1,(pg C T p).2.2.2.1,(pg C T p).2.2.2.2.1,(pg C T p).2.2.2.2.2.1,(pg C T p).2.2.2.2.2.2.1,(pg C T p).2.2.2.2.2.2.2.1,(pg C T p).2.2.2.2.2.2.2.2.1,(pg C T p).2.2.2.2.2.2.2.2.2.1,(pg C T p).2.2.2.2.2.2.2.2.2.2,0,()):=by
 unfold d7;have h4:=h.1;rw[ky (by unfold Sm;omega),oBS];dsimp only;rw[oDT h];simp only[oNT,oCF]
 rcases pE.1 hp with⟨i,j,hi,hj,rfl⟩|⟨t,ht,rfl⟩
 ·rw[fI]at hi;rw[qH hi]at hj;have ZT:=E8 hj;have hok:=of_decide_eq_true (h.2.2 _ (List.getElem_mem hi));rw[oBF (show((i:Int))≠-1 by omega),oCF];delta bf;dsimp only;rw[oDF (show ¬(i:Int)<0 by omega),oCF,oDF (show ¬(i:Int)>=C.length by omega),oCF,oDF (show ¬(j:Int)<0 by omega),oCF,oDF (show ¬(j:Int)>32 by omega),oCF];rw[bj];simp only[oBS,bw hi];rw[bz (x:=(j:Int)*8) (by omega) (by omega),oDF (show ¬(j:Int)*8>=(C[i].length:Int) by omega),oCF,bj];simp only[oBS,bw hi];rw[bz (x:=(j:Int)*8+8) (by omega) (by omega)];rw[show(j:Int)*8=((8*j:Nat):Int) by omega,show((8*j:Nat):Int)+8=((8*j+8:Nat):Int) by omega,zf,bj,bj];simp only[oBS]
  have ho:gq (8*j) (Nat.min (8*j+8) C[i].length) C[i].length=true:=by
   unfold gq;have h1:Nat.min (8*j+8) C[i].length=min (8*j+8) C[i].length:=rfl;rw[h1];simp only[oBA,oDE];omega
  rw[ho,oCT,Du (by omega),bL (by omega) (by rw[oLT];omega) (by omega) (by rw[oLT];omega),oCT,A8 hi];rfl
 ·have hs:Sm (T[t]'ht).2.2.2.2.2.2.2:=hT _ (List.getElem_mem ht);rw[show((-1:Int)==-1)=true from rfl,oCT];delta bf;dsimp only;rw[oDF (show ¬(t:Int)<0 by omega),oCF,oDF (show ¬(t:Int)>=T.length by omega),oCF,bj];simp only[oBS,bw ht];unfold dy;rw[bL (by omega) hs (by omega) (by have:=hs;omega),oCT,nX ht];rfl
theorem F5{C:CC}{T:TT'}(h:shp C T)(hT:SmT T):fH C T=some ((pgs (szs C) T.length).map (pg C T),0,()):=by
 unfold fH;have h4:=h.1
 have hS:Sm C:=by unfold Sm;omega
 rw[qL hS,oBS];dsimp only;rw[oDT h];simp only[oNT,oCF];rw[rk hS,oBS];delta bf;dsimp only;rw[K6 (ro h) h.2.1,oBS];dsimp only;have hlen:=rB (ro h) h.2.1;have hg:∀p∈pgs (szs C) T.length,gE C T p.1 p.2=some (Lm (pg C T p)):=λp hp=>Li h hT hp;generalize pgs (szs C) T.length=ps at hlen hg⊢
 have step:∀i,i<ps.length->dA ((ps.length:Int),(i:Int),C,T,ps,(ps.take i).map (pg C T),())=some (.inl ((ps.length:Int),((i+1:Nat):Int),C,T,ps,(ps.take (i+1)).map (pg C T),())):=by
  intro i hi;unfold dA;dsimp only;rw[oDT (show(i:Int)<ps.length by omega),oCT,bj];simp only[oBS,bw hi,hg _ (List.getElem_mem hi)];rw[bL (by rw[List.length_map,oLT];omega) (by simp) (by omega) (by rw[List.length_map,oLT,List.length_singleton];omega),oCT,bz (by omega) (by omega),<- fK hi];rfl
 have fin:dA ((ps.length:Int),(ps.length:Int),C,T,ps,(ps.take ps.length).map (pg C T),())=some (.inr ((ps.length:Int),(ps.length:Int),false,C,T,ps,(ps.take ps.length).map (pg C T),())):=by
  unfold dA;dsimp only;rw[oDF (show ¬(ps.length:Int)<ps.length by omega)];rfl
 have:=bZ (f:=dA) (λi=>((ps.length:Int),(i:Int),C,T,ps,(ps.take i).map (pg C T),())) (n:=ps.length) (N:=NN) (by unfold NN;omega) step fin;rw[show bm dA NN ((ps.length:Int),0,C,T,ps,[],())=_ from this,List.take_length];rfl
theorem F4{C:CC}{T:TT'}(h:¬shp C T)(hS:Sm C):fH C T=some ([],1,()):=by
 unfold fH;rw[qL hS,oBS];dsimp only;rw[oDF h];rfl
theorem LD{C:CC}{T:TT'}(h:shp C T)(hT:SmT T):iU C T=some ((pgs (szs C) T.length).map (pg C T),0,()):=by
 unfold iU;have h4:=h.1
 have hS:Sm C:=by unfold Sm;omega
 rw[pd hS,oBS];delta bf;dsimp only;rw[K7 (ro h) h.2.1,oBS];dsimp only;simp only[bne_self_eq_false,oCF];have hlen:=rB (ro h) h.2.1;have hg:=λp hp=>JZ h hT (p:=p) hp;generalize pgs (szs C) T.length=ps at hlen hg⊢
 have step:∀i,i<ps.length->dz ((i:Int),C,T,ps,(ps.take i).map (pg C T),())=some (.inl (((i+1:Nat):Int),C,T,ps,(ps.take (i+1)).map (pg C T),())):=by
  intro i hi;unfold dz;delta bf;dsimp only;rw[oDT (show(i:Int)<ps.length by omega),oCT,bj];simp only[oBS,bw hi,hg _ (List.getElem_mem hi)];rw[bL (by rw[List.length_map,oLT];omega) (by simp) (by omega) (by rw[List.length_map,oLT,List.length_singleton];omega),oCT,bz (by omega) (by omega),<- fK hi];rfl
 have fin:dz ((ps.length:Int),C,T,ps,(ps.take ps.length).map (pg C T),())=some (.inr ((ps.length:Int),false,C,T,ps,(ps.take ps.length).map (pg C T),())):=by
  unfold dz;delta bf;dsimp only;rw[oDF (show ¬(ps.length:Int)<ps.length by omega)];rfl
 have:=bZ (f:=dz) (λi=>((i:Int),C,T,ps,(ps.take i).map (pg C T),())) (n:=ps.length) (N:=NN) (by unfold NN;omega) step fin;rw[show bm dz NN (0,C,T,ps,[],())=_ from this,List.take_length];rfl
def yu(C:CC)(T:TT')(D:CC)(U:TT'):Prop:=shp C T/\shp D U/\szs C=szs D/\T.length=U.length
instance {C:CC} {T:TT'} {D:CC} {U:TT'}:Decidable (yu C T D U):=inferInstanceAs (Decidable (_/\_/\_/\_))
def dif(C:CC)(T:TT')(D:CC)(U:TT'):List PID:=(pgs (szs C) T.length).filter λp=>!decide (pg C T p=pg D U p)
theorem ri{α:Type}{q:α->Bool}{l:List α}{i:Nat}(h:i<l.length):(l.take (i+1)).filter q=(l.take i).filter q++bif q l[i]then[l[i]]else[]:=by
 rw[<- nL h,List.filter_append];congr 1
theorem JL{C:CC}{T:TT'}(p:PID):((pg C T p).1,(pg C T p).2.1)=p:=by
 unfold pg;split<;>rfl
theorem I4{C:CC}{T:TT'}(h:shp C T)(hT:SmT T){p:PID}(hp:p∈pgs (szs C) T.length):Sm (pg C T p).2.2.1/\Sm (pg C T p).2.2.2.2.2.2.2.2.2.2:=by
 rcases pE.1 hp with⟨i,j,hi,hj,rfl⟩|⟨t,ht,rfl⟩
 ·rw[fI]at hi;rw[A8 hi];exact⟨by unfold Sm;rw[oLT];omega,by unfold Sm;simp⟩
 ·rw[nX ht];exact⟨by unfold Sm;simp,hT _ (List.getElem_mem ht)⟩
theorem FI{C:CC}{T:TT'}{D:CC}{U:TT'}(h:shp C T):(dif C T D U).length<=20:=Nat.le_trans (List.length_filter_le _ _) (rB (ro h) h.2.1)
theorem yl{C:CC}{T:TT'}{D:CC}{U:TT'}(h:yu C T D U)(hT:SmT T)(hU:SmT U):dL C T D U=some (dif C T D U,0,()):=by
 unfold dL;obtain⟨h1,h2,h3,h4⟩:=h;have k1:=h1.1;have k2:=h2.1
 have hC:Sm C:=by unfold Sm;omega
 have hD:Sm D:=by unfold Sm;omega
 rw[F5 h1 hT,oBS];dsimp only;rw[F5 h2 hU,oBS];dsimp only;simp only[bne_self_eq_false,oCF];rw[rk hC,oBS];dsimp only;rw[rk hD,oBS];dsimp only;rw[IH (by unfold Sm;rw[fI];omega),oBS,oDT h3];delta bf;simp only[oNT,oCF,oBS];rw[n7 h4,oCF,<- h3,<- h4];unfold dif;have hlen:=rB (ro h1) h1.2.1;have hm:∀p∈pgs (szs C) T.length,Sm (pg C T p).2.2.1/\Sm (pg C T p).2.2.2.2.2.2.2.2.2.2:=λp hp=>I4 h1 hT hp;generalize pgs (szs C) T.length=ps at hlen hm⊢;rw[List.length_map]
 have step:∀i,i<ps.length->ca ((ps.length:Int),(i:Int),ps.map (pg C T),ps.map (pg D U),(ps.take i).filter (λp=>!decide (pg C T p=pg D U p)),())=
  some (.inl ((ps.length:Int),((i+1:Nat):Int),ps.map (pg C T),ps.map (pg D U),(ps.take (i+1)).filter (λp=>!decide (pg C T p=pg D U p)),())):=by
  intro i hi
  have UO:i<(ps.map (pg C T)).length:=by rw[List.length_map];exact hi
  have hi2:i<(ps.map (pg D U)).length:=by rw[List.length_map];exact hi
  obtain⟨m1,m2⟩:=hm _ (List.getElem_mem hi);unfold ca;dsimp only;rw[oDT (show(i:Int)<ps.length by omega),oCT,bj];simp only[oBS,bw UO,bw hi2,List.getElem_map];rw[J2 m1 m2];simp only[oBS];rw[ri hi];by_cases e:pg C T ps[i]=pg D U ps[i]
  ·rw[oDT e];simp only[oNT,oCF,oBS,List.append_nil];rw[bz (by omega) (by omega)];rfl
  ·rw[oDF e];simp only[Bool.not_false,oCT,oBS];have hf:=List.length_filter_le (λp=>!decide (pg C T p=pg D U p)) (ps.take i);rw[oLT]at hf;rw[bL (Nat.le_trans hf (by omega)) (by simp) (by omega) (Nat.le_trans (Nat.add_le_add_right hf _) (by rw[List.length_singleton];omega)),oCT,JL];simp only[oBS];rw[bz (by omega) (by omega)];rfl
 have fin:ca ((ps.length:Int),(ps.length:Int),ps.map (pg C T),ps.map (pg D U),(ps.take ps.length).filter (λp=>!decide (pg C T p=pg D U p)),())=
  some (.inr ((ps.length:Int),(ps.length:Int),false,ps.map (pg C T),ps.map (pg D U),(ps.take ps.length).filter (λp=>!decide (pg C T p=pg D U p)),())):=by
  unfold ca;dsimp only;rw[oDF (show ¬(ps.length:Int)<ps.length by omega)];rfl
 have:=bZ (f:=ca) (λi=>((ps.length:Int),(i:Int),ps.map (pg C T),ps.map (pg D U),(ps.take i).filter (λp=>!decide (pg C T p=pg D U p)),())) (n:=ps.length) (N:=NN) (by unfold NN;omega) step fin;rw[show bm ca NN ((ps.length:Int),0,ps.map (pg C T),ps.map (pg D U),[],())=_ from this,List.take_length];rfl
theorem De{C:CC}{T:TT'}{D:CC}{U:TT'}(h:¬yu C T D U)(hC:Sm C)(hD:Sm D)(hT:SmT T)(hU:SmT U):dL C T D U=some ([],1,()):=by
 unfold dL;by_cases h1:shp C T
 rotate_left
 ·rw[F4 h1 hC,oBS];dsimp only;by_cases h2:shp D U
  ·rw[F5 h2 hU];rfl
  ·rw[F4 h2 hD];rfl
 rw[F5 h1 hT,oBS];dsimp only;by_cases h2:shp D U
 rotate_left
 ·rw[F4 h2 hD];rfl
 rw[F5 h2 hU,oBS];dsimp only;simp only[bne_self_eq_false,oCF];rw[rk hC,oBS];dsimp only;rw[rk hD,oBS];dsimp only;rw[IH (by unfold Sm;rw[fI];exact hC),oBS];by_cases h3:szs C=szs D
 rotate_left
 ·rw[oDF h3];rfl
 rw[oDT h3];delta bf;simp only[oNT,oCF,oBS];rw[kz λh4=>h ⟨h1,h2,h3,h4⟩];rfl
theorem ym{C:CC}{T:TT'}{D:CC}{U:TT'}(h:yu C T D U)(hT:SmT T)(hU:SmT U):dK C T D U=some (dif C T D U,0,()):=by
 unfold dK;obtain⟨h1,h2,h3,h4⟩:=h;have k1:=h1.1;have k2:=h2.1
 have hC:Sm C:=by unfold Sm;omega
 have hD:Sm D:=by unfold Sm;omega
 rw[ky hC,oDT h1,oBS];dsimp only;rw[ky hD,oDT h2,oBS];simp only[oNT,oCF];rw[pd hC,oBS];dsimp only;rw[pd hD,oBS];dsimp only;rw[wM (by unfold Sm;rw[fI];omega),oBS,oDT h3];delta bf;simp only[oNT,oCF,oBS];rw[n7 h4,oCF,LD h1 hT,oBS];dsimp only;rw[LD h2 hU,oBS,<- h3,<- h4];dsimp only;unfold dif;have hlen:=rB (ro h1) h1.2.1;have hm:∀p∈pgs (szs C) T.length,Sm (pg C T p).2.2.1/\Sm (pg C T p).2.2.2.2.2.2.2.2.2.2:=λp hp=>I4 h1 hT hp;generalize pgs (szs C) T.length=ps at hlen hm⊢
 have step:∀i,i<ps.length->b8 ((i:Int),ps.map (pg C T),ps.map (pg D U),(ps.take i).filter (λp=>!decide (pg C T p=pg D U p)),())=
  some (.inl (((i+1:Nat):Int),ps.map (pg C T),ps.map (pg D U),(ps.take (i+1)).filter (λp=>!decide (pg C T p=pg D U p)),())):=by
  intro i hi
  have UO:i<(ps.map (pg C T)).length:=by rw[List.length_map];exact hi
  have hi2:i<(ps.map (pg D U)).length:=by rw[List.length_map];exact hi
  obtain⟨m1,m2⟩:=hm _ (List.getElem_mem hi);unfold b8;delta bf;dsimp only;rw[oDT (show(i:Int)<((ps.map (pg C T)).length:Int) by omega),oCT,bj];simp only[oBS,bw UO,bw hi2,List.getElem_map];rw[FE m1 m2];simp only[oBS];rw[ri hi];by_cases e:pg C T ps[i]=pg D U ps[i]
  ·rw[oDT e];simp only[oNT,oCF,oBS,List.append_nil];rw[bz (by omega) (by omega)];rfl
  ·rw[oDF e];simp only[Bool.not_false,oCT,oBS];have hf:=List.length_filter_le (λp=>!decide (pg C T p=pg D U p)) (ps.take i);rw[oLT]at hf;rw[bL (Nat.le_trans hf (by omega)) (by simp) (by omega) (Nat.le_trans (Nat.add_le_add_right hf _) (by rw[List.length_singleton];omega)),oCT,JL];simp only[oBS];rw[bz (by omega) (by omega)];rfl
 have fin:b8 ((ps.length:Int),ps.map (pg C T),ps.map (pg D U),(ps.take ps.length).filter (λp=>!decide (pg C T p=pg D U p)),())=
  some (.inr ((ps.length:Int),false,ps.map (pg C T),ps.map (pg D U),(ps.take ps.length).filter (λp=>!decide (pg C T p=pg D U p)),())):=by
  unfold b8;delta bf;dsimp only;rw[oDF (show ¬(ps.length:Int)<((ps.map (pg C T)).length:Int) by rw[List.length_map];omega)];rfl
 have:=bZ (f:=b8) (λi=>((i:Int),ps.map (pg C T),ps.map (pg D U),(ps.take i).filter (λp=>!decide (pg C T p=pg D U p)),())) (n:=ps.length) (N:=NN) (by unfold NN;omega) step fin;rw[show bm b8 NN (0,ps.map (pg C T),ps.map (pg D U),[],())=_ from this,List.take_length];rfl
theorem Df{C:CC}{T:TT'}{D:CC}{U:TT'}(h:¬yu C T D U)(hC:Sm C)(hD:Sm D):dK C T D U=some ([],1,()):=by
 unfold dK;rw[ky hC,oBS];dsimp only;by_cases h1:shp C T
 rotate_left
 ·rw[oDF h1];rfl
 rw[oDT h1];simp only[oNT,oCF];rw[ky hD,oBS];dsimp only;by_cases h2:shp D U
 rotate_left
 ·rw[oDF h2];rfl
 rw[oDT h2];simp only[oNT,oCF];rw[pd hC,oBS];dsimp only;rw[pd hD,oBS];dsimp only;rw[wM (by unfold Sm;rw[fI];exact hC),oBS];by_cases h3:szs C=szs D
 rotate_left
 ·rw[oDF h3];rfl
 rw[oDT h3];delta bf;simp only[oNT,oCF,oBS];rw[kz λh4=>h ⟨h1,h2,h3,h4⟩];rfl
theorem BA{v:DTs}(h:Sm v.2.2.2.2.2.2.2):dy v.1 v.2.1 v.2.2.1 v.2.2.2.1 v.2.2.2.2.1 v.2.2.2.2.2.1 v.2.2.2.2.2.2.1 v.2.2.2.2.2.2.2=some (v.1,v.2.1,v.2.2.1,v.2.2.2.1,v.2.2.2.2.1,v.2.2.2.2.2.1,v.2.2.2.2.2.2.1,v.2.2.2.2.2.2.2,()):=by
 unfold dy;rw[bL (by omega) h (by omega) (by have:=h;omega),oCT];rfl
theorem BZ{T:TT'}{i:Nat}{v:DTs}(h:SmT T)(hv:Sm v.2.2.2.2.2.2.2):SmT (T.modify i λ_=>v):=by
 intro t ht;obtain⟨j,hj⟩:=List.mem_iff_getElem?.1 ht;rw[List.getElem?_modify]at hj
 cases e:T[j]? with
 |none=>rw[e]at hj;simp at hj
 |some u=>
  rw[e]at hj;have hj:some (if i=j then v else u)=some t:=hj
  injection hj with hj
  split at hj
  ·rw[<- hj];exact hv
  ·rw[<- hj];exact h _ (List.mem_of_getElem? e)
theorem zh{C:CC}{T:TT'}{D:CC}{U:TT'}{p:PID}:p∈dif C T D U↔p∈pgs (szs C) T.length/\pg C T p≠pg D U p:=by
 unfold dif;simp
theorem BW{c x:List DCn}{a:Nat}(h:a+x.length<=c.length):(lC c a x.length x).length=c.length:=by
 unfold lC;rw[List.take_length,List.length_append,List.length_append,oLT,List.length_drop,Nat.min_eq_left (by omega)];omega
theorem Ee{α:Type}{l:List α}{i:Nat}{x:α}:l.set i x=l.modify i λ_=>x:=by
 apply List.ext_getElem?;intro k;rw[List.getElem?_set,List.getElem?_modify];by_cases e:i=k
 ·subst e;by_cases h:i<l.length
  ·simp[h]
  ·simp[h]
 ·simp[e]
theorem IA{c:List DCn}{j:Nat}(hc:c.length<=32)(h:8*j<c.length):dU c (j:Int)=some ((c.drop (8*j)).take 8,()):=by
 unfold dU;delta bf;dsimp only;rw[oDF (show ¬(j:Int)<0 by omega),oCF,oDF (show ¬(j:Int)>32 by omega),oCF];simp only[oBS];rw[bz (x:=(j:Int)*8) (by omega) (by omega),oDF (show ¬(j:Int)*8>=(c.length:Int) by omega),oCF,bz (x:=(j:Int)*8+8) (by omega) (by omega)];rw[show(j:Int)*8=((8*j:Nat):Int) by omega,show((8*j:Nat):Int)+8=((8*j+8:Nat):Int) by omega,zf,bj,bj];simp only[oBS]
 have ho:gq (8*j) (Nat.min (8*j+8) c.length) c.length=true:=by
  unfold gq;have h1:Nat.min (8*j+8) c.length=min (8*j+8) c.length:=rfl;rw[h1];simp only[oBA,oDE];omega
 rw[ho,oCT,Du (by omega)]
theorem Ln{C:CC}{T:TT'}(h:shp C T){p:PID}(hp:p∈pgs (szs C) T.length):eO C T p.1 p.2=some (0,()):=by
 have h4:=h.1;unfold eO;rw[qL (show Sm C by unfold Sm;omega),oBS];dsimp only;rw[oDT h,oNT,oCF]
 have ht:eW C T p.1 p.2=some (true,()):=by
  unfold eW
  rcases pE.1 hp with⟨i,j,hi,hj,rfl⟩|⟨t,ht,rfl⟩
  ·rw[fI]at hi;rw[qH hi]at hj;have ZT:=E8 hj;have hok:=of_decide_eq_true (h.2.2 _ (List.getElem_mem hi));delta bf;dsimp only;rw[oBF (show((i:Int))≠-1 by omega),oCF,oDT (show(i:Int)>=0 by omega),oCT,oDT (show(i:Int)<(C.length:Int) by omega),oCT,bj];simp only[oBS,bw hi];rw[IA (by omega) ZT,oBS];dsimp only;rw[oDT];simp only[oLT,List.length_drop];omega
  ·delta bf;dsimp only;rw[show((-1:Int)==-1)=true from rfl,oCT,oDT (show(t:Int)>=0 by omega),oCT,oDT (show(t:Int)<(T.length:Int) by omega)]
 rw[ht];rfl
theorem Hw(C:CC)(T:TT')(a b:Int):fV C T a b=eO C T a b:=by kernel_rfl
theorem Iu{f t:Int}(h1:0<=f)(h2:t<=200)(h3:f<=t):eP f t=some (0,()):=by
 unfold eP;rw[oDF (show ¬f<0 by omega),oCF,oDF (show ¬t>200 by omega),oCF,oDF (show ¬f>t by omega)];rfl
theorem IF(x:PID):gX x.1 x.2=some (mH x.1,()):=by
 unfold gX mH;by_cases h:x.1=-1
 ·rw[h];rfl
 ·rw[oBF h,oIN h];rfl
theorem Md(x y:Int):bJ x y=some (uy x y,()):=by
 unfold bJ dt uy;simp only[bne_self_eq_false,oBS,oCF];by_cases h:x<y
 ·simp[h]
 ·by_cases h2:y<x
  ·simp[h,h2]
  ·simp[h,h2]
theorem Ms(x y z:Int):f9 [x,y,z]=some (orI x y z,()):=by
 unfold f9;delta bf;dsimp only
 have h2:=jY (f:=cG) (st:=λi=>((0:Int),[x,y,z],(3:Int),(i:Int),())) (p:=λi=>[x,y,z].getD i 0=0) (n:=3) (N:=NN) (bad:=λi=>.inl ([x,y,z].getD i 0,())) (fin:=.inr (0,[x,y,z],3,3,false,())) (lh (by omega)) (λi hi=>by
  unfold cG;dsimp only;rw[oDT (show(i:Int)<3 by omega),oCT,bj];simp only[oBS];have hl:i < [x,y,z].length:=hi;rw[bw hl,oBS]
  have e:[x,y,z].getD i 0=[x,y,z][i]:=by rw[oGD,oGE hl];rfl
  rw[e];generalize[x,y,z][i]=v;by_cases h:v=0
  ·subst h;refine .inl ⟨rfl,?_⟩;rw[bne_self_eq_false,oCF,bz (by omega) (by omega)];rfl
  ·refine .inr ⟨h,?_⟩
   rw[bne_iff_ne.2 h,oCT]) (by
  unfold cG
  rfl)
 rcases h2 with⟨h1,h2⟩|⟨k,hk,h1,h3,h2⟩
 ·rw[show bm cG NN (0,[x,y,z],([x,y,z].length:Int),0,())=_ from h2];have a:=h1 0 (by omega);have b:=h1 1 (by omega);have c:=h1 2 (by omega);simp at a b c;subst a b c;rfl
 ·rw[show bm cG NN (0,[x,y,z],([x,y,z].length:Int),0,())=_ from h2];dsimp only
  match k,hk with
  |0,_=>simp at h3;simp[orI,h3]
  |1,_=>have a:=h1 0 (by omega);simp at a h3;simp[orI,h3,a]
  |2,_=>have a:=h1 0 (by omega);have b:=h1 1 (by omega);simp at a b h3;simp[orI,a,b]
theorem EX(x y:PID):iC x.1 x.2 y.1 y.2=some (Bb x y,()):=by
 unfold iC;rw[IF,IF];simp only[oBS,Md,Ms];rfl
def MF(l:List PG):Prop:=∀i (h:i+1<l.length),cH (l[i].1,l[i].2.1) (l[i+1].1,l[i+1].2.1)=true
theorem J4{f t:Int}{l:List PG}(h1:0<=f)(h2:t<=200)(h3:f<=t)(hl:Sm l)(ha:MF l):cx f t l=some (0,()):=by
 unfold cx;rw[Iu h1 h2 h3,oBS];dsimp only;rw[bne_self_eq_false,oCF]
 have h:=bZ (f:=bW) (st:=λi=>(((i+1:Nat):Int),f,t,l,())) (n:=l.length-1) (N:=NN) (fin:=.inr ((((l.length-1)+1:Nat):Int),false,f,t,l,())) (lh (by omega)) (λi hi=>by
  unfold bW;delta bf;dsimp only;rw[oDT (show((i+1:Nat):Int)<(l.length:Int) by omega),oCT,bz (x:=((i+1:Nat):Int)-1) (by omega) (by omega),show((i+1:Nat):Int)-1=(i:Int) by omega,bj,bj];simp only[oBS];rw[bw (show i<l.length by omega),bw (show i+1<l.length by omega)];simp only[oBS];have e:=EX (l[i].1,l[i].2.1) (l[i+1].1,l[i+1].2.1);rw[e,oBS]
  have ho:Bb (l[i].1,l[i].2.1) (l[i+1].1,l[i+1].2.1)<0:=by
   have:=ha i (by omega);rw[<- kB]at this;exact of_decide_eq_true this
  dsimp only;rw[oDF (by omega),oCF,bz (by omega) (by omega)]
  rfl) (by
  unfold bW;delta bf;dsimp only
  rw[oDF (by omega),oCF])
 rw[show bm bW NN (1,f,t,l,())=_ from h]
theorem L9{C:CC}{T:TT'}(h:shp C T)(hT:SmT T){p:PID}(hp:p∈pgs (szs C) T.length):kv C T p.1 p.2=some ((pg C T p).1,(pg C T p).2.1,(pg C T p).2.2.1,(pg C T p).2.2.2.1,(pg C T p).2.2.2.2.1,(pg C T p).2.2.2.2.2.1,(pg C T p).2.2.2.2.2.2.1,(pg C T p).2.2.2.2.2.2.2.1,(pg C T p).2.2.2.2.2.2.2.2.1,(pg C T p).2.2.2.2.2.2.2.2.2.1,(pg C T p).2.2.2.2.2.2.2.2.2.2,0,()):=by
 unfold kv;rw[Ln h hp,oBS];dsimp only;rw[bne_self_eq_false,oCF,Li h hT hp];rfl
theorem K5{C:CC}{T:TT'}{D:CC}{U:TT'}(h:yu C T D U)(hT:SmT T)(hU:SmT U){f t:Int}(h1:0<=f)(h2:t<=200)(h3:f<=t):dV C T D U f t=some (f,t,(dif C T D U).map (pg D U),0,()):=by
 have hlen:=FI (D:=D) (U:=U) h.1;unfold dV;rw[yl h hT hU,oBS];dsimp only;rw[bne_self_eq_false,oCF,Iu h1 h2 h3,oBS];delta bf;dsimp only;rw[bne_self_eq_false,oCF];obtain⟨l,hl⟩:∃l,l=dif C T D U:=⟨_,rfl⟩
 have ZB:∀p∈l,p∈pgs (szs D) U.length:=λp hp=>by
  rw[hl]at hp;rw[<- h.2.2.1,<- h.2.2.2];exact(zh.1 hp).1
 rw[<- hl]at hlen⊢
 have VO:=bZ (f:=eQ) (st:=λi=>((l.length:Int),(i:Int),D,U,(0:Int),(0:Int),(),l,f,t,(l.take i).map (pg D U),())) (n:=l.length) (N:=NN) (fin:=.inr ((l.length:Int),(l.length:Int),false,D,U,(0:Int),(0:Int),(),l,f,t,(l.take l.length).map (pg D U),())) (lh (by omega)) (λi hi=>by
  unfold eQ;dsimp only;rw[oDT (show(i:Int)<(l.length:Int) by omega),oCT,bj];simp only[oBS];rw[bw hi];simp only[oBS];rw[L9 h.2.1 hU (ZB _ (List.getElem_mem hi)),oBS];dsimp only;rw[bne_self_eq_false,oCF,bL (by rw[List.length_map,oLT];omega) (by simp) (by omega) (by rw[List.length_map,oLT];simp;omega),oCT,bz (by omega) (by omega)];rw[<- fK hi]
  rfl) (by
  unfold eQ;dsimp only
  rw[oDF (by omega),oCF])
 rw[show bm eQ NN ((l.length:Int),0,D,U,0,0,(),l,f,t,[],())=_ from VO];dsimp only;rw[List.take_length]
theorem rD{α:Type}{l:List α}{i:Nat}(h:i<l.length){f:α->α}(hf:f l[i]=l[i]):l.modify i f=l:=by
 apply List.ext_getElem?;intro k;rw[List.getElem?_modify];by_cases e:i=k
 ·subst e;rw[oGE h];simp[hf]
 ·simp[e]
theorem Fw(l:List PID):∀a:List PID,(l.foldl tp a).length<=a.length+l.length:=by
 induction l with
 |nil=>intro a;simp
 |cons x r ih=>
  intro a;rw[List.foldl_cons,oLC];have h1:=ih (tp a x);have h2:=zu x a;omega
theorem KY{D:CC}{U:TT'}(p:PID):bY (pg D U p)=p:=JL p
theorem yj(f t:Int)(l:List PG):eo f t l=cx f t l:=by kernel_rfl
def StK(C:CC)(T:TT'):Prop:=Sm C/\(∀c∈C,Sm c)/\Sm T/\SmT T
def PgK(p:PG):Prop:=Sm p.2.2.1/\Sm p.2.2.2.2.2.2.2.2.2.2
theorem Lx{C:CC}{T:TT'}(h:StK C T):gM C T=some (C,T,()):=by
 have h1:C.length<=1099511627776:=h.1;have h2:T.length<=1099511627776:=h.2.2.1;have hT:=h.2.2.2;unfold gM
 have e1:dm C=some (C,()):=by
  unfold dm;rw[bL (by omega) (by omega) (by omega) (by omega),oCT];rfl
 have e2:dX T=some (T,()):=by
  unfold dX;rw[bL (by omega) (by omega) (by omega) (by omega),oCT];rfl
 rw[e1,oBS];dsimp only;rw[e2,oBS];delta bf;dsimp only
 have l0:=bZ (f:=dN) (st:=λi=>((C.length:Int),(i:Int),C,T,(),(),())) (n:=C.length) (N:=NN) (fin:=((C.length:Int),(C.length:Int),false,C,T,(),(),())) (lh (by omega)) (λi hi=>by
  unfold dN;dsimp only;have hok:=h.2.1 _ (List.getElem_mem hi);rw[oDT (show(i:Int)<(C.length:Int) by omega),oCT,bj];simp only[oBS];rw[bw hi];simp only[oBS];rw[wh hok,oBS];dsimp only;rw[rD hi rfl,bz (by omega) (by omega)]
  rfl) (by
  unfold dN;dsimp only
  rw[oDF (by omega),oCF])
 rw[show bm dN NN ((C.length:Int),0,C,T,(),(),())=_ from l0,oBS];dsimp only
 have l1:=bZ (f:=dM) (st:=λi=>((T.length:Int),(i:Int),C,T,(),(),())) (n:=T.length) (N:=NN) (fin:=((T.length:Int),(T.length:Int),false,C,T,(),(),())) (lh (by omega)) (λi hi=>by
  unfold dM;dsimp only;rw[oDT (show(i:Int)<(T.length:Int) by omega),oCT,bj];simp only[oBS];rw[bw hi];simp only[oBS];unfold f8;rw[wh (hT _ (List.getElem_mem hi))];simp only[oBS];rw[rD hi rfl,bz (by omega) (by omega)]
  rfl) (by
  unfold dM;dsimp only
  rw[oDF (by omega),oCF])
 rw[show bm dM NN ((T.length:Int),0,C,T,(),(),())=_ from l1];rfl
theorem zW{C:CC}{T:TT'}(h:StK C T):fM C T=some (C,T,()):=by
 unfold fM;have h4:C.length<=1099511627776:=h.1;have hT:=h.2.2.2
 have step:∀i,i<C.length->de ((i:Int),C,T,(),(),C.take i,(),())=some (.inl (((i+1:Nat):Int),C,T,(),(),C.take (i+1),(),())):=by
  intro i hi;have hok:C[i].length<=1099511627776:=h.2.1 _ (List.getElem_mem hi);unfold de;delta bf;dsimp only;rw[oDT (show(i:Int)<C.length by omega),oCT,bj];simp only[oBS,bw hi];rw[bL (by omega) (by omega) (by omega) (by omega),oCT,bL (by rw[oLT];omega) (by simp) (by omega) (by rw[oLT,List.length_singleton];omega),oCT,bz (by omega) (by omega),<- nL hi];rfl
 have fin:de ((C.length:Int),C,T,(),(),C.take C.length,(),())=some (.inr ((C.length:Int),false,C,T,(),(),C.take C.length,(),())):=by
  unfold de;delta bf;dsimp only;rw[oDF (show ¬(C.length:Int)<C.length by omega)];rfl
 have:=bZ (f:=de) (λi=>((i:Int),C,T,(),(),C.take i,(),())) (n:=C.length) (N:=NN) (by unfold NN;omega) step fin;rw[show bm de NN (0,C,T,(),(),[],(),())=_ from this,List.take_length,oBS];dsimp only;have t4:T.length<=1099511627776:=h.2.2.1
 have SB:∀i,i<T.length->dc ((i:Int),C,T,(),(),C,T.take i,())=some (.inl (((i+1:Nat):Int),C,T,(),(),C,T.take (i+1),())):=by
  intro i hi;unfold dc;delta bf;dsimp only;rw[oDT (show(i:Int)<T.length by omega),oCT,bj];simp only[oBS,bw hi,BA (hT _ (List.getElem_mem hi))];rw[bL (by rw[oLT];omega) (by simp) (by omega) (by rw[oLT,List.length_singleton];omega),oCT,bz (by omega) (by omega),<- nL hi];rfl
 have OD:dc ((T.length:Int),C,T,(),(),C,T.take T.length,())=some (.inr ((T.length:Int),false,C,T,(),(),C,T.take T.length,())):=by
  unfold dc;delta bf;dsimp only;rw[oDF (show ¬(T.length:Int)<T.length by omega)];rfl
 have:=bZ (f:=dc) (λi=>((i:Int),C,T,(),(),C,T.take i,())) (n:=T.length) (N:=NN) (by unfold NN;omega) SB OD;rw[show bm dc NN (0,C,T,(),(),C,[],())=_ from this,List.take_length];rfl
theorem Jz{C:CC}{T:TT'}{D:CC}{U:TT'}(h:StK C T):gW C T D U=some (decide (C=D/\T=U),()):=by
 unfold gW;delta bf;dsimp only;by_cases hl:C.length=D.length
 rotate_left
 ·rw[kz hl,oCT,oDF (p:=C=D/\T=U) λe=>hl (by rw[e.1])]
 rw[n7 hl,oCF];by_cases hm:T.length=U.length
 rotate_left
 ·rw[kz hm,oCT,oDF (p:=C=D/\T=U) λe=>hm (by rw[e.2])]
 rw[n7 hm,oCF];have c4:C.length<=1099511627776:=h.1;have t4:T.length<=1099511627776:=h.2.2.1;have hT:=h.2.2.2
 have q1:=jX (f:=eN) hl (by unfold Sm;omega) (λi=>((i:Int),C,T,D,U,())) (bad:=.inl (false,())) (fin:=.inr ((C.length:Int),false,C,T,D,U,()))
  (λi h1 h2=>by
   have hok:C[i].length<=1099511627776:=h.2.1 _ (List.getElem_mem h1);unfold eN;delta bf;dsimp only;rw[oDT (show(i:Int)<C.length by omega),oCT,bj];simp only[oBS,bw h1,bw h2];rw[pj (by unfold Sm;omega)];simp only[oBS,mA];rw[bz (by omega) (by omega)]
   rfl)
  (by
   unfold eN;delta bf;dsimp only;rw[oDF (show ¬(C.length:Int)<C.length by omega)]
   rfl)
 have q2:=jX (f:=eM) hm (by unfold Sm;omega) (λi=>((i:Int),C,T,D,U,())) (bad:=.inl (false,())) (fin:=.inr ((T.length:Int),false,C,T,D,U,()))
  (λi h1 h2=>by
   unfold eM;delta bf;dsimp only;rw[oDT (show(i:Int)<T.length by omega),oCT,bj];simp only[oBS,bw h1,bw h2];rw[wK (hT _ (List.getElem_mem h1))];simp only[oBS,mA];rw[bz (by omega) (by omega)]
   rfl)
  (by
   unfold eM;delta bf;dsimp only;rw[oDF (show ¬(T.length:Int)<T.length by omega)]
   rfl)
 rw[show bm eN NN (0,C,T,D,U,())=_ from q1];by_cases e1:C=D
 rotate_left
 ·rw[oDF e1,oDF (p:=C=D/\T=U) λe=>e1 e.1];rfl
 rw[oDT e1];dsimp only[oCT];rw[show bm eM NN (0,C,T,D,U,())=_ from q2];by_cases e2:T=U
 ·rw[oDT e2,oDT (p:=C=D/\T=U) ⟨e1,e2⟩];rfl
 ·rw[oDF e2,oDF (p:=C=D/\T=U) λe=>e2 e.2];rfl
theorem K2{c:List DCn}(hc:c.length<=32)(b:Int):dU c b=some (if 0<=b/\b<=32/\8*b.toNat<c.length then(c.drop (8*b.toNat)).take 8 else[],()):=by
 by_cases h:0<=b/\b<=32/\8*b.toNat<c.length
 ·rw[oIP h];obtain⟨j,rfl⟩:∃j:Nat,b=j:=⟨b.toNat,by omega⟩;exact IA hc h.2.2
 ·rw[oIN h];unfold dU;delta bf;dsimp only;by_cases h0:b<0
  ·rw[oDT h0];rfl
  rw[oDF h0,oCF];by_cases h1:b>32
  ·rw[oDT h1];rfl
  rw[oDF h1,oCF,bz (x:=b*8) (by omega) (by omega),oBS];rw[oDT (show b*8>=(c.length:Int) by omega)];rfl
def Th(C:CC)(T:TT')(a b:Int):Prop:=(a=-1/\0<=b/\b.toNat<T.length)\/(a≠-1/\0<=a/\a.toNat<C.length/\0<=b/\b<=32/\8*b.toNat<(C.getD a.toNat []).length)
instance {C:CC} {T:TT'} {a b:Int}:Decidable (Th C T a b):=inferInstanceAs (Decidable (_\/_))
theorem rX{C:CC}{i:Nat}(h:i<C.length):C.getD i []=C[i]:=by simp[oGD,h]
theorem IY{C:CC}{T:TT'}(hs:shp C T)(a b:Int):eW C T a b=some (decide (Th C T a b),()):=by
 unfold eW;delta bf;dsimp only;by_cases ha:a=-1
 ·subst ha;rw[show((-1:Int)==-1)=true from rfl,oCT];by_cases hb:b>=0
  ·rw[oDT hb,oCT];congr 2;rw[decide_eq_decide];unfold Th;omega
  ·rw[oDF hb,oCF,oDF (p:=Th C T (-1) b)];unfold Th;omega
 ·rw[oBF ha,oCF];by_cases h1:a>=0
  rotate_left
  ·rw[oDF h1,oCF,oDF (p:=Th C T a b)];unfold Th;omega
  rw[oDT h1,oCT];by_cases h2:a<C.length
  rotate_left
  ·rw[oDF h2,oCF,oDF (p:=Th C T a b)];unfold Th;omega
  obtain⟨i,rfl⟩:∃i:Nat,a=i:=⟨a.toNat,by omega⟩
  have hi:i<C.length:=by omega
  rw[oDT h2,oCT,bj];simp only[oBS,bw hi];have hok:=of_decide_eq_true (hs.2.2 _ (List.getElem_mem hi));rw[K2 (by omega),oBS];dsimp only;congr 2;rw[decide_eq_decide];unfold Th;rw[oTN,rX hi];by_cases h:0<=b/\b<=32/\8*b.toNat<C[i].length
  ·rw[oIP h];simp only[oLT,List.length_drop];omega
  ·rw[oIN h];simp only[List.length_nil];omega
theorem KN{C:CC}{T:TT'}(hs:shp C T){a b:Int}(h:Th C T a b):((a,b):PID)∈pgs (szs C) T.length:=by
 rcases h with⟨rfl,h1,h2⟩|⟨h0,h1,h2,h3,h4,h5⟩
 ·exact pE.2 (.inr ⟨b.toNat,h2,by rw[Int.toNat_of_nonneg h1]⟩)
 ·rw[rX h2]at h5;refine pE.2 (.inl ⟨a.toNat,b.toNat,by rw[fI];exact h2,?_,by rw[Int.toNat_of_nonneg h1,Int.toNat_of_nonneg h3]⟩);rw[qH h2];have hok:=of_decide_eq_true (hs.2.2 _ (List.getElem_mem h2));exact(w8 hok _).1 (by omega)
theorem Lo{C:CC}{T:TT'}(hC:Sm C)(a b:Int):eO C T a b=some (if shp C T then(if Th C T a b then 0 else 30)else 1,()):=by
 unfold eO;rw[qL hC,oBS];dsimp only;by_cases hs:shp C T
 rotate_left
 ·rw[oDF hs,oIN hs];rfl
 rw[oDT hs,oIP hs];simp only[oNT,oCF];rw[IY hs,oBS];dsimp only;by_cases h:Th C T a b
 ·rw[oDT h,oIP h];rfl
 ·rw[oDF h,oIN h];rfl
def Cd(C:CC)(T:TT')(a b:Int)(x:List DCn)(v:DTs):CC×TT'×Int:=
 if shp C T then
  if Th C T a b then
   if a=-1 then(if x.length=0 then(C,T.modify b.toNat λ_=>v,0)else([],[],5))
   else if x.length=min 8 ((C.getD a.toNat []).length-8*b.toNat)/\v=zTs then(C.modify a.toNat λ_=>lC (C.getD a.toNat []) (8*b.toNat) x.length x,T,0)else([],[],5)
  else([],[],30)
 else([],[],1)
theorem GK{C:CC}{T:TT'}(h:StK C T){x L:List DCn}(hx:Sm x)(hL:Sm L):Em C T x L=true:=by
 simp only[Em,oBA,oDE,List.all_eq_true];exact⟨⟨⟨⟨⟨h.1,h.2.1⟩,h.2.2.1⟩,h.2.2.2⟩,hx⟩,hL⟩
theorem FH(v:DTs):dx v.1 v.2.1 v.2.2.1 v.2.2.2.1 v.2.2.2.2.1 v.2.2.2.2.2.1 v.2.2.2.2.2.2.1 v.2.2.2.2.2.2.2=some (decide (v=zTs),()):=by
 obtain⟨v0,v1,v2,v3,v4,v5,v6,L⟩:=v;unfold dx;delta bf;dsimp only
 have e:decide ((v0,v1,v2,v3,v4,v5,v6,L)=zTs)=(v0==0&&(v1==0&&(v2==0&&(v3==0&&(v4==0&&(v5==0&&(v6==0&&((L.length:Int)==0)))))))):=by
  rw[Bool.eq_iff_iff];simp[zTs,Prod.ext_iff]
 rw[e];cases v0==0
 ·rfl
 cases v1==0
 ·rfl
 cases v2==0
 ·rfl
 cases v3==0
 ·rfl
 cases v4==0
 ·rfl
 cases v5==0
 ·rfl
 cases v6==0<;>rfl
theorem KG(v:DTs):jh v.1 v.2.1 v.2.2.1 v.2.2.2.1 v.2.2.2.2.1 v.2.2.2.2.2.1 v.2.2.2.2.2.2.1 v.2.2.2.2.2.2.2=some (decide (v=zTs),()):=(show jh v.1 v.2.1 v.2.2.1 v.2.2.2.1 v.2.2.2.2.1 v.2.2.2.2.2.1 v.2.2.2.2.2.2.1 v.2.2.2.2.2.2.2=dx v.1 v.2.1 v.2.2.1 v.2.2.2.1 v.2.2.2.2.1 v.2.2.2.2.2.1 v.2.2.2.2.2.2.1 v.2.2.2.2.2.2.2 by kernel_rfl).trans (FH v)
theorem KU{C:CC}{T:TT'}(h:StK C T){x:List DCn}(hx:Sm x){v:DTs}(hv:Sm v.2.2.2.2.2.2.2)(a b:Int):
 cN C T a b x v.1 v.2.1 v.2.2.1 v.2.2.2.1 v.2.2.2.2.1 v.2.2.2.2.2.1 v.2.2.2.2.2.2.1 v.2.2.2.2.2.2.2=some ((Cd C T a b x v).1,(Cd C T a b x v).2.1,(Cd C T a b x v).2.2,()):=by
 unfold cN Cd;rw[oIP (GK h hx hv),Hw,Lo h.1 a b,oBS];dsimp only;by_cases hs:shp C T
 rotate_left
 ·rw[oIN hs,oIN hs,oIP (by decide)]
 rw[oIP hs,oIP hs];by_cases ht:Th C T a b
 rotate_left
 ·rw[oIN ht,oIN ht,oIP (by decide)]
 rw[oIP ht,oIP ht,oIN (by decide)];by_cases ha:a=-1
 ·rw[oIP ha,oIP ha]
  have h2:0<=b/\b.toNat<T.length:=by
   unfold Th at ht;omega
  by_cases hl:x.length=0
  ·rw[oIN (by omega),oIP hl,oIP h2,Ee]
  ·rw[oIP (by omega),oIN hl]
 ·rw[oIN ha,oIN ha]
  have h2:0<=a/\a.toNat<C.length/\0<=b/\b<=32/\8*b.toNat<(C.getD a.toNat []).length:=by
   unfold Th at ht;omega
  rw[oIP h2,FH,oBS];dsimp only;by_cases hl:x.length=min 8 ((C.getD a.toNat []).length-8*b.toNat)/\v=zTs
  ·rw[oIP hl,oIN (λg=>g.elim (λg=>g hl.1) λg=>of_decide_eq_false g hl.2),Ee]
   have ZP:jl (C.getD a.toNat []) b.toNat x=lC (C.getD a.toNat []) (8*b.toNat) x.length x:=by
    unfold jl lC;rw[List.take_length]
   rw[ZP]
  ·rw[oIN hl,oIP (by
    by_cases g:x.length=min 8 ((C.getD a.toNat []).length-8*b.toNat)
    ·exact .inr (oDF λe=>hl ⟨g,e⟩)
    ·exact .inl g)]
theorem Lj{C:CC}{T:TT'}(h:StK C T)(a b:Int):d7 C T a b=some (if shp C T/\Th C T a b then((pg C T (a,b)).1,(pg C T (a,b)).2.1,(pg C T (a,b)).2.2.1,(pg C T (a,b)).2.2.2.1,(pg C T (a,b)).2.2.2.2.1,(pg C T (a,b)).2.2.2.2.2.1,(pg C T (a,b)).2.2.2.2.2.2.1,(pg C T (a,b)).2.2.2.2.2.2.2.1,(pg C T (a,b)).2.2.2.2.2.2.2.2.1,(pg C T (a,b)).2.2.2.2.2.2.2.2.2.1,(pg C T (a,b)).2.2.2.2.2.2.2.2.2.2,0,())else(0,0,[],0,0,0,0,0,0,0,[],if shp C T then 30 else 1,())):=by
 by_cases hs:shp C T
 rotate_left
 ·rw[oIN (λg=>hs g.1),oIN hs];unfold d7;rw[ky h.1,oDF hs];rfl
 by_cases ht:Th C T a b
 ·rw[oIP ⟨hs,ht⟩];exact JZ hs h.2.2.2 (KN hs ht)
 rw[oIN (λg=>ht g.2),oIP hs];unfold d7;rw[ky h.1,oDT hs,oBS];delta bf;dsimp only;simp only[oNT,oCF];by_cases ha:a=-1
 ·rw[beq_iff_eq.2 ha,oCT];by_cases hb:b<0
  ·rw[oDT hb,oCT]
  rw[oDF hb,oCF,oDT (show b>=(T.length:Int) by unfold Th at ht;omega),oCT]
 rw[oBF ha,oCF];by_cases h1:a<0
 ·rw[oDT h1];rfl
 rw[oDF h1,oCF];by_cases h2:a>=(C.length:Int)
 ·rw[oDT h2];rfl
 rw[oDF h2,oCF];by_cases h3:b<0
 ·rw[oDT h3];rfl
 rw[oDF h3,oCF];by_cases h4:b>32
 ·rw[oDT h4];rfl
 rw[oDF h4,oCF];obtain⟨i,rfl⟩:∃i:Nat,a=i:=⟨a.toNat,by omega⟩
 have hi:i<C.length:=by omega
 rw[bj];simp only[oBS,bw hi]
 have h5:b*8>=(C[i].length:Int):=by
  unfold Th at ht;rw[oTN,rX hi]at ht;omega
 rw[bz (x:=b*8) (by omega) (by omega),oDT h5];rfl
theorem KT{C:CC}{T:TT'}(h:StK C T){x:List DCn}(hx:Sm x){v:DTs}(hv:Sm v.2.2.2.2.2.2.2)(a b:Int):
 ku C T a b x v.1 v.2.1 v.2.2.1 v.2.2.2.1 v.2.2.2.2.1 v.2.2.2.2.2.1 v.2.2.2.2.2.2.1 v.2.2.2.2.2.2.2=some ((Cd C T a b x v).1,(Cd C T a b x v).2.1,(Cd C T a b x v).2.2,()):=by
 unfold ku Cd;rw[Lj h,oBS];by_cases hs:shp C T
 rotate_left
 ·rw[oIN (λg=>hs g.1),oIN hs,oIN hs];rfl
 simp only[oIP hs];by_cases ht:Th C T a b
 rotate_left
 ·rw[oIN (λg=>ht g.2),oIN ht];rfl
 rw[oIP ⟨hs,ht⟩,oIP ht];delta bf;dsimp only;rw[bne_self_eq_false,oCF];by_cases ha:a=-1
 ·subst ha
  have h2:0<=b/\b.toNat<T.length:=by
   unfold Th at ht;omega
  obtain⟨t,rfl⟩:∃t:Nat,b=t:=⟨b.toNat,by omega⟩
  have U3:t<T.length:=by omega
  rw[nX U3,oIP rfl];dsimp only;by_cases hl:x.length=0
  rotate_left
  ·rw[kz (b:=([]:List DCn)) (by simpa using hl),oIN hl];rfl
  rw[n7 (b:=([]:List DCn)) (by simpa using hl),oIP hl,oCF,show((-1:Int) != -1)=false from rfl,oCF,oBS];dsimp only;rw[oCF,zW h,oBS];dsimp only;rw[show((-1:Int)==-1)=true from rfl,oCT,BA hv,oBS];dsimp only;rw[bj];simp only[oBS,bw U3];rfl
 rw[oIN ha]
 have h2:0<=a/\a.toNat<C.length/\0<=b/\b<=32/\8*b.toNat<(C.getD a.toNat []).length:=by
  unfold Th at ht;omega
 obtain⟨i,rfl⟩:∃i:Nat,a=i:=⟨a.toNat,by omega⟩;obtain⟨j,rfl⟩:∃j:Nat,b=j:=⟨b.toNat,by omega⟩;simp only[oTN]at h2⊢;have hi:=h2.2.1;rw[rX hi]at h2⊢;have hj:=h2.2.2.2.2;have hok:=of_decide_eq_true (hs.2.2 _ (List.getElem_mem hi));rw[A8 hi];dsimp only
 have Up:((C[i].drop (8*j)).take 8).length=min 8 (C[i].length-8*j):=by rw[oLT,List.length_drop]
 rw[Up];by_cases hl:x.length=min 8 (C[i].length-8*j)
 rotate_left
 ·rw[oIN (λg=>hl g.1),show((x.length:Int) != ((min 8 (C[i].length-8*j):Nat):Int))=true by simp;omega,oCT];rfl
 rw[show((x.length:Int) != ((min 8 (C[i].length-8*j):Nat):Int))=false by simp;omega,oCF,bne_iff_ne.2 (show(i:Int)≠-1 by omega),oCT,KG];by_cases hz:v=zTs
 rotate_left
 ·rw[oIN (λg=>hz g.2),oDF hz];rfl
 rw[oIP ⟨hl,hz⟩,oDT hz];simp only[oBS,oNT,oCF];rw[zW h,oBS];dsimp only;rw[oBF (show(i:Int)≠-1 by omega),oCF,bj];simp only[oBS,bw hi];rw[bz (by omega) (by omega),show(j:Int)*8=((8*j:Nat):Int) by omega,bj];simp only[oBS]
 have Pw:Nat.min x.length (Nat.sub C[i].length (8*j))=x.length:=by
  show min x.length (C[i].length-8*j)=x.length;omega
 have Zd:gq (8*j) C[i].length C[i].length=true:=by unfold gq;simp;omega
 have Y2:gq (8*j) (Nat.add (8*j) x.length) C[i].length=true:=by
  show gq (8*j) (8*j+x.length) C[i].length=true;unfold gq;simp;omega
 have hb:Nat.blt 0 x.length=true:=by rw[Nat.blt_eq];omega
 rw[Zd,oCT,Pw,Y2,oCT,hb,oCT];rfl
theorem Jv{C:CC}{T:TT'}(h:StK C T){x:List DCn}{v:DTs}(hv:Sm v.2.2.2.2.2.2.2){a b:Int}(he:(Cd C T a b x v).2.2=0):StK (Cd C T a b x v).1 (Cd C T a b x v).2.1:=by
 unfold Cd at he⊢;split
 case isFalse=>rename_i g;rw[oIN g]at he;cases he
 rename_i hs;rw[oIP hs]at he;split
 case isFalse=>rename_i g;rw[oIN g]at he;cases he
 rename_i ht;rw[oIP ht]at he;split
 ·rename_i ha;rw[oIP ha]at he;split
  ·refine⟨h.1,h.2.1,?_,BZ h.2.2.2 hv⟩;show(T.modify _ _).length<=_;rw[oLM];exact h.2.2.1
  ·rename_i g;rw[oIN g]at he;cases he
 rename_i ha;rw[oIN ha]at he;split
 case isFalse=>rename_i g;rw[oIN g]at he;cases he
 rename_i hl
 have h2:a.toNat<C.length/\8*b.toNat<(C.getD a.toNat []).length:=by
  unfold Th at ht;omega
 rw[rX h2.1]at hl h2⊢;refine⟨?_,λc hc=>?_,h.2.2.1,h.2.2.2⟩
 ·show(C.modify _ _).length<=_;rw[oLM];exact h.1
 ·obtain⟨k,hk,rfl⟩:=List.mem_iff_getElem.1 hc;rw[List.getElem_modify];split
  ·unfold Sm;rw[BW (by omega)];exact h.2.1 _ (List.getElem_mem h2.1)
  ·exact h.2.1 _ (List.getElem_mem _)
theorem DB(f t:Int):eP f t=some (if 0<=f/\t<=200/\f<=t then 0 else 6,()):=by
 unfold eP;by_cases h1:f<0
 ·rw[oDT h1,oIN (by omega)];rfl
 rw[oDF h1,oCF];by_cases h2:t>200
 ·rw[oDT h2,oIN (by omega)];rfl
 rw[oDF h2,oCF];by_cases h3:f>t
 ·rw[oDT h3,oIN (by omega)];rfl
 rw[oDF h3,oIP (by omega)];rfl
theorem ki{f t:Int}{l:List PG}(hl:Sm l):∃e,cx f t l=some (e,())/\cw f t l=some (e,())/\(¬(0<=f/\t<=200/\f<=t)->e=6):=by
 by_cases h:0<=f/\t<=200/\f<=t
 rotate_left
 ·refine⟨6,?_,?_,λ_=>rfl⟩
  ·unfold cx;rw[DB,oIN h];rfl
  ·unfold cw jO;by_cases h1:f>=0
   rotate_left
   ·rw[oDF h1];rfl
   rw[oDT h1,oCT,oBS];dsimp only;by_cases h2:f<=200
   rotate_left
   ·rw[oDF h2];rfl
   rw[oDT h2];simp only[oNT,oCF];by_cases h3:t>=0
   rotate_left
   ·rw[oDF h3];rfl
   rw[oDT h3,oCT,oBS];dsimp only;by_cases h4:t<=200
   rotate_left
   ·rw[oDF h4];rfl
   rw[oDT h4];simp only[oNT,oCF,oBS];rw[oDT (show f>t by omega),oCT]
 have WY:l.length<=1099511627776:=hl;obtain⟨q,hq⟩:∃q:Nat->Prop,∀i,q i↔∃h:i+1<l.length,cH (l[i].1,l[i].2.1) (l[i+1].1,l[i+1].2.1)=true:=⟨_,λ_=>Iff.rfl⟩
 have L1:=jY (f:=bW) (st:=λi=>(((i+1:Nat):Int),f,t,l,())) (p:=q) (n:=l.length-1) (N:=NN) (bad:=λ_=>.inl (5,())) (fin:=.inr ((((l.length-1)+1:Nat):Int),false,f,t,l,())) (lh (by omega)) (λi hi=>by
  unfold bW;delta bf;dsimp only;rw[oDT (show((i+1:Nat):Int)<(l.length:Int) by omega),oCT,bz (x:=((i+1:Nat):Int)-1) (by omega) (by omega),show((i+1:Nat):Int)-1=(i:Int) by omega,bj,bj];simp only[oBS];rw[bw (show i<l.length by omega),bw (show i+1<l.length by omega)];simp only[oBS];have e:=EX (l[i].1,l[i].2.1) (l[i+1].1,l[i+1].2.1);rw[e,oBS];dsimp only;by_cases g:cH (l[i].1,l[i].2.1) (l[i+1].1,l[i+1].2.1)=true
  ·refine .inl ⟨(hq i).2 ⟨by omega,g⟩,?_⟩
   have ho:Bb (l[i].1,l[i].2.1) (l[i+1].1,l[i+1].2.1)<0:=by
    rw[<- kB]at g;exact of_decide_eq_true g
   rw[oDF (by omega),oCF,bz (by omega) (by omega)];rfl
  ·refine .inr ⟨λw=>g ((hq i).1 w).2,?_⟩
   have ho:¬Bb (l[i].1,l[i].2.1) (l[i+1].1,l[i+1].2.1)<0:=λw=>g (by
    rw[<- kB]
    exact oDT w)
   rw[oDT (by omega),oCT]) (by
  unfold bW;delta bf;dsimp only
  rw[oDF (by omega),oCF])
 have L2:=jY (f:=ek) (st:=λi=>(((i+1:Nat):Int),f,t,l,())) (p:=q) (n:=l.length-1) (N:=NN) (bad:=λ_=>.inl (5,())) (fin:=.inr ((((l.length-1)+1:Nat):Int),false,f,t,l,())) (lh (by omega)) (λi hi=>by
  unfold ek;delta bf;dsimp only;rw[oDT (show((i+1:Nat):Int)<(l.length:Int) by omega),oCT,bz (x:=((i+1:Nat):Int)-1) (by omega) (by omega),show((i+1:Nat):Int)-1=(i:Int) by omega,bj,bj];simp only[oBS];rw[bw (show i<l.length by omega),bw (show i+1<l.length by omega)];simp only[oBS];have e:=Ao (l[i].1,l[i].2.1) (l[i+1].1,l[i+1].2.1);rw[e,oBS];dsimp only;by_cases g:cH (l[i].1,l[i].2.1) (l[i+1].1,l[i+1].2.1)=true
  ·refine .inl ⟨(hq i).2 ⟨by omega,g⟩,?_⟩;rw[g];simp only[oNT,oCF];rw[bz (by omega) (by omega)];rfl
  ·refine .inr ⟨λw=>g ((hq i).1 w).2,?_⟩;rw[Bool.not_eq_true]at g;rw[g]
   rfl) (by
  unfold ek;delta bf;dsimp only
  rw[oDF (by omega),oCF])
 have p1:∀r,bm bW NN (1,f,t,l,())=some r->cx f t l=some ((match r with|.inl (x1,_)=>x1|.inr _=>0),()):=λr hr=>by
  unfold cx;rw[DB,oIP h,oBS];dsimp only;rw[bne_self_eq_false,oCF,hr]
  rcases r with⟨a,u⟩|r
  ·rfl
  ·rfl
 have p2:∀r,bm ek NN (1,f,t,l,())=some r->cw f t l=some ((match r with|.inl (x1,_)=>x1|.inr _=>0),()):=λr hr=>by
  unfold cw jO;rw[oDT (show f>=0 by omega),oDT (show f<=200 by omega),oDT (show t>=0 by omega),oDT (show t<=200 by omega),oDF (show ¬f>t by omega)];simp only[oCT,oBS,oNT,oCF];rw[hr]
  rcases r with⟨a,u⟩|r
  ·rfl
  ·rfl
 rcases L1 with⟨a1,a2⟩|⟨k,hk,_,a1,a2⟩
 ·rcases L2 with⟨b1,b2⟩|⟨k',YS,_,b1,b2⟩
  ·exact⟨0,p1 _ a2,p2 _ b2,λg=>absurd h g⟩
  ·exact absurd (a1 k' YS) b1
 ·rcases L2 with⟨b1,b2⟩|⟨k',YS,_,b1,b2⟩
  ·exact absurd (b1 k hk) a1
  ·exact⟨5,p1 _ a2,p2 _ b2,λg=>absurd h g⟩
theorem F1{l:List PG}(hl:Sm l)(hp:∀p∈l,PgK p){f t:Int}:∀(k i:Nat),i+k=l.length->∀(C:CC)(T:TT'),StK C T->∀M,k<M ->
 (∃e:Int,bm bH M (l,(l.length:Int),(i:Int),f,t,l,(),(),C,T,())=some (.inl (e,(),(),()))/\bm bG M ((i:Int),C,T,f,t,l,(),(),())=some (.inl (e,(),(),())))\/
 ∃(C':CC)(T':TT'),StK C' T'/\bm bH M (l,(l.length:Int),(i:Int),f,t,l,(),(),C,T,())=some (.inr (l,(l.length:Int),(l.length:Int),false,f,t,l,(),(),C',T',()))/\
  bm bG M ((i:Int),C,T,f,t,l,(),(),())=some (.inr ((l.length:Int),false,C',T',f,t,l,(),(),())):=by
 have WY:l.length<=1099511627776:=hl;intro k
 induction k with
 |zero=>
  intro i hi C T h M hM;obtain⟨M,rfl⟩:∃m,M=m+1:=⟨M-1,by omega⟩
  obtain rfl:i=l.length:=by omega
  have e1:bH (l,(l.length:Int),(l.length:Int),f,t,l,(),(),C,T,())=some (.inr (.inr (l,(l.length:Int),(l.length:Int),false,f,t,l,(),(),C,T,()))):=by
   unfold bH;dsimp only;rw[oDF (by omega),oCF]
  have e2:bG ((l.length:Int),C,T,f,t,l,(),(),())=some (.inr (.inr ((l.length:Int),false,C,T,f,t,l,(),(),()))):=by
   unfold bG;delta bf;dsimp only;rw[oDF (by omega),oCF]
  exact .inr ⟨C,T,h,by simp only[bm,e1,oBS],by simp only[bm,e2,oBS]⟩
 |succ k ih=>
  intro i hi C T h M hM;obtain⟨M,rfl⟩:∃m,M=m+1:=⟨M-1,by omega⟩
  have X0:i<l.length:=by omega
  have RS:=hp _ (List.getElem_mem X0);have e1:=KU h (x:=l[i].2.2.1) RS.1 (v:=l[i].2.2.2) RS.2 l[i].1 l[i].2.1;have e2:=KT h (x:=l[i].2.2.1) RS.1 (v:=l[i].2.2.2) RS.2 l[i].1 l[i].2.1;have e3:=Jv h (x:=l[i].2.2.1) (v:=l[i].2.2.2) RS.2 (a:=l[i].1) (b:=l[i].2.1);generalize Cd C T l[i].1 l[i].2.1 l[i].2.2.1 l[i].2.2.2=r at e1 e2 e3;by_cases he:r.2.2=0
  ·rcases ih (i+1) (by omega) r.1 r.2.1 (e3 he) M (by omega)with hh|hh
   all_goals
    have s1:bH (l,(l.length:Int),(i:Int),f,t,l,(),(),C,T,())=some (.inl (l,(l.length:Int),((i+1:Nat):Int),f,t,l,(),(),r.1,r.2.1,())):=by
     unfold bH;dsimp only;rw[oDT (show(i:Int)<(l.length:Int) by omega),oCT,bj];simp only[oBS];rw[bw X0];simp only[oBS];rw[e1,oBS];dsimp only;rw[bne_eq_false_iff_eq.2 he,oCF,bz (by omega) (by omega)];rfl
    have s2:bG ((i:Int),C,T,f,t,l,(),(),())=some (.inl (((i+1:Nat):Int),r.1,r.2.1,f,t,l,(),(),())):=by
     unfold bG;delta bf;dsimp only;rw[oDT (show(i:Int)<(l.length:Int) by omega),oCT,bj];simp only[oBS];rw[bw X0];simp only[oBS];rw[e2,oBS];dsimp only;rw[bne_eq_false_iff_eq.2 he,oCF,bz (by omega) (by omega)];rfl
    simp only[bm,s1,s2,oBS]
   ·exact .inl hh
   ·exact .inr hh
  ·refine .inl ⟨r.2.2,?_,?_⟩
   ·have s1:bH (l,(l.length:Int),(i:Int),f,t,l,(),(),C,T,())=some (.inr (.inl (r.2.2,(),(),()))):=by
     unfold bH;dsimp only;rw[oDT (show(i:Int)<(l.length:Int) by omega),oCT,bj];simp only[oBS];rw[bw X0];simp only[oBS];rw[e1,oBS];dsimp only;rw[bne_iff_ne.2 he,oCT]
    simp only[bm,s1,oBS]
   ·have s2:bG ((i:Int),C,T,f,t,l,(),(),())=some (.inr (.inl (r.2.2,(),(),()))):=by
     unfold bG;delta bf;dsimp only;rw[oDT (show(i:Int)<(l.length:Int) by omega),oCT,bj];simp only[oBS];rw[bw X0];simp only[oBS];rw[e2,oBS];dsimp only;rw[bne_iff_ne.2 he,oCT]
    simp only[bm,s2,oBS]
theorem yI:StK [] []:=⟨by simp[Sm],(λc hc=>by cases hc),by simp[Sm],(λt ht=>by cases ht)⟩
theorem Di{C:CC}{T:TT'}(h:StK C T){l:List PG}(hl:Sm l)(hp:∀p∈l,PgK p)(a f t:Int):
 ∃(C':CC)(T':TT')(e:Int),eZ C T a f t l=some (C',T',e,())/\iy C T a f t l=some (C',T',e,())/\StK C' T':=by
 have WY:l.length<=1099511627776:=hl;obtain⟨e,c1,c2,_⟩:=ki (f:=f) (t:=t) hl;unfold eZ iy;rw[c1,c2];simp only[oBS];by_cases he:e=0
 rotate_left
 ·rw[bne_iff_ne.2 he];exact⟨_,_,_,rfl,rfl,yI⟩
 rw[bne_eq_false_iff_eq.2 he,oCF,oCF];by_cases ha:a=f
 rotate_left
 ·rw[bne_iff_ne.2 ha];exact⟨_,_,_,rfl,rfl,yI⟩
 rw[bne_eq_false_iff_eq.2 ha,oCF,oCF,Lx h,oBS];delta bf;dsimp only
 rcases F1 hl hp (f:=f) (t:=t) l.length 0 (by omega) C T h NN (lh WY)with⟨e,h1,h2⟩|⟨C',T',hk,h1,h2⟩
 ·rw[show bm bH NN (l,(l.length:Int),0,f,t,l,(),(),C,T,())=_ from h1,show bm bG NN (0,C,T,f,t,l,(),(),())=_ from h2];exact⟨_,_,_,rfl,rfl,yI⟩
 ·rw[show bm bH NN (l,(l.length:Int),0,f,t,l,(),(),C,T,())=_ from h1,show bm bG NN (0,C,T,f,t,l,(),(),())=_ from h2];dsimp only;rw[zW hk];exact⟨_,_,_,rfl,rfl,hk⟩
theorem E7{C:CC}{T:TT'}{D:CC}{U:TT'}(hC:Sm C)(hD:Sm D)(hT:SmT T)(hU:SmT U)(f t:Int):
 ∃(f' t':Int)(L:List PG)(e:Int),dV C T D U f t=some (f',t',L,e,())/\fL C T D U f t=some (f',t',L,e,())/\L.length<=20/\(∀p∈L,PgK p)/\∀p∈L,(yu C T D U/\bY p∈pgs (szs C) T.length):=by
 by_cases h:yu C T D U
 rotate_left
 ·unfold dV fL;rw[De h hC hD hT hU,Df h hC hD];exact⟨0,0,[],1,rfl,rfl,by simp,(λp hp=>by cases hp),(λp hp=>by cases hp)⟩
 obtain⟨e,c1,c2,c3⟩:=ki (f:=f) (t:=t) (l:=[]) (by simp[Sm]);by_cases g:0<=f/\t<=200/\f<=t
 rotate_left
 ·have e6:=c3 g;subst e6;unfold dV fL;rw[yl h hT hU,ym h hT hU];simp only[oBS,bne_self_eq_false,oCF];rw[DB,oIN g,c2];exact⟨0,0,[],6,rfl,rfl,by simp,(λp hp=>by cases hp),(λp hp=>by cases hp)⟩
 have e0:e=0:=by
  have:=J4 g.1 g.2.1 g.2.2 (l:=[]) (by simp[Sm]) (λi hi=>by simp at hi);rw[this]at c1
  injection c1 with c1
  injection c1 with c1
  exact c1.symm
 subst e0;have hlen:=FI (D:=D) (U:=U) h.1
 have ZB:∀p∈dif C T D U,p∈pgs (szs D) U.length:=λp hp=>by
  rw[<- h.2.2.1,<- h.2.2.2];exact(zh.1 hp).1
 refine⟨f,t,(dif C T D U).map (pg D U),0,K5 h hT hU g.1 g.2.1 g.2.2,?_,by rw[List.length_map];exact hlen,λp hp=>?_,λp hp=>?_⟩
 ·unfold fL;rw[ym h hT hU,oBS];dsimp only;rw[bne_self_eq_false,oCF,c2,oBS];dsimp only;rw[bne_self_eq_false,oCF];generalize dif C T D U=l at *
  have VO:=bZ (f:=eL) (st:=λi=>((i:Int),D,U,(0:Int),(0:Int),(),l,f,t,(l.take i).map (pg D U),())) (n:=l.length) (N:=NN) (fin:=((l.length:Int),false,D,U,(0:Int),(0:Int),(),l,f,t,(l.take l.length).map (pg D U),())) (lh (by omega)) (λi hi=>by
   unfold eL;delta bf;dsimp only;rw[oDT (show(i:Int)<(l.length:Int) by omega),oCT,bj];simp only[oBS];rw[bw hi];simp only[oBS];rw[JZ h.2.1 hU (ZB _ (List.getElem_mem hi)),oBS];dsimp only;rw[bL (by rw[List.length_map,oLT];omega) (by simp) (by omega) (by rw[List.length_map,oLT];simp;omega),oCT,bz (by omega) (by omega)];rw[<- fK hi]
   rfl) (by
   unfold eL;delta bf;dsimp only
   rw[oDF (by omega),oCF])
  rw[show bm eL NN (0,D,U,0,0,(),l,f,t,[],())=_ from VO,oBS];dsimp only;rw[List.take_length]
 ·obtain⟨q,hq,rfl⟩:=List.mem_map.1 hp;exact I4 h.2.1 hU (ZB q hq)
 ·obtain⟨q,hq,rfl⟩:=List.mem_map.1 hp;rw[KY];exact⟨h,(zh.1 hq).1⟩
def puG:List PG->PG->List PG
 | [],p=>[p]
 |q::r,p=>if cH (bY q) (bY p)then q::puG r p else if bY q=bY p then p::r else p::q::r
def sn(l:List PG)(p:PG):Nat:=(l.takeWhile λq=>cH (bY q) (bY p)).length
theorem Iz(p:PG):∀l:List PG,puG l p=l.take (sn l p)++[p]++l.drop (if l[sn l p]?.map bY=some (bY p)then sn l p+1 else sn l p)
 | []=>by simp[puG,sn]
 |q::r=>by
  have ih:=Iz p r;unfold puG;by_cases h:cH (bY q) (bY p)=true
  ·have e:sn (q::r) p=sn r p+1:=by
    unfold sn;rw[List.takeWhile_cons,oIP h];rfl
   rw[oIP h,ih,e,List.getElem?_cons_succ,List.take_succ_cons];by_cases g:r[sn r p]?.map bY=some (bY p)
   ·rw[oIP g,oIP g];rfl
   ·rw[oIN g,oIN g];rfl
  ·have e:sn (q::r) p=0:=by
    unfold sn;rw[List.takeWhile_cons,oIN h];rfl
   rw[oIN h,e,List.getElem?_cons_zero,oMS];by_cases g:bY q=bY p
   ·rw[oIP g,oIP (by rw[g])];rfl
   ·rw[oIN g,oIN (λw=>g (by injection w))];rfl
theorem KK{α:Type}{q:α->Bool}:∀{l:List α}{i:Nat}{x:α},i<(l.takeWhile q).length->l[i]?=some x->q x=true
 | [],i,x,h,_=>by simp at h
 |a::l,i,x,h,e=>by
  rw[List.takeWhile_cons]at h;by_cases g:q a=true
  ·rw[oIP g,oLC]at h
   cases i with
   |zero=>
    rw[List.getElem?_cons_zero]at e
    injection e with e
    subst e;exact g
   |succ i=>
    rw[List.getElem?_cons_succ]at e;exact KK (by omega) e
  ·rw[oIN g]at h;simp at h
theorem KL{α:Type}{q:α->Bool}:∀{l:List α}{x:α},l[(l.takeWhile q).length]?=some x->q x=false
 | [],x,e=>by simp at e
 |a::l,x,e=>by
  rw[List.takeWhile_cons]at e;by_cases g:q a=true
  ·rw[oIP g,oLC,List.getElem?_cons_succ]at e;exact KL e
  ·rw[oIN g]at e;rw[List.length_nil,List.getElem?_cons_zero]at e
   injection e with e
   subst e;exact(Bool.not_eq_true _).mp g
theorem EM(p:PG):∀l:List PG,(puG l p).length<=l.length+1
 | []=>Nat.le_refl _
 |q::r=>by
  have:=EM p r;unfold puG;split
  ·simp only[oLC];omega
  ·split<;>simp only[oLC]<;>omega
theorem EL{p q:PG}:∀{l:List PG},q∈puG l p->q=p\/q∈l
 | [],h=>.inl (List.mem_singleton.1 h)
 |x::r,h=>by
  unfold puG at h;split at h
  ·rcases List.mem_cons.1 h with rfl|h
   ·exact .inr (by simp)
   ·rcases EL h with g|g
    ·exact .inl g
    ·exact .inr (by simp[g])
  ·split at h
   ·rcases List.mem_cons.1 h with g|g
    ·exact .inl g
    ·exact .inr (by simp[g])
   ·rcases List.mem_cons.1 h with g|g
    ·exact .inl g
    ·exact .inr g
theorem oy:∀(L a:List PG),(L.foldl puG a).length<=a.length+L.length
 | [],a=>by simp
 |p::L,a=>by
  have h1:=oy L (puG a p);have h2:=EM p a;rw[List.foldl_cons,oLC];omega
theorem vP{q:PG}:∀{L a:List PG},q∈L.foldl puG a->q∈a\/q∈L
 | [],a,h=>.inl h
 |p::L,a,h=>by
  rw[List.foldl_cons]at h;rcases vP h with g|g
  ·rcases EL g with rfl|g
   ·exact .inr (by simp)
   ·exact .inl g
  ·exact .inr (by simp[g])
theorem GV{l:List PG}(p:PG)(h:l.length<=1099511627776):bm ft NN (l,0,p.1,p.2.1,p.2.2.1,p.2.2.2.1,p.2.2.2.2.1,p.2.2.2.2.2.1,p.2.2.2.2.2.2.1,p.2.2.2.2.2.2.2.1,p.2.2.2.2.2.2.2.2.1,p.2.2.2.2.2.2.2.2.2.1,p.2.2.2.2.2.2.2.2.2.2,())=some (l,(sn l p:Int),false,p.1,p.2.1,p.2.2.1,p.2.2.2.1,p.2.2.2.2.1,p.2.2.2.2.2.1,p.2.2.2.2.2.2.1,p.2.2.2.2.2.2.2.1,p.2.2.2.2.2.2.2.2.1,p.2.2.2.2.2.2.2.2.2.1,p.2.2.2.2.2.2.2.2.2.2,()):=by
 have hc:sn l p<=l.length:=(List.takeWhile_prefix _).length_le;refine bZ (f:=ft) (λi=>(l,(i:Int),p.1,p.2.1,p.2.2.1,p.2.2.2.1,p.2.2.2.2.1,p.2.2.2.2.2.1,p.2.2.2.2.2.2.1,p.2.2.2.2.2.2.2.1,p.2.2.2.2.2.2.2.2.1,p.2.2.2.2.2.2.2.2.2.1,p.2.2.2.2.2.2.2.2.2.2,())) (n:=sn l p) (N:=NN) (by unfold NN;omega) (λi hi=>?_) ?_
 ·have ZK:i<l.length:=by omega
  have ha:cH (bY l[i]) (bY p)=true:=KK (q:=λq=>cH (bY q) (bY p)) hi (oGE ZK);unfold ft;delta bf;dsimp only;rw[oDT (show(i:Int)<(l.length:Int) by omega),oCT,bj];simp only[oBS];rw[bw ZK];simp only[oBS];rw[show dY l[i].1 l[i].2.1 p.1 p.2.1=_ from Ao (bY l[i]) (bY p),ha,oBS];dsimp only;rw[oCT,bz (by omega) (by omega)];rfl
 ·unfold ft;delta bf;dsimp only;by_cases hl:sn l p<l.length
  ·have ha:cH (bY l[sn l p]) (bY p)=false:=KL (q:=λq=>cH (bY q) (bY p)) (l:=l) (oGE hl);rw[oDT (show(sn l p:Int)<(l.length:Int) by omega),oCT,bj];simp only[oBS];rw[bw hl];simp only[oBS];rw[show dY l[sn l p].1 l[sn l p].2.1 p.1 p.2.1=_ from Ao (bY l[sn l p]) (bY p),ha];rfl
  ·rw[oDF (show ¬(sn l p:Int)<(l.length:Int) by omega)];rfl
theorem KX{l:List PG}(p:PG)(h:l.length+1<=1099511627776):iT l p.1 p.2.1 p.2.2.1 p.2.2.2.1 p.2.2.2.2.1 p.2.2.2.2.2.1 p.2.2.2.2.2.2.1 p.2.2.2.2.2.2.2.1 p.2.2.2.2.2.2.2.2.1 p.2.2.2.2.2.2.2.2.2.1 p.2.2.2.2.2.2.2.2.2.2=some (puG l p,()):=by
 have hc:sn l p<=l.length:=(List.takeWhile_prefix _).length_le;unfold iT;rw[GV p (by omega),Iz,oBS];delta bf;dsimp only;obtain⟨k,hk⟩:∃k,k=sn l p:=⟨_,rfl⟩;rw[<- hk]at hc⊢;rw[bj,oBS]
 have e1:gq 0 k l.length=true:=by unfold gq;simp[hc]
 have e3:Au l 0 (Nat.sub k 0)=l.take k:=by unfold Au;rfl
 have e4:∀m,m<=l.length->Au l m (Nat.sub l.length m)=l.drop m:=λm hm=>by
  unfold Au;rw[List.take_of_length_le (by rw[List.length_drop];exact Nat.le_refl _)]
 have e2:∀m,m<=l.length->gq m l.length l.length=true:=λm hm=>by unfold gq;simp[hm]
 rw[e1,oCT,e3,bL (by omega) (by rw[oLT];omega) (by omega) (by rw[oLT];omega),oCT];rw[bL (by show(l.take k).length<=_;rw[oLT];omega) (by simp) (by omega) (by show(l.take k).length+1<=_;rw[oLT];omega),oCT]
 have fin:∀m:Nat,m<=l.length->k<=m->(dS (m:Int)).bind (λSD=>bif gq SD l.length l.length then
  bif cq 120 (List.length (List.append (List.append [] (l.take k)) [p])) (List.length (Au l SD (Nat.sub l.length SD)))then some (List.append (List.append (List.append [] (l.take k)) [p]) (Au l SD (Nat.sub l.length SD)),())else none else none)=some (l.take k++[p]++l.drop m,()):=λm hm hkm=>by
  rw[bj,oBS,e2 m hm,oCT,e4 m hm,bL (by show(l.take k++[p]).length<=_;rw[List.length_append,oLT,List.length_singleton];omega) (by rw[List.length_drop];omega) (by omega) (by show(l.take k++[p]).length + _<=_;rw[List.length_append,oLT,List.length_singleton,List.length_drop];omega),oCT];rfl
 by_cases hl:k<l.length
 ·rw[oDT (show(k:Int)<(l.length:Int) by omega),oCT];simp only[oBS];rw[bw hl];simp only[oBS];have eb:((l[k].1==p.1)&&((l[k].2.1==p.2.1)&&true))=decide (bY l[k]=bY p):=KZ (bY l[k]) (bY p);rw[eb,oGE hl,oMS];by_cases g:bY l[k]=bY p
  ·rw[oDT g,oCT,oIP (by rw[g]),oBS];dsimp only;rw[bz (by omega) (by omega)];exact fin (k+1) (by omega) (by omega)
  ·rw[oDF g,oCF,oIN (λw=>g (by injection w)),oBS];exact fin k (by omega) (by omega)
 ·rw[oDF (show ¬(k:Int)<(l.length:Int) by omega),oCF,oBS,oGN (by omega),oIN (by simp)];exact fin k (by omega) (by omega)
theorem EC{F:PID->PG}{p:PG}:∀{S:List PID},Asc S->(∀x∈S,bY (F x)=x)->puG (S.map F) p=(tp S (bY p)).map λx=>if x=bY p then p else F x
 | [],_,_=>by simp[puG,tp]
 |y::r,ha,hF=>by
  have hy:bY (F y)=y:=hF y (by simp);have Ww:=List.pairwise_cons.1 ha;simp only[List.map_cons,puG,hy,tp];by_cases h:cH y (bY p)=true
  ·rw[oIP h,oIP h,EC Ww.2 λx hx=>hF x (by simp[hx]),List.map_cons,oIN (λe=>by rw[e,fR]at h;cases h)]
  ·rw[oIN h,oIN h];by_cases e:y=bY p
   ·rw[oIP e,oIP e,List.map_cons,oIP e];congr 1;refine List.map_congr_left λx hx=>?_;have h1:=Ww.1 x hx;rw[oIN (λg=>by rw[g,e,fR]at h1;cases h1)]
   ·rw[oIN e,oIN e,List.map_cons,List.map_cons,oIP rfl,oIN e];congr 2;refine List.map_congr_left λx hx=>?_;have h1:=Ww.1 x hx;rw[oIN (λg=>by rw[g]at h1;exact h h1)]
theorem Bp:∀(L:List PG){S:List PID}{F:PID->PG},Asc S->(∀x∈S,bY (F x)=x)->L.foldl puG (S.map F)=((L.map bY).foldl tp S).map λx=>L.foldl (λa p=>if bY p=x then p else a) (F x)
 | [],S,F,_,_=>rfl
 |p::L,S,F,ha,hF=>by
  rw[List.foldl_cons,EC ha hF,Bp L (zw _ ha) (λx hx=>?_),List.map_cons,List.foldl_cons]
  ·refine List.map_congr_left λx _=>?_;rw[List.foldl_cons];congr 1;by_cases e:x=bY p
   ·rw[oIP e,oIP e.symm]
   ·rw[oIN e,oIN (λg=>e g.symm)]
  ·by_cases e:x=bY p
   ·rw[oIP e];exact e.symm
   ·rw[oIN e]
    rcases(vn _ _).1 hx with g|g
    ·exact absurd g e
    ·exact hF x g
theorem Fy(L:List PG):L.foldl puG []=(kx (L.map bY)).map (is L):=Bp L (S:=[]) (F:=λ_=>At) List.Pairwise.nil λx hx=>by cases hx
theorem Cq{L:List PG}(hL:L.length<=1099511627776)(hp:∀p∈L,PgK p):eU L L=some (true,()):=by
 unfold eU;delta bf;dsimp only;rw[bne_self_eq_false,oCF]
 have h:=bZ (f:=cP) (st:=λi=>(L,L,(i:Int),())) (n:=L.length) (N:=NN) (fin:=.inr (L,L,(L.length:Int),false,())) (lh hL) (λi hi=>by
  unfold cP;delta bf;dsimp only;have h2:=hp _ (List.getElem_mem hi);rw[oDT (show(i:Int)<(L.length:Int) by omega),oCT,bj];simp only[oBS];rw[bw hi];simp only[oBS];rw[FE (x:=L[i]) (y:=L[i]) h2.1 h2.2,oBS,oDT rfl];simp only[oNT,oCF];rw[bz (by omega) (by omega)]
  rfl) (by
  unfold cP;delta bf;dsimp only
  rw[oDF (by omega),oCF])
 rw[show bm cP NN (L,L,0,())=_ from h]
theorem uv{f t:Int}{L:List PG}(hL:L.length<=1099511627776)(hp:∀p∈L,PgK p):gU f t L f t L=some (true,()):=by
 unfold gU;rw[beq_self_eq_true,oCT,beq_self_eq_true,oCT,Cq hL hp];rfl
theorem xN{α β:Type}{g:β->α->β}{l:List α}{i:Nat}(h:i<l.length)(a:β):(l.take (i+1)).foldl g a=g ((l.take i).foldl g a) l[i]:=by
 rw[<- nL h,List.foldl_append];rfl
def PgW(p:PG):Prop:=PgK p/\wfP (bY p)=true
theorem Cy{xs ys:List PG}(hx:xs.length<=2000000)(hy:ys.length<=2000000)(px:∀p∈xs,PgW p)(py:∀p∈ys,PgW p)(f t g u:Int):
 ∃(f' t':Int)(L:List PG)(e:Int),bV f t xs g u ys=some (f',t',L,e,())/\ix f t xs g u ys=some (f',t',L,e,())/\L.length<=1099511627776/\∀p∈L,PgK p:=by
 have hok:pD xs ys=true:=by
  simp only[pD,oBA,oDE,List.all_eq_true];refine⟨by omega,λq hq=>?_⟩;rcases List.mem_append.1 hq with hq|hq
  ·exact⟨⟨(px q hq).1.1,(px q hq).1.2⟩,(px q hq).2⟩
  ·exact⟨⟨(py q hq).1.1,(py q hq).1.2⟩,(py q hq).2⟩
 obtain⟨e1,c1,d1,_⟩:=ki (f:=f) (t:=t) (l:=xs) (by unfold Sm;omega);obtain⟨e2,c2,d2,_⟩:=ki (f:=g) (t:=u) (l:=ys) (by unfold Sm;omega);unfold bV ix;rw[oIP hok,yj,yj,c1,c2,d1,d2];simp only[oBS];have bad:∀e:Int,∃(f' t':Int)(L:List PG)(e':Int),(some (0,0,[],e,()):Option (Int×Int×List PG×Int×Unit))=some (f',t',L,e',())/\(some (0,0,[],e,()):Option (Int×Int×List PG×Int×Unit))=some (f',t',L,e',())/\L.length<=1099511627776/\∀p∈L,PgK p:=λe=>⟨0,0,[],e,rfl,rfl,by simp,λp hp=>by cases hp⟩;by_cases h1:e1=0
 rotate_left
 ·rw[oIP h1,bne_iff_ne.2 h1,oCT];exact bad e1
 rw[oIN (λw=>w h1),bne_eq_false_iff_eq.2 h1,oCF];by_cases h2:e2=0
 rotate_left
 ·rw[oIP h2,bne_iff_ne.2 h2,oCT];exact bad e2
 rw[oIN (λw=>w h2),bne_eq_false_iff_eq.2 h2,oCF];by_cases h3:t=g
 rotate_left
 ·rw[oIP h3,bne_iff_ne.2 h3,oCT];exact bad 35
 rw[oIN (λw=>w h3),bne_eq_false_iff_eq.2 h3,oCF];rw[JO (by rw[List.length_map,List.length_append];simp;omega),List.append_nil,oBS];dsimp only;have Vj:(kx ((xs++ys).map bY)).length<=0+((xs++ys).map bY).length:=Fw _ [];rw[List.length_map,List.length_append]at Vj
 have ZW:(kx ((xs++ys).map bY)).all wfP=true:=by
  rw[List.all_eq_true];intro p hp;obtain⟨q,hq,rfl⟩:=List.mem_map.1 ((wC _ _).1 hp);rcases List.mem_append.1 hq with hq|hq
  ·exact(px q hq).2
  ·exact(py q hq).2
 rw[oIP ⟨by omega,ZW⟩,<- Fy,List.foldl_append]
 have l0:=bZ (f:=ej) (st:=λi=>((i:Int),f,t,xs,g,u,ys,(0:Int),(0:Int),(),f,u,(xs.take i).foldl puG [],())) (n:=xs.length) (N:=NN) (fin:=((xs.length:Int),false,f,t,xs,g,u,ys,(0:Int),(0:Int),(),f,u,(xs.take xs.length).foldl puG [],())) (lh (by omega)) (λi hi=>by
  unfold ej;delta bf;dsimp only;rw[oDT (show(i:Int)<(xs.length:Int) by omega),oCT,bj];simp only[oBS];rw[bw hi];simp only[oBS];have hl:=oy (xs.take i) [];rw[oLT]at hl;rw[KX xs[i] (by simp only[List.length_nil]at hl;omega),oBS,xN hi];dsimp only;rw[bz (by omega) (by omega)]
  rfl) (by
  unfold ej;delta bf;dsimp only
  rw[oDF (by omega),oCF])
 rw[show bm ej NN (0,f,t,xs,g,u,ys,0,0,(),f,u,[],())=_ from l0,List.take_length,oBS];dsimp only;obtain⟨X,hX⟩:∃X,X=xs.foldl puG []:=⟨_,rfl⟩;have Nh:=oy xs [];rw[<- hX]at Nh⊢;simp only[List.length_nil]at Nh
 have l1:=bZ (f:=ef) (st:=λi=>((i:Int),g,u,ys,(0:Int),(0:Int),(),f,u,(ys.take i).foldl puG X,())) (n:=ys.length) (N:=NN) (fin:=((ys.length:Int),false,g,u,ys,(0:Int),(0:Int),(),f,u,(ys.take ys.length).foldl puG X,())) (lh (by omega)) (λi hi=>by
  unfold ef;delta bf;dsimp only;rw[oDT (show(i:Int)<(ys.length:Int) by omega),oCT,bj];simp only[oBS];rw[bw hi];simp only[oBS];have hl:=oy (ys.take i) X;rw[oLT]at hl;rw[KX ys[i] (by omega),oBS,xN hi];dsimp only;rw[bz (by omega) (by omega)]
  rfl) (by
  unfold ef;delta bf;dsimp only
  rw[oDF (by omega),oCF])
 rw[show bm ef NN (0,g,u,ys,0,0,(),f,u,X,())=_ from l1,List.take_length];have hYl:=oy ys X;refine⟨_,_,_,_,rfl,rfl,by omega,λp hp=>?_⟩;rcases vP hp with hp|hp
 ·rw[hX]at hp;rcases vP hp with hp|hp
  ·cases hp
  ·exact(px p hp).1
 ·exact(py p hp).1
theorem Kf{C:CC}{T:TT'}{D:CC}{U:TT'}(h:StK C T)(h':StK D U){xs ys:List PG}(hx:xs.length<=2000000)(hy:ys.length<=2000000)(px:∀p∈xs,PgW p)(py:∀p∈ys,PgW p)(a b c f t g u:Int):
 iB C T D U a b c f t xs g u ys=some (true,()):=by
 obtain⟨f1,t1,L1,e1,m1,m2,m3,m4,_⟩:=E7 (C:=C) (T:=T) (D:=D) (U:=U) h.1 h'.1 h.2.2.2 h'.2.2.2 a b;obtain⟨C1,T1,e2,a1,a2,a3⟩:=Di h (l:=xs) (by unfold Sm;omega) (λp hp=>(px p hp).1) c f t;obtain⟨f2,t2,L2,e3,n1,n2,n3,n4⟩:=Cy hx hy px py f t g u;obtain⟨e4,c1,c2,_⟩:=ki (f:=f) (t:=t) (l:=xs) (by unfold Sm;omega);unfold iB;rw[m1,m2,a1,a2,n1,n2];simp only[oBS,beq_self_eq_true,oCT];rw[uv (by omega) m4,oBS];dsimp only;rw[oCT,Jz a3,oBS];dsimp only;rw[oDT ⟨rfl,rfl⟩,oCT,uv n3 n4,oBS];dsimp only;rw[oCT,c1,c2];simp only[oBS,beq_self_eq_true]
def yz:List CT->CT
 | []=>.nat
 | [t]=>t
 |t::u::r=>.pair t (yz (u::r))
def iR:(l:List CT)->HL den l->den (yz l)
 | [],_=>(0:Nat)
 | [_],h=>h.1
 |_::u::r,h=>(h.1,iR (u::r) h.2)
def encL:(l:List CT)->HL den l->List TV
 | [],_=>[]
 |t::r,h=>enc t h.1++encL r h.2
theorem Bv:∀(l:List CT)(h:HL den l),enc (yz l) (iR l h)=encL l h
 | [],_=>rfl
 | [_],h=>(List.append_nil _).symm
 |_::u::r,h=>by
  show enc _ h.1++enc (yz (u::r)) (iR (u::r) h.2)=_;rw[Bv (u::r) h.2];rfl
def Ar:(c:CT)->den c->Prop
 |.int k,n=>(Lit.int k n).wf=true
 |.str,s=>ByteArray.size s<=maxLen
 |.row _ t,xs=>List.length xs<=maxLen/\∀x∈xs,Ar t x
 |.pair a b,x=>Ar a x.1/\Ar b x.2
 |_,_=>True
def GoodL:(l:List CT)->HL den l->Prop
 | [],_=>True
 |t::r,h=>Ar t h.1/\GoodL r h.2
theorem xK:∀(l:List CT)(h:HL den l),GoodL l h->Ar (yz l) (iR l h)
 | [],_,_=>trivial
 | [_],_,g=>g.1
 |_::u::r,h,g=>⟨g.1,xK (u::r) h.2 g.2⟩
def appL:(l m:List CT)->HL den l->HL den m->HL den (l++m)
 | [],_,_,k=>k
 |_::r,m,h,k=>(h.1,appL r m h.2 k)
theorem Bw:∀(l m:List CT)(h:HL den l)(k:HL den m),encL (l++m) (appL l m h k)=encL l h++encL m k
 | [],_,_,_=>rfl
 |t::r,m,h,k=>by
  show enc t h.1++encL (r++m) (appL r m h.2 k)=(enc t h.1++encL r h.2)++_;rw[Bw r m h.2 k,List.append_assoc]
theorem Bm:∀(l m:List CT)(h:HL den l)(k:HL den m),GoodL l h->GoodL m k->GoodL (l++m) (appL l m h k)
 | [],_,_,_,_,g=>g
 |_::r,m,h,k,g,g'=>⟨g.1,Bm r m h.2 k g.2 g'⟩
def kY:(c:CT)->den c->Nat
 |.int _,_=>1
 |.bool,_=>1
 |.str,_=>1
 |.row _ t,xs=>1+(List.map (kY t) xs).sum
 |.pair a b,x=>kY a x.1+kY b x.2
 |_,_=>0
def sizL:(l:List CT)->HL den l->Nat
 | [],_=>0
 |t::r,h=>kY t h.1+sizL r h.2
theorem AD:∀(l:List CT)(h:HL den l),kY (yz l) (iR l h)=sizL l h
 | [],_=>rfl
 | [_],h=>(Nat.add_zero _).symm
 |_::u::r,h=>by
  show kY _ h.1+kY (yz (u::r)) (iR (u::r) h.2)=_;rw[AD (u::r) h.2];rfl
theorem DH:∀(l m:List CT)(h:HL den l)(k:HL den m),sizL (l++m) (appL l m h k)=sizL l h+sizL m k
 | [],_,_,_=>(Nat.zero_add _).symm
 |t::r,m,h,k=>by
  show kY t h.1+sizL (r++m) (appL r m h.2 k)=kY t h.1+sizL r h.2+sizL m k;rw[DH r m h.2 k,Nat.add_assoc]
structure Bulk {H:Type}(B:DataW H->Nat):Prop where
 li:∀l,1<=B (.lit l)
 ni:1<=B .nil
 sl:∀es rs,1+(es.map B).sum<=B (.slice es rs)
 ag:∀xs,(xs.map B).sum<=B (.agg xs)
theorem yG{n:Nat}{f:Fin n->Nat}{l:List Nat}(hl:l.length=n)(h:∀i:Fin n,f i<=l.getD i.1 0):(List.ofFn f).sum<=l.sum:=by
 induction n generalizing l with
 |zero=>simp
 |succ n ih=>
  match l,hl with
  |x::r,hl=>
   rw[List.ofFn_succ,List.sum_cons,List.sum_cons];exact Nat.add_le_add (h 0) (ih (by simpa using hl) λi=>by simpa using h i.succ)
def RelL(w:World):List TV->List Value->Prop
 | [],[]=>True
 |t::ts,v::vs=>fm w (λ_=>True) t v/\RelL w ts vs
 |_,_=>False
theorem RelL.app{w:World}:∀{a:List TV}{x:List Value}{b:List TV}{y:List Value},RelL w a x->RelL w b y->RelL w (a++b) (x++y)
 | [],[],_,_,_,h=>h
 |_::a,_::x,_,_,g,h=>⟨g.1,RelL.app (a:=a) (x:=x) g.2 h⟩
 | [],_::_,_,_,g,_=>g.elim
 |_::_,[],_,_,g,_=>g.elim
theorem RelL.len{w:World}:∀{a:List TV}{x:List Value},RelL w a x->a.length=x.length
 | [],[],_=>rfl
 |_::a,_::x,g=>by rw[oLC,oLC,RelL.len (a:=a) (x:=x) g.2]
 | [],_::_,g=>g.elim
 |_::_,[],g=>g.elim
theorem RelL.get{w:World}:∀{a:List TV}{x:List Value},RelL w a x->∀j (h:j<a.length)(h':j<x.length),fm w (λ_=>True) a[j] x[j]
 |_::_,_::_,g,0,_,_=>g.1
 |_::a,_::x,g,j+1,h,h'=>RelL.get (a:=a) (x:=x) g.2 j (by simpa using h) (by simpa using h')
 | [],_,_,_,h,_=>by simp at h
 |_::_,[],g,_,_,_=>g.elim
def KS(P:Program)(g:TypeId->Option (List CT)):Nat->List Field->Option (List CT)
 |_,[]=>some []
 |off,f::fs=>match g f.type with
  |some l=>if f.offset=off/\l.length=P.cellsOf f.type then(KS P g (off+l.length) fs).map (l++·)else none
  |none=>none
def rq(P:Program):Nat->TypeId->Option (List CT)
 |0,_=>none
 |n+1,t=>match P.underlying t with
  |some .bool=>some [.bool]
  |some (.int k)=>some [.int k]
  |some .string=>some [.str]
  |some (.slice e)=>match rq P n e with
   |some l=>if l.length=P.cellsOf e then some [.row false (yz l)]else none
   |none=>none
  |some (.struct fs)=>match KS P (rq P n) 0 fs.toList with
   |some l=>if l.length=P.cellsOf t then some l else none
   |none=>none
  |_=>none
section
variable {H:Type} {B:DataW H->Nat} {ec:TypeId×Value->H} {P:Program} {w:World} {base:Nat} {spare:Nat->Bool} {held:Bool}
theorem Fk{g:TypeId->Option (List CT)}{m:Nat}{cs:List Value}
 (ih:∀t L,g t=some L->∀cs x,DataW.trod ec P w base spare held m t cs=some x->∃h:HL den L,GoodL L h/\RelL w (encL L h) cs/\sizL L h<=B x.1):
 ∀(fs:List Field)(xs:List (DataW H×List MemPlace))(off:Nat)(L:List CT),KS P g off fs=some L->xs.length=fs.length->(∀(i:Nat)(f:Field),fs[i]?=some f->DataW.trod ec P w base spare held m f.type ((cs.drop f.offset).take (P.cellsOf f.type))=xs[i]?)->
  ∃h:HL den L,GoodL L h/\RelL w (encL L h) ((cs.drop off).take L.length)/\sizL L h<=(xs.map λx=>B x.1).sum:=by
 intro fs
 induction fs with
 |nil=>
  intro xs off L hL _ _
  injection hL with hL
  subst hL;exact⟨(),trivial,trivial,Nat.zero_le _⟩
 |cons f fs P9=>
  intro xs off L hL Ug hx;unfold KS at hL
  obtain⟨x,xs,rfl⟩:∃y ys,xs=y::ys:=by cases xs with|nil=>simp at Ug|cons y ys=>exact⟨y,ys,rfl⟩
  split at hL
  ·rename_i l hg;split at hL
   ·rename_i ho;obtain⟨rfl,hlen⟩:=ho
    cases hr:KS P g (f.offset+l.length) fs with
    |none=>rw[hr]at hL;cases hL
    |some L2=>
     rw[hr]at hL
     injection hL with hL
     subst hL;have h1:=hx 0 f rfl;rw[List.getElem?_cons_zero]at h1;obtain⟨h,g1,r1,z1⟩:=ih _ _ hg _ _ h1
     obtain⟨k,g2,r2,z2⟩:=P9 xs _ _ hr (by simpa using Ug) λi f' Qp=>by simpa using hx (i+1) f' (by simpa using Qp)
     refine⟨appL l L2 h k,Bm _ _ _ _ g1 g2,?_,by rw[DH,List.map_cons,List.sum_cons];exact Nat.add_le_add z1 z2⟩;rw[Bw,List.length_append,List.take_add,List.drop_drop];rw[hlen];rw[hlen]at r2;exact r1.app r2
   ·cases hL
  ·cases hL
theorem Le(hB:Bulk B):∀(n:Nat)(t:TypeId)(L:List CT),rq P n t=some L->∀(XG:Nat)(cs:List Value)(x:DataW H×List MemPlace),DataW.trod ec P w base spare held XG t cs=some x ->
 ∃h:HL den L,GoodL L h/\RelL w (encL L h) cs/\sizL L h<=B x.1:=by
 intro n
 induction n with
 |zero=>intro t L h;cases h
 |succ n ih=>
  intro t L hL XG cs x hx;unfold rq at hL;split at hL
  ·rename_i ht
   injection hL with hL
   subst hL;obtain⟨b,rfl,hd⟩:=DataW.trod_bool ht hx;exact⟨(b,()),⟨trivial,trivial⟩,⟨.v rfl,trivial⟩,by rw[hd];exact hB.li _⟩
  ·rename_i k ht
   injection hL with hL
   subst hL;obtain⟨z,rfl,hd,hw⟩:=DataW.trod_int ht hx;exact⟨(z,()),⟨hw,trivial⟩,⟨.v rfl,trivial⟩,by rw[hd];exact hB.li _⟩
  ·rename_i ht
   injection hL with hL
   subst hL;obtain⟨s,rfl,hd,hs⟩:=DataW.trod_string ht hx;exact⟨(s,()),⟨hs,trivial⟩,⟨.v rfl,trivial⟩,by rw[hd];exact hB.li _⟩
  ·rename_i e ht;split at hL
   ·rename_i l hl;split at hL
    ·rename_i hsz
     injection hL with hL
     subst hL
     rcases DataW.trod_slice ht hx with⟨rfl,hd⟩|⟨a,len,cap,Wt,rest,m,_,rfl,hd,_,YO,hmax,YZ,Z3,_,_⟩
     ·exact⟨([],()),⟨⟨Nat.zero_le _,λx hx=>by cases hx⟩,trivial⟩,⟨.sl (c:=[]) 1 (λ_ _=>undef) (λi h=>by simp at h) (Nat.le_refl _) (Nat.zero_le _) (λ_=>rfl) (λi j h=>by simp at h) (λi j h=>by simp at h),trivial⟩,by rw[hd];exact hB.ni⟩
     ·have Oz:∀i:Fin len,∃p:HL den l×List Value,GoodL l p.1/\RelL w (encL l p.1) p.2/\w.cells? base (a.add (i.1*P.cellsOf e)) (P.cellsOf e)=some p.2/\sizL l p.1<=(Wt.map λx=>B x.1).getD i.1 0:=by
       intro i;have h1:=Z3 i.1 i.2;rw[oGE (by omega)]at h1;obtain⟨Vd,h2,h3⟩:=Option.bind_eq_some_iff.1 h1;obtain⟨h,g,r,z⟩:=ih _ _ hl _ _ _ h3;exact⟨(h,Vd),g,r,h2,by simpa[YZ,i.2]using z⟩
      obtain⟨f,hf⟩:=Classical.axiomOfChoice Oz
      have Oy:∀i,(encL l (f i).1).length=l.length:=λi=>by
       rw[(hf i).2.1.len,(World.cells?_some (hf i).2.2.1).2.1,hsz]
      have ZQ:fm w (λ_=>True) (.sl ((List.ofFn λi:Fin len=>iR l (f i).1).map (enc (yz l)))) (.slice (some a) ((List.ofFn λi:Fin len=>iR l (f i).1).map (enc (yz l))).length cap):=by
       have el:((List.ofFn λi:Fin len=>iR l (f i).1).map (enc (yz l))).length=len:=by simp
       have eg:∀i (hi:i<((List.ofFn λi:Fin len=>iR l (f i).1).map (enc (yz l))).length),((List.ofFn λi:Fin len=>iR l (f i).1).map (enc (yz l)))[i]=encL l (f ⟨i,by omega⟩).1:=by
        intro i hi;simp[Bv]
       refine .sl l.length (λi j=>if h:i<len then(f ⟨i,h⟩).2.getD j undef else undef) (λi hi=>by rw[eg i hi,Oy]) (by rw[el];exact YO) hmax (λh=>by cases h) (λi j hi hj=>?_) (λi j hi hj=>?_)
       ·rw[el]at hi
        have cell:∀i' (ZK:i'<len) j',j'<l.length->w.cell? ((a.add (i'*l.length)).add j')=some ((f ⟨i',ZK⟩).2.getD j' undef):=by
         intro i' ZK j' ZT;have h1:=World.cells?_some (hf ⟨i',ZK⟩).2.2.1;have h2:=h1.2.2 j' (by omega);rw[hsz];rw[h2]
         have:j'<(f ⟨i',ZK⟩).2.length:=by rw[h1.2.1];omega
         simp[this]
        have h0:=World.cell?_spot (cell 0 (by omega) 0 (by omega));obtain⟨b,o,spot⟩:=a
        have R':spot=none:=by simpa[Addr.add]using h0
        subst R';refine⟨b,o,rfl,trivial,?_⟩;have h2:=cell i hi j hj;rw[Go.WideShapes.add_plain,Go.WideShapes.add_plain]at h2;rw[dif_pos hi,<- h2,Nat.add_assoc]
       ·rw[el]at hi;have hr:=(hf ⟨i,hi⟩).2.1
        have X9:j<(encL l (f ⟨i,hi⟩).1).length:=by rw[eg i (by omega)]at hj;exact hj
        have TF:j<(f ⟨i,hi⟩).2.length:=by rw[<- hr.len];exact X9
        have h3:=hr.get j X9 TF
        have e1:(if h:i<len then(f ⟨i,h⟩).2.getD j undef else undef)=(f ⟨i,hi⟩).2[j]:=by
         rw[dif_pos hi];simp[TF]
        simp only[e1];have e2:((List.ofFn λi:Fin len=>iR l (f i).1).map (enc (yz l)))[i]'(by omega)=encL l (f ⟨i,hi⟩).1:=eg i (by omega);simp only[e2];exact h3
      rw[List.length_map,List.length_ofFn]at ZQ;refine⟨(List.ofFn λi:Fin len=>iR l (f i).1,()),⟨⟨by rw[List.length_ofFn];omega,λx hx=>?_⟩,trivial⟩,⟨ZQ,trivial⟩,?_⟩
      rotate_left
      ·rw[hd];refine Nat.le_trans ?_ (hB.sl _ _);show 1+(List.map (kY (yz l)) (List.ofFn λi:Fin len=>iR l (f i).1)).sum+0<=_;rw[List.map_ofFn,List.map_map]
       have:=yG (f:=kY (yz l) ∘ λi:Fin len=>iR l (f i).1) (l:=Wt.map λx=>B x.1) (by simpa using YZ) λi=>by
        rw[Function.comp,AD];exact(hf i).2.2.2
       have e:(Wt.map (B ∘ λx=>x.1)).sum=(Wt.map λx=>B x.1).sum:=rfl;rw[e];omega
      obtain⟨i,rfl⟩:=List.mem_ofFn.1 hx;exact xK _ _ (hf i).1
    ·cases hL
   ·cases hL
  ·rename_i fs ht;split at hL
   ·rename_i l hl;split at hL
    ·rename_i hsz
     injection hL with hL
     subst hL;obtain⟨xs,m,_,hd,hlen,Sv,hf⟩:=DataW.trod_struct ht hx;obtain⟨h,g,r,z⟩:=Fk (cs:=cs) (m:=m) (λt L hL cs x hx=>ih t L hL m cs x hx) fs.toList xs 0 l hl (by simpa using Sv) λi f hi=>hf i f (by simpa using hi);refine⟨h,g,?_,by rw[hd];exact Nat.le_trans z (by have:=hB.ag (xs.map (·.1));rw[List.map_map]at this;exact this)⟩;rw[List.drop_zero,hsz,<- hlen,List.take_length]at r;exact r
    ·cases hL
   ·cases hL
  ·cases hL
theorem intake_arg(hB:Bulk B)(n:Nat){t:TypeId}{L:List CT}{v:Value}{d:DataW H}{p:List MemPlace}(hL:rq P n t=some L)(h:DataW.Trod ec P w base spare held t v d p):
 ∃h:HL den L,GoodL L h/\RelL w (encL L h) v.cells.toList/\sizL L h<=B d:=by
 obtain⟨XG,hf⟩:=h;exact Le hB n t L hL XG _ _ hf
end
theorem plain_one{w:World}{t:TV}{v:Value}(r:RelL w [t] [v]):yw w t v:=r.1.plain
theorem plain_agg{w:World}{l:List TV}{cs:Array Value}(r:RelL w l cs.toList):yw w (.agg l) (.agg cs):=by
 intro F V C G hF
 have hl:cs.size=l.length:=by rw[r.len];simp
 refine .agg hl λj hj=>?_
 have X9:j<cs.toList.length:=by simp_all
 have h1:=(r.get j hj X9).plain F V C G hF
 simp_all
theorem K8{C:CC}{T:TT'}(hC:Sm C)(hT:Sm T):∃b,fW C T=some (b,()):=by
 unfold fW;have h0:=hC;have h1:=hT
 obtain⟨t,e,ht⟩:=mg (f:=ie) (λs=>∃i:Nat,s.2.1=i/\i<=C.length/\s.2.2.1=C/\s.2.2.2.1=T) (λt=>t.2.2.2.2.1=T) (λs=>C.length-s.2.1.toNat) (n:=NN) (s:=(0,0,C,T,())) ⟨0,rfl,Nat.zero_le _,rfl,rfl⟩ (by unfold NN;show C.length-(0:Int).toNat<_;omega) (by
  rintro⟨v0,v1,v2,v3,_⟩ ⟨i,e1,hi,e2,e3⟩;dsimp only at e1 e2 e3;subst e1 e2 e3;unfold ie;delta bf;dsimp only;by_cases hl:i<v2.length
  ·rw[oDT (show(i:Int)<v2.length by omega),oCT,bj];simp only[oBS,bw hl];rw[bz (x:=(i:Int)+1) (by omega) (by omega)];exact⟨_,rfl,⟨i+1,rfl,by omega,rfl,rfl⟩,by show v2.length-((i:Int)+1).toNat<v2.length-(i:Int).toNat;omega⟩
  ·rw[oDF (show ¬(i:Int)<v2.length by omega)]
   exact⟨_,rfl,rfl⟩)
 rw[e,oBS];obtain⟨x0,x1,x2,x3,x4,_⟩:=t;dsimp only at ht⊢;subst ht
 obtain⟨t,e,_⟩:=mg (f:=ic) (λs=>∃i:Nat,s.2.1=i/\i<=x4.length/\s.2.2.2.1=x4) (λt=>True) (λs=>x4.length-s.2.1.toNat) (n:=NN) (s:=(x0,0,x3,x4,())) ⟨0,rfl,Nat.zero_le _,rfl⟩ (by unfold NN;show x4.length-(0:Int).toNat<_;omega) (by
  rintro⟨v0,v1,v2,v3,_⟩ ⟨i,e1,hi,e2⟩;dsimp only at e1 e2;subst e1 e2;unfold ic;delta bf;dsimp only;by_cases hl:i<v3.length
  ·rw[oDT (show(i:Int)<v3.length by omega),oCT,bj];simp only[oBS,bw hl];rw[bz (x:=(i:Int)+1) (by omega) (by omega)];exact⟨_,rfl,⟨i+1,rfl,by omega,rfl⟩,by show v3.length-((i:Int)+1).toNat<v3.length-(i:Int).toNat;omega⟩
  ·rw[oDF (show ¬(i:Int)<v3.length by omega)]
   exact⟨_,rfl,trivial⟩)
 rw[e,oBS];exact⟨_,rfl⟩
theorem Mi{L:List PG}(hL:L.length<=1099511627776):∃b,gT L=some (b,()):=by
 unfold gT
 obtain⟨t,e,_⟩:=mg (f:=iS) (λs=>∃i:Nat,s.2.2.1=i/\i<=L.length/\s.1=L) (λt=>True) (λs=>L.length-s.2.2.1.toNat) (n:=NN) (s:=(L,0,0,())) ⟨0,rfl,Nat.zero_le _,rfl⟩ (by unfold NN;show L.length-(0:Int).toNat<_;omega) (by
  rintro⟨v0,v1,v2,_⟩ ⟨i,e1,hi,e2⟩;dsimp only at e1 e2;subst e1 e2;unfold iS;delta bf;dsimp only;by_cases hl:i<v0.length
  ·rw[oDT (show(i:Int)<v0.length by omega),oCT,bj];simp only[oBS,bw hl];rw[bz (x:=(i:Int)+1) (by omega) (by omega)];exact⟨_,rfl,⟨i+1,rfl,by omega,rfl⟩,by show v0.length-((i:Int)+1).toNat<v0.length-(i:Int).toNat;omega⟩
  ·rw[oDF (show ¬(i:Int)<v0.length by omega)]
   exact⟨_,rfl,trivial⟩)
 rw[e,oBS];exact⟨_,rfl⟩
theorem uN{b:Bool}{t:CT}(h:∀x:den t,1<=kY t x):∀xs:List (den t),xs.length<=kY (.row b t) xs:=by
 intro xs;show xs.length<=1+(xs.map (kY t)).sum
 induction xs with
 |nil=>exact Nat.zero_le _
 |cons x r ih=>rw[List.map_cons,List.sum_cons,oLC];have:=h x;omega
theorem yH{α:Type}{f:α->Nat}{l:List α}{x:α}(h:x∈l):f x<=(l.map f).sum:=by
 induction l with
 |nil=>simp at h
 |cons y r ih=>
  rw[List.map_cons,List.sum_cons];rcases List.mem_cons.1 h with e|h
  ·subst e;omega
  ·have:=ih h;omega
theorem FP(c:List DCn):c.length<=kY bn c:=uN (b:=false) (t:=KCn) (λx=>by show 1<=1 + _;omega) c
theorem It(t:DTs):t.2.2.2.2.2.2.2.length<=kY bF t:=by
 have h5:kY bF t=1+(1+(1+(1+(1+(1+(1+kY bn t.2.2.2.2.2.2.2)))))):=rfl;have h6:=FP t.2.2.2.2.2.2.2;omega
theorem EA{g:HL den [.row false bn,.row false bF]}(h:sizL [.row false bn,.row false bF] g<=1048576):StK g.1 g.2.1:=by
 obtain⟨C,T,z⟩:=g;have e:sizL [.row false bn,.row false bF] (C,T,z)=kY (.row false bn) C+(kY (.row false bF) T+0):=rfl;have h1:=uN (b:=false) (t:=bn) (λx=>by show 1<=1 + _;omega) C;have h2:=uN (b:=false) (t:=bF) (λx=>by show 1<=1 + _;omega) T;have h4:kY (.row false bF) T=1+(T.map (kY bF)).sum:=rfl;have h5:kY (.row false bn) C=1+(C.map (kY bn)).sum:=rfl;refine⟨show C.length<=_ by omega,λc hc=>?_,show T.length<=_ by omega,λt ht=>?_⟩
 ·have h3:kY bn c<=(C.map (kY bn)).sum:=yH hc;have h6:=FP c;unfold Sm;omega
 ·have h3:kY bF t<=(T.map (kY bF)).sum:=yH ht;have h6:=It t;unfold Sm;omega
abbrev KPg:CT:=.pair I64 (.pair I64 (.pair bn bF))
theorem EB{L:List PG}(h:kY (.row false KPg) L<=1048576)(g:Ar (.row false KPg) L):L.length<=1048576/\∀p∈L,PgW p:=by
 have h1:=uN (b:=false) (t:=KPg) (λx=>by show 1<=1 + _;omega) L;have h4:kY (.row false KPg) L=1+(L.map (kY KPg)).sum:=rfl;refine⟨Nat.le_trans h1 h,λp hp=>?_⟩;have h3:kY KPg p<=(L.map (kY KPg)).sum:=yH hp;have h5:kY KPg p=1+(1+(kY bn p.2.2.1+kY bF p.2.2.2)):=rfl;have h6:=FP p.2.2.1;have h7:=It p.2.2.2;have hg:Ar KPg p:=g.2 p hp;refine⟨⟨show p.2.2.1.length<=_ by omega,show p.2.2.2.2.2.2.2.2.2.2.length<=_ by omega⟩,?_⟩;simp only[wfP,oBA];exact⟨hg.1,hg.2.1⟩
theorem law_DeltaRaw{h0 h1:HL den [.row false bn,.row false bF]}{h2 h3 h4:HL den [I64]}{h5 h6:HL den [I64,I64,.row false KPg]}(g0:GoodL _ h0)(g1:GoodL _ h1)(g2:GoodL _ h2)(g3:GoodL _ h3)(g4:GoodL _ h4)(g5:GoodL _ h5)(g6:GoodL _ h6)
 (hz:sizL [.row false bn,.row false bF] h0+(sizL [.row false bn,.row false bF] h1+(sizL [I64] h2+(sizL [I64] h3+(sizL [I64] h4+(sizL [I64,I64,.row false KPg] h5+(sizL [I64,I64,.row false KPg] h6+(0)))))))<=1048576):
 ld.g (appL [.row false bn,.row false bF] _ h0 (appL [.row false bn,.row false bF] _ h1 (appL [I64] _ h2 (appL [I64] _ h3 (appL [I64] _ h4 (appL [I64,I64,.row false KPg] _ h5 (appL [I64,I64,.row false KPg] _ h6 ())))))))=some (true,()):=by
 have a0:=EA (g:=h0) (by omega);have a1:=EA (g:=h1) (by omega);obtain⟨f,t,xs,z5⟩:=h5;obtain⟨g,u,ys,z6⟩:=h6;have e5:sizL [I64,I64,.row false KPg] (f,t,xs,z5)=1+(1+(kY (.row false KPg) xs+0)):=rfl;have e6:sizL [I64,I64,.row false KPg] (g,u,ys,z6)=1+(1+(kY (.row false KPg) ys+0)):=rfl;obtain⟨b0,b1⟩:=EB (L:=xs) (by omega) g5.2.2.1;obtain⟨c0,c1⟩:=EB (L:=ys) (by omega) g6.2.2.1;show ig h0.1 h0.2.1 h1.1 h1.2.1 h2.1 h3.1 h4.1 f t xs g u ys=some (true,());unfold ig;obtain⟨l0,k0⟩:=K8 a0.1 a0.2.2.1;obtain⟨l1,k1⟩:=K8 a1.1 a1.2.2.1;obtain⟨l2,k2⟩:=Mi (L:=xs) (by omega);obtain⟨l3,k3⟩:=Mi (L:=ys) (by omega);have ag:=Kf a0 a1 (xs:=xs) (ys:=ys) (by omega) (by omega) b1 c1 h2.1 h3.1 h4.1 f t g u;rw[k0,k1,k2,k3,J9];cases l0<;>cases l1<;>cases l2<;>cases l3<;>simp only[oNT,Bool.not_false,oCT,oCF,oBS,ag]
end Go.Proofs.Ytbdhpgelkfncpaa
