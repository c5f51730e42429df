/- Part of the proof; no condition. -/
import Derived.Test.YtbdhpgelkfncpaaHd
import Derived.Deep.RegionLaw
import Derived.Test.YtbdhpgelkfncpaaProg
import Derived.KernelRfl
import Derived.WalkKit
import Derived.WalkSpells
import Derived.Handy
import Derived.OpenShut
import Derived.Deep.Slices
set_option linter.unusedVariables false
set_option linter.unusedSimpArgs false
namespace Go.Proofs.Ytbdhpgelkfncpaa
open Go.RowKit Go.Maps
def DJ:jl:=(0,0,[],0,0,0,0,0,0,0,[])
def jd(p:jl):Int×Int:=(p.1,p.2.1)
def ib(L:List jl)(id:Int×Int):jl:=L.foldl (λa p=>if jd p=id then p else a) DJ
theorem zN{L:List jl}{k:Nat}(h:k<L.length)(id:Int×Int):ib (L.take (k+1)) id=if jd L[k]=id then L[k]else ib (L.take k) id:=by
 unfold ib;rw[List.take_succ_eq_append_getElem h,List.foldl_append];rfl
def rId:Rp (Int×Int):=nb (rI .i64) (rI .i64)
theorem IS:RIm rId (enc (.pair (.int .i64) (.int .i64))) λ_=>True:=(fu (nU _) (nU _)).weak (λ_=>rfl) λ_ _=>⟨trivial,trivial⟩
theorem My:SlT Try.prog 68 56 rId.size 16:=
 ⟨by kernel_rfl,by
  have h:(Try.prog.info? 56).map (λi=>(i.zero,i.size,i.bytes))=some (some (.agg #[.int .i64 0,.int .i64 0]),2,16):=by kernel_rfl
  obtain⟨i,hi,hz,hs,hb⟩:=info_parts h
  exact⟨i,_,hi,hz,hs,hb,rfl⟩,rId.pos⟩
theorem Mg{w:World}{F:Nat->Prop}(x:Int×Int):rId.rep w F x [.int .i64 x.1,.int .i64 x.2]:=⟨[_],_,rfl,rfl,rfl⟩
theorem Lm{w:World}{F:Nat->Prop}{x:Int×Int}{cs:List Value}(h:rId.rep w F x cs):cs=[.int .i64 x.1,.int .i64 x.2]:=by
 obtain⟨_,_,rfl,rfl,rfl⟩:=h;rfl
def pgC(p:jl)(y z:Value):List Value:=.int .i64 p.1 :: .int .i64 p.2.1::y::vwC p.2.2.2 z
theorem Bx{w:World}{F:Nat->Prop}{p:jl}{cs:List Value}(h:rPg.rep w F p cs):∃y z,cs=pgC p y z/\RSl rCn w F p.2.2.1 y/\RSl rCn w F p.2.2.2.2.2.2.2.2.2.2 z:=by
 obtain⟨_,_,rfl,rfl,_,_,rfl,rfl,_,_,rfl,⟨y,rfl,hy⟩,hv⟩:=h;obtain⟨z,rfl,hz⟩:=IH hv;exact⟨y,z,rfl,hy,hz⟩
theorem Ma{w:World}{F:Nat->Prop}{p:jl}{y z:Value}(hy:RSl rCn w F p.2.2.1 y)(hz:RSl rCn w F p.2.2.2.2.2.2.2.2.2.2 z):rPg.rep w F p (pgC p y z):=
 ⟨[_],_,rfl,rfl,[_],_,rfl,rfl,[_],_,rfl,⟨y,rfl,hy⟩,L6 hz⟩
theorem Gr(w:World)(F:Nat->Prop):∃cs:List Value,zPg=.agg cs.toArray/\rPg.rep w F DJ cs:=⟨_,rfl,Ma (p:=DJ) (RSl.nil _ _) (RSl.nil _ _)⟩
theorem uN{α:Type}{R:Rp α}{w:World}{F:Nat->Prop}:∀{xs:List α}{cs:List Value},fC R w F xs cs->∃WS:List (List Value),WS.length=xs.length/\cs=WS.flatten/\∀k (h:k<xs.length)(h':k<WS.length),R.rep w F xs[k] WS[k]
 | [],_,h=>⟨[],rfl,h,λk h=>by cases h⟩
 |x::r,_,⟨c,d,e,h1,h2⟩=>by
  obtain⟨WS,e1,e2,e3⟩:=uN h2;refine⟨c::WS,by simp[e1],by rw[e,e2];rfl,λk h h'=>?_⟩
  cases k with
  |zero=>exact h1
  |succ k=>exact e3 k (by simpa using h) (by simpa using h')
def Jc(F:Nat->Prop)(w:World):Prop:=∀(w':World)(p:jl)(cs:List Value),w.grownBy w' none->rPg.rep w' F p cs->Calls Try.prog 34 #[.agg cs.toArray] w' λe w2=>∃Ve,e=.returned (.agg Ve.toArray)/\rPg.rep w2 (λk=>F k\/w'.heap.size<=k) p Ve/\w'.grownBy w2 none
def Mu(ids sids:List (Int×Int))(w:World):Prop:=∀(w':World)(V:Value)(G:Nat->Prop),w.grownBy w' none->RSl rId w' G ids V->Calls Try.prog 33 #[V,.slice none 0 0] w' λe w2=>∃v,e=.returned v/\RSl rId w2 (λk=>G k\/w'.heap.size<=k) sids v/\w'.grownBy w2 none
def KD(x:Int×Int):Prop:=(Lit.int .i64 x.1).wf=true/\(Lit.int .i64 x.2).wf=true
theorem MgS.row{w wr w':World}{xf xt yf yt:Int}{X Y:Value}{row:Option Nat}(h:MgS w xf xt yf yt X Y (w.heap.size+1+1+1) wr)(hg:wr.grownBy w' row)(hr:∀x,row=some x->w.heap.size+1+1+1<x):MgS w xf xt yf yt X Y (w.heap.size+1+1+1) w':=
 ⟨gi h.grown hg λx e=>by have:=hr x e;omega,h.b2.keep (hg.block _ h.b2.hi λe=>by have:=hr _ e.symm;omega),h.b3.keep (hg.block _ h.b3.hi λe=>by have:=hr _ e.symm;omega),h.b4.keep (hg.block _ h.b4.hi λe=>by have:=hr _ e.symm;omega),h.b6.keep (hg.block _ h.b6.hi λe=>by have:=hr _ e.symm;omega)⟩
structure M2 (w:World)(xf xt yf yt:Int)(X Y:Value)(F:Nat->Prop)(L:List Value)(b9 B2:Nat)(wL:World)(ps:List jl)(k m:Nat)(idsV:Value)(wr:World):Prop where
 bs:MgS w xf xt yf yt X Y (w.heap.size+1+1+1) wr
 map:∃f,PMp wr L b9 k f/\∀id,∃cs:List Value,f id=.agg cs.toArray/\rPg.rep wr F (ib (ps.take k) id) cs
 ids:Mk rId 56 B2 wr (λ_=>False) idsV ((ps.take m).map jd)
 same:∀x,x<B2->x≠b9->wr.heap[x]?=wL.heap[x]?
 size:B2<=wr.heap.size
 b9q:w.heap.size+1+1+1<b9
 b9B:b9<B2
theorem zB{w wr w':World}{F:Nat->Prop}{p:jl}{cs:List Value}(hF:∀x,F x->x<w.heap.size)(hs:w.heap.size<=wr.heap.size)(h:rPg.rep wr F p cs){row:Option Nat}(hg:wr.grownBy w' row)(hr:∀x,row=some x->w.heap.size<=x):rPg.rep w' F p cs:=
 rPg.keep h λx hx=>hg.block x (by have:=hF x hx;omega) λe=>by have:=hr x e.symm;have:=hF x hx;omega
theorem M2.over{w:World}{xf xt yf yt:Int}{X Y:Value}{F:Nat->Prop}{L:List Value}{b9 B2:Nat}{wL:World}{ps:List jl}{k m m':Nat}{idsV Uz:Value}{wr w':World}{row:Option Nat}(h:M2 w xf xt yf yt X Y F L b9 B2 wL ps k m idsV wr)(hF:∀x,F x->x<w.heap.size)
 (hg:wr.grownBy w' row)(hr:∀x,row=some x->B2<=x)(hi:Mk rId 56 B2 w' (λ_=>False) Uz ((ps.take m').map jd)):M2 w xf xt yf yt X Y F L b9 B2 wL ps k m' Uz w':=by
 have h1:=h.b9q;have h2:=h.b9B;have h3:=h.size;refine⟨h.bs.row hg λx e=>by have:=hr x e;omega,?_,hi,λx hx hn=>(hg.block x (by omega) λe=>by have:=hr x e.symm;omega).trans (h.same x hx hn),Nat.le_trans h3 hg.size,h1,h2⟩;obtain⟨f,hP,hf⟩:=h.map;refine⟨f,hP.kept hg λe=>by have:=hr _ e.symm;omega,λid=>?_⟩;obtain⟨cs,e,hc⟩:=hf id;exact⟨cs,e,zB hF h.bs.grown.size hc hg λx e=>by have:=hr x e;omega⟩
theorem M2.grow{w:World}{xf xt yf yt:Int}{X Y:Value}{F:Nat->Prop}{L:List Value}{b9 B2:Nat}{wL:World}{ps:List jl}{k m:Nat}{idsV:Value}{wr w':World}(h:M2 w xf xt yf yt X Y F L b9 B2 wL ps k m idsV wr)(hF:∀x,F x->x<w.heap.size)
 (hg:wr.grownBy w' none):M2 w xf xt yf yt X Y F L b9 B2 wL ps k m idsV w':=h.over hF hg (λ_ e=>by cases e) (h.ids.grow hg)
theorem M2.put{w:World}{xf xt yf yt:Int}{X Y:Value}{F:Nat->Prop}{L:List Value}{b9 B2:Nat}{wL:World}{ps:List jl}{k m:Nat}{idsV:Value}{wr w':World}{p:jl}{cs:List Value}{f:Int×Int->Value}(h:M2 w xf xt yf yt X Y F L b9 B2 wL ps k m idsV wr)(hF:∀x,F x->x<w.heap.size)
 (hg:wr.grownBy w' (some b9))(hP:PMp w' L b9 (k+1) λx=>if x=jd p then .agg cs.toArray else f x)(hf:∀id,∃cs:List Value,f id=.agg cs.toArray/\rPg.rep wr F (ib (ps.take k) id) cs)(hrep:rPg.rep wr F p cs)
 (Qv:∀id,ib (ps.take (k+1)) id=if jd p=id then p else ib (ps.take k) id):M2 w xf xt yf yt X Y F L b9 B2 wL ps (k+1) m idsV w':=by
 have h1:=h.b9q;have h2:=h.b9B;have h3:=h.size;refine⟨h.bs.row hg λx e=>by injection e with e;omega,⟨_,hP,λid=>?_⟩,?_,λx hx hn=>(hg.block x (by omega) λe=>by injection e with e;exact hn e).trans (h.same x hx hn),Nat.le_trans h3 hg.size,h1,h2⟩
 ·rw[Qv id];by_cases e:jd p=id
  ·rw[oIP e,oIP e.symm];exact⟨cs,rfl,zB hF h.bs.grown.size hrep hg λx e=>by injection e with e;omega⟩
  ·rw[oIN e,oIN λh=>e h.symm];obtain⟨Ve,e',hc⟩:=hf id;exact⟨Ve,e',zB hF h.bs.grown.size hc hg λx e=>by injection e with e;omega⟩
 ·have ZP:=h.ids.row;obtain⟨ds,d1,d2,d3⟩:=h.ids;refine⟨ds,d1.kept hg ?_,d2,fC.keep (λk hk=>hk.1.elim) d3⟩;cases hv:idsV.ownBlock
  ·exact .inl rfl
  ·exact .inr λe=>by injection e with e;have:=(ZP _ hv).1;omega
structure M3 (w:World)(xf xt yf yt:Int)(X Y:Value)(F:Nat->Prop)(L:List Value)(b9 n q13 B3:Nat)(ps:List jl)(G:Nat->Prop)(sids:List (Int×Int))(SV:Value)(k:Nat)(wr:World):Prop where
 bs:MgS w xf xt yf yt X Y (w.heap.size+1+1+1) wr
 map:∃f,PMp wr L b9 n f/\∀id,∃cs:List Value,f id=.agg cs.toArray/\rPg.rep wr F (ib ps id) cs
 ids:RSl rId wr G sids SV
 out:∃v,Bk wr q13 28 [.int .i64 xf,.int .i64 yt,v]/\Mk rPg 58 B3 wr (λx=>F x\/B3<=x) v ((sids.take k).map (ib ps))
 size:B3<=wr.heap.size
theorem M3.grow{w:World}{xf xt yf yt:Int}{X Y:Value}{F:Nat->Prop}{L:List Value}{b9 n q13 B3:Nat}{ps:List jl}{G:Nat->Prop}{sids:List (Int×Int)}{SV:Value}{k:Nat}{wr w':World}(h:M3 w xf xt yf yt X Y F L b9 n q13 B3 ps G sids SV k wr)(hg:wr.grownBy w' none):M3 w xf xt yf yt X Y F L b9 n q13 B3 ps G sids SV k w':=by
 refine⟨h.bs.grow hg,?_,h.ids.grow hg,?_,Nat.le_trans h.size hg.size⟩
 ·obtain⟨f,hP,hf⟩:=h.map;refine⟨f,hP.kept hg (by simp),λid=>?_⟩;obtain⟨cs,e,hc⟩:=hf id;exact⟨cs,e,rPg.grow hc hg⟩
 ·obtain⟨v,h1,h2⟩:=h.out;exact⟨v,h1.grow hg,h2.grow hg⟩
theorem M3.next{w:World}{xf xt yf yt:Int}{X Y:Value}{F:Nat->Prop}{L:List Value}{b9 n q13 B3:Nat}{ps:List jl}{G:Nat->Prop}{sids:List (Int×Int)}{SV:Value}{k:Nat}{wr w':World}(h:M3 w xf xt yf yt X Y F L b9 n q13 B3 ps G sids SV k wr)
 (hF:∀x,F x->x<w.heap.size)(hG:∀x,G x->x<B3/\x≠q13)(h9:w.heap.size+1+1+1<b9)(h9q:b9<q13)(hqB:q13<B3){row:Option Nat}(hg:wr.grownBy w' row)(hr:∀x,row=some x->B3<=x){v0 v:Value}(hb:Bk w' q13 28 [.int .i64 xf,.int .i64 yt,v0])
 (YN:Mk rPg 58 B3 w' (λx=>F x\/B3<=x) v ((sids.take (k+1)).map (ib ps))):M3 w xf xt yf yt X Y F L b9 n q13 B3 ps G sids SV (k+1) (w'.setCell ⟨q13,2,none⟩ v):=by
 have h3:=h.size;have ZH:w'.grownBy (w'.setCell ⟨q13,2,none⟩ v) (some q13):=grown_set (bY _ _) (.inl rfl) _;have ZD:∀x,x<B3->x≠q13->(w'.setCell ⟨q13,2,none⟩ v).heap[x]?=wr.heap[x]?:=λx hx hn=>(cX _ _ _ hn).trans (hg.block x (by omega) λe=>by have:=hr x e.symm;omega);have hw:=h.bs.grown.size;refine⟨(h.bs.row hg λx e=>by have:=hr x e;omega).row ZH λx e=>by injection e with e;omega,?_,h.ids.keep λx hx=>ZD x (hG x hx).1 (hG x hx).2,⟨v,hb.set 2 v,YN.setBelow hqB (λhx=>by rcases hx with hx|hx;(have:=hF _ hx;dsimp only at this;omega);(dsimp only at hx;omega)) v⟩,by rw[vw];exact Nat.le_trans h3 hg.size⟩;obtain⟨f,hP,hf⟩:=h.map;refine⟨f,(hP.kept hg λe=>by have:=hr _ e.symm;omega).kept ZH λe=>by injection e with e;omega,λid=>?_⟩;obtain⟨cs,e,hc⟩:=hf id;exact⟨cs,e,rPg.keep hc λx hx=>ZD x (by have:=hF x hx;omega) (by have:=hF x hx;omega)⟩
section
variable {α:Type} {P:Program} {w:World} {R:Rp α} {t e:TypeId} {bytes:Nat}
theorem Cl{ops:Array Oper}{o:Oper}{a:Act}{K:Act->World->Prop}{Q:Exit->Act->World->Prop}{E:Prop}(Yg:o.guard=none)(s x:Operand)(T:SlT P t e R.size bytes)(YD:bytes<=128)(ho:o.op=.call { callee:=.builtin .append,args:=#[s,x],argTypes:=#[t,t] })
 (base:Nat)(G:Nat->Prop)(v:Value)(xs:List α)(hs:a.eval s=v)(hown:Mk R e base w G v xs)(ZE:base<=w.heap.size)
 (b:Nat)(y:α)(cs:List Value)(hx:a.eval x=.slice (some ⟨b,0,none⟩) 1 1)(hy:R.rep w (λk=>G k/\some k≠v.ownBlock) y cs)(hc:∀(j:Nat) u,cs[j]?=some u->w.cell? ⟨b,j,none⟩=some u)
 (hlen:xs.length+1<=1099511627776)
 (h:∀v' w',Mk R e base w' G v' (xs++[y])->w.grownBy w' v.ownBlock->K (a.put o.dst v') w'):if Region.wanted o (yielded ops a.tmps)=true then Oper.wp P o a w K Q else E:=by
 have hw:Region.wanted o (yielded ops a.tmps)=true:=by simp[Region.wanted,Yg]
 rw[oIP hw];obtain⟨ds,h1,h2,h3⟩:=hown
 have hcell:∀(j:Nat) u,cs[j]?=some u->w.cell? ((⟨b,0,none⟩:Addr).add j)=some u:=λj u hu=>by
  rw[show(⟨b,0,none⟩:Addr).add j=⟨b,j,none⟩ by unfold Addr.add;split<;>simp_all];exact hc j u hu
 obtain⟨v',w',hrun,ZZ,hg,W1⟩:=nz (P:=P) (w:=w) T o.type base v xs.length ds h1 ⟨b,0,none⟩ 1 1 cs (by rw[R.len hy];simp) hcell (R.one hy) (se (by omega)) (wP hlen YD) ZE;unfold Oper.wp;simp only[execOp,ho,resolve,invoke,builtin,Sem.run_bind,Sem.run_pure,Result.andThen_ok,List.map_toArray,List.map_cons,List.map_nil,hs,hx,hrun];refine h v' w' ⟨ds++cs,by rw[List.length_append];exact ZZ,by simpa using hlen,?_⟩ hg;have ZW:=(fC.append h3 (fC.single hy)).live;refine(fC.keep (w':=w') (λk hk=>hg.block k hk.2 hk.1.2) ZW).sub λk hk=>⟨hk.1.1,?_⟩;rcases W1 with e|W1
 ·rw[e];exact hk.1.2
 ·intro e;have:=W1 k e.symm;omega
end
set_option maxRecDepth 100000 in
set_option maxHeartbeats 8000000 in
theorem CY(F:Nat->Prop)(xs ys:List jl)(sids:List (Int×Int))(X Y:Value)(xf xt yt:Int)(w:World)(hx:RSl rPg w F xs X)(hy:RSl rPg w F ys Y)
 (Tz:Gm (.agg #[.int .i64 xf,.int .i64 xt,X]) 0 w)(TC:Gm (.agg #[.int .i64 xt,.int .i64 yt,Y]) 0 w)(ND:∀p∈xs++ys,KD (jd p))(Sg:∀s∈sids,KD s)(hlen:xs.length+ys.length<=1099511627776)(Wb:sids.length<=1099511627776)
 (M6:Mu ((xs++ys).map jd) sids w)(QA:Jc (λk=>F k/\k<w.heap.size) w):
 Calls Try.prog 16 #[.agg #[.int .i64 xf,.int .i64 xt,X],.agg #[.int .i64 xt,.int .i64 yt,Y]] w λe w'=>
  ∃v,e=.returned (.tuple #[.agg #[.int .i64 xf,.int .i64 yt,v],.int .i64 0])/\RSl rPg w' (λk=>F k\/w.heap.size<=k) (sids.map (ib (xs++ys))) v/\w.grownBy w' none:=by
 have HX:=Lib.hid hx;have HY:=Lib.hid hy;obtain⟨A1,c1,rfl,_,_,Sz⟩:=hx.size_eq;obtain⟨A2,c2,rfl,_,_,P1⟩:=hy.size_eq;have QK:=Lib.hid Tz;have SM:=Lib.hid TC;have HWF:=Lib.hid ND;have HSW:=Lib.hid Sg;have HDM:=Lib.hid M6;have HPG:=Lib.hid QA;have SO:=Lib.hid (And.intro hlen Wb);obtain⟨n1,XF⟩:∃n,n=xs.length:=⟨_,rfl⟩;obtain⟨n2,Vk⟩:∃n,n=ys.length:=⟨_,rfl⟩;obtain⟨yf,QD⟩:∃yf,yf=xt:=⟨_,rfl⟩;obtain⟨cd,TA⟩:∃cd:Int,cd=0:=⟨_,rfl⟩;obtain⟨ce,TD⟩:∃ce:Int,ce=0:=⟨_,rfl⟩;rw[<- XF]at HX QK⊢;rw[<- Vk]at HY SM⊢;rw[<- QD]at SM;rw[<- TA]at QK;rw[<- TD]at SM;have HCC:=Lib.hid (And.intro TA TD);have HN:=Lib.hid (And.intro XF Vk);have HYF:=Lib.hid QD
 have eY:(Value.agg #[.int .i64 xt,.int .i64 yt,.slice A2 n2 c2])=.agg #[.int .i64 yf,.int .i64 yt,.slice A2 n2 c2]:=by rw[QD]
 rw[eY];clear hx hy Tz TC ND Sg M6 QA hlen Wb TA TD XF Vk QD Sz P1 eY
 go_enter Try.func16,Try.ntmps16
 go_upto_region 2 with fail
 have Q5:MgS w xf xt yf yt (.slice A1 n1 c1) (.slice A2 n2 c2) (w.heap.size+1+1+1) ((((w.alloc (.cells #[.int .i64 xf,.int .i64 xt,.slice A1 n1 c1] 28)).alloc (.cells #[.int .i64 yf,.int .i64 yt,.slice A2 n2 c2] 28)).alloc (.cells #[.int .i64 0,.int .i64 0,.slice none 0 0] 28)).alloc (.cells #[.int .i64 xf,.int .i64 xt,.slice A1 n1 c1,.int .i64 yf,.int .i64 yt,.slice A2 n2 c2] 28)):=by
  have e1:(w.alloc (.cells #[.int .i64 xf,.int .i64 xt,.slice A1 n1 c1] 28)).heap.size=w.heap.size+1:=by simp
  have e2:((w.alloc (.cells #[.int .i64 xf,.int .i64 xt,.slice A1 n1 c1] 28)).alloc (.cells #[.int .i64 yf,.int .i64 yt,.slice A2 n2 c2] 28)).heap.size=w.heap.size+1+1:=by simp
  have e3:(((w.alloc (.cells #[.int .i64 xf,.int .i64 xt,.slice A1 n1 c1] 28)).alloc (.cells #[.int .i64 yf,.int .i64 yt,.slice A2 n2 c2] 28)).alloc (.cells #[.int .i64 0,.int .i64 0,.slice none 0 0] 28)).heap.size=w.heap.size+1+1+1:=by simp
  have g1:w.grownBy (w.alloc (.cells #[.int .i64 xf,.int .i64 xt,.slice A1 n1 c1] 28)) none:=bW (bY _ _) _;have b2:Bk (w.alloc (.cells #[.int .i64 xf,.int .i64 xt,.slice A1 n1 c1] 28)) w.heap.size 28 [.int .i64 xf,.int .i64 xt,.slice A1 n1 c1]:=Bk.new;have g2:(w.alloc (.cells #[.int .i64 xf,.int .i64 xt,.slice A1 n1 c1] 28)).grownBy ((w.alloc (.cells #[.int .i64 xf,.int .i64 xt,.slice A1 n1 c1] 28)).alloc (.cells #[.int .i64 yf,.int .i64 yt,.slice A2 n2 c2] 28)) none:=bW (bY _ _) _;have b3:Bk ((w.alloc (.cells #[.int .i64 xf,.int .i64 xt,.slice A1 n1 c1] 28)).alloc (.cells #[.int .i64 yf,.int .i64 yt,.slice A2 n2 c2] 28)) (w.alloc (.cells #[.int .i64 xf,.int .i64 xt,.slice A1 n1 c1] 28)).heap.size 28 [.int .i64 yf,.int .i64 yt,.slice A2 n2 c2]:=Bk.new;have g3:((w.alloc (.cells #[.int .i64 xf,.int .i64 xt,.slice A1 n1 c1] 28)).alloc (.cells #[.int .i64 yf,.int .i64 yt,.slice A2 n2 c2] 28)).grownBy (((w.alloc (.cells #[.int .i64 xf,.int .i64 xt,.slice A1 n1 c1] 28)).alloc (.cells #[.int .i64 yf,.int .i64 yt,.slice A2 n2 c2] 28)).alloc (.cells #[.int .i64 0,.int .i64 0,.slice none 0 0] 28)) none:=bW (bY _ _) _;have b4:Bk (((w.alloc (.cells #[.int .i64 xf,.int .i64 xt,.slice A1 n1 c1] 28)).alloc (.cells #[.int .i64 yf,.int .i64 yt,.slice A2 n2 c2] 28)).alloc (.cells #[.int .i64 0,.int .i64 0,.slice none 0 0] 28)) ((w.alloc (.cells #[.int .i64 xf,.int .i64 xt,.slice A1 n1 c1] 28)).alloc (.cells #[.int .i64 yf,.int .i64 yt,.slice A2 n2 c2] 28)).heap.size 28 [.int .i64 0,.int .i64 0,.slice none 0 0]:=Bk.new;have g4:(((w.alloc (.cells #[.int .i64 xf,.int .i64 xt,.slice A1 n1 c1] 28)).alloc (.cells #[.int .i64 yf,.int .i64 yt,.slice A2 n2 c2] 28)).alloc (.cells #[.int .i64 0,.int .i64 0,.slice none 0 0] 28)).grownBy ((((w.alloc (.cells #[.int .i64 xf,.int .i64 xt,.slice A1 n1 c1] 28)).alloc (.cells #[.int .i64 yf,.int .i64 yt,.slice A2 n2 c2] 28)).alloc (.cells #[.int .i64 0,.int .i64 0,.slice none 0 0] 28)).alloc (.cells #[.int .i64 xf,.int .i64 xt,.slice A1 n1 c1,.int .i64 yf,.int .i64 yt,.slice A2 n2 c2] 28)) none:=bW (bY _ _) _;have b6:Bk ((((w.alloc (.cells #[.int .i64 xf,.int .i64 xt,.slice A1 n1 c1] 28)).alloc (.cells #[.int .i64 yf,.int .i64 yt,.slice A2 n2 c2] 28)).alloc (.cells #[.int .i64 0,.int .i64 0,.slice none 0 0] 28)).alloc (.cells #[.int .i64 xf,.int .i64 xt,.slice A1 n1 c1,.int .i64 yf,.int .i64 yt,.slice A2 n2 c2] 28)) (((w.alloc (.cells #[.int .i64 xf,.int .i64 xt,.slice A1 n1 c1] 28)).alloc (.cells #[.int .i64 yf,.int .i64 yt,.slice A2 n2 c2] 28)).alloc (.cells #[.int .i64 0,.int .i64 0,.slice none 0 0] 28)).heap.size 28 [.int .i64 xf,.int .i64 xt,.slice A1 n1 c1,.int .i64 yf,.int .i64 yt,.slice A2 n2 c2]:=Bk.new;rw[e1]at b3;rw[e2]at b4;rw[e3]at b6;exact⟨b8 (b8 (b8 g1 g2) g3) g4,((b2.grow g2).grow g3).grow g4,(b3.grow g3).grow g4,b4.grow g4,b6⟩
 generalize(((w.alloc (.cells #[.int .i64 xf,.int .i64 xt,.slice A1 n1 c1] 28)).alloc (.cells #[.int .i64 yf,.int .i64 yt,.slice A2 n2 c2] 28)).alloc (.cells #[.int .i64 0,.int .i64 0,.slice none 0 0] 28)).alloc (.cells #[.int .i64 xf,.int .i64 xt,.slice A1 n1 c1,.int .i64 yf,.int .i64 yt,.slice A2 n2 c2] 28)=W at *;have QN:=Lib.hid Q5;clear Q5
 go_loopw [20] (λi wr=>(i=.int .i64 0\/(i=.int .i64 1/\cd=0)\/(i=.int .i64 2/\cd=0/\ce=0))/\MgS w xf xt yf yt (.slice A1 n1 c1) (.slice A2 n2 c2) (w.heap.size+1+1+1) wr) (λi _=>2-(intOf i).toNat)
 case atStart=>exact⟨.inl rfl,QN.out⟩
 case round=>
  obtain⟨hi,hS⟩:=hrel;have HS:=Lib.hid hS;have U4:=hS.b6.cell 0;have U5:=hS.b6.cell 1;have U6:=hS.b6.cell 2;have U7:=hS.b6.cell 3;have U8:=hS.b6.cell 4;have U9:=hS.b6.cell 5;simp only[List.getElem?_cons_zero,List.getElem?_cons_succ]at U4 U5 U6 U7 U8 U9;clear hS QN;rcases hi with rfl|⟨rfl,Wy⟩|⟨rfl,Wy,Zp⟩
  ·go_wp2_with fail
   refine(QK.out _ (b8 HS.out.grown (bW (bY _ _) _))).mono ?_;rintro e w5 ⟨rfl,Xq⟩;have Ye:=Lib.hid ((HS.out.grow (bW (bY wr none) (.cells #[.int .i64 xf,.int .i64 xt,.slice A1 n1 c1] 28))).grow Xq);clear Xq U4 U5 U6 U7 U8 U9;by_cases hc:cd=0
   ·have UK:(cd != 0)=false:=by simp[hc]
    have Hc:=Lib.hid hc;clear hc
    go_wp2_with fail
    go_roundw
    case rel=>exact⟨.inr (.inl ⟨by go_num,Hc.out⟩),Ye.out⟩
    case measure=>simp[intOf]
   ·have UK:(cd != 0)=true:=by simp[hc]
    exact absurd HCC.out.1 hc
  ·have QJ:=Lib.hid Wy;clear Wy
   go_wp2_with fail
   refine(SM.out _ (b8 HS.out.grown (bW (bY _ _) _))).mono ?_;rintro e w5 ⟨rfl,Xq⟩;have Ye:=Lib.hid ((HS.out.grow (bW (bY wr none) (.cells #[.int .i64 yf,.int .i64 yt,.slice A2 n2 c2] 28))).grow Xq);clear Xq U4 U5 U6 U7 U8 U9;by_cases hc:ce=0
   ·have UK:(ce != 0)=false:=by simp[hc]
    have Hc:=Lib.hid hc;clear hc
    go_wp2_with fail
    go_roundw
    case rel=>exact⟨.inr (.inr ⟨by go_num,QJ.out,Hc.out⟩),Ye.out⟩
    case measure=>simp[intOf]
   ·have UK:(ce != 0)=true:=by simp[hc]
    exact absurd HCC.out.2 hc
  ·have X6:=HS.out.b2.cell 1;have SD:=HS.out.b2.cell 2;have Yd:=HS.out.b3.cell 0;have Yl:=HS.out.b3.cell 2;simp only[List.getElem?_cons_zero,List.getElem?_cons_succ]at X6 SD Yd Yl
   have hnb:(xt != yf)=false:=by simp[HYF.out]
   have hmm:=@run_makeMap Try.prog;clear Wy Zp U4 U5 U6 U7 U8 U9
   go_upto_region 12 with fail
   have Nb:wr.grownBy (wr.alloc (.map #[] 0)) none:=bW (bY _ _) _;have QO:=Lib.hid (HS.out.grow Nb);have h9:(wr.alloc (.map #[] 0)).heap[wr.heap.size]?=some (.map #[] 0):=heap_alloc_new wr _
   have hs9:wr.heap.size<(wr.alloc (.map #[] 0)).heap.size:=by simp
   have Tc:=HS.out.grown.size;have hwr3:=HS.out.b6.hi;have H9:=Lib.hid h9;clear X6 SD Yd Yl Nb h9 hnb hmm;generalize wr.alloc (.map #[] 0)=W9 at *;generalize hb9:wr.heap.size=b9 at *;have SD:=QO.out.b2.cell 2;have Yl:=QO.out.b3.cell 2;simp only[List.getElem?_cons_zero,List.getElem?_cons_succ]at SD Yl
   go_wp2_with fail
   have Pe:W9.grownBy (W9.alloc (.cells #[.slice A1 n1 c1,.slice A2 n2 c2] 26)) none:=bW (bY _ _) _;have TJ:=b8 QO.out.grown Pe;refine(yG (λk=>F k/\k<w.heap.size) xs ys W9.heap.size 2 _ _ _ Bk.new (HX.out.live.grow TJ) (HY.out.live.grow TJ) SO.out.1).mono ?_;rintro e Ws ⟨V,rfl,YN,Rt⟩;have Ps:Mk rPg 58 (W9.heap.size+1) Ws (λk=>F k/\k<w.heap.size) V (xs++ys):=(YN.base (by simp)).subG λk hk=>hk.1;obtain⟨n,hn⟩:∃n,n=(xs++ys).length:=⟨_,rfl⟩;obtain⟨AV,cV,eV⟩:=YN.shape;rw[<- hn]at eV;subst eV;have Qq:=b8 Pe Rt;have HSL:=Lib.hid (QO.out.grow Qq);have hsL:=Qq.size
   have Tv:Ws.heap[b9]?=some (.map #[] 0):=by rw[Qq.block b9 hs9 (by simp)];exact H9.out
   obtain⟨cs,hown,Pt,Uu⟩:=Ps;obtain⟨WS,Zp,Ze,Vh⟩:=uN Uu
   have Qj:∃gV,∀k,k<n->AV=some ⟨gV,0,none⟩/\gV<Ws.heap.size/\b9<gV/\∀(w':World),w'.heap[gV]?=Ws.heap[gV]?->∀(h':k<WS.length) (j:Nat) u,j<11->WS[k][j]?=some u->w'.cell? ⟨gV,k*11+j,none⟩=some u:=by
    rcases hown.2 with⟨e1,e2⟩|⟨g,cap,cur,e1,hb,YW,hcap,hmax,hsz,Zy⟩
    ·exact⟨0,λk hk=>by omega⟩
    ·refine⟨g,λk hk=>⟨by injection e1 with e1,(Array.getElem?_eq_some_iff.1 YW).1,by omega,λw' Sx h' j u hj hu=>?_⟩⟩;have hcell:=World.ownsRow.cells (g:=g) hown (by rw[e1];rfl)
     have hlen:∀q∈WS,q.length=11:=λq hq=>by
      obtain⟨i,hi,rfl⟩:=List.getElem_of_mem hq;exact rPg.len (Vh i (by omega) hi)
     have Zq:=iA (c:=WS) (sz:=11) (λi h=>hlen _ (List.getElem_mem h)) (i:=k) (j:=j) h' (by rw[hlen _ (List.getElem_mem h')];exact hj)
     have h2:=hcell (k*11+j) u (by
      rw[Ze,Zq,<- hu]
      exact(oGE _).symm)
     rw[dB,Nat.zero_add]at h2;rw[World.cell?_of_block (w:=Ws) Sx];exact h2
   obtain⟨gV,Qj⟩:=Qj;have HC:=Lib.hid Qj;have HC3:=Lib.hid (λk h h'=>rPg.sub (G:=λk=>F k/\k<w.heap.size) (Vh k h h') λx hx=>hx.1);have HCL:=Lib.hid Zp;have Hn:=Lib.hid hn;clear hown Uu Zp Ze Vh Qj YN Rt Qq Pe TJ SD Yl Pt hn;obtain⟨L,hL⟩:∃L:List Value,L=zPg::WS.map (λq=>.agg q.toArray):=⟨_,rfl⟩
   have SC:zPg∈L:=by rw[hL];simp
   have HZL:=Lib.hid SC;have HL:=Lib.hid hL
   have OF:w.heap.size+1+1+1<b9:=by omega
   have OE:b9<Ws.heap.size:=(Array.getElem?_eq_some_iff.1 Tv).1
   have HM0:=Lib.hid (show M2 w xf xt yf yt (.slice A1 n1 c1) (.slice A2 n2 c2) (λk=>F k/\k<w.heap.size) L b9 Ws.heap.size Ws (xs++ys) 0 0 (.slice none 0 0) Ws from
    ⟨HSL.out,⟨λ_=>zPg,⟨_,⟨#[],0,Tv,⟨by simp,MapKept.stamped_empty 0,by simp⟩,Nat.le_refl _,rfl⟩,λ_ _ _ _=>by
     obtain⟨i,h1,h2⟩:=EO SC
     exact⟨i,h1,h2⟩⟩,λid=>Gr _ _⟩,Mk.nil _ _ _ _ _,λ_ _ _=>rfl,Nat.le_refl _,OF,OE⟩)
   clear SC hL Tv HSL QO
   go_wp2_with fail
   go_loopw [10,45] (λids i wr=>∃k:Nat,k<=n/\i=.int .i64 k/\M2 w xf xt yf yt (.slice A1 n1 c1) (.slice A2 n2 c2) (λk=>F k/\k<w.heap.size) L b9 Ws.heap.size Ws (xs++ys) k k ids wr) (λ_ i _=>n-(intOf i).toNat)
   case atStart=>exact⟨0,Nat.zero_le _,rfl,HM0.out⟩
   case round=>
    clear HM0;obtain⟨k,hk,rfl,hm⟩:=hrel;have HM:=Lib.hid hm;clear hm;by_cases hlt:k<n
    ·obtain⟨hAV,Z0,ZH,ZV⟩:=HC.out k hlt
     have Qu:k<WS.length:=by rw[HCL.out,<- Hn.out];exact hlt
     have RF:k<(xs++ys).length:=by rw[<- Hn.out];exact hlt
     obtain⟨y,z,XW,hy,hz⟩:=Bx (HC3.out k RF Qu)
     have PS:Value.agg WS[k].toArray∈L:=by
      rw[HL.out];exact List.mem_cons_of_mem _ (List.mem_map.2 ⟨_,List.getElem_mem Qu,rfl⟩)
     have Np:=HWF.out _ (List.getElem_mem RF);have hrep:=HC3.out k RF Qu;have Sn:(xs++ys).take (k+1)=(xs++ys).take k++[(xs++ys)[k]]:=List.take_succ_eq_append_getElem RF;have Qv:=λid=>zN RF id;have hcell:=ZV wr (HM.out.same gV Z0 (by omega)) Qu;generalize(xs++ys)[k]=p at *;generalize WS[k]=cs at *;subst XW;obtain⟨a,c,pc,v0,v1,v2,v3,v4,v5,v6,pr⟩:=p;obtain⟨Ay,cy,rfl,_,_,_⟩:=hy.size_eq;obtain⟨Az,cz,rfl,_,_,_⟩:=hz.size_eq;subst hAV;dsimp only at *;generalize pc.length=ly at *;generalize pr.length=lz at *;have Ti:=Lib.hid hrep;have HPW:=Lib.hid Np;have N7:=Lib.hid Sn;have HLS:=Lib.hid Qv;simp only[pgC,vwC]at PS hcell;have HVL:=Lib.hid PS;have c0:=hcell 0 _ (by decide) rfl;have Oc:=hcell 1 _ (by decide) rfl;have Vd:=hcell 2 _ (by decide) rfl;have c3':=hcell 3 _ (by decide) rfl;have c4:=hcell 4 _ (by decide) rfl;have c5:=hcell 5 _ (by decide) rfl;have c6:=hcell 6 _ (by decide) rfl;have c7:=hcell 7 _ (by decide) rfl;have c8:=hcell 8 _ (by decide) rfl;have c9:=hcell 9 _ (by decide) rfl;have c10:=hcell 10 _ (by decide) rfl;simp only[Nat.add_zero]at c0;clear hcell ZV PS Np hrep Sn Qv hy hz
     have x2:(0:Int)<=(k:Int):=by omega
     have x3:(k:Int)<(n:Int):=by omega
     have x5:(k:Int).toNat=k:=by omega
     have Yw:wr.grownBy (wr.alloc (.cells #[.int .i64 a,.int .i64 c,.slice Ay ly cy,.int .i64 v0,.int .i64 v1,.int .i64 v2,.int .i64 v3,.int .i64 v4,.int .i64 v5,.int .u16 v6,.slice Az lz cz] 58)) none:=bW (bY _ _) _;have YC:Bk (wr.alloc (.cells #[.int .i64 a,.int .i64 c,.slice Ay ly cy,.int .i64 v0,.int .i64 v1,.int .i64 v2,.int .i64 v3,.int .i64 v4,.int .i64 v5,.int .u16 v6,.slice Az lz cz] 58)) wr.heap.size 58 [.int .i64 a,.int .i64 c,.slice Ay ly cy,.int .i64 v0,.int .i64 v1,.int .i64 v2,.int .i64 v3,.int .i64 v4,.int .i64 v5,.int .u16 v6,.slice Az lz cz]:=Bk.new;obtain⟨f,MZ,XD⟩:=(HM.out.grow (λx h=>h.2) Yw).map;obtain⟨w7,hrun,MY,Pc⟩:=MZ.update (show k<9223372036854775807 by have:=SO.out.1;have:=Hn.out;simp at this;omega) HPW.out.1 HPW.out.2 HVL.out;simp only[jd]at hrun;have hw6:=YC.hi;have h97:=HM.out.b9B;have V9:=YC.keep (Pc.block _ hw6 (by have:=HM.out.size;intro e;injection e with e;omega));have UC:=Lib.hid ((HM.out.grow (λx h=>h.2) Yw).put (λx h=>h.2) Pc MY XD (rPg.grow (rPg.keep (w':=wr) Ti.out λx hx=>HM.out.same x (by have:=HM.out.b9q;have:=HM.out.b9B;have:=hx.2;omega) (by have:=HM.out.b9q;have:=hx.2;omega)) Yw) HLS.out);have QI:=Lib.hid V9;have m0:=YC.cell 0;have m1:=YC.cell 1;have m2:=YC.cell 2;have m3:=YC.cell 3;have m4:=YC.cell 4;have m5:=YC.cell 5;have m6:=YC.cell 6;have m7:=YC.cell 7;have m8:=YC.cell 8;have m9:=YC.cell 9;have m10:=YC.cell 10;simp only[List.getElem?_cons_zero,List.getElem?_cons_succ]at m0 m1 m2 m3 m4 m5 m6 m7 m8 m9 m10;have o0:=V9.cell 0;have o1:=V9.cell 1;simp only[List.getElem?_cons_zero,List.getElem?_cons_succ]at o0 o1;clear V9;clear MY Pc XD MZ YC
     go_upto_region 15 with fail
     generalize wr.alloc (.cells #[.int .i64 a,.int .i64 c,.slice Ay ly cy,.int .i64 v0,.int .i64 v1,.int .i64 v2,.int .i64 v3,.int .i64 v4,.int .i64 v5,.int .u16 v6,.slice Az lz cz] 58)=W6 at *;have N8:=Lib.hid (show w7.grownBy (w7.alloc (.cells #[.int .i64 a,.int .i64 c] 56)) none from bW (bY _ _) _);obtain⟨AI,cI,eI⟩:=UC.out.ids.shape;generalize hidl:((xs++ys).take k).map jd=IL at eI;have SN:=Lib.hid hidl;have heI:=Lib.hid eI;subst eI;clear hidl
     go_upto_region 16 with fail
     go_wp2_with (at_builtin;go_loud (refine wZ (R:=rId) rfl (.tmp 53) (.tmp 56) My (by decide) rfl Ws.heap.size (λ_=>False) (.slice AI IL.length cI) IL rfl ?c1 ?c2 w7.heap.size (a,c) [.int .i64 a,.int .i64 c] rfl ?c3 ?c4 ?c5 ?_))
     case c1=>have hx:=UC.out.ids.grow N8.out;rw[SN.out]at hx;exact hx
     case c2=>have:=UC.out.size;have:=N8.out.size;omega
     case c3=>exact Mg (a,c)
     case c5=>rw[<- SN.out];have:=SO.out.1;have:=Hn.out;simp at this⊢;omega
     intro v' w12 VR Ru;have ZP:=UC.out.ids.row;obtain⟨AJ,cJ,rfl⟩:=VR.shape
     have XG:n<=1099511627776:=by have:=SO.out.1;have:=Hn.out;simp at this;omega
     have N3:=Lib.hid ((UC.out.grow (λx h=>h.2) N8.out).over (λx h=>h.2) Ru (λx e=>(ZP x e).1) (m':=k+1) (by rw[N7.out,List.map_append,SN.out];exact VR));clear VR Ru ZP
     go_wp2_with fail
     go_roundw
     case rel=>exact⟨k+1,by omega,by go_num,N3.out⟩
     case measure=>simp[intOf];omega
    ·have RE:k=n:=by omega
     subst RE;have MQ:=HM.out.bs.b2.cell 0;have MR:=HM.out.bs.b3.cell 1;simp only[List.getElem?_cons_zero,List.getElem?_cons_succ]at MQ MR;obtain⟨AI,cI,eI⟩:=HM.out.ids.shape
     have PD:(xs++ys).take k=xs++ys:=by rw[Hn.out];exact List.take_length
     have HPS:=Lib.hid PD;have N2:=Lib.hid ((HM.out.ids.done (F:=λx=>Ws.heap.size<=x) (λ_ h=>h) λ_ h=>h.elim).live);rw[PD]at N2 eI;generalize hidl:((xs++ys).map jd).length=il at eI;subst eI;clear hidl PD;have S2:wr.grownBy (wr.alloc (.cells #[.int .i64 xf,.int .i64 yt,.slice none 0 0] 28)) none:=bW (bY _ _) _;have Xh:=Lib.hid (show Bk (wr.alloc (.cells #[.int .i64 xf,.int .i64 yt,.slice none 0 0] 28)) wr.heap.size 28 [.int .i64 xf,.int .i64 yt,.slice none 0 0]from Bk.new);have SR:=Lib.hid (HM.out.grow (λx h=>h.2) S2);have HGQ:=Lib.hid S2;clear S2
     go_upto_region 19 with fail
     go_wp2_with fail
     refine(HDM.out _ _ _ SR.out.bs.grown (N2.out.grow HGQ.out)).mono ?_;rintro e SJ ⟨SV,rfl,S9,Wi⟩;have h99:=SR.out.b9q;have h9B:=SR.out.b9B;have MV:=HM.out.size;have PJ:=Wi.size;simp at PJ
     have Qk:∃G:Nat->Prop,(∀x,G x->x<SJ.heap.size/\x≠wr.heap.size)/\M3 w xf xt yf yt (.slice A1 n1 c1) (.slice A2 n2 c2) (λk=>F k/\k<w.heap.size) L b9 k wr.heap.size SJ.heap.size (xs++ys) G sids SV 0 SJ:=
      ⟨_,λx hx=>⟨hx.2,by rcases hx.1 with h|h;(have:=h.2;omega);(simp at h;omega)⟩,(SR.out.grow (λx h=>h.2) Wi).bs,by have:=(SR.out.grow (λx h=>h.2) Wi).map;rw[HPS.out]at this;exact this,S9.live,⟨_,Xh.out.grow Wi,Mk.nil _ _ _ _ _⟩,Nat.le_refl _⟩
     obtain⟨G,hG,Qk⟩:=Qk;have N4:=Lib.hid Qk;have HGG:=Lib.hid hG;clear Qk hG;obtain⟨AS,cS,rfl,_,_,Wb⟩:=S9.size_eq;obtain⟨nS,Qy⟩:∃n,n=sids.length:=⟨_,rfl⟩;rw[<- Qy]at N4;rw[<- Qy]at Wb⊢;have Qf:=Lib.hid Qy;have HG19:=Lib.hid Wi;generalize hq13:wr.heap.size=q13 at *;clear S9 Wi Qy SR Xh HGQ N2 MQ MR
     have hB3:q13<SJ.heap.size:=by omega
     generalize hgb3:SJ.heap.size=B3 at *;clear HM
     go_wp2_with fail
     go_loopw [67] (λi wy=>∃m:Nat,m<=nS/\i=.int .i64 m/\M3 w xf xt yf yt (.slice A1 n1 c1) (.slice A2 n2 c2) (λk=>F k/\k<w.heap.size) L b9 k q13 B3 (xs++ys) G sids (.slice AS nS cS) m wy) (λi _=>nS-(intOf i).toNat)
     case atStart=>exact⟨0,Nat.zero_le _,rfl,N4.out⟩
     case round=>
      clear N4;obtain⟨m,hm,rfl,hst⟩:=hrel;have HM:=Lib.hid hst;clear hst;by_cases hlt:m<nS
      ·have Pu:m<sids.length:=by rw[<- Qf.out];exact hlt
       obtain⟨qs,so,cS',scs,e,_,_,hGq,hid,hcl⟩:=HM.out.ids.at_ Pu;rw[<- Qf.out]at e
       injection e with e1 e2 e3
       subst e1;subst e3;have Sn:sids.take (m+1)=sids.take m++[sids[m]]:=List.take_succ_eq_append_getElem Pu;have Sg:=HSW.out _ (List.getElem_mem Pu);generalize sids[m]=s at *;obtain⟨a,c⟩:=s;have e:=Lm hid;subst e;have s0:=hcl 0 _ rfl;have s1:=hcl 1 _ rfl;simp only[show rId.size=2 from rfl,Nat.add_zero]at s0 s1;rw[<- Nat.add_assoc]at s1;clear hid hcl
       have x2:(0:Int)<=(m:Int):=by omega
       have x3:(m:Int)<(nS:Int):=by omega
       have x5:(m:Int).toNat=m:=by omega
       obtain⟨f,hP,hf⟩:=HM.out.map;obtain⟨cs,E',hrep⟩:=hf (a,c);have Yw:wr.grownBy (wr.alloc (.cells #[.int .i64 a,.int .i64 c] 56)) none:=bW (bY _ _) _;have Tu:Bk (wr.alloc (.cells #[.int .i64 a,.int .i64 c] 56)) wr.heap.size 56 [.int .i64 a,.int .i64 c]:=Bk.new;have R8:=((hP.kept Yw (by simp)).kept (dx (bY _ none)) (by simp)).lookup HZL.out Sg.1 Sg.2;rw[E']at R8;have Ti:=Lib.hid ((rPg.grow hrep Yw));have N7:=Lib.hid Sn;have Yc:=Lib.hid Yw;generalize hlp:ib (xs++ys) (a,c)=p at *;have HLP:=Lib.hid hlp;clear hP hf hrep E' Sn Yw hlp;obtain⟨v0,Xo,YN⟩:=HM.out.out;have r0:=(Tu.drew).cell 0;have r1:=(Tu.drew).cell 1;have j2:=((Xo.grow Yc.out).drew).cell 2;simp only[List.getElem?_cons_zero,List.getElem?_cons_succ]at r0 r1 j2;have Xh:=Lib.hid (Xo.grow Yc.out);have SQ:=Lib.hid (YN.grow Yc.out);clear Xo YN Tu;have hq13:=Xh.out.hi;generalize hilm:(sids.take m).map (ib (xs++ys))=IL at *;have SN:=Lib.hid hilm;clear hilm
       go_upto_region 22 with fail
       generalize hW15:wr.alloc (.cells #[.int .i64 a,.int .i64 c] 56)=W15 at *;clear hW15
       go_region_law (first
        |(go_simp;go_at_call 34;refine(HPG.out _ p cs (dx (b8 HM.out.bs.grown Yc.out)) (rPg.grow Ti.out (dx (bY _ none)))).mono ?_;rintro e NR ⟨Ve,rfl,X2,Wj⟩;obtain⟨y',z',rfl,V4,SB⟩:=Bx X2;have Wj:=b8 (dx (bY W15 none)) Wj;have j3:=(Xh.out.grow Wj).cell 2;have q3:=(Xh.out.grow Wj).hi;simp only[List.getElem?_cons_zero,List.getElem?_cons_succ]at j3;have N6:=Lib.hid X2;have Vo:=Lib.hid Wj;clear X2 Wj V4 SB;simp only[pgC,vwC])
        |(refine Cl (R:=rPg) rfl (.tmp 72) (.tmp 77) LV (by decide) (by rfl) B3 (λx=>(F x/\x<w.heap.size)\/B3<=x) v0 IL (by rfl) (SQ.out.grow (bW Vo.out _)) (by have h1:=HM.out.size;have h2:=Yc.out.size;have h3:=Vo.out.size;replace h3:W15.heap.size<=NR.heap.size:=h3;simp;omega) NR.heap.size p (pgC p y' z') (by rfl) (rPg.sub (rPg.grow N6.out (bW (bY _ none) _)) (λx hx=>⟨by rcases hx with h|h;exact .inl h;exact .inr (by have h1:=HM.out.size;have h2:=Yc.out.size;replace h:W15.heap.size<=x:=h;omega),λe=>by have h1:=SQ.out.row x e.symm;have h2:=HM.out.size;have h3:=HM.out.bs.grown.size;(rcases hx with h|h;(have:=h.2;omega);(replace h:W15.heap.size<=x:=h;omega))⟩)) (λj u hj=>Im rfl hj) (by rw[<- SN.out];have:=SO.out.2;simp;omega) ?_;intro v' w24 VS TH;obtain⟨A4,c4,rfl⟩:=VS.shape;have VC:=((Xh.out.grow (bW Vo.out (.cells (pgC p y' z').toArray 58))).keep (TH.block _ (Xh.out.grow (bW Vo.out (.cells (pgC p y' z').toArray 58))).hi (λe=>by have h1:=(SQ.out.row _ e.symm).1;omega)));have f24:=VC.free 2;have j24:=VC.cell 2;simp only[List.getElem?_cons_zero,List.getElem?_cons_succ]at j24;have q24:=VC.hi;have NU:=Lib.hid VC;have QM:=Lib.hid VS;have NV:=Lib.hid TH;clear VC VS TH))
       all_goals
        have HSX:=Lib.hid (HM.out.next (λx h=>h.2) (λx h=>HGG.out x h) h99 (show b9<q13 by omega) hB3 (b8 (mn (bW (b8 Yc.out Vo.out) (.cells (pgC p y' z').toArray 58))) NV.out) (λx e=>(SQ.out.row x e).1) NU.out (by rw[N7.out,List.map_append,SN.out,List.map_cons,List.map_nil,HLP.out];exact QM.out))
        have XG:nS<=1099511627776:=by rw[Qf.out];exact SO.out.2
        go_wp2_with fail
        go_roundw
        case rel=>exact⟨m+1,by omega,by go_num,by have Nx:=HSX.out;simp only[List.length_append,oLC,List.length_nil,Nat.zero_add]at Nx;exact Nx⟩
        case measure=>simp[intOf];omega
      ·have Qx:m=nS:=by omega
       subst Qx;obtain⟨v0,Xo,YN⟩:=HM.out.out;have j0:=Xo.cell 0;have j1:=Xo.cell 1;have j2:=Xo.cell 2;have Y4:=HM.out.bs.b4.cell 0;have Y5:=HM.out.bs.b4.cell 1;have V5:=HM.out.bs.b4.cell 2;have WT:=HM.out.bs.b4.free 0;have f41:=HM.out.bs.b4.free 1;have Oq:=HM.out.bs.b4.free 2;have q4:=HM.out.bs.b4.hi;simp only[List.getElem?_cons_zero,List.getElem?_cons_succ]at Y4 Y5 V5 j0 j1 j2;obtain⟨A5,c5,e5⟩:=YN.shape
       have M1:sids.take m=sids:=by rw[Qf.out];exact List.take_length
       rw[M1]at YN e5;generalize hl5:(sids.map (ib (xs++ys))).length=l5 at e5;subst e5;have SQ:=Lib.hid YN;clear YN M1 hl5 Xo
       go_wp2_with fail
       refine bodyPost_ret (v:=.tuple #[.agg #[.int .i64 xf,.int .i64 yt,.slice A5 l5 c5],.int .i64 0]) (by simp[results,Try.results16,go_sem,Y4,Y5,V5,q4]) rfl ?_;refine⟨_,rfl,?_,HM.out.bs.err _ _ _⟩;refine((SQ.out.done (F:=λx=>(F x/\x<w.heap.size)\/B3<=x) (λk hk=>.inr hk) λk hk=>hk).keep (λx hx=>?_)).sub λx hx=>?_
       ·have hne:x≠w.heap.size+1+1:=by rcases hx with h|h;(have:=h.2;omega);omega
        rw[cX _ _ _ hne,cX _ _ _ hne,cX _ _ _ hne]
       ·rcases hx with h|h
        ·exact .inl h.1
        ·exact .inr (by omega)
end Go.Proofs.Ytbdhpgelkfncpaa
namespace Go.Proofs.Ytbdhpgelkfncpaa
open Go.RowKit
inductive rj (w:World)(F:Nat->Prop):TV->Value->Prop
 |im {t:TV} {x:Value} (h:f8 w F t x):rj w F t x
 |fn {f:FuncId}:rj w F (.fn f []) (.func (.func f) #[] #[])
 |ag {l:List TV} {cs:Array Value} (hl:cs.size=l.length) (h:∀j (hj:j<l.length),f8 w F l[j] (cs.getD j undef)):rj w F (.agg l) (.agg cs)
def Lj:TV->Bool
 |.v _=>true
 |.sl _=>true
 |_=>false
def zT:TV->Bool
 |.sl _=>true
 |.v _=>true
 |.fn _ []=>true
 |.agg l=>l.all Lj
 |_=>false
def Ce(P:Program)(f:FuncId)(vals:List TV)(r:tD):Prop:=
 r.cells.all Lj=true/\∀(avs:List Value)(w:World)(F:Nat->Prop),avs.length=vals.length->(∀j (h:j<vals.length)(h':j<avs.length),rj w F vals[j] avs[j])->
  Calls P f avs.toArray w λe w2=>∃ys,e=.returned (jw r.sh ys)/\ys.length=r.cells.length/\Below w.heap.size w w2/\∀j (h:j<r.cells.length),f8 w2 (λk=>F k\/w.heap.size<=k) r.cells[j] (ys.getD j undef)
def xO(R:FuncId->List TV->Option tD):dy:=λf vals pts=>
 match pts with
 | []=>if vals.all zT then(R f vals).map λr=>(r,[])else none
 |_=>none
section
variable {M:Fm} {σ:St} {ts:Array Value} {w:World}
theorem Inv.addHands{F:Nat->Prop}:∀{z:List TV}{ys:List Value}{H:List TV}{xs:List Value}{G:Gh},Inv M σ H xs ts w G->(∀k,F k->G.F M.A k)->z.length=ys.length->(∀j (h:j<z.length),f8 w F z[j] (ys.getD j undef))->∃G',Inv M σ (H++z) (xs++ys) ts w G':=by
 intro z
 induction z with
 |nil=>
  intro ys H xs G hI _ hl _;have:ys=[]:=List.length_eq_zero_iff.1 hl.symm;subst this;exact⟨G,by simpa using hI⟩
 |cons t z ih=>
  intro ys H xs G hI hF hl hz
  cases ys with
  |nil=>simp at hl
  |cons y ys=>
   obtain⟨G1,hg⟩:=hI.addHand ((hz 0 (by simp)).frame (F':=G.F M.A) (λ_ _ _=>rfl) λk hk _=>hF k hk).toOwn
   obtain⟨G2,ZJ⟩:=ih hg.1 (λk hk=>hg.2.1 k (hF k hk)) (by simpa using hl) λj hj=>by have:=hz (j+1) (by simpa using hj);simpa using this
   refine⟨G2,?_⟩;simpa using ZJ
end
theorem J7{P:Program}{R:FuncId->List TV->Option tD}(hR:∀f vals r,R f vals=some r->io P f/\Ce P f vals r):eW P (xO R):=by
 intro f vals pts res Zt h
 cases pts with
 |cons _ _=>simp[xO]at h
 |nil=>
  simp only[xO]at h;split at h
  case isFalse=>simp at h
  rename_i ZW;simp only[List.all_eq_true]at ZW
  obtain⟨r,hr,he⟩:∃r,R f vals=some r/\(r,[])=(res,Zt):=by
   cases hr:R f vals with
   |none=>simp[hr]at h
   |some c=>exact⟨c,rfl,by simpa[hr]using h⟩
  injection he with e1 e2
  subst e1 e2;obtain⟨Y8,Wl,TN⟩:=hR f vals r hr;refine⟨Y8,vals.length,Nat.le_refl _,λM avs w G hal hN QC Yz hI=>?_⟩;subst QC
  have Sp:avs.toArray++Array.replicate (vals.length-avs.length) undef=avs.toArray:=by rw[hal];simp
  rw[Sp]at hI
  have hst:∀j,(mkSt vals []).t j=vals.getD j .dead:=by
   intro j;simp[St.t,mkSt,jV]
  refine(TN avs M.w0 (G.F M.A) hal λj hj ZU=>?_).mono λe w2 ⟨ys,VJ,hlen,hb,X'⟩=>?_
  ·have ht:=hI.tmr j;rw[hst]at ht
   have e1:vals.getD j .dead=vals[j]:=by simp[hj]
   have e2:avs.toArray.getD j undef=avs[j]:=by simp[Array.getD_eq_getD_getElem?,ZU]
   rw[e1,e2]at ht;have ha:=ZW _ (List.getElem_mem hj);revert ht ha;generalize vals[j]=t;generalize avs[j]=y;intro ht ha
   cases ht with
   |v h=>exact .im (.v h)
   |sl h=>exact .im h
   | @fn f l xs hl h=>
    cases l with
    |nil=>
     have:xs=#[]:=Array.eq_empty_of_size_eq_zero (by simpa using hl);subst this;exact .fn
    |cons _ _=>simp[zT]at ha
   | @agg l cs hl h=>
    refine .ag hl λj hj=>?_;have h1:Lj l[j]=true:=List.all_eq_true.1 ha _ (List.getElem_mem hj);have h2:=h j hj;revert h1 h2;generalize l[j]=t;generalize cs.getD j undef=z;intro h1 h2
    cases h2 with
    |v h2=>exact .v h2
    |sl h2=>exact h2
    |_=>simp[Lj]at h1
   |_=>simp[zT]at ha
  ·obtain⟨ZJ,_⟩:=hI.grow (w':=w2) (λk hk=>hb.block k hk) hb.size hb.os hb.tape hb.output
   have hF:∀k,G.F M.A k\/M.w0.heap.size<=k->G.F M.A k:=by
    rintro k (hk|hk)
    ·exact hk
    ·refine⟨M.hA k hk,λr o hφ=>?_,λr b o n hβ e=>?_⟩
     ·have:=hI.core.live hφ;omega
     ·subst e;have:=hI.core.boxlt hβ;omega
   obtain⟨G',WV⟩:=ZJ.addHands hF hlen.symm X';refine⟨_,mkSt vals [],VJ,.inl ⟨ys,avs.toArray,G',rfl,by simpa using WV,λj hj=>.inl ?_⟩,rfl⟩;have:=List.all_eq_true.1 Wl _ (List.getElem_mem hj);revert this;generalize r.cells[j]=t;intro this
   cases t with
   |v _=>rfl
   |sl _=>rfl
   |_=>simp[Lj]at this
def Fu:TV->Bool
 |.v _=>true
 |.sl _=>true
 |.ow _=>true
 |_=>false
theorem rE{w:World}{F:Nat->Prop}{a:Option Addr}:f8 w F (.sl []) (.slice a 0 0):=
 .sl (c:=[]) 1 (λ_ _=>.nilFunc) (λi h=>by simp at h) (Nat.le_refl _) (Nat.zero_le _) (λ_=>rfl) (λi j h=>by simp at h) (λi j h=>by simp at h)
theorem rj.toTm{w:World}{F:Nat->Prop}{V:Vs}{C:Cs}{G:Gh}{t:TV}{x:Value}(h:rj w F t x):TmR w F V C G t x:=by
 cases h with
 |im h=>exact h.toTm
 |fn=>exact .fn rfl λj hj=>by simp at hj
 |ag hl h=>exact .agg hl λj hj=>(h j hj).toTm
theorem rj.frame{w w':World}{F F':Nat->Prop}{t:TV}{x:Value}(h:rj w F t x)(hw:∀k,F k->k<w.heap.size->w'.heap[k]?=w.heap[k]?)(hF:∀k,F k->k<w.heap.size->F' k):rj w' F' t x:=by
 cases h with
 |im h=>exact .im (h.frame hw hF)
 |fn=>exact .fn
 |ag hl h=>exact .ag hl λj hj=>(h j hj).frame hw hF
theorem pt{P:Program}{B:dy}(hB:eW P B){f:FuncId}{vals:List TV}{avs:List Value}{res:tD}{w:World}{F:Nat->Prop}(h:B f vals []=some (res,[]))(Zq:res.cells.all Fu=true)(hl:avs.length=vals.length)
 (hv:∀j (h:j<vals.length)(h':j<avs.length),rj w F vals[j] avs[j]):
 Calls P f avs.toArray w λe w'=>∃ys,e=.returned (jw res.sh ys)/\ys.length=res.cells.length/\Below w.heap.size w w'/\∀j (h:j<res.cells.length),f8 w' (λk=>F k\/w.heap.size<=k) res.cells[j].imm (ys.getD j undef):=by
 obtain⟨Y8,N,hN,hc⟩:=hB f vals [] _ _ h;obtain⟨M,hM⟩:∃M:Fm,M=⟨w,λk=>F k\/w.heap.size<=k,λ_=>False,λ_=>none,N,λk hk=>.inr hk⟩:=⟨_,rfl⟩;have Y7:∀k,F k->frG.F M.A k:=λk hk=>⟨by rw[hM];exact .inl hk,λ_ _ h=>h,λ_ _ _ _ h=>by simp[frG]at h⟩
 have hst:∀i,(mkSt vals []).t i=vals.getD i .dead:=by
  intro i;simp[St.t,mkSt,jV]
 have hE:∀r o,cC M (mkSt vals []) [] r o=.dead:=by
  intro r o;unfold cC;split
  ·simp
  ·rfl
 have hI:Inv M (mkSt vals []) [] [] (avs.toArray++Array.replicate (N-avs.length) undef) w frG:=by
  refine⟨⟨λr o=>.inl ⟨hE r o,λ_ h=>h⟩,λ_ _ _ _ h=>by simp[frG]at h,λ_ _ _ _ h=>by simp[frG]at h,λ_ _ _ _ _ _ _ h=>by simp[frG]at h,λ_ _ _ _ h=>by simp[frG]at h,λ_ _ _ _ _ h=>h.elim,λ_ _ _ h=>h.elim⟩,λi=>?_,⟨by rw[hM],by rw[hM],by rw[hM],by rw[hM];exact Nat.le_refl _,λ_ _ _ _=>by rw[hM],λ_ _ _ _ h=>by simp[hM]at h,λ_ _ _ h=>h.elim,λ_ _ _ _ h=>by simp[frG]at h,λ_ h=>by simp[frG]at h⟩,λr l h=>by simp[mkSt,cA]at h,?_,rfl,λj hj=>by simp at hj,λ_ _ _ _ h=>by simp[frG]at h⟩
  ·rw[hst];by_cases hi:i<vals.length
   ·have ZM:i<avs.length:=by omega
    have e1:vals.getD i .dead=vals[i]:=by simp[hi]
    have e2:(avs.toArray++Array.replicate (N-avs.length) undef).getD i undef=avs[i]:=by
     simp[Array.getD_eq_getD_getElem?,Array.getElem?_append,ZM]
    rw[e1,e2];exact((hv i hi ZM).frame (w':=w) (F':=frG.F M.A) (λ_ _ _=>rfl) λk hk _=>Y7 k hk).toTm
   ·have e1:vals.getD i .dead=.dead:=by rw[oGD,oGN (by omega)];rfl
    rw[e1];exact .dead
  ·rw[hM];simp;omega
 refine(hc M avs w frG hl (by rw[hM]) (by rw[hM]) (λr hr=>by simp[hM]at hr) hI).mono λe w2 ⟨v,σ2,he,Yf,_⟩=>?_
 rcases Yf with⟨ys,ts2,G2,rfl,ZJ,_⟩|⟨q,vs,l,pv,ts2,G2,ZV,_⟩
 rotate_left
 ·rw[ZV]at Zq;simp[Fu]at Zq
 have ZN:∀j (h:j<res.cells.length),res.cells[j]≠.dead:=λj hj e=>by
  have:=List.all_eq_true.1 Zq res.cells[j] (List.getElem_mem hj);rw[e]at this;simp[Fu]at this
 obtain⟨G3,UP,Wl⟩:=ZJ.dropImm ZN;refine⟨ys,he,ZJ.hand.symm,⟨?_,?_,?_,?_,λk hk=>?_⟩,λj hj=>(Wl j hj).frame (λ_ _ _=>rfl) λk hk _=>?_⟩
 ·have:=ZJ.fram.os;rw[hM]at this;exact this
 ·have:=ZJ.fram.tape;rw[hM]at this;exact this
 ·have:=ZJ.fram.output;rw[hM]at this;exact this
 ·have:=ZJ.fram.size;rw[hM]at this;exact this
 ·have:=ZJ.fram.old k (by rw[hM];exact hk) (by rw[hM];exact λh=>h) λ_ _ _ _ h=>by simp[hM]at h
  rw[this,hM]
 ·have:=hk.1;rw[hM]at this;exact this
abbrev KS:CT:=(.pair (.int .u8) (.pair (.int .u16) (.pair I64 I64)))
abbrev DF:CT:=(.pair I64 (.pair I64 (.pair I64 (.pair I64 (.pair I64 (.pair I64 (.pair (.int .u16) (.row false KS))))))))
abbrev lw:CT:=(.row false KS)
abbrev RIi:CT:=(.row false I64)
abbrev L4:Type:=(Int×Int)
abbrev nN:Type:=(Int×Int×Int×Int)
abbrev Mq:Type:=(Int×Int×Int×Int×Int×Int×Int×List nN)
def HHi(f i:Nat):List (Nat×Option Nat):=if f=62 then(if i=0 then[(4,none)]else[])else[]
def IW:List Nat:=[57,56]
noncomputable def TTi (f:FuncId):Option TFn:=if IW.contains f then none else od Try.prog (HHi f) f
theorem DP{f:FuncId}(h:IW.contains f=true):TTi f=none:=oIP h
noncomputable def E0i:Env:=⟨λ_=>none,λf=>Mr Try.prog f⟩
theorem K0:DE Try.prog TTi:=λf tf h=>DR HHi (by kernel_rfl) f tf (by
 unfold TTi at h;split at h
 ·cases h
 ·exact h)
def nw(a0:Int):Option (Bool×Unit):=
bif(decide (a0>=1))then(some ((decide (a0<=32)),()))else
some (false,())
noncomputable def tX:X.Cfg:=⟨E0i,[],[],[]⟩
def nG:Ctr:=⟨86,0,[shU I64],[],[⟨[shU .bool],[.one],[]⟩],λh=>nw h.1⟩
set_option maxRecDepth 100000 in
theorem tM:Lvl E0i TTi mS 1 nG:=ca (n:=0) (C:=tX) rfl (.intro) (cf (by kernel_rfl)) (λh=>by kernel_rfl)
def kE(a0:List nN):Option (Bool×Unit):=
let x0:Int:=(cg (List.length a0));
(nw x0).bind λ(x1,_)=>
some ((!x1),())
noncomputable def qa:X.Cfg:=⟨E0i,[nG],[],[]⟩
def kS:Ctr:=⟨85,1,[shU lw],[],[⟨[shU .bool],[.one],[]⟩],λh=>kE h.1⟩
set_option maxRecDepth 100000 in
theorem p8:Lvl E0i TTi mS 2 kS:=ca (n:=1) (C:=qa) rfl (.intro (tM.mono (by decide)) (.intro)) (cf (by kernel_rfl)) (λh=>by kernel_rfl)
def i8:(List (List nN))×Int×Int×Unit->Option (((List (List nN))×Int×Int×Unit)⊕((Int×Unit)⊕((List (List nN))×Int×Int×Bool×Unit))):=λ(v0,v1,v2,_)=>
bif(decide (v2<v1))then((ek v2).bind λx0=>
(cU v0 x0).bind λx1=>
(kE x1).bind λ(x2,_)=>
bif x2 then(some (.inr (.inl (v2,()))))else
let x3:Int:=(w64 (v2+1));
some (.inl (v0,v1,x3,())))else
some (.inr (.inr (v0,v1,v2,false,())))
def ga(a0:List (List nN)):Option (Int×Unit):=
let x0:Int:=(cg (List.length a0));
(match ct i8 NN (a0,x0,0,())with
|none=>none
|some (.inl (x1,_))=>
some (x1,())
|some (.inr (x1,x2,x3,x4,_))=>
some ((-1),()))
noncomputable def kx:X.Cfg:=⟨E0i,[kS],[],[⟨3,0,⟨[(0,shU (.row false lw)),(1,.fn 85 []),(7,shU I64),(8,shU I64)],[],[],([],[])⟩,[(.ret,⟨[(4,shU I64)],[],[],([],[])⟩),(.exit 0,⟨[(0,shU (.row false lw)),(1,.fn 85 []),(7,shU I64),(8,shU I64),(9,shU .bool)],[],[],([],[])⟩)]⟩]⟩
def gk:Ctr:=⟨91,2,[shU (.row false lw),.fn 85 []],[],[⟨[shU I64],[.one],[]⟩],λh=>ga h.1⟩
set_option maxRecDepth 100000 in
theorem ku:Lvl E0i TTi mS 3 gk:=ca (n:=2) (C:=kx) rfl (.intro (p8.mono (by decide)) (.intro)) (cf (by kernel_rfl)) (λh=>by kernel_rfl)
def fq(a0:List (List nN)):Option (Bool×Unit):=
(ga a0).bind λ(x0,_)=>
some ((decide (x0>=0)),())
noncomputable def jf:X.Cfg:=⟨E0i,[gk],[],[]⟩
def fA:Ctr:=⟨84,3,[shU (.row false lw),.fn 85 []],[],[⟨[shU .bool],[.one],[]⟩],λh=>fq h.1⟩
set_option maxRecDepth 100000 in
theorem je:Lvl E0i TTi mS 4 fA:=ca (n:=3) (C:=jf) rfl (.intro (ku.mono (by decide)) (.intro)) (cf (by kernel_rfl)) (λh=>by kernel_rfl)
def lT(a0:List (List nN))(a1:List Mq):Option (Bool×Unit):=
let x0:Int:=(cg (List.length a0));
bif(decide (x0<=4))then(let x1:Int:=(cg (List.length a1));
bif(decide (x1<=4))then((fq a0).bind λ(x2,_)=>
some ((!x2),()))else
some (false,()))else
some (false,())
noncomputable def sw:X.Cfg:=⟨E0i,[fA],[],[]⟩
def mr:Ctr:=⟨73,4,[.agg [shU (.row false lw),shU (.row false DF)]],[],[⟨[shU .bool],[.one],[]⟩],λh=>lT h.1 h.2.1⟩
set_option maxRecDepth 100000 in
theorem sk:Lvl E0i TTi mS 5 mr:=ca (n:=4) (C:=sw) rfl (.intro (je.mono (by decide)) (.intro)) (cf (by kernel_rfl)) (λh=>by kernel_rfl)
def om(a0:List nN)(a1:Int):Option ((List nN)×Unit):=
(bif(decide (a1<0))then(some (a0,a1,true,()))else
bif(decide (a1>32))then(some (a0,a1,true,()))else
let x0:Int:=(w64 (a1*8));
let x1:Int:=(cg (List.length a0));
some (a0,a1,(decide (x0>=x1)),()):Option ((List nN)×Int×Bool×Unit)).bind λ(x0,x1,x2,_)=>
bif x2 then(some ([],()))else
let x3:Int:=(w64 (x1*8));
let x4:Int:=(w64 (x3+8));
let x5:Int:=(cg (List.length x0));
let x6:Int:=(mmR false x4 x5);
(ek x3).bind λx7=>
(ek x6).bind λx8=>
bif(lJ x7 x8 (List.length x0))then let x9:List nN:=(IE x0 x7 (Nat.sub x8 x7));
some (x9,())else none
noncomputable def vZ:X.Cfg:=⟨E0i,[],[],[⟨2,0,⟨[],[],[],([],[])⟩,[(.normal,⟨[(0,shU lw),(1,shU I64),(18,shU .bool)],[],[],([],[])⟩)]⟩]⟩
def pj:Ctr:=⟨62,5,[shU lw,shU I64],[],[⟨[shU lw],[.one],[]⟩],λh=>om h.1 h.2.1⟩
set_option maxRecDepth 100000 in
theorem vM:Lvl E0i TTi mS 1 pj:=ca (n:=0) (C:=vZ) rfl (.intro) (cf (by kernel_rfl)) (λh=>by kernel_rfl)
def nv(a0:List (List nN))(a1:List Mq)(a2:Int)(a3:Int):Option (Bool×Unit):=
bif(a2==(-1))then(bif(decide (a3>=0))then(let x0:Int:=(cg (List.length a1));
some ((decide (a3<x0)),()))else
some (false,()))else
bif(decide (a2>=0))then(let x0:Int:=(cg (List.length a0));
bif(decide (a2<x0))then((ek a2).bind λx1=>
(cU a0 x1).bind λx2=>
(om x2 a3).bind λ(x3,_)=>
let x4:Int:=(cg (List.length x3));
some ((decide (x4>0)),()))else
some (false,()))else
some (false,())
noncomputable def tW:X.Cfg:=⟨E0i,[pj],[],[]⟩
def nF:Ctr:=⟨76,6,[.agg [shU (.row false lw),shU (.row false DF)],.agg [shU I64,shU I64]],[],[⟨[shU .bool],[.one],[]⟩],λh=>nv h.1 h.2.1 h.2.2.1 h.2.2.2.1⟩
set_option maxRecDepth 100000 in
theorem tL:Lvl E0i TTi mS 2 nF:=ca (n:=1) (C:=tW) rfl (.intro (vM.mono (by decide)) (.intro)) (cf (by kernel_rfl)) (λh=>by kernel_rfl)
def d7(a0:List (List nN))(a1:List Mq)(a2:Int)(a3:Int):Option (Int×Unit):=
(lT a0 a1).bind λ(x0,_)=>
bif(!x0)then(some (1,()))else
(nv a0 a1 a2 a3).bind λ(x1,_)=>
bif(!x1)then(some (30,()))else
some (0,())
noncomputable def wa:X.Cfg:=⟨E0i,[mr,nF],[],[]⟩
def wN:Ctr:=⟨53,7,[.agg [shU (.row false lw),shU (.row false DF)],.agg [shU I64,shU I64]],[],[⟨[shU I64],[.one],[]⟩],λh=>d7 h.1 h.2.1 h.2.2.1 h.2.2.2.1⟩
set_option maxRecDepth 100000 in
theorem vN:Lvl E0i TTi mS 6 wN:=ca (n:=5) (C:=wa) rfl (.intro (sk.mono (by decide)) (.intro (tL.mono (by decide)) (.intro))) (cf (by kernel_rfl)) (λh=>by kernel_rfl)
def gb(a0:Int)(a1:Int)(a2:Int)(a3:Int)(a4:Int)(a5:Int)(a6:Int)(a7:List nN):Option (Bool×Unit):=
bif(a0==0)then(bif(a1==0)then(bif(a2==0)then(bif(a3==0)then(bif(a4==0)then(bif(a5==0)then(bif(a6==0)then(let x0:Int:=(cg (List.length a7));
some ((x0==0),()))else
some (false,()))else
some (false,()))else
some (false,()))else
some (false,()))else
some (false,()))else
some (false,()))else
some (false,())
noncomputable def tY:X.Cfg:=⟨E0i,[],[],[]⟩
def uo:Ctr:=⟨63,8,[.agg [shU I64,shU I64,shU I64,shU I64,shU I64,shU I64,shU (.int .u16),shU lw]],[],[⟨[shU .bool],[.one],[]⟩],λh=>gb h.1 h.2.1 h.2.2.1 h.2.2.2.1 h.2.2.2.2.1 h.2.2.2.2.2.1 h.2.2.2.2.2.2.1 h.2.2.2.2.2.2.2.1⟩
set_option maxRecDepth 100000 in
theorem tN:Lvl E0i TTi mS 1 uo:=ca (n:=0) (C:=tY) rfl (.intro) (cf (by kernel_rfl)) (λh=>by kernel_rfl)
def oo(a0:Int)(a1:Int):Option (Int×Unit):=
(bif(decide (a0<0))then(some (true,()))else
bif(decide (a1>200))then(some (true,()))else
some ((decide (a0>a1)),()):Option (Bool×Unit)).bind λ(x0,_)=>
bif x0 then(some (6,()))else
some (0,())
noncomputable def wc:X.Cfg:=⟨E0i,[],[],[⟨2,0,⟨[],[],[],([],[])⟩,[(.normal,⟨[(15,shU .bool)],[],[],([],[])⟩)]⟩]⟩
def pn:Ctr:=⟨30,9,[shU I64,shU I64],[],[⟨[shU I64],[.one],[]⟩],λh=>oo h.1 h.2.1⟩
set_option maxRecDepth 100000 in
theorem vP:Lvl E0i TTi mS 1 pn:=ca (n:=0) (C:=wc) rfl (.intro) (cf (by kernel_rfl)) (λh=>by kernel_rfl)
def kY(a0:Int)(a1:Int):Option (Int×Unit):=
bif(a0==(-1))then(some (1,()))else
some (0,())
noncomputable def wb:X.Cfg:=⟨E0i,[],[],[]⟩
def pm:Ctr:=⟨72,10,[.agg [shU I64,shU I64]],[],[⟨[shU I64],[.one],[]⟩],λh=>kY h.1 h.2.1⟩
set_option maxRecDepth 100000 in
theorem vO:Lvl E0i TTi mS 1 pm:=ca (n:=0) (C:=wb) rfl (.intro) (cf (by kernel_rfl)) (λh=>by kernel_rfl)
def fi(a0:Int):Option (Bool×Unit):=
some ((a0 != a0),())
noncomputable def lO:X.Cfg:=⟨E0i,[],[],[]⟩
def ie:Ctr:=⟨83,11,[shU I64],[],[⟨[shU .bool],[.one],[]⟩],λh=>fi h.1⟩
set_option maxRecDepth 100000 in
theorem lL:Lvl E0i TTi mS 1 ie:=ca (n:=0) (C:=lO) rfl (.intro) (cf (by kernel_rfl)) (λh=>by kernel_rfl)
def dA(a0:Int)(a1:Int):Option (Int×Unit):=
(fi a0).bind λ(x0,_)=>
(fi a1).bind λ(x1,_)=>
bif x0 then(bif x1 then(some (0,()))else
some ((-1),()))else
bif x1 then(some (1,()))else
bif(decide (a0<a1))then(some ((-1),()))else
bif(decide (a0>a1))then(some (1,()))else
some (0,())
noncomputable def jL:X.Cfg:=⟨E0i,[ie],[],[]⟩
def fU:Ctr:=⟨71,12,[shU I64,shU I64],[],[⟨[shU I64],[.one],[]⟩],λh=>dA h.1 h.2.1⟩
set_option maxRecDepth 100000 in
theorem jJ:Lvl E0i TTi mS 2 fU:=ca (n:=1) (C:=jL) rfl (.intro (lL.mono (by decide)) (.intro)) (cf (by kernel_rfl)) (λh=>by kernel_rfl)
def nQ:Int×(List (Int))×Int×Int×Unit->Option ((Int×(List (Int))×Int×Int×Unit)⊕((Int×Unit)⊕(Int×(List (Int))×Int×Int×Bool×Unit))):=λ(v0,v1,v2,v3,_)=>
bif(decide (v3<v2))then((ek v3).bind λx0=>
(cU v1 x0).bind λx1=>
bif(x1 != v0)then(some (.inr (.inl (x1,()))))else
let x2:Int:=(w64 (v3+1));
some (.inl (v0,v1,v2,x2,())))else
some (.inr (.inr (v0,v1,v2,v3,false,())))
def lD(a0:List (Int)):Option (Int×Unit):=
let x0:Int:=(cg (List.length a0));
(match ct nQ NN (0,a0,x0,0,())with
|none=>none
|some (.inl (x1,_))=>
some (x1,())
|some (.inr (x1,x2,x3,x4,x5,_))=>
some (x1,()))
noncomputable def q9:X.Cfg:=⟨E0i,[],[],[⟨4,0,⟨[(3,shU I64),(6,shU RIi),(7,shU I64),(8,shU I64)],[],[],([],[])⟩,[(.ret,⟨[(2,shU I64)],[],[],([],[])⟩),(.exit 0,⟨[(3,shU I64),(6,shU RIi),(7,shU I64),(8,shU I64),(9,shU .bool)],[],[],([],[])⟩)]⟩]⟩
def lG:Ctr:=⟨70,13,[shU RIi],[],[⟨[shU I64],[.one],[]⟩],λh=>lD h.1⟩
set_option maxRecDepth 100000 in
theorem qZ:Lvl E0i TTi mS 1 lG:=ca (n:=0) (C:=q9) rfl (.intro) (cf (by kernel_rfl)) (λh=>by kernel_rfl)
def ny(a0:Int)(a1:Int)(a2:Int)(a3:Int):Option (Int×Unit):=
(kY a0 a1).bind λ(x0,_)=>
(kY a2 a3).bind λ(x1,_)=>
(dA x0 x1).bind λ(x2,_)=>
(dA a0 a2).bind λ(x3,_)=>
(dA a1 a3).bind λ(x4,_)=>
let x5:List (Int):=[x2,x3,x4];
(lD x5).bind λ(x6,_)=>
some (x6,())
noncomputable def tZ:X.Cfg:=⟨E0i,[pm,fU,lG],[],[]⟩
def nH:Ctr:=⟨45,14,[.agg [shU I64,shU I64],.agg [shU I64,shU I64]],[],[⟨[shU I64],[.one],[]⟩],λh=>ny h.1 h.2.1 h.2.2.1 h.2.2.2.1⟩
set_option maxRecDepth 100000 in
theorem tO:Lvl E0i TTi mS 3 nH:=ca (n:=2) (C:=tZ) rfl (.intro (vO.mono (by decide)) (.intro (jJ.mono (by decide)) (.intro (qZ.mono (by decide)) (.intro)))) (cf (by kernel_rfl)) (λh=>by kernel_rfl)
def pH:Int×Int×Int×(List (Int×Int×(List nN)×Int×Int×Int×Int×Int×Int×Int×List nN))×Unit->Option ((Int×Int×Int×(List (Int×Int×(List nN)×Int×Int×Int×Int×Int×Int×Int×List nN))×Unit)⊕((Int×Unit)⊕(Int×Bool×Int×Int×(List (Int×Int×(List nN)×Int×Int×Int×Int×Int×Int×Int×List nN))×Unit))):=λ(v0,v1,v2,v3,_)=>
let x0:Int:=(cg (List.length v3));
bif(decide (v0<x0))then(let x1:Int:=(w64 (v0-1));
(ek x1).bind λx2=>
(cU v3 x2).bind λx3=>
(ek v0).bind λx4=>
(cU v3 x4).bind λx5=>
(ny x3.1 x3.2.1 x5.1 x5.2.1).bind λ(x6,_)=>
bif(decide (x6>=0))then(some (.inr (.inl (5,()))))else
let x7:Int:=(w64 (v0+1));
some (.inl (x7,v1,v2,v3,())))else
some (.inr (.inr (v0,false,v1,v2,v3,())))
def ff(a0:Int)(a1:Int)(a2:List (Int×Int×(List nN)×Int×Int×Int×Int×Int×Int×Int×List nN)):Option (Int×Unit):=
(oo a0 a1).bind λ(x0,_)=>
bif(x0 != 0)then(some (x0,()))else
(match ct pH NN (1,a0,a1,a2,())with
|none=>none
|some (.inl (x1,_))=>
some (x1,())
|some (.inr (x1,x2,x3,x4,x5,_))=>
some (0,()))
noncomputable def t7:X.Cfg:=⟨E0i,[pn,nH],[],[⟨7,0,⟨[(1,.ptr ⟨4,0,[]⟩ [0]),(4,shU I64)],[(4,[shU I64,shU I64,shU (.row false (.pair I64 (.pair I64 (.pair lw DF))))])],[],([],[])⟩,[(.ret,⟨[(2,shU I64)],[],[],([],[])⟩),(.exit 0,⟨[(1,.ptr ⟨4,0,[]⟩ [0]),(4,shU I64),(17,shU .bool)],[(4,[shU I64,shU I64,shU (.row false (.pair I64 (.pair I64 (.pair lw DF))))])],[],([],[])⟩)]⟩]⟩
def uq:Ctr:=⟨24,15,[.agg [shU I64,shU I64,shU (.row false (.pair I64 (.pair I64 (.pair lw DF))))]],[],[⟨[shU I64],[.one],[]⟩],λh=>ff h.1 h.2.1 h.2.2.1⟩
set_option maxRecDepth 100000 in
theorem tQ:Lvl E0i TTi mS 4 uq:=ca (n:=3) (C:=t7) rfl (.intro (vP.mono (by decide)) (.intro (tO.mono (by decide)) (.intro))) (cf (by kernel_rfl)) (λh=>by kernel_rfl)
def gX:Ctr:=⟨57,16,[shU (.row false (.row false (.pair I64 I64)))],[],[⟨[shU (.row false (.pair I64 I64))],[.one],[]⟩],λh=>dY h.1⟩
theorem ld:Lvl E0i TTi mS 1 gX:=(vL (DP rfl) kN).mono (by decide)
def ic:Ctr:=⟨56,17,[.fn 45 [],shU (.row false (.pair I64 I64))],[],[⟨[shU (.row false (.pair I64 I64))],[.one],[]⟩],λh=>d8 h.1⟩
theorem lK:Lvl E0i TTi mS 1 ic:=(vL (DP rfl) lb).mono (by decide)
def fc(a0:List L4)(a1:List L4):Option ((List L4)×Unit):=
let x0:List (List L4):=[a0,a1];
(dY x0).bind λ(x1,_)=>
(d8 x1).bind λ(x2,_)=>
some (x2,())
noncomputable def t6:X.Cfg:=⟨E0i,[gX,ic],[(7,(.row true (.pair I64 I64)))],[]⟩
def up:Ctr:=⟨33,18,[shU (.row false (.pair I64 I64)),shU (.row false (.pair I64 I64))],[],[⟨[shU (.row false (.pair I64 I64))],[.one],[]⟩],λh=>fc h.1 h.2.1⟩
set_option maxRecDepth 100000 in
theorem tP:Lvl E0i TTi mS 2 up:=ca (n:=1) (C:=t6) rfl (.intro (ld.mono (by decide)) (.intro (lK.mono (by decide)) (.intro))) (cf (by kernel_rfl)) (λh=>by kernel_rfl)
def dE(a0:List nN):Option ((List nN)×Unit):=
bif(dh 24 0 (List.length a0))then let x0:List nN:=(List.append [] a0);
some (x0,())else none
noncomputable def mj:X.Cfg:=⟨E0i,[],[],[]⟩
def fL:Ctr:=⟨58,19,[shU lw],[],[⟨[shU (.row true KS)],[.one],[]⟩],λh=>dE h.1⟩
set_option maxRecDepth 100000 in
theorem iR:Lvl E0i TTi mS 1 fL:=ca (n:=0) (C:=mj) rfl (.intro) (cf (by kernel_rfl)) (λh=>by kernel_rfl)
def ko(a0:Int)(a1:Int)(a2:Int)(a3:Int)(a4:Int)(a5:Int)(a6:Int)(a7:List nN):Option (Int×Int×Int×Int×Int×Int×Int×(List nN)×Unit):=
(dE a7).bind λ(x0,_)=>
some (a0,a1,a2,a3,a4,a5,a6,x0,())
noncomputable def t8:X.Cfg:=⟨E0i,[fL],[],[]⟩
def nI:Ctr:=⟨59,20,[.agg [shU I64,shU I64,shU I64,shU I64,shU I64,shU I64,shU (.int .u16),shU lw]],[],[⟨[shU I64,shU I64,shU I64,shU I64,shU I64,shU I64,shU (.int .u16),shU (.row true KS)],[.agg 8],[]⟩],λh=>ko h.1 h.2.1 h.2.2.1 h.2.2.2.1 h.2.2.2.2.1 h.2.2.2.2.2.1 h.2.2.2.2.2.2.1 h.2.2.2.2.2.2.2.1⟩
set_option maxRecDepth 100000 in
theorem tR:Lvl E0i TTi mS 2 nI:=ca (n:=1) (C:=t8) rfl (.intro (iR.mono (by decide)) (.intro)) (cf (by kernel_rfl)) (λh=>by kernel_rfl)
def kp(a0:Int)(a1:Int)(a2:List nN)(a3:Int)(a4:Int)(a5:Int)(a6:Int)(a7:Int)(a8:Int)(a9:Int)(a10:List nN):Option (Int×Int×(List nN)×Int×Int×Int×Int×Int×Int×Int×(List nN)×Unit):=
(dE a2).bind λ(x0,_)=>
(ko a3 a4 a5 a6 a7 a8 a9 a10).bind λ(x1,x2,x3,x4,x5,x6,x7,x8,_)=>
some (a0,a1,x0,x1,x2,x3,x4,x5,x6,x7,x8,())
noncomputable def ua:X.Cfg:=⟨E0i,[fL,nI],[],[]⟩
def ur:Ctr:=⟨34,21,[.agg [shU I64,shU I64,shU lw,shU I64,shU I64,shU I64,shU I64,shU I64,shU I64,shU (.int .u16),shU lw]],[],[⟨[shU I64,shU I64,shU (.row true KS),shU I64,shU I64,shU I64,shU I64,shU I64,shU I64,shU (.int .u16),shU (.row true KS)],[.agg 11],[]⟩],λh=>kp h.1 h.2.1 h.2.2.1 h.2.2.2.1 h.2.2.2.2.1 h.2.2.2.2.2.1 h.2.2.2.2.2.2.1 h.2.2.2.2.2.2.2.1 h.2.2.2.2.2.2.2.2.1 h.2.2.2.2.2.2.2.2.2.1 h.2.2.2.2.2.2.2.2.2.2.1⟩
set_option maxRecDepth 100000 in
theorem tS:Lvl E0i TTi mS 3 ur:=ca (n:=2) (C:=ua) rfl (.intro (iR.mono (by decide)) (.intro (tR.mono (by decide)) (.intro))) (cf (by kernel_rfl)) (λh=>by kernel_rfl)
def l8:CT->Bool
 |.int _=>true
 |.bool=>true
 |.row _ t=>l8 t
 |.pair a b=>l8 a&&l8 b
 |_=>false
theorem jk{α β:Type}{f:α->β}(hf:∀{x y:α},f x=f y->x=y):∀{xs ys:List α},xs.map f=ys.map f->xs=ys
 | [],[],_=>rfl
 | [],_::_,h=>by simp at h
 |_::_,[],h=>by simp at h
 |x::xs,y::ys,h=>by
  simp only[List.map_cons,List.cons.injEq]at h;rw[hf h.1,jk hf h.2]
theorem sR:∀(t:CT),l8 t=true->∀{x y:den t},enc t x=enc t y->x=y:=by
 intro t
 induction t with
 |int k=>intro _ x y h;simp only[enc,List.cons.injEq,TV.v.injEq,and_true]at h;injection h
 |bool=>intro _ x y h;simp only[enc,List.cons.injEq,TV.v.injEq,and_true]at h;injection h
 |str=>intro h;simp[l8]at h
 |nat=>intro h;simp[l8]at h
 |nilr o=>intro h;simp[l8]at h
 |row o t ih=>
  intro hp x y h;have ih:=@ih hp
  have h2:List.map (enc t) (x:List (den t))=List.map (enc t) (y:List (den t)):=by
   cases o
   ·simp only[enc,List.cons.injEq,TV.sl.injEq,and_true]at h;exact h
   ·simp only[enc,List.cons.injEq,TV.ow.injEq,and_true]at h;exact h
  exact jk (λe=>ih e) h2
 |pair a b Zb Y3=>
  intro hp x y h;simp only[l8,oBA]at hp;obtain⟨x1,x2⟩:=x;obtain⟨y1,y2⟩:=y;simp only[enc]at h;obtain⟨h1,h2⟩:=List.append_inj h (by rw[dz,dz]);rw[@Zb hp.1 _ _ h1,@Y3 hp.2 _ _ h2]
theorem Lx:DH Try.prog E0i:=λf n tm h=>by simp[E0i]at h
theorem Ln(k:Nat):eW Try.prog (runF E0i TTi mS k):=runF_ok K0 Lx Fn k
theorem fK{w w':World}(h:Below w.heap.size w w'):w.grownBy w' none:=⟨h.os,h.tape,h.output,h.size,λk hk _=>h.block k hk⟩
theorem FP(C:List (List Cn4))(T:List Vw8)(r i fe:Int)(h:d7 C T r i=some (fe,())):
 runF E0i TTi mS (NN+6) 53 [.agg [.sl (C.map (enc cCs)),.sl (T.map (enc cVw))],.agg [.v (.int .i64 r),.v (.int .i64 i)]] []=some (⟨[.v (.int .i64 fe)],[.one]⟩,[]):=
 vN 6 (Nat.le_refl _) ⟨C,T,r,i,()⟩ (fe,()) _ h rfl
theorem De{w:World}{F:Nat->Prop}{C:List (List Cn4)}{T:List Vw8}{U V:Value}{r i fe:Int}(hu:RSl rCs w F C U)(hv:RSl rVw w F T V)(h:d7 C T r i=some (fe,())):
 ∀w',w.grownBy w' none->Calls Try.prog 53 #[.agg #[U,V],.agg #[.int .i64 r,.int .i64 i]] w' λe w2=>e=.returned (.int .i64 fe)/\w'.grownBy w2 none:=λw' hg=>by
 refine(pt (Ln _) (FP C T r i fe h) rfl (avs:=[.agg #[U,V],.agg #[.int .i64 r,.int .i64 i]]) (w:=w') (F:=F) rfl λj hj _=>?_).mono ?_
 ·have hj:j<2:=hj
  match j,hj with
  |0,_=>
   refine .ag rfl λj hj=>?_;have hj:j<2:=hj
   match j,hj with
   |0,_=>exact oD xx (hu.grow hg)
   |1,_=>exact oD Bq (hv.grow hg)
  |1,_=>
   refine .ag rfl λj hj=>?_;have hj:j<2:=hj
   match j,hj with
   |0,_=>exact .v rfl
   |1,_=>exact .v rfl
 ·rintro e w2 ⟨ys,rfl,hl,hb,X'⟩;obtain⟨y,rfl⟩:=List.length_eq_one_iff.1 hl;have h0:=X' 0 Nat.one_pos;replace h0:f8 w2 _ (.v (.int .i64 fe)) y:=h0
  cases h0 with
  |v _=>exact⟨rfl,fK hb⟩
theorem Dh(v0 v1 v2 v3 v4 v5 v6:Int)(L:List Cn4)(eb:Bool)(h:gb v0 v1 v2 v3 v4 v5 v6 L=some (eb,())):
 runF E0i TTi mS (NN+1) 63 [.agg [.v (.int .i64 v0),.v (.int .i64 v1),.v (.int .i64 v2),.v (.int .i64 v3),.v (.int .i64 v4),.v (.int .i64 v5),.v (.int .u16 v6),.sl (L.map (enc cCn))]] []=some (⟨[.v (.bool eb)],[.one]⟩,[]):=
 tN 1 (Nat.le_refl _) ⟨v0,v1,v2,v3,v4,v5,v6,L,()⟩ (eb,()) _ h rfl
theorem Am{w:World}{F:Nat->Prop}{v0 v1 v2 v3 v4 v5 v6:Int}{L:List Cn4}{Z:Value}{eb:Bool}(hz:RSl rCn w F L Z)(h:gb v0 v1 v2 v3 v4 v5 v6 L=some (eb,())):
 ∀w',w.grownBy w' none->Calls Try.prog 63 #[.agg #[.int .i64 v0,.int .i64 v1,.int .i64 v2,.int .i64 v3,.int .i64 v4,.int .i64 v5,.int .u16 v6,Z]] w' λe w2=>e=.returned (.bool eb)/\w'.grownBy w2 none:=λw' hg=>by
 refine(pt (Ln _) (Dh v0 v1 v2 v3 v4 v5 v6 L eb h) rfl (avs:=[.agg #[.int .i64 v0,.int .i64 v1,.int .i64 v2,.int .i64 v3,.int .i64 v4,.int .i64 v5,.int .u16 v6,Z]]) (w:=w') (F:=F) rfl λj hj _=>?_).mono ?_
 ·have hj:j<1:=hj
  match j,hj with
  |0,_=>
   refine .ag rfl λj hj=>?_;have hj:j<8:=hj
   match j,hj with
   |0,_=>exact .v rfl
   |1,_=>exact .v rfl
   |2,_=>exact .v rfl
   |3,_=>exact .v rfl
   |4,_=>exact .v rfl
   |5,_=>exact .v rfl
   |6,_=>exact .v rfl
   |7,_=>exact oD IT (hz.grow hg)
 ·rintro e w2 ⟨ys,rfl,hl,hb,X'⟩;obtain⟨y,rfl⟩:=List.length_eq_one_iff.1 hl;have h0:=X' 0 Nat.one_pos;replace h0:f8 w2 _ (.v (.bool eb)) y:=h0
  cases h0 with
  |v _=>exact⟨rfl,fK hb⟩
theorem Dw(xf xt:Int)(xs:List jl)(c:Int)(h:ff xf xt xs=some (c,())):
 runF E0i TTi mS (NN+4) 24 [.agg [.v (.int .i64 xf),.v (.int .i64 xt),.sl (xs.map (enc cPg))]] []=some (⟨[.v (.int .i64 c)],[.one]⟩,[]):=
 tQ 4 (Nat.le_refl _) ⟨xf,xt,xs,()⟩ (c,()) _ h rfl
theorem s7{w:World}{F:Nat->Prop}{xf xt:Int}{xs:List jl}{X:Value}{c:Int}(hx:RSl rPg w F xs X)(h:ff xf xt xs=some (c,())):Gm (.agg #[.int .i64 xf,.int .i64 xt,X]) c w:=λw' hg=>by
 refine(pt (Ln _) (Dw xf xt xs c h) rfl (avs:=[.agg #[.int .i64 xf,.int .i64 xt,X]]) (w:=w') (F:=F) rfl λj hj _=>?_).mono ?_
 ·have hj:j<1:=hj
  match j,hj with
  |0,_=>
   refine .ag rfl λj hj=>?_;have hj:j<3:=hj
   match j,hj with
   |0,_=>exact .v rfl
   |1,_=>exact .v rfl
   |2,_=>exact oD rZ (hx.grow hg)
 ·rintro e w2 ⟨ys,rfl,hl,hb,X'⟩;obtain⟨y,rfl⟩:=List.length_eq_one_iff.1 hl;have h0:=X' 0 Nat.one_pos;replace h0:f8 w2 _ (.v (.int .i64 c)) y:=h0
  cases h0 with
  |v _=>exact⟨rfl,fK hb⟩
theorem An(ids sids:List (Int×Int))(h:fc ids []=some (sids,())):
 runF E0i TTi mS (NN+2) 33 [.sl (ids.map (enc (.pair (.int .i64) (.int .i64)))),.sl []] []=some (⟨[.sl (sids.map (enc (.pair (.int .i64) (.int .i64))))],[.one]⟩,[]):=
 tP 2 (Nat.le_refl _) ⟨ids,[],()⟩ (sids,()) _ h rfl
theorem Al(l:List (Int×Int)):(TV.sl (l.map (enc (.pair (.int .i64) (.int .i64))))).imm=.sl (l.map (enc (.pair (.int .i64) (.int .i64)))):=by
 simp only[TV.imm]
theorem yC{w:World}{ids sids:List (Int×Int)}(h:fc ids []=some (sids,()))(hs:sids.length<=1099511627776):Mu ids sids w:=λw' V G hg hv=>by
 refine(pt (Ln _) (An ids sids h) rfl (avs:=[V,.slice none 0 0]) (w:=w') (F:=G) rfl λj hj _=>?_).mono ?_
 ·have hj:j<2:=hj
  match j,hj with
  |0,_=>exact .im (oD IS hv)
  |1,_=>exact .im rE
 ·rintro e w2 ⟨ys,rfl,hl,hb,X'⟩;obtain⟨y,rfl⟩:=List.length_eq_one_iff.1 hl;have h0:=X' 0 Nat.one_pos;replace h0:f8 w2 _ (TV.sl (sids.map (enc (.pair (.int .i64) (.int .i64))))).imm y:=h0;rw[Al]at h0;exact⟨y,rfl,uV IS h0 (λ_ _=>trivial) hs,fK hb⟩
theorem sW{l:List Cn4}(h:l.length<=1099511627776):dE l=some (l,()):=by
 have:dh 24 0 (List.length l)=true:=by
  unfold dh;simp only[oBA,oDE];omega
 unfold dE;rw[this];rfl
theorem E8(p:jl)(h:PgB p):
 runF E0i TTi mS (NN+3) 34 [.agg (enc cPg p)] []=some (⟨[.v (.int .i64 p.1),.v (.int .i64 p.2.1),.ow (p.2.2.1.map (enc cCn)),.v (.int .i64 p.2.2.2.1),.v (.int .i64 p.2.2.2.2.1),.v (.int .i64 p.2.2.2.2.2.1),.v (.int .i64 p.2.2.2.2.2.2.1),.v (.int .i64 p.2.2.2.2.2.2.2.1),.v (.int .i64 p.2.2.2.2.2.2.2.2.1),.v (.int .u16 p.2.2.2.2.2.2.2.2.2.1),.ow (p.2.2.2.2.2.2.2.2.2.2.map (enc cCn))],[.agg 11]⟩,[]):=by
 obtain⟨a,c,pc,v0,v1,v2,v3,v4,v5,v6,pr⟩:=p
 exact tS 3 (Nat.le_refl _) ⟨a,c,pc,v0,v1,v2,v3,v4,v5,v6,pr,()⟩ (a,c,pc,v0,v1,v2,v3,v4,v5,v6,pr,()) _ (by
  show kp a c pc v0 v1 v2 v3 v4 v5 v6 pr=_;unfold kp ko;rw[sW h.1,sW h.2]
  rfl) rfl
theorem uY(l:List Cn4):(TV.ow (l.map (enc cCn))).imm=.sl (l.map (enc cCn)):=by
 simp only[TV.imm,ki,List.map_map];rfl
theorem Hi{w:World}{F:Nat->Prop}{p:jl}{cs:List Value}(h:rPg.rep w F p cs):PgB p:=by
 obtain⟨y,z,_,hy,hz⟩:=Bx h;obtain⟨_,_,_,_,_,h1⟩:=hy.size_eq;obtain⟨_,_,_,_,_,h2⟩:=hz.size_eq;exact⟨h1,h2⟩
theorem CR{w:World}{F:Nat->Prop}:Jc F w:=λw' p cs hg hr=>by
 have hB:=Hi hr;refine(pt (Ln _) (E8 p hB) rfl (avs:=[.agg cs.toArray]) (w:=w') (F:=F) rfl λj hj _=>?_).mono ?_
 ·have hj:j<1:=hj
  match j,hj with
  |0,_=>
   have hrel:=rZ.toI hr;refine .ag (by simpa using hrel.len) λj hj=>?_;have:=hrel.get j hj;simpa[Array.getD_eq_getD_getElem?,oGD]using this
 ·rintro e w2 ⟨ys,rfl,hl,hb,X'⟩;have hlen:ys.length=11:=hl
  have hrel:mG w2 (λk=>F k\/w'.heap.size<=k) (enc cPg p) ys:=by
   refine mG.of (by rw[hlen];rfl) λj hj=>?_
   have RB:j<11:=by rw[dz]at hj;exact hj
   have h0:=X' j RB
   match j,RB with
   |0,_=>exact h0
   |1,_=>exact h0
   |2,_=>
    replace h0:f8 w2 _ (TV.ow (p.2.2.1.map (enc cCn))).imm (ys.getD 2 undef):=h0;rw[uY]at h0;exact h0
   |3,_=>exact h0
   |4,_=>exact h0
   |5,_=>exact h0
   |6,_=>exact h0
   |7,_=>exact h0
   |8,_=>exact h0
   |9,_=>exact h0
   |10,_=>
    replace h0:f8 w2 _ (TV.ow (p.2.2.2.2.2.2.2.2.2.2.map (enc cCn))).imm (ys.getD 10 undef):=h0;rw[uY]at h0;exact h0
  refine⟨ys,?_,rZ.of hrel hB,fK hb⟩
  match ys,hlen with
  | [a0,a1,a2,a3,a4,a5,a6,a7,a8,a9,a10],_=>rfl
theorem rj.agg_out{w:World}{F:Nat->Prop}{l:List TV}{x:Value}(h:rj w F (.agg l) x):∃cs:List Value,x=.agg cs.toArray/\mG w F l cs:=by
 cases h with
 |im h=>cases h
 | @ag _ cs hl h=>
  refine⟨cs.toList,by simp,mG.of (by simpa using hl.symm) λj hj=>?_⟩;have:=h j hj;simpa[Array.getD_eq_getD_getElem?,oGD]using this
theorem tj{w w':World}(h:w.grownBy w' none):Below w.heap.size w w':=⟨h.os,h.tape,h.output,h.size,λk hk=>h.block k hk (by simp)⟩
def EC(C:List (List Cn4))(T:List Vw8)(cells L:List Cn4):Bool:=decide (C.length<=1099511627776)&&C.all (λx=>decide (x.length<=1099511627776))&&decide (T.length<=1099511627776)&&T.all (λx=>decide (x.2.2.2.2.2.2.2.length<=1099511627776))&&decide (cells.length<=1099511627776)&&decide (L.length<=1099511627776)
def de(C:List (List Cn4))(T:List Vw8)(a0 a1:Int)(cells:List Cn4)(v0 v1 v2 v3 v4 v5 v6:Int)(L:List Cn4):Option (List (List Cn4)×List Vw8×Int×Unit):=
 if EC C T cells L=true then
  (d7 C T a0 a1).bind λ(fe,_)=>
  if fe≠0 then some ([],[],fe,())
  else if a0=-1 then(if 0<cells.length then some ([],[],5,())else if 0<=a1/\a1.toNat<T.length then some (C,T.set a1.toNat (v0,v1,v2,v3,v4,v5,v6,L),0,())else none)
  else if 0<=a0/\a0.toNat<C.length/\0<=a1/\a1<=32/\8*a1.toNat<(C.getD a0.toNat []).length then
   (gb v0 v1 v2 v3 v4 v5 v6 L).bind λ(eb,_)=>
   if cells.length≠min 8 ((C.getD a0.toNat []).length-8*a1.toNat)\/eb=false then some ([],[],5,())else some (C.set a0.toNat (jS (C.getD a0.toNat []) a1.toNat cells),T,0,())
  else none
 else none
def mF(C':List (List Cn4))(T':List Vw8)(err:Int)(w:World)(e:Ending)(w':World):Prop:=
 ∃a b,e=.returned (.tuple #[.agg #[a,b],.int .i64 err])/\RSl rCs w' (λk=>w.heap.size<=k) C' a/\RSl rVw w' (λk=>w.heap.size<=k) T' b/\w.grownBy w' none
theorem mF.nil{w w':World}{e:Ending}{err:Int}(h:e=.returned (.tuple #[.agg #[.slice none 0 0,.slice none 0 0],.int .i64 err])/\w.grownBy w' none):mF [] [] err w e w':=⟨_,_,h.1,RSl.nil _ _,RSl.nil _ _,h.2⟩
theorem mF.ret{C:List (List Cn4)}{T:List Vw8}{w w':World}{e:Ending}(h:Ca C T w e w'):mF C T 0 w e w':=h
theorem Ez{F:Nat->Prop}{C:List (List Cn4)}{T:List Vw8}{a0 a1:Int}{cells:List Cn4}{v0 v1 v2 v3 v4 v5 v6:Int}{L:List Cn4}{U V Y Z:Value}{w:World}{C':List (List Cn4)}{T':List Vw8}{err:Int}
 (hu:RSl rCs w F C U)(hv:RSl rVw w F T V)(hy:RSl rCn w F cells Y)(hz:RSl rCn w F L Z)(h:de C T a0 a1 cells v0 v1 v2 v3 v4 v5 v6 L=some (C',T',err,())):
 Calls Try.prog 36 #[.agg #[U,V],.agg #[.int .i64 a0,.int .i64 a1,Y,.int .i64 v0,.int .i64 v1,.int .i64 v2,.int .i64 v3,.int .i64 v4,.int .i64 v5,.int .u16 v6,Z]] w (mF C' T' err w):=by
 unfold de at h;split at h
 case isFalse=>cases h
 obtain⟨⟨fe,u⟩,hf,h⟩:=Option.bind_eq_some_iff.1 h;have ZQ:=De hu hv hf;dsimp only at h;split at h
 ·rename_i hne
  injection h with h
  injection h with h1 h
  injection h with h2 h
  injection h with h3 h
  subst h1 h2 h3;exact(GV F C T a0 a1 cells v0 v1 v2 v3 v4 v5 v6 L U V Y Z w fe hu hv hy hz ZQ (by simpa using hne)).mono λe w' h=>mF.nil h
 rename_i h0
 have h0:fe=0:=by simpa using h0
 split at h
 ·rename_i hr;split at h
  ·rename_i hc
   injection h with h
   injection h with h1 h
   injection h with h2 h
   injection h with h3 h
   subst h1 h2 h3;exact(Ex F C T a0 a1 cells v0 v1 v2 v3 v4 v5 v6 L U V Y Z w fe hu hv hy hz ZQ h0 hr hc).mono λe w' h=>mF.nil h
  ·rename_i hc;split at h
   case isFalse=>cases h
   rename_i hj;obtain⟨j,rfl⟩:=Int.eq_ofNat_of_zero_le hj.1
   injection h with h
   injection h with h1 h
   injection h with h2 h
   injection h with h3 h
   subst h1 h2 h3 hr;exact(Cy F C T j cells v0 v1 v2 v3 v4 v5 v6 L U V Y Z w fe hu hv hy hz ZQ h0 (by omega) (by simpa using hj.2)).mono λe w' h=>mF.ret h
 ·split at h
  case isFalse=>cases h
  rename_i hg;obtain⟨g1,g2,g3,g4,g5⟩:=hg;obtain⟨k,rfl⟩:=Int.eq_ofNat_of_zero_le g1;obtain⟨j,rfl⟩:=Int.eq_ofNat_of_zero_le g3;simp only[oTN]at g2 g5 h
  have e1:C.getD k []=C[k]:=by simp[oGD,g2]
  rw[e1]at g5 h;obtain⟨⟨eb,u2⟩,he,h⟩:=Option.bind_eq_some_iff.1 h;have ZA:=λw' hg=>Am (w:=w) hz he w' hg;dsimp only at h;split at h
  ·rename_i hc
   injection h with h
   injection h with h1 h
   injection h with h2 h
   injection h with h3 h
   subst h1 h2 h3;by_cases hcl:cells.length=min 8 (C[k].length-8*j)
   ·exact(Ev F C T k j cells v0 v1 v2 v3 v4 v5 v6 L U V Y Z w fe hu hv hy hz ZQ eb ZA h0 g2 (by omega) g5 hcl (by rcases hc with hc|hc;exact absurd hcl hc;exact hc)).mono λe w' h=>mF.nil h
   ·exact(Ew F C T k j cells v0 v1 v2 v3 v4 v5 v6 L U V Y Z w fe hu hv hy hz ZQ eb ZA h0 g2 (by omega) g5 hcl).mono λe w' h=>mF.nil h
  ·rename_i hc
   injection h with h
   injection h with h1 h
   injection h with h2 h
   injection h with h3 h
   subst h1 h2 h3;exact(Ey F C T k j cells v0 v1 v2 v3 v4 v5 v6 L U V Y Z w fe hu hv hy hz ZQ eb ZA h0 g2 (by omega) g5 (by omega) (by cases eb;exact absurd (.inr rfl) hc;rfl)).mono λe w' h=>mF.ret h
theorem JN{C:List (List Cn4)}{T:List Vw8}{p:jl}{C':List (List Cn4)}{T':List Vw8}{err:Int}(h:de C T p.1 p.2.1 p.2.2.1 p.2.2.2.1 p.2.2.2.2.1 p.2.2.2.2.2.1 p.2.2.2.2.2.2.1 p.2.2.2.2.2.2.2.1 p.2.2.2.2.2.2.2.2.1 p.2.2.2.2.2.2.2.2.2.1 p.2.2.2.2.2.2.2.2.2.2=some (C',T',err,())):
 Ce Try.prog 36 [.agg [.sl (C.map (enc cCs)),.sl (T.map (enc cVw))],.agg (enc cPg p)] ⟨[.sl (C'.map (enc cCs)),.sl (T'.map (enc cVw)),.v (.int .i64 err)],[.agg 2,.one]⟩:=by
 have hok:EC C T p.2.2.1 p.2.2.2.2.2.2.2.2.2.2=true:=by
  unfold de at h;split at h
  ·assumption
  ·cases h
 simp only[EC,oBA,oDE,List.all_eq_true]at hok;obtain⟨⟨⟨⟨⟨o1,o2⟩,o3⟩,o4⟩,o5⟩,o6⟩:=hok;refine⟨rfl,λavs w F hl hv=>?_⟩
 obtain⟨x,y,rfl⟩:∃x y,avs=[x,y]:=by
  match avs,hl with
  | [x,y],_=>exact⟨x,y,rfl⟩
 obtain⟨cs,rfl,XW⟩:=(hv 0 (by simp) (by simp)).agg_out;obtain⟨ds,rfl,hds⟩:=(hv 1 (by simp) (by simp)).agg_out;obtain⟨U,_,rfl,hU,V,_,rfl,hV,rfl⟩:=XW;have QA:=rZ.of hds ⟨o5,o6⟩;obtain⟨Y,Z,rfl,hY,hZ⟩:=Bx QA;have hu:RSl rCs w F C U:=uV xx hU (λx hx=>o2 x hx) o1;have PU:RSl rVw w F T V:=uV Bq hV (λx hx=>o4 x hx) o3;refine(Ez hu PU hY hZ h).mono ?_;rintro e w' ⟨a,b,rfl,ha,hb,hg⟩;refine⟨[a,b,.int .i64 err],rfl,rfl,tj hg,λj hj=>?_⟩;have hj:j<3:=hj
 match j,hj with
 |0,_=>exact oD xx (ha.sub λk hk=>.inr hk)
 |1,_=>exact oD Bq (hb.sub λk hk=>.inr hk)
 |2,_=>exact .v rfl
def wfP(x:Int×Int):Bool:=(Lit.int .i64 x.1).wf&&(Lit.int .i64 x.2).wf
theorem IF{x:Int×Int}(h:wfP x=true):KD x:=by
 simp only[wfP,oBA]at h;exact h
def pZ(xs ys:List jl):Bool:=decide (xs.length+ys.length<=1099511627776)&&(xs++ys).all (λp=>decide (p.2.2.1.length<=1099511627776)&&decide (p.2.2.2.2.2.2.2.2.2.2.length<=1099511627776)&&wfP (jd p))
def cn(xf xt:Int)(xs:List jl)(yf yt:Int)(ys:List jl):Option (Int×Int×List jl×Int×Unit):=
 if pZ xs ys=true then
  (ff xf xt xs).bind λ(cd,_)=>
  (ff yf yt ys).bind λ(ce,_)=>
  if cd≠0 then some (0,0,[],cd,())
  else if ce≠0 then some (0,0,[],ce,())
  else if xt≠yf then some (0,0,[],35,())
  else(fc ((xs++ys).map jd) []).bind λ(sids,_)=>
   if sids.length<=1099511627776/\sids.all wfP=true then some (xf,yt,sids.map (ib (xs++ys)),0,())else none
 else none
def Cc(F:Nat->Prop)(f t:Int)(zs:List jl)(err:Int)(w:World)(e:Ending)(w':World):Prop:=
 ∃v,e=.returned (.tuple #[.agg #[.int .i64 f,.int .i64 t,v],.int .i64 err])/\RSl rPg w' (λk=>F k\/w.heap.size<=k) zs v/\w.grownBy w' none
theorem zL{F:Nat->Prop}{xs ys:List jl}{X Y:Value}{xf xt yf yt:Int}{w:World}{f t err:Int}{zs:List jl}(hx:RSl rPg w F xs X)(hy:RSl rPg w F ys Y)(h:cn xf xt xs yf yt ys=some (f,t,zs,err,())):
 Calls Try.prog 16 #[.agg #[.int .i64 xf,.int .i64 xt,X],.agg #[.int .i64 yf,.int .i64 yt,Y]] w (Cc F f t zs err w):=by
 unfold cn at h;split at h
 case isFalse=>cases h
 rename_i hok;simp only[pZ,oBA,oDE,List.all_eq_true]at hok;obtain⟨⟨cd,u1⟩,Tz,h⟩:=Option.bind_eq_some_iff.1 h;obtain⟨⟨ce,u2⟩,TC,h⟩:=Option.bind_eq_some_iff.1 h;have hd:=s7 hx Tz;have he:=s7 hy TC;dsimp only at h
 have bad:∀r,((cd≠0/\r=cd)\/(cd=0/\ce≠0/\r=ce)\/(cd=0/\ce=0/\xt≠yf/\r=35))->Calls Try.prog 16 #[.agg #[.int .i64 xf,.int .i64 xt,X],.agg #[.int .i64 yf,.int .i64 yt,Y]] w (Cc F 0 0 [] r w):=λr hr=>by
  obtain⟨A1,c1,rfl,_⟩:=hx.size_eq;obtain⟨A2,c2,rfl,_⟩:=hy.size_eq;exact(Fi A1 A2 xs.length ys.length c1 c2 xf xt yf yt w cd ce hd he r hr).mono λe w' h=>⟨_,h.1,RSl.nil _ _,h.2⟩
 split at h
 ·rename_i h1
  injection h with h
  injection h with e1 h
  injection h with e2 h
  injection h with e3 h
  injection h with e4 h
  subst e1 e2 e3 e4;exact bad _ (.inl ⟨h1,rfl⟩)
 rename_i h1
 have h1:cd=0:=by simpa using h1
 split at h
 ·rename_i h2
  injection h with h
  injection h with e1 h
  injection h with e2 h
  injection h with e3 h
  injection h with e4 h
  subst e1 e2 e3 e4;exact bad _ (.inr (.inl ⟨h1,h2,rfl⟩))
 rename_i h2
 have h2:ce=0:=by simpa using h2
 split at h
 ·rename_i h3
  injection h with h
  injection h with e1 h
  injection h with e2 h
  injection h with e3 h
  injection h with e4 h
  subst e1 e2 e3 e4;exact bad _ (.inr (.inr ⟨h1,h2,h3,rfl⟩))
 rename_i h3
 have h3:xt=yf:=by simpa using h3
 obtain⟨⟨sids,u3⟩,hm,h⟩:=Option.bind_eq_some_iff.1 h;dsimp only at h;split at h
 case isFalse=>cases h
 rename_i h4
 injection h with h
 injection h with e1 h
 injection h with e2 h
 injection h with e3 h
 injection h with e4 h
 subst e1 e2 e3 e4 h1 h2 h3;exact CY F xs ys sids X Y xf xt yt w hx hy hd he (λp hp=>IF (hok.2 p hp).2) (λs hs=>IF (List.all_eq_true.1 h4.2 s hs)) hok.1 h4.1 (yC hm h4.1) CR
theorem Fg{xf xt yf yt:Int}{xs ys zs:List jl}{f t err:Int}(h:cn xf xt xs yf yt ys=some (f,t,zs,err,())):
 Ce Try.prog 16 [.agg [.v (.int .i64 xf),.v (.int .i64 xt),.sl (xs.map (enc cPg))],.agg [.v (.int .i64 yf),.v (.int .i64 yt),.sl (ys.map (enc cPg))]] ⟨[.v (.int .i64 f),.v (.int .i64 t),.sl (zs.map (enc cPg)),.v (.int .i64 err)],[.agg 3,.one]⟩:=by
 have hok:pZ xs ys=true:=by
  unfold cn at h;split at h
  ·assumption
  ·cases h
 simp only[pZ,oBA,oDE,List.all_eq_true]at hok;refine⟨rfl,λavs w F hl hv=>?_⟩
 obtain⟨x,y,rfl⟩:∃x y,avs=[x,y]:=by
  match avs,hl with
  | [x,y],_=>exact⟨x,y,rfl⟩
 obtain⟨cs,rfl,XW⟩:=(hv 0 (by simp) (by simp)).agg_out;obtain⟨ds,rfl,hds⟩:=(hv 1 (by simp) (by simp)).agg_out;obtain⟨a1,_,rfl,i1,a2,_,rfl,i2,X,_,rfl,hX,rfl⟩:=XW;obtain⟨b1,_,rfl,j1,b2,_,rfl,j2,Y,_,rfl,hY,rfl⟩:=hds;cases i1;cases i2;cases j1;cases j2;have hx:RSl rPg w F xs X:=uV rZ hX (λp hp=>⟨(hok.2 p (List.mem_append_left _ hp)).1.1,(hok.2 p (List.mem_append_left _ hp)).1.2⟩) (by omega);have hy:RSl rPg w F ys Y:=uV rZ hY (λp hp=>⟨(hok.2 p (List.mem_append_right _ hp)).1.1,(hok.2 p (List.mem_append_right _ hp)).1.2⟩) (by omega);refine(zL hx hy h).mono ?_;rintro e w' ⟨v,rfl,hr,hg⟩;refine⟨[.int .i64 f,.int .i64 t,v,.int .i64 err],rfl,rfl,tj hg,λj hj=>?_⟩;have hj:j<4:=hj
 match j,hj with
 |0,_=>exact .v rfl
 |1,_=>exact .v rfl
 |2,_=>exact oD rZ hr
 |3,_=>exact .v rfl
def lX(C:List (List Cn4))(T:List Vw8)(p:jl):List TV:=[.agg [.sl (C.map (enc cCs)),.sl (T.map (enc cVw))],.agg (enc cPg p)]
def EB(C':List (List Cn4))(T':List Vw8)(err:Int):tD:=⟨[.sl (C'.map (enc cCs)),.sl (T'.map (enc cVw)),.v (.int .i64 err)],[.agg 2,.one]⟩
def iQ(xf xt:Int)(xs:List jl)(yf yt:Int)(ys:List jl):List TV:=[.agg [.v (.int .i64 xf),.v (.int .i64 xt),.sl (xs.map (enc cPg))],.agg [.v (.int .i64 yf),.v (.int .i64 yt),.sl (ys.map (enc cPg))]]
def vI(f t:Int)(zs:List jl)(err:Int):tD:=⟨[.v (.int .i64 f),.v (.int .i64 t),.sl (zs.map (enc cPg)),.v (.int .i64 err)],[.agg 3,.one]⟩
def Ky(f:FuncId)(vals:List TV)(r:tD):Prop:=f=36/\∃(C:List (List Cn4))(T:List Vw8)(p:jl)(C':List (List Cn4))(T':List Vw8)(err:Int),vals=lX C T p/\de C T p.1 p.2.1 p.2.2.1 p.2.2.2.1 p.2.2.2.2.1 p.2.2.2.2.2.1 p.2.2.2.2.2.2.1 p.2.2.2.2.2.2.2.1 p.2.2.2.2.2.2.2.2.1 p.2.2.2.2.2.2.2.2.2.1 p.2.2.2.2.2.2.2.2.2.2=some (C',T',err,())/\r=EB C' T' err
def AU(f:FuncId)(vals:List TV)(r:tD):Prop:=f=16/\∃(xf xt:Int)(xs:List jl)(yf yt:Int)(ys:List jl)(g t:Int)(zs:List jl)(err:Int),vals=iQ xf xt xs yf yt ys/\cn xf xt xs yf yt ys=some (g,t,zs,err,())/\r=vI g t zs err
theorem JO{C D:List (List Cn4)}{T U:List Vw8}{p q:jl}(h:lX C T p=lX D U q):C=D/\T=U/\p=q:=by
 simp only[lX,List.cons.injEq,TV.agg.injEq,TV.sl.injEq,and_true]at h;exact⟨jk (λe=>sR cCs rfl e) h.1.1,jk (λe=>sR cVw rfl e) h.1.2,sR cPg rfl h.2⟩
theorem Fh{a b c d a' b' c' d':Int}{xs ys xs' NT:List jl}(h:iQ a b xs c d ys=iQ a' b' xs' c' d' NT):a=a'/\b=b'/\xs=xs'/\c=c'/\d=d'/\ys=NT:=by
 simp only[iQ,List.cons.injEq,TV.agg.injEq,TV.sl.injEq,TV.v.injEq,Value.int.injEq,and_true,true_and]at h;exact⟨h.1.1,h.1.2.1,jk (λe=>sR cPg rfl e) h.1.2.2,h.2.1,h.2.2.1,jk (λe=>sR cPg rfl e) h.2.2.2⟩
theorem Cz:io Try.prog 36:=jE Try.func36 (by kernel_rfl) rfl
theorem xK:io Try.prog 16:=jE Try.func16 (by kernel_rfl) rfl
noncomputable def ub (f:FuncId)(vals:List TV):Option tD:=@dite _ (∃r,Ky f vals r\/AU f vals r) (Classical.propDecidable _) (λh=>some (Classical.choose h)) (λ_=>none)
theorem Hz:∀f vals r,ub f vals=some r->io Try.prog f/\Ce Try.prog f vals r:=by
 intro f vals r h;unfold ub at h;split at h
 case isFalse=>cases h
 rename_i hx
 injection h with h
 have hs:=Classical.choose_spec hx;rw[h]at hs
 rcases hs with⟨rfl,C,T,p,C',T',err,rfl,hr,rfl⟩|⟨rfl,xf,xt,xs,yf,yt,ys,g,t,zs,err,rfl,hr,rfl⟩
 ·exact⟨Cz,JN hr⟩
 ·exact⟨xK,Fg hr⟩
theorem FF{C:List (List Cn4)}{T:List Vw8}{p:jl}{C':List (List Cn4)}{T':List Vw8}{err:Int}(h:de C T p.1 p.2.1 p.2.2.1 p.2.2.2.1 p.2.2.2.2.1 p.2.2.2.2.2.1 p.2.2.2.2.2.2.1 p.2.2.2.2.2.2.2.1 p.2.2.2.2.2.2.2.2.1 p.2.2.2.2.2.2.2.2.2.1 p.2.2.2.2.2.2.2.2.2.2=some (C',T',err,())):
 ub 36 (lX C T p)=some (EB C' T' err):=by
 have hx:∃r,Ky 36 (lX C T p) r\/AU 36 (lX C T p) r:=⟨_,.inl ⟨rfl,C,T,p,C',T',err,rfl,h,rfl⟩⟩;unfold ub;rw[dif_pos hx];have hs:=Classical.choose_spec hx;congr 1
 rcases hs with⟨_,C2,T2,p2,C3,T3,e3,e,hr,h3⟩|⟨e,_⟩
 ·obtain⟨rfl,rfl,rfl⟩:=JO e;rw[h]at hr
  injection hr with hr
  injection hr with e1 hr
  injection hr with e2 hr
  injection hr with e3 hr
  subst e1 e2 e3;exact h3
 ·exact absurd e (by decide)
theorem zY{xf xt yf yt:Int}{xs ys zs:List jl}{g t err:Int}(h:cn xf xt xs yf yt ys=some (g,t,zs,err,())):
 ub 16 (iQ xf xt xs yf yt ys)=some (vI g t zs err):=by
 have hx:∃r,Ky 16 (iQ xf xt xs yf yt ys) r\/AU 16 (iQ xf xt xs yf yt ys) r:=⟨_,.inr ⟨rfl,xf,xt,xs,yf,yt,ys,g,t,zs,err,rfl,h,rfl⟩⟩;unfold ub;rw[dif_pos hx];have hs:=Classical.choose_spec hx;congr 1
 rcases hs with⟨e,_⟩|⟨_,_,_,_,_,_,_,_,_,_,_,e,hr,h3⟩
 ·exact absurd e (by decide)
 ·obtain⟨rfl,rfl,rfl,rfl,rfl,rfl⟩:=Fh e;rw[h]at hr
  injection hr with hr
  injection hr with e1 hr
  injection hr with e2 hr
  injection hr with e3 hr
  injection hr with e4 hr
  subst e1 e2 e3 e4;exact h3
noncomputable def libBj:dy:=λf vals pts=>match xO ub f vals pts with|some r=>some r|none=>mS f vals pts
theorem libBj_ok:eW Try.prog libBj:=by
 intro f vals pts res Zt h;unfold libBj at h;split at h
 ·rename_i r hr
  injection h with h
  subst h;exact J7 Hz f vals pts _ _ hr
 ·exact Fn f vals pts _ _ h
theorem C4{f:FuncId}{vals:List TV}{pts:List (Nat×List TV)}(h1:f≠36)(h2:f≠16):libBj f vals pts=mS f vals pts:=by
 have h:xO ub f vals pts=none:=by
  unfold xO;split
  ·split
   ·have:ub f vals=none:=by
     unfold ub;rw[dif_neg];rintro⟨r,⟨e,_⟩|⟨e,_⟩⟩
     ·exact h1 e
     ·exact h2 e
    rw[this];rfl
   ·rfl
  ·rfl
 unfold libBj;rw[h]
abbrev sRg:CT:=.row false (.row false cCn)
abbrev sTs:CT:=.row false cVw
abbrev sPs:CT:=.row false cPg
set_option maxHeartbeats 4000000 in
set_option maxRecDepth 100000 in
def yM(id:Nat):Ctr:=⟨36,id,[.agg [shU sRg,shU sTs],.agg [shU I64,shU I64,shU (.row false cCn),shU I64,shU I64,shU I64,shU I64,shU I64,shU I64,shU (.int .u16),shU (.row false cCn)]],[],[⟨[shU sRg,shU sTs,shU I64],[.agg 2,.one],[]⟩],
 λh=>de h.1 h.2.1 h.2.2.1 h.2.2.2.1 h.2.2.2.2.1 h.2.2.2.2.2.1 h.2.2.2.2.2.2.1 h.2.2.2.2.2.2.2.1 h.2.2.2.2.2.2.2.2.1 h.2.2.2.2.2.2.2.2.2.1 h.2.2.2.2.2.2.2.2.2.2.1 h.2.2.2.2.2.2.2.2.2.2.2.1 h.2.2.2.2.2.2.2.2.2.2.2.2.1⟩
set_option maxHeartbeats 4000000 in
set_option maxRecDepth 100000 in
theorem tK{id:Nat}:kC libBj (yM id):=by
 rintro⟨C,T,a0,a1,cells,v0,v1,v2,v3,v4,v5,v6,L,h⟩ ⟨C',T',err,u⟩ x ho hx;have ho:de C T a0 a1 cells v0 v1 v2 v3 v4 v5 v6 L=some (C',T',err,()):=ho;cases hx;show libBj 36 (lX C T (a0,a1,cells,v0,v1,v2,v3,v4,v5,v6,L)) []=some (EB C' T' err,[]);unfold libBj xO;rw[oIP (by rfl),FF ho];rfl
set_option maxHeartbeats 4000000 in
set_option maxRecDepth 100000 in
def um(id:Nat):Ctr:=⟨16,id,[.agg [shU I64,shU I64,shU sPs],.agg [shU I64,shU I64,shU sPs]],[],[⟨[shU I64,shU I64,shU sPs,shU I64],[.agg 3,.one],[]⟩],
 λh=>cn h.1 h.2.1 h.2.2.1 h.2.2.2.1 h.2.2.2.2.1 h.2.2.2.2.2.1⟩
set_option maxHeartbeats 4000000 in
set_option maxRecDepth 100000 in
theorem qY{id:Nat}:kC libBj (um id):=by
 rintro⟨xf,xt,xs,yf,yt,ys,h⟩ ⟨g,t,zs,err,u⟩ x ho hx;have ho:cn xf xt xs yf yt ys=some (g,t,zs,err,()):=ho;cases hx;show libBj 16 (iQ xf xt xs yf yt ys) []=some (vI g t zs err,[]);unfold libBj xO;rw[oIP (by rfl),zY ho];rfl
theorem kC.join{c:Ctr}(h:kC mS c)(h1:c.f≠36)(h2:c.f≠16):kC libBj c:=λa o x ho hx=>(C4 h1 h2).trans (h a o x ho hx)
end Go.Proofs.Ytbdhpgelkfncpaa
namespace Go.Proofs.Ytbdhpgelkfncpaa
open Go.RowKit
set_option maxRecDepth 100000
noncomputable section
abbrev KCn:CT:=(.pair (.int .u8) (.pair (.int .u16) (.pair I64 I64)))
abbrev eA:CT:=(.pair I64 (.pair I64 (.pair I64 (.pair I64 (.pair I64 (.pair I64 (.pair (.int .u16) (.row false KCn))))))))
abbrev qO:CT:=(.pair I64 (.pair I64 (.pair I64 (.pair I64 (.pair I64 (.pair I64 (.pair (.int .u16) (.row true KCn))))))))
abbrev dm:CT:=(.row false KCn)
abbrev RI:CT:=(.row false I64)
abbrev DCe:Type:=(Int×Int)
abbrev DCn:Type:=(Int×Int×Int×Int)
abbrev DTs:Type:=(Int×Int×Int×Int×Int×Int×Int×List DCn)
def HH(f i:Nat):List (Nat×Option Nat):=if f=22 then(if i=3000012 then[(10,some 0),(10,some 1)]else[])else if f=5 then(if i=1000004 then[(2,none)]else if i=1000009 then[(9,none)]else if i=1000013 then[(2,none)]else[])else if f=62 then(if i=0 then[(4,none)]else[])else if f=54 then(if i=0 then[(4,some 2),(4,some 10)]else[])else if f=31 then(if i=0 then[(4,some 2),(4,some 10)]else[])else if f=35 then(if i=1000005 then[(6,none)]else if i=1000010 then[(6,none)]else[])else if f=17 then(if i=3000007 then[(9,some 0),(9,some 1)]else if i=0 then[(6,some 0),(6,some 1)]else[])else if f=42 then(if i=0 then[(4,some 10),(4,some 2)]else[])else[]
def Lg:List Nat:=[36,16]
def TT (f:FuncId):Option TFn:=if Lg.contains f then none else od Try.prog (HH f) f
theorem IK{f:FuncId}(h:Lg.contains f=true):TT f=none:=oIP h
def E0:Env:=⟨λf=>if f=11 then some (1,[.arg 0,.val (.int .i64 0)])else none,λf=>Mr Try.prog f⟩
theorem tt_ok:DE Try.prog TT:=λf tf h=>DR HH (by kernel_rfl) f tf (by
 unfold TT at h
 split at h
 ·cases h
 ·exact h)
abbrev qE:Shs:=⟨[],[],[],([],[])⟩
abbrev qS(s:List (Nat×Sh))(c:List (Nat×List Sh)):Shs:=⟨s,c,[],([],[])⟩
abbrev N1:CT:=.nilr true
abbrev N0:CT:=.nilr false
abbrev CW:CT:=.int .u16
abbrev CB:CT:=.int .u8
abbrev uL(l:List CT):List Sh:=l.map fun c=>.d c ()
abbrev pP(t r:Nat):Nat×Sh:=(t,.ptr ⟨r,0,[]⟩ [0])
abbrev sP(t:Nat)(c:CT):Nat×Sh:=(t,.d c ())
abbrev Lk(n:Nat)(c:Ctr):Prop:=Lvl E0 TT mS n c
theorem aN{m:Nat}:Cf E0 TT mS m []:=trivial
theorem aC{n m:Nat}{c:Ctr}{l:List Ctr}(h:Lk n c)(r:Cf E0 TT mS m l)(hm:n≤m:=by decide):Cf E0 TT mS m (c::l):=⟨h.mono hm,r⟩
abbrev lx(i n:Nat)(s:List (Nat×Sh))(c:List (Nat×List Sh))(b:Nat):yW:=⟨i,n,⟨s,c,[],([],[])⟩,[(.exit 0,⟨s++[(b,.d .bool ())],c,[],([],[])⟩)]⟩
abbrev LI:Type:=List Int
abbrev LDCe:Type:=List DCe
abbrev LDCn:Type:=List DCn
abbrev LDTs:Type:=List DTs
abbrev LLCn:Type:=List (List DCn)
abbrev T00:Type:=Int×Bool×Unit
abbrev T01:Type:=Int×Int×Unit
abbrev T02:Type:=LI×Int×Unit
abbrev T03:Type:=LLCn×LDTs×Unit
abbrev T04:Type:=Unit×Unit×Unit
abbrev T05:Type:=Int×T00
abbrev T06:Type:=Int×Int×LDCe×Unit
abbrev T07:Type:=LI×T01
abbrev T08:Type:=LLCn×LDTs×LI×Unit
abbrev T09:Type:=Int×Int×Bool×LDCe×Unit
abbrev T0a:Type:=Int×T08
abbrev T0b:Type:=LI×T05
abbrev T0c:Type:=LI×T06
abbrev T0d:Type:=LLCn×LDTs×T03
abbrev T0e:Type:=LLCn×LDTs×T04
abbrev T0f:Type:=Unit×Unit×T03
abbrev T0g:Type:=Unit×Unit×LLCn×Unit×Unit
abbrev T0h:Type:=Bool×T0d
abbrev T0i:Type:=Int×T0c
abbrev T0j:Type:=Int×T0d
abbrev T0k:Type:=LI×T09
abbrev T0l:Type:=Int×Int×T0e
abbrev T0m:Type:=LI×Int×T0f
abbrev T0n:Type:=LI×Int×T0g
abbrev T0o:Type:=LLCn×LDTs×T0f
abbrev T0p:Type:=LLCn×LDTs×T0g
abbrev T0q:Type:=Int×Int×Bool×T0e
abbrev T0r:Type:=Int×T0m
abbrev T0s:Type:=Int×T0n
abbrev T0t:Type:=Int×T0o
abbrev T0u:Type:=Int×T0p
abbrev T0v:Type:=LI×Int×Unit×Unit×LLCn×Unit×LDCn×Unit
abbrev T0w:Type:=Int×Bool×T0m
abbrev T0x:Type:=Int×Int×Int×Int×Int×Int×Int×LDCn×Unit
abbrev T0y:Type:=Int×Int×Int×T0i
abbrev T0z:Type:=Int×T0r
abbrev T0A:Type:=Int×T0w
abbrev T0B:Type:=Int×Int×T0v
abbrev T0C:Type:=Int×Int×LDCn×T0x
abbrev T0D:Type:=(List (Int×Int×LDCn×Int×Int×Int×Int×Int×Int×Int×LDCn))×Int×Unit
abbrev T0E:Type:=Int×(List (Int×Int×LDCn×Int×Int×Int×Int×Int×Int×Int×LDCn))×Unit
abbrev T0F:Type:=Int×Int×LDCn×Int×Int×Int×Int×Int×Int×Int×LDCn×Int×Unit
abbrev T0G:Type:=Int×T0E
abbrev T0H:Type:=Bool×T0G
abbrev T0I:Type:=Int×Int×T0D
abbrev T0J:Type:=Int×T0G
abbrev T0K:Type:=LLCn×LDTs×LDCe×(List (Int×Int×LDCn×Int×Int×Int×Int×Int×Int×Int×LDCn))×Unit
abbrev T0L:Type:=Int×T0H
abbrev T0M:Type:=Int×T0K
abbrev T0N:Type:=Int×Bool×T0K
abbrev T0O:Type:=Int×T0M
abbrev T0P:Type:=(List (LLCn×LDTs))×(List (Int×Int×List (Int×Int×LDCn×Int×Int×Int×Int×Int×Int×Int×LDCn)))×T02
abbrev T0Q:Type:=Int×Int×(List (Int×Int×LDCn×Int×Int×Int×Int×Int×Int×Int×LDCn))×T0f
abbrev T0R:Type:=LLCn×LDTs×Int×Int×(List (Int×Int×LDCn×Int×Int×Int×Int×Int×Int×Int×LDCn))×T04
abbrev T0S:Type:=Int×T0P
abbrev T0T:Type:=Int×T0R
abbrev T0U:Type:=LI×Int×Int×Int×Int×Int×Int×Int×Int×Unit×T0x
abbrev T0V:Type:=Int×T0U
abbrev T0W:Type:=LLCn×LDTs×Int×Int×Unit×LDCe×T0G
abbrev T0X:Type:=Int×T0W
abbrev T0Y:Type:=Int×Bool×T0W
abbrev T0Z:Type:=Int×T0X
abbrev T10:Type:=(List (Int×Int×LDCn×Int×Int×Int×Int×Int×Int×Int×LDCn))×T0D
abbrev T11:Type:=(List (Int×Int×LDCn×Int×Int×Int×Int×Int×Int×Int×LDCn))×(List (Int×Int×LDCn×Int×Int×Int×Int×Int×Int×Int×LDCn))×LDCe×Unit
abbrev T12:Type:=(List (Int×Int×LDCn×Int×Int×Int×Int×Int×Int×Int×LDCn))×Int×T0C
abbrev T13:Type:=Int×T11
abbrev T14:Type:=Int×Bool×T11
abbrev T15:Type:=Int×T13
abbrev T16:Type:=Int×Int×(List (Int×Int×LDCn×Int×Int×Int×Int×Int×Int×Int×LDCn))×Int×Int×Unit×T0G
abbrev T17:Type:=(List (Int×Int×LDCn×Int×Int×Int×Int×Int×Int×Int×LDCn))×Int×Int×T0Q
abbrev T18:Type:=Int×T16
abbrev T19:Type:=Int×Int×(List (Int×Int×LDCn×Int×Int×Int×Int×Int×Int×Int×LDCn))×T16
abbrev T1a:Type:=Int×T19
noncomputable abbrev ap1{A0 D R:Type}(f:A0→R)(h:A0×D):R:=f h.1
noncomputable abbrev ap2{A0 A1 D R:Type}(f:A0→A1→R)(h:A0×A1×D):R:=f h.1 h.2.1
noncomputable abbrev ap3{A0 A1 A2 D R:Type}(f:A0→A1→A2→R)(h:A0×A1×A2×D):R:=f h.1 h.2.1 h.2.2.1
noncomputable abbrev ap4{A0 A1 A2 A3 D R:Type}(f:A0→A1→A2→A3→R)(h:A0×A1×A2×A3×D):R:=f h.1 h.2.1 h.2.2.1 h.2.2.2.1
noncomputable abbrev ap5{A0 A1 A2 A3 A4 D R:Type}(f:A0→A1→A2→A3→A4→R)(h:A0×A1×A2×A3×A4×D):R:=f h.1 h.2.1 h.2.2.1 h.2.2.2.1 h.2.2.2.2.1
noncomputable abbrev ap6{A0 A1 A2 A3 A4 A5 D R:Type}(f:A0→A1→A2→A3→A4→A5→R)(h:A0×A1×A2×A3×A4×A5×D):R:=f h.1 h.2.1 h.2.2.1 h.2.2.2.1 h.2.2.2.2.1 h.2.2.2.2.2.1
noncomputable abbrev ap8{A0 A1 A2 A3 A4 A5 A6 A7 D R:Type}(f:A0→A1→A2→A3→A4→A5→A6→A7→R)(h:A0×A1×A2×A3×A4×A5×A6×A7×D):R:=f h.1 h.2.1 h.2.2.1 h.2.2.2.1 h.2.2.2.2.1 h.2.2.2.2.2.1 h.2.2.2.2.2.2.1 h.2.2.2.2.2.2.2.1
noncomputable abbrev ap13{A0 A1 A2 A3 A4 A5 A6 A7 A8 A9 A10 A11 A12 D R:Type}(f:A0→A1→A2→A3→A4→A5→A6→A7→A8→A9→A10→A11→A12→R)(h:A0×A1×A2×A3×A4×A5×A6×A7×A8×A9×A10×A11×A12×D):R:=f h.1 h.2.1 h.2.2.1 h.2.2.2.1 h.2.2.2.2.1 h.2.2.2.2.2.1 h.2.2.2.2.2.2.1 h.2.2.2.2.2.2.2.1 h.2.2.2.2.2.2.2.2.1 h.2.2.2.2.2.2.2.2.2.1 h.2.2.2.2.2.2.2.2.2.2.1 h.2.2.2.2.2.2.2.2.2.2.2.1 h.2.2.2.2.2.2.2.2.2.2.2.2.1
noncomputable abbrev ap16{A0 A1 A2 A3 A4 A5 A6 A7 A8 A9 A10 A11 A12 A13 A14 A15 D R:Type}(f:A0→A1→A2→A3→A4→A5→A6→A7→A8→A9→A10→A11→A12→A13→A14→A15→R)(h:A0×A1×A2×A3×A4×A5×A6×A7×A8×A9×A10×A11×A12×A13×A14×A15×D):R:=f h.1 h.2.1 h.2.2.1 h.2.2.2.1 h.2.2.2.2.1 h.2.2.2.2.2.1 h.2.2.2.2.2.2.1 h.2.2.2.2.2.2.2.1 h.2.2.2.2.2.2.2.2.1 h.2.2.2.2.2.2.2.2.2.1 h.2.2.2.2.2.2.2.2.2.2.1 h.2.2.2.2.2.2.2.2.2.2.2.1 h.2.2.2.2.2.2.2.2.2.2.2.2.1 h.2.2.2.2.2.2.2.2.2.2.2.2.2.1 h.2.2.2.2.2.2.2.2.2.2.2.2.2.2.1 h.2.2.2.2.2.2.2.2.2.2.2.2.2.2.2.1
noncomputable abbrev ap22{A0 A1 A2 A3 A4 A5 A6 A7 A8 A9 A10 A11 A12 A13 A14 A15 A16 A17 A18 A19 A20 A21 D R:Type}(f:A0→A1→A2→A3→A4→A5→A6→A7→A8→A9→A10→A11→A12→A13→A14→A15→A16→A17→A18→A19→A20→A21→R)(h:A0×A1×A2×A3×A4×A5×A6×A7×A8×A9×A10×A11×A12×A13×A14×A15×A16×A17×A18×A19×A20×A21×D):R:=f h.1 h.2.1 h.2.2.1 h.2.2.2.1 h.2.2.2.2.1 h.2.2.2.2.2.1 h.2.2.2.2.2.2.1 h.2.2.2.2.2.2.2.1 h.2.2.2.2.2.2.2.2.1 h.2.2.2.2.2.2.2.2.2.1 h.2.2.2.2.2.2.2.2.2.2.1 h.2.2.2.2.2.2.2.2.2.2.2.1 h.2.2.2.2.2.2.2.2.2.2.2.2.1 h.2.2.2.2.2.2.2.2.2.2.2.2.2.1 h.2.2.2.2.2.2.2.2.2.2.2.2.2.2.1 h.2.2.2.2.2.2.2.2.2.2.2.2.2.2.2.1 h.2.2.2.2.2.2.2.2.2.2.2.2.2.2.2.2.1 h.2.2.2.2.2.2.2.2.2.2.2.2.2.2.2.2.2.1 h.2.2.2.2.2.2.2.2.2.2.2.2.2.2.2.2.2.2.1 h.2.2.2.2.2.2.2.2.2.2.2.2.2.2.2.2.2.2.2.1 h.2.2.2.2.2.2.2.2.2.2.2.2.2.2.2.2.2.2.2.2.1 h.2.2.2.2.2.2.2.2.2.2.2.2.2.2.2.2.2.2.2.2.2.1
theorem ls{n:Nat}(C:X.Cfg)(hT:Cf E0 TT mS n C.TB){c:Ctr}(hE:C.E=E0:=by rfl)(h1:(TT c.f).isSome=true:=by kernel_rfl)(hg:∀h,X.runT bV C () ((TT c.f).getD MB) c.outs (gj c.ins _ h).1 (pb c.pts [] (gj c.ins _ h).2).1=c.g h:=by intro h;kernel_rfl):Lk (n+1) c:=ca (n:=n) (C:=C) hE hT (cf h1) hg
abbrev yaa(t:Nat):Nat×Sh:=sP t I64
abbrev zaa(t:Nat):Nat×Sh:=sP t .bool
abbrev Uaa(t r:Nat):Nat×Sh:=(t,.pk ⟨r,0,[]⟩ [0,0])
abbrev Xi(t:CT):CT:=.row true t
abbrev Xj(t:CT):CT:=.row false t
abbrev uaa(t:Nat):Nat×Sh:=pP t (2*t+2)
abbrev Xaa:List Sh:=uL [(Xj dm),(Xj eA)]
abbrev Zaa:List Sh:=uL [RI,I64]
abbrev uab:List Sh:=uL [.bool]
abbrev yab:List Sh:=uL [N1,N1]
abbrev zab:List Sh:=uL [I64]
abbrev Uab:List Sh:=uL [(Xi (Xi KCn)),(Xi qO)]
abbrev Xab:List Sh:=uL [I64,I64]
abbrev Zab:List Sh:=uL [(Xi (.pair I64 I64))]
abbrev uac:List Sh:=uL [I64,I64,dm,I64,I64,I64,I64,I64,I64,CW,dm]
abbrev yac:List Sh:=uL [I64,I64,I64,I64,I64,I64,CW,dm]
abbrev zac:List Sh:=uL [I64,I64,I64,I64,I64,I64,CW,(Xi KCn)]
abbrev Uac:List Sh:=uL [(Xi (Xi KCn)),N1]
abbrev Xac:List Sh:=uL [(Xi dm),(Xi eA)]
abbrev Zac:List Sh:=uL [(Xi KCn)]
abbrev uad:List Sh:=uL [I64,I64,N1]
abbrev yad:List Sh:=uL [(Xi (.pair I64 I64)),I64]
abbrev zad:List Sh:=uL [(Xj dm),(Xj eA),I64]
abbrev Uad:List Sh:=uL [(Xi (.pair (Xj dm) (Xj eA)))]
def em(a0:Int)(a1:Int)(a2:Int)(a3:Int)(a4:Int)(a5:Int)(a6:Int)(a7:LDCn):Option (T0x):=
bif(dh 24 0 a7.length)then let x0:LDCn:=(List.append [] a7);
some (a0,a1,a2,a3,a4,a5,a6,x0,())else none
def uc:X.Cfg:=⟨E0,[],[],[]⟩
def nJ:Ctr:=⟨40,2,[.agg yac],[],[⟨zac,[.agg 8],[]⟩],ap8 em⟩
theorem tT:Lvl E0 TT libBj 1 nJ:=ca (n:=0) (C:=uc) rfl (.intro) (cf (by kernel_rfl)) (λh=>by kernel_rfl)
def dU:T0u->Option (T0u⊕(Int×Bool×T0p)):=λ(v0,v1,v2,v3,v4,v5,v6,_)=>
let x0:=cg v1.length;
bif(decide (v0<x0))then((ek v0).bind λx1=>
(cU v1 x1).bind λx2=>
bif(dh 24 0 x2.length)then let x3:LDCn:=(List.append [] x2);
bif(dh 24 v5.length (List.length [x3]))then let x4:List LDCn:=(List.append v5 [x3]);
let x5:=w64 (v0+1);
some (.inl (x5,v1,v2,v3,v4,x4,v6,()))else none else none)else
some (.inr (v0,false,v1,v2,v3,v4,v5,v6,()))
def dS:T0t->Option (T0t⊕(Int×Bool×T0o)):=λ(v0,v1,v2,v3,v4,v5,v6,_)=>
let x0:=cg v2.length;
bif(decide (v0<x0))then((ek v0).bind λx1=>
(cU v2 x1).bind λx2=>
(em x2.1 x2.2.1 x2.2.2.1 x2.2.2.2.1 x2.2.2.2.2.1 x2.2.2.2.2.2.1 x2.2.2.2.2.2.2.1 x2.2.2.2.2.2.2.2).bind λ(x3,x4,x5,x6,x7,x8,x9,ac,_)=>
let ae:LDTs:=[(x3,(x4,(x5,(x6,(x7,(x8,(x9,ac)))))))];
bif(dh 80 v6.length ae.length)then let af:LDTs:=(List.append v6 ae);
let ah:=w64 (v0+1);
some (.inl (ah,v1,v2,v3,v4,v5,af,()))else none)else
some (.inr (v0,false,v1,v2,v3,v4,v5,v6,()))
def fH(a0:List LDCn)(a1:LDTs):Option (T03):=
(ct dU NN (0,a0,a1,(),(),[],(),())).bind λ(x0,x1,x2,x3,x4,x5,x6,x7,_)=>
(ct dS NN (0,x2,x3,x4,x5,x6,[],())).bind λ(x8,x9,ac,ae,af,ah,aj)=>
some (aj)
def yh:X.Cfg:=⟨E0,[nJ],[(22,(Xi KCn)),(23,(Xi KCn)),(40,qO),(41,qO)],[(lx 4 0 [uaa 1,uaa 2,uaa 3,yaa 4] [(4,Xaa),(6,yab),(8,Uac)] 10),⟨10,1,qS [uaa 1,uaa 2,uaa 3,yaa 5] [(4,Xaa),(6,yab),(8,Uab)],[(.exit 2,qS [uaa 1,uaa 2,uaa 3,yaa 5,zaa 29] [(4,Xaa),(6,yab),(8,Uab)])]⟩]⟩
def mw:Ctr:=⟨20,3,[.agg Xaa],[],[⟨Uab,[.agg 2],[]⟩],ap2 fH⟩
theorem qy:Lvl E0 TT libBj 2 mw:=ca (n:=1) (C:=yh) rfl (.intro (tT.mono (by decide)) (.intro)) (cf (by kernel_rfl)) (λh=>by kernel_rfl)
def gK(a0:Int):Option (Bool×Unit):=
bif(decide (a0>=1))then(some ((decide (a0<=32)),()))else
some (false,())
def wi:X.Cfg:=⟨E0,[],[],[]⟩
def li:Ctr:=⟨86,4,zab,[],[⟨uab,[.one],[]⟩],ap1 gK⟩
theorem oP:Lvl E0 TT libBj 1 li:=ca (n:=0) (C:=wi) rfl (.intro) (cf (by kernel_rfl)) (λh=>by kernel_rfl)
def gu(a0:LDCn):Option (Bool×Unit):=
let x0:=cg a0.length;
(gK x0).bind λ(x1,_)=>
some ((!x1),())
def re:X.Cfg:=⟨E0,[li],[],[]⟩
def lH:Ctr:=⟨85,5,uL [dm],[],[⟨uab,[.one],[]⟩],ap1 gu⟩
theorem q8:Lvl E0 TT libBj 2 lH:=ca (n:=1) (C:=re) rfl (.intro (oP.mono (by decide)) (.intro)) (cf (by kernel_rfl)) (λh=>by kernel_rfl)
def co:LLCn×T01->Option ((LLCn×T01)⊕((Int×Unit)⊕(LLCn×T05))):=λ(v0,v1,v2,_)=>
bif(decide (v2<v1))then((ek v2).bind λx0=>
(cU v0 x0).bind λx1=>
(gu x1).bind λ(x2,_)=>
bif x2 then(some (.inr (.inl (v2,()))))else
let x3:=w64 (v2+1);
some (.inl (v0,v1,x3,())))else
some (.inr (.inr (v0,v1,v2,false,())))
def eH(a0:List LDCn):Option (Int×Unit):=
let x0:=cg a0.length;
(match ct co NN (a0,x0,0,())with
|none=>none
|some (.inl (x1,_))=>
some (x1,())
|some (.inr (x1,_))=>
some ((-1),()))
def kQ:X.Cfg:=⟨E0,[lH],[],[⟨3,0,(qS [sP 0 (Xj dm),(1,.fn 85 []),yaa 7,yaa 8] []),[(.ret,qS [yaa 4] []),(.exit 0,(qS [sP 0 (Xj dm),(1,.fn 85 []),yaa 7,yaa 8,zaa 9] []))]⟩]⟩
def gD:Ctr:=⟨91,6,[shU (Xj dm),.fn 85 []],[],[⟨zab,[.one],[]⟩],ap1 eH⟩
theorem kP:Lvl E0 TT libBj 3 gD:=ca (n:=2) (C:=kQ) rfl (.intro (q8.mono (by decide)) (.intro)) (cf (by kernel_rfl)) (λh=>by kernel_rfl)
def dq(a0:List LDCn):Option (Bool×Unit):=
(eH a0).bind λ(x0,_)=>
some ((decide (x0>=0)),())
def jA:X.Cfg:=⟨E0,[gD],[],[]⟩
def fM:Ctr:=⟨84,7,[shU (Xj dm),.fn 85 []],[],[⟨uab,[.one],[]⟩],ap1 dq⟩
theorem jz:Lvl E0 TT libBj 4 fM:=ca (n:=3) (C:=jA) rfl (.intro (kP.mono (by decide)) (.intro)) (cf (by kernel_rfl)) (λh=>by kernel_rfl)
def gd(a0:List LDCn)(a1:LDTs):Option (Bool×Unit):=
let x0:=cg a0.length;
bif(decide (x0<=4))then(let x1:Int:=(cg a1.length);
bif(decide (x1<=4))then((dq a0).bind λ(x2,_)=>
some ((!x2),()))else
some (false,()))else
some (false,())
def ud:X.Cfg:=⟨E0,[fM],[],[]⟩
def kA:Ctr:=⟨73,8,[.agg Xaa],[],[⟨uab,[.one],[]⟩],ap2 gd⟩
theorem nB:Lvl E0 TT libBj 5 kA:=ca (n:=4) (C:=ud) rfl (.intro (jz.mono (by decide)) (.intro)) (cf (by kernel_rfl)) (λh=>by kernel_rfl)
def dK:LLCn×Int×T0a->Option ((LLCn×Int×T0a)⊕(LLCn×Int×Int×Bool×T08)):=λ(v0,v1,v2,v3,v4,v5,_)=>
bif(decide (v2<v1))then((ek v2).bind λx0=>
(cU v0 x0).bind λx1=>
let x2:=cg x1.length;
bif(dh 8 v5.length (List.length [x2]))then let x3:List (Int):=(List.append v5 [x2]);
let x4:=w64 (v2+1);
some (.inl (v0,v1,x4,v3,v4,x3,()))else none)else
some (.inr (v0,v1,v2,false,v3,v4,v5,()))
def fP(a0:List LDCn)(a1:LDTs):Option (LI×Unit):=
let x0:=cg a0.length;
(ct dK NN (a0,x0,0,a0,a1,[],())).bind λ(x1,x2,x3,x4,x5,x6,x7,_)=>
some (x7,())
def wj:X.Cfg:=⟨E0,[],[],[(lx 4 0 [Uaa 3 9,sP 7 (Xj dm),yaa 8,yaa 9] [(4,Xaa),(9,uL [(Xi I64)])] 10)]⟩
def lj:Ctr:=⟨51,9,[.agg Xaa],[],[⟨uL [(Xi I64)],[.one],[]⟩],ap2 fP⟩
theorem oQ:Lvl E0 TT libBj 1 lj:=ca (n:=0) (C:=wj) rfl (.intro) (cf (by kernel_rfl)) (λh=>by kernel_rfl)
def iC(a0:Int):Option (Bool×Unit):=
(gK a0).bind λ(x0,_)=>
some ((!x0),())
def ue:X.Cfg:=⟨E0,[li],[],[]⟩
def nK:Ctr:=⟨88,10,zab,[],[⟨uab,[.one],[]⟩],ap1 iC⟩
theorem tU:Lvl E0 TT libBj 2 nK:=ca (n:=1) (C:=ue) rfl (.intro (oP.mono (by decide)) (.intro)) (cf (by kernel_rfl)) (λh=>by kernel_rfl)
def cF:T07->Option (T07⊕((Int×Unit)⊕T0b)):=λ(v0,v1,v2,_)=>
bif(decide (v2<v1))then((ek v2).bind λx0=>
(cU v0 x0).bind λx1=>
(iC x1).bind λ(x2,_)=>
bif x2 then(some (.inr (.inl (v2,()))))else
let x3:=w64 (v2+1);
some (.inl (v0,v1,x3,())))else
some (.inr (.inr (v0,v1,v2,false,())))
def fj(a0:List (Int)):Option (Int×Unit):=
let x0:=cg a0.length;
(match ct cF NN (a0,x0,0,())with
|none=>none
|some (.inl (x1,_))=>
some (x1,())
|some (.inr (x1,_))=>
some ((-1),()))
def lP:X.Cfg:=⟨E0,[nK],[],[⟨3,0,(qS [sP 0 RI,(1,.fn 88 []),yaa 7,yaa 8] []),[(.ret,qS [yaa 4] []),(.exit 0,(qS [sP 0 RI,(1,.fn 88 []),yaa 7,yaa 8,zaa 9] []))]⟩]⟩
def ii:Ctr:=⟨92,11,[shU RI,.fn 88 []],[],[⟨zab,[.one],[]⟩],ap1 fj⟩
theorem lM:Lvl E0 TT libBj 3 ii:=ca (n:=2) (C:=lP) rfl (.intro (tU.mono (by decide)) (.intro)) (cf (by kernel_rfl)) (λh=>by kernel_rfl)
def dD(a0:List (Int)):Option (Bool×Unit):=
(fj a0).bind λ(x0,_)=>
some ((decide (x0>=0)),())
def ky:X.Cfg:=⟨E0,[ii],[],[]⟩
def gl:Ctr:=⟨87,12,[shU RI,.fn 88 []],[],[⟨uab,[.one],[]⟩],ap1 dD⟩
theorem kv:Lvl E0 TT libBj 4 gl:=ca (n:=3) (C:=ky) rfl (.intro (lM.mono (by decide)) (.intro)) (cf (by kernel_rfl)) (λh=>by kernel_rfl)
def dH:T0y->Option (T0y⊕(Int×Int×Int×Int×T0k)):=λ(v0,v1,v2,v3,v4,v5,v6,v7,_)=>
let x0:=w64 (v3*8);
bif(decide (x0<v2))then(let x1:LDCe:=[(v1,v3)];
bif(dh 16 v7.length x1.length)then let x2:LDCe:=(List.append v7 x1);
let x3:=w64 (v3+1);
some (.inl (v0,v1,v2,x3,v4,v5,v6,x2,()))else none)else
some (.inr (v0,v1,v2,v3,v4,v5,v6,false,v7,()))
def dV:T0i->Option (T0i⊕(Int×T0k)):=λ(v0,v1,v2,v3,v4,_)=>
bif(decide (v3<v2))then((ek v3).bind λx0=>
(cU v1 x0).bind λx1=>
(ct dH NN (v0,v3,x1,0,v1,v2,v3,v4,())).bind λ(x2,x3,x4,x5,x6,x7,x8,x9,ac,_)=>
let ae:=w64 (x8+1);
some (.inl (x2,x6,x7,ae,ac,())))else
some (.inr (v0,v1,v2,v3,false,v4,()))
def dG:T06->Option (T06⊕T09):=λ(v0,v1,v2,_)=>
bif(decide (v1<v0))then(let x0:LDCe:=[((-1),v1)];
bif(dh 16 v2.length x0.length)then let x1:LDCe:=(List.append v2 x0);
let x2:=w64 (v1+1);
some (.inl (v0,x2,x1,()))else none)else
some (.inr (v0,v1,false,v2,()))
def jP(a0:List (Int))(a1:Int):Option (LDCe×Int×Unit):=
let x0:=cg a0.length;
bif(decide (x0>4))then(some ([],3,()))else
bif(decide (a1>4))then(some ([],3,()))else
bif(decide (a1<0))then(some ([],1,()))else
(dD a0).bind λ(x1,_)=>
bif x1 then(some ([],1,()))else
let x2:=cg a0.length;
(ct dV NN (a1,a0,x2,0,[],())).bind λ(x3,x4,x5,x6,x7,x8,_)=>
(ct dG NN (x3,0,x8,())).bind λ(x9,ac,ae,af,_)=>
some (af,0,())
def yk:X.Cfg:=⟨E0,[gl],[],[⟨16,0,qS [yaa 1,Uaa 6 15,yaa 7,yaa 8,yaa 9,sP 24 RI,yaa 25,yaa 26] [(15,Zab)],[(.exit 2,qS [yaa 1,Uaa 6 15,yaa 7,yaa 8,yaa 9,sP 24 RI,yaa 25,yaa 26,zaa 34] [(15,Zab)])]⟩,(lx 10 1 [yaa 1,Uaa 6 15,sP 24 RI,yaa 25,yaa 26] [(15,Zab)] 27),⟨22,2,qS [Uaa 6 15,yaa 44,yaa 45] [(15,Zab)],[(.exit 4,qS [Uaa 6 15,yaa 44,yaa 45,zaa 46] [(15,Zab)])]⟩]⟩
def qJ:Ctr:=⟨74,13,Zaa,[],[⟨yad,[.one,.one],[]⟩],ap2 jP⟩
theorem xT:Lvl E0 TT libBj 5 qJ:=ca (n:=4) (C:=yk) rfl (.intro (kv.mono (by decide)) (.intro)) (cf (by kernel_rfl)) (λh=>by kernel_rfl)
def dw(a0:LDCn):Option (LDCn×Unit):=
bif(dh 24 0 a0.length)then let x0:LDCn:=(List.append [] a0);
some (x0,())else none
def nj:X.Cfg:=⟨E0,[],[],[]⟩
def eD:Ctr:=⟨58,14,uL [dm],[],[⟨Zac,[.one],[]⟩],ap1 dw⟩
theorem fY:Lvl E0 TT libBj 1 eD:=ca (n:=0) (C:=nj) rfl (.intro) (cf (by kernel_rfl)) (λh=>by kernel_rfl)
def gM(a0:Int)(a1:Int)(a2:Int)(a3:Int)(a4:Int)(a5:Int)(a6:Int)(a7:LDCn):Option (T0x):=
(dw a7).bind λ(x0,_)=>
some (a0,a1,a2,a3,a4,a5,a6,x0,())
def wt:X.Cfg:=⟨E0,[eD],[],[]⟩
def ln:Ctr:=⟨59,15,[.agg yac],[],[⟨zac,[.agg 8],[]⟩],ap8 gM⟩
theorem oV:Lvl E0 TT libBj 2 ln:=ca (n:=1) (C:=wt) rfl (.intro (fY.mono (by decide)) (.intro)) (cf (by kernel_rfl)) (λh=>by kernel_rfl)
def gz(a0:LDCn)(a1:Int):Option (LDCn×Unit):=
(bif(decide (a1<0))then(some (a0,a1,true,()))else
bif(decide (a1>32))then(some (a0,a1,true,()))else
let x0:=w64 (a1*8);
let x1:=cg a0.length;
some (a0,a1,(decide (x0>=x1)),()):Option (LDCn×T00)).bind λ(x0,x1,x2,_)=>
bif x2 then(some ([],()))else
let x3:=w64 (x1*8);
let x4:=w64 (x3+8);
let x5:=cg x0.length;
let x6:=mmR false x4 x5;
(ek x3).bind λx7=>
(ek x6).bind λx8=>
bif(lJ x7 x8 x0.length)then let x9:LDCn:=(IE x0 x7 (Nat.sub x8 x7));
some (x9,())else none
def yi:X.Cfg:=⟨E0,[],[],[⟨2,0,qE,[(.normal,qS [sP 0 dm,yaa 1,zaa 18] [])]⟩]⟩
def my:Ctr:=⟨62,16,uL [dm,I64],[],[⟨uL [dm],[.one],[]⟩],ap2 gz⟩
theorem qz:Lvl E0 TT libBj 1 my:=ca (n:=0) (C:=yi) rfl (.intro) (cf (by kernel_rfl)) (λh=>by kernel_rfl)
def iu(a0:List LDCn)(a1:LDTs)(a2:Int)(a3:Int):Option (T0C):=
bif(a2==(-1))then((ek a3).bind λx0=>
(cU a1 x0).bind λx1=>
(gM x1.1 x1.2.1 x1.2.2.1 x1.2.2.2.1 x1.2.2.2.2.1 x1.2.2.2.2.2.1 x1.2.2.2.2.2.2.1 x1.2.2.2.2.2.2.2).bind λ(x2,x3,x4)=>
some (a2,a3,[],x2,x3,x4))else
(ek a2).bind λx0=>
(cU a0 x0).bind λx1=>
(gz x1 a3).bind λ(x2,_)=>
(dw x2).bind λ(x3,_)=>
some (a2,a3,x3,0,0,0,0,0,0,0,[],())
def z8:X.Cfg:=⟨E0,[ln,my,eD],[],[]⟩
def og:Ctr:=⟨54,17,[.agg Xaa,.agg Xab],[],[⟨uac,[.agg 11],[]⟩],ap4 iu⟩
theorem sn:Lvl E0 TT libBj 3 og:=ca (n:=2) (C:=z8) rfl (.intro (oV.mono (by decide)) (.intro (qz.mono (by decide)) (.intro (fY.mono (by decide)) (.intro)))) (cf (by kernel_rfl)) (λh=>by kernel_rfl)
def en:T0O->Option (T0O⊕(Int×T0N)):=λ(v0,v1,v2,v3,v4,v5,_)=>
bif(decide (v1<v0))then((ek v1).bind λx0=>
(cU v4 x0).bind λx1=>
(cU v4 x0).bind λx2=>
(iu v2 v3 x2.1 x2.2).bind λ(x3,x4,x5,x6,x7,x8,x9,ac,ae,af,ah,_)=>
let aj:List (Int×Int×LDCn×Int×Int×Int×Int×Int×Int×Int×LDCn):=[(x3,(x4,(x5,(x6,(x7,(x8,(x9,(ac,(ae,(af,ah))))))))))];
bif(dh 120 v5.length aj.length)then let ak:List (Int×Int×LDCn×Int×Int×Int×Int×Int×Int×Int×LDCn):=(List.append v5 aj);
let an:=w64 (v1+1);
some (.inl (v0,an,v2,v3,v4,ak,()))else none)else
some (.inr (v0,v1,false,v2,v3,v4,v5,()))
def js(a0:List LDCn)(a1:LDTs):Option (T0D):=
(gd a0 a1).bind λ(x0,_)=>
bif(!x0)then(some ([],1,()))else
(fP a0 a1).bind λ(x1,_)=>
let x2:=cg a1.length;
(jP x1 x2).bind λ(x3,x4,_)=>
let x5:=cg x3.length;
(ct en NN (x5,0,a0,a1,x3,[],())).bind λ(x6,x7,x8,x9,ac,ae,af,_)=>
some (af,0,())
def Ab:X.Cfg:=⟨E0,[kA,lj,qJ,og],[(31,(.pair I64 (.pair I64 (.pair (Xi KCn) qO)))),(32,(.pair I64 (.pair I64 (.pair (Xi KCn) qO))))],[(lx 8 0 [uaa 1,Uaa 6 15,Uaa 21 11,yaa 22,yaa 23] [(4,Xaa),(11,Zab),(15,[shU (Xi (.pair I64 (.pair I64 (.pair dm eA))))])] 24)]⟩
def tg:Ctr:=⟨49,18,[.agg Xaa],[],[⟨[shU (Xi (.pair I64 (.pair I64 (.pair dm eA)))),shU I64],[.one,.one],[]⟩],ap2 js⟩
theorem zS:Lvl E0 TT libBj 6 tg:=ca (n:=5) (C:=Ab) rfl (.intro (nB.mono (by decide)) (.intro (oQ.mono (by decide)) (.intro (xT.mono (by decide)) (.intro (sn.mono (by decide)) (.intro))))) (cf (by kernel_rfl)) (λh=>by kernel_rfl)
def dF:LI×T07->Option ((LI×T07)⊕((Bool×Unit)⊕(LI×T0b))):=λ(v0,v1,v2,v3,_)=>
bif(decide (v3<v2))then((ek v3).bind λx0=>
(cU v0 x0).bind λx1=>
(ek v3).bind λx2=>
(cU v1 x2).bind λx3=>
bif(x1 != x3)then(some (.inr (.inl (false,()))))else
let x4:=w64 (v3+1);
some (.inl (v0,v1,v2,x4,())))else
some (.inr (.inr (v0,v1,v2,v3,false,())))
def ft(a0:List (Int))(a1:List (Int)):Option (Bool×Unit):=
let x0:=cg a0.length;
let x1:=cg a1.length;
bif(x0 != x1)then(some (false,()))else
let x2:=cg a0.length;
(match ct dF NN (a0,a1,x2,0,())with
|none=>none
|some (.inl (x3,_))=>
some (x3,())
|some (.inr (x3,_))=>
some (true,()))
def o8:X.Cfg:=⟨E0,[],[],[⟨6,0,qS [sP 0 RI,sP 1 RI,yaa 12,yaa 13] [],[(.ret,qS [zaa 4] []),(.exit 0,qS [sP 0 RI,sP 1 RI,yaa 12,yaa 13,zaa 14] [])]⟩]⟩
def j9:Ctr:=⟨50,19,uL [RI,RI],[],[⟨uab,[.one],[]⟩],ap2 ft⟩
theorem oO:Lvl E0 TT libBj 1 j9:=ca (n:=0) (C:=o8) rfl (.intro) (cf (by kernel_rfl)) (λh=>by kernel_rfl)
def dp:LDCn×LDCn×T01->Option ((LDCn×LDCn×T01)⊕((Bool×Unit)⊕(LDCn×LDCn×T05))):=λ(v0,v1,v2,v3,_)=>
bif(decide (v3<v2))then((ek v3).bind λx0=>
(cU v0 x0).bind λx1=>
(ek v3).bind λx2=>
(cU v1 x2).bind λx3=>
let x4:Bool:=(!((x1.1==x3.1)&&((x1.2.1==x3.2.1)&&((x1.2.2.1==x3.2.2.1)&&((x1.2.2.2==x3.2.2.2)&&true)))));
bif x4 then(some (.inr (.inl (false,()))))else
let x5:=w64 (v3+1);
some (.inl (v0,v1,v2,x5,())))else
some (.inr (.inr (v0,v1,v2,v3,false,())))
def dL(a0:LDCn)(a1:LDCn):Option (Bool×Unit):=
let x0:=cg a0.length;
let x1:=cg a1.length;
bif(x0 != x1)then(some (false,()))else
let x2:=cg a0.length;
(match ct dp NN (a0,a1,x2,0,())with
|none=>none
|some (.inl (x3,_))=>
some (x3,())
|some (.inr (x3,_))=>
some (true,()))
def ni:X.Cfg:=⟨E0,[],[],[⟨6,0,qS [sP 0 dm,sP 1 dm,yaa 12,yaa 13] [],[(.ret,qS [zaa 4] []),(.exit 0,qS [sP 0 dm,sP 1 dm,yaa 12,yaa 13,zaa 14] [])]⟩]⟩
def i5:Ctr:=⟨75,20,uL [dm,dm],[],[⟨uab,[.one],[]⟩],ap2 dL⟩
theorem ng:Lvl E0 TT libBj 1 i5:=ca (n:=0) (C:=ni) rfl (.intro) (cf (by kernel_rfl)) (λh=>by kernel_rfl)
def jb(a0:Int)(a1:Int)(a2:LDCn)(a3:Int)(a4:Int)(a5:Int)(a6:Int)(a7:Int)(a8:Int)(a9:Int)(a10:LDCn)(a11:Int)(a12:Int)(a13:LDCn)(a14:Int)(a15:Int)(a16:Int)(a17:Int)(a18:Int)(a19:Int)(a20:Int)(a21:LDCn):Option (Bool×Unit):=
bif((a0==a11)&&((a1==a12)&&true))then((dL a2 a13).bind λ(x0,_)=>
bif x0 then(bif(a3==a14)then(bif(a4==a15)then(bif(a5==a16)then(bif(a6==a17)then(bif(a7==a18)then(bif(a8==a19)then(bif(a9==a20)then((dL a10 a21).bind λ(x1,_)=>
some (x1,()))else
some (false,()))else
some (false,()))else
some (false,()))else
some (false,()))else
some (false,()))else
some (false,()))else
some (false,()))else
some (false,()))else
some (false,())
def wl:X.Cfg:=⟨E0,[i5],[],[]⟩
def py:Ctr:=⟨52,21,[.agg uac,.agg uac],[],[⟨uab,[.one],[]⟩],ap22 jb⟩
theorem vT:Lvl E0 TT libBj 2 py:=ca (n:=1) (C:=wl) rfl (.intro (ng.mono (by decide)) (.intro)) (cf (by kernel_rfl)) (λh=>by kernel_rfl)
def dt:T15->Option (T15⊕(Int×T14)):=λ(v0,v1,v2,v3,v4,_)=>
bif(decide (v1<v0))then(((ek v1).bind λx0=>
(cU v2 x0).bind λx1=>
(cU v2 x0).bind λx2=>
(ek v1).bind λx3=>
(cU v3 x3).bind λx4=>
(cU v3 x3).bind λx5=>
(jb x2.1 x2.2.1 x2.2.2.1 x2.2.2.2.1 x2.2.2.2.2.1 x2.2.2.2.2.2.1 x2.2.2.2.2.2.2.1 x2.2.2.2.2.2.2.2.1 x2.2.2.2.2.2.2.2.2.1 x2.2.2.2.2.2.2.2.2.2.1 x2.2.2.2.2.2.2.2.2.2.2 x5.1 x5.2.1 x5.2.2.1 x5.2.2.2.1 x5.2.2.2.2.1 x5.2.2.2.2.2.1 x5.2.2.2.2.2.2.1 x5.2.2.2.2.2.2.2.1 x5.2.2.2.2.2.2.2.2.1 x5.2.2.2.2.2.2.2.2.2.1 x5.2.2.2.2.2.2.2.2.2.2).bind λ(x6,_)=>
bif(!x6)then((ek v1).bind λx7=>
(cU v2 x7).bind λx8=>
(cU v2 x7).bind λx9=>
let ac:LDCe:=[(x9.1,x9.2.1)];
bif(dh 16 v4.length ac.length)then let ae:LDCe:=(List.append v4 ac);
some (v0,v1,v2,v3,ae,())else none)else
some (v0,v1,v2,v3,v4,()):Option (T15)).bind λ(x0,x1,x2,x3,x4,_)=>
let x5:=w64 (x1+1);
some (.inl (x0,x5,x2,x3,x4,())))else
some (.inr (v0,v1,false,v2,v3,v4,()))
def gL(a0:List LDCn)(a1:LDTs)(a2:List LDCn)(a3:LDTs):Option (LDCe×Int×Unit):=
(js a0 a1).bind λ(x0,x1,_)=>
(js a2 a3).bind λ(x2,x3,_)=>
(bif(x1 != 0)then(some (true,x0,x2,()))else
bif(x3 != 0)then(some (true,x0,x2,()))else
(fP a0 a1).bind λ(x4,_)=>
(fP a2 a3).bind λ(x5,_)=>
(ft x4 x5).bind λ(x6,_)=>
bif(!x6)then(some (true,x0,x2,()))else
let x7:=cg a1.length;
let x8:=cg a3.length;
some ((x7 != x8),x0,x2,()):Option (Bool×(List (Int×Int×LDCn×Int×Int×Int×Int×Int×Int×Int×LDCn))×(List (Int×Int×LDCn×Int×Int×Int×Int×Int×Int×Int×LDCn))×Unit)).bind λ(x4,x5,x6,_)=>
bif x4 then(some ([],1,()))else
let x7:=cg x5.length;
(ct dt NN (x7,0,x5,x6,[],())).bind λ(x8,x9,ac,ae,af,ah,_)=>
some (ah,0,())
def sy:X.Cfg:=⟨E0,[tg,lj,j9,py],[],[⟨4,0,qE,[(.normal,(qS [Uaa 6 15,Uaa 8 19,zaa 44] [(15,[shU (Xi (.pair I64 (.pair I64 (.pair dm eA))))]),(19,[shU (Xi (.pair I64 (.pair I64 (.pair dm eA))))])]))]⟩,⟨12,1,qE,[(.normal,(qS [Uaa 6 15,Uaa 8 19,Uaa 10 23,yaa 46,yaa 47] [(15,[shU (Xi (.pair I64 (.pair I64 (.pair dm eA))))]),(19,[shU (Xi (.pair I64 (.pair I64 (.pair dm eA))))]),(23,Zab)]))]⟩,(lx 9 2 [Uaa 6 15,Uaa 8 19,Uaa 10 23,yaa 46,yaa 47] [(15,[shU (Xi (.pair I64 (.pair I64 (.pair dm eA))))]),(19,[shU (Xi (.pair I64 (.pair I64 (.pair dm eA))))]),(23,Zab)] 48)]⟩
def mz:Ctr:=⟨29,22,[.agg Xaa,.agg Xaa],[],[⟨yad,[.one,.one],[]⟩],ap4 gL⟩
theorem sq:Lvl E0 TT libBj 7 mz:=ca (n:=6) (C:=sy) rfl (.intro (zS.mono (by decide)) (.intro (oQ.mono (by decide)) (.intro (oO.mono (by decide)) (.intro (vT.mono (by decide)) (.intro))))) (cf (by kernel_rfl)) (λh=>by kernel_rfl)
def iN(a0:Int)(a1:Int):Option (Int×Unit):=
(bif(decide (a0<0))then(some (true,()))else
bif(decide (a1>200))then(some (true,()))else
some ((decide (a0>a1)),()):Option (Bool×Unit)).bind λ(x0,_)=>
bif x0 then(some (6,()))else
some (0,())
def ym:X.Cfg:=⟨E0,[],[],[⟨2,0,qE,[(.normal,qS [zaa 15] [])]⟩]⟩
def mA:Ctr:=⟨30,23,Xab,[],[⟨zab,[.one],[]⟩],ap2 iN⟩
theorem qA:Lvl E0 TT libBj 1 mA:=ca (n:=0) (C:=ym) rfl (.intro) (cf (by kernel_rfl)) (λh=>by kernel_rfl)
def ja(a0:List LDCn)(a1:LDTs)(a2:Int)(a3:Int):Option (Bool×Unit):=
bif(a2==(-1))then(bif(decide (a3>=0))then(let x0:Int:=(cg a1.length);
some ((decide (a3<x0)),()))else
some (false,()))else
bif(decide (a2>=0))then(let x0:Int:=(cg a0.length);
bif(decide (a2<x0))then((ek a2).bind λx1=>
(cU a0 x1).bind λx2=>
(gz x2 a3).bind λ(x3,_)=>
let x4:=cg x3.length;
some ((decide (x4>0)),()))else
some (false,()))else
some (false,())
def wh:X.Cfg:=⟨E0,[my],[],[]⟩
def px:Ctr:=⟨76,24,[.agg Xaa,.agg Xab],[],[⟨uab,[.one],[]⟩],ap4 ja⟩
theorem vR:Lvl E0 TT libBj 2 px:=ca (n:=1) (C:=wh) rfl (.intro (qz.mono (by decide)) (.intro)) (cf (by kernel_rfl)) (λh=>by kernel_rfl)
def iL(a0:List LDCn)(a1:LDTs)(a2:Int)(a3:Int):Option (Int×Unit):=
(gd a0 a1).bind λ(x0,_)=>
bif(!x0)then(some (1,()))else
(ja a0 a1 a2 a3).bind λ(x1,_)=>
bif(!x1)then(some (30,()))else
some (0,())
def yj:X.Cfg:=⟨E0,[kA,px],[],[]⟩
def qI:Ctr:=⟨53,25,[.agg Xaa,.agg Xab],[],[⟨zab,[.one],[]⟩],ap4 iL⟩
theorem xS:Lvl E0 TT libBj 6 qI:=ca (n:=5) (C:=yj) rfl (.intro (nB.mono (by decide)) (.intro (vR.mono (by decide)) (.intro))) (cf (by kernel_rfl)) (λh=>by kernel_rfl)
def kZ(a0:List LDCn)(a1:LDTs)(a2:Int)(a3:Int):Option (T0F):=
(iL a0 a1 a2 a3).bind λ(x0,_)=>
bif(x0 != 0)then(some (0,0,[],0,0,0,0,0,0,0,[],x0,()))else
(iu a0 a1 a2 a3).bind λ(x1,x2,x3,x4,x5,x6,x7,x8,x9,ac,ae,_)=>
some (x1,x2,x3,x4,x5,x6,x7,x8,x9,ac,ae,0,())
def Aa:X.Cfg:=⟨E0,[qI,og],[],[]⟩
def te:Ctr:=⟨31,26,[.agg Xaa,.agg Xab],[],[⟨uL [I64,I64,dm,I64,I64,I64,I64,I64,I64,CW,dm,I64],[.agg 11,.one],[]⟩],ap4 kZ⟩
theorem zR:Lvl E0 TT libBj 7 te:=ca (n:=6) (C:=Aa) rfl (.intro (xS.mono (by decide)) (.intro (sn.mono (by decide)) (.intro))) (cf (by kernel_rfl)) (λh=>by kernel_rfl)
def fI:T0Z->Option (T0Z⊕((Int×Int×Int×Unit×Unit)⊕(Int×T0Y))):=λ(v0,v1,v2,v3,v4,v5,v6,v7,v8,v9,v10,_)=>
bif(decide (v1<v0))then((ek v1).bind λx0=>
(cU v7 x0).bind λx1=>
(cU v7 x0).bind λx2=>
(kZ v2 v3 x2.1 x2.2).bind λ(x3,x4,x5,x6,x7,x8,x9,ac,ae,af,ah,aj,_)=>
bif(aj != 0)then(some (.inr (.inl (aj,0,0,(),()))))else
let ak:List (Int×Int×LDCn×Int×Int×Int×Int×Int×Int×Int×LDCn):=[(x3,(x4,(x5,(x6,(x7,(x8,(x9,(ac,(ae,(af,ah))))))))))];
bif(dh 120 v10.length ak.length)then let an:List (Int×Int×LDCn×Int×Int×Int×Int×Int×Int×Int×LDCn):=(List.append v10 ak);
let ap:=w64 (v1+1);
some (.inl (v0,ap,v2,v3,v4,v5,v6,v7,v8,v9,an,()))else none)else
some (.inr (.inr (v0,v1,false,v2,v3,v4,v5,v6,v7,v8,v9,v10,())))
def d9(a0:List LDCn)(a1:LDTs)(a2:List LDCn)(a3:LDTs)(a4:Int)(a5:Int):Option (T0I):=
(gL a0 a1 a2 a3).bind λ(x0,x1,_)=>
bif(x1 != 0)then(some (0,0,[],x1,()))else
(iN a4 a5).bind λ(x2,_)=>
bif(x2 != 0)then(some (0,0,[],x2,()))else
let x3:=cg x0.length;
(match ct fI NN (x3,0,a2,a3,0,0,(),x0,a4,a5,[],())with
|none=>none
|some (.inl (x4,x5,x6,x7,_))=>
some (x5,x6,[],x4,())
|some (.inr (x4,x5,x6,x7,x8,x9,ac,ae,af,ah,aj,ak,_))=>
some (ah,aj,ak,0,()))
def yn:X.Cfg:=⟨E0,[mz,mA,te],[(57,(.pair I64 (.pair I64 (.pair (Xi KCn) qO)))),(58,(.pair I64 (.pair I64 (.pair (Xi KCn) qO))))],[⟨12,0,(qS [uaa 5,uaa 8,uaa 13,Uaa 38 23,yaa 39,yaa 40] [(12,Xaa),(18,uad),(23,Zab),(28,[shU I64,shU I64,shU (Xi (.pair I64 (.pair I64 (.pair dm eA))))])]),[(.ret,qS [uaa 8,yaa 9] [(18,uad)]),(.exit 0,(qS [uaa 5,uaa 8,uaa 13,Uaa 38 23,yaa 39,yaa 40,zaa 41] [(12,Xaa),(18,uad),(23,Zab),(28,[shU I64,shU I64,shU (Xi (.pair I64 (.pair I64 (.pair dm eA))))])]))]⟩]⟩
def ke:Ctr:=⟨15,27,[.agg Xaa,.agg Xaa,shU I64,shU I64],[],[⟨[shU I64,shU I64,shU (Xi (.pair I64 (.pair I64 (.pair dm eA)))),shU I64],[.agg 3,.one],[]⟩],ap6 d9⟩
theorem mg:Lvl E0 TT libBj 8 ke:=ca (n:=7) (C:=yn) rfl (.intro (sq.mono (by decide)) (.intro (qA.mono (by decide)) (.intro (zR.mono (by decide)) (.intro)))) (cf (by kernel_rfl)) (λh=>by kernel_rfl)
def iM(a0:Int)(a1:Int):Option (Int×Unit):=
bif(a0==(-1))then(some (1,()))else
some (0,())
def yl:X.Cfg:=⟨E0,[],[],[]⟩
def qL:Ctr:=⟨72,28,[.agg Xab],[],[⟨zab,[.one],[]⟩],ap2 iM⟩
theorem xU:Lvl E0 TT libBj 1 qL:=ca (n:=0) (C:=yl) rfl (.intro) (cf (by kernel_rfl)) (λh=>by kernel_rfl)
def ee(a0:Int):Option (Bool×Unit):=
some ((a0 != a0),())
def ml:X.Cfg:=⟨E0,[],[],[]⟩
def iU:Ctr:=⟨83,29,zab,[],[⟨uab,[.one],[]⟩],ap1 ee⟩
theorem mh:Lvl E0 TT libBj 1 iU:=ca (n:=0) (C:=ml) rfl (.intro) (cf (by kernel_rfl)) (λh=>by kernel_rfl)
def cO(a0:Int)(a1:Int):Option (Int×Unit):=
(ee a0).bind λ(x0,_)=>
(ee a1).bind λ(x1,_)=>
bif x0 then(bif x1 then(some (0,()))else
some ((-1),()))else
bif x1 then(some (1,()))else
bif(decide (a0<a1))then(some ((-1),()))else
bif(decide (a0>a1))then(some (1,()))else
some (0,())
def kz:X.Cfg:=⟨E0,[iU],[],[]⟩
def gm:Ctr:=⟨71,30,Xab,[],[⟨zab,[.one],[]⟩],ap2 cO⟩
theorem kw:Lvl E0 TT libBj 2 gm:=ca (n:=1) (C:=kz) rfl (.intro (mh.mono (by decide)) (.intro)) (cf (by kernel_rfl)) (λh=>by kernel_rfl)
def dI:Int×T07->Option ((Int×T07)⊕((Int×Unit)⊕(Int×T0b))):=λ(v0,v1,v2,v3,_)=>
bif(decide (v3<v2))then((ek v3).bind λx0=>
(cU v1 x0).bind λx1=>
bif(x1 != v0)then(some (.inr (.inl (x1,()))))else
let x2:=w64 (v3+1);
some (.inl (v0,v1,v2,x2,())))else
some (.inr (.inr (v0,v1,v2,v3,false,())))
def gN(a0:List (Int)):Option (Int×Unit):=
let x0:=cg a0.length;
(match ct dI NN (0,a0,x0,0,())with
|none=>none
|some (.inl (x1,_))=>
some (x1,())
|some (.inr (x1,_))=>
some (x1,()))
def sA:X.Cfg:=⟨E0,[],[],[⟨4,0,qS [yaa 3,sP 6 RI,yaa 7,yaa 8] [],[(.ret,qS [yaa 2] []),(.exit 0,qS [yaa 3,sP 6 RI,yaa 7,yaa 8,zaa 9] [])]⟩]⟩
def mB:Ctr:=⟨70,31,uL [RI],[],[⟨zab,[.one],[]⟩],ap1 gN⟩
theorem sr:Lvl E0 TT libBj 1 mB:=ca (n:=0) (C:=sA) rfl (.intro) (cf (by kernel_rfl)) (λh=>by kernel_rfl)
def jc(a0:Int)(a1:Int)(a2:Int)(a3:Int):Option (Int×Unit):=
(iM a0 a1).bind λ(x0,_)=>
(iM a2 a3).bind λ(x1,_)=>
(cO x0 x1).bind λ(x2,_)=>
(cO a0 a2).bind λ(x3,_)=>
(cO a1 a3).bind λ(x4,_)=>
let x5:List (Int):=[x2,x3,x4];
(gN x5).bind λ(x6,_)=>
some (x6,())
def wn:X.Cfg:=⟨E0,[qL,gm,mB],[],[]⟩
def pz:Ctr:=⟨45,32,[.agg Xab,.agg Xab],[],[⟨zab,[.one],[]⟩],ap4 jc⟩
theorem vU:Lvl E0 TT libBj 3 pz:=ca (n:=2) (C:=wn) rfl (.intro (xU.mono (by decide)) (.intro (kw.mono (by decide)) (.intro (sr.mono (by decide)) (.intro)))) (cf (by kernel_rfl)) (λh=>by kernel_rfl)
def eZ:T0J->Option (T0J⊕((Int×Unit)⊕T0L)):=λ(v0,v1,v2,v3,_)=>
let x0:=cg v3.length;
bif(decide (v0<x0))then(let x1:Int:=(w64 (v0-1));
(ek x1).bind λx2=>
(cU v3 x2).bind λx3=>
(ek v0).bind λx4=>
(cU v3 x4).bind λx5=>
(jc x3.1 x3.2.1 x5.1 x5.2.1).bind λ(x6,_)=>
bif(decide (x6>=0))then(some (.inr (.inl (5,()))))else
let x7:=w64 (v0+1);
some (.inl (x7,v1,v2,v3,())))else
some (.inr (.inr (v0,false,v1,v2,v3,())))
def fR(a0:Int)(a1:Int)(a2:List (Int×Int×LDCn×Int×Int×Int×Int×Int×Int×Int×LDCn)):Option (Int×Unit):=
(iN a0 a1).bind λ(x0,_)=>
bif(x0 != 0)then(some (x0,()))else
(match ct eZ NN (1,a0,a1,a2,())with
|none=>none
|some (.inl (x1,_))=>
some (x1,())
|some (.inr (x1,_))=>
some (0,()))
def wo:X.Cfg:=⟨E0,[mA,pz],[],[⟨7,0,(qS [uaa 1,yaa 4] [(4,[shU I64,shU I64,shU (Xj (.pair I64 (.pair I64 (.pair dm eA))))])]),[(.ret,qS [yaa 2] []),(.exit 0,(qS [uaa 1,yaa 4,zaa 17] [(4,[shU I64,shU I64,shU (Xj (.pair I64 (.pair I64 (.pair dm eA))))])]))]⟩]⟩
def pA:Ctr:=⟨24,33,[.agg [shU I64,shU I64,shU (Xj (.pair I64 (.pair I64 (.pair dm eA))))]],[],[⟨zab,[.one],[]⟩],ap3 fR⟩
theorem vV:Lvl E0 TT libBj 4 pA:=ca (n:=3) (C:=wo) rfl (.intro (qA.mono (by decide)) (.intro (vU.mono (by decide)) (.intro))) (cf (by kernel_rfl)) (λh=>by kernel_rfl)
def dZ(a0:List LDCn):Option (LLCn×Unit):=
bif(dh 24 0 a0.length)then let x0:List LDCn:=(List.append [] a0);
some (x0,())else none
def lQ:X.Cfg:=⟨E0,[],[(5,(Xi KCn)),(7,(Xi KCn))],[]⟩
def ij:Ctr:=⟨60,34,uL [(Xj dm)],[],[⟨uL [(Xi dm)],[.one],[]⟩],ap1 dZ⟩
theorem lN:Lvl E0 TT libBj 1 ij:=ca (n:=0) (C:=lQ) rfl (.intro) (cf (by kernel_rfl)) (λh=>by kernel_rfl)
def eR(a0:LDTs):Option (LDTs×Unit):=
bif(dh 80 0 a0.length)then let x0:LDTs:=(List.append [] a0);
some (x0,())else none
def n7:X.Cfg:=⟨E0,[],[(5,qO),(7,qO)],[]⟩
def jG:Ctr:=⟨61,35,uL [(Xj eA)],[],[⟨uL [(Xi eA)],[.one],[]⟩],ap1 eR⟩
theorem nZ:Lvl E0 TT libBj 1 jG:=ca (n:=0) (C:=n7) rfl (.intro) (cf (by kernel_rfl)) (λh=>by kernel_rfl)
def eK:T0l->Option (T0l⊕T0q):=λ(v0,v1,v2,v3)=>
bif(decide (v1<v0))then((ek v1).bind λx0=>
(cU v2 x0).bind λx1=>
(cU v2 x0).bind λx2=>
(dw x2).bind λ(x3,_)=>
(ek v1).bind λx4=>
(cU v2 x4).bind λx5=>
(cU v2 x4).bind λx6=>
let x7:=List.modify v2 x4 λe=>x3;
let x8:=w64 (v1+1);
some (.inl (v0,x8,x7,v3)))else
some (.inr (v0,v1,false,v2,v3))
def eJ:T0l->Option (T0l⊕T0q):=λ(v0,v1,v2,v3,v4)=>
bif(decide (v1<v0))then((ek v1).bind λx0=>
(cU v3 x0).bind λx1=>
(cU v3 x0).bind λx2=>
(gM x2.1 x2.2.1 x2.2.2.1 x2.2.2.2.1 x2.2.2.2.2.1 x2.2.2.2.2.2.1 x2.2.2.2.2.2.2.1 x2.2.2.2.2.2.2.2).bind λ(x3,x4,x5,x6,x7,x8,x9,ac,_)=>
(ek v1).bind λae=>
(cU v3 ae).bind λaf=>
(cU v3 ae).bind λah=>
let aj:=(List.modify v3 ae λe=>(x3,(x4,(x5,(x6,(x7,(x8,(x9,ac))))))));
let ak:=w64 (v1+1);
some (.inl (v0,ak,v2,aj,v4)))else
some (.inr (v0,v1,false,v2,v3,v4))
def iD(a0:List LDCn)(a1:LDTs):Option (T03):=
(dZ a0).bind λ(x0,_)=>
(eR a1).bind λ(x1,_)=>
let x2:=cg x0.length;
(ct eK NN (x2,0,x0,x1,(),(),())).bind λ(x3,x4,x5,x6,x7,x8)=>
let ac:=cg x7.length;
(ct eJ NN (ac,0,x6,x7,x8)).bind λ(ae,af,ah,aj,ak,_)=>
some (aj,ak,())
def uf:X.Cfg:=⟨E0,[ij,jG,eD,ln],[],[(lx 4 0 [uaa 1,uaa 2,Uaa 16 4,yaa 17,yaa 18] [(4,Xac),(6,yab)] 19),⟨11,1,(qS [uaa 1,uaa 2,(31,.pk ⟨4,1,[]⟩ [0,0]),yaa 32,yaa 33] [(4,Xac),(6,yab)]),[(.exit 2,(qS [uaa 1,uaa 2,(31,.pk ⟨4,1,[]⟩ [0,0]),yaa 32,yaa 33,zaa 34] [(4,Xac),(6,yab)]))]⟩]⟩
def nL:Ctr:=⟨35,36,[.agg Xaa],[],[⟨Xac,[.agg 2],[]⟩],ap2 iD⟩
theorem tV:Lvl E0 TT libBj 3 nL:=ca (n:=2) (C:=uf) rfl (.intro (lN.mono (by decide)) (.intro (nZ.mono (by decide)) (.intro (fY.mono (by decide)) (.intro (oV.mono (by decide)) (.intro))))) (cf (by kernel_rfl)) (λh=>by kernel_rfl)
def td:Ctr:=⟨36,37,[.agg Xaa,.agg uac],[],[⟨zad,[.agg 2,.one],[]⟩],ap13 de⟩
theorem zQ:Lvl E0 TT libBj 1 td:=(vL (IK rfl) tK).mono (by decide)
def fa:T17->Option (T17⊕((Int×T04)⊕((List (Int×Int×LDCn×Int×Int×Int×Int×Int×Int×Int×LDCn))×Int×Int×Bool×T0Q))):=λ(v0,v1,v2,v3,v4,v5,v6,v7,v8,v9,_)=>
bif(decide (v2<v1))then((ek v2).bind λx0=>
(cU v0 x0).bind λx1=>
(de v8 v9 x1.1 x1.2.1 x1.2.2.1 x1.2.2.2.1 x1.2.2.2.2.1 x1.2.2.2.2.2.1 x1.2.2.2.2.2.2.1 x1.2.2.2.2.2.2.2.1 x1.2.2.2.2.2.2.2.2.1 x1.2.2.2.2.2.2.2.2.2.1 x1.2.2.2.2.2.2.2.2.2.2).bind λ(x2,x3,x4,_)=>
bif(x4 != 0)then(some (.inr (.inl (x4,(),(),()))))else
let x5:=w64 (v2+1);
some (.inl (v0,v1,x5,v3,v4,v5,v6,v7,x2,x3,())))else
some (.inr (.inr (v0,v1,v2,false,v3,v4,v5,v6,v7,v8,v9,())))
def dP(a0:List LDCn)(a1:LDTs)(a2:Int)(a3:Int)(a4:Int)(a5:List (Int×Int×LDCn×Int×Int×Int×Int×Int×Int×Int×LDCn)):Option (LLCn×LDTs×Int×Unit):=
(fR a3 a4 a5).bind λ(x0,_)=>
bif(x0 != 0)then(some ([],[],x0,()))else
bif(a2 != a3)then(some ([],[],35,()))else
(iD a0 a1).bind λ(x1,x2,_)=>
let x3:=cg a5.length;
(match ct fa NN (a5,x3,0,a3,a4,a5,(),(),x1,x2,())with
|none=>none
|some (.inl (x4,x5,x6,_))=>
some ([],[],x4,())
|some (.inr (x4,x5,x6,x7,x8,x9,ac,ae,af,ah,aj,_))=>
some (ah,aj,0,()))
def wq:X.Cfg:=⟨E0,[pA,nL,td],[],[⟨11,0,(qS [uaa 6,uaa 9,(28,shU (Xj (.pair I64 (.pair I64 (.pair dm eA))))),yaa 29,yaa 30] [(12,[shU I64,shU I64,shU (Xj (.pair I64 (.pair I64 (.pair dm eA))))]),(14,yab),(20,Xaa)]),[(.ret,qS [uaa 6,yaa 7] [(14,yab)]),(.exit 0,(qS [uaa 6,uaa 9,(28,shU (Xj (.pair I64 (.pair I64 (.pair dm eA))))),yaa 29,yaa 30,zaa 31] [(12,[shU I64,shU I64,shU (Xj (.pair I64 (.pair I64 (.pair dm eA))))]),(14,yab),(20,Xaa)]))]⟩]⟩
def lm:Ctr:=⟨17,38,[.agg Xaa,shU I64,.agg [shU I64,shU I64,shU (Xj (.pair I64 (.pair I64 (.pair dm eA))))]],[],[⟨zad,[.agg 2,.one],[]⟩],ap6 dP⟩
theorem oU:Lvl E0 TT libBj 5 lm:=ca (n:=4) (C:=wq) rfl (.intro (vV.mono (by decide)) (.intro (tV.mono (by decide)) (.intro (zQ.mono (by decide)) (.intro)))) (cf (by kernel_rfl)) (λh=>by kernel_rfl)
def dN:LDCn×LDCn×Int×Unit->Option ((LDCn×LDCn×Int×Unit)⊕((Bool×Unit)⊕(LDCn×LDCn×T00))):=λ(v0,v1,v2,_)=>
let x0:=cg v0.length;
bif(decide (v2<x0))then((ek v2).bind λx1=>
(cU v0 x1).bind λx2=>
(ek v2).bind λx3=>
(cU v1 x3).bind λx4=>
let x5:Bool:=(!((x2.1==x4.1)&&((x2.2.1==x4.2.1)&&((x2.2.2.1==x4.2.2.1)&&((x2.2.2.2==x4.2.2.2)&&true)))));
bif x5 then(some (.inr (.inl (false,()))))else
let x6:=w64 (v2+1);
some (.inl (v0,v1,x6,())))else
some (.inr (.inr (v0,v1,v2,false,())))
def dR(a0:LDCn)(a1:LDCn):Option (Bool×Unit):=
let x0:=cg a0.length;
let x1:=cg a1.length;
bif(x0 != x1)then(some (false,()))else
(match ct dN NN (a0,a1,0,())with
|none=>none
|some (.inl (x2,_))=>
some (x2,())
|some (.inr (x2,_))=>
some (true,()))
def qc:X.Cfg:=⟨E0,[],[],[⟨6,0,qS [sP 0 dm,sP 1 dm,yaa 5] [],[(.ret,qS [zaa 4] []),(.exit 0,qS [sP 0 dm,sP 1 dm,yaa 5,zaa 14] [])]⟩]⟩
def fS:Ctr:=⟨37,39,uL [dm,dm],[],[⟨uab,[.one],[]⟩],ap2 dR⟩
theorem iy:Lvl E0 TT libBj 1 fS:=ca (n:=0) (C:=qc) rfl (.intro) (cf (by kernel_rfl)) (λh=>by kernel_rfl)
def eX(a0:Int)(a1:Int)(a2:Int)(a3:Int)(a4:Int)(a5:Int)(a6:Int)(a7:LDCn)(a8:Int)(a9:Int)(a10:Int)(a11:Int)(a12:Int)(a13:Int)(a14:Int)(a15:LDCn):Option (Bool×Unit):=
bif(a0==a8)then(bif(a1==a9)then(bif(a2==a10)then(bif(a3==a11)then(bif(a4==a12)then(bif(a5==a13)then(bif(a6==a14)then((dR a7 a15).bind λ(x0,_)=>
some (x0,()))else
some (false,()))else
some (false,()))else
some (false,()))else
some (false,()))else
some (false,()))else
some (false,()))else
some (false,())
def rd:X.Cfg:=⟨E0,[fS],[],[]⟩
def iZ:Ctr:=⟨38,40,[.agg yac,.agg yac],[],[⟨uab,[.one],[]⟩],ap16 eX⟩
theorem lF:Lvl E0 TT libBj 2 iZ:=ca (n:=1) (C:=rd) rfl (.intro (iy.mono (by decide)) (.intro)) (cf (by kernel_rfl)) (λh=>by kernel_rfl)
def fG:T0j->Option (T0j⊕((Bool×Unit)⊕(Int×T0h))):=λ(v0,v1,v2,v3,v4,_)=>
let x0:=cg v1.length;
bif(decide (v0<x0))then((ek v0).bind λx1=>
(cU v1 x1).bind λx2=>
(ek v0).bind λx3=>
(cU v3 x3).bind λx4=>
(dR x2 x4).bind λ(x5,_)=>
bif(!x5)then(some (.inr (.inl (false,()))))else
let x6:=w64 (v0+1);
some (.inl (x6,v1,v2,v3,v4,())))else
some (.inr (.inr (v0,false,v1,v2,v3,v4,())))
def fF:T0j->Option (T0j⊕((Bool×Unit)⊕(Int×T0h))):=λ(v0,v1,v2,v3,v4,_)=>
let x0:=cg v2.length;
bif(decide (v0<x0))then((ek v0).bind λx1=>
(cU v2 x1).bind λx2=>
(ek v0).bind λx3=>
(cU v4 x3).bind λx4=>
(eX x2.1 x2.2.1 x2.2.2.1 x2.2.2.2.1 x2.2.2.2.2.1 x2.2.2.2.2.2.1 x2.2.2.2.2.2.2.1 x2.2.2.2.2.2.2.2 x4.1 x4.2.1 x4.2.2.1 x4.2.2.2.1 x4.2.2.2.2.1 x4.2.2.2.2.2.1 x4.2.2.2.2.2.2.1 x4.2.2.2.2.2.2.2).bind λ(x5,_)=>
bif(!x5)then(some (.inr (.inl (false,()))))else
let x6:=w64 (v0+1);
some (.inl (x6,v1,v2,v3,v4,())))else
some (.inr (.inr (v0,false,v1,v2,v3,v4,())))
def eP(a0:List LDCn)(a1:LDTs)(a2:List LDCn)(a3:LDTs):Option (Bool×Unit):=
let x0:=cg a0.length;
let x1:=cg a2.length;
bif(x0 != x1)then(some (false,()))else
let x2:=cg a1.length;
let x3:=cg a3.length;
bif(x2 != x3)then(some (false,()))else
(match ct fG NN (0,a0,a1,a2,a3,())with
|none=>none
|some (.inl (x4,_))=>
some (x4,())
|some (.inr (x4,x5,x6))=>
(match ct fF NN (0,x6)with
|none=>none
|some (.inl (ac,_))=>
some (ac,())
|some (.inr (ac,_))=>
some (true,())))
def yg:X.Cfg:=⟨E0,[fS,iZ],[],[⟨6,0,qS [uaa 2,uaa 3,yaa 5] [(6,Xaa),(8,Xaa)],[(.ret,qS [zaa 4] []),(.exit 0,qS [uaa 2,uaa 3,yaa 5,zaa 27] [(6,Xaa),(8,Xaa)])]⟩,⟨14,1,qS [uaa 2,uaa 3,yaa 6] [(6,Xaa),(8,Xaa)],[(.ret,qS [zaa 4] []),(.exit 2,qS [uaa 2,uaa 3,yaa 6,zaa 46] [(6,Xaa),(8,Xaa)])]⟩]⟩
def mu:Ctr:=⟨18,41,[.agg Xaa,.agg Xaa],[],[⟨uab,[.one],[]⟩],ap4 eP⟩
theorem qx:Lvl E0 TT libBj 3 mu:=ca (n:=2) (C:=yg) rfl (.intro (iy.mono (by decide)) (.intro (lF.mono (by decide)) (.intro))) (cf (by kernel_rfl)) (λh=>by kernel_rfl)
def fQ:Option (Bool×Unit):=
bif(Hq 9 9 4)then let x0:LDCn:=(List.replicate 9 (0,(0,(0,0))));
(fH [x0] []).bind λ(x1,x2,_)=>
(cU x1 0).bind λx3=>
(cU x1 0).bind λx4=>
(cU x1 0).bind λx5=>
(cU x5 8).bind λx6=>
(cU x1 0).bind λx7=>
(cU x7 8).bind λx8=>
let x9:=(List.modify x1 0 λe=>(List.modify e 8 λe=>(e.1,(3,e.2.2))));
(d9 [x0] [] x9 x2 2 5).bind λ(ac,ae,af,ah,_)=>
(dP [x0] [] 2 ac ae af).bind λ(aj,ak,an,_)=>
(dP [x0] [] 3 ac ae af).bind λ(ap,aq,au,_)=>
bif(ah==0)then(bif(an==0)then(bif(au==35)then(let av:Int:=(cg af.length);
bif(av==1)then((eP aj ak x9 x2).bind λ(aw,_)=>
some (aw,()))else
some (false,()))else
some (false,()))else
some (false,()))else
some (false,())else none
def wm:X.Cfg:=⟨E0,[mw,ke,lm,mu],[(10,(Xi KCn))],[]⟩
def lk:Ctr:=⟨8,42,[],[],[⟨uab,[.one],[]⟩],λh=>fQ⟩
theorem oS:Lvl E0 TT libBj 9 lk:=ca (n:=8) (C:=wm) rfl (.intro (qy.mono (by decide)) (.intro (mg.mono (by decide)) (.intro (oU.mono (by decide)) (.intro (qx.mono (by decide)) (.intro))))) (cf (by kernel_rfl)) (λh=>by kernel_rfl)
def dJ:T0a->Option (T0a⊕(Int×Bool×T08)):=λ(v0,v1,v2,v3,_)=>
let x0:=cg v1.length;
bif(decide (v0<x0))then((ek v0).bind λx1=>
(cU v1 x1).bind λx2=>
let x3:=cg x2.length;
bif(dh 8 v3.length (List.length [x3]))then let x4:List (Int):=(List.append v3 [x3]);
let x5:=w64 (v0+1);
some (.inl (x5,v1,v2,x4,()))else none)else
some (.inr (v0,false,v1,v2,v3,()))
def fN(a0:List LDCn)(a1:LDTs):Option (LI×Unit):=
(ct dJ NN (0,a0,a1,[],())).bind λ(x0,x1,x2,x3,x4,_)=>
some (x4,())
def dg:T07->Option (T07⊕((Int×Unit)⊕T0b)):=λ(v0,v1,v2,_)=>
let x0:=cg v0.length;
bif(decide (v2<x0))then((ek v2).bind λx1=>
(cU v0 x1).bind λx2=>
bif(decide (x2<1))then(some (.inr (.inl (1,()))))else
(ek v2).bind λx3=>
(cU v0 x3).bind λx4=>
bif(decide (x4>32))then(some (.inr (.inl (1,()))))else
let x5:=w64 (v2+1);
some (.inl (v0,v1,x5,())))else
some (.inr (.inr (v0,v1,v2,false,())))
def i9(a0:List (Int))(a1:Int):Option (Int×Unit):=
let x0:=cg a0.length;
bif(decide (x0>4))then(some (3,()))else
bif(decide (a1>4))then(some (3,()))else
(match ct dg NN (a0,a1,0,())with
|none=>none
|some (.inl (x1,_))=>
some (x1,())
|some (.inr (x1,x2,_))=>
bif(decide (x2<0))then(some (1,()))else
some (0,()))
def gc(a0:List LDCn)(a1:LDTs):Option (Bool×Unit):=
(fN a0 a1).bind λ(x0,_)=>
let x1:=cg a1.length;
(i9 x0 x1).bind λ(x2,_)=>
some ((x2==0),())
def nR:LI×T02->Option ((LI×T02)⊕((Bool×Unit)⊕(LI×LI×T00))):=λ(v0,v1,v2,_)=>
let x0:=cg v0.length;
bif(decide (v2<x0))then((ek v2).bind λx1=>
(cU v0 x1).bind λx2=>
(ek v2).bind λx3=>
(cU v1 x3).bind λx4=>
bif(x2 != x4)then(some (.inr (.inl (false,()))))else
let x5:=w64 (v2+1);
some (.inl (v0,v1,x5,())))else
some (.inr (.inr (v0,v1,v2,false,())))
def qV(a0:List (Int))(a1:List (Int)):Option (Bool×Unit):=
let x0:=cg a0.length;
let x1:=cg a1.length;
bif(x0 != x1)then(some (false,()))else
(match ct nR NN (a0,a1,0,())with
|none=>none
|some (.inl (x2,_))=>
some (x2,())
|some (.inr (x2,_))=>
some (true,()))
def rQ:LI×Int×T06->Option ((LI×Int×T06)⊕(LI×Int×T09)):=λ(v0,v1,v2,v3,v4,_)=>
let x0:=w64 (v3*8);
(ek v2).bind λx1=>
(cU v0 x1).bind λx2=>
bif(decide (x0<x2))then(let x3:LDCe:=[(v2,v3)];
bif(dh 16 v4.length x3.length)then let x4:LDCe:=(List.append v4 x3);
let x5:=w64 (v3+1);
some (.inl (v0,v1,v2,x5,x4,()))else none)else
some (.inr (v0,v1,v2,v3,false,v4,()))
def rP:T0c->Option (T0c⊕T0k):=λ(v0,v1,v2,v3,_)=>
let x0:=cg v0.length;
bif(decide (v2<x0))then((ct rQ NN (v0,v1,v2,0,v3,())).bind λ(x1,x2,x3,x4,x5,x6,_)=>
let x7:=w64 (x3+1);
some (.inl (x1,x2,x7,x6,())))else
some (.inr (v0,v1,v2,false,v3,()))
def rO:T06->Option (T06⊕T09):=λ(v0,v1,v2,_)=>
bif(decide (v1<v0))then(let x0:LDCe:=[((-1),v1)];
bif(dh 16 v2.length x0.length)then let x1:LDCe:=(List.append v2 x0);
let x2:=w64 (v1+1);
some (.inl (v0,x2,x1,()))else none)else
some (.inr (v0,v1,false,v2,()))
def xk(a0:List (Int))(a1:Int):Option (LDCe×Int×Unit):=
(i9 a0 a1).bind λ(x0,_)=>
bif(x0 != 0)then(some ([],x0,()))else
(ct rP NN (a0,a1,0,[],())).bind λ(x1,x2,x3,x4,x5,_)=>
(ct rO NN (x2,0,x5,())).bind λ(x6,x7,x8,x9,_)=>
some (x9,0,())
def jr(a0:List LDCn)(a1:LDTs)(a2:Int)(a3:Int):Option (T0F):=
(gc a0 a1).bind λ(x0,_)=>
bif(!x0)then(some (0,0,[],0,0,0,0,0,0,0,[],1,()))else
bif(a2==(-1))then(bif(decide (a3<0))then(some (0,0,[],0,0,0,0,0,0,0,[],30,()))else
let x1:=cg a1.length;
bif(decide (a3>=x1))then(some (0,0,[],0,0,0,0,0,0,0,[],30,()))else
(ek a3).bind λx2=>
(cU a1 x2).bind λx3=>
(em x3.1 x3.2.1 x3.2.2.1 x3.2.2.2.1 x3.2.2.2.2.1 x3.2.2.2.2.2.1 x3.2.2.2.2.2.2.1 x3.2.2.2.2.2.2.2).bind λ(x4,x5,x6,x7,x8,x9,ac,ae,_)=>
some (a2,a3,[],x4,x5,x6,x7,x8,x9,ac,ae,0,()))else
(bif(decide (a2<0))then(some (true,a0,a1,a2,a3,0,0,(),0,0,0,0,0,0,0,(),()))else
let x1:=cg a0.length;
bif(decide (a2>=x1))then(some (true,a0,a1,a2,a3,0,0,(),0,0,0,0,0,0,0,(),()))else
bif(decide (a3<0))then(some (true,a0,a1,a2,a3,0,0,(),0,0,0,0,0,0,0,(),()))else
bif(decide (a3>32))then(some (true,a0,a1,a2,a3,0,0,(),0,0,0,0,0,0,0,(),()))else
let x2:=w64 (a3*8);
(ek a2).bind λx3=>
(cU a0 x3).bind λx4=>
let x5:=cg x4.length;
some ((decide (x2>=x5)),a0,a1,a2,a3,0,0,(),0,0,0,0,0,0,0,(),()):Option (Bool×LLCn×LDTs×Int×Int×Int×Int×Unit×Int×Int×Int×Int×Int×Int×Int×Unit×Unit)).bind λ(x1,x2,x3,x4,x5,x6,x7,x8,x9,ac,ae,_)=>
bif x1 then(some (0,0,[],0,0,0,0,0,0,0,[],30,()))else
(ek x4).bind λap=>
(cU x2 ap).bind λaq=>
let au:=w64 (x5*8);
let av:=w64 (au+8);
let aw:=cg aq.length;
let ax:=mmR false av aw;
(ek au).bind λay=>
(ek ax).bind λaz=>
bif(lJ ay az aq.length)then let aA:LDCn:=(IE aq ay (Nat.sub az ay));
bif(dh 24 0 aA.length)then let aB:LDCn:=(List.append [] aA);
some (x4,x5,aB,0,0,0,0,0,0,0,[],0,())else none else none
def tH:T0M->Option (T0M⊕T0N):=λ(v0,v1,v2,v3,v4,_)=>
let x0:=cg v3.length;
bif(decide (v0<x0))then((ek v0).bind λx1=>
(cU v3 x1).bind λx2=>
(cU v3 x1).bind λx3=>
(jr v1 v2 x3.1 x3.2).bind λ(x4,x5,x6,x7,x8,x9,ac,ae,af,ah,aj,ak,_)=>
let an:List (Int×Int×LDCn×Int×Int×Int×Int×Int×Int×Int×LDCn):=[(x4,(x5,(x6,(x7,(x8,(x9,(ac,(ae,(af,(ah,aj))))))))))];
bif(dh 120 v4.length an.length)then let ap:List (Int×Int×LDCn×Int×Int×Int×Int×Int×Int×Int×LDCn):=(List.append v4 an);
let aq:=w64 (v0+1);
some (.inl (aq,v1,v2,v3,ap,()))else none)else
some (.inr (v0,false,v1,v2,v3,v4,()))
def rR(a0:List LDCn)(a1:LDTs):Option (T0D):=
(fN a0 a1).bind λ(x0,_)=>
let x1:=cg a1.length;
(xk x0 x1).bind λ(x2,x3,_)=>
bif(x3 != 0)then(some ([],1,()))else
(ct tH NN (0,a0,a1,x2,[],())).bind λ(x4,x5,x6,x7,x8,x9,_)=>
some (x9,0,())
def gJ(a0:Int)(a1:Int)(a2:LDCn)(a3:Int)(a4:Int)(a5:Int)(a6:Int)(a7:Int)(a8:Int)(a9:Int)(a10:LDCn)(a11:Int)(a12:Int)(a13:LDCn)(a14:Int)(a15:Int)(a16:Int)(a17:Int)(a18:Int)(a19:Int)(a20:Int)(a21:LDCn):Option (Bool×Unit):=
bif((a0==a11)&&((a1==a12)&&true))then((dR a2 a13).bind λ(x0,_)=>
bif x0 then((eX a3 a4 a5 a6 a7 a8 a9 a10 a14 a15 a16 a17 a18 a19 a20 a21).bind λ(x1,_)=>
some (x1,()))else
some (false,()))else
some (false,())
def wg:X.Cfg:=⟨E0,[fS,iZ],[],[]⟩
def pu:Ctr:=⟨64,50,[.agg uac,.agg uac],[],[⟨uab,[.one],[]⟩],ap22 gJ⟩
theorem vQ:Lvl E0 TT libBj 3 pu:=ca (n:=2) (C:=wg) rfl (.intro (iy.mono (by decide)) (.intro (lF.mono (by decide)) (.intro))) (cf (by kernel_rfl)) (λh=>by kernel_rfl)
def ot:T13->Option (T13⊕T14):=λ(v0,v1,v2,v3,_)=>
let x0:=cg v1.length;
bif(decide (v0<x0))then(((ek v0).bind λx1=>
(cU v1 x1).bind λx2=>
(cU v1 x1).bind λx3=>
(ek v0).bind λx4=>
(cU v2 x4).bind λx5=>
(cU v2 x4).bind λx6=>
(gJ x3.1 x3.2.1 x3.2.2.1 x3.2.2.2.1 x3.2.2.2.2.1 x3.2.2.2.2.2.1 x3.2.2.2.2.2.2.1 x3.2.2.2.2.2.2.2.1 x3.2.2.2.2.2.2.2.2.1 x3.2.2.2.2.2.2.2.2.2.1 x3.2.2.2.2.2.2.2.2.2.2 x6.1 x6.2.1 x6.2.2.1 x6.2.2.2.1 x6.2.2.2.2.1 x6.2.2.2.2.2.1 x6.2.2.2.2.2.2.1 x6.2.2.2.2.2.2.2.1 x6.2.2.2.2.2.2.2.2.1 x6.2.2.2.2.2.2.2.2.2.1 x6.2.2.2.2.2.2.2.2.2.2).bind λ(x7,_)=>
bif(!x7)then((ek v0).bind λx8=>
(cU v1 x8).bind λx9=>
(cU v1 x8).bind λac=>
let ae:LDCe:=[(ac.1,ac.2.1)];
bif(dh 16 v3.length ae.length)then let af:LDCe:=(List.append v3 ae);
some (v0,v1,v2,af,())else none)else
some (v0,v1,v2,v3,()):Option (T13)).bind λ(x1,x2,x3,x4,_)=>
let x5:=w64 (x1+1);
some (.inl (x5,x2,x3,x4,())))else
some (.inr (v0,false,v1,v2,v3,()))
def rN(a0:List LDCn)(a1:LDTs)(a2:List LDCn)(a3:LDTs):Option (LDCe×Int×Unit):=
((gc a0 a1).bind λ(x0,_)=>
bif(!x0)then(some (true,a0,a1,a2,a3,()))else
(gc a2 a3).bind λ(x1,_)=>
bif(!x1)then(some (true,a0,a1,a2,a3,()))else
(fN a0 a1).bind λ(x2,_)=>
(fN a2 a3).bind λ(x3,_)=>
(qV x2 x3).bind λ(x4,_)=>
bif(!x4)then(some (true,a0,a1,a2,a3,()))else
let x5:=cg a1.length;
let x6:=cg a3.length;
some ((x5 != x6),a0,a1,a2,a3,()):Option (T0h)).bind λ(x0,x1,x2,x3,x4,_)=>
bif x0 then(some ([],1,()))else
(rR x1 x2).bind λ(x5,x6,_)=>
(rR x3 x4).bind λ(x7,x8,_)=>
(ct ot NN (0,x5,x7,[],())).bind λ(x9,ac,ae,af,ah,_)=>
some (ah,0,())
def uA(a0:Int):Option (Bool×Unit):=
bif(decide (a0>=0))then(some ((decide (a0<=200)),()))else
some (false,())
def ou(a0:Int)(a1:Int)(a2:Int)(a3:Int):Option (Bool×Unit):=
bif(!((a0==(-1))==(a2==(-1))))then(some ((a2==(-1)),()))else
bif(decide (a0<a2))then(some (true,()))else
bif(a0==a2)then(some ((decide (a1<a3)),()))else
some (false,())
def qT:T0J->Option (T0J⊕((Int×Unit)⊕T0L)):=λ(v0,v1,v2,v3,_)=>
let x0:=cg v3.length;
bif(decide (v0<x0))then(let x1:Int:=(w64 (v0-1));
(ek x1).bind λx2=>
(cU v3 x2).bind λx3=>
(ek v0).bind λx4=>
(cU v3 x4).bind λx5=>
(ou x3.1 x3.2.1 x5.1 x5.2.1).bind λ(x6,_)=>
bif(!x6)then(some (.inr (.inl (5,()))))else
let x7:=w64 (v0+1);
some (.inl (x7,v1,v2,v3,())))else
some (.inr (.inr (v0,false,v1,v2,v3,())))
def gI(a0:Int)(a1:Int)(a2:List (Int×Int×LDCn×Int×Int×Int×Int×Int×Int×Int×LDCn)):Option (Int×Unit):=
((uA a0).bind λ(x0,_)=>
bif(!x0)then(some (true,a0,a1,a2,()))else
(uA a1).bind λ(x1,_)=>
bif(!x1)then(some (true,a0,a1,a2,()))else
some ((decide (a0>a1)),a0,a1,a2,()):Option (T0H)).bind λ(x0,x1,x2)=>
bif x0 then(some (6,()))else
(match ct qT NN (1,x1,x2)with
|none=>none
|some (.inl (x4,_))=>
some (x4,())
|some (.inr (x4,_))=>
some (0,()))
def rM:T0X->Option (T0X⊕T0Y):=λ(v0,v1,v2,v3,v4,v5,v6,v7,v8,v9,_)=>
let x0:=cg v6.length;
bif(decide (v0<x0))then((ek v0).bind λx1=>
(cU v6 x1).bind λx2=>
(cU v6 x1).bind λx3=>
(jr v1 v2 x3.1 x3.2).bind λ(x4,x5,x6,x7,x8,x9,ac,ae,af,ah,aj,ak,_)=>
let an:List (Int×Int×LDCn×Int×Int×Int×Int×Int×Int×Int×LDCn):=[(x4,(x5,(x6,(x7,(x8,(x9,(ac,(ae,(af,(ah,aj))))))))))];
bif(dh 120 v9.length an.length)then let ap:List (Int×Int×LDCn×Int×Int×Int×Int×Int×Int×Int×LDCn):=(List.append v9 an);
let aq:=w64 (v0+1);
some (.inl (aq,v1,v2,v3,v4,v5,v6,v7,v8,ap,()))else none)else
some (.inr (v0,false,v1,v2,v3,v4,v5,v6,v7,v8,v9,()))
def xi(a0:List LDCn)(a1:LDTs)(a2:List LDCn)(a3:LDTs)(a4:Int)(a5:Int):Option (T0I):=
(rN a0 a1 a2 a3).bind λ(x0,x1,_)=>
bif(x1 != 0)then(some (0,0,[],x1,()))else
(gI a4 a5 []).bind λ(x2,_)=>
bif(x2 != 0)then(some (0,0,[],6,()))else
(ct rM NN (0,a2,a3,0,0,(),x0,a4,a5,[],())).bind λ(x3,x4,x5,x6,x7,x8,x9,ac,ae,af,ah,_)=>
some (ae,af,ah,0,())
def xj(a0:Int)(a1:Int)(a2:Int)(a3:Int)(a4:Int)(a5:Int)(a6:Int)(a7:LDCn):Option (Bool×Unit):=
bif(a0==0)then(bif(a1==0)then(bif(a2==0)then(bif(a3==0)then(bif(a4==0)then(bif(a5==0)then(bif(a6==0)then(let x0:Int:=(cg a7.length);
some ((x0==0),()))else
some (false,()))else
some (false,()))else
some (false,()))else
some (false,()))else
some (false,()))else
some (false,()))else
some (false,())
def zg(a0:List LDCn)(a1:LDTs)(a2:Int)(a3:Int)(a4:LDCn)(a5:Int)(a6:Int)(a7:Int)(a8:Int)(a9:Int)(a10:Int)(a11:Int)(a12:LDCn):Option (LLCn×LDTs×Int×Unit):=
(jr a0 a1 a2 a3).bind λ(x0,x1,x2,x3,x4,x5,x6,x7,x8,x9,ac,ae,_)=>
bif(ae != 0)then(some ([],[],ae,()))else
(let af:=cg a4.length;
let ah:=cg x2.length;
bif(af != ah)then(some (true,a0,a1,a2,a3,a4,a5,a6,a7,a8,a9,a10,a11,a12,(),(),()))else
bif(a2 != (-1))then((xj a5 a6 a7 a8 a9 a10 a11 a12).bind λ(aj,_)=>
some ((!aj),a0,a1,a2,a3,a4,a5,a6,a7,a8,a9,a10,a11,a12,(),(),()))else
some (false,a0,a1,a2,a3,a4,a5,a6,a7,a8,a9,a10,a11,a12,(),(),()):Option (Bool×LLCn×LDTs×Int×Int×LDCn×Int×Int×Int×Int×Int×Int×Int×LDCn×T04)).bind λ(af,ah,aj,ak,an,ap,aq,au,av,aw,ax,ay,az,aA,aB,aD,_)=>
bif af then(some ([],[],5,()))else
(fH ah aj).bind λ(aE,aF,_)=>
bif(ak==(-1))then((em aq au av aw ax ay az aA).bind λ(aG,aH,aI,aJ,aK,aL,aM,aO,_)=>
(ek an).bind λaP=>
(cU aF aP).bind λaQ=>
(cU aF aP).bind λaR=>
let aS:=(List.modify aF aP λe=>(aG,(aH,(aI,(aJ,(aK,(aL,(aM,aO))))))));
some (aE,aS,0,()))else
((ek ak).bind λaG=>
(cU aE aG).bind λaH=>
(cU aE aG).bind λaI=>
let aJ:=w64 (an*8);
(cU aE aG).bind λaK=>
(ek aJ).bind λaL=>
bif(lJ aL aK.length aK.length)then(cU aE aG).bind λaM=>
(cU aE aG).bind λaO=>
bif(lJ aL (Nat.add aL (Nat.min ap.length (Nat.sub aK.length aL))) aO.length)then bif(Nat.blt 0 (Nat.min ap.length (Nat.sub aK.length aL)))then(let aP:List LDCn:=(List.modify aE aG λe=>(gO aO aL (Nat.min ap.length (Nat.sub aK.length aL)) ap));
let aQ:=(cg (Nat.min ap.length (Nat.sub aK.length aL)));
some (aB,aD,aP,aF,()))else
let aP:=(cg (Nat.min ap.length (Nat.sub aK.length aL)));
some (aB,aD,aE,aF,())else none else none:Option (T0f)).bind λ(aG,aH,aI,aJ,_)=>
some (aI,aJ,0,())
def qU:T0T->Option (T0T⊕((Int×T04)⊕(Int×Bool×T0R))):=λ(v0,v1,v2,v3,v4,v5,v6)=>
let x0:=cg v5.length;
bif(decide (v0<x0))then((ek v0).bind λx1=>
(cU v5 x1).bind λx2=>
(zg v1 v2 x2.1 x2.2.1 x2.2.2.1 x2.2.2.2.1 x2.2.2.2.2.1 x2.2.2.2.2.2.1 x2.2.2.2.2.2.2.1 x2.2.2.2.2.2.2.2.1 x2.2.2.2.2.2.2.2.2.1 x2.2.2.2.2.2.2.2.2.2.1 x2.2.2.2.2.2.2.2.2.2.2).bind λ(x3,x4,x5,_)=>
bif(x5 != 0)then(some (.inr (.inl (x5,(),(),()))))else
let x6:=w64 (v0+1);
some (.inl (x6,x3,x4,v3,v4,v5,v6)))else
some (.inr (.inr (v0,false,v1,v2,v3,v4,v5,v6)))
def vp(a0:List LDCn)(a1:LDTs)(a2:Int)(a3:Int)(a4:Int)(a5:List (Int×Int×LDCn×Int×Int×Int×Int×Int×Int×Int×LDCn)):Option (LLCn×LDTs×Int×Unit):=
(gI a3 a4 a5).bind λ(x0,_)=>
bif(x0 != 0)then(some ([],[],x0,()))else
bif(a2 != a3)then(some ([],[],35,()))else
(match ct qU NN (0,a0,a1,a3,a4,a5,(),(),())with
|none=>none
|some (.inl (x1,x2,x3,_))=>
some ([],[],x1,())
|some (.inr (x1,x2,x3,x4,_))=>
(fH x3 x4).bind λ(ac,ae,_)=>
some (ac,ae,0,()))
def ll:Ctr:=⟨16,59,[.agg [shU I64,shU I64,shU (Xj (.pair I64 (.pair I64 (.pair dm eA))))],.agg [shU I64,shU I64,shU (Xj (.pair I64 (.pair I64 (.pair dm eA))))]],[],[⟨[shU I64,shU I64,shU (Xj (.pair I64 (.pair I64 (.pair dm eA)))),shU I64],[.agg 3,.one],[]⟩],ap6 cn⟩
theorem oT:Lvl E0 TT libBj 1 ll:=(vL (IK rfl) qY).mono (by decide)
def tG:T12->Option (T12⊕((List (Int×Int×LDCn×Int×Int×Int×Int×Int×Int×Int×LDCn))×Int×Bool×T0C)):=λ(v0,v1,v2,v3,v4)=>
let x0:=cg v0.length;
bif(decide (v1<x0))then((ek v1).bind λx1=>
(cU v0 x1).bind λx2=>
(ou x2.1 x2.2.1 v2 v3).bind λ(x3,_)=>
bif x3 then(let x4:Int:=(w64 (v1+1));
some (.inl (v0,x4,v2,v3,v4)))else
some (.inr (v0,v1,false,v2,v3,v4)))else
some (.inr (v0,v1,false,v2,v3,v4))
def rL(a0:List (Int×Int×LDCn×Int×Int×Int×Int×Int×Int×Int×LDCn))(a1:Int)(a2:Int)(a3:LDCn)(a4:Int)(a5:Int)(a6:Int)(a7:Int)(a8:Int)(a9:Int)(a10:Int)(a11:LDCn):Option ((List (Int×Int×LDCn×Int×Int×Int×Int×Int×Int×Int×LDCn))×Unit):=
(ct tG NN (a0,0,a1,a2,a3,a4,a5,a6,a7,a8,a9,a10,a11,())).bind λ(x0,x1,x2,x3,x4,x5,x6,x7,x8,x9,ac,ae,af,ah,_)=>
(ek x1).bind λaj=>
bif(lJ 0 aj x0.length)then let ak:List (Int×Int×LDCn×Int×Int×Int×Int×Int×Int×Int×LDCn):=(IE x0 0 (Nat.sub aj 0));
bif(dh 120 0 ak.length)then let an:List (Int×Int×LDCn×Int×Int×Int×Int×Int×Int×Int×LDCn):=(List.append [] ak);
let ap:List (Int×Int×LDCn×Int×Int×Int×Int×Int×Int×Int×LDCn):=[(x3,(x4,(x5,(x6,(x7,(x8,(x9,(ac,(ae,(af,ah))))))))))];
bif(dh 120 an.length ap.length)then let aq:List (Int×Int×LDCn×Int×Int×Int×Int×Int×Int×Int×LDCn):=(List.append an ap);
(let au:=cg x0.length;
bif(decide (x1<au))then((ek x1).bind λav=>
(cU x0 av).bind λaw=>
bif((aw.1==x3)&&((aw.2.1==x4)&&true))then(let ax:Int:=(w64 (x1+1));
some (x0,ax,aq,()))else
some (x0,x1,aq,()))else
some (x0,x1,aq,()):Option ((List (Int×Int×LDCn×Int×Int×Int×Int×Int×Int×Int×LDCn))×T0E)).bind λ(au,av,aw,_)=>
(ek av).bind λax=>
bif(lJ ax au.length au.length)then let ay:List (Int×Int×LDCn×Int×Int×Int×Int×Int×Int×Int×LDCn):=(IE au ax (Nat.sub au.length ax));
bif(dh 120 aw.length ay.length)then let az:List (Int×Int×LDCn×Int×Int×Int×Int×Int×Int×Int×LDCn):=(List.append aw ay);
some (az,())else none else none else none else none else none
def qR:T1a->Option (T1a⊕(Int×Bool×T19)):=λ(v0,v1,v2,v3,v4,v5,v6,v7,v8,v9,v10,v11,v12,_)=>
let x0:=cg v3.length;
bif(decide (v0<x0))then((ek v0).bind λx1=>
(cU v3 x1).bind λx2=>
(rL v12 x2.1 x2.2.1 x2.2.2.1 x2.2.2.2.1 x2.2.2.2.2.1 x2.2.2.2.2.2.1 x2.2.2.2.2.2.2.1 x2.2.2.2.2.2.2.2.1 x2.2.2.2.2.2.2.2.2.1 x2.2.2.2.2.2.2.2.2.2.1 x2.2.2.2.2.2.2.2.2.2.2).bind λ(x3,_)=>
let x4:=w64 (v0+1);
some (.inl (x4,v1,v2,v3,v4,v5,v6,v7,v8,v9,v10,v11,x3,())))else
some (.inr (v0,false,v1,v2,v3,v4,v5,v6,v7,v8,v9,v10,v11,v12,()))
def qQ:T18->Option (T18⊕(Int×Bool×T16)):=λ(v0,v1,v2,v3,v4,v5,v6,v7,v8,v9,_)=>
let x0:=cg v3.length;
bif(decide (v0<x0))then((ek v0).bind λx1=>
(cU v3 x1).bind λx2=>
(rL v9 x2.1 x2.2.1 x2.2.2.1 x2.2.2.2.1 x2.2.2.2.2.1 x2.2.2.2.2.2.1 x2.2.2.2.2.2.2.1 x2.2.2.2.2.2.2.2.1 x2.2.2.2.2.2.2.2.2.1 x2.2.2.2.2.2.2.2.2.2.1 x2.2.2.2.2.2.2.2.2.2.2).bind λ(x3,_)=>
let x4:=w64 (v0+1);
some (.inl (x4,v1,v2,v3,v4,v5,v6,v7,v8,x3,())))else
some (.inr (v0,false,v1,v2,v3,v4,v5,v6,v7,v8,v9,()))
def vo(a0:Int)(a1:Int)(a2:List (Int×Int×LDCn×Int×Int×Int×Int×Int×Int×Int×LDCn))(a3:Int)(a4:Int)(a5:List (Int×Int×LDCn×Int×Int×Int×Int×Int×Int×Int×LDCn)):Option (T0I):=
(gI a0 a1 a2).bind λ(x0,_)=>
bif(x0 != 0)then(some (0,0,[],x0,()))else
(gI a3 a4 a5).bind λ(x1,_)=>
bif(x1 != 0)then(some (0,0,[],x1,()))else
bif(a1 != a3)then(some (0,0,[],35,()))else
(ct qR NN (0,a0,a1,a2,a3,a4,a5,0,0,(),a0,a4,[],())).bind λ(x2,x3,x4,x5,x6,x7)=>
(ct qQ NN (0,x7)).bind λ(an,ap,aq,au,av,aw,ax,ay,az,aA,aB,_)=>
some (az,aA,aB,0,())
def dM:T10->Option (T10⊕((Bool×Unit)⊕((List (Int×Int×LDCn×Int×Int×Int×Int×Int×Int×Int×LDCn))×(List (Int×Int×LDCn×Int×Int×Int×Int×Int×Int×Int×LDCn))×T00))):=λ(v0,v1,v2,_)=>
let x0:=cg v0.length;
bif(decide (v2<x0))then((ek v2).bind λx1=>
(cU v0 x1).bind λx2=>
(ek v2).bind λx3=>
(cU v1 x3).bind λx4=>
(gJ x2.1 x2.2.1 x2.2.2.1 x2.2.2.2.1 x2.2.2.2.2.1 x2.2.2.2.2.2.1 x2.2.2.2.2.2.2.1 x2.2.2.2.2.2.2.2.1 x2.2.2.2.2.2.2.2.2.1 x2.2.2.2.2.2.2.2.2.2.1 x2.2.2.2.2.2.2.2.2.2.2 x4.1 x4.2.1 x4.2.2.1 x4.2.2.2.1 x4.2.2.2.2.1 x4.2.2.2.2.2.1 x4.2.2.2.2.2.2.1 x4.2.2.2.2.2.2.2.1 x4.2.2.2.2.2.2.2.2.1 x4.2.2.2.2.2.2.2.2.2.1 x4.2.2.2.2.2.2.2.2.2.2).bind λ(x5,_)=>
bif(!x5)then(some (.inr (.inl (false,()))))else
let x6:=w64 (v2+1);
some (.inl (v0,v1,x6,())))else
some (.inr (.inr (v0,v1,v2,false,())))
def fO(a0:List (Int×Int×LDCn×Int×Int×Int×Int×Int×Int×Int×LDCn))(a1:List (Int×Int×LDCn×Int×Int×Int×Int×Int×Int×Int×LDCn)):Option (Bool×Unit):=
let x0:=cg a0.length;
let x1:=cg a1.length;
bif(x0 != x1)then(some (false,()))else
(match ct dM NN (a0,a1,0,())with
|none=>none
|some (.inl (x2,_))=>
some (x2,())
|some (.inr (x2,_))=>
some (true,()))
def qb:X.Cfg:=⟨E0,[pu],[],[⟨6,0,qS [(0,shU (Xj (.pair I64 (.pair I64 (.pair dm eA))))),(1,shU (Xj (.pair I64 (.pair I64 (.pair dm eA))))),yaa 5] [],[(.ret,qS [zaa 4] []),(.exit 0,qS [(0,shU (Xj (.pair I64 (.pair I64 (.pair dm eA))))),(1,shU (Xj (.pair I64 (.pair I64 (.pair dm eA))))),yaa 5,zaa 14] [])]⟩]⟩
def kT:Ctr:=⟨39,62,[shU (Xj (.pair I64 (.pair I64 (.pair dm eA)))),shU (Xj (.pair I64 (.pair I64 (.pair dm eA))))],[],[⟨uab,[.one],[]⟩],ap2 fO⟩
theorem p9:Lvl E0 TT libBj 4 kT:=ca (n:=3) (C:=qb) rfl (.intro (vQ.mono (by decide)) (.intro)) (cf (by kernel_rfl)) (λh=>by kernel_rfl)
def iK(a0:Int)(a1:Int)(a2:List (Int×Int×LDCn×Int×Int×Int×Int×Int×Int×Int×LDCn))(a3:Int)(a4:Int)(a5:List (Int×Int×LDCn×Int×Int×Int×Int×Int×Int×Int×LDCn)):Option (Bool×Unit):=
bif(a0==a3)then(bif(a1==a4)then((fO a2 a5).bind λ(x0,_)=>
some (x0,()))else
some (false,()))else
some (false,())
def ye:X.Cfg:=⟨E0,[kT],[],[]⟩
def qH:Ctr:=⟨19,63,[.agg [shU I64,shU I64,shU (Xj (.pair I64 (.pair I64 (.pair dm eA))))],.agg [shU I64,shU I64,shU (Xj (.pair I64 (.pair I64 (.pair dm eA))))]],[],[⟨uab,[.one],[]⟩],ap6 iK⟩
theorem xR:Lvl E0 TT libBj 5 qH:=ca (n:=4) (C:=ye) rfl (.intro (p9.mono (by decide)) (.intro)) (cf (by kernel_rfl)) (λh=>by kernel_rfl)
def Gu(a0:List LDCn)(a1:LDTs)(a2:List LDCn)(a3:LDTs)(a4:Int)(a5:Int)(a6:Int)(a7:Int)(a8:Int)(a9:List (Int×Int×LDCn×Int×Int×Int×Int×Int×Int×Int×LDCn))(a10:Int)(a11:Int)(a12:List (Int×Int×LDCn×Int×Int×Int×Int×Int×Int×Int×LDCn)):Option (Bool×Unit):=
(d9 a0 a1 a2 a3 a4 a5).bind λ(x0,x1,x2,x3,_)=>
(xi a0 a1 a2 a3 a4 a5).bind λ(x4,x5,x6,x7,_)=>
(dP a0 a1 a6 a7 a8 a9).bind λ(x8,x9,ac,_)=>
(vp a0 a1 a6 a7 a8 a9).bind λ(ae,af,ah,_)=>
(cn a7 a8 a9 a10 a11 a12).bind λ(aj,ak,an,ap,_)=>
(vo a7 a8 a9 a10 a11 a12).bind λ(aq,au,av,aw,_)=>
bif(x3==x7)then(bif(ac==ah)then(bif(ap==aw)then((iK x0 x1 x2 x4 x5 x6).bind λ(ax,_)=>
bif ax then((eP x8 x9 ae af).bind λ(ay,_)=>
bif ay then((iK aj ak an aq au av).bind λ(az,_)=>
bif az then((fR a7 a8 a9).bind λ(aA,_)=>
(gI a7 a8 a9).bind λ(aB,_)=>
some ((aA==aB),()))else
some (false,()))else
some (false,()))else
some (false,()))else
some (false,()))else
some (false,()))else
some (false,())
def ov(a0:List (Int)):Option (Bool×Unit):=
let x0:=cg a0.length;
some ((decide (x0<=400)),())
def HP:X.Cfg:=⟨E0,[],[],[]⟩
def wO:Ctr:=⟨10,66,uL [RI],[],[⟨uab,[.one],[]⟩],ap1 ov⟩
theorem BF:Lvl E0 TT libBj 1 wO:=ca (n:=0) (C:=HP) rfl (.intro) (cf (by kernel_rfl)) (λh=>by kernel_rfl)
def nT(a0:Int)(a1:Int):Option (Int×Unit):=
bif(a1 != 0)then let x0:Int:=(Int.tmod a0 a1);
(bif(decide (x0<0))then(let x1:Int:=(w64 (x0+a1));
some (x1,()))else
some (x0,()):Option (Int×Unit)).bind λ(x1,_)=>
some (x1,())else none
def zZ:X.Cfg:=⟨E0,[],[],[⟨2,0,qE,[(.normal,qS [yaa 5] [])]⟩]⟩
def s9:Ctr:=⟨48,67,Xab,[],[⟨zab,[.one],[]⟩],ap2 nT⟩
theorem zP:Lvl E0 TT libBj 1 s9:=ca (n:=0) (C:=zZ) rfl (.intro) (cf (by kernel_rfl)) (λh=>by kernel_rfl)
def rk(a0:Int)(a1:Int):Option (Int×Unit):=
(nT a0 a1).bind λ(x0,_)=>
some (x0,())
def HI:X.Cfg:=⟨E0,[s9],[],[]⟩
def B6:Ctr:=⟨28,68,Xab,[],[⟨zab,[.one],[]⟩],ap2 rk⟩
theorem Ht:Lvl E0 TT libBj 2 B6:=ca (n:=1) (C:=HI) rfl (.intro (zP.mono (by decide)) (.intro)) (cf (by kernel_rfl)) (λh=>by kernel_rfl)
def cr(a0:Int)(a1:List (Int))(a2:Int):Option (Int×T02):=
let x0:=cg a1.length;
bif(decide (a2>=x0))then(some (0,a1,a2,()))else
let x1:=w64 (a2+1);
let x2:=w64 (x1-1);
(ek x2).bind λx3=>
(cU a1 x3).bind λx4=>
(rk x4 a0).bind λ(x5,_)=>
some (x5,a1,x1,())
def Ac:X.Cfg:=⟨E0,[B6],[],[]⟩
def gx:Ctr:=⟨14,69,[.ptr ⟨2,0,[]⟩ [0],shU I64],[(2,Zaa)],[⟨zab,[.one],[(2,Zaa)]⟩],ap3 cr⟩
theorem iz:Lvl E0 TT libBj 3 gx:=ca (n:=2) (C:=Ac) rfl (.intro (Ht.mono (by decide)) (.intro)) (cf (by kernel_rfl)) (λh=>by kernel_rfl)
def fE(a0:List (Int))(a1:Int):Option (Int×Int×Int×Int×T02):=
(cr 5 a0 a1).bind λ(x0,x1,x2,_)=>
bif(x0==4)then((cr 3 x1 x2).bind λ(x3,x4,x5,_)=>
(cr 8 x4 x5).bind λ(x6,x7)=>
some (1,0,x3,x6,x7))else
(cr 40 x1 x2).bind λ(x3,x4,x5,_)=>
let x6:=wk .u16 x3;
some (0,x6,0,0,x4,x5,())
def xZ:X.Cfg:=⟨E0,[gx],[],[]⟩
def j8:Ctr:=⟨26,70,[.ptr ⟨2,0,[]⟩ [0]],[(2,Zaa)],[⟨uL [CB,CW,I64,I64],[.agg 4],[(2,Zaa)]⟩],ap2 fE⟩
theorem me:Lvl E0 TT libBj 4 j8:=ca (n:=3) (C:=xZ) rfl (.intro (iz.mono (by decide)) (.intro)) (cf (by kernel_rfl)) (λh=>by kernel_rfl)
def eG:T0V->Option (T0V⊕(Int×Bool×T0U)):=λ(v0,v1,v2,v3,v4,v5,v6,v7,v8,v9,v10,v11,v12,v13,v14,v15,v16,v17,v18,_)=>
bif(decide (v0<8))then((fE v1 v2).bind λ(x0,x1,x2,x3,x4,x5,_)=>
let x6:LDCn:=[(x0,(x1,(x2,x3)))];
bif(dh 24 v18.length x6.length)then let x7:LDCn:=(List.append v18 x6);
let x8:=w64 (v0+1);
some (.inl (x8,x4,x5,v3,v4,v5,v6,v7,v8,v9,v10,v11,v12,v13,v14,v15,v16,v17,x7,()))else none)else
some (.inr (v0,false,v1,v2,v3,v4,v5,v6,v7,v8,v9,v10,v11,v12,v13,v14,v15,v16,v17,v18,()))
def iJ(a0:List (Int))(a1:Int):Option (Int×Int×Int×Int×Int×Int×Int×LDCn×T02):=
(cr 5 a0 a1).bind λ(x0,x1,x2,_)=>
(cr 20 x1 x2).bind λ(x3,x4,x5,_)=>
(cr 30 x4 x5).bind λ(x6,x7,x8,_)=>
(cr 4 x7 x8).bind λ(x9,ac,ae,_)=>
let af:=w64 (x9-1);
(cr 4 ac ae).bind λ(ah,aj,ak,_)=>
let an:=w64 (ah-1);
(cr 7 aj ak).bind λ(ap,aq,au,_)=>
(cr 9 aq au).bind λ(av,aw,ax,_)=>
let ay:=wk .u16 av;
(ct eG NN (0,aw,ax,0,0,0,0,0,0,0,(),x0,x3,x6,af,an,ap,ay,[],())).bind λ(az,aA,aB,aD,aE,aF,aG,aH,aI,aJ,aK,aL,aM,aO,aP,aQ,aR,aS,aT,aU,_)=>
some (aM,aO,aP,aQ,aR,aS,aT,aU,aB,aD,())
def yc:X.Cfg:=⟨E0,[gx,j8],[],[(lx 4 0 [uaa 0,uaa 2,uaa 3,yaa 4] [(2,Zaa),(6,uL [I64,I64,I64,I64,I64,I64,CW,N1]),(8,zac)] 24)]⟩
def ms:Ctr:=⟨27,71,[.ptr ⟨2,0,[]⟩ [0]],[(2,Zaa)],[⟨zac,[.agg 8],[(2,Zaa)]⟩],ap2 iJ⟩
theorem qv:Lvl E0 TT libBj 5 ms:=ca (n:=4) (C:=yc) rfl (.intro (iz.mono (by decide)) (.intro (me.mono (by decide)) (.intro))) (cf (by kernel_rfl)) (λh=>by kernel_rfl)
def gt:T0B->Option (T0B⊕(Int×Int×Bool×T0v)):=λ(v0,v1,v2,v3,v4,v5,v6,v7,v8,_)=>
bif(decide (v1>=0))then((fE v2 v3).bind λ(x0,x1,x2,x3,x4,x5,_)=>
let x6:LDCn:=[(x0,(x1,(x2,x3)))];
bif(dh 24 v8.length x6.length)then let x7:LDCn:=(List.append v8 x6);
let x8:=w64 (v1-1);
some (.inl (v0,x8,x4,x5,v4,v5,v6,v7,x7,()))else none)else
some (.inr (v0,v1,false,v2,v3,v4,v5,v6,v7,v8,()))
def gr:T0s->Option (T0s⊕(Int×Bool×T0n)):=λ(v0,v1,v2,v3,v4,v5,v6,_)=>
bif(decide (v0>=0))then((cr 24 v1 v2).bind λ(x0,x1,x2,_)=>
(ct gt NN (v0,x0,x1,x2,v3,v4,v5,v6,[],())).bind λ(x3,x4,x5,x6,x7,x8,x9,ac,ae,af,_)=>
bif(dh 24 ac.length (List.length [af]))then let ah:List LDCn:=(List.append ac [af]);
let aj:=w64 (x3-1);
some (.inl (aj,x6,x7,x8,x9,ah,ae,()))else none)else
some (.inr (v0,false,v1,v2,v3,v4,v5,v6,()))
def gq:T0r->Option (T0r⊕T0w):=λ(v0,v1,v2,v3,v4,v5,v6,_)=>
bif(decide (v0>0))then((iJ v1 v2).bind λ(x0,x1,x2,x3,x4,x5,x6,x7,x8,x9,_)=>
let ac:LDTs:=[(x0,(x1,(x2,(x3,(x4,(x5,(x6,x7)))))))];
bif(dh 80 v6.length ac.length)then let ae:LDTs:=(List.append v6 ac);
let af:=w64 (v0-1);
some (.inl (af,x8,x9,v3,v4,v5,ae,()))else none)else
some (.inr (v0,false,v1,v2,v3,v4,v5,v6,()))
def gH(a0:List (Int))(a1:Int):Option (LLCn×LDTs×T02):=
(cr 3 a0 a1).bind λ(x0,x1,x2,_)=>
(ct gr NN (x0,x1,x2,(),(),[],(),())).bind λ(x3,x4,x5,x6,x7,x8,x9,ac,_)=>
(cr 4 x5 x6).bind λ(ae,af,ah,_)=>
(ct gq NN (ae,af,ah,x7,x8,x9,[],())).bind λ(aj,ak,an,ap,aq,au,av,aw,_)=>
some (av,aw,an,ap,())
def we:X.Cfg:=⟨E0,[gx,j8,ms],[(28,(Xi KCn)),(29,(Xi KCn)),(41,qO),(42,qO)],[⟨11,0,qS [uaa 0,uaa 2,uaa 3,yaa 4,Uaa 5 13,yaa 6] [(2,Zaa),(6,yab),(8,Uac),(13,Zac)],[(.exit 2,qS [uaa 0,uaa 2,uaa 3,yaa 4,Uaa 5 13,yaa 6,zaa 17] [(2,Zaa),(6,yab),(8,Uac),(13,Zac)])]⟩,(lx 4 1 [uaa 0,uaa 2,uaa 3,yaa 4] [(2,Zaa),(6,yab),(8,Uac)] 11),⟨17,2,qS [uaa 0,uaa 2,uaa 3,yaa 7] [(2,Zaa),(6,yab),(8,Uab)],[(.exit 4,qS [uaa 0,uaa 2,uaa 3,yaa 7,zaa 34] [(2,Zaa),(6,yab),(8,Uab)])]⟩]⟩
def lh:Ctr:=⟨12,72,[.ptr ⟨2,0,[]⟩ [0]],[(2,Zaa)],[⟨Uab,[.agg 2],[(2,Zaa)]⟩],ap2 gH⟩
theorem oN:Lvl E0 TT libBj 6 lh:=ca (n:=5) (C:=we) rfl (.intro (iz.mono (by decide)) (.intro (me.mono (by decide)) (.intro (qv.mono (by decide)) (.intro)))) (cf (by kernel_rfl)) (λh=>by kernel_rfl)
def jq:T0z->Option (T0z⊕T0A):=λ(v0,v1,v2,v3,v4,v5,v6,v7,_)=>
bif(decide (v1<v0))then(((match(let x0:Int:=(cg v7.length);
bif(decide (x0>0))then((cr 3 v2 v3).bind λ(x1,x2,x3,_)=>
bif(x1==2)then(let x4:Int:=(cg v7.length);
(cr x4 x2 x3).bind λ(x5,x6,x7,_)=>
(iJ x6 x7).bind λ(x8,x9,ac,ae,af,ah,aj,ak,an,ap,_)=>
(ek x5).bind λaq=>
(cU v7 aq).bind λau=>
(cU v7 aq).bind λav=>
let aw:=(List.modify v7 aq λe=>(x8,(x9,(ac,(ae,(af,(ah,(aj,ak))))))));
some (.inl (v0,v1,an,ap,v4,v5,v6,aw,())))else
some (.inr (v0,v1,false,x2,x3,v4,v5,v6,v7,())))else
some (.inr (v0,v1,false,v2,v3,v4,v5,v6,v7,())):Option (T0z⊕T0A))with
|none=>none
|some (.inl (x0,x1,x2,x3,x4,x5,x6,x7,_))=>
some (x0,x1,x2,x3,x4,x5,x6,x7,())
|some (.inr (x0,x1,x2,x3,x4,x5,x6,x7,x8,_))=>
let x9:=cg x7.length;
(cr x9 x3 x4).bind λ(ac,ae,af,_)=>
(ek ac).bind λah=>
(cU x7 ah).bind λaj=>
(cU x7 ah).bind λak=>
(ek ac).bind λan=>
(cU x7 an).bind λap=>
(cU x7 an).bind λaq=>
(cU x7 an).bind λau=>
let av:=cg au.length;
(cr av ae af).bind λ(aw,ax,ay,_)=>
(fE ax ay).bind λ(az,aA,aB,aD,aE,aF,_)=>
(ek aw).bind λaG=>
(cU x7 ah).bind λaH=>
(cU aH aG).bind λaI=>
(cU x7 ah).bind λaJ=>
(cU aJ aG).bind λaK=>
let aL:=(List.modify x7 ah λe=>(List.modify e aG λe=>(az,(aA,(aB,aD)))));
some (x0,x1,aE,aF,x5,x6,aL,x8,())):Option (T0z)).bind λ(x0,x1,x2,x3,x4,x5,x6,x7,_)=>
let x8:=w64 (x1+1);
some (.inl (x0,x8,x2,x3,x4,x5,x6,x7,())))else
some (.inr (v0,v1,false,v2,v3,v4,v5,v6,v7,()))
def gy(a0:List LDCn)(a1:LDTs)(a2:Int)(a3:List (Int))(a4:Int):Option (LLCn×LDTs×T02):=
(fH a0 a1).bind λ(x0,x1,_)=>
(ct jq NN (a2,0,a3,a4,(),(),x0,x1,())).bind λ(x2,x3,x4,x5,x6,x7,x8,x9,ac,_)=>
some (x9,ac,x5,x6,())
def yd:X.Cfg:=⟨E0,[mw,gx,ms,j8],[],[⟨8,0,qE,[(.exit 1,qS [uaa 0,yaa 2,uaa 6,uaa 7,yaa 8] [(2,Zaa),(14,yab),(16,Uab)]),(.normal,qS [uaa 0,yaa 2,uaa 6,uaa 7,yaa 8,zaa 25] [(2,Zaa),(14,yab),(16,Uab)])]⟩,⟨7,1,qE,[(.normal,qS [uaa 0,yaa 2,uaa 6,uaa 7,yaa 8] [(2,Zaa),(14,yab),(16,Uab)])]⟩,(lx 4 2 [uaa 0,yaa 2,uaa 6,uaa 7,yaa 8] [(2,Zaa),(14,yab),(16,Uab)] 14)]⟩
def mt:Ctr:=⟨13,73,[.ptr ⟨2,0,[]⟩ [0],.agg Xaa,shU I64],[(2,Zaa)],[⟨Uab,[.agg 2],[(2,Zaa)]⟩],ap5 gy⟩
theorem qw:Lvl E0 TT libBj 6 mt:=ca (n:=5) (C:=yd) rfl (.intro (qy.mono (by decide)) (.intro (iz.mono (by decide)) (.intro (qv.mono (by decide)) (.intro (me.mono (by decide)) (.intro))))) (cf (by kernel_rfl)) (λh=>by kernel_rfl)
def fW(a0:List (Int))(a1:Int)(a2:Int)(a3:Int):Option (Bool×Unit):=
(ov a0).bind λ(x0,_)=>
bif(!x0)then((fQ).bind λ(x1,_)=>
some (x1,()))else
(gH a0 0).bind λ(x1,x2,x3,x4,_)=>
(cr 5 x3 x4).bind λ(x5,x6,x7,_)=>
(gy x1 x2 x5 x6 x7).bind λ(x8,x9,ac,ae,_)=>
(cr 5 ac ae).bind λ(af,ah,aj,_)=>
(gy x8 x9 af ah aj).bind λ(ak,an,_)=>
let au:=wk .i64 a1;
let av:=Int.tmod au 60;
let aw:=wk .i64 a2;
let ax:=Int.tmod aw 60;
let ay:=w64 (av+ax);
let az:=wk .i64 a3;
let aA:=Int.tmod az 60;
let aB:=w64 (ay+aA);
(d9 x1 x2 x8 x9 av ay).bind λ(aD,aE,aF,aG,_)=>
(d9 x8 x9 ak an ay aB).bind λ(aH,aI,aJ,aK,_)=>
(cn aD aE aF aH aI aJ).bind λ(aL,aM,aO,aP,_)=>
(d9 ak an ak an av aB).bind λ(aQ,aR,aS,aT,_)=>
(dP x1 x2 av aD aE aF).bind λ(aU,aV,aW,_)=>
(dP aU aV ay aH aI aJ).bind λ(aY,aZ,ba,_)=>
(dP x1 x2 av aL aM aO).bind λ(bc,bd,be,_)=>
(bif(aG != 0)then(some (av,aB,true,x8,x9,ak,an,aD,aE,aF,aH,aI,aJ,aL,aM,aO,aQ,aR,aS,aU,aV,aY,aZ,bc,bd,()))else
bif(aK != 0)then(some (av,aB,true,x8,x9,ak,an,aD,aE,aF,aH,aI,aJ,aL,aM,aO,aQ,aR,aS,aU,aV,aY,aZ,bc,bd,()))else
bif(aP != 0)then(some (av,aB,true,x8,x9,ak,an,aD,aE,aF,aH,aI,aJ,aL,aM,aO,aQ,aR,aS,aU,aV,aY,aZ,bc,bd,()))else
bif(aT != 0)then(some (av,aB,true,x8,x9,ak,an,aD,aE,aF,aH,aI,aJ,aL,aM,aO,aQ,aR,aS,aU,aV,aY,aZ,bc,bd,()))else
bif(aW != 0)then(some (av,aB,true,x8,x9,ak,an,aD,aE,aF,aH,aI,aJ,aL,aM,aO,aQ,aR,aS,aU,aV,aY,aZ,bc,bd,()))else
bif(ba != 0)then(some (av,aB,true,x8,x9,ak,an,aD,aE,aF,aH,aI,aJ,aL,aM,aO,aQ,aR,aS,aU,aV,aY,aZ,bc,bd,()))else
some (av,aB,(be != 0),x8,x9,ak,an,aD,aE,aF,aH,aI,aJ,aL,aM,aO,aQ,aR,aS,aU,aV,aY,aZ,bc,bd,()):Option (Int×Int×Bool×LLCn×LDTs×LLCn×LDTs×Int×Int×(List (Int×Int×LDCn×Int×Int×Int×Int×Int×Int×Int×LDCn))×Int×Int×(List (Int×Int×LDCn×Int×Int×Int×Int×Int×Int×Int×LDCn))×Int×Int×(List (Int×Int×LDCn×Int×Int×Int×Int×Int×Int×Int×LDCn))×Int×Int×(List (Int×Int×LDCn×Int×Int×Int×Int×Int×Int×Int×LDCn))×LLCn×LDTs×T0d)).bind λ(bf,bg,bh,bi,bj,bk,bl,bm,bn,bo,bp,bq,bt,bu,bv,bw,bx,bz,bA,bB,bC,bD,bE,bF,bG,_)=>
bif bh then(some (false,()))else
(eP bB bC bi bj).bind λ(bH,_)=>
bif bH then((eP bD bE bk bl).bind λ(bI,_)=>
bif bI then((eP bF bG bk bl).bind λ(bJ,_)=>
bif bJ then(let bL:Int:=(cg bA.length);
bif(bL==0)then(let bM:Int:=(cg bw.length);
let bN:=cg bo.length;
let bO:=cg bt.length;
let bP:=w64 (bN+bO);
bif(decide (bM<=bP))then(bif(bu==bf)then(bif(bv==bg)then((fQ).bind λ(bQ,_)=>
some (bQ,()))else
some (false,()))else
some (false,()))else
some (false,()))else
some (false,()))else
some (false,()))else
some (false,()))else
some (false,())
def nn:X.Cfg:=⟨E0,[wO,lk,lh,gx,mt,ke,ll,lm,mu],[],[⟨19,0,qE,[(.normal,(qS [uaa 11,uaa 12,yaa 13,yaa 15,uaa 16,uaa 18,uaa 20,uaa 22,uaa 24,uaa 26,uaa 28,zaa 137] [(24,Xaa),(26,Xaa),(34,[shU I64,shU I64,shU (Xj (.pair I64 (.pair I64 (.pair dm eA))))]),(38,[shU I64,shU I64,shU (Xj (.pair I64 (.pair I64 (.pair dm eA))))]),(42,[shU I64,shU I64,shU (Xj (.pair I64 (.pair I64 (.pair dm eA))))]),(46,[shU I64,shU I64,shU (Xi (.pair I64 (.pair I64 (.pair dm eA))))]),(50,Xaa),(54,Xaa),(58,Xaa)]))]⟩]⟩
def i6:Ctr:=⟨4,74,uL [RI,CB,CB,CB],[],[⟨uab,[.one],[]⟩],ap4 fW⟩
theorem k_law29_DeltaFollows:Lvl E0 TT libBj 10 i6:=ca (n:=9) (C:=nn) rfl (.intro (BF.mono (by decide)) (.intro (oS.mono (by decide)) (.intro (oN.mono (by decide)) (.intro (iz.mono (by decide)) (.intro (qw.mono (by decide)) (.intro (mg.mono (by decide)) (.intro (oT.mono (by decide)) (.intro (oU.mono (by decide)) (.intro (qx.mono (by decide)) (.intro)))))))))) (cf (by kernel_rfl)) (λh=>by kernel_rfl)
def d4:T0S->Option (T0S⊕((Bool×Unit)⊕(Int×Bool×T0P))):=λ(v0,v1,v2,v3,v4,_)=>
bif(decide (v0<4))then((ek v0).bind λx0=>
(cU v1 x0).bind λx1=>
(cU v1 x0).bind λx2=>
(cr 4 v3 v4).bind λ(x3,x4,x5,_)=>
(gy x2.1 x2.2 x3 x4 x5).bind λ(x6,x7,x8)=>
let ac:List (LLCn×LDTs):=[(x6,x7)];
bif(dh 48 v1.length ac.length)then let ae:List (LLCn×LDTs):=(List.append v1 ac);
(ek v0).bind λaf=>
(cU ae af).bind λah=>
(cU ae af).bind λaj=>
let ak:=w64 (v0+1);
(ek ak).bind λan=>
(cU ae an).bind λap=>
(cU ae an).bind λaq=>
let au:=w64 (v0+1);
(d9 aj.1 aj.2 aq.1 aq.2 v0 au).bind λ(av,aw,ax,ay,_)=>
bif(ay != 0)then(some (.inr (.inl (false,()))))else
let az:List (Int×Int×List (Int×Int×LDCn×Int×Int×Int×Int×Int×Int×Int×LDCn)):=[(av,(aw,ax))];
bif(dh 40 v2.length az.length)then let aA:List (Int×Int×List (Int×Int×LDCn×Int×Int×Int×Int×Int×Int×Int×LDCn)):=(List.append v2 az);
let aB:=w64 (v0+1);
some (.inl (aB,ae,aA,x8))else none else none)else
some (.inr (.inr (v0,false,v1,v2,v3,v4,())))
def gv(a0:List (Int)):Option (Bool×Unit):=
(ov a0).bind λ(x0,_)=>
bif(!x0)then((fQ).bind λ(x1,_)=>
some (x1,()))else
(gH a0 0).bind λ(x1,x2,x3)=>
let x5:List (LLCn×LDTs):=[(x1,x2)];
(match ct d4 NN (0,x5,[],x3)with
|none=>none
|some (.inl (x6,_))=>
some (x6,())
|some (.inr (x6,x7,x8,x9,_))=>
(cU x9 0).bind λaf=>
(cU x9 0).bind λah=>
(cU x9 1).bind λaj=>
(cU x9 1).bind λak=>
(cn ah.1 ah.2.1 ah.2.2 ak.1 ak.2.1 ak.2.2).bind λ(an,ap,aq,au,_)=>
(cU x9 2).bind λav=>
(cU x9 2).bind λaw=>
(cU x9 3).bind λax=>
(cU x9 3).bind λay=>
(cn aw.1 aw.2.1 aw.2.2 ay.1 ay.2.1 ay.2.2).bind λ(az,aA,aB,aD,_)=>
(cn an ap aq az aA aB).bind λ(aE,aF,aG,aH,_)=>
(cU x9 1).bind λaI=>
(cU x9 1).bind λaJ=>
(cU x9 2).bind λaK=>
(cU x9 2).bind λaL=>
(cn aJ.1 aJ.2.1 aJ.2.2 aL.1 aL.2.1 aL.2.2).bind λ(aM,aO,aP,aQ,_)=>
(cU x9 0).bind λaR=>
(cU x9 0).bind λaS=>
(cn aS.1 aS.2.1 aS.2.2 aM aO aP).bind λ(aT,aU,aV,aW,_)=>
(cU x9 3).bind λaY=>
(cU x9 3).bind λaZ=>
(cn aT aU aV aZ.1 aZ.2.1 aZ.2.2).bind λ(ba,bc,bd,be,_)=>
bif(aH==0)then(bif(be==0)then((iK aE aF aG ba bc bd).bind λ(bf,_)=>
bif bf then((fQ).bind λ(bg,_)=>
some (bg,()))else
some (false,()))else
some (false,()))else
some (false,()))
def n8:X.Cfg:=⟨E0,[wO,lk,lh,gx,mt,ke,ll,qH],[(27,(.pair (Xi (Xi KCn)) (Xi qO))),(41,(.pair (Xi (Xi KCn)) (Xi qO))),(42,(.pair (Xi (Xi KCn)) (Xi qO))),(63,(.pair I64 (.pair I64 (Xi (.pair I64 (.pair I64 (.pair (Xi KCn) qO))))))),(64,(.pair I64 (.pair I64 (Xi (.pair I64 (.pair I64 (.pair (Xi KCn) qO)))))))],[⟨9,0,(qS [pP 3 50,Uaa 4 11,Uaa 5 13,yaa 6] [(11,Uad),(13,[shU (Xi (.pair I64 (.pair I64 (Xj (.pair I64 (.pair I64 (.pair dm eA)))))))]),(50,Zaa)]),[(.ret,qS [zaa 2] []),(.exit 0,(qS [pP 3 50,Uaa 4 11,Uaa 5 13,yaa 6,zaa 29] [(11,Uad),(13,[shU (Xi (.pair I64 (.pair I64 (Xj (.pair I64 (.pair I64 (.pair dm eA)))))))]),(50,Zaa)]))]⟩]⟩
def jH:Ctr:=⟨5,75,uL [RI],[],[⟨uab,[.one],[]⟩],ap1 gv⟩
theorem k_law29_DeltaChains:Lvl E0 TT libBj 10 jH:=ca (n:=9) (C:=n8) rfl (.intro (BF.mono (by decide)) (.intro (oS.mono (by decide)) (.intro (oN.mono (by decide)) (.intro (iz.mono (by decide)) (.intro (qw.mono (by decide)) (.intro (mg.mono (by decide)) (.intro (oT.mono (by decide)) (.intro (xR.mono (by decide)) (.intro))))))))) (cf (by kernel_rfl)) (λh=>by kernel_rfl)
end
end Go.Proofs.Ytbdhpgelkfncpaa
namespace Go.Proofs.Ytbdhpgelkfncpaa
set_option maxRecDepth 100000
noncomputable section
end
end Go.Proofs.Ytbdhpgelkfncpaa
namespace Go.Proofs.Ytbdhpgelkfncpaa
open Go.RowKit
theorem Mb:(Try.prog.funcs.all λfn=>!(fn.name=="runtime.NumGoroutine"))=true:=by kernel_rfl
theorem CX:io Try.prog 11:=by
 obtain⟨fn,hf,hb⟩:∃fn,Try.prog.funcs[11]?=some fn/\fn.body.isSome=true:=by
  have hs:(match Try.prog.funcs[11]? with|some fn=>fn.body.isSome|none=>false)=true:=by kernel_rfl
  cases h:Try.prog.funcs[11]? with
  |none=>rw[h]at hs;cases hs
  |some fn=>rw[h]at hs;exact⟨fn,rfl,hs⟩
 obtain⟨c,hc⟩:=Option.isSome_iff_exists.1 hb;refine jE hf ?_ hc;obtain⟨hlt,he⟩:=Array.getElem?_eq_some_iff.1 hf;have:=Array.all_eq_true.1 Mb 11 hlt;rw[he]at this;simpa using this
def KF(x:Value)(w:World)(e:Ending)(w':World):Prop:=e=.returned (.pointer (some ⟨w.heap.size,0,none⟩))/\w'=w.alloc (.cells #[x,.int .i64 0] 64)
theorem J4(x:Value)(hx:x.oneCell'=true)(w:World):
 Calls Try.prog 11 #[x] w (KF x w):=by
 cases x
 all_goals first
  |(go_enter Try.func11,Try.ntmps11
    go_wp2
    go_ret
    exact⟨rfl,rfl⟩)
  |simp[Value.oneCell']at hx
theorem e0_ok:DH Try.prog E0:=by
 intro f n tm h;simp only[E0]at h;split at h
 ·rename_i e;subst e
  injection h with h
  injection h with h1 h2
  subst h1 h2;refine⟨CX,λx hx=>?_,64,λl2 w hl Zs=>?_⟩
  ·simp only[List.mem_cons,List.not_mem_nil,or_false]at hx;rcases hx with hx|hx
   ·injection hx
   ·injection hx with hx;rw[hx];rfl
  ·match l2,hl with
   | [x],_=>exact J4 x (Zs x (by simp[bxV])) w
 ·simp at h
def Ok{α:Type}(o:Option α)(Q:α->Prop):Prop:=∃a,o=some a/\Q a
section
variable {α β:Type}
theorem Ok.ret{a:α}{Q:α->Prop}(h:Q a):Ok (some a) Q:=⟨a,rfl,h⟩
theorem Ok.bind{o:Option α}{f:α->Option β}{P:α->Prop}{Q:β->Prop}(h:Ok o P)(h2:∀a,P a->Ok (f a) Q):Ok (o.bind f) Q:=by
 obtain⟨a,rfl,h1⟩:=h
 simp_all
theorem Ok.mono{o:Option α}{P Q:α->Prop}(h:Ok o P)(h2:∀a,P a->Q a):Ok o Q:=by
 have ⟨a,e,h1⟩:=h;exact⟨a,e,h2 a h1⟩
theorem Ok.cond{c:Bool}{a b:Option α}{Q:α->Prop}(h1:c=true->Ok a Q)(h2:c=false->Ok b Q):Ok (bif c then a else b) Q:=by
 grind
class BP (b:Bool) (P N:outParam Prop):Prop where
 t:b=true->P
 f:b=false->N
theorem Ok.get{l:List α}{i:Nat}{f:α->Option β}{Q:β->Prop}(h:i<l.length)(h2:∀a,l[i]?=some a->Ok (f a) Q):Ok ((cU l i).bind f) Q:=by
 have e:cU l i=some l[i]:=oGE h
 simp_all
theorem Ok.nat{x:Int}{f:Nat->Option β}{Q:β->Prop}(h:0<=x)(h2:∀n:Nat,x=n->Ok (f n) Q):Ok ((ek x).bind f) Q:=by
 obtain⟨n,rfl⟩:∃n:Nat,x=n:=⟨x.toNat,by omega⟩;exact h2 n rfl
theorem Ok.val{v:α}{f:α->Option β}{Q:β->Prop}(h:∀x,x=v->Ok (f x) Q):Ok (f v) Q:=h v rfl
theorem KK{c:Bool}{a b:Option α}{Q:α->Prop}(hc:c=true)(h1:Ok a Q):Ok (bif c then a else b) Q:=by simp_all
theorem ux{S T:Type}{f:S->Option (S⊕T)}(P:S->Prop)(R:T->Prop)(m:S->Nat){n:Nat}{s:S}(hs:P s)(hm:m s<n)
 (h:∀s,P s->Ok (f s) λr=>match r with|.inl s'=>P s'/\m s'<m s|.inr t=>R t):Ok (ct f n s) R:=by
 induction n generalizing s with
 |zero=>omega
 |succ n ih=>
  have ⟨r,e,hr⟩:=h s hs
  cases r with
  |inl s'=>
   have ⟨t,e2,hq⟩:=ih hr.1 (by omega);exact⟨t,by simp[ct,e];exact e2,hq⟩
  |inr t=>exact⟨t,by simp[ct,e],hr⟩
theorem Ok.loop{S T:Type}{f:S->Option (S⊕T)}{g:T->Option β}{Q:β->Prop}(P:S->Prop)(R:T->Prop)(m:S->Nat){n:Nat}{s:S}(hs:P s)(hm:m s<n)
 (h:∀s,P s->Ok (f s) λr=>match r with|.inl s'=>P s'/\m s'<m s|.inr t=>R t)(hg:∀t,R t->Ok (g t) Q):Ok ((ct f n s).bind g) Q:=(ux P R m hs hm h).bind hg
end
theorem cY{x:Int}(h1:-9223372036854775808<=x)(h2:x<=9223372036854775807):w64 x=x:=wrap_i64 h1 h2
theorem cL(n:Nat):ek (n:Int)=some n:=rfl
theorem eS{S T:Type}{f:S->Option (S⊕T)}(st:Nat->S){n N:Nat}{fin:T}(hn:n<N)(h:∀i,i<n->f (st i)=some (.inl (st (i+1))))(he:f (st n)=some (.inr fin)):ct f N (st 0)=some fin:=by
 have ZR:∀k i,i+k=n->k<N->∀M,k<M->ct f M (st i)=some fin:=by
  intro k
  induction k with
  |zero=>
   intro i hi _ M hM;obtain⟨M,rfl⟩:∃m,M=m+1:=⟨M-1,by omega⟩
   have:i=n:=by omega
   subst this;simp[ct,he]
  |succ k ih=>
   intro i hi hk M hM;obtain⟨M,rfl⟩:∃m,M=m+1:=⟨M-1,by omega⟩;simp only[ct,h i (by omega),oBS];exact ih (i+1) (by omega) (by omega) M (by omega)
 exact ZR n 0 (by omega) hn N hn
theorem oM{S T:Type}{f:S->Option (S⊕T)}(st:Nat->S)(p:Nat->Prop){n N:Nat}{bad:Nat->T}{fin:T}(hn:n<N)
 (h:∀i,i<n->(p i/\f (st i)=some (.inl (st (i+1))))\/(¬p i/\f (st i)=some (.inr (bad i))))(he:f (st n)=some (.inr fin)):
 ((∀i,i<n->p i)/\ct f N (st 0)=some fin)\/∃k,k<n/\(∀i,i<k->p i)/\¬p k/\ct f N (st 0)=some (bad k):=by
 have ZR:∀k i,i+k=n->(∀j,j<i->p j)->∀M,k<M->((∀i,i<n->p i)/\ct f M (st i)=some fin)\/∃k,k<n/\(∀i,i<k->p i)/\¬p k/\ct f M (st i)=some (bad k):=by
  intro k
  induction k with
  |zero=>
   intro i hi hp M hM;obtain⟨M,rfl⟩:∃m,M=m+1:=⟨M-1,by omega⟩
   have:i=n:=by omega
   subst this;exact .inl ⟨hp,by simp[ct,he]⟩
  |succ k ih=>
   intro i hi hp M hM;obtain⟨M,rfl⟩:∃m,M=m+1:=⟨M-1,by omega⟩
   rcases h i (by omega)with⟨h1,e⟩|⟨h1,e⟩
   ·simp only[ct,e,oBS]
    exact ih (i+1) (by omega) (λj hj=>by
     by_cases e:j=i
     ·subst e;exact h1
     ·exact hp j (by omega)) M (by omega)
   ·exact .inr ⟨i,by omega,hp,h1,by simp[ct,e]⟩
 exact ZR n 0 (by omega) (λj hj=>by omega) N hn
abbrev Sm{α:Type}(l:List α):Prop:=l.length<=1099511627776
theorem oI{n:Nat}(h:n<=1099511627776):n<NN:=by unfold NN;omega
theorem dn{α:Type}{l:List α}{i:Nat}(h:i<l.length):cU l i=some l[i]:=oGE h
theorem oq{α:Type}{l:List α}{i:Nat}(h:i<l.length):l.take i++[l[i]]=l.take (i+1):=(List.take_append_getElem h)
theorem dc{sz n m:Nat}(h1:n<=1099511627776)(h2:m<=1099511627776)(h3:sz<=128)(h4:n+m<=1099511627776):dh sz n m=true:=by
 unfold dh;have:(n+m)*sz<=1099511627776*128:=Nat.mul_le_mul h4 h3;simp only[oBA,oDE];exact⟨h4,by omega⟩
theorem Gx{a:List PID}(h:Sm a):d8 a=some (fB a,()):=oIP h
theorem J6{a b:List PID}(h:a.length+b.length<=1099511627776):fc a b=some (fB (a++b),()):=by
 unfold fc dY
 have e:List.flatten [a,b]=a++b:=by simp
 dsimp only;rw[e,oIP ⟨by rw[List.length_append];exact h,by simp⟩,oBS];dsimp only;rw[Gx (show Sm (a++b) by unfold Sm;rw[List.length_append];exact h)];rfl
set_option maxRecDepth 100000 in
theorem wQ:fQ=some (true,()):=by kernel_rfl
theorem ma{α S T:Type}[DecidableEq α]{a b:List α}(hl:a.length=b.length)(hs:Sm a){f:S->Option (S⊕T)}(st:Nat->S){bad fin:T}
 (step:∀i (h:i<a.length)(h':i<b.length),f (st i)=bif decide (a[i]=b[i])then some (.inl (st (i+1)))else some (.inr bad))(he:f (st a.length)=some (.inr fin)):
 ct f NN (st 0)=some (bif decide (a=b)then fin else bad):=by
 rcases oM (f:=f) st (λi=>a[i]?=b[i]?) (bad:=λ_=>bad) (oI hs) (λi hi=>by
  rw[step i hi (hl▸hi),oGE hi,oGE (hl▸hi)];by_cases e:a[i]=b[i]'(hl▸hi)
  ·exact .inl ⟨by rw[e],by rw[oDT e];rfl⟩
  ·exact .inr ⟨λh=>e (by injection h),by rw[oDF e];rfl⟩) he with⟨h1,h2⟩|⟨k,hk,_,h1,h2⟩
 ·rw[h2,oDT (p:=a=b)]
  ·rfl
  ·exact List.ext_getElem? λi=>by
    by_cases hi:i<a.length
    ·exact h1 i hi
    ·rw[oGN (by omega),oGN (by omega)]
 ·rw[h2,oDF λe=>h1 (by rw[e])];rfl
theorem uS{α:Type}{a b:List α}(h:a.length=b.length):((a.length:Int) != (b.length:Int))=false:=by simp;omega
theorem sb{α:Type}{a b:List α}(h:¬a.length=b.length):((a.length:Int) != (b.length:Int))=true:=by simp;omega
theorem Lc(x y:Int):(x != y)=!decide (x=y):=by
 by_cases h:x=y
 ·subst h;simp
 ·rw[oDF h,bne_iff_ne.2 h];rfl
theorem pi{α:Type}(b:Bool)(x y:α):(bif !b then x else y)=bif b then y else x:=by cases b<;>rfl
theorem I5(x y:DCn):(!((x.1==y.1)&&((x.2.1==y.2.1)&&((x.2.2.1==y.2.2.1)&&((x.2.2.2==y.2.2.2)&&true)))))=!decide (x=y):=by
 congr 1;rw[Bool.and_true,Bool.eq_iff_iff];simp[Prod.ext_iff]
theorem Lv{a b:List Int}(ha:Sm a):ft a b=some (decide (a=b),()):=by
 unfold ft;delta cg;dsimp only;by_cases hl:a.length=b.length
 rotate_left
 ·rw[sb hl,oCT,oDF λe=>hl (by rw[e])]
 rw[uS hl,oCF];have h0:=ha
 have:=ma (f:=dF) hl ha (λi=>(a,b,(a.length:Int),(i:Int),())) (bad:=.inl (false,())) (fin:=.inr (a,b,(a.length:Int),(a.length:Int),false,()))
  (λi h h'=>by
   unfold dF;dsimp only;rw[oDT (show(i:Int)<a.length by omega),oCT,cL];simp only[oBS,dn h,dn h',Lc,pi];rw[cY (by omega) (by omega)]
   rfl)
  (by
   unfold dF;dsimp only;rw[oDF (show ¬(a.length:Int)<a.length by omega)]
   rfl)
 rw[show ct dF NN (a,b,(a.length:Int),0,())=_ from this];by_cases e:a=b
 ·rw[oDT e];rfl
 ·rw[oDF e];rfl
theorem BT{a b:List DCn}(ha:Sm a):dL a b=some (decide (a=b),()):=by
 unfold dL;delta cg;dsimp only;by_cases hl:a.length=b.length
 rotate_left
 ·rw[sb hl,oCT,oDF λe=>hl (by rw[e])]
 rw[uS hl,oCF];have h0:=ha
 have:=ma (f:=dp) hl ha (λi=>(a,b,(a.length:Int),(i:Int),())) (bad:=.inl (false,())) (fin:=.inr (a,b,(a.length:Int),(a.length:Int),false,()))
  (λi h h'=>by
   unfold dp;dsimp only;rw[oDT (show(i:Int)<a.length by omega),oCT,cL];simp only[oBS,dn h,dn h',I5,pi];rw[cY (by omega) (by omega)]
   rfl)
  (by
   unfold dp;dsimp only;rw[oDF (show ¬(a.length:Int)<a.length by omega)]
   rfl)
 rw[show ct dp NN (a,b,(a.length:Int),0,())=_ from this];by_cases e:a=b
 ·rw[oDT e];rfl
 ·rw[oDF e];rfl
theorem pM{a b:List DCn}(ha:Sm a):dR a b=some (decide (a=b),()):=by
 unfold dR;delta cg;dsimp only;by_cases hl:a.length=b.length
 rotate_left
 ·rw[sb hl,oCT,oDF λe=>hl (by rw[e])]
 rw[uS hl,oCF];have h0:=ha
 have:=ma (f:=dN) hl ha (λi=>(a,b,(i:Int),())) (bad:=.inl (false,())) (fin:=.inr (a,b,(a.length:Int),false,()))
  (λi h h'=>by
   unfold dN;delta cg;dsimp only;rw[oDT (show(i:Int)<a.length by omega),oCT,cL];simp only[oBS,dn h,dn h',I5,pi];rw[cY (by omega) (by omega)]
   rfl)
  (by
   unfold dN;delta cg;dsimp only;rw[oDF (show ¬(a.length:Int)<a.length by omega)]
   rfl)
 rw[show ct dN NN (a,b,0,())=_ from this];by_cases e:a=b
 ·rw[oDT e];rfl
 ·rw[oDF e];rfl
abbrev PG:=Int×Int×List DCn×DTs
instance MJ:DecidableEq DCn:=inferInstance
instance MP:DecidableEq (Int×Int×Int×List DCn):=inferInstance
instance MH:DecidableEq DTs:=inferInstanceAs (DecidableEq (Int×Int×Int×Int×(Int×Int×Int×List DCn)))
instance MI:DecidableEq PG:=inferInstanceAs (DecidableEq (Int×Int×List DCn×DTs))
theorem yO{x y:Int}{p:Prop}[Decidable p]:(bif(x==y)then(some (decide p,()))else some (false,()):Option (Bool×Unit))=some (decide (x=y/\p),()):=by
 by_cases h:x=y
 ·subst h;simp
 ·rw[oBF h,oDF (p:=x=y/\p) λe=>h e.1];rfl
theorem vf{p q:Prop}[Decidable p][Decidable q]:((some (decide p,())).bind λ(x0,_)=>bif x0 then some (decide q,())else some (false,()):Option (Bool×Unit))=some (decide (p/\q),()):=by
 by_cases h:p<;>by_cases h':q<;>simp[h,h']
theorem ve{x y z w:Int}{p:Prop}[Decidable p]:(bif((x==y)&&((z==w)&&true))then(some (decide p,()))else some (false,()):Option (Bool×Unit))=some (decide (x=y/\z=w/\p),()):=by
 by_cases h:x=y
 ·subst h;by_cases h:z=w
  ·subst h;simp
  ·rw[oBF h,oDF (p:=x=x/\z=w/\p) λe=>h e.2.1];simp
 ·rw[oBF h,oDF (p:=x=y/\z=w/\p) λe=>h e.1];rfl
theorem th{o:Option (Bool×Unit)}:(o.bind λ(x0,_)=>some (x0,()))=o:=by
 cases o with
 |none=>rfl
 |some x=>obtain⟨x,⟨⟩⟩:=x;rfl
theorem Kj{x y:PG}(hx:Sm x.2.2.1)(hy:Sm x.2.2.2.2.2.2.2.2.2.2):
 jb x.1 x.2.1 x.2.2.1 x.2.2.2.1 x.2.2.2.2.1 x.2.2.2.2.2.1 x.2.2.2.2.2.2.1 x.2.2.2.2.2.2.2.1 x.2.2.2.2.2.2.2.2.1 x.2.2.2.2.2.2.2.2.2.1 x.2.2.2.2.2.2.2.2.2.2 y.1 y.2.1 y.2.2.1 y.2.2.2.1 y.2.2.2.2.1 y.2.2.2.2.2.1 y.2.2.2.2.2.2.1 y.2.2.2.2.2.2.2.1 y.2.2.2.2.2.2.2.2.1 y.2.2.2.2.2.2.2.2.2.1 y.2.2.2.2.2.2.2.2.2.2=some (decide (x=y),()):=by
 unfold jb;simp only[BT hx,BT hy,th,yO,vf,ve];congr 2;rw[decide_eq_decide];simp only[Prod.ext_iff,and_assoc]
theorem xw{x y:DTs}(hx:Sm x.2.2.2.2.2.2.2):
 eX x.1 x.2.1 x.2.2.1 x.2.2.2.1 x.2.2.2.2.1 x.2.2.2.2.2.1 x.2.2.2.2.2.2.1 x.2.2.2.2.2.2.2 y.1 y.2.1 y.2.2.1 y.2.2.2.1 y.2.2.2.2.1 y.2.2.2.2.2.1 y.2.2.2.2.2.2.1 y.2.2.2.2.2.2.2=some (decide (x=y),()):=by
 unfold eX;simp only[pM hx,th,yO];congr 2;rw[decide_eq_decide];simp only[Prod.ext_iff,and_assoc]
theorem Ki{x y:PG}(hx:Sm x.2.2.1)(hy:Sm x.2.2.2.2.2.2.2.2.2.2):
 gJ x.1 x.2.1 x.2.2.1 x.2.2.2.1 x.2.2.2.2.1 x.2.2.2.2.2.1 x.2.2.2.2.2.2.1 x.2.2.2.2.2.2.2.1 x.2.2.2.2.2.2.2.2.1 x.2.2.2.2.2.2.2.2.2.1 x.2.2.2.2.2.2.2.2.2.2 y.1 y.2.1 y.2.2.1 y.2.2.2.1 y.2.2.2.2.1 y.2.2.2.2.2.1 y.2.2.2.2.2.2.1 y.2.2.2.2.2.2.2.1 y.2.2.2.2.2.2.2.2.1 y.2.2.2.2.2.2.2.2.2.1 y.2.2.2.2.2.2.2.2.2.2=some (decide (x=y),()):=by
 unfold gJ;have:=xw (x:=x.2.2.2) (y:=y.2.2.2) hy;simp only[pM hx,this,th,vf,ve];congr 2;rw[decide_eq_decide];simp only[Prod.ext_iff,and_assoc]
abbrev CC:=List (List DCn)
abbrev TT':=List DTs
def szs(C:CC):List Int:=C.map λc=>(c.length:Int)
theorem fJ(C:CC):(szs C).length=C.length:=List.length_map _
theorem jO{α β:Type}{f:α->β}{l:List α}{i:Nat}(h:i<l.length):(l.take i).map f++[f l[i]]=(l.take (i+1)).map f:=by
 rw[<- oq h,List.map_append];rfl
theorem zk{C:CC}{T:TT'}(h:Sm C):fP C T=some (szs C,()):=by
 unfold fP;delta cg;dsimp only;have h0:=h
 have step:∀i,i<C.length->dK (C,(C.length:Int),(i:Int),C,T,szs (C.take i),())=some (.inl (C,(C.length:Int),((i+1:Nat):Int),C,T,szs (C.take (i+1)),())):=by
  intro i hi;unfold dK;delta cg;dsimp only;rw[oDT (show(i:Int)<C.length by omega),oCT,cL];simp only[oBS,dn hi];rw[dc (by rw[fJ,oLT];omega) (by simp) (by omega) (by rw[fJ,oLT,List.length_singleton];omega),oCT,cY (by omega) (by omega)];have:List.append (szs (C.take i)) [((C[i].length:Nat):Int)]=szs (C.take (i+1)):=jO (f:=λc:List DCn=>(c.length:Int)) hi;rw[this];rfl
 have fin:dK (C,(C.length:Int),(C.length:Int),C,T,szs (C.take C.length),())=some (.inr (C,(C.length:Int),(C.length:Int),false,C,T,szs (C.take C.length),())):=by
  unfold dK;dsimp only;rw[oDF (show ¬(C.length:Int)<C.length by omega)];rfl
 have:=eS (f:=dK) (λi=>(C,(C.length:Int),(i:Int),C,T,szs (C.take i),())) (oI h) step fin;rw[show ct dK NN (C,(C.length:Int),0,C,T,[],())=_ from this,List.take_length,oBS]
theorem Jo{C:CC}{T:TT'}(h:Sm C):fN C T=some (szs C,()):=by
 unfold fN;have h0:=h
 have step:∀i,i<C.length->dJ ((i:Int),C,T,szs (C.take i),())=some (.inl (((i+1:Nat):Int),C,T,szs (C.take (i+1)),())):=by
  intro i hi;unfold dJ;delta cg;dsimp only;rw[oDT (show(i:Int)<C.length by omega),oCT,cL];simp only[oBS,dn hi];rw[dc (by rw[fJ,oLT];omega) (by simp) (by omega) (by rw[fJ,oLT,List.length_singleton];omega),oCT,cY (by omega) (by omega)];have:List.append (szs (C.take i)) [((C[i].length:Nat):Int)]=szs (C.take (i+1)):=jO (f:=λc:List DCn=>(c.length:Int)) hi;rw[this];rfl
 have fin:dJ ((C.length:Int),C,T,szs (C.take C.length),())=some (.inr ((C.length:Int),false,C,T,szs (C.take C.length),())):=by
  unfold dJ;delta cg;dsimp only;rw[oDF (show ¬(C.length:Int)<C.length by omega)];rfl
 have:=eS (f:=dJ) (λi=>((i:Int),C,T,szs (C.take i),())) (oI h) step fin;rw[show ct dJ NN (0,C,T,[],())=_ from this,List.take_length,oBS]
def okZ(z:Int):Bool:=decide (1<=z/\z<=32)
theorem DX(z:Int):gK z=some (okZ z,()):=by
 unfold gK okZ;by_cases h:z>=1
 ·rw[oDT h,oCT];congr 2;rw[decide_eq_decide];omega
 ·rw[oDF h,oCF,oDF (by omega)]
def shp(C:CC)(T:TT'):Prop:=C.length<=4/\T.length<=4/\∀c∈C,okZ (c.length:Int)=true
instance {C:CC} {T:TT'}:Decidable (shp C T):=inferInstanceAs (Decidable (_/\_/\_))
theorem B9{α:Type}{p:α->Bool}{l:List α}(h:∀i,(hi:i<l.length)->p l[i]=true):∀x∈l,p x=true:=by
 intro x hx;obtain⟨i,hi,rfl⟩:=List.mem_iff_getElem.1 hx;exact h i hi
theorem Dm{C:CC}(h:Sm C):dq C=some (!decide (∀c∈C,okZ (c.length:Int)=true),()):=by
 unfold dq eH;delta cg;dsimp only;have h0:=h
 have step:∀i,i<C.length->((∀hi:i<C.length,okZ (C[i].length:Int)=true)/\co (C,(C.length:Int),(i:Int),())=some (.inl (C,(C.length:Int),((i+1:Nat):Int),())))\/
  (¬(∀hi:i<C.length,okZ (C[i].length:Int)=true)/\co (C,(C.length:Int),(i:Int),())=some (.inr (.inl ((i:Int),())))):=by
  intro i hi;unfold co;dsimp only;rw[oDT (show(i:Int)<C.length by omega),oCT,cL]
  have e:gu C[i]=some (!okZ (C[i].length:Int),()):=by
   unfold gu;delta cg;dsimp only;rw[DX];rfl
  simp only[oBS,dn hi,e];rw[cY (by omega) (by omega)];by_cases q:okZ (C[i].length:Int)=true
  ·exact .inl ⟨λ_=>q,by rw[q];rfl⟩
  ·exact .inr ⟨λg=>q (g hi),by rw[Bool.not_eq_true]at q;rw[q];rfl⟩
 have fin:co (C,(C.length:Int),(C.length:Int),())=some (.inr (.inr (C,(C.length:Int),(C.length:Int),false,()))):=by
  unfold co;dsimp only;rw[oDF (show ¬(C.length:Int)<C.length by omega)];rfl
 rcases oM (f:=co) (λi=>(C,(C.length:Int),(i:Int),())) _ (oI h) step fin with⟨h1,h2⟩|⟨k,hk,_,h1,h2⟩
 ·rw[show ct co NN (C,(C.length:Int),0,())=_ from h2];rw[oDT (B9 (p:=λc:List DCn=>okZ (c.length:Int)) λi hi=>h1 i hi hi)];rfl
 ·rw[show ct co NN (C,(C.length:Int),0,())=_ from h2];rw[oDF (λg=>h1 λhi=>g _ (List.getElem_mem hi))];simp only[oBS];rw[oDT (show(k:Int)>=0 by omega)];rfl
theorem Bo{C:CC}{T:TT'}(h:Sm C):gd C T=some (decide (shp C T),()):=by
 unfold gd;delta cg;dsimp only;by_cases h1:C.length<=4
 ·rw[oDT (show(C.length:Int)<=4 by omega),oCT];by_cases h2:T.length<=4
  ·rw[oDT (show(T.length:Int)<=4 by omega),oCT,Dm h];simp only[oBS,Bool.not_not];congr 2;rw[decide_eq_decide];exact⟨λg=>⟨h1,h2,g⟩,λg=>g.2.2⟩
  ·rw[oDF (show ¬(T.length:Int)<=4 by omega),oCF,oDF λg=>h2 g.2.1]
 ·rw[oDF (show ¬(C.length:Int)<=4 by omega),oCF,oDF λg=>h1 g.1]
theorem Dl{S:List Int}(h:Sm S)(hok:∀z∈S,okZ z=true):dD S=some (false,()):=by
 unfold dD fj;delta cg;dsimp only;have h0:=h
 have step:∀i,i<S.length->cF (S,(S.length:Int),(i:Int),())=some (.inl (S,(S.length:Int),((i+1:Nat):Int),())):=by
  intro i hi;unfold cF;dsimp only;rw[oDT (show(i:Int)<S.length by omega),oCT,cL]
  have e:iC S[i]=some (false,()):=by
   unfold iC;rw[DX,hok _ (List.getElem_mem hi)];rfl
  simp only[oBS,dn hi,e];rw[cY (by omega) (by omega)];rfl
 have fin:cF (S,(S.length:Int),(S.length:Int),())=some (.inr (.inr (S,(S.length:Int),(S.length:Int),false,()))):=by
  unfold cF;dsimp only;rw[oDF (show ¬(S.length:Int)<S.length by omega)];rfl
 have:=eS (f:=cF) (λi=>(S,(S.length:Int),(i:Int),())) (oI h) step fin;rw[show ct cF NN (S,(S.length:Int),0,())=_ from this];rfl
theorem Kl{S:List Int}{n:Nat}(h:Sm S):∃e:Int,i9 S n=some (e,())/\(e=0↔S.length<=4/\n<=4/\∀z∈S,okZ z=true):=by
 unfold i9;delta cg;dsimp only;by_cases h1:S.length<=4
 rotate_left
 ·rw[oDT (show(S.length:Int)>4 by omega),oCT];exact⟨3,rfl,λg=>absurd g (by decide),λg=>absurd g.1 h1⟩
 rw[oDF (show ¬(S.length:Int)>4 by omega),oCF];by_cases h2:n<=4
 rotate_left
 ·rw[oDT (show(n:Int)>4 by omega),oCT];exact⟨3,rfl,λg=>absurd g (by decide),λg=>absurd g.2.1 h2⟩
 rw[oDF (show ¬(n:Int)>4 by omega),oCF];have h0:=h
 have step:∀i,i<S.length->((∀hi:i<S.length,okZ S[i]=true)/\dg (S,(n:Int),(i:Int),())=some (.inl (S,(n:Int),((i+1:Nat):Int),())))\/
  (¬(∀hi:i<S.length,okZ S[i]=true)/\dg (S,(n:Int),(i:Int),())=some (.inr (.inl (1,())))):=by
  intro i hi;unfold dg;delta cg;dsimp only;rw[oDT (show(i:Int)<S.length by omega),oCT,cL];simp only[oBS,dn hi];rw[cY (by omega) (by omega)];by_cases q1:S[i]<1
  ·rw[oDT q1];exact .inr ⟨λg=>by have:=of_decide_eq_true (g hi);omega,rfl⟩
  ·rw[oDF q1,oCF];by_cases q2:S[i]>32
   ·rw[oDT q2];exact .inr ⟨λg=>by have:=of_decide_eq_true (g hi);omega,rfl⟩
   ·rw[oDF q2,oCF];exact .inl ⟨λ_=>oDT (by omega),rfl⟩
 have fin:dg (S,(n:Int),(S.length:Int),())=some (.inr (.inr (S,(n:Int),(S.length:Int),false,()))):=by
  unfold dg;delta cg;dsimp only;rw[oDF (show ¬(S.length:Int)<S.length by omega)];rfl
 rcases oM (f:=dg) (λi=>(S,(n:Int),(i:Int),())) _ (oI h) step fin with⟨g1,g2⟩|⟨k,hk,_,g1,g2⟩
 ·rw[show ct dg NN (S,(n:Int),0,())=_ from g2];dsimp only;rw[oDF (show ¬(n:Int)<0 by omega)];exact⟨0,rfl,λ_=>⟨h1,h2,B9 λi hi=>g1 i hi hi⟩,λ_=>rfl⟩
 ·rw[show ct dg NN (S,(n:Int),0,())=_ from g2];exact⟨1,rfl,λg=>absurd g (by decide),λg=>absurd (λhi=>g.2.2 _ (List.getElem_mem hi)) g1⟩
theorem vu{C:CC}{T:TT'}:((szs C).length<=4/\T.length<=4/\∀z∈szs C,okZ z=true)↔shp C T:=by
 unfold shp szs;rw[List.length_map];simp
theorem GU{C:CC}{T:TT'}(h:Sm C):gc C T=some (decide (shp C T),()):=by
 unfold gc;rw[Jo h];obtain⟨e,h1,h2⟩:=Kl (S:=szs C) (n:=T.length) (show Sm (szs C) by unfold Sm;rw[fJ];exact h);rw[vu]at h2;delta cg;simp only[oBS,h1];congr 2;rw[Bool.eq_iff_iff,beq_iff_eq,decide_eq_true_iff];exact h2
def u9(z:Int):Nat:=((z+7)/8).toNat
def uM(S:List Int)(i:Nat):List PID:=(List.range (u9 (S.getD i 0))).map λ(j:Nat)=>((i:Int),(j:Int))
def pgs(S:List Int)(n:Nat):List PID:=(List.range S.length).flatMap (uM S)++(List.range n).map λ(t:Nat)=>(-1,(t:Int))
def Szs(S:List Int):Prop:=S.length<=4/\∀z∈S,okZ z=true
theorem IM{S:List Int}(h:Szs S){i:Nat}(hi:i<S.length):1<=S[i]/\S[i]<=32:=of_decide_eq_true (h.2 _ (List.getElem_mem hi))
theorem FW{S:List Int}(h:Szs S){i:Nat}(hi:i<S.length):u9 (S.getD i 0)<=4:=by
 have:=IM h hi
 have e:S.getD i 0=S[i]:=by simp[hi]
 rw[e];unfold u9;omega
theorem vD{S:List Int}(h:Szs S):∀i,i<=S.length->((List.range i).flatMap (uM S)).length<=4*i:=by
 intro i
 induction i with
 |zero=>intro _;simp
 |succ i ih=>
  intro hi;rw[List.range_succ,List.flatMap_append,List.length_append];have h1:=ih (by omega)
  have h2:(uM S i).length=u9 (S.getD i 0):=by unfold uM;simp
  have h3:=FW h (i:=i) (by omega);simp only[List.flatMap_cons,List.flatMap_nil,List.append_nil];omega
theorem FM{S:List Int}(i:Nat):(List.range (i+1)).flatMap (uM S)=(List.range i).flatMap (uM S)++uM S i:=by
 rw[List.range_succ,List.flatMap_append];simp
theorem uO{α:Type}(f:Nat->α)(j:Nat):(List.range (j+1)).map f=(List.range j).map f++[f j]:=by
 rw[List.range_succ,List.map_append];rfl
theorem IV{z:Int}(h:1<=z/\z<=32)(j:Nat):((j:Int)*8<z)↔j<u9 z:=by
 unfold u9;omega
theorem Le{S:List Int}{n:Nat}(h:Szs S)(hn:n<=4):jP S n=some (pgs S n,0,()):=by
 unfold jP;delta cg;dsimp only;have h4:=h.1;rw[oDF (show ¬(S.length:Int)>4 by omega),oCF,oDF (show ¬(n:Int)>4 by omega),oCF,oDF (show ¬(n:Int)<0 by omega),oCF];rw[Dl (by unfold Sm;omega) h.2,oBS];simp only[oCF]
 have SI:∀i,i<S.length->dV ((n:Int),S,(S.length:Int),(i:Int),(List.range i).flatMap (uM S),())=some (.inl ((n:Int),S,(S.length:Int),((i+1:Nat):Int),(List.range (i+1)).flatMap (uM S),())):=by
  intro i hi;have hz:=IM h hi;have hl:=vD h i (by omega);have hc:=FW h hi
  have eg:S.getD i 0=S[i]:=by simp[hi]
  unfold dV;dsimp only;rw[oDT (show(i:Int)<S.length by omega),oCT,cL];simp only[oBS,dn hi]
  let A:=(List.range i).flatMap (uM S)
  let st:Nat->_:=λj=>((n:Int),(i:Int),S[i],(j:Int),S,(S.length:Int),(i:Int),A++(List.range j).map (λ(j:Nat)=>(((i:Int),(j:Int)):PID)),())
  have SH:∀j,j<u9 S[i]->dH (st j)=some (.inl (st (j+1))):=by
   intro j hj;show dH ((n:Int),(i:Int),S[i],(j:Int),S,(S.length:Int),(i:Int),A++(List.range j).map (λ(j:Nat)=>(((i:Int),(j:Int)):PID)),())=_;unfold dH;dsimp only;rw[eg]at hc;rw[cY (x:=(j:Int)*8) (by omega) (by omega),oDT ((IV hz j).2 hj),oCT];have hA:A.length<=4*i:=hl;rw[dc (by rw[List.length_append,List.length_map,List.length_range];omega) (by simp) (by omega) (by rw[List.length_append,List.length_map,List.length_range,List.length_singleton];omega),oCT,cY (by omega) (by omega)]
   have e:List.append (A++(List.range j).map (λ(j:Nat)=>(((i:Int),(j:Int)):PID))) [((i:Int),(j:Int))]=A++(List.range (j+1)).map (λ(j:Nat)=>(((i:Int),(j:Int)):PID)):=by
    rw[uO,<- List.append_assoc];rfl
   rw[e];rfl
  have Ot:dH (st (u9 S[i]))=some (.inr ((n:Int),(i:Int),S[i],(u9 S[i]:Int),S,(S.length:Int),(i:Int),false,A++(List.range (u9 S[i])).map (λ(j:Nat)=>(((i:Int),(j:Int)):PID)),())):=by
   show dH ((n:Int),(i:Int),S[i],(u9 S[i]:Int),S,(S.length:Int),(i:Int),A++(List.range (u9 S[i])).map (λ(j:Nat)=>(((i:Int),(j:Int)):PID)),())=_;unfold dH;dsimp only;rw[eg]at hc;rw[cY (x:=(u9 S[i]:Int)*8) (by omega) (by omega),oDF (λg=>by have:=(IV hz _).1 g;omega)];rfl
  have hI:=eS (f:=dH) st (n:=u9 S[i]) (N:=NN) (by rw[eg]at hc;unfold NN;omega) SH Ot
  have e0:st 0=((n:Int),(i:Int),S[i],0,S,(S.length:Int),(i:Int),(List.range i).flatMap (uM S),()):=by
   show((n:Int),(i:Int),S[i],(0:Int),S,(S.length:Int),(i:Int),A++[],())=_;rw[List.append_nil]
  rw[<- e0,hI];simp only[oBS];rw[cY (by omega) (by omega),FM]
  have er:(List.range (u9 S[i])).map (λ(j:Nat)=>(((i:Int),(j:Int)):PID))=uM S i:=by unfold uM;rw[eg]
  rw[er];rfl
 have Ou:dV ((n:Int),S,(S.length:Int),(S.length:Int),(List.range S.length).flatMap (uM S),())=some (.inr ((n:Int),S,(S.length:Int),(S.length:Int),false,(List.range S.length).flatMap (uM S),())):=by
  unfold dV;dsimp only;rw[oDF (show ¬(S.length:Int)<S.length by omega)];rfl
 have hO:=eS (f:=dV) (λi=>((n:Int),S,(S.length:Int),(i:Int),(List.range i).flatMap (uM S),())) (n:=S.length) (N:=NN) (by unfold NN;omega) SI Ou;rw[show ct dV NN ((n:Int),S,(S.length:Int),0,[],())=_ from hO];simp only[oBS];have hl:=vD h S.length (Nat.le_refl _)
 let B:=(List.range S.length).flatMap (uM S)
 have hB:B.length<=4*S.length:=hl
 let st:Nat->_:=λt=>((n:Int),(t:Int),B++(List.range t).map (λ(t:Nat)=>((-1,(t:Int)):PID)),())
 have stepT:∀t,t<n->dG (st t)=some (.inl (st (t+1))):=by
  intro t ht;show dG ((n:Int),(t:Int),B++(List.range t).map (λ(t:Nat)=>((-1,(t:Int)):PID)),())=_;unfold dG;dsimp only;rw[oDT (show(t:Int)<n by omega),oCT];rw[dc (by rw[List.length_append,List.length_map,List.length_range];omega) (by simp) (by omega) (by rw[List.length_append,List.length_map,List.length_range,List.length_singleton];omega),oCT,cY (by omega) (by omega)]
  have e:List.append (B++(List.range t).map (λ(t:Nat)=>((-1,(t:Int)):PID))) [(-1,(t:Int))]=B++(List.range (t+1)).map (λ(t:Nat)=>((-1,(t:Int)):PID)):=by
   rw[uO,<- List.append_assoc];rfl
  rw[e];rfl
 have Ov:dG (st n)=some (.inr ((n:Int),(n:Int),false,B++(List.range n).map (λ(t:Nat)=>((-1,(t:Int)):PID)),())):=by
  show dG ((n:Int),(n:Int),B++(List.range n).map (λ(t:Nat)=>((-1,(t:Int)):PID)),())=_;unfold dG;dsimp only;rw[oDF (show ¬(n:Int)<n by omega)];rfl
 have hT:=eS (f:=dG) st (n:=n) (N:=NN) (by unfold NN;omega) stepT Ov
 have e0:st 0=((n:Int),0,B,()):=by
  show((n:Int),(0:Int),B++[],())=_;rw[List.append_nil]
 rw[e0]at hT;rw[hT];rfl
abbrev zTs:DTs:=(0,0,0,0,0,0,0,[])
def pg(C:CC)(T:TT')(p:PID):PG:=if p.1=-1 then(p.1,p.2,[],T.getD p.2.toNat zTs)else(p.1,p.2,((C.getD p.1.toNat []).drop (8*p.2.toNat)).take 8,zTs)
def SmT(T:TT'):Prop:=∀t∈T,Sm t.2.2.2.2.2.2.2
theorem vJ{S:List Int}{i:Nat}{p:PID}:p∈uM S i↔∃j:Nat,j<u9 (S.getD i 0)/\p=((i:Int),(j:Int)):=by
 unfold uM;simp only[List.mem_map,List.mem_range];exact⟨λ⟨j,h,e⟩=>⟨j,h,e.symm⟩,λ⟨j,h,e⟩=>⟨j,h,e.symm⟩⟩
theorem kr{S:List Int}{n:Nat}{p:PID}:p∈pgs S n↔(∃i j:Nat,i<S.length/\j<u9 (S.getD i 0)/\p=((i:Int),(j:Int)))\/∃t:Nat,t<n/\p=(-1,(t:Int)):=by
 unfold pgs;simp only[List.mem_append,List.mem_flatMap,List.mem_range,vJ,List.mem_map];constructor
 ·rintro(⟨i,hi,j,hj,e⟩|⟨t,ht,e⟩)
  ·exact .inl ⟨i,j,hi,hj,e⟩
  ·exact .inr ⟨t,ht,e.symm⟩
 ·rintro(⟨i,j,hi,hj,e⟩|⟨t,ht,e⟩)
  ·exact .inl ⟨i,hi,j,hj,e⟩
  ·exact .inr ⟨t,ht,e.symm⟩
theorem zG{S:List Int}{n:Nat}(h:Szs S)(hn:n<=4):(pgs S n).length<=20:=by
 have h1:=vD h S.length (Nat.le_refl _);have h2:=h.1;unfold pgs;rw[List.length_append,List.length_map,List.length_range];omega
theorem qk{C:CC}{T:TT'}(h:shp C T):Szs (szs C):=⟨by rw[fJ];exact h.1,(vu.2 h).2.2⟩
theorem wM{a:List DCn}(h:Sm a):dw a=some (a,()):=by
 unfold dw;rw[dc (by omega) h (by omega) (by have:=h;omega),oCT];rfl
theorem jQ{C:CC}{i:Nat}(h:i<C.length):(szs C).getD i 0=(C[i].length:Int):=by simp[szs,h]
theorem DN{l:List DCn}{a:Nat}(h:a<=l.length):IE l a (Nat.sub (Nat.min (a+8) l.length) a)=(l.drop a).take 8:=by
 unfold IE;rcases Nat.le_total (a+8) l.length with h1|h1
 ·rw[show Nat.min (a+8) l.length=a+8 from Nat.min_eq_left h1,show Nat.sub (a+8) a=8 by show a+8-a=8;omega]
 ·rw[show Nat.min (a+8) l.length=l.length from Nat.min_eq_right h1,show Nat.sub l.length a=(l.drop a).length by rw[List.length_drop];rfl,List.take_length,List.take_of_length_le (by rw[List.length_drop];omega)]
theorem zK(a b:Nat):mmR false (a:Int) (b:Int)=(Nat.min a b:Nat):=by
 unfold mmR;simp only[Bool.false_eq_true,if_false];show _=((min a b:Nat):Int);split<;>omega
theorem xL{c:List DCn}{j:Nat}(h:j<u9 (c.length:Int)):8*j<c.length:=by
 unfold u9 at h;omega
theorem nA{C:CC}{T:TT'}{i j:Nat}(hi:i<C.length):pg C T ((i:Int),(j:Int))=((i:Int),(j:Int),((C[i].drop (8*j)).take 8),zTs):=by
 unfold pg;rw[oIN (by simp)];simp[hi]
theorem ge{C:CC}{T:TT'}{t:Nat}(ht:t<T.length):pg C T (-1,(t:Int))=(-1,(t:Int),[],T[t]):=by
 unfold pg;rw[oIP rfl];simp[ht]
def Lr(x:PG):Int×Int×List DCn×Int×Int×Int×Int×Int×Int×Int×List DCn×Unit:=(x.1,x.2.1,x.2.2.1,x.2.2.2.1,x.2.2.2.2.1,x.2.2.2.2.2.1,x.2.2.2.2.2.2.1,x.2.2.2.2.2.2.2.1,x.2.2.2.2.2.2.2.2.1,x.2.2.2.2.2.2.2.2.2.1,x.2.2.2.2.2.2.2.2.2.2,())
theorem Lp{C:CC}{T:TT'}(h:shp C T)(hT:SmT T){p:PID}(hp:p∈pgs (szs C) T.length):iu C T p.1 p.2=some (Lr (pg C T p)):=by
 unfold iu
 rcases kr.1 hp with⟨i,j,hi,hj,rfl⟩|⟨t,ht,rfl⟩
 ·rw[fJ]at hi;rw[jQ hi]at hj;have ZU:=xL hj;have hok:=of_decide_eq_true (h.2.2 _ (List.getElem_mem hi));rw[oBF (show((i:Int))≠-1 by omega),oCF,cL];simp only[oBS,dn hi];unfold gz;delta cg;dsimp only;rw[oDF (show ¬(j:Int)<0 by omega),oCF,oDF (show ¬(j:Int)>32 by omega),oCF];simp only[oBS];rw[cY (x:=(j:Int)*8) (by omega) (by omega),oDF (show ¬(j:Int)*8>=(C[i].length:Int) by omega),oCF,cY (x:=(j:Int)*8+8) (by omega) (by omega)];rw[show(j:Int)*8=((8*j:Nat):Int) by omega,show((8*j:Nat):Int)+8=((8*j+8:Nat):Int) by omega,zK,cL,cL];simp only[oBS]
  have ho:lJ (8*j) (Nat.min (8*j+8) C[i].length) C[i].length=true:=by
   unfold lJ;have h1:Nat.min (8*j+8) C[i].length=min (8*j+8) C[i].length:=rfl;rw[h1];simp only[oBA,oDE];omega
  rw[ho,oCT,DN (by omega)];simp only[oBS];rw[wM (by unfold Sm;rw[oLT];omega),nA hi];rfl
 ·have hs:Sm (T[t]'ht).2.2.2.2.2.2.2:=hT _ (List.getElem_mem ht);rw[show((-1:Int)==-1)=true from rfl,oCT,cL];simp only[oBS,dn ht];unfold gM;rw[wM hs,ge ht];rfl
theorem ME{C:CC}{T:TT'}(h:shp C T)(hT:SmT T){p:PID}(hp:p∈pgs (szs C) T.length):jr C T p.1 p.2=some ((pg C T p).1,(pg C T p).2.1,(pg C T p).2.2.1,(pg C T p).2.2.2.1,(pg C T p).2.2.2.2.1,(pg C T p).2.2.2.2.2.1,(pg C T p).2.2.2.2.2.2.1,(pg C T p).2.2.2.2.2.2.2.1,(pg C T p).2.2.2.2.2.2.2.2.1,(pg C T p).2.2.2.2.2.2.2.2.2.1,(pg C T p).2.2.2.2.2.2.2.2.2.2,0,()):=by
 unfold jr;have h4:=h.1;rw[GU (by unfold Sm;omega),oBS];dsimp only;rw[oDT h];simp only[oNT,oCF]
 rcases kr.1 hp with⟨i,j,hi,hj,rfl⟩|⟨t,ht,rfl⟩
 ·rw[fJ]at hi;rw[jQ hi]at hj;have ZU:=xL hj;have hok:=of_decide_eq_true (h.2.2 _ (List.getElem_mem hi));rw[oBF (show((i:Int))≠-1 by omega),oCF];delta cg;dsimp only;rw[oDF (show ¬(i:Int)<0 by omega),oCF,oDF (show ¬(i:Int)>=C.length by omega),oCF,oDF (show ¬(j:Int)<0 by omega),oCF,oDF (show ¬(j:Int)>32 by omega),oCF];rw[cL];simp only[oBS,dn hi];rw[cY (x:=(j:Int)*8) (by omega) (by omega),oDF (show ¬(j:Int)*8>=(C[i].length:Int) by omega),oCF,cL];simp only[oBS,dn hi];rw[cY (x:=(j:Int)*8+8) (by omega) (by omega)];rw[show(j:Int)*8=((8*j:Nat):Int) by omega,show((8*j:Nat):Int)+8=((8*j+8:Nat):Int) by omega,zK,cL,cL];simp only[oBS]
  have ho:lJ (8*j) (Nat.min (8*j+8) C[i].length) C[i].length=true:=by
   unfold lJ;have h1:Nat.min (8*j+8) C[i].length=min (8*j+8) C[i].length:=rfl;rw[h1];simp only[oBA,oDE];omega
  rw[ho,oCT,DN (by omega),dc (by omega) (by rw[oLT];omega) (by omega) (by rw[oLT];omega),oCT,nA hi];rfl
 ·have hs:Sm (T[t]'ht).2.2.2.2.2.2.2:=hT _ (List.getElem_mem ht);rw[show((-1:Int)==-1)=true from rfl,oCT];delta cg;dsimp only;rw[oDF (show ¬(t:Int)<0 by omega),oCF,oDF (show ¬(t:Int)>=T.length by omega),oCF,cL];simp only[oBS,dn ht];unfold em;rw[dc (by omega) hs (by omega) (by have:=hs;omega),oCT,ge ht];rfl
theorem LK{C:CC}{T:TT'}(h:shp C T)(hT:SmT T):js C T=some ((pgs (szs C) T.length).map (pg C T),0,()):=by
 unfold js;have h4:=h.1
 have hS:Sm C:=by unfold Sm;omega
 rw[Bo hS,oBS];dsimp only;rw[oDT h];simp only[oNT,oCF];rw[zk hS,oBS];delta cg;dsimp only;rw[Le (qk h) h.2.1,oBS];dsimp only;have hlen:=zG (qk h) h.2.1;have hg:∀p∈pgs (szs C) T.length,iu C T p.1 p.2=some (Lr (pg C T p)):=λp hp=>Lp h hT hp;generalize pgs (szs C) T.length=ps at hlen hg⊢
 have step:∀i,i<ps.length->en ((ps.length:Int),(i:Int),C,T,ps,(ps.take i).map (pg C T),())=some (.inl ((ps.length:Int),((i+1:Nat):Int),C,T,ps,(ps.take (i+1)).map (pg C T),())):=by
  intro i hi;unfold en;dsimp only;rw[oDT (show(i:Int)<ps.length by omega),oCT,cL];simp only[oBS,dn hi,hg _ (List.getElem_mem hi)];rw[dc (by rw[List.length_map,oLT];omega) (by simp) (by omega) (by rw[List.length_map,oLT,List.length_singleton];omega),oCT,cY (by omega) (by omega),<- jO hi];rfl
 have fin:en ((ps.length:Int),(ps.length:Int),C,T,ps,(ps.take ps.length).map (pg C T),())=some (.inr ((ps.length:Int),(ps.length:Int),false,C,T,ps,(ps.take ps.length).map (pg C T),())):=by
  unfold en;dsimp only;rw[oDF (show ¬(ps.length:Int)<ps.length by omega)];rfl
 have:=eS (f:=en) (λi=>((ps.length:Int),(i:Int),C,T,ps,(ps.take i).map (pg C T),())) (n:=ps.length) (N:=NN) (by unfold NN;omega) step fin;rw[show ct en NN ((ps.length:Int),0,C,T,ps,[],())=_ from this,List.take_length];rfl
def Kv(C:CC)(T:TT')(D:CC)(U:TT'):Prop:=shp C T/\shp D U/\szs C=szs D/\T.length=U.length
def dif(C:CC)(T:TT')(D:CC)(U:TT'):List PID:=(pgs (szs C) T.length).filter λp=>!decide (pg C T p=pg D U p)
theorem ze{α:Type}{q:α->Bool}{l:List α}{i:Nat}(h:i<l.length):(l.take (i+1)).filter q=(l.take i).filter q++bif q l[i]then[l[i]]else[]:=by
 rw[<- oq h,List.filter_append];congr 1
theorem Hh{C:CC}{T:TT'}(p:PID):((pg C T p).1,(pg C T p).2.1)=p:=by
 unfold pg;split<;>rfl
theorem Gz{C:CC}{T:TT'}(h:shp C T)(hT:SmT T){p:PID}(hp:p∈pgs (szs C) T.length):Sm (pg C T p).2.2.1/\Sm (pg C T p).2.2.2.2.2.2.2.2.2.2:=by
 rcases kr.1 hp with⟨i,j,hi,hj,rfl⟩|⟨t,ht,rfl⟩
 ·rw[fJ]at hi;rw[nA hi];exact⟨by unfold Sm;rw[oLT];omega,by unfold Sm;simp⟩
 ·rw[ge ht];exact⟨by unfold Sm;simp,hT _ (List.getElem_mem ht)⟩
theorem oc{C:CC}{T:TT'}{D:CC}{U:TT'}(h:shp C T):(dif C T D U).length<=20:=Nat.le_trans (List.length_filter_le _ _) (zG (qk h) h.2.1)
theorem F8{C:CC}{T:TT'}{D:CC}{U:TT'}(h:Kv C T D U)(hT:SmT T)(hU:SmT U):gL C T D U=some (dif C T D U,0,()):=by
 unfold gL;obtain⟨h1,h2,h3,h4⟩:=h;have k1:=h1.1;have k2:=h2.1
 have hC:Sm C:=by unfold Sm;omega
 have hD:Sm D:=by unfold Sm;omega
 rw[LK h1 hT,oBS];dsimp only;rw[LK h2 hU,oBS];dsimp only;simp only[bne_self_eq_false,oCF];rw[zk hC,oBS];dsimp only;rw[zk hD,oBS];dsimp only;rw[Lv (by unfold Sm;rw[fJ];omega),oBS,oDT h3];delta cg;simp only[oNT,oCF,oBS];rw[uS h4,oCF,<- h3,<- h4];unfold dif;have hlen:=zG (qk h1) h1.2.1;have hm:∀p∈pgs (szs C) T.length,Sm (pg C T p).2.2.1/\Sm (pg C T p).2.2.2.2.2.2.2.2.2.2:=λp hp=>Gz h1 hT hp;generalize pgs (szs C) T.length=ps at hlen hm⊢;rw[List.length_map]
 have step:∀i,i<ps.length->dt ((ps.length:Int),(i:Int),ps.map (pg C T),ps.map (pg D U),(ps.take i).filter (λp=>!decide (pg C T p=pg D U p)),())=
  some (.inl ((ps.length:Int),((i+1:Nat):Int),ps.map (pg C T),ps.map (pg D U),(ps.take (i+1)).filter (λp=>!decide (pg C T p=pg D U p)),())):=by
  intro i hi
  have TK:i<(ps.map (pg C T)).length:=by rw[List.length_map];exact hi
  have hi2:i<(ps.map (pg D U)).length:=by rw[List.length_map];exact hi
  obtain⟨m1,m2⟩:=hm _ (List.getElem_mem hi);unfold dt;dsimp only;rw[oDT (show(i:Int)<ps.length by omega),oCT,cL];simp only[oBS,dn TK,dn hi2,List.getElem_map];rw[Kj m1 m2];simp only[oBS];rw[ze hi];by_cases e:pg C T ps[i]=pg D U ps[i]
  ·rw[oDT e];simp only[oNT,oCF,oBS,List.append_nil];rw[cY (by omega) (by omega)];rfl
  ·rw[oDF e];simp only[Bool.not_false,oCT,oBS];have hf:=List.length_filter_le (λp=>!decide (pg C T p=pg D U p)) (ps.take i);rw[oLT]at hf;rw[dc (Nat.le_trans hf (by omega)) (by simp) (by omega) (Nat.le_trans (Nat.add_le_add_right hf _) (by rw[List.length_singleton];omega)),oCT,Hh];simp only[oBS];rw[cY (by omega) (by omega)];rfl
 have fin:dt ((ps.length:Int),(ps.length:Int),ps.map (pg C T),ps.map (pg D U),(ps.take ps.length).filter (λp=>!decide (pg C T p=pg D U p)),())=
  some (.inr ((ps.length:Int),(ps.length:Int),false,ps.map (pg C T),ps.map (pg D U),(ps.take ps.length).filter (λp=>!decide (pg C T p=pg D U p)),())):=by
  unfold dt;dsimp only;rw[oDF (show ¬(ps.length:Int)<ps.length by omega)];rfl
 have:=eS (f:=dt) (λi=>((ps.length:Int),(i:Int),ps.map (pg C T),ps.map (pg D U),(ps.take i).filter (λp=>!decide (pg C T p=pg D U p)),())) (n:=ps.length) (N:=NN) (by unfold NN;omega) step fin;rw[show ct dt NN ((ps.length:Int),0,ps.map (pg C T),ps.map (pg D U),[],())=_ from this,List.take_length];rfl
theorem Md{x n:Int}(hn:0<n)(Wm:n<=1099511627776):∃y,rk x n=some (y,())/\0<=y/\y<n:=by
 unfold rk nT;rw[bne_iff_ne.2 (show n≠0 by omega),oCT];have h1:=Int.lt_tmod_of_pos x hn;have h2:=Int.tmod_lt_of_pos x hn;dsimp only;by_cases h:Int.tmod x n<0
 ·rw[oDT h,oCT,cY (by omega) (by omega)];exact⟨_,rfl,by omega,by omega⟩
 ·rw[oDF h,oCF];exact⟨_,rfl,by omega,by omega⟩
theorem gh{n:Int}(hn:0<n)(Wm:n<=1099511627776){l:List Int}(hl:l.length<=400){k:Int}(hk:0<=k):∃x k',cr n l k=some (x,l,k',())/\0<=x/\x<n/\0<=k':=by
 unfold cr;delta cg;dsimp only;by_cases h:k>=l.length
 ·rw[oDT h,oCT];exact⟨0,k,rfl,by omega,hn,hk⟩
 ·rw[oDF h,oCF,cY (x:=k+1) (by omega) (by omega),cY (by omega) (by omega)];obtain⟨i,rfl⟩:∃i:Nat,k=i:=⟨k.toNat,by omega⟩
  have hi:i<l.length:=by omega
  rw[show(i:Int)+1-1=i by omega,cL];simp only[oBS,dn hi];obtain⟨y,e,h1,h2⟩:=Md (x:=l[i]) hn Wm;rw[e];exact⟨y,(i:Int)+1,rfl,h1,h2,by omega⟩
theorem F1{l:List Int}(hl:l.length<=400){k:Int}(hk:0<=k):∃(c:DCn)(k':Int),fE l k=some (c.1,c.2.1,c.2.2.1,c.2.2.2,l,k',())/\0<=k':=by
 unfold fE;obtain⟨x,k1,e,_,_,h1⟩:=gh (n:=5) (by omega) (by omega) hl hk;rw[e];simp only[oBS];by_cases h:x=4
 ·rw[beq_iff_eq.2 h,oCT];obtain⟨x2,k2,e,_,_,h2⟩:=gh (n:=3) (by omega) (by omega) hl h1;rw[e];simp only[oBS];obtain⟨x3,k3,e,_,_,h3⟩:=gh (n:=8) (by omega) (by omega) hl h2;rw[e];exact⟨(1,0,x2,x3),k3,rfl,h3⟩
 ·rw[oBF h,oCF];obtain⟨x2,k2,e,_,_,h2⟩:=gh (n:=40) (by omega) (by omega) hl h1;rw[e];exact⟨(0,wk .u16 x2,0,0),k2,rfl,h2⟩
theorem II{l:List Int}(hl:l.length<=400){k:Int}(hk:0<=k):∃(v:DTs)(k':Int),iJ l k=some (v.1,v.2.1,v.2.2.1,v.2.2.2.1,v.2.2.2.2.1,v.2.2.2.2.2.1,v.2.2.2.2.2.2.1,v.2.2.2.2.2.2.2,l,k',())/\v.2.2.2.2.2.2.2.length<=8/\0<=k':=by
 unfold iJ;obtain⟨x1,k1,e,_,_,h1⟩:=gh (n:=5) (by omega) (by omega) hl hk;rw[e];simp only[oBS];obtain⟨x2,k2,e,_,_,h2⟩:=gh (n:=20) (by omega) (by omega) hl h1;rw[e];simp only[oBS];obtain⟨x3,k3,e,_,_,h3⟩:=gh (n:=30) (by omega) (by omega) hl h2;rw[e];simp only[oBS];obtain⟨x4,k4,e,_,_,h4⟩:=gh (n:=4) (by omega) (by omega) hl h3;rw[e];simp only[oBS];obtain⟨x5,k5,e,_,_,h5⟩:=gh (n:=4) (by omega) (by omega) hl h4;rw[e];simp only[oBS];obtain⟨x6,k6,e,_,_,h6⟩:=gh (n:=7) (by omega) (by omega) hl h5;rw[e];simp only[oBS];obtain⟨x7,k7,e,_,_,h7⟩:=gh (n:=9) (by omega) (by omega) hl h6;rw[e];simp only[oBS]
 let st:Int->Int->List DCn->_:=λi k r=>(i,l,k,(0:Int),(0:Int),(0:Int),(0:Int),(0:Int),(0:Int),(0:Int),(),x1,x2,x3,w64 (x4-1),w64 (x5-1),x6,wk .u16 x7,r,())
 have step:∀(i:Nat)(k:Int)(r:List DCn),0<=k->r.length=i->i<8->∃(k':Int)(r':List DCn),0<=k'/\r'.length=i+1/\eG (st i k r)=some (.inl (st ((i+1:Nat):Int) k' r')):=by
  intro i k r hk hr hi;show ∃(k':Int)(r':List DCn),0<=k'/\r'.length=i+1/\eG ((i:Int),l,k,0,0,0,0,0,0,0,(),x1,x2,x3,w64 (x4-1),w64 (x5-1),x6,wk .u16 x7,r,())=_;unfold eG;dsimp only;rw[oDT (show(i:Int)<8 by omega),oCT];obtain⟨c,k',e,YR⟩:=F1 hl hk;rw[e];simp only[oBS];rw[dc (by omega) (by simp) (by omega) (by rw[List.length_singleton];omega),oCT,cY (by omega) (by omega)];exact⟨k',r++[c],YR,by rw[List.length_append,List.length_singleton,hr],rfl⟩
 have go:∀j i:Nat,i+j=8->∀(k:Int)(r:List DCn),0<=k->r.length=i->∀N,j<N->∃k' r',0<=k'/\r'.length=8/\ct eG N (st i k r)=some (8,false,l,k',0,0,0,0,0,0,0,(),x1,x2,x3,w64 (x4-1),w64 (x5-1),x6,wk .u16 x7,r',()):=by
  intro j
  induction j with
  |zero=>
   intro i hi k r hk hr N hN;obtain⟨N,rfl⟩:∃m,N=m+1:=⟨N-1,by omega⟩;refine⟨k,r,hk,by omega,?_⟩
   obtain rfl:i=8:=by omega
   rfl
  |succ j ih=>
   intro i hi k r hk hr N hN;obtain⟨N,rfl⟩:∃m,N=m+1:=⟨N-1,by omega⟩;obtain⟨k1,r1,Y9,Z5,e⟩:=step i k r hk hr (by omega);obtain⟨k2,r2,hk2,VW,e2⟩:=ih (i+1) (by omega) k1 r1 Y9 Z5 N (by omega);refine⟨k2,r2,hk2,VW,?_⟩;simp only[ct,e,oBS];exact e2
 obtain⟨k8,r,hk8,hr,e⟩:=go 8 0 rfl k7 [] h7 rfl NN (by unfold NN;omega);rw[show ct eG NN (0,l,k7,0,0,0,0,0,0,0,(),x1,x2,x3,w64 (x4-1),w64 (x5-1),x6,wk .u16 x7,[],())=_ from e];exact⟨(x1,x2,x3,w64 (x4-1),w64 (x5-1),x6,wk .u16 x7,r),k8,rfl,by show r.length<=8;omega,hk8⟩
def tz(C:CC)(T:TT'):Prop:=1<=C.length/\shp C T/\SmT T
theorem DT{l:List Int}(hl:l.length<=400){k:Int}(hk:0<=k):∃(C:CC)(T:TT')(k':Int),gH l k=some (C,T,l,k',())/\tz C T/\0<=k':=by
 unfold gH;obtain⟨x1,k1,e,a1,b1,h1⟩:=gh (n:=3) (by omega) (by omega) hl hk;rw[e];simp only[oBS]
 have row:∀(j:Nat)(o:Int)(C:CC)(k:Int)(r:List DCn),0<=k->r.length+j<=32->∀N,j<N->∃k' r',0<=k'/\r'.length=r.length+j /\
  ct gt N (o,(j:Int)-1,l,k,(),(),C,(),r,())=some (o,-1,false,l,k',(),(),C,(),r',()):=by
  intro j o C
  induction j with
  |zero=>
   intro k r hk hr N hN;obtain⟨N,rfl⟩:∃m,N=m+1:=⟨N-1,by omega⟩;exact⟨k,r,hk,by omega,rfl⟩
  |succ j ih=>
   intro k r hk hr N hN;obtain⟨N,rfl⟩:∃m,N=m+1:=⟨N-1,by omega⟩;obtain⟨c,k1,e,Y9⟩:=F1 hl hk
   have e1:gt (o,((j+1:Nat):Int)-1,l,k,(),(),C,(),r,())=some (.inl (o,(j:Int)-1,l,k1,(),(),C,(),r++[c],())):=by
    unfold gt;dsimp only;rw[oDT (show((j+1:Nat):Int)-1>=0 by omega),oCT,e];simp only[oBS];rw[dc (by omega) (by simp) (by omega) (by rw[List.length_singleton];omega),oCT,cY (by omega) (by omega),show((j+1:Nat):Int)-1-1=(j:Int)-1 by omega];rfl
   obtain⟨k2,r2,hk2,VW,e2⟩:=ih k1 (r++[c]) Y9 (by rw[List.length_append,List.length_singleton];omega) N (by omega);refine⟨k2,r2,hk2,by rw[VW,List.length_append,List.length_singleton];omega,?_⟩;simp only[ct,e1,oBS];exact e2
 have Qc:∀(j:Nat)(C:CC)(k:Int),0<=k->C.length+j<=4->(∀c∈C,okZ (c.length:Int)=true)->∀N,j<N->∃k' C',0<=k'/\C'.length=C.length+j/\(∀c∈C',okZ (c.length:Int)=true)/\
  ct gr N ((j:Int)-1,l,k,(),(),C,(),())=some (-1,false,l,k',(),(),C',(),()):=by
  intro j
  induction j with
  |zero=>
   intro C k hk hC ho N hN;obtain⟨N,rfl⟩:∃m,N=m+1:=⟨N-1,by omega⟩;exact⟨k,C,hk,by omega,ho,rfl⟩
  |succ j ih=>
   intro C k hk hC ho N hN;obtain⟨N,rfl⟩:∃m,N=m+1:=⟨N-1,by omega⟩;obtain⟨y,k1,e,ya,yb,Y9⟩:=gh (n:=24) (by omega) (by omega) hl hk;obtain⟨k2,r,hk2,hr,e2⟩:=row (y.toNat+1) (((j+1:Nat):Int)-1) C k1 [] Y9 (by rw[List.length_nil];omega) NN (by unfold NN;omega);rw[show((y.toNat+1:Nat):Int)-1=y by omega]at e2;rw[List.length_nil]at hr
   have e1:gr (((j+1:Nat):Int)-1,l,k,(),(),C,(),())=some (.inl ((j:Int)-1,l,k2,(),(),C++[r],(),())):=by
    unfold gr;dsimp only;rw[oDT (show((j+1:Nat):Int)-1>=0 by omega),oCT,e];simp only[oBS];rw[e2];simp only[oBS];rw[dc (by omega) (by simp) (by omega) (by rw[List.length_singleton];omega),oCT,cY (by omega) (by omega),show((j+1:Nat):Int)-1-1=(j:Int)-1 by omega];rfl
   obtain⟨k3,C3,hk3,hC3,X9,e3⟩:=ih (C++[r]) k2 hk2 (by rw[List.length_append,List.length_singleton];omega) (by
    intro c hc;rcases List.mem_append.1 hc with hc|hc
    ·exact ho c hc
    ·rw[List.mem_singleton.1 hc]
     exact oDT (by omega)) N (by omega)
   refine⟨k3,C3,hk3,by rw[hC3,List.length_append,List.length_singleton];omega,X9,?_⟩;simp only[ct,e1,oBS];exact e3
 obtain⟨k2,C,hk2,hC,ho,e2⟩:=Qc (x1.toNat+1) [] k1 h1 (by rw[List.length_nil];omega) (by simp) NN (by unfold NN;omega);rw[show((x1.toNat+1:Nat):Int)-1=x1 by omega]at e2;rw[List.length_nil]at hC;rw[e2];simp only[oBS];obtain⟨x3,k3,e,a3,b3,h3⟩:=gh (n:=4) (by omega) (by omega) hl hk2;rw[e];simp only[oBS]
 have ths:∀(j:Nat)(T:TT')(k:Int),0<=k->T.length+j<=4->SmT T->∀N,j<N->∃k' T',0<=k'/\T'.length=T.length+j/\SmT T' /\
  ct gq N ((j:Int),l,k,(),(),C,T,())=some (0,false,l,k',(),(),C,T',()):=by
  intro j
  induction j with
  |zero=>
   intro T k hk hT hs N hN;obtain⟨N,rfl⟩:∃m,N=m+1:=⟨N-1,by omega⟩;exact⟨k,T,hk,by omega,hs,rfl⟩
  |succ j ih=>
   intro T k hk hT hs N hN;obtain⟨N,rfl⟩:∃m,N=m+1:=⟨N-1,by omega⟩;obtain⟨v,k1,e,hv,Y9⟩:=II hl hk
   have e1:gq (((j+1:Nat):Int),l,k,(),(),C,T,())=some (.inl ((j:Int),l,k1,(),(),C,T++[v],())):=by
    unfold gq;dsimp only;rw[oDT (show((j+1:Nat):Int)>0 by omega),oCT,e];simp only[oBS];rw[dc (by omega) (by simp) (by omega) (by rw[List.length_singleton];omega),oCT,cY (by omega) (by omega),show((j+1:Nat):Int)-1=(j:Int) by omega];rfl
   obtain⟨k3,T3,hk3,hT3,TY,e3⟩:=ih (T++[v]) k1 Y9 (by rw[List.length_append,List.length_singleton];omega) (by
    intro t ht;rcases List.mem_append.1 ht with ht|ht
    ·exact hs t ht
    ·rw[List.mem_singleton.1 ht];unfold Sm
     omega) N (by omega)
   refine⟨k3,T3,hk3,by rw[hT3,List.length_append,List.length_singleton];omega,TY,?_⟩;simp only[ct,e1,oBS];exact e3
 obtain⟨k4,T,hk4,hT,hs,e4⟩:=ths x3.toNat [] k3 h3 (by rw[List.length_nil];omega) (by intro t ht;simp at ht) NN (by unfold NN;omega);rw[show((x3.toNat:Nat):Int)=x3 by omega]at e4;rw[List.length_nil]at hT;rw[e4];exact⟨C,T,k4,rfl,⟨by omega,⟨by omega,by omega,ho⟩,hs⟩,hk4⟩
theorem Ig{v:DTs}(h:Sm v.2.2.2.2.2.2.2):em v.1 v.2.1 v.2.2.1 v.2.2.2.1 v.2.2.2.2.1 v.2.2.2.2.2.1 v.2.2.2.2.2.2.1 v.2.2.2.2.2.2.2=some (v.1,v.2.1,v.2.2.1,v.2.2.2.1,v.2.2.2.2.1,v.2.2.2.2.2.1,v.2.2.2.2.2.2.1,v.2.2.2.2.2.2.2,()):=by
 unfold em;rw[dc (by omega) h (by omega) (by have:=h;omega),oCT];rfl
theorem LE{C:CC}{T:TT'}(h:shp C T)(hT:SmT T):fH C T=some (C,T,()):=by
 unfold fH;have h4:=h.1
 have step:∀i,i<C.length->dU ((i:Int),C,T,(),(),C.take i,(),())=some (.inl (((i+1:Nat):Int),C,T,(),(),C.take (i+1),(),())):=by
  intro i hi;have hok:=of_decide_eq_true (h.2.2 _ (List.getElem_mem hi));unfold dU;delta cg;dsimp only;rw[oDT (show(i:Int)<C.length by omega),oCT,cL];simp only[oBS,dn hi];rw[dc (by omega) (by omega) (by omega) (by omega),oCT,dc (by rw[oLT];omega) (by simp) (by omega) (by rw[oLT,List.length_singleton];omega),oCT,cY (by omega) (by omega),<- oq hi];rfl
 have fin:dU ((C.length:Int),C,T,(),(),C.take C.length,(),())=some (.inr ((C.length:Int),false,C,T,(),(),C.take C.length,(),())):=by
  unfold dU;delta cg;dsimp only;rw[oDF (show ¬(C.length:Int)<C.length by omega)];rfl
 have:=eS (f:=dU) (λi=>((i:Int),C,T,(),(),C.take i,(),())) (n:=C.length) (N:=NN) (by unfold NN;omega) step fin;rw[show ct dU NN (0,C,T,(),(),[],(),())=_ from this,List.take_length,oBS];dsimp only;have t4:=h.2.1
 have SG:∀i,i<T.length->dS ((i:Int),C,T,(),(),C,T.take i,())=some (.inl (((i+1:Nat):Int),C,T,(),(),C,T.take (i+1),())):=by
  intro i hi;unfold dS;delta cg;dsimp only;rw[oDT (show(i:Int)<T.length by omega),oCT,cL];simp only[oBS,dn hi,Ig (hT _ (List.getElem_mem hi))];rw[dc (by rw[oLT];omega) (by simp) (by omega) (by rw[oLT,List.length_singleton];omega),oCT,cY (by omega) (by omega),<- oq hi];rfl
 have Os:dS ((T.length:Int),C,T,(),(),C,T.take T.length,())=some (.inr ((T.length:Int),false,C,T,(),(),C,T.take T.length,())):=by
  unfold dS;delta cg;dsimp only;rw[oDF (show ¬(T.length:Int)<T.length by omega)];rfl
 have:=eS (f:=dS) (λi=>((i:Int),C,T,(),(),C,T.take i,())) (n:=T.length) (N:=NN) (by unfold NN;omega) SG Os;rw[show ct dS NN (0,C,T,(),(),C,[],())=_ from this,List.take_length];rfl
def ri(C:CC)(T:TT')(D:CC)(U:TT'):Prop:=szs D=szs C/\U.length=T.length/\SmT U
theorem fw{C:CC}{T:TT'}{D:CC}{U:TT'}(h:ri C T D U)(hs:shp C T):shp D U:=by
 rw[<- vu,h.1,h.2.1];exact vu.2 hs
theorem mK{C D:CC}(h:szs D=szs C):D.length=C.length:=by rw[<- fJ D,h,fJ]
theorem uB{C D:CC}(h:szs D=szs C){i:Nat}(hi:i<C.length)(ZM:i<D.length):D[i].length=C[i].length:=by
 have e1:=jQ hi;have e2:=jQ ZM;rw[h,e1]at e2;omega
theorem Ck{C:CC}{i:Nat}{f:List DCn->List DCn}(h:∀c,(f c).length=c.length):szs (C.modify i f)=szs C:=by
 unfold szs;apply List.ext_getElem?;intro j;rw[List.getElem?_map,List.getElem?_map,List.getElem?_modify]
 cases C[j]? with
 |none=>simp
 |some c=>
  simp only[oMS];split
  ·simp[h]
  ·simp
theorem uF{T:TT'}{i:Nat}{v:DTs}(h:SmT T)(hv:Sm v.2.2.2.2.2.2.2):SmT (T.modify i λ_=>v):=by
 intro t ht;obtain⟨j,hj⟩:=List.mem_iff_getElem?.1 ht;rw[List.getElem?_modify]at hj
 cases e:T[j]? with
 |none=>rw[e]at hj;simp at hj
 |some u=>
  rw[e]at hj;have hj:some (if i=j then v else u)=some t:=hj
  injection hj with hj
  split at hj
  ·rw[<- hj];exact hv
  ·rw[<- hj];exact h _ (List.mem_of_getElem? e)
theorem Fd{C:CC}{T:TT'}(h:tz C T){n:Int}(hn:0<=n)(Wm:n<6){l:List Int}(hl:l.length<=400){k:Int}(hk:0<=k):
 ∃(D:CC)(U:TT')(k':Int),gy C T n l k=some (D,U,l,k',())/\ri C T D U/\0<=k':=by
 unfold gy;rw[LE h.2.1 h.2.2,oBS];dsimp only
 obtain⟨t,e,D,U,k',h1,h2,h3⟩:=ux (f:=jq) (λs=>∃(i:Nat)(k:Int)(D:CC)(U:TT'),s=(n,(i:Int),l,k,(),(),D,U,())/\(i:Int)<=n/\0<=k/\ri C T D U)
  (λt=>∃(D:CC)(U:TT')(k:Int),t=(n,n,false,l,k,(),(),D,U,())/\0<=k/\ri C T D U) (λs=>(n-s.2.1).toNat) (n:=NN) (s:=(n,0,l,k,(),(),C,T,())) ⟨0,k,C,T,rfl,hn,hk,rfl,rfl,h.2.2⟩ (by unfold NN;show(n-0).toNat<_;omega) (by
  rintro s ⟨i,k,D,U,rfl,hi,hk,hL⟩;unfold jq;delta cg;dsimp only;have hlD:=mK hL.1;have hD1:=h.1;have hD4:=h.2.1.1;have hU:=hL.2.1;have hU4:=h.2.1.2.1;by_cases hin:(i:Int)<n
  rotate_left
  ·rw[oDF hin]
   obtain rfl:(i:Int)=n:=by omega
   exact⟨_,rfl,D,U,k,rfl,hk,hL⟩
  rw[oDT hin,oCT]
  have QV:∀k0,0<=k0->Ok (((cr (↑D.length) l k0).bind λ(x10,x11,x12,_)=>
   (ek x10).bind λSK=>
   (cU D SK).bind λx14=>
   (cU D SK).bind λx15=>
   (ek x10).bind λQd=>
   (cU D Qd).bind λx17=>
   (cU D Qd).bind λx18=>
   (cU D Qd).bind λx19=>
   (cr (↑x19.length) x11 x12).bind λ(x21,x22,x23,_)=>
   (fE x22 x23).bind λ(x24,x25,x26,x27,x28,x29,_)=>
   (ek x21).bind λQe=>
   (cU D SK).bind λx31=>
   (cU x31 Qe).bind λx32=>
   (cU D SK).bind λx33=>
   (cU x33 Qe).bind λx34=>
   some (n,(i:Int),x28,x29,(),(),(List.modify D SK λe=>(List.modify e Qe λe=>(x24,(x25,(x26,x27))))),U,())):Option (Int×Int×(List (Int))×Int×Unit×Unit×(List (List DCn))×(List DTs)×Unit))
   λr=>∃(k':Int)(D':CC)(U':TT'),r=(n,(i:Int),l,k',(),(),D',U',())/\0<=k'/\ri C T D' U':=by
   intro k0 hk0;dsimp only;obtain⟨y,k1,e,ya,yb,Y9⟩:=gh (n:=(D.length:Int)) (by omega) (by omega) hl hk0;rw[e];obtain⟨a,rfl⟩:∃a:Nat,y=a:=⟨y.toNat,by omega⟩
   have ha:a<D.length:=by omega
   simp only[oBS,cL,dn ha];have hok:1<=(D[a].length:Int)/\(D[a].length:Int)<=32:=of_decide_eq_true ((fw hL h.2.1).2.2 _ (List.getElem_mem ha));obtain⟨z,k2,e,za,zb,hk2⟩:=gh (n:=(D[a].length:Int)) (by omega) (by omega) hl Y9;rw[e];obtain⟨b,rfl⟩:∃b:Nat,z=b:=⟨z.toNat,by omega⟩
   have hb:b<D[a].length:=by omega
   simp only[oBS];obtain⟨c,k3,e,hk3⟩:=F1 hl hk2;rw[e];simp only[oBS,cL,dn hb];exact⟨_,rfl,k3,_,U,rfl,hk3,(Ck λc=>oLM ..).trans hL.1,hL.2.1,hL.2.2⟩
  refine Ok.bind (P:=λr=>∃(k':Int)(D':CC)(U':TT'),r=(n,(i:Int),l,k',(),(),D',U',())/\0<=k'/\ri C T D' U') ?_ ?_
  ·by_cases hp:(U.length:Int)>0
   rotate_left
   ·rw[oDF hp];exact QV k hk
   rw[oDT hp,oCT];obtain⟨y,k1,e,ya,yb,Y9⟩:=gh (n:=3) (by omega) (by omega) hl hk;rw[e];simp only[oBS];by_cases h2:y=2
   rotate_left
   ·rw[oBF h2];exact QV k1 Y9
   rw[beq_iff_eq.2 h2,oCT];obtain⟨z,k2,e,za,zb,hk2⟩:=gh (n:=(U.length:Int)) (by omega) (by omega) hl Y9;rw[e];obtain⟨a,rfl⟩:∃a:Nat,z=a:=⟨z.toNat,by omega⟩
   have ha:a<U.length:=by omega
   simp only[oBS];obtain⟨v,k3,e,hv,hk3⟩:=II hl hk2;rw[e];simp only[oBS,cL,dn ha];exact⟨_,rfl,k3,D,_,rfl,hk3,hL.1,(oLM ..).trans hL.2.1,uF hL.2.2 (show v.2.2.2.2.2.2.2.length<=1099511627776 by omega)⟩
  ·rintro r ⟨k',D',U',rfl,YR,Q3⟩;dsimp only;rw[cY (by omega) (by omega)]
   exact⟨_,rfl,⟨i+1,k',D',U',rfl,by omega,YR,Q3⟩,by show(n-((i:Int)+1)).toNat<(n-(i:Int)).toNat;omega⟩)
 rw[e,h1];exact⟨D,U,k',rfl,h3,h2⟩
theorem Ls(l:List Int):ov l=some (decide (l.length<=400),()):=by
 unfold ov;delta cg;dsimp only;congr 2;rw[decide_eq_decide];omega
theorem rB{C:CC}{T:TT'}{D:CC}{U:TT'}{E:CC}{V:TT'}(h:tz C T)(h1:ri C T D U)(h2:ri C T E V):Kv D U E V:=
 ⟨fw h1 h.2.1,fw h2 h.2.1,h1.1.trans h2.1.symm,h1.2.1.trans h2.2.1.symm⟩
theorem xN{C:CC}{T:TT'}(h:tz C T):ri C T C T:=⟨rfl,rfl,h.2.2⟩
theorem mR{C:CC}{T:TT'}{D:CC}{U:TT'}(h:tz C T)(h1:ri C T D U):tz D U:=⟨by rw[mK h1.1];exact h.1,fw h1 h.2.1,h1.2.2⟩
theorem p6{C:CC}{T:TT'}{D:CC}{U:TT'}{E:CC}{V:TT'}(h1:ri C T D U)(h2:ri D U E V):ri C T E V:=⟨h2.1.trans h1.1,h2.2.1.trans h1.2.1,h2.2.2⟩
theorem p5{C:CC}{T:TT'}{D:CC}{U:TT'}{p:PID}:p∈dif C T D U↔p∈pgs (szs C) T.length/\pg C T p≠pg D U p:=by
 unfold dif;simp
theorem BC{S T:Type}{f:S->Option (S⊕T)}(P:Nat->S->Prop)(R:T->Prop){n:Nat}(step:∀i s,i<n->P i s->∃s',f s=some (.inl s')/\P (i+1) s')(fin:∀s,P n s->∃t,f s=some (.inr t)/\R t){s:S}(h:P 0 s){N:Nat}(hn:n<N):
 ∃t,ct f N s=some t/\R t:=by
 have ZR:∀k i s,i+k=n->P i s->∀M,k<M->∃t,ct f M s=some t/\R t:=by
  intro k
  induction k with
  |zero=>
   intro i s hi hP M hM;obtain⟨M,rfl⟩:∃m,M=m+1:=⟨M-1,by omega⟩
   obtain rfl:i=n:=by omega
   obtain⟨t,e,hR⟩:=fin s hP;exact⟨t,by simp[ct,e],hR⟩
  |succ k ih=>
   intro i s hi hP M hM;obtain⟨M,rfl⟩:∃m,M=m+1:=⟨M-1,by omega⟩;obtain⟨s',e,hP'⟩:=step i s (by omega) hP;obtain⟨t,e2,hR⟩:=ih (i+1) s' (by omega) hP' M (by omega);exact⟨t,by simp only[ct,e,oBS];exact e2,hR⟩
 exact ZR n 0 s (by omega) h N hn
theorem IR{C:CC}{T:TT'}{D:CC}{U:TT'}(h:shp C T)(hT:SmT T):eP C T D U=some (decide (C=D/\T=U),()):=by
 unfold eP;delta cg;dsimp only;by_cases hl:C.length=D.length
 rotate_left
 ·rw[sb hl,oCT,oDF (p:=C=D/\T=U) λe=>hl (by rw[e.1])]
 rw[uS hl,oCF];by_cases hm:T.length=U.length
 rotate_left
 ·rw[sb hm,oCT,oDF (p:=C=D/\T=U) λe=>hm (by rw[e.2])]
 rw[uS hm,oCF];have c4:=h.1;have t4:=h.2.1
 have q1:=ma (f:=fG) hl (by unfold Sm;omega) (λi=>((i:Int),C,T,D,U,())) (bad:=.inl (false,())) (fin:=.inr ((C.length:Int),false,C,T,D,U,()))
  (λi h1 h2=>by
   have hok:=of_decide_eq_true (h.2.2 _ (List.getElem_mem h1));unfold fG;delta cg;dsimp only;rw[oDT (show(i:Int)<C.length by omega),oCT,cL];simp only[oBS,dn h1,dn h2];rw[pM (by unfold Sm;omega)];simp only[oBS,pi];rw[cY (by omega) (by omega)]
   rfl)
  (by
   unfold fG;delta cg;dsimp only;rw[oDF (show ¬(C.length:Int)<C.length by omega)]
   rfl)
 have q2:=ma (f:=fF) hm (by unfold Sm;omega) (λi=>((i:Int),C,T,D,U,())) (bad:=.inl (false,())) (fin:=.inr ((T.length:Int),false,C,T,D,U,()))
  (λi h1 h2=>by
   unfold fF;delta cg;dsimp only;rw[oDT (show(i:Int)<T.length by omega),oCT,cL];simp only[oBS,dn h1,dn h2];rw[xw (hT _ (List.getElem_mem h1))];simp only[oBS,pi];rw[cY (by omega) (by omega)]
   rfl)
  (by
   unfold fF;delta cg;dsimp only;rw[oDF (show ¬(T.length:Int)<T.length by omega)]
   rfl)
 rw[show ct fG NN (0,C,T,D,U,())=_ from q1];by_cases e1:C=D
 rotate_left
 ·rw[oDF e1,oDF (p:=C=D/\T=U) λe=>e1 e.1];rfl
 rw[oDT e1];dsimp only[oCT];rw[show ct fF NN (0,C,T,D,U,())=_ from q2];by_cases e2:T=U
 ·rw[oDT e2,oDT (p:=C=D/\T=U) ⟨e1,e2⟩];rfl
 ·rw[oDF e2,oDF (p:=C=D/\T=U) λe=>e2 e.2];rfl
theorem E7{C:CC}{T:TT'}{D:CC}{U:TT'}(hs:szs D=szs C)(hU:U.length=T.length)(h:∀q∈pgs (szs C) T.length,pg C T q=pg D U q):C=D/\T=U:=by
 have hl:=mK hs;constructor
 ·refine List.ext_getElem hl.symm λi h1 h2=>?_;have hlen:=uB hs h1 h2;apply List.ext_getElem?;intro k;by_cases hk:k<C[i].length
  rotate_left
  ·rw[oGN (by omega),oGN (by omega)]
  have hq:((i:Int),((k/8:Nat):Int))∈pgs (szs C) T.length:=by
   refine kr.2 (.inl ⟨i,k/8,by rw[fJ];exact h1,?_,rfl⟩);rw[jQ h1];unfold u9;omega
  have e:=h _ hq;rw[nA h1,nA h2]at e;have e1:(C[i].drop (8*(k/8))).take 8=(D[i].drop (8*(k/8))).take 8:=congrArg (λx:PG=>x.2.2.1) e;have e2:=congrArg (λx:List DCn=>x[k%8]?) e1;simp only[List.getElem?_take,List.getElem?_drop]at e2;rw[oIP (Nat.mod_lt _ (by omega)),oIP (Nat.mod_lt _ (by omega)),Nat.div_add_mod]at e2;exact e2
 ·refine List.ext_getElem hU.symm λt h1 h2=>?_;have e:=h (-1,(t:Int)) (kr.2 (.inr ⟨t,h1,rfl⟩));rw[ge h1,ge h2]at e;exact congrArg (λx:PG=>x.2.2.2) e
theorem uE{c x:List DCn}{a k:Nat}(h:a+x.length<=c.length):(gO c a x.length x)[k]?=if k<a then c[k]? else if k<a+x.length then x[k-a]? else c[k]?:=by
 unfold gO;rw[List.take_length];by_cases h1:k<a
 ·rw[oIP h1,List.append_assoc,List.getElem?_append_left (by rw[oLT];omega),List.getElem?_take,oIP h1]
 ·rw[oIN h1];by_cases h2:k<a+x.length
  ·rw[oIP h2,List.getElem?_append_left (by rw[List.length_append,oLT];omega),List.getElem?_append_right (by rw[oLT];omega),oLT,Nat.min_eq_left (by omega)]
  ·rw[oIN h2,List.getElem?_append_right (by rw[List.length_append,oLT];omega),List.length_append,oLT,Nat.min_eq_left (by omega),List.getElem?_drop];congr 1;omega
theorem Cn{c x:List DCn}{a:Nat}(h:a+x.length<=c.length):(gO c a x.length x).length=c.length:=by
 unfold gO;rw[List.take_length,List.length_append,List.length_append,oLT,List.length_drop,Nat.min_eq_left (by omega)];omega
theorem Eu{α:Type}{l:List α}{i:Nat}{x:α}:l.set i x=l.modify i λ_=>x:=by
 apply List.ext_getElem?;intro k;rw[List.getElem?_set,List.getElem?_modify];by_cases e:i=k
 ·subst e;by_cases h:i<l.length
  ·simp[h]
  ·simp[h]
 ·simp[e]
theorem La{c:List DCn}{j:Nat}(hc:c.length<=32)(h:8*j<c.length):gz c (j:Int)=some ((c.drop (8*j)).take 8,()):=by
 unfold gz;delta cg;dsimp only;rw[oDF (show ¬(j:Int)<0 by omega),oCF,oDF (show ¬(j:Int)>32 by omega),oCF];simp only[oBS];rw[cY (x:=(j:Int)*8) (by omega) (by omega),oDF (show ¬(j:Int)*8>=(c.length:Int) by omega),oCF,cY (x:=(j:Int)*8+8) (by omega) (by omega)];rw[show(j:Int)*8=((8*j:Nat):Int) by omega,show((8*j:Nat):Int)+8=((8*j+8:Nat):Int) by omega,zK,cL,cL];simp only[oBS]
 have ho:lJ (8*j) (Nat.min (8*j+8) c.length) c.length=true:=by
  unfold lJ;have h1:Nat.min (8*j+8) c.length=min (8*j+8) c.length:=rfl;rw[h1];simp only[oBA,oDE];omega
 rw[ho,oCT,DN (by omega)]
theorem I0{C:CC}{T:TT'}(h:shp C T){p:PID}(hp:p∈pgs (szs C) T.length):iL C T p.1 p.2=some (0,()):=by
 have h4:=h.1;unfold iL;rw[Bo (show Sm C by unfold Sm;omega),oBS];dsimp only;rw[oDT h,oNT,oCF]
 have ht:ja C T p.1 p.2=some (true,()):=by
  unfold ja
  rcases kr.1 hp with⟨i,j,hi,hj,rfl⟩|⟨t,ht,rfl⟩
  ·rw[fJ]at hi;rw[jQ hi]at hj;have ZU:=xL hj;have hok:=of_decide_eq_true (h.2.2 _ (List.getElem_mem hi));delta cg;dsimp only;rw[oBF (show((i:Int))≠-1 by omega),oCF,oDT (show(i:Int)>=0 by omega),oCT,oDT (show(i:Int)<(C.length:Int) by omega),oCT,cL];simp only[oBS,dn hi];rw[La (by omega) ZU,oBS];dsimp only;rw[oDT];simp only[oLT,List.length_drop];omega
  ·delta cg;dsimp only;rw[show((-1:Int)==-1)=true from rfl,oCT,oDT (show(t:Int)>=0 by omega),oCT,oDT (show(t:Int)<(T.length:Int) by omega)]
 rw[ht];rfl
theorem H8(C:CC)(T:TT')(a b:Int):d7 C T a b=iL C T a b:=by kernel_rfl
theorem I1{C:CC}{T:TT'}(h:shp C T){p:PID}(hp:p∈pgs (szs C) T.length):d7 C T p.1 p.2=some (0,()):=(H8 C T p.1 p.2).trans (I0 h hp)
theorem IP{C:CC}{T:TT'}(h:tz C T){x y:List DCn}(hx:Sm x)(hy:Sm y):EC C T x y=true:=by
 have h1:=h.2.1.1;have h2:=h.2.1.2.1;simp only[EC,oBA,oDE,List.all_eq_true];refine⟨⟨⟨⟨⟨by omega,λc hc=>?_⟩,by omega⟩,λt ht=>h.2.2 t ht⟩,hx⟩,hy⟩;have:=of_decide_eq_true (h.2.1.2.2 c hc);omega
theorem L8{C:CC}{T:TT'}{D:CC}{U:TT'}(h:tz C T)(hL:ri C T D U){p:PID}(hp:p∈pgs (szs C) T.length):
 ∃(C':CC)(T':TT'),de C T (pg D U p).1 (pg D U p).2.1 (pg D U p).2.2.1 (pg D U p).2.2.2.1 (pg D U p).2.2.2.2.1 (pg D U p).2.2.2.2.2.1 (pg D U p).2.2.2.2.2.2.1 (pg D U p).2.2.2.2.2.2.2.1 (pg D U p).2.2.2.2.2.2.2.2.1 (pg D U p).2.2.2.2.2.2.2.2.2.1 (pg D U p).2.2.2.2.2.2.2.2.2.2=some (C',T',0,())/\
  ri C T C' T'/\∀q∈pgs (szs C) T.length,pg C' T' q=if q=p then pg D U p else pg C T q:=by
 have hC4:=h.2.1.1;have hlD:=mK hL.1
 rcases kr.1 hp with⟨i,j,hi,hj,rfl⟩|⟨t,ht,rfl⟩
 ·rw[fJ]at hi
  have ZM:i<D.length:=by omega
  rw[jQ hi]at hj;have ZU:=xL hj;have YS:=uB hL.1 hi ZM;have hok:=of_decide_eq_true (h.2.1.2.2 _ (List.getElem_mem hi));rw[nA ZM];dsimp only;obtain⟨x,hx⟩:∃x,x=(D[i].drop (8*j)).take 8:=⟨_,rfl⟩
  have Sz:x.length=min 8 (C[i].length-8*j):=by rw[hx,oLT,List.length_drop,YS]
  rw[<- hx]
  have ZP:jS C[i] j x=gO C[i] (8*j) x.length x:=by
   unfold jS gO;rw[List.take_length]
  have hset:de C T (i:Int) (j:Int) x 0 0 0 0 0 0 0 []=some (C.modify i λ_=>gO C[i] (8*j) x.length x,T,0,()):=by
   unfold de;rw[oIP (IP h (by omega) (by simp)),show d7 C T (i:Int) (j:Int)=_ from I1 h.2.1 hp,oBS];dsimp only;rw[oIN (by simp),oIN (by omega),oIP ⟨by omega,by simpa using hi,by omega,by omega,by simp only[oTN];rw[show C.getD i []=C[i] by simp[oGD,hi]];exact ZU⟩];simp only[oTN];rw[show C.getD i []=C[i] by simp[oGD,hi],show gb 0 0 0 0 0 0 0 []=some (true,()) by kernel_rfl,oBS];dsimp only;rw[oIN (by simp;omega),ZP,Eu]
  have hfit:8*j+x.length<=C[i].length:=by omega
  have Yx:(C.modify i λ_=>gO C[i] (8*j) x.length x).length=C.length:=oLM ..
  have Z6:∀i' (h1:i'<C.length),(C.modify i λ_=>gO C[i] (8*j) x.length x)[i']'(by rw[Yx];exact h1)=if i=i' then gO C[i] (8*j) x.length x else C[i']:=by
   intro i' h1;rw[List.getElem_modify]
  refine⟨_,T,hset,⟨?_,rfl,h.2.2⟩,?_⟩
  ·unfold szs;apply List.ext_getElem?;intro k;rw[List.getElem?_map,List.getElem?_map];by_cases hk:k<C.length
   ·rw[oGE (by rw[Yx];exact hk),oGE hk,Z6 k hk];simp only[oMS];by_cases e:i=k
    ·subst e;rw[oIP rfl,Cn hfit]
    ·rw[oIN e]
   ·rw[oGN (by rw[Yx];omega),oGN (by omega)]
  ·intro q hq
   rcases kr.1 hq with⟨a,b,ha,Z',rfl⟩|⟨t,ht,rfl⟩
   ·rw[fJ]at ha;rw[jQ ha]at Z';have Z9:=xL Z';rw[nA (show a<(C.modify i λ_=>gO C[i] (8*j) x.length x).length by rw[Yx];exact ha),Z6 a ha,nA ha];by_cases e:i=a
    ·subst e;rw[oIP rfl];by_cases e2:b=j
     ·subst e2;rw[oIP rfl];congr 3;apply List.ext_getElem?;intro k;rw[List.getElem?_take,List.getElem?_drop,uE hfit];by_cases hk:k<8
      ·rw[oIP hk,oIN (by omega)];by_cases hk2:k<x.length
       ·rw[oIP (by omega),show 8*b+k-8*b=k by omega]
       ·rw[oIN (by omega),oGN (by omega),oGN (by omega)]
      ·rw[oIN hk,oGN (by omega)]
     ·rw[oIN (by intro g;injection g with g1 g2;omega)];congr 3;apply List.ext_getElem?;intro k;rw[List.getElem?_take,List.getElem?_drop,List.getElem?_take,List.getElem?_drop,uE hfit];by_cases hk:k<8
      ·rw[oIP hk,oIP hk];by_cases hk3:8*b+k<8*j
       ·rw[oIP hk3]
       ·rw[oIN hk3,oIN (by omega)]
      ·rw[oIN hk,oIN hk]
    ·rw[oIN e,oIN (by intro g;injection g with g1 g2;omega)]
   ·rw[ge ht,oIN (by intro g;injection g with g1 g2;omega),ge ht]
 ·have YZ:t<U.length:=by rw[hL.2.1];exact ht
  rw[ge YZ];dsimp only
  have hset:de C T (-1) (t:Int) [] U[t].1 U[t].2.1 U[t].2.2.1 U[t].2.2.2.1 U[t].2.2.2.2.1 U[t].2.2.2.2.2.1 U[t].2.2.2.2.2.2.1 U[t].2.2.2.2.2.2.2=some (C,T.modify t λ_=>U[t],0,()):=by
   unfold de;rw[oIP (IP h (by simp) (hL.2.2 _ (List.getElem_mem YZ))),show d7 C T (-1) (t:Int)=_ from I1 h.2.1 hp,oBS];dsimp only;rw[oIN (by simp),oIP rfl,oIN (by simp),oIP ⟨by omega,by simpa using ht⟩];simp only[oTN];rw[Eu]
  have Yx:(T.modify t λ_=>U[t]).length=T.length:=oLM ..
  have Z6:∀i' (h1:i'<T.length),(T.modify t λ_=>U[t])[i']'(by rw[Yx];exact h1)=if t=i' then U[t]else T[i']:=by
   intro i' h1;rw[List.getElem_modify]
  refine⟨C,T.modify t λ_=>U[t],hset,⟨rfl,Yx,uF h.2.2 (hL.2.2 _ (List.getElem_mem YZ))⟩,?_⟩;intro q hq
  rcases kr.1 hq with⟨a,b,ha,Z',rfl⟩|⟨s,hs,rfl⟩
  ·rw[fJ]at ha;rw[nA ha,oIN (by intro g;injection g with g1 g2;omega),nA ha]
  ·rw[ge (show s<(T.modify t λ_=>U[t]).length by rw[Yx];exact hs),Z6 s hs,ge hs];by_cases e:t=s
   ·subst e;rw[oIP rfl,oIP rfl]
   ·rw[oIN e,oIN (by intro g;injection g with g1 g2;omega)]
theorem IN{f t:Int}(h1:0<=f)(h2:t<=200)(h3:f<=t):iN f t=some (0,()):=by
 unfold iN;rw[oDF (show ¬f<0 by omega),oCF,oDF (show ¬t>200 by omega),oCF,oDF (show ¬f>t by omega)];rfl
theorem IY(x:PID):iM x.1 x.2=some (nc x.1,()):=by
 unfold iM nc;by_cases h:x.1=-1
 ·rw[h];rfl
 ·rw[oBF h,oIN h];rfl
theorem Mm(x y:Int):cO x y=some (vb x y,()):=by
 unfold cO ee vb;simp only[bne_self_eq_false,oBS,oCF];by_cases h:x<y
 ·simp[h]
 ·by_cases h2:y<x
  ·simp[h,h2]
  ·simp[h,h2]
theorem MA(x y z:Int):gN [x,y,z]=some (orI x y z,()):=by
 unfold gN;delta cg;dsimp only
 have h2:=oM (f:=dI) (st:=λi=>((0:Int),[x,y,z],(3:Int),(i:Int),())) (p:=λi=>[x,y,z].getD i 0=0) (n:=3) (N:=NN) (bad:=λi=>.inl ([x,y,z].getD i 0,())) (fin:=.inr (0,[x,y,z],3,3,false,())) (oI (by omega)) (λi hi=>by
  unfold dI;dsimp only;rw[oDT (show(i:Int)<3 by omega),oCT,cL];simp only[oBS];have hl:i < [x,y,z].length:=hi;rw[dn hl,oBS]
  have e:[x,y,z].getD i 0=[x,y,z][i]:=by rw[oGD,oGE hl];rfl
  rw[e];generalize[x,y,z][i]=v;by_cases h:v=0
  ·subst h;refine .inl ⟨rfl,?_⟩;rw[bne_self_eq_false,oCF,cY (by omega) (by omega)];rfl
  ·refine .inr ⟨h,?_⟩
   rw[bne_iff_ne.2 h,oCT]) (by
  unfold dI
  rfl)
 rcases h2 with⟨h1,h2⟩|⟨k,hk,h1,h3,h2⟩
 ·rw[show ct dI NN (0,[x,y,z],([x,y,z].length:Int),0,())=_ from h2];have a:=h1 0 (by omega);have b:=h1 1 (by omega);have c:=h1 2 (by omega);simp at a b c;subst a b c;rfl
 ·rw[show ct dI NN (0,[x,y,z],([x,y,z].length:Int),0,())=_ from h2];dsimp only
  match k,hk with
  |0,_=>simp at h3;simp[orI,h3]
  |1,_=>have a:=h1 0 (by omega);simp at a h3;simp[orI,h3,a]
  |2,_=>have a:=h1 0 (by omega);have b:=h1 1 (by omega);simp at a b h3;simp[orI,a,b]
theorem J3(x y:PID):jc x.1 x.2 y.1 y.2=some (DI x y,()):=by
 unfold jc;rw[IY,IY];simp only[oBS,Mm,MA];rfl
def Mv(l:List PG):Prop:=∀i (h:i+1<l.length),fb (l[i].1,l[i].2.1) (l[i+1].1,l[i+1].2.1)=true
theorem AH{f t:Int}{l:List PG}(h1:0<=f)(h2:t<=200)(h3:f<=t)(hl:Sm l)(ha:Mv l):fR f t l=some (0,()):=by
 unfold fR;rw[IN h1 h2 h3,oBS];dsimp only;rw[bne_self_eq_false,oCF]
 have h:=eS (f:=eZ) (st:=λi=>(((i+1:Nat):Int),f,t,l,())) (n:=l.length-1) (N:=NN) (fin:=.inr ((((l.length-1)+1:Nat):Int),false,f,t,l,())) (oI (by omega)) (λi hi=>by
  unfold eZ;delta cg;dsimp only;rw[oDT (show((i+1:Nat):Int)<(l.length:Int) by omega),oCT,cY (x:=((i+1:Nat):Int)-1) (by omega) (by omega),show((i+1:Nat):Int)-1=(i:Int) by omega,cL,cL];simp only[oBS];rw[dn (show i<l.length by omega),dn (show i+1<l.length by omega)];simp only[oBS];have e:=J3 (l[i].1,l[i].2.1) (l[i+1].1,l[i+1].2.1);rw[e,oBS]
  have ho:DI (l[i].1,l[i].2.1) (l[i+1].1,l[i+1].2.1)<0:=by
   have:=ha i (by omega);rw[<- oL]at this;exact of_decide_eq_true this
  dsimp only;rw[oDF (by omega),oCF,cY (by omega) (by omega)]
  rfl) (by
  unfold eZ;delta cg;dsimp only
  rw[oDF (by omega),oCF])
 rw[show ct eZ NN (1,f,t,l,())=_ from h]
theorem yU{i j i' j':Nat}(h:i<i'\/i=i'/\j<j'):fb ((i:Int),(j:Int)) ((i':Int),(j':Int))=true:=by
 unfold fb;rw[oBF (show(i:Int)≠-1 by omega),oBF (show(i':Int)≠-1 by omega)];rcases h with h|⟨rfl,h⟩
 ·simp[h]
 ·simp[h]
theorem Kq(S:List Int)(n:Nat):Asc (pgs S n):=by
 have hr:∀m:Nat,(List.range m).Pairwise (· < ·):=λm=>List.pairwise_lt_range;unfold pgs;refine List.pairwise_append.2 ⟨List.pairwise_flatMap.2 ⟨λi _=>?_,?_⟩,?_,?_⟩
 ·unfold uM;exact List.pairwise_map.2 ((hr _).imp λ{a b} h=>yU (.inr ⟨rfl,h⟩))
 ·refine(hr _).imp λ{a b} h x hx y hy=>?_;obtain⟨j,_,rfl⟩:=vJ.1 hx;obtain⟨j',_,rfl⟩:=vJ.1 hy;exact yU (.inl h)
 ·refine List.pairwise_map.2 ((hr _).imp λ{a b} h=>?_);unfold fb;simp[h]
 ·intro x hx y hy;obtain⟨i,_,hx⟩:=List.mem_flatMap.1 hx;obtain⟨j,_,rfl⟩:=vJ.1 hx;obtain⟨t,_,rfl⟩:=List.mem_map.1 hy;unfold fb;rw[oBF (show(i:Int)≠-1 by omega)];rfl
theorem mE(C:CC)(T:TT')(D:CC)(U:TT'):Asc (dif C T D U):=List.Pairwise.filter _ (Kq _ _)
theorem F9{D:CC}{U:TT'}{l:List PID}(h:Asc l):Mv (l.map (pg D U)):=λi hi=>by
 have hi2:i+1<l.length:=by simpa using hi
 simp only[List.getElem_map];rw[Hh,Hh];exact List.pairwise_iff_getElem.1 h i (i+1) (by omega) hi2 (by omega)
theorem Mh{C:CC}{T:TT'}(h:shp C T)(hT:SmT T){p:PID}(hp:p∈pgs (szs C) T.length):kZ C T p.1 p.2=some ((pg C T p).1,(pg C T p).2.1,(pg C T p).2.2.1,(pg C T p).2.2.2.1,(pg C T p).2.2.2.2.1,(pg C T p).2.2.2.2.2.1,(pg C T p).2.2.2.2.2.2.1,(pg C T p).2.2.2.2.2.2.2.1,(pg C T p).2.2.2.2.2.2.2.2.1,(pg C T p).2.2.2.2.2.2.2.2.2.1,(pg C T p).2.2.2.2.2.2.2.2.2.2,0,()):=by
 unfold kZ;rw[I0 h hp,oBS];dsimp only;rw[bne_self_eq_false,oCF,Lp h hT hp];rfl
theorem BB{C:CC}{T:TT'}{D:CC}{U:TT'}(h:Kv C T D U)(hT:SmT T)(hU:SmT U){f t:Int}(h1:0<=f)(h2:t<=200)(h3:f<=t):d9 C T D U f t=some (f,t,(dif C T D U).map (pg D U),0,()):=by
 have hlen:=oc (D:=D) (U:=U) h.1;unfold d9;rw[F8 h hT hU,oBS];dsimp only;rw[bne_self_eq_false,oCF,IN h1 h2 h3,oBS];delta cg;dsimp only;rw[bne_self_eq_false,oCF];obtain⟨l,hl⟩:∃l,l=dif C T D U:=⟨_,rfl⟩
 have Zr:∀p∈l,p∈pgs (szs D) U.length:=λp hp=>by
  rw[hl]at hp;rw[<- h.2.2.1,<- h.2.2.2];exact(p5.1 hp).1
 rw[<- hl]at hlen⊢
 have RJ:=eS (f:=fI) (st:=λi=>((l.length:Int),(i:Int),D,U,(0:Int),(0:Int),(),l,f,t,(l.take i).map (pg D U),())) (n:=l.length) (N:=NN) (fin:=.inr ((l.length:Int),(l.length:Int),false,D,U,(0:Int),(0:Int),(),l,f,t,(l.take l.length).map (pg D U),())) (oI (by omega)) (λi hi=>by
  unfold fI;dsimp only;rw[oDT (show(i:Int)<(l.length:Int) by omega),oCT,cL];simp only[oBS];rw[dn hi];simp only[oBS];rw[Mh h.2.1 hU (Zr _ (List.getElem_mem hi)),oBS];dsimp only;rw[bne_self_eq_false,oCF,dc (by rw[List.length_map,oLT];omega) (by simp) (by omega) (by rw[List.length_map,oLT];simp;omega),oCT,cY (by omega) (by omega)];rw[<- jO hi]
  rfl) (by
  unfold fI;dsimp only
  rw[oDF (by omega),oCF])
 rw[show ct fI NN ((l.length:Int),0,D,U,0,0,(),l,f,t,[],())=_ from RJ];dsimp only;rw[List.take_length]
def Jb(C:CC)(T:TT')(D:CC)(U:TT')(W:PID->Prop)(C':CC)(T':TT'):Prop:=
 ri C T C' T'/\∀q∈pgs (szs C) T.length,(W q->pg C' T' q=pg D U q)/\(¬W q->pg C' T' q=pg C T q)
theorem Bz{C:CC}{T:TT'}{D:CC}{U:TT'}{W W':PID->Prop}{C':CC}{T':TT'}(hP:Jb C T D U W C' T')(h:∀q,W q↔W' q):Jb C T D U W' C' T':=
 ⟨hP.1,λq hq=>⟨λw=>(hP.2 q hq).1 ((h q).2 w),λn=>(hP.2 q hq).2 λw=>n ((h q).1 w)⟩⟩
theorem E3{C:CC}{T:TT'}{D:CC}{U:TT'}(h:tz C T)(hL:ri C T D U){W:PID->Prop}{C':CC}{T':TT'}(hP:Jb C T D U W C' T'){p:PID}(hp:p∈pgs (szs C) T.length):
 ∃(C2:CC)(T2:TT'),de C' T' (pg D U p).1 (pg D U p).2.1 (pg D U p).2.2.1 (pg D U p).2.2.2.1 (pg D U p).2.2.2.2.1 (pg D U p).2.2.2.2.2.1 (pg D U p).2.2.2.2.2.2.1 (pg D U p).2.2.2.2.2.2.2.1 (pg D U p).2.2.2.2.2.2.2.2.1 (pg D U p).2.2.2.2.2.2.2.2.2.1 (pg D U p).2.2.2.2.2.2.2.2.2.2=some (C2,T2,0,())/\
  Jb C T D U (λq=>W q\/q=p) C2 T2:=by
 have h':=mR h hP.1;have Q3:ri C' T' D U:=⟨hL.1.trans hP.1.1.symm,hL.2.1.trans hP.1.2.1.symm,hL.2.2⟩
 have hp':p∈pgs (szs C') T'.length:=by rw[hP.1.1,hP.1.2.1];exact hp
 obtain⟨C2,T2,e,h1,h2⟩:=L8 h' Q3 hp';refine⟨C2,T2,e,p6 hP.1 h1,λq hq=>?_⟩;have h3:=h2 q (by rw[hP.1.1,hP.1.2.1];exact hq);have h4:=hP.2 q hq;by_cases g:q=p
 ·subst g;rw[oIP rfl]at h3;exact⟨λ_=>h3,λn=>absurd (.inr rfl) n⟩
 ·rw[oIN g]at h3;rw[h3];exact⟨λw=>h4.1 (w.resolve_right g),λn=>h4.2 λw=>n (.inl w)⟩
theorem sc{α:Type}{l:List α}{i:Nat}(h:i<l.length){f:α->α}(hf:f l[i]=l[i]):l.modify i f=l:=by
 apply List.ext_getElem?;intro k;rw[List.getElem?_modify];by_cases e:i=k
 ·subst e;rw[oGE h];simp[hf]
 ·simp[e]
theorem LD{C:CC}{T:TT'}(h:shp C T)(hT:SmT T):iD C T=some (C,T,()):=by
 have h1:=h.1;have h2:=h.2.1;unfold iD
 have e1:dZ C=some (C,()):=by
  unfold dZ;rw[dc (by omega) (by omega) (by omega) (by omega),oCT];rfl
 have e2:eR T=some (T,()):=by
  unfold eR;rw[dc (by omega) (by omega) (by omega) (by omega),oCT];rfl
 rw[e1,oBS];dsimp only;rw[e2,oBS];delta cg;dsimp only
 have l0:=eS (f:=eK) (st:=λi=>((C.length:Int),(i:Int),C,T,(),(),())) (n:=C.length) (N:=NN) (fin:=((C.length:Int),(C.length:Int),false,C,T,(),(),())) (oI (by omega)) (λi hi=>by
  unfold eK;dsimp only;have hok:=of_decide_eq_true (h.2.2 _ (List.getElem_mem hi));rw[oDT (show(i:Int)<(C.length:Int) by omega),oCT,cL];simp only[oBS];rw[dn hi];simp only[oBS];rw[wM (by unfold Sm;omega),oBS];dsimp only;rw[sc hi rfl,cY (by omega) (by omega)]
  rfl) (by
  unfold eK;dsimp only
  rw[oDF (by omega),oCF])
 rw[show ct eK NN ((C.length:Int),0,C,T,(),(),())=_ from l0,oBS];dsimp only
 have l1:=eS (f:=eJ) (st:=λi=>((T.length:Int),(i:Int),C,T,(),(),())) (n:=T.length) (N:=NN) (fin:=((T.length:Int),(T.length:Int),false,C,T,(),(),())) (oI (by omega)) (λi hi=>by
  unfold eJ;dsimp only;rw[oDT (show(i:Int)<(T.length:Int) by omega),oCT,cL];simp only[oBS];rw[dn hi];simp only[oBS];unfold gM;rw[wM (hT _ (List.getElem_mem hi))];simp only[oBS];rw[sc hi rfl,cY (by omega) (by omega)]
  rfl) (by
  unfold eJ;dsimp only
  rw[oDF (by omega),oCF])
 rw[show ct eJ NN ((T.length:Int),0,C,T,(),(),())=_ from l1];rfl
theorem AP{C:CC}{T:TT'}{D:CC}{U:TT'}(h:tz C T)(hL:ri C T D U){l:List PID}(ha:Asc l)(hl:l.length<=1000)(hm:∀p∈l,p∈pgs (szs C) T.length){f t:Int}(h1:0<=f)(h2:t<=200)(h3:f<=t):
 ∃(C':CC)(T':TT'),dP C T f f t (l.map (pg D U))=some (C',T',0,())/\Jb C T D U (·∈l) C' T':=by
 unfold dP;rw[AH h1 h2 h3 (by unfold Sm;rw[List.length_map];omega) (F9 ha),oBS];delta cg;dsimp only;rw[bne_self_eq_false,oCF,bne_self_eq_false,oCF,LD h.2.1 h.2.2,oBS];dsimp only;rw[List.length_map]
 obtain⟨r,hr,C',T',e,hP⟩:=BC (f:=fa) (P:=λi s=>∃(C':CC)(T':TT'),s=(l.map (pg D U),(l.length:Int),(i:Int),f,t,l.map (pg D U),(),(),C',T',())/\Jb C T D U (·∈l.take i) C' T')
  (R:=λr=>∃(C':CC)(T':TT'),r=.inr (l.map (pg D U),(l.length:Int),(l.length:Int),false,f,t,l.map (pg D U),(),(),C',T',())/\Jb C T D U (·∈l) C' T') (n:=l.length) (λi s hi hs=>by
   obtain⟨C',T',rfl,hP⟩:=hs;obtain⟨C2,T2,e,OL⟩:=E3 h hL hP (hm _ (List.getElem_mem hi));refine⟨(l.map (pg D U),(l.length:Int),((i+1:Nat):Int),f,t,l.map (pg D U),(),(),C2,T2,()),?_,C2,T2,rfl,Bz OL λq=>?_⟩
   ·unfold fa;dsimp only;rw[oDT (show(i:Int)<(l.length:Int) by omega),oCT,cL];simp only[oBS];rw[dn (show i<(l.map (pg D U)).length by rw[List.length_map];exact hi)];simp only[oBS,List.getElem_map];rw[e,oBS];dsimp only;rw[bne_self_eq_false,oCF,cY (by omega) (by omega)];rfl
   ·rw[<- oq hi,List.mem_append,List.mem_singleton]) (λs hs=>by
   obtain⟨C',T',rfl,hP⟩:=hs;refine⟨_,?_,C',T',rfl,Bz hP λq=>by rw[List.take_length]⟩;unfold fa;dsimp only
   rw[oDF (by omega),oCF]) (s:=(l.map (pg D U),(l.length:Int),((0:Nat):Int),f,t,l.map (pg D U),(),(),C,T,())) ⟨C,T,rfl,⟨⟨rfl,rfl,h.2.2⟩,λq _=>⟨λw=>by simp at w,λ_=>rfl⟩⟩⟩ (N:=NN) (oI (by omega))
 subst e;rw[show ct fa NN (l.map (pg D U),(l.length:Int),0,f,t,l.map (pg D U),(),(),C,T,())=_ from hr];exact⟨C',T',rfl,hP⟩
theorem sC(l:List PID):∀a:List PID,(l.foldl xW a).length<=a.length+l.length:=by
 induction l with
 |nil=>intro a;simp
 |cons x r ih=>
  intro a;rw[List.foldl_cons,oLC];have h1:=ih (xW a x);have h2:=zV x a;omega
theorem wu{L:List PG}{id:PID}{v:PG}(h:∀p∈L,jd p=id->p=v):∀a:PG,((∃p∈L,jd p=id)\/a=v)->L.foldl (λa p=>if jd p=id then p else a) a=v:=by
 induction L with
 |nil=>intro a ha;rcases ha with⟨p,hp,_⟩|ha;simp at hp;exact ha
 |cons x L ih=>
  intro a ha;rw[List.foldl_cons];apply ih λp hp=>h p (by simp[hp]);by_cases e:jd x=id
  ·rw[oIP e];exact .inr (h x (by simp) e)
  ·rw[oIN e]
   rcases ha with⟨p,hp,e2⟩|ha
   ·rcases List.mem_cons.1 hp with rfl|hp
    ·exact absurd e2 e
    ·exact .inl ⟨p,hp,e2⟩
   ·exact .inr ha
theorem qo{D:CC}{U:TT'}(p:PID):jd (pg D U p)=p:=Hh p
theorem Hs{D:CC}{U:TT'}{E:CC}{V:TT'}{l m:List PID}{p:PID}(hp:p∈l\/p∈m)(he:p∈l->p ∉ m->pg D U p=pg E V p):ib (l.map (pg D U)++m.map (pg E V)) p=pg E V p:=by
 unfold ib;rw[List.foldl_append]
 have h2:∀q∈m.map (pg E V),jd q=p->q=pg E V p:=λq hq e=>by
  obtain⟨r,_,rfl⟩:=List.mem_map.1 hq;rw[qo]at e;rw[e]
 have h1:∀q∈l.map (pg D U),jd q=p->q=pg D U p:=λq hq e=>by
  obtain⟨r,_,rfl⟩:=List.mem_map.1 hq;rw[qo]at e;rw[e]
 by_cases hm:p∈m
 ·exact wu h2 _ (.inl ⟨_,List.mem_map.2 ⟨p,hm,rfl⟩,qo p⟩)
 ·have hl:=hp.resolve_right hm;refine wu h2 _ (.inr ?_);rw[wu h1 _ (.inl ⟨_,List.mem_map.2 ⟨p,hl,rfl⟩,qo p⟩)];exact he hl hm
theorem Bw{S:List Int}{n:Nat}(h:Szs S)(hn:n<=4){p:PID}(hp:p∈pgs S n):wfP p=true:=by
 have h4:=h.1
 rcases kr.1 hp with⟨i,j,hi,hj,rfl⟩|⟨t,ht,rfl⟩
 ·have:=FW h hi;simp only[wfP,oBA];refine⟨?_,?_⟩
  ·simp[Lit.wf,IntKind.min,IntKind.max,IntKind.signed,IntKind.bits];omega
  ·simp[Lit.wf,IntKind.min,IntKind.max,IntKind.signed,IntKind.bits];omega
 ·simp only[wfP,oBA];refine⟨rfl,?_⟩;simp[Lit.wf,IntKind.min,IntKind.max,IntKind.signed,IntKind.bits];omega
theorem yN(f t:Int)(l:List PG):ff f t l=fR f t l:=by kernel_rfl
theorem nX{C:CC}{T:TT'}{D:CC}{U:TT'}{E:CC}{V:TT'}(h:tz C T)(hD:ri C T D U)(hE:ri C T E V){l m:List PID}(al:Asc l)(am:Asc m)(hl:∀p∈l,p∈pgs (szs C) T.length)(hm:∀p∈m,p∈pgs (szs C) T.length)(kl:l.length<=1000)(km:m.length<=1000)
 (he:∀p∈l,p ∉ m->pg D U p=pg E V p){f g t:Int}(h1:0<=f)(h2:f<=g)(h3:g<=t)(h4:t<=200):
 cn f g (l.map (pg D U)) g t (m.map (pg E V))=some (f,t,(fB (l++m)).map (pg E V),0,()):=by
 have sD:=fw hD h.2.1;have sE:=fw hE h.2.1
 have hok:pZ (l.map (pg D U)) (m.map (pg E V))=true:=by
  simp only[pZ,oBA,oDE,List.all_eq_true];refine⟨by rw[List.length_map,List.length_map];omega,λq hq=>?_⟩;rcases List.mem_append.1 hq with hq|hq
  ·obtain⟨p,hp,rfl⟩:=List.mem_map.1 hq;have:=Gz sD hD.2.2 (p:=p) (by rw[hD.1,hD.2.1];exact hl p hp);exact⟨⟨this.1,this.2⟩,by rw[qo];exact Bw (qk h.2.1) h.2.1.2.1 (hl p hp)⟩
  ·obtain⟨p,hp,rfl⟩:=List.mem_map.1 hq;have:=Gz sE hE.2.2 (p:=p) (by rw[hE.1,hE.2.1];exact hm p hp);exact⟨⟨this.1,this.2⟩,by rw[qo];exact Bw (qk h.2.1) h.2.1.2.1 (hm p hp)⟩
 unfold cn;rw[oIP hok,yN,AH h1 (by omega) h2 (by unfold Sm;rw[List.length_map];omega) (F9 al),oBS];dsimp only;rw[yN,AH (by omega) h4 h3 (by unfold Sm;rw[List.length_map];omega) (F9 am),oBS];dsimp only;rw[oIN (by simp),oIN (by simp),oIN (by simp)]
 have Pk:(l.map (pg D U)++m.map (pg E V)).map jd=l++m:=by
  rw[List.map_append,List.map_map,List.map_map];have e1:(jd ∘ pg D U)=id:=funext λp=>qo p;have e2:(jd ∘ pg E V)=id:=funext λp=>qo p;rw[e1,e2,List.map_id,List.map_id]
 rw[Pk,J6 (by rw[List.length_append];simp;omega),List.append_nil,oBS];dsimp only;have Wb:(fB (l++m)).length<=0+(l++m).length:=sC (l++m) []
 have ZW:(fB (l++m)).all wfP=true:=by
  rw[List.all_eq_true];intro p hp;have hp:=(iO _ _).1 hp;rcases List.mem_append.1 hp with hp|hp
  ·exact Bw (qk h.2.1) h.2.1.2.1 (hl p hp)
  ·exact Bw (qk h.2.1) h.2.1.2.1 (hm p hp)
 rw[oIP ⟨by rw[List.length_append]at Wb;omega,ZW⟩]
 have e:(fB (l++m)).map (ib (l.map (pg D U)++m.map (pg E V)))=(fB (l++m)).map (pg E V):=by
  refine List.map_congr_left λp hp=>?_;have hp:=(iO _ _).1 hp;exact Hs (List.mem_append.1 hp) (he p)
 rw[e]
theorem vE{C:CC}{T:TT'}{D:CC}{U:TT'}(hL:ri C T D U){l:List PID}(hl:∀p,p∈pgs (szs C) T.length->p ∉ l->pg C T p=pg D U p){C':CC}{T':TT'}(hP:Jb C T D U (·∈l) C' T'):C'=D/\T'=U:=by
 refine E7 (hL.1.trans hP.1.1.symm) (hL.2.1.trans hP.1.2.1.symm) λq hq=>?_;rw[hP.1.1,hP.1.2.1]at hq;have h:=hP.2 q hq;by_cases g:q∈l
 ·exact h.1 g
 ·rw[h.2 g];exact hl q hq g
theorem pU{C:CC}{T:TT'}{D:CC}{U:TT'}{p:PID}(hp:p∈pgs (szs C) T.length)(h:p ∉ dif C T D U):pg C T p=pg D U p:=Classical.byContradiction λn=>h (p5.2 ⟨hp,n⟩)
theorem Id(C:CC)(T:TT'):dif C T C T=[]:=by
 unfold dif;simp
theorem L7{a:Int}(h:0<=a/\a<=255):0<=Int.tmod (wk .i64 a) 60/\Int.tmod (wk .i64 a) 60<60:=by
 have e:wk .i64 a=a:=wrap_i64 (by omega) (by omega);rw[e];exact⟨Int.tmod_nonneg _ h.1,Int.tmod_lt_of_pos _ (by omega)⟩
theorem FJ(l:List Int){a b c:Int}(ha:0<=a/\a<=255)(hb:0<=b/\b<=255)(hc:0<=c/\c<=255):fW l a b c=some (true,()):=by
 unfold fW;rw[Ls,oBS];dsimp only;by_cases hl:l.length<=400
 rotate_left
 ·rw[oDF hl];simp only[Bool.not_false,oCT];rw[wQ];rfl
 rw[oDT hl];simp only[oNT,oCF];obtain⟨C,T,k1,e,hd,h1⟩:=DT hl (Int.le_refl 0);rw[e,oBS];dsimp only;obtain⟨x,k2,e,xa,xb,h2⟩:=gh (n:=5) (by omega) (by omega) hl h1;rw[e,oBS];dsimp only;obtain⟨D,U,k3,e,hD,h3⟩:=Fd hd xa (by omega) hl h2;rw[e,oBS];dsimp only;obtain⟨y,k4,e,ya,yb,h4⟩:=gh (n:=5) (by omega) (by omega) hl h3;rw[e,oBS];dsimp only;obtain⟨E,V,k5,e,OG,h5⟩:=Fd (mR hd hD) ya (by omega) hl h4;have hE:=p6 hD OG;have hs:=xN hd;rw[e,oBS];dsimp only;have a12:=rB hd hs hD;have a23:=rB hd hD hE;have a33:=rB hd hE hE;obtain⟨f0,f1⟩:=L7 ha;obtain⟨g0,g1⟩:=L7 hb;obtain⟨t0,t1⟩:=L7 hc;generalize Int.tmod (wk .i64 a) 60=f at *;generalize Int.tmod (wk .i64 b) 60=g at *;generalize Int.tmod (wk .i64 c) 60=t at *;rw[cY (x:=f+g) (by omega) (by omega),cY (x:=f+g+t) (by omega) (by omega)];have m1:∀p∈dif C T D U,p∈pgs (szs C) T.length:=λp hp=>(p5.1 hp).1
 have m2:∀p∈dif D U E V,p∈pgs (szs C) T.length:=λp hp=>by
  have:=(p5.1 hp).1;rw[hD.1,hD.2.1]at this;exact this
 have l1:=oc (D:=D) (U:=U) hd.2.1;have l2:=oc (D:=E) (U:=V) (fw hD hd.2.1);have Wb:(fB (dif C T D U++dif D U E V)).length<=0+(dif C T D U++dif D U E V).length:=sC _ [];rw[List.length_append]at Wb;rw[BB a12 hd.2.2 hD.2.2 f0 (by omega) (by omega),oBS];dsimp only;rw[BB a23 hD.2.2 hE.2.2 (by omega) (by omega) (by omega),oBS];dsimp only;rw[nX hd hD hE (mE _ _ _ _) (mE _ _ _ _) m1 m2 (by omega) (by omega) (λp hp hn=>pU (by rw[hD.1,hD.2.1];exact m1 p hp) hn) f0 (by omega) (by omega) (by omega),oBS];dsimp only;rw[BB a33 hE.2.2 hE.2.2 f0 (by omega) (by omega),oBS];dsimp only;obtain⟨C1,T1,e,hP⟩:=AP hd hD (mE C T D U) (by omega) m1 f0 (t:=f+g) (by omega) (by omega);obtain⟨rfl,rfl⟩:=vE hD (λp hp hn=>pU hp hn) hP;rw[e,oBS];dsimp only;obtain⟨C2,T2,e,OL⟩:=AP (mR hd hD) OG (mE C1 T1 E V) (by omega) (λp hp=>(p5.1 hp).1) (f:=f+g) (t:=f+g+t) (by omega) (by omega) (by omega);obtain⟨rfl,rfl⟩:=vE OG (λp hp hn=>pU hp hn) OL;rw[e,oBS];dsimp only
 obtain⟨C3,T3,e,hP3⟩:=AP hd hE (jt (dif C T C1 T1++dif C1 T1 C2 T2)) (by omega) (λp hp=>by
  rcases List.mem_append.1 ((iO _ _).1 hp)with h|h
  ·exact m1 p h
  ·exact m2 p h) f0 (t:=f+g+t) (by omega) (by omega)
 obtain⟨rfl,rfl⟩:=vE hE (λp hp hn=>by
  have h1:p ∉ dif C T C1 T1:=λh=>hn ((iO _ _).2 (List.mem_append_left _ h));have h2:p ∉ dif C1 T1 C2 T2:=λh=>hn ((iO _ _).2 (List.mem_append_right _ h))
  exact(pU hp h1).trans (pU (by rw[hD.1,hD.2.1];exact hp) h2)) hP3
 rw[e,oBS];dsimp only;simp only[bne_self_eq_false,oCF,oBS];rw[IR (fw hD hd.2.1) hD.2.2,oBS];dsimp only;rw[oDT ⟨rfl,rfl⟩,oCT,IR (fw hE hd.2.1) hE.2.2,oBS];dsimp only;rw[oDT ⟨rfl,rfl⟩,oCT,oBS];delta cg;dsimp only;rw[oCT,Id,List.map_nil];rw[show((([]:List PG).length:Int)==0)=true from rfl,oCT];simp only[List.length_map];rw[cY (by omega) (by omega),oDT (by omega),oCT,beq_self_eq_true,oCT,beq_self_eq_true,oCT,wQ];rfl
theorem CF{D:CC}{U:TT'}(h:shp D U)(hU:SmT U){l:List PID}(hl:l.length<=1000000)(hm:∀p∈l,p∈pgs (szs D) U.length):fO (l.map (pg D U)) (l.map (pg D U))=some (true,()):=by
 unfold fO;delta cg;dsimp only;rw[bne_self_eq_false,oCF]
 have h1:=eS (f:=dM) (st:=λi=>(l.map (pg D U),l.map (pg D U),(i:Int),())) (n:=l.length) (N:=NN) (fin:=.inr (l.map (pg D U),l.map (pg D U),(l.length:Int),false,())) (oI (by omega)) (λi hi=>by
  unfold dM;delta cg;dsimp only;rw[List.length_map,oDT (show(i:Int)<(l.length:Int) by omega),oCT,cL];simp only[oBS];rw[dn (show i<(l.map (pg D U)).length by rw[List.length_map];exact hi)];simp only[oBS,List.getElem_map];have hs:=Gz h hU (hm _ (List.getElem_mem hi));rw[Ki hs.1 hs.2,oBS];dsimp only;rw[oDT rfl,oNT,oCF,cY (by omega) (by omega)]
  rfl) (by
  unfold dM;delta cg;dsimp only
  rw[List.length_map,oDF (by omega),oCF])
 rw[show ct dM NN (l.map (pg D U),l.map (pg D U),0,())=_ from h1]
abbrev AA:Type:=CC×TT'
def dl(A:Nat->AA)(j:Nat):Int×Int×List PG:=((j:Int),((j+1:Nat):Int),(dif (A j).1 (A j).2 (A (j+1)).1 (A (j+1)).2).map (pg (A (j+1)).1 (A (j+1)).2))
theorem xz{α:Type}(f:Nat->α)(n:Nat):(List.range (n+1)).map f=(List.range n).map f++[f n]:=by simp[List.range_succ]
theorem Il(l:List Int):gv l=some (true,()):=by
 unfold gv;rw[Ls,oBS];dsimp only;by_cases hl:l.length<=400
 rotate_left
 ·rw[oDF hl];simp only[Bool.not_false,oCT];rw[wQ];rfl
 rw[oDT hl];simp only[oNT,oCF];obtain⟨C,T,k1,e,hd,Y9⟩:=DT hl (Int.le_refl 0);rw[e,oBS];dsimp only
 obtain⟨r,hr,A,k,e,hA⟩:=BC (f:=d4) (P:=λi s=>∃(A:Nat->AA)(k:Int),s=((i:Int),(List.range (i+1)).map A,(List.range i).map (dl A),l,k,())/\(∀j,ri C T (A j).1 (A j).2)/\0<=k)
  (R:=λr=>∃(A:Nat->AA)(k:Int),r=.inr ((4:Int),false,(List.range 5).map A,(List.range 4).map (dl A),l,k,())/\∀j,ri C T (A j).1 (A j).2) (n:=4) (λi s hi hs=>by
   obtain⟨A,k,rfl,hA,hk⟩:=hs;obtain⟨x,k2,e2,xa,xb,h2⟩:=gh (n:=4) (by omega) (by omega) hl hk;obtain⟨D,U,k3,e3,hD,h3⟩:=Fd (mR hd (hA i)) xa (by omega) hl h2
   obtain⟨B,hB⟩:∃B:Nat->AA,B=λj=>if j=i+1 then(D,U)else A j:=⟨_,rfl⟩
   have MU:B (i+1)=(D,U):=by rw[hB];simp
   have OD:∀j,j<=i->B j=A j:=λj hj=>by rw[hB];simp;omega
   have QY:∀j,ri C T (B j).1 (B j).2:=λj=>by
    by_cases e:j=i+1
    ·subst e;rw[MU];exact p6 (hA i) hD
    ·have:B j=A j:=by rw[hB];simp[e]
     rw[this];exact hA j
   have m1:(List.range (i+1)).map A=(List.range (i+1)).map B:=List.map_congr_left λj hj=>(OD j (by have:=List.mem_range.1 hj;omega)).symm
   have m2:(List.range i).map (dl A)=(List.range i).map (dl B):=List.map_congr_left λj hj=>by
    have:=List.mem_range.1 hj;unfold dl;rw[OD j (by omega),OD (j+1) (by omega)]
   have q1:∀(G:Nat->AA)(n j:Nat),j<n->cU ((List.range n).map G) j=some (G j):=λG n j hj=>by
    rw[dn (by simpa using hj)];simp
   refine⟨(((i+1:Nat):Int),(List.range (i+1+1)).map B,(List.range (i+1)).map (dl B),l,k3,()),?_,B,k3,rfl,QY,h3⟩;unfold d4;dsimp only;rw[oDT (show(i:Int)<4 by omega),oCT,cL];simp only[oBS];rw[q1 A (i+1) i (by omega)];simp only[oBS];rw[e2,oBS];dsimp only;rw[e3,oBS];dsimp only;rw[dc (by simp;omega) (by simp) (by omega) (by simp;omega),oCT]
   have m3:List.append ((List.range (i+1)).map A) [(D,U)]=(List.range (i+1+1)).map B:=by
    rw[xz B (i+1),MU,<- m1];rfl
   rw[m3,cY (x:=(i:Int)+1) (by omega) (by omega),show(i:Int)+1=((i+1:Nat):Int) by omega,cL];simp only[oBS];rw[q1 B (i+1+1) i (by omega),q1 B (i+1+1) (i+1) (by omega)];simp only[oBS];rw[BB (rB hd (QY i) (QY (i+1))) (QY i).2.2 (QY (i+1)).2.2 (by omega) (by omega) (by omega),oBS];dsimp only;rw[bne_self_eq_false,oCF,dc (by simp;omega) (by simp) (by omega) (by simp;omega),oCT];rw[xz (dl B) i,<- m2]
   rfl) (λs hs=>by
   obtain⟨A,k,rfl,hA,hk⟩:=hs;refine⟨_,?_,A,k,rfl,hA⟩;unfold d4
   rfl) (s:=(0,[(C,T)],[],l,k1,())) ⟨λ_=>(C,T),k1,rfl,λ_=>xN hd,Y9⟩ (N:=NN) (oI (by omega))
 subst e;rw[hr];dsimp only;have g0:cU ((List.range 4).map (dl A)) 0=some (dl A 0):=rfl;have g1:cU ((List.range 4).map (dl A)) 1=some (dl A 1):=rfl;have g2:cU ((List.range 4).map (dl A)) 2=some (dl A 2):=rfl;have g3:cU ((List.range 4).map (dl A)) 3=some (dl A 3):=rfl;simp only[g0,g1,g2,g3,oBS];obtain⟨d0,Qm⟩:∃d,d=dif (A 0).1 (A 0).2 (A 1).1 (A 1).2:=⟨_,rfl⟩;obtain⟨d1,Yv⟩:∃d,d=dif (A 1).1 (A 1).2 (A 2).1 (A 2).2:=⟨_,rfl⟩;obtain⟨d2,hd2⟩:∃d,d=dif (A 2).1 (A 2).2 (A 3).1 (A 3).2:=⟨_,rfl⟩;obtain⟨d3,Rg⟩:∃d,d=dif (A 3).1 (A 3).2 (A 4).1 (A 4).2:=⟨_,rfl⟩
 have QE:∀i p,p∈dif (A i).1 (A i).2 (A (i+1)).1 (A (i+1)).2->p∈pgs (szs C) T.length:=λi p hp=>by
  have:=(p5.1 hp).1;rw[(hA i).1,(hA i).2.1]at this;exact this
 have nd:∀i p,p∈pgs (szs C) T.length->p ∉ dif (A i).1 (A i).2 (A (i+1)).1 (A (i+1)).2->pg (A i).1 (A i).2 p=pg (A (i+1)).1 (A (i+1)).2 p:=λi p hp hn=>pU (by rw[(hA i).1,(hA i).2.1];exact hp) hn
 have a0:Asc d0:=by rw[Qm];exact mE _ _ _ _
 have a1:Asc d1:=by rw[Yv];exact mE _ _ _ _
 have a2:Asc d2:=by rw[hd2];exact mE _ _ _ _
 have a3:Asc d3:=by rw[Rg];exact mE _ _ _ _
 have i0:∀p∈d0,p∈pgs (szs C) T.length:=λp hp=>QE 0 p (by rw[Qm]at hp;exact hp);have i1:∀p∈d1,p∈pgs (szs C) T.length:=λp hp=>QE 1 p (by rw[Yv]at hp;exact hp);have i2:∀p∈d2,p∈pgs (szs C) T.length:=λp hp=>QE 2 p (by rw[hd2]at hp;exact hp);have i3:∀p∈d3,p∈pgs (szs C) T.length:=λp hp=>QE 3 p (by rw[Rg]at hp;exact hp);have n1:∀p∈pgs (szs C) T.length,p ∉ d1->pg (A 1).1 (A 1).2 p=pg (A 2).1 (A 2).2 p:=λp hp hn=>nd 1 p hp (by rw[Yv]at hn;exact hn);have n2:∀p∈pgs (szs C) T.length,p ∉ d2->pg (A 2).1 (A 2).2 p=pg (A 3).1 (A 3).2 p:=λp hp hn=>nd 2 p hp (by rw[hd2]at hn;exact hn);have n3:∀p∈pgs (szs C) T.length,p ∉ d3->pg (A 3).1 (A 3).2 p=pg (A 4).1 (A 4).2 p:=λp hp hn=>nd 3 p hp (by rw[Rg]at hn;exact hn)
 have z0:d0.length<=20:=by rw[Qm];exact oc (fw (hA 0) hd.2.1)
 have z1:d1.length<=20:=by rw[Yv];exact oc (fw (hA 1) hd.2.1)
 have z2:d2.length<=20:=by rw[hd2];exact oc (fw (hA 2) hd.2.1)
 have z3:d3.length<=20:=by rw[Rg];exact oc (fw (hA 3) hd.2.1)
 have sl:∀a b:List PID,(fB (a++b)).length<=a.length+b.length:=λa b=>by
  have h:(fB (a++b)).length<=0+(a++b).length:=sC _ [];rw[List.length_append]at h;omega
 have SF:∀(a b:List PID)(p:PID),p∈fB (a++b)↔p∈a\/p∈b:=λa b p=>(iO _ p).trans List.mem_append;have ins:∀{a b:List PID},(∀p∈a,p∈pgs (szs C) T.length)->(∀p∈b,p∈pgs (szs C) T.length)->∀p∈fB (a++b),p∈pgs (szs C) T.length:=λ{a b} ha hb p hp=>((SF a b p).1 hp).elim (ha p) (hb p);have s01:=sl d0 d1;have s23:=sl d2 d3;have s12:=sl d1 d2;have s012:=sl d0 (fB (d1++d2));have sall:=sl (fB (d0++d1)) (fB (d2++d3));simp only[dl,<- Qm,<- Yv,<- hd2,<- Rg];have M01:=nX hd (hA 1) (hA 2) a0 a1 i0 i1 (by omega) (by omega) (λp hp hn=>n1 p (i0 p hp) hn) (f:=((0:Nat):Int)) (g:=((0+1:Nat):Int)) (t:=((1+1:Nat):Int)) (by omega) (by omega) (by omega) (by omega);have M23:=nX hd (hA 3) (hA 4) a2 a3 i2 i3 (by omega) (by omega) (λp hp hn=>n3 p (i2 p hp) hn) (f:=((2:Nat):Int)) (g:=((2+1:Nat):Int)) (t:=((3+1:Nat):Int)) (by omega) (by omega) (by omega) (by omega);have M12:=nX hd (hA 2) (hA 3) a1 a2 i1 i2 (by omega) (by omega) (λp hp hn=>n2 p (i1 p hp) hn) (f:=((1:Nat):Int)) (g:=((1+1:Nat):Int)) (t:=((2+1:Nat):Int)) (by omega) (by omega) (by omega) (by omega)
 have Ob:=nX hd (hA 2) (hA 4) (jt (d0++d1)) (jt (d2++d3)) (ins i0 i1) (ins i2 i3) (by omega) (by omega) (λp hp hn=>by
  have hp:=ins i0 i1 p hp;have h2:p ∉ d2:=λh=>hn ((SF _ _ _).2 (.inl h));have h3:p ∉ d3:=λh=>hn ((SF _ _ _).2 (.inr h))
  exact(n2 p hp h2).trans (n3 p hp h3)) (f:=((0:Nat):Int)) (g:=((1+1:Nat):Int)) (t:=((3+1:Nat):Int)) (by omega) (by omega) (by omega) (by omega)
 have Oa:=nX hd (hA 1) (hA 3) a0 (jt (d1++d2)) i0 (ins i1 i2) (by omega) (by omega) (λp hp hn=>by
  have hp:=i0 p hp;have h1:p ∉ d1:=λh=>hn ((SF _ _ _).2 (.inl h));have h2:p ∉ d2:=λh=>hn ((SF _ _ _).2 (.inr h))
  exact(n1 p hp h1).trans (n2 p hp h2)) (f:=((0:Nat):Int)) (g:=((0+1:Nat):Int)) (t:=((2+1:Nat):Int)) (by omega) (by omega) (by omega) (by omega)
 have QQ:=nX hd (hA 3) (hA 4) (jt (d0++fB (d1++d2))) a3 (ins i0 (ins i1 i2)) i3 (by omega) (by omega) (λp hp hn=>n3 p (ins i0 (ins i1 i2) p hp) hn) (f:=((0:Nat):Int)) (g:=((2+1:Nat):Int)) (t:=((3+1:Nat):Int)) (by omega) (by omega) (by omega) (by omega);rw[show cn ((0:Nat):Int) ((0+1:Nat):Int) _ ((1:Nat):Int) ((1+1:Nat):Int) _=_ from M01,oBS];dsimp only;rw[show cn ((2:Nat):Int) ((2+1:Nat):Int) _ ((3:Nat):Int) ((3+1:Nat):Int) _=_ from M23,oBS];dsimp only;rw[show cn ((0:Nat):Int) ((1+1:Nat):Int) _ ((2:Nat):Int) ((3+1:Nat):Int) _=_ from Ob,oBS];dsimp only;rw[show cn ((1:Nat):Int) ((1+1:Nat):Int) _ ((2:Nat):Int) ((2+1:Nat):Int) _=_ from M12,oBS];dsimp only;rw[show cn ((0:Nat):Int) ((0+1:Nat):Int) _ ((1:Nat):Int) ((2+1:Nat):Int) _=_ from Oa,oBS];dsimp only;rw[show cn ((0:Nat):Int) ((2+1:Nat):Int) _ ((3:Nat):Int) ((3+1:Nat):Int) _=_ from QQ,oBS];dsimp only
 have hq:fB (fB (d0++fB (d1++d2))++d3)=fB (fB (d0++d1)++fB (d2++d3)):=A9 (jt _) λz=>by
  simp only[iO,List.mem_append];constructor
  ·rintro((h|h)|h|h)<;>simp[h]
  ·rintro((h|h|h)|h)<;>simp[h]
 rw[hq,beq_self_eq_true,oCT,oCT];unfold iK;rw[beq_self_eq_true,oCT,beq_self_eq_true,oCT,CF (fw (hA 4) hd.2.1) (hA 4).2.2 (by omega) (λp hp=>by rw[(hA 4).1,(hA 4).2.1];exact ins (ins i0 i1) (ins i2 i3) p hp),oBS];dsimp only;rw[oBS];dsimp only;rw[oCT,wQ];rfl
def Fc:List CT->CT
 | []=>.nat
 | [t]=>t
 |t::u::r=>.pair t (Fc (u::r))
def nu:(l:List CT)->HL den l->den (Fc l)
 | [],_=>(0:Nat)
 | [_],h=>h.1
 |_::u::r,h=>(h.1,nu (u::r) h.2)
def encL:(l:List CT)->HL den l->List TV
 | [],_=>[]
 |t::r,h=>enc t h.1++encL r h.2
theorem BU:∀(l:List CT)(h:HL den l),enc (Fc l) (nu l h)=encL l h
 | [],_=>rfl
 | [_],h=>(List.append_nil _).symm
 |_::u::r,h=>by
  show enc _ h.1++enc (Fc (u::r)) (nu (u::r) h.2)=_;rw[BU (u::r) h.2];rfl
def Gi:(c:CT)->den c->Prop
 |.int k,n=>(Lit.int k n).wf=true
 |.str,s=>ByteArray.size s<=maxLen
 |.row _ t,xs=>List.length xs<=maxLen/\∀x∈xs,Gi t x
 |.pair a b,x=>Gi a x.1/\Gi b x.2
 |_,_=>True
def GoodL:(l:List CT)->HL den l->Prop
 | [],_=>True
 |t::r,h=>Gi t h.1/\GoodL r h.2
theorem yp:∀(l:List CT)(h:HL den l),GoodL l h->Gi (Fc l) (nu l h)
 | [],_,_=>trivial
 | [_],_,g=>g.1
 |_::u::r,h,g=>⟨g.1,yp (u::r) h.2 g.2⟩
def appL:(l m:List CT)->HL den l->HL den m->HL den (l++m)
 | [],_,_,k=>k
 |_::r,m,h,k=>(h.1,appL r m h.2 k)
theorem BV:∀(l m:List CT)(h:HL den l)(k:HL den m),encL (l++m) (appL l m h k)=encL l h++encL m k
 | [],_,_,_=>rfl
 |t::r,m,h,k=>by
  show enc t h.1++encL (r++m) (appL r m h.2 k)=(enc t h.1++encL r h.2)++_;rw[BV r m h.2 k,List.append_assoc]
theorem BL:∀(l m:List CT)(h:HL den l)(k:HL den m),GoodL l h->GoodL m k->GoodL (l++m) (appL l m h k)
 | [],_,_,_,_,g=>g
 |_::r,m,h,k,g,g'=>⟨g.1,BL r m h.2 k g.2 g'⟩
def RelL(w:World):List TV->List Value->Prop
 | [],[]=>True
 |t::ts,v::vs=>f8 w (λ_=>True) t v/\RelL w ts vs
 |_,_=>False
theorem RelL.app{w:World}:∀{a:List TV}{x:List Value}{b:List TV}{y:List Value},RelL w a x->RelL w b y->RelL w (a++b) (x++y)
 | [],[],_,_,_,h=>h
 |_::a,_::x,_,_,g,h=>⟨g.1,RelL.app (a:=a) (x:=x) g.2 h⟩
 | [],_::_,_,_,g,_=>g.elim
 |_::_,[],_,_,g,_=>g.elim
theorem RelL.len{w:World}:∀{a:List TV}{x:List Value},RelL w a x->a.length=x.length
 | [],[],_=>rfl
 |_::a,_::x,g=>by rw[oLC,oLC,RelL.len (a:=a) (x:=x) g.2]
 | [],_::_,g=>g.elim
 |_::_,[],g=>g.elim
theorem RelL.get{w:World}:∀{a:List TV}{x:List Value},RelL w a x->∀j (h:j<a.length)(h':j<x.length),f8 w (λ_=>True) a[j] x[j]
 |_::_,_::_,g,0,_,_=>g.1
 |_::a,_::x,g,j+1,h,h'=>RelL.get (a:=a) (x:=x) g.2 j (by simpa using h) (by simpa using h')
 | [],_,_,_,h,_=>by simp at h
 |_::_,[],g,_,_,_=>g.elim
def K5(P:Program)(g:TypeId->Option (List CT)):Nat->List Field->Option (List CT)
 |_,[]=>some []
 |off,f::fs=>match g f.type with
  |some l=>if f.offset=off/\l.length=P.cellsOf f.type then(K5 P g (off+l.length) fs).map (l++·)else none
  |none=>none
def rW(P:Program):Nat->TypeId->Option (List CT)
 |0,_=>none
 |n+1,t=>match P.underlying t with
  |some .bool=>some [.bool]
  |some (.int k)=>some [.int k]
  |some .string=>some [.str]
  |some (.slice e)=>match rW P n e with
   |some l=>if l.length=P.cellsOf e then some [.row false (Fc l)]else none
   |none=>none
  |some (.struct fs)=>match K5 P (rW P n) 0 fs.toList with
   |some l=>if l.length=P.cellsOf t then some l else none
   |none=>none
  |_=>none
section
variable {H:Type} {ec:TypeId×Value->H} {P:Program} {w:World} {base:Nat} {spare:Nat->Bool} {held:Bool}
theorem Fw{g:TypeId->Option (List CT)}{m:Nat}{cs:List Value}
 (ih:∀t L,g t=some L->∀cs x,DataW.trod ec P w base spare held m t cs=some x->∃h:HL den L,GoodL L h/\RelL w (encL L h) cs):
 ∀(fs:List Field)(off:Nat)(L:List CT),K5 P g off fs=some L->(∀f∈fs,∃x,DataW.trod ec P w base spare held m f.type ((cs.drop f.offset).take (P.cellsOf f.type))=some x)->
  ∃h:HL den L,GoodL L h/\RelL w (encL L h) ((cs.drop off).take L.length):=by
 intro fs
 induction fs with
 |nil=>
  intro off L hL _
  injection hL with hL
  subst hL;exact⟨(),trivial,trivial⟩
 |cons f fs P4=>
  intro off L hL hx;unfold K5 at hL;split at hL
  ·rename_i l hg;split at hL
   ·rename_i ho;obtain⟨rfl,hlen⟩:=ho
    cases hr:K5 P g (f.offset+l.length) fs with
    |none=>simp_all
    |some L2=>
     rw[hr]at hL
     injection hL with hL
     subst hL;obtain⟨x,h1⟩:=hx f List.mem_cons_self;obtain⟨h,g1,r1⟩:=ih _ _ hg _ _ h1;have ⟨k,g2,r2⟩:=P4 _ _ hr λf' Qo=>hx f' (List.mem_cons_of_mem _ Qo);refine⟨appL l L2 h k,BL _ _ _ _ g1 g2,?_⟩;rw[BV,List.length_append,List.take_add,List.drop_drop];rw[hlen];rw[hlen]at r2;exact r1.app r2
   ·cases hL
  ·cases hL
theorem Ll:∀(n:Nat)(t:TypeId)(L:List CT),rW P n t=some L->∀(XH:Nat)(cs:List Value)(x:DataW H×List MemPlace),DataW.trod ec P w base spare held XH t cs=some x ->
 ∃h:HL den L,GoodL L h/\RelL w (encL L h) cs:=by
 intro n
 induction n with
 |zero=>intro t L h;cases h
 |succ n ih=>
  intro t L hL XH cs x hx;unfold rW at hL;split at hL
  ·rename_i ht
   injection hL with hL
   subst hL;obtain⟨b,rfl,_⟩:=DataW.trod_bool ht hx;exact⟨(b,()),⟨trivial,trivial⟩,.v rfl,trivial⟩
  ·rename_i k ht
   injection hL with hL
   subst hL;obtain⟨z,rfl,_,hw⟩:=DataW.trod_int ht hx;exact⟨(z,()),⟨hw,trivial⟩,.v rfl,trivial⟩
  ·rename_i ht
   injection hL with hL
   subst hL;obtain⟨s,rfl,_,hs⟩:=DataW.trod_string ht hx;exact⟨(s,()),⟨hs,trivial⟩,.v rfl,trivial⟩
  ·rename_i e ht;split at hL
   ·rename_i l hl;split at hL
    ·rename_i hsz
     injection hL with hL
     subst hL
     rcases DataW.trod_slice ht hx with⟨rfl,_⟩|⟨a,len,cap,I',rest,m,_,rfl,_,_,YS,hmax,YQ,Z6,_,_⟩
     ·exact⟨([],()),⟨⟨Nat.zero_le _,λx hx=>by cases hx⟩,trivial⟩,.sl (c:=[]) 1 (λ_ _=>undef) (λi h=>by simp at h) (Nat.le_refl _) (Nat.zero_le _) (λ_=>rfl) (λi j h=>by simp at h) (λi j h=>by simp at h),trivial⟩
     ·have Om:∀i:Fin len,∃p:HL den l×List Value,GoodL l p.1/\RelL w (encL l p.1) p.2/\w.cells? base (a.add (i.1*P.cellsOf e)) (P.cellsOf e)=some p.2:=by
       intro i;have h1:=Z6 i.1 i.2;rw[oGE (by omega)]at h1;obtain⟨Ve,h2,h3⟩:=Option.bind_eq_some_iff.1 h1;obtain⟨h,g,r⟩:=ih _ _ hl _ _ _ h3;exact⟨(h,Ve),g,r,h2⟩
      obtain⟨f,hf⟩:=Classical.axiomOfChoice Om
      have Ol:∀i,(encL l (f i).1).length=l.length:=λi=>by
       rw[(hf i).2.1.len,(World.cells?_some (hf i).2.2).2.1,hsz]
      have ZR:f8 w (λ_=>True) (.sl ((List.ofFn λi:Fin len=>nu l (f i).1).map (enc (Fc l)))) (.slice (some a) ((List.ofFn λi:Fin len=>nu l (f i).1).map (enc (Fc l))).length cap):=by
       have el:((List.ofFn λi:Fin len=>nu l (f i).1).map (enc (Fc l))).length=len:=by simp
       have eg:∀i (hi:i<((List.ofFn λi:Fin len=>nu l (f i).1).map (enc (Fc l))).length),((List.ofFn λi:Fin len=>nu l (f i).1).map (enc (Fc l)))[i]=encL l (f ⟨i,by omega⟩).1:=by
        intro i hi;simp[BU]
       refine .sl l.length (λi j=>if h:i<len then(f ⟨i,h⟩).2.getD j undef else undef) (λi hi=>by rw[eg i hi,Ol]) (by rw[el];exact YS) hmax (λh=>by cases h) (λi j hi hj=>?_) (λi j hi hj=>?_)
       ·rw[el]at hi
        have cell:∀i' (ZM:i'<len) j',j'<l.length->w.cell? ((a.add (i'*l.length)).add j')=some ((f ⟨i',ZM⟩).2.getD j' undef):=by
         intro i' ZM j' ZU;have h1:=World.cells?_some (hf ⟨i',ZM⟩).2.2;have h2:=h1.2.2 j' (by omega);rw[hsz];rw[h2]
         have:j'<(f ⟨i',ZM⟩).2.length:=by rw[h1.2.1];omega
         simp[this]
        have h0:=World.cell?_spot (cell 0 (by omega) 0 (by omega));obtain⟨b,o,spot⟩:=a
        have Sf:spot=none:=by simpa[Addr.add]using h0
        subst Sf;refine⟨b,o,rfl,trivial,?_⟩;have h2:=cell i hi j hj;rw[Go.WideShapes.add_plain,Go.WideShapes.add_plain]at h2;rw[dif_pos hi,<- h2,Nat.add_assoc]
       ·rw[el]at hi;have hr:=(hf ⟨i,hi⟩).2.1
        have XK:j<(encL l (f ⟨i,hi⟩).1).length:=by rw[eg i (by omega)]at hj;exact hj
        have S3:j<(f ⟨i,hi⟩).2.length:=by rw[<- hr.len];exact XK
        have h3:=hr.get j XK S3
        simp_all
      rw[List.length_map,List.length_ofFn]at ZR;refine⟨(List.ofFn λi:Fin len=>nu l (f i).1,()),⟨⟨by rw[List.length_ofFn];omega,λx hx=>?_⟩,trivial⟩,ZR,trivial⟩;obtain⟨i,rfl⟩:=List.mem_ofFn.1 hx;exact yp _ _ (hf i).1
    ·cases hL
   ·cases hL
  ·rename_i fs ht;split at hL
   ·rename_i l hl;split at hL
    ·rename_i hsz
     injection hL with hL
     subst hL;obtain⟨xs,m,_,_,hlen,Sz,hf⟩:=DataW.trod_struct ht hx
     obtain⟨h,g,r⟩:=Fw (cs:=cs) (m:=m) (λt L hL cs x hx=>ih t L hL m cs x hx) fs.toList 0 l hl (by
      intro f hfm;obtain⟨i,hi,rfl⟩:=List.mem_iff_getElem.1 hfm
      have hi2:i<fs.size:=by simpa using hi
      have h1:=hf i fs[i] (by simp[hi2]);rw[oGE (by omega)]at h1
      exact⟨_,by simpa using h1⟩)
     refine⟨h,g,?_⟩;rw[List.drop_zero,hsz,<- hlen,List.take_length]at r;exact r
    ·cases hL
   ·cases hL
  ·cases hL
theorem intake_arg(n:Nat){t:TypeId}{L:List CT}{v:Value}{d:DataW H}{p:List MemPlace}(hL:rW P n t=some L)(h:DataW.Trod ec P w base spare held t v d p):
 ∃h:HL den L,GoodL L h/\RelL w (encL L h) v.cells.toList:=by
 have ⟨XH,hf⟩:=h;exact Ll n t L hL XH _ _ hf
end
theorem plain_one{w:World}{t:TV}{v:Value}(r:RelL w [t] [v]):AT w t v:=r.1.plain
theorem Jj{h:HL den [(.int .u8)]}(g:GoodL [(.int .u8)] h):0<=h.1/\h.1<=255:=by
 have h1:(Lit.int .u8 h.1).wf=true:=g.1;simp[Lit.wf,IntKind.min,IntKind.max,IntKind.signed,IntKind.bits]at h1;omega
theorem law_DeltaFollows{h0:HL den [RI]}{h1 h2 h3:HL den [(.int .u8)]}(g0:GoodL _ h0)(g1:GoodL _ h1)(g2:GoodL _ h2)(g3:GoodL _ h3):i6.g (appL [RI] _ h0 (appL [(.int .u8)] _ h1 (appL [(.int .u8)] _ h2 (appL [(.int .u8)] _ h3 ()))))=some (true,()):=FJ h0.1 (Jj g1) (Jj g2) (Jj g3)
theorem law_DeltaChains{h0:HL den [RI]}(g0:GoodL _ h0):jH.g (appL [RI] _ h0 ())=some (true,()):=Il h0.1
end Go.Proofs.Ytbdhpgelkfncpaa
