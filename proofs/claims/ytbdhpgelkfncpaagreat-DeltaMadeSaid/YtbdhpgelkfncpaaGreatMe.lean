/- Part of the proof; no condition. -/
import Derived.Test.YtbdhpgelkfncpaaGreatMd
import Derived.Deep.RegionLaw
import Derived.Test.YtbdhpgelkfncpaaGreatProg
import Derived.KernelRfl
import Derived.WalkKit
import Derived.WalkSpells
import Derived.Handy
import Derived.OpenShut
set_option linter.unusedVariables false
set_option linter.unusedSimpArgs false
namespace Go.Proofs.YtbdhpgelkfncpaaGreat
open Go.RowKit Go.Maps
def Bt:i4:=(0,0,[],0,0,0,0,0,0,0,[])
def ct(p:i4):Int×Int:=(p.1,p.2.1)
def iJ(L:List i4)(id:Int×Int):i4:=L.foldl (λa p=>if ct p=id then p else a) Bt
theorem z8{L:List i4}{k:Nat}(h:k<L.length)(id:Int×Int):iJ (L.take (k+1)) id=if ct L[k]=id then L[k]else iJ (L.take k) id:=by
 unfold iJ;rw[List.take_succ_eq_append_getElem h,List.foldl_append];rfl
def rId:Rp (Int×Int):=nc (rI .i64) (rI .i64)
theorem Jo:RIm rId (enc (.pair (.int .i64) (.int .i64))) λ_=>True:=(eW (nR _) (nR _)).weak (λ_=>rfl) λ_ _=>⟨trivial,trivial⟩
theorem Nn:SlT Tryz.prog 62 42 rId.size 16:=
 ⟨by kernel_rfl,by
  have h:(Tryz.prog.info? 42).map (λi=>(i.zero,i.size,i.bytes))=some (some (.agg #[.int .i64 0,.int .i64 0]),2,16):=by kernel_rfl
  obtain⟨i,hi,hz,hs,hb⟩:=info_parts h
  exact⟨i,_,hi,hz,hs,hb,rfl⟩,rId.pos⟩
theorem M4{w:World}{F:Nat->Prop}(x:Int×Int):rId.rep w F x [.int .i64 x.1,.int .i64 x.2]:=⟨[_],_,rfl,rfl,rfl⟩
theorem Mc{w:World}{F:Nat->Prop}{x:Int×Int}{cs:List Value}(h:rId.rep w F x cs):cs=[.int .i64 x.1,.int .i64 x.2]:=by
 obtain⟨_,_,rfl,rfl,rfl⟩:=h;rfl
def pgC(p:i4)(y z:Value):List Value:=.int .i64 p.1 :: .int .i64 p.2.1::y::vwC p.2.2.2 z
theorem BT{w:World}{F:Nat->Prop}{p:i4}{cs:List Value}(h:rPg.rep w F p cs):∃y z,cs=pgC p y z/\RSl rCn w F p.2.2.1 y/\RSl rCn w F p.2.2.2.2.2.2.2.2.2.2 z:=by
 obtain⟨_,_,rfl,rfl,_,_,rfl,rfl,_,_,rfl,⟨y,rfl,hy⟩,hv⟩:=h;obtain⟨z,rfl,hz⟩:=Jh hv;exact⟨y,z,rfl,hy,hz⟩
theorem MW{w:World}{F:Nat->Prop}{p:i4}{y z:Value}(hy:RSl rCn w F p.2.2.1 y)(hz:RSl rCn w F p.2.2.2.2.2.2.2.2.2.2 z):rPg.rep w F p (pgC p y z):=
 ⟨[_],_,rfl,rfl,[_],_,rfl,rfl,[_],_,rfl,⟨y,rfl,hy⟩,MU hz⟩
theorem Hb(w:World)(F:Nat->Prop):∃cs:List Value,zPg=.agg cs.toArray/\rPg.rep w F Bt cs:=⟨_,rfl,MW (p:=Bt) (RSl.nil _ _) (RSl.nil _ _)⟩
theorem uO{α:Type}{R:Rp α}{w:World}{F:Nat->Prop}:∀{xs:List α}{cs:List Value},eZ R w F xs cs->∃WL:List (List Value),WL.length=xs.length/\cs=WL.flatten/\∀k (h:k<xs.length)(h':k<WL.length),R.rep w F xs[k] WL[k]
 | [],_,h=>⟨[],rfl,h,λk h=>by cases h⟩
 |x::r,_,⟨c,d,e,h1,h2⟩=>by
  obtain⟨WL,e1,e2,e3⟩:=uO h2;refine⟨c::WL,by simp[e1],by rw[e,e2];rfl,λk h h'=>?_⟩
  cases k with
  |zero=>exact h1
  |succ k=>exact e3 k (by simpa using h) (by simpa using h')
def JL(F:Nat->Prop)(w:World):Prop:=∀(w':World)(p:i4)(cs:List Value),w.grownBy w' none->rPg.rep w' F p cs->Calls Tryz.prog 47 #[.agg cs.toArray] w' λe w2=>∃U5,e=.returned (.agg U5.toArray)/\rPg.rep w2 (λk=>F k\/w'.heap.size<=k) p U5/\w'.grownBy w2 none
def Nk(ids sids:List (Int×Int))(w:World):Prop:=∀(w':World)(V:Value)(G:Nat->Prop),w.grownBy w' none->RSl rId w' G ids V->Calls Tryz.prog 46 #[V,.slice none 0 0] w' λe w2=>∃v,e=.returned v/\RSl rId w2 (λk=>G k\/w'.heap.size<=k) sids v/\w'.grownBy w2 none
def Ld(x:Int×Int):Prop:=(Lit.int .i64 x.1).wf=true/\(Lit.int .i64 x.2).wf=true
theorem MgS.row{w wr w':World}{xf xt yf yt:Int}{X Y:Value}{row:Option Nat}(h:MgS w xf xt yf yt X Y (w.heap.size+1+1+1) wr)(hg:wr.grownBy w' row)(hr:∀x,row=some x->w.heap.size+1+1+1<x):MgS w xf xt yf yt X Y (w.heap.size+1+1+1) w':=
 ⟨fN h.grown hg λx e=>by have:=hr x e;omega,h.b2.keep (hg.block _ h.b2.hi λe=>by have:=hr _ e.symm;omega),h.b3.keep (hg.block _ h.b3.hi λe=>by have:=hr _ e.symm;omega),h.b4.keep (hg.block _ h.b4.hi λe=>by have:=hr _ e.symm;omega),h.b6.keep (hg.block _ h.b6.hi λe=>by have:=hr _ e.symm;omega)⟩
structure M2 (w:World)(xf xt yf yt:Int)(X Y:Value)(F:Nat->Prop)(L:List Value)(b9 B2:Nat)(wL:World)(ps:List i4)(k m:Nat)(idsV:Value)(wr:World):Prop where
 bs:MgS w xf xt yf yt X Y (w.heap.size+1+1+1) wr
 map:∃f,PMp wr L b9 k f/\∀id,∃cs:List Value,f id=.agg cs.toArray/\rPg.rep wr F (iJ (ps.take k) id) cs
 ids:Mk rId 42 B2 wr (λ_=>False) idsV ((ps.take m).map ct)
 same:∀x,x<B2->x≠b9->wr.heap[x]?=wL.heap[x]?
 size:B2<=wr.heap.size
 b9q:w.heap.size+1+1+1<b9
 b9B:b9<B2
theorem zP{w wr w':World}{F:Nat->Prop}{p:i4}{cs:List Value}(hF:∀x,F x->x<w.heap.size)(hs:w.heap.size<=wr.heap.size)(h:rPg.rep wr F p cs){row:Option Nat}(hg:wr.grownBy w' row)(hr:∀x,row=some x->w.heap.size<=x):rPg.rep w' F p cs:=
 rPg.keep h λx hx=>hg.block x (by have:=hF x hx;omega) λe=>by have:=hr x e.symm;have:=hF x hx;omega
theorem M2.over{w:World}{xf xt yf yt:Int}{X Y:Value}{F:Nat->Prop}{L:List Value}{b9 B2:Nat}{wL:World}{ps:List i4}{k m m':Nat}{idsV Um:Value}{wr w':World}{row:Option Nat}(h:M2 w xf xt yf yt X Y F L b9 B2 wL ps k m idsV wr)(hF:∀x,F x->x<w.heap.size)
 (hg:wr.grownBy w' row)(hr:∀x,row=some x->B2<=x)(hi:Mk rId 42 B2 w' (λ_=>False) Um ((ps.take m').map ct)):M2 w xf xt yf yt X Y F L b9 B2 wL ps k m' Um w':=by
 have h1:=h.b9q;have h2:=h.b9B;have h3:=h.size;refine⟨h.bs.row hg λx e=>by have:=hr x e;omega,?_,hi,λx hx hn=>(hg.block x (by omega) λe=>by have:=hr x e.symm;omega).trans (h.same x hx hn),Nat.le_trans h3 hg.size,h1,h2⟩;obtain⟨f,hP,hf⟩:=h.map;refine⟨f,hP.kept hg λe=>by have:=hr _ e.symm;omega,λid=>?_⟩;obtain⟨cs,e,hc⟩:=hf id;exact⟨cs,e,zP hF h.bs.grown.size hc hg λx e=>by have:=hr x e;omega⟩
theorem M2.grow{w:World}{xf xt yf yt:Int}{X Y:Value}{F:Nat->Prop}{L:List Value}{b9 B2:Nat}{wL:World}{ps:List i4}{k m:Nat}{idsV:Value}{wr w':World}(h:M2 w xf xt yf yt X Y F L b9 B2 wL ps k m idsV wr)(hF:∀x,F x->x<w.heap.size)
 (hg:wr.grownBy w' none):M2 w xf xt yf yt X Y F L b9 B2 wL ps k m idsV w':=h.over hF hg (λ_ e=>by cases e) (h.ids.grow hg)
theorem M2.put{w:World}{xf xt yf yt:Int}{X Y:Value}{F:Nat->Prop}{L:List Value}{b9 B2:Nat}{wL:World}{ps:List i4}{k m:Nat}{idsV:Value}{wr w':World}{p:i4}{cs:List Value}{f:Int×Int->Value}(h:M2 w xf xt yf yt X Y F L b9 B2 wL ps k m idsV wr)(hF:∀x,F x->x<w.heap.size)
 (hg:wr.grownBy w' (some b9))(hP:PMp w' L b9 (k+1) λx=>if x=ct p then .agg cs.toArray else f x)(hf:∀id,∃cs:List Value,f id=.agg cs.toArray/\rPg.rep wr F (iJ (ps.take k) id) cs)(hrep:rPg.rep wr F p cs)
 (Qo:∀id,iJ (ps.take (k+1)) id=if ct p=id then p else iJ (ps.take k) id):M2 w xf xt yf yt X Y F L b9 B2 wL ps (k+1) m idsV w':=by
 have h1:=h.b9q;have h2:=h.b9B;have h3:=h.size;refine⟨h.bs.row hg λx e=>by injection e with e;omega,⟨_,hP,λid=>?_⟩,?_,λx hx hn=>(hg.block x (by omega) λe=>by injection e with e;exact hn e).trans (h.same x hx hn),Nat.le_trans h3 hg.size,h1,h2⟩
 ·rw[Qo id];by_cases e:ct p=id
  ·rw[oIP e,oIP e.symm];exact⟨cs,rfl,zP hF h.bs.grown.size hrep hg λx e=>by injection e with e;omega⟩
  ·rw[oIN e,oIN λh=>e h.symm];obtain⟨U5,e',hc⟩:=hf id;exact⟨U5,e',zP hF h.bs.grown.size hc hg λx e=>by injection e with e;omega⟩
 ·have ZP:=h.ids.row;obtain⟨ds,d1,d2,d3⟩:=h.ids;refine⟨ds,d1.kept hg ?_,d2,eZ.keep (λk hk=>hk.1.elim) d3⟩;cases hv:idsV.ownBlock
  ·exact .inl rfl
  ·exact .inr λe=>by injection e with e;have:=(ZP _ hv).1;omega
structure M3 (w:World)(xf xt yf yt:Int)(X Y:Value)(F:Nat->Prop)(L:List Value)(b9 n q13 B3:Nat)(ps:List i4)(G:Nat->Prop)(sids:List (Int×Int))(SV:Value)(k:Nat)(wr:World):Prop where
 bs:MgS w xf xt yf yt X Y (w.heap.size+1+1+1) wr
 map:∃f,PMp wr L b9 n f/\∀id,∃cs:List Value,f id=.agg cs.toArray/\rPg.rep wr F (iJ ps id) cs
 ids:RSl rId wr G sids SV
 out:∃v,Bk wr q13 36 [.int .i64 xf,.int .i64 yt,v]/\Mk rPg 48 B3 wr (λx=>F x\/B3<=x) v ((sids.take k).map (iJ ps))
 size:B3<=wr.heap.size
theorem M3.grow{w:World}{xf xt yf yt:Int}{X Y:Value}{F:Nat->Prop}{L:List Value}{b9 n q13 B3:Nat}{ps:List i4}{G:Nat->Prop}{sids:List (Int×Int)}{SV:Value}{k:Nat}{wr w':World}(h:M3 w xf xt yf yt X Y F L b9 n q13 B3 ps G sids SV k wr)(hg:wr.grownBy w' none):M3 w xf xt yf yt X Y F L b9 n q13 B3 ps G sids SV k w':=by
 refine⟨h.bs.grow hg,?_,h.ids.grow hg,?_,Nat.le_trans h.size hg.size⟩
 ·obtain⟨f,hP,hf⟩:=h.map;refine⟨f,hP.kept hg (by simp),λid=>?_⟩;obtain⟨cs,e,hc⟩:=hf id;exact⟨cs,e,rPg.grow hc hg⟩
 ·obtain⟨v,h1,h2⟩:=h.out;exact⟨v,h1.grow hg,h2.grow hg⟩
theorem M3.next{w:World}{xf xt yf yt:Int}{X Y:Value}{F:Nat->Prop}{L:List Value}{b9 n q13 B3:Nat}{ps:List i4}{G:Nat->Prop}{sids:List (Int×Int)}{SV:Value}{k:Nat}{wr w':World}(h:M3 w xf xt yf yt X Y F L b9 n q13 B3 ps G sids SV k wr)
 (hF:∀x,F x->x<w.heap.size)(hG:∀x,G x->x<B3/\x≠q13)(h9:w.heap.size+1+1+1<b9)(h9q:b9<q13)(hqB:q13<B3){row:Option Nat}(hg:wr.grownBy w' row)(hr:∀x,row=some x->B3<=x){v0 v:Value}(hb:Bk w' q13 36 [.int .i64 xf,.int .i64 yt,v0])
 (YK:Mk rPg 48 B3 w' (λx=>F x\/B3<=x) v ((sids.take (k+1)).map (iJ ps))):M3 w xf xt yf yt X Y F L b9 n q13 B3 ps G sids SV (k+1) (w'.setCell ⟨q13,2,none⟩ v):=by
 have h3:=h.size;have ZH:w'.grownBy (w'.setCell ⟨q13,2,none⟩ v) (some q13):=grown_set (bg _ _) (.inl rfl) _;have ZD:∀x,x<B3->x≠q13->(w'.setCell ⟨q13,2,none⟩ v).heap[x]?=wr.heap[x]?:=λx hx hn=>(b8 _ _ _ hn).trans (hg.block x (by omega) λe=>by have:=hr x e.symm;omega);have hw:=h.bs.grown.size;refine⟨(h.bs.row hg λx e=>by have:=hr x e;omega).row ZH λx e=>by injection e with e;omega,?_,h.ids.keep λx hx=>ZD x (hG x hx).1 (hG x hx).2,⟨v,hb.set 2 v,YK.setBelow hqB (λhx=>by rcases hx with hx|hx;(have:=hF _ hx;dsimp only at this;omega);(dsimp only at hx;omega)) v⟩,by rw[vu];exact Nat.le_trans h3 hg.size⟩;obtain⟨f,hP,hf⟩:=h.map;refine⟨f,(hP.kept hg λe=>by have:=hr _ e.symm;omega).kept ZH λe=>by injection e with e;omega,λid=>?_⟩;obtain⟨cs,e,hc⟩:=hf id;exact⟨cs,e,rPg.keep hc λx hx=>ZD x (by have:=hF x hx;omega) (by have:=hF x hx;omega)⟩
section
variable {α:Type} {P:Program} {w:World} {R:Rp α} {t e:TypeId} {bytes:Nat}
theorem CK{ops:Array Oper}{o:Oper}{a:Act}{K:Act->World->Prop}{Q:Exit->Act->World->Prop}{E:Prop}(Ye:o.guard=none)(s x:Operand)(T:SlT P t e R.size bytes)(Yz:bytes<=128)(ho:o.op=.call { callee:=.builtin .append,args:=#[s,x],argTypes:=#[t,t] })
 (base:Nat)(G:Nat->Prop)(v:Value)(xs:List α)(hs:a.eval s=v)(hown:Mk R e base w G v xs)(ZE:base<=w.heap.size)
 (b:Nat)(y:α)(cs:List Value)(hx:a.eval x=.slice (some ⟨b,0,none⟩) 1 1)(hy:R.rep w (λk=>G k/\some k≠v.ownBlock) y cs)(hc:∀(j:Nat) u,cs[j]?=some u->w.cell? ⟨b,j,none⟩=some u)
 (hlen:xs.length+1<=1099511627776)
 (h:∀v' w',Mk R e base w' G v' (xs++[y])->w.grownBy w' v.ownBlock->K (a.put o.dst v') w'):if Region.wanted o (yielded ops a.tmps)=true then Oper.wp P o a w K Q else E:=by
 have hw:Region.wanted o (yielded ops a.tmps)=true:=by simp[Region.wanted,Ye]
 rw[oIP hw];obtain⟨ds,h1,h2,h3⟩:=hown
 have hcell:∀(j:Nat) u,cs[j]?=some u->w.cell? ((⟨b,0,none⟩:Addr).add j)=some u:=λj u hu=>by
  rw[show(⟨b,0,none⟩:Addr).add j=⟨b,j,none⟩ by unfold Addr.add;split<;>simp_all];exact hc j u hu
 obtain⟨v',w',hrun,ZZ,hg,WU⟩:=nz (P:=P) (w:=w) T o.type base v xs.length ds h1 ⟨b,0,none⟩ 1 1 cs (by rw[R.len hy];simp) hcell (R.one hy) (r8 (by omega)) (wX hlen Yz) ZE;unfold Oper.wp;simp only[execOp,ho,resolve,invoke,builtin,Sem.run_bind,Sem.run_pure,Result.andThen_ok,List.map_toArray,List.map_cons,List.map_nil,hs,hx,hrun];refine h v' w' ⟨ds++cs,by rw[List.length_append];exact ZZ,by simpa using hlen,?_⟩ hg;have ZW:=(eZ.append h3 (eZ.single hy)).live;refine(eZ.keep (w':=w') (λk hk=>hg.block k hk.2 hk.1.2) ZW).sub λk hk=>⟨hk.1.1,?_⟩;rcases WU with e|WU
 ·rw[e];exact hk.1.2
 ·intro e;have:=WU k e.symm;omega
end
set_option maxRecDepth 100000 in
set_option maxHeartbeats 8000000 in
theorem Do(F:Nat->Prop)(xs ys:List i4)(sids:List (Int×Int))(X Y:Value)(xf xt yt:Int)(w:World)(hx:RSl rPg w F xs X)(hy:RSl rPg w F ys Y)
 (Tl:G7 (.agg #[.int .i64 xf,.int .i64 xt,X]) 0 w)(Tn:G7 (.agg #[.int .i64 xt,.int .i64 yt,Y]) 0 w)(NF:∀p∈xs++ys,Ld (ct p))(R3:∀s∈sids,Ld s)(hlen:xs.length+ys.length<=1099511627776)(Vb:sids.length<=1099511627776)
 (hdm:Nk ((xs++ys).map ct) sids w)(Qt:JL (λk=>F k/\k<w.heap.size) w):
 Calls Tryz.prog 25 #[.agg #[.int .i64 xf,.int .i64 xt,X],.agg #[.int .i64 xt,.int .i64 yt,Y]] w λe w'=>
  ∃v,e=.returned (.tuple #[.agg #[.int .i64 xf,.int .i64 yt,v],.int .i64 0])/\RSl rPg w' (λk=>F k\/w.heap.size<=k) (sids.map (iJ (xs++ys))) v/\w.grownBy w' none:=by
 have HX:=Lib.hid hx;have HY:=Lib.hid hy;obtain⟨A1,c1,rfl,_,_,Qw⟩:=hx.size_eq;obtain⟨A2,c2,rfl,_,_,PV⟩:=hy.size_eq;have QD:=Lib.hid Tl;have Sv:=Lib.hid Tn;have HWF:=Lib.hid NF;have HSW:=Lib.hid R3;have HDM:=Lib.hid hdm;have HPG:=Lib.hid Qt;have Sx:=Lib.hid (And.intro hlen Vb);obtain⟨n1,Xy⟩:∃n,n=xs.length:=⟨_,rfl⟩;obtain⟨n2,Va⟩:∃n,n=ys.length:=⟨_,rfl⟩;obtain⟨yf,Qx⟩:∃yf,yf=xt:=⟨_,rfl⟩;obtain⟨cd,Tm⟩:∃cd:Int,cd=0:=⟨_,rfl⟩;obtain⟨ce,To⟩:∃ce:Int,ce=0:=⟨_,rfl⟩;rw[<- Xy]at HX QD⊢;rw[<- Va]at HY Sv⊢;rw[<- Qx]at Sv;rw[<- Tm]at QD;rw[<- To]at Sv;have HCC:=Lib.hid (And.intro Tm To);have HN:=Lib.hid (And.intro Xy Va);have HYF:=Lib.hid Qx
 have eY:(Value.agg #[.int .i64 xt,.int .i64 yt,.slice A2 n2 c2])=.agg #[.int .i64 yf,.int .i64 yt,.slice A2 n2 c2]:=by rw[Qx]
 rw[eY];clear hx hy Tl Tn NF R3 hdm Qt hlen Vb Tm To Xy Va Qx Qw PV eY
 go_enter Tryz.func25,Tryz.ntmps25
 go_upto_region 2 with fail
 have QV:MgS w xf xt yf yt (.slice A1 n1 c1) (.slice A2 n2 c2) (w.heap.size+1+1+1) ((((w.alloc (.cells #[.int .i64 xf,.int .i64 xt,.slice A1 n1 c1] 36)).alloc (.cells #[.int .i64 yf,.int .i64 yt,.slice A2 n2 c2] 36)).alloc (.cells #[.int .i64 0,.int .i64 0,.slice none 0 0] 36)).alloc (.cells #[.int .i64 xf,.int .i64 xt,.slice A1 n1 c1,.int .i64 yf,.int .i64 yt,.slice A2 n2 c2] 36)):=by
  have e1:(w.alloc (.cells #[.int .i64 xf,.int .i64 xt,.slice A1 n1 c1] 36)).heap.size=w.heap.size+1:=by simp
  have e2:((w.alloc (.cells #[.int .i64 xf,.int .i64 xt,.slice A1 n1 c1] 36)).alloc (.cells #[.int .i64 yf,.int .i64 yt,.slice A2 n2 c2] 36)).heap.size=w.heap.size+1+1:=by simp
  have e3:(((w.alloc (.cells #[.int .i64 xf,.int .i64 xt,.slice A1 n1 c1] 36)).alloc (.cells #[.int .i64 yf,.int .i64 yt,.slice A2 n2 c2] 36)).alloc (.cells #[.int .i64 0,.int .i64 0,.slice none 0 0] 36)).heap.size=w.heap.size+1+1+1:=by simp
  have g1:w.grownBy (w.alloc (.cells #[.int .i64 xf,.int .i64 xt,.slice A1 n1 c1] 36)) none:=bf (bg _ _) _;have b2:Bk (w.alloc (.cells #[.int .i64 xf,.int .i64 xt,.slice A1 n1 c1] 36)) w.heap.size 36 [.int .i64 xf,.int .i64 xt,.slice A1 n1 c1]:=Bk.new;have g2:(w.alloc (.cells #[.int .i64 xf,.int .i64 xt,.slice A1 n1 c1] 36)).grownBy ((w.alloc (.cells #[.int .i64 xf,.int .i64 xt,.slice A1 n1 c1] 36)).alloc (.cells #[.int .i64 yf,.int .i64 yt,.slice A2 n2 c2] 36)) none:=bf (bg _ _) _;have b3:Bk ((w.alloc (.cells #[.int .i64 xf,.int .i64 xt,.slice A1 n1 c1] 36)).alloc (.cells #[.int .i64 yf,.int .i64 yt,.slice A2 n2 c2] 36)) (w.alloc (.cells #[.int .i64 xf,.int .i64 xt,.slice A1 n1 c1] 36)).heap.size 36 [.int .i64 yf,.int .i64 yt,.slice A2 n2 c2]:=Bk.new;have g3:((w.alloc (.cells #[.int .i64 xf,.int .i64 xt,.slice A1 n1 c1] 36)).alloc (.cells #[.int .i64 yf,.int .i64 yt,.slice A2 n2 c2] 36)).grownBy (((w.alloc (.cells #[.int .i64 xf,.int .i64 xt,.slice A1 n1 c1] 36)).alloc (.cells #[.int .i64 yf,.int .i64 yt,.slice A2 n2 c2] 36)).alloc (.cells #[.int .i64 0,.int .i64 0,.slice none 0 0] 36)) none:=bf (bg _ _) _;have b4:Bk (((w.alloc (.cells #[.int .i64 xf,.int .i64 xt,.slice A1 n1 c1] 36)).alloc (.cells #[.int .i64 yf,.int .i64 yt,.slice A2 n2 c2] 36)).alloc (.cells #[.int .i64 0,.int .i64 0,.slice none 0 0] 36)) ((w.alloc (.cells #[.int .i64 xf,.int .i64 xt,.slice A1 n1 c1] 36)).alloc (.cells #[.int .i64 yf,.int .i64 yt,.slice A2 n2 c2] 36)).heap.size 36 [.int .i64 0,.int .i64 0,.slice none 0 0]:=Bk.new;have g4:(((w.alloc (.cells #[.int .i64 xf,.int .i64 xt,.slice A1 n1 c1] 36)).alloc (.cells #[.int .i64 yf,.int .i64 yt,.slice A2 n2 c2] 36)).alloc (.cells #[.int .i64 0,.int .i64 0,.slice none 0 0] 36)).grownBy ((((w.alloc (.cells #[.int .i64 xf,.int .i64 xt,.slice A1 n1 c1] 36)).alloc (.cells #[.int .i64 yf,.int .i64 yt,.slice A2 n2 c2] 36)).alloc (.cells #[.int .i64 0,.int .i64 0,.slice none 0 0] 36)).alloc (.cells #[.int .i64 xf,.int .i64 xt,.slice A1 n1 c1,.int .i64 yf,.int .i64 yt,.slice A2 n2 c2] 36)) none:=bf (bg _ _) _;have b6:Bk ((((w.alloc (.cells #[.int .i64 xf,.int .i64 xt,.slice A1 n1 c1] 36)).alloc (.cells #[.int .i64 yf,.int .i64 yt,.slice A2 n2 c2] 36)).alloc (.cells #[.int .i64 0,.int .i64 0,.slice none 0 0] 36)).alloc (.cells #[.int .i64 xf,.int .i64 xt,.slice A1 n1 c1,.int .i64 yf,.int .i64 yt,.slice A2 n2 c2] 36)) (((w.alloc (.cells #[.int .i64 xf,.int .i64 xt,.slice A1 n1 c1] 36)).alloc (.cells #[.int .i64 yf,.int .i64 yt,.slice A2 n2 c2] 36)).alloc (.cells #[.int .i64 0,.int .i64 0,.slice none 0 0] 36)).heap.size 36 [.int .i64 xf,.int .i64 xt,.slice A1 n1 c1,.int .i64 yf,.int .i64 yt,.slice A2 n2 c2]:=Bk.new;rw[e1]at b3;rw[e2]at b4;rw[e3]at b6;exact⟨bl (bl (bl g1 g2) g3) g4,((b2.grow g2).grow g3).grow g4,(b3.grow g3).grow g4,b4.grow g4,b6⟩
 generalize(((w.alloc (.cells #[.int .i64 xf,.int .i64 xt,.slice A1 n1 c1] 36)).alloc (.cells #[.int .i64 yf,.int .i64 yt,.slice A2 n2 c2] 36)).alloc (.cells #[.int .i64 0,.int .i64 0,.slice none 0 0] 36)).alloc (.cells #[.int .i64 xf,.int .i64 xt,.slice A1 n1 c1,.int .i64 yf,.int .i64 yt,.slice A2 n2 c2] 36)=W at *;have QG:=Lib.hid QV;clear QV
 go_loopw [20] (λi wr=>(i=.int .i64 0\/(i=.int .i64 1/\cd=0)\/(i=.int .i64 2/\cd=0/\ce=0))/\MgS w xf xt yf yt (.slice A1 n1 c1) (.slice A2 n2 c2) (w.heap.size+1+1+1) wr) (λi _=>2-(intOf i).toNat)
 case atStart=>exact⟨.inl rfl,QG.out⟩
 case round=>
  obtain⟨hi,hS⟩:=hrel;have HS:=Lib.hid hS;have UV:=hS.b6.cell 0;have UW:=hS.b6.cell 1;have UX:=hS.b6.cell 2;have UY:=hS.b6.cell 3;have UZ:=hS.b6.cell 4;have U0:=hS.b6.cell 5;simp only[List.getElem?_cons_zero,List.getElem?_cons_succ]at UV UW UX UY UZ U0;clear hS QG;rcases hi with rfl|⟨rfl,Ws⟩|⟨rfl,Ws,Zp⟩
  ·go_wp2_with fail
   refine(QD.out _ (bl HS.out.grown (bf (bg _ _) _))).mono ?_;rintro e w5 ⟨rfl,Xi⟩;have Yc:=Lib.hid ((HS.out.grow (bf (bg wr none) (.cells #[.int .i64 xf,.int .i64 xt,.slice A1 n1 c1] 36))).grow Xi);clear Xi UV UW UX UY UZ U0;by_cases hc:cd=0
   ·have Ux:(cd != 0)=false:=by simp[hc]
    have Hc:=Lib.hid hc;clear hc
    go_wp2_with fail
    go_roundw
    case rel=>exact⟨.inr (.inl ⟨by go_num,Hc.out⟩),Yc.out⟩
    case measure=>simp[intOf]
   ·have Ux:(cd != 0)=true:=by simp[hc]
    exact absurd HCC.out.1 hc
  ·have QC:=Lib.hid Ws;clear Ws
   go_wp2_with fail
   refine(Sv.out _ (bl HS.out.grown (bf (bg _ _) _))).mono ?_;rintro e w5 ⟨rfl,Xi⟩;have Yc:=Lib.hid ((HS.out.grow (bf (bg wr none) (.cells #[.int .i64 yf,.int .i64 yt,.slice A2 n2 c2] 36))).grow Xi);clear Xi UV UW UX UY UZ U0;by_cases hc:ce=0
   ·have Ux:(ce != 0)=false:=by simp[hc]
    have Hc:=Lib.hid hc;clear hc
    go_wp2_with fail
    go_roundw
    case rel=>exact⟨.inr (.inr ⟨by go_num,QC.out,Hc.out⟩),Yc.out⟩
    case measure=>simp[intOf]
   ·have Ux:(ce != 0)=true:=by simp[hc]
    exact absurd HCC.out.2 hc
  ·have X0:=HS.out.b2.cell 1;have So:=HS.out.b2.cell 2;have Yb:=HS.out.b3.cell 0;have Yj:=HS.out.b3.cell 2;simp only[List.getElem?_cons_zero,List.getElem?_cons_succ]at X0 So Yb Yj
   have hnb:(xt != yf)=false:=by simp[HYF.out]
   have hmm:=@run_makeMap Tryz.prog;clear Ws Zp UV UW UX UY UZ U0
   go_upto_region 12 with fail
   have hgm:wr.grownBy (wr.alloc (.map #[] 0)) none:=bf (bg _ _) _;have QH:=Lib.hid (HS.out.grow hgm);have h9:(wr.alloc (.map #[] 0)).heap[wr.heap.size]?=some (.map #[] 0):=heap_alloc_new wr _
   have hs9:wr.heap.size<(wr.alloc (.map #[] 0)).heap.size:=by simp
   have SS:=HS.out.grown.size;have hwr3:=HS.out.b6.hi;have H9:=Lib.hid h9;clear X0 So Yb Yj hgm h9 hnb hmm;generalize wr.alloc (.map #[] 0)=W9 at *;generalize hb9:wr.heap.size=b9 at *;have So:=QH.out.b2.cell 2;have Yj:=QH.out.b3.cell 2;simp only[List.getElem?_cons_zero,List.getElem?_cons_succ]at So Yj
   go_wp2_with fail
   have O9:W9.grownBy (W9.alloc (.cells #[.slice A1 n1 c1,.slice A2 n2 c2] 34)) none:=bf (bg _ _) _;have Tu:=bl QH.out.grown O9;refine(yT (λk=>F k/\k<w.heap.size) xs ys W9.heap.size 2 _ _ _ Bk.new (HX.out.live.grow Tu) (HY.out.live.grow Tu) Sx.out.1).mono ?_;rintro e Wl ⟨V,rfl,YK,Rh⟩;have Pm:Mk rPg 48 (W9.heap.size+1) Wl (λk=>F k/\k<w.heap.size) V (xs++ys):=(YK.base (by simp)).subG λk hk=>hk.1;obtain⟨n,hn⟩:∃n,n=(xs++ys).length:=⟨_,rfl⟩;obtain⟨AV,cV,eV⟩:=YK.shape;rw[<- hn]at eV;subst eV;have Qj:=bl O9 Rh;have HSL:=Lib.hid (QH.out.grow Qj);have hsL:=Qj.size
   have Tg:Wl.heap[b9]?=some (.map #[] 0):=by rw[Qj.block b9 hs9 (by simp)];exact H9.out
   obtain⟨cs,hown,Pn,Uh⟩:=Pm;obtain⟨WL,Zp,Ze,U7⟩:=uO Uh
   have Qd:∃gV,∀k,k<n->AV=some ⟨gV,0,none⟩/\gV<Wl.heap.size/\b9<gV/\∀(w':World),w'.heap[gV]?=Wl.heap[gV]?->∀(h':k<WL.length) (j:Nat) u,j<11->WL[k][j]?=some u->w'.cell? ⟨gV,k*11+j,none⟩=some u:=by
    rcases hown.2 with⟨e1,e2⟩|⟨g,cap,cur,e1,hb,YT,hcap,hmax,hsz,Zx⟩
    ·exact⟨0,λk hk=>by omega⟩
    ·refine⟨g,λk hk=>⟨by injection e1 with e1,(Array.getElem?_eq_some_iff.1 YT).1,by omega,λw' Sf h' j u hj hu=>?_⟩⟩;have hcell:=World.ownsRow.cells (g:=g) hown (by rw[e1];rfl)
     have hlen:∀q∈WL,q.length=11:=λq hq=>by
      obtain⟨i,hi,rfl⟩:=List.getElem_of_mem hq;exact rPg.len (U7 i (by omega) hi)
     have Zq:=g9 (c:=WL) (sz:=11) (λi h=>hlen _ (List.getElem_mem h)) (i:=k) (j:=j) h' (by rw[hlen _ (List.getElem_mem h')];exact hj)
     have h2:=hcell (k*11+j) u (by
      rw[Ze,Zq,<- hu]
      exact(oGE _).symm)
     rw[cH,Nat.zero_add]at h2;rw[World.cell?_of_block (w:=Wl) Sf];exact h2
   obtain⟨gV,Qd⟩:=Qd;have HC:=Lib.hid Qd;have HC3:=Lib.hid (λk h h'=>rPg.sub (G:=λk=>F k/\k<w.heap.size) (U7 k h h') λx hx=>hx.1);have HCL:=Lib.hid Zp;have Hn:=Lib.hid hn;clear hown Uh Zp Ze U7 Qd YK Rh Qj O9 Tu So Yj Pn hn;obtain⟨L,hL⟩:∃L:List Value,L=zPg::WL.map (λq=>.agg q.toArray):=⟨_,rfl⟩
   have Sn:zPg∈L:=by rw[hL];simp
   have HZL:=Lib.hid Sn;have HL:=Lib.hid hL
   have OA:w.heap.size+1+1+1<b9:=by omega
   have Oz:b9<Wl.heap.size:=(Array.getElem?_eq_some_iff.1 Tg).1
   have HM0:=Lib.hid (show M2 w xf xt yf yt (.slice A1 n1 c1) (.slice A2 n2 c2) (λk=>F k/\k<w.heap.size) L b9 Wl.heap.size Wl (xs++ys) 0 0 (.slice none 0 0) Wl from
    ⟨HSL.out,⟨λ_=>zPg,⟨_,⟨#[],0,Tg,⟨by simp,MapKept.stamped_empty 0,by simp⟩,Nat.le_refl _,rfl⟩,λ_ _ _ _=>by
     obtain⟨i,h1,h2⟩:=Fk Sn
     exact⟨i,h1,h2⟩⟩,λid=>Hb _ _⟩,Mk.nil _ _ _ _ _,λ_ _ _=>rfl,Nat.le_refl _,OA,Oz⟩)
   clear Sn hL Tg HSL QH
   go_wp2_with fail
   go_loopw [10,45] (λids i wr=>∃k:Nat,k<=n/\i=.int .i64 k/\M2 w xf xt yf yt (.slice A1 n1 c1) (.slice A2 n2 c2) (λk=>F k/\k<w.heap.size) L b9 Wl.heap.size Wl (xs++ys) k k ids wr) (λ_ i _=>n-(intOf i).toNat)
   case atStart=>exact⟨0,Nat.zero_le _,rfl,HM0.out⟩
   case round=>
    clear HM0;obtain⟨k,hk,rfl,hm⟩:=hrel;have HM:=Lib.hid hm;clear hm;by_cases hlt:k<n
    ·obtain⟨hAV,Z0,ZH,ZV⟩:=HC.out k hlt
     have Qn:k<WL.length:=by rw[HCL.out,<- Hn.out];exact hlt
     have Rt:k<(xs++ys).length:=by rw[<- Hn.out];exact hlt
     obtain⟨y,z,XK,hy,hz⟩:=BT (HC3.out k Rt Qn)
     have PM:Value.agg WL[k].toArray∈L:=by
      rw[HL.out];exact List.mem_cons_of_mem _ (List.mem_map.2 ⟨_,List.getElem_mem Qn,rfl⟩)
     have hpw:=HWF.out _ (List.getElem_mem Rt);have hrep:=HC3.out k Rt Qn;have R6:(xs++ys).take (k+1)=(xs++ys).take k++[(xs++ys)[k]]:=List.take_succ_eq_append_getElem Rt;have Qo:=λid=>z8 Rt id;have hcell:=ZV wr (HM.out.same gV Z0 (by omega)) Qn;generalize(xs++ys)[k]=p at *;generalize WL[k]=cs at *;subst XK;obtain⟨a,c,pc,v0,v1,v2,v3,v4,v5,v6,pr⟩:=p;obtain⟨Ay,cy,rfl,_,_,_⟩:=hy.size_eq;obtain⟨Az,cz,rfl,_,_,_⟩:=hz.size_eq;subst hAV;dsimp only at *;generalize pc.length=ly at *;generalize pr.length=lz at *;have SZ:=Lib.hid hrep;have HPW:=Lib.hid hpw;have Oa:=Lib.hid R6;have HLS:=Lib.hid Qo;simp only[pgC,vwC]at PM hcell;have HVL:=Lib.hid PM;have c0:=hcell 0 _ (by decide) rfl;have Oc:=hcell 1 _ (by decide) rfl;have U4:=hcell 2 _ (by decide) rfl;have c3':=hcell 3 _ (by decide) rfl;have c4:=hcell 4 _ (by decide) rfl;have c5:=hcell 5 _ (by decide) rfl;have c6:=hcell 6 _ (by decide) rfl;have c7:=hcell 7 _ (by decide) rfl;have c8:=hcell 8 _ (by decide) rfl;have c9:=hcell 9 _ (by decide) rfl;have c10:=hcell 10 _ (by decide) rfl;simp only[Nat.add_zero]at c0;clear hcell ZV PM hpw hrep R6 Qo hy hz
     have x2:(0:Int)<=(k:Int):=by omega
     have x3:(k:Int)<(n:Int):=by omega
     have x5:(k:Int).toNat=k:=by omega
     have Yt:wr.grownBy (wr.alloc (.cells #[.int .i64 a,.int .i64 c,.slice Ay ly cy,.int .i64 v0,.int .i64 v1,.int .i64 v2,.int .i64 v3,.int .i64 v4,.int .i64 v5,.int .u16 v6,.slice Az lz cz] 48)) none:=bf (bg _ _) _;have Yy:Bk (wr.alloc (.cells #[.int .i64 a,.int .i64 c,.slice Ay ly cy,.int .i64 v0,.int .i64 v1,.int .i64 v2,.int .i64 v3,.int .i64 v4,.int .i64 v5,.int .u16 v6,.slice Az lz cz] 48)) wr.heap.size 48 [.int .i64 a,.int .i64 c,.slice Ay ly cy,.int .i64 v0,.int .i64 v1,.int .i64 v2,.int .i64 v3,.int .i64 v4,.int .i64 v5,.int .u16 v6,.slice Az lz cz]:=Bk.new;obtain⟨f,hPM,Xw⟩:=(HM.out.grow (λx h=>h.2) Yt).map;obtain⟨w7,hrun,hP7,O7⟩:=hPM.update (show k<9223372036854775807 by have:=Sx.out.1;have:=Hn.out;simp at this;omega) HPW.out.1 HPW.out.2 HVL.out;simp only[ct]at hrun;have hw6:=Yy.hi;have h97:=HM.out.b9B;have V3:=Yy.keep (O7.block _ hw6 (by have:=HM.out.size;intro e;injection e with e;omega));have Up:=Lib.hid ((HM.out.grow (λx h=>h.2) Yt).put (λx h=>h.2) O7 hP7 Xw (rPg.grow (rPg.keep (w':=wr) SZ.out λx hx=>HM.out.same x (by have:=HM.out.b9q;have:=HM.out.b9B;have:=hx.2;omega) (by have:=HM.out.b9q;have:=hx.2;omega)) Yt) HLS.out);have QB:=Lib.hid V3;have m0:=Yy.cell 0;have m1:=Yy.cell 1;have m2:=Yy.cell 2;have m3:=Yy.cell 3;have m4:=Yy.cell 4;have m5:=Yy.cell 5;have m6:=Yy.cell 6;have m7:=Yy.cell 7;have m8:=Yy.cell 8;have m9:=Yy.cell 9;have m10:=Yy.cell 10;simp only[List.getElem?_cons_zero,List.getElem?_cons_succ]at m0 m1 m2 m3 m4 m5 m6 m7 m8 m9 m10;have o0:=V3.cell 0;have o1:=V3.cell 1;simp only[List.getElem?_cons_zero,List.getElem?_cons_succ]at o0 o1;clear V3;clear hP7 O7 Xw hPM Yy
     go_upto_region 15 with fail
     generalize wr.alloc (.cells #[.int .i64 a,.int .i64 c,.slice Ay ly cy,.int .i64 v0,.int .i64 v1,.int .i64 v2,.int .i64 v3,.int .i64 v4,.int .i64 v5,.int .u16 v6,.slice Az lz cz] 48)=W6 at *;have Ob:=Lib.hid (show w7.grownBy (w7.alloc (.cells #[.int .i64 a,.int .i64 c] 42)) none from bf (bg _ _) _);obtain⟨AI,cI,eI⟩:=Up.out.ids.shape;generalize hidl:((xs++ys).take k).map ct=IL at eI;have Sw:=Lib.hid hidl;have heI:=Lib.hid eI;subst eI;clear hidl
     go_upto_region 16 with fail
     go_wp2_with (at_builtin;go_loud (refine xk (R:=rId) rfl (.tmp 53) (.tmp 56) Nn (by decide) rfl Wl.heap.size (λ_=>False) (.slice AI IL.length cI) IL rfl ?c1 ?c2 w7.heap.size (a,c) [.int .i64 a,.int .i64 c] rfl ?c3 ?c4 ?c5 ?_))
     case c1=>have hx:=Up.out.ids.grow Ob.out;rw[Sw.out]at hx;exact hx
     case c2=>have:=Up.out.size;have:=Ob.out.size;omega
     case c3=>exact M4 (a,c)
     case c5=>rw[<- Sw.out];have:=Sx.out.1;have:=Hn.out;simp at this⊢;omega
     intro v' w12 VI Ri;have ZP:=Up.out.ids.row;obtain⟨AJ,cJ,rfl⟩:=VI.shape
     have Xz:n<=1099511627776:=by have:=Sx.out.1;have:=Hn.out;simp at this;omega
     have N5:=Lib.hid ((Up.out.grow (λx h=>h.2) Ob.out).over (λx h=>h.2) Ri (λx e=>(ZP x e).1) (m':=k+1) (by rw[Oa.out,List.map_append,Sw.out];exact VI));clear VI Ri ZP
     go_wp2_with fail
     go_roundw
     case rel=>exact⟨k+1,by omega,by go_num,N5.out⟩
     case measure=>simp[intOf];omega
    ·have Rs:k=n:=by omega
     subst Rs;have g20:=HM.out.bs.b2.cell 0;have g31:=HM.out.bs.b3.cell 1;simp only[List.getElem?_cons_zero,List.getElem?_cons_succ]at g20 g31;obtain⟨AI,cI,eI⟩:=HM.out.ids.shape
     have Px:(xs++ys).take k=xs++ys:=by rw[Hn.out];exact List.take_length
     have HPS:=Lib.hid Px;have N4:=Lib.hid ((HM.out.ids.done (F:=λx=>Wl.heap.size<=x) (λ_ h=>h) λ_ h=>h.elim).live);rw[Px]at N4 eI;generalize hidl:((xs++ys).map ct).length=il at eI;subst eI;clear hidl Px;have SJ:wr.grownBy (wr.alloc (.cells #[.int .i64 xf,.int .i64 yt,.slice none 0 0] 36)) none:=bf (bg _ _) _;have W':=Lib.hid (show Bk (wr.alloc (.cells #[.int .i64 xf,.int .i64 yt,.slice none 0 0] 36)) wr.heap.size 36 [.int .i64 xf,.int .i64 yt,.slice none 0 0]from Bk.new);have Sz:=Lib.hid (HM.out.grow (λx h=>h.2) SJ);have HGQ:=Lib.hid SJ;clear SJ
     go_upto_region 19 with fail
     go_wp2_with fail
     refine(HDM.out _ _ _ Sz.out.bs.grown (N4.out.grow HGQ.out)).mono ?_;rintro e Sq ⟨SV,rfl,SQ,Wb⟩;have h99:=Sz.out.b9q;have h9B:=Sz.out.b9B;have hB2:=HM.out.size;have PC:=Wb.size;simp at PC
     have Qe:∃G:Nat->Prop,(∀x,G x->x<Sq.heap.size/\x≠wr.heap.size)/\M3 w xf xt yf yt (.slice A1 n1 c1) (.slice A2 n2 c2) (λk=>F k/\k<w.heap.size) L b9 k wr.heap.size Sq.heap.size (xs++ys) G sids SV 0 Sq:=
      ⟨_,λx hx=>⟨hx.2,by rcases hx.1 with h|h;(have:=h.2;omega);(simp at h;omega)⟩,(Sz.out.grow (λx h=>h.2) Wb).bs,by have:=(Sz.out.grow (λx h=>h.2) Wb).map;rw[HPS.out]at this;exact this,SQ.live,⟨_,W'.out.grow Wb,Mk.nil _ _ _ _ _⟩,Nat.le_refl _⟩
     obtain⟨G,hG,Qe⟩:=Qe;have N6:=Lib.hid Qe;have HGG:=Lib.hid hG;clear Qe hG;obtain⟨AS,cS,rfl,_,_,Vb⟩:=SQ.size_eq;obtain⟨nS,Qr⟩:∃n,n=sids.length:=⟨_,rfl⟩;rw[<- Qr]at N6;rw[<- Qr]at Vb⊢;have P':=Lib.hid Qr;have HG19:=Lib.hid Wb;generalize hq13:wr.heap.size=q13 at *;clear SQ Wb Qr Sz W' HGQ N4 g20 g31
     have hB3:q13<Sq.heap.size:=by omega
     generalize hgb3:Sq.heap.size=B3 at *;clear HM
     go_wp2_with fail
     go_loopw [67] (λi wy=>∃m:Nat,m<=nS/\i=.int .i64 m/\M3 w xf xt yf yt (.slice A1 n1 c1) (.slice A2 n2 c2) (λk=>F k/\k<w.heap.size) L b9 k q13 B3 (xs++ys) G sids (.slice AS nS cS) m wy) (λi _=>nS-(intOf i).toNat)
     case atStart=>exact⟨0,Nat.zero_le _,rfl,N6.out⟩
     case round=>
      clear N6;obtain⟨m,hm,rfl,hst⟩:=hrel;have HM:=Lib.hid hst;clear hst;by_cases hlt:m<nS
      ·have Po:m<sids.length:=by rw[<- P'.out];exact hlt
       obtain⟨qs,so,cS',scs,e,_,_,hGq,hid,hcl⟩:=HM.out.ids.at_ Po;rw[<- P'.out]at e
       injection e with e1 e2 e3
       subst e1;subst e3;have R6:sids.take (m+1)=sids.take m++[sids[m]]:=List.take_succ_eq_append_getElem Po;have R3:=HSW.out _ (List.getElem_mem Po);generalize sids[m]=s at *;obtain⟨a,c⟩:=s;have e:=Mc hid;subst e;have s0:=hcl 0 _ rfl;have s1:=hcl 1 _ rfl;simp only[show rId.size=2 from rfl,Nat.add_zero]at s0 s1;rw[<- Nat.add_assoc]at s1;clear hid hcl
       have x2:(0:Int)<=(m:Int):=by omega
       have x3:(m:Int)<(nS:Int):=by omega
       have x5:(m:Int).toNat=m:=by omega
       obtain⟨f,hP,hf⟩:=HM.out.map;obtain⟨cs,efa,hrep⟩:=hf (a,c);have Yt:wr.grownBy (wr.alloc (.cells #[.int .i64 a,.int .i64 c] 42)) none:=bf (bg _ _) _;have Tf:Bk (wr.alloc (.cells #[.int .i64 a,.int .i64 c] 42)) wr.heap.size 42 [.int .i64 a,.int .i64 c]:=Bk.new;have RV:=((hP.kept Yt (by simp)).kept (cD (bg _ none)) (by simp)).lookup HZL.out R3.1 R3.2;rw[efa]at RV;have SZ:=Lib.hid ((rPg.grow hrep Yt));have Oa:=Lib.hid R6;have Ya:=Lib.hid Yt;generalize hlp:iJ (xs++ys) (a,c)=p at *;have HLP:=Lib.hid hlp;clear hP hf hrep efa R6 Yt hlp;obtain⟨v0,Xg,YK⟩:=HM.out.out;have r0:=(Tf.drew).cell 0;have r1:=(Tf.drew).cell 1;have j2:=((Xg.grow Ya.out).drew).cell 2;simp only[List.getElem?_cons_zero,List.getElem?_cons_succ]at r0 r1 j2;have W':=Lib.hid (Xg.grow Ya.out);have Sy:=Lib.hid (YK.grow Ya.out);clear Xg YK Tf;have hq13:=W'.out.hi;generalize hilm:(sids.take m).map (iJ (xs++ys))=IL at *;have Sw:=Lib.hid hilm;clear hilm
       go_upto_region 22 with fail
       generalize hW15:wr.alloc (.cells #[.int .i64 a,.int .i64 c] 42)=W15 at *;clear hW15
       go_region_law (first
        |(go_simp;go_at_call 47;refine(HPG.out _ p cs (cD (bl HM.out.bs.grown Ya.out)) (rPg.grow SZ.out (cD (bg _ none)))).mono ?_;rintro e NT ⟨U5,rfl,XW,Wc⟩;obtain⟨y',z',rfl,VS,Sl⟩:=BT XW;have Wc:=bl (cD (bg W15 none)) Wc;have j3:=(W'.out.grow Wc).cell 2;have q3:=(W'.out.grow Wc).hi;simp only[List.getElem?_cons_zero,List.getElem?_cons_succ]at j3;have N8:=Lib.hid XW;have Vf:=Lib.hid Wc;clear XW Wc VS Sl;simp only[pgC,vwC])
        |(refine CK (R:=rPg) rfl (.tmp 72) (.tmp 77) MK (by decide) (by rfl) B3 (λx=>(F x/\x<w.heap.size)\/B3<=x) v0 IL (by rfl) (Sy.out.grow (bf Vf.out _)) (by have h1:=HM.out.size;have h2:=Ya.out.size;have h3:=Vf.out.size;replace h3:W15.heap.size<=NT.heap.size:=h3;simp;omega) NT.heap.size p (pgC p y' z') (by rfl) (rPg.sub (rPg.grow N8.out (bf (bg _ none) _)) (λx hx=>⟨by rcases hx with h|h;exact .inl h;exact .inr (by have h1:=HM.out.size;have h2:=Ya.out.size;replace h:W15.heap.size<=x:=h;omega),λe=>by have h1:=Sy.out.row x e.symm;have h2:=HM.out.size;have h3:=HM.out.bs.grown.size;(rcases hx with h|h;(have:=h.2;omega);(replace h:W15.heap.size<=x:=h;omega))⟩)) (λj u hj=>IW rfl hj) (by rw[<- Sw.out];have:=Sx.out.2;simp;omega) ?_;intro v' w24 VJ Ts;obtain⟨A4,c4,rfl⟩:=VJ.shape;have Vt:=((W'.out.grow (bf Vf.out (.cells (pgC p y' z').toArray 48))).keep (Ts.block _ (W'.out.grow (bf Vf.out (.cells (pgC p y' z').toArray 48))).hi (λe=>by have h1:=(Sy.out.row _ e.symm).1;omega)));have f24:=Vt.free 2;have j24:=Vt.cell 2;simp only[List.getElem?_cons_zero,List.getElem?_cons_succ]at j24;have q24:=Vt.hi;have NW:=Lib.hid Vt;have QF:=Lib.hid VJ;have NX:=Lib.hid Ts;clear Vt VJ Ts))
       all_goals
        have HSX:=Lib.hid (HM.out.next (λx h=>h.2) (λx h=>HGG.out x h) h99 (show b9<q13 by omega) hB3 (bl (ml (bf (bl Ya.out Vf.out) (.cells (pgC p y' z').toArray 48))) NX.out) (λx e=>(Sy.out.row x e).1) NW.out (by rw[Oa.out,List.map_append,Sw.out,List.map_cons,List.map_nil,HLP.out];exact QF.out))
        have Xz:nS<=1099511627776:=by rw[P'.out];exact Sx.out.2
        go_wp2_with fail
        go_roundw
        case rel=>exact⟨m+1,by omega,by go_num,by have B':=HSX.out;simp only[List.length_append,oLC,List.length_nil,Nat.zero_add]at B';exact B'⟩
        case measure=>simp[intOf];omega
      ·have Qq:m=nS:=by omega
       subst Qq;obtain⟨v0,Xg,YK⟩:=HM.out.out;have j0:=Xg.cell 0;have j1:=Xg.cell 1;have j2:=Xg.cell 2;have Y5:=HM.out.bs.b4.cell 0;have Y6:=HM.out.bs.b4.cell 1;have VT:=HM.out.bs.b4.cell 2;have WM:=HM.out.bs.b4.free 0;have f41:=HM.out.bs.b4.free 1;have Oq:=HM.out.bs.b4.free 2;have q4:=HM.out.bs.b4.hi;simp only[List.getElem?_cons_zero,List.getElem?_cons_succ]at Y5 Y6 VT j0 j1 j2;obtain⟨A5,c5,e5⟩:=YK.shape
       have hTT:sids.take m=sids:=by rw[P'.out];exact List.take_length
       rw[hTT]at YK e5;generalize hl5:(sids.map (iJ (xs++ys))).length=l5 at e5;subst e5;have Sy:=Lib.hid YK;clear YK hTT hl5 Xg
       go_wp2_with fail
       refine bodyPost_ret (v:=.tuple #[.agg #[.int .i64 xf,.int .i64 yt,.slice A5 l5 c5],.int .i64 0]) (by simp[results,Tryz.results25,go_sem,Y5,Y6,VT,q4]) rfl ?_;refine⟨_,rfl,?_,HM.out.bs.err _ _ _⟩;refine((Sy.out.done (F:=λx=>(F x/\x<w.heap.size)\/B3<=x) (λk hk=>.inr hk) λk hk=>hk).keep (λx hx=>?_)).sub λx hx=>?_
       ·have hne:x≠w.heap.size+1+1:=by rcases hx with h|h;(have:=h.2;omega);omega
        rw[b8 _ _ _ hne,b8 _ _ _ hne,b8 _ _ _ hne]
       ·rcases hx with h|h
        ·exact .inl h.1
        ·exact .inr (by omega)
end Go.Proofs.YtbdhpgelkfncpaaGreat
namespace Go.Proofs.YtbdhpgelkfncpaaGreat
open Go.RowKit
inductive ri (w:World)(F:Nat->Prop):TV->Value->Prop
 |im {t:TV} {x:Value} (h:fI w F t x):ri w F t x
 |fn {f:FuncId}:ri w F (.fn f []) (.func (.func f) #[] #[])
 |ag {l:List TV} {cs:Array Value} (hl:cs.size=l.length) (h:∀j (hj:j<l.length),fI w F l[j] (cs.getD j undef)):ri w F (.agg l) (.agg cs)
def Ma:TV->Bool
 |.v _=>true
 |.sl _=>true
 |_=>false
def Aj:TV->Bool
 |.sl _=>true
 |.v _=>true
 |.fn _ []=>true
 |.agg l=>l.all Ma
 |_=>false
def CD(P:Program)(f:FuncId)(vals:List TV)(r:tG):Prop:=
 r.cells.all Ma=true/\∀(avs:List Value)(w:World)(F:Nat->Prop),avs.length=vals.length->(∀j (h:j<vals.length)(h':j<avs.length),ri w F vals[j] avs[j])->
  Calls P f avs.toArray w λe w2=>∃ys,e=.returned (je r.sh ys)/\ys.length=r.cells.length/\Below w.heap.size w w2/\∀j (h:j<r.cells.length),fI w2 (λk=>F k\/w.heap.size<=k) r.cells[j] (ys.getD j undef)
def xU(R:FuncId->List TV->Option tG):cE:=λf vals pts=>
 match pts with
 | []=>if vals.all Aj then(R f vals).map λr=>(r,[])else none
 |_=>none
section
variable {M:Fm} {σ:St} {ts:Array Value} {w:World}
theorem Inv.addHands{F:Nat->Prop}:∀{z:List TV}{ys:List Value}{H:List TV}{xs:List Value}{G:Gh},Inv M σ H xs ts w G->(∀k,F k->G.F M.A k)->z.length=ys.length->(∀j (h:j<z.length),fI w F z[j] (ys.getD j undef))->∃G',Inv M σ (H++z) (xs++ys) ts w G':=by
 intro z
 induction z with
 |nil=>
  intro ys H xs G hI _ hl _;have:ys=[]:=List.length_eq_zero_iff.1 hl.symm;subst this;exact⟨G,by simpa using hI⟩
 |cons t z ih=>
  intro ys H xs G hI hF hl hz
  cases ys with
  |nil=>simp at hl
  |cons y ys=>
   obtain⟨G1,hg⟩:=hI.addHand ((hz 0 (by simp)).frame (F':=G.F M.A) (λ_ _ _=>rfl) λk hk _=>hF k hk).toOwn
   obtain⟨G2,ZJ⟩:=ih hg.1 (λk hk=>hg.2.1 k (hF k hk)) (by simpa using hl) λj hj=>by have:=hz (j+1) (by simpa using hj);simpa using this
   refine⟨G2,?_⟩;simpa using ZJ
end
theorem KJ{P:Program}{R:FuncId->List TV->Option tG}(hR:∀f vals r,R f vals=some r->gQ P f/\CD P f vals r):eC P (xU R):=by
 intro f vals pts res Zs h
 cases pts with
 |cons _ _=>simp[xU]at h
 |nil=>
  simp only[xU]at h;split at h
  case isFalse=>simp at h
  rename_i ZW;simp only[List.all_eq_true]at ZW
  obtain⟨r,hr,he⟩:∃r,R f vals=some r/\(r,[])=(res,Zs):=by
   cases hr:R f vals with
   |none=>simp[hr]at h
   |some c=>exact⟨c,rfl,by simpa[hr]using h⟩
  injection he with e1 e2
  subst e1 e2;obtain⟨Y9,We,Ty⟩:=hR f vals r hr;refine⟨Y9,vals.length,Nat.le_refl _,λM avs w G hal hN Qv Yv hI=>?_⟩;subst Qv
  have R8:avs.toArray++Array.replicate (vals.length-avs.length) undef=avs.toArray:=by rw[hal];simp
  rw[R8]at hI
  have hst:∀j,(mkSt vals []).t j=vals.getD j .dead:=by
   intro j;simp[St.t,mkSt,jC]
  refine(Ty avs M.w0 (G.F M.A) hal λj hj ZT=>?_).mono λe w2 ⟨ys,VA,hlen,hb,X8⟩=>?_
  ·have ht:=hI.tmr j;rw[hst]at ht
   have e1:vals.getD j .dead=vals[j]:=by simp[hj]
   have e2:avs.toArray.getD j undef=avs[j]:=by simp[Array.getD_eq_getD_getElem?,ZT]
   rw[e1,e2]at ht;have ha:=ZW _ (List.getElem_mem hj);revert ht ha;generalize vals[j]=t;generalize avs[j]=y;intro ht ha
   cases ht with
   |v h=>exact .im (.v h)
   |sl h=>exact .im h
   | @fn f l xs hl h=>
    cases l with
    |nil=>
     have:xs=#[]:=Array.eq_empty_of_size_eq_zero (by simpa using hl);subst this;exact .fn
    |cons _ _=>simp[Aj]at ha
   | @agg l cs hl h=>
    refine .ag hl λj hj=>?_;have h1:Ma l[j]=true:=List.all_eq_true.1 ha _ (List.getElem_mem hj);have h2:=h j hj;revert h1 h2;generalize l[j]=t;generalize cs.getD j undef=z;intro h1 h2
    cases h2 with
    |v h2=>exact .v h2
    |sl h2=>exact h2
    |_=>simp[Ma]at h1
   |_=>simp[Aj]at ha
  ·obtain⟨ZJ,_⟩:=hI.grow (w':=w2) (λk hk=>hb.block k hk) hb.size hb.os hb.tape hb.output
   have hF:∀k,G.F M.A k\/M.w0.heap.size<=k->G.F M.A k:=by
    rintro k (hk|hk)
    ·exact hk
    ·refine⟨M.hA k hk,λr o hφ=>?_,λr b o n hβ e=>?_⟩
     ·have:=hI.core.live hφ;omega
     ·subst e;have:=hI.core.boxlt hβ;omega
   obtain⟨G',WO⟩:=ZJ.addHands hF hlen.symm X8;refine⟨_,mkSt vals [],VA,.inl ⟨ys,avs.toArray,G',rfl,by simpa using WO,λj hj=>.inl ?_⟩,rfl⟩;have:=List.all_eq_true.1 We _ (List.getElem_mem hj);revert this;generalize r.cells[j]=t;intro this
   cases t with
   |v _=>rfl
   |sl _=>rfl
   |_=>simp[Ma]at this
def F4:TV->Bool
 |.v _=>true
 |.sl _=>true
 |.ow _=>true
 |_=>false
theorem rD{w:World}{F:Nat->Prop}{a:Option Addr}:fI w F (.sl []) (.slice a 0 0):=
 .sl (c:=[]) 1 (λ_ _=>.nilFunc) (λi h=>by simp at h) (Nat.le_refl _) (Nat.zero_le _) (λ_=>rfl) (λi j h=>by simp at h) (λi j h=>by simp at h)
theorem ri.toTm{w:World}{F:Nat->Prop}{V:Vs}{C:Cs}{G:Gh}{t:TV}{x:Value}(h:ri w F t x):TmR w F V C G t x:=by
 cases h with
 |im h=>exact h.toTm
 |fn=>exact .fn rfl λj hj=>by simp at hj
 |ag hl h=>exact .agg hl λj hj=>(h j hj).toTm
theorem ri.frame{w w':World}{F F':Nat->Prop}{t:TV}{x:Value}(h:ri w F t x)(hw:∀k,F k->k<w.heap.size->w'.heap[k]?=w.heap[k]?)(hF:∀k,F k->k<w.heap.size->F' k):ri w' F' t x:=by
 cases h with
 |im h=>exact .im (h.frame hw hF)
 |fn=>exact .fn
 |ag hl h=>exact .ag hl λj hj=>(h j hj).frame hw hF
theorem pn{P:Program}{B:cE}(hB:eC P B){f:FuncId}{vals:List TV}{avs:List Value}{res:tG}{w:World}{F:Nat->Prop}(h:B f vals []=some (res,[]))(Zq:res.cells.all F4=true)(hl:avs.length=vals.length)
 (hv:∀j (h:j<vals.length)(h':j<avs.length),ri w F vals[j] avs[j]):
 Calls P f avs.toArray w λe w'=>∃ys,e=.returned (je res.sh ys)/\ys.length=res.cells.length/\Below w.heap.size w w'/\∀j (h:j<res.cells.length),fI w' (λk=>F k\/w.heap.size<=k) res.cells[j].imm (ys.getD j undef):=by
 obtain⟨Y9,N,hN,hc⟩:=hB f vals [] _ _ h;obtain⟨M,hM⟩:∃M:Fm,M=⟨w,λk=>F k\/w.heap.size<=k,λ_=>False,λ_=>none,N,λk hk=>.inr hk⟩:=⟨_,rfl⟩;have Y8:∀k,F k->frG.F M.A k:=λk hk=>⟨by rw[hM];exact .inl hk,λ_ _ h=>h,λ_ _ _ _ h=>by simp[frG]at h⟩
 have hst:∀i,(mkSt vals []).t i=vals.getD i .dead:=by
  intro i;simp[St.t,mkSt,jC]
 have hE:∀r o,bG M (mkSt vals []) [] r o=.dead:=by
  intro r o;unfold bG;split
  ·simp
  ·rfl
 have hI:Inv M (mkSt vals []) [] [] (avs.toArray++Array.replicate (N-avs.length) undef) w frG:=by
  refine⟨⟨λr o=>.inl ⟨hE r o,λ_ h=>h⟩,λ_ _ _ _ h=>by simp[frG]at h,λ_ _ _ _ h=>by simp[frG]at h,λ_ _ _ _ _ _ _ h=>by simp[frG]at h,λ_ _ _ _ h=>by simp[frG]at h,λ_ _ _ _ _ h=>h.elim,λ_ _ _ h=>h.elim⟩,λi=>?_,⟨by rw[hM],by rw[hM],by rw[hM],by rw[hM];exact Nat.le_refl _,λ_ _ _ _=>by rw[hM],λ_ _ _ _ h=>by simp[hM]at h,λ_ _ _ h=>h.elim,λ_ _ _ _ h=>by simp[frG]at h,λ_ h=>by simp[frG]at h⟩,λr l h=>by simp[mkSt,bE]at h,?_,rfl,λj hj=>by simp at hj,λ_ _ _ _ h=>by simp[frG]at h⟩
  ·rw[hst];by_cases hi:i<vals.length
   ·have ZM:i<avs.length:=by omega
    have e1:vals.getD i .dead=vals[i]:=by simp[hi]
    have e2:(avs.toArray++Array.replicate (N-avs.length) undef).getD i undef=avs[i]:=by
     simp[Array.getD_eq_getD_getElem?,Array.getElem?_append,ZM]
    rw[e1,e2];exact((hv i hi ZM).frame (w':=w) (F':=frG.F M.A) (λ_ _ _=>rfl) λk hk _=>Y8 k hk).toTm
   ·have e1:vals.getD i .dead=.dead:=by rw[oGD,oGN (by omega)];rfl
    rw[e1];exact .dead
  ·rw[hM];simp;omega
 refine(hc M avs w frG hl (by rw[hM]) (by rw[hM]) (λr hr=>by simp[hM]at hr) hI).mono λe w2 ⟨v,σ2,he,Yd,_⟩=>?_
 rcases Yd with⟨ys,ts2,G2,rfl,ZJ,_⟩|⟨q,vs,l,pv,ts2,G2,ZV,_⟩
 rotate_left
 ·rw[ZV]at Zq;simp[F4]at Zq
 have ZN:∀j (h:j<res.cells.length),res.cells[j]≠.dead:=λj hj e=>by
  have:=List.all_eq_true.1 Zq res.cells[j] (List.getElem_mem hj);rw[e]at this;simp[F4]at this
 obtain⟨G3,UC,We⟩:=ZJ.dropImm ZN;refine⟨ys,he,ZJ.hand.symm,⟨?_,?_,?_,?_,λk hk=>?_⟩,λj hj=>(We j hj).frame (λ_ _ _=>rfl) λk hk _=>?_⟩
 ·have:=ZJ.fram.os;rw[hM]at this;exact this
 ·have:=ZJ.fram.tape;rw[hM]at this;exact this
 ·have:=ZJ.fram.output;rw[hM]at this;exact this
 ·have:=ZJ.fram.size;rw[hM]at this;exact this
 ·have:=ZJ.fram.old k (by rw[hM];exact hk) (by rw[hM];exact λh=>h) λ_ _ _ _ h=>by simp[hM]at h
  rw[this,hM]
 ·have:=hk.1;rw[hM]at this;exact this
abbrev Lt:CT:=(.pair (.int .u8) (.pair (.int .u16) (.pair I64 I64)))
abbrev Eb:CT:=(.pair I64 (.pair I64 (.pair I64 (.pair I64 (.pair I64 (.pair I64 (.pair (.int .u16) (.row false Lt))))))))
abbrev ln:CT:=(.row false Lt)
abbrev RIi:CT:=(.row false I64)
abbrev MS:Type:=(Int×Int)
abbrev nM:Type:=(Int×Int×Int×Int)
abbrev Ng:Type:=(Int×Int×Int×Int×Int×Int×Int×List nM)
def HHi(f i:Nat):List (Nat×Option Nat):=if f=16 then(if i=3000007 then[(9,some 0),(9,some 1)]else[])else if f=24 then(if i=3000012 then[(10,some 0),(10,some 1)]else[])else if f=61 then(if i=0 then[(4,none)]else[])else[]
def Jw:List Nat:=[68,67]
noncomputable def TTi (f:FuncId):Option TFn:=if Jw.contains f then none else n8 Tryz.prog (HHi f) f
theorem Ej{f:FuncId}(h:Jw.contains f=true):TTi f=none:=oIP h
noncomputable def E0i:Env:=⟨λ_=>none,λf=>Nh Tryz.prog f⟩
theorem LF:D9 Tryz.prog TTi:=λf tf h=>El HHi (by kernel_rfl) f tf (by
 unfold TTi at h;split at h
 ·cases h
 ·exact h)
def nw(a0:Int):Option (Bool×Unit):=
bif(decide (a0>=1))then(some ((decide (a0<=32)),()))else
some (false,())
noncomputable def tZ:X.Cfg:=⟨E0i,[],[],[]⟩
def nG:Ctr:=⟨83,0,[shU I64],[],[⟨[shU .bool],[.one],[]⟩],λh=>nw h.1⟩
set_option maxRecDepth 100000 in
theorem tO:Lvl E0i TTi mS 1 nG:=bk (n:=0) (C:=tZ) rfl (.intro) (bm (by kernel_rfl)) (λh=>by kernel_rfl)
def j9(a0:List nM):Option (Bool×Unit):=
let x0:Int:=(bn (List.length a0));
(nw x0).bind λ(x1,_)=>
some ((!x1),())
noncomputable def qb:X.Cfg:=⟨E0i,[nG],[],[]⟩
def kA:Ctr:=⟨82,1,[shU ln],[],[⟨[shU .bool],[.one],[]⟩],λh=>j9 h.1⟩
set_option maxRecDepth 100000 in
theorem p9:Lvl E0i TTi mS 2 kA:=bk (n:=1) (C:=qb) rfl (.intro (tO.mono (by decide)) (.intro)) (bm (by kernel_rfl)) (λh=>by kernel_rfl)
def iM:(List (List nM))×Int×Int×Unit->Option (((List (List nM))×Int×Int×Unit)⊕((Int×Unit)⊕((List (List nM))×Int×Int×Bool×Unit))):=λ(v0,v1,v2,_)=>
bif(decide (v2<v1))then((dO v2).bind λx0=>
(cn v0 x0).bind λx1=>
(j9 x1).bind λ(x2,_)=>
bif x2 then(some (.inr (.inl (v2,()))))else
let x3:Int:=(w64 (v2+1));
some (.inl (v0,v1,x3,())))else
some (.inr (.inr (v0,v1,v2,false,())))
def fK(a0:List (List nM)):Option (Int×Unit):=
let x0:Int:=(bn (List.length a0));
(match bu iM NN (a0,x0,0,())with
|none=>none
|some (.inl (x1,_))=>
some (x1,())
|some (.inr (x1,x2,x3,x4,_))=>
some ((-1),()))
noncomputable def jT:X.Cfg:=⟨E0i,[kA],[],[⟨3,0,⟨[(0,shU (.row false ln)),(1,.fn 82 []),(7,shU I64),(8,shU I64)],[],[],([],[])⟩,[(.ret,⟨[(4,shU I64)],[],[],([],[])⟩),(.exit 0,⟨[(0,shU (.row false ln)),(1,.fn 82 []),(7,shU I64),(8,shU I64),(9,shU .bool)],[],[],([],[])⟩)]⟩]⟩
def fP:Ctr:=⟨88,2,[shU (.row false ln),.fn 82 []],[],[⟨[shU I64],[.one],[]⟩],λh=>fK h.1⟩
set_option maxRecDepth 100000 in
theorem jP:Lvl E0i TTi mS 3 fP:=bk (n:=2) (C:=jT) rfl (.intro (p9.mono (by decide)) (.intro)) (bm (by kernel_rfl)) (λh=>by kernel_rfl)
def eS(a0:List (List nM)):Option (Bool×Unit):=
(fK a0).bind λ(x0,_)=>
some ((decide (x0>=0)),())
noncomputable def iU:X.Cfg:=⟨E0i,[fP],[],[]⟩
def eX:Ctr:=⟨81,3,[shU (.row false ln),.fn 82 []],[],[⟨[shU .bool],[.one],[]⟩],λh=>eS h.1⟩
set_option maxRecDepth 100000 in
theorem iS:Lvl E0i TTi mS 4 eX:=bk (n:=3) (C:=iU) rfl (.intro (jP.mono (by decide)) (.intro)) (bm (by kernel_rfl)) (λh=>by kernel_rfl)
def lP(a0:List (List nM))(a1:List Ng):Option (Bool×Unit):=
let x0:Int:=(bn (List.length a0));
bif(decide (x0<=4))then(let x1:Int:=(bn (List.length a1));
bif(decide (x1<=4))then((eS a0).bind λ(x2,_)=>
some ((!x2),()))else
some (false,()))else
some (false,())
noncomputable def sn:X.Cfg:=⟨E0i,[eX],[],[]⟩
def mr:Ctr:=⟨72,4,[.agg [shU (.row false ln),shU (.row false Eb)]],[],[⟨[shU .bool],[.one],[]⟩],λh=>lP h.1 h.2.1⟩
set_option maxRecDepth 100000 in
theorem sd:Lvl E0i TTi mS 5 mr:=bk (n:=4) (C:=sn) rfl (.intro (iS.mono (by decide)) (.intro)) (bm (by kernel_rfl)) (λh=>by kernel_rfl)
def oh(a0:List nM)(a1:Int):Option ((List nM)×Unit):=
(bif(decide (a1<0))then(some (a0,a1,true,()))else
bif(decide (a1>32))then(some (a0,a1,true,()))else
let x0:Int:=(w64 (a1*8));
let x1:Int:=(bn (List.length a0));
some (a0,a1,(decide (x0>=x1)),()):Option ((List nM)×Int×Bool×Unit)).bind λ(x0,x1,x2,_)=>
bif x2 then(some ([],()))else
let x3:Int:=(w64 (x1*8));
let x4:Int:=(w64 (x3+8));
let x5:Int:=(bn (List.length x0));
let x6:Int:=(mmR false x4 x5);
(dO x3).bind λx7=>
(dO x6).bind λx8=>
bif(fZ x7 x8 (List.length x0))then let x9:List nM:=(zu x0 x7 (Nat.sub x8 x7));
some (x9,())else none
noncomputable def vZ:X.Cfg:=⟨E0i,[],[],[⟨2,0,⟨[],[],[],([],[])⟩,[(.normal,⟨[(0,shU ln),(1,shU I64),(18,shU .bool)],[],[],([],[])⟩)]⟩]⟩
def pf:Ctr:=⟨61,5,[shU ln,shU I64],[],[⟨[shU ln],[.one],[]⟩],λh=>oh h.1 h.2.1⟩
set_option maxRecDepth 100000 in
theorem vH:Lvl E0i TTi mS 1 pf:=bk (n:=0) (C:=vZ) rfl (.intro) (bm (by kernel_rfl)) (λh=>by kernel_rfl)
def nv(a0:List (List nM))(a1:List Ng)(a2:Int)(a3:Int):Option (Bool×Unit):=
bif(a2==(-1))then(bif(decide (a3>=0))then(let x0:Int:=(bn (List.length a1));
some ((decide (a3<x0)),()))else
some (false,()))else
bif(decide (a2>=0))then(let x0:Int:=(bn (List.length a0));
bif(decide (a2<x0))then((dO a2).bind λx1=>
(cn a0 x1).bind λx2=>
(oh x2 a3).bind λ(x3,_)=>
let x4:Int:=(bn (List.length x3));
some ((decide (x4>0)),()))else
some (false,()))else
some (false,())
noncomputable def tY:X.Cfg:=⟨E0i,[pf],[],[]⟩
def nF:Ctr:=⟨75,6,[.agg [shU (.row false ln),shU (.row false Eb)],.agg [shU I64,shU I64]],[],[⟨[shU .bool],[.one],[]⟩],λh=>nv h.1 h.2.1 h.2.2.1 h.2.2.2.1⟩
set_option maxRecDepth 100000 in
theorem tN:Lvl E0i TTi mS 2 nF:=bk (n:=1) (C:=tY) rfl (.intro (vH.mono (by decide)) (.intro)) (bm (by kernel_rfl)) (λh=>by kernel_rfl)
def gm(a0:List (List nM))(a1:List Ng)(a2:Int)(a3:Int):Option (Int×Unit):=
(lP a0 a1).bind λ(x0,_)=>
bif(!x0)then(some (1,()))else
(nv a0 a1 a2 a3).bind λ(x1,_)=>
bif(!x1)then(some (30,()))else
some (0,())
noncomputable def wa:X.Cfg:=⟨E0i,[mr,nF],[],[]⟩
def wV:Ctr:=⟨55,7,[.agg [shU (.row false ln),shU (.row false Eb)],.agg [shU I64,shU I64]],[],[⟨[shU I64],[.one],[]⟩],λh=>gm h.1 h.2.1 h.2.2.1 h.2.2.2.1⟩
set_option maxRecDepth 100000 in
theorem vI:Lvl E0i TTi mS 6 wV:=bk (n:=5) (C:=wa) rfl (.intro (sd.mono (by decide)) (.intro (tN.mono (by decide)) (.intro))) (bm (by kernel_rfl)) (λh=>by kernel_rfl)
def dJ(a0:Int)(a1:Int)(a2:Int)(a3:Int)(a4:Int)(a5:Int)(a6:Int)(a7:List nM):Option (Bool×Unit):=
bif(a0==0)then(bif(a1==0)then(bif(a2==0)then(bif(a3==0)then(bif(a4==0)then(bif(a5==0)then(bif(a6==0)then(let x0:Int:=(bn (List.length a7));
some ((x0==0),()))else
some (false,()))else
some (false,()))else
some (false,()))else
some (false,()))else
some (false,()))else
some (false,()))else
some (false,())
noncomputable def t6:X.Cfg:=⟨E0i,[],[],[]⟩
def ur:Ctr:=⟨62,8,[.agg [shU I64,shU I64,shU I64,shU I64,shU I64,shU I64,shU (.int .u16),shU ln]],[],[⟨[shU .bool],[.one],[]⟩],λh=>dJ h.1 h.2.1 h.2.2.1 h.2.2.2.1 h.2.2.2.2.1 h.2.2.2.2.2.1 h.2.2.2.2.2.2.1 h.2.2.2.2.2.2.2.1⟩
set_option maxRecDepth 100000 in
theorem tP:Lvl E0i TTi mS 1 ur:=bk (n:=0) (C:=t6) rfl (.intro) (bm (by kernel_rfl)) (λh=>by kernel_rfl)
def oi(a0:Int)(a1:Int):Option (Int×Unit):=
(bif(decide (a0<0))then(some (true,()))else
bif(decide (a1>200))then(some (true,()))else
some ((decide (a0>a1)),()):Option (Bool×Unit)).bind λ(x0,_)=>
bif x0 then(some (6,()))else
some (0,())
noncomputable def wc:X.Cfg:=⟨E0i,[],[],[⟨2,0,⟨[],[],[],([],[])⟩,[(.normal,⟨[(15,shU .bool)],[],[],([],[])⟩)]⟩]⟩
def pi:Ctr:=⟨31,9,[shU I64,shU I64],[],[⟨[shU I64],[.one],[]⟩],λh=>oi h.1 h.2.1⟩
set_option maxRecDepth 100000 in
theorem vK:Lvl E0i TTi mS 1 pi:=bk (n:=0) (C:=wc) rfl (.intro) (bm (by kernel_rfl)) (λh=>by kernel_rfl)
def kJ(a0:Int)(a1:Int):Option (Int×Unit):=
bif(a0==(-1))then(some (1,()))else
some (0,())
noncomputable def wb:X.Cfg:=⟨E0i,[],[],[]⟩
def ph:Ctr:=⟨71,10,[.agg [shU I64,shU I64]],[],[⟨[shU I64],[.one],[]⟩],λh=>kJ h.1 h.2.1⟩
set_option maxRecDepth 100000 in
theorem vJ:Lvl E0i TTi mS 1 ph:=bk (n:=0) (C:=wb) rfl (.intro) (bm (by kernel_rfl)) (λh=>by kernel_rfl)
def eN(a0:Int):Option (Bool×Unit):=
some ((a0 != a0),())
noncomputable def lK:X.Cfg:=⟨E0i,[],[],[]⟩
def gM:Ctr:=⟨80,11,[shU I64],[],[⟨[shU .bool],[.one],[]⟩],λh=>eN h.1⟩
set_option maxRecDepth 100000 in
theorem lH:Lvl E0i TTi mS 1 gM:=bk (n:=0) (C:=lK) rfl (.intro) (bm (by kernel_rfl)) (λh=>by kernel_rfl)
def cG(a0:Int)(a1:Int):Option (Int×Unit):=
(eN a0).bind λ(x0,_)=>
(eN a1).bind λ(x1,_)=>
bif x0 then(bif x1 then(some (0,()))else
some ((-1),()))else
bif x1 then(some (1,()))else
bif(decide (a0<a1))then(some ((-1),()))else
bif(decide (a0>a1))then(some (1,()))else
some (0,())
noncomputable def js:X.Cfg:=⟨E0i,[gM],[],[]⟩
def fE:Ctr:=⟨70,12,[shU I64,shU I64],[],[⟨[shU I64],[.one],[]⟩],λh=>cG h.1 h.2.1⟩
set_option maxRecDepth 100000 in
theorem jq:Lvl E0i TTi mS 2 fE:=bk (n:=1) (C:=js) rfl (.intro (lH.mono (by decide)) (.intro)) (bm (by kernel_rfl)) (λh=>by kernel_rfl)
def nP:Int×(List (Int))×Int×Int×Unit->Option ((Int×(List (Int))×Int×Int×Unit)⊕((Int×Unit)⊕(Int×(List (Int))×Int×Int×Bool×Unit))):=λ(v0,v1,v2,v3,_)=>
bif(decide (v3<v2))then((dO v3).bind λx0=>
(cn v1 x0).bind λx1=>
bif(x1 != v0)then(some (.inr (.inl (x1,()))))else
let x2:Int:=(w64 (v3+1));
some (.inl (v0,v1,v2,x2,())))else
some (.inr (.inr (v0,v1,v2,v3,false,())))
def lu(a0:List (Int)):Option (Int×Unit):=
let x0:Int:=(bn (List.length a0));
(match bu nP NN (0,a0,x0,0,())with
|none=>none
|some (.inl (x1,_))=>
some (x1,())
|some (.inr (x1,x2,x3,x4,x5,_))=>
some (x1,()))
noncomputable def q8:X.Cfg:=⟨E0i,[],[],[⟨4,0,⟨[(3,shU I64),(6,shU RIi),(7,shU I64),(8,shU I64)],[],[],([],[])⟩,[(.ret,⟨[(2,shU I64)],[],[],([],[])⟩),(.exit 0,⟨[(3,shU I64),(6,shU RIi),(7,shU I64),(8,shU I64),(9,shU .bool)],[],[],([],[])⟩)]⟩]⟩
def lB:Ctr:=⟨69,13,[shU RIi],[],[⟨[shU I64],[.one],[]⟩],λh=>lu h.1⟩
set_option maxRecDepth 100000 in
theorem qX:Lvl E0i TTi mS 1 lB:=bk (n:=0) (C:=q8) rfl (.intro) (bm (by kernel_rfl)) (λh=>by kernel_rfl)
def ny(a0:Int)(a1:Int)(a2:Int)(a3:Int):Option (Int×Unit):=
(kJ a0 a1).bind λ(x0,_)=>
(kJ a2 a3).bind λ(x1,_)=>
(cG x0 x1).bind λ(x2,_)=>
(cG a0 a2).bind λ(x3,_)=>
(cG a1 a3).bind λ(x4,_)=>
let x5:List (Int):=[x2,x3,x4];
(lu x5).bind λ(x6,_)=>
some (x6,())
noncomputable def t7:X.Cfg:=⟨E0i,[ph,fE,lB],[],[]⟩
def nH:Ctr:=⟨50,14,[.agg [shU I64,shU I64],.agg [shU I64,shU I64]],[],[⟨[shU I64],[.one],[]⟩],λh=>ny h.1 h.2.1 h.2.2.1 h.2.2.2.1⟩
set_option maxRecDepth 100000 in
theorem tQ:Lvl E0i TTi mS 3 nH:=bk (n:=2) (C:=t7) rfl (.intro (vJ.mono (by decide)) (.intro (jq.mono (by decide)) (.intro (qX.mono (by decide)) (.intro)))) (bm (by kernel_rfl)) (λh=>by kernel_rfl)
def pL:Int×Int×Int×(List (Int×Int×(List nM)×Int×Int×Int×Int×Int×Int×Int×List nM))×Unit->Option ((Int×Int×Int×(List (Int×Int×(List nM)×Int×Int×Int×Int×Int×Int×Int×List nM))×Unit)⊕((Int×Unit)⊕(Int×Bool×Int×Int×(List (Int×Int×(List nM)×Int×Int×Int×Int×Int×Int×Int×List nM))×Unit))):=λ(v0,v1,v2,v3,_)=>
let x0:Int:=(bn (List.length v3));
bif(decide (v0<x0))then(let x1:Int:=(w64 (v0-1));
(dO x1).bind λx2=>
(cn v3 x2).bind λx3=>
(dO v0).bind λx4=>
(cn v3 x4).bind λx5=>
(ny x3.1 x3.2.1 x5.1 x5.2.1).bind λ(x6,_)=>
bif(decide (x6>=0))then(some (.inr (.inl (5,()))))else
let x7:Int:=(w64 (v0+1));
some (.inl (x7,v1,v2,v3,())))else
some (.inr (.inr (v0,false,v1,v2,v3,())))
def eK(a0:Int)(a1:Int)(a2:List (Int×Int×(List nM)×Int×Int×Int×Int×Int×Int×Int×List nM)):Option (Int×Unit):=
(oi a0 a1).bind λ(x0,_)=>
bif(x0 != 0)then(some (x0,()))else
(match bu pL NN (1,a0,a1,a2,())with
|none=>none
|some (.inl (x1,_))=>
some (x1,())
|some (.inr (x1,x2,x3,x4,x5,_))=>
some (0,()))
noncomputable def ua:X.Cfg:=⟨E0i,[pi,nH],[],[⟨7,0,⟨[(1,.ptr ⟨4,0,[]⟩ [0]),(4,shU I64)],[(4,[shU I64,shU I64,shU (.row false (.pair I64 (.pair I64 (.pair ln Eb))))])],[],([],[])⟩,[(.ret,⟨[(2,shU I64)],[],[],([],[])⟩),(.exit 0,⟨[(1,.ptr ⟨4,0,[]⟩ [0]),(4,shU I64),(17,shU .bool)],[(4,[shU I64,shU I64,shU (.row false (.pair I64 (.pair I64 (.pair ln Eb))))])],[],([],[])⟩)]⟩]⟩
def uu:Ctr:=⟨28,15,[.agg [shU I64,shU I64,shU (.row false (.pair I64 (.pair I64 (.pair ln Eb))))]],[],[⟨[shU I64],[.one],[]⟩],λh=>eK h.1 h.2.1 h.2.2.1⟩
set_option maxRecDepth 100000 in
theorem tS:Lvl E0i TTi mS 4 uu:=bk (n:=3) (C:=ua) rfl (.intro (vK.mono (by decide)) (.intro (tQ.mono (by decide)) (.intro))) (bm (by kernel_rfl)) (λh=>by kernel_rfl)
def gD:Ctr:=⟨68,16,[shU (.row false (.row false (.pair I64 I64)))],[],[⟨[shU (.row false (.pair I64 I64))],[.one],[]⟩],λh=>dA h.1⟩
theorem kV:Lvl E0i TTi mS 1 gD:=(vG (Ej rfl) kv).mono (by decide)
def gL:Ctr:=⟨67,17,[.fn 50 [],shU (.row false (.pair I64 I64))],[],[⟨[shU (.row false (.pair I64 I64))],[.one],[]⟩],λh=>dF h.1⟩
theorem lG:Lvl E0i TTi mS 1 gL:=(vG (Ej rfl) kU).mono (by decide)
def eJ(a0:List MS)(a1:List MS):Option ((List MS)×Unit):=
let x0:List (List MS):=[a0,a1];
(dA x0).bind λ(x1,_)=>
(dF x1).bind λ(x2,_)=>
some (x2,())
noncomputable def t8:X.Cfg:=⟨E0i,[gD,gL],[(7,(.row true (.pair I64 I64)))],[]⟩
def ut:Ctr:=⟨46,18,[shU (.row false (.pair I64 I64)),shU (.row false (.pair I64 I64))],[],[⟨[shU (.row false (.pair I64 I64))],[.one],[]⟩],λh=>eJ h.1 h.2.1⟩
set_option maxRecDepth 100000 in
theorem tR:Lvl E0i TTi mS 2 ut:=bk (n:=1) (C:=t8) rfl (.intro (kV.mono (by decide)) (.intro (lG.mono (by decide)) (.intro))) (bm (by kernel_rfl)) (λh=>by kernel_rfl)
def cP(a0:List nM):Option ((List nM)×Unit):=
bif(cb 24 0 (List.length a0))then let x0:List nM:=(List.append [] a0);
some (x0,())else none
noncomputable def mi:X.Cfg:=⟨E0i,[],[],[]⟩
def fq:Ctr:=⟨59,19,[shU ln],[],[⟨[shU (.row true Lt)],[.one],[]⟩],λh=>cP h.1⟩
set_option maxRecDepth 100000 in
theorem iy:Lvl E0i TTi mS 1 fq:=bk (n:=0) (C:=mi) rfl (.intro) (bm (by kernel_rfl)) (λh=>by kernel_rfl)
def jM(a0:Int)(a1:Int)(a2:Int)(a3:Int)(a4:Int)(a5:Int)(a6:Int)(a7:List nM):Option (Int×Int×Int×Int×Int×Int×Int×(List nM)×Unit):=
(cP a7).bind λ(x0,_)=>
some (a0,a1,a2,a3,a4,a5,a6,x0,())
noncomputable def ub:X.Cfg:=⟨E0i,[fq],[],[]⟩
def nI:Ctr:=⟨60,20,[.agg [shU I64,shU I64,shU I64,shU I64,shU I64,shU I64,shU (.int .u16),shU ln]],[],[⟨[shU I64,shU I64,shU I64,shU I64,shU I64,shU I64,shU (.int .u16),shU (.row true Lt)],[.agg 8],[]⟩],λh=>jM h.1 h.2.1 h.2.2.1 h.2.2.2.1 h.2.2.2.2.1 h.2.2.2.2.2.1 h.2.2.2.2.2.2.1 h.2.2.2.2.2.2.2.1⟩
set_option maxRecDepth 100000 in
theorem tT:Lvl E0i TTi mS 2 nI:=bk (n:=1) (C:=ub) rfl (.intro (iy.mono (by decide)) (.intro)) (bm (by kernel_rfl)) (λh=>by kernel_rfl)
def jN(a0:Int)(a1:Int)(a2:List nM)(a3:Int)(a4:Int)(a5:Int)(a6:Int)(a7:Int)(a8:Int)(a9:Int)(a10:List nM):Option (Int×Int×(List nM)×Int×Int×Int×Int×Int×Int×Int×(List nM)×Unit):=
(cP a2).bind λ(x0,_)=>
(jM a3 a4 a5 a6 a7 a8 a9 a10).bind λ(x1,x2,x3,x4,x5,x6,x7,x8,_)=>
some (a0,a1,x0,x1,x2,x3,x4,x5,x6,x7,x8,())
noncomputable def uc:X.Cfg:=⟨E0i,[fq,nI],[],[]⟩
def uv:Ctr:=⟨47,21,[.agg [shU I64,shU I64,shU ln,shU I64,shU I64,shU I64,shU I64,shU I64,shU I64,shU (.int .u16),shU ln]],[],[⟨[shU I64,shU I64,shU (.row true Lt),shU I64,shU I64,shU I64,shU I64,shU I64,shU I64,shU (.int .u16),shU (.row true Lt)],[.agg 11],[]⟩],λh=>jN h.1 h.2.1 h.2.2.1 h.2.2.2.1 h.2.2.2.2.1 h.2.2.2.2.2.1 h.2.2.2.2.2.2.1 h.2.2.2.2.2.2.2.1 h.2.2.2.2.2.2.2.2.1 h.2.2.2.2.2.2.2.2.2.1 h.2.2.2.2.2.2.2.2.2.2.1⟩
set_option maxRecDepth 100000 in
theorem tU:Lvl E0i TTi mS 3 uv:=bk (n:=2) (C:=uc) rfl (.intro (iy.mono (by decide)) (.intro (tT.mono (by decide)) (.intro))) (bm (by kernel_rfl)) (λh=>by kernel_rfl)
def lZ:CT->Bool
 |.int _=>true
 |.bool=>true
 |.row _ t=>lZ t
 |.pair a b=>lZ a&&lZ b
 |_=>false
theorem i3{α β:Type}{f:α->β}(hf:∀{x y:α},f x=f y->x=y):∀{xs ys:List α},xs.map f=ys.map f->xs=ys
 | [],[],_=>rfl
 | [],_::_,h=>by simp at h
 |_::_,[],h=>by simp at h
 |x::xs,y::ys,h=>by
  simp only[List.map_cons,List.cons.injEq]at h;rw[hf h.1,i3 hf h.2]
theorem sQ:∀(t:CT),lZ t=true->∀{x y:den t},enc t x=enc t y->x=y:=by
 intro t
 induction t with
 |int k=>intro _ x y h;simp only[enc,List.cons.injEq,TV.v.injEq,and_true]at h;injection h
 |bool=>intro _ x y h;simp only[enc,List.cons.injEq,TV.v.injEq,and_true]at h;injection h
 |str=>intro h;simp[lZ]at h
 |nat=>intro h;simp[lZ]at h
 |nilr o=>intro h;simp[lZ]at h
 |row o t ih=>
  intro hp x y h;have ih:=@ih hp
  have h2:List.map (enc t) (x:List (den t))=List.map (enc t) (y:List (den t)):=by
   cases o
   ·simp only[enc,List.cons.injEq,TV.sl.injEq,and_true]at h;exact h
   ·simp only[enc,List.cons.injEq,TV.ow.injEq,and_true]at h;exact h
  exact i3 (λe=>ih e) h2
 |pair a b Za Y4=>
  intro hp x y h;simp only[lZ,oBA]at hp;obtain⟨x1,x2⟩:=x;obtain⟨y1,y2⟩:=y;simp only[enc]at h;obtain⟨h1,h2⟩:=List.append_inj h (by rw[cF,cF]);rw[@Za hp.1 _ _ h1,@Y4 hp.2 _ _ h2]
theorem Mp:Ed Tryz.prog E0i:=λf n tm h=>by simp[E0i]at h
theorem Md(k:Nat):eC Tryz.prog (runF E0i TTi mS k):=runF_ok LF Mp FX k
theorem fm{w w':World}(h:Below w.heap.size w w'):w.grownBy w' none:=⟨h.os,h.tape,h.output,h.size,λk hk _=>h.block k hk⟩
theorem Gp(C:List (List Cn4))(T:List Vw8)(r i fe:Int)(h:gm C T r i=some (fe,())):
 runF E0i TTi mS (NN+6) 55 [.agg [.sl (C.map (enc cCs)),.sl (T.map (enc cVw))],.agg [.v (.int .i64 r),.v (.int .i64 i)]] []=some (⟨[.v (.int .i64 fe)],[.one]⟩,[]):=
 vI 6 (Nat.le_refl _) ⟨C,T,r,i,()⟩ (fe,()) _ h rfl
theorem DG{w:World}{F:Nat->Prop}{C:List (List Cn4)}{T:List Vw8}{U V:Value}{r i fe:Int}(hu:RSl rCs w F C U)(hv:RSl rVw w F T V)(h:gm C T r i=some (fe,())):
 ∀w',w.grownBy w' none->Calls Tryz.prog 55 #[.agg #[U,V],.agg #[.int .i64 r,.int .i64 i]] w' λe w2=>e=.returned (.int .i64 fe)/\w'.grownBy w2 none:=λw' hg=>by
 refine(pn (Md _) (Gp C T r i fe h) rfl (avs:=[.agg #[U,V],.agg #[.int .i64 r,.int .i64 i]]) (w:=w') (F:=F) rfl λj hj _=>?_).mono ?_
 ·have hj:j<2:=hj
  match j,hj with
  |0,_=>
   refine .ag rfl λj hj=>?_;have hj:j<2:=hj
   match j,hj with
   |0,_=>exact ox xD (hu.grow hg)
   |1,_=>exact ox BM (hv.grow hg)
  |1,_=>
   refine .ag rfl λj hj=>?_;have hj:j<2:=hj
   match j,hj with
   |0,_=>exact .v rfl
   |1,_=>exact .v rfl
 ·rintro e w2 ⟨ys,rfl,hl,hb,X8⟩;obtain⟨y,rfl⟩:=List.length_eq_one_iff.1 hl;have h0:=X8 0 Nat.one_pos;replace h0:fI w2 _ (.v (.int .i64 fe)) y:=h0
  cases h0 with
  |v _=>exact⟨rfl,fm hb⟩
theorem DJ(v0 v1 v2 v3 v4 v5 v6:Int)(L:List Cn4)(eb:Bool)(h:dJ v0 v1 v2 v3 v4 v5 v6 L=some (eb,())):
 runF E0i TTi mS (NN+1) 62 [.agg [.v (.int .i64 v0),.v (.int .i64 v1),.v (.int .i64 v2),.v (.int .i64 v3),.v (.int .i64 v4),.v (.int .i64 v5),.v (.int .u16 v6),.sl (L.map (enc cCn))]] []=some (⟨[.v (.bool eb)],[.one]⟩,[]):=
 tP 1 (Nat.le_refl _) ⟨v0,v1,v2,v3,v4,v5,v6,L,()⟩ (eb,()) _ h rfl
theorem AN{w:World}{F:Nat->Prop}{v0 v1 v2 v3 v4 v5 v6:Int}{L:List Cn4}{Z:Value}{eb:Bool}(hz:RSl rCn w F L Z)(h:dJ v0 v1 v2 v3 v4 v5 v6 L=some (eb,())):
 ∀w',w.grownBy w' none->Calls Tryz.prog 62 #[.agg #[.int .i64 v0,.int .i64 v1,.int .i64 v2,.int .i64 v3,.int .i64 v4,.int .i64 v5,.int .u16 v6,Z]] w' λe w2=>e=.returned (.bool eb)/\w'.grownBy w2 none:=λw' hg=>by
 refine(pn (Md _) (DJ v0 v1 v2 v3 v4 v5 v6 L eb h) rfl (avs:=[.agg #[.int .i64 v0,.int .i64 v1,.int .i64 v2,.int .i64 v3,.int .i64 v4,.int .i64 v5,.int .u16 v6,Z]]) (w:=w') (F:=F) rfl λj hj _=>?_).mono ?_
 ·have hj:j<1:=hj
  match j,hj with
  |0,_=>
   refine .ag rfl λj hj=>?_;have hj:j<8:=hj
   match j,hj with
   |0,_=>exact .v rfl
   |1,_=>exact .v rfl
   |2,_=>exact .v rfl
   |3,_=>exact .v rfl
   |4,_=>exact .v rfl
   |5,_=>exact .v rfl
   |6,_=>exact .v rfl
   |7,_=>exact ox Jp (hz.grow hg)
 ·rintro e w2 ⟨ys,rfl,hl,hb,X8⟩;obtain⟨y,rfl⟩:=List.length_eq_one_iff.1 hl;have h0:=X8 0 Nat.one_pos;replace h0:fI w2 _ (.v (.bool eb)) y:=h0
  cases h0 with
  |v _=>exact⟨rfl,fm hb⟩
theorem DY(xf xt:Int)(xs:List i4)(c:Int)(h:eK xf xt xs=some (c,())):
 runF E0i TTi mS (NN+4) 28 [.agg [.v (.int .i64 xf),.v (.int .i64 xt),.sl (xs.map (enc cPg))]] []=some (⟨[.v (.int .i64 c)],[.one]⟩,[]):=
 tS 4 (Nat.le_refl _) ⟨xf,xt,xs,()⟩ (c,()) _ h rfl
theorem s7{w:World}{F:Nat->Prop}{xf xt:Int}{xs:List i4}{X:Value}{c:Int}(hx:RSl rPg w F xs X)(h:eK xf xt xs=some (c,())):G7 (.agg #[.int .i64 xf,.int .i64 xt,X]) c w:=λw' hg=>by
 refine(pn (Md _) (DY xf xt xs c h) rfl (avs:=[.agg #[.int .i64 xf,.int .i64 xt,X]]) (w:=w') (F:=F) rfl λj hj _=>?_).mono ?_
 ·have hj:j<1:=hj
  match j,hj with
  |0,_=>
   refine .ag rfl λj hj=>?_;have hj:j<3:=hj
   match j,hj with
   |0,_=>exact .v rfl
   |1,_=>exact .v rfl
   |2,_=>exact ox rT (hx.grow hg)
 ·rintro e w2 ⟨ys,rfl,hl,hb,X8⟩;obtain⟨y,rfl⟩:=List.length_eq_one_iff.1 hl;have h0:=X8 0 Nat.one_pos;replace h0:fI w2 _ (.v (.int .i64 c)) y:=h0
  cases h0 with
  |v _=>exact⟨rfl,fm hb⟩
theorem AO(ids sids:List (Int×Int))(h:eJ ids []=some (sids,())):
 runF E0i TTi mS (NN+2) 46 [.sl (ids.map (enc (.pair (.int .i64) (.int .i64)))),.sl []] []=some (⟨[.sl (sids.map (enc (.pair (.int .i64) (.int .i64))))],[.one]⟩,[]):=
 tR 2 (Nat.le_refl _) ⟨ids,[],()⟩ (sids,()) _ h rfl
theorem AM(l:List (Int×Int)):(TV.sl (l.map (enc (.pair (.int .i64) (.int .i64))))).imm=.sl (l.map (enc (.pair (.int .i64) (.int .i64)))):=by
 simp only[TV.imm]
theorem yP{w:World}{ids sids:List (Int×Int)}(h:eJ ids []=some (sids,()))(hs:sids.length<=1099511627776):Nk ids sids w:=λw' V G hg hv=>by
 refine(pn (Md _) (AO ids sids h) rfl (avs:=[V,.slice none 0 0]) (w:=w') (F:=G) rfl λj hj _=>?_).mono ?_
 ·have hj:j<2:=hj
  match j,hj with
  |0,_=>exact .im (ox Jo hv)
  |1,_=>exact .im rD
 ·rintro e w2 ⟨ys,rfl,hl,hb,X8⟩;obtain⟨y,rfl⟩:=List.length_eq_one_iff.1 hl;have h0:=X8 0 Nat.one_pos;replace h0:fI w2 _ (TV.sl (sids.map (enc (.pair (.int .i64) (.int .i64))))).imm y:=h0;rw[AM]at h0;exact⟨y,rfl,uU Jo h0 (λ_ _=>trivial) hs,fm hb⟩
theorem sW{l:List Cn4}(h:l.length<=1099511627776):cP l=some (l,()):=by
 have:cb 24 0 (List.length l)=true:=by
  unfold cb;simp only[oBA,oDE];omega
 unfold cP;rw[this];rfl
theorem FG(p:i4)(h:PgB p):
 runF E0i TTi mS (NN+3) 47 [.agg (enc cPg p)] []=some (⟨[.v (.int .i64 p.1),.v (.int .i64 p.2.1),.ow (p.2.2.1.map (enc cCn)),.v (.int .i64 p.2.2.2.1),.v (.int .i64 p.2.2.2.2.1),.v (.int .i64 p.2.2.2.2.2.1),.v (.int .i64 p.2.2.2.2.2.2.1),.v (.int .i64 p.2.2.2.2.2.2.2.1),.v (.int .i64 p.2.2.2.2.2.2.2.2.1),.v (.int .u16 p.2.2.2.2.2.2.2.2.2.1),.ow (p.2.2.2.2.2.2.2.2.2.2.map (enc cCn))],[.agg 11]⟩,[]):=by
 obtain⟨a,c,pc,v0,v1,v2,v3,v4,v5,v6,pr⟩:=p
 exact tU 3 (Nat.le_refl _) ⟨a,c,pc,v0,v1,v2,v3,v4,v5,v6,pr,()⟩ (a,c,pc,v0,v1,v2,v3,v4,v5,v6,pr,()) _ (by
  show jN a c pc v0 v1 v2 v3 v4 v5 v6 pr=_;unfold jN jM;rw[sW h.1,sW h.2]
  rfl) rfl
theorem uX(l:List Cn4):(TV.ow (l.map (enc cCn))).imm=.sl (l.map (enc cCn)):=by
 simp only[TV.imm,jK,List.map_map];rfl
theorem Im{w:World}{F:Nat->Prop}{p:i4}{cs:List Value}(h:rPg.rep w F p cs):PgB p:=by
 obtain⟨y,z,_,hy,hz⟩:=BT h;obtain⟨_,_,_,_,_,h1⟩:=hy.size_eq;obtain⟨_,_,_,_,_,h2⟩:=hz.size_eq;exact⟨h1,h2⟩
theorem Dj{w:World}{F:Nat->Prop}:JL F w:=λw' p cs hg hr=>by
 have hB:=Im hr;refine(pn (Md _) (FG p hB) rfl (avs:=[.agg cs.toArray]) (w:=w') (F:=F) rfl λj hj _=>?_).mono ?_
 ·have hj:j<1:=hj
  match j,hj with
  |0,_=>
   have hrel:=rT.toI hr;refine .ag (by simpa using hrel.len) λj hj=>?_;have:=hrel.get j hj;simpa[Array.getD_eq_getD_getElem?,oGD]using this
 ·rintro e w2 ⟨ys,rfl,hl,hb,X8⟩;have hlen:ys.length=11:=hl
  have hrel:mG w2 (λk=>F k\/w'.heap.size<=k) (enc cPg p) ys:=by
   refine mG.of (by rw[hlen];rfl) λj hj=>?_
   have Rq:j<11:=by rw[cF]at hj;exact hj
   have h0:=X8 j Rq
   match j,Rq with
   |0,_=>exact h0
   |1,_=>exact h0
   |2,_=>
    replace h0:fI w2 _ (TV.ow (p.2.2.1.map (enc cCn))).imm (ys.getD 2 undef):=h0;rw[uX]at h0;exact h0
   |3,_=>exact h0
   |4,_=>exact h0
   |5,_=>exact h0
   |6,_=>exact h0
   |7,_=>exact h0
   |8,_=>exact h0
   |9,_=>exact h0
   |10,_=>
    replace h0:fI w2 _ (TV.ow (p.2.2.2.2.2.2.2.2.2.2.map (enc cCn))).imm (ys.getD 10 undef):=h0;rw[uX]at h0;exact h0
  refine⟨ys,?_,rT.of hrel hB,fm hb⟩
  match ys,hlen with
  | [a0,a1,a2,a3,a4,a5,a6,a7,a8,a9,a10],_=>rfl
theorem ri.agg_out{w:World}{F:Nat->Prop}{l:List TV}{x:Value}(h:ri w F (.agg l) x):∃cs:List Value,x=.agg cs.toArray/\mG w F l cs:=by
 cases h with
 |im h=>cases h
 | @ag _ cs hl h=>
  refine⟨cs.toList,by simp,mG.of (by simpa using hl.symm) λj hj=>?_⟩;have:=h j hj;simpa[Array.getD_eq_getD_getElem?,oGD]using this
theorem tw{w w':World}(h:w.grownBy w' none):Below w.heap.size w w':=⟨h.os,h.tape,h.output,h.size,λk hk=>h.block k hk (by simp)⟩
def E8(C:List (List Cn4))(T:List Vw8)(cells L:List Cn4):Bool:=decide (C.length<=1099511627776)&&C.all (λx=>decide (x.length<=1099511627776))&&decide (T.length<=1099511627776)&&T.all (λx=>decide (x.2.2.2.2.2.2.2.length<=1099511627776))&&decide (cells.length<=1099511627776)&&decide (L.length<=1099511627776)
def dg(C:List (List Cn4))(T:List Vw8)(a0 a1:Int)(cells:List Cn4)(v0 v1 v2 v3 v4 v5 v6:Int)(L:List Cn4):Option (List (List Cn4)×List Vw8×Int×Unit):=
 if E8 C T cells L=true then
  (gm C T a0 a1).bind λ(fe,_)=>
  if fe≠0 then some ([],[],fe,())
  else if a0=-1 then(if 0<cells.length then some ([],[],5,())else if 0<=a1/\a1.toNat<T.length then some (C,T.set a1.toNat (v0,v1,v2,v3,v4,v5,v6,L),0,())else none)
  else if 0<=a0/\a0.toNat<C.length/\0<=a1/\a1<=32/\8*a1.toNat<(C.getD a0.toNat []).length then
   (dJ v0 v1 v2 v3 v4 v5 v6 L).bind λ(eb,_)=>
   if cells.length≠min 8 ((C.getD a0.toNat []).length-8*a1.toNat)\/eb=false then some ([],[],5,())else some (C.set a0.toNat (jz (C.getD a0.toNat []) a1.toNat cells),T,0,())
  else none
 else none
def mF(C':List (List Cn4))(T':List Vw8)(err:Int)(w:World)(e:Ending)(w':World):Prop:=
 ∃a b,e=.returned (.tuple #[.agg #[a,b],.int .i64 err])/\RSl rCs w' (λk=>w.heap.size<=k) C' a/\RSl rVw w' (λk=>w.heap.size<=k) T' b/\w.grownBy w' none
theorem mF.nil{w w':World}{e:Ending}{err:Int}(h:e=.returned (.tuple #[.agg #[.slice none 0 0,.slice none 0 0],.int .i64 err])/\w.grownBy w' none):mF [] [] err w e w':=⟨_,_,h.1,RSl.nil _ _,RSl.nil _ _,h.2⟩
theorem mF.ret{C:List (List Cn4)}{T:List Vw8}{w w':World}{e:Ending}(h:Cx C T w e w'):mF C T 0 w e w':=h
theorem E5{F:Nat->Prop}{C:List (List Cn4)}{T:List Vw8}{a0 a1:Int}{cells:List Cn4}{v0 v1 v2 v3 v4 v5 v6:Int}{L:List Cn4}{U V Y Z:Value}{w:World}{C':List (List Cn4)}{T':List Vw8}{err:Int}
 (hu:RSl rCs w F C U)(hv:RSl rVw w F T V)(hy:RSl rCn w F cells Y)(hz:RSl rCn w F L Z)(h:dg C T a0 a1 cells v0 v1 v2 v3 v4 v5 v6 L=some (C',T',err,())):
 Calls Tryz.prog 34 #[.agg #[U,V],.agg #[.int .i64 a0,.int .i64 a1,Y,.int .i64 v0,.int .i64 v1,.int .i64 v2,.int .i64 v3,.int .i64 v4,.int .i64 v5,.int .u16 v6,Z]] w (mF C' T' err w):=by
 unfold dg at h;split at h
 case isFalse=>cases h
 obtain⟨⟨fe,u⟩,hf,h⟩:=Option.bind_eq_some_iff.1 h;have ZR:=DG hu hv hf;dsimp only at h;split at h
 ·rename_i hne
  injection h with h
  injection h with h1 h
  injection h with h2 h
  injection h with h3 h
  subst h1 h2 h3;exact(H5 F C T a0 a1 cells v0 v1 v2 v3 v4 v5 v6 L U V Y Z w fe hu hv hy hz ZR (by simpa using hne)).mono λe w' h=>mF.nil h
 rename_i h0
 have h0:fe=0:=by simpa using h0
 split at h
 ·rename_i hr;split at h
  ·rename_i hc
   injection h with h
   injection h with h1 h
   injection h with h2 h
   injection h with h3 h
   subst h1 h2 h3;exact(E3 F C T a0 a1 cells v0 v1 v2 v3 v4 v5 v6 L U V Y Z w fe hu hv hy hz ZR h0 hr hc).mono λe w' h=>mF.nil h
  ·rename_i hc;split at h
   case isFalse=>cases h
   rename_i hj;obtain⟨j,rfl⟩:=Int.eq_ofNat_of_zero_le hj.1
   injection h with h
   injection h with h1 h
   injection h with h2 h
   injection h with h3 h
   subst h1 h2 h3 hr;exact(CY F C T j cells v0 v1 v2 v3 v4 v5 v6 L U V Y Z w fe hu hv hy hz ZR h0 (by omega) (by simpa using hj.2)).mono λe w' h=>mF.ret h
 ·split at h
  case isFalse=>cases h
  rename_i hg;obtain⟨g1,g2,g3,g4,g5⟩:=hg;obtain⟨k,rfl⟩:=Int.eq_ofNat_of_zero_le g1;obtain⟨j,rfl⟩:=Int.eq_ofNat_of_zero_le g3;simp only[oTN]at g2 g5 h
  have e1:C.getD k []=C[k]:=by simp[oGD,g2]
  rw[e1]at g5 h;obtain⟨⟨eb,u2⟩,he,h⟩:=Option.bind_eq_some_iff.1 h;have Zy:=λw' hg=>AN (w:=w) hz he w' hg;dsimp only at h;split at h
  ·rename_i hc
   injection h with h
   injection h with h1 h
   injection h with h2 h
   injection h with h3 h
   subst h1 h2 h3;by_cases hcl:cells.length=min 8 (C[k].length-8*j)
   ·exact(E1 F C T k j cells v0 v1 v2 v3 v4 v5 v6 L U V Y Z w fe hu hv hy hz ZR eb Zy h0 g2 (by omega) g5 hcl (by rcases hc with hc|hc;exact absurd hcl hc;exact hc)).mono λe w' h=>mF.nil h
   ·exact(E2 F C T k j cells v0 v1 v2 v3 v4 v5 v6 L U V Y Z w fe hu hv hy hz ZR eb Zy h0 g2 (by omega) g5 hcl).mono λe w' h=>mF.nil h
  ·rename_i hc
   injection h with h
   injection h with h1 h
   injection h with h2 h
   injection h with h3 h
   subst h1 h2 h3;exact(E4 F C T k j cells v0 v1 v2 v3 v4 v5 v6 L U V Y Z w fe hu hv hy hz ZR eb Zy h0 g2 (by omega) g5 (by omega) (by cases eb;exact absurd (.inr rfl) hc;rfl)).mono λe w' h=>mF.ret h
theorem Km{C:List (List Cn4)}{T:List Vw8}{p:i4}{C':List (List Cn4)}{T':List Vw8}{err:Int}(h:dg C T p.1 p.2.1 p.2.2.1 p.2.2.2.1 p.2.2.2.2.1 p.2.2.2.2.2.1 p.2.2.2.2.2.2.1 p.2.2.2.2.2.2.2.1 p.2.2.2.2.2.2.2.2.1 p.2.2.2.2.2.2.2.2.2.1 p.2.2.2.2.2.2.2.2.2.2=some (C',T',err,())):
 CD Tryz.prog 34 [.agg [.sl (C.map (enc cCs)),.sl (T.map (enc cVw))],.agg (enc cPg p)] ⟨[.sl (C'.map (enc cCs)),.sl (T'.map (enc cVw)),.v (.int .i64 err)],[.agg 2,.one]⟩:=by
 have hok:E8 C T p.2.2.1 p.2.2.2.2.2.2.2.2.2.2=true:=by
  unfold dg at h;split at h
  ·assumption
  ·cases h
 simp only[E8,oBA,oDE,List.all_eq_true]at hok;obtain⟨⟨⟨⟨⟨o1,o2⟩,o3⟩,o4⟩,o5⟩,o6⟩:=hok;refine⟨rfl,λavs w F hl hv=>?_⟩
 obtain⟨x,y,rfl⟩:∃x y,avs=[x,y]:=by
  match avs,hl with
  | [x,y],_=>exact⟨x,y,rfl⟩
 obtain⟨cs,rfl,XK⟩:=(hv 0 (by simp) (by simp)).agg_out;obtain⟨ds,rfl,hds⟩:=(hv 1 (by simp) (by simp)).agg_out;obtain⟨U,_,rfl,hU,V,_,rfl,hV,rfl⟩:=XK;have Qt:=rT.of hds ⟨o5,o6⟩;obtain⟨Y,Z,rfl,hY,hZ⟩:=BT Qt;have hu:RSl rCs w F C U:=uU xD hU (λx hx=>o2 x hx) o1;have PO:RSl rVw w F T V:=uU BM hV (λx hx=>o4 x hx) o3;refine(E5 hu PO hY hZ h).mono ?_;rintro e w' ⟨a,b,rfl,ha,hb,hg⟩;refine⟨[a,b,.int .i64 err],rfl,rfl,tw hg,λj hj=>?_⟩;have hj:j<3:=hj
 match j,hj with
 |0,_=>exact ox xD (ha.sub λk hk=>.inr hk)
 |1,_=>exact ox BM (hb.sub λk hk=>.inr hk)
 |2,_=>exact .v rfl
def wfP(x:Int×Int):Bool:=(Lit.int .i64 x.1).wf&&(Lit.int .i64 x.2).wf
theorem Jf{x:Int×Int}(h:wfP x=true):Ld x:=by
 simp only[wfP,oBA]at h;exact h
def p8(xs ys:List i4):Bool:=decide (xs.length+ys.length<=1099511627776)&&(xs++ys).all (λp=>decide (p.2.2.1.length<=1099511627776)&&decide (p.2.2.2.2.2.2.2.2.2.2.length<=1099511627776)&&wfP (ct p))
def cq(xf xt:Int)(xs:List i4)(yf yt:Int)(ys:List i4):Option (Int×Int×List i4×Int×Unit):=
 if p8 xs ys=true then
  (eK xf xt xs).bind λ(cd,_)=>
  (eK yf yt ys).bind λ(ce,_)=>
  if cd≠0 then some (0,0,[],cd,())
  else if ce≠0 then some (0,0,[],ce,())
  else if xt≠yf then some (0,0,[],35,())
  else(eJ ((xs++ys).map ct) []).bind λ(sids,_)=>
   if sids.length<=1099511627776/\sids.all wfP=true then some (xf,yt,sids.map (iJ (xs++ys)),0,())else none
 else none
def Cz(F:Nat->Prop)(f t:Int)(zs:List i4)(err:Int)(w:World)(e:Ending)(w':World):Prop:=
 ∃v,e=.returned (.tuple #[.agg #[.int .i64 f,.int .i64 t,v],.int .i64 err])/\RSl rPg w' (λk=>F k\/w.heap.size<=k) zs v/\w.grownBy w' none
theorem zY{F:Nat->Prop}{xs ys:List i4}{X Y:Value}{xf xt yf yt:Int}{w:World}{f t err:Int}{zs:List i4}(hx:RSl rPg w F xs X)(hy:RSl rPg w F ys Y)(h:cq xf xt xs yf yt ys=some (f,t,zs,err,())):
 Calls Tryz.prog 25 #[.agg #[.int .i64 xf,.int .i64 xt,X],.agg #[.int .i64 yf,.int .i64 yt,Y]] w (Cz F f t zs err w):=by
 unfold cq at h;split at h
 case isFalse=>cases h
 rename_i hok;simp only[p8,oBA,oDE,List.all_eq_true]at hok;obtain⟨⟨cd,u1⟩,Tl,h⟩:=Option.bind_eq_some_iff.1 h;obtain⟨⟨ce,u2⟩,Tn,h⟩:=Option.bind_eq_some_iff.1 h;have hd:=s7 hx Tl;have he:=s7 hy Tn;dsimp only at h
 have bad:∀r,((cd≠0/\r=cd)\/(cd=0/\ce≠0/\r=ce)\/(cd=0/\ce=0/\xt≠yf/\r=35))->Calls Tryz.prog 25 #[.agg #[.int .i64 xf,.int .i64 xt,X],.agg #[.int .i64 yf,.int .i64 yt,Y]] w (Cz F 0 0 [] r w):=λr hr=>by
  obtain⟨A1,c1,rfl,_⟩:=hx.size_eq;obtain⟨A2,c2,rfl,_⟩:=hy.size_eq;exact(FR A1 A2 xs.length ys.length c1 c2 xf xt yf yt w cd ce hd he r hr).mono λe w' h=>⟨_,h.1,RSl.nil _ _,h.2⟩
 split at h
 ·rename_i h1
  injection h with h
  injection h with e1 h
  injection h with e2 h
  injection h with e3 h
  injection h with e4 h
  subst e1 e2 e3 e4;exact bad _ (.inl ⟨h1,rfl⟩)
 rename_i h1
 have h1:cd=0:=by simpa using h1
 split at h
 ·rename_i h2
  injection h with h
  injection h with e1 h
  injection h with e2 h
  injection h with e3 h
  injection h with e4 h
  subst e1 e2 e3 e4;exact bad _ (.inr (.inl ⟨h1,h2,rfl⟩))
 rename_i h2
 have h2:ce=0:=by simpa using h2
 split at h
 ·rename_i h3
  injection h with h
  injection h with e1 h
  injection h with e2 h
  injection h with e3 h
  injection h with e4 h
  subst e1 e2 e3 e4;exact bad _ (.inr (.inr ⟨h1,h2,h3,rfl⟩))
 rename_i h3
 have h3:xt=yf:=by simpa using h3
 obtain⟨⟨sids,u3⟩,hm,h⟩:=Option.bind_eq_some_iff.1 h;dsimp only at h;split at h
 case isFalse=>cases h
 rename_i h4
 injection h with h
 injection h with e1 h
 injection h with e2 h
 injection h with e3 h
 injection h with e4 h
 subst e1 e2 e3 e4 h1 h2 h3;exact Do F xs ys sids X Y xf xt yt w hx hy hd he (λp hp=>Jf (hok.2 p hp).2) (λs hs=>Jf (List.all_eq_true.1 h4.2 s hs)) hok.1 h4.1 (yP hm h4.1) Dj
theorem FP{xf xt yf yt:Int}{xs ys zs:List i4}{f t err:Int}(h:cq xf xt xs yf yt ys=some (f,t,zs,err,())):
 CD Tryz.prog 25 [.agg [.v (.int .i64 xf),.v (.int .i64 xt),.sl (xs.map (enc cPg))],.agg [.v (.int .i64 yf),.v (.int .i64 yt),.sl (ys.map (enc cPg))]] ⟨[.v (.int .i64 f),.v (.int .i64 t),.sl (zs.map (enc cPg)),.v (.int .i64 err)],[.agg 3,.one]⟩:=by
 have hok:p8 xs ys=true:=by
  unfold cq at h;split at h
  ·assumption
  ·cases h
 simp only[p8,oBA,oDE,List.all_eq_true]at hok;refine⟨rfl,λavs w F hl hv=>?_⟩
 obtain⟨x,y,rfl⟩:∃x y,avs=[x,y]:=by
  match avs,hl with
  | [x,y],_=>exact⟨x,y,rfl⟩
 obtain⟨cs,rfl,XK⟩:=(hv 0 (by simp) (by simp)).agg_out;obtain⟨ds,rfl,hds⟩:=(hv 1 (by simp) (by simp)).agg_out;obtain⟨a1,_,rfl,i1,a2,_,rfl,i2,X,_,rfl,hX,rfl⟩:=XK;obtain⟨b1,_,rfl,j1,b2,_,rfl,j2,Y,_,rfl,hY,rfl⟩:=hds;cases i1;cases i2;cases j1;cases j2;have hx:RSl rPg w F xs X:=uU rT hX (λp hp=>⟨(hok.2 p (List.mem_append_left _ hp)).1.1,(hok.2 p (List.mem_append_left _ hp)).1.2⟩) (by omega);have hy:RSl rPg w F ys Y:=uU rT hY (λp hp=>⟨(hok.2 p (List.mem_append_right _ hp)).1.1,(hok.2 p (List.mem_append_right _ hp)).1.2⟩) (by omega);refine(zY hx hy h).mono ?_;rintro e w' ⟨v,rfl,hr,hg⟩;refine⟨[.int .i64 f,.int .i64 t,v,.int .i64 err],rfl,rfl,tw hg,λj hj=>?_⟩;have hj:j<4:=hj
 match j,hj with
 |0,_=>exact .v rfl
 |1,_=>exact .v rfl
 |2,_=>exact ox rT hr
 |3,_=>exact .v rfl
def lU(C:List (List Cn4))(T:List Vw8)(p:i4):List TV:=[.agg [.sl (C.map (enc cCs)),.sl (T.map (enc cVw))],.agg (enc cPg p)]
def E7(C':List (List Cn4))(T':List Vw8)(err:Int):tG:=⟨[.sl (C'.map (enc cCs)),.sl (T'.map (enc cVw)),.v (.int .i64 err)],[.agg 2,.one]⟩
def ix(xf xt:Int)(xs:List i4)(yf yt:Int)(ys:List i4):List TV:=[.agg [.v (.int .i64 xf),.v (.int .i64 xt),.sl (xs.map (enc cPg))],.agg [.v (.int .i64 yf),.v (.int .i64 yt),.sl (ys.map (enc cPg))]]
def vE(f t:Int)(zs:List i4)(err:Int):tG:=⟨[.v (.int .i64 f),.v (.int .i64 t),.sl (zs.map (enc cPg)),.v (.int .i64 err)],[.agg 3,.one]⟩
def K8(f:FuncId)(vals:List TV)(r:tG):Prop:=f=34/\∃(C:List (List Cn4))(T:List Vw8)(p:i4)(C':List (List Cn4))(T':List Vw8)(err:Int),vals=lU C T p/\dg C T p.1 p.2.1 p.2.2.1 p.2.2.2.1 p.2.2.2.2.1 p.2.2.2.2.2.1 p.2.2.2.2.2.2.1 p.2.2.2.2.2.2.2.1 p.2.2.2.2.2.2.2.2.1 p.2.2.2.2.2.2.2.2.2.1 p.2.2.2.2.2.2.2.2.2.2=some (C',T',err,())/\r=E7 C' T' err
def Bq(f:FuncId)(vals:List TV)(r:tG):Prop:=f=25/\∃(xf xt:Int)(xs:List i4)(yf yt:Int)(ys:List i4)(g t:Int)(zs:List i4)(err:Int),vals=ix xf xt xs yf yt ys/\cq xf xt xs yf yt ys=some (g,t,zs,err,())/\r=vE g t zs err
theorem Kn{C D:List (List Cn4)}{T U:List Vw8}{p q:i4}(h:lU C T p=lU D U q):C=D/\T=U/\p=q:=by
 simp only[lU,List.cons.injEq,TV.agg.injEq,TV.sl.injEq,and_true]at h;exact⟨i3 (λe=>sQ cCs rfl e) h.1.1,i3 (λe=>sQ cVw rfl e) h.1.2,sQ cPg rfl h.2⟩
theorem FQ{a b c d a' b' c' d':Int}{xs ys xs' NV:List i4}(h:ix a b xs c d ys=ix a' b' xs' c' d' NV):a=a'/\b=b'/\xs=xs'/\c=c'/\d=d'/\ys=NV:=by
 simp only[ix,List.cons.injEq,TV.agg.injEq,TV.sl.injEq,TV.v.injEq,Value.int.injEq,and_true,true_and]at h;exact⟨h.1.1,h.1.2.1,i3 (λe=>sQ cPg rfl e) h.1.2.2,h.2.1,h.2.2.1,i3 (λe=>sQ cPg rfl e) h.2.2.2⟩
theorem CZ:gQ Tryz.prog 34:=jm Tryz.func34 (by kernel_rfl) rfl
theorem xQ:gQ Tryz.prog 25:=jm Tryz.func25 (by kernel_rfl) rfl
noncomputable def ud (f:FuncId)(vals:List TV):Option tG:=@dite _ (∃r,K8 f vals r\/Bq f vals r) (Classical.propDecidable _) (λh=>some (Classical.choose h)) (λ_=>none)
theorem IB:∀f vals r,ud f vals=some r->gQ Tryz.prog f/\CD Tryz.prog f vals r:=by
 intro f vals r h;unfold ud at h;split at h
 case isFalse=>cases h
 rename_i hx
 injection h with h
 have hs:=Classical.choose_spec hx;rw[h]at hs
 rcases hs with⟨rfl,C,T,p,C',T',err,rfl,hr,rfl⟩|⟨rfl,xf,xt,xs,yf,yt,ys,g,t,zs,err,rfl,hr,rfl⟩
 ·exact⟨CZ,Km hr⟩
 ·exact⟨xQ,FP hr⟩
theorem Ge{C:List (List Cn4)}{T:List Vw8}{p:i4}{C':List (List Cn4)}{T':List Vw8}{err:Int}(h:dg C T p.1 p.2.1 p.2.2.1 p.2.2.2.1 p.2.2.2.2.1 p.2.2.2.2.2.1 p.2.2.2.2.2.2.1 p.2.2.2.2.2.2.2.1 p.2.2.2.2.2.2.2.2.1 p.2.2.2.2.2.2.2.2.2.1 p.2.2.2.2.2.2.2.2.2.2=some (C',T',err,())):
 ud 34 (lU C T p)=some (E7 C' T' err):=by
 have hx:∃r,K8 34 (lU C T p) r\/Bq 34 (lU C T p) r:=⟨_,.inl ⟨rfl,C,T,p,C',T',err,rfl,h,rfl⟩⟩;unfold ud;rw[dif_pos hx];have hs:=Classical.choose_spec hx;congr 1
 rcases hs with⟨_,C2,T2,p2,C3,T3,e3,e,hr,h3⟩|⟨e,_⟩
 ·obtain⟨rfl,rfl,rfl⟩:=Kn e;rw[h]at hr
  injection hr with hr
  injection hr with e1 hr
  injection hr with e2 hr
  injection hr with e3 hr
  subst e1 e2 e3;exact h3
 ·exact absurd e (by decide)
theorem Ao{xf xt yf yt:Int}{xs ys zs:List i4}{g t err:Int}(h:cq xf xt xs yf yt ys=some (g,t,zs,err,())):
 ud 25 (ix xf xt xs yf yt ys)=some (vE g t zs err):=by
 have hx:∃r,K8 25 (ix xf xt xs yf yt ys) r\/Bq 25 (ix xf xt xs yf yt ys) r:=⟨_,.inr ⟨rfl,xf,xt,xs,yf,yt,ys,g,t,zs,err,rfl,h,rfl⟩⟩;unfold ud;rw[dif_pos hx];have hs:=Classical.choose_spec hx;congr 1
 rcases hs with⟨e,_⟩|⟨_,_,_,_,_,_,_,_,_,_,_,e,hr,h3⟩
 ·exact absurd e (by decide)
 ·obtain⟨rfl,rfl,rfl,rfl,rfl,rfl⟩:=FQ e;rw[h]at hr
  injection hr with hr
  injection hr with e1 hr
  injection hr with e2 hr
  injection hr with e3 hr
  injection hr with e4 hr
  subst e1 e2 e3 e4;exact h3
noncomputable def libBj:cE:=λf vals pts=>match xU ud f vals pts with|some r=>some r|none=>mS f vals pts
theorem libBj_ok:eC Tryz.prog libBj:=by
 intro f vals pts res Zs h;unfold libBj at h;split at h
 ·rename_i r hr
  injection h with h
  subst h;exact KJ IB f vals pts _ _ hr
 ·exact FX f vals pts _ _ h
theorem Du{f:FuncId}{vals:List TV}{pts:List (Nat×List TV)}(h1:f≠34)(h2:f≠25):libBj f vals pts=mS f vals pts:=by
 have h:xU ud f vals pts=none:=by
  unfold xU;split
  ·split
   ·have:ud f vals=none:=by
     unfold ud;rw[dif_neg];rintro⟨r,⟨e,_⟩|⟨e,_⟩⟩
     ·exact h1 e
     ·exact h2 e
    rw[this];rfl
   ·rfl
  ·rfl
 unfold libBj;rw[h]
abbrev sRg:CT:=.row false (.row false cCn)
abbrev sTs:CT:=.row false cVw
abbrev sPs:CT:=.row false cPg
set_option maxHeartbeats 4000000 in
set_option maxRecDepth 100000 in
def yZ(id:Nat):Ctr:=⟨34,id,[.agg [shU sRg,shU sTs],.agg [shU I64,shU I64,shU (.row false cCn),shU I64,shU I64,shU I64,shU I64,shU I64,shU I64,shU (.int .u16),shU (.row false cCn)]],[],[⟨[shU sRg,shU sTs,shU I64],[.agg 2,.one],[]⟩],
 λh=>dg h.1 h.2.1 h.2.2.1 h.2.2.2.1 h.2.2.2.2.1 h.2.2.2.2.2.1 h.2.2.2.2.2.2.1 h.2.2.2.2.2.2.2.1 h.2.2.2.2.2.2.2.2.1 h.2.2.2.2.2.2.2.2.2.1 h.2.2.2.2.2.2.2.2.2.2.1 h.2.2.2.2.2.2.2.2.2.2.2.1 h.2.2.2.2.2.2.2.2.2.2.2.2.1⟩
set_option maxHeartbeats 4000000 in
set_option maxRecDepth 100000 in
theorem tM{id:Nat}:jZ libBj (yZ id):=by
 rintro⟨C,T,a0,a1,cells,v0,v1,v2,v3,v4,v5,v6,L,h⟩ ⟨C',T',err,u⟩ x ho hx;have ho:dg C T a0 a1 cells v0 v1 v2 v3 v4 v5 v6 L=some (C',T',err,()):=ho;cases hx;show libBj 34 (lU C T (a0,a1,cells,v0,v1,v2,v3,v4,v5,v6,L)) []=some (E7 C' T' err,[]);unfold libBj xU;rw[oIP (by rfl),Ge ho];rfl
set_option maxHeartbeats 4000000 in
set_option maxRecDepth 100000 in
def uq(id:Nat):Ctr:=⟨25,id,[.agg [shU I64,shU I64,shU sPs],.agg [shU I64,shU I64,shU sPs]],[],[⟨[shU I64,shU I64,shU sPs,shU I64],[.agg 3,.one],[]⟩],
 λh=>cq h.1 h.2.1 h.2.2.1 h.2.2.2.1 h.2.2.2.2.1 h.2.2.2.2.2.1⟩
set_option maxHeartbeats 4000000 in
set_option maxRecDepth 100000 in
theorem qW{id:Nat}:jZ libBj (uq id):=by
 rintro⟨xf,xt,xs,yf,yt,ys,h⟩ ⟨g,t,zs,err,u⟩ x ho hx;have ho:cq xf xt xs yf yt ys=some (g,t,zs,err,()):=ho;cases hx;show libBj 25 (ix xf xt xs yf yt ys) []=some (vE g t zs err,[]);unfold libBj xU;rw[oIP (by rfl),Ao ho];rfl
theorem jZ.join{c:Ctr}(h:jZ mS c)(h1:c.f≠34)(h2:c.f≠25):jZ libBj c:=λa o x ho hx=>(Du h1 h2).trans (h a o x ho hx)
end Go.Proofs.YtbdhpgelkfncpaaGreat
namespace Go.Proofs.YtbdhpgelkfncpaaGreat
open Go.RowKit
set_option maxRecDepth 100000
noncomputable section
abbrev KCn:CT:=(.pair (.int .u8) (.pair (.int .u16) (.pair I64 I64)))
abbrev ca:CT:=(.pair I64 (.pair I64 (.pair I64 (.pair I64 (.pair I64 (.pair I64 (.pair (.int .u16) (.row false KCn))))))))
abbrev kF:CT:=(.pair I64 (.pair I64 (.pair I64 (.pair I64 (.pair I64 (.pair I64 (.pair (.int .u16) (.row true KCn))))))))
abbrev bH:CT:=(.row false KCn)
abbrev RI:CT:=(.row false I64)
abbrev DCe:Type:=(Int×Int)
abbrev DCn:Type:=(Int×Int×Int×Int)
abbrev DTs:Type:=(Int×Int×Int×Int×Int×Int×Int×List DCn)
def HH(f i:Nat):List (Nat×Option Nat):=if f=24 then(if i=3000012 then[(10,some 0),(10,some 1)]else[])else if f=61 then(if i=0 then[(4,none)]else[])else if f=56 then(if i=0 then[(4,some 2),(4,some 10)]else[])else if f=32 then(if i=0 then[(4,some 2),(4,some 10)]else[])else if f=33 then(if i=1000005 then[(6,none)]else if i=1000010 then[(6,none)]else[])else if f=16 then(if i=3000007 then[(9,some 0),(9,some 1)]else if i=0 then[(6,some 0),(6,some 1)]else[])else if f=22 then(if i=1000011 then[(11,some 1),(12,some 1)]else if i=0 then[(4,some 10)]else[])else if f=12 then(if i=0 then[(4,some 0)]else[])else[]
def L7:List Nat:=[34,25]
noncomputable def TT (f:FuncId):Option TFn:=if L7.contains f then none else n8 Tryz.prog (HH f) f
theorem Jk{f:FuncId}(h:L7.contains f=true):TT f=none:=oIP h
noncomputable def E0:Env:=⟨λf=>if f=6 then some (1,[.arg 0,.val (.int .i64 0)])else none,λf=>Nh Tryz.prog f⟩
theorem tt_ok:D9 Tryz.prog TT:=λf tf h=>El HH (by kernel_rfl) f tf (by
 unfold TT at h
 split at h
 ·cases h
 ·exact h)
abbrev qE:Shs:=⟨[],[],[],([],[])⟩
abbrev qS(s:List (Nat×Sh))(c:List (Nat×List Sh)):Shs:=⟨s,c,[],([],[])⟩
abbrev N1:CT:=.nilr true
abbrev N0:CT:=.nilr false
abbrev CW:CT:=.int .u16
abbrev CB:CT:=.int .u8
abbrev uL(l:List CT):List Sh:=l.map fun c=>.d c ()
abbrev pP(t r:Nat):Nat×Sh:=(t,.ptr ⟨r,0,[]⟩ [0])
abbrev sP(t:Nat)(c:CT):Nat×Sh:=(t,.d c ())
abbrev Lk(n:Nat)(c:Ctr):Prop:=Lvl E0 TT mS n c
theorem aN{m:Nat}:CE E0 TT mS m []:=trivial
theorem aC{n m:Nat}{c:Ctr}{l:List Ctr}(h:Lk n c)(r:CE E0 TT mS m l)(hm:n≤m:=by decide):CE E0 TT mS m (c::l):=⟨h.mono hm,r⟩
abbrev lx(i n:Nat)(s:List (Nat×Sh))(c:List (Nat×List Sh))(b:Nat):zl:=⟨i,n,⟨s,c,[],([],[])⟩,[(.exit 0,⟨s++[(b,.d .bool ())],c,[],([],[])⟩)]⟩
abbrev LI:Type:=List Int
abbrev LDCe:Type:=List DCe
abbrev LDCn:Type:=List DCn
abbrev LDTs:Type:=List DTs
abbrev LLCn:Type:=List (List DCn)
abbrev T00:Type:=Int×Bool×Unit
abbrev T01:Type:=Int×Int×Unit
abbrev T02:Type:=LI×Int×Unit
abbrev T03:Type:=LLCn×LDTs×Unit
abbrev T04:Type:=Unit×Unit×Unit
abbrev T05:Type:=Int×T00
abbrev T06:Type:=Int×Int×LDCe×Unit
abbrev T07:Type:=LI×T01
abbrev T08:Type:=LLCn×LDTs×LI×Unit
abbrev T09:Type:=Int×Int×Bool×LDCe×Unit
abbrev T0a:Type:=Int×T08
abbrev T0b:Type:=LI×T05
abbrev T0c:Type:=LI×T06
abbrev T0d:Type:=LLCn×LDTs×T02
abbrev T0e:Type:=LLCn×LDTs×T03
abbrev T0f:Type:=LLCn×LDTs×T04
abbrev T0g:Type:=Unit×Unit×T03
abbrev T0h:Type:=Unit×Unit×LLCn×Unit×Unit
abbrev T0i:Type:=Bool×T0e
abbrev T0j:Type:=Int×T0c
abbrev T0k:Type:=Int×T0e
abbrev T0l:Type:=LI×T09
abbrev T0m:Type:=Int×Int×T0f
abbrev T0n:Type:=LI×Int×T0g
abbrev T0o:Type:=LI×Int×T0h
abbrev T0p:Type:=LLCn×LDTs×T0g
abbrev T0q:Type:=LLCn×LDTs×T0h
abbrev T0r:Type:=Int×Int×Bool×T0f
abbrev T0s:Type:=Int×T0n
abbrev T0t:Type:=Int×T0o
abbrev T0u:Type:=Int×T0p
abbrev T0v:Type:=Int×T0q
abbrev T0w:Type:=LI×Int×Unit×Unit×LLCn×Unit×LDCn×Unit
abbrev T0x:Type:=Int×Bool×T0n
abbrev T0y:Type:=Int×Int×Int×Int×Int×Int×Int×LDCn×Unit
abbrev T0z:Type:=Int×Int×Int×T0j
abbrev T0A:Type:=Int×T0s
abbrev T0B:Type:=Int×T0x
abbrev T0C:Type:=Int×Int×T0w
abbrev T0D:Type:=Int×Int×LDCn×T0y
abbrev T0E:Type:=(List (Int×Int×LDCn×Int×Int×Int×Int×Int×Int×Int×LDCn))×Int×Unit
abbrev T0F:Type:=Int×(List (Int×Int×LDCn×Int×Int×Int×Int×Int×Int×Int×LDCn))×Unit
abbrev T0G:Type:=Int×Int×LDCn×Int×Int×Int×Int×Int×Int×Int×LDCn×Int×Unit
abbrev T0H:Type:=Int×T0F
abbrev T0I:Type:=Bool×T0H
abbrev T0J:Type:=Int×Int×T0E
abbrev T0K:Type:=Int×T0H
abbrev T0L:Type:=LLCn×LDTs×LDCe×(List (Int×Int×LDCn×Int×Int×Int×Int×Int×Int×Int×LDCn))×Unit
abbrev T0M:Type:=Int×T0I
abbrev T0N:Type:=Int×T0L
abbrev T0O:Type:=Int×Bool×T0L
abbrev T0P:Type:=Int×T0N
abbrev T0Q:Type:=Int×Int×(List (Int×Int×LDCn×Int×Int×Int×Int×Int×Int×Int×LDCn))×T0g
abbrev T0R:Type:=LLCn×LDTs×Int×Int×(List (Int×Int×LDCn×Int×Int×Int×Int×Int×Int×Int×LDCn))×T04
abbrev T0S:Type:=Int×T0R
abbrev T0T:Type:=LI×Int×Int×Int×Int×Int×Int×Int×Int×Unit×T0y
abbrev T0U:Type:=Int×T0T
abbrev T0V:Type:=LLCn×LDTs×Int×Int×Unit×LDCe×T0H
abbrev T0W:Type:=Int×T0V
abbrev T0X:Type:=Int×Bool×T0V
abbrev T0Y:Type:=Int×T0W
abbrev T0Z:Type:=(List (Int×Int×LDCn×Int×Int×Int×Int×Int×Int×Int×LDCn))×T0E
abbrev T10:Type:=(List (Int×Int×LDCn×Int×Int×Int×Int×Int×Int×Int×LDCn))×(List (Int×Int×LDCn×Int×Int×Int×Int×Int×Int×Int×LDCn))×LDCe×Unit
abbrev T11:Type:=(List (Int×Int×LDCn×Int×Int×Int×Int×Int×Int×Int×LDCn))×Int×T0D
abbrev T12:Type:=Int×T10
abbrev T13:Type:=Int×Bool×T10
abbrev T14:Type:=Int×T12
abbrev T15:Type:=Int×Int×(List (Int×Int×LDCn×Int×Int×Int×Int×Int×Int×Int×LDCn))×Int×Int×Unit×T0H
abbrev T16:Type:=(List (Int×Int×LDCn×Int×Int×Int×Int×Int×Int×Int×LDCn))×Int×Int×T0Q
abbrev T17:Type:=Int×T15
abbrev T18:Type:=LLCn×LDTs×LLCn×LDTs×LLCn×LDTs×Int×Int×(List (Int×Int×LDCn×Int×Int×Int×Int×Int×Int×Int×LDCn))×Int×Int×(List (Int×Int×LDCn×Int×Int×Int×Int×Int×Int×Int×LDCn))×T02
abbrev T19:Type:=Int×Int×(List (Int×Int×LDCn×Int×Int×Int×Int×Int×Int×Int×LDCn))×T15
abbrev T1a:Type:=Int×T19
noncomputable abbrev ap1{A0 D R:Type}(f:A0→R)(h:A0×D):R:=f h.1
noncomputable abbrev ap2{A0 A1 D R:Type}(f:A0→A1→R)(h:A0×A1×D):R:=f h.1 h.2.1
noncomputable abbrev ap3{A0 A1 A2 D R:Type}(f:A0→A1→A2→R)(h:A0×A1×A2×D):R:=f h.1 h.2.1 h.2.2.1
noncomputable abbrev ap4{A0 A1 A2 A3 D R:Type}(f:A0→A1→A2→A3→R)(h:A0×A1×A2×A3×D):R:=f h.1 h.2.1 h.2.2.1 h.2.2.2.1
noncomputable abbrev ap5{A0 A1 A2 A3 A4 D R:Type}(f:A0→A1→A2→A3→A4→R)(h:A0×A1×A2×A3×A4×D):R:=f h.1 h.2.1 h.2.2.1 h.2.2.2.1 h.2.2.2.2.1
noncomputable abbrev ap6{A0 A1 A2 A3 A4 A5 D R:Type}(f:A0→A1→A2→A3→A4→A5→R)(h:A0×A1×A2×A3×A4×A5×D):R:=f h.1 h.2.1 h.2.2.1 h.2.2.2.1 h.2.2.2.2.1 h.2.2.2.2.2.1
noncomputable abbrev ap8{A0 A1 A2 A3 A4 A5 A6 A7 D R:Type}(f:A0→A1→A2→A3→A4→A5→A6→A7→R)(h:A0×A1×A2×A3×A4×A5×A6×A7×D):R:=f h.1 h.2.1 h.2.2.1 h.2.2.2.1 h.2.2.2.2.1 h.2.2.2.2.2.1 h.2.2.2.2.2.2.1 h.2.2.2.2.2.2.2.1
noncomputable abbrev ap12{A0 A1 A2 A3 A4 A5 A6 A7 A8 A9 A10 A11 D R:Type}(f:A0→A1→A2→A3→A4→A5→A6→A7→A8→A9→A10→A11→R)(h:A0×A1×A2×A3×A4×A5×A6×A7×A8×A9×A10×A11×D):R:=f h.1 h.2.1 h.2.2.1 h.2.2.2.1 h.2.2.2.2.1 h.2.2.2.2.2.1 h.2.2.2.2.2.2.1 h.2.2.2.2.2.2.2.1 h.2.2.2.2.2.2.2.2.1 h.2.2.2.2.2.2.2.2.2.1 h.2.2.2.2.2.2.2.2.2.2.1 h.2.2.2.2.2.2.2.2.2.2.2.1
noncomputable abbrev ap13{A0 A1 A2 A3 A4 A5 A6 A7 A8 A9 A10 A11 A12 D R:Type}(f:A0→A1→A2→A3→A4→A5→A6→A7→A8→A9→A10→A11→A12→R)(h:A0×A1×A2×A3×A4×A5×A6×A7×A8×A9×A10×A11×A12×D):R:=f h.1 h.2.1 h.2.2.1 h.2.2.2.1 h.2.2.2.2.1 h.2.2.2.2.2.1 h.2.2.2.2.2.2.1 h.2.2.2.2.2.2.2.1 h.2.2.2.2.2.2.2.2.1 h.2.2.2.2.2.2.2.2.2.1 h.2.2.2.2.2.2.2.2.2.2.1 h.2.2.2.2.2.2.2.2.2.2.2.1 h.2.2.2.2.2.2.2.2.2.2.2.2.1
noncomputable abbrev ap16{A0 A1 A2 A3 A4 A5 A6 A7 A8 A9 A10 A11 A12 A13 A14 A15 D R:Type}(f:A0→A1→A2→A3→A4→A5→A6→A7→A8→A9→A10→A11→A12→A13→A14→A15→R)(h:A0×A1×A2×A3×A4×A5×A6×A7×A8×A9×A10×A11×A12×A13×A14×A15×D):R:=f h.1 h.2.1 h.2.2.1 h.2.2.2.1 h.2.2.2.2.1 h.2.2.2.2.2.1 h.2.2.2.2.2.2.1 h.2.2.2.2.2.2.2.1 h.2.2.2.2.2.2.2.2.1 h.2.2.2.2.2.2.2.2.2.1 h.2.2.2.2.2.2.2.2.2.2.1 h.2.2.2.2.2.2.2.2.2.2.2.1 h.2.2.2.2.2.2.2.2.2.2.2.2.1 h.2.2.2.2.2.2.2.2.2.2.2.2.2.1 h.2.2.2.2.2.2.2.2.2.2.2.2.2.2.1 h.2.2.2.2.2.2.2.2.2.2.2.2.2.2.2.1
noncomputable abbrev ap22{A0 A1 A2 A3 A4 A5 A6 A7 A8 A9 A10 A11 A12 A13 A14 A15 A16 A17 A18 A19 A20 A21 D R:Type}(f:A0→A1→A2→A3→A4→A5→A6→A7→A8→A9→A10→A11→A12→A13→A14→A15→A16→A17→A18→A19→A20→A21→R)(h:A0×A1×A2×A3×A4×A5×A6×A7×A8×A9×A10×A11×A12×A13×A14×A15×A16×A17×A18×A19×A20×A21×D):R:=f h.1 h.2.1 h.2.2.1 h.2.2.2.1 h.2.2.2.2.1 h.2.2.2.2.2.1 h.2.2.2.2.2.2.1 h.2.2.2.2.2.2.2.1 h.2.2.2.2.2.2.2.2.1 h.2.2.2.2.2.2.2.2.2.1 h.2.2.2.2.2.2.2.2.2.2.1 h.2.2.2.2.2.2.2.2.2.2.2.1 h.2.2.2.2.2.2.2.2.2.2.2.2.1 h.2.2.2.2.2.2.2.2.2.2.2.2.2.1 h.2.2.2.2.2.2.2.2.2.2.2.2.2.2.1 h.2.2.2.2.2.2.2.2.2.2.2.2.2.2.2.1 h.2.2.2.2.2.2.2.2.2.2.2.2.2.2.2.2.1 h.2.2.2.2.2.2.2.2.2.2.2.2.2.2.2.2.2.1 h.2.2.2.2.2.2.2.2.2.2.2.2.2.2.2.2.2.2.1 h.2.2.2.2.2.2.2.2.2.2.2.2.2.2.2.2.2.2.2.1 h.2.2.2.2.2.2.2.2.2.2.2.2.2.2.2.2.2.2.2.2.1 h.2.2.2.2.2.2.2.2.2.2.2.2.2.2.2.2.2.2.2.2.2.1
theorem ls{n:Nat}(C:X.Cfg)(hT:CE E0 TT mS n C.TB){c:Ctr}(hE:C.E=E0:=by rfl)(h1:(TT c.f).isSome=true:=by kernel_rfl)(hg:∀h,X.runT be C () ((TT c.f).getD Nq) c.outs (fO c.ins _ h).1 (o9 c.pts [] (fO c.ins _ h).2).1=c.g h:=by intro h;kernel_rfl):Lk (n+1) c:=bk (n:=n) (C:=C) hE hT (bm h1) hg
abbrev yaa(t:Nat):Nat×Sh:=sP t I64
abbrev zaa(t:Nat):Nat×Sh:=sP t .bool
abbrev Uaa(t r:Nat):Nat×Sh:=(t,.pk ⟨r,0,[]⟩ [0,0])
abbrev Xa(t:CT):CT:=.row true t
abbrev Xb(t:CT):CT:=.row false t
abbrev uaa(t:Nat):Nat×Sh:=pP t (2*t+2)
abbrev Xaa:List Sh:=uL [(Xb bH),(Xb ca)]
abbrev Zaa:List Sh:=uL [RI,I64]
abbrev uab:List Sh:=uL [.bool]
abbrev yab:List Sh:=uL [N1,N1]
abbrev zab:List Sh:=uL [(Xa (.pair I64 I64))]
abbrev Uab:List Sh:=uL [I64]
abbrev Xab:List Sh:=uL [I64,I64]
abbrev Zab:List Sh:=uL [(Xa (Xa KCn)),(Xa kF)]
abbrev uac:List Sh:=uL [I64,I64,bH,I64,I64,I64,I64,I64,I64,CW,bH]
abbrev yac:List Sh:=uL [I64,I64,N1]
abbrev zac:List Sh:=uL [I64,I64,I64,I64,I64,I64,CW,bH]
abbrev Uac:List Sh:=uL [I64,I64,I64,I64,I64,I64,CW,(Xa KCn)]
abbrev Xac:List Sh:=uL [(Xa (Xa KCn)),N1]
abbrev Zac:List Sh:=uL [(Xa I64)]
abbrev uad:List Sh:=uL [(Xa (.pair I64 I64)),I64]
abbrev yad:List Sh:=uL [(Xa bH),(Xa ca)]
abbrev zad:List Sh:=uL [(Xa KCn)]
abbrev Uad:List Sh:=uL [(Xb bH),(Xa kF)]
abbrev Xad:List Sh:=uL [(Xb bH),(Xb ca),I64]
abbrev Zad:List Sh:=uL [(Xa (Xa KCn)),(Xa kF),I64]
def rj(a0:List (Int)):Option (Bool×Unit):=
let x0:=bn a0.length;
some ((decide (x0<=400)),())
def ID:X.Cfg:=⟨E0,[],[],[]⟩
def Cr:Ctr:=⟨4,0,uL [RI],[],[⟨uab,[.one],[]⟩],ap1 rj⟩
theorem Iv:Lvl E0 TT libBj 1 Cr:=bk (n:=0) (C:=ID) rfl (.intro) (bm (by kernel_rfl)) (λh=>by kernel_rfl)
def dK(a0:Int)(a1:Int)(a2:Int)(a3:Int)(a4:Int)(a5:Int)(a6:Int)(a7:LDCn):Option (T0y):=
bif(cb 24 0 a7.length)then let x0:LDCn:=(List.append [] a7);
some (a0,a1,a2,a3,a4,a5,a6,x0,())else none
def ue:X.Cfg:=⟨E0,[],[],[]⟩
def ig:Ctr:=⟨29,1,[.agg zac],[],[⟨Uac,[.agg 8],[]⟩],ap8 dK⟩
theorem jR:Lvl E0 TT libBj 1 ig:=bk (n:=0) (C:=ue) rfl (.intro) (bm (by kernel_rfl)) (λh=>by kernel_rfl)
def bP:T0v->Option (T0v⊕(Int×Bool×T0q)):=λ(v0,v1,v2,v3,v4,v5,v6,_)=>
let x0:=bn v1.length;
bif(decide (v0<x0))then((dO v0).bind λx1=>
(cn v1 x1).bind λx2=>
bif(cb 24 0 x2.length)then let x3:LDCn:=(List.append [] x2);
bif(cb 24 v5.length (List.length [x3]))then let x4:List LDCn:=(List.append v5 [x3]);
let x5:=w64 (v0+1);
some (.inl (x5,v1,v2,v3,v4,x4,v6,()))else none else none)else
some (.inr (v0,false,v1,v2,v3,v4,v5,v6,()))
def bO:T0u->Option (T0u⊕(Int×Bool×T0p)):=λ(v0,v1,v2,v3,v4,v5,v6,_)=>
let x0:=bn v2.length;
bif(decide (v0<x0))then((dO v0).bind λx1=>
(cn v2 x1).bind λx2=>
(dK x2.1 x2.2.1 x2.2.2.1 x2.2.2.2.1 x2.2.2.2.2.1 x2.2.2.2.2.2.1 x2.2.2.2.2.2.2.1 x2.2.2.2.2.2.2.2).bind λ(x3,x4,x5,x6,x7,x8,x9,ac,_)=>
let ae:LDTs:=[(x3,(x4,(x5,(x6,(x7,(x8,(x9,ac)))))))];
bif(cb 80 v6.length ae.length)then let af:LDTs:=(List.append v6 ae);
let ah:=w64 (v0+1);
some (.inl (ah,v1,v2,v3,v4,v5,af,()))else none)else
some (.inr (v0,false,v1,v2,v3,v4,v5,v6,()))
def dq(a0:List LDCn)(a1:LDTs):Option (T03):=
(bu bP NN (0,a0,a1,(),(),[],(),())).bind λ(x0,x1,x2,x3,x4,x5,x6,x7,_)=>
(bu bO NN (0,x2,x3,x4,x5,x6,[],())).bind λ(x8,x9,ac,ae,af,ah,aj)=>
some (aj)
def yu:X.Cfg:=⟨E0,[ig],[(22,(Xa KCn)),(23,(Xa KCn)),(40,kF),(41,kF)],[(lx 4 0 [uaa 1,uaa 2,uaa 3,yaa 4] [(4,Xaa),(6,yab),(8,Xac)] 10),⟨10,1,qS [uaa 1,uaa 2,uaa 3,yaa 5] [(4,Xaa),(6,yab),(8,Zab)],[(.exit 2,qS [uaa 1,uaa 2,uaa 3,yaa 5,zaa 29] [(4,Xaa),(6,yab),(8,Zab)])]⟩]⟩
def gh:Ctr:=⟨14,2,[.agg Xaa],[],[⟨Zab,[.agg 2],[]⟩],ap2 dq⟩
theorem iz:Lvl E0 TT libBj 2 gh:=bk (n:=1) (C:=yu) rfl (.intro (jR.mono (by decide)) (.intro)) (bm (by kernel_rfl)) (λh=>by kernel_rfl)
def gr(a0:Int):Option (Bool×Unit):=
bif(decide (a0>=1))then(some ((decide (a0<=32)),()))else
some (false,())
def wq:X.Cfg:=⟨E0,[],[],[]⟩
def lb:Ctr:=⟨83,3,Uab,[],[⟨uab,[.one],[]⟩],ap1 gr⟩
theorem oN:Lvl E0 TT libBj 1 lb:=bk (n:=0) (C:=wq) rfl (.intro) (bm (by kernel_rfl)) (λh=>by kernel_rfl)
def fX(a0:LDCn):Option (Bool×Unit):=
let x0:=bn a0.length;
(gr x0).bind λ(x1,_)=>
some ((!x1),())
def re:X.Cfg:=⟨E0,[lb],[],[]⟩
def lD:Ctr:=⟨82,4,uL [bH],[],[⟨uab,[.one],[]⟩],ap1 fX⟩
theorem qZ:Lvl E0 TT libBj 2 lD:=bk (n:=1) (C:=re) rfl (.intro (oN.mono (by decide)) (.intro)) (bm (by kernel_rfl)) (λh=>by kernel_rfl)
def bv:LLCn×T01->Option ((LLCn×T01)⊕((Int×Unit)⊕(LLCn×T05))):=λ(v0,v1,v2,_)=>
bif(decide (v2<v1))then((dO v2).bind λx0=>
(cn v0 x0).bind λx1=>
(fX x1).bind λ(x2,_)=>
bif x2 then(some (.inr (.inl (v2,()))))else
let x3:=w64 (v2+1);
some (.inl (v0,v1,x3,())))else
some (.inr (.inr (v0,v1,v2,false,())))
def dY(a0:List LDCn):Option (Int×Unit):=
let x0:=bn a0.length;
(match bu bv NN (a0,x0,0,())with
|none=>none
|some (.inl (x1,_))=>
some (x1,())
|some (.inr (x1,_))=>
some ((-1),()))
def ky:X.Cfg:=⟨E0,[lD],[],[⟨3,0,(qS [sP 0 (Xb bH),(1,.fn 82 []),yaa 7,yaa 8] []),[(.ret,qS [yaa 4] []),(.exit 0,(qS [sP 0 (Xb bH),(1,.fn 82 []),yaa 7,yaa 8,zaa 9] []))]⟩]⟩
def ge:Ctr:=⟨88,5,[shU (Xb bH),.fn 82 []],[],[⟨Uab,[.one],[]⟩],ap1 dY⟩
theorem kx:Lvl E0 TT libBj 3 ge:=bk (n:=2) (C:=ky) rfl (.intro (qZ.mono (by decide)) (.intro)) (bm (by kernel_rfl)) (λh=>by kernel_rfl)
def cw(a0:List LDCn):Option (Bool×Unit):=
(dY a0).bind λ(x0,_)=>
some ((decide (x0>=0)),())
def ji:X.Cfg:=⟨E0,[ge],[],[]⟩
def fr:Ctr:=⟨81,6,[shU (Xb bH),.fn 82 []],[],[⟨uab,[.one],[]⟩],ap1 cw⟩
theorem jh:Lvl E0 TT libBj 4 fr:=bk (n:=3) (C:=ji) rfl (.intro (kx.mono (by decide)) (.intro)) (bm (by kernel_rfl)) (λh=>by kernel_rfl)
def fM(a0:List LDCn)(a1:LDTs):Option (Bool×Unit):=
let x0:=bn a0.length;
bif(decide (x0<=4))then(let x1:Int:=(bn a1.length);
bif(decide (x1<=4))then((cw a0).bind λ(x2,_)=>
some ((!x2),()))else
some (false,()))else
some (false,())
def ug:X.Cfg:=⟨E0,[fr],[],[]⟩
def jX:Ctr:=⟨72,7,[.agg Xaa],[],[⟨uab,[.one],[]⟩],ap2 fM⟩
theorem nB:Lvl E0 TT libBj 5 jX:=bk (n:=4) (C:=ug) rfl (.intro (jh.mono (by decide)) (.intro)) (bm (by kernel_rfl)) (λh=>by kernel_rfl)
def df:LLCn×Int×T0a->Option ((LLCn×Int×T0a)⊕(LLCn×Int×Int×Bool×T08)):=λ(v0,v1,v2,v3,v4,v5,_)=>
bif(decide (v2<v1))then((dO v2).bind λx0=>
(cn v0 x0).bind λx1=>
let x2:=bn x1.length;
bif(cb 8 v5.length (List.length [x2]))then let x3:List (Int):=(List.append v5 [x2]);
let x4:=w64 (v2+1);
some (.inl (v0,v1,x4,v3,v4,x3,()))else none)else
some (.inr (v0,v1,v2,false,v3,v4,v5,()))
def fA(a0:List LDCn)(a1:LDTs):Option (LI×Unit):=
let x0:=bn a0.length;
(bu df NN (a0,x0,0,a0,a1,[],())).bind λ(x1,x2,x3,x4,x5,x6,x7,_)=>
some (x7,())
def wt:X.Cfg:=⟨E0,[],[],[(lx 4 0 [Uaa 3 9,sP 7 (Xb bH),yaa 8,yaa 9] [(4,Xaa),(9,Zac)] 10)]⟩
def ld:Ctr:=⟨53,8,[.agg Xaa],[],[⟨Zac,[.one],[]⟩],ap2 fA⟩
theorem oO:Lvl E0 TT libBj 1 ld:=bk (n:=0) (C:=wt) rfl (.intro) (bm (by kernel_rfl)) (λh=>by kernel_rfl)
def ia(a0:Int):Option (Bool×Unit):=
(gr a0).bind λ(x0,_)=>
some ((!x0),())
def uh:X.Cfg:=⟨E0,[lb],[],[]⟩
def nJ:Ctr:=⟨85,9,Uab,[],[⟨uab,[.one],[]⟩],ap1 ia⟩
theorem tV:Lvl E0 TT libBj 2 nJ:=bk (n:=1) (C:=uh) rfl (.intro (oN.mono (by decide)) (.intro)) (bm (by kernel_rfl)) (λh=>by kernel_rfl)
def bL:T07->Option (T07⊕((Int×Unit)⊕T0b)):=λ(v0,v1,v2,_)=>
bif(decide (v2<v1))then((dO v2).bind λx0=>
(cn v0 x0).bind λx1=>
(ia x1).bind λ(x2,_)=>
bif x2 then(some (.inr (.inl (v2,()))))else
let x3:=w64 (v2+1);
some (.inl (v0,v1,x3,())))else
some (.inr (.inr (v0,v1,v2,false,())))
def eO(a0:List (Int)):Option (Int×Unit):=
let x0:=bn a0.length;
(match bu bL NN (a0,x0,0,())with
|none=>none
|some (.inl (x1,_))=>
some (x1,())
|some (.inr (x1,_))=>
some ((-1),()))
def lL:X.Cfg:=⟨E0,[nJ],[],[⟨3,0,(qS [sP 0 RI,(1,.fn 85 []),yaa 7,yaa 8] []),[(.ret,qS [yaa 4] []),(.exit 0,(qS [sP 0 RI,(1,.fn 85 []),yaa 7,yaa 8,zaa 9] []))]⟩]⟩
def gO:Ctr:=⟨89,10,[shU RI,.fn 85 []],[],[⟨Uab,[.one],[]⟩],ap1 eO⟩
theorem lI:Lvl E0 TT libBj 3 gO:=bk (n:=2) (C:=lL) rfl (.intro (tV.mono (by decide)) (.intro)) (bm (by kernel_rfl)) (λh=>by kernel_rfl)
def cM(a0:List (Int)):Option (Bool×Unit):=
(eO a0).bind λ(x0,_)=>
some ((decide (x0>=0)),())
def jU:X.Cfg:=⟨E0,[gO],[],[]⟩
def fQ:Ctr:=⟨84,11,[shU RI,.fn 85 []],[],[⟨uab,[.one],[]⟩],ap1 cM⟩
theorem jQ:Lvl E0 TT libBj 4 fQ:=bk (n:=3) (C:=jU) rfl (.intro (lI.mono (by decide)) (.intro)) (bm (by kernel_rfl)) (λh=>by kernel_rfl)
def cX:T0z->Option (T0z⊕(Int×Int×Int×Int×T0l)):=λ(v0,v1,v2,v3,v4,v5,v6,v7,_)=>
let x0:=w64 (v3*8);
bif(decide (x0<v2))then(let x1:LDCe:=[(v1,v3)];
bif(cb 16 v7.length x1.length)then let x2:LDCe:=(List.append v7 x1);
let x3:=w64 (v3+1);
some (.inl (v0,v1,v2,x3,v4,v5,v6,x2,()))else none)else
some (.inr (v0,v1,v2,v3,v4,v5,v6,false,v7,()))
def dx:T0j->Option (T0j⊕(Int×T0l)):=λ(v0,v1,v2,v3,v4,_)=>
bif(decide (v3<v2))then((dO v3).bind λx0=>
(cn v1 x0).bind λx1=>
(bu cX NN (v0,v3,x1,0,v1,v2,v3,v4,())).bind λ(x2,x3,x4,x5,x6,x7,x8,x9,ac,_)=>
let ae:=w64 (x8+1);
some (.inl (x2,x6,x7,ae,ac,())))else
some (.inr (v0,v1,v2,v3,false,v4,()))
def cW:T06->Option (T06⊕T09):=λ(v0,v1,v2,_)=>
bif(decide (v1<v0))then(let x0:LDCe:=[((-1),v1)];
bif(cb 16 v2.length x0.length)then let x1:LDCe:=(List.append v2 x0);
let x2:=w64 (v1+1);
some (.inl (v0,x2,x1,()))else none)else
some (.inr (v0,v1,false,v2,()))
def jx(a0:List (Int))(a1:Int):Option (LDCe×Int×Unit):=
let x0:=bn a0.length;
bif(decide (x0>4))then(some ([],3,()))else
bif(decide (a1>4))then(some ([],3,()))else
bif(decide (a1<0))then(some ([],1,()))else
(cM a0).bind λ(x1,_)=>
bif x1 then(some ([],1,()))else
let x2:=bn a0.length;
(bu dx NN (a1,a0,x2,0,[],())).bind λ(x3,x4,x5,x6,x7,x8,_)=>
(bu cW NN (x3,0,x8,())).bind λ(x9,ac,ae,af,_)=>
some (af,0,())
def yx:X.Cfg:=⟨E0,[fQ],[],[⟨16,0,qS [yaa 1,Uaa 6 15,yaa 7,yaa 8,yaa 9,sP 24 RI,yaa 25,yaa 26] [(15,zab)],[(.exit 2,qS [yaa 1,Uaa 6 15,yaa 7,yaa 8,yaa 9,sP 24 RI,yaa 25,yaa 26,zaa 34] [(15,zab)])]⟩,(lx 10 1 [yaa 1,Uaa 6 15,sP 24 RI,yaa 25,yaa 26] [(15,zab)] 27),⟨22,2,qS [Uaa 6 15,yaa 44,yaa 45] [(15,zab)],[(.exit 4,qS [Uaa 6 15,yaa 44,yaa 45,zaa 46] [(15,zab)])]⟩]⟩
def qP:Ctr:=⟨73,12,Zaa,[],[⟨uad,[.one,.one],[]⟩],ap2 jx⟩
theorem ye:Lvl E0 TT libBj 5 qP:=bk (n:=4) (C:=yx) rfl (.intro (jQ.mono (by decide)) (.intro)) (bm (by kernel_rfl)) (λh=>by kernel_rfl)
def cC(a0:LDCn):Option (LDCn×Unit):=
bif(cb 24 0 a0.length)then let x0:LDCn:=(List.append [] a0);
some (x0,())else none
def nn:X.Cfg:=⟨E0,[],[],[]⟩
def dU:Ctr:=⟨59,13,uL [bH],[],[⟨zad,[.one],[]⟩],ap1 cC⟩
theorem fG:Lvl E0 TT libBj 1 dU:=bk (n:=0) (C:=nn) rfl (.intro) (bm (by kernel_rfl)) (λh=>by kernel_rfl)
def gt(a0:Int)(a1:Int)(a2:Int)(a3:Int)(a4:Int)(a5:Int)(a6:Int)(a7:LDCn):Option (T0y):=
(cC a7).bind λ(x0,_)=>
some (a0,a1,a2,a3,a4,a5,a6,x0,())
def wC:X.Cfg:=⟨E0,[dU],[],[]⟩
def li:Ctr:=⟨60,14,[.agg zac],[],[⟨Uac,[.agg 8],[]⟩],ap8 gt⟩
theorem oS:Lvl E0 TT libBj 2 li:=bk (n:=1) (C:=wC) rfl (.intro (fG.mono (by decide)) (.intro)) (bm (by kernel_rfl)) (λh=>by kernel_rfl)
def ej(a0:LDCn)(a1:Int):Option (LDCn×Unit):=
(bif(decide (a1<0))then(some (a0,a1,true,()))else
bif(decide (a1>32))then(some (a0,a1,true,()))else
let x0:=w64 (a1*8);
let x1:=bn a0.length;
some (a0,a1,(decide (x0>=x1)),()):Option (LDCn×T00)).bind λ(x0,x1,x2,_)=>
bif x2 then(some ([],()))else
let x3:=w64 (x1*8);
let x4:=w64 (x3+8);
let x5:=bn x0.length;
let x6:=mmR false x4 x5;
(dO x3).bind λx7=>
(dO x6).bind λx8=>
bif(fZ x7 x8 x0.length)then let x9:LDCn:=(zu x0 x7 (Nat.sub x8 x7));
some (x9,())else none
def yv:X.Cfg:=⟨E0,[],[],[⟨2,0,qE,[(.normal,qS [sP 0 bH,yaa 1,zaa 18] [])]⟩]⟩
def my:Ctr:=⟨61,15,uL [bH,I64],[],[⟨uL [bH],[.one],[]⟩],ap2 ej⟩
theorem qz:Lvl E0 TT libBj 1 my:=bk (n:=0) (C:=yv) rfl (.intro) (bm (by kernel_rfl)) (λh=>by kernel_rfl)
def gU(a0:List LDCn)(a1:LDTs)(a2:Int)(a3:Int):Option (T0D):=
bif(a2==(-1))then((dO a3).bind λx0=>
(cn a1 x0).bind λx1=>
(gt x1.1 x1.2.1 x1.2.2.1 x1.2.2.2.1 x1.2.2.2.2.1 x1.2.2.2.2.2.1 x1.2.2.2.2.2.2.1 x1.2.2.2.2.2.2.2).bind λ(x2,x3,x4)=>
some (a2,a3,[],x2,x3,x4))else
(dO a2).bind λx0=>
(cn a0 x0).bind λx1=>
(ej x1 a3).bind λ(x2,_)=>
(cC x2).bind λ(x3,_)=>
some (a2,a3,x3,0,0,0,0,0,0,0,[],())
def Av:X.Cfg:=⟨E0,[li,my,dU],[],[]⟩
def oc:Ctr:=⟨56,16,[.agg Xaa,.agg Xab],[],[⟨uac,[.agg 11],[]⟩],ap4 gU⟩
theorem sg:Lvl E0 TT libBj 3 oc:=bk (n:=2) (C:=Av) rfl (.intro (oS.mono (by decide)) (.intro (qz.mono (by decide)) (.intro (fG.mono (by decide)) (.intro)))) (bm (by kernel_rfl)) (λh=>by kernel_rfl)
def dM:T0P->Option (T0P⊕(Int×T0O)):=λ(v0,v1,v2,v3,v4,v5,_)=>
bif(decide (v1<v0))then((dO v1).bind λx0=>
(cn v4 x0).bind λx1=>
(cn v4 x0).bind λx2=>
(gU v2 v3 x2.1 x2.2).bind λ(x3,x4,x5,x6,x7,x8,x9,ac,ae,af,ah,_)=>
let aj:List (Int×Int×LDCn×Int×Int×Int×Int×Int×Int×Int×LDCn):=[(x3,(x4,(x5,(x6,(x7,(x8,(x9,(ac,(ae,(af,ah))))))))))];
bif(cb 120 v5.length aj.length)then let ak:List (Int×Int×LDCn×Int×Int×Int×Int×Int×Int×Int×LDCn):=(List.append v5 aj);
let am:=w64 (v1+1);
some (.inl (v0,am,v2,v3,v4,ak,()))else none)else
some (.inr (v0,v1,false,v2,v3,v4,v5,()))
def fY(a0:List LDCn)(a1:LDTs):Option (T0E):=
(fM a0 a1).bind λ(x0,_)=>
bif(!x0)then(some ([],1,()))else
(fA a0 a1).bind λ(x1,_)=>
let x2:=bn a1.length;
(jx x1 x2).bind λ(x3,x4,_)=>
let x5:=bn x3.length;
(bu dM NN (x5,0,a0,a1,x3,[],())).bind λ(x6,x7,x8,x9,ac,ae,af,_)=>
some (af,0,())
def Ax:X.Cfg:=⟨E0,[jX,ld,qP,oc],[(31,(.pair I64 (.pair I64 (.pair (Xa KCn) kF)))),(32,(.pair I64 (.pair I64 (.pair (Xa KCn) kF))))],[(lx 8 0 [uaa 1,Uaa 6 15,Uaa 21 11,yaa 22,yaa 23] [(4,Xaa),(11,zab),(15,[shU (Xa (.pair I64 (.pair I64 (.pair bH ca))))])] 24)]⟩
def tr:Ctr:=⟨51,17,[.agg Xaa],[],[⟨[shU (Xa (.pair I64 (.pair I64 (.pair bH ca)))),shU I64],[.one,.one],[]⟩],ap2 fY⟩
theorem Ai:Lvl E0 TT libBj 6 tr:=bk (n:=5) (C:=Ax) rfl (.intro (nB.mono (by decide)) (.intro (oO.mono (by decide)) (.intro (ye.mono (by decide)) (.intro (sg.mono (by decide)) (.intro))))) (bm (by kernel_rfl)) (λh=>by kernel_rfl)
def cQ:LI×T07->Option ((LI×T07)⊕((Bool×Unit)⊕(LI×T0b))):=λ(v0,v1,v2,v3,_)=>
bif(decide (v3<v2))then((dO v3).bind λx0=>
(cn v0 x0).bind λx1=>
(dO v3).bind λx2=>
(cn v1 x2).bind λx3=>
bif(x1 != x3)then(some (.inr (.inl (false,()))))else
let x4:=w64 (v3+1);
some (.inl (v0,v1,v2,x4,())))else
some (.inr (.inr (v0,v1,v2,v3,false,())))
def eU(a0:List (Int))(a1:List (Int)):Option (Bool×Unit):=
let x0:=bn a0.length;
let x1:=bn a1.length;
bif(x0 != x1)then(some (false,()))else
let x2:=bn a0.length;
(match bu cQ NN (a0,a1,x2,0,())with
|none=>none
|some (.inl (x3,_))=>
some (x3,())
|some (.inr (x3,_))=>
some (true,()))
def oW:X.Cfg:=⟨E0,[],[],[⟨6,0,qS [sP 0 RI,sP 1 RI,yaa 12,yaa 13] [],[(.ret,qS [zaa 4] []),(.exit 0,qS [sP 0 RI,sP 1 RI,yaa 12,yaa 13,zaa 14] [])]⟩]⟩
def jI:Ctr:=⟨52,18,uL [RI,RI],[],[⟨uab,[.one],[]⟩],ap2 eU⟩
theorem oI:Lvl E0 TT libBj 1 jI:=bk (n:=0) (C:=oW) rfl (.intro) (bm (by kernel_rfl)) (λh=>by kernel_rfl)
def cu:LDCn×LDCn×T01->Option ((LDCn×LDCn×T01)⊕((Bool×Unit)⊕(LDCn×LDCn×T05))):=λ(v0,v1,v2,v3,_)=>
bif(decide (v3<v2))then((dO v3).bind λx0=>
(cn v0 x0).bind λx1=>
(dO v3).bind λx2=>
(cn v1 x2).bind λx3=>
let x4:Bool:=(!((x1.1==x3.1)&&((x1.2.1==x3.2.1)&&((x1.2.2.1==x3.2.2.1)&&((x1.2.2.2==x3.2.2.2)&&true)))));
bif x4 then(some (.inr (.inl (false,()))))else
let x5:=w64 (v3+1);
some (.inl (v0,v1,v2,x5,())))else
some (.inr (.inr (v0,v1,v2,v3,false,())))
def dh(a0:LDCn)(a1:LDCn):Option (Bool×Unit):=
let x0:=bn a0.length;
let x1:=bn a1.length;
bif(x0 != x1)then(some (false,()))else
let x2:=bn a0.length;
(match bu cu NN (a0,a1,x2,0,())with
|none=>none
|some (.inl (x3,_))=>
some (x3,())
|some (.inr (x3,_))=>
some (true,()))
def nj:X.Cfg:=⟨E0,[],[],[⟨6,0,qS [sP 0 bH,sP 1 bH,yaa 12,yaa 13] [],[(.ret,qS [zaa 4] []),(.exit 0,qS [sP 0 bH,sP 1 bH,yaa 12,yaa 13,zaa 14] [])]⟩]⟩
def iK:Ctr:=⟨74,19,uL [bH,bH],[],[⟨uab,[.one],[]⟩],ap2 dh⟩
theorem nh:Lvl E0 TT libBj 1 iK:=bk (n:=0) (C:=nj) rfl (.intro) (bm (by kernel_rfl)) (λh=>by kernel_rfl)
def iQ(a0:Int)(a1:Int)(a2:LDCn)(a3:Int)(a4:Int)(a5:Int)(a6:Int)(a7:Int)(a8:Int)(a9:Int)(a10:LDCn)(a11:Int)(a12:Int)(a13:LDCn)(a14:Int)(a15:Int)(a16:Int)(a17:Int)(a18:Int)(a19:Int)(a20:Int)(a21:LDCn):Option (Bool×Unit):=
bif((a0==a11)&&((a1==a12)&&true))then((dh a2 a13).bind λ(x0,_)=>
bif x0 then(bif(a3==a14)then(bif(a4==a15)then(bif(a5==a16)then(bif(a6==a17)then(bif(a7==a18)then(bif(a8==a19)then(bif(a9==a20)then((dh a10 a21).bind λ(x1,_)=>
some (x1,()))else
some (false,()))else
some (false,()))else
some (false,()))else
some (false,()))else
some (false,()))else
some (false,()))else
some (false,()))else
some (false,()))else
some (false,())
def wu:X.Cfg:=⟨E0,[iK],[],[]⟩
def pz:Ctr:=⟨54,20,[.agg uac,.agg uac],[],[⟨uab,[.one],[]⟩],ap22 iQ⟩
theorem vP:Lvl E0 TT libBj 2 pz:=bk (n:=1) (C:=wu) rfl (.intro (nh.mono (by decide)) (.intro)) (bm (by kernel_rfl)) (λh=>by kernel_rfl)
def cA:T14->Option (T14⊕(Int×T13)):=λ(v0,v1,v2,v3,v4,_)=>
bif(decide (v1<v0))then(((dO v1).bind λx0=>
(cn v2 x0).bind λx1=>
(cn v2 x0).bind λx2=>
(dO v1).bind λx3=>
(cn v3 x3).bind λx4=>
(cn v3 x3).bind λx5=>
(iQ x2.1 x2.2.1 x2.2.2.1 x2.2.2.2.1 x2.2.2.2.2.1 x2.2.2.2.2.2.1 x2.2.2.2.2.2.2.1 x2.2.2.2.2.2.2.2.1 x2.2.2.2.2.2.2.2.2.1 x2.2.2.2.2.2.2.2.2.2.1 x2.2.2.2.2.2.2.2.2.2.2 x5.1 x5.2.1 x5.2.2.1 x5.2.2.2.1 x5.2.2.2.2.1 x5.2.2.2.2.2.1 x5.2.2.2.2.2.2.1 x5.2.2.2.2.2.2.2.1 x5.2.2.2.2.2.2.2.2.1 x5.2.2.2.2.2.2.2.2.2.1 x5.2.2.2.2.2.2.2.2.2.2).bind λ(x6,_)=>
bif(!x6)then((dO v1).bind λx7=>
(cn v2 x7).bind λx8=>
(cn v2 x7).bind λx9=>
let ac:LDCe:=[(x9.1,x9.2.1)];
bif(cb 16 v4.length ac.length)then let ae:LDCe:=(List.append v4 ac);
some (v0,v1,v2,v3,ae,())else none)else
some (v0,v1,v2,v3,v4,()):Option (T14)).bind λ(x0,x1,x2,x3,x4,_)=>
let x5:=w64 (x1+1);
some (.inl (x0,x5,x2,x3,x4,())))else
some (.inr (v0,v1,false,v2,v3,v4,()))
def d5(a0:List LDCn)(a1:LDTs)(a2:List LDCn)(a3:LDTs):Option (LDCe×Int×Unit):=
(fY a0 a1).bind λ(x0,x1,_)=>
(fY a2 a3).bind λ(x2,x3,_)=>
(bif(x1 != 0)then(some (true,x0,x2,()))else
bif(x3 != 0)then(some (true,x0,x2,()))else
(fA a0 a1).bind λ(x4,_)=>
(fA a2 a3).bind λ(x5,_)=>
(eU x4 x5).bind λ(x6,_)=>
bif(!x6)then(some (true,x0,x2,()))else
let x7:=bn a1.length;
let x8:=bn a3.length;
some ((x7 != x8),x0,x2,()):Option (Bool×(List (Int×Int×LDCn×Int×Int×Int×Int×Int×Int×Int×LDCn))×(List (Int×Int×LDCn×Int×Int×Int×Int×Int×Int×Int×LDCn))×Unit)).bind λ(x4,x5,x6,_)=>
bif x4 then(some ([],1,()))else
let x7:=bn x5.length;
(bu cA NN (x7,0,x5,x6,[],())).bind λ(x8,x9,ac,ae,af,ah,_)=>
some (ah,0,())
def su:X.Cfg:=⟨E0,[tr,ld,jI,pz],[],[⟨4,0,qE,[(.normal,(qS [Uaa 6 15,Uaa 8 19,zaa 44] [(15,[shU (Xa (.pair I64 (.pair I64 (.pair bH ca))))]),(19,[shU (Xa (.pair I64 (.pair I64 (.pair bH ca))))])]))]⟩,⟨12,1,qE,[(.normal,(qS [Uaa 6 15,Uaa 8 19,Uaa 10 23,yaa 46,yaa 47] [(15,[shU (Xa (.pair I64 (.pair I64 (.pair bH ca))))]),(19,[shU (Xa (.pair I64 (.pair I64 (.pair bH ca))))]),(23,zab)]))]⟩,(lx 9 2 [Uaa 6 15,Uaa 8 19,Uaa 10 23,yaa 46,yaa 47] [(15,[shU (Xa (.pair I64 (.pair I64 (.pair bH ca))))]),(19,[shU (Xa (.pair I64 (.pair I64 (.pair bH ca))))]),(23,zab)] 48)]⟩
def mz:Ctr:=⟨30,21,[.agg Xaa,.agg Xaa],[],[⟨uad,[.one,.one],[]⟩],ap4 d5⟩
theorem si:Lvl E0 TT libBj 7 mz:=bk (n:=6) (C:=su) rfl (.intro (Ai.mono (by decide)) (.intro (oO.mono (by decide)) (.intro (oI.mono (by decide)) (.intro (vP.mono (by decide)) (.intro))))) (bm (by kernel_rfl)) (λh=>by kernel_rfl)
def fi(a0:Int)(a1:Int):Option (Int×Unit):=
(bif(decide (a0<0))then(some (true,()))else
bif(decide (a1>200))then(some (true,()))else
some ((decide (a0>a1)),()):Option (Bool×Unit)).bind λ(x0,_)=>
bif x0 then(some (6,()))else
some (0,())
def yz:X.Cfg:=⟨E0,[],[],[⟨2,0,qE,[(.normal,qS [zaa 15] [])]⟩]⟩
def mA:Ctr:=⟨31,22,Xab,[],[⟨Uab,[.one],[]⟩],ap2 fi⟩
theorem qA:Lvl E0 TT libBj 1 mA:=bk (n:=0) (C:=yz) rfl (.intro) (bm (by kernel_rfl)) (λh=>by kernel_rfl)
def fw(a0:List LDCn)(a1:LDTs)(a2:Int)(a3:Int):Option (Bool×Unit):=
bif(a2==(-1))then(bif(decide (a3>=0))then(let x0:Int:=(bn a1.length);
some ((decide (a3<x0)),()))else
some (false,()))else
bif(decide (a2>=0))then(let x0:Int:=(bn a0.length);
bif(decide (a2<x0))then((dO a2).bind λx1=>
(cn a0 x1).bind λx2=>
(ej x2 a3).bind λ(x3,_)=>
let x4:=bn x3.length;
some ((decide (x4>0)),()))else
some (false,()))else
some (false,())
def wo:X.Cfg:=⟨E0,[my],[],[]⟩
def pu:Ctr:=⟨75,23,[.agg Xaa,.agg Xab],[],[⟨uab,[.one],[]⟩],ap4 fw⟩
theorem vO:Lvl E0 TT libBj 2 pu:=bk (n:=1) (C:=wo) rfl (.intro (qz.mono (by decide)) (.intro)) (bm (by kernel_rfl)) (λh=>by kernel_rfl)
def fh(a0:List LDCn)(a1:LDTs)(a2:Int)(a3:Int):Option (Int×Unit):=
(fM a0 a1).bind λ(x0,_)=>
bif(!x0)then(some (1,()))else
(fw a0 a1 a2 a3).bind λ(x1,_)=>
bif(!x1)then(some (30,()))else
some (0,())
def yw:X.Cfg:=⟨E0,[jX,pu],[],[]⟩
def qO:Ctr:=⟨55,24,[.agg Xaa,.agg Xab],[],[⟨Uab,[.one],[]⟩],ap4 fh⟩
theorem yd:Lvl E0 TT libBj 6 qO:=bk (n:=5) (C:=yw) rfl (.intro (nB.mono (by decide)) (.intro (vO.mono (by decide)) (.intro))) (bm (by kernel_rfl)) (λh=>by kernel_rfl)
def kN(a0:List LDCn)(a1:LDTs)(a2:Int)(a3:Int):Option (T0G):=
(fh a0 a1 a2 a3).bind λ(x0,_)=>
bif(x0 != 0)then(some (0,0,[],0,0,0,0,0,0,0,[],x0,()))else
(gU a0 a1 a2 a3).bind λ(x1,x2,x3,x4,x5,x6,x7,x8,x9,ac,ae,_)=>
some (x1,x2,x3,x4,x5,x6,x7,x8,x9,ac,ae,0,())
def Aw:X.Cfg:=⟨E0,[qO,oc],[],[]⟩
def tp:Ctr:=⟨32,25,[.agg Xaa,.agg Xab],[],[⟨uL [I64,I64,bH,I64,I64,I64,I64,I64,I64,CW,bH,I64],[.agg 11,.one],[]⟩],ap4 kN⟩
theorem Ah:Lvl E0 TT libBj 7 tp:=bk (n:=6) (C:=Aw) rfl (.intro (yd.mono (by decide)) (.intro (sg.mono (by decide)) (.intro))) (bm (by kernel_rfl)) (λh=>by kernel_rfl)
def fj:T0Y->Option (T0Y⊕((Int×Int×Int×Unit×Unit)⊕(Int×T0X))):=λ(v0,v1,v2,v3,v4,v5,v6,v7,v8,v9,v10,_)=>
bif(decide (v1<v0))then((dO v1).bind λx0=>
(cn v7 x0).bind λx1=>
(cn v7 x0).bind λx2=>
(kN v2 v3 x2.1 x2.2).bind λ(x3,x4,x5,x6,x7,x8,x9,ac,ae,af,ah,aj,_)=>
bif(aj != 0)then(some (.inr (.inl (aj,0,0,(),()))))else
let ak:List (Int×Int×LDCn×Int×Int×Int×Int×Int×Int×Int×LDCn):=[(x3,(x4,(x5,(x6,(x7,(x8,(x9,(ac,(ae,(af,ah))))))))))];
bif(cb 120 v10.length ak.length)then let am:List (Int×Int×LDCn×Int×Int×Int×Int×Int×Int×Int×LDCn):=(List.append v10 ak);
let an:=w64 (v1+1);
some (.inl (v0,an,v2,v3,v4,v5,v6,v7,v8,v9,am,()))else none)else
some (.inr (.inr (v0,v1,false,v2,v3,v4,v5,v6,v7,v8,v9,v10,())))
def ek(a0:List LDCn)(a1:LDTs)(a2:List LDCn)(a3:LDTs)(a4:Int)(a5:Int):Option (T0J):=
(d5 a0 a1 a2 a3).bind λ(x0,x1,_)=>
bif(x1 != 0)then(some (0,0,[],x1,()))else
(fi a4 a5).bind λ(x2,_)=>
bif(x2 != 0)then(some (0,0,[],x2,()))else
let x3:=bn x0.length;
(match bu fj NN (x3,0,a2,a3,0,0,(),x0,a4,a5,[],())with
|none=>none
|some (.inl (x4,x5,x6,x7,_))=>
some (x5,x6,[],x4,())
|some (.inr (x4,x5,x6,x7,x8,x9,ac,ae,af,ah,aj,ak,_))=>
some (ah,aj,ak,0,()))
def yA:X.Cfg:=⟨E0,[mz,mA,tp],[(57,(.pair I64 (.pair I64 (.pair (Xa KCn) kF)))),(58,(.pair I64 (.pair I64 (.pair (Xa KCn) kF))))],[⟨12,0,(qS [uaa 5,uaa 8,uaa 13,Uaa 38 23,yaa 39,yaa 40] [(12,Xaa),(18,yac),(23,zab),(28,[shU I64,shU I64,shU (Xa (.pair I64 (.pair I64 (.pair bH ca))))])]),[(.ret,qS [uaa 8,yaa 9] [(18,yac)]),(.exit 0,(qS [uaa 5,uaa 8,uaa 13,Uaa 38 23,yaa 39,yaa 40,zaa 41] [(12,Xaa),(18,yac),(23,zab),(28,[shU I64,shU I64,shU (Xa (.pair I64 (.pair I64 (.pair bH ca))))])]))]⟩]⟩
def mB:Ctr:=⟨15,26,[.agg Xaa,.agg Xaa,shU I64,shU I64],[],[⟨[shU I64,shU I64,shU (Xa (.pair I64 (.pair I64 (.pair bH ca)))),shU I64],[.agg 3,.one],[]⟩],ap6 ek⟩
theorem qB:Lvl E0 TT libBj 8 mB:=bk (n:=7) (C:=yA) rfl (.intro (si.mono (by decide)) (.intro (qA.mono (by decide)) (.intro (Ah.mono (by decide)) (.intro)))) (bm (by kernel_rfl)) (λh=>by kernel_rfl)
def iv(a0:Int)(a1:Int):Option (Int×Unit):=
bif(a0==(-1))then(some (1,()))else
some (0,())
def yy:X.Cfg:=⟨E0,[],[],[]⟩
def qQ:Ctr:=⟨71,27,[.agg Xab],[],[⟨Uab,[.one],[]⟩],ap2 iv⟩
theorem yg:Lvl E0 TT libBj 1 qQ:=bk (n:=0) (C:=yy) rfl (.intro) (bm (by kernel_rfl)) (λh=>by kernel_rfl)
def dG(a0:Int):Option (Bool×Unit):=
some ((a0 != a0),())
def mj:X.Cfg:=⟨E0,[],[],[]⟩
def iC:Ctr:=⟨80,28,Uab,[],[⟨uab,[.one],[]⟩],ap1 dG⟩
theorem mg:Lvl E0 TT libBj 1 iC:=bk (n:=0) (C:=mj) rfl (.intro) (bm (by kernel_rfl)) (λh=>by kernel_rfl)
def bW(a0:Int)(a1:Int):Option (Int×Unit):=
(dG a0).bind λ(x0,_)=>
(dG a1).bind λ(x1,_)=>
bif x0 then(bif x1 then(some (0,()))else
some ((-1),()))else
bif x1 then(some (1,()))else
bif(decide (a0<a1))then(some ((-1),()))else
bif(decide (a0>a1))then(some (1,()))else
some (0,())
def jV:X.Cfg:=⟨E0,[iC],[],[]⟩
def fR:Ctr:=⟨70,29,Xab,[],[⟨Uab,[.one],[]⟩],ap2 bW⟩
theorem jS:Lvl E0 TT libBj 2 fR:=bk (n:=1) (C:=jV) rfl (.intro (mg.mono (by decide)) (.intro)) (bm (by kernel_rfl)) (λh=>by kernel_rfl)
def cY:Int×T07->Option ((Int×T07)⊕((Int×Unit)⊕(Int×T0b))):=λ(v0,v1,v2,v3,_)=>
bif(decide (v3<v2))then((dO v3).bind λx0=>
(cn v1 x0).bind λx1=>
bif(x1 != v0)then(some (.inr (.inl (x1,()))))else
let x2:=w64 (v3+1);
some (.inl (v0,v1,v2,x2,())))else
some (.inr (.inr (v0,v1,v2,v3,false,())))
def gu(a0:List (Int)):Option (Int×Unit):=
let x0:=bn a0.length;
(match bu cY NN (0,a0,x0,0,())with
|none=>none
|some (.inl (x1,_))=>
some (x1,())
|some (.inr (x1,_))=>
some (x1,()))
def sw:X.Cfg:=⟨E0,[],[],[⟨4,0,qS [yaa 3,sP 6 RI,yaa 7,yaa 8] [],[(.ret,qS [yaa 2] []),(.exit 0,qS [yaa 3,sP 6 RI,yaa 7,yaa 8,zaa 9] [])]⟩]⟩
def mC:Ctr:=⟨69,30,uL [RI],[],[⟨Uab,[.one],[]⟩],ap1 gu⟩
theorem sk:Lvl E0 TT libBj 1 mC:=bk (n:=0) (C:=sw) rfl (.intro) (bm (by kernel_rfl)) (λh=>by kernel_rfl)
def iR(a0:Int)(a1:Int)(a2:Int)(a3:Int):Option (Int×Unit):=
(iv a0 a1).bind λ(x0,_)=>
(iv a2 a3).bind λ(x1,_)=>
(bW x0 x1).bind λ(x2,_)=>
(bW a0 a2).bind λ(x3,_)=>
(bW a1 a3).bind λ(x4,_)=>
let x5:List (Int):=[x2,x3,x4];
(gu x5).bind λ(x6,_)=>
some (x6,())
def wz:X.Cfg:=⟨E0,[qQ,fR,mC],[],[]⟩
def pC:Ctr:=⟨50,31,[.agg Xab,.agg Xab],[],[⟨Uab,[.one],[]⟩],ap4 iR⟩
theorem vT:Lvl E0 TT libBj 3 pC:=bk (n:=2) (C:=wz) rfl (.intro (yg.mono (by decide)) (.intro (jS.mono (by decide)) (.intro (sk.mono (by decide)) (.intro)))) (bm (by kernel_rfl)) (λh=>by kernel_rfl)
def cr:T0K->Option (T0K⊕((Int×Unit)⊕T0M)):=λ(v0,v1,v2,v3,_)=>
let x0:=bn v3.length;
bif(decide (v0<x0))then(let x1:Int:=(w64 (v0-1));
(dO x1).bind λx2=>
(cn v3 x2).bind λx3=>
(dO v0).bind λx4=>
(cn v3 x4).bind λx5=>
(iR x3.1 x3.2.1 x5.1 x5.2.1).bind λ(x6,_)=>
bif(decide (x6>=0))then(some (.inr (.inl (5,()))))else
let x7:=w64 (v0+1);
some (.inl (x7,v1,v2,v3,())))else
some (.inr (.inr (v0,false,v1,v2,v3,())))
def cO(a0:Int)(a1:Int)(a2:List (Int×Int×LDCn×Int×Int×Int×Int×Int×Int×Int×LDCn)):Option (Int×Unit):=
(fi a0 a1).bind λ(x0,_)=>
bif(x0 != 0)then(some (x0,()))else
(match bu cr NN (1,a0,a1,a2,())with
|none=>none
|some (.inl (x1,_))=>
some (x1,())
|some (.inr (x1,_))=>
some (0,()))
def wA:X.Cfg:=⟨E0,[mA,pC],[],[⟨7,0,(qS [uaa 1,yaa 4] [(4,[shU I64,shU I64,shU (Xb (.pair I64 (.pair I64 (.pair bH ca))))])]),[(.ret,qS [yaa 2] []),(.exit 0,(qS [uaa 1,yaa 4,zaa 17] [(4,[shU I64,shU I64,shU (Xb (.pair I64 (.pair I64 (.pair bH ca))))])]))]⟩]⟩
def lf:Ctr:=⟨28,32,[.agg [shU I64,shU I64,shU (Xb (.pair I64 (.pair I64 (.pair bH ca))))]],[],[⟨Uab,[.one],[]⟩],ap3 cO⟩
theorem oP:Lvl E0 TT libBj 4 lf:=bk (n:=3) (C:=wA) rfl (.intro (qA.mono (by decide)) (.intro (vT.mono (by decide)) (.intro))) (bm (by kernel_rfl)) (λh=>by kernel_rfl)
def dB(a0:List LDCn):Option (LLCn×Unit):=
bif(cb 24 0 a0.length)then let x0:List LDCn:=(List.append [] a0);
some (x0,())else none
def lM:X.Cfg:=⟨E0,[],[(5,(Xa KCn)),(7,(Xa KCn))],[]⟩
def gP:Ctr:=⟨57,33,uL [(Xb bH)],[],[⟨uL [(Xa bH)],[.one],[]⟩],ap1 dB⟩
theorem lJ:Lvl E0 TT libBj 1 gP:=bk (n:=0) (C:=lM) rfl (.intro) (bm (by kernel_rfl)) (λh=>by kernel_rfl)
def en(a0:LDTs):Option (LDTs×Unit):=
bif(cb 80 0 a0.length)then let x0:LDTs:=(List.append [] a0);
some (x0,())else none
def n5:X.Cfg:=⟨E0,[],[(5,kF),(7,kF)],[]⟩
def jo:Ctr:=⟨58,34,uL [(Xb ca)],[],[⟨uL [(Xa ca)],[.one],[]⟩],ap1 en⟩
theorem nX:Lvl E0 TT libBj 1 jo:=bk (n:=0) (C:=n5) rfl (.intro) (bm (by kernel_rfl)) (λh=>by kernel_rfl)
def d7:T0m->Option (T0m⊕T0r):=λ(v0,v1,v2,v3)=>
bif(decide (v1<v0))then((dO v1).bind λx0=>
(cn v2 x0).bind λx1=>
(cn v2 x0).bind λx2=>
(cC x2).bind λ(x3,_)=>
(dO v1).bind λx4=>
(cn v2 x4).bind λx5=>
(cn v2 x4).bind λx6=>
let x7:=List.modify v2 x4 λe=>x3;
let x8:=w64 (v1+1);
some (.inl (v0,x8,x7,v3)))else
some (.inr (v0,v1,false,v2,v3))
def d6:T0m->Option (T0m⊕T0r):=λ(v0,v1,v2,v3,v4)=>
bif(decide (v1<v0))then((dO v1).bind λx0=>
(cn v3 x0).bind λx1=>
(cn v3 x0).bind λx2=>
(gt x2.1 x2.2.1 x2.2.2.1 x2.2.2.2.1 x2.2.2.2.2.1 x2.2.2.2.2.2.1 x2.2.2.2.2.2.2.1 x2.2.2.2.2.2.2.2).bind λ(x3,x4,x5,x6,x7,x8,x9,ac,_)=>
(dO v1).bind λae=>
(cn v3 ae).bind λaf=>
(cn v3 ae).bind λah=>
let aj:=(List.modify v3 ae λe=>(x3,(x4,(x5,(x6,(x7,(x8,(x9,ac))))))));
let ak:=w64 (v1+1);
some (.inl (v0,ak,v2,aj,v4)))else
some (.inr (v0,v1,false,v2,v3,v4))
def ib(a0:List LDCn)(a1:LDTs):Option (T03):=
(dB a0).bind λ(x0,_)=>
(en a1).bind λ(x1,_)=>
let x2:=bn x0.length;
(bu d7 NN (x2,0,x0,x1,(),(),())).bind λ(x3,x4,x5,x6,x7,x8)=>
let ac:=bn x7.length;
(bu d6 NN (ac,0,x6,x7,x8)).bind λ(ae,af,ah,aj,ak,_)=>
some (aj,ak,())
def ui:X.Cfg:=⟨E0,[gP,jo,dU,li],[],[(lx 4 0 [uaa 1,uaa 2,Uaa 16 4,yaa 17,yaa 18] [(4,yad),(6,yab)] 19),⟨11,1,(qS [uaa 1,uaa 2,(31,.pk ⟨4,1,[]⟩ [0,0]),yaa 32,yaa 33] [(4,yad),(6,yab)]),[(.exit 2,(qS [uaa 1,uaa 2,(31,.pk ⟨4,1,[]⟩ [0,0]),yaa 32,yaa 33,zaa 34] [(4,yad),(6,yab)]))]⟩]⟩
def nK:Ctr:=⟨33,35,[.agg Xaa],[],[⟨yad,[.agg 2],[]⟩],ap2 ib⟩
theorem tW:Lvl E0 TT libBj 3 nK:=bk (n:=2) (C:=ui) rfl (.intro (lJ.mono (by decide)) (.intro (nX.mono (by decide)) (.intro (fG.mono (by decide)) (.intro (oS.mono (by decide)) (.intro))))) (bm (by kernel_rfl)) (λh=>by kernel_rfl)
def tj:Ctr:=⟨34,36,[.agg Xaa,.agg uac],[],[⟨Xad,[.agg 2,.one],[]⟩],ap13 dg⟩
theorem Ag:Lvl E0 TT libBj 1 tj:=(vG (Jk rfl) tM).mono (by decide)
def bU:T16->Option (T16⊕((Int×T04)⊕((List (Int×Int×LDCn×Int×Int×Int×Int×Int×Int×Int×LDCn))×Int×Int×Bool×T0Q))):=λ(v0,v1,v2,v3,v4,v5,v6,v7,v8,v9,_)=>
bif(decide (v2<v1))then((dO v2).bind λx0=>
(cn v0 x0).bind λx1=>
(dg v8 v9 x1.1 x1.2.1 x1.2.2.1 x1.2.2.2.1 x1.2.2.2.2.1 x1.2.2.2.2.2.1 x1.2.2.2.2.2.2.1 x1.2.2.2.2.2.2.2.1 x1.2.2.2.2.2.2.2.2.1 x1.2.2.2.2.2.2.2.2.2.1 x1.2.2.2.2.2.2.2.2.2.2).bind λ(x2,x3,x4,_)=>
bif(x4 != 0)then(some (.inr (.inl (x4,(),(),()))))else
let x5:=w64 (v2+1);
some (.inl (v0,v1,x5,v3,v4,v5,v6,v7,x2,x3,())))else
some (.inr (.inr (v0,v1,v2,false,v3,v4,v5,v6,v7,v8,v9,())))
def fB(a0:List LDCn)(a1:LDTs)(a2:Int)(a3:Int)(a4:Int)(a5:List (Int×Int×LDCn×Int×Int×Int×Int×Int×Int×Int×LDCn)):Option (LLCn×LDTs×Int×Unit):=
(cO a3 a4 a5).bind λ(x0,_)=>
bif(x0 != 0)then(some ([],[],x0,()))else
bif(a2 != a3)then(some ([],[],35,()))else
(ib a0 a1).bind λ(x1,x2,_)=>
let x3:=bn a5.length;
(match bu bU NN (a5,x3,0,a3,a4,a5,(),(),x1,x2,())with
|none=>none
|some (.inl (x4,x5,x6,_))=>
some ([],[],x4,())
|some (.inr (x4,x5,x6,x7,x8,x9,ac,ae,af,ah,aj,_))=>
some (ah,aj,0,()))
def wB:X.Cfg:=⟨E0,[lf,nK,tj],[],[⟨11,0,(qS [uaa 6,uaa 9,(28,shU (Xb (.pair I64 (.pair I64 (.pair bH ca))))),yaa 29,yaa 30] [(12,[shU I64,shU I64,shU (Xb (.pair I64 (.pair I64 (.pair bH ca))))]),(14,yab),(20,Xaa)]),[(.ret,qS [uaa 6,yaa 7] [(14,yab)]),(.exit 0,(qS [uaa 6,uaa 9,(28,shU (Xb (.pair I64 (.pair I64 (.pair bH ca))))),yaa 29,yaa 30,zaa 31] [(12,[shU I64,shU I64,shU (Xb (.pair I64 (.pair I64 (.pair bH ca))))]),(14,yab),(20,Xaa)]))]⟩]⟩
def lh:Ctr:=⟨16,37,[.agg Xaa,shU I64,.agg [shU I64,shU I64,shU (Xb (.pair I64 (.pair I64 (.pair bH ca))))]],[],[⟨Xad,[.agg 2,.one],[]⟩],ap6 fB⟩
theorem oQ:Lvl E0 TT libBj 5 lh:=bk (n:=4) (C:=wB) rfl (.intro (oP.mono (by decide)) (.intro (tW.mono (by decide)) (.intro (Ag.mono (by decide)) (.intro)))) (bm (by kernel_rfl)) (λh=>by kernel_rfl)
def dm:LDCn×LDCn×Int×Unit->Option ((LDCn×LDCn×Int×Unit)⊕((Bool×Unit)⊕(LDCn×LDCn×T00))):=λ(v0,v1,v2,_)=>
let x0:=bn v0.length;
bif(decide (v2<x0))then((dO v2).bind λx1=>
(cn v0 x1).bind λx2=>
(dO v2).bind λx3=>
(cn v1 x3).bind λx4=>
let x5:Bool:=(!((x2.1==x4.1)&&((x2.2.1==x4.2.1)&&((x2.2.2.1==x4.2.2.1)&&((x2.2.2.2==x4.2.2.2)&&true)))));
bif x5 then(some (.inr (.inl (false,()))))else
let x6:=w64 (v2+1);
some (.inl (v0,v1,x6,())))else
some (.inr (.inr (v0,v1,v2,false,())))
def dt(a0:LDCn)(a1:LDCn):Option (Bool×Unit):=
let x0:=bn a0.length;
let x1:=bn a1.length;
bif(x0 != x1)then(some (false,()))else
(match bu dm NN (a0,a1,0,())with
|none=>none
|some (.inl (x2,_))=>
some (x2,())
|some (.inr (x2,_))=>
some (true,()))
def qd:X.Cfg:=⟨E0,[],[],[⟨6,0,qS [sP 0 bH,sP 1 bH,yaa 5] [],[(.ret,qS [zaa 4] []),(.exit 0,qS [sP 0 bH,sP 1 bH,yaa 5,zaa 14] [])]⟩]⟩
def fC:Ctr:=⟨35,38,uL [bH,bH],[],[⟨uab,[.one],[]⟩],ap2 dt⟩
theorem gZ:Lvl E0 TT libBj 1 fC:=bk (n:=0) (C:=qd) rfl (.intro) (bm (by kernel_rfl)) (λh=>by kernel_rfl)
def eG(a0:Int)(a1:Int)(a2:Int)(a3:Int)(a4:Int)(a5:Int)(a6:Int)(a7:LDCn)(a8:Int)(a9:Int)(a10:Int)(a11:Int)(a12:Int)(a13:Int)(a14:Int)(a15:LDCn):Option (Bool×Unit):=
bif(a0==a8)then(bif(a1==a9)then(bif(a2==a10)then(bif(a3==a11)then(bif(a4==a12)then(bif(a5==a13)then(bif(a6==a14)then((dt a7 a15).bind λ(x0,_)=>
some (x0,()))else
some (false,()))else
some (false,()))else
some (false,()))else
some (false,()))else
some (false,()))else
some (false,()))else
some (false,())
def rd:X.Cfg:=⟨E0,[fC],[],[]⟩
def iH:Ctr:=⟨36,39,[.agg zac,.agg zac],[],[⟨uab,[.one],[]⟩],ap16 eG⟩
theorem lA:Lvl E0 TT libBj 2 iH:=bk (n:=1) (C:=rd) rfl (.intro (gZ.mono (by decide)) (.intro)) (bm (by kernel_rfl)) (λh=>by kernel_rfl)
def ff:T0k->Option (T0k⊕((Bool×Unit)⊕(Int×T0i))):=λ(v0,v1,v2,v3,v4,_)=>
let x0:=bn v1.length;
bif(decide (v0<x0))then((dO v0).bind λx1=>
(cn v1 x1).bind λx2=>
(dO v0).bind λx3=>
(cn v3 x3).bind λx4=>
(dt x2 x4).bind λ(x5,_)=>
bif(!x5)then(some (.inr (.inl (false,()))))else
let x6:=w64 (v0+1);
some (.inl (x6,v1,v2,v3,v4,())))else
some (.inr (.inr (v0,false,v1,v2,v3,v4,())))
def fc:T0k->Option (T0k⊕((Bool×Unit)⊕(Int×T0i))):=λ(v0,v1,v2,v3,v4,_)=>
let x0:=bn v2.length;
bif(decide (v0<x0))then((dO v0).bind λx1=>
(cn v2 x1).bind λx2=>
(dO v0).bind λx3=>
(cn v4 x3).bind λx4=>
(eG x2.1 x2.2.1 x2.2.2.1 x2.2.2.2.1 x2.2.2.2.2.1 x2.2.2.2.2.2.1 x2.2.2.2.2.2.2.1 x2.2.2.2.2.2.2.2 x4.1 x4.2.1 x4.2.2.1 x4.2.2.2.1 x4.2.2.2.2.1 x4.2.2.2.2.2.1 x4.2.2.2.2.2.2.1 x4.2.2.2.2.2.2.2).bind λ(x5,_)=>
bif(!x5)then(some (.inr (.inl (false,()))))else
let x6:=w64 (v0+1);
some (.inl (x6,v1,v2,v3,v4,())))else
some (.inr (.inr (v0,false,v1,v2,v3,v4,())))
def iu(a0:List LDCn)(a1:LDTs)(a2:List LDCn)(a3:LDTs):Option (Bool×Unit):=
let x0:=bn a0.length;
let x1:=bn a2.length;
bif(x0 != x1)then(some (false,()))else
let x2:=bn a1.length;
let x3:=bn a3.length;
bif(x2 != x3)then(some (false,()))else
(match bu ff NN (0,a0,a1,a2,a3,())with
|none=>none
|some (.inl (x4,_))=>
some (x4,())
|some (.inr (x4,x5,x6))=>
(match bu fc NN (0,x6)with
|none=>none
|some (.inl (ac,_))=>
some (ac,())
|some (.inr (ac,_))=>
some (true,())))
def yq:X.Cfg:=⟨E0,[fC,iH],[],[⟨6,0,qS [uaa 2,uaa 3,yaa 5] [(6,Xaa),(8,Xaa)],[(.ret,qS [zaa 4] []),(.exit 0,qS [uaa 2,uaa 3,yaa 5,zaa 27] [(6,Xaa),(8,Xaa)])]⟩,⟨14,1,qS [uaa 2,uaa 3,yaa 6] [(6,Xaa),(8,Xaa)],[(.ret,qS [zaa 4] []),(.exit 2,qS [uaa 2,uaa 3,yaa 6,zaa 46] [(6,Xaa),(8,Xaa)])]⟩]⟩
def mw:Ctr:=⟨17,40,[.agg Xaa,.agg Xaa],[],[⟨uab,[.one],[]⟩],ap4 iu⟩
theorem qy:Lvl E0 TT libBj 3 mw:=bk (n:=2) (C:=yq) rfl (.intro (gZ.mono (by decide)) (.intro (lA.mono (by decide)) (.intro))) (bm (by kernel_rfl)) (λh=>by kernel_rfl)
def eA:Option (Bool×Unit):=
bif(It 9 9 4)then let x0:LDCn:=(List.replicate 9 (0,(0,(0,0))));
(dq [x0] []).bind λ(x1,x2,_)=>
(cn x1 0).bind λx3=>
(cn x1 0).bind λx4=>
(cn x1 0).bind λx5=>
(cn x5 8).bind λx6=>
(cn x1 0).bind λx7=>
(cn x7 8).bind λx8=>
let x9:=(List.modify x1 0 λe=>(List.modify e 8 λe=>(e.1,(3,e.2.2))));
(ek [x0] [] x9 x2 2 5).bind λ(ac,ae,af,ah,_)=>
(fB [x0] [] 2 ac ae af).bind λ(aj,ak,am,_)=>
(fB [x0] [] 3 ac ae af).bind λ(an,ap,aq,_)=>
bif(ah==0)then(bif(am==0)then(bif(aq==35)then(let au:Int:=(bn af.length);
bif(au==1)then((iu aj ak x9 x2).bind λ(av,_)=>
some (av,()))else
some (false,()))else
some (false,()))else
some (false,()))else
some (false,())else none
def wv:X.Cfg:=⟨E0,[gh,mB,lh,mw],[(10,(Xa KCn))],[]⟩
def pA:Ctr:=⟨5,41,[],[],[⟨uab,[.one],[]⟩],λh=>eA⟩
theorem vQ:Lvl E0 TT libBj 9 pA:=bk (n:=8) (C:=wv) rfl (.intro (iz.mono (by decide)) (.intro (qB.mono (by decide)) (.intro (oQ.mono (by decide)) (.intro (qy.mono (by decide)) (.intro))))) (bm (by kernel_rfl)) (λh=>by kernel_rfl)
def nQ(a0:Int)(a1:Int):Option (Int×Unit):=
bif(a1 != 0)then let x0:Int:=(Int.tmod a0 a1);
(bif(decide (x0<0))then(let x1:Int:=(w64 (x0+a1));
some (x1,()))else
some (x0,()):Option (Int×Unit)).bind λ(x1,_)=>
some (x1,())else none
def Au:X.Cfg:=⟨E0,[],[],[⟨2,0,qE,[(.normal,qS [yaa 5] [])]⟩]⟩
def th:Ctr:=⟨23,42,Xab,[],[⟨Uab,[.one],[]⟩],ap2 nQ⟩
theorem Af:Lvl E0 TT libBj 1 th:=bk (n:=0) (C:=Au) rfl (.intro) (bm (by kernel_rfl)) (λh=>by kernel_rfl)
def ol(a0:Int)(a1:Int):Option (Int×Unit):=
(nQ a0 a1).bind λ(x0,_)=>
some (x0,())
def IC:X.Cfg:=⟨E0,[th],[],[]⟩
def wW:Ctr:=⟨11,43,Xab,[],[⟨Uab,[.one],[]⟩],ap2 ol⟩
theorem BZ:Lvl E0 TT libBj 2 wW:=bk (n:=1) (C:=IC) rfl (.intro (Af.mono (by decide)) (.intro)) (bm (by kernel_rfl)) (λh=>by kernel_rfl)
def bq(a0:Int)(a1:List (Int))(a2:Int):Option (Int×T02):=
let x0:=bn a1.length;
bif(decide (a2>=x0))then(some (0,a1,a2,()))else
let x1:=w64 (a2+1);
let x2:=w64 (x1-1);
(dO x2).bind λx3=>
(cn a1 x3).bind λx4=>
(ol x4 a0).bind λ(x5,_)=>
some (x5,a1,x1,())
def AA:X.Cfg:=⟨E0,[wW],[],[]⟩
def f9:Ctr:=⟨9,44,[.ptr ⟨2,0,[]⟩ [0],shU I64],[(2,Zaa)],[⟨Uab,[.one],[(2,Zaa)]⟩],ap3 bq⟩
theorem g8:Lvl E0 TT libBj 3 f9:=bk (n:=2) (C:=AA) rfl (.intro (BZ.mono (by decide)) (.intro)) (bm (by kernel_rfl)) (λh=>by kernel_rfl)
def fa(a0:List (Int))(a1:Int):Option (Int×Int×Int×Int×T02):=
(bq 5 a0 a1).bind λ(x0,x1,x2,_)=>
bif(x0==4)then((bq 3 x1 x2).bind λ(x3,x4,x5,_)=>
(bq 8 x4 x5).bind λ(x6,x7)=>
some (1,0,x3,x6,x7))else
(bq 40 x1 x2).bind λ(x3,x4,x5,_)=>
let x6:=wk .u16 x3;
some (0,x6,0,0,x4,x5,())
def yk:X.Cfg:=⟨E0,[f9],[],[]⟩
def jH:Ctr:=⟨18,45,[.ptr ⟨2,0,[]⟩ [0]],[(2,Zaa)],[⟨uL [CB,CW,I64,I64],[.agg 4],[(2,Zaa)]⟩],ap2 fa⟩
theorem me:Lvl E0 TT libBj 4 jH:=bk (n:=3) (C:=yk) rfl (.intro (g8.mono (by decide)) (.intro)) (bm (by kernel_rfl)) (λh=>by kernel_rfl)
def dX:T0U->Option (T0U⊕(Int×Bool×T0T)):=λ(v0,v1,v2,v3,v4,v5,v6,v7,v8,v9,v10,v11,v12,v13,v14,v15,v16,v17,v18,_)=>
bif(decide (v0<8))then((fa v1 v2).bind λ(x0,x1,x2,x3,x4,x5,_)=>
let x6:LDCn:=[(x0,(x1,(x2,x3)))];
bif(cb 24 v18.length x6.length)then let x7:LDCn:=(List.append v18 x6);
let x8:=w64 (v0+1);
some (.inl (x8,x4,x5,v3,v4,v5,v6,v7,v8,v9,v10,v11,v12,v13,v14,v15,v16,v17,x7,()))else none)else
some (.inr (v0,false,v1,v2,v3,v4,v5,v6,v7,v8,v9,v10,v11,v12,v13,v14,v15,v16,v17,v18,()))
def iq(a0:List (Int))(a1:Int):Option (Int×Int×Int×Int×Int×Int×Int×LDCn×T02):=
(bq 5 a0 a1).bind λ(x0,x1,x2,_)=>
(bq 20 x1 x2).bind λ(x3,x4,x5,_)=>
(bq 30 x4 x5).bind λ(x6,x7,x8,_)=>
(bq 4 x7 x8).bind λ(x9,ac,ae,_)=>
let af:=w64 (x9-1);
(bq 4 ac ae).bind λ(ah,aj,ak,_)=>
let am:=w64 (ah-1);
(bq 7 aj ak).bind λ(an,ap,aq,_)=>
(bq 9 ap aq).bind λ(au,av,aw,_)=>
let ax:=wk .u16 au;
(bu dX NN (0,av,aw,0,0,0,0,0,0,0,(),x0,x3,x6,af,am,an,ax,[],())).bind λ(ay,az,aA,aB,aD,aE,aF,aG,aH,aI,aJ,aK,aL,aM,aO,aP,aQ,aR,aS,aT,_)=>
some (aL,aM,aO,aP,aQ,aR,aS,aT,aA,aB,())
def yl:X.Cfg:=⟨E0,[f9,jH],[],[(lx 4 0 [uaa 0,uaa 2,uaa 3,yaa 4] [(2,Zaa),(6,uL [I64,I64,I64,I64,I64,I64,CW,N1]),(8,Uac)] 24)]⟩
def ms:Ctr:=⟨19,46,[.ptr ⟨2,0,[]⟩ [0]],[(2,Zaa)],[⟨Uac,[.agg 8],[(2,Zaa)]⟩],ap2 iq⟩
theorem qw:Lvl E0 TT libBj 5 ms:=bk (n:=4) (C:=yl) rfl (.intro (g8.mono (by decide)) (.intro (me.mono (by decide)) (.intro))) (bm (by kernel_rfl)) (λh=>by kernel_rfl)
def fV:T0C->Option (T0C⊕(Int×Int×Bool×T0w)):=λ(v0,v1,v2,v3,v4,v5,v6,v7,v8,_)=>
bif(decide (v1>=0))then((fa v2 v3).bind λ(x0,x1,x2,x3,x4,x5,_)=>
let x6:LDCn:=[(x0,(x1,(x2,x3)))];
bif(cb 24 v8.length x6.length)then let x7:LDCn:=(List.append v8 x6);
let x8:=w64 (v1-1);
some (.inl (v0,x8,x4,x5,v4,v5,v6,v7,x7,()))else none)else
some (.inr (v0,v1,false,v2,v3,v4,v5,v6,v7,v8,()))
def fU:T0t->Option (T0t⊕(Int×Bool×T0o)):=λ(v0,v1,v2,v3,v4,v5,v6,_)=>
bif(decide (v0>=0))then((bq 24 v1 v2).bind λ(x0,x1,x2,_)=>
(bu fV NN (v0,x0,x1,x2,v3,v4,v5,v6,[],())).bind λ(x3,x4,x5,x6,x7,x8,x9,ac,ae,af,_)=>
bif(cb 24 ac.length (List.length [af]))then let ah:List LDCn:=(List.append ac [af]);
let aj:=w64 (x3-1);
some (.inl (aj,x6,x7,x8,x9,ah,ae,()))else none)else
some (.inr (v0,false,v1,v2,v3,v4,v5,v6,()))
def fT:T0s->Option (T0s⊕T0x):=λ(v0,v1,v2,v3,v4,v5,v6,_)=>
bif(decide (v0>0))then((iq v1 v2).bind λ(x0,x1,x2,x3,x4,x5,x6,x7,x8,x9,_)=>
let ac:LDTs:=[(x0,(x1,(x2,(x3,(x4,(x5,(x6,x7)))))))];
bif(cb 80 v6.length ac.length)then let ae:LDTs:=(List.append v6 ac);
let af:=w64 (v0-1);
some (.inl (af,x8,x9,v3,v4,v5,ae,()))else none)else
some (.inr (v0,false,v1,v2,v3,v4,v5,v6,()))
def iN(a0:List (Int))(a1:Int):Option (T0d):=
(bq 3 a0 a1).bind λ(x0,x1,x2,_)=>
(bu fU NN (x0,x1,x2,(),(),[],(),())).bind λ(x3,x4,x5,x6,x7,x8,x9,ac,_)=>
(bq 4 x5 x6).bind λ(ae,af,ah,_)=>
(bu fT NN (ae,af,ah,x7,x8,x9,[],())).bind λ(aj,ak,am,an,ap,aq,au,av,_)=>
some (au,av,am,an,())
def we:X.Cfg:=⟨E0,[f9,jH,ms],[(28,(Xa KCn)),(29,(Xa KCn)),(41,kF),(42,kF)],[⟨11,0,qS [uaa 0,uaa 2,uaa 3,yaa 4,Uaa 5 13,yaa 6] [(2,Zaa),(6,yab),(8,Xac),(13,zad)],[(.exit 2,qS [uaa 0,uaa 2,uaa 3,yaa 4,Uaa 5 13,yaa 6,zaa 17] [(2,Zaa),(6,yab),(8,Xac),(13,zad)])]⟩,(lx 4 1 [uaa 0,uaa 2,uaa 3,yaa 4] [(2,Zaa),(6,yab),(8,Xac)] 11),⟨17,2,qS [uaa 0,uaa 2,uaa 3,yaa 7] [(2,Zaa),(6,yab),(8,Zab)],[(.exit 4,qS [uaa 0,uaa 2,uaa 3,yaa 7,zaa 34] [(2,Zaa),(6,yab),(8,Zab)])]⟩]⟩
def po:Ctr:=⟨7,47,[.ptr ⟨2,0,[]⟩ [0]],[(2,Zaa)],[⟨Zab,[.agg 2],[(2,Zaa)]⟩],ap2 iN⟩
theorem vL:Lvl E0 TT libBj 6 po:=bk (n:=5) (C:=we) rfl (.intro (g8.mono (by decide)) (.intro (me.mono (by decide)) (.intro (qw.mono (by decide)) (.intro)))) (bm (by kernel_rfl)) (λh=>by kernel_rfl)
def i9:T0A->Option (T0A⊕T0B):=λ(v0,v1,v2,v3,v4,v5,v6,v7,_)=>
bif(decide (v1<v0))then(((match(let x0:Int:=(bn v7.length);
bif(decide (x0>0))then((bq 3 v2 v3).bind λ(x1,x2,x3,_)=>
bif(x1==2)then(let x4:Int:=(bn v7.length);
(bq x4 x2 x3).bind λ(x5,x6,x7,_)=>
(iq x6 x7).bind λ(x8,x9,ac,ae,af,ah,aj,ak,am,an,_)=>
(dO x5).bind λap=>
(cn v7 ap).bind λaq=>
(cn v7 ap).bind λau=>
let av:=(List.modify v7 ap λe=>(x8,(x9,(ac,(ae,(af,(ah,(aj,ak))))))));
some (.inl (v0,v1,am,an,v4,v5,v6,av,())))else
some (.inr (v0,v1,false,x2,x3,v4,v5,v6,v7,())))else
some (.inr (v0,v1,false,v2,v3,v4,v5,v6,v7,())):Option (T0A⊕T0B))with
|none=>none
|some (.inl (x0,x1,x2,x3,x4,x5,x6,x7,_))=>
some (x0,x1,x2,x3,x4,x5,x6,x7,())
|some (.inr (x0,x1,x2,x3,x4,x5,x6,x7,x8,_))=>
let x9:=bn x7.length;
(bq x9 x3 x4).bind λ(ac,ae,af,_)=>
(dO ac).bind λah=>
(cn x7 ah).bind λaj=>
(cn x7 ah).bind λak=>
(dO ac).bind λam=>
(cn x7 am).bind λan=>
(cn x7 am).bind λap=>
(cn x7 am).bind λaq=>
let au:=bn aq.length;
(bq au ae af).bind λ(av,aw,ax,_)=>
(fa aw ax).bind λ(ay,az,aA,aB,aD,aE,_)=>
(dO av).bind λaF=>
(cn x7 ah).bind λaG=>
(cn aG aF).bind λaH=>
(cn x7 ah).bind λaI=>
(cn aI aF).bind λaJ=>
let aK:=(List.modify x7 ah λe=>(List.modify e aF λe=>(ay,(az,(aA,aB)))));
some (x0,x1,aD,aE,x5,x6,aK,x8,())):Option (T0A)).bind λ(x0,x1,x2,x3,x4,x5,x6,x7,_)=>
let x8:=w64 (x1+1);
some (.inl (x0,x8,x2,x3,x4,x5,x6,x7,())))else
some (.inr (v0,v1,false,v2,v3,v4,v5,v6,v7,()))
def ir(a0:List LDCn)(a1:LDTs)(a2:Int)(a3:List (Int))(a4:Int):Option (T0d):=
(dq a0 a1).bind λ(x0,x1,_)=>
(bu i9 NN (a2,0,a3,a4,(),(),x0,x1,())).bind λ(x2,x3,x4,x5,x6,x7,x8,x9,ac,_)=>
some (x9,ac,x5,x6,())
def ym:X.Cfg:=⟨E0,[gh,f9,ms,jH],[],[⟨8,0,qE,[(.exit 1,qS [uaa 0,yaa 2,uaa 6,uaa 7,yaa 8] [(2,Zaa),(14,yab),(16,Zab)]),(.normal,qS [uaa 0,yaa 2,uaa 6,uaa 7,yaa 8,zaa 25] [(2,Zaa),(14,yab),(16,Zab)])]⟩,⟨7,1,qE,[(.normal,qS [uaa 0,yaa 2,uaa 6,uaa 7,yaa 8] [(2,Zaa),(14,yab),(16,Zab)])]⟩,(lx 4 2 [uaa 0,yaa 2,uaa 6,uaa 7,yaa 8] [(2,Zaa),(14,yab),(16,Zab)] 14)]⟩
def qI:Ctr:=⟨8,48,[.ptr ⟨2,0,[]⟩ [0],.agg Xaa,shU I64],[(2,Zaa)],[⟨Zab,[.agg 2],[(2,Zaa)]⟩],ap5 ir⟩
theorem xX:Lvl E0 TT libBj 6 qI:=bk (n:=5) (C:=ym) rfl (.intro (iz.mono (by decide)) (.intro (g8.mono (by decide)) (.intro (qw.mono (by decide)) (.intro (me.mono (by decide)) (.intro))))) (bm (by kernel_rfl)) (λh=>by kernel_rfl)
def de:T0a->Option (T0a⊕(Int×Bool×T08)):=λ(v0,v1,v2,v3,_)=>
let x0:=bn v1.length;
bif(decide (v0<x0))then((dO v0).bind λx1=>
(cn v1 x1).bind λx2=>
let x3:=bn x2.length;
bif(cb 8 v3.length (List.length [x3]))then let x4:List (Int):=(List.append v3 [x3]);
let x5:=w64 (v0+1);
some (.inl (x5,v1,v2,x4,()))else none)else
some (.inr (v0,false,v1,v2,v3,()))
def eu(a0:List LDCn)(a1:LDTs):Option (LI×Unit):=
(bu de NN (0,a0,a1,[],())).bind λ(x0,x1,x2,x3,x4,_)=>
some (x4,())
def wm:X.Cfg:=⟨E0,[],[],[(lx 4 0 [uaa 1,Uaa 3 9,yaa 4] [(4,Xaa),(9,Zac)] 9)]⟩
def iW:Ctr:=⟨39,49,[.agg Xaa],[],[⟨Zac,[.one],[]⟩],ap2 eu⟩
theorem kW:Lvl E0 TT libBj 1 iW:=bk (n:=0) (C:=wm) rfl (.intro) (bm (by kernel_rfl)) (λh=>by kernel_rfl)
def co:T07->Option (T07⊕((Int×Unit)⊕T0b)):=λ(v0,v1,v2,_)=>
let x0:=bn v0.length;
bif(decide (v2<x0))then((dO v2).bind λx1=>
(cn v0 x1).bind λx2=>
bif(decide (x2<1))then(some (.inr (.inl (1,()))))else
(dO v2).bind λx3=>
(cn v0 x3).bind λx4=>
bif(decide (x4>32))then(some (.inr (.inl (1,()))))else
let x5:=w64 (v2+1);
some (.inl (v0,v1,x5,())))else
some (.inr (.inr (v0,v1,v2,false,())))
def gn(a0:List (Int))(a1:Int):Option (Int×Unit):=
let x0:=bn a0.length;
bif(decide (x0>4))then(some (3,()))else
bif(decide (a1>4))then(some (3,()))else
(match bu co NN (a0,a1,0,())with
|none=>none
|some (.inl (x1,_))=>
some (x1,())
|some (.inr (x1,x2,_))=>
bif(decide (x2<0))then(some (1,()))else
some (0,()))
def wl:X.Cfg:=⟨E0,[],[],[⟨6,0,qS [sP 0 RI,yaa 1,yaa 5] [],[(.ret,qS [yaa 4] []),(.exit 0,qS [sP 0 RI,yaa 1,yaa 5,zaa 16] [])]⟩]⟩
def kZ:Ctr:=⟨63,50,Zaa,[],[⟨Uab,[.one],[]⟩],ap2 gn⟩
theorem oL:Lvl E0 TT libBj 1 kZ:=bk (n:=0) (C:=wl) rfl (.intro) (bm (by kernel_rfl)) (λh=>by kernel_rfl)
def eL(a0:List LDCn)(a1:LDTs):Option (Bool×Unit):=
(eu a0 a1).bind λ(x0,_)=>
let x1:=bn a1.length;
(gn x0 x1).bind λ(x2,_)=>
some ((x2==0),())
def uf:X.Cfg:=⟨E0,[iW,kZ],[],[]⟩
def jW:Ctr:=⟨37,51,[.agg Xaa],[],[⟨uab,[.one],[]⟩],ap2 eL⟩
theorem nA:Lvl E0 TT libBj 2 jW:=bk (n:=1) (C:=uf) rfl (.intro (kW.mono (by decide)) (.intro (oL.mono (by decide)) (.intro))) (bm (by kernel_rfl)) (λh=>by kernel_rfl)
def du:LI×T02->Option ((LI×T02)⊕((Bool×Unit)⊕(LI×LI×T00))):=λ(v0,v1,v2,_)=>
let x0:=bn v0.length;
bif(decide (v2<x0))then((dO v2).bind λx1=>
(cn v0 x1).bind λx2=>
(dO v2).bind λx3=>
(cn v1 x3).bind λx4=>
bif(x2 != x4)then(some (.inr (.inl (false,()))))else
let x5:=w64 (v2+1);
some (.inl (v0,v1,x5,())))else
some (.inr (.inr (v0,v1,v2,false,())))
def fW(a0:List (Int))(a1:List (Int)):Option (Bool×Unit):=
let x0:=bn a0.length;
let x1:=bn a1.length;
bif(x0 != x1)then(some (false,()))else
(match bu du NN (a0,a1,0,())with
|none=>none
|some (.inl (x2,_))=>
some (x2,())
|some (.inr (x2,_))=>
some (true,()))
def q9:X.Cfg:=⟨E0,[],[],[⟨6,0,qS [sP 0 RI,sP 1 RI,yaa 5] [],[(.ret,qS [zaa 4] []),(.exit 0,qS [sP 0 RI,sP 1 RI,yaa 5,zaa 14] [])]⟩]⟩
def lC:Ctr:=⟨38,52,uL [RI,RI],[],[⟨uab,[.one],[]⟩],ap2 fW⟩
theorem qY:Lvl E0 TT libBj 1 lC:=bk (n:=0) (C:=q9) rfl (.intro) (bm (by kernel_rfl)) (λh=>by kernel_rfl)
def cU:LI×Int×T06->Option ((LI×Int×T06)⊕(LI×Int×T09)):=λ(v0,v1,v2,v3,v4,_)=>
let x0:=w64 (v3*8);
(dO v2).bind λx1=>
(cn v0 x1).bind λx2=>
bif(decide (x0<x2))then(let x3:LDCe:=[(v2,v3)];
bif(cb 16 v4.length x3.length)then let x4:LDCe:=(List.append v4 x3);
let x5:=w64 (v3+1);
some (.inl (v0,v1,v2,x5,x4,()))else none)else
some (.inr (v0,v1,v2,v3,false,v4,()))
def dw:T0c->Option (T0c⊕T0l):=λ(v0,v1,v2,v3,_)=>
let x0:=bn v0.length;
bif(decide (v2<x0))then((bu cU NN (v0,v1,v2,0,v3,())).bind λ(x1,x2,x3,x4,x5,x6,_)=>
let x7:=w64 (x3+1);
some (.inl (x1,x2,x7,x6,())))else
some (.inr (v0,v1,v2,false,v3,()))
def cT:T06->Option (T06⊕T09):=λ(v0,v1,v2,_)=>
bif(decide (v1<v0))then(let x0:LDCe:=[((-1),v1)];
bif(cb 16 v2.length x0.length)then let x1:LDCe:=(List.append v2 x0);
let x2:=w64 (v1+1);
some (.inl (v0,x2,x1,()))else none)else
some (.inr (v0,v1,false,v2,()))
def jw(a0:List (Int))(a1:Int):Option (LDCe×Int×Unit):=
(gn a0 a1).bind λ(x0,_)=>
bif(x0 != 0)then(some ([],x0,()))else
(bu dw NN (a0,a1,0,[],())).bind λ(x1,x2,x3,x4,x5,_)=>
(bu cT NN (x2,0,x5,())).bind λ(x6,x7,x8,x9,_)=>
some (x9,0,())
def yr:X.Cfg:=⟨E0,[kZ],[],[⟨13,0,qS [sP 0 RI,yaa 1,Uaa 7 17,yaa 8,yaa 9] [(17,zab)],[(.exit 2,qS [sP 0 RI,yaa 1,Uaa 7 17,yaa 8,yaa 9,zaa 29] [(17,zab)])]⟩,(lx 8 1 [sP 0 RI,yaa 1,Uaa 7 17,yaa 8] [(17,zab)] 20),⟨19,2,qS [yaa 1,Uaa 7 17,yaa 10] [(17,zab)],[(.exit 4,qS [yaa 1,Uaa 7 17,yaa 10,zaa 40] [(17,zab)])]⟩]⟩
def qM:Ctr:=⟨64,53,Zaa,[],[⟨uad,[.one,.one],[]⟩],ap2 jw⟩
theorem yc:Lvl E0 TT libBj 2 qM:=bk (n:=1) (C:=yr) rfl (.intro (oL.mono (by decide)) (.intro)) (bm (by kernel_rfl)) (λh=>by kernel_rfl)
def ew(a0:List LDCn)(a1:LDTs)(a2:Int)(a3:Int):Option (T0G):=
(eL a0 a1).bind λ(x0,_)=>
bif(!x0)then(some (0,0,[],0,0,0,0,0,0,0,[],1,()))else
bif(a2==(-1))then(bif(decide (a3<0))then(some (0,0,[],0,0,0,0,0,0,0,[],30,()))else
let x1:=bn a1.length;
bif(decide (a3>=x1))then(some (0,0,[],0,0,0,0,0,0,0,[],30,()))else
(dO a3).bind λx2=>
(cn a1 x2).bind λx3=>
(dK x3.1 x3.2.1 x3.2.2.1 x3.2.2.2.1 x3.2.2.2.2.1 x3.2.2.2.2.2.1 x3.2.2.2.2.2.2.1 x3.2.2.2.2.2.2.2).bind λ(x4,x5,x6,x7,x8,x9,ac,ae,_)=>
some (a2,a3,[],x4,x5,x6,x7,x8,x9,ac,ae,0,()))else
(bif(decide (a2<0))then(some (true,a0,a1,a2,a3,0,0,(),0,0,0,0,0,0,0,(),()))else
let x1:=bn a0.length;
bif(decide (a2>=x1))then(some (true,a0,a1,a2,a3,0,0,(),0,0,0,0,0,0,0,(),()))else
bif(decide (a3<0))then(some (true,a0,a1,a2,a3,0,0,(),0,0,0,0,0,0,0,(),()))else
bif(decide (a3>32))then(some (true,a0,a1,a2,a3,0,0,(),0,0,0,0,0,0,0,(),()))else
let x2:=w64 (a3*8);
(dO a2).bind λx3=>
(cn a0 x3).bind λx4=>
let x5:=bn x4.length;
some ((decide (x2>=x5)),a0,a1,a2,a3,0,0,(),0,0,0,0,0,0,0,(),()):Option (Bool×LLCn×LDTs×Int×Int×Int×Int×Unit×Int×Int×Int×Int×Int×Int×Int×Unit×Unit)).bind λ(x1,x2,x3,x4,x5,x6,x7,x8,x9,ac,ae,_)=>
bif x1 then(some (0,0,[],0,0,0,0,0,0,0,[],30,()))else
(dO x4).bind λan=>
(cn x2 an).bind λap=>
let aq:=w64 (x5*8);
let au:=w64 (aq+8);
let av:=bn ap.length;
let aw:=mmR false au av;
(dO aq).bind λax=>
(dO aw).bind λay=>
bif(fZ ax ay ap.length)then let az:LDCn:=(zu ap ax (Nat.sub ay ax));
bif(cb 24 0 az.length)then let aA:LDCn:=(List.append [] az);
some (x4,x5,aA,0,0,0,0,0,0,0,[],0,())else none else none
def As:X.Cfg:=⟨E0,[jW,ig],[],[⟨11,0,qE,[(.normal,(qS [uaa 2,uaa 3,uaa 4,zaa 69] [(6,Xaa),(8,Xab),(10,uL [I64,I64,N1,I64,I64,I64,I64,I64,I64,CW,N1])]))]⟩]⟩
def k9:Ctr:=⟨22,54,[.agg Xaa,.agg Xab],[],[⟨uL [I64,I64,(Xa KCn),I64,I64,I64,I64,I64,I64,CW,bH,I64],[.agg 11,.one],[]⟩],ap4 ew⟩
theorem nY:Lvl E0 TT libBj 3 k9:=bk (n:=2) (C:=As) rfl (.intro (nA.mono (by decide)) (.intro (jR.mono (by decide)) (.intro))) (bm (by kernel_rfl)) (λh=>by kernel_rfl)
def dL:T0N->Option (T0N⊕T0O):=λ(v0,v1,v2,v3,v4,_)=>
let x0:=bn v3.length;
bif(decide (v0<x0))then((dO v0).bind λx1=>
(cn v3 x1).bind λx2=>
(cn v3 x1).bind λx3=>
(ew v1 v2 x3.1 x3.2).bind λ(x4,x5,x6,x7,x8,x9,ac,ae,af,ah,aj,ak,_)=>
let am:List (Int×Int×LDCn×Int×Int×Int×Int×Int×Int×Int×LDCn):=[(x4,(x5,(x6,(x7,(x8,(x9,(ac,(ae,(af,(ah,aj))))))))))];
bif(cb 120 v4.length am.length)then let an:List (Int×Int×LDCn×Int×Int×Int×Int×Int×Int×Int×LDCn):=(List.append v4 am);
let ap:=w64 (v0+1);
some (.inl (ap,v1,v2,v3,an,()))else none)else
some (.inr (v0,false,v1,v2,v3,v4,()))
def jb(a0:List LDCn)(a1:LDTs):Option (T0E):=
(eu a0 a1).bind λ(x0,_)=>
let x1:=bn a1.length;
(jw x0 x1).bind λ(x2,x3,_)=>
bif(x3 != 0)then(some ([],1,()))else
(bu dL NN (0,a0,a1,x2,[],())).bind λ(x4,x5,x6,x7,x8,x9,_)=>
some (x9,0,())
def At:X.Cfg:=⟨E0,[iW,qM,k9],[(38,(.pair I64 (.pair I64 (.pair (Xa KCn) kF)))),(39,(.pair I64 (.pair I64 (.pair (Xa KCn) kF))))],[(lx 8 0 [uaa 1,Uaa 4 11,Uaa 6 15,yaa 7] [(4,Xaa),(11,zab),(15,[shU (Xa (.pair I64 (.pair I64 (.pair (Xa KCn) ca))))])] 24)]⟩
def tg:Ctr:=⟨40,55,[.agg Xaa],[],[⟨[shU (Xa (.pair I64 (.pair I64 (.pair (Xa KCn) ca)))),shU I64],[.one,.one],[]⟩],ap2 jb⟩
theorem Ae:Lvl E0 TT libBj 4 tg:=bk (n:=3) (C:=At) rfl (.intro (kW.mono (by decide)) (.intro (yc.mono (by decide)) (.intro (nY.mono (by decide)) (.intro)))) (bm (by kernel_rfl)) (λh=>by kernel_rfl)
def gq(a0:Int)(a1:Int)(a2:LDCn)(a3:Int)(a4:Int)(a5:Int)(a6:Int)(a7:Int)(a8:Int)(a9:Int)(a10:LDCn)(a11:Int)(a12:Int)(a13:LDCn)(a14:Int)(a15:Int)(a16:Int)(a17:Int)(a18:Int)(a19:Int)(a20:Int)(a21:LDCn):Option (Bool×Unit):=
bif((a0==a11)&&((a1==a12)&&true))then((dt a2 a13).bind λ(x0,_)=>
bif x0 then((eG a3 a4 a5 a6 a7 a8 a9 a10 a14 a15 a16 a17 a18 a19 a20 a21).bind λ(x1,_)=>
some (x1,()))else
some (false,()))else
some (false,())
def wn:X.Cfg:=⟨E0,[fC,iH],[],[]⟩
def la:Ctr:=⟨41,56,[.agg uac,.agg uac],[],[⟨uab,[.one],[]⟩],ap22 gq⟩
theorem oM:Lvl E0 TT libBj 3 la:=bk (n:=2) (C:=wn) rfl (.intro (gZ.mono (by decide)) (.intro (lA.mono (by decide)) (.intro))) (bm (by kernel_rfl)) (λh=>by kernel_rfl)
def cx:T12->Option (T12⊕T13):=λ(v0,v1,v2,v3,_)=>
let x0:=bn v1.length;
bif(decide (v0<x0))then(((dO v0).bind λx1=>
(cn v1 x1).bind λx2=>
(cn v1 x1).bind λx3=>
(dO v0).bind λx4=>
(cn v2 x4).bind λx5=>
(cn v2 x4).bind λx6=>
(cn v1 x1).bind λx7=>
(cn v2 x4).bind λx8=>
(gq x3.1 x3.2.1 x7.2.2.1 x3.2.2.2.1 x3.2.2.2.2.1 x3.2.2.2.2.2.1 x3.2.2.2.2.2.2.1 x3.2.2.2.2.2.2.2.1 x3.2.2.2.2.2.2.2.2.1 x3.2.2.2.2.2.2.2.2.2.1 x3.2.2.2.2.2.2.2.2.2.2 x6.1 x6.2.1 x8.2.2.1 x6.2.2.2.1 x6.2.2.2.2.1 x6.2.2.2.2.2.1 x6.2.2.2.2.2.2.1 x6.2.2.2.2.2.2.2.1 x6.2.2.2.2.2.2.2.2.1 x6.2.2.2.2.2.2.2.2.2.1 x6.2.2.2.2.2.2.2.2.2.2).bind λ(x9,_)=>
bif(!x9)then((dO v0).bind λac=>
(cn v1 ac).bind λae=>
(cn v1 ac).bind λaf=>
let ah:LDCe:=[(af.1,af.2.1)];
bif(cb 16 v3.length ah.length)then let aj:LDCe:=(List.append v3 ah);
some (v0,v1,v2,aj,())else none)else
some (v0,v1,v2,v3,()):Option (T12)).bind λ(x1,x2,x3,x4,_)=>
let x5:=w64 (x1+1);
some (.inl (x5,x2,x3,x4,())))else
some (.inr (v0,false,v1,v2,v3,()))
def dZ(a0:List LDCn)(a1:LDTs)(a2:List LDCn)(a3:LDTs):Option (LDCe×Int×Unit):=
((eL a0 a1).bind λ(x0,_)=>
bif(!x0)then(some (true,a0,a1,a2,a3,()))else
(eL a2 a3).bind λ(x1,_)=>
bif(!x1)then(some (true,a0,a1,a2,a3,()))else
(eu a0 a1).bind λ(x2,_)=>
(eu a2 a3).bind λ(x3,_)=>
(fW x2 x3).bind λ(x4,_)=>
bif(!x4)then(some (true,a0,a1,a2,a3,()))else
let x5:=bn a1.length;
let x6:=bn a3.length;
some ((x5 != x6),a0,a1,a2,a3,()):Option (T0i)).bind λ(x0,x1,x2,x3,x4,_)=>
bif x0 then(some ([],1,()))else
(jb x1 x2).bind λ(x5,x6,_)=>
(jb x3 x4).bind λ(x7,x8,_)=>
(bu cx NN (0,x5,x7,[],())).bind λ(x9,ac,ae,af,ah,_)=>
some (ah,0,())
def sr:X.Cfg:=⟨E0,[jW,iW,lC,tg,la],[],[⟨2,0,qE,[(.normal,qS [uaa 2,uaa 3,zaa 36] [(6,Xaa),(8,Xaa)])]⟩,⟨12,1,qE,[(.normal,(qS [Uaa 6 15,Uaa 8 19,Uaa 10 23,yaa 11] [(15,[shU (Xa (.pair I64 (.pair I64 (.pair (Xa KCn) ca))))]),(19,[shU (Xa (.pair I64 (.pair I64 (.pair (Xa KCn) ca))))]),(23,zab)]))]⟩,(lx 9 2 [Uaa 6 15,Uaa 8 19,Uaa 10 23,yaa 11] [(15,[shU (Xa (.pair I64 (.pair I64 (.pair (Xa KCn) ca))))]),(19,[shU (Xa (.pair I64 (.pair I64 (.pair (Xa KCn) ca))))]),(23,zab)] 50)]⟩
def mu:Ctr:=⟨20,57,[.agg Xaa,.agg Xaa],[],[⟨uad,[.one,.one],[]⟩],ap4 dZ⟩
theorem sf:Lvl E0 TT libBj 5 mu:=bk (n:=4) (C:=sr) rfl (.intro (nA.mono (by decide)) (.intro (kW.mono (by decide)) (.intro (qY.mono (by decide)) (.intro (Ae.mono (by decide)) (.intro (oM.mono (by decide)) (.intro)))))) (bm (by kernel_rfl)) (λh=>by kernel_rfl)
def ke(a0:Int):Option (Bool×Unit):=
bif(decide (a0>=0))then(some ((decide (a0<=200)),()))else
some (false,())
def DB:X.Cfg:=⟨E0,[],[],[]⟩
def vg:Ctr:=⟨42,58,Uab,[],[⟨uab,[.one],[]⟩],ap1 ke⟩
theorem Dw:Lvl E0 TT libBj 1 vg:=bk (n:=0) (C:=DB) rfl (.intro) (bm (by kernel_rfl)) (λh=>by kernel_rfl)
def eo(a0:Int)(a1:Int)(a2:Int)(a3:Int):Option (Bool×Unit):=
bif(!((a0==(-1))==(a2==(-1))))then(some ((a2==(-1)),()))else
bif(decide (a0<a2))then(some (true,()))else
bif(a0==a2)then(some ((decide (a1<a3)),()))else
some (false,())
def wj:X.Cfg:=⟨E0,[],[],[]⟩
def kY:Ctr:=⟨43,59,[.agg Xab,.agg Xab],[],[⟨uab,[.one],[]⟩],ap4 eo⟩
theorem oJ:Lvl E0 TT libBj 1 kY:=bk (n:=0) (C:=wj) rfl (.intro) (bm (by kernel_rfl)) (λh=>by kernel_rfl)
def eF:T0K->Option (T0K⊕((Int×Unit)⊕T0M)):=λ(v0,v1,v2,v3,_)=>
let x0:=bn v3.length;
bif(decide (v0<x0))then(let x1:Int:=(w64 (v0-1));
(dO x1).bind λx2=>
(cn v3 x2).bind λx3=>
(dO v0).bind λx4=>
(cn v3 x4).bind λx5=>
(eo x3.1 x3.2.1 x5.1 x5.2.1).bind λ(x6,_)=>
bif(!x6)then(some (.inr (.inl (5,()))))else
let x7:=w64 (v0+1);
some (.inl (x7,v1,v2,v3,())))else
some (.inr (.inr (v0,false,v1,v2,v3,())))
def cN(a0:Int)(a1:Int)(a2:List (Int×Int×LDCn×Int×Int×Int×Int×Int×Int×Int×LDCn)):Option (Int×Unit):=
((ke a0).bind λ(x0,_)=>
bif(!x0)then(some (true,a0,a1,a2,()))else
(ke a1).bind λ(x1,_)=>
bif(!x1)then(some (true,a0,a1,a2,()))else
some ((decide (a0>a1)),a0,a1,a2,()):Option (T0I)).bind λ(x0,x1,x2)=>
bif x0 then(some (6,()))else
(match bu eF NN (1,x1,x2)with
|none=>none
|some (.inl (x4,_))=>
some (x4,())
|some (.inr (x4,_))=>
some (0,()))
def wh:X.Cfg:=⟨E0,[vg,kY],[],[⟨2,0,qE,[(.normal,(qS [uaa 1,zaa 20] [(4,[shU I64,shU I64,shU (Xb (.pair I64 (.pair I64 (.pair bH ca))))])]))]⟩,⟨6,1,(qS [uaa 1,yaa 3] [(4,[shU I64,shU I64,shU (Xb (.pair I64 (.pair I64 (.pair bH ca))))])]),[(.ret,qS [yaa 2] []),(.exit 0,(qS [uaa 1,yaa 3,zaa 25] [(4,[shU I64,shU I64,shU (Xb (.pair I64 (.pair I64 (.pair bH ca))))])]))]⟩]⟩
def gE:Ctr:=⟨21,60,[.agg [shU I64,shU I64,shU (Xb (.pair I64 (.pair I64 (.pair bH ca))))]],[],[⟨Uab,[.one],[]⟩],ap3 cN⟩
theorem iT:Lvl E0 TT libBj 2 gE:=bk (n:=1) (C:=wh) rfl (.intro (Dw.mono (by decide)) (.intro (oJ.mono (by decide)) (.intro))) (bm (by kernel_rfl)) (λh=>by kernel_rfl)
def fb:T0W->Option (T0W⊕T0X):=λ(v0,v1,v2,v3,v4,v5,v6,v7,v8,v9,_)=>
let x0:=bn v6.length;
bif(decide (v0<x0))then((dO v0).bind λx1=>
(cn v6 x1).bind λx2=>
(cn v6 x1).bind λx3=>
(ew v1 v2 x3.1 x3.2).bind λ(x4,x5,x6,x7,x8,x9,ac,ae,af,ah,aj,ak,_)=>
let am:List (Int×Int×LDCn×Int×Int×Int×Int×Int×Int×Int×LDCn):=[(x4,(x5,(x6,(x7,(x8,(x9,(ac,(ae,(af,(ah,aj))))))))))];
bif(cb 120 v9.length am.length)then let an:List (Int×Int×LDCn×Int×Int×Int×Int×Int×Int×Int×LDCn):=(List.append v9 am);
let ap:=w64 (v0+1);
some (.inl (ap,v1,v2,v3,v4,v5,v6,v7,v8,an,()))else none)else
some (.inr (v0,false,v1,v2,v3,v4,v5,v6,v7,v8,v9,()))
def dE(a0:List LDCn)(a1:LDTs)(a2:List LDCn)(a3:LDTs)(a4:Int)(a5:Int):Option (T0J):=
(dZ a0 a1 a2 a3).bind λ(x0,x1,_)=>
bif(x1 != 0)then(some (0,0,[],x1,()))else
(cN a4 a5 []).bind λ(x2,_)=>
bif(x2 != 0)then(some (0,0,[],6,()))else
(bu fb NN (0,a2,a3,0,0,(),x0,a4,a5,[],())).bind λ(x3,x4,x5,x6,x7,x8,x9,ac,ae,af,ah,_)=>
some (ae,af,ah,0,())
def yo:X.Cfg:=⟨E0,[mu,gE,k9],[(51,(.pair I64 (.pair I64 (.pair (Xa KCn) kF)))),(52,(.pair I64 (.pair I64 (.pair (Xa KCn) kF))))],[(lx 11 0 [uaa 5,uaa 8,Uaa 10 23,uaa 12,yaa 13] [(12,Xaa),(18,yac),(23,zab),(26,[shU I64,shU I64,shU (Xa (.pair I64 (.pair I64 (.pair (Xa KCn) ca))))])] 36)]⟩
def mt:Ctr:=⟨10,61,[.agg Xaa,.agg Xaa,shU I64,shU I64],[],[⟨[shU I64,shU I64,shU (Xa (.pair I64 (.pair I64 (.pair (Xa KCn) ca)))),shU I64],[.agg 3,.one],[]⟩],ap6 dE⟩
theorem qx:Lvl E0 TT libBj 6 mt:=bk (n:=5) (C:=yo) rfl (.intro (sf.mono (by decide)) (.intro (iT.mono (by decide)) (.intro (nY.mono (by decide)) (.intro)))) (bm (by kernel_rfl)) (λh=>by kernel_rfl)
def kL(a0:List LDCn)(a1:LDTs)(a2:List (Int))(a3:Int):Option (T0d):=
(dq a0 a1).bind λ(x0,x1,_)=>
(match((bq 4 a2 a3).bind λ(x2,x3,x4,_)=>
bif(x2==0)then(bif(cb 24 x0.length (List.length [([]:List Unit)]))then let x5:List LDCn:=(List.append x0 [[]]);
some (.inl (x3,x4,(),(),x5,x1,()))else none)else
bif(x2==1)then((cn x0 0).bind λx5=>
(cn x0 0).bind λx6=>
(bq 40 x3 x4).bind λ(x7,x8,x9,_)=>
(dO x7).bind λac=>
(cn x0 0).bind λae=>
bif(cb 24 ae.length (List.length (List.replicate ac ((0,(0,(0,0))):Int×Int×Int×Int))))then let af:LDCn:=(List.append ae (List.replicate ac (0,(0,(0,0)))));
(cn x0 0).bind λah=>
(cn x0 0).bind λaj=>
let ak:=List.modify x0 0 λe=>af;
some (.inl (x8,x9,(),(),ak,x1,()))else none)else
bif(x2==2)then(let x5:LDTs:=[(0,(0,(0,(0,(0,(0,(0,[])))))))];
bif(cb 80 x1.length x5.length)then let x6:LDTs:=(List.append x1 x5);
some (.inl (x3,x4,(),(),x0,x6,()))else none)else
bif(fZ 1 x0.length x0.length)then let x5:List LDCn:=(zu x0 1 (Nat.sub x0.length 1));
some (.inr (x3,x4,(),(),x5,x1,()))else none:Option (T0n⊕T0n))with
|none=>none
|some (.inl (x2,x3,x4,x5,x6,x7,_))=>
some (x6,x7,x2,x3,())
|some (.inr (x2,x3,x4,x5,x6,x7,_))=>
some (x6,x7,x2,x3,()))
def Ap:X.Cfg:=⟨E0,[gh,f9],[(18,(Xa KCn)),(19,(Xa KCn)),(38,kF),(39,kF)],[⟨2,0,qE,[(.normal,qS [uaa 0,uaa 4,uaa 5] [(2,Zaa),(10,yab),(12,Zab)]),(.normal,qS [uaa 0,uaa 4,uaa 5] [(2,Zaa),(10,yab),(12,Uad)])]⟩]⟩
def s9:Ctr:=⟨12,62,[.ptr ⟨2,0,[]⟩ [0],.agg Xaa],[(2,Zaa)],[⟨Uad,[.agg 2],[(2,Zaa)]⟩],ap4 kL⟩
theorem Ab:Lvl E0 TT libBj 4 s9:=bk (n:=3) (C:=Ap) rfl (.intro (iz.mono (by decide)) (.intro (g8.mono (by decide)) (.intro))) (bm (by kernel_rfl)) (λh=>by kernel_rfl)
def jv(a0:Int)(a1:Int)(a2:Int)(a3:Int)(a4:Int)(a5:Int)(a6:Int)(a7:LDCn):Option (Bool×Unit):=
bif(a0==0)then(bif(a1==0)then(bif(a2==0)then(bif(a3==0)then(bif(a4==0)then(bif(a5==0)then(bif(a6==0)then(let x0:Int:=(bn a7.length);
some ((x0==0),()))else
some (false,()))else
some (false,()))else
some (false,()))else
some (false,()))else
some (false,()))else
some (false,()))else
some (false,())
def yp:X.Cfg:=⟨E0,[],[],[]⟩
def qL:Ctr:=⟨65,63,[.agg zac],[],[⟨uab,[.one],[]⟩],ap8 jv⟩
theorem xZ:Lvl E0 TT libBj 1 qL:=bk (n:=0) (C:=yp) rfl (.intro) (bm (by kernel_rfl)) (λh=>by kernel_rfl)
def kM(a0:List LDCn)(a1:LDTs)(a2:Int)(a3:Int)(a4:LDCn)(a5:Int)(a6:Int)(a7:Int)(a8:Int)(a9:Int)(a10:Int)(a11:Int)(a12:LDCn):Option (LLCn×LDTs×Int×Unit):=
(ew a0 a1 a2 a3).bind λ(x0,x1,x2,x3,x4,x5,x6,x7,x8,x9,ac,ae,_)=>
bif(ae != 0)then(some ([],[],ae,()))else
(let af:=bn a4.length;
let ah:=bn x2.length;
bif(af != ah)then(some (true,a0,a1,a2,a3,a4,a5,a6,a7,a8,a9,a10,a11,a12,(),(),()))else
bif(a2 != (-1))then((jv a5 a6 a7 a8 a9 a10 a11 a12).bind λ(aj,_)=>
some ((!aj),a0,a1,a2,a3,a4,a5,a6,a7,a8,a9,a10,a11,a12,(),(),()))else
some (false,a0,a1,a2,a3,a4,a5,a6,a7,a8,a9,a10,a11,a12,(),(),()):Option (Bool×LLCn×LDTs×Int×Int×LDCn×Int×Int×Int×Int×Int×Int×Int×LDCn×T04)).bind λ(af,ah,aj,ak,am,an,ap,aq,au,av,aw,ax,ay,az,aA,aB,_)=>
bif af then(some ([],[],5,()))else
(dq ah aj).bind λ(aD,aE,_)=>
bif(ak==(-1))then((dK ap aq au av aw ax ay az).bind λ(aF,aG,aH,aI,aJ,aK,aL,aM,_)=>
(dO am).bind λaO=>
(cn aE aO).bind λaP=>
(cn aE aO).bind λaQ=>
let aR:=(List.modify aE aO λe=>(aF,(aG,(aH,(aI,(aJ,(aK,(aL,aM))))))));
some (aD,aR,0,()))else
((dO ak).bind λaF=>
(cn aD aF).bind λaG=>
(cn aD aF).bind λaH=>
let aI:=w64 (am*8);
(cn aD aF).bind λaJ=>
(dO aI).bind λaK=>
bif(fZ aK aJ.length aJ.length)then(cn aD aF).bind λaL=>
(cn aD aF).bind λaM=>
bif(fZ aK (Nat.add aK (Nat.min an.length (Nat.sub aJ.length aK))) aM.length)then bif(Nat.blt 0 (Nat.min an.length (Nat.sub aJ.length aK)))then(let aO:List LDCn:=(List.modify aD aF λe=>(lS aM aK (Nat.min an.length (Nat.sub aJ.length aK)) an));
let aP:=(bn (Nat.min an.length (Nat.sub aJ.length aK)));
some (aA,aB,aO,aE,()))else
let aO:=(bn (Nat.min an.length (Nat.sub aJ.length aK)));
some (aA,aB,aD,aE,())else none else none:Option (T0g)).bind λ(aF,aG,aH,aI,_)=>
some (aH,aI,0,())
def Ar:X.Cfg:=⟨E0,[k9,qL,gh,ig],[],[⟨6,0,qE,[(.normal,qS [uaa 2,uaa 3,uaa 4,zaa 38] [(6,Xaa),(8,uac),(10,yab)])]⟩,⟨13,1,qE,[(.normal,qS [uaa 4,uaa 8] [(10,yab),(18,Zab)])]⟩]⟩
def te:Ctr:=⟨44,64,[.agg Xaa,.agg uac],[],[⟨Zad,[.agg 2,.one],[]⟩],ap13 kM⟩
theorem Ad:Lvl E0 TT libBj 4 te:=bk (n:=3) (C:=Ar) rfl (.intro (nY.mono (by decide)) (.intro (xZ.mono (by decide)) (.intro (iz.mono (by decide)) (.intro (jR.mono (by decide)) (.intro))))) (bm (by kernel_rfl)) (λh=>by kernel_rfl)
def bT:T0S->Option (T0S⊕((Int×T04)⊕(Int×Bool×T0R))):=λ(v0,v1,v2,v3,v4,v5,v6)=>
let x0:=bn v5.length;
bif(decide (v0<x0))then((dO v0).bind λx1=>
(cn v5 x1).bind λx2=>
(kM v1 v2 x2.1 x2.2.1 x2.2.2.1 x2.2.2.2.1 x2.2.2.2.2.1 x2.2.2.2.2.2.1 x2.2.2.2.2.2.2.1 x2.2.2.2.2.2.2.2.1 x2.2.2.2.2.2.2.2.2.1 x2.2.2.2.2.2.2.2.2.2.1 x2.2.2.2.2.2.2.2.2.2.2).bind λ(x3,x4,x5,_)=>
bif(x5 != 0)then(some (.inr (.inl (x5,(),(),()))))else
let x6:=w64 (v0+1);
some (.inl (x6,x3,x4,v3,v4,v5,v6)))else
some (.inr (.inr (v0,false,v1,v2,v3,v4,v5,v6)))
def iP(a0:List LDCn)(a1:LDTs)(a2:Int)(a3:Int)(a4:Int)(a5:List (Int×Int×LDCn×Int×Int×Int×Int×Int×Int×Int×LDCn)):Option (LLCn×LDTs×Int×Unit):=
(cN a3 a4 a5).bind λ(x0,_)=>
bif(x0 != 0)then(some ([],[],x0,()))else
bif(a2 != a3)then(some ([],[],35,()))else
(match bu bT NN (0,a0,a1,a3,a4,a5,(),(),())with
|none=>none
|some (.inl (x1,x2,x3,_))=>
some ([],[],x1,())
|some (.inr (x1,x2,x3,x4,_))=>
(dq x3 x4).bind λ(ac,ae,_)=>
some (ac,ae,0,()))
def wi:X.Cfg:=⟨E0,[gE,te,gh],[],[⟨10,0,(qS [uaa 3,uaa 5,uaa 6,yaa 9] [(8,Xaa),(12,[shU I64,shU I64,shU (Xb (.pair I64 (.pair I64 (.pair bH ca))))]),(14,yab)]),[(.ret,qS [uaa 6,yaa 7] [(14,yab)]),(.exit 0,(qS [uaa 3,uaa 5,uaa 6,yaa 9,zaa 27] [(8,Xaa),(12,[shU I64,shU I64,shU (Xb (.pair I64 (.pair I64 (.pair bH ca))))]),(14,yab)]))]⟩]⟩
def pt:Ctr:=⟨24,65,[.agg Xaa,shU I64,.agg [shU I64,shU I64,shU (Xb (.pair I64 (.pair I64 (.pair bH ca))))]],[],[⟨Zad,[.agg 2,.one],[]⟩],ap6 iP⟩
theorem vN:Lvl E0 TT libBj 5 pt:=bk (n:=4) (C:=wi) rfl (.intro (iT.mono (by decide)) (.intro (Ad.mono (by decide)) (.intro (iz.mono (by decide)) (.intro)))) (bm (by kernel_rfl)) (λh=>by kernel_rfl)
def pD:Ctr:=⟨25,66,[.agg [shU I64,shU I64,shU (Xb (.pair I64 (.pair I64 (.pair bH ca))))],.agg [shU I64,shU I64,shU (Xb (.pair I64 (.pair I64 (.pair bH ca))))]],[],[⟨[shU I64,shU I64,shU (Xb (.pair I64 (.pair I64 (.pair bH ca)))),shU I64],[.agg 3,.one],[]⟩],ap6 cq⟩
theorem vU:Lvl E0 TT libBj 1 pD:=(vG (Jk rfl) qW).mono (by decide)
def fL:T11->Option (T11⊕((List (Int×Int×LDCn×Int×Int×Int×Int×Int×Int×Int×LDCn))×Int×Bool×T0D)):=λ(v0,v1,v2,v3,v4)=>
let x0:=bn v0.length;
bif(decide (v1<x0))then((dO v1).bind λx1=>
(cn v0 x1).bind λx2=>
(eo x2.1 x2.2.1 v2 v3).bind λ(x3,_)=>
bif x3 then(let x4:Int:=(w64 (v1+1));
some (.inl (v0,x4,v2,v3,v4)))else
some (.inr (v0,v1,false,v2,v3,v4)))else
some (.inr (v0,v1,false,v2,v3,v4))
def ja(a0:List (Int×Int×LDCn×Int×Int×Int×Int×Int×Int×Int×LDCn))(a1:Int)(a2:Int)(a3:LDCn)(a4:Int)(a5:Int)(a6:Int)(a7:Int)(a8:Int)(a9:Int)(a10:Int)(a11:LDCn):Option ((List (Int×Int×LDCn×Int×Int×Int×Int×Int×Int×Int×LDCn))×Unit):=
(bu fL NN (a0,0,a1,a2,a3,a4,a5,a6,a7,a8,a9,a10,a11,())).bind λ(x0,x1,x2,x3,x4,x5,x6,x7,x8,x9,ac,ae,af,ah,_)=>
(dO x1).bind λaj=>
bif(fZ 0 aj x0.length)then let ak:List (Int×Int×LDCn×Int×Int×Int×Int×Int×Int×Int×LDCn):=(zu x0 0 (Nat.sub aj 0));
bif(cb 120 0 ak.length)then let am:List (Int×Int×LDCn×Int×Int×Int×Int×Int×Int×Int×LDCn):=(List.append [] ak);
let an:List (Int×Int×LDCn×Int×Int×Int×Int×Int×Int×Int×LDCn):=[(x3,(x4,(x5,(x6,(x7,(x8,(x9,(ac,(ae,(af,ah))))))))))];
bif(cb 120 am.length an.length)then let ap:List (Int×Int×LDCn×Int×Int×Int×Int×Int×Int×Int×LDCn):=(List.append am an);
(let aq:=bn x0.length;
bif(decide (x1<aq))then((dO x1).bind λau=>
(cn x0 au).bind λav=>
bif((av.1==x3)&&((av.2.1==x4)&&true))then(let aw:Int:=(w64 (x1+1));
some (x0,aw,ap,()))else
some (x0,x1,ap,()))else
some (x0,x1,ap,()):Option ((List (Int×Int×LDCn×Int×Int×Int×Int×Int×Int×Int×LDCn))×T0F)).bind λ(aq,au,av,_)=>
(dO au).bind λaw=>
bif(fZ aw aq.length aq.length)then let ax:List (Int×Int×LDCn×Int×Int×Int×Int×Int×Int×Int×LDCn):=(zu aq aw (Nat.sub aq.length aw));
bif(cb 120 av.length ax.length)then let ay:List (Int×Int×LDCn×Int×Int×Int×Int×Int×Int×Int×LDCn):=(List.append av ax);
some (ay,())else none else none else none else none else none
def Aq:X.Cfg:=⟨E0,[kY],[(23,(.pair I64 (.pair I64 (.pair (Xa KCn) kF)))),(27,(.pair I64 (.pair I64 (.pair (Xa KCn) kF)))),(30,(.pair I64 (.pair I64 (.pair (Xa KCn) kF)))),(31,(.pair I64 (.pair I64 (.pair (Xa KCn) kF)))),(52,(.pair I64 (.pair I64 (.pair (Xa KCn) kF))))],[(lx 3 0 [(0,shU (Xb (.pair I64 (.pair I64 (.pair bH ca))))),uaa 3,yaa 5] [(8,uac)] 20),⟨8,1,qE,[(.normal,(qS [(0,shU (Xb (.pair I64 (.pair I64 (.pair bH ca))))),yaa 5,Uaa 6 15] [(15,[shU (Xa (.pair I64 (.pair I64 (.pair bH ca))))])]))]⟩]⟩
def td:Ctr:=⟨48,67,[shU (Xb (.pair I64 (.pair I64 (.pair bH ca)))),.agg uac],[],[⟨[shU (Xa (.pair I64 (.pair I64 (.pair bH ca))))],[.one],[]⟩],ap12 ja⟩
theorem Ac:Lvl E0 TT libBj 2 td:=bk (n:=1) (C:=Aq) rfl (.intro (oJ.mono (by decide)) (.intro)) (bm (by kernel_rfl)) (λh=>by kernel_rfl)
def eE:T1a->Option (T1a⊕(Int×Bool×T19)):=λ(v0,v1,v2,v3,v4,v5,v6,v7,v8,v9,v10,v11,v12,_)=>
let x0:=bn v3.length;
bif(decide (v0<x0))then((dO v0).bind λx1=>
(cn v3 x1).bind λx2=>
(ja v12 x2.1 x2.2.1 x2.2.2.1 x2.2.2.2.1 x2.2.2.2.2.1 x2.2.2.2.2.2.1 x2.2.2.2.2.2.2.1 x2.2.2.2.2.2.2.2.1 x2.2.2.2.2.2.2.2.2.1 x2.2.2.2.2.2.2.2.2.2.1 x2.2.2.2.2.2.2.2.2.2.2).bind λ(x3,_)=>
let x4:=w64 (v0+1);
some (.inl (x4,v1,v2,v3,v4,v5,v6,v7,v8,v9,v10,v11,x3,())))else
some (.inr (v0,false,v1,v2,v3,v4,v5,v6,v7,v8,v9,v10,v11,v12,()))
def eD:T17->Option (T17⊕(Int×Bool×T15)):=λ(v0,v1,v2,v3,v4,v5,v6,v7,v8,v9,_)=>
let x0:=bn v3.length;
bif(decide (v0<x0))then((dO v0).bind λx1=>
(cn v3 x1).bind λx2=>
(ja v9 x2.1 x2.2.1 x2.2.2.1 x2.2.2.2.1 x2.2.2.2.2.1 x2.2.2.2.2.2.1 x2.2.2.2.2.2.2.1 x2.2.2.2.2.2.2.2.1 x2.2.2.2.2.2.2.2.2.1 x2.2.2.2.2.2.2.2.2.2.1 x2.2.2.2.2.2.2.2.2.2.2).bind λ(x3,_)=>
let x4:=w64 (v0+1);
some (.inl (x4,v1,v2,v3,v4,v5,v6,v7,v8,x3,())))else
some (.inr (v0,false,v1,v2,v3,v4,v5,v6,v7,v8,v9,()))
def iO(a0:Int)(a1:Int)(a2:List (Int×Int×LDCn×Int×Int×Int×Int×Int×Int×Int×LDCn))(a3:Int)(a4:Int)(a5:List (Int×Int×LDCn×Int×Int×Int×Int×Int×Int×Int×LDCn)):Option (T0J):=
(cN a0 a1 a2).bind λ(x0,_)=>
bif(x0 != 0)then(some (0,0,[],x0,()))else
(cN a3 a4 a5).bind λ(x1,_)=>
bif(x1 != 0)then(some (0,0,[],x1,()))else
bif(a1 != a3)then(some (0,0,[],35,()))else
(bu eE NN (0,a0,a1,a2,a3,a4,a5,0,0,(),a0,a4,[],())).bind λ(x2,x3,x4,x5,x6,x7)=>
(bu eD NN (0,x7)).bind λ(am,an,ap,aq,au,av,aw,ax,ay,az,aA,_)=>
some (ay,az,aA,0,())
def wg:X.Cfg:=⟨E0,[gE,td],[],[(lx 15 0 [uaa 2,uaa 3,uaa 4,uaa 8,yaa 9] [(6,[shU I64,shU I64,shU (Xb (.pair I64 (.pair I64 (.pair bH ca))))]),(8,[shU I64,shU I64,shU (Xb (.pair I64 (.pair I64 (.pair bH ca))))]),(10,yac),(18,[shU I64,shU I64,shU (Xa (.pair I64 (.pair I64 (.pair bH ca))))])] 38),⟨21,1,(qS [uaa 3,uaa 4,uaa 8,yaa 10] [(8,[shU I64,shU I64,shU (Xb (.pair I64 (.pair I64 (.pair bH ca))))]),(10,yac),(18,[shU I64,shU I64,shU (Xa (.pair I64 (.pair I64 (.pair bH ca))))])]),[(.exit 2,(qS [uaa 3,uaa 4,uaa 8,yaa 10,zaa 54] [(8,[shU I64,shU I64,shU (Xb (.pair I64 (.pair I64 (.pair bH ca))))]),(10,yac),(18,[shU I64,shU I64,shU (Xa (.pair I64 (.pair I64 (.pair bH ca))))])]))]⟩]⟩
def pq:Ctr:=⟨26,68,[.agg [shU I64,shU I64,shU (Xb (.pair I64 (.pair I64 (.pair bH ca))))],.agg [shU I64,shU I64,shU (Xb (.pair I64 (.pair I64 (.pair bH ca))))]],[],[⟨[shU I64,shU I64,shU (Xa (.pair I64 (.pair I64 (.pair bH ca)))),shU I64],[.agg 3,.one],[]⟩],ap6 iO⟩
theorem vM:Lvl E0 TT libBj 3 pq:=bk (n:=2) (C:=wg) rfl (.intro (iT.mono (by decide)) (.intro (Ac.mono (by decide)) (.intro))) (bm (by kernel_rfl)) (λh=>by kernel_rfl)
def dl:T0Z->Option (T0Z⊕((Bool×Unit)⊕((List (Int×Int×LDCn×Int×Int×Int×Int×Int×Int×Int×LDCn))×(List (Int×Int×LDCn×Int×Int×Int×Int×Int×Int×Int×LDCn))×T00))):=λ(v0,v1,v2,_)=>
let x0:=bn v0.length;
bif(decide (v2<x0))then((dO v2).bind λx1=>
(cn v0 x1).bind λx2=>
(dO v2).bind λx3=>
(cn v1 x3).bind λx4=>
(gq x2.1 x2.2.1 x2.2.2.1 x2.2.2.2.1 x2.2.2.2.2.1 x2.2.2.2.2.2.1 x2.2.2.2.2.2.2.1 x2.2.2.2.2.2.2.2.1 x2.2.2.2.2.2.2.2.2.1 x2.2.2.2.2.2.2.2.2.2.1 x2.2.2.2.2.2.2.2.2.2.2 x4.1 x4.2.1 x4.2.2.1 x4.2.2.2.1 x4.2.2.2.2.1 x4.2.2.2.2.2.1 x4.2.2.2.2.2.2.1 x4.2.2.2.2.2.2.2.1 x4.2.2.2.2.2.2.2.2.1 x4.2.2.2.2.2.2.2.2.2.1 x4.2.2.2.2.2.2.2.2.2.2).bind λ(x5,_)=>
bif(!x5)then(some (.inr (.inl (false,()))))else
let x6:=w64 (v2+1);
some (.inl (v0,v1,x6,())))else
some (.inr (.inr (v0,v1,v2,false,())))
def fu(a0:List (Int×Int×LDCn×Int×Int×Int×Int×Int×Int×Int×LDCn))(a1:List (Int×Int×LDCn×Int×Int×Int×Int×Int×Int×Int×LDCn)):Option (Bool×Unit):=
let x0:=bn a0.length;
let x1:=bn a1.length;
bif(x0 != x1)then(some (false,()))else
(match bu dl NN (a0,a1,0,())with
|none=>none
|some (.inl (x2,_))=>
some (x2,())
|some (.inr (x2,_))=>
some (true,()))
def qc:X.Cfg:=⟨E0,[la],[],[⟨6,0,qS [(0,shU (Xb (.pair I64 (.pair I64 (.pair bH ca))))),(1,shU (Xb (.pair I64 (.pair I64 (.pair bH ca))))),yaa 5] [],[(.ret,qS [zaa 4] []),(.exit 0,qS [(0,shU (Xb (.pair I64 (.pair I64 (.pair bH ca))))),(1,shU (Xb (.pair I64 (.pair I64 (.pair bH ca))))),yaa 5,zaa 14] [])]⟩]⟩
def kC:Ctr:=⟨49,69,[shU (Xb (.pair I64 (.pair I64 (.pair bH ca)))),shU (Xb (.pair I64 (.pair I64 (.pair bH ca))))],[],[⟨uab,[.one],[]⟩],ap2 fu⟩
theorem qa:Lvl E0 TT libBj 4 kC:=bk (n:=3) (C:=qc) rfl (.intro (oM.mono (by decide)) (.intro)) (bm (by kernel_rfl)) (λh=>by kernel_rfl)
def is(a0:Int)(a1:Int)(a2:List (Int×Int×LDCn×Int×Int×Int×Int×Int×Int×Int×LDCn))(a3:Int)(a4:Int)(a5:List (Int×Int×LDCn×Int×Int×Int×Int×Int×Int×Int×LDCn)):Option (Bool×Unit):=
bif(a0==a3)then(bif(a1==a4)then((fu a2 a5).bind λ(x0,_)=>
some (x0,()))else
some (false,()))else
some (false,())
def yn:X.Cfg:=⟨E0,[kC],[],[]⟩
def qJ:Ctr:=⟨27,70,[.agg [shU I64,shU I64,shU (Xb (.pair I64 (.pair I64 (.pair bH ca))))],.agg [shU I64,shU I64,shU (Xb (.pair I64 (.pair I64 (.pair bH ca))))]],[],[⟨uab,[.one],[]⟩],ap6 is⟩
theorem xY:Lvl E0 TT libBj 5 qJ:=bk (n:=4) (C:=yn) rfl (.intro (qa.mono (by decide)) (.intro)) (bm (by kernel_rfl)) (λh=>by kernel_rfl)
def bS(a0:List LDCn)(a1:LDTs)(a2:List LDCn)(a3:LDTs)(a4:Int)(a5:Int)(a6:Int)(a7:Int)(a8:Int)(a9:List (Int×Int×LDCn×Int×Int×Int×Int×Int×Int×Int×LDCn))(a10:Int)(a11:Int)(a12:List (Int×Int×LDCn×Int×Int×Int×Int×Int×Int×Int×LDCn)):Option (Bool×Unit):=
(ek a0 a1 a2 a3 a4 a5).bind λ(x0,x1,x2,x3,_)=>
(dE a0 a1 a2 a3 a4 a5).bind λ(x4,x5,x6,x7,_)=>
(fB a0 a1 a6 a7 a8 a9).bind λ(x8,x9,ac,_)=>
(iP a0 a1 a6 a7 a8 a9).bind λ(ae,af,ah,_)=>
(cq a7 a8 a9 a10 a11 a12).bind λ(aj,ak,am,an,_)=>
(iO a7 a8 a9 a10 a11 a12).bind λ(ap,aq,au,av,_)=>
bif(x3==x7)then(bif(ac==ah)then(bif(an==av)then((is x0 x1 x2 x4 x5 x6).bind λ(aw,_)=>
bif aw then((iu x8 x9 ae af).bind λ(ax,_)=>
bif ax then((is aj ak am ap aq au).bind λ(ay,_)=>
bif ay then((cO a7 a8 a9).bind λ(az,_)=>
(cN a7 a8 a9).bind λ(aA,_)=>
some ((az==aA),()))else
some (false,()))else
some (false,()))else
some (false,()))else
some (false,()))else
some (false,()))else
some (false,())
def ww:X.Cfg:=⟨E0,[mB,mt,lh,pt,pD,pq,qJ,mw,lf,gE],[],[]⟩
def pB:Ctr:=⟨13,71,[.agg Xaa,.agg Xaa,shU I64,shU I64,shU I64,.agg [shU I64,shU I64,shU (Xb (.pair I64 (.pair I64 (.pair bH ca))))],.agg [shU I64,shU I64,shU (Xb (.pair I64 (.pair I64 (.pair bH ca))))]],[],[⟨uab,[.one],[]⟩],ap13 bS⟩
theorem vR:Lvl E0 TT libBj 9 pB:=bk (n:=8) (C:=ww) rfl (.intro (qB.mono (by decide)) (.intro (qx.mono (by decide)) (.intro (oQ.mono (by decide)) (.intro (vN.mono (by decide)) (.intro (vU.mono (by decide)) (.intro (vM.mono (by decide)) (.intro (xY.mono (by decide)) (.intro (qy.mono (by decide)) (.intro (oP.mono (by decide)) (.intro (iT.mono (by decide)) (.intro))))))))))) (bm (by kernel_rfl)) (λh=>by kernel_rfl)
def gW(a0:List (Int))(a1:Int):Option (Bool×Unit):=
(rj a0).bind λ(x0,_)=>
bif(!x0)then((eA).bind λ(x1,_)=>
some (x1,()))else
(iN a0 0).bind λ(x1,x2,x3,x4,_)=>
(bq 4 x3 x4).bind λ(x5,x6,x7,_)=>
(ir x1 x2 x5 x6 x7).bind λ(x8,x9,ac,ae,_)=>
(bq 4 ac ae).bind λ(af,ah,aj,_)=>
(ir x8 x9 af ah aj).bind λ(ak,am,an,ap,_)=>
(dE x1 x2 x8 x9 3 5).bind λ(aq,au,av,aw,_)=>
(dE x8 x9 ak am 5 9).bind λ(ax,ay,az,aA,_)=>
(match((ol a1 8).bind λ(aB,_)=>
bif(aB==0)then((bq 3 an ap).bind λ(aD,aE,aF,_)=>
let aG:=w64 (aD-1);
let aH:=w64 (au+aG);
some (.inl (x1,x2,x8,x9,ak,am,aq,aH,av,ax,ay,az,aE,aF,())))else
bif(aB==1)then((bq 210 an ap).bind λ(aD,aE,aF,_)=>
let aG:=w64 (aD-5);
some (.inl (x1,x2,x8,x9,ak,am,aG,au,av,ax,ay,az,aE,aF,())))else
bif(aB==2)then(let aD:Int:=(bn av.length);
bif(decide (aD>0))then((cn av 0).bind λaE=>
(cn av 0).bind λaF=>
(cn av 0).bind λaG=>
let aH:List (Int×Int×LDCn×Int×Int×Int×Int×Int×Int×Int×LDCn):=[(aF.1,(aF.2.1,(aG.2.2.1,(aF.2.2.2.1,(aF.2.2.2.2.1,(aF.2.2.2.2.2.1,(aF.2.2.2.2.2.2.1,(aF.2.2.2.2.2.2.2.1,(aF.2.2.2.2.2.2.2.2.1,(aF.2.2.2.2.2.2.2.2.2.1,aF.2.2.2.2.2.2.2.2.2.2))))))))))];
bif(cb 120 av.length aH.length)then let aI:List (Int×Int×LDCn×Int×Int×Int×Int×Int×Int×Int×LDCn):=(List.append av aH);
some (.inr (.inl (x1,x2,x8,x9,ak,am,aq,au,aI,ax,ay,az,an,ap,())))else none)else
some (.inl (x1,x2,x8,x9,ak,am,aq,au,av,ax,ay,az,an,ap,())))else
bif(aB==3)then(let aD:Int:=(bn av.length);
bif(decide (aD>0))then((cn av 0).bind λaE=>
(cn av 0).bind λaF=>
let aG:LDCn:=[(0,(0,(0,0)))];
(cn av 0).bind λaH=>
bif(cb 24 aH.2.2.1.length aG.length)then let aI:LDCn:=(List.append aH.2.2.1 aG);
(cn av 0).bind λaJ=>
(cn av 0).bind λaK=>
let aL:=(List.modify av 0 λe=>(e.1,(e.2.1,(aI,e.2.2.2))));
some (.inl (x1,x2,x8,x9,ak,am,aq,au,aL,ax,ay,az,an,ap,()))else none)else
some (.inl (x1,x2,x8,x9,ak,am,aq,au,av,ax,ay,az,an,ap,())))else
bif(aB==4)then((kL x1 x2 an ap).bind λ(aD,aE,aF,aG,_)=>
some (.inr (.inr (aD,aE,x8,x9,ak,am,aq,au,av,ax,ay,az,aF,aG,()))))else
some (.inl (x1,x2,x8,x9,ak,am,aq,au,av,ax,ay,az,an,ap,())):Option (T18⊕(T18⊕T18)))with
|none=>none
|some (.inl (aB,aD,aE,aF,aG,aH,aI,aJ,aK,aL,aM,aO,aP,aQ,_))=>
(bq 2 aP aQ).bind λ(aR,aS,aT,_)=>
let aU:=w64 (aI+aR);
(bS aB aD aE aF 3 5 aU aI aJ aK aL aM aO).bind λ(aV,_)=>
bif aV then((bS aE aF aG aH 5 9 5 aL aM aO aI aJ aK).bind λ(aW,_)=>
bif aW then((bS aB aD aE aF 0 0 3 aI aJ aK aL aM aO).bind λ(aY,_)=>
bif aY then((eA).bind λ(aZ,_)=>
some (aZ,()))else
some (false,()))else
some (false,()))else
some (false,())
|some (.inr (.inl (aB,aD,aE,aF,aG,aH,aI,aJ,aK,aL,aM,aO,aP,aQ,_)))=>
(bq 2 aP aQ).bind λ(aR,aS,aT,_)=>
let aU:=w64 (aI+aR);
(bS aB aD aE aF 3 5 aU aI aJ aK aL aM aO).bind λ(aV,_)=>
bif aV then((bS aE aF aG aH 5 9 5 aL aM aO aI aJ aK).bind λ(aW,_)=>
bif aW then((bS aB aD aE aF 0 0 3 aI aJ aK aL aM aO).bind λ(aY,_)=>
bif aY then((eA).bind λ(aZ,_)=>
some (aZ,()))else
some (false,()))else
some (false,()))else
some (false,())
|some (.inr (.inr (aB,aD,aE,aF,aG,aH,aI,aJ,aK,aL,aM,aO,aP,aQ,_)))=>
(bq 2 aP aQ).bind λ(aR,aS,aT,_)=>
let aU:=w64 (aI+aR);
(bS aB aD aE aF 3 5 aU aI aJ aK aL aM aO).bind λ(aV,_)=>
bif aV then((bS aE aF aG aH 5 9 5 aL aM aO aI aJ aK).bind λ(aW,_)=>
bif aW then((bS aB aD aE aF 0 0 3 aI aJ aK aL aM aO).bind λ(aY,_)=>
bif aY then((eA).bind λ(aZ,_)=>
some (aZ,()))else
some (false,()))else
some (false,()))else
some (false,()))
def qe:X.Cfg:=⟨E0,[Cr,pA,po,f9,qI,mt,wW,s9,pB],[(72,(.pair I64 (.pair I64 (.pair (Xa KCn) kF)))),(73,(.pair I64 (.pair I64 (.pair (Xa KCn) kF))))],[⟨10,0,qE,[(.normal,(qS [pP 5 38,uaa 6,uaa 7,uaa 8,uaa 9,uaa 11] [(14,Xaa),(16,Xaa),(18,Xaa),(20,[shU I64,shU I64,shU (Xa (.pair I64 (.pair I64 (.pair (Xa KCn) ca))))]),(24,[shU I64,shU I64,shU (Xa (.pair I64 (.pair I64 (.pair (Xa KCn) ca))))]),(38,Zaa)])),(.normal,(qS [pP 5 38,uaa 6,uaa 7,uaa 8,uaa 9,uaa 11] [(14,Xaa),(16,Xaa),(18,Xaa),(20,[shU I64,shU I64,shU (Xa (.pair I64 (.pair I64 (.pair bH ca))))]),(24,[shU I64,shU I64,shU (Xa (.pair I64 (.pair I64 (.pair (Xa KCn) ca))))]),(38,Zaa)])),(.normal,(qS [pP 5 38,uaa 6,uaa 7,uaa 8,uaa 9,uaa 11] [(14,Uad),(16,Xaa),(18,Xaa),(20,[shU I64,shU I64,shU (Xa (.pair I64 (.pair I64 (.pair (Xa KCn) ca))))]),(24,[shU I64,shU I64,shU (Xa (.pair I64 (.pair I64 (.pair (Xa KCn) ca))))]),(38,Zaa)]))]⟩]⟩
def kD:Ctr:=⟨3,72,Zaa,[],[⟨uab,[.one],[]⟩],ap2 gW⟩
theorem k_law29_DeltaMade:Lvl E0 TT libBj 10 kD:=bk (n:=9) (C:=qe) rfl (.intro (Iv.mono (by decide)) (.intro (vQ.mono (by decide)) (.intro (vL.mono (by decide)) (.intro (g8.mono (by decide)) (.intro (xX.mono (by decide)) (.intro (qx.mono (by decide)) (.intro (BZ.mono (by decide)) (.intro (Ab.mono (by decide)) (.intro (vR.mono (by decide)) (.intro)))))))))) (bm (by kernel_rfl)) (λh=>by kernel_rfl)
end
end Go.Proofs.YtbdhpgelkfncpaaGreat
namespace Go.Proofs.YtbdhpgelkfncpaaGreat
set_option maxRecDepth 100000
noncomputable section
end
end Go.Proofs.YtbdhpgelkfncpaaGreat
namespace Go.Proofs.YtbdhpgelkfncpaaGreat
open Go.RowKit
theorem MY:(Tryz.prog.funcs.all λfn=>!(fn.name=="runtime.NumGoroutine"))=true:=by kernel_rfl
theorem Dn:gQ Tryz.prog 6:=by
 obtain⟨fn,hf,hb⟩:∃fn,Tryz.prog.funcs[6]?=some fn/\fn.body.isSome=true:=by
  have hs:(match Tryz.prog.funcs[6]? with|some fn=>fn.body.isSome|none=>false)=true:=by kernel_rfl
  cases h:Tryz.prog.funcs[6]? with
  |none=>rw[h]at hs;cases hs
  |some fn=>rw[h]at hs;exact⟨fn,rfl,hs⟩
 obtain⟨c,hc⟩:=Option.isSome_iff_exists.1 hb;refine jm hf ?_ hc;obtain⟨hlt,he⟩:=Array.getElem?_eq_some_iff.1 hf;have:=Array.all_eq_true.1 MY 6 hlt;rw[he]at this;simpa using this
def Lf(x:Value)(w:World)(e:Ending)(w':World):Prop:=e=.returned (.pointer (some ⟨w.heap.size,0,none⟩))/\w'=w.alloc (.cells #[x,.int .i64 0] 59)
theorem KF(x:Value)(hx:x.oneCell'=true)(w:World):
 Calls Tryz.prog 6 #[x] w (Lf x w):=by
 cases x
 all_goals first
  |(go_enter Tryz.func6,Tryz.ntmps6
    go_wp2
    go_ret
    exact⟨rfl,rfl⟩)
  |simp[Value.oneCell']at hx
theorem e0_ok:Ed Tryz.prog E0:=by
 intro f n tm h;simp only[E0]at h;split at h
 ·rename_i e;subst e
  injection h with h
  injection h with h1 h2
  subst h1 h2;refine⟨Dn,λx hx=>?_,59,λl2 w hl Zr=>?_⟩
  ·simp only[List.mem_cons,List.not_mem_nil,or_false]at hx;rcases hx with hx|hx
   ·injection hx
   ·injection hx with hx;rw[hx];rfl
  ·match l2,hl with
   | [x],_=>exact KF x (Zr x (by simp[bxV])) w
 ·simp at h
def Ok{α:Type}(o:Option α)(Q:α->Prop):Prop:=∃a,o=some a/\Q a
section
variable {α β:Type}
theorem Ok.ret{a:α}{Q:α->Prop}(h:Q a):Ok (some a) Q:=⟨a,rfl,h⟩
theorem Ok.bind{o:Option α}{f:α->Option β}{P:α->Prop}{Q:β->Prop}(h:Ok o P)(h2:∀a,P a->Ok (f a) Q):Ok (o.bind f) Q:=by
 obtain⟨a,rfl,h1⟩:=h
 simp_all
theorem Ok.mono{o:Option α}{P Q:α->Prop}(h:Ok o P)(h2:∀a,P a->Q a):Ok o Q:=by
 have ⟨a,e,h1⟩:=h;exact⟨a,e,h2 a h1⟩
theorem Ok.cond{c:Bool}{a b:Option α}{Q:α->Prop}(h1:c=true->Ok a Q)(h2:c=false->Ok b Q):Ok (bif c then a else b) Q:=by
 grind
class BP (b:Bool) (P N:outParam Prop):Prop where
 t:b=true->P
 f:b=false->N
theorem Ok.get{l:List α}{i:Nat}{f:α->Option β}{Q:β->Prop}(h:i<l.length)(h2:∀a,l[i]?=some a->Ok (f a) Q):Ok ((cn l i).bind f) Q:=by
 have e:cn l i=some l[i]:=oGE h
 simp_all
theorem Ok.nat{x:Int}{f:Nat->Option β}{Q:β->Prop}(h:0<=x)(h2:∀n:Nat,x=n->Ok (f n) Q):Ok ((dO x).bind f) Q:=by
 obtain⟨n,rfl⟩:∃n:Nat,x=n:=⟨x.toNat,by omega⟩;exact h2 n rfl
theorem Ok.val{v:α}{f:α->Option β}{Q:β->Prop}(h:∀x,x=v->Ok (f x) Q):Ok (f v) Q:=h v rfl
theorem Ll{c:Bool}{a b:Option α}{Q:α->Prop}(hc:c=true)(h1:Ok a Q):Ok (bif c then a else b) Q:=by simp_all
theorem uB{S T:Type}{f:S->Option (S⊕T)}(P:S->Prop)(R:T->Prop)(m:S->Nat){n:Nat}{s:S}(hs:P s)(hm:m s<n)
 (h:∀s,P s->Ok (f s) λr=>match r with|.inl s'=>P s'/\m s'<m s|.inr t=>R t):Ok (bu f n s) R:=by
 induction n generalizing s with
 |zero=>omega
 |succ n ih=>
  have ⟨r,e,hr⟩:=h s hs
  cases r with
  |inl s'=>
   have ⟨t,e2,hq⟩:=ih hr.1 (by omega);exact⟨t,by simp[bu,e];exact e2,hq⟩
  |inr t=>exact⟨t,by simp[bu,e],hr⟩
theorem Ok.loop{S T:Type}{f:S->Option (S⊕T)}{g:T->Option β}{Q:β->Prop}(P:S->Prop)(R:T->Prop)(m:S->Nat){n:Nat}{s:S}(hs:P s)(hm:m s<n)
 (h:∀s,P s->Ok (f s) λr=>match r with|.inl s'=>P s'/\m s'<m s|.inr t=>R t)(hg:∀t,R t->Ok (g t) Q):Ok ((bu f n s).bind g) Q:=(uB P R m hs hm h).bind hg
end
theorem bA{x:Int}(h1:-9223372036854775808<=x)(h2:x<=9223372036854775807):w64 x=x:=wrap_i64 h1 h2
theorem bt(n:Nat):dO (n:Int)=some n:=rfl
theorem cj{S T:Type}{f:S->Option (S⊕T)}(st:Nat->S){n N:Nat}{fin:T}(hn:n<N)(h:∀i,i<n->f (st i)=some (.inl (st (i+1))))(he:f (st n)=some (.inr fin)):bu f N (st 0)=some fin:=by
 have ZQ:∀k i,i+k=n->k<N->∀M,k<M->bu f M (st i)=some fin:=by
  intro k
  induction k with
  |zero=>
   intro i hi _ M hM;obtain⟨M,rfl⟩:∃m,M=m+1:=⟨M-1,by omega⟩
   have:i=n:=by omega
   subst this;simp[bu,he]
  |succ k ih=>
   intro i hi hk M hM;obtain⟨M,rfl⟩:∃m,M=m+1:=⟨M-1,by omega⟩;simp only[bu,h i (by omega),oBS];exact ih (i+1) (by omega) (by omega) M (by omega)
 exact ZQ n 0 (by omega) hn N hn
theorem ku{S T:Type}{f:S->Option (S⊕T)}(st:Nat->S)(p:Nat->Prop){n N:Nat}{bad:Nat->T}{fin:T}(hn:n<N)
 (h:∀i,i<n->(p i/\f (st i)=some (.inl (st (i+1))))\/(¬p i/\f (st i)=some (.inr (bad i))))(he:f (st n)=some (.inr fin)):
 ((∀i,i<n->p i)/\bu f N (st 0)=some fin)\/∃k,k<n/\(∀i,i<k->p i)/\¬p k/\bu f N (st 0)=some (bad k):=by
 have ZQ:∀k i,i+k=n->(∀j,j<i->p j)->∀M,k<M->((∀i,i<n->p i)/\bu f M (st i)=some fin)\/∃k,k<n/\(∀i,i<k->p i)/\¬p k/\bu f M (st i)=some (bad k):=by
  intro k
  induction k with
  |zero=>
   intro i hi hp M hM;obtain⟨M,rfl⟩:∃m,M=m+1:=⟨M-1,by omega⟩
   have:i=n:=by omega
   subst this;exact .inl ⟨hp,by simp[bu,he]⟩
  |succ k ih=>
   intro i hi hp M hM;obtain⟨M,rfl⟩:∃m,M=m+1:=⟨M-1,by omega⟩
   rcases h i (by omega)with⟨h1,e⟩|⟨h1,e⟩
   ·simp only[bu,e,oBS]
    exact ih (i+1) (by omega) (λj hj=>by
     by_cases e:j=i
     ·subst e;exact h1
     ·exact hp j (by omega)) M (by omega)
   ·exact .inr ⟨i,by omega,hp,h1,by simp[bu,e]⟩
 exact ZQ n 0 (by omega) (λj hj=>by omega) N hn
abbrev Sm{α:Type}(l:List α):Prop:=l.length<=1099511627776
theorem lF{n:Nat}(h:n<=1099511627776):n<NN:=by unfold NN;omega
theorem bz{α:Type}{l:List α}{i:Nat}(h:i<l.length):cn l i=some l[i]:=oGE h
theorem LT(x y:PID):((x.1==y.1)&&((x.2==y.2)&&true))=decide (x=y):=by
 rw[Bool.and_true,Bool.eq_iff_iff];simp[Prod.ext_iff]
theorem kK{α:Type}{l:List α}{i:Nat}(h:i<l.length):l.take i++[l[i]]=l.take (i+1):=(List.take_append_getElem h)
theorem Bm(a b:PID):eo a.1 a.2 b.1 b.2=some (dc a b,()):=by
 unfold eo dc;by_cases h:(a.1==-1)=(b.1==-1)
 ·simp only[h,beq_self_eq_true,oNT,oCF,bne_self_eq_false,Bool.false_eq_true,if_false];by_cases h1:a.1<b.1
  ·simp[h1]
  ·by_cases h2:a.1=b.1
   ·simp[h2]
   ·simp[h1,oBF h2]
 ·have e1:((a.1==-1)==(b.1==-1))=false:=oBF h;have e2:((a.1==-1) != (b.1==-1))=true:=bne_iff_ne.2 h;simp only[e1,e2,Bool.not_false,oCT,if_true]
theorem bx{sz n m:Nat}(h1:n<=1099511627776)(h2:m<=1099511627776)(h3:sz<=128)(h4:n+m<=1099511627776):cb sz n m=true:=by
 unfold cb;have:(n+m)*sz<=1099511627776*128:=Nat.mul_le_mul h4 h3;simp only[oBA,oDE];exact⟨h4,by omega⟩
theorem Hh{a:List PID}(h:Sm a):dF a=some (kP a,()):=oIP h
theorem KH{a b:List PID}(h:a.length+b.length<=1099511627776):eJ a b=some (kP (a++b),()):=by
 unfold eJ dA
 have e:List.flatten [a,b]=a++b:=by simp
 dsimp only;rw[e,oIP ⟨by rw[List.length_append];exact h,by simp⟩,oBS];dsimp only;rw[Hh (show Sm (a++b) by unfold Sm;rw[List.length_append];exact h)];rfl
set_option maxRecDepth 100000 in
theorem GL:eA=some (true,()):=by kernel_rfl
theorem kt{α S T:Type}[DecidableEq α]{a b:List α}(hl:a.length=b.length)(hs:Sm a){f:S->Option (S⊕T)}(st:Nat->S){bad fin:T}
 (step:∀i (h:i<a.length)(h':i<b.length),f (st i)=bif decide (a[i]=b[i])then some (.inl (st (i+1)))else some (.inr bad))(he:f (st a.length)=some (.inr fin)):
 bu f NN (st 0)=some (bif decide (a=b)then fin else bad):=by
 rcases ku (f:=f) st (λi=>a[i]?=b[i]?) (bad:=λ_=>bad) (lF hs) (λi hi=>by
  rw[step i hi (hl▸hi),oGE hi,oGE (hl▸hi)];by_cases e:a[i]=b[i]'(hl▸hi)
  ·exact .inl ⟨by rw[e],by rw[oDT e];rfl⟩
  ·exact .inr ⟨λh=>e (by injection h),by rw[oDF e];rfl⟩) he with⟨h1,h2⟩|⟨k,hk,_,h1,h2⟩
 ·rw[h2,oDT (p:=a=b)]
  ·rfl
  ·exact List.ext_getElem? λi=>by
    by_cases hi:i<a.length
    ·exact h1 i hi
    ·rw[oGN (by omega),oGN (by omega)]
 ·rw[h2,oDF λe=>h1 (by rw[e])];rfl
theorem oF{α:Type}{a b:List α}(h:a.length=b.length):((a.length:Int) != (b.length:Int))=false:=by simp;omega
theorem kR{α:Type}{a b:List α}(h:¬a.length=b.length):((a.length:Int) != (b.length:Int))=true:=by simp;omega
theorem Ju(x y:Int):(x != y)=!decide (x=y):=by
 by_cases h:x=y
 ·subst h;simp
 ·rw[oDF h,bne_iff_ne.2 h];rfl
theorem mW{α:Type}(b:Bool)(x y:α):(bif !b then x else y)=bif b then y else x:=by cases b<;>rfl
theorem JE(x y:DCn):(!((x.1==y.1)&&((x.2.1==y.2.1)&&((x.2.2.1==y.2.2.1)&&((x.2.2.2==y.2.2.2)&&true)))))=!decide (x=y):=by
 congr 1;rw[Bool.and_true,Bool.eq_iff_iff];simp[Prod.ext_iff]
theorem JA{a b:List Int}(ha:Sm a):eU a b=some (decide (a=b),()):=by
 unfold eU;delta bn;dsimp only;by_cases hl:a.length=b.length
 rotate_left
 ·rw[kR hl,oCT,oDF λe=>hl (by rw[e])]
 rw[oF hl,oCF];have h0:=ha
 have:=kt (f:=cQ) hl ha (λi=>(a,b,(a.length:Int),(i:Int),())) (bad:=.inl (false,())) (fin:=.inr (a,b,(a.length:Int),(a.length:Int),false,()))
  (λi h h'=>by
   unfold cQ;dsimp only;rw[oDT (show(i:Int)<a.length by omega),oCT,bt];simp only[oBS,bz h,bz h',Ju,mW];rw[bA (by omega) (by omega)]
   rfl)
  (by
   unfold cQ;dsimp only;rw[oDF (show ¬(a.length:Int)<a.length by omega)]
   rfl)
 rw[show bu cQ NN (a,b,(a.length:Int),0,())=_ from this];by_cases e:a=b
 ·rw[oDT e];rfl
 ·rw[oDF e];rfl
theorem xC{a b:List Int}(ha:Sm a):fW a b=some (decide (a=b),()):=by
 unfold fW;delta bn;dsimp only;by_cases hl:a.length=b.length
 rotate_left
 ·rw[kR hl,oCT,oDF λe=>hl (by rw[e])]
 rw[oF hl,oCF];have h0:=ha
 have:=kt (f:=du) hl ha (λi=>(a,b,(i:Int),())) (bad:=.inl (false,())) (fin:=.inr (a,b,(a.length:Int),false,()))
  (λi h h'=>by
   unfold du;delta bn;dsimp only;rw[oDT (show(i:Int)<a.length by omega),oCT,bt];simp only[oBS,bz h,bz h',Ju,mW];rw[bA (by omega) (by omega)]
   rfl)
  (by
   unfold du;delta bn;dsimp only;rw[oDF (show ¬(a.length:Int)<a.length by omega)]
   rfl)
 rw[show bu du NN (a,b,0,())=_ from this];by_cases e:a=b
 ·rw[oDT e];rfl
 ·rw[oDF e];rfl
theorem Cf{a b:List DCn}(ha:Sm a):dh a b=some (decide (a=b),()):=by
 unfold dh;delta bn;dsimp only;by_cases hl:a.length=b.length
 rotate_left
 ·rw[kR hl,oCT,oDF λe=>hl (by rw[e])]
 rw[oF hl,oCF];have h0:=ha
 have:=kt (f:=cu) hl ha (λi=>(a,b,(a.length:Int),(i:Int),())) (bad:=.inl (false,())) (fin:=.inr (a,b,(a.length:Int),(a.length:Int),false,()))
  (λi h h'=>by
   unfold cu;dsimp only;rw[oDT (show(i:Int)<a.length by omega),oCT,bt];simp only[oBS,bz h,bz h',JE,mW];rw[bA (by omega) (by omega)]
   rfl)
  (by
   unfold cu;dsimp only;rw[oDF (show ¬(a.length:Int)<a.length by omega)]
   rfl)
 rw[show bu cu NN (a,b,(a.length:Int),0,())=_ from this];by_cases e:a=b
 ·rw[oDT e];rfl
 ·rw[oDF e];rfl
theorem pS{a b:List DCn}(ha:Sm a):dt a b=some (decide (a=b),()):=by
 unfold dt;delta bn;dsimp only;by_cases hl:a.length=b.length
 rotate_left
 ·rw[kR hl,oCT,oDF λe=>hl (by rw[e])]
 rw[oF hl,oCF];have h0:=ha
 have:=kt (f:=dm) hl ha (λi=>(a,b,(i:Int),())) (bad:=.inl (false,())) (fin:=.inr (a,b,(a.length:Int),false,()))
  (λi h h'=>by
   unfold dm;delta bn;dsimp only;rw[oDT (show(i:Int)<a.length by omega),oCT,bt];simp only[oBS,bz h,bz h',JE,mW];rw[bA (by omega) (by omega)]
   rfl)
  (by
   unfold dm;delta bn;dsimp only;rw[oDF (show ¬(a.length:Int)<a.length by omega)]
   rfl)
 rw[show bu dm NN (a,b,0,())=_ from this];by_cases e:a=b
 ·rw[oDT e];rfl
 ·rw[oDF e];rfl
abbrev PG:=Int×Int×List DCn×DTs
instance Nx:DecidableEq DCn:=inferInstance
instance NE:DecidableEq (Int×Int×Int×List DCn):=inferInstance
instance Nv:DecidableEq DTs:=inferInstanceAs (DecidableEq (Int×Int×Int×Int×(Int×Int×Int×List DCn)))
instance Nw:DecidableEq PG:=inferInstanceAs (DecidableEq (Int×Int×List DCn×DTs))
theorem y9{x y:Int}{p:Prop}[Decidable p]:(bif(x==y)then(some (decide p,()))else some (false,()):Option (Bool×Unit))=some (decide (x=y/\p),()):=by
 by_cases h:x=y
 ·subst h;simp
 ·rw[oBF h,oDF (p:=x=y/\p) λe=>h e.1];rfl
theorem ve{p q:Prop}[Decidable p][Decidable q]:((some (decide p,())).bind λ(x0,_)=>bif x0 then some (decide q,())else some (false,()):Option (Bool×Unit))=some (decide (p/\q),()):=by
 by_cases h:p<;>by_cases h':q<;>simp[h,h']
theorem vc{x y z w:Int}{p:Prop}[Decidable p]:(bif((x==y)&&((z==w)&&true))then(some (decide p,()))else some (false,()):Option (Bool×Unit))=some (decide (x=y/\z=w/\p),()):=by
 by_cases h:x=y
 ·subst h;by_cases h:z=w
  ·subst h;simp
  ·rw[oBF h,oDF (p:=x=x/\z=w/\p) λe=>h e.2.1];simp
 ·rw[oBF h,oDF (p:=x=y/\z=w/\p) λe=>h e.1];rfl
theorem tu{o:Option (Bool×Unit)}:(o.bind λ(x0,_)=>some (x0,()))=o:=by
 cases o with
 |none=>rfl
 |some x=>obtain⟨x,⟨⟩⟩:=x;rfl
theorem KV{x y:PG}(hx:Sm x.2.2.1)(hy:Sm x.2.2.2.2.2.2.2.2.2.2):
 iQ x.1 x.2.1 x.2.2.1 x.2.2.2.1 x.2.2.2.2.1 x.2.2.2.2.2.1 x.2.2.2.2.2.2.1 x.2.2.2.2.2.2.2.1 x.2.2.2.2.2.2.2.2.1 x.2.2.2.2.2.2.2.2.2.1 x.2.2.2.2.2.2.2.2.2.2 y.1 y.2.1 y.2.2.1 y.2.2.2.1 y.2.2.2.2.1 y.2.2.2.2.2.1 y.2.2.2.2.2.2.1 y.2.2.2.2.2.2.2.1 y.2.2.2.2.2.2.2.2.1 y.2.2.2.2.2.2.2.2.2.1 y.2.2.2.2.2.2.2.2.2.2=some (decide (x=y),()):=by
 unfold iQ;simp only[Cf hx,Cf hy,tu,y9,ve,vc];congr 2;rw[decide_eq_decide];simp only[Prod.ext_iff,and_assoc]
theorem xB{x y:DTs}(hx:Sm x.2.2.2.2.2.2.2):
 eG x.1 x.2.1 x.2.2.1 x.2.2.2.1 x.2.2.2.2.1 x.2.2.2.2.2.1 x.2.2.2.2.2.2.1 x.2.2.2.2.2.2.2 y.1 y.2.1 y.2.2.1 y.2.2.2.1 y.2.2.2.2.1 y.2.2.2.2.2.1 y.2.2.2.2.2.2.1 y.2.2.2.2.2.2.2=some (decide (x=y),()):=by
 unfold eG;simp only[pS hx,tu,y9];congr 2;rw[decide_eq_decide];simp only[Prod.ext_iff,and_assoc]
theorem Gr{x y:PG}(hx:Sm x.2.2.1)(hy:Sm x.2.2.2.2.2.2.2.2.2.2):
 gq x.1 x.2.1 x.2.2.1 x.2.2.2.1 x.2.2.2.2.1 x.2.2.2.2.2.1 x.2.2.2.2.2.2.1 x.2.2.2.2.2.2.2.1 x.2.2.2.2.2.2.2.2.1 x.2.2.2.2.2.2.2.2.2.1 x.2.2.2.2.2.2.2.2.2.2 y.1 y.2.1 y.2.2.1 y.2.2.2.1 y.2.2.2.2.1 y.2.2.2.2.2.1 y.2.2.2.2.2.2.1 y.2.2.2.2.2.2.2.1 y.2.2.2.2.2.2.2.2.1 y.2.2.2.2.2.2.2.2.2.1 y.2.2.2.2.2.2.2.2.2.2=some (decide (x=y),()):=by
 unfold gq;have:=xB (x:=x.2.2.2) (y:=y.2.2.2) hy;simp only[pS hx,this,tu,ve,vc];congr 2;rw[decide_eq_decide];simp only[Prod.ext_iff,and_assoc]
abbrev CC:=List (List DCn)
abbrev TT':=List DTs
def szs(C:CC):List Int:=C.map λc=>(c.length:Int)
theorem eP(C:CC):(szs C).length=C.length:=List.length_map _
theorem ga{α β:Type}{f:α->β}{l:List α}{i:Nat}(h:i<l.length):(l.take i).map f++[f l[i]]=(l.take (i+1)).map f:=by
 rw[<- kK h,List.map_append];rfl
theorem rL{C:CC}{T:TT'}(h:Sm C):fA C T=some (szs C,()):=by
 unfold fA;delta bn;dsimp only;have h0:=h
 have step:∀i,i<C.length->df (C,(C.length:Int),(i:Int),C,T,szs (C.take i),())=some (.inl (C,(C.length:Int),((i+1:Nat):Int),C,T,szs (C.take (i+1)),())):=by
  intro i hi;unfold df;delta bn;dsimp only;rw[oDT (show(i:Int)<C.length by omega),oCT,bt];simp only[oBS,bz hi];rw[bx (by rw[eP,oLT];omega) (by simp) (by omega) (by rw[eP,oLT,List.length_singleton];omega),oCT,bA (by omega) (by omega)];have:List.append (szs (C.take i)) [((C[i].length:Nat):Int)]=szs (C.take (i+1)):=ga (f:=λc:List DCn=>(c.length:Int)) hi;rw[this];rfl
 have fin:df (C,(C.length:Int),(C.length:Int),C,T,szs (C.take C.length),())=some (.inr (C,(C.length:Int),(C.length:Int),false,C,T,szs (C.take C.length),())):=by
  unfold df;dsimp only;rw[oDF (show ¬(C.length:Int)<C.length by omega)];rfl
 have:=cj (f:=df) (λi=>(C,(C.length:Int),(i:Int),C,T,szs (C.take i),())) (lF h) step fin;rw[show bu df NN (C,(C.length:Int),0,C,T,[],())=_ from this,List.take_length,oBS]
theorem pM{C:CC}{T:TT'}(h:Sm C):eu C T=some (szs C,()):=by
 unfold eu;have h0:=h
 have step:∀i,i<C.length->de ((i:Int),C,T,szs (C.take i),())=some (.inl (((i+1:Nat):Int),C,T,szs (C.take (i+1)),())):=by
  intro i hi;unfold de;delta bn;dsimp only;rw[oDT (show(i:Int)<C.length by omega),oCT,bt];simp only[oBS,bz hi];rw[bx (by rw[eP,oLT];omega) (by simp) (by omega) (by rw[eP,oLT,List.length_singleton];omega),oCT,bA (by omega) (by omega)];have:List.append (szs (C.take i)) [((C[i].length:Nat):Int)]=szs (C.take (i+1)):=ga (f:=λc:List DCn=>(c.length:Int)) hi;rw[this];rfl
 have fin:de ((C.length:Int),C,T,szs (C.take C.length),())=some (.inr ((C.length:Int),false,C,T,szs (C.take C.length),())):=by
  unfold de;delta bn;dsimp only;rw[oDF (show ¬(C.length:Int)<C.length by omega)];rfl
 have:=cj (f:=de) (λi=>((i:Int),C,T,szs (C.take i),())) (lF h) step fin;rw[show bu de NN (0,C,T,[],())=_ from this,List.take_length,oBS]
def okZ(z:Int):Bool:=decide (1<=z/\z<=32)
theorem Eu(z:Int):gr z=some (okZ z,()):=by
 unfold gr okZ;by_cases h:z>=1
 ·rw[oDT h,oCT];congr 2;rw[decide_eq_decide];omega
 ·rw[oDF h,oCF,oDF (by omega)]
def shp(C:CC)(T:TT'):Prop:=C.length<=4/\T.length<=4/\∀c∈C,okZ (c.length:Int)=true
instance {C:CC} {T:TT'}:Decidable (shp C T):=inferInstanceAs (Decidable (_/\_/\_))
theorem Cv{α:Type}{p:α->Bool}{l:List α}(h:∀i,(hi:i<l.length)->p l[i]=true):∀x∈l,p x=true:=by
 intro x hx;obtain⟨i,hi,rfl⟩:=List.mem_iff_getElem.1 hx;exact h i hi
theorem DO{C:CC}(h:Sm C):cw C=some (!decide (∀c∈C,okZ (c.length:Int)=true),()):=by
 unfold cw dY;delta bn;dsimp only;have h0:=h
 have step:∀i,i<C.length->((∀hi:i<C.length,okZ (C[i].length:Int)=true)/\bv (C,(C.length:Int),(i:Int),())=some (.inl (C,(C.length:Int),((i+1:Nat):Int),())))\/
  (¬(∀hi:i<C.length,okZ (C[i].length:Int)=true)/\bv (C,(C.length:Int),(i:Int),())=some (.inr (.inl ((i:Int),())))):=by
  intro i hi;unfold bv;dsimp only;rw[oDT (show(i:Int)<C.length by omega),oCT,bt]
  have e:fX C[i]=some (!okZ (C[i].length:Int),()):=by
   unfold fX;delta bn;dsimp only;rw[Eu];rfl
  simp only[oBS,bz hi,e];rw[bA (by omega) (by omega)];by_cases q:okZ (C[i].length:Int)=true
  ·exact .inl ⟨λ_=>q,by rw[q];rfl⟩
  ·exact .inr ⟨λg=>q (g hi),by rw[Bool.not_eq_true]at q;rw[q];rfl⟩
 have fin:bv (C,(C.length:Int),(C.length:Int),())=some (.inr (.inr (C,(C.length:Int),(C.length:Int),false,()))):=by
  unfold bv;dsimp only;rw[oDF (show ¬(C.length:Int)<C.length by omega)];rfl
 rcases ku (f:=bv) (λi=>(C,(C.length:Int),(i:Int),())) _ (lF h) step fin with⟨h1,h2⟩|⟨k,hk,_,h1,h2⟩
 ·rw[show bu bv NN (C,(C.length:Int),0,())=_ from h2];rw[oDT (Cv (p:=λc:List DCn=>okZ (c.length:Int)) λi hi=>h1 i hi hi)];rfl
 ·rw[show bu bv NN (C,(C.length:Int),0,())=_ from h2];rw[oDF (λg=>h1 λhi=>g _ (List.getElem_mem hi))];simp only[oBS];rw[oDT (show(k:Int)>=0 by omega)];rfl
theorem rn{C:CC}{T:TT'}(h:Sm C):fM C T=some (decide (shp C T),()):=by
 unfold fM;delta bn;dsimp only;by_cases h1:C.length<=4
 ·rw[oDT (show(C.length:Int)<=4 by omega),oCT];by_cases h2:T.length<=4
  ·rw[oDT (show(T.length:Int)<=4 by omega),oCT,DO h];simp only[oBS,Bool.not_not];congr 2;rw[decide_eq_decide];exact⟨λg=>⟨h1,h2,g⟩,λg=>g.2.2⟩
  ·rw[oDF (show ¬(T.length:Int)<=4 by omega),oCF,oDF λg=>h2 g.2.1]
 ·rw[oDF (show ¬(C.length:Int)<=4 by omega),oCF,oDF λg=>h1 g.1]
theorem DN{S:List Int}(h:Sm S)(hok:∀z∈S,okZ z=true):cM S=some (false,()):=by
 unfold cM eO;delta bn;dsimp only;have h0:=h
 have step:∀i,i<S.length->bL (S,(S.length:Int),(i:Int),())=some (.inl (S,(S.length:Int),((i+1:Nat):Int),())):=by
  intro i hi;unfold bL;dsimp only;rw[oDT (show(i:Int)<S.length by omega),oCT,bt]
  have e:ia S[i]=some (false,()):=by
   unfold ia;rw[Eu,hok _ (List.getElem_mem hi)];rfl
  simp only[oBS,bz hi,e];rw[bA (by omega) (by omega)];rfl
 have fin:bL (S,(S.length:Int),(S.length:Int),())=some (.inr (.inr (S,(S.length:Int),(S.length:Int),false,()))):=by
  unfold bL;dsimp only;rw[oDF (show ¬(S.length:Int)<S.length by omega)];rfl
 have:=cj (f:=bL) (λi=>(S,(S.length:Int),(i:Int),())) (lF h) step fin;rw[show bu bL NN (S,(S.length:Int),0,())=_ from this];rfl
theorem GD{S:List Int}{n:Nat}(h:Sm S):∃e:Int,gn S n=some (e,())/\(e=0↔S.length<=4/\n<=4/\∀z∈S,okZ z=true):=by
 unfold gn;delta bn;dsimp only;by_cases h1:S.length<=4
 rotate_left
 ·rw[oDT (show(S.length:Int)>4 by omega),oCT];exact⟨3,rfl,λg=>absurd g (by decide),λg=>absurd g.1 h1⟩
 rw[oDF (show ¬(S.length:Int)>4 by omega),oCF];by_cases h2:n<=4
 rotate_left
 ·rw[oDT (show(n:Int)>4 by omega),oCT];exact⟨3,rfl,λg=>absurd g (by decide),λg=>absurd g.2.1 h2⟩
 rw[oDF (show ¬(n:Int)>4 by omega),oCF];have h0:=h
 have step:∀i,i<S.length->((∀hi:i<S.length,okZ S[i]=true)/\co (S,(n:Int),(i:Int),())=some (.inl (S,(n:Int),((i+1:Nat):Int),())))\/
  (¬(∀hi:i<S.length,okZ S[i]=true)/\co (S,(n:Int),(i:Int),())=some (.inr (.inl (1,())))):=by
  intro i hi;unfold co;delta bn;dsimp only;rw[oDT (show(i:Int)<S.length by omega),oCT,bt];simp only[oBS,bz hi];rw[bA (by omega) (by omega)];by_cases q1:S[i]<1
  ·rw[oDT q1];exact .inr ⟨λg=>by have:=of_decide_eq_true (g hi);omega,rfl⟩
  ·rw[oDF q1,oCF];by_cases q2:S[i]>32
   ·rw[oDT q2];exact .inr ⟨λg=>by have:=of_decide_eq_true (g hi);omega,rfl⟩
   ·rw[oDF q2,oCF];exact .inl ⟨λ_=>oDT (by omega),rfl⟩
 have fin:co (S,(n:Int),(S.length:Int),())=some (.inr (.inr (S,(n:Int),(S.length:Int),false,()))):=by
  unfold co;delta bn;dsimp only;rw[oDF (show ¬(S.length:Int)<S.length by omega)];rfl
 rcases ku (f:=co) (λi=>(S,(n:Int),(i:Int),())) _ (lF h) step fin with⟨g1,g2⟩|⟨k,hk,_,g1,g2⟩
 ·rw[show bu co NN (S,(n:Int),0,())=_ from g2];dsimp only;rw[oDF (show ¬(n:Int)<0 by omega)];exact⟨0,rfl,λ_=>⟨h1,h2,Cv λi hi=>g1 i hi hi⟩,λ_=>rfl⟩
 ·rw[show bu co NN (S,(n:Int),0,())=_ from g2];exact⟨1,rfl,λg=>absurd g (by decide),λg=>absurd (λhi=>g.2.2 _ (List.getElem_mem hi)) g1⟩
theorem vq{C:CC}{T:TT'}:((szs C).length<=4/\T.length<=4/\∀z∈szs C,okZ z=true)↔shp C T:=by
 unfold shp szs;rw[List.length_map];simp
theorem kQ{C:CC}{T:TT'}(h:Sm C):eL C T=some (decide (shp C T),()):=by
 unfold eL;rw[pM h];obtain⟨e,h1,h2⟩:=GD (S:=szs C) (n:=T.length) (show Sm (szs C) by unfold Sm;rw[eP];exact h);rw[vq]at h2;delta bn;simp only[oBS,h1];congr 2;rw[Bool.eq_iff_iff,beq_iff_eq,decide_eq_true_iff];exact h2
def pH(z:Int):Nat:=((z+7)/8).toNat
def oy(S:List Int)(i:Nat):List PID:=(List.range (pH (S.getD i 0))).map λ(j:Nat)=>((i:Int),(j:Int))
def pgs(S:List Int)(n:Nat):List PID:=(List.range S.length).flatMap (oy S)++(List.range n).map λ(t:Nat)=>(-1,(t:Int))
def Szs(S:List Int):Prop:=S.length<=4/\∀z∈S,okZ z=true
theorem Em{S:List Int}(h:Szs S){i:Nat}(hi:i<S.length):1<=S[i]/\S[i]<=32:=of_decide_eq_true (h.2 _ (List.getElem_mem hi))
theorem Cl{S:List Int}(h:Szs S){i:Nat}(hi:i<S.length):pH (S.getD i 0)<=4:=by
 have:=Em h hi
 have e:S.getD i 0=S[i]:=by simp[hi]
 rw[e];unfold pH;omega
theorem oA{S:List Int}(h:Szs S):∀i,i<=S.length->((List.range i).flatMap (oy S)).length<=4*i:=by
 intro i
 induction i with
 |zero=>intro _;simp
 |succ i ih=>
  intro hi;rw[List.range_succ,List.flatMap_append,List.length_append];have h1:=ih (by omega)
  have h2:(oy S i).length=pH (S.getD i 0):=by unfold oy;simp
  have h3:=Cl h (i:=i) (by omega);simp only[List.flatMap_cons,List.flatMap_nil,List.append_nil];omega
theorem yJ{S:List Int}(i:Nat):(List.range (i+1)).flatMap (oy S)=(List.range i).flatMap (oy S)++oy S i:=by
 rw[List.range_succ,List.flatMap_append];simp
theorem mN{α:Type}(f:Nat->α)(j:Nat):(List.range (j+1)).map f=(List.range j).map f++[f j]:=by
 rw[List.range_succ,List.map_append];rfl
theorem xS{z:Int}(h:1<=z/\z<=32)(j:Nat):((j:Int)*8<z)↔j<pH z:=by
 unfold pH;omega
theorem L4{S:List Int}{n:Nat}(h:Szs S)(hn:n<=4):jx S n=some (pgs S n,0,()):=by
 unfold jx;delta bn;dsimp only;have h4:=h.1;rw[oDF (show ¬(S.length:Int)>4 by omega),oCF,oDF (show ¬(n:Int)>4 by omega),oCF,oDF (show ¬(n:Int)<0 by omega),oCF];rw[DN (by unfold Sm;omega) h.2,oBS];simp only[oCF]
 have VX:∀i,i<S.length->dx ((n:Int),S,(S.length:Int),(i:Int),(List.range i).flatMap (oy S),())=some (.inl ((n:Int),S,(S.length:Int),((i+1:Nat):Int),(List.range (i+1)).flatMap (oy S),())):=by
  intro i hi;have hz:=Em h hi;have hl:=oA h i (by omega);have hc:=Cl h hi
  have eg:S.getD i 0=S[i]:=by simp[hi]
  unfold dx;dsimp only;rw[oDT (show(i:Int)<S.length by omega),oCT,bt];simp only[oBS,bz hi]
  let A:=(List.range i).flatMap (oy S)
  let st:Nat->_:=λj=>((n:Int),(i:Int),S[i],(j:Int),S,(S.length:Int),(i:Int),A++(List.range j).map (λ(j:Nat)=>(((i:Int),(j:Int)):PID)),())
  have VW:∀j,j<pH S[i]->cX (st j)=some (.inl (st (j+1))):=by
   intro j hj;show cX ((n:Int),(i:Int),S[i],(j:Int),S,(S.length:Int),(i:Int),A++(List.range j).map (λ(j:Nat)=>(((i:Int),(j:Int)):PID)),())=_;unfold cX;dsimp only;rw[eg]at hc;rw[bA (x:=(j:Int)*8) (by omega) (by omega),oDT ((xS hz j).2 hj),oCT];have hA:A.length<=4*i:=hl;rw[bx (by rw[List.length_append,List.length_map,List.length_range];omega) (by simp) (by omega) (by rw[List.length_append,List.length_map,List.length_range,List.length_singleton];omega),oCT,bA (by omega) (by omega)]
   have e:List.append (A++(List.range j).map (λ(j:Nat)=>(((i:Int),(j:Int)):PID))) [((i:Int),(j:Int))]=A++(List.range (j+1)).map (λ(j:Nat)=>(((i:Int),(j:Int)):PID)):=by
    rw[mN,<- List.append_assoc];rfl
   rw[e];rfl
  have S6:cX (st (pH S[i]))=some (.inr ((n:Int),(i:Int),S[i],(pH S[i]:Int),S,(S.length:Int),(i:Int),false,A++(List.range (pH S[i])).map (λ(j:Nat)=>(((i:Int),(j:Int)):PID)),())):=by
   show cX ((n:Int),(i:Int),S[i],(pH S[i]:Int),S,(S.length:Int),(i:Int),A++(List.range (pH S[i])).map (λ(j:Nat)=>(((i:Int),(j:Int)):PID)),())=_;unfold cX;dsimp only;rw[eg]at hc;rw[bA (x:=(pH S[i]:Int)*8) (by omega) (by omega),oDF (λg=>by have:=(xS hz _).1 g;omega)];rfl
  have hI:=cj (f:=cX) st (n:=pH S[i]) (N:=NN) (by rw[eg]at hc;unfold NN;omega) VW S6
  have e0:st 0=((n:Int),(i:Int),S[i],0,S,(S.length:Int),(i:Int),(List.range i).flatMap (oy S),()):=by
   show((n:Int),(i:Int),S[i],(0:Int),S,(S.length:Int),(i:Int),A++[],())=_;rw[List.append_nil]
  rw[<- e0,hI];simp only[oBS];rw[bA (by omega) (by omega),yJ]
  have er:(List.range (pH S[i])).map (λ(j:Nat)=>(((i:Int),(j:Int)):PID))=oy S i:=by unfold oy;rw[eg]
  rw[er];rfl
 have S7:dx ((n:Int),S,(S.length:Int),(S.length:Int),(List.range S.length).flatMap (oy S),())=some (.inr ((n:Int),S,(S.length:Int),(S.length:Int),false,(List.range S.length).flatMap (oy S),())):=by
  unfold dx;dsimp only;rw[oDF (show ¬(S.length:Int)<S.length by omega)];rfl
 have hO:=cj (f:=dx) (λi=>((n:Int),S,(S.length:Int),(i:Int),(List.range i).flatMap (oy S),())) (n:=S.length) (N:=NN) (by unfold NN;omega) VX S7;rw[show bu dx NN ((n:Int),S,(S.length:Int),0,[],())=_ from hO];simp only[oBS];have hl:=oA h S.length (Nat.le_refl _)
 let B:=(List.range S.length).flatMap (oy S)
 have hB:B.length<=4*S.length:=hl
 let st:Nat->_:=λt=>((n:Int),(t:Int),B++(List.range t).map (λ(t:Nat)=>((-1,(t:Int)):PID)),())
 have stepT:∀t,t<n->cW (st t)=some (.inl (st (t+1))):=by
  intro t ht;show cW ((n:Int),(t:Int),B++(List.range t).map (λ(t:Nat)=>((-1,(t:Int)):PID)),())=_;unfold cW;dsimp only;rw[oDT (show(t:Int)<n by omega),oCT];rw[bx (by rw[List.length_append,List.length_map,List.length_range];omega) (by simp) (by omega) (by rw[List.length_append,List.length_map,List.length_range,List.length_singleton];omega),oCT,bA (by omega) (by omega)]
  have e:List.append (B++(List.range t).map (λ(t:Nat)=>((-1,(t:Int)):PID))) [(-1,(t:Int))]=B++(List.range (t+1)).map (λ(t:Nat)=>((-1,(t:Int)):PID)):=by
   rw[mN,<- List.append_assoc];rfl
  rw[e];rfl
 have S8:cW (st n)=some (.inr ((n:Int),(n:Int),false,B++(List.range n).map (λ(t:Nat)=>((-1,(t:Int)):PID)),())):=by
  show cW ((n:Int),(n:Int),B++(List.range n).map (λ(t:Nat)=>((-1,(t:Int)):PID)),())=_;unfold cW;dsimp only;rw[oDF (show ¬(n:Int)<n by omega)];rfl
 have hT:=cj (f:=cW) st (n:=n) (N:=NN) (by unfold NN;omega) stepT S8
 have e0:st 0=((n:Int),0,B,()):=by
  show((n:Int),(0:Int),B++[],())=_;rw[List.append_nil]
 rw[e0]at hT;rw[hT];rfl
theorem L5{S:List Int}{n:Nat}(h:Szs S)(hn:n<=4):jw S n=some (pgs S n,0,()):=by
 unfold jw;have h4:=h.1;obtain⟨e,h1,h2⟩:=GD (S:=S) (n:=n) (by unfold Sm;omega);have e0:e=0:=h2.2 ⟨h.1,hn,h.2⟩;subst e0;rw[h1,oBS];simp only[bne_self_eq_false,oCF]
 have VX:∀i,i<S.length->dw (S,(n:Int),(i:Int),(List.range i).flatMap (oy S),())=some (.inl (S,(n:Int),((i+1:Nat):Int),(List.range (i+1)).flatMap (oy S),())):=by
  intro i hi;have hz:=Em h hi;have hl:=oA h i (by omega);have hc:=Cl h hi
  have eg:S.getD i 0=S[i]:=by simp[hi]
  unfold dw;delta bn;dsimp only;rw[oDT (show(i:Int)<S.length by omega),oCT]
  let A:=(List.range i).flatMap (oy S)
  let st:Nat->_:=λj=>(S,(n:Int),(i:Int),(j:Int),A++(List.range j).map (λ(j:Nat)=>(((i:Int),(j:Int)):PID)),())
  have VW:∀j,j<pH S[i]->cU (st j)=some (.inl (st (j+1))):=by
   intro j hj;show cU (S,(n:Int),(i:Int),(j:Int),A++(List.range j).map (λ(j:Nat)=>(((i:Int),(j:Int)):PID)),())=_;unfold cU;dsimp only;rw[eg]at hc;rw[bt];simp only[oBS,bz hi];rw[bA (x:=(j:Int)*8) (by omega) (by omega),oDT ((xS hz j).2 hj),oCT];have hA:A.length<=4*i:=hl;rw[bx (by rw[List.length_append,List.length_map,List.length_range];omega) (by simp) (by omega) (by rw[List.length_append,List.length_map,List.length_range,List.length_singleton];omega),oCT,bA (by omega) (by omega)]
   have e:List.append (A++(List.range j).map (λ(j:Nat)=>(((i:Int),(j:Int)):PID))) [((i:Int),(j:Int))]=A++(List.range (j+1)).map (λ(j:Nat)=>(((i:Int),(j:Int)):PID)):=by
    rw[mN,<- List.append_assoc];rfl
   rw[e];rfl
  have S6:cU (st (pH S[i]))=some (.inr (S,(n:Int),(i:Int),(pH S[i]:Int),false,A++(List.range (pH S[i])).map (λ(j:Nat)=>(((i:Int),(j:Int)):PID)),())):=by
   show cU (S,(n:Int),(i:Int),(pH S[i]:Int),A++(List.range (pH S[i])).map (λ(j:Nat)=>(((i:Int),(j:Int)):PID)),())=_;unfold cU;dsimp only;rw[eg]at hc;rw[bt];simp only[oBS,bz hi];rw[bA (x:=(pH S[i]:Int)*8) (by omega) (by omega),oDF (λg=>by have:=(xS hz _).1 g;omega)];rfl
  have hI:=cj (f:=cU) st (n:=pH S[i]) (N:=NN) (by rw[eg]at hc;unfold NN;omega) VW S6
  have e0:st 0=(S,(n:Int),(i:Int),0,(List.range i).flatMap (oy S),()):=by
   show(S,(n:Int),(i:Int),(0:Int),A++[],())=_;rw[List.append_nil]
  rw[<- e0,hI];simp only[oBS];rw[bA (by omega) (by omega),yJ]
  have er:(List.range (pH S[i])).map (λ(j:Nat)=>(((i:Int),(j:Int)):PID))=oy S i:=by unfold oy;rw[eg]
  rw[er];rfl
 have S7:dw (S,(n:Int),(S.length:Int),(List.range S.length).flatMap (oy S),())=some (.inr (S,(n:Int),(S.length:Int),false,(List.range S.length).flatMap (oy S),())):=by
  unfold dw;delta bn;dsimp only;rw[oDF (show ¬(S.length:Int)<S.length by omega)];rfl
 have hO:=cj (f:=dw) (λi=>(S,(n:Int),(i:Int),(List.range i).flatMap (oy S),())) (n:=S.length) (N:=NN) (by unfold NN;omega) VX S7;rw[show bu dw NN (S,(n:Int),0,[],())=_ from hO];simp only[oBS];have hl:=oA h S.length (Nat.le_refl _)
 let B:=(List.range S.length).flatMap (oy S)
 have hB:B.length<=4*S.length:=hl
 let st:Nat->_:=λt=>((n:Int),(t:Int),B++(List.range t).map (λ(t:Nat)=>((-1,(t:Int)):PID)),())
 have stepT:∀t,t<n->cT (st t)=some (.inl (st (t+1))):=by
  intro t ht;show cT ((n:Int),(t:Int),B++(List.range t).map (λ(t:Nat)=>((-1,(t:Int)):PID)),())=_;unfold cT;dsimp only;rw[oDT (show(t:Int)<n by omega),oCT];rw[bx (by rw[List.length_append,List.length_map,List.length_range];omega) (by simp) (by omega) (by rw[List.length_append,List.length_map,List.length_range,List.length_singleton];omega),oCT,bA (by omega) (by omega)]
  have e:List.append (B++(List.range t).map (λ(t:Nat)=>((-1,(t:Int)):PID))) [(-1,(t:Int))]=B++(List.range (t+1)).map (λ(t:Nat)=>((-1,(t:Int)):PID)):=by
   rw[mN,<- List.append_assoc];rfl
  rw[e];rfl
 have S8:cT (st n)=some (.inr ((n:Int),(n:Int),false,B++(List.range n).map (λ(t:Nat)=>((-1,(t:Int)):PID)),())):=by
  show cT ((n:Int),(n:Int),B++(List.range n).map (λ(t:Nat)=>((-1,(t:Int)):PID)),())=_;unfold cT;dsimp only;rw[oDF (show ¬(n:Int)<n by omega)];rfl
 have hT:=cj (f:=cT) st (n:=n) (N:=NN) (by unfold NN;omega) stepT S8
 have e0:st 0=((n:Int),0,B,()):=by
  show((n:Int),(0:Int),B++[],())=_;rw[List.append_nil]
 rw[e0]at hT;rw[hT];rfl
abbrev zTs:DTs:=(0,0,0,0,0,0,0,[])
def pg(C:CC)(T:TT')(p:PID):PG:=if p.1=-1 then(p.1,p.2,[],T.getD p.2.toNat zTs)else(p.1,p.2,((C.getD p.1.toNat []).drop (8*p.2.toNat)).take 8,zTs)
def SmT(T:TT'):Prop:=∀t∈T,Sm t.2.2.2.2.2.2.2
theorem KI{S:List Int}{i:Nat}{p:PID}:p∈oy S i↔∃j:Nat,j<pH (S.getD i 0)/\p=((i:Int),(j:Int)):=by
 unfold oy;simp only[List.mem_map,List.mem_range];exact⟨λ⟨j,h,e⟩=>⟨j,h,e.symm⟩,λ⟨j,h,e⟩=>⟨j,h,e.symm⟩⟩
theorem l7{S:List Int}{n:Nat}{p:PID}:p∈pgs S n↔(∃i j:Nat,i<S.length/\j<pH (S.getD i 0)/\p=((i:Int),(j:Int)))\/∃t:Nat,t<n/\p=(-1,(t:Int)):=by
 unfold pgs;simp only[List.mem_append,List.mem_flatMap,List.mem_range,KI,List.mem_map];constructor
 ·rintro(⟨i,hi,j,hj,e⟩|⟨t,ht,e⟩)
  ·exact .inl ⟨i,j,hi,hj,e⟩
  ·exact .inr ⟨t,ht,e.symm⟩
 ·rintro(⟨i,j,hi,hj,e⟩|⟨t,ht,e⟩)
  ·exact .inl ⟨i,hi,j,hj,e⟩
  ·exact .inr ⟨t,ht,e.symm⟩
theorem rY{S:List Int}{n:Nat}(h:Szs S)(hn:n<=4):(pgs S n).length<=20:=by
 have h1:=oA h S.length (Nat.le_refl _);have h2:=h.1;unfold pgs;rw[List.length_append,List.length_map,List.length_range];omega
theorem qo{C:CC}{T:TT'}(h:shp C T):Szs (szs C):=⟨by rw[eP];exact h.1,(vq.2 h).2.2⟩
theorem wU{a:List DCn}(h:Sm a):cC a=some (a,()):=by
 unfold cC;rw[bx (by omega) h (by omega) (by have:=h;omega),oCT];rfl
theorem rk{C:CC}{i:Nat}(h:i<C.length):(szs C).getD i 0=(C[i].length:Int):=by simp[szs,h]
theorem Eh{l:List DCn}{a:Nat}(h:a<=l.length):zu l a (Nat.sub (Nat.min (a+8) l.length) a)=(l.drop a).take 8:=by
 unfold zu;rcases Nat.le_total (a+8) l.length with h1|h1
 ·rw[show Nat.min (a+8) l.length=a+8 from Nat.min_eq_left h1,show Nat.sub (a+8) a=8 by show a+8-a=8;omega]
 ·rw[show Nat.min (a+8) l.length=l.length from Nat.min_eq_right h1,show Nat.sub l.length a=(l.drop a).length by rw[List.length_drop];rfl,List.take_length,List.take_of_length_le (by rw[List.length_drop];omega)]
theorem zX(a b:Nat):mmR false (a:Int) (b:Int)=(Nat.min a b:Nat):=by
 unfold mmR;simp only[Bool.false_eq_true,if_false];show _=((min a b:Nat):Int);split<;>omega
theorem FT{c:List DCn}{j:Nat}(h:j<pH (c.length:Int)):8*j<c.length:=by
 unfold pH at h;omega
theorem xK{C:CC}{T:TT'}{i j:Nat}(hi:i<C.length):pg C T ((i:Int),(j:Int))=((i:Int),(j:Int),((C[i].drop (8*j)).take 8),zTs):=by
 unfold pg;rw[oIN (by simp)];simp[hi]
theorem l6{C:CC}{T:TT'}{t:Nat}(ht:t<T.length):pg C T (-1,(t:Int))=(-1,(t:Int),[],T[t]):=by
 unfold pg;rw[oIP rfl];simp[ht]
def Mi(x:PG):Int×Int×List DCn×Int×Int×Int×Int×Int×Int×Int×List DCn×Unit:=(x.1,x.2.1,x.2.2.1,x.2.2.2.1,x.2.2.2.2.1,x.2.2.2.2.2.1,x.2.2.2.2.2.2.1,x.2.2.2.2.2.2.2.1,x.2.2.2.2.2.2.2.2.1,x.2.2.2.2.2.2.2.2.2.1,x.2.2.2.2.2.2.2.2.2.2,())
theorem Mf{C:CC}{T:TT'}(h:shp C T)(hT:SmT T){p:PID}(hp:p∈pgs (szs C) T.length):gU C T p.1 p.2=some (Mi (pg C T p)):=by
 unfold gU
 rcases l7.1 hp with⟨i,j,hi,hj,rfl⟩|⟨t,ht,rfl⟩
 ·rw[eP]at hi;rw[rk hi]at hj;have ZT:=FT hj;have hok:=of_decide_eq_true (h.2.2 _ (List.getElem_mem hi));rw[oBF (show((i:Int))≠-1 by omega),oCF,bt];simp only[oBS,bz hi];unfold ej;delta bn;dsimp only;rw[oDF (show ¬(j:Int)<0 by omega),oCF,oDF (show ¬(j:Int)>32 by omega),oCF];simp only[oBS];rw[bA (x:=(j:Int)*8) (by omega) (by omega),oDF (show ¬(j:Int)*8>=(C[i].length:Int) by omega),oCF,bA (x:=(j:Int)*8+8) (by omega) (by omega)];rw[show(j:Int)*8=((8*j:Nat):Int) by omega,show((8*j:Nat):Int)+8=((8*j+8:Nat):Int) by omega,zX,bt,bt];simp only[oBS]
  have ho:fZ (8*j) (Nat.min (8*j+8) C[i].length) C[i].length=true:=by
   unfold fZ;have h1:Nat.min (8*j+8) C[i].length=min (8*j+8) C[i].length:=rfl;rw[h1];simp only[oBA,oDE];omega
  rw[ho,oCT,Eh (by omega)];simp only[oBS];rw[wU (by unfold Sm;rw[oLT];omega),xK hi];rfl
 ·have hs:Sm (T[t]'ht).2.2.2.2.2.2.2:=hT _ (List.getElem_mem ht);rw[show((-1:Int)==-1)=true from rfl,oCT,bt];simp only[oBS,bz ht];unfold gt;rw[wU hs,l6 ht];rfl
theorem KS{C:CC}{T:TT'}(h:shp C T)(hT:SmT T){p:PID}(hp:p∈pgs (szs C) T.length):ew C T p.1 p.2=some ((pg C T p).1,(pg C T p).2.1,(pg C T p).2.2.1,(pg C T p).2.2.2.1,(pg C T p).2.2.2.2.1,(pg C T p).2.2.2.2.2.1,(pg C T p).2.2.2.2.2.2.1,(pg C T p).2.2.2.2.2.2.2.1,(pg C T p).2.2.2.2.2.2.2.2.1,(pg C T p).2.2.2.2.2.2.2.2.2.1,(pg C T p).2.2.2.2.2.2.2.2.2.2,0,()):=by
 unfold ew;have h4:=h.1;rw[kQ (by unfold Sm;omega),oBS];dsimp only;rw[oDT h];simp only[oNT,oCF]
 rcases l7.1 hp with⟨i,j,hi,hj,rfl⟩|⟨t,ht,rfl⟩
 ·rw[eP]at hi;rw[rk hi]at hj;have ZT:=FT hj;have hok:=of_decide_eq_true (h.2.2 _ (List.getElem_mem hi));rw[oBF (show((i:Int))≠-1 by omega),oCF];delta bn;dsimp only;rw[oDF (show ¬(i:Int)<0 by omega),oCF,oDF (show ¬(i:Int)>=C.length by omega),oCF,oDF (show ¬(j:Int)<0 by omega),oCF,oDF (show ¬(j:Int)>32 by omega),oCF];rw[bt];simp only[oBS,bz hi];rw[bA (x:=(j:Int)*8) (by omega) (by omega),oDF (show ¬(j:Int)*8>=(C[i].length:Int) by omega),oCF,bt];simp only[oBS,bz hi];rw[bA (x:=(j:Int)*8+8) (by omega) (by omega)];rw[show(j:Int)*8=((8*j:Nat):Int) by omega,show((8*j:Nat):Int)+8=((8*j+8:Nat):Int) by omega,zX,bt,bt];simp only[oBS]
  have ho:fZ (8*j) (Nat.min (8*j+8) C[i].length) C[i].length=true:=by
   unfold fZ;have h1:Nat.min (8*j+8) C[i].length=min (8*j+8) C[i].length:=rfl;rw[h1];simp only[oBA,oDE];omega
  rw[ho,oCT,Eh (by omega),bx (by omega) (by rw[oLT];omega) (by omega) (by rw[oLT];omega),oCT,xK hi];rfl
 ·have hs:Sm (T[t]'ht).2.2.2.2.2.2.2:=hT _ (List.getElem_mem ht);rw[show((-1:Int)==-1)=true from rfl,oCT];delta bn;dsimp only;rw[oDF (show ¬(t:Int)<0 by omega),oCF,oDF (show ¬(t:Int)>=T.length by omega),oCF,bt];simp only[oBS,bz ht];unfold dK;rw[bx (by omega) hs (by omega) (by have:=hs;omega),oCT,l6 ht];rfl
theorem GS{C:CC}{T:TT'}(h:shp C T)(hT:SmT T):fY C T=some ((pgs (szs C) T.length).map (pg C T),0,()):=by
 unfold fY;have h4:=h.1
 have hS:Sm C:=by unfold Sm;omega
 rw[rn hS,oBS];dsimp only;rw[oDT h];simp only[oNT,oCF];rw[rL hS,oBS];delta bn;dsimp only;rw[L4 (qo h) h.2.1,oBS];dsimp only;have hlen:=rY (qo h) h.2.1;have hg:∀p∈pgs (szs C) T.length,gU C T p.1 p.2=some (Mi (pg C T p)):=λp hp=>Mf h hT hp;generalize pgs (szs C) T.length=ps at hlen hg⊢
 have step:∀i,i<ps.length->dM ((ps.length:Int),(i:Int),C,T,ps,(ps.take i).map (pg C T),())=some (.inl ((ps.length:Int),((i+1:Nat):Int),C,T,ps,(ps.take (i+1)).map (pg C T),())):=by
  intro i hi;unfold dM;dsimp only;rw[oDT (show(i:Int)<ps.length by omega),oCT,bt];simp only[oBS,bz hi,hg _ (List.getElem_mem hi)];rw[bx (by rw[List.length_map,oLT];omega) (by simp) (by omega) (by rw[List.length_map,oLT,List.length_singleton];omega),oCT,bA (by omega) (by omega),<- ga hi];rfl
 have fin:dM ((ps.length:Int),(ps.length:Int),C,T,ps,(ps.take ps.length).map (pg C T),())=some (.inr ((ps.length:Int),(ps.length:Int),false,C,T,ps,(ps.take ps.length).map (pg C T),())):=by
  unfold dM;dsimp only;rw[oDF (show ¬(ps.length:Int)<ps.length by omega)];rfl
 have:=cj (f:=dM) (λi=>((ps.length:Int),(i:Int),C,T,ps,(ps.take i).map (pg C T),())) (n:=ps.length) (N:=NN) (by unfold NN;omega) step fin;rw[show bu dM NN ((ps.length:Int),0,C,T,ps,[],())=_ from this,List.take_length];rfl
theorem GR{C:CC}{T:TT'}(h:¬shp C T)(hS:Sm C):fY C T=some ([],1,()):=by
 unfold fY;rw[rn hS,oBS];dsimp only;rw[oDF h];rfl
theorem Mz{C:CC}{T:TT'}(h:shp C T)(hT:SmT T):jb C T=some ((pgs (szs C) T.length).map (pg C T),0,()):=by
 unfold jb;have h4:=h.1
 have hS:Sm C:=by unfold Sm;omega
 rw[pM hS,oBS];delta bn;dsimp only;rw[L5 (qo h) h.2.1,oBS];dsimp only;simp only[bne_self_eq_false,oCF];have hlen:=rY (qo h) h.2.1;have hg:=λp hp=>KS h hT (p:=p) hp;generalize pgs (szs C) T.length=ps at hlen hg⊢
 have step:∀i,i<ps.length->dL ((i:Int),C,T,ps,(ps.take i).map (pg C T),())=some (.inl (((i+1:Nat):Int),C,T,ps,(ps.take (i+1)).map (pg C T),())):=by
  intro i hi;unfold dL;delta bn;dsimp only;rw[oDT (show(i:Int)<ps.length by omega),oCT,bt];simp only[oBS,bz hi,hg _ (List.getElem_mem hi)];rw[bx (by rw[List.length_map,oLT];omega) (by simp) (by omega) (by rw[List.length_map,oLT,List.length_singleton];omega),oCT,bA (by omega) (by omega),<- ga hi];rfl
 have fin:dL ((ps.length:Int),C,T,ps,(ps.take ps.length).map (pg C T),())=some (.inr ((ps.length:Int),false,C,T,ps,(ps.take ps.length).map (pg C T),())):=by
  unfold dL;delta bn;dsimp only;rw[oDF (show ¬(ps.length:Int)<ps.length by omega)];rfl
 have:=cj (f:=dL) (λi=>((i:Int),C,T,ps,(ps.take i).map (pg C T),())) (n:=ps.length) (N:=NN) (by unfold NN;omega) step fin;rw[show bu dL NN (0,C,T,ps,[],())=_ from this,List.take_length];rfl
def uz(C:CC)(T:TT')(D:CC)(U:TT'):Prop:=shp C T/\shp D U/\szs C=szs D/\T.length=U.length
instance {C:CC} {T:TT'} {D:CC} {U:TT'}:Decidable (uz C T D U):=inferInstanceAs (Decidable (_/\_/\_/\_))
def dif(C:CC)(T:TT')(D:CC)(U:TT'):List PID:=(pgs (szs C) T.length).filter λp=>!decide (pg C T p=pg D U p)
theorem rJ{α:Type}{q:α->Bool}{l:List α}{i:Nat}(h:i<l.length):(l.take (i+1)).filter q=(l.take i).filter q++bif q l[i]then[l[i]]else[]:=by
 rw[<- kK h,List.filter_append];congr 1
theorem KE{C:CC}{T:TT'}(p:PID):((pg C T p).1,(pg C T p).2.1)=p:=by
 unfold pg;split<;>rfl
theorem JY{C:CC}{T:TT'}(h:shp C T)(hT:SmT T){p:PID}(hp:p∈pgs (szs C) T.length):Sm (pg C T p).2.2.1/\Sm (pg C T p).2.2.2.2.2.2.2.2.2.2:=by
 rcases l7.1 hp with⟨i,j,hi,hj,rfl⟩|⟨t,ht,rfl⟩
 ·rw[eP]at hi;rw[xK hi];exact⟨by unfold Sm;rw[oLT];omega,by unfold Sm;simp⟩
 ·rw[l6 ht];exact⟨by unfold Sm;simp,hT _ (List.getElem_mem ht)⟩
theorem Gv{C:CC}{T:TT'}{D:CC}{U:TT'}(h:shp C T):(dif C T D U).length<=20:=Nat.le_trans (List.length_filter_le _ _) (rY (qo h) h.2.1)
theorem zd{C:CC}{T:TT'}{D:CC}{U:TT'}(h:uz C T D U)(hT:SmT T)(hU:SmT U):d5 C T D U=some (dif C T D U,0,()):=by
 unfold d5;obtain⟨h1,h2,h3,h4⟩:=h;have k1:=h1.1;have k2:=h2.1
 have hC:Sm C:=by unfold Sm;omega
 have hD:Sm D:=by unfold Sm;omega
 rw[GS h1 hT,oBS];dsimp only;rw[GS h2 hU,oBS];dsimp only;simp only[bne_self_eq_false,oCF];rw[rL hC,oBS];dsimp only;rw[rL hD,oBS];dsimp only;rw[JA (by unfold Sm;rw[eP];omega),oBS,oDT h3];delta bn;simp only[oNT,oCF,oBS];rw[oF h4,oCF,<- h3,<- h4];unfold dif;have hlen:=rY (qo h1) h1.2.1;have hm:∀p∈pgs (szs C) T.length,Sm (pg C T p).2.2.1/\Sm (pg C T p).2.2.2.2.2.2.2.2.2.2:=λp hp=>JY h1 hT hp;generalize pgs (szs C) T.length=ps at hlen hm⊢;rw[List.length_map]
 have step:∀i,i<ps.length->cA ((ps.length:Int),(i:Int),ps.map (pg C T),ps.map (pg D U),(ps.take i).filter (λp=>!decide (pg C T p=pg D U p)),())=
  some (.inl ((ps.length:Int),((i+1:Nat):Int),ps.map (pg C T),ps.map (pg D U),(ps.take (i+1)).filter (λp=>!decide (pg C T p=pg D U p)),())):=by
  intro i hi
  have UF:i<(ps.map (pg C T)).length:=by rw[List.length_map];exact hi
  have hi2:i<(ps.map (pg D U)).length:=by rw[List.length_map];exact hi
  obtain⟨m1,m2⟩:=hm _ (List.getElem_mem hi);unfold cA;dsimp only;rw[oDT (show(i:Int)<ps.length by omega),oCT,bt];simp only[oBS,bz UF,bz hi2,List.getElem_map];rw[KV m1 m2];simp only[oBS];rw[rJ hi];by_cases e:pg C T ps[i]=pg D U ps[i]
  ·rw[oDT e];simp only[oNT,oCF,oBS,List.append_nil];rw[bA (by omega) (by omega)];rfl
  ·rw[oDF e];simp only[Bool.not_false,oCT,oBS];have hf:=List.length_filter_le (λp=>!decide (pg C T p=pg D U p)) (ps.take i);rw[oLT]at hf;rw[bx (Nat.le_trans hf (by omega)) (by simp) (by omega) (Nat.le_trans (Nat.add_le_add_right hf _) (by rw[List.length_singleton];omega)),oCT,KE];simp only[oBS];rw[bA (by omega) (by omega)];rfl
 have fin:cA ((ps.length:Int),(ps.length:Int),ps.map (pg C T),ps.map (pg D U),(ps.take ps.length).filter (λp=>!decide (pg C T p=pg D U p)),())=
  some (.inr ((ps.length:Int),(ps.length:Int),false,ps.map (pg C T),ps.map (pg D U),(ps.take ps.length).filter (λp=>!decide (pg C T p=pg D U p)),())):=by
  unfold cA;dsimp only;rw[oDF (show ¬(ps.length:Int)<ps.length by omega)];rfl
 have:=cj (f:=cA) (λi=>((ps.length:Int),(i:Int),ps.map (pg C T),ps.map (pg D U),(ps.take i).filter (λp=>!decide (pg C T p=pg D U p)),())) (n:=ps.length) (N:=NN) (by unfold NN;omega) step fin;rw[show bu cA NN ((ps.length:Int),0,ps.map (pg C T),ps.map (pg D U),[],())=_ from this,List.take_length];rfl
theorem D0{C:CC}{T:TT'}{D:CC}{U:TT'}(h:¬uz C T D U)(hC:Sm C)(hD:Sm D)(hT:SmT T)(hU:SmT U):d5 C T D U=some ([],1,()):=by
 unfold d5;by_cases h1:shp C T
 rotate_left
 ·rw[GR h1 hC,oBS];dsimp only;by_cases h2:shp D U
  ·rw[GS h2 hU];rfl
  ·rw[GR h2 hD];rfl
 rw[GS h1 hT,oBS];dsimp only;by_cases h2:shp D U
 rotate_left
 ·rw[GR h2 hD];rfl
 rw[GS h2 hU,oBS];dsimp only;simp only[bne_self_eq_false,oCF];rw[rL hC,oBS];dsimp only;rw[rL hD,oBS];dsimp only;rw[JA (by unfold Sm;rw[eP];exact hC),oBS];by_cases h3:szs C=szs D
 rotate_left
 ·rw[oDF h3];rfl
 rw[oDT h3];delta bn;simp only[oNT,oCF,oBS];rw[kR λh4=>h ⟨h1,h2,h3,h4⟩];rfl
theorem ze{C:CC}{T:TT'}{D:CC}{U:TT'}(h:uz C T D U)(hT:SmT T)(hU:SmT U):dZ C T D U=some (dif C T D U,0,()):=by
 unfold dZ;obtain⟨h1,h2,h3,h4⟩:=h;have k1:=h1.1;have k2:=h2.1
 have hC:Sm C:=by unfold Sm;omega
 have hD:Sm D:=by unfold Sm;omega
 rw[kQ hC,oDT h1,oBS];dsimp only;rw[kQ hD,oDT h2,oBS];simp only[oNT,oCF];rw[pM hC,oBS];dsimp only;rw[pM hD,oBS];dsimp only;rw[xC (by unfold Sm;rw[eP];omega),oBS,oDT h3];delta bn;simp only[oNT,oCF,oBS];rw[oF h4,oCF,Mz h1 hT,oBS];dsimp only;rw[Mz h2 hU,oBS,<- h3,<- h4];dsimp only;unfold dif;have hlen:=rY (qo h1) h1.2.1;have hm:∀p∈pgs (szs C) T.length,Sm (pg C T p).2.2.1/\Sm (pg C T p).2.2.2.2.2.2.2.2.2.2:=λp hp=>JY h1 hT hp;generalize pgs (szs C) T.length=ps at hlen hm⊢
 have step:∀i,i<ps.length->cx ((i:Int),ps.map (pg C T),ps.map (pg D U),(ps.take i).filter (λp=>!decide (pg C T p=pg D U p)),())=
  some (.inl (((i+1:Nat):Int),ps.map (pg C T),ps.map (pg D U),(ps.take (i+1)).filter (λp=>!decide (pg C T p=pg D U p)),())):=by
  intro i hi
  have UF:i<(ps.map (pg C T)).length:=by rw[List.length_map];exact hi
  have hi2:i<(ps.map (pg D U)).length:=by rw[List.length_map];exact hi
  obtain⟨m1,m2⟩:=hm _ (List.getElem_mem hi);unfold cx;delta bn;dsimp only;rw[oDT (show(i:Int)<((ps.map (pg C T)).length:Int) by omega),oCT,bt];simp only[oBS,bz UF,bz hi2,List.getElem_map];rw[Gr m1 m2];simp only[oBS];rw[rJ hi];by_cases e:pg C T ps[i]=pg D U ps[i]
  ·rw[oDT e];simp only[oNT,oCF,oBS,List.append_nil];rw[bA (by omega) (by omega)];rfl
  ·rw[oDF e];simp only[Bool.not_false,oCT,oBS];have hf:=List.length_filter_le (λp=>!decide (pg C T p=pg D U p)) (ps.take i);rw[oLT]at hf;rw[bx (Nat.le_trans hf (by omega)) (by simp) (by omega) (Nat.le_trans (Nat.add_le_add_right hf _) (by rw[List.length_singleton];omega)),oCT,KE];simp only[oBS];rw[bA (by omega) (by omega)];rfl
 have fin:cx ((ps.length:Int),ps.map (pg C T),ps.map (pg D U),(ps.take ps.length).filter (λp=>!decide (pg C T p=pg D U p)),())=
  some (.inr ((ps.length:Int),false,ps.map (pg C T),ps.map (pg D U),(ps.take ps.length).filter (λp=>!decide (pg C T p=pg D U p)),())):=by
  unfold cx;delta bn;dsimp only;rw[oDF (show ¬(ps.length:Int)<((ps.map (pg C T)).length:Int) by rw[List.length_map];omega)];rfl
 have:=cj (f:=cx) (λi=>((i:Int),ps.map (pg C T),ps.map (pg D U),(ps.take i).filter (λp=>!decide (pg C T p=pg D U p)),())) (n:=ps.length) (N:=NN) (by unfold NN;omega) step fin;rw[show bu cx NN (0,ps.map (pg C T),ps.map (pg D U),[],())=_ from this,List.take_length];rfl
theorem D1{C:CC}{T:TT'}{D:CC}{U:TT'}(h:¬uz C T D U)(hC:Sm C)(hD:Sm D):dZ C T D U=some ([],1,()):=by
 unfold dZ;rw[kQ hC,oBS];dsimp only;by_cases h1:shp C T
 rotate_left
 ·rw[oDF h1];rfl
 rw[oDT h1];simp only[oNT,oCF];rw[kQ hD,oBS];dsimp only;by_cases h2:shp D U
 rotate_left
 ·rw[oDF h2];rfl
 rw[oDT h2];simp only[oNT,oCF];rw[pM hC,oBS];dsimp only;rw[pM hD,oBS];dsimp only;rw[xC (by unfold Sm;rw[eP];exact hC),oBS];by_cases h3:szs C=szs D
 rotate_left
 ·rw[oDF h3];rfl
 rw[oDT h3];delta bn;simp only[oNT,oCF,oBS];rw[kR λh4=>h ⟨h1,h2,h3,h4⟩];rfl
theorem L0{x n:Int}(hn:0<n)(Wf:n<=1099511627776):∃y,ol x n=some (y,())/\0<=y/\y<n:=by
 unfold ol nQ;rw[bne_iff_ne.2 (show n≠0 by omega),oCT];have h1:=Int.lt_tmod_of_pos x hn;have h2:=Int.tmod_lt_of_pos x hn;dsimp only;by_cases h:Int.tmod x n<0
 ·rw[oDT h,oCT,bA (by omega) (by omega)];exact⟨_,rfl,by omega,by omega⟩
 ·rw[oDF h,oCF];exact⟨_,rfl,by omega,by omega⟩
theorem eH{n:Int}(hn:0<n)(Wf:n<=1099511627776){l:List Int}(hl:l.length<=400){k:Int}(hk:0<=k):∃x k',bq n l k=some (x,l,k',())/\0<=x/\x<n/\0<=k':=by
 unfold bq;delta bn;dsimp only;by_cases h:k>=l.length
 ·rw[oDT h,oCT];exact⟨0,k,rfl,by omega,hn,hk⟩
 ·rw[oDF h,oCF,bA (x:=k+1) (by omega) (by omega),bA (by omega) (by omega)];obtain⟨i,rfl⟩:∃i:Nat,k=i:=⟨k.toNat,by omega⟩
  have hi:i<l.length:=by omega
  rw[show(i:Int)+1-1=i by omega,bt];simp only[oBS,bz hi];obtain⟨y,e,h1,h2⟩:=L0 (x:=l[i]) hn Wf;rw[e];exact⟨y,(i:Int)+1,rfl,h1,h2,by omega⟩
theorem GE{l:List Int}(hl:l.length<=400){k:Int}(hk:0<=k):∃(c:DCn)(k':Int),fa l k=some (c.1,c.2.1,c.2.2.1,c.2.2.2,l,k',())/\0<=k':=by
 unfold fa;obtain⟨x,k1,e,_,_,h1⟩:=eH (n:=5) (by omega) (by omega) hl hk;rw[e];simp only[oBS];by_cases h:x=4
 ·rw[beq_iff_eq.2 h,oCT];obtain⟨x2,k2,e,_,_,h2⟩:=eH (n:=3) (by omega) (by omega) hl h1;rw[e];simp only[oBS];obtain⟨x3,k3,e,_,_,h3⟩:=eH (n:=8) (by omega) (by omega) hl h2;rw[e];exact⟨(1,0,x2,x3),k3,rfl,h3⟩
 ·rw[oBF h,oCF];obtain⟨x2,k2,e,_,_,h2⟩:=eH (n:=40) (by omega) (by omega) hl h1;rw[e];exact⟨(0,wk .u16 x2,0,0),k2,rfl,h2⟩
theorem Ji{l:List Int}(hl:l.length<=400){k:Int}(hk:0<=k):∃(v:DTs)(k':Int),iq l k=some (v.1,v.2.1,v.2.2.1,v.2.2.2.1,v.2.2.2.2.1,v.2.2.2.2.2.1,v.2.2.2.2.2.2.1,v.2.2.2.2.2.2.2,l,k',())/\v.2.2.2.2.2.2.2.length<=8/\0<=k':=by
 unfold iq;obtain⟨x1,k1,e,_,_,h1⟩:=eH (n:=5) (by omega) (by omega) hl hk;rw[e];simp only[oBS];obtain⟨x2,k2,e,_,_,h2⟩:=eH (n:=20) (by omega) (by omega) hl h1;rw[e];simp only[oBS];obtain⟨x3,k3,e,_,_,h3⟩:=eH (n:=30) (by omega) (by omega) hl h2;rw[e];simp only[oBS];obtain⟨x4,k4,e,_,_,h4⟩:=eH (n:=4) (by omega) (by omega) hl h3;rw[e];simp only[oBS];obtain⟨x5,k5,e,_,_,h5⟩:=eH (n:=4) (by omega) (by omega) hl h4;rw[e];simp only[oBS];obtain⟨x6,k6,e,_,_,h6⟩:=eH (n:=7) (by omega) (by omega) hl h5;rw[e];simp only[oBS];obtain⟨x7,k7,e,_,_,h7⟩:=eH (n:=9) (by omega) (by omega) hl h6;rw[e];simp only[oBS]
 let st:Int->Int->List DCn->_:=λi k r=>(i,l,k,(0:Int),(0:Int),(0:Int),(0:Int),(0:Int),(0:Int),(0:Int),(),x1,x2,x3,w64 (x4-1),w64 (x5-1),x6,wk .u16 x7,r,())
 have step:∀(i:Nat)(k:Int)(r:List DCn),0<=k->r.length=i->i<8->∃(k':Int)(r':List DCn),0<=k'/\r'.length=i+1/\dX (st i k r)=some (.inl (st ((i+1:Nat):Int) k' r')):=by
  intro i k r hk hr hi;show ∃(k':Int)(r':List DCn),0<=k'/\r'.length=i+1/\dX ((i:Int),l,k,0,0,0,0,0,0,0,(),x1,x2,x3,w64 (x4-1),w64 (x5-1),x6,wk .u16 x7,r,())=_;unfold dX;dsimp only;rw[oDT (show(i:Int)<8 by omega),oCT];obtain⟨c,k',e,YX⟩:=GE hl hk;rw[e];simp only[oBS];rw[bx (by omega) (by simp) (by omega) (by rw[List.length_singleton];omega),oCT,bA (by omega) (by omega)];exact⟨k',r++[c],YX,by rw[List.length_append,List.length_singleton,hr],rfl⟩
 have go:∀j i:Nat,i+j=8->∀(k:Int)(r:List DCn),0<=k->r.length=i->∀N,j<N->∃k' r',0<=k'/\r'.length=8/\bu dX N (st i k r)=some (8,false,l,k',0,0,0,0,0,0,0,(),x1,x2,x3,w64 (x4-1),w64 (x5-1),x6,wk .u16 x7,r',()):=by
  intro j
  induction j with
  |zero=>
   intro i hi k r hk hr N hN;obtain⟨N,rfl⟩:∃m,N=m+1:=⟨N-1,by omega⟩;refine⟨k,r,hk,by omega,?_⟩
   obtain rfl:i=8:=by omega
   rfl
  |succ j ih=>
   intro i hi k r hk hr N hN;obtain⟨N,rfl⟩:∃m,N=m+1:=⟨N-1,by omega⟩;obtain⟨k1,r1,YY,Z6,e⟩:=step i k r hk hr (by omega);obtain⟨k2,r2,YN,VN,e2⟩:=ih (i+1) (by omega) k1 r1 YY Z6 N (by omega);refine⟨k2,r2,YN,VN,?_⟩;simp only[bu,e,oBS];exact e2
 obtain⟨k8,r,hk8,hr,e⟩:=go 8 0 rfl k7 [] h7 rfl NN (by unfold NN;omega);rw[show bu dX NN (0,l,k7,0,0,0,0,0,0,0,(),x1,x2,x3,w64 (x4-1),w64 (x5-1),x6,wk .u16 x7,[],())=_ from e];exact⟨(x1,x2,x3,w64 (x4-1),w64 (x5-1),x6,wk .u16 x7,r),k8,rfl,by show r.length<=8;omega,hk8⟩
def Bs(C:CC)(T:TT'):Prop:=1<=C.length/\shp C T/\SmT T
theorem JW{l:List Int}(hl:l.length<=400){k:Int}(hk:0<=k):∃(C:CC)(T:TT')(k':Int),iN l k=some (C,T,l,k',())/\Bs C T/\0<=k':=by
 unfold iN;obtain⟨x1,k1,e,a1,b1,h1⟩:=eH (n:=3) (by omega) (by omega) hl hk;rw[e];simp only[oBS]
 have row:∀(j:Nat)(o:Int)(C:CC)(k:Int)(r:List DCn),0<=k->r.length+j<=32->∀N,j<N->∃k' r',0<=k'/\r'.length=r.length+j /\
  bu fV N (o,(j:Int)-1,l,k,(),(),C,(),r,())=some (o,-1,false,l,k',(),(),C,(),r',()):=by
  intro j o C
  induction j with
  |zero=>
   intro k r hk hr N hN;obtain⟨N,rfl⟩:∃m,N=m+1:=⟨N-1,by omega⟩;exact⟨k,r,hk,by omega,rfl⟩
  |succ j ih=>
   intro k r hk hr N hN;obtain⟨N,rfl⟩:∃m,N=m+1:=⟨N-1,by omega⟩;obtain⟨c,k1,e,YY⟩:=GE hl hk
   have e1:fV (o,((j+1:Nat):Int)-1,l,k,(),(),C,(),r,())=some (.inl (o,(j:Int)-1,l,k1,(),(),C,(),r++[c],())):=by
    unfold fV;dsimp only;rw[oDT (show((j+1:Nat):Int)-1>=0 by omega),oCT,e];simp only[oBS];rw[bx (by omega) (by simp) (by omega) (by rw[List.length_singleton];omega),oCT,bA (by omega) (by omega),show((j+1:Nat):Int)-1-1=(j:Int)-1 by omega];rfl
   obtain⟨k2,r2,YN,VN,e2⟩:=ih k1 (r++[c]) YY (by rw[List.length_append,List.length_singleton];omega) N (by omega);refine⟨k2,r2,YN,by rw[VN,List.length_append,List.length_singleton];omega,?_⟩;simp only[bu,e1,oBS];exact e2
 have P7:∀(j:Nat)(C:CC)(k:Int),0<=k->C.length+j<=4->(∀c∈C,okZ (c.length:Int)=true)->∀N,j<N->∃k' C',0<=k'/\C'.length=C.length+j/\(∀c∈C',okZ (c.length:Int)=true)/\
  bu fU N ((j:Int)-1,l,k,(),(),C,(),())=some (-1,false,l,k',(),(),C',(),()):=by
  intro j
  induction j with
  |zero=>
   intro C k hk hC ho N hN;obtain⟨N,rfl⟩:∃m,N=m+1:=⟨N-1,by omega⟩;exact⟨k,C,hk,by omega,ho,rfl⟩
  |succ j ih=>
   intro C k hk hC ho N hN;obtain⟨N,rfl⟩:∃m,N=m+1:=⟨N-1,by omega⟩;obtain⟨y,k1,e,ya,yb,YY⟩:=eH (n:=24) (by omega) (by omega) hl hk;obtain⟨k2,r,YN,hr,e2⟩:=row (y.toNat+1) (((j+1:Nat):Int)-1) C k1 [] YY (by rw[List.length_nil];omega) NN (by unfold NN;omega);rw[show((y.toNat+1:Nat):Int)-1=y by omega]at e2;rw[List.length_nil]at hr
   have e1:fU (((j+1:Nat):Int)-1,l,k,(),(),C,(),())=some (.inl ((j:Int)-1,l,k2,(),(),C++[r],(),())):=by
    unfold fU;dsimp only;rw[oDT (show((j+1:Nat):Int)-1>=0 by omega),oCT,e];simp only[oBS];rw[e2];simp only[oBS];rw[bx (by omega) (by simp) (by omega) (by rw[List.length_singleton];omega),oCT,bA (by omega) (by omega),show((j+1:Nat):Int)-1-1=(j:Int)-1 by omega];rfl
   obtain⟨k3,C3,Tw,hC3,X7,e3⟩:=ih (C++[r]) k2 YN (by rw[List.length_append,List.length_singleton];omega) (by
    intro c hc;rcases List.mem_append.1 hc with hc|hc
    ·exact ho c hc
    ·rw[List.mem_singleton.1 hc]
     exact oDT (by omega)) N (by omega)
   refine⟨k3,C3,Tw,by rw[hC3,List.length_append,List.length_singleton];omega,X7,?_⟩;simp only[bu,e1,oBS];exact e3
 obtain⟨k2,C,YN,hC,ho,e2⟩:=P7 (x1.toNat+1) [] k1 h1 (by rw[List.length_nil];omega) (by simp) NN (by unfold NN;omega);rw[show((x1.toNat+1:Nat):Int)-1=x1 by omega]at e2;rw[List.length_nil]at hC;rw[e2];simp only[oBS];obtain⟨x3,k3,e,a3,b3,h3⟩:=eH (n:=4) (by omega) (by omega) hl YN;rw[e];simp only[oBS]
 have ths:∀(j:Nat)(T:TT')(k:Int),0<=k->T.length+j<=4->SmT T->∀N,j<N->∃k' T',0<=k'/\T'.length=T.length+j/\SmT T' /\
  bu fT N ((j:Int),l,k,(),(),C,T,())=some (0,false,l,k',(),(),C,T',()):=by
  intro j
  induction j with
  |zero=>
   intro T k hk hT hs N hN;obtain⟨N,rfl⟩:∃m,N=m+1:=⟨N-1,by omega⟩;exact⟨k,T,hk,by omega,hs,rfl⟩
  |succ j ih=>
   intro T k hk hT hs N hN;obtain⟨N,rfl⟩:∃m,N=m+1:=⟨N-1,by omega⟩;obtain⟨v,k1,e,hv,YY⟩:=Ji hl hk
   have e1:fT (((j+1:Nat):Int),l,k,(),(),C,T,())=some (.inl ((j:Int),l,k1,(),(),C,T++[v],())):=by
    unfold fT;dsimp only;rw[oDT (show((j+1:Nat):Int)>0 by omega),oCT,e];simp only[oBS];rw[bx (by omega) (by simp) (by omega) (by rw[List.length_singleton];omega),oCT,bA (by omega) (by omega),show((j+1:Nat):Int)-1=(j:Int) by omega];rfl
   obtain⟨k3,T3,Tw,hT3,TI,e3⟩:=ih (T++[v]) k1 YY (by rw[List.length_append,List.length_singleton];omega) (by
    intro t ht;rcases List.mem_append.1 ht with ht|ht
    ·exact hs t ht
    ·rw[List.mem_singleton.1 ht];unfold Sm
     omega) N (by omega)
   refine⟨k3,T3,Tw,by rw[hT3,List.length_append,List.length_singleton];omega,TI,?_⟩;simp only[bu,e1,oBS];exact e3
 obtain⟨k4,T,hk4,hT,hs,e4⟩:=ths x3.toNat [] k3 h3 (by rw[List.length_nil];omega) (by intro t ht;simp at ht) NN (by unfold NN;omega);rw[show((x3.toNat:Nat):Int)=x3 by omega]at e4;rw[List.length_nil]at hT;rw[e4];exact⟨C,T,k4,rfl,⟨by omega,⟨by omega,by omega,ho⟩,hs⟩,hk4⟩
theorem wK{v:DTs}(h:Sm v.2.2.2.2.2.2.2):dK v.1 v.2.1 v.2.2.1 v.2.2.2.1 v.2.2.2.2.1 v.2.2.2.2.2.1 v.2.2.2.2.2.2.1 v.2.2.2.2.2.2.2=some (v.1,v.2.1,v.2.2.1,v.2.2.2.1,v.2.2.2.2.1,v.2.2.2.2.2.1,v.2.2.2.2.2.2.1,v.2.2.2.2.2.2.2,()):=by
 unfold dK;rw[bx (by omega) h (by omega) (by have:=h;omega),oCT];rfl
theorem JC{C:CC}{T:TT'}(h:shp C T)(hT:SmT T):dq C T=some (C,T,()):=by
 unfold dq;have h4:=h.1
 have step:∀i,i<C.length->bP ((i:Int),C,T,(),(),C.take i,(),())=some (.inl (((i+1:Nat):Int),C,T,(),(),C.take (i+1),(),())):=by
  intro i hi;have hok:=of_decide_eq_true (h.2.2 _ (List.getElem_mem hi));unfold bP;delta bn;dsimp only;rw[oDT (show(i:Int)<C.length by omega),oCT,bt];simp only[oBS,bz hi];rw[bx (by omega) (by omega) (by omega) (by omega),oCT,bx (by rw[oLT];omega) (by simp) (by omega) (by rw[oLT,List.length_singleton];omega),oCT,bA (by omega) (by omega),<- kK hi];rfl
 have fin:bP ((C.length:Int),C,T,(),(),C.take C.length,(),())=some (.inr ((C.length:Int),false,C,T,(),(),C.take C.length,(),())):=by
  unfold bP;delta bn;dsimp only;rw[oDF (show ¬(C.length:Int)<C.length by omega)];rfl
 have:=cj (f:=bP) (λi=>((i:Int),C,T,(),(),C.take i,(),())) (n:=C.length) (N:=NN) (by unfold NN;omega) step fin;rw[show bu bP NN (0,C,T,(),(),[],(),())=_ from this,List.take_length,oBS];dsimp only;have t4:=h.2.1
 have VV:∀i,i<T.length->bO ((i:Int),C,T,(),(),C,T.take i,())=some (.inl (((i+1:Nat):Int),C,T,(),(),C,T.take (i+1),())):=by
  intro i hi;unfold bO;delta bn;dsimp only;rw[oDT (show(i:Int)<T.length by omega),oCT,bt];simp only[oBS,bz hi,wK (hT _ (List.getElem_mem hi))];rw[bx (by rw[oLT];omega) (by simp) (by omega) (by rw[oLT,List.length_singleton];omega),oCT,bA (by omega) (by omega),<- kK hi];rfl
 have S5:bO ((T.length:Int),C,T,(),(),C,T.take T.length,())=some (.inr ((T.length:Int),false,C,T,(),(),C,T.take T.length,())):=by
  unfold bO;delta bn;dsimp only;rw[oDF (show ¬(T.length:Int)<T.length by omega)];rfl
 have:=cj (f:=bO) (λi=>((i:Int),C,T,(),(),C,T.take i,())) (n:=T.length) (N:=NN) (by unfold NN;omega) VV S5;rw[show bu bO NN (0,C,T,(),(),C,[],())=_ from this,List.take_length];rfl
def Ea(C:CC)(T:TT')(D:CC)(U:TT'):Prop:=szs D=szs C/\U.length=T.length/\SmT U
theorem mR{C:CC}{T:TT'}{D:CC}{U:TT'}(h:Ea C T D U)(hs:shp C T):shp D U:=by
 rw[<- vq,h.1,h.2.1];exact vq.2 hs
theorem uE{C D:CC}(h:szs D=szs C):D.length=C.length:=by rw[<- eP D,h,eP]
theorem CJ{C:CC}{i:Nat}{f:List DCn->List DCn}(h:∀c,(f c).length=c.length):szs (C.modify i f)=szs C:=by
 unfold szs;apply List.ext_getElem?;intro j;rw[List.getElem?_map,List.getElem?_map,List.getElem?_modify]
 cases C[j]? with
 |none=>simp
 |some c=>
  simp only[oMS];split
  ·simp[h]
  ·simp
theorem uH{T:TT'}{i:Nat}{v:DTs}(h:SmT T)(hv:Sm v.2.2.2.2.2.2.2):SmT (T.modify i λ_=>v):=by
 intro t ht;obtain⟨j,hj⟩:=List.mem_iff_getElem?.1 ht;rw[List.getElem?_modify]at hj
 cases e:T[j]? with
 |none=>rw[e]at hj;simp at hj
 |some u=>
  rw[e]at hj;have hj:some (if i=j then v else u)=some t:=hj
  injection hj with hj
  split at hj
  ·rw[<- hj];exact hv
  ·rw[<- hj];exact h _ (List.mem_of_getElem? e)
theorem Jt{C:CC}{T:TT'}(h:Bs C T){n:Int}(hn:0<=n)(Wf:n<6){l:List Int}(hl:l.length<=400){k:Int}(hk:0<=k):
 ∃(D:CC)(U:TT')(k':Int),ir C T n l k=some (D,U,l,k',())/\Ea C T D U/\0<=k':=by
 unfold ir;rw[JC h.2.1 h.2.2,oBS];dsimp only
 obtain⟨t,e,D,U,k',h1,h2,h3⟩:=uB (f:=i9) (λs=>∃(i:Nat)(k:Int)(D:CC)(U:TT'),s=(n,(i:Int),l,k,(),(),D,U,())/\(i:Int)<=n/\0<=k/\Ea C T D U)
  (λt=>∃(D:CC)(U:TT')(k:Int),t=(n,n,false,l,k,(),(),D,U,())/\0<=k/\Ea C T D U) (λs=>(n-s.2.1).toNat) (n:=NN) (s:=(n,0,l,k,(),(),C,T,())) ⟨0,k,C,T,rfl,hn,hk,rfl,rfl,h.2.2⟩ (by unfold NN;show(n-0).toNat<_;omega) (by
  rintro s ⟨i,k,D,U,rfl,hi,hk,hL⟩;unfold i9;delta bn;dsimp only;have hlD:=uE hL.1;have hD1:=h.1;have hD4:=h.2.1.1;have hU:=hL.2.1;have hU4:=h.2.1.2.1;by_cases hin:(i:Int)<n
  rotate_left
  ·rw[oDF hin]
   obtain rfl:(i:Int)=n:=by omega
   exact⟨_,rfl,D,U,k,rfl,hk,hL⟩
  rw[oDT hin,oCT]
  have QN:∀k0,0<=k0->Ok (((bq (↑D.length) l k0).bind λ(x10,x11,x12,_)=>
   (dO x10).bind λSr=>
   (cn D Sr).bind λx14=>
   (cn D Sr).bind λx15=>
   (dO x10).bind λP8=>
   (cn D P8).bind λx17=>
   (cn D P8).bind λx18=>
   (cn D P8).bind λx19=>
   (bq (↑x19.length) x11 x12).bind λ(x21,x22,x23,_)=>
   (fa x22 x23).bind λ(x24,x25,x26,x27,x28,x29,_)=>
   (dO x21).bind λP9=>
   (cn D Sr).bind λx31=>
   (cn x31 P9).bind λx32=>
   (cn D Sr).bind λx33=>
   (cn x33 P9).bind λx34=>
   some (n,(i:Int),x28,x29,(),(),(List.modify D Sr λe=>(List.modify e P9 λe=>(x24,(x25,(x26,x27))))),U,())):Option (Int×Int×(List (Int))×Int×Unit×Unit×(List (List DCn))×(List DTs)×Unit))
   λr=>∃(k':Int)(D':CC)(U':TT'),r=(n,(i:Int),l,k',(),(),D',U',())/\0<=k'/\Ea C T D' U':=by
   intro k0 hk0;dsimp only;obtain⟨y,k1,e,ya,yb,YY⟩:=eH (n:=(D.length:Int)) (by omega) (by omega) hl hk0;rw[e];obtain⟨a,rfl⟩:∃a:Nat,y=a:=⟨y.toNat,by omega⟩
   have ha:a<D.length:=by omega
   simp only[oBS,bt,bz ha];have hok:1<=(D[a].length:Int)/\(D[a].length:Int)<=32:=of_decide_eq_true ((mR hL h.2.1).2.2 _ (List.getElem_mem ha));obtain⟨z,k2,e,za,zb,YN⟩:=eH (n:=(D[a].length:Int)) (by omega) (by omega) hl YY;rw[e];obtain⟨b,rfl⟩:∃b:Nat,z=b:=⟨z.toNat,by omega⟩
   have hb:b<D[a].length:=by omega
   simp only[oBS];obtain⟨c,k3,e,Tw⟩:=GE hl YN;rw[e];simp only[oBS,bt,bz hb];exact⟨_,rfl,k3,_,U,rfl,Tw,(CJ λc=>oLM ..).trans hL.1,hL.2.1,hL.2.2⟩
  refine Ok.bind (P:=λr=>∃(k':Int)(D':CC)(U':TT'),r=(n,(i:Int),l,k',(),(),D',U',())/\0<=k'/\Ea C T D' U') ?_ ?_
  ·by_cases hp:(U.length:Int)>0
   rotate_left
   ·rw[oDF hp];exact QN k hk
   rw[oDT hp,oCT];obtain⟨y,k1,e,ya,yb,YY⟩:=eH (n:=3) (by omega) (by omega) hl hk;rw[e];simp only[oBS];by_cases h2:y=2
   rotate_left
   ·rw[oBF h2];exact QN k1 YY
   rw[beq_iff_eq.2 h2,oCT];obtain⟨z,k2,e,za,zb,YN⟩:=eH (n:=(U.length:Int)) (by omega) (by omega) hl YY;rw[e];obtain⟨a,rfl⟩:∃a:Nat,z=a:=⟨z.toNat,by omega⟩
   have ha:a<U.length:=by omega
   simp only[oBS];obtain⟨v,k3,e,hv,Tw⟩:=Ji hl YN;rw[e];simp only[oBS,bt,bz ha];exact⟨_,rfl,k3,D,_,rfl,Tw,hL.1,(oLM ..).trans hL.2.1,uH hL.2.2 (show v.2.2.2.2.2.2.2.length<=1099511627776 by omega)⟩
  ·rintro r ⟨k',D',U',rfl,YX,OD⟩;dsimp only;rw[bA (by omega) (by omega)]
   exact⟨_,rfl,⟨i+1,k',D',U',rfl,by omega,YX,OD⟩,by show(n-((i:Int)+1)).toNat<(n-(i:Int)).toNat;omega⟩)
 rw[e,h1];exact⟨D,U,k',rfl,h3,h2⟩
theorem M6(l:List Int):rj l=some (decide (l.length<=400),()):=by
 unfold rj;delta bn;dsimp only;congr 2;rw[decide_eq_decide];omega
theorem Cw{C:CC}{T:TT'}{D:CC}{U:TT'}{E:CC}{V:TT'}(h:Bs C T)(h1:Ea C T D U)(h2:Ea C T E V):uz D U E V:=
 ⟨mR h1 h.2.1,mR h2 h.2.1,h1.1.trans h2.1.symm,h1.2.1.trans h2.2.1.symm⟩
theorem FW{C:CC}{T:TT'}(h:Bs C T):Ea C T C T:=⟨rfl,rfl,h.2.2⟩
theorem Dt{C:CC}{T:TT'}{D:CC}{U:TT'}(h:Bs C T)(h1:Ea C T D U):Bs D U:=⟨by rw[uE h1.1];exact h.1,mR h1 h.2.1,h1.2.2⟩
theorem Ds{C:CC}{T:TT'}{D:CC}{U:TT'}{E:CC}{V:TT'}(h1:Ea C T D U)(h2:Ea D U E V):Ea C T E V:=⟨h2.1.trans h1.1,h2.2.1.trans h1.2.1,h2.2.2⟩
theorem vF{C:CC}{T:TT'}{D:CC}{U:TT'}{p:PID}:p∈dif C T D U↔p∈pgs (szs C) T.length/\pg C T p≠pg D U p:=by
 unfold dif;simp
theorem CM{c x:List DCn}{a:Nat}(h:a+x.length<=c.length):(lS c a x.length x).length=c.length:=by
 unfold lS;rw[List.take_length,List.length_append,List.length_append,oLT,List.length_drop,Nat.min_eq_left (by omega)];omega
theorem EZ{α:Type}{l:List α}{i:Nat}{x:α}:l.set i x=l.modify i λ_=>x:=by
 apply List.ext_getElem?;intro k;rw[List.getElem?_set,List.getElem?_modify];by_cases e:i=k
 ·subst e;by_cases h:i<l.length
  ·simp[h]
  ·simp[h]
 ·simp[e]
theorem Jr{c:List DCn}{j:Nat}(hc:c.length<=32)(h:8*j<c.length):ej c (j:Int)=some ((c.drop (8*j)).take 8,()):=by
 unfold ej;delta bn;dsimp only;rw[oDF (show ¬(j:Int)<0 by omega),oCF,oDF (show ¬(j:Int)>32 by omega),oCF];simp only[oBS];rw[bA (x:=(j:Int)*8) (by omega) (by omega),oDF (show ¬(j:Int)*8>=(c.length:Int) by omega),oCF,bA (x:=(j:Int)*8+8) (by omega) (by omega)];rw[show(j:Int)*8=((8*j:Nat):Int) by omega,show((8*j:Nat):Int)+8=((8*j+8:Nat):Int) by omega,zX,bt,bt];simp only[oBS]
 have ho:fZ (8*j) (Nat.min (8*j+8) c.length) c.length=true:=by
  unfold fZ;have h1:Nat.min (8*j+8) c.length=min (8*j+8) c.length:=rfl;rw[h1];simp only[oBA,oDE];omega
 rw[ho,oCT,Eh (by omega)]
theorem Mj{C:CC}{T:TT'}(h:shp C T){p:PID}(hp:p∈pgs (szs C) T.length):fh C T p.1 p.2=some (0,()):=by
 have h4:=h.1;unfold fh;rw[rn (show Sm C by unfold Sm;omega),oBS];dsimp only;rw[oDT h,oNT,oCF]
 have ht:fw C T p.1 p.2=some (true,()):=by
  unfold fw
  rcases l7.1 hp with⟨i,j,hi,hj,rfl⟩|⟨t,ht,rfl⟩
  ·rw[eP]at hi;rw[rk hi]at hj;have ZT:=FT hj;have hok:=of_decide_eq_true (h.2.2 _ (List.getElem_mem hi));delta bn;dsimp only;rw[oBF (show((i:Int))≠-1 by omega),oCF,oDT (show(i:Int)>=0 by omega),oCT,oDT (show(i:Int)<(C.length:Int) by omega),oCT,bt];simp only[oBS,bz hi];rw[Jr (by omega) ZT,oBS];dsimp only;rw[oDT];simp only[oLT,List.length_drop];omega
  ·delta bn;dsimp only;rw[show((-1:Int)==-1)=true from rfl,oCT,oDT (show(t:Int)>=0 by omega),oCT,oDT (show(t:Int)<(T.length:Int) by omega)]
 rw[ht];rfl
theorem IM(C:CC)(T:TT')(a b:Int):gm C T a b=fh C T a b:=by kernel_rfl
theorem Jl{f t:Int}(h1:0<=f)(h2:t<=200)(h3:f<=t):fi f t=some (0,()):=by
 unfold fi;rw[oDF (show ¬f<0 by omega),oCF,oDF (show ¬t>200 by omega),oCF,oDF (show ¬f>t by omega)];rfl
theorem Jy(x:PID):iv x.1 x.2=some (ng x.1,()):=by
 unfold iv ng;by_cases h:x.1=-1
 ·rw[h];rfl
 ·rw[oBF h,oIN h];rfl
theorem Nb(x y:Int):bW x y=some (va x y,()):=by
 unfold bW dG va;simp only[bne_self_eq_false,oBS,oCF];by_cases h:x<y
 ·simp[h]
 ·by_cases h2:y<x
  ·simp[h,h2]
  ·simp[h,h2]
theorem Np(x y z:Int):gu [x,y,z]=some (orI x y z,()):=by
 unfold gu;delta bn;dsimp only
 have h2:=ku (f:=cY) (st:=λi=>((0:Int),[x,y,z],(3:Int),(i:Int),())) (p:=λi=>[x,y,z].getD i 0=0) (n:=3) (N:=NN) (bad:=λi=>.inl ([x,y,z].getD i 0,())) (fin:=.inr (0,[x,y,z],3,3,false,())) (lF (by omega)) (λi hi=>by
  unfold cY;dsimp only;rw[oDT (show(i:Int)<3 by omega),oCT,bt];simp only[oBS];have hl:i < [x,y,z].length:=hi;rw[bz hl,oBS]
  have e:[x,y,z].getD i 0=[x,y,z][i]:=by rw[oGD,oGE hl];rfl
  rw[e];generalize[x,y,z][i]=v;by_cases h:v=0
  ·subst h;refine .inl ⟨rfl,?_⟩;rw[bne_self_eq_false,oCF,bA (by omega) (by omega)];rfl
  ·refine .inr ⟨h,?_⟩
   rw[bne_iff_ne.2 h,oCT]) (by
  unfold cY
  rfl)
 rcases h2 with⟨h1,h2⟩|⟨k,hk,h1,h3,h2⟩
 ·rw[show bu cY NN (0,[x,y,z],([x,y,z].length:Int),0,())=_ from h2];have a:=h1 0 (by omega);have b:=h1 1 (by omega);have c:=h1 2 (by omega);simp at a b c;subst a b c;rfl
 ·rw[show bu cY NN (0,[x,y,z],([x,y,z].length:Int),0,())=_ from h2];dsimp only
  match k,hk with
  |0,_=>simp at h3;simp[orI,h3]
  |1,_=>have a:=h1 0 (by omega);simp at a h3;simp[orI,h3,a]
  |2,_=>have a:=h1 0 (by omega);have b:=h1 1 (by omega);simp at a b h3;simp[orI,a,b]
theorem FI(x y:PID):iR x.1 x.2 y.1 y.2=some (BV x y,()):=by
 unfold iR;rw[Jy,Jy];simp only[oBS,Nb,Np];rfl
def NC(l:List PG):Prop:=∀i (h:i+1<l.length),dc (l[i].1,l[i].2.1) (l[i+1].1,l[i+1].2.1)=true
theorem KX{f t:Int}{l:List PG}(h1:0<=f)(h2:t<=200)(h3:f<=t)(hl:Sm l)(ha:NC l):cO f t l=some (0,()):=by
 unfold cO;rw[Jl h1 h2 h3,oBS];dsimp only;rw[bne_self_eq_false,oCF]
 have h:=cj (f:=cr) (st:=λi=>(((i+1:Nat):Int),f,t,l,())) (n:=l.length-1) (N:=NN) (fin:=.inr ((((l.length-1)+1:Nat):Int),false,f,t,l,())) (lF (by omega)) (λi hi=>by
  unfold cr;delta bn;dsimp only;rw[oDT (show((i+1:Nat):Int)<(l.length:Int) by omega),oCT,bA (x:=((i+1:Nat):Int)-1) (by omega) (by omega),show((i+1:Nat):Int)-1=(i:Int) by omega,bt,bt];simp only[oBS];rw[bz (show i<l.length by omega),bz (show i+1<l.length by omega)];simp only[oBS];have e:=FI (l[i].1,l[i].2.1) (l[i+1].1,l[i+1].2.1);rw[e,oBS]
  have ho:BV (l[i].1,l[i].2.1) (l[i+1].1,l[i+1].2.1)<0:=by
   have:=ha i (by omega);rw[<- kT]at this;exact of_decide_eq_true this
  dsimp only;rw[oDF (by omega),oCF,bA (by omega) (by omega)]
  rfl) (by
  unfold cr;delta bn;dsimp only
  rw[oDF (by omega),oCF])
 rw[show bu cr NN (1,f,t,l,())=_ from h]
theorem M5{C:CC}{T:TT'}(h:shp C T)(hT:SmT T){p:PID}(hp:p∈pgs (szs C) T.length):kN C T p.1 p.2=some ((pg C T p).1,(pg C T p).2.1,(pg C T p).2.2.1,(pg C T p).2.2.2.1,(pg C T p).2.2.2.2.1,(pg C T p).2.2.2.2.2.1,(pg C T p).2.2.2.2.2.2.1,(pg C T p).2.2.2.2.2.2.2.1,(pg C T p).2.2.2.2.2.2.2.2.1,(pg C T p).2.2.2.2.2.2.2.2.2.1,(pg C T p).2.2.2.2.2.2.2.2.2.2,0,()):=by
 unfold kN;rw[Mj h hp,oBS];dsimp only;rw[bne_self_eq_false,oCF,Mf h hT hp];rfl
theorem Jv{C:CC}{T:TT'}{D:CC}{U:TT'}(h:uz C T D U)(hT:SmT T)(hU:SmT U){f t:Int}(h1:0<=f)(h2:t<=200)(h3:f<=t):ek C T D U f t=some (f,t,(dif C T D U).map (pg D U),0,()):=by
 have hlen:=Gv (D:=D) (U:=U) h.1;unfold ek;rw[zd h hT hU,oBS];dsimp only;rw[bne_self_eq_false,oCF,Jl h1 h2 h3,oBS];delta bn;dsimp only;rw[bne_self_eq_false,oCF];obtain⟨l,hl⟩:∃l,l=dif C T D U:=⟨_,rfl⟩
 have ZA:∀p∈l,p∈pgs (szs D) U.length:=λp hp=>by
  rw[hl]at hp;rw[<- h.2.2.1,<- h.2.2.2];exact(vF.1 hp).1
 rw[<- hl]at hlen⊢
 have VG:=cj (f:=fj) (st:=λi=>((l.length:Int),(i:Int),D,U,(0:Int),(0:Int),(),l,f,t,(l.take i).map (pg D U),())) (n:=l.length) (N:=NN) (fin:=.inr ((l.length:Int),(l.length:Int),false,D,U,(0:Int),(0:Int),(),l,f,t,(l.take l.length).map (pg D U),())) (lF (by omega)) (λi hi=>by
  unfold fj;dsimp only;rw[oDT (show(i:Int)<(l.length:Int) by omega),oCT,bt];simp only[oBS];rw[bz hi];simp only[oBS];rw[M5 h.2.1 hU (ZA _ (List.getElem_mem hi)),oBS];dsimp only;rw[bne_self_eq_false,oCF,bx (by rw[List.length_map,oLT];omega) (by simp) (by omega) (by rw[List.length_map,oLT];simp;omega),oCT,bA (by omega) (by omega)];rw[<- ga hi]
  rfl) (by
  unfold fj;dsimp only
  rw[oDF (by omega),oCF])
 rw[show bu fj NN ((l.length:Int),0,D,U,0,0,(),l,f,t,[],())=_ from VG];dsimp only;rw[List.take_length]
theorem r6{α:Type}{l:List α}{i:Nat}(h:i<l.length){f:α->α}(hf:f l[i]=l[i]):l.modify i f=l:=by
 apply List.ext_getElem?;intro k;rw[List.getElem?_modify];by_cases e:i=k
 ·subst e;rw[oGE h];simp[hf]
 ·simp[e]
theorem Gj(l:List PID):∀a:List PID,(l.foldl tX a).length<=a.length+l.length:=by
 induction l with
 |nil=>intro a;simp
 |cons x r ih=>
  intro a;rw[List.foldl_cons,oLC];have h1:=ih (tX a x);have h2:=Ak x a;omega
theorem LS{D:CC}{U:TT'}(p:PID):ct (pg D U p)=p:=KE p
theorem LV{S:List Int}{n:Nat}(h:Szs S)(hn:n<=4){p:PID}(hp:p∈pgs S n):wfP p=true:=by
 have h4:=h.1
 rcases l7.1 hp with⟨i,j,hi,hj,rfl⟩|⟨t,ht,rfl⟩
 ·have:=Cl h hi;simp only[wfP,oBA];refine⟨?_,?_⟩
  ·simp[Lit.wf,IntKind.min,IntKind.max,IntKind.signed,IntKind.bits];omega
  ·simp[Lit.wf,IntKind.min,IntKind.max,IntKind.signed,IntKind.bits];omega
 ·simp only[wfP,oBA];refine⟨rfl,?_⟩;simp[Lit.wf,IntKind.min,IntKind.max,IntKind.signed,IntKind.bits];omega
theorem y8(f t:Int)(l:List PG):eK f t l=cO f t l:=by kernel_rfl
def StK(C:CC)(T:TT'):Prop:=Sm C/\(∀c∈C,Sm c)/\Sm T/\SmT T
def PgK(p:PG):Prop:=Sm p.2.2.1/\Sm p.2.2.2.2.2.2.2.2.2.2
theorem Mu{C:CC}{T:TT'}(h:StK C T):ib C T=some (C,T,()):=by
 have h1:C.length<=1099511627776:=h.1;have h2:T.length<=1099511627776:=h.2.2.1;have hT:=h.2.2.2;unfold ib
 have e1:dB C=some (C,()):=by
  unfold dB;rw[bx (by omega) (by omega) (by omega) (by omega),oCT];rfl
 have e2:en T=some (T,()):=by
  unfold en;rw[bx (by omega) (by omega) (by omega) (by omega),oCT];rfl
 rw[e1,oBS];dsimp only;rw[e2,oBS];delta bn;dsimp only
 have l0:=cj (f:=d7) (st:=λi=>((C.length:Int),(i:Int),C,T,(),(),())) (n:=C.length) (N:=NN) (fin:=((C.length:Int),(C.length:Int),false,C,T,(),(),())) (lF (by omega)) (λi hi=>by
  unfold d7;dsimp only;have hok:=h.2.1 _ (List.getElem_mem hi);rw[oDT (show(i:Int)<(C.length:Int) by omega),oCT,bt];simp only[oBS];rw[bz hi];simp only[oBS];rw[wU hok,oBS];dsimp only;rw[r6 hi rfl,bA (by omega) (by omega)]
  rfl) (by
  unfold d7;dsimp only
  rw[oDF (by omega),oCF])
 rw[show bu d7 NN ((C.length:Int),0,C,T,(),(),())=_ from l0,oBS];dsimp only
 have l1:=cj (f:=d6) (st:=λi=>((T.length:Int),(i:Int),C,T,(),(),())) (n:=T.length) (N:=NN) (fin:=((T.length:Int),(T.length:Int),false,C,T,(),(),())) (lF (by omega)) (λi hi=>by
  unfold d6;dsimp only;rw[oDT (show(i:Int)<(T.length:Int) by omega),oCT,bt];simp only[oBS];rw[bz hi];simp only[oBS];unfold gt;rw[wU (hT _ (List.getElem_mem hi))];simp only[oBS];rw[r6 hi rfl,bA (by omega) (by omega)]
  rfl) (by
  unfold d6;dsimp only
  rw[oDF (by omega),oCF])
 rw[show bu d6 NN ((T.length:Int),0,C,T,(),(),())=_ from l1];rfl
theorem AT{C:CC}{T:TT'}(h:StK C T):dq C T=some (C,T,()):=by
 unfold dq;have h4:C.length<=1099511627776:=h.1;have hT:=h.2.2.2
 have step:∀i,i<C.length->bP ((i:Int),C,T,(),(),C.take i,(),())=some (.inl (((i+1:Nat):Int),C,T,(),(),C.take (i+1),(),())):=by
  intro i hi;have hok:C[i].length<=1099511627776:=h.2.1 _ (List.getElem_mem hi);unfold bP;delta bn;dsimp only;rw[oDT (show(i:Int)<C.length by omega),oCT,bt];simp only[oBS,bz hi];rw[bx (by omega) (by omega) (by omega) (by omega),oCT,bx (by rw[oLT];omega) (by simp) (by omega) (by rw[oLT,List.length_singleton];omega),oCT,bA (by omega) (by omega),<- kK hi];rfl
 have fin:bP ((C.length:Int),C,T,(),(),C.take C.length,(),())=some (.inr ((C.length:Int),false,C,T,(),(),C.take C.length,(),())):=by
  unfold bP;delta bn;dsimp only;rw[oDF (show ¬(C.length:Int)<C.length by omega)];rfl
 have:=cj (f:=bP) (λi=>((i:Int),C,T,(),(),C.take i,(),())) (n:=C.length) (N:=NN) (by unfold NN;omega) step fin;rw[show bu bP NN (0,C,T,(),(),[],(),())=_ from this,List.take_length,oBS];dsimp only;have t4:T.length<=1099511627776:=h.2.2.1
 have VV:∀i,i<T.length->bO ((i:Int),C,T,(),(),C,T.take i,())=some (.inl (((i+1:Nat):Int),C,T,(),(),C,T.take (i+1),())):=by
  intro i hi;unfold bO;delta bn;dsimp only;rw[oDT (show(i:Int)<T.length by omega),oCT,bt];simp only[oBS,bz hi,wK (hT _ (List.getElem_mem hi))];rw[bx (by rw[oLT];omega) (by simp) (by omega) (by rw[oLT,List.length_singleton];omega),oCT,bA (by omega) (by omega),<- kK hi];rfl
 have S5:bO ((T.length:Int),C,T,(),(),C,T.take T.length,())=some (.inr ((T.length:Int),false,C,T,(),(),C,T.take T.length,())):=by
  unfold bO;delta bn;dsimp only;rw[oDF (show ¬(T.length:Int)<T.length by omega)];rfl
 have:=cj (f:=bO) (λi=>((i:Int),C,T,(),(),C,T.take i,())) (n:=T.length) (N:=NN) (by unfold NN;omega) VV S5;rw[show bu bO NN (0,C,T,(),(),C,[],())=_ from this,List.take_length];rfl
theorem Kt{C:CC}{T:TT'}{D:CC}{U:TT'}(h:StK C T):iu C T D U=some (decide (C=D/\T=U),()):=by
 unfold iu;delta bn;dsimp only;by_cases hl:C.length=D.length
 rotate_left
 ·rw[kR hl,oCT,oDF (p:=C=D/\T=U) λe=>hl (by rw[e.1])]
 rw[oF hl,oCF];by_cases hm:T.length=U.length
 rotate_left
 ·rw[kR hm,oCT,oDF (p:=C=D/\T=U) λe=>hm (by rw[e.2])]
 rw[oF hm,oCF];have c4:C.length<=1099511627776:=h.1;have t4:T.length<=1099511627776:=h.2.2.1;have hT:=h.2.2.2
 have q1:=kt (f:=ff) hl (by unfold Sm;omega) (λi=>((i:Int),C,T,D,U,())) (bad:=.inl (false,())) (fin:=.inr ((C.length:Int),false,C,T,D,U,()))
  (λi h1 h2=>by
   have hok:C[i].length<=1099511627776:=h.2.1 _ (List.getElem_mem h1);unfold ff;delta bn;dsimp only;rw[oDT (show(i:Int)<C.length by omega),oCT,bt];simp only[oBS,bz h1,bz h2];rw[pS (by unfold Sm;omega)];simp only[oBS,mW];rw[bA (by omega) (by omega)]
   rfl)
  (by
   unfold ff;delta bn;dsimp only;rw[oDF (show ¬(C.length:Int)<C.length by omega)]
   rfl)
 have q2:=kt (f:=fc) hm (by unfold Sm;omega) (λi=>((i:Int),C,T,D,U,())) (bad:=.inl (false,())) (fin:=.inr ((T.length:Int),false,C,T,D,U,()))
  (λi h1 h2=>by
   unfold fc;delta bn;dsimp only;rw[oDT (show(i:Int)<T.length by omega),oCT,bt];simp only[oBS,bz h1,bz h2];rw[xB (hT _ (List.getElem_mem h1))];simp only[oBS,mW];rw[bA (by omega) (by omega)]
   rfl)
  (by
   unfold fc;delta bn;dsimp only;rw[oDF (show ¬(T.length:Int)<T.length by omega)]
   rfl)
 rw[show bu ff NN (0,C,T,D,U,())=_ from q1];by_cases e1:C=D
 rotate_left
 ·rw[oDF e1,oDF (p:=C=D/\T=U) λe=>e1 e.1];rfl
 rw[oDT e1];dsimp only[oCT];rw[show bu fc NN (0,C,T,D,U,())=_ from q2];by_cases e2:T=U
 ·rw[oDT e2,oDT (p:=C=D/\T=U) ⟨e1,e2⟩];rfl
 ·rw[oDF e2,oDF (p:=C=D/\T=U) λe=>e2 e.2];rfl
theorem LX{c:List DCn}(hc:c.length<=32)(b:Int):ej c b=some (if 0<=b/\b<=32/\8*b.toNat<c.length then(c.drop (8*b.toNat)).take 8 else[],()):=by
 by_cases h:0<=b/\b<=32/\8*b.toNat<c.length
 ·rw[oIP h];obtain⟨j,rfl⟩:∃j:Nat,b=j:=⟨b.toNat,by omega⟩;exact Jr hc h.2.2
 ·rw[oIN h];unfold ej;delta bn;dsimp only;by_cases h0:b<0
  ·rw[oDT h0];rfl
  rw[oDF h0,oCF];by_cases h1:b>32
  ·rw[oDT h1];rfl
  rw[oDF h1,oCF,bA (x:=b*8) (by omega) (by omega),oBS];rw[oDT (show b*8>=(c.length:Int) by omega)];rfl
def Th(C:CC)(T:TT')(a b:Int):Prop:=(a=-1/\0<=b/\b.toNat<T.length)\/(a≠-1/\0<=a/\a.toNat<C.length/\0<=b/\b<=32/\8*b.toNat<(C.getD a.toNat []).length)
instance {C:CC} {T:TT'} {a b:Int}:Decidable (Th C T a b):=inferInstanceAs (Decidable (_\/_))
theorem sy{C:CC}{i:Nat}(h:i<C.length):C.getD i []=C[i]:=by simp[oGD,h]
theorem JS{C:CC}{T:TT'}(hs:shp C T)(a b:Int):fw C T a b=some (decide (Th C T a b),()):=by
 unfold fw;delta bn;dsimp only;by_cases ha:a=-1
 ·subst ha;rw[show((-1:Int)==-1)=true from rfl,oCT];by_cases hb:b>=0
  ·rw[oDT hb,oCT];congr 2;rw[decide_eq_decide];unfold Th;omega
  ·rw[oDF hb,oCF,oDF (p:=Th C T (-1) b)];unfold Th;omega
 ·rw[oBF ha,oCF];by_cases h1:a>=0
  rotate_left
  ·rw[oDF h1,oCF,oDF (p:=Th C T a b)];unfold Th;omega
  rw[oDT h1,oCT];by_cases h2:a<C.length
  rotate_left
  ·rw[oDF h2,oCF,oDF (p:=Th C T a b)];unfold Th;omega
  obtain⟨i,rfl⟩:∃i:Nat,a=i:=⟨a.toNat,by omega⟩
  have hi:i<C.length:=by omega
  rw[oDT h2,oCT,bt];simp only[oBS,bz hi];have hok:=of_decide_eq_true (hs.2.2 _ (List.getElem_mem hi));rw[LX (by omega),oBS];dsimp only;congr 2;rw[decide_eq_decide];unfold Th;rw[oTN,sy hi];by_cases h:0<=b/\b<=32/\8*b.toNat<C[i].length
  ·rw[oIP h];simp only[oLT,List.length_drop];omega
  ·rw[oIN h];simp only[List.length_nil];omega
theorem LG{C:CC}{T:TT'}(hs:shp C T){a b:Int}(h:Th C T a b):((a,b):PID)∈pgs (szs C) T.length:=by
 rcases h with⟨rfl,h1,h2⟩|⟨h0,h1,h2,h3,h4,h5⟩
 ·exact l7.2 (.inr ⟨b.toNat,h2,by rw[Int.toNat_of_nonneg h1]⟩)
 ·rw[sy h2]at h5;refine l7.2 (.inl ⟨a.toNat,b.toNat,by rw[eP];exact h2,?_,by rw[Int.toNat_of_nonneg h1,Int.toNat_of_nonneg h3]⟩);rw[rk h2];have hok:=of_decide_eq_true (hs.2.2 _ (List.getElem_mem h2));exact(xS hok _).1 (by omega)
theorem Ml{C:CC}{T:TT'}(hC:Sm C)(a b:Int):fh C T a b=some (if shp C T then(if Th C T a b then 0 else 30)else 1,()):=by
 unfold fh;rw[rn hC,oBS];dsimp only;by_cases hs:shp C T
 rotate_left
 ·rw[oDF hs,oIN hs];rfl
 rw[oDT hs,oIP hs];simp only[oNT,oCF];rw[JS hs,oBS];dsimp only;by_cases h:Th C T a b
 ·rw[oDT h,oIP h];rfl
 ·rw[oDF h,oIN h];rfl
def C5(C:CC)(T:TT')(a b:Int)(x:List DCn)(v:DTs):CC×TT'×Int:=
 if shp C T then
  if Th C T a b then
   if a=-1 then(if x.length=0 then(C,T.modify b.toNat λ_=>v,0)else([],[],5))
   else if x.length=min 8 ((C.getD a.toNat []).length-8*b.toNat)/\v=zTs then(C.modify a.toNat λ_=>lS (C.getD a.toNat []) (8*b.toNat) x.length x,T,0)else([],[],5)
  else([],[],30)
 else([],[],1)
theorem H4{C:CC}{T:TT'}(h:StK C T){x L:List DCn}(hx:Sm x)(hL:Sm L):E8 C T x L=true:=by
 simp only[E8,oBA,oDE,List.all_eq_true];exact⟨⟨⟨⟨⟨h.1,h.2.1⟩,h.2.2.1⟩,h.2.2.2⟩,hx⟩,hL⟩
theorem Gu(v:DTs):dJ v.1 v.2.1 v.2.2.1 v.2.2.2.1 v.2.2.2.2.1 v.2.2.2.2.2.1 v.2.2.2.2.2.2.1 v.2.2.2.2.2.2.2=some (decide (v=zTs),()):=by
 obtain⟨v0,v1,v2,v3,v4,v5,v6,L⟩:=v;unfold dJ;delta bn;dsimp only
 have e:decide ((v0,v1,v2,v3,v4,v5,v6,L)=zTs)=(v0==0&&(v1==0&&(v2==0&&(v3==0&&(v4==0&&(v5==0&&(v6==0&&((L.length:Int)==0)))))))):=by
  rw[Bool.eq_iff_iff];simp[zTs,Prod.ext_iff]
 rw[e];cases v0==0
 ·rfl
 cases v1==0
 ·rfl
 cases v2==0
 ·rfl
 cases v3==0
 ·rfl
 cases v4==0
 ·rfl
 cases v5==0
 ·rfl
 cases v6==0<;>rfl
theorem Ly(v:DTs):jv v.1 v.2.1 v.2.2.1 v.2.2.2.1 v.2.2.2.2.1 v.2.2.2.2.2.1 v.2.2.2.2.2.2.1 v.2.2.2.2.2.2.2=some (decide (v=zTs),()):=(show jv v.1 v.2.1 v.2.2.1 v.2.2.2.1 v.2.2.2.2.1 v.2.2.2.2.2.1 v.2.2.2.2.2.2.1 v.2.2.2.2.2.2.2=dJ v.1 v.2.1 v.2.2.1 v.2.2.2.1 v.2.2.2.2.1 v.2.2.2.2.2.1 v.2.2.2.2.2.2.1 v.2.2.2.2.2.2.2 by kernel_rfl).trans (Gu v)
theorem LO{C:CC}{T:TT'}(h:StK C T){x:List DCn}(hx:Sm x){v:DTs}(hv:Sm v.2.2.2.2.2.2.2)(a b:Int):
 dg C T a b x v.1 v.2.1 v.2.2.1 v.2.2.2.1 v.2.2.2.2.1 v.2.2.2.2.2.1 v.2.2.2.2.2.2.1 v.2.2.2.2.2.2.2=some ((C5 C T a b x v).1,(C5 C T a b x v).2.1,(C5 C T a b x v).2.2,()):=by
 unfold dg C5;rw[oIP (H4 h hx hv),IM,Ml h.1 a b,oBS];dsimp only;by_cases hs:shp C T
 rotate_left
 ·rw[oIN hs,oIN hs,oIP (by decide)]
 rw[oIP hs,oIP hs];by_cases ht:Th C T a b
 rotate_left
 ·rw[oIN ht,oIN ht,oIP (by decide)]
 rw[oIP ht,oIP ht,oIN (by decide)];by_cases ha:a=-1
 ·rw[oIP ha,oIP ha]
  have h2:0<=b/\b.toNat<T.length:=by
   unfold Th at ht;omega
  by_cases hl:x.length=0
  ·rw[oIN (by omega),oIP hl,oIP h2,EZ]
  ·rw[oIP (by omega),oIN hl]
 ·rw[oIN ha,oIN ha]
  have h2:0<=a/\a.toNat<C.length/\0<=b/\b<=32/\8*b.toNat<(C.getD a.toNat []).length:=by
   unfold Th at ht;omega
  rw[oIP h2,Gu,oBS];dsimp only;by_cases hl:x.length=min 8 ((C.getD a.toNat []).length-8*b.toNat)/\v=zTs
  ·rw[oIP hl,oIN (λg=>g.elim (λg=>g hl.1) λg=>of_decide_eq_false g hl.2),EZ]
   have ZP:jz (C.getD a.toNat []) b.toNat x=lS (C.getD a.toNat []) (8*b.toNat) x.length x:=by
    unfold jz lS;rw[List.take_length]
   rw[ZP]
  ·rw[oIN hl,oIP (by
    by_cases g:x.length=min 8 ((C.getD a.toNat []).length-8*b.toNat)
    ·exact .inr (oDF λe=>hl ⟨g,e⟩)
    ·exact .inl g)]
theorem Mg{C:CC}{T:TT'}(h:StK C T)(a b:Int):ew C T a b=some (if shp C T/\Th C T a b then((pg C T (a,b)).1,(pg C T (a,b)).2.1,(pg C T (a,b)).2.2.1,(pg C T (a,b)).2.2.2.1,(pg C T (a,b)).2.2.2.2.1,(pg C T (a,b)).2.2.2.2.2.1,(pg C T (a,b)).2.2.2.2.2.2.1,(pg C T (a,b)).2.2.2.2.2.2.2.1,(pg C T (a,b)).2.2.2.2.2.2.2.2.1,(pg C T (a,b)).2.2.2.2.2.2.2.2.2.1,(pg C T (a,b)).2.2.2.2.2.2.2.2.2.2,0,())else(0,0,[],0,0,0,0,0,0,0,[],if shp C T then 30 else 1,())):=by
 by_cases hs:shp C T
 rotate_left
 ·rw[oIN (λg=>hs g.1),oIN hs];unfold ew;rw[kQ h.1,oDF hs];rfl
 by_cases ht:Th C T a b
 ·rw[oIP ⟨hs,ht⟩];exact KS hs h.2.2.2 (LG hs ht)
 rw[oIN (λg=>ht g.2),oIP hs];unfold ew;rw[kQ h.1,oDT hs,oBS];delta bn;dsimp only;simp only[oNT,oCF];by_cases ha:a=-1
 ·rw[beq_iff_eq.2 ha,oCT];by_cases hb:b<0
  ·rw[oDT hb,oCT]
  rw[oDF hb,oCF,oDT (show b>=(T.length:Int) by unfold Th at ht;omega),oCT]
 rw[oBF ha,oCF];by_cases h1:a<0
 ·rw[oDT h1];rfl
 rw[oDF h1,oCF];by_cases h2:a>=(C.length:Int)
 ·rw[oDT h2];rfl
 rw[oDF h2,oCF];by_cases h3:b<0
 ·rw[oDT h3];rfl
 rw[oDF h3,oCF];by_cases h4:b>32
 ·rw[oDT h4];rfl
 rw[oDF h4,oCF];obtain⟨i,rfl⟩:∃i:Nat,a=i:=⟨a.toNat,by omega⟩
 have hi:i<C.length:=by omega
 rw[bt];simp only[oBS,bz hi]
 have h5:b*8>=(C[i].length:Int):=by
  unfold Th at ht;rw[oTN,sy hi]at ht;omega
 rw[bA (x:=b*8) (by omega) (by omega),oDT h5];rfl
theorem LN{C:CC}{T:TT'}(h:StK C T){x:List DCn}(hx:Sm x){v:DTs}(hv:Sm v.2.2.2.2.2.2.2)(a b:Int):
 kM C T a b x v.1 v.2.1 v.2.2.1 v.2.2.2.1 v.2.2.2.2.1 v.2.2.2.2.2.1 v.2.2.2.2.2.2.1 v.2.2.2.2.2.2.2=some ((C5 C T a b x v).1,(C5 C T a b x v).2.1,(C5 C T a b x v).2.2,()):=by
 unfold kM C5;rw[Mg h,oBS];by_cases hs:shp C T
 rotate_left
 ·rw[oIN (λg=>hs g.1),oIN hs,oIN hs];rfl
 simp only[oIP hs];by_cases ht:Th C T a b
 rotate_left
 ·rw[oIN (λg=>ht g.2),oIN ht];rfl
 rw[oIP ⟨hs,ht⟩,oIP ht];delta bn;dsimp only;rw[bne_self_eq_false,oCF];by_cases ha:a=-1
 ·subst ha
  have h2:0<=b/\b.toNat<T.length:=by
   unfold Th at ht;omega
  obtain⟨t,rfl⟩:∃t:Nat,b=t:=⟨b.toNat,by omega⟩
  have UU:t<T.length:=by omega
  rw[l6 UU,oIP rfl];dsimp only;by_cases hl:x.length=0
  rotate_left
  ·rw[kR (b:=([]:List DCn)) (by simpa using hl),oIN hl];rfl
  rw[oF (b:=([]:List DCn)) (by simpa using hl),oIP hl,oCF,show((-1:Int) != -1)=false from rfl,oCF,oBS];dsimp only;rw[oCF,AT h,oBS];dsimp only;rw[show((-1:Int)==-1)=true from rfl,oCT,wK hv,oBS];dsimp only;rw[bt];simp only[oBS,bz UU];rfl
 rw[oIN ha]
 have h2:0<=a/\a.toNat<C.length/\0<=b/\b<=32/\8*b.toNat<(C.getD a.toNat []).length:=by
  unfold Th at ht;omega
 obtain⟨i,rfl⟩:∃i:Nat,a=i:=⟨a.toNat,by omega⟩;obtain⟨j,rfl⟩:∃j:Nat,b=j:=⟨b.toNat,by omega⟩;simp only[oTN]at h2⊢;have hi:=h2.2.1;rw[sy hi]at h2⊢;have hj:=h2.2.2.2.2;have hok:=of_decide_eq_true (hs.2.2 _ (List.getElem_mem hi));rw[xK hi];dsimp only
 have Ug:((C[i].drop (8*j)).take 8).length=min 8 (C[i].length-8*j):=by rw[oLT,List.length_drop]
 rw[Ug];by_cases hl:x.length=min 8 (C[i].length-8*j)
 rotate_left
 ·rw[oIN (λg=>hl g.1),show((x.length:Int) != ((min 8 (C[i].length-8*j):Nat):Int))=true by simp;omega,oCT];rfl
 rw[show((x.length:Int) != ((min 8 (C[i].length-8*j):Nat):Int))=false by simp;omega,oCF,bne_iff_ne.2 (show(i:Int)≠-1 by omega),oCT,Ly];by_cases hz:v=zTs
 rotate_left
 ·rw[oIN (λg=>hz g.2),oDF hz];rfl
 rw[oIP ⟨hl,hz⟩,oDT hz];simp only[oBS,oNT,oCF];rw[AT h,oBS];dsimp only;rw[oBF (show(i:Int)≠-1 by omega),oCF,bt];simp only[oBS,bz hi];rw[bA (by omega) (by omega),show(j:Int)*8=((8*j:Nat):Int) by omega,bt];simp only[oBS]
 have Pl:Nat.min x.length (Nat.sub C[i].length (8*j))=x.length:=by
  show min x.length (C[i].length-8*j)=x.length;omega
 have Zd:fZ (8*j) C[i].length C[i].length=true:=by unfold fZ;simp;omega
 have YZ:fZ (8*j) (Nat.add (8*j) x.length) C[i].length=true:=by
  show fZ (8*j) (8*j+x.length) C[i].length=true;unfold fZ;simp;omega
 have hb:Nat.blt 0 x.length=true:=by rw[Nat.blt_eq];omega
 rw[Zd,oCT,Pl,YZ,oCT,hb,oCT];rfl
theorem Kp{C:CC}{T:TT'}(h:StK C T){x:List DCn}{v:DTs}(hv:Sm v.2.2.2.2.2.2.2){a b:Int}(he:(C5 C T a b x v).2.2=0):StK (C5 C T a b x v).1 (C5 C T a b x v).2.1:=by
 unfold C5 at he⊢;split
 case isFalse=>rename_i g;rw[oIN g]at he;cases he
 rename_i hs;rw[oIP hs]at he;split
 case isFalse=>rename_i g;rw[oIN g]at he;cases he
 rename_i ht;rw[oIP ht]at he;split
 ·rename_i ha;rw[oIP ha]at he;split
  ·refine⟨h.1,h.2.1,?_,uH h.2.2.2 hv⟩;show(T.modify _ _).length<=_;rw[oLM];exact h.2.2.1
  ·rename_i g;rw[oIN g]at he;cases he
 rename_i ha;rw[oIN ha]at he;split
 case isFalse=>rename_i g;rw[oIN g]at he;cases he
 rename_i hl
 have h2:a.toNat<C.length/\8*b.toNat<(C.getD a.toNat []).length:=by
  unfold Th at ht;omega
 rw[sy h2.1]at hl h2⊢;refine⟨?_,λc hc=>?_,h.2.2.1,h.2.2.2⟩
 ·show(C.modify _ _).length<=_;rw[oLM];exact h.1
 ·obtain⟨k,hk,rfl⟩:=List.mem_iff_getElem.1 hc;rw[List.getElem_modify];split
  ·unfold Sm;rw[CM (by omega)];exact h.2.1 _ (List.getElem_mem h2.1)
  ·exact h.2.1 _ (List.getElem_mem _)
theorem Eo(f t:Int):fi f t=some (if 0<=f/\t<=200/\f<=t then 0 else 6,()):=by
 unfold fi;by_cases h1:f<0
 ·rw[oDT h1,oIN (by omega)];rfl
 rw[oDF h1,oCF];by_cases h2:t>200
 ·rw[oDT h2,oIN (by omega)];rfl
 rw[oDF h2,oCF];by_cases h3:f>t
 ·rw[oDT h3,oIN (by omega)];rfl
 rw[oDF h3,oIP (by omega)];rfl
theorem kB{f t:Int}{l:List PG}(hl:Sm l):∃e,cO f t l=some (e,())/\cN f t l=some (e,())/\(¬(0<=f/\t<=200/\f<=t)->e=6):=by
 by_cases h:0<=f/\t<=200/\f<=t
 rotate_left
 ·refine⟨6,?_,?_,λ_=>rfl⟩
  ·unfold cO;rw[Eo,oIN h];rfl
  ·unfold cN ke;by_cases h1:f>=0
   rotate_left
   ·rw[oDF h1];rfl
   rw[oDT h1,oCT,oBS];dsimp only;by_cases h2:f<=200
   rotate_left
   ·rw[oDF h2];rfl
   rw[oDT h2];simp only[oNT,oCF];by_cases h3:t>=0
   rotate_left
   ·rw[oDF h3];rfl
   rw[oDT h3,oCT,oBS];dsimp only;by_cases h4:t<=200
   rotate_left
   ·rw[oDF h4];rfl
   rw[oDT h4];simp only[oNT,oCF,oBS];rw[oDT (show f>t by omega),oCT]
 have WS:l.length<=1099511627776:=hl;obtain⟨q,hq⟩:∃q:Nat->Prop,∀i,q i↔∃h:i+1<l.length,dc (l[i].1,l[i].2.1) (l[i+1].1,l[i+1].2.1)=true:=⟨_,λ_=>Iff.rfl⟩
 have L1:=ku (f:=cr) (st:=λi=>(((i+1:Nat):Int),f,t,l,())) (p:=q) (n:=l.length-1) (N:=NN) (bad:=λ_=>.inl (5,())) (fin:=.inr ((((l.length-1)+1:Nat):Int),false,f,t,l,())) (lF (by omega)) (λi hi=>by
  unfold cr;delta bn;dsimp only;rw[oDT (show((i+1:Nat):Int)<(l.length:Int) by omega),oCT,bA (x:=((i+1:Nat):Int)-1) (by omega) (by omega),show((i+1:Nat):Int)-1=(i:Int) by omega,bt,bt];simp only[oBS];rw[bz (show i<l.length by omega),bz (show i+1<l.length by omega)];simp only[oBS];have e:=FI (l[i].1,l[i].2.1) (l[i+1].1,l[i+1].2.1);rw[e,oBS];dsimp only;by_cases g:dc (l[i].1,l[i].2.1) (l[i+1].1,l[i+1].2.1)=true
  ·refine .inl ⟨(hq i).2 ⟨by omega,g⟩,?_⟩
   have ho:BV (l[i].1,l[i].2.1) (l[i+1].1,l[i+1].2.1)<0:=by
    rw[<- kT]at g;exact of_decide_eq_true g
   rw[oDF (by omega),oCF,bA (by omega) (by omega)];rfl
  ·refine .inr ⟨λw=>g ((hq i).1 w).2,?_⟩
   have ho:¬BV (l[i].1,l[i].2.1) (l[i+1].1,l[i+1].2.1)<0:=λw=>g (by
    rw[<- kT]
    exact oDT w)
   rw[oDT (by omega),oCT]) (by
  unfold cr;delta bn;dsimp only
  rw[oDF (by omega),oCF])
 have L2:=ku (f:=eF) (st:=λi=>(((i+1:Nat):Int),f,t,l,())) (p:=q) (n:=l.length-1) (N:=NN) (bad:=λ_=>.inl (5,())) (fin:=.inr ((((l.length-1)+1:Nat):Int),false,f,t,l,())) (lF (by omega)) (λi hi=>by
  unfold eF;delta bn;dsimp only;rw[oDT (show((i+1:Nat):Int)<(l.length:Int) by omega),oCT,bA (x:=((i+1:Nat):Int)-1) (by omega) (by omega),show((i+1:Nat):Int)-1=(i:Int) by omega,bt,bt];simp only[oBS];rw[bz (show i<l.length by omega),bz (show i+1<l.length by omega)];simp only[oBS];have e:=Bm (l[i].1,l[i].2.1) (l[i+1].1,l[i+1].2.1);rw[e,oBS];dsimp only;by_cases g:dc (l[i].1,l[i].2.1) (l[i+1].1,l[i+1].2.1)=true
  ·refine .inl ⟨(hq i).2 ⟨by omega,g⟩,?_⟩;rw[g];simp only[oNT,oCF];rw[bA (by omega) (by omega)];rfl
  ·refine .inr ⟨λw=>g ((hq i).1 w).2,?_⟩;rw[Bool.not_eq_true]at g;rw[g]
   rfl) (by
  unfold eF;delta bn;dsimp only
  rw[oDF (by omega),oCF])
 have p1:∀r,bu cr NN (1,f,t,l,())=some r->cO f t l=some ((match r with|.inl (x1,_)=>x1|.inr _=>0),()):=λr hr=>by
  unfold cO;rw[Eo,oIP h,oBS];dsimp only;rw[bne_self_eq_false,oCF,hr]
  rcases r with⟨a,u⟩|r
  ·rfl
  ·rfl
 have p2:∀r,bu eF NN (1,f,t,l,())=some r->cN f t l=some ((match r with|.inl (x1,_)=>x1|.inr _=>0),()):=λr hr=>by
  unfold cN ke;rw[oDT (show f>=0 by omega),oDT (show f<=200 by omega),oDT (show t>=0 by omega),oDT (show t<=200 by omega),oDF (show ¬f>t by omega)];simp only[oCT,oBS,oNT,oCF];rw[hr]
  rcases r with⟨a,u⟩|r
  ·rfl
  ·rfl
 rcases L1 with⟨a1,a2⟩|⟨k,hk,_,a1,a2⟩
 ·rcases L2 with⟨b1,b2⟩|⟨k',YX,_,b1,b2⟩
  ·exact⟨0,p1 _ a2,p2 _ b2,λg=>absurd h g⟩
  ·exact absurd (a1 k' YX) b1
 ·rcases L2 with⟨b1,b2⟩|⟨k',YX,_,b1,b2⟩
  ·exact absurd (b1 k hk) a1
  ·exact⟨5,p1 _ a2,p2 _ b2,λg=>absurd h g⟩
theorem GN{l:List PG}(hl:Sm l)(hp:∀p∈l,PgK p){f t:Int}:∀(k i:Nat),i+k=l.length->∀(C:CC)(T:TT'),StK C T->∀M,k<M ->
 (∃e:Int,bu bU M (l,(l.length:Int),(i:Int),f,t,l,(),(),C,T,())=some (.inl (e,(),(),()))/\bu bT M ((i:Int),C,T,f,t,l,(),(),())=some (.inl (e,(),(),())))\/
 ∃(C':CC)(T':TT'),StK C' T'/\bu bU M (l,(l.length:Int),(i:Int),f,t,l,(),(),C,T,())=some (.inr (l,(l.length:Int),(l.length:Int),false,f,t,l,(),(),C',T',()))/\
  bu bT M ((i:Int),C,T,f,t,l,(),(),())=some (.inr ((l.length:Int),false,C',T',f,t,l,(),(),())):=by
 have WS:l.length<=1099511627776:=hl;intro k
 induction k with
 |zero=>
  intro i hi C T h M hM;obtain⟨M,rfl⟩:∃m,M=m+1:=⟨M-1,by omega⟩
  obtain rfl:i=l.length:=by omega
  have e1:bU (l,(l.length:Int),(l.length:Int),f,t,l,(),(),C,T,())=some (.inr (.inr (l,(l.length:Int),(l.length:Int),false,f,t,l,(),(),C,T,()))):=by
   unfold bU;dsimp only;rw[oDF (by omega),oCF]
  have e2:bT ((l.length:Int),C,T,f,t,l,(),(),())=some (.inr (.inr ((l.length:Int),false,C,T,f,t,l,(),(),()))):=by
   unfold bT;delta bn;dsimp only;rw[oDF (by omega),oCF]
  exact .inr ⟨C,T,h,by simp only[bu,e1,oBS],by simp only[bu,e2,oBS]⟩
 |succ k ih=>
  intro i hi C T h M hM;obtain⟨M,rfl⟩:∃m,M=m+1:=⟨M-1,by omega⟩
  have XR:i<l.length:=by omega
  have UN:=hp _ (List.getElem_mem XR);have e1:=LO h (x:=l[i].2.2.1) UN.1 (v:=l[i].2.2.2) UN.2 l[i].1 l[i].2.1;have e2:=LN h (x:=l[i].2.2.1) UN.1 (v:=l[i].2.2.2) UN.2 l[i].1 l[i].2.1;have e3:=Kp h (x:=l[i].2.2.1) (v:=l[i].2.2.2) UN.2 (a:=l[i].1) (b:=l[i].2.1);generalize C5 C T l[i].1 l[i].2.1 l[i].2.2.1 l[i].2.2.2=r at e1 e2 e3;by_cases he:r.2.2=0
  ·rcases ih (i+1) (by omega) r.1 r.2.1 (e3 he) M (by omega)with hh|hh
   all_goals
    have s1:bU (l,(l.length:Int),(i:Int),f,t,l,(),(),C,T,())=some (.inl (l,(l.length:Int),((i+1:Nat):Int),f,t,l,(),(),r.1,r.2.1,())):=by
     unfold bU;dsimp only;rw[oDT (show(i:Int)<(l.length:Int) by omega),oCT,bt];simp only[oBS];rw[bz XR];simp only[oBS];rw[e1,oBS];dsimp only;rw[bne_eq_false_iff_eq.2 he,oCF,bA (by omega) (by omega)];rfl
    have s2:bT ((i:Int),C,T,f,t,l,(),(),())=some (.inl (((i+1:Nat):Int),r.1,r.2.1,f,t,l,(),(),())):=by
     unfold bT;delta bn;dsimp only;rw[oDT (show(i:Int)<(l.length:Int) by omega),oCT,bt];simp only[oBS];rw[bz XR];simp only[oBS];rw[e2,oBS];dsimp only;rw[bne_eq_false_iff_eq.2 he,oCF,bA (by omega) (by omega)];rfl
    simp only[bu,s1,s2,oBS]
   ·exact .inl hh
   ·exact .inr hh
  ·refine .inl ⟨r.2.2,?_,?_⟩
   ·have s1:bU (l,(l.length:Int),(i:Int),f,t,l,(),(),C,T,())=some (.inr (.inl (r.2.2,(),(),()))):=by
     unfold bU;dsimp only;rw[oDT (show(i:Int)<(l.length:Int) by omega),oCT,bt];simp only[oBS];rw[bz XR];simp only[oBS];rw[e1,oBS];dsimp only;rw[bne_iff_ne.2 he,oCT]
    simp only[bu,s1,oBS]
   ·have s2:bT ((i:Int),C,T,f,t,l,(),(),())=some (.inr (.inl (r.2.2,(),(),()))):=by
     unfold bT;delta bn;dsimp only;rw[oDT (show(i:Int)<(l.length:Int) by omega),oCT,bt];simp only[oBS];rw[bz XR];simp only[oBS];rw[e2,oBS];dsimp only;rw[bne_iff_ne.2 he,oCT]
    simp only[bu,s2,oBS]
theorem zx:StK [] []:=⟨by simp[Sm],(λc hc=>by cases hc),by simp[Sm],(λt ht=>by cases ht)⟩
theorem D4{C:CC}{T:TT'}(h:StK C T){l:List PG}(hl:Sm l)(hp:∀p∈l,PgK p)(a f t:Int):
 ∃(C':CC)(T':TT')(e:Int),fB C T a f t l=some (C',T',e,())/\iP C T a f t l=some (C',T',e,())/\StK C' T':=by
 have WS:l.length<=1099511627776:=hl;obtain⟨e,c1,c2,_⟩:=kB (f:=f) (t:=t) hl;unfold fB iP;rw[c1,c2];simp only[oBS];by_cases he:e=0
 rotate_left
 ·rw[bne_iff_ne.2 he];exact⟨_,_,_,rfl,rfl,zx⟩
 rw[bne_eq_false_iff_eq.2 he,oCF,oCF];by_cases ha:a=f
 rotate_left
 ·rw[bne_iff_ne.2 ha];exact⟨_,_,_,rfl,rfl,zx⟩
 rw[bne_eq_false_iff_eq.2 ha,oCF,oCF,Mu h,oBS];delta bn;dsimp only
 rcases GN hl hp (f:=f) (t:=t) l.length 0 (by omega) C T h NN (lF WS)with⟨e,h1,h2⟩|⟨C',T',hk,h1,h2⟩
 ·rw[show bu bU NN (l,(l.length:Int),0,f,t,l,(),(),C,T,())=_ from h1,show bu bT NN (0,C,T,f,t,l,(),(),())=_ from h2];exact⟨_,_,_,rfl,rfl,zx⟩
 ·rw[show bu bU NN (l,(l.length:Int),0,f,t,l,(),(),C,T,())=_ from h1,show bu bT NN (0,C,T,f,t,l,(),(),())=_ from h2];dsimp only;rw[AT hk];exact⟨_,_,_,rfl,rfl,hk⟩
theorem xR{C:CC}{T:TT'}{D:CC}{U:TT'}(hC:Sm C)(hD:Sm D)(hT:SmT T)(hU:SmT U)(f t:Int):
 ∃(f' t':Int)(L:List PG)(e:Int),ek C T D U f t=some (f',t',L,e,())/\dE C T D U f t=some (f',t',L,e,())/\L.length<=20/\(∀p∈L,PgK p)/\∀p∈L,(uz C T D U/\ct p∈pgs (szs C) T.length):=by
 by_cases h:uz C T D U
 rotate_left
 ·unfold ek dE;rw[D0 h hC hD hT hU,D1 h hC hD];exact⟨0,0,[],1,rfl,rfl,by simp,(λp hp=>by cases hp),(λp hp=>by cases hp)⟩
 obtain⟨e,c1,c2,c3⟩:=kB (f:=f) (t:=t) (l:=[]) (by simp[Sm]);by_cases g:0<=f/\t<=200/\f<=t
 rotate_left
 ·have e6:=c3 g;subst e6;unfold ek dE;rw[zd h hT hU,ze h hT hU];simp only[oBS,bne_self_eq_false,oCF];rw[Eo,oIN g,c2];exact⟨0,0,[],6,rfl,rfl,by simp,(λp hp=>by cases hp),(λp hp=>by cases hp)⟩
 have e0:e=0:=by
  have:=KX g.1 g.2.1 g.2.2 (l:=[]) (by simp[Sm]) (λi hi=>by simp at hi);rw[this]at c1
  injection c1 with c1
  injection c1 with c1
  exact c1.symm
 subst e0;have hlen:=Gv (D:=D) (U:=U) h.1
 have ZA:∀p∈dif C T D U,p∈pgs (szs D) U.length:=λp hp=>by
  rw[<- h.2.2.1,<- h.2.2.2];exact(vF.1 hp).1
 refine⟨f,t,(dif C T D U).map (pg D U),0,Jv h hT hU g.1 g.2.1 g.2.2,?_,by rw[List.length_map];exact hlen,λp hp=>?_,λp hp=>?_⟩
 ·unfold dE;rw[ze h hT hU,oBS];dsimp only;rw[bne_self_eq_false,oCF,c2,oBS];dsimp only;rw[bne_self_eq_false,oCF];generalize dif C T D U=l at *
  have VG:=cj (f:=fb) (st:=λi=>((i:Int),D,U,(0:Int),(0:Int),(),l,f,t,(l.take i).map (pg D U),())) (n:=l.length) (N:=NN) (fin:=((l.length:Int),false,D,U,(0:Int),(0:Int),(),l,f,t,(l.take l.length).map (pg D U),())) (lF (by omega)) (λi hi=>by
   unfold fb;delta bn;dsimp only;rw[oDT (show(i:Int)<(l.length:Int) by omega),oCT,bt];simp only[oBS];rw[bz hi];simp only[oBS];rw[KS h.2.1 hU (ZA _ (List.getElem_mem hi)),oBS];dsimp only;rw[bx (by rw[List.length_map,oLT];omega) (by simp) (by omega) (by rw[List.length_map,oLT];simp;omega),oCT,bA (by omega) (by omega)];rw[<- ga hi]
   rfl) (by
   unfold fb;delta bn;dsimp only
   rw[oDF (by omega),oCF])
  rw[show bu fb NN (0,D,U,0,0,(),l,f,t,[],())=_ from VG,oBS];dsimp only;rw[List.take_length]
 ·obtain⟨q,hq,rfl⟩:=List.mem_map.1 hp;exact JY h.2.1 hU (ZA q hq)
 ·obtain⟨q,hq,rfl⟩:=List.mem_map.1 hp;rw[LS];exact⟨h,(vF.1 hq).1⟩
def puG:List PG->PG->List PG
 | [],p=>[p]
 |q::r,p=>if dc (ct q) (ct p)then q::puG r p else if ct q=ct p then p::r else p::q::r
def sV(l:List PG)(p:PG):Nat:=(l.takeWhile λq=>dc (ct q) (ct p)).length
theorem Jq(p:PG):∀l:List PG,puG l p=l.take (sV l p)++[p]++l.drop (if l[sV l p]?.map ct=some (ct p)then sV l p+1 else sV l p)
 | []=>by simp[puG,sV]
 |q::r=>by
  have ih:=Jq p r;unfold puG;by_cases h:dc (ct q) (ct p)=true
  ·have e:sV (q::r) p=sV r p+1:=by
    unfold sV;rw[List.takeWhile_cons,oIP h];rfl
   rw[oIP h,ih,e,List.getElem?_cons_succ,List.take_succ_cons];by_cases g:r[sV r p]?.map ct=some (ct p)
   ·rw[oIP g,oIP g];rfl
   ·rw[oIN g,oIN g];rfl
  ·have e:sV (q::r) p=0:=by
    unfold sV;rw[List.takeWhile_cons,oIN h];rfl
   rw[oIN h,e,List.getElem?_cons_zero,oMS];by_cases g:ct q=ct p
   ·rw[oIP g,oIP (by rw[g])];rfl
   ·rw[oIN g,oIN (λw=>g (by injection w))];rfl
theorem LD{α:Type}{q:α->Bool}:∀{l:List α}{i:Nat}{x:α},i<(l.takeWhile q).length->l[i]?=some x->q x=true
 | [],i,x,h,_=>by simp at h
 |a::l,i,x,h,e=>by
  rw[List.takeWhile_cons]at h;by_cases g:q a=true
  ·rw[oIP g,oLC]at h
   cases i with
   |zero=>
    rw[List.getElem?_cons_zero]at e
    injection e with e
    subst e;exact g
   |succ i=>
    rw[List.getElem?_cons_succ]at e;exact LD (by omega) e
  ·rw[oIN g]at h;simp at h
theorem LE{α:Type}{q:α->Bool}:∀{l:List α}{x:α},l[(l.takeWhile q).length]?=some x->q x=false
 | [],x,e=>by simp at e
 |a::l,x,e=>by
  rw[List.takeWhile_cons]at e;by_cases g:q a=true
  ·rw[oIP g,oLC,List.getElem?_cons_succ]at e;exact LE e
  ·rw[oIN g]at e;rw[List.length_nil,List.getElem?_cons_zero]at e
   injection e with e
   subst e;exact(Bool.not_eq_true _).mp g
theorem Fw(p:PG):∀l:List PG,(puG l p).length<=l.length+1
 | []=>Nat.le_refl _
 |q::r=>by
  have:=Fw p r;unfold puG;split
  ·simp only[oLC];omega
  ·split<;>simp only[oLC]<;>omega
theorem Fv{p q:PG}:∀{l:List PG},q∈puG l p->q=p\/q∈l
 | [],h=>.inl (List.mem_singleton.1 h)
 |x::r,h=>by
  unfold puG at h;split at h
  ·rcases List.mem_cons.1 h with rfl|h
   ·exact .inr (by simp)
   ·rcases Fv h with g|g
    ·exact .inl g
    ·exact .inr (by simp[g])
  ·split at h
   ·rcases List.mem_cons.1 h with g|g
    ·exact .inl g
    ·exact .inr (by simp[g])
   ·rcases List.mem_cons.1 h with g|g
    ·exact .inl g
    ·exact .inr g
theorem o8:∀(L a:List PG),(L.foldl puG a).length<=a.length+L.length
 | [],a=>by simp
 |p::L,a=>by
  have h1:=o8 L (puG a p);have h2:=Fw p a;rw[List.foldl_cons,oLC];omega
theorem wD{q:PG}:∀{L a:List PG},q∈L.foldl puG a->q∈a\/q∈L
 | [],a,h=>.inl h
 |p::L,a,h=>by
  rw[List.foldl_cons]at h;rcases wD h with g|g
  ·rcases Fv g with rfl|g
   ·exact .inr (by simp)
   ·exact .inl g
  ·exact .inr (by simp[g])
theorem If{l:List PG}(p:PG)(h:l.length<=1099511627776):bu fL NN (l,0,p.1,p.2.1,p.2.2.1,p.2.2.2.1,p.2.2.2.2.1,p.2.2.2.2.2.1,p.2.2.2.2.2.2.1,p.2.2.2.2.2.2.2.1,p.2.2.2.2.2.2.2.2.1,p.2.2.2.2.2.2.2.2.2.1,p.2.2.2.2.2.2.2.2.2.2,())=some (l,(sV l p:Int),false,p.1,p.2.1,p.2.2.1,p.2.2.2.1,p.2.2.2.2.1,p.2.2.2.2.2.1,p.2.2.2.2.2.2.1,p.2.2.2.2.2.2.2.1,p.2.2.2.2.2.2.2.2.1,p.2.2.2.2.2.2.2.2.2.1,p.2.2.2.2.2.2.2.2.2.2,()):=by
 have hc:sV l p<=l.length:=(List.takeWhile_prefix _).length_le;refine cj (f:=fL) (λi=>(l,(i:Int),p.1,p.2.1,p.2.2.1,p.2.2.2.1,p.2.2.2.2.1,p.2.2.2.2.2.1,p.2.2.2.2.2.2.1,p.2.2.2.2.2.2.2.1,p.2.2.2.2.2.2.2.2.1,p.2.2.2.2.2.2.2.2.2.1,p.2.2.2.2.2.2.2.2.2.2,())) (n:=sV l p) (N:=NN) (by unfold NN;omega) (λi hi=>?_) ?_
 ·have ZM:i<l.length:=by omega
  have ha:dc (ct l[i]) (ct p)=true:=LD (q:=λq=>dc (ct q) (ct p)) hi (oGE ZM);unfold fL;delta bn;dsimp only;rw[oDT (show(i:Int)<(l.length:Int) by omega),oCT,bt];simp only[oBS];rw[bz ZM];simp only[oBS];rw[show eo l[i].1 l[i].2.1 p.1 p.2.1=_ from Bm (ct l[i]) (ct p),ha,oBS];dsimp only;rw[oCT,bA (by omega) (by omega)];rfl
 ·unfold fL;delta bn;dsimp only;by_cases hl:sV l p<l.length
  ·have ha:dc (ct l[sV l p]) (ct p)=false:=LE (q:=λq=>dc (ct q) (ct p)) (l:=l) (oGE hl);rw[oDT (show(sV l p:Int)<(l.length:Int) by omega),oCT,bt];simp only[oBS];rw[bz hl];simp only[oBS];rw[show eo l[sV l p].1 l[sV l p].2.1 p.1 p.2.1=_ from Bm (ct l[sV l p]) (ct p),ha];rfl
  ·rw[oDF (show ¬(sV l p:Int)<(l.length:Int) by omega)];rfl
theorem LR{l:List PG}(p:PG)(h:l.length+1<=1099511627776):ja l p.1 p.2.1 p.2.2.1 p.2.2.2.1 p.2.2.2.2.1 p.2.2.2.2.2.1 p.2.2.2.2.2.2.1 p.2.2.2.2.2.2.2.1 p.2.2.2.2.2.2.2.2.1 p.2.2.2.2.2.2.2.2.2.1 p.2.2.2.2.2.2.2.2.2.2=some (puG l p,()):=by
 have hc:sV l p<=l.length:=(List.takeWhile_prefix _).length_le;unfold ja;rw[If p (by omega),Jq,oBS];delta bn;dsimp only;obtain⟨k,hk⟩:∃k,k=sV l p:=⟨_,rfl⟩;rw[<- hk]at hc⊢;rw[bt,oBS]
 have e1:fZ 0 k l.length=true:=by unfold fZ;simp[hc]
 have e3:zu l 0 (Nat.sub k 0)=l.take k:=by unfold zu;rfl
 have e4:∀m,m<=l.length->zu l m (Nat.sub l.length m)=l.drop m:=λm hm=>by
  unfold zu;rw[List.take_of_length_le (by rw[List.length_drop];exact Nat.le_refl _)]
 have e2:∀m,m<=l.length->fZ m l.length l.length=true:=λm hm=>by unfold fZ;simp[hm]
 rw[e1,oCT,e3,bx (by omega) (by rw[oLT];omega) (by omega) (by rw[oLT];omega),oCT];rw[bx (by show(l.take k).length<=_;rw[oLT];omega) (by simp) (by omega) (by show(l.take k).length+1<=_;rw[oLT];omega),oCT]
 have fin:∀m:Nat,m<=l.length->k<=m->(dO (m:Int)).bind (λx22=>bif fZ x22 l.length l.length then
  bif cb 120 (List.length (List.append (List.append [] (l.take k)) [p])) (List.length (zu l x22 (Nat.sub l.length x22)))then some (List.append (List.append (List.append [] (l.take k)) [p]) (zu l x22 (Nat.sub l.length x22)),())else none else none)=some (l.take k++[p]++l.drop m,()):=λm hm hkm=>by
  rw[bt,oBS,e2 m hm,oCT,e4 m hm,bx (by show(l.take k++[p]).length<=_;rw[List.length_append,oLT,List.length_singleton];omega) (by rw[List.length_drop];omega) (by omega) (by show(l.take k++[p]).length + _<=_;rw[List.length_append,oLT,List.length_singleton,List.length_drop];omega),oCT];rfl
 by_cases hl:k<l.length
 ·rw[oDT (show(k:Int)<(l.length:Int) by omega),oCT];simp only[oBS];rw[bz hl];simp only[oBS];have eb:((l[k].1==p.1)&&((l[k].2.1==p.2.1)&&true))=decide (ct l[k]=ct p):=LT (ct l[k]) (ct p);rw[eb,oGE hl,oMS];by_cases g:ct l[k]=ct p
  ·rw[oDT g,oCT,oIP (by rw[g]),oBS];dsimp only;rw[bA (by omega) (by omega)];exact fin (k+1) (by omega) (by omega)
  ·rw[oDF g,oCF,oIN (λw=>g (by injection w)),oBS];exact fin k (by omega) (by omega)
 ·rw[oDF (show ¬(k:Int)<(l.length:Int) by omega),oCF,oBS,oGN (by omega),oIN (by simp)];exact fin k (by omega) (by omega)
theorem Fl{F:PID->PG}{p:PG}:∀{S:List PID},Asc S->(∀x∈S,ct (F x)=x)->puG (S.map F) p=(tX S (ct p)).map λx=>if x=ct p then p else F x
 | [],_,_=>by simp[puG,tX]
 |y::r,ha,hF=>by
  have hy:ct (F y)=y:=hF y (by simp);have Wq:=List.pairwise_cons.1 ha;simp only[List.map_cons,puG,hy,tX];by_cases h:dc y (ct p)=true
  ·rw[oIP h,oIP h,Fl Wq.2 λx hx=>hF x (by simp[hx]),List.map_cons,oIN (λe=>by rw[e,gi]at h;cases h)]
  ·rw[oIN h,oIN h];by_cases e:y=ct p
   ·rw[oIP e,oIP e,List.map_cons,oIP e];congr 1;refine List.map_congr_left λx hx=>?_;have h1:=Wq.1 x hx;rw[oIN (λg=>by rw[g,e,gi]at h1;cases h1)]
   ·rw[oIN e,oIN e,List.map_cons,List.map_cons,oIP rfl,oIN e];congr 2;refine List.map_congr_left λx hx=>?_;have h1:=Wq.1 x hx;rw[oIN (λg=>by rw[g]at h1;exact h h1)]
theorem Ca:∀(L:List PG){S:List PID}{F:PID->PG},Asc S->(∀x∈S,ct (F x)=x)->L.foldl puG (S.map F)=((L.map ct).foldl tX S).map λx=>L.foldl (λa p=>if ct p=x then p else a) (F x)
 | [],S,F,_,_=>rfl
 |p::L,S,F,ha,hF=>by
  rw[List.foldl_cons,Fl ha hF,Ca L (Al _ ha) (λx hx=>?_),List.map_cons,List.foldl_cons]
  ·refine List.map_congr_left λx _=>?_;rw[List.foldl_cons];congr 1;by_cases e:x=ct p
   ·rw[oIP e,oIP e.symm]
   ·rw[oIN e,oIN (λg=>e g.symm)]
  ·by_cases e:x=ct p
   ·rw[oIP e];exact e.symm
   ·rw[oIN e]
    rcases(vW _ _).1 hx with g|g
    ·exact absurd g e
    ·exact hF x g
theorem Gk(L:List PG):L.foldl puG []=(kP (L.map ct)).map (iJ L):=Ca L (S:=[]) (F:=λ_=>Bt) List.Pairwise.nil λx hx=>by cases hx
theorem Di{L:List PG}(hL:L.length<=1099511627776)(hp:∀p∈L,PgK p):fu L L=some (true,()):=by
 unfold fu;delta bn;dsimp only;rw[bne_self_eq_false,oCF]
 have h:=cj (f:=dl) (st:=λi=>(L,L,(i:Int),())) (n:=L.length) (N:=NN) (fin:=.inr (L,L,(L.length:Int),false,())) (lF hL) (λi hi=>by
  unfold dl;delta bn;dsimp only;have h2:=hp _ (List.getElem_mem hi);rw[oDT (show(i:Int)<(L.length:Int) by omega),oCT,bt];simp only[oBS];rw[bz hi];simp only[oBS];rw[Gr (x:=L[i]) (y:=L[i]) h2.1 h2.2,oBS,oDT rfl];simp only[oNT,oCF];rw[bA (by omega) (by omega)]
  rfl) (by
  unfold dl;delta bn;dsimp only
  rw[oDF (by omega),oCF])
 rw[show bu dl NN (L,L,0,())=_ from h]
theorem u5{f t:Int}{L:List PG}(hL:L.length<=1099511627776)(hp:∀p∈L,PgK p):is f t L f t L=some (true,()):=by
 unfold is;rw[beq_self_eq_true,oCT,beq_self_eq_true,oCT,Di hL hp];rfl
theorem yF{α β:Type}{g:β->α->β}{l:List α}{i:Nat}(h:i<l.length)(a:β):(l.take (i+1)).foldl g a=g ((l.take i).foldl g a) l[i]:=by
 rw[<- kK h,List.foldl_append];rfl
def PgW(p:PG):Prop:=PgK p/\wfP (ct p)=true
theorem Dp{xs ys:List PG}(hx:xs.length<=2000000)(hy:ys.length<=2000000)(px:∀p∈xs,PgW p)(py:∀p∈ys,PgW p)(f t g u:Int):
 ∃(f' t':Int)(L:List PG)(e:Int),cq f t xs g u ys=some (f',t',L,e,())/\iO f t xs g u ys=some (f',t',L,e,())/\L.length<=1099511627776/\∀p∈L,PgK p:=by
 have hok:p8 xs ys=true:=by
  simp only[p8,oBA,oDE,List.all_eq_true];refine⟨by omega,λq hq=>?_⟩;rcases List.mem_append.1 hq with hq|hq
  ·exact⟨⟨(px q hq).1.1,(px q hq).1.2⟩,(px q hq).2⟩
  ·exact⟨⟨(py q hq).1.1,(py q hq).1.2⟩,(py q hq).2⟩
 obtain⟨e1,c1,d1,_⟩:=kB (f:=f) (t:=t) (l:=xs) (by unfold Sm;omega);obtain⟨e2,c2,d2,_⟩:=kB (f:=g) (t:=u) (l:=ys) (by unfold Sm;omega);unfold cq iO;rw[oIP hok,y8,y8,c1,c2,d1,d2];simp only[oBS];have bad:∀e:Int,∃(f' t':Int)(L:List PG)(e':Int),(some (0,0,[],e,()):Option (Int×Int×List PG×Int×Unit))=some (f',t',L,e',())/\(some (0,0,[],e,()):Option (Int×Int×List PG×Int×Unit))=some (f',t',L,e',())/\L.length<=1099511627776/\∀p∈L,PgK p:=λe=>⟨0,0,[],e,rfl,rfl,by simp,λp hp=>by cases hp⟩;by_cases h1:e1=0
 rotate_left
 ·rw[oIP h1,bne_iff_ne.2 h1,oCT];exact bad e1
 rw[oIN (λw=>w h1),bne_eq_false_iff_eq.2 h1,oCF];by_cases h2:e2=0
 rotate_left
 ·rw[oIP h2,bne_iff_ne.2 h2,oCT];exact bad e2
 rw[oIN (λw=>w h2),bne_eq_false_iff_eq.2 h2,oCF];by_cases h3:t=g
 rotate_left
 ·rw[oIP h3,bne_iff_ne.2 h3,oCT];exact bad 35
 rw[oIN (λw=>w h3),bne_eq_false_iff_eq.2 h3,oCF];rw[KH (by rw[List.length_map,List.length_append];simp;omega),List.append_nil,oBS];dsimp only;have Vb:(kP ((xs++ys).map ct)).length<=0+((xs++ys).map ct).length:=Gj _ [];rw[List.length_map,List.length_append]at Vb
 have ZW:(kP ((xs++ys).map ct)).all wfP=true:=by
  rw[List.all_eq_true];intro p hp;obtain⟨q,hq,rfl⟩:=List.mem_map.1 ((xq _ _).1 hp);rcases List.mem_append.1 hq with hq|hq
  ·exact(px q hq).2
  ·exact(py q hq).2
 rw[oIP ⟨by omega,ZW⟩,<- Gk,List.foldl_append]
 have l0:=cj (f:=eE) (st:=λi=>((i:Int),f,t,xs,g,u,ys,(0:Int),(0:Int),(),f,u,(xs.take i).foldl puG [],())) (n:=xs.length) (N:=NN) (fin:=((xs.length:Int),false,f,t,xs,g,u,ys,(0:Int),(0:Int),(),f,u,(xs.take xs.length).foldl puG [],())) (lF (by omega)) (λi hi=>by
  unfold eE;delta bn;dsimp only;rw[oDT (show(i:Int)<(xs.length:Int) by omega),oCT,bt];simp only[oBS];rw[bz hi];simp only[oBS];have hl:=o8 (xs.take i) [];rw[oLT]at hl;rw[LR xs[i] (by simp only[List.length_nil]at hl;omega),oBS,yF hi];dsimp only;rw[bA (by omega) (by omega)]
  rfl) (by
  unfold eE;delta bn;dsimp only
  rw[oDF (by omega),oCF])
 rw[show bu eE NN (0,f,t,xs,g,u,ys,0,0,(),f,u,[],())=_ from l0,List.take_length,oBS];dsimp only;obtain⟨X,hX⟩:∃X,X=xs.foldl puG []:=⟨_,rfl⟩;have hXl:=o8 xs [];rw[<- hX]at hXl⊢;simp only[List.length_nil]at hXl
 have l1:=cj (f:=eD) (st:=λi=>((i:Int),g,u,ys,(0:Int),(0:Int),(),f,u,(ys.take i).foldl puG X,())) (n:=ys.length) (N:=NN) (fin:=((ys.length:Int),false,g,u,ys,(0:Int),(0:Int),(),f,u,(ys.take ys.length).foldl puG X,())) (lF (by omega)) (λi hi=>by
  unfold eD;delta bn;dsimp only;rw[oDT (show(i:Int)<(ys.length:Int) by omega),oCT,bt];simp only[oBS];rw[bz hi];simp only[oBS];have hl:=o8 (ys.take i) X;rw[oLT]at hl;rw[LR ys[i] (by omega),oBS,yF hi];dsimp only;rw[bA (by omega) (by omega)]
  rfl) (by
  unfold eD;delta bn;dsimp only
  rw[oDF (by omega),oCF])
 rw[show bu eD NN (0,g,u,ys,0,0,(),f,u,X,())=_ from l1,List.take_length];have hYl:=o8 ys X;refine⟨_,_,_,_,rfl,rfl,by omega,λp hp=>?_⟩;rcases wD hp with hp|hp
 ·rw[hX]at hp;rcases wD hp with hp|hp
  ·cases hp
  ·exact(px p hp).1
 ·exact(py p hp).1
theorem Bn{C:CC}{T:TT'}{D:CC}{U:TT'}(h:StK C T)(h':StK D U){xs ys:List PG}(hx:xs.length<=2000000)(hy:ys.length<=2000000)(px:∀p∈xs,PgW p)(py:∀p∈ys,PgW p)(a b c f t g u:Int):
 bS C T D U a b c f t xs g u ys=some (true,()):=by
 obtain⟨f1,t1,L1,e1,m1,m2,m3,m4,_⟩:=xR (C:=C) (T:=T) (D:=D) (U:=U) h.1 h'.1 h.2.2.2 h'.2.2.2 a b;obtain⟨C1,T1,e2,a1,a2,a3⟩:=D4 h (l:=xs) (by unfold Sm;omega) (λp hp=>(px p hp).1) c f t;obtain⟨f2,t2,L2,e3,n1,n2,n3,n4⟩:=Dp hx hy px py f t g u;obtain⟨e4,c1,c2,_⟩:=kB (f:=f) (t:=t) (l:=xs) (by unfold Sm;omega);unfold bS;rw[m1,m2,a1,a2,n1,n2];simp only[oBS,beq_self_eq_true,oCT];rw[u5 (by omega) m4,oBS];dsimp only;rw[oCT,Kt a3,oBS];dsimp only;rw[oDT ⟨rfl,rfl⟩,oCT,u5 n3 n4,oBS];dsimp only;rw[oCT,c1,c2];simp only[oBS,beq_self_eq_true]
end Go.Proofs.YtbdhpgelkfncpaaGreat
