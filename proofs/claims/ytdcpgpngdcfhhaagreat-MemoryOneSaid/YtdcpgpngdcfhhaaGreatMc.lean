/- Part of the proof; no condition. -/
import Derived.Test.YtdcpgpngdcfhhaaGreatMb
import Derived.Lib.SliceRun
set_option linter.unusedVariables false
set_option linter.unusedSimpArgs false
namespace Go.Proofs.YtdcpgpngdcfhhaaGreat
open Go.RowKit
def prK:List (GP×Addr)→Nat→Option (Nat×Nat×Nat)
 | [],_=>none
 | (g,ad) :: K,r=>if 2*g.i+2=r then some (ad.block,ad.off,g.cells.length) else prK K r
def bsK:List (GP×Addr)→Nat→Nat
 | [],_=>0
 | (g,_) :: K,r=>if 2*g.i+2=r then 0 else g.cells.length+bsK K r
def ceK(K:List (GP×Addr)):List (Nat×List TV):=K.map fun x=>(2*x.1.i+2,x.1.cells)
def ceO(ow:List (Nat×TV)):List (Nat×List TV):=ow.map fun x=>(2*x.1+3,[x.2])
def owK:List (Nat×TV)→Nat→Option Nat
 | [],_=>none
 | (i,_) :: q,r=>if 2*i+3=r then some 0 else (owK q r).map (· + 1)
def jO(K:List (GP×Addr)):List TV:=K.flatMap fun x=>x.1.cells
section
theorem kx{K:List (GP×Addr)}{r b o n:Nat}(h:prK K r=some (b,o,n)):∃x∈K,r=2*x.1.i+2∧b=x.2.block∧o=x.2.off∧n=x.1.cells.length∧ef (ceK K) r=some x.1.cells∧∀j (_:j < x.1.cells.length),(jO K)[bsK K r+j]?=x.1.cells[j]?:=by
 induction K with
 | nil=>simp[prK] at h
 | cons y K ih=>
  obtain⟨g,ad⟩:=y;simp only[prK] at h;split at h
  ·rename_i e
   injection h with h
   injection h with h1 h
   injection h with h2 h3
   refine⟨(g,ad),by simp,e.symm,h1.symm,h2.symm,h3.symm,by simp[ceK,ef,e],fun j hj=>?_⟩;simp only[bsK,e,if_true,jO,List.flatMap_cons,Nat.zero_add];exact List.getElem?_append_left hj
  ·rename_i e;obtain⟨x,h1,h2,h3,h4,h5,h6,h7⟩:=ih h;refine⟨x,by simp[h1],h2,h3,h4,h5,by simpa [ceK,ef,e] using h6,fun j hj=>?_⟩;simp only[bsK,e,if_false,jO,List.flatMap_cons];rw[List.getElem?_append_right (by omega)];rw[show g.cells.length+bsK K r+j - g.cells.length=bsK K r+j by omega];exact h7 j hj
theorem EG{K:List (GP×Addr)}{r:Nat}{l:List TV}(h:ef (ceK K) r=some l):prK K r≠none:=by
 induction K with
 | nil=>simp[ceK,ef] at h
 | cons y K ih=>
  obtain⟨g,ad⟩:=y;simp only[ceK,List.map_cons,ef] at h;simp only[prK];split
  ·simp
  ·rename_i e;rw[if_neg e] at h;exact ih h
theorem Ky{K:List (GP×Addr)}:∀r b o n r' b' o' n',prK K r=some (b,o,n)→prK K r'=some (b',o',n')→∀j j',j < n→j' < n'→bsK K r+j=bsK K r'+j'→r=r':=by
 induction K with
 | nil=>intro r b o n r' b' o' n' h;simp[prK] at h
 | cons y K ih=>
  intro r b o n r' b' o' n' h h' j j' hj hj' e;obtain⟨g,ad⟩:=y;simp only[prK,bsK] at h h' e;by_cases e1:2*g.i+2=r<;>by_cases e2:2*g.i+2=r'
  ·omega
  ·rw[if_pos e1] at h e;rw[if_neg e2] at h' e
   have:n=g.cells.length:=by injection h with h;injection h with _ h;injection h with _ h;exact h.symm
   omega
  ·rw[if_neg e1] at h e;rw[if_pos e2] at h' e
   have:n'=g.cells.length:=by injection h' with h;injection h with _ h;injection h with _ h;exact h.symm
   omega
  ·simp only[e1,e2,if_false] at h h' e;exact ih _ _ _ _ _ _ _ _ h h' j j' hj hj' (by omega)
theorem te.slot{w:World}{i:Nat}{ts:List TV}{as us:List Value}{K:List (GP×Addr)}(h:te w i ts as K us):∀x∈K,i≤x.1.i∧x.1.p.hops=[]∧∃p vs,ts[x.1.i - i]?=some (.ptr p vs):=by
 induction h with
 | nil=>intro x hx;simp at hx
 | @ptr i p hp vs vs0 cells ad ad0 u ts xs K us hr hb hs h0 hh hu hc hok h ih=>
  intro x hx;rcases List.mem_cons.1 hx with rfl | hx
  ·exact⟨Nat.le_refl _,hb,_,_,by simp;exact⟨rfl,rfl⟩⟩
  ·obtain⟨h1,h3,p,vs,h2⟩:=ih x hx;refine⟨by omega,h3,p,vs,?_⟩;rw[show x.1.i - i=(x.1.i - (i+1))+1 by omega];simpa using h2
 | @arg i t x0 ts xs K us ha h ih=>
  intro x hx;obtain⟨h1,h3,p,vs,h2⟩:=ih x hx;refine⟨by omega,h3,p,vs,?_⟩;rw[show x.1.i - i=(x.1.i - (i+1))+1 by omega];simpa using h2
 | @own i p0 vs0 x0 ts xs K us h ih=>
  intro x hx;obtain⟨h1,h3,p,vs,h2⟩:=ih x hx;refine⟨by omega,h3,p,vs,?_⟩;rw[show x.1.i - i=(x.1.i - (i+1))+1 by omega];simpa using h2
theorem te.len{w:World}{i:Nat}{ts:List TV}{as us:List Value}{K:List (GP×Addr)}(h:te w i ts as K us):ts.length=as.length∧us.length=(jO K).length:=by
 induction h with
 | nil=>exact⟨rfl,rfl⟩
 | ptr hr hb hs h0 hh hu hc hok h ih=>exact⟨by simp[ih.1],by simp[jO,hu] at ih ⊢;exact ih.2⟩
 | arg ha h ih=>exact⟨by simp[ih.1],ih.2⟩
 | own h ih=>exact⟨by simp[ih.1],ih.2⟩
theorem te.ok{w:World}{i:Nat}{ts:List TV}{as us:List Value}{K:List (GP×Addr)}(h:te w i ts as K us):∀x∈K,∀j (h:j < x.1.cells.length),eX x.1.cells[j]=true∨mu x.1.cells[j]=true:=by
 induction h with
 | nil=>intro x hx;simp at hx
 | ptr hr hb hs h0 hh hu hc hok h ih=>
  intro x hx;rcases List.mem_cons.1 hx with rfl | hx
  ·exact hok
  ·exact ih x hx
 | arg ha h ih=>exact ih
 | own h ih=>exact ih
theorem te.here{w:World}{i:Nat}{ts:List TV}{as us:List Value}{K:List (GP×Addr)}(h:te w i ts as K us):∀r b o n,prK K r=some (b,o,n)→∀j,j < n→w.cell? ⟨b,o+j,none⟩=some (us.getD (bsK K r+j) undef)∧w.frozen? ⟨b,o+j,none⟩=false:=by
 induction h with
 | nil=>intro r b o n h;simp[prK] at h
 | @ptr i p hp0 vs vs0 cells ad ad0 u ts xs K us hr hb hs h0 hh hu hc hok h ih=>
  intro r b o n hp j hj;simp only[prK] at hp;simp only[bsK];split at hp
  ·rename_i e
   injection hp with hp
   injection hp with h1 hp
   injection hp with h2 h3
   subst h1;subst h2;subst h3;rw[if_pos e,Nat.zero_add]
   have hju:j < u.length:=by omega
   have:=hc j hju;refine⟨?_,this.2⟩;rw[this.1,List.getD_eq_getElem?_getD,List.getElem?_append_left hju,oGE hju];rfl
  ·rename_i e;rw[if_neg e];have:=ih r b o n hp j hj;refine⟨?_,this.2⟩;rw[this.1];simp only[List.getD_eq_getElem?_getD];rw[List.getElem?_append_right (by omega)];rw[show cells.length+bsK K r+j - u.length=bsK K r+j by omega]
 | arg ha h ih=>exact ih
 | own h ih=>exact ih
end
theorem sR{α:Type}{f:α→Nat}:∀{l:List α},mR (l.map f)=true→∀{x y:α},x∈l→y∈l→f x=f y→x=y:=by
 intro l
 induction l with
 | nil=>intro _ x y hx;simp at hx
 | cons z l ih=>
  intro h x y hx hy e;simp only[List.map_cons,mR,Bool.and_eq_true,Bool.not_eq_true',List.contains_eq_mem,decide_eq_false_iff_not] at h;rcases List.mem_cons.1 hx with hx1 | hx1
  ·rcases List.mem_cons.1 hy with hy1 | hy1
   ·rw[hx1,hy1]
   ·exact absurd (by rw[← hx1,e];exact List.mem_map_of_mem hy1) h.1
  ·rcases List.mem_cons.1 hy with hy1 | hy1
   ·exact absurd (by rw[← hy1,← e];exact List.mem_map_of_mem hx1) h.1
   ·exact ih h.2 hx1 hy1 e
section
variable {P:Program} {M:Fm} {σ σ':St} {H:List TV} {xs:List Value} {ts:Array Value} {w:World} {G:Gh} {a:Act} {o:Oper}
theorem om{α:Type}:∀{a b:List (Nat×α)}{r:Nat},ef (a++b) r=match ef a r with | some x=>some x | none=>ef b r:=by
 intro a
 induction a with
 | nil=>intro b r;rfl
 | cons y a ih=>
  intro b r;obtain⟨k,v⟩:=y;simp only[List.cons_append,ef];split
  ·rfl
  ·exact ih
theorem ru:∀{q:List (Nat×TV)}{r j:Nat},owK q r=some j→∃h:j < q.length,r=2*q[j].1+3∧ef (ceO q) r=some [q[j].2]:=by
 intro q
 induction q with
 | nil=>intro r j h;simp[owK] at h
 | cons y q ih=>
  intro r j h;obtain⟨i,t⟩:=y;simp only[owK] at h;split at h
  ·rename_i e
   injection h with h
   subst h;exact⟨by simp,e.symm,by simp[ceO,ef,e]⟩
  ·rename_i e
   cases hq:owK q r with
   | none=>simp[hq] at h
   | some k=>
    simp only[hq,Option.map_some,oSJ] at h;subst h;obtain⟨h1,h2,h3⟩:=ih hq;refine⟨by simp;omega,by simpa using h2,?_⟩
    have:ef (ceO ((i,t) :: q)) r=ef (ceO q) r:=by simp[ceO,ef,e]
    rw[this];simpa using h3
theorem J3:∀{q:List (Nat×TV)}{r:Nat}{l:List TV},ef (ceO q) r=some l→owK q r≠none:=by
 intro q
 induction q with
 | nil=>intro r l h;simp[ceO,ef] at h
 | cons y q ih=>
  intro r l h;obtain⟨i,t⟩:=y;simp only[owK];split
  ·simp
  ·rename_i e
   have:ef (ceO ((i,t) :: q)) r=ef (ceO q) r:=by simp[ceO,ef,e]
   rw[this] at h;have:=ih h
   cases hq:owK q r with
   | none=>exact absurd hq this
   | some k=>simp
theorem ID.facts{i:Nat}{l:List (Option Nat×TV)}{as:List Value}{ow:List (Nat×TV)}{zs:List Value}(h:ID i l as ow zs):zs.length=ow.length∧(∀x∈ow,i≤x.1∧∃c,x.2=.ow c)∧∀x∈ow,∃k,owK ow (2*x.1+3)=some k∧as[x.1 - i]?=zs[k]?:=by
 induction h with
 | nil=>exact⟨rfl,fun x h=>by simp at h,fun x h=>by simp at h⟩
 | @own i p vs l x xs c ow zs h ih=>
  obtain⟨h1,h2,h3⟩:=ih;refine⟨by simp[h1],fun y hy=>?_,fun y hy=>?_⟩
  ·rcases List.mem_cons.1 hy with rfl | hy
   ·exact⟨Nat.le_refl _,c,rfl⟩
   ·exact⟨by have:=(h2 y hy).1;omega,(h2 y hy).2⟩
  ·rcases List.mem_cons.1 hy with rfl | hy
   ·exact⟨0,by simp[owK],by simp⟩
   ·obtain⟨k,h4,h5⟩:=h3 y hy;have hle:=(h2 y hy).1;refine⟨k+1,by simp only[owK];rw[if_neg (by omega),h4];rfl,?_⟩;rw[show y.1 - i=(y.1 - (i+1))+1 by omega];simpa using h5
 | @skip i y0 l x xs ow zs h ih=>
  obtain⟨h1,h2,h3⟩:=ih;refine⟨h1,fun y hy=>⟨by have:=(h2 y hy).1;omega,(h2 y hy).2⟩,fun y hy=>?_⟩;obtain⟨k,h4,h5⟩:=h3 y hy;have hle:=(h2 y hy).1;refine⟨k,h4,?_⟩;rw[show y.1 - i=(y.1 - (i+1))+1 by omega];simpa using h5
theorem te.hands{vals:List TV}{as us:List Value}{K:List (GP×Addr)}{l:List (Option Nat×TV)}{ow:List (Nat×TV)}{zs:List Value}(hI:Inv M σ (ow.map (·.2)++jO K) (zs++us) ts w G) (h:te w 0 vals as K us) (ho:ID 0 l as ow zs) (hnd:mR ((K.map (·.1)).map (·.p.root))=true) (hpos:∀x∈K,0 < x.1.cells.length)
 (hwh:∀x∈K,x.1.p.root≠1∧((∃o n,G.β x.1.p.root=some (x.2.block,o,n))∨G.φ x.1.p.root x.1.p.off x.2.block)):Gd (ow.map (·.2)++jO K) (zs++us) w G M.A (prK K) (fun r=>ow.length+bsK K r) (ceK K++ceO ow) (owK ow):=by
 obtain⟨hz,ho2,_⟩:=ho.facts
 have hodd:∀r,r % 2=1→ef (ceK K) r=none:=fun r hr=>by
  cases hc:ef (ceK K) r with
  | none=>rfl
  | some l=>
   cases hp:prK K r with
   | none=>exact absurd hp (EG hc)
   | some x=>obtain⟨b,o,n⟩:=x;obtain⟨x,_,h2,_⟩:=kx hp;omega
 refine⟨fun r b o n hp=>?_,fun r b o n hp=>?_,fun r l hl=>?_,fun r j hj=>?_,fun r j r' b o n hj hp j' hj'=>by have:=(ru hj).1;omega,fun r r' j hj hj'=>?_,fun r b o n r' b' o' n' h1 h2 j j' hj hj' e=>Ky _ _ _ _ _ _ _ _ h1 h2 _ _ hj hj' (by omega),fun r b o n r' o' n' h1 h2=>?_,fun r b o n hp hF=>?_,fun r b o n hp j hφ=>?_,fun r b o n hp j hj=>?_⟩
 ·obtain⟨x,h1,h2,_,_,h5,_⟩:=kx hp;exact⟨by omega,by rw[h5];exact hpos x h1⟩
 ·obtain⟨x,h1,h2,_,_,h5,h6,h7⟩:=kx hp;refine⟨_,by rw[om,h6],h5.symm,fun j hj=>?_⟩;have:=h7 j hj;rw[oGE hj] at this;obtain⟨k1,k2⟩:=oGS this;refine⟨by simp;omega,?_,wg (h.ok x h1) j hj⟩;rw[List.getElem_append_right (by simp;omega)];rw[← k2];congr 1;simp;omega
 ·rw[om] at hl
  cases hc:ef (ceK K) r with
  | some l2=>exact .inl (EG hc)
  | none=>rw[hc] at hl;exact .inr (J3 hl)
 ·obtain⟨h1,h2,h3⟩:=ru hj;obtain⟨_,c,hc⟩:=ho2 ow[j] (List.getElem_mem h1);refine⟨by omega,by omega,c,by simp;omega,?_,?_⟩
  ·rw[om,hodd r (by omega)];simp only;rw[h3,hc]
  ·rw[List.getElem_append_left (by simpa using h1)];simpa using hc
 ·obtain⟨_,h2,_⟩:=ru hj;obtain⟨_,h3,_⟩:=ru hj';omega
 ·obtain⟨x,x1,x2,x3,x4,x5,_⟩:=kx h1;obtain⟨y,y1,y2,y3,y4,y5,_⟩:=kx h2
  have hroot:x.1.p.root=y.1.p.root:=by
   rcases (hwh x x1).2 with ⟨o1,n1,hb1⟩ | hb1
   ·rcases (hwh y y1).2 with ⟨o2,n2,hb2⟩ | hb2
    ·rw[← y3] at hb2;rw[← x3] at hb1;exact hI.core.boxd _ _ _ _ _ _ _ hb1 hb2
    ·rw[← y3] at hb2;rw[← x3] at hb1;exact absurd hb2 (hI.core.boxf _ _ _ _ hb1 _ _)
   ·rcases (hwh y y1).2 with ⟨o2,n2,hb2⟩ | hb2
    ·rw[← y3] at hb2;rw[← x3] at hb1;exact absurd hb1 (hI.core.boxf _ _ _ _ hb2 _ _)
    ·rw[← y3] at hb2;rw[← x3] at hb1;exact (hI.core.dis _ _ _ _ _ hb1 hb2).1
  have hxy:x.1=y.1:=sR hnd (List.mem_map_of_mem x1) (List.mem_map_of_mem y1) hroot;rw[x2,y2,hxy]
 ·obtain⟨x,x1,x2,x3,x4,x5,_⟩:=kx hp;subst x3;rcases (hwh x x1).2 with ⟨o1,n1,hb1⟩ | hb1
  ·exact hF.2.2 _ _ _ _ hb1 rfl
  ·exact hF.2.1 _ _ hb1
 ·obtain⟨x,x1,x2,x3,x4,x5,_⟩:=kx hp;subst x3;rcases (hwh x x1).2 with ⟨o1,n1,hb1⟩ | hb1
  ·exact hI.core.boxf _ _ _ _ hb1 _ _ hφ
  ·exact (hwh x x1).1 (hI.core.dis _ _ _ _ _ hb1 hφ).1
 ·have:=h.here _ _ _ _ hp j hj;refine⟨?_,this.2⟩;rw[this.1,List.getD_eq_getElem?_getD,List.getD_eq_getElem?_getD,List.getElem?_append_right (by omega)];rw[show ow.length+bsK K r+j - zs.length=bsK K r+j by omega]
theorem TmR.handed{F F':Nat→Prop}{V V':Vs}{C C':Cs}{G G':Gh}{t:TV}{x:Value}(h:TmR w F V C G t x) (ha:p9 t=true) (hF:∀k,F k→F' k):TmR w F' V' C' G' t x:=by
 cases h with
 | v h=>exact .v h
 | sl h=>exact .sl (h.frame (fun _ _ _=>rfl) fun k hk _=>hF k hk)
 | nil=>exact .nil
 | ip u hc hr=>exact .ip u (fun j hj=>⟨hF _ (hc j hj).1,(hc j hj).2⟩) fun j hj=>(hr j hj).frame (fun _ _ _=>rfl) fun k hk _=>hF k hk
 | @agg l xs hl h=>
  refine .agg hl fun j hj=>?_;simp only[p9,List.all_eq_true] at ha;have h1:=ha _ (List.getElem_mem hj);have h2:=h j hj;generalize l[j]=e at h1 h2;generalize xs.getD j undef=y at h2
  cases h2 with
  | v h=>exact .v h
  | sl h=>exact .sl (h.frame (fun _ _ _=>rfl) fun k hk _=>hF k hk)
  | _=>simp at h1
 | @fn f l xs hl h=>
  cases l with
  | nil=>exact .fn hl fun j hj=>by simp at hj
  | cons=>simp[p9] at ha
 | _=>simp[p9] at ha
theorem Av{α:Type}:∀{l:List α}{i j:Nat},ef (fR i l) j=if i≤j then l[j - i]? else none:=by
 intro l
 induction l with
 | nil=>intro i j;simp[fR,ef]
 | cons x l ih=>
  intro i j;simp only[fR,ef];by_cases e:i=j
  ·subst e;simp
  ·rw[if_neg e,ih];by_cases h:i+1≤j
   ·rw[if_pos h,if_pos (by omega)];rw[show j - i=(j - (i+1))+1 by omega];simp
   ·rw[if_neg h,if_neg (by omega)]
theorem Cw:∀{l:List TV}{i j:Nat},(argTs i l)[j]?=(l[j]?).map (argT (i+j)):=by
 intro l
 induction l with
 | nil=>intro i j;simp[argTs]
 | cons t l ih=>
  intro i j
  cases j with
  | zero=>simp[argTs]
  | succ j=>simp only[argTs,List.getElem?_cons_succ,ih];rw[show i+1+j=i+(j+1) by omega]
def Kf(w:World) (K:List (GP×Addr)) (x:GP×Addr) (t:TV) (y:Option Value):Prop:=
 ∃hp vs ad0,t=.ptr ⟨x.1.p.root,x.1.p.off,hp⟩ vs∧y=some (.pointer (some ad0))∧prK K (2*x.1.i+2)=some (x.2.block,x.2.off,x.1.cells.length)∧ef (ceK K) (2*x.1.i+2)=some x.1.cells∧x.2.spot=none∧(hp=[]→ad0=x.2) ∧
  (hp≠[]→eE w ((w.cell? ⟨x.2.block,x.2.off,none⟩).getD undef) hp=some ad0∧∃t,d7 (x.1.cells.getD 0 .dead) hp=some t)
theorem Kf.cons{w:World}{K:List (GP×Addr)}{x z:GP×Addr}{t:TV}{y:Option Value}(h:Kf w K x t y) (hne:z.1.i≠x.1.i):Kf w (z :: K) x t y:=by
 obtain⟨hp,vs,ad0,h1,h2,h3,h4,h5,h6,h7⟩:=h;obtain⟨g,ad⟩:=z;refine⟨hp,vs,ad0,h1,h2,?_,?_,h5,h6,h7⟩
 ·simp only[prK];rw[if_neg (by simp only at hne;omega)];exact h3
 ·simp only[ceK,List.map_cons,ef];rw[if_neg (by simp only at hne;omega)];exact h4
theorem te.slotArg{w:World}{i:Nat}{vals:List TV}{as us:List Value}{K:List (GP×Addr)}(h:te w i vals as K us):∀j t,vals[j]?=some t→p9 t=true∨(∃p vs,t=.pk p vs)∨∃x∈K,x.1.i=i+j∧Kf w K x t as[j]?:=by
 induction h with
 | nil=>intro j t h;simp at h
 | @ptr i p hp vs vs0 cells ad ad0 u ts xs K us hr hb hs h0 hh hu hc hok h ih=>
  intro j t ht
  cases j with
  | zero=>
   right;right;refine⟨(⟨i,p,vs,cells⟩,ad),by simp,rfl,hp,vs0,ad0,?_,by simp,by simp[prK],by simp[ceK,ef],hs,h0,hh⟩;simpa using ht.symm
  | succ j=>
   rcases ih j t (by simpa using ht) with h1 | h1 | ⟨x,h1,h2,h3⟩
   ·exact .inl h1
   ·exact .inr (.inl h1)
   ·right;right;exact⟨x,by simp[h1],by omega,by simpa using h3.cons (z:=(⟨i,p,vs,cells⟩,ad)) (by show i≠x.1.i;omega)⟩
 | @arg i t0 x0 ts xs K us ha h ih=>
  intro j t ht
  cases j with
  | zero=>left;have:t0=t:=by simpa using ht
          rw[← this];exact ha
  | succ j=>
   rcases ih j t (by simpa using ht) with h1 | h1 | ⟨x,h1,h2,h3⟩
   ·exact .inl h1
   ·exact .inr (.inl h1)
   ·exact .inr (.inr ⟨x,h1,by omega,by simpa using h3⟩)
 | @own i p0 vs0 x0 ts xs K us h ih=>
  intro j t ht
  cases j with
  | zero=>right;left;have:TV.pk p0 vs0=t:=by simpa using ht
          exact⟨p0,vs0,this.symm⟩
  | succ j=>
   rcases ih j t (by simpa using ht) with h1 | h1 | ⟨x,h1,h2,h3⟩
   ·exact .inl h1
   ·exact .inr (.inl h1)
   ·exact .inr (.inr ⟨x,h1,by omega,by simpa using h3⟩)
theorem te.enter{vals:List TV}{as us:List Value}{K:List (GP×Addr)}{l:List (Option Nat×TV)}{ow:List (Nat×TV)}{zs:List Value}(hI:Inv M σ (ow.map (·.2)++jO K) (zs++us) ts w G) (h:te w 0 vals as K us) (ho:ID 0 l as ow zs) (hpk:∀j p vs,vals[j]?=some (.pk p vs)→∃x∈ow,x.1=j)
 (hh:Gd (ow.map (·.2)++jO K) (zs++us) w G M.A (prK K) (fun r=>ow.length+bsK K r) (ceK K++ceO ow) (owK ow))
 (ht:∀j (h:j < vals.length) (h':j < as.length),TmR w (G.F M.A) σ.v (ee M σ (ow.map (·.2)++jO K)) G vals[j] as[j]) {N:Nat} (hN:as.length≤N) :
 Inv (M.into w G (prK K) N) (mkSt (argTs 0 vals) (ceK K++ceO ow)) [] [] (as.toArray++Array.replicate (N - as.length) undef) w (G.into (prK K) (fun r=>ow.length+bsK K r) (owK ow) (zs++us)):=by
 refine hI.enter hh (by simp;omega) fun i=>?_;rw[Av];simp only[Nat.zero_le,if_true,Nat.sub_zero,Cw,Nat.zero_add]
 cases hv:vals[i]? with
 | none=>exact .dead
 | some t=>
  obtain⟨hi,hvi⟩:=oGS hv
  have hi':i < as.length:=by rw[← h.len.1];exact hi
  have hx:(as.toArray++Array.replicate (N - as.length) undef).getD i undef=as[i]:=by
   simp[Array.getD_eq_getD_getElem?,Array.getElem?_append,hi']
  rw[hx];have htm:=ht i hi hi';rw[hvi] at htm;simp only[Option.map_some,Option.getD_some];rcases h.slotArg i t hv with harg | ⟨p,vs,rfl⟩ | ⟨x,x1,x2,hp,vs,ad0,rfl,x4,x5,x5c,x6,x7,x8⟩
  ·have e:argT i t=t:=by cases t<;>first | rfl | simp[p9] at harg
   rw[e];exact htm.handed harg fun k hk=>hh.F hk
  ·simp only[argT];obtain⟨x,hx1,rfl⟩:=hpk i p vs hv;obtain⟨hz,h2,h3⟩:=ho.facts;obtain⟨k,h4,h5⟩:=h3 x hx1;obtain⟨hk,_,h6⟩:=ru h4;obtain⟨_,c,h7⟩:=h2 ow[k] (List.getElem_mem hk);have hodd:=(hh.owc _ _ h4);obtain⟨_,_,c',hj,h8,h9⟩:=hodd;refine .pk (fun _=>0) (fun _=>Nat.le_refl _) rfl fun _=>⟨by simp,c',?_,?_⟩
   ·have hpn:prK K (2*x.1+3)=none:=by
     cases hp:prK K (2*x.1+3) with
     | none=>rfl
     | some y=>obtain⟨b,o,n⟩:=y;have:=(hh.even _ _ _ _ hp).1;omega
    simp only[Gh.hv,hvT];unfold Gh.val Gh.into;simp only[hpn,h4];rw[Nat.sub_zero,oGE hi',oGE (by omega)] at h5
    injection h5 with h5
    rw[List.getD_eq_getElem?_getD,List.getElem?_append_left (by omega),oGE (by omega),h5];rfl
   ·have:ee (M.into w G (prK K) N) ⟨fR 0 (argTs 0 vals),ceK K++ceO ow,[]⟩ [] (2*x.1+3) 0=.ow c':=by
     rw[d9 (by show 2*x.1+3≠1;omega)];simp[St.c,h8]
    show d7 (ee (M.into w G (prK K) N) ⟨fR 0 (argTs 0 vals),ceK K++ceO ow,[]⟩ [] (2*x.1+3) 0) []=_;rw[this];rfl
  ·simp only[argT]
   have e:as[i]=.pointer (some ad0):=by
    rw[oGE hi'] at x4;injection x4
   rw[e]
   have hxi:x.1.i=i:=by omega
   rw[hxi] at x5 x5c
   have had:(⟨x.2.block,x.2.off+0,none⟩:Addr)=x.2:=by
    obtain⟨g,ad⟩:=x;obtain⟨b,o,s⟩:=ad;simp only at x6 ⊢;subst x6;rfl
   have hcell:ee (M.into w G (prK K) N) ⟨fR 0 (argTs 0 vals),ceK K++ceO ow,[]⟩ [] (2*i+2) 0=x.1.cells.getD 0 .dead:=by
    rw[d9 (by show 2*i+2≠1;omega)];simp only[St.c,om,x5c]
   refine .ptr (fun _=>0) (fun _=>Nat.le_refl _) (by simp[jj,List.replicate_succ,List.map_const']) fun _=>?_
   cases hp with
   | nil=>
    refine⟨by simp,x.2,(ee (M.into w G (prK K) N) ⟨fR 0 (argTs 0 vals),ceK K++ceO ow,[]⟩ [] (2*i+2) 0),?_,by rw[x7 rfl],rfl⟩;unfold Gh.addr Gh.into;simp only[x5];rw[had]
   | cons h1 hs=>
    obtain⟨x9,t0,x10⟩:=x8 (by simp);refine⟨by simp,ad0,t0,?_,rfl,by show d7 (ee _ _ [] (2*i+2) 0) (h1 :: hs)=_;rw[hcell];exact x10⟩;show eE w (Gh.val _ w (2*i+2) 0) (h1 :: hs)=some ad0;unfold Gh.val Gh.into;simp only[x5];exact x9
end
theorem Cb{α:Type}{f:GP×Addr→List α}{K:List (GP×Addr)}(hf:∀x∈K,(f x).length=x.1.cells.length) {r b o n:Nat}(h:prK K r=some (b,o,n)):∃x∈K,r=2*x.1.i+2∧b=x.2.block∧o=x.2.off∧n=x.1.cells.length∧ef (K.map fun x=>(2*x.1.i+2,f x)) r=some (f x)∧∀j,j < n→(K.flatMap f)[bsK K r+j]?=(f x)[j]?:=by
 induction K with
 | nil=>simp[prK] at h
 | cons y K ih=>
  obtain⟨g,ad⟩:=y;simp only[prK] at h;split at h
  ·rename_i e
   injection h with h
   injection h with h1 h
   injection h with h2 h3
   have hl:=hf (g,ad) (by simp);simp only at hl;refine⟨(g,ad),by simp,e.symm,h1.symm,h2.symm,h3.symm,by simp[ef,e],fun j hj=>?_⟩;simp only[bsK,e,if_true,List.flatMap_cons,Nat.zero_add];exact List.getElem?_append_left (by omega)
  ·rename_i e;obtain⟨x,h1,h2,h3,h4,h5,h6,h7⟩:=ih (fun x hx=>hf x (by simp[hx])) h;have hl:=hf (g,ad) (by simp);simp only at hl;refine⟨x,by simp[h1],h2,h3,h4,h5,by simpa [ef,e] using h6,fun j hj=>?_⟩;simp only[bsK,e,if_false,List.flatMap_cons];rw[List.getElem?_append_right (by omega)];rw[show g.cells.length+bsK K r+j - (f (g,ad)).length=bsK K r+j by omega];exact h7 j hj
theorem ME{K:List (GP×Addr)}(hnd:mR (K.map fun x=>x.1.i)=true) {j:Nat}(h:j < (jO K).length):∃r b o n t,prK K r=some (b,o,n)∧t < n∧j=bsK K r+t:=by
 induction K generalizing j with
 | nil=>simp[jO] at h
 | cons y K ih=>
  obtain⟨g,ad⟩:=y;simp only[List.map_cons,mR,Bool.and_eq_true,Bool.not_eq_true',List.contains_eq_mem,decide_eq_false_iff_not] at hnd;simp only[jO,List.flatMap_cons,List.length_append] at h;by_cases hj:j < g.cells.length
  ·exact⟨2*g.i+2,ad.block,ad.off,g.cells.length,j,by simp[prK],hj,by simp[bsK]⟩
  ·obtain⟨r,b,o,n,t,h1,h2,h3⟩:=ih hnd.2 (j:=j - g.cells.length) (by simp only[jO];omega)
   have hne:2*g.i+2≠r:=fun e=>by
    obtain⟨x,x1,x2,_⟩:=kx h1;exact hnd.1 (List.mem_map.2 ⟨x,x1,by omega⟩)
   exact⟨r,b,o,n,t,by simp[prK,hne,h1],h2,by simp only[bsK,hne,if_false];omega⟩
def RWs(w:World):List (GP×Addr)→World→World
 | [],W=>W
 | x :: K,W=>RWs w K (ge w W x.2.block)
theorem Kc{w:World}{K:List (GP×Addr)}:∀{W:World},(RWs w K W).heap.size=W.heap.size:=by
 induction K with
 | nil=>intro W;rfl
 | cons x K ih=>intro W;simp only[RWs];rw[ih,mP]
theorem Aw{w:World}{K:List (GP×Addr)}:∀{W:World},(RWs w K W).os=W.os∧(RWs w K W).tape=W.tape∧(RWs w K W).output=W.output:=by
 induction K with
 | nil=>intro W;exact⟨rfl,rfl,rfl⟩
 | cons x K ih=>
  intro W;simp only[RWs];obtain⟨a1,a2,a3⟩:=ih (W:=ge w W x.2.block);obtain⟨r1,r2,r3,_⟩:=tn (w:=w) (W:=W) (b:=x.2.block);exact⟨a1.trans r1,a2.trans r2,a3.trans r3⟩
theorem MJ{w:World}{K:List (GP×Addr)}{k:Nat}:∀{W:World},(∀x∈K,k≠x.2.block)→(RWs w K W).heap[k]?=W.heap[k]?:=by
 induction K with
 | nil=>intro W h;rfl
 | cons x K ih=>
  intro W h;simp only[RWs];rw[ih fun y hy=>h y (by simp[hy]),pQ (h x (by simp))]
theorem Kd{w:World}{K:List (GP×Addr)}{k:Nat}(h2:k < w.heap.size):∀{W:World},k < W.heap.size→W.heap[k]?=w.heap[k]?→(RWs w K W).heap[k]?=w.heap[k]?:=by
 induction K with
 | nil=>intro W h1 h;exact h
 | cons x K ih=>
  intro W h1 h;simp only[RWs];refine ih (by rw[mP];exact h1) ?_;by_cases e:k=x.2.block
  ·rw[← e];exact sL h1 h2
  ·rw[pQ e];exact h
theorem MK{w:World}{K:List (GP×Addr)}{k:Nat}(h2:k < w.heap.size):∀{W:World},k < W.heap.size→(∃x∈K,k=x.2.block)→(RWs w K W).heap[k]?=w.heap[k]?:=by
 induction K with
 | nil=>intro W h1 h;obtain⟨x,hx,_⟩:=h;simp at hx
 | cons x K ih=>
  intro W h1 h;simp only[RWs];obtain⟨y,hy,e⟩:=h;rcases List.mem_cons.1 hy with rfl | hy
  ·exact Kd h2 (by rw[mP];exact h1) (by rw[e];rw[e] at h1 h2;exact sL h1 h2)
  ·exact ih (by rw[mP];exact h1) ⟨y,hy,e⟩
section
variable {P:Program} {M:Fm} {σ σ':St} {H:List TV} {xs:List Value} {ts:Array Value} {w:World} {G:Gh} {a:Act} {o:Oper}
theorem Hj{p:dR}{t:TV}(h:(wE p t).run σ=some ((),σ')) {r:Nat}(hr:r≠p.root) (o n:Nat):jj σ'.v r o n=jj σ.v r o n:=by
 unfold wE at h;simp only[SP.run] at h
 have bump:∀{vr:List (Key×Nat)},σ'.vr=vr→(∀q,qI vr q=qI σ.vr q+if (p.root,p.off,p.hops.length+1)=q then 1 else 0)→jj σ'.v r o n=jj σ.v r o n:=by
  intro vr e hv
  have hv':∀q,σ'.v q=σ.v q+if (p.root,p.off,p.hops.length+1)=q then 1 else 0:=fun q=>by unfold St.v;rw[e];exact hv q
  rw[jX]
  have hne:∀o' d,((p.root,p.off,p.hops.length+1):Key)≠(r,o',d):=fun o' d e=>by
   injection e with e _
   exact hr e.symm
  refine⟨by rw[hv',if_neg (hne _ _)];omega,fun d hd=>by rw[hv',if_neg (hne _ _)];omega⟩
 cases hg:d7 (σ.c p.root p.off) p.hops with
 | none=>simp[hg,SP.run] at h
 | some old=>
  simp only[hg] at h;split at h
  ·split at h
   ·obtain⟨l,hl,ho,h3⟩:=SP.run_wrC h;simp only[SP.run,oSJ,oPJ,true_and] at h3;exact bump (vr:=oE σ.vr (p.root,p.off,p.hops.length+1)) (by rw[← h3]) fun q=>fY _ _ _
   ·simp[SP.run] at h
  ·obtain⟨l,hl,ho,h3⟩:=SP.run_wrC h;simp only[SP.run,oSJ,oPJ,true_and] at h3
   have hv:σ'.v=σ.v:=by rw[← h3];rfl
   rw[hv]
theorem Hl:∀{l:List TV}{p:dR}{σ σ':St},(putL p l).run σ=some ((),σ')→∀{r:Nat},r≠p.root→∀o n,jj σ'.v r o n=jj σ.v r o n:=by
 intro l
 induction l with
 | nil=>
  intro p σ σ' h r hr o n;simp only[putL,SP.run,oSJ,oPJ,true_and] at h;rw[h]
 | cons t l ih=>
  intro p σ σ' h r hr o n;simp only[putL] at h;obtain⟨_,σ1,h1,h2⟩:=SP.run_bind_some h;rw[← Hj h1 hr o n]
  cases l with
  | nil=>
   simp only[SP.run,oSJ,oPJ,true_and] at h2;rw[h2]
  | cons t2 l=>
   simp only at h2;split at h2
   ·exact ih h2 (by rw[dR.add_root];exact hr) o n
   ·simp[SP.run] at h2
theorem AR:∀{q:List (GP×List TV)}{σ σ':St},(putBack q).run σ=some ((),σ')→∀{r:Nat},(∀x∈q,r≠x.1.p.root)→∀o n,jj σ'.v r o n=jj σ.v r o n:=by
 intro q
 induction q with
 | nil=>
  intro σ σ' h r hr o n;simp only[putBack,SP.run,oSJ,oPJ,true_and] at h;rw[h]
 | cons x q ih=>
  intro σ σ' h r hr o n;obtain⟨g,l⟩:=x;simp only[putBack] at h;obtain⟨_,σ1,h1,h2⟩:=SP.run_bind_some h;split at h2
  ·rw[Hl h2 (hr (g,l) (by simp)) o n];exact ih h1 (fun x hx=>hr x (by simp[hx])) o n
  ·simp[SP.run] at h2
def Seg(w W:World) (x:GP×Addr) (vs:List Value):Prop:=
 ∃cur0 cur e fz,w.heap[x.2.block]?=some (.cells cur0 e fz)∧W.heap[x.2.block]?=some (.cells cur e fz)∧cur.size=cur0.size∧(∀j,(j < x.2.off∨x.2.off+vs.length≤j)→cur[j]?=cur0[j]?)∧∀j (h:j < vs.length),cur[x.2.off+j]?=some vs[j]
theorem Fj{f:GP×Addr→List TV}{v:GP×Addr→List Value}(hfv:∀x,(f x).length=(v x).length):∀{K:List (GP×Addr)}{σ σ':St}{H0:List TV}{x0:List Value}{W:World}{G:Gh},H0.length=x0.length →
 Inv M σ (H0++K.flatMap f) (x0++K.flatMap v) ts (RWs w K W) G→(∀x∈K,Seg w W x (v x))→(∀x∈K,f x≠[])→(∀x∈K,∀y∈K,x.2.block=y.2.block→x=y)→mR (K.map fun x=>x.1.p.root)=true →
 (∀x∈K,x.1.p.root≠1∧G.addr (RWs w K W) x.1.p=some x.2∧∃t,d7 (ee M σ (H0++K.flatMap f) x.1.p.root x.1.p.off) x.1.p.hops=some t) →
 (putBack (K.map fun x=>(x.1,f x))).run σ=some ((),σ')→∃G',Inv M σ' H0 x0 ts W G'∧σ'.tm=σ.tm∧ke M (RWs w K W) σ (H0++K.flatMap f) G W σ' H0 G'∧G'.β=G.β:=by
 intro K
 induction K with
 | nil=>
  intro σ σ' H0 x0 W G hl0 hI _ _ _ _ _ hr;simp only[List.map_nil,putBack,SP.run,oSJ,oPJ,true_and] at hr;subst hr;have hI:Inv M σ (H0++[]) (x0++[]) ts W G:=hI;rw[List.append_nil,List.append_nil] at hI;refine⟨G,hI,rfl,?_,rfl⟩;show ke M W σ (H0++[]) G W σ H0 G;rw[List.append_nil];exact ke.refl _ _ _ _ _
 | cons x K ih=>
  intro σ σ' H0 x0 W G hl0 hI hseg hne hinj hnd hadr hr;simp only[List.map_cons,putBack] at hr;obtain⟨_,σ1,h1,h2⟩:=SP.run_bind_some hr;split at h2
  case isFalse=>simp[SP.run] at h2
  rename_i hck;simp only[Bool.and_eq_true,decide_eq_true_eq,List.all_eq_true,Bool.not_eq_true'] at hck;simp only[List.map_cons,mR,Bool.and_eq_true,Bool.not_eq_true',List.contains_eq_mem,decide_eq_false_iff_not] at hnd;have hxK:∀y∈K,y.1.p.root≠x.1.p.root:=fun y hy e=>hnd.1 (by rw[← e];exact List.mem_map.2 ⟨y,hy,rfl⟩)
  have hbK:∀y∈K,x.2.block≠y.2.block:=fun y hy e=>by
   have:=hinj x (by simp) y (by simp[hy]) e;exact hxK y hy (by rw[this])
  have hI':Inv M σ ((H0++f x)++K.flatMap f) ((x0++v x)++K.flatMap v) ts (RWs w K (ge w W x.2.block)) G:=by
   simpa [RWs,List.append_assoc] using hI
  obtain⟨G1,hI1,htm1,hm1,hβ1⟩:=ih (W:=ge w W x.2.block) (by simp[hl0,hfv]) hI' (fun y hy=>by
   obtain⟨cur0,cur,e,fz,s1,s2,s3⟩:=hseg y (by simp[hy])
   exact⟨cur0,cur,e,fz,s1,by rw[pQ (Ne.symm (hbK y hy))];exact s2,s3⟩) (fun y hy=>hne y (by simp[hy])) (fun y hy z hz=>hinj y (by simp[hy]) z (by simp[hz])) hnd.2
   (fun y hy=>by have:=hadr y (by simp[hy]);simpa [RWs,List.append_assoc] using this) h1
  obtain⟨hr1,ha,t0,hget⟩:=hadr x (by simp)
  have hvers:=AR h1 (r:=x.1.p.root) (fun y hy=>by
   obtain⟨z,hz,rfl⟩:=List.mem_map.1 hy
   exact Ne.symm (hxK z hz)) x.1.p.off x.1.p.hops.length
  obtain⟨t1,ha1,hget1⟩:=hm1.keeps.ptr x.1.p x.2 t0 hr1 hvers (by simpa [RWs] using ha) (by simpa [List.append_assoc] using hget)
  have hdrop:(H0++f x).drop H0.length=f x:=by simp
  obtain⟨_,G2,H2,hI2,e1,e2,e3,e4,e5,e6⟩:=Hm (k:=H0.length) hI1 hr1 ha1 hdrop (hne x (by simp)) (fun j hj hk=>by
   intro e
   have hj':j - H0.length < (f x).length:=by simp at hj;omega
   have:(H0++f x)[j]=(f x)[j - H0.length]:=by rw[List.getElem_append_right hk]
   rw[this] at e;have:=hck.2 _ (List.getElem_mem hj');rw[e] at this
   simp[Er] at this) h2
  obtain⟨cur0,cur,e,fz,s1,s2,s3,s4,s5⟩:=hseg x (by simp)
  have hxd:(x0++v x).drop H0.length=v x:=by rw[hl0];simp
  rw[hxd,um s1 s2 s3 s4 s5] at hI2 e5;obtain⟨hI3,e7⟩:=hI2.trunc (k:=H0.length) e2
  have hT:H2.take H0.length=H0:=by
   apply List.ext_getElem
   ·simp[e1]
   ·intro j hj hj';rw[List.getElem_take];rw[e3 j (by rw[e1];simp;omega) (by simp;omega) hj'];rw[List.getElem_append_left hj']
  have hX:(x0++v x).take H0.length=x0:=by rw[hl0];simp
  rw[hT] at hI3 e7;rw[hX] at hI3;refine⟨G2,hI3,e4.trans htm1,?_,e6.trans hβ1⟩;have hm2:ke M (ge w W x.2.block) σ1 (H0++f x) G1 W σ' H0 G2:=⟨e5.size,by rw[e7];exact e5.keeps,e5.heap,e5.free⟩;have:=hm1.trans hm2;simpa [RWs,List.append_assoc] using this
end
def pH(P:Program) (f:FuncId):Prop:=∀args w,(callFunc f args).run P w=.ok (.enter f args) w
theorem Cg{P:Program}{f:FuncId}{fn:Func}{c:Code}(hf:P.funcs[f]?=some fn) (hname:(fn.name=="runtime.NumGoroutine")=false) (hb:fn.body=some c):pH P f:=by
 intro args w;unfold callFunc;simp only[Sem.run_bind,run_program,Result.andThen_ok,hf];rw[if_neg (by rw[hname];simp),if_neg (by rw[hb];simp)];rfl
def M1(M:Fm) (res:Gb) (v:Value) (σ2:St) (w2:World):Prop:=
 (∃ys ts2 G2,v=nq res.sh ys∧Inv M σ2 res.cells ys ts2 w2 G2∧∀j (h:j < res.cells.length),eX res.cells[j]=true∨mu res.cells[j]=true) ∨
 ∃q vs ts2 G2,res.cells=[.ptr q vs]∧res.sh=[.ptr]∧Inv M σ2 [] [] ts2 w2 G2∧MM w2 (ee M σ2 []) G2 q v
def kD(P:Program) (F:fq):Prop:=
 ∀f vals pts res pts',F f vals pts=some (res,pts')→pH P f∧∃N,vals.length≤N∧∀(M:Fm) (as:List Value) (w:World) (G:Gh),as.length=vals.length→M.N=N→M.w0=w→(∀r,M.pr r≠none→∃i p vs,vals[i]?=some (.ptr p vs)∧r=2*i+2) →
  Inv M (mkSt vals pts) [] [] (as.toArray++Array.replicate (N - as.length) undef) w G →
  Calls P f as.toArray w fun e w2=>∃v σ2,e=.returned v∧M1 M res v σ2 w2∧pts'=pts.map fun x=>(x.1,(ef σ2.ce x.1).getD [])
def IA(P:Program) (E:Env):Prop:=
 ∀f n tm,E.box f=some (n,tm)→pH P f∧(∀x,.val x∈tm→gU x=true)∧∃ty,∀(as:List Value) (w:World),as.length=n→(∀y∈tm.map (bxV as),y.oneCell'=true) →
  Calls P f as.toArray w fun e w'=>e=.returned (.pointer (some ⟨w.heap.size,0,none⟩))∧w'=w.alloc (.cells (tm.map (bxV as)).toArray ty)
def o7:Op→TOp→Prop
 | .call ⟨.value f,args,_⟩,.call _ f' args'=>dJ f=some f'∧args'.length=args.size∧∀j (h:j < args'.length) (h':j < args.size),dJ args[j]=some args'[j].2
 | _,_=>False
def LN:TOp:=.call false (.c undef) []
def jL(op:Op) (t:TOp):Prop:=t=LN∨o7 op t
section
variable {P:Program} {M:Fm} {σ σ':St} {H:List TV} {xs:List Value} {ts:Array Value} {w:World} {G:Gh} {a:Act} {o:Oper}
theorem Cv:∀{l:List TV}{i:Nat},(argTs i l).length=l.length:=by
 intro l
 induction l with
 | nil=>intro i;rfl
 | cons t l ih=>intro i;simp[argTs,ih]
theorem GU{F:Nat→Prop}{V:Vs}{C:Cs}:∀{sh:List RSh}{l:List TV}{ys:List Value},oV sh l.length=true→l.length=ys.length→(∀j (h:j < l.length),TmR w F V C G l[j] (ys.getD j undef)) →
 (iv sh l).length=(fD sh ys).length∧∀j (h:j < (iv sh l).length),TmR w F V C G (iv sh l)[j] ((fD sh ys).getD j undef):=by
 intro sh
 induction sh with
 | nil=>intro l ys _ _ _;exact⟨rfl,fun j h=>by simp[iv] at h⟩
 | cons s sh ih=>
  intro l ys hs hl ht
  cases s with
  | one=>
   simp only[oV,Bool.and_eq_true,decide_eq_true_eq] at hs
   cases l with
   | nil=>simp at hs
   | cons t l=>
    cases ys with
    | nil=>simp at hl
    | cons y ys=>
     obtain⟨e,h2⟩:=ih (l:=l) (ys:=ys) (by simpa using hs.2) (by simpa using hl) fun j h=>by have:=ht (j+1) (by simpa using h);simpa using this
     refine⟨by simp[iv,fD,e],fun j h=>?_⟩
     cases j with
     | zero=>have:=ht 0 (by simp);simpa [iv,fD] using this
     | succ j=>have:=h2 j (by simpa [iv] using h);simpa [iv,fD] using this
  | agg n=>
   simp only[oV,Bool.and_eq_true,decide_eq_true_eq] at hs
   obtain⟨e,h2⟩:=ih (l:=l.drop n) (ys:=ys.drop n) (by simpa using hs.2) (by simp[hl]) fun j h=>by
    have h':n+j < l.length:=by simp at h;omega
    have:=ht (n+j) h';simpa [List.getD_eq_getElem?_getD,List.getElem?_drop] using this
   refine⟨by simp[iv,fD,e],fun j h=>?_⟩
   cases j with
   | zero=>
    simp only[iv,fD,List.getElem_cons_zero,List.getD_cons_zero];refine .agg (by simp;omega) fun j hj=>?_
    have hj':j < n∧j < l.length:=by simp at hj;omega
    have:=ht j hj'.2
    have e2:(List.take n ys).toArray.getD j undef=ys.getD j undef:=by simp[Array.getD_eq_getD_getElem?,List.getD_eq_getElem?_getD,List.getElem?_take,hj'.1]
    rw[e2];simpa using this
   | succ j=>have:=h2 j (by simpa [iv] using h);simpa [iv,fD] using this
  | ptr=>simp[oV] at hs
theorem AL{F:Nat→Prop}{V:Vs}{C:Cs}{sh:List RSh}{l:List TV}{ys:List Value}(hs:oV sh l.length=true) (hl:l.length=ys.length) (ht:∀j (h:j < l.length),TmR w F V C G l[j] (ys.getD j undef)):TmR w F V C G (ro sh l) (nq sh ys):=by
 obtain⟨e,h2⟩:=GU hs hl ht;by_cases h1:∃x,iv sh l=[x]
 ·obtain⟨x,hx⟩:=h1;obtain⟨y,hy⟩:∃y,fD sh ys=[y]:=List.length_eq_one_iff.1 (by rw[← e,hx];rfl);have:=h2 0 (by rw[hx];simp)
  have e1:ro sh l=x:=by unfold ro;rw[hx]
  have e2:nq sh ys=y:=by unfold nq;rw[hy]
  rw[e1,e2];simp only[hx,hy] at this;simpa using this
 ·have hne:¬ ∃y,fD sh ys=[y]:=fun⟨y,hy⟩=>h1 (List.length_eq_one_iff.1 (by rw[e,hy];rfl))
  have e1:ro sh l=TV.tup (iv sh l):=by
   unfold ro;split
   ·rename_i x hx;exact absurd ⟨x,hx⟩ h1
   ·rfl
  have e2:nq sh ys=Value.tuple (fD sh ys).toArray:=by
   unfold nq;split
   ·rename_i x hx;exact absurd ⟨x,hx⟩ hne
   ·rfl
  rw[e1,e2];refine .tup (by simp[e]) fun j hj=>?_;have:=h2 j hj
  have e3:(fD sh ys).toArray.getD j undef=(fD sh ys).getD j undef:=by simp[Array.getD_eq_getD_getElem?,List.getD_eq_getElem?_getD]
  rw[e3];exact this
theorem Ly{res:Gb}{ys:List Value}(hI:Inv M σ res.cells ys ts w G) (hok:∀j (h:j < res.cells.length),eX res.cells[j]=true∨mu res.cells[j]=true) (hs:oV res.sh res.cells.length=true)
 {dst:Option Nat} (hd:∀d,dst=some d→d < M.N) (hr:(landR dst res).run σ=some ((),σ')):∃G',Inv M σ' [] [] (match dst with | some d=>ts.setIfInBounds d (nq res.sh ys) | none=>ts) w G':=by
 cases dst with
 | none=>
  simp only[landR,SP.run,oSJ,oPJ,true_and] at hr;subst hr;obtain⟨G',hg,_⟩:=hI.drop;exact⟨G',hg.1⟩
 | some d=>
  simp only[landR] at hr;obtain⟨l,σ1,h1,h2⟩:=SP.run_bind_some hr;obtain⟨G1,hI1,_,hl,ht⟩:=uD hI hok h1;simp only[wr,SP.run,oSJ,oPJ,true_and] at h2;subst h2;exact⟨G1,hI1.wrT (hd d rfl) (AL (by rw[hl];exact hs) (by rw[hl];exact hI.hand) ht)⟩
end
def frM(w:World) (N:Nat):Fm:=⟨w,fun _=>True,fun _=>False,fun _=>none,N,fun _ _=>trivial⟩
def frG:Gh:=⟨fun _=>none,fun _ _=>undef,fun _ _ _=>False⟩
theorem AX(l:List TV):∀i k,ef (fR i l) k=if k < i then none else l[k - i]?:=by
 induction l with
 | nil=>intro i k;simp[fR,ef]
 | cons t l ih=>
  intro i k;simp only[fR,ef,ih];by_cases h:i=k
  ·subst h;simp
  ·by_cases h2:k < i
   ·simp[h,h2,show k < i+1 by omega]
   ·obtain⟨j,hj⟩:∃j,k - i=j+1:=⟨k - i - 1,by omega⟩;simp only[if_neg h,if_neg h2,hj,List.getElem?_cons_succ];rw[if_neg (by omega),show k - (i+1)=j by omega]
def Cy(w:World) (t:TV) (x:Value):Prop:=∀F V C G,(∀k,F k)→TmR w F V C G t x
theorem m9.plain{w:World}{F:Nat→Prop}{t:TV}{x:Value}(h:m9 w F t x):Cy w t x:=fun _ _ _ _ hF=>(h.frame (fun _ _ _=>rfl) fun k _ _=>hF k).toTm
def unV:TV→Value
 | .v x=>x
 | _=>undef
theorem calls_flat{P:Program}{F:fq}(hF:kD P F) {f:FuncId}{vals:List TV}{avs:List Value}{res:Gb}{w:World}(h:F f vals []=some (res,[])) (hfl:res.cells.all JG=true) (hl:avs.length=vals.length)
 (hv:∀j (h:j < vals.length) (h':j < avs.length),Cy w vals[j] avs[j]):pH P f∧Calls P f avs.toArray w fun e w'=>e=.returned (nq res.sh (res.cells.map unV))∧Below w.heap.size w w':=by
 obtain⟨hent,N,hN,hc⟩:=hF f vals [] _ _ h;refine⟨hent,?_⟩;have hFF:∀k,frG.F (frM w N).A k:=fun k=>⟨trivial,fun _ _ h=>h,fun _ _ _ _ h=>by simp[frG] at h⟩
 have hst:∀i,(mkSt vals []).t i=vals.getD i .dead:=by
  intro i;simp[St.t,mkSt,AX]
 have hE:∀r o,ee (frM w N) (mkSt vals []) [] r o=.dead:=by
  intro r o;unfold ee;split
  ·simp
  ·rfl
 have hI:Inv (frM w N) (mkSt vals []) [] [] (avs.toArray++Array.replicate (N - avs.length) undef) w frG:=by
  refine⟨⟨fun r o=>.inl ⟨hE r o,fun _ h=>h⟩,fun _ _ _ _ h=>by simp[frG] at h,fun _ _ _ _ h=>by simp[frG] at h,fun _ _ _ _ _ _ _ h=>by simp[frG] at h,fun _ _ _ _ h=>by simp[frG] at h,fun _ _ _ _ _ h=>h.elim,fun _ _ _ h=>h.elim⟩,fun i=>?_,⟨rfl,rfl,rfl,Nat.le_refl _,fun _ _ _ _=>rfl,fun _ _ _ _ h=>by simp[frM] at h,fun _ _ _ h=>h.elim,fun _ _ _ _ h=>by simp[frG] at h,fun _ h=>by simp[frG] at h⟩,fun r l h=>by simp[mkSt,ef] at h,?_,rfl,fun j hj=>by simp at hj,fun _ _ _ _ h=>by simp[frG] at h⟩
  ·rw[hst];by_cases hi:i < vals.length
   ·have hi':i < avs.length:=by omega
    have e1:vals.getD i .dead=vals[i]:=by simp[hi]
    have e2:(avs.toArray++Array.replicate (N - avs.length) undef).getD i undef=avs[i]:=by
     simp[Array.getD_eq_getD_getElem?,Array.getElem?_append,hi']
    rw[e1,e2];exact hv i hi hi' _ _ _ frG hFF
   ·have e1:vals.getD i .dead=.dead:=by rw[List.getD_eq_getElem?_getD,List.getElem?_eq_none (by omega)];rfl
    rw[e1];exact .dead
  ·show (avs.toArray++Array.replicate (N - avs.length) undef).size=N;simp;omega
 refine (hc (frM w N) avs w frG hl rfl rfl (fun r hr=>by simp[frM] at hr) hI).mono fun e w2 ⟨v,σ2,he,hback,_⟩=>?_;rcases hback with ⟨ys,ts2,G2,rfl,hI2,_⟩ | ⟨q,vs,ts2,G2,hcells,_⟩
 rotate_left
 ·rw[hcells] at hfl;simp[JG] at hfl
 have hys:ys=res.cells.map unV:=by
  have hlen:res.cells.length=ys.length:=hI2.hand;apply List.ext_getElem
  ·rw[List.length_map,hlen]
  ·intro j h1 h2
   have hj:j < res.cells.length:=by omega
   have hvj:=List.all_eq_true.1 hfl res.cells[j] (List.getElem_mem hj)
   have hown:=hI2.hand_own (j:=j) hj (by
    intro e;rw[e] at hvj
    simp[JG] at hvj)
   rw[List.getElem_map]
   have e1:ys.getD j undef=ys[j]:=by simp[List.getD_eq_getElem?_getD,h1]
   rw[e1] at hown
   cases hc:res.cells[j] with
   | v x=>
    rw[hc] at hown
    cases hown with
    | v _ _=>rfl
   | _=>rw[hc] at hvj;simp[JG] at hvj
 subst hys;exact⟨he,⟨hI2.fram.os,hI2.fram.tape,hI2.fram.output,hI2.fram.size,fun k hk=>hI2.fram.old k hk (fun h=>h) fun _ _ _ _ h=>by simp[frM] at h⟩⟩
section
variable {P:Program} {M:Fm} {σ σ':St} {H:List TV} {xs:List Value} {ts:Array Value} {w:World} {G:Gh} {a:Act} {o:Oper}
theorem G6{t t':TV}{x:Value}(hI:Inv M σ H xs ts w G) (hx:TmR w (G.F M.A) σ.v (ee M σ H) G t x) (hr:(see1 t).run σ=some (t',σ')):σ'=σ∧m9 w (fun _=>True) t' x:=by
 cases hx with
 | v h=>
  simp only[see1,SP.run,oSJ,oPJ] at hr;obtain⟨rfl,rfl⟩:=hr;exact⟨rfl,.v h⟩
 | nil=>
  simp only[see1,SP.run,oSJ,oPJ] at hr;obtain⟨rfl,rfl⟩:=hr;exact⟨rfl,.sl (c:=[]) 1 (fun _ _=>.nilFunc) (fun i h=>by simp at h) (Nat.le_refl _) (Nat.zero_le _) (fun _=>rfl) (fun i j h=>by simp at h) (fun i j h=>by simp at h)⟩
 | sl h=>
  simp only[see1,SP.run,oSJ,oPJ] at hr;obtain⟨rfl,rfl⟩:=hr;exact⟨rfl,h.frame (fun _ _ _=>rfl) fun _ _ _=>trivial⟩
 | dead=>simp[see1,SP.run] at hr
 | ptr=>simp[see1,SP.run] at hr
 | ip=>simp[see1,SP.run] at hr
 | agg=>simp[see1,SP.run] at hr
 | tup=>simp[see1,SP.run] at hr
 | fn=>simp[see1,SP.run] at hr
 | pw=>simp[see1,SP.run] at hr
 | @pk p vs x V0 h0 hv hok=>
  simp only[see1] at hr;obtain⟨_,σ1,h1,h2⟩:=SP.run_bind_some hr;have e1:σ1=σ:=(dW h1).1;have e2:=(dW h1).2;subst e1;obtain⟨_,c,hhv,hget⟩:=hok e2;simp only[SP.run] at h2
  have hroot:p.root≠M.hr:=by
   intro e;rw[e] at h2;rw[hI.hr_dead] at h2;cases hp:p.hops<;>rw[hp] at h2<;>simp[d7,SP.run] at h2
  obtain⟨u,fp,h4,h5,_⟩:=hI.core.hv_own p hget (by simp);rw[d9 hroot] at hget;rw[hget] at h2;simp only[SP.run,oSJ,oPJ] at h2;obtain⟨rfl,rfl⟩:=h2;rw[hhv] at h4
  injection h4 with h4
  subst h4;exact⟨rfl,h5.share'.frame (fun _ _ _=>rfl) fun _ _ _=>trivial⟩
theorem Lb:∀{l l':List TV}{ys:List Value},Inv M σ H xs ts w G→l.length=ys.length→(∀j (h:j < l.length),TmR w (G.F M.A) σ.v (ee M σ H) G l[j] (ys.getD j undef))→(seeL l).run σ=some (l',σ') →
 σ'=σ∧l'.length=l.length∧∀j (h:j < l'.length),m9 w (fun _=>True) l'[j] (ys.getD j undef):=by
 intro l
 induction l generalizing σ σ' with
 | nil=>
  intro l' ys hI hl _ hr;simp only[seeL,SP.run,oSJ,oPJ] at hr;obtain⟨rfl,rfl⟩:=hr;exact⟨rfl,rfl,fun j h=>by simp at h⟩
 | cons t l ih=>
  intro l' ys hI hl ht hr
  cases ys with
  | nil=>simp at hl
  | cons y ys=>
   simp only[seeL] at hr;obtain⟨t',σ1,h1,h2⟩:=SP.run_bind_some hr;obtain⟨r',σ2,h3,h4⟩:=SP.run_bind_some h2;simp only[SP.run,oSJ,oPJ] at h4;obtain⟨rfl,rfl⟩:=h4;obtain⟨rfl,k1⟩:=G6 hI (by have:=ht 0 (by simp);simpa using this) h1;obtain⟨rfl,k2,k3⟩:=ih hI (by simpa using hl) (fun j h=>by have:=ht (j+1) (by simpa using h);simpa using this) h3;refine⟨rfl,by simp[k2],fun j h=>?_⟩
   cases j with
   | zero=>simpa using k1
   | succ j=>have:=k3 j (by simpa using h);simpa using this
theorem Lc{t t':TV}{x:Value}(hI:Inv M σ H xs ts w G) (hx:TmR w (G.F M.A) σ.v (ee M σ H) G t x) (hr:(seeA t).run σ=some (t',σ')):σ'=σ∧Cy w t' x:=by
 have one:(see1 t).run σ=some (t',σ')→σ'=σ∧Cy w t' x:=fun h=>by
  obtain⟨e,k⟩:=G6 hI hx h;exact⟨e,k.plain⟩
 cases t with
 | agg l=>
  simp only[seeA] at hr;obtain⟨l',σ1,h1,h2⟩:=SP.run_bind_some hr;simp only[SP.run,oSJ,oPJ] at h2;obtain⟨rfl,rfl⟩:=h2
  cases hx with
  | @agg _ ys hl ht=>
   obtain⟨e,k1,k2⟩:=Lb (ys:=ys.toList) hI (by simpa using hl.symm) (fun j h=>by have:=ht j h;simpa [Array.getD_eq_getD_getElem?,List.getD_eq_getElem?_getD] using this) h1;refine⟨e,fun F V C G' hF=>.agg (by rw[hl,k1]) fun j hj=>?_⟩;have:=k2 j hj
   have e3:ys.getD j undef=ys.toList.getD j undef:=by simp[Array.getD_eq_getD_getElem?,List.getD_eq_getElem?_getD]
   rw[e3];exact this.plain F V C G' hF
 | ip cs=>
  simp only[seeA,SP.run,oSJ,oPJ] at hr;obtain⟨rfl,rfl⟩:=hr
  cases hx with
  | ip u hc hr=>exact⟨rfl,fun F V C G' hF=>.ip u (fun j hj=>⟨hF _,(hc j hj).2⟩) fun j hj=>(hr j hj).frame (fun _ _ _=>rfl) fun k _ _=>hF k⟩
 | fn f cap=>
  cases cap with
  | nil=>
   simp only[seeA,SP.run,oSJ,oPJ] at hr;obtain⟨rfl,rfl⟩:=hr
   cases hx with
   | fn hl ht=>exact⟨rfl,fun F V C G' hF=>.fn hl fun j hj=>by simp at hj⟩
  | cons=>simp[seeA,SP.run] at hr
 | _=>exact one hr
theorem Ja:∀{l:List Opd}{l':List Operand}{ts':List TV}{σ σ':St},Inv M σ [] [] a.tmps w G→l'.length=l.length→(∀j (h:j < l.length) (h':j < l'.length),dJ l'[j]=some l[j])→(seeAs l).run σ=some (ts',σ') →
 σ'=σ∧ts'.length=l.length∧∀j (h:j < ts'.length) (h':j < l'.length),Cy w ts'[j] (a.eval l'[j]):=by
 intro l
 induction l with
 | nil=>
  intro l' ts' σ σ' hI hl hc hr;simp only[seeAs,SP.run,oSJ,oPJ] at hr;obtain⟨rfl,rfl⟩:=hr;exact⟨rfl,rfl,fun j h=>by simp at h⟩
 | cons x l ih=>
  intro l' ts' σ σ' hI hl hc hr
  cases l' with
  | nil=>simp at hl
  | cons x' l'=>
   simp only[seeAs] at hr;obtain⟨t,σ1,h1,h2⟩:=SP.run_bind_some hr;obtain⟨t',σ2,h3,h4⟩:=SP.run_bind_some h2;obtain⟨r,σ3,h5,h6⟩:=SP.run_bind_some h4;simp only[SP.run,oSJ,oPJ] at h6;obtain⟨rfl,rfl⟩:=h6;obtain⟨rfl,ht⟩:=eM hI.tmr (by have:=hc 0 (by simp) (by simp);simpa using this) h1;obtain⟨rfl,k1⟩:=Lc hI ht h3;obtain⟨rfl,k2,k3⟩:=ih (l':=l') hI (by simpa using hl) (fun j h h'=>by have:=hc (j+1) (by simpa using h) (by simpa using h');simpa using this) h5;refine⟨rfl,by simp[k2],fun j h h'=>?_⟩
   cases j with
   | zero=>exact k1
   | succ j=>exact k3 j (by simpa using h) (by simpa using h')
theorem J4{F:fq}(hF:kD P F) {as:List Value}{vals:List TV}{fid:FuncId}(hd:∀d,o.dst=some d→d < M.N∧M.pr (2*d+2)=none) (hI1:Inv M σ [] [] a.tmps w G) (hal:as.length=vals.length)
 (hvt:∀j (h:j < vals.length) (h':j < as.length),Cy w vals[j] as[j]) (h2:(callB F o.dst fid vals).run σ=some ((),σ')) (hexec:pH P fid→(execOp a.eval o).run P w=.ok (.enter fid as.toArray) w):L7 P M σ' a o w:=by
 intro K' Q hK;simp only[callB] at h2;obtain⟨r,σ1,h3,h4⟩:=SP.run_bind_some h2
 have hFr:F fid vals []=some r∧σ1=σ:=by
  cases hq:F fid vals [] with
  | none=>rw[hq] at h3;simp[jh,SP.run] at h3
  | some y=>
   rw[hq] at h3;simp only[jh,SP.run,oSJ,oPJ] at h3;exact⟨by rw[h3.1],h3.2.symm⟩
 obtain⟨hFr,rfl⟩:=hFr;split at h4
 case isFalse=>simp[SP.run] at h4
 rename_i hck;simp only[Bool.and_eq_true,decide_eq_true_eq] at hck;obtain⟨res,pts'⟩:=r;obtain rfl:pts'=[]:=List.eq_nil_of_length_eq_zero hck.1.1;obtain⟨hent,hcal⟩:=calls_flat hF hFr hck.1.2 hal hvt;unfold Oper.wp;rw[hexec hent,Oper.upon_enter];refine hcal.mono fun e w2 ⟨he,hb⟩=>?_;subst he;simp only;have hI2:=(hI1.grow (w':=w2) (fun k hk=>hb.block k hk) hb.size hb.os hb.tape hb.output).1;refine hK (a.put o.dst (nq res.sh (res.cells.map unV))) w2 G ?_ (lV _ _ _)
 cases hdst:o.dst with
 | none=>
  rw[hdst] at h4;simp only[SP.run,oSJ,oPJ,true_and] at h4;rw[← h4];exact hI2
 | some d=>
  rw[hdst] at h4;simp only[wr,SP.run,oSJ,oPJ,true_and] at h4;rw[← h4];refine hI2.wrT (hd d hdst).1 (AL hck.2 (by simp) fun j hj=>?_);have hvj:=List.all_eq_true.1 hck.1.2 res.cells[j] (List.getElem_mem hj)
  have e1:(res.cells.map unV).getD j undef=unV res.cells[j]:=by simp[List.getD_eq_getElem?_getD,hj]
  rw[e1]
  cases hc:res.cells[j] with
  | v x=>rw[hc] at hvj;exact .v hvj
  | _=>rw[hc] at hvj;simp[JG] at hvj
end
section
variable {P:Program} {M:Fm} {σ σ':St} {H:List TV} {xs:List Value} {ts:Array Value} {w:World} {G:Gh} {a:Act} {o:Oper}
theorem CP:∀{q:List (GP×List TV)}{σ σ':St},(putBack q).run σ=some ((),σ')→∀x∈q,x.2.length=x.1.cells.length:=by
 intro q
 induction q with
 | nil=>intro σ σ' _ x hx;simp at hx
 | cons y q ih=>
  intro σ σ' h x hx;obtain⟨g,l⟩:=y;simp only[putBack] at h;obtain⟨_,σ1,h1,h2⟩:=SP.run_bind_some h;split at h2
  ·rename_i hck;simp only[Bool.and_eq_true,decide_eq_true_eq] at hck;rcases List.mem_cons.1 hx with rfl | hx
   ·exact hck.1
   ·exact ih h1 x hx
  ·simp[SP.run] at h2
theorem te.nodup{i:Nat}{vals:List TV}{as us:List Value}{K:List (GP×Addr)}(h:te w i vals as K us):mR (K.map fun x=>x.1.i)=true∧∀x∈K,i≤x.1.i:=by
 induction h with
 | nil=>exact⟨rfl,fun x hx=>by simp at hx⟩
 | ptr hr hb hs h0 hh hu hc hok h ih=>
  refine⟨?_,fun x hx=>?_⟩
  ·simp only[List.map_cons,mR,Bool.and_eq_true,Bool.not_eq_true',List.contains_eq_mem,decide_eq_false_iff_not];refine⟨fun hm=>?_,ih.1⟩;obtain⟨y,hy,e⟩:=List.mem_map.1 hm;have:=ih.2 y hy;omega
  ·rcases List.mem_cons.1 hx with rfl | hx
   ·exact Nat.le_refl _
   ·have:=ih.2 x hx;omega
 | arg ha h ih=>exact⟨ih.1,fun x hx=>by have:=ih.2 x hx;omega⟩
 | own h ih=>exact⟨ih.1,fun x hx=>by have:=ih.2 x hx;omega⟩
theorem Lo{K:List (GP×Addr)}(hnd:mR (K.map fun x=>x.1.i)=true):∀x∈K,prK K (2*x.1.i+2)=some (x.2.block,x.2.off,x.1.cells.length):=by
 induction K with
 | nil=>intro x hx;simp at hx
 | cons y K ih=>
  intro x hx;obtain⟨g,ad⟩:=y;simp only[List.map_cons,mR,Bool.and_eq_true,Bool.not_eq_true',List.contains_eq_mem,decide_eq_false_iff_not] at hnd;simp only[prK];rcases List.mem_cons.1 hx with rfl | hx
  ·simp
  ·rw[if_neg]
   ·exact ih hnd.2 x hx
   ·intro e;exact hnd.1 (List.mem_map.2 ⟨x,hx,by omega⟩)
theorem Ex{α β:Type}{K:List (GP×Addr)}{f:GP×Addr→List α}{g:GP×Addr→List β}(h:∀x∈K,(f x).length=(g x).length):(K.flatMap f).length=(K.flatMap g).length:=by
 induction K with
 | nil=>rfl
 | cons x K ih=>simp only[List.flatMap_cons,List.length_append];rw[h x (by simp),ih fun y hy=>h y (by simp[hy])]
theorem Az{α β:Type}:∀{a:List α}{b c:List β},a.length≤b.length→a.zip (b++c)=a.zip b:=by
 intro a
 induction a with
 | nil=>intro b c _;simp
 | cons x a ih=>
  intro b c h
  cases b with
  | nil=>simp at h
  | cons y b=>simp only[List.cons_append,List.zip_cons_cons];rw[ih (by simpa using h)]
def so(σ:St) (x:GP×Addr):List TV:=(ef σ.ce (2*x.1.i+2)).getD []
def xE(σ:St) (G:Gh) (w:World) (x:GP×Addr):List Value:=(List.range (so σ x).length).map (G.val w (2*x.1.i+2))
theorem te.hands2{vals:List TV}{as us:List Value}{K:List (GP×Addr)}{N:Nat}{σ2:St}{res ys:_}{ts2:Array Value}{w2:World}{G2:Gh}(h:te w 0 vals as K us) (hpos:∀x∈K,0 < x.1.cells.length)
 (h2:Inv (M.into w G (prK K) N) σ2 res ys ts2 w2 G2) (hlen:∀x∈K,(so σ2 x).length=x.1.cells.length) :
 KB res ys (res++K.flatMap (so σ2)) (ys++K.flatMap (xE σ2 G2 w2)) (ee (M.into w G (prK K) N) σ2 res) G2 w2 (prK K) (fun r=>res.length+bsK K r):=by
 have hlv:∀x∈K,(xE σ2 G2 w2 x).length=x.1.cells.length:=fun x hx=>by simp[xE,hlen x hx]
 refine⟨?_,fun j hj=>⟨by simp;omega,List.getElem_append_left hj,?_⟩,fun r b o n hp t ht=>?_,fun j hj=>?_,fun r b o n r' b' o' n' hp hp' j j' hj hj' e=>Ky _ _ _ _ _ _ _ _ hp hp' j j' hj hj' (by omega)⟩
 ·rw[List.length_append,List.length_append,h2.hand,Ex (f:=so σ2) (g:=xE σ2 G2 w2) fun x hx=>by rw[hlen x hx,hlv x hx]]
 ·rw[List.getD_eq_getElem?_getD,List.getD_eq_getElem?_getD,List.getElem?_append_left (by rw[← h2.hand];exact hj)]
 ·obtain⟨x,x1,x2,x3,x4,x5,x6,x7⟩:=Cb hlen hp;obtain⟨y,y1,y2,y3,y4,y5,y6,y7⟩:=Cb hlv hp;have hxy:x=y:=sR h.nodup.1 x1 y1 (by omega);subst hxy
  have htl:t < (so σ2 x).length:=by rw[hlen x x1];omega
  have e1:=x7 t ht;rw[oGE htl] at e1;obtain⟨k1,k2⟩:=oGS e1;refine⟨by rw[List.length_append];omega,by omega,?_,?_⟩
  ·have e2:(res++K.flatMap (so σ2))[res.length+bsK K r+t]'(by rw[List.length_append];omega)=(K.flatMap (so σ2))[bsK K r+t]:=by
    rw[List.getElem_append_right (by omega)];congr 1;omega
   rw[e2,k2]
   rw[d9 (by have:r≠1:=by omega
             exact this)]
   unfold St.c
   have hb:so σ2 x=(ef σ2.ce r).getD []:=by rw[x2];rfl
   cases ha:ef σ2.ce r with
   | none=>rw[hb,ha] at htl;simp at htl
   | some l=>
    simp only[hb,ha,Option.getD_some] at htl ⊢;simp[htl]
  ·have e3:=y7 t ht;rw[List.getD_eq_getElem?_getD,List.getElem?_append_right (by rw[← h2.hand];omega)];rw[show res.length+bsK K r+t - ys.length=bsK K r+t by rw[← h2.hand];omega];rw[e3,x2];simp[xE,htl]
 ·by_cases hj1:j < res.length
  ·exact .inl hj1
  ·right;have hc:(K.flatMap (so σ2)).length=(jO K).length:=Ex hlen;obtain⟨r,b,o,n,t,c1,c2,c3⟩:=ME h.nodup.1 (j:=j - res.length) (by rw[List.length_append] at hj;omega);exact⟨r,b,o,n,t,c1,c2,by omega⟩
theorem Ho:∀{l:List TV}{p:dR}{σ σ':St},p.hops=[]→(putL p l).run σ=some ((),σ')→(∀o,o < p.off→σ'.c p.root o=σ.c p.root o)∧∀t (h:t < l.length),σ'.c p.root (p.off+t)=l[t]:=by
 intro l
 induction l with
 | nil=>
  intro p σ σ' _ h;simp only[putL,SP.run,oSJ,oPJ,true_and] at h;subst h;exact⟨fun _ _=>rfl,fun t h=>by simp at h⟩
 | cons y l ih=>
  intro p σ σ' hp h;obtain⟨r,off,hops⟩:=p;simp only at hp;subst hp;simp only[putL] at h;obtain⟨_,σ1,h1,h2⟩:=SP.run_bind_some h
  have hone:(∀o,o≠off→σ1.c r o=σ.c r o)∧σ1.c r off=y:=by
   obtain⟨old,l1,vr,hg,hl,ho,hσ1,_⟩:=Eh h1;simp only at hl ho hσ1;subst hσ1;refine⟨fun o hne=>?_,?_⟩
   ·simp only[St.c,eH,if_true,hl];simp[List.getElem?_set,Ne.symm hne]
   ·simp only[St.c,eH,if_true];simp[fU,List.getElem?_set,ho]
  cases l with
  | nil=>
   simp only[SP.run,oSJ,oPJ,true_and] at h2;subst h2;refine⟨fun o ho=>hone.1 o (by simp only at ho;omega),fun t ht=>?_⟩
   have:t=0:=by simp at ht;omega
   subst this;exact hone.2
  | cons y2 l=>
   simp only[dR.fits,List.reverse_nil,if_true] at h2;have hadd:(⟨r,off,[]⟩:dR).add 1=⟨r,off+1,[]⟩:=rfl;rw[hadd] at h2;obtain⟨k1,k2⟩:=ih (p:=⟨r,off+1,[]⟩) rfl h2;refine⟨fun o ho=>?_,fun t ht=>?_⟩
   ·simp only at ho;exact (k1 o (by show o < off+1;omega)).trans (hone.1 o (by omega))
   ·cases t with
    | zero=>exact (k1 off (by show off < off+1;omega)).trans hone.2
    | succ t=>
     have:=k2 t (by simpa using ht);show σ'.c r (off+(t+1))=_;rw[show off+(t+1)=off+1+t by omega];simpa using this
theorem AS{x:GP×Addr}{f:GP×Addr→List TV}(hx:x.1.p.hops=[]) (h:(putBack ([x].map fun x=>(x.1,f x))).run σ=some ((),σ')):∀t,t < (f x).length→σ'.c x.1.p.root (x.1.p.off+t)=(f x).getD t .dead:=by
 intro t ht;simp only[List.map_cons,List.map_nil,putBack] at h;obtain⟨_,σ1,h1,h2⟩:=SP.run_bind_some h;split at h2
 ·rw[(Ho hx h2).2 t ht];simp[ht]
 ·simp[SP.run] at h2
theorem EK{F:fq}(hF:kD P F) {as:List Value}{vals:List TV}{ns:List (Option Nat)}{fid:FuncId}{σ1:St}{G1:Gh}(hd:∀d,o.dst=some d→d < M.N∧M.pr (2*d+2)=none) (hI1:Inv M σ1 [] [] a.tmps w G1) (hns:ns.length=vals.length) (hal:as.length=vals.length)
 (hvt:∀j (h:j < vals.length) (h':j < as.length),TmR w (G1.F M.A) σ1.v (ee M σ1 []) G1 vals[j] as[j]) (h2:(callV F o.dst fid ns vals).run σ1=some ((),σ')) (hexec:pH P fid→(execOp a.eval o).run P w=.ok (.enter fid as.toArray) w):L7 P M σ' a o w:=by
 intro K' Q hK;unfold callV at h2;obtain⟨ow,σ0,h3o,h2⟩:=SP.run_bind_some h2;obtain⟨q,σ2,h3,h4⟩:=SP.run_bind_some h2
 have hzl:(ns.zip vals).length=vals.length:=by simp[hns]
 have hz2:(ns.zip vals).map (·.2)=vals:=by
  rw[List.map_snd_zip];omega
 have hzt:∀{σ1:St} {H1:List TV} {G1:Gh},(∀j (h:j < vals.length) (h':j < as.length),TmR w (G1.F M.A) σ1.v (ee M σ1 H1) G1 vals[j] as[j])→∀j (h:j < (ns.zip vals).length) (h':j < as.length),TmR w (G1.F M.A) σ1.v (ee M σ1 H1) G1 (ns.zip vals)[j].2 as[j]:=fun h j h1 h2=>by
  have hj:j < vals.length:=by rw[← hzl];exact h1
  have:=h j hj h2;simpa using this
 obtain⟨zs,G0,hg0,hor,hocov⟩:=CD hI1 (by omega) (hzt hvt) h3o;obtain⟨us,G2,K,hg2',hKq,hrel,htmK⟩:=JO (as:=as) hg0.1 (by omega) (hzt fun j h h'=>hg0.tm (hvt j h h')) h3;have hpk:=JN h3;have hg2:=hg0.trans hg2';rw[hz2] at hrel;obtain⟨_,σ3,h5,h6⟩:=SP.run_bind_some h4
 have hHand:([]:List TV)++ow.map (·.2)++q.flatMap (·.cells)=ow.map (·.2)++jO K:=by rw[← hKq];simp[jO,List.flatMap_map]
 rw[hHand,List.nil_append] at hg2;rw[hHand] at htmK;have hz:zs.length=ow.length:=hor.facts.1
 have hpk2:∀j p vs,vals[j]?=some (.pk p vs)→∃x∈ow,x.1=j:=fun j p vs hj=>by
  obtain⟨hjl,hje⟩:=oGS hj
  have hjn:j < ns.length:=by omega
  have hzj:(ns.zip vals)[j]?=some (ns[j],.pk p vs):=by
   rw[oGE (by omega)];simp[hje]
  have hn:=hpk j _ p vs hzj;rw[hn] at hzj;obtain⟨x,h7,h8⟩:=hocov j p vs hzj;exact⟨x,h7,by omega⟩
 obtain⟨rfl,hre⟩:=Jh hg2.1 h5;split at h6
 case isFalse=>simp[SP.run] at h6
 rename_i hck;simp only[Bool.and_eq_true,List.all_eq_true,decide_eq_true_eq] at hck;obtain⟨hnd,hpos⟩:=hck;have hposK:∀x∈K,0 < x.1.cells.length:=fun x hx=>hpos x.1 (by rw[← hKq];exact List.mem_map_of_mem hx)
 have hvals:∀j (h:j < vals.length) (h':j < as.length),TmR w (G2.F M.A) σ3.v (ee M σ3 (ow.map (·.2)++jO K)) G2 vals[j] as[j]:=fun j h h'=>by
  have:=hg2.tm (hvt j h (by omega));simpa using this
 have hfact:∀x∈K,x.1.p.root≠1∧G2.addr w x.1.p=some x.2∧(∃t,d7 (ee M σ3 (ow.map (·.2)++jO K) x.1.p.root x.1.p.off) x.1.p.hops=some t)∧((∃o n,G2.β x.1.p.root=some (x.2.block,o,n))∨G2.φ x.1.p.root x.1.p.off x.2.block):=fun x hx=>by
  obtain⟨r1,ad,r2,r3,_,r4,r5⟩:=hre x.1 (by rw[← hKq];exact List.mem_map_of_mem hx) _ (htmK x hx)
  injection r2 with r2
  injection r2 with r2
  subst r2;exact⟨r1,r3,r4,r5⟩
 have hh:=hrel.hands hg2.1 hor (by rw[hKq];exact hnd) hposK fun x hx=>⟨(hfact x hx).1,(hfact x hx).2.2.2⟩;obtain⟨r,σ4,h7,h8⟩:=SP.run_bind_some h6
 have hFr:F fid (argTs 0 vals) (q.map (fun g=>(2*g.i+2,g.cells))++ow.map fun x=>(2*x.1+3,[x.2]))=some r∧σ4=σ3:=by
  cases hq:F fid (argTs 0 vals) (q.map (fun g=>(2*g.i+2,g.cells))++ow.map fun x=>(2*x.1+3,[x.2])) with
  | none=>rw[hq] at h7;simp[jh,SP.run] at h7
  | some r'=>
   rw[hq] at h7;simp only[jh,SP.run,oSJ,oPJ] at h7;exact⟨by rw[h7.1],h7.2.symm⟩
 obtain⟨hFr,rfl⟩:=hFr;obtain⟨res,pts'⟩:=r;simp only at h8;split at h8
 case isFalse=>simp[SP.run] at h8
 rename_i hck2;simp only[Bool.and_eq_true,decide_eq_true_eq] at hck2;obtain⟨_,σ5,h9,h10⟩:=SP.run_bind_some h8;obtain⟨hent,N,hN,hcal⟩:=hF fid _ _ _ _ hFr;rw[Cv] at hN
 have hpts:(q.map (fun g=>(2*g.i+2,g.cells))++ow.map fun x=>(2*x.1+3,[x.2]))=ceK K++ceO ow:=by rw[← hKq];simp[ceK,ceO]
 have hin:=hrel.enter hg2.1 hor hpk2 hh hvals (N:=N) (by omega)
 have hcalls:=hcal (M.into w G2 (prK K) N) as w (G2.into (prK K) (fun r=>ow.length+bsK K r) (owK ow) (zs++us)) (by rw[Cv];exact hal) rfl rfl (fun r hr=>by
  have hr:prK K r≠none:=hr
  cases hp:prK K r with
  | none=>exact absurd hp hr
  | some y=>
   obtain⟨b,o,n⟩:=y;obtain⟨x,x1,x2,_⟩:=kx hp;obtain⟨_,_,p,vs,s1⟩:=hrel.slot x x1;refine⟨x.1.i,⟨2*x.1.i+2,0,p.hops⟩,List.replicate (p.hops.length+1) 0,?_,x2⟩;rw[Cw];have s1:vals[x.1.i]?=some (.ptr p vs):=s1;rw[s1]
   simp[argT]) (by rw[hpts];exact hin)
 have hrun:=hexec hent;unfold Oper.wp;rw[hrun,Oper.upon_enter];refine hcalls.mono fun e w2 ⟨v,σc,he,hback,hpts'⟩=>?_;subst he;simp only
 have hzip:q.zip (pts'.map (·.2))=K.map fun x=>(x.1,so σc x):=by
  rw[hpts',hpts,← hKq];simp only[ceK,List.map_append,List.map_map];rw[Az (by simp),List.zip_map'];rfl
 rw[hzip] at h9;have hlenK:∀x∈K,(so σc x).length=x.1.cells.length:=fun x hx=>CP h9 _ (List.mem_map.2 ⟨x,hx,rfl⟩);have hmem:=Lo hrel.nodup.1
 have hlt:∀x∈K,x.2.block < w.heap.size:=fun x hx=>by
  obtain⟨cur,e,fz,hb,_⟩:=pZ (hh.here _ _ _ _ (hmem x hx) 0 (hposK x hx)).1;exact (Array.getElem?_eq_some_iff.1 hb).1
 have hinj:∀x∈K,∀y∈K,x.2.block=y.2.block→x=y:=fun x hx y hy e=>by
  have h1:=hmem x hx;have h2:=hmem y hy;rw[← e] at h2;have:=hh.inj _ _ _ _ _ _ _ h1 h2;exact sR hrel.nodup.1 hx hy (by omega)
 have back:∀{Hc:List TV} {ys:List Value} {ts2:Array Value} {Gc:Gh},Inv (M.into w G2 (prK K) N) σc Hc ys ts2 w2 Gc→∃G4,Inv M σ5 Hc ys a.tmps w2 G4∧G4.β=G2.β:=by
  intro Hc ys ts2 Gc hIc;have hH2:=hrel.hands2 (M:=M) (G:=G2) (N:=N) hposK hIc hlenK;have hsz:w.heap.size≤w2.heap.size:=hIc.fram.size
  obtain⟨G3,hI3,hm3,hβ3⟩:=hg2.1.leave hh hIc hH2 (w':=RWs w K w2) Kc Aw.1 Aw.2.1 Aw.2.2 (fun k hk=>MJ fun x hx=>hk _ _ _ _ (hmem x hx)) (fun r b o n hp=>by
   obtain⟨x,x1,x2,x3,_⟩:=kx hp;rw[x3]
   exact MK (hlt x x1) (Nat.lt_of_lt_of_le (hlt x x1) hsz) ⟨x,x1,rfl⟩)
  obtain⟨G4,hI4,htm4,hm4,hβ4⟩:=Fj (w:=w) (f:=so σc) (v:=xE σc Gc w2) (fun x=>by simp[xE]) (K:=K) (W:=w2) hIc.hand hI3 (fun x hx=>by
   have hp:=hmem x hx;obtain⟨hβ,cur0,cur,e,fz,p1,p2,p3,p4⟩:=hIc.fram.par _ _ _ _ hp
   have hvl2:(xE σc Gc w2 x).length=x.1.cells.length:=by simp[xE,hlenK x hx]
   refine⟨cur0,cur,e,fz,p1,p2,p3,fun j hj=>p4 j (by rw[hvl2] at hj;exact hj),fun j hj=>?_⟩;have hcb:=hIc.core.boxcell hβ (o:=j) (by omega);obtain⟨cur',e',fz',c1,c2,c3⟩:=pZ hcb;rw[p2] at c1
   injection c1 with c1
   injection c1 with c1 _ _
   subst c1;rw[c3]
   simp[xE]) (fun x hx e=>by have h1:=hlenK x hx;have h2:=hposK x hx;rw[e,List.length_nil] at h1;omega) hinj (by rw[← hKq] at hnd;simpa [Function.comp_def] using hnd) (fun x hx=>by
   obtain⟨r1,r2,⟨t,r3⟩,_⟩:=hfact x hx;obtain⟨t',k1,k2⟩:=hm3.keeps.ptr x.1.p x.2 t r1 rfl r2 r3
   exact⟨r1,k1,t',k2⟩) h9
  exact⟨G4,hI4,hβ4.trans hβ3⟩
 rcases hback with ⟨ys,ts2,Gc,rfl,hIc,hokc⟩ | ⟨pl,pvs,ts2,Gc,hcells,hsh,hIc,hpl⟩
 ·obtain⟨G4,hI4,_⟩:=back hIc
  have hP:isP res=false:=by
   cases hp:isP res with
   | false=>rfl
   | true=>
    unfold isP at hp;split at hp
    ·rename_i p vs e1 e2;have:=hokc 0 (by rw[e2];simp);simp[e2,eX,mu] at this
    ·cases hp
  rw[hP] at h10 hck2;simp only[Bool.false_eq_true,if_false,Bool.false_or] at h10 hck2;obtain⟨G5,hI5⟩:=Ly hI4 hokc hck2.2 (dst:=o.dst) (fun d hd'=>(hd d hd').1) h10;refine hK (a.put o.dst (nq res.sh ys)) w2 G5 ?_ (lV _ _ _)
  cases hdst:o.dst with
  | none=>rw[hdst] at hI5;exact hI5
  | some d=>rw[hdst] at hI5;exact hI5
 ·obtain⟨G4,hI4,hβ4⟩:=back hIc
  have hP:isP res=true:=by unfold isP;rw[hcells,hsh]
  rw[hP] at h10;simp only[if_true] at h10
  have hfin:∃G5,Inv M σ' [] [] (match o.dst with | some d=>a.tmps.setIfInBounds d v | none=>a.tmps) w2 G5:=by
   cases hdst:o.dst with
   | none=>
    rw[hdst] at h10;simp only[landP,SP.run,oSJ,oPJ,true_and] at h10;subst h10;exact⟨G4,hI4⟩
   | some d=>
    rw[hdst,hcells] at h10;simp only[landP] at h10;split at h10
    case h_2=>simp[SP.run] at h10
    rename_i pl' vs' g hq1 hq2
    injection hq1 with hq1 _
    injection hq1 with hq1 _
    subst hq1;split at h10
    case isFalse=>simp[SP.run] at h10
    rename_i hck3;simp only[Bool.and_eq_true,beq_iff_eq,List.isEmpty_iff] at hck3;obtain⟨hroot,hgh⟩:=hck3;obtain⟨nvs,σ6,h11,h12⟩:=SP.run_bind_some h10;rw[uA,qP] at h11
    injection h11 with h11
    injection h11 with h11 h13
    subst h11;subst h13;simp only[wr,SP.run,oSJ,oPJ,true_and] at h12;subst h12;obtain⟨x,rfl⟩:∃x,K=[x]:=List.length_eq_one_iff.1 (by have:=congrArg List.length hKq;simpa using this)
    have hxg:x.1=g:=by simpa using hKq
    have hxm:x∈[x]:=by simp
    obtain⟨r1,r2,_,_⟩:=hfact x hxm;have hp:=hmem x hxm;obtain⟨hβc,_⟩:=hIc.fram.par _ _ _ _ hp
    have hhx:x.1.p.hops=[]:=by rw[hxg];exact hgh
    have hroot':pl.root=2*x.1.i+2:=by rw[hxg];exact hroot
    obtain⟨b0,o0,n0,hβ0,had0⟩:∃b0 o0 n0,G4.β x.1.p.root=some (b0,o0,n0)∧x.2=⟨b0,o0+x.1.p.off,none⟩:=by
     rw[hβ4];unfold Gh.addr at r2;rw[hhx] at r2;simp only at r2
     cases hb:G2.β x.1.p.root with
     | none=>rw[hb] at r2;simp at r2
     | some y=>
      obtain⟨b0,o0,n0⟩:=y;rw[hb] at r2
      injection r2 with r2
      exact⟨b0,o0,n0,rfl,r2.symm⟩
    have hcellpos:=AS hhx h9;refine⟨G4,hI4.wrT (hd d hdst).1 (.ptr _ (fun _=>Nat.le_refl _) rfl fun _=>?_)⟩;rw[← hxg];obtain⟨_,ad,t,ha,hv,ht⟩:=hpl;refine⟨r1,ad,?_⟩
    have hval:G4.val w2 x.1.p.root (x.1.p.off+pl.off)=Gc.val w2 pl.root pl.off:=by
     unfold Gh.val;rw[hβ0,hroot',hβc];simp only[had0,Nat.add_assoc]
    cases hho:pl.hops with
    | nil=>
     rw[hho] at ht;refine⟨_,?_,hv,rfl⟩;rw[← ha];unfold Gh.addr;simp only[hho,hβ0,hroot',hβc,had0,Nat.add_assoc]
    | cons h1 hs=>
     rw[hho] at ht;refine⟨t,?_,hv,?_⟩
     ·rw[← ha];unfold Gh.addr;simp only[hho];rw[hval]
     ·have hne1:x.1.p.root≠M.hr:=r1;rw[d9 hne1]
      have hoff:pl.off < x.1.cells.length:=by
       rcases Nat.lt_or_ge pl.off x.1.cells.length with h | h
       ·exact h
       ·have:=hIc.core.boxc _ _ _ _ hβc pl.off h;rw[hroot'] at ht;rw[this] at ht;simp[d7] at ht
      have hc2:=hcellpos pl.off (by rw[hlenK x hxm];exact hoff)
      have hc3:ee (M.into w G2 (prK [x]) N) σc [] pl.root pl.off=(so σc x).getD pl.off .dead:=by
       rw[hroot',d9 (by show 2*x.1.i+2≠1;omega)];unfold so St.c
       cases ef σc.ce (2*x.1.i+2) with
       | none=>simp
       | some l=>rfl
      rw[hc3] at ht;rw[hc2];exact ht
  obtain⟨G5,hI5⟩:=hfin;refine hK (a.put o.dst v) w2 G5 ?_ (lV _ _ _)
  cases hdst:o.dst with
  | none=>rw[hdst] at hI5;exact hI5
  | some d=>rw[hdst] at hI5;exact hI5
theorem oU{fid:FuncId}{args':Array Operand}{caps:Array Value}{fo:Operand}{atys:Array TypeId}(ho:o.op=.call ⟨.value fo,args',atys⟩) (hv:a.eval fo=.func (.func fid) #[] caps) (hent:pH P fid) :
 (execOp a.eval o).run P w=.ok (.enter fid (args'.map a.eval++caps)) w:=by
 unfold execOp;rw[ho];simp only[resolve,Sem.run_bind];rw[hv];simp only[Deferred.ofValue,Sem.run_pure,Result.andThen_ok,invoke];have:=hent (args'.map a.eval++caps) w;simpa using this
theorem JW{E:Env}(hB:IA P E) {as:List Value}{vals:List TV}{fid:FuncId}{n:Nat}{tm:List BxC}(hbx:E.box fid=some (n,tm)) (hn:vals.length=n) {σ1:St}{G1:Gh}(hd:∀d,o.dst=some d→d < M.N∧M.pr (2*d+2)=none) (hI1:Inv M σ1 [] [] a.tmps w G1) (hal:as.length=vals.length)
 (hvt:∀j (h:j < vals.length) (h':j < as.length),TmR w (G1.F M.A) σ1.v (ee M σ1 []) G1 vals[j] as[j]) (h2:(evBox o.dst tm vals).run σ1=some ((),σ')) (hexec:pH P fid→(execOp a.eval o).run P w=.ok (.enter fid as.toArray) w):L7 P M σ' a o w:=by
 intro K' Q hK;obtain⟨hent,hfl,ty,hcal⟩:=hB fid n tm hbx
 cases hdst:o.dst with
 | none=>rw[hdst] at h2;simp[evBox,SP.run] at h2
 | some d=>
  rw[hdst] at h2;obtain⟨hdN,hpr⟩:=hd d hdst;simp only[evBox] at h2;obtain⟨l,σ2,h3,h4⟩:=SP.run_bind_some h2
  obtain⟨hll,hone,G2,hg2⟩:=pK (ys:=tm.map (bxV as)) hI1 (by simp) (fun j h=>by
   have hj:j < tm.length:=by simpa using h
   simp only[List.getElem_map,List.getD_eq_getElem?_getD,List.getElem?_map,oGE hj,Option.map_some,Option.getD_some]
   cases hb:tm[j] with
   | val x=>exact .v (hfl x (by rw[← hb];exact List.getElem_mem hj))
   | arg i=>
    simp only[bxT,bxV];by_cases hi:i < vals.length
    ·have:=hvt i hi (by omega);simpa [hi,show i < as.length by omega] using this
    ·have:vals.getD i .dead=.dead:=by simp[List.getD_eq_getElem?_getD,List.getElem?_eq_none (by omega:vals.length≤i)]
     rw[this];exact .dead) h3
  simp only[List.nil_append] at hg2;obtain⟨G3,hI3,_,hβ⟩:=hg2.1.newBox (2*d+2) ty (by omega) hpr (by omega);have hr':(wr d (.ptr ⟨2*d+2,0,[]⟩ [(σ2.root (2*d+2) l).v (2*d+2,0,0)])).run (σ2.root (2*d+2) l)=some ((),σ'):=h4;simp only[wr,SP.run,oSJ,oPJ,true_and] at hr';subst hr';unfold Oper.wp;rw[hexec hent,Oper.upon_enter];refine (hcal as w (by omega) hone).mono fun e w2 ⟨he,hw⟩=>?_;subst he;subst hw;simp only;refine hK (a.put o.dst (.pointer (some ⟨w.heap.size,0,none⟩))) _ G3 ?_ (lV _ _ _);rw[hdst];refine hI3.wrT hdN (.ptr (σ2.root (2*d+2) l).v (fun _=>Nat.le_refl _) (by simp[jj]) fun _=>⟨by show (2*d+2:Nat)≠1;omega,⟨w.heap.size,0,none⟩,_,?_,rfl,rfl⟩);unfold Gh.addr;simp only[hβ]
theorem Ed{E:Env}{F:fq}(hB:IA P E) (hF:kD P F):wD P M jL (evCall E F):=by
 intro o t σ σ' a w G hc hd hI hr;rcases hc with rfl | hc
 ·simp[evop,evCall,LN,SP.run] at hr
 cases ho:o.op with
 | call c=>
  rw[ho] at hc;obtain⟨callee,args,atys⟩:=c
  cases callee with
  | value fo=>
   cases t with
   | call k f' args'=>
    simp only[o7] at hc;obtain⟨hf,hlen,hargs⟩:=hc;simp only[evop] at hr
    cases f' with
    | f fid=>
     have hfo:fo=.func fid:=by cases fo<;>simp[dJ] at hf;rw[hf]
     have hex:∀fid,fo=.func fid→pH P fid→(execOp a.eval o).run P w=.ok (.enter fid (args.toList.map a.eval).toArray) w:=fun fid hfo hent=>by
      have:=oU (a:=a) (w:=w) ho (by rw[hfo];rfl:a.eval fo=.func (.func fid) #[] #[]) hent
      have ea:(args.toList.map a.eval).toArray=args.map a.eval:=by apply Array.ext';rw[Array.toList_map]
      rw[ea];simpa using this
     have hex:=hex fid hfo;simp only[evCall] at hr
     cases k with
     | false=>
      simp only[Bool.false_eq_true,if_false] at hr;obtain⟨vals,σ1,h1,h2⟩:=SP.run_bind_some hr;obtain⟨rfl,hvl,hvt⟩:=Ja (l':=args.toList) hI (by simp[hlen]) (fun j h h'=>by have:=hargs j (by simpa using h) (by simpa using h');simpa using this) h1
      have hvl':vals.length=args'.length:=by rw[hvl];simp
      exact J4 hF hd hI (by simp;omega) (fun j h h'=>by have:=hvt j h (by simpa using h');simpa using this) h2 hex
     | true=>
     simp only[if_true] at hr;obtain⟨vals,σ1,h1,h2⟩:=SP.run_bind_some hr;obtain⟨G1,hg1,hvl,hvt⟩:=EN (l':=args.toList) hI (by simp[hlen]) (fun j h h'=>by have:=hargs j (by simpa using h) (by simpa using h');simpa using this) h1;have hvl':vals.length=args'.length:=hvl;split at h2
     ·rename_i x hbx;split at h2
      case isFalse=>simp[SP.run] at h2
      rename_i hn;exact JW hB hbx hn hd hg1.1 (by simp;omega) (fun j h h'=>by have:=hvt j h (by simpa using h');simpa using this) h2 hex
     ·exact EK hF hd hg1.1 (by simp;omega) (by simp;omega) (fun j h h'=>by have:=hvt j h (by simpa using h');simpa using this) h2 hex
    | t i=>
     simp only[evCall,SP.run] at hr;split at hr
     case h_2=>simp[SP.run] at hr
     rename_i fid caps htv;obtain⟨vals,σ1,h1,h2⟩:=SP.run_bind_some hr;obtain⟨G1,hg1,hvl,hvt⟩:=EN (l':=args.toList) hI (by simp[hlen]) (fun j h h'=>by have:=hargs j (by simpa using h) (by simpa using h');simpa using this) h1;have hvl':vals.length=args'.length:=hvl
     have hfo:fo=.tmp i:=by cases fo<;>simp[dJ] at hf;rw[hf]
     have htm:=hI.tmr i;rw[htv] at htm
     have hev:a.eval fo=a.tmps.getD i undef:=by rw[hfo];rfl
     generalize hz:a.tmps.getD i undef=z at htm hev
     cases htm with
     | @fn _ _ xs hcl hct=>
      have hex:pH P fid→(execOp a.eval o).run P w=.ok (.enter fid (args.toList.map a.eval++xs.toList).toArray) w:=fun hent=>by
       have:=oU (a:=a) (w:=w) ho hev hent
       have ea:(args.toList.map a.eval++xs.toList).toArray=args.map a.eval++xs:=by apply Array.ext';simp
       rw[ea];exact this
      have hcl':xs.toList.length=caps.length:=by simpa using hcl
      exact EK hF hd hg1.1 (by simp[Il];omega) (by simp;omega) (fun j h h'=>by
       by_cases hj:j < vals.length
       ·have:=hvt j hj (by simp;omega);simpa [List.getElem_append_left,hj,List.getElem_append,show j < args.size by omega] using this
       ·have hj2:j - vals.length < caps.length:=by simp at h;omega
        have:=hg1.tm (hct (j - vals.length) hj2)
        have hj3:¬ j < args.size:=by omega
        have e1:args.size=vals.length:=by omega
        simp only[List.getElem_append,hj,dite_false,List.length_map,Array.length_toList,hj3,Array.getElem_toList];simp only[e1]
        have e2:xs.getD (j - vals.length) undef=xs[j - vals.length]:=by simp[Array.getD_eq_getD_getElem?,show j - vals.length < xs.size by omega]
        rw[← e2]
        exact this) h2 hex
    | _=>simp[evCall,SP.run] at hr
   | _=>simp[o7] at hc
  | _=>cases t<;>simp[o7] at hc
 | _=>rw[ho] at hc;cases t<;>simp[o7] at hc
end
theorem pI{P:Program}{ops:Array Oper}{Q:Exit→Act→World→Prop}{i:Nat}{L:List Nat}{a:Act}{w:World}{o:Oper}{v:Value}(ho:ops[i]?=some o) (hg:o.guard=none) (hrun:(execOp a.eval o).run P w=.ok (.value v) w) (h:wpOps P ops Q L (a.put o.dst v) w):wpOps P ops Q (i :: L) a w:=by
 simp only[wpOps,ho];rw[if_pos (by simp[Region.wanted,hg])];left;unfold Oper.wp;rw[hrun];exact h
structure Iz (P:Program) (c rest:Code):Prop where
 ex:∃(i0 i1 i2:Nat) (o0 o1 o2 o3:Oper) (ty ty2 e:TypeId),c=.seq (.region i0 #[o0] false) (.seq (.seq (.region i1 #[o1,o2] false) (.cond (.tmp 4) (.seq (.region i2 #[o3] false) .ret) .skip)) rest) ∧
  (o0.dst=some 2∧o0.guard=none∧o0.op=.assign (.const (.slice none 0 0)))∧(o1.dst=some 3∧o1.guard=none∧o1.op=.move (.tmp 0)) ∧
  (o2.dst=some 4∧o2.guard=none∧o2.op=.binOp .eql ty (.tmp 3) (.const (.slice none 0 0)) ty2)∧(o3.dst=some 2∧o3.guard=none∧o3.op=.assign (.const (.slice none 0 0)))∧P.underlying ty=some (.slice e)
def vY(ts:Array Value) (x:Value) (b:Bool):Array Value:=((ts.setIfInBounds 2 (.slice none 0 0)).setIfInBounds 3 x).setIfInBounds 4 (.bool b)
theorem J2{P:Program}{c rest:Code}(hc:Iz P c rest) {ad:Option Addr}{n cap:Nat}{ts:Array Value}{w:World}{Q:Exit→Act→World→Prop}(h0:ts.getD 0 undef=.slice ad n cap) (hN:4 < ts.size)
 (hnil:ad=none→Q .ret ⟨(vY ts (.slice ad n cap) true).setIfInBounds 2 (.slice none 0 0),[]⟩ w) (hrest:ad≠none→rest.wp P Q ⟨vY ts (.slice ad n cap) false,[]⟩ w):c.wp P Q ⟨ts,[]⟩ w:=by
 obtain⟨i0,i1,i2,o0,o1,o2,o3,ty,ty2,e,rfl,⟨d0,g0,p0⟩,⟨d1,g1,p1⟩,⟨d2,g2,p2⟩,⟨d3,g3,p3⟩,hu⟩:=hc.ex
 have run_a:∀{o:Oper} {a:Act} {x:Operand},(o.op=.assign x∨o.op=.move x)→(execOp a.eval o).run P w=.ok (.value (a.eval x)) w:=fun ho=>by rcases ho with ho | ho<;>simp[execOp,ho]
 refine wp_seq (wp_region ?_);show wpOps P #[o0] _ [0] _ w;refine pI (o:=o0) rfl g0 (run_a (.inl p0)) ?_;rw[d0];refine wp_seq (wp_seq (wp_region ?_));show wpOps P #[o1,o2] _ [0,1] _ w;refine pI (o:=o1) rfl g1 (run_a (.inr p1)) ?_;rw[d1]
 have e0:(ts.setIfInBounds 2 (.slice none 0 0)).getD 0 undef=.slice ad n cap:=by
  rw[← h0];simp[Array.getD_eq_getD_getElem?,Array.getElem?_setIfInBounds]
 have e3:((ts.setIfInBounds 2 (.slice none 0 0)).setIfInBounds 3 (.slice ad n cap)).getD 3 undef=.slice ad n cap:=by
  simp[Array.getD_eq_getD_getElem?,Array.getElem?_setIfInBounds,show 3 < ts.size by omega]
 have hrun2:(execOp (Act.mk ((ts.setIfInBounds 2 (.slice none 0 0)).setIfInBounds 3 (.slice ad n cap)) []).eval o2).run P w=.ok (.value (.bool ad.isNone)) w:=by
  have hb:=Lib.run_eql_slice_nil (P:=P) w ty e ad n cap 0 0 hu;have ex:(Act.mk ((ts.setIfInBounds 2 (.slice none 0 0)).setIfInBounds 3 (.slice ad n cap)) []).eval (.tmp 3)=.slice ad n cap:=e3;have ey:∀a:Act,a.eval (.const (.slice none 0 0))=.slice none 0 0:=fun _=>rfl;have hg:(eqGuard .eql ty (.tmp 3) (.const (.slice none 0 0)) (.slice ad n cap) (.slice none 0 0)).run P w=.ok () w:=rfl;simp[execOp,p2,ex,ey,hb,hg]
 refine pI (o:=o2) (v:=.bool ad.isNone) rfl g2 ?_ ?_
 ·show (execOp (Act.mk ((ts.setIfInBounds 2 (.slice none 0 0)).setIfInBounds 3 ((ts.setIfInBounds 2 (.slice none 0 0)).getD 0 undef)) []).eval o2).run P w=_;rw[e0];exact hrun2
 rw[d2];show (Code.cond (.tmp 4) _ _).wp P _ ⟨((ts.setIfInBounds 2 (.slice none 0 0)).setIfInBounds 3 ((ts.setIfInBounds 2 (.slice none 0 0)).getD 0 undef)).setIfInBounds 4 (.bool ad.isNone),[]⟩ w;rw[e0]
 have e4:∀b,(vY ts (.slice ad n cap) b).getD 4 undef=.bool b:=fun b=>by
  unfold vY;simp[Array.getD_eq_getD_getElem?,Array.getElem?_setIfInBounds,hN]
 cases ad with
 | none=>
  refine wp_cond_true (e4 true) (wp_seq (wp_region ?_));show wpOps P #[o3] _ [0] _ w;refine pI (o:=o3) rfl g3 (run_a (.inl p3)) ?_;rw[d3];exact wp_ret (hnil rfl)
 | some ad=>exact wp_cond_false (e4 false) (wp_skip (hrest (by simp)))
def Cp(sz:Nat) (b:Bool) (bytes:Nat) (mv fl:Bool) (id:Nat):jU:=
 .seq (.reg id none [⟨some 5,none,.bsl sz b 0 []⟩,⟨some 6,none,.mov (.t 0)⟩,⟨some 7,none,.app sz bytes mv fl (.t 5) (.t 6)⟩,⟨some 2,none,.asn true (.t 7)⟩] ([2],[7])) .ret
def Co(call:Option Nat→TOp→SP Unit) (N:Nat) (tc:jU):Option (List TV×List RSh):=(runC call N tc (mkSt [.sl []] [])).bind fun x=>match x.1 with | .exit _=>none | _=>((resF 1 [.tmp 2]).run x.2).map (·.1)
theorem F1(call:Option Nat→TOp→SP Unit) (N sz:Nat) (b:Bool) (bytes:Nat) (mv fl:Bool) (id:Nat):Co call N (Cp sz b bytes mv fl id)=Co (fun _ _=>.fail) 0 (Cp sz b bytes mv fl id):=rfl
def uI(tc:jU):Bool:=match Co (fun _ _=>.fail) 0 tc with
 | some ([.ow []],[.one])=>true
 | _=>false
theorem DN{tc:jU}(h:uI tc=true):Co (fun _ _=>.fail) 0 tc=some ([.ow []],[.one]):=by
 unfold uI at h;split at h
 ·rename_i e;exact e
 ·cases h
def mQ(pp:List Nat):Nat→List TV→Bool
 | _,[]=>true
 | i,.ptr _ _ :: r=>pp.contains i && mQ pp (i+1) r
 | i,.sl _ :: r=>mQ pp (i+1) r
 | i,_ :: r=>!pp.contains (1000+i) && mQ pp (i+1) r
theorem Hr{pp:List Nat}:∀{l:List TV}{i:Nat},mQ pp i l=true→∀j p vs,l[j]?=some (.ptr p vs)→i+j∈pp:=by
 intro l
 induction l with
 | nil=>intro i _ j p vs h;simp at h
 | cons t l ih=>
  intro i h j p vs hj
  have hr:mQ pp (i+1) l=true:=by
   cases t<;>simp only[mQ,Bool.and_eq_true] at h<;>first | exact h.2 | exact h
  cases j with
  | zero=>
   have:t=.ptr p vs:=by simpa using hj
   subst this;simp only[mQ,Bool.and_eq_true,List.contains_eq_mem,decide_eq_true_eq] at h;exact h.1
  | succ j=>
   have:=ih hr j p vs (by simpa using hj);rw[show i+(j+1)=i+1+j by omega];exact this
def runT(E:Env) (F:fq) (n:Nat) (tf:TFn) (vals:List TV) (pts:Pts):Option (Gb×Pts):=
 if vals.length=tf.np∧(mQ tf.pp 0 vals && (!tf.pp.contains 1000 || pts.isEmpty))=true then
  (runC (evCall E F) n tf.body (mkSt vals pts)).bind fun x=>match x.1 with
   | .exit _=>none
   | _=>((resF tf.np tf.res).run x.2).bind fun y=>some (⟨y.1.1,y.1.2⟩,pts.map fun x=>(x.1,(ef y.2.ce x.1).getD []))
 else none
def E4(E:Env) (T:FuncId→Option TFn) (B F:fq) (n:Nat):fq:=fun f vals pts=>
 match T f with
 | none=>B f vals pts
 | some tf=>runT E F n tf vals pts
def runF(E:Env) (T:FuncId→Option TFn) (B:fq):Nat→fq
 | 0=>fun _ _ _=>none
 | n+1=>E4 E T B (runF E T B n) n
def Iy(P:Program) (tf:TFn) (c:Code):Prop:=
 tf.np=1∧tf.pp=[1000]∧tf.nt=8∧tf.res=[.tmp 2]∧uI tf.body=true∧(∃sz b bytes mv fl id,tf.body=Cp sz b bytes mv fl id) ∧
  ∃rest,Iz P c rest∧∀M:Fm,M.N=tf.nt→(∀r,M.pr r≠none→∃i∈tf.pp,r=2*i+2)→ix P M jL tf.body rest
def Iw(P:Program) (T:FuncId→Option TFn):Prop:=
 ∀f tf,T f=some tf→∃fn c,P.funcs[f]?=some fn∧(fn.name=="runtime.NumGoroutine")=false∧fn.body=some c∧fn.ntmps=tf.nt∧tf.np≤tf.nt ∧
  ((∀M:Fm,M.N=tf.nt→(∀r,M.pr r≠none→∃i∈tf.pp,r=2*i+2)→ix P M jL tf.body c)∨Iy P tf c)∧tf.res.length=fn.results.size∧∀k (h:k < tf.res.length) (h':k < fn.results.size),DS P tf.res[k] fn.results[k]
section
variable {P:Program} {E:Env} {T:FuncId→Option TFn} {B F:fq}
def MW(tf:TFn) (pts:Pts) (x:jT×St):Option (Gb×Pts):=match x.1 with
 | .exit _=>none
 | _=>((resF tf.np tf.res).run x.2).bind fun y=>some ((⟨y.1.1,y.1.2⟩:Gb),pts.map fun(x:Nat×List TV)=>(x.1,(ef y.2.ce x.1).getD []))
theorem DQ{tf:TFn}{fn:Func}{M:Fm}{σ1:St}{a':Act}{w':World}{G':Gh}{pts pts':Pts}{res:Gb}{e:jT}(hrl:tf.res.length=fn.results.size) (hres:∀k (h:k < tf.res.length) (h':k < fn.results.size),DS P tf.res[k] fn.results[k])
 (hI':Inv M σ1 [] [] a'.tmps w' G') (hd:a'.defers=[]) (h2:MW tf pts (e,σ1)=some (res,pts')) :
 bodyPost P fn (fun e w2=>∃v σ2,e=.returned v∧M1 M res v σ2 w2∧pts'=pts.map fun(x:Nat×List TV)=>(x.1,(ef σ2.ce x.1).getD [])) e.toExit a' w':=by
 unfold MW at h2
 have key0:∀y,(resL tf.np tf.res).run σ1=some y→some ((⟨y.1.1,y.1.2⟩:Gb),pts.map fun x=>(x.1,(ef y.2.ce x.1).getD []))=some (res,pts')→a'.defers=[]∧∃v,(results fn a'.tmps).run P w'=.ok v w' ∧
  ∃v' σ2,Ending.returned v=.returned v'∧M1 M res v' σ2 w'∧pts'=pts.map fun x=>(x.1,(ef σ2.ce x.1).getD []):=by
  rintro⟨r,σ2⟩ hr he;obtain⟨vs,ys,G2,hrun,hg,hl,hok,hrv⟩:=Li (qs':=fn.results.toList) hI' (by simpa using hrl) (fun k h h'=>by have:=hres k h (by simpa using h');simpa using this) hr
  injection he with he
  injection he with he1 he2
  subst he1;subst he2;refine⟨hd,nq r.2 ys,?_,nq r.2 ys,σ2,rfl,.inl ⟨ys,a'.tmps,G2,rfl,by simpa using hg.1,hok⟩,rfl⟩;unfold results;rw[Array.mapM_eq_mapM_toList];simp only[Sem.run_bind,Sem.run_map]
  erw[hrun]
  unfold nq;rw[hrv]
  cases vs with
  | nil=>rfl
  | cons v vs=>
   cases vs with
   | nil=>rfl
   | cons v2 vs=>rfl
 have key:∀y,(resF tf.np tf.res).run σ1=some y→some ((⟨y.1.1,y.1.2⟩:Gb),pts.map fun x=>(x.1,(ef y.2.ce x.1).getD []))=some (res,pts')→a'.defers=[]∧∃v,(results fn a'.tmps).run P w'=.ok v w' ∧
  ∃v' σ2,Ending.returned v=.returned v'∧M1 M res v' σ2 w'∧pts'=pts.map fun x=>(x.1,(ef σ2.ce x.1).getD []):=by
  intro y hr he;unfold resF at hr;split at hr
  ·rename_i t htf;simp only[SP.run] at hr;split at hr
   ·rename_i p vs htv;obtain⟨_,σ2,h3,h4⟩:=SP.run_bind_some hr;have e1:σ2=σ1:=(dW h3).1;have e2:=(dW h3).2;subst e1;simp only[SP.run,oSJ] at h4;subst h4
    injection he with he
    injection he with he1 he2
    subst he1;subst he2;have htm:=hI'.tmr t;rw[htv] at htm;generalize hz:a'.tmps.getD t undef=z at htm
    cases htm with
    | ptr V0 h0 hv hok=>
     have hp:=hok e2;refine⟨hd,z,?_,z,σ2,rfl,.inr ⟨p,vs,a'.tmps,G',rfl,rfl,hI',hp⟩,rfl⟩
     have hl1:fn.results.size=1:=by rw[← hrl,htf];rfl
     have hr0:=hres 0 (by rw[htf];simp) (by omega)
     have hrs:fn.results.toList=[fn.results[0]]:=by
      apply List.ext_getElem
      ·simp[hl1]
      ·intro i h5 h6
       have:i=0:=by simp at h6;omega
       subst this;simp
     have hq:fn.results[0]=.tmp t:=by
      have h7:tf.res[0]'(by rw[htf];simp)=.tmp t:=by simp[htf]
      rw[h7] at hr0;generalize fn.results[0]=q0 at hr0
      cases q0 with
      | tmp t'=>simp[DS] at hr0;rw[hr0]
      | cell a b=>simp[DS] at hr0
     unfold results;rw[Array.mapM_eq_mapM_toList,hrs,hq];rw[← hz];simp
   ·exact key0 y (by rw[htf];exact hr) he
  ·exact key0 y hr he
 cases e with
 | exit i=>simp at h2
 | normal=>
  simp only at h2;obtain⟨y,h3,h4⟩:=dM h2;exact key y h3 h4
 | ret=>
  simp only at h2;obtain⟨y,h3,h4⟩:=dM h2;exact key y h3 h4
theorem II(hT:Iw P T) (hE:IA P E) (hB:kD P B) (hF:kD P F) (n:Nat):kD P (E4 E T B F n):=by
 intro f vals pts res pts' h;unfold E4 at h
 cases ht:T f with
 | none=>rw[ht] at h;exact hB f vals pts res pts' h
 | some tf=>
  rw[ht] at h;simp only[runT] at h;split at h
  case isFalse=>simp at h
  rename_i hnp;obtain⟨hnp,hppe⟩:=hnp;simp only[Bool.and_eq_true] at hppe;obtain⟨hpp,hpe⟩:=hppe;obtain⟨⟨e,σ1⟩,h1,h2⟩:=dM h;obtain⟨fn,c,hf,hname,hb,hnt,hle,hcode,hrl,hres⟩:=hT f tf ht;refine⟨Cg hf hname hb,tf.nt,by omega,fun M as w G hal hN hw0 hpr hI=>?_⟩;refine calls_of_wp hf hb ?_
  have hN2:fn.ntmps - as.toArray.size=tf.nt - as.length:=by rw[hnt];simp
  rw[hN2]
  have hpr':∀r,M.pr r≠none→∃i∈tf.pp,r=2*i+2:=fun r hr=>by obtain⟨i,p,vs,h3,h4⟩:=hpr r hr;exact⟨i,by simpa using Hr hpp i p vs h3,h4⟩
  rcases hcode with hcode | ⟨c1,c2,c3,c4,c5,⟨sz,b,bytes,mv,fl,id,c6⟩,rest,hcl,hcode⟩
  ·exact Ec (Ed hE hF) n tf.body c _ e σ1 ⟨as.toArray++Array.replicate (tf.nt - as.length) undef,[]⟩ w G _ (hcode M hN hpr') h1 hI fun a' w' G' hI' hd=>DQ hrl hres hI' hd h2
  ·
   obtain⟨v0,rfl⟩:∃v,vals=[v]:=List.length_eq_one_iff.1 (by rw[hnp,c1]);obtain⟨x0,rfl⟩:∃x,as=[x]:=List.length_eq_one_iff.1 (by rw[hal];rfl)
   have hp0:pts=[]:=by rw[c2] at hpe;simpa using hpe
   subst hp0
   obtain⟨l0,rfl⟩:∃l,v0=.sl l:=by
    rw[c2] at hpp;cases v0<;>simp[mQ] at hpp;exact⟨_,rfl⟩
   have hv:=hI.tmr 0;have e0:(mkSt [TV.sl l0] ([]:Pts)).t 0=.sl l0:=rfl
   have e1:(#[x0]++Array.replicate (tf.nt - 1) undef).getD 0 undef=x0:=by simp[Array.getD_eq_getD_getElem?,Array.getElem?_append]
   have hv:TmR w (G.F M.A) (mkSt [TV.sl l0] ([]:Pts)).v (ee M (mkSt [TV.sl l0] ([]:Pts)) []) G (.sl l0) x0:=by
    have:=hI.tmr 0;rw[e0] at this;rw[show ([x0]:List Value).toArray=#[x0] from rfl,show ([x0]:List Value).length=1 from rfl,e1] at this;exact this
   cases hv with
   | sl hs=>
    cases hs with
    | @sl _ ad cap zz u hsz hcap hmax hnil0 hcell hrec=>
     have hdead:∀(H:List TV) (xs:List Value) (ts:Array Value) (d:Nat) (v:Value),0 < d→Inv M (mkSt [TV.sl l0] []) H xs ts w G→Inv M (mkSt [TV.sl l0] []) H xs (ts.setIfInBounds d v) w G:=by
      intro H xs ts d v hd hI;refine⟨hI.core,fun i=>?_,hI.fram,hI.keys,by rw[Array.size_setIfInBounds];exact hI.size,hI.hand,hI.hval,hI.shape⟩;by_cases hi:i=d
      ·subst hi
       have:(mkSt [TV.sl l0] ([]:Pts)).t i=.dead:=by
        simp[St.t,mkSt,fR,ef,show ¬ 0=i by omega]
       rw[this];exact .dead
      ·have:(ts.setIfInBounds d v).getD i undef=ts.getD i undef:=by simp[Array.getD_eq_getD_getElem?,Array.getElem?_setIfInBounds,Ne.symm hi]
       rw[this];exact hI.tmr i
     refine J2 hcl (ad:=ad) (n:=l0.length) (cap:=cap) (by simp[Array.getD_eq_getD_getElem?,Array.getElem?_append]) (by simp[c3]) (fun had=>?_) (fun _=>?_)
     ·have hI3:=hdead _ _ _ 4 (.bool true) (by decide) (hdead _ _ _ 3 (.slice ad l0.length cap) (by decide) (hdead _ _ _ 2 (.slice none 0 0) (by decide) hI));subst had;have hcap0:=hnil0 rfl;have hl0:l0=[]:=List.eq_nil_of_length_eq_zero (by omega);subst hl0;have hI4:=hI3.wrT (d:=2) (by omega) (t:=.ow []) (x:=.slice none 0 0) .nil;have hrun:=DN c5;rw[c6,← F1 (evCall E F) n,← c6] at hrun;unfold Co at hrun;rw[h1] at hrun;simp only[oBS] at hrun h2
      have hres1:res=⟨[.ow []],[.one]⟩∧pts'=[]:=by
       cases e with
       | exit i=>simp at hrun
       | normal=>
        simp only[c1,c4] at h2;simp only at hrun;obtain⟨y,hy,hy2⟩:=gV hrun;rw[hy] at h2;simp only[oBS,oSJ,oPJ] at h2;rw[hy2] at h2;exact⟨h2.1.symm,by simpa using h2.2.symm⟩
       | ret=>
        simp only[c1,c4] at h2;simp only at hrun;obtain⟨y,hy,hy2⟩:=gV hrun;rw[hy] at h2;simp only[oBS,oSJ,oPJ] at h2;rw[hy2] at h2;exact⟨h2.1.symm,by simpa using h2.2.symm⟩
      obtain⟨rfl,rfl⟩:=hres1
      have h5:MW tf [] (.ret,{ mkSt [TV.sl []] ([]:Pts) with tm:=fI (mkSt [TV.sl []] ([]:Pts)).tm 2 (.ow []) })=some (⟨[.ow []],[.one]⟩,[]):=by
       unfold MW;simp only[c1,c4];rfl
      obtain⟨T,hT⟩:∃T:Array Value,T=(vY ([Value.slice none ([]:List (List TV)).length cap].toArray++Array.replicate (tf.nt - [Value.slice none ([]:List (List TV)).length cap].length) undef) (.slice none ([]:List (List TV)).length cap) true).setIfInBounds 2 (.slice none 0 0):=⟨_,rfl⟩;have hI5:=hI4;unfold vY at hT;rw[← hT] at hI5;have h7:=DQ (tf:=tf) (fn:=fn) (P:=P) (pts:=[]) (e:=.ret) (a':=⟨T,[]⟩) (w':=w) (G':=G) hrl hres hI5 rfl h5;rw[hT] at h7;exact h7
     ·have hI2:=hdead _ _ _ 4 (.bool false) (by decide) (hdead _ _ _ 3 (.slice ad l0.length cap) (by decide) (hdead _ _ _ 2 (.slice none 0 0) (by decide) hI));exact Ec (Ed hE hF) n tf.body rest _ e σ1 ⟨vY _ (.slice ad l0.length cap) false,[]⟩ w G _ (hcode M hN hpr') h1 hI2 fun a' w' G' hI' hd=>DQ hrl hres hI' hd h2
theorem runF_ok(hT:Iw P T) (hE:IA P E) (hB:kD P B):∀n,kD P (runF E T B n):=by
 intro n
 induction n with
 | zero=>intro f vals pts res pts' h;simp[runF] at h
 | succ n ih=>exact II hT hE hB ih n
end
def pY(P:Program) (own:Nat→Bool):Nat→List TypeId→List Operand→Option (List (Option Nat×Opd))
 | _,_,[]=>some []
 | i,ts,x :: xs=>
  match dJ x,pY P own (i+1) ts.tail xs with
  | some y,some l=>
   match ts with
   | t :: _=>match P.underlying t with
    | some (.pointer e)=>match xL P e with
     | some n=>some ((some n,y) :: l)
     | none=>none
    | some (.slice _)=>some ((if own i then some 0 else none,y) :: l)
    | _=>some ((none,y) :: l)
   | []=>some ((none,y) :: l)
  | _,_=>none
def Mx(P:Program) (t:TypeId):Bool:=match P.underlying t with
 | some (.int _)=>true
 | some .bool=>true
 | some .string=>true
 | some (.struct _)=>(o8 P 50 t).isSome
 | _=>false
def HF(P:Program) (fn:Func):Bool:=fn.resultTypes.toList.all (Mx P) && fn.params.toList.all fun t=>match P.underlying t with | some (.pointer _)=>false | _=>true
def j7:Code→List Oper
 | .region _ ops _=>ops.toList
 | .seq a b=>j7 a++j7 b
 | .cond _ a b=>j7 a++j7 b
 | .block _ b=>j7 b
 | .loop b=>j7 b
 | _=>[]
def Kr(ops:List Oper) (j:Nat):Option Operand→Bool
 | some (.tmp t)=>t==j || ops.any fun o=>o.dst==some t && match o.op with | .move (.tmp u)=>u==j | _=>false
 | _=>false
def Mw(P:Program):Nat→Func→Nat→Bool
 | 0,_,_=>false
 | n+1,fn,j=>match fn.body with
  | some c=>(j7 c).any fun o=>match o.op with
   | .call ⟨.builtin .append,args,_⟩=>Kr (j7 c) j args[0]?
   | .call ⟨.value (.func g),args,_⟩=>match P.funcs[g]? with
    | some fg=>args.toList.zipIdx.any fun x=>Kr (j7 c) j (some x.1) && Mw P n fg x.2
    | none=>false
   | _=>false
  | none=>false
def uH(P:Program):Op→Option TOp
 | .call ⟨.value (.func f),args,_⟩=>
  match P.funcs[f]? with
  | some fn=>(pY P (Mw P 3 fn) 0 fn.params.toList args.toList).map fun l=>.call (!HF P fn) (.f f) l
  | none=>none
 | .call ⟨.value (.tmp i),args,tys⟩=>(pY P (fun _=>false) 0 tys.toList args.toList).map fun l=>.call true (.t i) l
 | _=>none
def DE(mv:Nat):TOp→TOp
 | .call k f args=>.call k f (if 10≤mv then args.map fun x=>(x.1.map fun n=>min n (mv - 10),x.2) else args)
 | t=>t
def pb(P:Program) (mv:Nat) (op:Op):TOp:=
 match fX P mv op with
 | some t=>t
 | none=>match uH P op with
  | some t=>DE mv t
  | none=>LN
def MB(pp:List Nat) (nt:Nat):Option Nat→Bool
 | some d=>decide (d < nt) && !pp.contains d
 | none=>true
def Ap(P:Program) (pp:List Nat) (nt:Nat) (ops:Array Oper) (mv:Nat) (o:Oper):Option iB:=
 if MB pp nt o.dst then
  match o.guard with
  | none=>some ⟨o.dst,none,pb P mv o.op⟩
  | some (j,want)=>match (ops[j]?).bind (·.dst) with
   | some d=>some ⟨o.dst,some (d,want),pb P mv o.op⟩
   | none=>none
 else none
def ny(P:Program) (pp:List Nat) (nt:Nat) (ops:Array Oper):List Nat→List Oper→Option (List iB)
 | _,[]=>some []
 | m,o :: r=>match Ap P pp nt ops (m.headD 0) o,ny P pp nt ops m.tail r with
  | some t,some l=>some (t :: l)
  | _,_=>none
def Ci:List Oper→List (List Nat)→List (List Nat)
 | [],acc=>acc
 | o :: r,acc=>Ci r (acc++[((o.after.toList.filter (Region.binds .any)).flatMap fun e=>e.on :: acc.getD e.on []).eraseDups])
def Ak(ops:List Oper) (deps:List (List Nat)):Nat→Bool
 | 0=>true
 | i+1=>Ak ops deps i && match ops[i]? with
  | some o=>(o.after.toList.all fun e=>!Region.binds .any e || decide (e.on < i)) && ((deps.getD i []).all fun j=>o.after.toList.any fun e=>Region.binds .any e && (e.on==j || (deps.getD e.on []).contains j))
  | none=>true
def Aq(P:Program) (ops:Array Oper) (tops:List iB) (draw:Bool):Option (Option (List (List Nat))):=
 if draw then
  if P.follows .mixedOrders && Ak ops.toList (Ci ops.toList []) ops.size then
   if xO (Ci ops.toList []) tops (List.range tops.length) then some none else some (some (Ci ops.toList []))
  else none
 else some none
def sV:Code→Option Nat
 | .region id _ _=>some id
 | .seq _ b=>sV b
 | .cond _ a b=>match sV b with | some i=>some i | none=>sV a
 | .block _ b=>sV b
 | _=>none
def D3(pers:Nat→Prs) (a:Code) (l:List (Nat×Option Nat)):jU→jU
 | .skip=>match sV a with
  | some i=>.nrm (pers i)
  | none=>match l with
   | []=>.skip
   | _ :: _=>.nrm (l.filterMap fun x=>match x.2 with | none=>some x.1 | some _=>none,l.filterMap (·.2))
 | t=>t
def MD:Operand→Nat
 | .tmp t=>2000000+t
 | _=>2000000
def tw:Code→Nat
 | .seq a b=>tw a+tw b
 | .cond _ a b=>tw a+tw b
 | .block _ b=>tw b
 | .loop b=>tw b+1
 | _=>0
def Mg(nt:Nat) (l:List (Nat×Option Nat)):Bool:=l.all fun y=>decide (y.1 < nt)
def MT(nt:Nat) (l:List (Nat×Option Nat)) (a:jU):jU:=match l with | []=>a | _ :: _=>if Mg nt l then .pre l a else a
def Jm(nt:Nat) (l:List (Nat×Option Nat)) (a:jU):jU:=match l with | []=>a | _ :: _=>if Mg nt l then .post a l else a
def fS(P:Program) (pp:List Nat) (nt:Nat) (mv:Nat→List Oper→Bool→List Nat) (pers:Nat→Prs) (H:Nat→List (Nat×Option Nat)):Code→Nat→Option jU
 | .skip,_=>some .skip
 | .region id ops draw,_=>match ny P pp nt ops (mv id ops.toList draw) ops.toList with
  | some l=>match Aq P ops l draw with
   | some d=>some (MT nt (H (3000000+id)) (.reg id d l (pers id)))
   | none=>none
  | none=>none
 | .seq a b,i=>match fS P pp nt mv pers H a i,fS P pp nt mv pers H b (i+tw a) with
  | some x,some y=>some (.seq x y)
  | _,_=>none
 | .cond c a b,i=>match dJ c,fS P pp nt mv pers H a i,fS P pp nt mv pers H b (i+tw a) with
  | some k,some x,some y=>some (.cond k (D3 pers b (H (MD c)) x) (D3 pers a (H (MD c)) y))
  | _,_,_=>none
 | .block id b,i=>(fS P pp nt mv pers H b i).map (.block id)
 | .loop b,i=>(fS P pp nt mv pers H b (i+1)).map fun x=>MT nt (H (i+1)) (.loop (Jm nt (H (i+1)) x))
 | .exit id,_=>some (.exit id)
 | .ret,_=>some .ret
 | _,_=>none
def n8(P:Program):List ResultVar→Option (List TRs)
 | []=>some []
 | .tmp t :: r=>(n8 P r).map (.tmp t :: ·)
 | .cell t ty :: r=>match A2 P ty,n8 P r with
  | some n,some l=>some (.cell t n :: l)
  | _,_=>none
def AC(l:List Operand):List Nat:=l.filterMap fun x=>match x with | .tmp t=>some t | _=>none
def Lh(l:List ResultVar):List Nat:=l.map fun r=>match r with | .tmp t=>t | .cell t _=>t
def HA:Op→Bool
 | .load _ _=>true
 | .move (.tmp _)=>true
 | .field _ _ _=>true
 | .fieldAddr _ _ _=>true
 | .indexAddr _ _ _=>true
 | .slice _ _ _ _ _=>true
 | .nilCheck _=>true
 | .extract _ _=>true
 | .pick _ _ _=>true
 | _=>false
def pG(l:List Nat):Nat:=l.foldl (fun b i=>b ||| (1 <<< i)) 0
def Kj(nt b:Nat):List Nat:=(List.range nt).filter fun i=>b.testBit i
def MC(b i:Nat):Nat:=if b.testBit i then b - (1 <<< i) else b
def H7(ops:List Oper) (o:Oper):List Nat:=match o.guard with | some (j,_)=>((ops[j]?).bind (·.dst)).toList | none=>[]
def C3(ops:List Oper):List Oper→Nat→Nat
 | [],out=>out
 | o :: r,out=>
  let b:=C3 ops r out
  (match o.dst with | some d=>MC b d | none=>b) ||| pG (AC o.op.operands.toList++H7 ops o)
def yL(rt:Nat):Code→Nat→List (Nat×Nat)→Nat×List (Nat×Nat)
 | .region id ops _,out,_=>(C3 ops.toList ops.toList out,[(id,out)])
 | .seq a b,out,ex=>let y:=yL rt b out ex;let x:=yL rt a y.1 ex;(x.1,x.2++y.2)
 | .cond c a b,out,ex=>let x:=yL rt a out ex;let y:=yL rt b out ex;(x.1 ||| y.1 ||| pG (AC [c]),x.2++y.2)
 | .block id b,out,ex=>yL rt b out ((id,out) :: ex)
 | .loop b,_,ex=>let l:=(yL rt b 0 ex).1;yL rt b l ex
 | .exit id,_,ex=>((ef ex id).getD 0,[])
 | .ret,_,_=>(rt,[])
 | _,out,_=>(out,[])
def HS(P:Program) (t:TypeId):Bool:=match P.underlying t with | some (.pointer _)=>true | _=>false
def yD(P:Program) (b:Nat) (o:Oper):Nat:=
 match o.dst with
 | some d=>
  if (match o.op with
   | .box _ _=>true
   | .alloc _=>true
   | .fieldAddr _ _ _=>true
   | .indexAddr _ _ _=>true
   | .nilCheck _=>true
   | .load t _=>HS P t
   | .move (.tmp s)=>b.testBit s
   | .assign (.tmp s)=>b.testBit s
   | .call ⟨.value (.func f),_,_⟩=>match P.funcs[f]? with | some fn=>fn.resultTypes.toList.map (HS P)==[true] | none=>false
   | _=>false) then b ||| (1 <<< d) else b
 | none=>b
def Iu(b:Nat) (o:Oper):List (Nat×Nat):=
 match o.dst with
 | some d=>if HA o.op then (AC o.op.operands.toList).map fun s=>(d,s) else match o.op with
  | .assign (.tmp s)=>if b.testBit s then [(d,s)] else []
  | _=>[]
 | none=>[]
def LT(P:Program) (pp:List Nat) (c:Code):List (Nat×Nat):=
 let ops:=j7 c
 let b:=ops.foldl (yD P) (ops.foldl (yD P) (pG pp))
 ops.flatMap (Iu b)
def M8(o:Oper):Bool:=match o.op with
 | .extract _ _=>true
 | _=>false
def J9(P:Program) (pp:List Nat) (c:Code):List (Nat×Nat):=
 let ops:=j7 c
 let b:=ops.foldl (yD P) (ops.foldl (yD P) (pG pp))
 (ops.filter fun o=>!M8 o).flatMap (Iu b)
def yi(al:List (Nat×Nat)) (b:Nat):Nat:=al.foldr (fun x b=>if b.testBit x.1 then b ||| (1 <<< x.2) else b) b
def Lg(l:List Nat):List Nat:=l.flatMap fun i=>[2*i+2,2*i+3]
def KI:Op→List Operand
 | .store _ _ x=>[x]
 | .call ⟨.builtin .append,args,_⟩=>args.toList.tail
 | op=>op.operands.toList
def Nn(el:Nat) (al:List (Nat×Nat)) (after:Nat) (o:Oper):Bool:=
 let live:=yi al (yi al after)
 (AC (KI o.op)).all fun t=>!el.testBit t && (yi al (yi al (1 <<< t))) &&& live==0
def Mo(el:Nat) (al:List (Nat×Nat)) (ops:List Oper) (out:Nat):List Oper→List Bool
 | []=>[]
 | o :: r=>Nn el al (C3 ops r out) o :: Mo el al ops out r
def EF(b:Nat) (o:Oper):Nat:=
 match o.dst with
 | some d=>
  if (match o.op with
   | .indexAddr _ _ _=>true
   | .fieldAddr _ (.tmp s) _=>b.testBit s
   | .load _ (.tmp s)=>b.testBit s
   | .nilCheck (.tmp s)=>b.testBit s
   | .move (.tmp s)=>b.testBit s
   | .field _ (.tmp s) _=>b.testBit s
   | _=>false) then b ||| (1 <<< d) else b
 | none=>b
def HB(el:Nat) (al:List (Nat×Nat)) (ops:List Oper) (out:Nat):List (Nat×Oper)→List Bool
 | []=>[]
 | (i,o) :: r=>Nn el al (out ||| pG ((ops.zipIdx.filter fun x=>x.2 != i).flatMap fun x=>AC x.1.op.operands.toList)) o :: HB el al ops out r
def Ns(P:Program) (pp:List Nat) (c:Code) (res:List Nat):Nat→List Oper→Bool→List Bool:=
 let tb:=(yL (pG res) c (pG res) []).2
 let al:=J9 P pp c
 let ppb:=pG pp
 let el:=(j7 c).foldl EF ((j7 c).foldl EF 0)
 fun id ops draw=>
  let out:=((ef tb id).getD 0) ||| ppb
  if draw then HB el al ops out (ops.zipIdx.map fun x=>(x.2,x.1)) else Mo el al ops out ops
def Ml(P:Program) (pp:List Nat) (nt:Nat) (c:Code) (res:List Nat):Nat→Prs:=
 let tb:=(yL (pG res) c (pG res) []).2
 let al:=LT P pp c
 let ppb:=pG pp
 fun id=>
  let b:=((ef tb id).getD 0) ||| ppb
  (Kj nt b,Lg (Kj nt (yi al (yi al b))))
def u6(P:Program):Nat→List TypeId→List Nat
 | _,[]=>[]
 | i,t :: r=>match P.underlying t with
  | some (.pointer _)=>i :: u6 P (i+1) r
  | _=>u6 P (i+1) r
def mvH(H:Nat→List (Nat×Option Nat)) (mv:Nat→List Oper→Bool→List Bool):Nat→List Oper→Bool→List Nat:=
 fun id ops draw=>match H (1000000+id) with
  | []=>(mv id ops draw).map fun b=>if b then 1 else 0
  | l=>(mv id ops draw).zipIdx.map fun x=>match l.find? fun y=>y.1==x.2 with
   | some y=>y.2.getD 0
   | none=>if x.1 then 1 else 0
def vZ(P:Program):Code→Option Code
 | .seq (.region _ a0 false) (.seq (.seq (.region _ a1 false) (.cond (.tmp 4) (.seq (.region _ a2 false) .ret) .skip)) rest)=>
  match a0.toList,a1.toList,a2.toList with
  | [⟨some 2,.assign (.const (.slice none 0 0)),_,_,_,none⟩],[⟨some 3,.move (.tmp 0),_,_,_,none⟩,⟨some 4,.binOp .eql ty (.tmp 3) (.const (.slice none 0 0)) _,_,_,_,none⟩],[⟨some 2,.assign (.const (.slice none 0 0)),_,_,_,none⟩]=>
   match P.underlying ty with
   | some (.slice _)=>some rest
   | _=>none
  | _,_,_=>none
 | _=>none
def vU(P:Program) (fn:Func) (c:Code):Option TFn:=
 match vZ P c with
 | some (.seq (.region id ops false) .ret)=>
  match ny P [1000] 8 ops [0,0,0,1] ops.toList with
  | some [⟨some 5,none,.bsl sz b 0 []⟩,⟨some 6,none,.mov (.t 0)⟩,⟨some 7,none,.app sz2 bytes mv fl (.t 5) (.t 6)⟩,⟨some 2,none,.asn true (.t 7)⟩]=>
   if sz2=sz∧uI (Cp sz b bytes mv fl id)=true∧fn.params.size=1∧fn.ntmps=8 then
    match n8 P fn.results.toList with
    | some [.tmp 2]=>some ⟨1,[1000],8,Cp sz b bytes mv fl id,[.tmp 2]⟩
    | _=>none
   else none
  | _=>none
 | _=>none
def s6(P:Program) (H:Nat→List (Nat×Option Nat)) (f:FuncId):Option TFn:=
 match P.funcs[f]? with
 | some fn=>
  match fn.body with
  | some c=>
   match vU P fn c with
   | some tf=>some tf
   | none=>
   let np:=fn.params.size
   let pp:=u6 P 0 fn.params.toList
   let rt:=Lh fn.results.toList
   let pers:=Ml P pp fn.ntmps c rt
   match fS P pp fn.ntmps (mvH H (Ns P pp c rt)) pers H c 0,n8 P fn.results.toList with
   | some tc,some rs=>some ⟨np,pp,fn.ntmps,Jm fn.ntmps (H 0) tc,rs⟩
   | _,_=>none
  | none=>none
 | none=>none
section
variable {P:Program} {M:Fm} {pp:List Nat} {nt:Nat}
theorem yh:∀{qs:List ResultVar}{l:List TRs},n8 P qs=some l→l.length=qs.length∧∀k (h:k < l.length) (h':k < qs.length),DS P l[k] qs[k]:=by
 intro qs
 induction qs with
 | nil=>
  intro l h;simp only[n8,oSJ] at h;subst h;exact⟨rfl,fun k h=>by simp at h⟩
 | cons q qs ih=>
  intro l h
  cases q with
  | tmp t=>
   simp only[n8] at h;obtain⟨l',h1,rfl⟩:=gV h;obtain⟨e,h2⟩:=ih h1;refine⟨by simp[e],fun k hk hk'=>?_⟩
   cases k with
   | zero=>exact rfl
   | succ k=>exact h2 k (by simpa using hk) (by simpa using hk')
  | cell t ty=>
   simp only[n8] at h;split at h
   ·rename_i n l' h1 h2
    injection h with h
    subst h;obtain⟨e,h3⟩:=ih h2;refine⟨by simp[e],fun k hk hk'=>?_⟩
    cases k with
    | zero=>exact⟨ty,rfl,ve h1⟩
    | succ k=>exact h3 k (by simpa using hk) (by simpa using hk')
   ·simp at h
theorem vV{own:Nat→Bool}:∀{xs:List Operand}{i:Nat}{ts:List TypeId}{l:List (Option Nat×Opd)},pY P own i ts xs=some l→l.length=xs.length∧∀j (h:j < l.length) (h':j < xs.length),dJ xs[j]=some l[j].2:=by
 intro xs
 induction xs with
 | nil=>
  intro i ts l h;simp only[pY,oSJ] at h;subst h;exact⟨rfl,fun k h=>by simp at h⟩
 | cons x xs ih=>
  intro i ts l h;simp only[pY] at h;split at h
  ·rename_i y l' h1 h2;obtain⟨e,h3⟩:=ih h2
   obtain⟨n,rfl⟩:∃n,l=(n,y) :: l':=by
    (repeat' split at h)<;>first | (injection h with h;exact⟨_,h.symm⟩) | simp at h
   refine⟨by simp[e],fun j hj hj'=>?_⟩
   cases j with
   | zero=>exact h1
   | succ j=>exact h3 j (by simpa using hj) (by simpa using hj')
  ·simp at h
theorem DL{op:Op}{t:TOp}(h:uH P op=some t):o7 op t:=by
 unfold uH at h;split at h
 ·rename_i f args tys;split at h
  ·obtain⟨l,h1,rfl⟩:=gV h;obtain⟨e,h2⟩:=vV h1;exact⟨rfl,by simpa using e,fun j hj hj'=>by have:=h2 j hj (by simpa using hj');simpa using this⟩
  ·simp at h
 ·rename_i i args tys;obtain⟨l,h1,rfl⟩:=gV h;obtain⟨e,h2⟩:=vV h1;exact⟨rfl,by simpa using e,fun j hj hj'=>by have:=h2 j hj (by simpa using hj');simpa using this⟩
 ·simp at h
theorem FV{mv:Nat}{op:Op}{t:TOp}(h:o7 op t):o7 op (DE mv t):=by
 unfold DE;split
 ·rename_i k f args;split
  ·cases op with
   | call c=>
    obtain⟨callee,as,tys⟩:=c
    cases callee with
    | value fo=>
     obtain⟨h1,h2,h3⟩:=h;exact⟨h1,by simpa using h2,fun j hj hj'=>by simpa using h3 j (by simpa using hj) hj'⟩
    | _=>exact h
   | _=>exact h
  ·exact h
 ·exact h
theorem DH{ops:Array Oper}{mv:Nat}{o:Oper}{t:iB}(hN:M.N=nt) (hpr:∀r,M.pr r≠none→∃i∈pp,r=2*i+2) (h:Ap P pp nt ops mv o=some t):uj P M jL ops o t:=by
 unfold Ap at h;split at h
 case isFalse=>simp at h
 rename_i hd
 have hd':∀d,o.dst=some d→d < M.N∧M.pr (2*d+2)=none:=fun d e=>by
  rw[e] at hd;simp only[MB,Bool.and_eq_true,decide_eq_true_eq,Bool.not_eq_true',List.contains_eq_mem,decide_eq_false_iff_not] at hd;refine⟨by rw[hN];exact hd.1,?_⟩
  cases hp:M.pr (2*d+2) with
  | none=>rfl
  | some x=>
   obtain⟨i,hi,e2⟩:=hpr (2*d+2) (by rw[hp];simp);have e3:d=i:=Nat.eq_of_mul_eq_mul_left (by decide:0 < 2) (Nat.add_right_cancel e2);rw[← e3] at hi;exact absurd hi hd.2
 have hop':(∃mv',fX P mv' o.op=some (pb P mv o.op))∨jL o.op (pb P mv o.op):=by
  unfold pb
  cases h1:fX P mv o.op with
  | some t1=>exact .inl ⟨mv,h1⟩
  | none=>
   cases h2:uH P o.op with
   | some t1=>exact .inr (.inr (FV (DL h2)))
   | none=>exact .inr (.inl rfl)
 split at h
 ·rename_i hg
  injection h with h
  subst h;exact⟨rfl,hd',.inl ⟨hg,rfl⟩,hop'⟩
 ·rename_i j want hg;split at h
  ·rename_i d hj
   injection h with h
   subst h;exact⟨rfl,hd',.inr ⟨j,want,d,hg,rfl,hj⟩,hop'⟩
  ·simp at h
theorem tP{ops:Array Oper}(hN:M.N=nt) (hpr:∀r,M.pr r≠none→∃i∈pp,r=2*i+2):∀{l:List Oper}{mv:List Nat}{ts:List iB},ny P pp nt ops mv l=some ts→ts.length=l.length∧∀i (h:i < l.length) (h':i < ts.length),uj P M jL ops l[i] ts[i]:=by
 intro l
 induction l with
 | nil=>
  intro mv ts h;simp only[ny,oSJ] at h;subst h;exact⟨rfl,fun k h=>by simp at h⟩
 | cons o l ih=>
  intro mv ts h;simp only[ny] at h;split at h
  ·rename_i t l' h1 h2
   injection h with h
   subst h;obtain⟨e,h3⟩:=ih h2;refine⟨by simp[e],fun j hj hj'=>?_⟩
   cases j with
   | zero=>exact DH hN hpr h1
   | succ j=>exact h3 j (by simpa using hj) (by simpa using hj')
  ·simp at h
theorem yg{ops:List Oper}{deps:List (List Nat)}:∀{n:Nat},Ak ops deps n=true→∀i,i < n→∀(h:i < ops.length),(∀e∈ops[i].after.toList,Region.binds .any e=true→e.on < i)∧∀j∈deps.getD i [],∃e∈ops[i].after.toList,Region.binds .any e=true∧(e.on=j∨j∈deps.getD e.on []):=by
 intro n
 induction n with
 | zero=>intro _ i hi;omega
 | succ n ih=>
  intro h i hi hl;simp only[Ak,Bool.and_eq_true] at h;by_cases e:i < n
  ·exact ih h.1 i e hl
  ·obtain rfl:i=n:=by omega
   have h2:=h.2;rw[oGE hl] at h2;simp only[Bool.and_eq_true,List.all_eq_true,List.any_eq_true,Bool.or_eq_true,Bool.not_eq_true',decide_eq_true_eq,beq_iff_eq,List.contains_eq_mem] at h2;refine⟨fun e he hb=>?_,fun j hj=>?_⟩
   ·rcases h2.1 e he with h3 | h3
    ·rw[hb] at h3;simp at h3
    ·exact h3
   ·obtain⟨e,he,h3,h4⟩:=h2.2 j hj;exact⟨e,he,h3,h4⟩
def MQ(P:Program) (ops:Array Oper) (tops:List iB) (draw:Bool) (d:Option (List (List Nat))):Prop:=match d with
 | some deps=>draw=true∧wC ops deps∧P.follows .mixedOrders=true
 | none=>draw=true→∃deps,wC ops deps∧P.follows .mixedOrders=true∧xO deps tops (List.range tops.length)=true
theorem DJ{ops:Array Oper}{tops:List iB}{draw:Bool}{d:Option (List (List Nat))}(h:Aq P ops tops draw=some d):MQ P ops tops draw d:=by
 unfold Aq at h;split at h
 ·rename_i hd;split at h
  case isFalse=>simp at h
  rename_i hc;simp only[Bool.and_eq_true] at hc
  have hD:wC ops (Ci ops.toList []):=by
   refine⟨fun i hi e he hb=>?_,fun i hi j hj=>?_⟩
   ·exact (yg hc.2 i hi (by simpa using hi)).1 e (by simpa using he) hb
   ·obtain⟨e,he,h3⟩:=(yg hc.2 i hi (by simpa using hi)).2 j hj;exact⟨e,by simpa using he,h3⟩
  split at h
  ·rename_i hs
   injection h with h
   subst h;exact fun _=>⟨_,hD,hc.1,hs⟩
  ·injection h with h
   subst h;exact⟨hd,hD,hc.1⟩
 ·rename_i hd
  injection h with h
  subst h;exact fun h'=>absurd h' (by simpa using hd)
theorem AG{isCall:Op→TOp→Prop}{pers:Nat→Prs}{a c:Code}{l:List (Nat×Option Nat)}{t:jU}(h:ix P M isCall t c):ix P M isCall (D3 pers a l t) c:=by
 cases t with
 | skip=>
  unfold D3
  cases sV a with
  | some i=>exact h
  | none=>cases l<;>exact h
 | _=>exact h
theorem Hs(hN:M.N=nt) {l:List (Nat×Option Nat)}{x:jU}{c:Code}(h:ix P M jL x c):ix P M jL (MT nt l x) c:=by
 unfold MT;split
 ·exact h
 ·split
  ·rename_i hl;refine⟨fun y hy=>?_,h⟩;have:=List.all_eq_true.1 hl y hy;rw[hN];simpa using this
  ·exact h
theorem Ei(hN:M.N=nt) {l:List (Nat×Option Nat)}{x:jU}{c:Code}(h:ix P M jL x c):ix P M jL (Jm nt l x) c:=by
 unfold Jm;split
 ·exact h
 ·split
  ·rename_i hl;refine⟨fun y hy=>?_,h⟩;have:=List.all_eq_true.1 hl y hy;rw[hN];simpa using this
  ·exact h
theorem DK{mv:Nat→List Oper→Bool→List Nat}{pers:Nat→Prs}{H:Nat→List (Nat×Option Nat)}(hN:M.N=nt) (hpr:∀r,M.pr r≠none→∃i∈pp,r=2*i+2):∀{c:Code}{i:Nat}{tc:jU},fS P pp nt mv pers H c i=some tc→ix P M jL tc c:=by
 intro c
 induction c with
 | skip=>intro i tc h;simp only[fS,oSJ] at h;subst h;exact rfl
 | exit id=>intro i tc h;simp only[fS,oSJ] at h;subst h;exact rfl
 | ret=>intro i tc h;simp only[fS,oSJ] at h;subst h;exact rfl
 | region id ops draw=>
  intro i tc h;simp only[fS] at h;split at h
  case h_2=>simp at h
  rename_i l h1;split at h
  case h_2=>simp at h
  rename_i d hd
  injection h with h
  subst h;obtain⟨e,h2⟩:=tP hN hpr h1;exact Hs hN ⟨id,ops,draw,rfl,by simpa using e,fun i hi hi'=>by have:=h2 i (by simpa using hi) hi';simpa using this,DJ hd⟩
 | seq a b iha ihb=>
  intro i tc h;simp only[fS] at h;split at h
  ·rename_i x y h1 h2
   injection h with h
   subst h;exact⟨a,b,rfl,iha h1,ihb h2⟩
  ·simp at h
 | cond k a b iha ihb=>
  intro i tc h;simp only[fS] at h;split at h
  ·rename_i k' x y h1 h2 h3
   injection h with h
   subst h;exact⟨k,a,b,rfl,h1,AG (iha h2),AG (ihb h3)⟩
  ·simp at h
 | block id b ih=>
  intro i tc h;simp only[fS] at h;obtain⟨x,h1,rfl⟩:=gV h;exact⟨b,rfl,ih h1⟩
 | loop b ih=>
  intro i tc h;simp only[fS] at h;obtain⟨x,h1,rfl⟩:=gV h;exact Hs hN ⟨b,rfl,Ei hN (ih h1)⟩
 | _=>intro i tc h;simp[fS] at h
theorem sy{α:Type}{a:Array α}{l:List α}(h:a.toList=l):a=l.toArray:=by rw[← h]
theorem Cn{c rest:Code}(h:vZ P c=some rest):Iz P c rest:=by
 unfold vZ at h;split at h
 case h_2=>cases h
 rename_i i0 a0 i1 a1 i2 a2 rest';split at h
 case h_2=>cases h
 rename_i t0 s0 f0 t1 s1 f1 ty ty2 t2 s2 f2 t3 s3 f3 e0 e1 e2;split at h
 case h_2=>cases h
 rename_i e hu
 injection h with h
 subst h;exact⟨i0,i1,i2,_,_,_,_,ty,_,e,by rw[sy e0,sy e1,sy e2],⟨rfl,rfl,rfl⟩,⟨rfl,rfl,rfl⟩,⟨rfl,rfl,rfl⟩,⟨rfl,rfl,rfl⟩,hu⟩
theorem tQ{fn:Func}{c:Code}{tf:TFn}(h:vU P fn c=some tf):Iy P tf c∧tf.nt=fn.ntmps∧tf.np=fn.params.size∧n8 P fn.results.toList=some tf.res:=by
 unfold vU at h;split at h
 case h_2=>cases h
 rename_i id ops hr;split at h
 case h_2=>cases h
 rename_i sz b sz2 bytes mv fl hops;split at h
 case isFalse=>cases h
 rename_i hc;obtain⟨rfl,hchk,hp,hn⟩:=hc;split at h
 case h_2=>cases h
 rename_i hres
 injection h with h
 subst h;refine⟨⟨rfl,rfl,rfl,rfl,hchk,⟨_,_,_,_,_,_,rfl⟩,_,Cn hr,fun M hN hpr=>?_⟩,hn.symm,hp.symm,hres⟩;obtain⟨e,h2⟩:=tP (nt:=8) (pp:=[1000]) hN hpr hops;exact⟨_,_,rfl,⟨id,ops,false,rfl,by simpa using e,fun i hi hi'=>by have:=h2 i (by simpa using hi) hi';simpa using this,fun h=>by cases h⟩,rfl⟩
theorem IH{T:FuncId→Option TFn}(h:∀f tf,T f=some tf→(∃H,s6 P H f=some tf)∧tf.np≤tf.nt∧∀fn,P.funcs[f]?=some fn→(fn.name=="runtime.NumGoroutine")=false):Iw P T:=by
 intro f tf hT;obtain⟨⟨H,h1⟩,h2,h3⟩:=h f tf hT;unfold s6 at h1;split at h1
 case h_2=>simp at h1
 rename_i fn hf;split at h1
 case h_2=>simp at h1
 rename_i c hb;split at h1
 ·rename_i tf' hcl
  injection h1 with h1
  subst h1;obtain⟨g1,g2,g3,g4⟩:=tQ hcl;obtain⟨e,hres⟩:=yh g4;exact⟨fn,c,hf,h3 fn hf,hb,g2.symm,h2,.inr g1,by simpa using e,fun k hk hk'=>by have:=hres k hk (by simpa using hk');simpa using this⟩
 simp only at h1;split at h1
 ·rename_i tc rs hc hr
  injection h1 with h1
  subst h1;obtain⟨e,hres⟩:=yh hr;exact⟨fn,c,hf,h3 fn hf,hb,rfl,h2,.inl fun M hN hpr=>Ei hN (DK hN hpr hc),by simpa using e,fun k hk hk'=>by have:=hres k hk (by simpa using hk');simpa using this⟩
 ·simp at h1
end
theorem E3{E:Env}{T:FuncId→Option TFn}{B F:fq}{n:Nat}{f:FuncId}{tf:TFn}(h:T f=some tf) (vals:List TV) (pts:Pts):E4 E T B F n f vals pts=runT E F n tf vals pts:=by
 unfold E4;rw[h]
def arR(op:BinOp) (k:IntKind) (a b:Int):Int:=
 match op with
 | .add=>k.wrap (a+b)
 | .sub=>k.wrap (a - b)
 | .mul=>k.wrap (a*b)
 | .quo=>k.wrap (a.tdiv b)
 | .rem=>a.tmod b
 | .and=>k.wrap (BitVec.ofInt k.bits a &&& BitVec.ofInt k.bits b).toNat
 | .or=>k.wrap (BitVec.ofInt k.bits a ||| BitVec.ofInt k.bits b).toNat
 | .xor=>k.wrap (BitVec.ofInt k.bits a ^^^ BitVec.ofInt k.bits b).toNat
 | .andNot=>k.wrap (BitVec.ofInt k.bits a &&& ~~~BitVec.ofInt k.bits b).toNat
 | _=>0
def shR(op:BinOp) (k:IntKind) (a:Int) (n:Nat):Int:=
 match op with
 | .shl=>k.wrap (a*2 ^ (min n k.bits))
 | .shr=>a.fdiv (2 ^ (min n k.bits))
 | _=>0
def cmR(op:BinOp) (a b:Int):Bool:=
 match op with
 | .eql=>a==b
 | .neq=>a != b
 | .lss=>decide (a < b)
 | .leq=>decide (a≤b)
 | .gtr=>decide (a > b)
 | .geq=>decide (a≥b)
 | _=>false
def MX{α:Type}(f:α→Bool):List α→Bool
 | []=>true
 | x :: r=>match f x with | true=>MX f r | false=>false
def L6{α:Type}(f:α→Bool):List α→Bool
 | []=>false
 | x :: r=>match f x with | true=>true | false=>L6 f r
def FA(a b:List Loc):Bool:=L6 (fun w=>L6 (fun x=>w.hit x) b) a
def Ij(a b:p8):Bool:=match FA a.2 b.1 with
 | true=>true
 | false=>match FA a.2 b.2 with
  | true=>true
  | false=>match FA b.2 a.1 with
   | true=>true
   | false=>FA b.2 a.2
def yG(d:List Nat) (j:Nat) (F F':p8):Bool:=match d.contains j with
 | true=>true
 | false=>!Ij F F'
def rv(deps:List (List Nat)):List (Nat×p8)→Bool
 | []=>true
 | (j,F) :: r=>match MX (fun y=>yG (deps.getD y.1 []) j F y.2) r with | true=>rv deps r | false=>false
theorem LS{α:Type}(f:α→Bool) (l:List α):MX f l=l.all f:=by
 induction l with
 | nil=>rfl
 | cons x l ih=>simp only[MX,List.all_cons];cases f x<;>simp[ih]
theorem Is{α:Type}(f:α→Bool) (l:List α):L6 f l=l.any f:=by
 induction l with
 | nil=>rfl
 | cons x l ih=>simp only[L6,List.any_cons];cases f x<;>simp[ih]
theorem JB(a b:List Loc):FA a b=CC a b:=by
 have e:(fun w:Loc=>L6 (fun x=>w.hit x) b)=fun w:Loc=>b.any fun x=>w.hit x:=funext fun w=>Is _ _;unfold FA CC;rw[Is,e]
theorem Ii(a b:p8):Ij a b=oa a b:=by
 unfold Ij oa;simp only[JB];cases CC a.2 b.1<;>cases CC a.2 b.2<;>cases CC b.2 a.1<;>simp
theorem Fv(d:List Nat) (j:Nat) (a b:p8):yG d j a b=(!oa a b || d.contains j):=by
 unfold yG;rw[Ii];cases d.contains j<;>simp
theorem CU(deps:List (List Nat)) (fs:List (Nat×p8)):rv deps fs=iz deps fs:=by
 induction fs with
 | nil=>rfl
 | cons x r ih=>
  obtain⟨j,F⟩:=x;have e:(fun y:Nat×p8=>yG (deps.getD y.1 []) j F y.2)=fun y=>!oa F y.2 || (deps.getD y.1 []).contains j:=funext fun y=>Fv _ _ _ _;simp only[rv,iz,LS,ih,e];cases r.all fun y=>!oa F y.2 || (deps.getD y.1 []).contains j<;>simp
theorem IE{x:Int}(h1:-9223372036854775808≤x) (h2:x≤9223372036854775807):IntKind.wrap .i64 x=x:=by
 have e1:(2:Int) ^ IntKind.bits .i64=18446744073709551616:=by rfl
 have e2:(2:Int) ^ (IntKind.bits .i64 - 1)=9223372036854775808:=by rfl
 have e3:IntKind.signed .i64=true:=rfl;unfold IntKind.wrap;simp only[e1,e2,e3,Bool.true_and,decide_eq_true_eq];split<;>omega
theorem yp(x:Int):IntKind.wrap .u16 x=x % 65536:=by
 have e1:(2:Int) ^ IntKind.bits .u16=65536:=by rfl
 have e3:IntKind.signed .u16=false:=rfl;unfold IntKind.wrap;simp only[e1,e3,Bool.false_and,Bool.false_eq_true,if_false]
def DV(x:Int):Prop:=-9223372036854775808≤x∧x≤9223372036854775807
inductive CT where
 | int (k:IntKind)
 | bool
 | str
 | nat
 | row (own:Bool) (t:CT)
 | nilr (own:Bool)
 | pair (a b:CT)
def qa:CT→CT→Bool
 | .int k,.int k'=>decide (k=k')
 | .bool,.bool=>true
 | .str,.str=>true
 | .nat,.nat=>true
 | .row o t,.row o' t'=>(o==o') && qa t t'
 | .nilr o,.nilr o'=>o==o'
 | .pair a b,.pair a' b'=>qa a a' && qa b b'
 | _,_=>false
theorem rN:∀{a b:CT},qa a b=true→a=b:=by
 intro a
 induction a with
 | int k=>intro b h;cases b<;>simp_all [qa]
 | bool=>intro b h;cases b<;>simp_all [qa]
 | str=>intro b h;cases b<;>simp_all [qa]
 | nat=>intro b h;cases b<;>simp_all [qa]
 | row o t ih=>intro b h;cases b<;>simp[qa] at h;rw[h.1,ih h.2]
 | nilr o=>intro b h;cases b<;>simp_all [qa]
 | pair x y ihx ihy=>intro b h;cases b<;>simp[qa] at h;rw[ihx h.1,ihy h.2]
def jN:CT→CT→Bool
 | .int k,.int k'=>decide (k=k')
 | .bool,.bool=>true
 | .str,.str=>true
 | .nat,.nat=>true
 | .row _ t,.row _ t'=>jN t t'
 | .nilr _,.nilr _=>true
 | .pair a b,.pair a' b'=>jN a a' && jN b b'
 | _,_=>false
def FW:CT→CT→Bool
 | .int k,.int k'=>decide (k=k')
 | .bool,.bool=>true
 | .str,.str=>true
 | .nat,.nat=>true
 | .row o t,.row o' t'=>(o==o') && FW t t'
 | .nilr o,.nilr o'=>o==o'
 | .nilr o,.row o' _=>o==o'
 | .pair a b,.pair a' b'=>FW a a' && FW b b'
 | _,_=>false
def jS:CT→Nat
 | .pair a b=>jS a+jS b
 | .nat=>0
 | _=>1
def qo:CT→CT
 | .row true t=>.row false (qo t)
 | .nilr _=>.nilr false
 | .pair a b=>.pair (qo a) (qo b)
 | t=>t
def shT:CT→Nat→List Nat→Option CT
 | .pair a b,o,os=>if o < jS a then (shT a o os).map (.pair · b) else (shT b (o - jS a) os).map (.pair a ·)
 | t,0,[]=>some (qo t)
 | .row true t,0,o :: os=>(shT t o os).map (.row true)
 | t,_,_=>some t
abbrev den:CT→Type
 | .int _=>Int
 | .bool=>Bool
 | .str=>ByteArray
 | .nat=>Nat
 | .row _ t=>List (den t)
 | .nilr _=>Unit
 | .pair a b=>den a×den b
theorem gg:∀{a b:CT},jN a b=true→den a=den b:=by
 intro a
 induction a with
 | int k=>intro b h;cases b<;>simp[jN] at h;rfl
 | bool=>intro b h;cases b<;>simp[jN] at h;rfl
 | str=>intro b h;cases b<;>simp[jN] at h;rfl
 | nat=>intro b h;cases b<;>simp[jN] at h;rfl
 | row o t ih=>intro b h;cases b<;>simp[jN] at h;simp only[den];rw[ih h]
 | nilr o=>intro b h;cases b<;>simp[jN] at h;rfl
 | pair x y ihx ihy=>intro b h;cases b<;>simp[jN] at h;simp only[den];rw[ihx h.1,ihy h.2]
def L5:(t:CT)→den t
 | .int _=>(0:Int)
 | .bool=>false
 | .str=>ByteArray.empty
 | .nat=>(0:Nat)
 | .row _ _=>[]
 | .nilr _=>()
 | .pair a b=>(L5 a,L5 b)
def Kt:(a b:CT)→den a→den b
 | .row _ t,.row _ t',xs=>List.map (Kt t t') xs
 | .pair a b,.pair a' b',x=>(Kt a a' x.1,Kt b b' x.2)
 | .int _,.int _,x=>x
 | .bool,.bool,x=>x
 | .str,.str,x=>x
 | .nat,.nat,x=>x
 | _,b,_=>L5 b
def enc:(t:CT)→den t→List TV
 | .int k,x=>[.v (.int k x)]
 | .bool,x=>[.v (.bool x)]
 | .str,x=>[.v (.string x)]
 | .nat,_=>[]
 | .row true t,xs=>[.ow (List.map (enc t) xs)]
 | .row false t,xs=>[.sl (List.map (enc t) xs)]
 | .nilr true,_=>[.ow []]
 | .nilr false,_=>[.sl []]
 | .pair a b,x=>enc a x.1++enc b x.2
def HL(D:CT→Type):List CT→Type
 | []=>Unit
 | t :: ts=>D t×HL D ts
def yH:List (List CT)→Nat→List CT
 | [],_=>[]
 | l :: _,0=>l
 | _ :: r,i+1=>yH r i
def yo:List (List CT)→Type
 | []=>Empty
 | [l]=>HL den l
 | l :: m :: r=>HL den l⊕yo (m :: r)
def sU:(ls:List (List CT))→(i:Nat)→HL den (yH ls i)→Option (yo ls)
 | [],_,_=>none
 | [_],0,h=>some h
 | [_],_+1,_=>none
 | _ :: _ :: _,0,h=>some (.inl h)
 | _ :: m :: r,i+1,h=>(sU (m :: r) i h).map .inr
def MA{α:Type}:(ls:List (List CT))→((i:Nat)→HL den (yH ls i)→α)→yo ls→α
 | [],_,o=>Empty.elim o
 | [_],f,o=>f 0 o
 | _ :: m :: r,f,o=>match o with
  | .inl h=>f 0 h
  | .inr o'=>MA (m :: r) (fun i h=>f (i+1) h) o'
def k9{α:Type}(ls:List (List CT)) (o:yo ls) (f:(i:Nat)→HL den (yH ls i)→α):α:=MA ls f o
structure Alg (D:CT→Type) (M:Type→Type) where
 lit:(k:IntKind)→Int→D (.int k)
 litB:Bool→D .bool
 litS:ByteArray→D .str
 litN:Nat→D .nat
 nilv:(o:Bool)→D (.nilr o)
 nil:(o:Bool)→(t:CT)→D (.row o t)
 recast:(t t':CT)→jN t t'=true→D t→D t'
 coe:(t t':CT)→D t→D t'
 mkp:(a b:CT)→D a→D b→D (.pair a b)
 fst:(a b:CT)→D (.pair a b)→D a
 snd:(a b:CT)→D (.pair a b)→D b
 ar:BinOp→(k:IntKind)→D (.int k)→D (.int k)→D (.int k)
 cm:BinOp→(k:IntKind)→D (.int k)→D (.int k)→D .bool
 sh:BinOp→(k:IntKind)→D (.int k)→D .nat→D (.int k)
 neg:(k:IntKind)→D (.int k)→D (.int k)
 not:D .bool→D .bool
 cv:(k k':IntKind)→D (.int k)→D (.int k')
 mm:Bool→(k:IntKind)→D (.int k)→D (.int k)→D (.int k)
 eqB:D .bool→D .bool→D .bool
 eqS:D .str→D .str→D .bool
 eqT:D .str→D .str→D .bool
 andB:D .bool→D .bool→D .bool
 ite:(t:CT)→D .bool→D t→D t→D t
 natI:D .nat→D (.int .i64)
 addN:D .nat→D .nat→D .nat
 subN:D .nat→D .nat→D .nat
 minN:D .nat→D .nat→D .nat
 len:(o:Bool)→(t:CT)→D (.row o t)→D .nat
 slOk:D .nat→D .nat→D .nat→D .bool
 ltN:D .nat→D .nat→D .bool
 eqN:D .nat→D .nat→D .bool
 win:(o:Bool)→(t:CT)→D (.row o t)→D .nat→D .nat→D (.row o t)
 appOk:Nat→D .nat→D .nat→D .bool
 cat:(t:CT)→(o:Bool)→D (.row true t)→D (.row o t)→D (.row true t)
 rowl:(o:Bool)→(t:CT)→List (D t)→D (.row o t)
 mkOk:D .nat→D .nat→Nat→D .bool
 rep:(t:CT)→D .nat→D t→D (.row true t)
 upd:(t:CT)→D (.row true t)→D .nat→(D t→D t)→D (.row true t)
 splice:(t:CT)→(o:Bool)→D (.row true t)→D .nat→D .nat→D (.row o t)→D (.row true t)
 strLen:D .str→D (.int .i64)
 strB:D .str→D (.row false (.int .u8))
 strOk:D .str→D .bool
 fail:{X:Type}→M X
 br:{X:Type}→D .bool→M X→M X→M X
 nat:{X:Type}→(k:IntKind)→D (.int k)→(D .nat→M X)→M X
 get:{X:Type}→(o:Bool)→(t:CT)→D (.row o t)→D .nat→(D t→M X)→M X
 strAt:{X:Type}→D .str→D .nat→(D (.int .u8)→M X)→M X
 bstr:{X:Type}→D (.row false (.int .u8))→(D .str→M X)→M X
 lt:{X:Type}→(t:CT)→D t→(D t→M X)→M X
 call:{X:Type}→Nat→(ins:List CT)→(outs:List (List CT))→(HL den ins→Option (yo outs))→HL D ins→((i:Nat)→HL D (yH outs i)→M X)→M X
 loop:{X:Type}→Nat→(s:List CT)→(outs:List (List CT))→HL D s→(HL D s→M (HL den s⊕yo outs))→((i:Nat)→HL D (yH outs i)→M X)→M X
 join:{X:Type}→(outs:List (List CT))→M (yo outs)→((i:Nat)→HL D (yH outs i)→M X)→M X
 next:(s:List CT)→(outs:List (List CT))→HL D s→M (HL den s⊕yo outs)
 exitL:(s:List CT)→(outs:List (List CT))→(i:Nat)→HL D (yH outs i)→M (HL den s⊕yo outs)
 out:(outs:List (List CT))→(i:Nat)→HL D (yH outs i)→M (yo outs)
def dT:Int→Option Nat
 | .ofNat n=>some n
 | .negSucc _=>none
def dF{α:Type}(xs:List α) (i:Nat):Option α:=xs[i]?
def Nv(a b:Bool):Bool:=a==b
def Nu(a b:ByteArray):Bool:=a==b
def M9(a b:ByteArray):Bool:=a.toList==b.toList
def dI(n:Nat):Int:=(n:Int)
def Nr(k:IntKind) (a:Int):Int:=k.wrap (0 - a)
def mmR(mx:Bool) (a b:Int):Int:=if mx then (if a < b then b else a) else (if b < a then b else a)
def na{α:Type}(xs:List α) (l n:Nat):List α:=(xs.drop l).take n
def ji(l h n:Nat):Bool:=l≤h && decide (h≤n)
def dU(bytes n m:Nat):Bool:=decide (n+m≤1099511627776) && decide ((n+m)*bytes≤140737488355328)
def qO(n m sz:Nat):Bool:=decide (n=m) && decide (n*sz≤16777216)
def nR{α:Type}(xs:List α) (lo m:Nat) (ys:List α):List α:=xs.take lo++ys.take m++xs.drop (lo+m)
def KL(s:ByteArray):List Int:=s.data.toList.map fun b=>(b.toNat:Int)
def xM(s:ByteArray) (k:Nat):Option Int:=(s[k]?).map fun b=>(b.toNat:Int)
def In(l:List Int):ByteArray:=l.foldl (fun r n=>r.push (UInt8.ofNat n.toNat)) ByteArray.empty
def dO{S T:Type}(f:S→Option (S⊕T)):Nat→S→Option T
 | 0,_=>none
 | n+1,s=>(f s).bind fun x=>match x with | .inl s'=>dO f n s' | .inr t=>some t
def NN:Nat:=8589934592
def dE:Alg den Option where
 lit _ n:=n
 litB b:=b
 litS s:=s
 litN n:=n
 nilv _:=()
 nil _ _:=[]
 recast _ _ h x:=cast (gg h) x
 coe t t' x:=Kt t t' x
 mkp _ _ x y:=(x,y)
 fst _ _ x:=x.1
 snd _ _ x:=x.2
 ar op k a b:=arR op k a b
 cm op _ a b:=cmR op a b
 sh op k a n:=shR op k a n
 neg k a:=Nr k a
 not b:=!b
 cv _ k' n:=k'.wrap n
 mm mx _ a b:=mmR mx a b
 eqB a b:=Nv a b
 eqS a b:=Nu a b
 eqT a b:=M9 a b
 andB a b:=a && b
 ite _ c a b:=bif c then a else b
 natI n:=dI n
 addN a b:=Nat.add a b
 subN a b:=Nat.sub a b
 minN a b:=Nat.min a b
 len _ _ xs:=List.length xs
 slOk l h n:=ji l h n
 ltN a b:=Nat.blt a b
 eqN a b:=Nat.beq a b
 win _ _ xs l n:=na xs l n
 appOk b n m:=dU b n m
 cat _ _ xs ys:=List.append xs ys
 rowl _ _ l:=l
 mkOk n m sz:=qO n m sz
 rep _ n x:=List.replicate n x
 upd _ xs i f:=List.modify xs i f
 splice _ _ xs lo m ys:=nR xs lo m ys
 strLen s:=(ByteArray.size s:Int)
 strB s:=KL s
 strOk s:=decide (ByteArray.size s < 4294967296)
 fail:=none
 br c a b:=bif c then a else b
 nat _ n k:=(dT n).bind k
 get _ _ xs i k:=(dF xs i).bind k
 strAt s i k:=(xM s i).bind k
 bstr l k:=k (In l)
 lt _ x k:=k x
 call _ _ outs g h k:=(g h).bind fun o=>k9 outs o k
 loop _ _ outs h body k:=(dO body NN h).bind fun o=>k9 outs o k
 join outs m k:=m.bind fun o=>k9 outs o k
 next _ _ h:=some (.inl h)
 exitL _ outs i h:=(sU outs i h).map .inr
 out outs i h:=sU outs i h
structure XP (D:CT→Type) where
 root:Nat
 off:Nat
 hops:List (D .nat×Nat×Nat)
inductive XV (D:CT→Type) where
 | d (t:CT) (x:D t)
 | k (x:Value)
 | dead
 | ptr (p:XP D) (vs:List Nat)
 | ip (cs:List (XV D))
 | pk (p:XP D) (vs:List Nat)
 | pw (p:XP D) (vs:List Nat) (sz:Nat) (lo n:D .nat)
 | agg (l:List (XV D))
 | tup (l:List (XV D))
 | fn (f:FuncId) (cap:List (XV D))
 | gap (t:CT) (x:D (.row true t)) (i:D .nat) (o:Nat)
structure XS (D:CT→Type) where
 tm:List (Nat×XV D)
 ce:List (Nat×List (XV D))
 vr:List (Key×Nat)
 lg:p8
abbrev Sh:=XV fun _=>Unit
abbrev Shs:=XS fun _=>Unit
abbrev shU(t:CT):Sh:=.d t ()
structure XO where
 cells:List Sh
 sh:List RSh
 pts:List (Nat×List Sh)
def Df:List (Unit×Nat×Nat)→List CT→List CT
 | [],r=>r
 | _ :: hs,r=>.nat :: Df hs r
mutual
def lv:Sh→List CT→List CT
 | .d t _,r=>t :: r
 | .ip l,r=>lvL l r
 | .agg l,r=>lvL l r
 | .tup l,r=>lvL l r
 | .fn _ l,r=>lvL l r
 | .k _,r=>r
 | .dead,r=>r
 | .ptr p _,r=>Df p.hops r
 | .pk p _,r=>Df p.hops r
 | .pw _ _ _ _ _,r=>r
 | .gap t _ _ _,r=>.row true t :: .nat :: r
def lvL:List Sh→List CT→List CT
 | [],r=>r
 | x :: xs,r=>lv x (lvL xs r)
end
def lvP:List (Nat×List Sh)→List CT→List CT
 | [],r=>r
 | x :: xs,r=>lvL x.2 (lvP xs r)
def lvT:List (Nat×Sh)→List CT→List CT
 | [],r=>r
 | x :: xs,r=>lv x.2 (lvT xs r)
def lvS(s:Shs):List CT:=lvT s.tm (lvP s.ce [])
def lvO(o:XO):List CT:=lvL o.cells (lvP o.pts [])
structure Ctr where
 f:FuncId
 id:Nat
 ins:List Sh
 pts:List (Nat×List Sh)
 outs:List XO
 g:HL den (lvL ins (lvP pts []))→Option (yo (outs.map lvO))
structure Cz where
 i:Nat
 nm:Nat
 s:Shs
 outs:List (jT×Shs)
section
variable {D:CT→Type}
def XP.bare(p:XP D):Bool:=match p.hops with | []=>true | _ :: _=>false
def Nm(p:XP fun _=>Unit):XP D:=⟨p.root,p.off,[]⟩
def vM:(hs:List (Unit×Nat×Nat))→(r:List CT)→HL D (Df hs r)→List (D .nat×Nat×Nat)×HL D r
 | [],_,h=>([],h)
 | (_,sz,o) :: hs,r,h=>((h.1,sz,o) :: (vM hs r h.2).1,(vM hs r h.2).2)
def DG:(hs:List (Unit×Nat×Nat))→List (D .nat×Nat×Nat)→(r:List CT)→HL D r→Option (HL D (Df hs r))
 | [],[],_,h=>some h
 | (_,sz,o) :: hs,(i,sz',o') :: hs',r,h=>if sz=sz'∧o=o' then (DG hs hs' r h).map fun h1=>(i,h1) else none
 | _,_,_,_=>none
mutual
def fill:(s:Sh)→(r:List CT)→HL D (lv s r)→XV D×HL D r
 | .d t _,_,h=>(.d t h.1,h.2)
 | .ip l,r,h=>(.ip (iH l r h).1,(iH l r h).2)
 | .agg l,r,h=>(.agg (iH l r h).1,(iH l r h).2)
 | .tup l,r,h=>(.tup (iH l r h).1,(iH l r h).2)
 | .fn f l,r,h=>(.fn f (iH l r h).1,(iH l r h).2)
 | .k x,_,h=>(.k x,h)
 | .dead,_,h=>(.dead,h)
 | .ptr p vs,r,h=>(.ptr ⟨p.root,p.off,(vM p.hops r h).1⟩ vs,(vM p.hops r h).2)
 | .pk p vs,r,h=>(.pk ⟨p.root,p.off,(vM p.hops r h).1⟩ vs,(vM p.hops r h).2)
 | .pw _ _ _ _ _,_,h=>(.dead,h)
 | .gap t _ _ o,_,h=>(.gap t h.1 h.2.1 o,h.2.2)
def iH:(s:List Sh)→(r:List CT)→HL D (lvL s r)→List (XV D)×HL D r
 | [],_,h=>([],h)
 | x :: xs,r,h=>((fill x (lvL xs r) h).1 :: (iH xs r (fill x (lvL xs r) h).2).1,(iH xs r (fill x (lvL xs r) h).2).2)
end
def rL:(s:List (Nat×List Sh))→(r:List CT)→HL D (lvP s r)→List (Nat×List (XV D))×HL D r
 | [],_,h=>([],h)
 | x :: xs,r,h=>((x.1,(iH x.2 (lvP xs r) h).1) :: (rL xs r (iH x.2 (lvP xs r) h).2).1,(rL xs r (iH x.2 (lvP xs r) h).2).2)
def Ag:(s:List (Nat×Sh))→(r:List CT)→HL D (lvT s r)→List (Nat×XV D)×HL D r
 | [],_,h=>([],h)
 | x :: xs,r,h=>((x.1,(fill x.2 (lvT xs r) h).1) :: (Ag xs r (fill x.2 (lvT xs r) h).2).1,(Ag xs r (fill x.2 (lvT xs r) h).2).2)
def DA(s:Shs) (h:HL D (lvS s)):XS D:=⟨(Ag s.tm _ h).1,(rL s.ce [] (Ag s.tm _ h).2).1,s.vr,([],[])⟩
def lJ:(outs:List XO)→(i:Nat)→HL D (yH (outs.map lvO) i)→Option (List (XV D)×List RSh×List (Nat×List (XV D)))
 | [],_,_=>none
 | o :: _,0,h=>some ((iH o.cells _ h).1,o.sh,(rL o.pts [] (iH o.cells _ h).2).1)
 | _ :: r,i+1,h=>lJ r i h
def tO:(outs:List (jT×Shs))→(i:Nat)→HL D (yH (outs.map fun x=>lvS x.2) i)→Option (jT×XS D)
 | [],_,_=>none
 | o :: _,0,h=>some (o.1,DA o.2 h)
 | _ :: r,i+1,h=>tO r i h
end
section
variable {D:CT→Type} {M:Type→Type} (A:Alg D M)
def Ia:Value→Value→Bool
 | .pointer none,.pointer none=>true
 | .nilFunc,.nilFunc=>true
 | .nilIface,.nilIface=>true
 | _,_=>false
def asT(t u:CT) (x:D t):Option (D u):=
 if h:qa t u=true then some (rN h ▸ x) else if FW t u then some (A.coe t u x) else none
def Km(p:XP fun _=>Unit) (q:XP D):Bool:=p.root==q.root && p.off==q.off && p.bare && q.bare
mutual
def conv:(s:Sh)→XV D→(r:List CT)→HL D r→Option (HL D (lv s r))
 | .d u _,.d t x,_,h=>(asT A t u x).map fun y=>(y,h)
 | .ip l,.ip l',r,h=>uu l l' r h
 | .agg l,.agg l',r,h=>uu l l' r h
 | .tup l,.tup l',r,h=>uu l l' r h
 | .fn f l,.fn f' l',r,h=>if f=f' then uu l l' r h else none
 | .k x,.k y,_,h=>if Ia x y then some h else none
 | .dead,.dead,_,h=>some h
 | .ptr p vs,.ptr q ws,r,h=>if p.root==q.root && p.off==q.off && vs==ws then DG p.hops q.hops r h else none
 | .pk p vs,.pk q ws,r,h=>if p.root==q.root && p.off==q.off && vs==ws then DG p.hops q.hops r h else none
 | .gap t _ _ o,.gap t' x i o',_,h=>if o=o' then (asT A (.row true t') (.row true t) x).map fun y=>(y,i,h) else none
 | _,_,_,_=>none
def uu:(s:List Sh)→List (XV D)→(r:List CT)→HL D r→Option (HL D (lvL s r))
 | [],[],_,h=>some h
 | s :: ss,x :: xs,r,h=>(uu ss xs r h).bind fun h1=>conv s x (lvL ss r) h1
 | _,_,_,_=>none
end
end
abbrev XM(D:CT→Type) (M:Type→Type) (X α:Type):=XS D→(α→XS D→M X)→M X
def Jt{α:Type}:List α→Nat→Option α
 | [],_=>none
 | x :: _,0=>some x
 | _ :: r,i+1=>Jt r i
namespace X
section
variable {D:CT→Type} {M:Type→Type} {X:Type} (A:Alg D M) {α β:Type}
def ret(a:α):XM D M X α:=fun σ k=>k a σ
def bind(m:XM D M X α) (f:α→XM D M X β):XM D M X β:=fun σ k=>m σ fun a σ'=>f a σ' k
def fail:XM D M X α:=fun _ _=>A.fail
def brM(c:D .bool) (m:XM D M X α):XM D M X α:=fun σ k=>A.br c (m σ k) A.fail
def forkM(c:D .bool) (m m':XM D M X α):XM D M X α:=fun σ k=>A.br c (m σ k) (m' σ k)
def caseM(k:D .nat):Nat→(Nat→XM D M X α)→Nat→XM D M X α
 | 0,_,_=>fail A
 | n+1,f,i=>forkM A (A.eqN k (A.litN i)) (f i) (caseM k n f (i+1))
def optM(o:Option α):XM D M X α:=fun σ k=>match o with | some a=>k a σ | none=>A.fail
def tOf(σ:XS D) (i:Nat):XV D:=(ef σ.tm i).getD .dead
def cOf(σ:XS D) (r o:Nat):XV D:=match ef σ.ce r with | some l=>l.getD o .dead | none=>.dead
def lgR(x:Loc) (σ:XS D):XS D:=⟨σ.tm,σ.ce,σ.vr,(x :: σ.lg.1,σ.lg.2)⟩
def letL:List (XV D)→(List (XV D)→M X)→M X
 | [],k=>k []
 | .d t x :: r,k=>A.lt t x fun y=>letL r fun r'=>k (.d t y :: r')
 | t :: r,k=>letL r fun r'=>k (t :: r')
def letX(t:XV D) (k:XV D→M X):M X:=
 match t with
 | .d t x=>A.lt t x fun y=>k (.d t y)
 | .agg l=>letL A l fun l'=>k (.agg l')
 | t=>k t
def rdT(i:Nat):XM D M X (XV D):=fun σ k=>k (tOf σ i) (lgR (.t i) σ)
def rdC(r o:Nat):XM D M X (XV D):=fun σ k=>k (cOf σ r o) (lgR (.c r o) σ)
def rdK(r o:Nat):XM D M X (XV D):=fun σ k=>k (cOf σ r o) (lgR (.h r o) σ)
def rdV(q:Key):XM D M X Nat:=fun σ k=>k (qI σ.vr q) (lgR (.v q) σ)
def wrT(i:Nat) (t:XV D):XM D M X Unit:=fun σ k=>letX A t fun t'=>k () ⟨fI σ.tm i t',σ.ce,σ.vr,(σ.lg.1,.t i :: σ.lg.2)⟩
def wrC(r o:Nat) (t:XV D):XM D M X Unit:=fun σ k=>match ef σ.ce r with
 | some l=>if o < l.length then letX A t fun t'=>k () ⟨σ.tm,fI σ.ce r (l.set o t'),σ.vr,(.n r :: .h r o :: σ.lg.1,.c r o :: .h r o :: σ.lg.2)⟩ else A.fail
 | none=>A.fail
def wrI(r o:Nat) (t:XV D):XM D M X Unit:=fun σ k=>match ef σ.ce r with
 | some l=>if o < l.length then letX A t fun t'=>k () ⟨σ.tm,fI σ.ce r (l.set o t'),σ.vr,(.n r :: .h r o :: σ.lg.1,.c r o :: σ.lg.2)⟩ else A.fail
 | none=>A.fail
def new(r:Nat) (l:List (XV D)):XM D M X Unit:=fun σ k=>letL A l fun l'=>k () ⟨σ.tm,fI σ.ce r l',oE σ.vr (r,0,0),(.v (r,0,0) :: σ.lg.1,.n r :: .v (r,0,0) :: σ.lg.2)⟩
def bump(q:Key):XM D M X Unit:=fun σ k=>k () ⟨σ.tm,σ.ce,oE σ.vr q,(.v q :: σ.lg.1,.v q :: σ.lg.2)⟩
def cellX:Value→XV D
 | .slice none 0 0=>.d (.nilr true) (A.nilv true)
 | .int k n=>.d (.int k) (A.lit k n)
 | .bool b=>.d .bool (A.litB b)
 | .string s=>.d .str (A.litS s)
 | x=>if gU x then .k x else .dead
def constX:Value→XV D
 | .agg cs=>.agg (cs.toList.map (cellX A))
 | x=>cellX A x
def opd:Opd→XM D M X (XV D)
 | .t i=>rdT i
 | .c x=>ret (constX A x)
 | .f f=>ret (.fn f [])
def rdVs:List Key→XM D M X (List Nat)
 | []=>ret []
 | q :: qs=>bind (rdV q) fun n=>bind (rdVs qs) fun l=>ret (n :: l)
def chk(p:XP D) (n:Nat) (vs:List Nat):XM D M X Unit:=bind (rdVs (o4 p.root p.off n)) fun l=>if l=vs then ret () else fail A
def addP(p:XP D) (n:Nat):XP D:=
 match p.hops.reverse with
 | []=>⟨p.root,p.off+n,[]⟩
 | (i,sz,o) :: r=>⟨p.root,p.off,((i,sz,o+n) :: r).reverse⟩
def atP(p:XP D) (i:D .nat) (sz:Nat):XP D:=⟨p.root,p.off,p.hops++[(i,sz,0)]⟩
def fitsP(p:XP D) (n:Nat):Bool:=
 match p.hops.reverse with
 | []=>true
 | (_,sz,o) :: _=>decide (o+n < sz)
def splitX:(t:CT)→D t→List (XV D)
 | .pair a b,x=>splitX a (A.fst a b x)++splitX b (A.snd a b x)
 | .nat,_=>[]
 | .int k,x=>[.d (.int k) x]
 | .bool,x=>[.d .bool x]
 | .str,x=>[.d .str x]
 | .row o t,x=>[.d (.row o t) x]
 | .nilr o,x=>[.d (.nilr o) x]
def getX:XV D→List (D .nat×Nat×Nat)→(XV D→M X)→M X
 | t,[],k=>k t
 | .d (.row true t) xs,(i,sz,o) :: hs,k=>if jS t=sz then A.get true t xs i fun e=>match Jt (splitX A t e) o with | some v=>getX v hs k | none=>A.fail else A.fail
 | _,_ :: _,_=>A.fail
def elemX:XV D→List (D .nat×Nat×Nat)→((t:CT)→D t→M X)→M X
 | .d (.row true t) xs,[(i,sz,_)],k=>if jS t=sz then A.get true t xs i (k t) else A.fail
 | .d (.row true t) xs,(i,sz,o) :: h :: hs,k=>if jS t=sz then A.get true t xs i fun e=>match Jt (splitX A t e) o with | some v=>elemX v (h :: hs) k | none=>A.fail else A.fail
 | _,_,_=>A.fail
def getM(tv:XV D) (hs:List (D .nat×Nat×Nat)) (g:XV D→XM D M X α):XM D M X α:=fun σ k=>getX A tv hs fun v=>g v σ k
def elemM(tv:XV D) (hs:List (D .nat×Nat×Nat)) (g:(t:CT)→D t→XM D M X α):XM D M X α:=fun σ k=>elemX A tv hs fun t e=>g t e σ k
def atM(o:Bool) (t:CT) (xs:D (.row o t)) (i:D .nat) (g:D t→XM D M X α):XM D M X α:=fun σ k=>A.get o t xs i fun e=>g e σ k
def natM(kd:IntKind) (n:D (.int kd)) (g:D .nat→XM D M X α):XM D M X α:=fun σ k=>A.nat kd n fun m=>g m σ k
def Me(s:D .str) (i:D .nat) (g:D (.int .u8)→XM D M X α):XM D M X α:=fun σ k=>A.strAt s i fun b=>g b σ k
def Nc(c:D (.row false (.int .u8))) (g:D .str→XM D M X α):XM D M X α:=fun σ k=>A.bstr c fun s=>g s σ k
def lastO:List (D .nat×Nat×Nat)→Nat
 | []=>0
 | [(_,_,o)]=>o
 | _ :: h :: hs=>lastO (h :: hs)
def setD:(t:CT)→Nat→((u:CT)→Option (D u→D u))→Option (D t→D t)
 | .pair a b,o,g=>if o < jS a then (setD a o g).map fun h e=>A.mkp a b (h (A.fst a b e)) (A.snd a b e) else (setD b (o - jS a) g).map fun h e=>A.mkp a b (A.fst a b e) (h (A.snd a b e))
 | .nat,_,_=>none
 | .int k,0,g=>g (.int k)
 | .bool,0,g=>g .bool
 | .str,0,g=>g .str
 | .row o t,0,g=>g (.row o t)
 | .nilr o,0,g=>g (.nilr o)
 | _,_+1,_=>none
def asF(v:XV D) (u:CT):Option (D u→D u):=
 match v with
 | .d t x=>(asT A t u x).map fun y _=>y
 | _=>none
def setDs(t:CT):Nat→List (XV D)→Option (D t→D t)
 | _,[]=>none
 | o,[v]=>setD A t o (asF A v)
 | o,v :: w :: vs=>match setD A t o (asF A v),setDs t (o+1) (w :: vs) with | some f,some g=>some fun e=>g (f e) | _,_=>none
def setH:List (D .nat×Nat×Nat)→XV D→(u:CT)→Option (D u→D u)
 | [],v,u=>asF A v u
 | (i,sz,o) :: hs,v,.row true t=>if jS t=sz then (setD A t o (setH hs v)).map fun f xs=>A.upd t xs i f else none
 | _ :: _,_,_=>none
def setX:XV D→List (D .nat×Nat×Nat)→XV D→Option (XV D)
 | _,[],v=>some v
 | .d u x,h :: hs,v=>(setH A (h :: hs) v u).map fun f=>.d u (f x)
 | _,_ :: _,_=>none
def setHs:List (D .nat×Nat×Nat)→List (XV D)→(u:CT)→Option (D u→D u)
 | [(i,sz,o)],vs,.row true t=>if jS t=sz then (setDs A t o vs).map fun f xs=>A.upd t xs i f else none
 | (i,sz,o) :: h :: hs,vs,.row true t=>if jS t=sz then (setD A t o (setHs (h :: hs) vs)).map fun f xs=>A.upd t xs i f else none
 | _,_,_=>none
def setXs:XV D→List (D .nat×Nat×Nat)→List (XV D)→Option (XV D)
 | .d u x,hs,vs=>(setHs A hs vs u).map fun f=>.d u (f x)
 | _,_,_=>none
def immX:XV D→Option (XV D)
 | .d (.int k) x=>some (.d (.int k) x)
 | .d .bool x=>some (.d .bool x)
 | .d .str x=>some (.d .str x)
 | .d (.row false t) x=>some (.d (.row false t) x)
 | .d (.nilr _) _=>some (.d (.nilr false) (A.nilv false))
 | .d (.row true t) x=>if h:jN (.row true t) (.row false (qo t))=true then some (.d (.row false (qo t)) (A.recast _ _ h x)) else none
 | .k x=>some (.k x)
 | _=>none
def immXL:List (XV D)→Option (List (XV D))
 | []=>some []
 | x :: r=>match immX A x,immXL r with | some y,some l=>some (y :: l) | _,_=>none
def shareX:XV D→List Nat→Option (XV D)
 | .d t x,os=>match shT t 0 os with | some t'=>if h:jN t t'=true then some (.d t' (A.recast t t' h x)) else none | none=>none
 | _,_=>none
def getPl(p:XP D):XM D M X (XV D):=bind (rdC p.root p.off) fun tv=>getM A tv p.hops ret
def hdPl(p:XP D):XM D M X (XV D):=match p.hops with
 | []=>rdK p.root p.off
 | _ :: _=>getPl A p
def hopOs(hs:List (D .nat×Nat×Nat)):List Nat:=hs.map fun h=>h.2.2
def M7:CT→Bool
 | .int _=>false
 | .bool=>false
 | .str=>false
 | _=>true
def oneT:CT→Bool
 | .nat=>false
 | .pair _ _=>false
 | _=>true
def isOwT:CT→Bool
 | .row o _=>o
 | .nilr o=>o
 | _=>false
def isOwX:XV D→Bool
 | .d t _=>isOwT t
 | .gap _ _ _ _=>true
 | _=>false
def isHdrX:XV D→Bool
 | .d t _=>M7 t
 | .k _=>false
 | _=>true
def winX(lo n:D .nat):XV D→Option (XV D)
 | .d (.row true t) xs=>match immX A (.d (.row true t) xs) with | some (.d (.row false t') ys)=>some (.d (.row false t') (A.win false t' ys lo n)) | _=>none
 | .d (.nilr true) _=>some (.d (.nilr false) (A.nilv false))
 | _=>none
def gapX:XV D→List (D .nat×Nat×Nat)→Option (XV D)
 | .d (.row true t) xs,[(i,_,o)]=>some (.gap t xs i o)
 | _,_=>none
def take1(mv:Bool):XV D→XM D M X (XV D)
 | .d (.row true _) _=>fail A
 | .d .nat _=>fail A
 | .d (.pair _ _) _=>fail A
 | .d (.nilr o) x=>if mv then ret (.d (.nilr o) x) else ret (.d (.nilr false) (A.nilv false))
 | .d t x=>ret (.d t x)
 | .k x=>ret (.k x)
 | .pk p vs=>bind (chk A p (p.hops.length+1) vs) fun _=>bind (rdC p.root p.off) fun tv=>getM A tv p.hops fun v=>
  if isOwX v then
   if mv then (if XP.bare p then (bind (wrC A p.root p.off .dead) fun _=>bind (bump (p.root,p.off,p.hops.length+1)) fun _=>ret v) else bind (optM A (gapX tv p.hops)) fun tv'=>bind (wrI A p.root p.off tv') fun _=>bind (bump (p.root,p.off,p.hops.length+1)) fun _=>ret v)
   else bind (optM A (shareX A tv (hopOs p.hops))) fun tv'=>bind (optM A (immX A v)) fun v'=>bind (if XP.bare p then wrC A p.root p.off tv' else wrI A p.root p.off tv') fun _=>bind (bump (p.root,p.off,p.hops.length+1)) fun _=>ret v'
  else fail A
 | .pw p vs _ lo n=>bind (chk A p (p.hops.length+1) vs) fun _=>bind (rdC p.root p.off) fun tv=>getM A tv p.hops fun v=>
  bind (optM A (shareX A tv (hopOs p.hops))) fun tv'=>bind (optM A (winX A lo n v)) fun v'=>bind (wrC A p.root p.off tv') fun _=>bind (bump (p.root,p.off,p.hops.length+1)) fun _=>ret v'
 | _=>fail A
def takeL(mv:Bool):List (XV D)→XM D M X (List (XV D))
 | []=>ret []
 | t :: r=>bind (take1 A mv t) fun t'=>bind (takeL mv r) fun r'=>ret (t' :: r')
def cellsX:XV D→List (XV D)
 | .agg l=>l
 | t=>[t]
def takeV(mv:Bool) (t:XV D):XM D M X (List (XV D)×Bool):=
 match t with
 | .agg l=>bind (takeL A mv l) fun l'=>ret (l',true)
 | t=>bind (take1 A mv t) fun t'=>ret ([t'],false)
def putB(r:Nat):Nat→List (XV D)→XM D M X Unit
 | _,[]=>ret ()
 | o,t :: l=>bind (rdC r o) fun old=>bind (wrC A r o t) fun _=>bind (if isHdrX old || isHdrX t then bump (r,o,1) else ret ()) fun _=>putB r (o+1) l
def bumps(q:Key):Nat→XM D M X Unit
 | 0=>ret ()
 | n+1=>bind (bump q) fun _=>bumps q n
def hdrs:List (XV D)→List (XV D)→Nat
 | a :: r,b :: s=>(if isHdrX a || isHdrX b then 1 else 0)+hdrs r s
 | _,_=>0
def putEl(r off:Nat) (i:D .nat) (sz o:Nat) (l:List (XV D)):XV D→XM D M X Unit
 | .d (.row true t) xs=>if jS t=sz∧o+l.length≤sz∧0 < l.length then atM A true t xs i fun e=>bind (optM A (setDs A t o l)) fun f=>bind (wrI A r off (.d (.row true t) (A.upd t xs i f))) fun _=>bumps (r,off,2) (hdrs ((splitX A t e).drop o) l) else fail A
 | .gap t xs i' o'=>if jS t=sz∧o=o'∧o < sz∧l.length=1 then atM A true t xs i fun _=>brM A (A.eqN i i') (bind (optM A (setDs A t o l)) fun f=>bind (wrI A r off (.d (.row true t) (A.upd t xs i f))) fun _=>bump (r,off,2)) else fail A
 | _=>fail A
def putL(p:XP D) (l:List (XV D)):XM D M X Unit:=
 match p.hops with
 | []=>putB A p.root p.off l
 | [(i,sz,o)]=>bind (rdC p.root p.off) (putEl A p.root p.off i sz o l)
 | hs=>bind (rdC p.root p.off) fun tv=>elemM A tv hs fun t e=>
  if lastO hs+l.length≤jS t∧0 < l.length∧(((splitX A t e).drop (lastO hs)).take l.length).all (fun v=>!isHdrX v)=true∧l.all (fun v=>!isHdrX v)=true then bind (optM A (setXs A tv hs l)) fun tv'=>wrI A p.root p.off tv' else fail A
def peek1(p:XP D):XV D→XM D M X (XV D)
 | .k x=>ret (.k x)
 | .d t x=>if isOwT t then bind (rdVs (o4 p.root p.off (p.hops.length+1))) fun vs=>ret (.pk p vs) else if oneT t then ret (.d t x) else fail A
 | _=>fail A
def peekP(p:XP D):XM D M X (XV D):=match p.hops with
 | []=>bind (rdK p.root p.off) fun t=>if isOwX t then bind (rdVs (o4 p.root p.off 1)) fun vs=>ret (.pk p vs) else bind (getPl A p) (peek1 A p)
 | _ :: _=>bind (getPl A p) (peek1 A p)
def peekB(r:Nat):Nat→Nat→XM D M X (List (XV D))
 | _,0=>ret []
 | o,n+1=>bind (rdC r o) fun t=>bind (peek1 A ⟨r,o,[]⟩ t) fun t'=>bind (peekB r (o+1) n) fun l=>ret (t' :: l)
def peekCs(p:XP D):List (XV D)→XM D M X (List (XV D))
 | []=>ret []
 | t :: r=>bind (peek1 A p t) fun t'=>bind (peekCs (addP p 1) r) fun l=>ret (t' :: l)
def peekL(p:XP D) (n:Nat):XM D M X (List (XV D)):=
 match p.hops with
 | []=>peekB A p.root p.off n
 | _ :: _=>bind (rdC p.root p.off) fun tv=>elemM A tv p.hops fun t e=>if lastO p.hops+n≤jS t∧0 < n then peekCs A p (((splitX A t e).drop (lastO p.hops)).take n) else fail A
def nameL(r:Nat):Nat→List (XV D)→XM D M X (List (XV D))
 | _,[]=>ret []
 | i,t :: l=>if isOwX t then bind (rdV (r,0,0)) fun g=>bind (rdV (r,i,1)) fun h=>bind (nameL r (i+1) l) fun l'=>ret (.pk ⟨r,i,[]⟩ [g,h] :: l') else bind (nameL r (i+1) l) fun l'=>ret (t :: l')
def names(d:Nat) (l:List (XV D)):XM D M X (List (XV D)):=if l.any isOwX then bind (new A (2*d+3) l) fun _=>nameL (2*d+3) 0 l else ret l
def shapedX(agg:Bool) (l:List (XV D)):XV D:=if agg then .agg l else l.headD .dead
def inst(d:Nat) (agg:Bool) (l:List (XV D)):XM D M X Unit:=bind (names A d l) fun l'=>wrT A d (shapedX agg l')
def natOf:XV D→XM D M X (D .nat)
 | .d (.int k) n=>natM A k n ret
 | _=>fail A
def lenOf:XV D→XM D M X (D .nat)
 | .d (.row false t) xs=>ret (A.len false t xs)
 | .d (.nilr _) _=>ret (A.litN 0)
 | .pk p vs=>bind (chk A p (p.hops.length+1) vs) fun _=>bind (hdPl A p) fun t=>match t with
  | .d (.row true t) xs=>ret (A.len true t xs)
  | .d (.nilr true) _=>ret (A.litN 0)
  | _=>fail A
 | .pw p vs _ _ n=>bind (chk A p (p.hops.length+1) vs) fun _=>ret n
 | _=>fail A
def optNat:Option Opd→D .nat→XM D M X (D .nat)
 | some o,_=>bind (opd A o) (natOf A)
 | none,d=>ret d
def takeParts(mv:Bool):List (Nat×Nat×Opd)→XM D M X (List (XV D))
 | []=>ret []
 | (_,n,x) :: r=>bind (opd A x) fun t=>bind (takeL A mv (cellsX t)) fun l=>if l.length=n then bind (takeParts mv r) fun l'=>ret (l++l') else fail A
def placeX(cells:List (XV D)) (off:Nat):List (XV D)→List (XV D)
 | []=>cells
 | t :: r=>placeX (cells.set off t) (off+1) r
def assembleX(cells:List (XV D)):List (Nat×Nat×Opd)→List (XV D)→List (XV D)
 | [],_=>cells
 | (off,n,_) :: r,l=>assembleX (placeX cells off (l.take n)) r (l.drop n)
def chunksX(sz:Nat):Nat→List (XV D)→List (List (XV D))
 | 0,_=>[]
 | n+1,l=>l.take sz :: chunksX sz n (l.drop sz)
def okCellX:XV D→Bool
 | .d (.row true _) _=>false
 | .d .nat _=>false
 | .d (.pair _ _) _=>false
 | .d _ _=>true
 | .k _=>true
 | _=>false
def MS:List (XV D)→Option CT
 | []=>none
 | [.d t _]=>some t
 | .d t _ :: r=>(MS r).map (.pair t)
 | _ :: _=>none
def DZ:CT→CT→CT
 | .nilr _,.row o t=>.row o t
 | .row o t,.row _ t'=>.row o (DZ t t')
 | .pair a b,.pair a' b'=>.pair (DZ a a') (DZ b b')
 | t,_=>t
def joinC(t:CT):List (XV D)→Option (D t×List (XV D))
 | .d u x :: r=>(asT A u t x).map fun y=>(y,r)
 | _=>none
def joinX:(t:CT)→List (XV D)→Option (D t×List (XV D))
 | .pair a b,l=>match joinX a l with
  | some (x,r)=>match joinX b r with
   | some (y,r')=>some (A.mkp a b x y,r')
   | none=>none
  | none=>none
 | .nat,_=>none
 | .int k,l=>joinC A (.int k) l
 | .bool,l=>joinC A .bool l
 | .str,l=>joinC A .str l
 | .row o t,l=>joinC A (.row o t) l
 | .nilr o,l=>joinC A (.nilr o) l
def joinOne(t:CT) (l:List (XV D)):Option (D t):=match joinX A t l with | some (x,[])=>some x | _=>none
def joinAll(t:CT):List (List (XV D))→Option (List (D t))
 | []=>some []
 | l :: r=>match joinOne A t l,joinAll t r with | some x,some xs=>some (x :: xs) | _,_=>none
def Md:List (List (XV D))→Option CT
 | []=>none
 | [l]=>MS l
 | l :: r=>match MS l,Md r with | some t,some t'=>some (DZ t t') | _,_=>none
def Et:CT→Bool
 | .nilr _=>true
 | .row _ t=>Et t
 | .pair a b=>Et a || Et b
 | _=>false
def D0:CT→CT→CT
 | .nilr o,.row _ t=>.row o t
 | .row o t,.row _ t'=>.row o (D0 t t')
 | .pair a b,.pair a' b'=>.pair (D0 a a') (D0 b b')
 | t,_=>t
def resT(hint:Option CT) (t:CT):CT:=if Et t then D0 t (hint.getD t) else t
def rowOf(hint:Option CT) (ls:List (List (XV D))):Option (XV D):=
 match ls with
 | []=>some (.d (.nilr true) (A.nilv true))
 | _=>match Md ls with
  | some t=>(joinAll A (resT hint t) ls).map fun es=>.d (.row true (resT hint t)) (A.rowl true (resT hint t) es)
  | none=>none
def repOf(hint:Option CT) (n:D .nat) (l:List (XV D)):Option (XV D):=
 match MS l with
 | some t=>(joinOne A (resT hint t) l).map fun e=>.d (.row true (resT hint t)) (A.rep (resT hint t) n e)
 | none=>none
def contentOf:XV D→XM D M X (XV D)
 | .d (.row false t) xs=>ret (.d (.row false t) xs)
 | .d (.nilr _) _=>ret (.d (.nilr false) (A.nilv false))
 | .pk p vs=>bind (chk A p (p.hops.length+1) vs) fun _=>bind (getPl A p) fun t=>match t with | .d (.row true t) xs=>ret (.d (.row true t) xs) | .d (.nilr true) _=>ret (.d (.nilr false) (A.nilv false)) | _=>fail A
 | .pw p vs _ lo n=>bind (chk A p (p.hops.length+1) vs) fun _=>bind (getPl A p) fun t=>match t with | .d (.row true t) xs=>ret (.d (.row true t) (A.win true t xs lo n)) | _=>fail A
 | _=>fail A
def flat1:CT→Bool
 | .int _=>true
 | .bool=>true
 | .str=>true
 | _=>false
def flatT:CT→Bool
 | .int _=>true
 | .bool=>true
 | .str=>true
 | .pair a b=>flatT a && flatT b
 | _=>false
def isNameX:XV D→Bool
 | .pk _ _=>true
 | .pw _ _ _ _ _=>true
 | _=>false
def flatRow:XV D→Bool
 | .d (.row _ t) _=>flatT t
 | .d (.nilr _) _=>true
 | _=>false
def cpyX(d sz:Nat) (p:XP D) (lo:D .nat) (n:Option (D .nat)) (tv c2:XV D):XM D M X Unit:=getM A tv p.hops fun v=>
 match v,c2 with
  | .d (.row true t) xs,.d (.row o t2) ys=>if h:qa t2 t=true∧jS t=sz∧flatT t=true then
   bind (optM A (setX A tv p.hops (.d (.row true t) (A.splice t o xs lo (A.minN (A.len o t2 ys) (n.getD (A.len true t xs))) (rN h.1 ▸ ys))))) fun tv'=>
    brM A (A.slOk lo (A.addN lo (A.minN (A.len o t2 ys) (n.getD (A.len true t xs)))) (A.len true t xs)) (forkM A (A.ltN (A.litN 0) (A.minN (A.len o t2 ys) (n.getD (A.len true t xs)))) (bind (wrC A p.root p.off tv') fun _=>wrT A d (.d (.int .i64) (A.natI (A.minN (A.len o t2 ys) (n.getD (A.len true t xs)))))) (wrT A d (.d (.int .i64) (A.natI (A.minN (A.len o t2 ys) (n.getD (A.len true t xs)))))))
   else fail A
  | .d (.row true _) _,.d (.nilr _) _=>if 0 < sz then wrT A d (.d (.int .i64) (A.lit .i64 0)) else fail A
  | _,_=>fail A
def eqAll:List FK→List (XV D)→List (XV D)→Option (D .bool)
 | [],[],[]=>some (A.litB true)
 | .i :: ks,.d (.int k) a :: xs,.d (.int k') b :: ys=>if h:k'=k then (eqAll ks xs ys).map (A.andB (A.cm .eql k a (h ▸ b))) else none
 | .b :: ks,.d .bool a :: xs,.d .bool b :: ys=>(eqAll ks xs ys).map (A.andB (A.eqB a b))
 | .s :: ks,.d .str a :: xs,.d .str b :: ys=>(eqAll ks xs ys).map (A.andB (A.eqS a b))
 | _,_,_=>none
def mapM'(f:α→XM D M X β):List α→XM D M X (List β)
 | []=>ret []
 | x :: r=>bind (f x) fun y=>bind (mapM' f r) fun l=>ret (y :: l)
def intOf:XV D→XM D M X (XV D)
 | .d (.int k) n=>ret (.d (.int k) n)
 | _=>fail A
def capOf:XV D→XM D M X (XV D)
 | .ptr p vs=>ret (.ptr p vs)
 | t=>if okCellX t && !isOwX t then ret t else fail A
def mmAll(mx:Bool) (k:IntKind):D (.int k)→List (XV D)→Option (D (.int k))
 | a,[]=>some a
 | a,.d (.int k') b :: r=>if h:k'=k then mmAll mx k (A.mm mx k a (h ▸ b)) r else none
 | _,_=>none
def wr(d:Nat) (t:XV D):XM D M X Unit:=wrT A d t
def binX(d:Nat) (op:BinOp):XV D→XV D→XM D M X Unit
 | .d (.int k) a,.d (.int k') b=>
  match op with
  | .shl=>natM A k' b fun n=>wr A d (.d (.int k) (A.sh .shl k a n))
  | .shr=>natM A k' b fun n=>wr A d (.d (.int k) (A.sh .shr k a n))
  | .quo=>if h:k'=k then brM A (A.cm .neq k' b (A.lit k' 0)) (wr A d (.d (.int k) (A.ar .quo k a (h ▸ b)))) else fail A
  | .rem=>if h:k'=k then brM A (A.cm .neq k' b (A.lit k' 0)) (wr A d (.d (.int k) (A.ar .rem k a (h ▸ b)))) else fail A
  | .add=>if h:k'=k then wr A d (.d (.int k) (A.ar .add k a (h ▸ b))) else fail A
  | .sub=>if h:k'=k then wr A d (.d (.int k) (A.ar .sub k a (h ▸ b))) else fail A
  | .mul=>if h:k'=k then wr A d (.d (.int k) (A.ar .mul k a (h ▸ b))) else fail A
  | .and=>if h:k'=k then wr A d (.d (.int k) (A.ar .and k a (h ▸ b))) else fail A
  | .or=>if h:k'=k then wr A d (.d (.int k) (A.ar .or k a (h ▸ b))) else fail A
  | .xor=>if h:k'=k then wr A d (.d (.int k) (A.ar .xor k a (h ▸ b))) else fail A
  | .andNot=>if h:k'=k then wr A d (.d (.int k) (A.ar .andNot k a (h ▸ b))) else fail A
  | op=>if h:k'=k then wr A d (.d .bool (A.cm op k a (h ▸ b))) else fail A
 | .d .str a,.d .str b=>
  match op with
  | .eql=>wr A d (.d .bool (A.eqT a b))
  | .neq=>wr A d (.d .bool (A.not (A.eqT a b)))
  | _=>fail A
 | _,_=>fail A
def pickX(d:Nat) (tc ta tb:XV D):XM D M X Unit:=match tc,ta,tb with
 | .d .bool c,.d (.int k) x,.d (.int k') y=>if h:k'=k then wr A d (.d (.int k) (A.ite (.int k) c x (h ▸ y))) else fail A
 | .d .bool c,.d .bool x,.d .bool y=>wr A d (.d .bool (A.ite .bool c x y))
 | .d .bool c,.d .str x,.d .str y=>wr A d (.d .str (A.ite .str c x y))
 | .d .bool c,.d t x,_=>if flat1 t then brM A c (wr A d (.d t x)) else fail A
 | .d .bool c,_,.d t x=>if flat1 t then brM A (A.not c) (wr A d (.d t x)) else fail A
 | _,_,_=>fail A
def appX(d sz bytes:Nat) (hint:Option CT) (s x:XV D):XM D M X Unit:=
 match s,x with
 | .d (.row true t) c,.d (.row o t2) c2=>if jS t=sz then bind (optM A (asT A (.row o t2) (.row o t) c2)) fun c3=>brM A (A.appOk bytes (A.len true t c) (A.len o t2 c2)) (inst A d false [.d (.row true t) (A.cat t o c c3)]) else fail A
 | .d (.row true t) c,.d (.nilr _) _=>if jS t=sz then brM A (A.appOk bytes (A.len true t c) (A.litN 0)) (inst A d false [.d (.row true t) c]) else fail A
 | .d (.nilr true) _,.d (.row o t2) c2=>if jS t2=sz then bind (optM A (asT A (.row o t2) (.row o (resT hint t2)) c2)) fun c3=>brM A (A.appOk bytes (A.litN 0) (A.len o t2 c2)) (inst A d false [.d (.row true (resT hint t2)) (A.cat _ o (A.nil true (resT hint t2)) c3)]) else fail A
 | .d (.nilr true) _,.d (.nilr _) _=>brM A (A.appOk bytes (A.litN 0) (A.litN 0)) (inst A d false [.d (.nilr true) (A.nilv true)])
 | _,_=>fail A
def loadIp(n:Option Nat) (cs:List (XV D)):Option (XV D):=
 match n with
 | none=>match cs with
  | t :: _=>if okCellX t && !isOwX t then some t else none
  | []=>none
 | some n=>if n≤cs.length && (cs.take n).all (fun t=>okCellX t && !isOwX t) then some (.agg (cs.take n)) else none
def ev1(HT:List (Nat×CT)) (d:Nat):TOp→XM D M X Unit
 | .mov x=>bind (opd A x) fun t=>match t with
  | .d t y=>if isOwT t then (match x with | .c _=>inst A d false [.d t y] | _=>fail A) else wr A d (.d t y)
  | .agg l=>if l.any isOwX then fail A else wr A d (.agg l)
  | .gap _ _ _ _=>fail A
  | t=>wr A d t
 | .asn mv x=>bind (opd A x) fun t=>match t with
  | .ptr p vs=>wr A d (.ptr p vs)
  | .ip cs=>wr A d (.ip cs)
  | .fn f cap=>wr A d (.fn f cap)
  | t=>bind (takeV A mv t) fun l=>inst A d l.2 l.1
 | .pick c a b=>bind (opd A c) fun tc=>bind (opd A a) fun ta=>bind (opd A b) fun tb=>pickX A d tc ta tb
 | .alloc z=>if (z.map (cellX A)).all okCellX then bind (new A (2*d+2) (z.map (cellX A))) fun _=>bind (rdV (2*d+2,0,0)) fun g=>wr A d (.ptr ⟨2*d+2,0,[]⟩ [g]) else fail A
 | .box n mv x=>bind (opd A x) fun t=>bind (takeL A mv (cellsX t)) fun l=>if l.length=n then bind (new A (2*d+2) l) fun _=>bind (rdV (2*d+2,0,0)) fun g=>wr A d (.ptr ⟨2*d+2,0,[]⟩ [g]) else fail A
 | .load n a=>bind (opd A a) fun t=>match t with
  | .ptr p vs=>bind (chk A p p.hops.length vs) fun _=>match n with
   | none=>bind (peekP A p) fun t'=>wr A d t'
   | some n=>bind (peekL A p n) fun l=>wr A d (.agg l)
  | .ip cs=>match loadIp n cs with | some t=>wr A d t | none=>fail A
  | _=>fail A
 | .store n mv a x=>bind (opd A a) fun ta=>match ta with
  | .ptr p vs=>bind (opd A x) fun tx=>bind (takeL A mv (cellsX tx)) fun l=>if l.length=n then bind (chk A p p.hops.length vs) fun _=>putL A p l else fail A
  | _=>fail A
 | .nilc x=>bind (opd A x) fun t=>match t with
  | .ptr p vs=>bind (chk A p p.hops.length vs) fun _=>wr A d (.ptr p vs)
  | .ip cs=>wr A d (.ip cs)
  | .fn f cap=>wr A d (.fn f cap)
  | _=>fail A
 | .fld off a=>bind (opd A a) fun t=>match t with
  | .ptr p vs=>bind (chk A p p.hops.length vs) fun _=>if fitsP p off then wr A d (.ptr (addP p off) vs) else fail A
  | .ip cs=>if off < cs.length then wr A d (.ip (cs.drop off)) else fail A
  | _=>fail A
 | .fldv off n x=>bind (opd A x) fun t=>match t with
  | .agg l=>match n with
   | none=>if off < l.length then wr A d (l.getD off .dead) else fail A
   | some n=>if off+n≤l.length then wr A d (.agg ((l.drop off).take n)) else fail A
  | _=>fail A
 | .idx sz x i=>bind (opd A x) fun t=>bind (opd A i) fun ti=>bind (natOf A ti) fun k=>match t with
  | .pk p vs=>bind (chk A p (p.hops.length+1) vs) fun _=>bind (hdPl A p) fun t=>match t with
   | .d (.row true t) xs=>if jS t=sz∧0 < sz then atM A true t xs k fun _=>wr A d (.ptr (atP p k sz) vs) else fail A
   | .gap t xs _ _=>if jS t=sz∧0 < sz then atM A true t xs k fun _=>wr A d (.ptr (atP p k sz) vs) else fail A
   | _=>fail A
  | .pw p vs sz' lo n=>bind (chk A p (p.hops.length+1) vs) fun _=>bind (getPl A p) fun t=>match t with
   | .d (.row true t) xs=>if jS t=sz∧0 < sz∧sz'=sz then brM A (A.ltN k n) (atM A true t xs (A.addN lo k) fun _=>wr A d (.ptr (atP p (A.addN lo k) sz) vs)) else fail A
   | _=>fail A
  | .d (.row false t) xs=>if jS t=sz∧0 < sz then atM A false t xs k fun e=>wr A d (.ip (splitX A t e)) else fail A
  | _=>fail A
 | .ext x i=>bind (opd A x) fun t=>match t with
  | .tup l=>if i < l.length then wr A d (l.getD i .dead) else fail A
  | _=>fail A
 | .bin op x y=>bind (opd A x) fun a=>bind (opd A y) fun b=>binX A d op a b
 | .bnb neg x y=>bind (opd A x) fun a=>bind (opd A y) fun b=>match a,b with
  | .d .bool a,.d .bool b=>wr A d (.d .bool (if neg then A.not (A.eqB a b) else A.eqB a b))
  | _,_=>fail A
 | .eqa ks neg x y=>bind (opd A x) fun a=>bind (opd A y) fun b=>match a,b with
  | .agg a,.agg b=>match eqAll A ks a b with | some r=>wr A d (.d .bool (if neg then A.not r else r)) | none=>fail A
  | _,_=>fail A
 | .un op x=>bind (opd A x) fun a=>match op,a with
  | .not,.d .bool b=>wr A d (.d .bool (A.not b))
  | .neg,.d (.int k) n=>wr A d (.d (.int k) (A.neg k n))
  | _,_=>fail A
 | .conv k x=>bind (opd A x) fun a=>match a with | .d (.int k0) n=>wr A d (.d (.int k) (A.cv k0 k n)) | _=>fail A
 | .bld z mv parts=>if (z.map (cellX A)).all okCellX then bind (takeParts A mv parts) fun l=>bind (names A d l) fun l'=>wr A d (.agg (assembleX (z.map (cellX A)) parts l')) else fail A
 | .bsl sz mv len parts=>bind (takeParts A mv (parts.map fun p=>(0,sz,p))) fun l=>if parts.length=len then bind (optM A (rowOf A (ef HT d) (chunksX sz len l))) fun v=>inst A d false [v] else fail A
 | .mks sz z l c=>if (z.map (cellX A)).all okCellX && z.length==sz then bind (opd A l) fun tl=>bind (opd A c) fun tc=>bind (natOf A tl) fun n=>bind (natOf A tc) fun m=>
  brM A (A.mkOk n m sz) (bind (optM A (repOf A (ef HT d) n (z.map (cellX A)))) fun v=>inst A d false [v]) else fail A
 | .slc sz x lo hi=>bind (opd A x) fun t=>bind (lenOf A t) fun n=>bind (optNat A lo (A.litN 0)) fun l=>bind (optNat A hi n) fun h=>brM A (A.slOk l h n) (
  match t with
  | .d (.row false t) xs=>if jS t=sz then wr A d (.d (.row false t) (A.win false t xs l (A.subN h l))) else fail A
  | .d (.nilr false) x=>wr A d (.d (.nilr false) x)
  | .pk p vs=>bind (getPl A p) fun t=>match t with | .d (.row true t) _=>if jS t=sz then wr A d (.pw p vs sz l (A.subN h l)) else fail A | .d (.nilr true) _=>wr A d (.pw p vs sz l (A.subN h l)) | _=>fail A
  | .pw p vs sz' lo' _=>if sz'=sz then wr A d (.pw p vs sz (A.addN lo' l) (A.subN h l)) else fail A
  | .d (.nilr true) x=>inst A d false [.d (.nilr true) x]
  | _=>fail A)
 | .app sz bytes mv fl s x=>bind (opd A s) fun ts=>bind (opd A x) fun tx=>bind (take1 A true ts) fun s=>
  if fl && !mv && isNameX tx then bind (contentOf A tx) fun c2=>if flatRow c2 then appX A d sz bytes (ef HT d) s c2 else fail A
  else bind (take1 A mv tx) fun x=>appX A d sz bytes (ef HT d) s x
 | .len x=>bind (opd A x) fun t=>bind (lenOf A t) fun n=>wr A d (.d (.int .i64) (A.natI n))
 | .lens x=>bind (opd A x) fun t=>match t with
  | .d .str s=>wr A d (.d (.int .i64) (A.strLen s))
  | _=>fail A
 | .ixs x i=>bind (opd A x) fun t=>bind (opd A i) fun ti=>bind (natOf A ti) fun k=>match t with
  | .d .str s=>Me A s k fun b=>wr A d (.d (.int .u8) b)
  | _=>fail A
 | .mm mx xs=>bind (mapM' (fun x=>bind (opd A x) (intOf A)) xs) fun l=>match l with
  | .d (.int k) a :: r=>match mmAll A mx k a r with | some m=>wr A d (.d (.int k) m) | none=>fail A
  | _=>fail A
 | .mkf f caps=>bind (mapM' (fun x=>bind (opd A x) (capOf A)) caps) fun l=>wr A d (.fn f l)
 | .idxa n sz x i=>bind (opd A x) fun t=>bind (opd A i) fun ti=>bind (natOf A ti) fun k=>match t with
  | .ptr p vs=>bind (chk A p p.hops.length vs) fun _=>caseM A k n (fun j=>if fitsP p (j*sz) then wr A d (.ptr (addP p (j*sz)) vs) else fail A) 0
  | _=>fail A
 | .s2b x=>bind (opd A x) fun t=>match t with
  | .d .str s=>brM A (A.strOk s) (wr A d (.d (.row false (.int .u8)) (A.strB s)))
  | _=>fail A
 | .b2s x=>bind (opd A x) fun t=>bind (take1 A false t) fun t'=>match t' with
  | .d (.row false (.int .u8)) c=>Nc A c fun s=>wr A d (.d .str s)
  | _=>fail A
 | .cpy sz x y=>bind (opd A x) fun t=>bind (opd A y) fun u=>bind (contentOf A u) fun c2=>match t with
  | .pk p vs=>bind (chk A p (p.hops.length+1) vs) fun _=>bind (rdC p.root p.off) fun tv=>cpyX A d sz p (A.litN 0) none tv c2
  | .pw p vs sz' lo n=>if sz'=sz then bind (chk A p (p.hops.length+1) vs) fun _=>bind (rdC p.root p.off) fun tv=>cpyX A d sz p lo (some n) tv c2 else fail A
  | _=>fail A
 | .emp x=>bind (opd A x) fun t=>bind (lenOf A t) fun _=>inst A d false [.d (.nilr true) (A.nilv true)]
 | .call _ _ _=>fail A
end
end X
structure XGP (D:CT→Type) where
 i:Nat
 p:XP D
 vs:List Nat
 cells:List (XV D)
namespace X
section
variable {D:CT→Type} {M:Type→Type} {X:Type} (A:Alg D M) {α β:Type}
def isNmX:XV D→Bool
 | .pk _ _=>true
 | .d (.nilr true) _=>true
 | _=>false
def argV0:XV D→XM D M X (XV D)
 | .ip cs=>ret (.ip cs)
 | .fn f cap=>ret (.fn f cap)
 | .ptr p vs=>ret (.ptr p vs)
 | t=>bind (takeV A false t) fun l=>bind (optM A (immXL A l.1)) fun l'=>ret (shapedX l.2 l')
def argV(x:Option Nat×Opd):XM D M X (XV D):=bind (opd A x.2) fun t=>if (x.1==some 0 && isNmX t)=true then ret t else argV0 A t
def argVs:List (Option Nat×Opd)→XM D M X (List (XV D))
 | []=>ret []
 | x :: r=>bind (argV A x) fun t=>bind (argVs r) fun l=>ret (t :: l)
def takeOwns:Nat→List (Option Nat×XV D)→XM D M X (List (Nat×XV D))
 | _,[]=>ret []
 | i,(some 0,.pk p vs) :: r=>bind (take1 A true (.pk p vs)) fun t=>if isOwX t=true then bind (takeOwns (i+1) r) fun q=>ret ((i,t) :: q) else fail A
 | i,_ :: r=>takeOwns (i+1) r
def grabB(r:Nat):Nat→Nat→XM D M X (List (XV D))
 | _,0=>ret []
 | o,n+1=>bind (rdC r o) fun t=>bind (peek1 A ⟨r,o,[]⟩ t) fun t'=>bind (take1 A true t') fun t2=>bind (grabB r (o+1) n) fun l=>ret (t2 :: l)
def Nd(p:XP D):XP D:=⟨p.root,p.off,[]⟩
def baseXN(p:XP D) (n:Nat):Nat:=match p.hops with
 | []=>n
 | _ :: _=>1
def rooted(p:XP D):XM D M X Unit:=match p.hops with
 | []=>ret ()
 | _ :: _=>bind (rdT ((p.root - 2) / 2)) fun t=>match t with
  | .ptr q ws=>if q.root==p.root && q.hops.isEmpty then chk A q 0 ws else fail A
  | _=>fail A
def isArgX:XV D→Bool
 | .ip _=>true
 | .d (.nilr true) _=>true
 | .fn _ []=>true
 | .agg l=>l.all fun t=>okCellX t && !isOwX t
 | t=>okCellX t && !isOwX t
def grabs:Nat→List (Option Nat×XV D)→XM D M X (List (XGP D))
 | _,[]=>ret []
 | i,(some n,.ptr p vs) :: r=>bind (chk A p p.hops.length vs) fun _=>bind (rooted A p) fun _=>bind (grabB A p.root p.off (baseXN p n)) fun l=>bind (grabs (i+1) r) fun q=>ret (⟨i,Nd p,vs.take 1,l⟩ :: q)
 | i,(some 0,.pk _ _) :: r=>grabs (i+1) r
 | i,(_,t) :: r=>if isArgX t then grabs (i+1) r else fail A
def touch(p:XP D):XM D M X Unit:=bind (rdC p.root p.off) fun tv=>wrC A p.root p.off tv
def rechk:List (XGP D)→XM D M X Unit
 | []=>ret ()
 | g :: r=>bind (chk A g.p g.p.hops.length g.vs) fun _=>bind (touch A g.p) fun _=>rechk r
def argT(i:Nat):XV D→XV D
 | .ptr p _=>.ptr ⟨2*i+2,0,p.hops⟩ (List.replicate (p.hops.length+1) 0)
 | .pk _ _=>.pk ⟨2*i+3,0,[]⟩ [0,0]
 | t=>t
def argTs:Nat→List (XV D)→List (XV D)
 | _,[]=>[]
 | i,t :: r=>argT i t :: argTs (i+1) r
def mkSt(vals:List (XV D)) (pts:List (Nat×List (XV D))):XS D:=⟨fR 0 vals,pts,[],([],[])⟩
def isDeadX:XV D→Bool
 | .dead=>true
 | .d t _=>!oneT t
 | _=>false
def putBack:List (XGP D×List (XV D))→XM D M X Unit
 | []=>ret ()
 | (g,l) :: r=>bind (putBack r) fun _=>if l.length=g.cells.length∧0 < l.length∧(l.all fun t=>!isDeadX t)=true then putL A g.p l else fail A
def shapeRX:List RSh→List (XV D)→List (XV D)
 | [],_=>[]
 | .one :: r,l=>l.headD .dead :: shapeRX r l.tail
 | .agg n :: r,l=>.agg (l.take n) :: shapeRX r (l.drop n)
 | .ptr :: r,l=>.dead :: shapeRX r l
def shapeTX(sh:List RSh) (l:List (XV D)):XV D:=
 match shapeRX sh l with
 | [x]=>x
 | l=>.tup l
def landR(dst:Option Nat) (cells:List (XV D)) (sh:List RSh):XM D M X Unit:=
 match dst with
 | some d=>bind (names A d cells) fun l=>wr A d (shapeTX sh l)
 | none=>ret ()
def convP:(s:List (Nat×List Sh))→List (Nat×List (XV D))→(r:List CT)→HL D r→Option (HL D (lvP s r))
 | [],[],_,h=>some h
 | s :: ss,x :: xs,r,h=>if s.1=x.1 then (convP ss xs r h).bind fun h1=>uu A s.2 x.2 (lvP ss r) h1 else none
 | _,_,_,_=>none
def convT:(s:List (Nat×Sh))→List (Nat×XV D)→(r:List CT)→HL D r→Option (HL D (lvT s r))
 | [],[],_,h=>some h
 | s :: ss,x :: xs,r,h=>if s.1=x.1 then (convT ss xs r h).bind fun h1=>conv A s.2 x.2 (lvT ss r) h1 else none
 | _,_,_,_=>none
def sameVr:List (Key×Nat)→List (Key×Nat)→Bool
 | [],[]=>true
 | (q,n) :: r,(q',n') :: r'=>q==q' && n==n' && sameVr r r'
 | _,_=>false
def convS(s:Shs) (σ:XS D) (u:HL D []):Option (HL D (lvS s)):=if sameVr s.vr σ.vr then (convP A s.ce σ.ce [] u).bind fun h=>convT A s.tm σ.tm _ h else none
def convIn(c:Ctr) (vals:List (XV D)) (pts:List (Nat×List (XV D))) (u:HL D []):Option (HL D (lvL c.ins (lvP c.pts []))):=(convP A c.pts pts [] u).bind fun h=>uu A c.ins vals _ h
def sameSh:List RSh→List RSh→Bool
 | [],[]=>true
 | .one :: r,.one :: r'=>sameSh r r'
 | .agg n :: r,.agg n' :: r'=>n==n' && sameSh r r'
 | .ptr :: r,.ptr :: r'=>sameSh r r'
 | _,_=>false
def convO(o:XO) (cells:List (XV D)) (sh:List RSh) (pts:List (Nat×List (XV D))) (u:HL D []):Option (HL D (lvO o)):=if sameSh o.sh sh then (convP A o.pts pts [] u).bind fun h=>uu A o.cells cells _ h else none
def injO(cells:List (XV D)) (sh:List RSh) (pts:List (Nat×List (XV D))) (u:HL D []):(outs:List XO)→Option ((i:Nat)×HL D (yH (outs.map lvO) i))
 | []=>none
 | o :: r=>match convO A o cells sh pts u with
  | some h=>some ⟨0,h⟩
  | none=>match injO cells sh pts u r with | some x=>some ⟨x.1+1,x.2⟩ | none=>none
def exEq:jT→jT→Bool
 | .normal,.normal=>true
 | .exit i,.exit j=>i==j
 | .ret,.ret=>true
 | _,_=>false
def injE(e:jT) (σ:XS D) (u:HL D []):(outs:List (jT×Shs))→Option ((i:Nat)×HL D (yH (outs.map fun x=>lvS x.2) i))
 | []=>none
 | o :: r=>match (if exEq o.1 e then convS A o.2 σ u else none) with
  | some h=>some ⟨0,h⟩
  | none=>match injE e σ u r with | some x=>some ⟨x.1+1,x.2⟩ | none=>none
def onOut(o:Option α) (K:α→M X):M X:=match o with
 | some x=>K x
 | none=>A.fail
def isPX(sh:List RSh) (cells:List (XV D)):Bool:=match sh,cells with
 | [.ptr],[.ptr _ _]=>true
 | _,_=>false
def landP(dst:Option Nat) (q:List (XGP D)) (cells:List (XV D)):XM D M X Unit:=
 match dst with
 | none=>ret ()
 | some d=>match cells,q with
  | [.ptr pl _],[g]=>if pl.root==2*g.i+2 && g.p.hops.isEmpty then bind (rdVs (o4 g.p.root (g.p.off+pl.off) pl.hops.length)) fun vs=>wr A d (.ptr ⟨g.p.root,g.p.off+pl.off,pl.hops⟩ vs) else fail A
  | _,_=>fail A
def afterC(dst:Option Nat) (q:List (XGP D)) (ow:List (Nat×XV D)) (x:List (XV D)×List RSh×List (Nat×List (XV D))):XM D M X Unit:=
 if x.2.2.map (·.1)=q.map (fun g=>2*g.i+2)++ow.map (fun y=>2*y.1+3)∧(isPX x.2.1 x.1 || oV x.2.1 x.1.length)=true then bind (putBack A (q.zip (x.2.2.map (·.2)))) fun _=>if isPX x.2.1 x.1 then landP A dst q x.1 else landR A dst x.1 x.2.1 else fail A
def callTB(dst:Option Nat) (f:FuncId) (vals:List (XV D)) (q:List (XGP D)) (ow:List (Nat×XV D)) (u:HL D []):List Ctr→XM D M X Unit
 | []=>fail A
 | c :: r=>match (if c.f=f then convIn A c vals (q.map (fun g=>(2*g.i+2,g.cells))++ow.map fun y=>(2*y.1+3,[y.2])) u else none) with
  | some h=>fun σ k=>A.call c.id (lvL c.ins (lvP c.pts [])) (c.outs.map lvO) c.g h fun i ho=>onOut A (lJ c.outs i ho) fun x=>afterC A dst q ow x σ k
  | none=>callTB dst f vals q ow u r
def callV(TB:List Ctr) (u:HL D []) (dst:Option Nat) (f:FuncId) (ns:List (Option Nat)) (vals:List (XV D)):XM D M X Unit:=
 bind (takeOwns A 0 (ns.zip vals)) fun ow=>bind (grabs A 0 (ns.zip vals)) fun q=>bind (rechk A q) fun _=>
  if mR (q.map (·.p.root)) && q.all (fun g=>decide (0 < g.cells.length)) then callTB A dst f (argTs 0 vals) q ow u TB else fail A
def see1:XV D→XM D M X (XV D)
 | .d (.row true _) _=>fail A
 | .d .nat _=>fail A
 | .d (.pair _ _) _=>fail A
 | .d (.nilr _) _=>ret (.d (.nilr false) (A.nilv false))
 | .d t x=>ret (.d t x)
 | .k x=>ret (.k x)
 | .pk p vs=>bind (chk A p (p.hops.length+1) vs) fun _=>bind (rdC p.root p.off) fun tv=>getM A tv p.hops fun v=>if isOwX v then optM A (immX A v) else fail A
 | _=>fail A
def seeL:List (XV D)→XM D M X (List (XV D))
 | []=>ret []
 | t :: r=>bind (see1 A t) fun t'=>bind (seeL r) fun l=>ret (t' :: l)
def seeA:XV D→XM D M X (XV D)
 | .agg l=>bind (seeL A l) fun l'=>ret (.agg l')
 | .ip cs=>ret (.ip cs)
 | .fn f cap=>match cap with | []=>ret (.fn f []) | _ :: _=>fail A
 | t=>see1 A t
def seeAs:List Opd→XM D M X (List (XV D))
 | []=>ret []
 | x :: r=>bind (opd A x) fun t=>bind (seeA A t) fun t'=>bind (seeAs r) fun l=>ret (t' :: l)
def flatX:XV D→Bool
 | .d (.int _) _=>true
 | .d .bool _=>true
 | .d .str _=>true
 | .k x=>gU x
 | _=>false
def afterB(dst:Option Nat) (x:List (XV D)×List RSh×List (Nat×List (XV D))):XM D M X Unit:=
 if x.2.2.length=0∧x.1.all flatX=true∧oV x.2.1 x.1.length=true then (match dst with | some d=>wr A d (shapeTX x.2.1 x.1) | none=>ret ()) else fail A
def callB(dst:Option Nat) (f:FuncId) (vals:List (XV D)) (u:HL D []):List Ctr→XM D M X Unit
 | []=>fail A
 | c :: r=>match (if c.f=f then convIn A c vals [] u else none) with
  | some h=>fun σ k=>A.call c.id (lvL c.ins (lvP c.pts [])) (c.outs.map lvO) c.g h fun i ho=>onOut A (lJ c.outs i ho) fun x=>afterB A dst x σ k
  | none=>callB dst f vals u r
def bxX(vals:List (XV D)):BxC→XV D
 | .arg i=>vals.getD i .dead
 | .val x=>cellX A x
def evBox(dst:Option Nat) (tm:List BxC) (vals:List (XV D)):XM D M X Unit:=
 match dst with
 | some d=>bind (takeL A false (tm.map (bxX A vals))) fun l=>bind (new A (2*d+2) l) fun _=>bind (rdV (2*d+2,0,0)) fun g=>wr A d (.ptr ⟨2*d+2,0,[]⟩ [g])
 | none=>fail A
def boxOk:BxC→Bool
 | .arg _=>true
 | .val x=>match x with | .slice none 0 0=>false | x=>gU x
def evCall(E:Env) (TB:List Ctr) (u:HL D []) (dst:Option Nat):TOp→XM D M X Unit
 | .call k (.f f) args=>
  if k then bind (argVs A args) fun vals=>match E.box f with
   | some x=>if vals.length=x.1∧x.2.all boxOk=true then evBox A dst x.2 vals else fail A
   | none=>callV A TB u dst f (args.map (·.1)) vals
  else bind (seeAs A (args.map (·.2))) fun vals=>callB A dst f vals u TB
 | .call _ (.t i) args=>bind (rdT i) fun t=>match t with
  | .fn f caps=>bind (argVs A args) fun vals=>callV A TB u dst f (args.map (·.1)++Il E f args.length caps.length) (vals++caps)
  | _=>fail A
 | _=>fail A
structure Cfg where
 E:Env
 TB:List Ctr
 HT:List (Nat×CT)
 HL:List Cz
def evop(C:Cfg) (u:HL D []) (dst:Option Nat) (op:TOp):XM D M X Unit:=
 match op with
 | .call k f args=>evCall A C.E C.TB u dst (.call k f args)
 | .store n mv a x=>match dst with | none=>ev1 A C.HT 0 (.store n mv a x) | some _=>fail A
 | op=>match dst with | some d=>ev1 A C.HT d op | none=>fail A
def setNo(dst:Option Nat):XM D M X Unit:=match dst with | some d=>wrT A d (.tup []) | none=>ret ()
def known(j:Nat) (b:Bool) (σ:XS D):XS D:=⟨fI σ.tm j (.d .bool (A.litB b)),σ.ce,σ.vr,σ.lg⟩
def knownO(c:Opd) (b:Bool) (σ:XS D):XS D:=match c with | .t j=>known A j b σ | _=>σ
def condX(m m':M X):XV D→M X
 | .d .bool x=>A.br x m m'
 | _=>A.fail
def guardX(j:Nat) (want:Bool) (m m':XM D M X Unit):XV D→XM D M X Unit
 | .d .bool b=>fun σ k=>A.br b ((if want then m else m') (known A j true σ) k) ((if want then m' else m) (known A j false σ) k)
 | .tup []=>m'
 | _=>fail A
def spOp(C:Cfg) (u:HL D []) (o:iB):XM D M X Unit:=
 match o.guard with
 | none=>evop A C u o.dst o.op
 | some (j,want)=>bind (rdT j) (guardX A j want (evop A C u o.dst o.op) (setNo A o.dst))
def spOps(C:Cfg) (u:HL D []):List iB→XM D M X Unit
 | []=>ret ()
 | o :: r=>bind (spOp A C u o) fun _=>spOps C u r
def spFL(C:Cfg) (u:HL D []) (ops:List iB):List Nat→XM D M X (List (Nat×p8))
 | []=>ret []
 | i :: r=>fun σ k=>spOp A C u (ops.getD i Ax) ⟨σ.tm,σ.ce,σ.vr,([],[])⟩ fun _ σ1=>spFL C u ops r σ1 fun fs σ2=>k ((i,σ1.lg) :: fs) σ2
def renorm0(L:List Nat) (σ:XS D):XV D→XV D
 | .ptr p vs=>if L.contains p.root && vs==jj (qI σ.vr) p.root p.off p.hops.length then .ptr p (jj (fun _=>0) p.root p.off p.hops.length) else .dead
 | .pk p vs=>if L.contains p.root && vs==jj (qI σ.vr) p.root p.off (p.hops.length+1) then .pk p (jj (fun _=>0) p.root p.off (p.hops.length+1)) else .dead
 | .pw p vs sz lo n=>if L.contains p.root && vs==jj (qI σ.vr) p.root p.off (p.hops.length+1) then .pw p (jj (fun _=>0) p.root p.off (p.hops.length+1)) sz lo n else .dead
 | .k x=>.k x
 | .ip cs=>.ip cs
 | .d (.row true _) _=>.dead
 | .d t x=>.d t x
 | .tup []=>.tup []
 | _=>.dead
def renorm(L:List Nat) (σ:XS D):XV D→XV D
 | .agg l=>.agg (l.map (renorm0 L σ))
 | .fn f l=>.fn f (l.map (renorm0 L σ))
 | t=>renorm0 L σ t
def normT(L:List Nat) (σ:XS D):List Nat→List (Nat×XV D)
 | []=>[]
 | i :: r=>match ef σ.tm i with | some t=>(i,renorm L σ t) :: normT L σ r | none=>normT L σ r
def normC(σ:XS D):List Nat→List (Nat×List (XV D))
 | []=>[]
 | r :: l=>match ef σ.ce r with | some c=>(r,c) :: normC σ l | none=>normC σ l
def norm(σ:XS D) (pers:Prs):XS D:=⟨normT pers.2 σ pers.1,normC σ pers.2,[],([],[])⟩
def anew(σ:XS D):XS D:=norm σ (σ.tm.map (·.1),σ.ce.map (·.1))
def selH(i:Nat) (σ:XS D) (u:HL D []):List Cz→Option ((H:Cz)×HL D (lvS H.s))
 | []=>none
 | H :: r=>match (if H.i=i then convS A H.s σ u else none) with
  | some h=>some ⟨H,h⟩
  | none=>selH i σ u r
def selJ(i:Nat):List Cz→Option Cz
 | []=>none
 | H :: r=>if H.i=i then some H else selJ i r
def marks:jU→Nat
 | .seq a b=>marks a+marks b+1
 | .cond _ a b=>marks a+marks b
 | .block _ b=>marks b
 | .loop b=>marks b+1
 | .pre _ b=>marks b
 | .post b _=>marks b
 | _=>0
def okN0:XV D→Bool
 | .d (.row true _) _=>false
 | .d .nat _=>false
 | .d (.pair _ _) _=>false
 | .gap _ _ _ _=>false
 | _=>true
def okN:XV D→Bool
 | .agg l=>l.all okN0
 | .fn _ l=>l.all okN0
 | t=>okN0 t
def okS(σ:XS D):Bool:=σ.tm.all fun x=>okN x.2
def shr1(x:Nat×Option Nat):XM D M X Unit:=bind (rdT x.1) fun t=>match x.2,t with
 | none,.pk p vs=>bind (take1 A false (.pk p vs)) fun t'=>bind (optM A (immX A t')) fun t2=>wrT A x.1 t2
 | some off,.ptr p vs=>bind (chk A p p.hops.length vs) fun _=>if fitsP p off then bind (getPl A (addP p off)) fun t=>if isOwX t then bind (peek1 A (addP p off) t) fun t'=>bind (take1 A false t') fun _=>ret () else (match t with | .d _ _=>ret () | _=>fail A) else fail A
 | none,.d _ _=>ret ()
 | none,.agg l=>if l.any isOwX then fail A else ret ()
 | _,_=>fail A
def shrs:List (Nat×Option Nat)→XM D M X Unit
 | []=>ret ()
 | x :: r=>bind (shr1 A x) fun _=>shrs r
def roundK(H:Cz) (u:HL D []) (e:jT) (σ:XS D):M (HL den (lvS H.s)⊕yo (H.outs.map fun x=>lvS x.2)):=
 match e with
 | .normal=>onOut A (convS A H.s σ u) (A.next (lvS H.s) (H.outs.map fun x=>lvS x.2))
 | e=>onOut A (injE A e σ u H.outs) fun x=>A.exitL (lvS H.s) (H.outs.map fun x=>lvS x.2) x.1 x.2
def runC(C:Cfg) (u:HL D []):jU→Nat→{X:Type}→XS D→(jT→XS D→M X)→M X
 | .skip,_,_,σ,k=>k .normal σ
 | .nrm pers,_,_,σ,k=>if okS σ then k .normal (norm σ pers) else A.fail
 | .reg _ draw ops pers,_,_,σ,k=>
  match draw with
  | none=>spOps A C u ops σ fun _ σ'=>if okS σ' then k .normal (norm σ' pers) else A.fail
  | some deps=>spFL A C u ops (List.range ops.length) σ fun fs σ'=>if rv deps fs && okS σ' then k .normal (norm σ' pers) else A.fail
 | .seq a b,i,_,σ,k=>match selJ i C.HL with
  | none=>runC C u a (i+1) σ fun e σ'=>match e with | .normal=>runC C u b (i+1+marks a) σ' k | e=>k e σ'
  | some H=>A.join (H.outs.map fun x=>lvS x.2) (runC C u a (i+1) σ fun e σ'=>match injE A e σ' u H.outs with | some x=>A.out (H.outs.map fun x=>lvS x.2) x.1 x.2 | none=>A.fail)
   fun j ho=>onOut A (tO H.outs j ho) fun x=>match x.1 with | .normal=>runC C u b (i+1+marks a) x.2 k | e=>k e x.2
 | .cond c a b,i,_,σ,k=>opd A c σ fun t _=>condX A (runC C u a i (knownO A c true σ) k) (runC C u b (i+marks a) (knownO A c false σ) k) t
 | .block id b,i,_,σ,k=>runC C u b i σ fun e σ'=>match e with | .exit j=>if j=id then k .normal σ' else k (.exit j) σ' | e=>k e σ'
 | .loop b,i,_,σ,k=>match selH A i σ u C.HL with
  | some ⟨H,h⟩=>A.loop H.nm (lvS H.s) (H.outs.map fun x=>lvS x.2) h
   (fun h=>runC C u b (i+1) (DA H.s h) (roundK A H u))
   fun j ho=>onOut A (tO H.outs j ho) fun x=>k x.1 x.2
  | none=>A.fail
 | .exit id,_,_,σ,k=>k (.exit id) σ
 | .ret,_,_,σ,k=>k .ret σ
 | .pre l a,i,_,σ,k=>shrs A l σ fun _ σ'=>if okS σ' then runC C u a i (anew σ') k else A.fail
 | .post a l,i,_,σ,k=>runC C u a i σ fun e σ'=>shrs A l σ' fun _ σ2=>if okS σ2 then k e (anew σ2) else A.fail
def takeR1(np:Nat) (t:XV D):XM D M X (XV D):=
 match t with
 | .pk p vs=>take1 A (!Mu np p.root) (.pk p vs)
 | t=>take1 A true t
def takeRL(np:Nat):List (XV D)→XM D M X (List (XV D))
 | []=>ret []
 | t :: r=>bind (takeR1 A np t) fun t'=>bind (takeRL np r) fun r'=>ret (t' :: r')
def takeRV(np:Nat) (t:XV D):XM D M X (List (XV D)×RSh):=
 match t with
 | .agg l=>bind (takeRL A np l) fun l'=>ret (l',.agg l'.length)
 | t=>bind (takeR1 A np t) fun t'=>ret ([t'],.one)
def res1(np:Nat):TRs→XM D M X (List (XV D)×RSh)
 | .tmp t=>bind (rdT t) fun tv=>takeRV A np tv
 | .cell t n=>bind (rdT t) fun tv=>match tv with
  | .ptr p vs=>bind (chk A p p.hops.length vs) fun _=>match n with
   | none=>bind (getPl A p) fun t=>bind (peek1 A p t) fun t'=>takeRV A np t'
   | some n=>bind (peekL A p n) fun l=>takeRV A np (.agg l)
  | _=>fail A
def resL(np:Nat):List TRs→XM D M X (List (XV D)×List RSh)
 | []=>ret ([],[])
 | r :: rs=>bind (res1 A np r) fun x=>bind (resL np rs) fun y=>ret (x.1++y.1,x.2 :: y.2)
def resF(np:Nat) (l:List TRs):XM D M X (List (XV D)×List RSh):=
 match l with
 | [.tmp t]=>bind (rdT t) fun tv=>match tv with
  | .ptr p vs=>bind (chk A p p.hops.length vs) fun _=>ret ([.ptr p vs],[.ptr])
  | _=>resL A np [.tmp t]
 | qs=>resL A np qs
def isPtrX:XV D→Bool
 | .ptr _ _=>true
 | _=>false
def isShX:XV D→Bool
 | .d (.row false _) _=>true
 | .d (.nilr false) _=>true
 | _=>false
def ptrsInX(pp:List Nat):Nat→List (XV D)→Bool
 | _,[]=>true
 | i,t :: r=>(!isPtrX t || pp.contains i) && (isPtrX t || isShX t || !pp.contains (1000+i)) && ptrsInX pp (i+1) r
def ptsOf(σ:XS D):List (Nat×List (XV D))→List (Nat×List (XV D))
 | []=>[]
 | x :: r=>(x.1,(ef σ.ce x.1).getD []) :: ptsOf σ r
def runT(C:Cfg) (u:HL D []) (tf:TFn) (outs:List XO) (vals:List (XV D)) (pts:List (Nat×List (XV D))):M (yo (outs.map lvO)):=
 if vals.length=tf.np∧(ptrsInX tf.pp 0 vals && (!tf.pp.contains 1000 || pts.isEmpty))=true then
  runC A C u tf.body 0 (mkSt vals pts) fun e σ=>match e with
   | .exit _=>A.fail
   | _=>resF A tf.np tf.res σ fun y σ'=>onOut A (injO A y.1 y.2 (ptsOf σ' pts) u outs) fun x=>A.out (outs.map lvO) x.1 x.2
 else A.fail
end
end X
def er1:(t:CT)→den t→TV
 | .int k,x=>.v (.int k x)
 | .bool,x=>.v (.bool x)
 | .str,x=>.v (.string x)
 | .nat,_=>.dead
 | .row true t,xs=>.ow (List.map (enc t) xs)
 | .row false t,xs=>.sl (List.map (enc t) xs)
 | .nilr true,_=>.ow []
 | .nilr false,_=>.sl []
 | .pair _ _,_=>.dead
def erP(p:XP den):dR:=⟨p.root,p.off,p.hops⟩
mutual
def er:XV den→TV
 | .d t x=>er1 t x
 | .k x=>.v x
 | .dead=>.dead
 | .ptr p vs=>.ptr (erP p) vs
 | .ip l=>.ip (erL l)
 | .pk p vs=>.pk (erP p) vs
 | .pw p vs sz lo n=>.pw (erP p) vs sz lo n
 | .agg l=>.agg (erL l)
 | .tup l=>.tup (erL l)
 | .fn f l=>.fn f (erL l)
 | .gap t x i o=>fU (er1 (.row true t) x) [(i,0,o)] .dead
def erL:List (XV den)→List TV
 | []=>[]
 | x :: r=>er x :: erL r
end
def erC(l:List (Nat×List (XV den))):List (Nat×List TV):=l.map fun x=>(x.1,erL x.2)
def erS(σ:XS den):St:=⟨σ.tm.map fun x=>(x.1,er x.2),erC σ.ce,σ.vr⟩
theorem jV(l:List (XV den)):erL l=l.map er:=by
 induction l with
 | nil=>rfl
 | cons x r ih=>simp only[erL,List.map_cons,ih]
theorem fH(l:List (XV den)):(erL l).length=l.length:=by rw[jV];simp
theorem pX(a b:List (XV den)):erL (a++b)=erL a++erL b:=by simp[jV]
theorem pW(l:List (XV den)) (n:Nat):erL (l.take n)=(erL l).take n:=by simp[jV,List.map_take]
theorem rM(l:List (XV den)) (n:Nat):erL (l.drop n)=(erL l).drop n:=by simp[jV,List.map_drop]
theorem uG(l:List (XV den)) (i:Nat):er (l.getD i .dead)=(erL l).getD i .dead:=by
 rw[jV];simp only[List.getD_eq_getElem?_getD,List.getElem?_map];cases l[i]?<;>rfl
theorem vO(l:List (XV den)) (i:Nat) (t:XV den):erL (l.set i t)=(erL l).set i (er t):=by simp[jV,List.map_set]
theorem Cf(l:List (XV den)):er (l.headD .dead)=(erL l).headD .dead:=by cases l<;>rfl
theorem Lf{o:Bool}{t t':CT}(xs:List (den t)) (f:den t→den t') (h:∀y,enc t' (f y)=enc t y):enc (.row o t') (List.map f xs)=enc (.row o t) xs:=by
 have e:List.map (enc t') (List.map f xs)=List.map (enc t) xs:=by
  rw[List.map_map];exact List.map_congr_left fun y _=>h y
 cases o
 ·show [TV.sl (List.map (enc t') (List.map f xs))]=[TV.sl (List.map (enc t) xs)];rw[e]
 ·show [TV.ow (List.map (enc t') (List.map f xs))]=[TV.ow (List.map (enc t) xs)];rw[e]
theorem qY{t:CT}(h:X.oneT t=true) (x:den t):enc t x=[er1 t x]:=by
 cases t with
 | row o t=>cases o<;>rfl
 | nilr o=>cases o<;>rfl
 | nat=>simp[X.oneT] at h
 | pair a b=>simp[X.oneT] at h
 | _=>rfl
theorem fj:∀(t:CT) (x:den t),(enc t x).length=jS t:=by
 intro t
 induction t with
 | pair a b iha ihb=>intro x;simp only[enc,List.length_append,iha,ihb,jS]
 | row o t=>intro x;cases o<;>rfl
 | nilr o=>intro x;cases o<;>rfl
 | _=>intro x;rfl
theorem rl:∀(t:CT) (x:den t),erL (X.splitX dE t x)=enc t x:=by
 intro t
 induction t with
 | pair a b iha ihb=>
  intro x;simp only[X.splitX,pX,enc];rw[iha,ihb];rfl
 | row o t=>intro x;cases o<;>rfl
 | nilr o=>intro x;cases o<;>rfl
 | _=>intro x;rfl
theorem u7{α:Type}(l:List α):∀i,Jt l i=l[i]?:=by
 induction l with
 | nil=>intro i;rfl
 | cons x r ih=>intro i;cases i with | zero=>rfl | succ i=>simp[Jt,ih]
theorem rk{t:CT}{x:den t}{o:Nat}{v:XV den}(h:Jt (X.splitX dE t x) o=some v):(enc t x)[o]?=some (er v):=by
 rw[u7] at h;rw[← rl,jV,List.getElem?_map,h];rfl
theorem Mt:∀{t u:CT}(x:den t),FW t u=true→enc u (Kt t u x)=enc t x:=by
 intro t
 induction t with
 | int k=>intro u x h;cases u<;>simp[FW] at h;subst h;rfl
 | bool=>intro u x h;cases u<;>simp[FW] at h;rfl
 | str=>intro u x h;cases u<;>simp[FW] at h;rfl
 | nat=>intro u x h;cases u<;>simp[FW] at h;rfl
 | row o t ih=>
  intro u x h;cases u<;>simp[FW] at h;rename_i o' t';obtain⟨rfl,h⟩:=h;exact Lf x (Kt t t') fun y=>ih y h
 | nilr o=>
  intro u x h;cases u<;>simp[FW] at h
  ·subst h;cases o<;>rfl
  ·subst h;cases o<;>rfl
 | pair a b iha ihb=>
  intro u x h;cases u<;>simp[FW] at h;rename_i a' b';show enc a' (Kt a a' x.1)++enc b' (Kt b b' x.2)=enc a x.1++enc b x.2;rw[iha _ h.1,ihb _ h.2]
theorem DR{t u:CT}{x:den t}{y:den u}(h:asT dE t u x=some y):enc u y=enc t x:=by
 unfold asT at h;split at h
 ·rename_i he;have:=rN he;subst this
  injection h with h
  rw[← h]
 ·split at h
  ·rename_i hl
   injection h with h
   rw[← h];exact Mt x hl
  ·simp at h
theorem LO{t u:CT}{x:den t}{y:den u}(h:asT dE t u x=some y):X.oneT u=X.oneT t:=by
 unfold asT at h;split at h
 ·rename_i he;rw[rN he]
 ·split at h
  ·rename_i hl;cases t<;>cases u<;>simp[FW] at hl<;>rfl
  ·simp at h
theorem EM{t u:CT}{x:den t}{y:den u}(h:asT dE t u x=some y):er1 u y=er1 t x:=by
 have h1:=DR h;have h2:=LO h
 cases ht:X.oneT t with
 | true=>
  rw[qY (by rw[h2,ht]),qY ht] at h1;injection h1
 | false=>
  rw[ht] at h2;cases t<;>simp[X.oneT] at ht<;>cases u<;>simp[X.oneT] at h2<;>rfl
theorem EH{α β:Type}(h:α=β) (h2:List α=List β) (xs:List α):cast h2 xs=xs.map (cast h):=by
 subst h;exact (List.map_id xs).symm
theorem wh{α β γ δ:Type}(h1:α=γ) (h2:β=δ) (h:(α×β)=(γ×δ)) (x:α×β):cast h x=(cast h1 x.1,cast h2 x.2):=by
 subst h1;subst h2;rfl
theorem mO:∀t,jN t t=true:=by
 intro t
 induction t with
 | row o t ih=>simpa [jN] using ih
 | pair a b iha ihb=>simp[jN,iha,ihb]
 | _=>simp[jN]
theorem sI:∀t,jN t (qo t)=true:=by
 intro t
 induction t with
 | row o t ih=>cases o with
  | true=>simpa [qo,jN] using ih
  | false=>simpa [qo] using mO (.row false t)
 | pair a b iha ihb=>simp[qo,jN,iha,ihb]
 | nilr o=>simp[qo,jN]
 | _=>simp[qo,jN]
theorem Aj:∀(t:CT) (h:den t=den (qo t)) (x:den t),enc (qo t) (cast h x)=TV.immL (enc t x):=by
 intro t
 induction t with
 | row o t ih=>
  intro h x
  cases o with
  | false=>rfl
  | true=>
   have h':den t=den (qo t):=gg (sI t);have e:(cast h x:den (.row false (qo t)))=(List.map (cast h') (x:List (den t)):List (den (qo t))):=EH h' h x;show enc (.row false (qo t)) (cast h x)=TV.immL [TV.ow (List.map (enc t) (x:List (den t)))];rw[e];show [TV.sl (List.map (enc (qo t)) (List.map (cast h') (x:List (den t))))]=[TV.sl (TV.immLL (List.map (enc t) (x:List (den t))))];rw[List.map_map,TV.immLL_eq,List.map_map];congr 2;refine List.map_congr_left fun y _=>?_;simp only[Function.comp_apply];rw[ih h' y,TV.immL_eq]
 | nilr o=>intro h x;cases o<;>rfl
 | pair a b iha ihb=>
  intro h x;have ha:=gg (sI a);have hb:=gg (sI b);have e:(cast h x:den (.pair (qo a) (qo b)))=((cast ha x.1,cast hb x.2):den (qo a)×den (qo b)):=wh ha hb h x;show enc (.pair (qo a) (qo b)) (cast h x)=TV.immL (enc a x.1++enc b x.2);rw[e];show enc (qo a) (cast ha x.1)++enc (qo b) (cast hb x.2)=_;rw[iha ha,ihb hb];simp[TV.immL_eq]
 | _=>intro h x;rfl
theorem vx{x y:XV den}(h:X.immX dE x=some y):er y=(er x).imm:=by
 unfold X.immX at h;split at h
 ·injection h with h;subst h;rfl
 ·injection h with h;subst h;rfl
 ·injection h with h;subst h;rfl
 ·injection h with h;subst h;rfl
 ·rename_i o _
  injection h with h;subst h
  cases o<;>rfl
 ·rename_i t xs;split at h
  ·rename_i hs
   injection h with h
   subst h;have:=Aj (.row true t) (gg hs) xs;simp only[qo] at this;have e1:enc (.row false (qo t)) (cast (gg hs) xs)=[er1 (.row false (qo t)) (cast (gg hs) xs)]:=rfl;rw[e1] at this;show er1 (.row false (qo t)) (cast (gg hs) xs)=(er1 (.row true t) xs).imm;simpa [TV.immL,enc,er1] using this
  ·simp at h
 ·injection h with h;subst h;rfl
 ·simp at h
theorem JI:∀{l l':List (XV den)},X.immXL dE l=some l'→erL l'=(erL l).map TV.imm:=by
 intro l
 induction l with
 | nil=>intro l' h;simp only[X.immXL,oSJ] at h;subst h;rfl
 | cons x l ih=>
  intro l' h;simp only[X.immXL] at h;split at h
  ·rename_i y r h1 h2
   injection h with h
   subst h;simp only[erL,List.map_cons];rw[vx h1,ih h2]
  ·simp at h
theorem CH:∀{t:CT}{o:Nat}{os:List Nat}{t':CT},shT t o os=some t'→jN t t'=true:=by
 intro t
 induction t with
 | pair a b iha ihb=>
  intro o os t' h;simp only[shT] at h;split at h
  ·obtain⟨u,h1,rfl⟩:=gV h;simp[jN,iha h1,mO]
  ·obtain⟨u,h1,rfl⟩:=gV h;simp[jN,ihb h1,mO]
 | row ow t ih=>
  intro o os t' h
  cases ow with
  | true=>
   cases o with
   | zero=>
    cases os with
    | nil=>simp only[shT,oSJ] at h;subst h;exact sI _
    | cons o os=>
     simp only[shT] at h;obtain⟨u,h1,rfl⟩:=gV h;simpa [jN] using ih h1
   | succ o=>simp only[shT,oSJ] at h;subst h;exact mO _
  | false=>
   cases o with
   | zero=>
    cases os with
    | nil=>simp only[shT,oSJ] at h;subst h;exact sI _
    | cons o os=>simp only[shT,oSJ] at h;subst h;exact mO _
   | succ o=>simp only[shT,oSJ] at h;subst h;exact mO _
 | _=>
  intro o os t' h
  cases o with
  | zero=>
   cases os with
   | nil=>simp only[shT,oSJ] at h;subst h;exact sI _
   | cons o os=>simp only[shT,oSJ] at h;subst h;exact mO _
  | succ o=>simp only[shT,oSJ] at h;subst h;exact mO _
theorem sS(l:List TV) (h:l.length≤1):TV.immL l=l.modify 0 fun y=>eV y []:=by
 match l,h with
 | [],_=>rfl
 | [y],_=>cases y<;>rfl
theorem sT(l:List TV) (h:l.length≤1) (o:Nat) (f:TV→TV):l.modify (o+1) f=l:=List.modify_eq_self (by omega)
theorem El{α:Type}(l l':List α) (f:α→α) {o:Nat}(h:o < l.length):(l++l').modify o f=l.modify o f++l':=by
 apply List.ext_getElem?;intro i;simp only[List.getElem?_modify,List.getElem?_append,List.length_modify];by_cases hi:i < l.length
 ·simp only[hi,if_true]
 ·have:¬ o=i:=by omega
  simp only[hi,if_false,this];simp
theorem AY{α:Type}(l l':List α) (f:α→α) {o:Nat}(h:l.length≤o):(l++l').modify o f=l++l'.modify (o - l.length) f:=by
 apply List.ext_getElem?;intro i;simp only[List.getElem?_modify,List.getElem?_append];by_cases hi:i < l.length
 ·have:¬ o=i:=by omega
  simp only[hi,if_true,this,if_false];simp
 ·have:(o=i)↔(o - l.length=i - l.length):=by omega
  simp only[hi,if_false,this]
theorem Ie:∀(t:CT) (o:Nat) (os:List Nat) (t':CT) (h:den t=den t') (x:den t),shT t o os=some t'→enc t' (cast h x)=(enc t x).modify o fun y=>eV y os:=by
 intro t
 induction t with
 | pair a b iha ihb=>
  intro o os t' h x hs;simp only[shT] at hs;show _=(enc a x.1++enc b x.2).modify o fun y=>eV y os;split at hs
  ·rename_i ho;obtain⟨u,h1,rfl⟩:=gV hs;have ha:=gg (CH h1);have e:(cast h x:den (.pair u b))=((cast ha x.1,cast rfl x.2):den u×den b):=wh ha rfl h x;rw[e];show enc u (cast ha x.1)++enc b x.2=_;rw[iha o os u ha x.1 h1,El _ _ _ (by rw[fj];exact ho)]
  ·rename_i ho;obtain⟨u,h1,rfl⟩:=gV hs;have hb:=gg (CH h1);have e:(cast h x:den (.pair a u))=((cast rfl x.1,cast hb x.2):den a×den u):=wh rfl hb h x;rw[e];show enc a x.1++enc u (cast hb x.2)=_;rw[ihb _ os u hb x.2 h1,AY _ _ _ (by rw[fj];omega),fj]
 | row ow t ih=>
  intro o os t' h x hs
  have hl:(enc (.row ow t) x).length≤1:=by rw[fj];exact Nat.le_refl _
  cases o with
  | succ o=>
   rw[sT _ hl];cases ow<;>simp only[shT,oSJ] at hs<;>subst hs<;>rfl
  | zero=>
   cases os with
   | nil=>
    rw[← sS _ hl]
    have e:t'=qo (.row ow t):=by cases ow<;>simp only[shT,oSJ] at hs<;>exact hs.symm
    subst e;exact Aj _ h x
   | cons o os=>
    cases ow with
    | false=>simp only[shT,oSJ] at hs;subst hs;rfl
    | true=>
     simp only[shT] at hs;obtain⟨u,h1,rfl⟩:=gV hs;have h':den t=den u:=gg (CH h1);have e:(cast h x:den (.row true u))=(List.map (cast h') (x:List (den t)):List (den u)):=EH h' h x;rw[e];show [TV.ow (List.map (enc u) (List.map (cast h') (x:List (den t))))]=[TV.ow ((List.map (enc t) (x:List (den t))).map fun el=>el.modify o fun t=>eV t os)];rw[List.map_map,List.map_map];congr 2;exact List.map_congr_left fun y _=>ih o os u h' y h1
 | nilr ow=>
  intro o os t' h x hs
  have hl:(enc (.nilr ow) x).length≤1:=by rw[fj];exact Nat.le_refl _
  cases o with
  | succ o=>
   rw[sT _ hl];simp only[shT,oSJ] at hs;subst hs;rfl
  | zero=>
   cases os with
   | nil=>
    rw[← sS _ hl];simp only[shT,oSJ] at hs;subst hs;exact Aj _ h x
   | cons o os=>simp only[shT,oSJ] at hs;subst hs;cases ow<;>rfl
 | _=>
  intro o os t' h x hs
  cases o with
  | succ o=>
   rw[sT _ (by rw[fj];simp[jS])];simp only[shT,oSJ] at hs;subst hs;rfl
  | zero=>
   cases os with
   | nil=>
    rw[← sS _ (by rw[fj];simp[jS])];simp only[shT,oSJ] at hs;subst hs;exact Aj _ h x
   | cons o os=>simp only[shT,oSJ] at hs;subst hs;rfl
theorem uW{x y:XV den}{os:List Nat}(h:X.shareX dE x os=some y):er y=eV (er x) os:=by
 unfold X.shareX at h;split at h
 ·rename_i t xs;split at h
  ·rename_i t' hs;split at h
   ·rename_i hsim
    injection h with h
    subst h;have:=Ie t 0 os t' (gg hsim) xs hs;show er1 t' (cast (gg hsim) xs)=eV (er1 t xs) os
    cases ht:X.oneT t with
    | true=>
     have ht':X.oneT t'=true:=by cases t<;>simp[X.oneT] at ht<;>cases t'<;>simp[jN] at hsim<;>rfl
     rw[qY ht,qY ht'] at this;simpa using this
    | false=>
     cases t<;>simp[X.oneT] at ht<;>cases t'<;>simp[jN] at hsim<;>cases os<;>rfl
   ·simp at h
  ·simp at h
 ·simp at h
theorem H9{Y:Type}:∀{hs:List (den .nat×Nat×Nat)}{tv:XV den}{k:XV den→Option Y}{o:Y},X.getX dE tv hs k=some o→∃v,d7 (er tv) hs=some (er v)∧k v=some o:=by
 intro hs
 induction hs with
 | nil=>intro tv k o h;exact⟨tv,rfl,h⟩
 | cons h1 hs ih=>
  intro tv k o h;obtain⟨i,sz,off⟩:=h1;unfold X.getX at h;split at h
  ·rename_i heq;cases heq
  ·rename_i t xs i' sz' o' hs' heq
   injection heq with e1 e2
   injection e1 with e3 e4
   injection e4 with e4 e5
   subst e3;subst e4;subst e5;subst e2;split at h
   ·rename_i hsz;obtain⟨e,he,h2⟩:=dM (show (dF xs i).bind _=some o from h);split at h2
    ·rename_i v hv;obtain⟨w,hw,hk⟩:=ih h2;refine⟨w,?_,hk⟩
     have h3:(List.map (enc t) xs)[i]?=some (enc t e):=by
      have:xs[i]?=some e:=he;rw[List.getElem?_map,this];rfl
     show (match (List.map (enc t) xs)[i]? with | some el=>if el.length=sz then (match el[off]? with | some t=>d7 t hs | none=>none) else none | none=>none)=_;rw[h3];simp only[fj,hsz,if_true,rk hv];exact hw
    ·cases h2
   ·cases h
  ·cases h
theorem yx{G:(u:CT)→Option (den u→den u)}{φ:TV→TV}(hG:∀u h,G u=some h→X.oneT u=true→∀x,er1 u (h x)=φ (er1 u x)):∀{t:CT}{o:Nat}{g:den t→den t},X.setD dE t o G=some g→∀x,enc t (g x)=(enc t x).modify o φ:=by
 intro t
 induction t with
 | pair a b iha ihb=>
  intro o g h x;simp only[X.setD] at h;show _=(enc a x.1++enc b x.2).modify o φ;split at h
  ·rename_i ho;obtain⟨f,h1,rfl⟩:=gV h;show enc a (f x.1)++enc b x.2=_;rw[iha h1,El _ _ _ (by rw[fj];exact ho)]
  ·rename_i ho;obtain⟨f,h1,rfl⟩:=gV h;show enc a x.1++enc b (f x.2)=_;rw[ihb h1,AY _ _ _ (by rw[fj];omega),fj]
 | nat=>intro o g h;simp[X.setD] at h
 | _=>
  intro o g h x
  cases o with
  | succ o=>simp[X.setD] at h
  | zero=>
   simp only[X.setD] at h;have h1:=hG _ g h rfl x;refine (qY rfl (g x)).trans ?_;rw[h1];exact (congrArg (fun l=>List.modify l 0 φ) (qY rfl x)).symm
theorem Ir{v:XV den}{u:CT}{f:den u→den u}(h:X.asF dE v u=some f) (x:den u):er1 u (f x)=er v:=by
 unfold X.asF at h;split at h
 ·obtain⟨y,h1,rfl⟩:=gV h;exact EM h1
 ·simp at h
theorem CK:∀{hs:List (den .nat×Nat×Nat)}{v:XV den}{u:CT}{f:den u→den u},X.setH dE hs v u=some f→∀x,er1 u (f x)=fU (er1 u x) hs (er v):=by
 intro hs
 induction hs with
 | nil=>intro v u f h x;exact Ir h x
 | cons h1 hs ih=>
  intro v u f h x;obtain⟨i,sz,o⟩:=h1
  cases u with
  | row ow t=>cases ow with
   | false=>simp[X.setH] at h
   | true=>
    simp only[X.setH] at h;split at h
    ·rename_i hsz;obtain⟨g,hg,rfl⟩:=gV h;have:=yx (φ:=fun t1=>fU t1 hs (er v)) (fun u h hu _ x=>ih hu x) hg;show TV.ow (List.map (enc t) (List.modify (x:List (den t)) i g))=TV.ow ((List.map (enc t) x).modify i fun el=>el.modify o fun t1=>fU t1 hs (er v));congr 1;apply List.ext_getElem?;intro j;simp only[List.getElem?_map,List.getElem?_modify];by_cases hij:i=j
     ·simp only[hij,if_true]
      cases (x:List (den t))[j]? with
      | none=>rfl
      | some e=>exact congrArg some (this e)
     ·simp only[hij,if_false];simp
    ·simp at h
  | _=>simp[X.setH] at h
theorem K9{tv v w:XV den}{hs:List (den .nat×Nat×Nat)}(h:X.setX dE tv hs v=some w):er w=fU (er tv) hs (er v):=by
 unfold X.setX at h;split at h
 ·injection h with h;subst h;rfl
 ·obtain⟨f,h1,rfl⟩:=gV h;exact CK h1 _
 ·simp at h
theorem uN{α β:Type}(l:List (Nat×α)) (f:α→β) (i:Nat):ef (l.map fun x=>(x.1,f x.2)) i=(ef l i).map f:=by
 induction l with
 | nil=>rfl
 | cons x r ih=>simp only[List.map_cons,ef];split<;>simp_all
theorem p7{α β:Type}(l:List (Nat×α)) (f:α→β) (i:Nat) (v:α):fI (l.map fun x=>(x.1,f x.2)) i (f v)=(fI l i v).map fun x=>(x.1,f x.2):=by
 induction l with
 | nil=>rfl
 | cons x r ih=>
  simp only[List.map_cons,fI];split
  ·simp
  ·simp only[List.map_cons,ih]
theorem JX(σ:XS den) (i:Nat):(erS σ).t i=er (X.tOf σ i):=by
 unfold St.t X.tOf erS;simp only[uN];cases ef σ.tm i<;>rfl
theorem xA(σ:XS den) (r o:Nat):(erS σ).c r o=er (X.cOf σ r o):=by
 unfold St.c X.cOf erS erC;simp only[uN]
 cases ef σ.ce r with
 | none=>rfl
 | some l=>exact (uG l o).symm
theorem yd(σ:XS den) (r:Nat):ef (erS σ).ce r=(ef σ.ce r).map erL:=uN _ _ _
structure ms (σ σ':XS den) (f:p8):Prop where
 r:∀x∈f.1,x∈σ'.lg.1
 w:∀x∈f.2,x∈σ'.lg.2
 r0:∀x∈σ.lg.1,x∈σ'.lg.1
 w0:∀x∈σ.lg.2,x∈σ'.lg.2
theorem ms.refl(σ:XS den):ms σ σ ([],[]):=⟨fun x h=>by simp at h,fun x h=>by simp at h,fun _ h=>h,fun _ h=>h⟩
theorem ms.by{σ σ':XS den}{f:p8}(R W:List Loc) (e1:σ'.lg.1=R++σ.lg.1) (e2:σ'.lg.2=W++σ.lg.2) (h1:f.1=R) (h2:f.2=W):ms σ σ' f:=
 ⟨fun x h=>by rw[e1];simp[← h1,h],fun x h=>by rw[e2];simp[← h2,h],fun x h=>by rw[e1];simp[h],fun x h=>by rw[e2];simp[h]⟩
def Sim{α β Y:Type}(m:XM den Option Y α) (s:SP β) (f:α→β):Prop:=
 ∀(σ:XS den) (k:α→XS den→Option Y) (o:Y),m σ k=some o→∃a σ',s.run (erS σ)=some (f a,erS σ')∧ms σ σ' (s.foot (erS σ))∧k a σ'=some o
theorem SP.foot_bind{α β:Type}(s:SP α) (g:α→SP β):∀{σ σ1:St}{a:α},s.run σ=some (a,σ1)→(s.bind g).foot σ=((s.foot σ).1++((g a).foot σ1).1,(s.foot σ).2++((g a).foot σ1).2):=by
 induction s with
 | ret a=>intro σ σ1 b h;simp only[SP.run,oSJ,oPJ] at h;obtain⟨rfl,rfl⟩:=h;simp[SP.bind,SP.foot]
 | fail=>intro σ σ1 b h;simp[SP.run] at h
 | rdT i k ih=>intro σ σ1 b h;simp only[SP.bind,SP.foot];rw[ih _ h];simp
 | rdC r o k ih=>intro σ σ1 b h;simp only[SP.bind,SP.foot];rw[ih _ h];simp
 | rdH r o k ih=>intro σ σ1 b h;simp only[SP.bind,SP.foot];rw[ih _ h];simp
 | rdV q k ih=>intro σ σ1 b h;simp only[SP.bind,SP.foot];rw[ih _ h];simp
 | wrT i t k ih=>intro σ σ1 b h;simp only[SP.bind,SP.foot];rw[ih h];simp
 | wrC r o t k ih=>
  intro σ σ1 b h;obtain⟨l,hl,ho,h2⟩:=SP.run_wrC h;simp only[SP.bind,SP.foot,hl,ho,if_true];rw[ih h2];simp
 | new r l k ih=>intro σ σ1 b h;simp only[SP.bind,SP.foot];rw[ih h];simp
 | bump q k ih=>intro σ σ1 b h;simp only[SP.bind,SP.foot];rw[ih h];simp
section
variable {α β γ δ Y:Type}
theorem Sim.ret{a:α}{b:β}{f:α→β}(h:f a=b):Sim (Y:=Y) (X.ret a) (.ret b) f:=fun σ k o hk=>⟨a,σ,by rw[h];rfl,ms.refl σ,hk⟩
theorem Sim.fail{s:SP β}{f:α→β}:Sim (Y:=Y) (X.fail dE) s f:=fun σ k o hk=>by cases hk
theorem Sim.bind{m:XM den Option Y α}{s:SP β}{f:α→β}{g:α→XM den Option Y γ}{h:β→SP δ}{f':γ→δ}(h1:Sim m s f) (h2:∀a,Sim (g a) (h (f a)) f'):Sim (X.bind m g) (s.bind h) f':=by
 intro σ k o hk;obtain⟨a,σ1,r1,n1,k1⟩:=h1 σ _ o hk;obtain⟨c,σ2,r2,n2,k2⟩:=h2 a σ1 k o k1;refine⟨c,σ2,by rw[SP.run_bind,r1];exact r2,?_,k2⟩;rw[SP.foot_bind s h r1];refine⟨fun x hx=>?_,fun x hx=>?_,fun x hx=>n2.r0 x (n1.r0 x hx),fun x hx=>n2.w0 x (n1.w0 x hx)⟩
 ·rcases List.mem_append.1 hx with hx | hx
  ·exact n2.r0 x (n1.r x hx)
  ·exact n2.r x hx
 ·rcases List.mem_append.1 hx with hx | hx
  ·exact n2.w0 x (n1.w x hx)
  ·exact n2.w x hx
theorem Sim.map{m:XM den Option Y α}{s:SP β}{f f':α→β}(h:Sim m s f) (e:∀a,f a=f' a):Sim m s f':=by
 have:f=f':=funext e;exact this ▸ h
theorem Sim.opt{o:Option α}{g:α→XM den Option Y γ}{s:SP δ}{f:γ→δ}(h:∀a,o=some a→Sim (g a) s f):Sim (X.bind (X.optM dE o) g) s f:=by
 intro σ k y hk
 cases o with
 | none=>cases hk
 | some a=>exact h a rfl σ k y hk
theorem Sim.br{c:Bool}{m:XM den Option Y α}{s:SP β}{f:α→β}(h:c=true→Sim m s f):Sim (X.brM dE c m) s f:=by
 intro σ k y hk
 cases c with
 | false=>cases hk
 | true=>exact h rfl σ k y hk
theorem Sim.get{ow:Bool}{t:CT}{xs:List (den t)}{i:Nat}{g:den t→XM den Option Y γ}{s:SP δ}{f:γ→δ}(h:∀e,xs[i]?=some e→Sim (g e) s f):Sim (X.atM dE ow t xs i g) s f:=by
 intro σ k y hk;obtain⟨e,h1,h2⟩:=dM (show (dF xs i).bind _=some y from hk);exact h e h1 σ k y h2
theorem Sim.nat{kd:IntKind}{n:Int}{g:Nat→XM den Option Y γ}{s:SP δ}{f:γ→δ}(h:∀m:Nat,n=m→Sim (g m) s f):Sim (X.natM dE kd n g) s f:=by
 intro σ k y hk;obtain⟨e,h1,h2⟩:=dM (show (dT n).bind _=some y from hk);refine h e ?_ σ k y h2
 cases n with
 | ofNat m=>simp only[dT,oSJ] at h1;rw[h1];rfl
 | negSucc m=>simp[dT] at h1
theorem Sim.ite{c:Prop} [Decidable c] {m m':XM den Option Y α}{s:SP β}{f:α→β}(h:c→Sim m s f) (h':¬ c→Sim m' s f):Sim (if c then m else m') s f:=by
 split
 ·exact h ‹_›
 ·exact h' ‹_›
theorem A4{Y:Type}:∀(l:List (XV den)) (k:List (XV den)→Option Y),X.letL dE l k=k l:=by
 intro l
 induction l with
 | nil=>intro k;rfl
 | cons x r ih=>
  intro k
  cases x<;>first | exact ih _ | (simp only[X.letL];exact ih _)
theorem oZ{Y:Type}(t:XV den) (k:XV den→Option Y):X.letX dE t k=k t:=by
 cases t with
 | agg l=>exact A4 l _
 | _=>rfl
theorem Gx(i:Nat):Sim (Y:=Y) (X.rdT i) (.rdT i .ret) er:=fun σ k o hk=>⟨X.tOf σ i,X.lgR (.t i) σ,by simp only[SP.run];rw[JX];rfl,.by [.t i] [] rfl rfl rfl rfl,hk⟩
theorem Gz(r o:Nat):Sim (Y:=Y) (X.rdC r o) (.rdC r o .ret) er:=fun σ k y hk=>⟨X.cOf σ r o,X.lgR (.c r o) σ,by simp only[SP.run];rw[xA];rfl,.by [.c r o] [] rfl rfl rfl rfl,hk⟩
theorem Gw(q:Key):Sim (Y:=Y) (X.rdV q) (.rdV q .ret) id:=fun σ k o hk=>⟨qI σ.vr q,X.lgR (.v q) σ,rfl,.by [.v q] [] rfl rfl rfl rfl,hk⟩
theorem yu(i:Nat) (t:XV den):Sim (Y:=Y) (X.wrT dE i t) (.wrT i (er t) (.ret ())) id:=fun σ k o hk=>by
 unfold X.wrT at hk;rw[oZ] at hk;refine⟨(),⟨fI σ.tm i t,σ.ce,σ.vr,(σ.lg.1,.t i :: σ.lg.2)⟩,?_,.by [] [.t i] rfl rfl rfl rfl,hk⟩;simp only[SP.run,erS,id_eq];rw[p7]
theorem Gy(r o:Nat):Sim (Y:=Y) (X.rdK r o) (.rdH r o .ret) fun v=>(er v).hd:=fun σ k y hk=>⟨X.cOf σ r o,X.lgR (.h r o) σ,by simp only[SP.run];rw[xA];rfl,.by [.h r o] [] rfl rfl rfl rfl,hk⟩
theorem LC{r o:Nat}{t t':TV}{x:Loc}(h:x∈hdW r o t t'):x=.h r o:=by
 unfold hdW at h;split at h
 ·simp at h
 ·simpa using h
def lb{α β Y:Type}(σ:XS den) (m:XM den Option Y α) (s:SP β) (f:α→β):Prop:=
 ∀(k:α→XS den→Option Y) (o:Y),m σ k=some o→∃a σ',s.run (erS σ)=some (f a,erS σ')∧ms σ σ' (s.foot (erS σ))∧k a σ'=some o
theorem lb.bind{σ:XS den}{m:XM den Option Y α}{s:SP β}{f:α→β}{g:α→XM den Option Y γ}{h:β→SP δ}{f':γ→δ}(h1:lb σ m s f) (h2:∀a,Sim (g a) (h (f a)) f'):lb σ (X.bind m g) (s.bind h) f':=by
 intro k o hk;obtain⟨a,σ1,r1,n1,k1⟩:=h1 _ o hk;obtain⟨c,σ2,r2,n2,k2⟩:=h2 a σ1 k o k1;refine⟨c,σ2,by rw[SP.run_bind,r1];exact r2,?_,k2⟩;rw[SP.foot_bind s h r1];refine⟨fun x hx=>?_,fun x hx=>?_,fun x hx=>n2.r0 x (n1.r0 x hx),fun x hx=>n2.w0 x (n1.w0 x hx)⟩
 ·rcases List.mem_append.1 hx with hx | hx
  ·exact n2.r0 x (n1.r x hx)
  ·exact n2.r x hx
 ·rcases List.mem_append.1 hx with hx | hx
  ·exact n2.w0 x (n1.w x hx)
  ·exact n2.w x hx
theorem lb.opt{σ:XS den}{o:Option α}{g:α→XM den Option Y γ}{s:SP δ}{f:γ→δ}(h:∀a,o=some a→lb σ (g a) s f):lb σ (X.bind (X.optM dE o) g) s f:=by
 intro k y hk
 cases o with
 | none=>cases hk
 | some a=>exact h a rfl k y hk
theorem Sim.rdCAt{r o:Nat}{g:XV den→XM den Option Y γ}{h:TV→SP δ}{f:γ→δ}(H:∀ σ tv,(erS σ).c r o=er tv→lb σ (g tv) (h (er tv)) f):Sim (X.bind (X.rdC r o) g) (.rdC r o h) f:=by
 intro σ k y hk;obtain⟨a,σ',h1,h2,h3⟩:=H (X.lgR (.c r o) σ) (X.cOf σ r o) (xA σ r o) k y hk;refine⟨a,σ',by simp only[SP.run];rw[xA];exact h1,⟨fun x hx=>?_,fun x hx=>?_,fun x hx=>h2.r0 x (by simp[X.lgR,hx]),fun x hx=>h2.w0 x hx⟩,h3⟩
 ·simp only[SP.foot,List.mem_cons] at hx;rcases hx with rfl | hx
  ·exact h2.r0 _ (by simp[X.lgR])
  ·rw[xA] at hx;exact h2.r x hx
 ·simp only[SP.foot] at hx;rw[xA] at hx;exact h2.w x hx
theorem lb.wrI{σ:XS den}{r o:Nat}{t:XV den}(hh:(er t).hd=((erS σ).c r o).hd):lb (Y:=Y) σ (X.wrI dE r o t) (.wrC r o (er t) (.ret ())) id:=fun k y hk=>by
 unfold X.wrI at hk;split at hk
 ·rename_i l hl;split at hk
  ·rename_i ho;rw[oZ] at hk
   have hl':ef (erS σ).ce r=some (erL l):=by rw[yd,hl];rfl
   have ho':o < (erL l).length:=by rw[fH];exact ho
   refine⟨(),⟨σ.tm,fI σ.ce r (l.set o t),σ.vr,(.n r :: .h r o :: σ.lg.1,.c r o :: σ.lg.2)⟩,?_,.by [.n r,.h r o] [.c r o] rfl rfl (by simp only[SP.foot,hl',ho',if_true]) (by simp only[SP.foot,hl',ho',if_true,hdW,if_pos hh,List.nil_append]),hk⟩;simp only[SP.run,hl',ho',if_true,id_eq];congr 2;unfold erS erC;simp only;rw[← vO,p7]
  ·cases hk
 ·cases hk
theorem Gr(r o:Nat) (t:XV den):Sim (Y:=Y) (X.wrC dE r o t) (.wrC r o (er t) (.ret ())) id:=fun σ k y hk=>by
 unfold X.wrC at hk;split at hk
 ·rename_i l hl;split at hk
  ·rename_i ho;rw[oZ] at hk
   have hl':ef (erS σ).ce r=some (erL l):=by rw[yd,hl];rfl
   have ho':o < (erL l).length:=by rw[fH];exact ho
   refine⟨(),⟨σ.tm,fI σ.ce r (l.set o t),σ.vr,(.n r :: .h r o :: σ.lg.1,.c r o :: .h r o :: σ.lg.2)⟩,?_,⟨fun x hx=>?_,fun x hx=>?_,fun x hx=>by simp[hx],fun x hx=>by simp[hx]⟩,hk⟩
   rotate_left
   ·simp only[SP.foot,hl',ho',if_true,List.mem_cons,List.not_mem_nil,or_false] at hx
    rcases hx with rfl | rfl<;>simp
   ·simp only[SP.foot,hl',ho',if_true,List.mem_cons,List.mem_append,List.not_mem_nil,or_false] at hx;rcases hx with rfl | hx
    ·simp
    ·simp[LC hx]
   simp only[SP.run,hl',ho',if_true,id_eq];congr 2;unfold erS erC;simp only;rw[← vO,p7]
  ·cases hk
 ·cases hk
theorem KR(r:Nat) (l:List (XV den)):Sim (Y:=Y) (X.new dE r l) (.new r (erL l) (.ret ())) id:=fun σ k y hk=>by
 unfold X.new at hk;rw[A4] at hk;refine⟨(),⟨σ.tm,fI σ.ce r l,oE σ.vr (r,0,0),(.v (r,0,0) :: σ.lg.1,.n r :: .v (r,0,0) :: σ.lg.2)⟩,?_,.by [.v (r,0,0)] [.n r,.v (r,0,0)] rfl rfl rfl rfl,hk⟩;simp only[SP.run,erS,erC,id_eq];rw[p7]
theorem Ee(q:Key):Sim (Y:=Y) (X.bump q) (.bump q (.ret ())) id:=fun σ k y hk=>⟨(),⟨σ.tm,σ.ce,oE σ.vr q,(.v q :: σ.lg.1,.v q :: σ.lg.2)⟩,rfl,.by [.v q] [.v q] rfl rfl rfl rfl,hk⟩
theorem uK(x:Value):er (X.cellX dE x)=fk x:=by
 unfold X.cellX;split
 ·rfl
 ·rfl
 ·rfl
 ·rfl
 ·rename_i h1 h2 h3 h4
  have:fk x=if gU x then .v x else .dead:=by
   unfold fk;split
   ·exact absurd rfl h1
   ·rfl
  rw[this];split<;>rfl
theorem Ih(x:Value):er (X.constX dE x)=qM x:=by
 unfold X.constX;split
 ·simp only[er,qM,jV,List.map_map];congr 1;exact List.map_congr_left fun y _=>uK y
 ·rename_i h;rw[uK];unfold qM;split
  ·exact absurd rfl (h _)
  ·rfl
theorem sH(x:Opd):Sim (Y:=Y) (X.opd dE x) (opd x) er:=by
 cases x with
 | t i=>exact Gx i
 | c x=>exact .ret (Ih x)
 | f f=>exact .ret rfl
theorem uw:∀qs:List Key,Sim (Y:=Y) (X.rdVs qs) (rdVs qs) id:=by
 intro qs
 induction qs with
 | nil=>exact .ret rfl
 | cons q qs ih=>exact (Gw q).bind fun n=>ih.bind fun l=>.ret rfl
theorem fJ(p:XP den) (n:Nat) (vs:List Nat):Sim (Y:=Y) (X.chk dE p n vs) (chk (erP p) n vs) id:=by
 refine (uw _).bind fun l=>?_;refine Sim.ite (fun h=>?_) fun h=>.fail;rw[if_pos (by exact h)];exact .ret rfl
theorem DC(p:XP den) (n:Nat):erP (X.addP p n)=(erP p).add n:=by
 unfold X.addP dR.add erP;simp only
 cases h:List.reverse p.hops with
 | nil=>rfl
 | cons x r=>rfl
theorem Ah(p:XP den) (n:Nat):X.fitsP p n=(erP p).fits n:=by
 unfold X.fitsP dR.fits erP;simp only
 cases h:List.reverse p.hops with
 | nil=>rfl
 | cons x r=>rfl
theorem ux{tv:XV den}{hs:List (den .nat×Nat×Nat)}{g:XV den→XM den Option Y γ}{s:SP δ}{f:γ→δ}(h:∀v,d7 (er tv) hs=some (er v)→Sim (g v) s f):Sim (X.getM dE tv hs g) s f:=by
 intro σ k y hk;obtain⟨v,h1,h2⟩:=H9 hk;exact h v h1 σ k y h2
theorem lb.getX{σ:XS den}{tv:XV den}{hs:List (den .nat×Nat×Nat)}{g:XV den→XM den Option Y γ}{s:SP δ}{f:γ→δ}(h:∀v,d7 (er tv) hs=some (er v)→lb σ (g v) s f):lb σ (X.getM dE tv hs g) s f:=by
 intro k y hk;obtain⟨v,h1,h2⟩:=H9 hk;exact h v h1 k y h2
theorem lb.ite{σ:XS den}{c:Prop} [Decidable c] {m m':XM den Option Y α}{s:SP β}{f:α→β}(h:c→lb σ m s f) (h':¬ c→lb σ m' s f):lb σ (if c then m else m') s f:=by
 split
 ·exact h ‹_›
 ·exact h' ‹_›
theorem jG(p:XP den):Sim (Y:=Y) (X.getPl dE p) (getPl (erP p)) er:=by
 refine (Gz p.root p.off).bind fun tv=>?_;refine ux fun v hv=>?_;show Sim _ (match d7 (er tv) p.hops with | some t=>.ret t | none=>.fail) er;have:d7 (er tv) p.hops=some (er v):=hv;rw[this];exact .ret rfl
theorem D9(p:XP den):Sim (Y:=Y) (X.hdPl dE p) (Ks (erP p)) fun v=>(er v).hd:=by
 unfold X.hdPl Ks;obtain⟨r,o,hs⟩:=p
 cases hs with
 | nil=>exact Gy r o
 | cons h hs=>
  intro σ k y hk;obtain⟨a,σ',h1,h2,h3⟩:=jG ⟨r,o,h :: hs⟩ σ k y hk;refine⟨a,σ',?_,?_,h3⟩
  ·show ((getPl (erP ⟨r,o,h :: hs⟩)).bind fun t=>.ret t.hd).run (erS σ)=_;rw[SP.run_bind,h1];rfl
  ·show ms σ σ' (((getPl (erP ⟨r,o,h :: hs⟩)).bind fun t=>.ret t.hd).foot (erS σ));rw[SP.foot_bind _ _ h1];simpa [SP.foot] using h2
end
section
variable {α β γ δ Y:Type}
theorem Sim.rdT{i:Nat}{g:XV den→XM den Option Y γ}{h:TV→SP δ}{f:γ→δ}(H:∀t,Sim (g t) (h (er t)) f):Sim (X.bind (X.rdT i) g) (.rdT i h) f:=(Gx i).bind H
theorem Sim.rdC{r o:Nat}{g:XV den→XM den Option Y γ}{h:TV→SP δ}{f:γ→δ}(H:∀t,Sim (g t) (h (er t)) f):Sim (X.bind (X.rdC r o) g) (.rdC r o h) f:=(Gz r o).bind H
theorem Sim.rdK{r o:Nat}{g:XV den→XM den Option Y γ}{h:Option (List Nat)→SP δ}{f:γ→δ}(H:∀t,Sim (g t) (h (er t).hd) f):Sim (X.bind (X.rdK r o) g) (.rdH r o h) f:=(Gy r o).bind H
theorem Sim.rdV{q:Key}{g:Nat→XM den Option Y γ}{h:Nat→SP δ}{f:γ→δ}(H:∀t,Sim (g t) (h t) f):Sim (X.bind (X.rdV q) g) (.rdV q h) f:=(Gw q).bind H
theorem Sim.wrT{i:Nat}{t:XV den}{t':TV}{g:Unit→XM den Option Y γ}{h:SP δ}{f:γ→δ}(e:er t=t') (H:Sim (g ()) h f):Sim (X.bind (X.wrT dE i t) g) (.wrT i t' h) f:=by subst e;exact (yu i t).bind (h:=fun _=>h) fun _=>H
theorem Sim.wrC{r o:Nat}{t:XV den}{t':TV}{g:Unit→XM den Option Y γ}{h:SP δ}{f:γ→δ}(e:er t=t') (H:Sim (g ()) h f):Sim (X.bind (X.wrC dE r o t) g) (.wrC r o t' h) f:=by subst e;exact (Gr r o t).bind (h:=fun _=>h) fun _=>H
theorem Sim.new{r:Nat}{l:List (XV den)}{l':List TV}{g:Unit→XM den Option Y γ}{h:SP δ}{f:γ→δ}(e:erL l=l') (H:Sim (g ()) h f):Sim (X.bind (X.new dE r l) g) (.new r l' h) f:=by subst e;exact (KR r l).bind (h:=fun _=>h) fun _=>H
theorem Sim.bump{q:Key}{g:Unit→XM den Option Y γ}{h:SP δ}{f:γ→δ}(H:Sim (g ()) h f):Sim (X.bind (X.bump q) g) (.bump q h) f:=(Ee q).bind (h:=fun _=>h) fun _=>H
theorem H6{α:Type}(c:List (List α)) (i o:Nat) (f:α→α):(c.modify i fun el=>el.modify o f).map List.length=c.map List.length:=by
 apply List.ext_getElem?;intro j;simp only[List.getElem?_map,List.getElem?_modify];by_cases h:i=j
 ·simp only[h,if_true];cases c[j]?<;>simp
 ·simp[h]
theorem vy{tv:TV}{hs:List Hop}{t:TV}(h:hs≠[]):(fU tv hs t).hd=tv.hd:=by
 cases hs with
 | nil=>exact absurd rfl h
 | cons x hs=>
  obtain⟨i,sz,o⟩:=x
  cases tv with
  | ow c=>simp only[fU,TV.hd,H6]
  | _=>rfl
theorem H5{tv:TV}{os:List Nat}(h:os≠[]):(eV tv os).hd=tv.hd:=by
 cases os with
 | nil=>exact absurd rfl h
 | cons o os=>
  cases tv with
  | ow c=>
   simp only[eV,TV.hd];congr 1;simp
  | _=>rfl
theorem Es{r o:Nat}{tv:TV}{hs:List Hop}{t:TV}(h:hs≠[]):hdW r o tv (fU tv hs t)=[]:=by unfold hdW;rw[if_pos (vy h)]
theorem LB{x:XV den}(h:X.isOwX x=false) (h2:mu (er x)=X.isOwX x):(er x).hd=none:=by
 rw[h] at h2
 cases hx:er x<;>first | rfl | (rw[hx] at h2;simp[mu] at h2)
theorem pU(x:XV den):mu (er x)=X.isOwX x:=by
 cases x with
 | d t y=>cases t with
  | row o t=>cases o<;>rfl
  | nilr o=>cases o<;>rfl
  | _=>rfl
 | _=>rfl
theorem rH(x:XV den):rI (er x)=X.isHdrX x:=by
 cases x with
 | d t y=>cases t with
  | row o t=>cases o<;>rfl
  | nilr o=>cases o<;>rfl
  | _=>rfl
 | _=>rfl
theorem Fw{x:XV den}(h:X.okCellX x=true):eX (er x)=true:=by
 cases x with
 | d t y=>cases t with
  | row o t=>cases o<;>first | rfl | simp[X.okCellX] at h
  | nilr o=>cases o<;>rfl
  | nat=>simp[X.okCellX] at h
  | pair a b=>simp[X.okCellX] at h
  | _=>rfl
 | k y=>rfl
 | _=>simp[X.okCellX] at h
theorem oW{x:XV den}(h:X.okCellX x=true) (h2:X.isOwX x=false):(∃y,er x=.v y)∨∃c,er x=.sl c:=by
 cases x with
 | d t y=>cases t with
  | int k=>exact .inl ⟨_,rfl⟩
  | bool=>exact .inl ⟨_,rfl⟩
  | str=>exact .inl ⟨_,rfl⟩
  | row o t=>cases o<;>first | exact .inr ⟨_,rfl⟩ | simp[X.okCellX] at h
  | nilr o=>cases o<;>first | exact .inr ⟨_,rfl⟩ | simp[X.isOwX,X.isOwT] at h2
  | nat=>simp[X.okCellX] at h
  | pair a b=>simp[X.okCellX] at h
 | k y=>exact .inl ⟨_,rfl⟩
 | _=>simp[X.okCellX] at h
theorem mU{v:XV den}(h:X.isOwX v=true):∃c,er v=.ow c:=by
 rw[← pU] at h;cases hv:er v<;>rw[hv] at h<;>simp[mu] at h;exact⟨_,rfl⟩
theorem LM{p:XP den}(h:XP.bare p=true):(erP p).hops=[]:=by
 obtain⟨r,o,hs⟩:=p
 cases hs with
 | nil=>rfl
 | cons=>simp[XP.bare] at h
theorem KE{lo n:Nat}{v w:XV den}(h:X.winX dE lo n v=some w):∃c,er v=.ow c∧er w=.sl (((c.drop lo).take n).map fun e=>e.map TV.imm):=by
 unfold X.winX at h;split at h
 ·rename_i t xs;split at h
  ·rename_i t' ys hi
   injection h with h
   subst h;refine⟨_,rfl,?_⟩;have h1:=vx hi;have h2:TV.sl (List.map (enc t') (ys:List (den t')))=(TV.ow (List.map (enc t) (xs:List (den t)))).imm:=h1;rw[TV.imm_ow] at h2
   injection h2 with h2
   show TV.sl (List.map (enc t') ((List.drop lo (ys:List (den t'))).take n))=_;rw[List.map_take,List.map_drop,h2,List.map_take,List.map_drop]
  ·simp at h
 ·injection h with h;subst h;exact⟨[],rfl,by simp[er,er1]⟩
 ·simp at h
theorem LE{tv w:XV den}{hs:List (den .nat×Nat×Nat)}(h:X.gapX tv hs=some w):er w=fU (er tv) hs .dead:=by
 unfold X.gapX at h;split at h
 ·injection h with h
  subst h;rfl
 ·simp at h
theorem gK(mv:Bool) (x:XV den):Sim (Y:=Y) (X.take1 dE mv x) (take1 mv (er x)) er:=by
 cases x with
 | d t y=>cases t with
  | int k=>exact .ret rfl
  | bool=>exact .ret rfl
  | str=>exact .ret rfl
  | nat=>exact .fail
  | row o t=>cases o<;>first | exact .fail | exact .ret rfl
  | nilr o=>cases o<;>cases mv<;>exact .ret rfl
  | pair a b=>exact .fail
 | k y=>exact .ret rfl
 | pk p vs=>
  refine (fJ p _ vs).bind fun _=>Sim.rdCAt fun σ tv hσ=>lb.getX fun v hv=>?_;refine lb.ite (fun ho=>?_) fun _=>Sim.fail σ;obtain⟨c,hc⟩:=mU ho
  have hv':d7 (er tv) (erP p).hops=some (.ow c):=by rw[← hc];exact hv
  simp only[hv']
  cases mv with
  | true=>
   simp only[if_true];refine lb.ite (fun hb=>?_) fun hb=>?_
   ·exact (show Sim _ _ _ from Sim.wrC (by rw[LM hb];rfl) (Sim.bump (g:=fun _=>X.ret v) (.ret hc))) σ
   ·refine lb.opt fun tv' h1=>?_;have h3:er tv'=fU (er tv) p.hops .dead:=LE h1
    have hne:p.hops≠[]:=by
     obtain⟨r,o,hs⟩:=p
     cases hs with
     | nil=>simp[XP.bare] at hb
     | cons=>simp
    have:=(lb.wrI (Y:=Y) (σ:=σ) (r:=p.root) (o:=p.off) (t:=tv') (by rw[h3,hσ,vy hne])).bind (g:=fun _=>X.bind (X.bump (p.root,p.off,p.hops.length+1)) fun _=>X.ret v) (h:=fun _=>.bump (p.root,p.off,p.hops.length+1) (.ret (TV.ow c))) (f':=er) fun _=>Sim.bump (.ret hc);rw[h3] at this;exact this
  | false=>
   simp only[Bool.false_eq_true,if_false];refine lb.opt fun tv' h1=>lb.opt fun v' h2=>?_
   have hr:er v'=(TV.ow c).imm:=by rw[vx h2,hc]
   by_cases hb:XP.bare p=true
   ·rw[if_pos hb];exact (show Sim _ _ _ from Sim.wrC (uW h1) (Sim.bump (g:=fun _=>X.ret v') (.ret hr))) σ
   ·rw[if_neg hb];have h3:=uW h1
    have hne:X.hopOs p.hops≠[]:=by
     obtain⟨r,o,hs⟩:=p
     cases hs with
     | nil=>simp[XP.bare] at hb
     | cons=>simp[X.hopOs]
    have:=(lb.wrI (Y:=Y) (σ:=σ) (r:=p.root) (o:=p.off) (t:=tv') (by rw[h3,hσ,H5 hne])).bind (g:=fun _=>X.bind (X.bump (p.root,p.off,p.hops.length+1)) fun _=>X.ret v') (h:=fun _=>.bump (p.root,p.off,p.hops.length+1) (.ret (TV.ow c).imm)) (f':=er) fun _=>Sim.bump (.ret hr);rw[h3] at this;exact this
 | pw p vs sz lo n=>
  refine (fJ p _ vs).bind fun _=>Sim.rdC fun tv=>ux fun v hv=>?_;refine Sim.opt fun tv' h1=>Sim.opt fun v' h2=>?_;obtain⟨c,hc,hw⟩:=KE h2
  have hv':d7 (er tv) (erP p).hops=some (.ow c):=by rw[← hc];exact hv
  simp only[hv'];exact Sim.wrC (uW h1) (Sim.bump (.ret hw))
 | _=>exact .fail
theorem oT(mv:Bool):∀l:List (XV den),Sim (Y:=Y) (X.takeL dE mv l) (takeL mv (erL l)) erL:=by
 intro l
 induction l with
 | nil=>exact .ret rfl
 | cons t r ih=>exact (gK mv t).bind fun t'=>ih.bind fun r'=>.ret rfl
theorem we(t:XV den):nz (er t)=erL (X.cellsX t):=by
 cases t with
 | d t y=>cases t with
  | row o t=>cases o<;>rfl
  | nilr o=>cases o<;>rfl
  | _=>rfl
 | _=>rfl
theorem Mz{t:XV den}:(∃l,t=.agg l)∨((∀l,t≠.agg l)∧∀l,er t≠.agg l):=by
 cases t with
 | agg l=>exact .inl ⟨l,rfl⟩
 | d t y=>cases t with
  | row o t=>cases o<;>exact .inr ⟨by simp,by simp[er,er1]⟩
  | nilr o=>cases o<;>exact .inr ⟨by simp,by simp[er,er1]⟩
  | _=>exact .inr ⟨by simp,by simp[er,er1]⟩
 | gap t x i o=>exact .inr ⟨by simp,fun l h=>by cases h⟩
 | _=>exact .inr ⟨by simp,by simp[er]⟩
theorem oS(mv:Bool) (t:XV den):Sim (Y:=Y) (X.takeV dE mv t) (takeV mv (er t)) fun x=>(erL x.1,x.2):=by
 rcases Mz (t:=t) with ⟨l,rfl⟩ | ⟨h1,h2⟩
 ·exact (oT mv l).bind fun l'=>.ret rfl
 ·have e1:X.takeV (X:=Y) dE mv t=X.bind (X.take1 dE mv t) fun t'=>X.ret ([t'],false):=by
   unfold X.takeV;split
   ·exact absurd rfl (h1 _)
   ·rfl
  have e2:takeV mv (er t)=(take1 mv (er t)).bind fun t'=>.ret ([t'],false):=by
   unfold takeV;split
   ·rename_i e;exact absurd e (h2 _)
   ·rfl
  rw[e1,e2];exact (gK mv t).bind fun t'=>.ret rfl
theorem IX(r:Nat):∀(l:List (XV den)) (o:Nat),Sim (Y:=Y) (X.putB dE r o l) (putL ⟨r,o,[]⟩ (erL l)) id:=by
 intro l
 induction l with
 | nil=>intro o;exact .ret rfl
 | cons t l ih=>
  intro o
  have step:∀(g:Unit→XM den Option Y Unit) (s:SP Unit),Sim (g ()) s id→Sim (X.bind (X.rdC r o) fun old=>X.bind (X.wrC dE r o t) fun _=>X.bind (if X.isHdrX old || X.isHdrX t then X.bump (r,o,1) else X.ret ()) g) ((wE ⟨r,o,[]⟩ (er t)).bind fun _=>s) id:=by
   intro g s hg;refine Sim.rdC (h:=fun tv=>SP.bind _ _) fun old=>?_;simp only[d7,rH];by_cases hh:(X.isHdrX old || X.isHdrX t)=true
   ·rw[if_pos hh,if_pos hh];rw[if_pos (by simp)];exact Sim.wrC rfl (Sim.bump hg)
   ·rw[if_neg hh,if_neg hh];exact Sim.wrC rfl ((Sim.ret (a:=()) (b:=()) (f:=id) rfl).bind (h:=fun _=>s) fun _=>hg)
  cases l with
  | nil=>exact step _ (.ret ()) (.ret rfl)
  | cons u l=>exact step _ _ (ih (o+1))
def KF(q:Key):Nat→List (Key×Nat)→List (Key×Nat)
 | 0,v=>v
 | n+1,v=>KF q n (oE v q)
theorem sq{α:Type}(l:List (Nat×α)) (i:Nat) (a:α):ef (fI l i a) i=some a:=by rw[eH];simp
theorem xS{t:CT}(xs:List (den t)) (i o:Nat) (f:den t→den t) (φ:TV→TV) (h:∀x,enc t (f x)=(enc t x).modify o φ):er1 (.row true t) (List.modify xs i f)=.ow ((List.map (enc t) xs).modify i fun el=>el.modify o φ):=by
 show TV.ow (List.map (enc t) (List.modify xs i f))=_;congr 1;apply List.ext_getElem?;intro j;simp only[List.getElem?_map,List.getElem?_modify];by_cases hij:i=j
 ·simp only[hij,if_true]
  cases xs[j]? with
  | none=>rfl
  | some e=>exact congrArg some (h e)
 ·simp only[hij,if_false];simp
theorem H4{t:CT}(e e':den t):(X.splitX dE t e).map X.isHdrX=(X.splitX dE t e').map X.isHdrX:=by
 induction t with
 | pair a b iha ihb=>
  simp only[X.splitX,List.map_append];rw[iha _ (dE.fst a b e'),ihb _ (dE.snd a b e')]
 | _=>rfl
theorem FL:∀(a a' l:List (XV den)),a.map X.isHdrX=a'.map X.isHdrX→X.hdrs a l=X.hdrs a' l:=by
 intro a
 induction a with
 | nil=>intro a' l h;cases a' with | nil=>rfl | cons=>simp at h
 | cons x a ih=>
  intro a' l h
  cases a' with
  | nil=>simp at h
  | cons x' a'=>
   simp only[List.map_cons,List.cons.injEq] at h
   cases l with
   | nil=>rfl
   | cons b l=>simp only[X.hdrs];rw[h.1,ih a' l h.2]
def Hp(r off n:Nat) (f:p8):Prop:=(∀x∈f.1,x=.c r off∨(x=.n r∨x=.h r off)∨(x=.v (r,off,2)∧0 < n))∧∀x∈f.2,x=.c r off∨(x=.v (r,off,2)∧0 < n)
theorem Hk{r off i sz o:Nat}{t:CT}(hsz:jS t=sz) {v old:XV den}{f:den t→den t}{xs:List (den t)}{e:den t}{σ:St}{L:List TV}(hf:X.setD dE t o (X.asF dE v)=some f) (he:xs[i]?=some e) (hold:Jt (X.splitX dE t e) o=some old)
 (hc:σ.c r off=er1 (.row true t) xs) (hL:ef σ.ce r=some L) (ho:off < L.length) :
 (wE ⟨r,off,[(i,sz,o)]⟩ (er v)).run σ=some ((),⟨σ.tm,fI σ.ce r (L.set off (er1 (.row true t) (List.modify xs i f))),if X.isHdrX old || X.isHdrX v then oE σ.vr (r,off,2) else σ.vr⟩) ∧
 Hp r off (if X.isHdrX old || X.isHdrX v then 1 else 0) ((wE ⟨r,off,[(i,sz,o)]⟩ (er v)).foot σ):=by
 have hget:d7 (er1 (.row true t) xs) [(i,sz,o)]=some (er old):=by
  have h3:(List.map (enc t) xs)[i]?=some (enc t e):=by rw[List.getElem?_map,he];rfl
  show (match (List.map (enc t) xs)[i]? with | some el=>if el.length=sz then (match el[o]? with | some t=>d7 t [] | none=>none) else none | none=>none)=_;rw[h3];simp only[fj,hsz,if_true,rk hold];rfl
 have hset:fU (er1 (.row true t) xs) [(i,sz,o)] (er v)=er1 (.row true t) (List.modify xs i f):=by
  rw[xS xs i o f (fun _=>er v) (yx (fun u h hu _ x=>Ir hu x) hf)];rfl
 have hW:hdW r off (er1 (.row true t) xs) (er1 (.row true t) (List.modify xs i f))=[]:=by rw[← hset];exact Es (by simp)
 unfold wE;simp only[SP.run,SP.foot,hc,hget,rH,hset];by_cases hh:(X.isHdrX old || X.isHdrX v)=true
 ·rw[if_pos hh,if_pos hh,if_pos hh,if_pos (by simp)];simp only[SP.run,SP.foot,hL,ho,if_true,hc,hW,List.nil_append];refine⟨rfl,fun x hx=>?_,fun x hx=>?_⟩
  ·simp only[List.length_cons,List.length_nil,List.mem_cons,List.not_mem_nil,or_false] at hx;rcases hx with h | h | h | h
   ·exact .inl h
   ·exact .inr (.inl (.inl h))
   ·exact .inr (.inl (.inr h))
   ·exact .inr (.inr ⟨h,by decide⟩)
  ·simp only[List.length_cons,List.length_nil,List.mem_cons,List.not_mem_nil,or_false] at hx;rcases hx with h | h
   ·exact .inl h
   ·exact .inr ⟨h,by decide⟩
 ·rw[if_neg hh,if_neg hh,if_neg hh];simp only[SP.run,SP.foot,hL,ho,if_true,hc,hW,List.nil_append];refine⟨by first | rfl | trivial,fun x hx=>?_,fun x hx=>?_⟩
  ·simp only[List.mem_cons,List.not_mem_nil,or_false] at hx;rcases hx with h | h | h
   ·exact .inl h
   ·exact .inr (.inl (.inl h))
   ·exact .inr (.inl (.inr h))
  ·simp only[List.mem_cons,List.not_mem_nil,or_false] at hx;exact .inl hx
theorem Ln{r off i sz:Nat}{t:CT}(hsz:jS t=sz):∀(l:List (XV den)) {o:Nat}{f:den t→den t}{xs:List (den t)}{e:den t}{σ:St}{L:List TV},X.setDs dE t o l=some f→xs[i]?=some e→o+l.length≤sz →
 σ.c r off=er1 (.row true t) xs→ef σ.ce r=some L→off < L.length →
 (putL ⟨r,off,[(i,sz,o)]⟩ (erL l)).run σ=some ((),⟨σ.tm,fI σ.ce r (L.set off (er1 (.row true t) (List.modify xs i f))),KF (r,off,2) (X.hdrs ((X.splitX dE t e).drop o) l) σ.vr⟩) ∧
 Hp r off (X.hdrs ((X.splitX dE t e).drop o) l) ((putL ⟨r,off,[(i,sz,o)]⟩ (erL l)).foot σ):=by
 intro l
 induction l with
 | nil=>intro o f xs e σ L h;simp[X.setDs] at h
 | cons v l ih=>
  intro o f xs e σ L hf he ho hc hL hoff
  have hlen:(X.splitX dE t e).length=sz:=by rw[← fH,rl,fj,hsz]
  simp only[List.length_cons] at ho
  obtain⟨old,hold⟩:∃old,Jt (X.splitX dE t e) o=some old:=by
   rw[u7];exact⟨_,oGE (by omega)⟩
  have hold2:(X.splitX dE t e).drop o=old :: (X.splitX dE t e).drop (o+1):=by
   rw[u7] at hold
   have ho3:o < (X.splitX dE t e).length:=by omega
   rw[List.drop_eq_getElem_cons ho3];rw[oGE ho3] at hold
   injection hold with hold
   rw[hold]
  cases l with
  | nil=>
   simp only[X.setDs] at hf;obtain⟨h1,h2⟩:=Hk (r:=r) (off:=off) (i:=i) hsz hf he hold hc hL hoff
   have e1:X.hdrs ((X.splitX dE t e).drop o) [v]=if X.isHdrX old || X.isHdrX v then 1 else 0:=by rw[hold2];simp[X.hdrs]
   have e2:putL ⟨r,off,[(i,sz,o)]⟩ (erL [v])=(wE ⟨r,off,[(i,sz,o)]⟩ (er v)).bind fun _=>.ret ():=rfl;refine⟨?_,?_⟩
   ·rw[e2,SP.run_bind,h1,e1];simp only[oBS,SP.run];by_cases hh:(X.isHdrX old || X.isHdrX v)=true
    ·rw[if_pos hh,if_pos hh];rfl
    ·rw[if_neg hh,if_neg hh];rfl
   ·rw[e2,SP.foot_bind _ _ h1,e1];simpa [SP.foot] using h2
  | cons w vs=>
   simp only[X.setDs] at hf;split at hf
   case h_2=>simp at hf
   rename_i f1 g h1 h2
   injection hf with hf
   subst hf;obtain⟨p1,p2⟩:=Hk (r:=r) (off:=off) (i:=i) hsz h1 he hold hc hL hoff
   have he1:(List.modify xs i f1)[i]?=some (f1 e):=by simp[List.getElem?_modify,he]
   have hofs:∀(vr:List (Key×Nat)),(⟨σ.tm,fI σ.ce r (L.set off (er1 (.row true t) (List.modify xs i f1))),vr⟩:St).c r off=er1 (.row true t) (List.modify xs i f1):=by
    intro vr;unfold St.c;simp only[sq];simp[hoff]
   have hIH:=ih (o:=o+1) (σ:=⟨σ.tm,fI σ.ce r (L.set off (er1 (.row true t) (List.modify xs i f1))),if X.isHdrX old || X.isHdrX v then oE σ.vr (r,off,2) else σ.vr⟩) h2 he1 (by simp only[List.length_cons] at ho ⊢;omega) (hofs _) (sq _ _ _) (by simpa using hoff);obtain⟨q1,q2⟩:=hIH
   have e2:putL ⟨r,off,[(i,sz,o)]⟩ (erL (v :: w :: vs))=(wE ⟨r,off,[(i,sz,o)]⟩ (er v)).bind fun _=>putL ⟨r,off,[(i,sz,o+1)]⟩ (erL (w :: vs)):=by
    have hfit:dR.fits ⟨r,off,[(i,sz,o)]⟩ 1=true:=by simp only[dR.fits,List.reverse_cons,List.reverse_nil,List.nil_append];simp only[List.length_cons] at ho;simpa using (by omega:o+1 < sz)
    show (wE ⟨r,off,[(i,sz,o)]⟩ (er v)).bind (fun _=>if dR.fits ⟨r,off,[(i,sz,o)]⟩ 1 then putL ⟨r,off,[(i,sz,o+1)]⟩ (erL (w :: vs)) else .fail)=_;rw[hfit];rfl
   have e3:X.hdrs ((X.splitX dE t e).drop o) (v :: w :: vs)=(if X.isHdrX old || X.isHdrX v then 1 else 0)+X.hdrs ((X.splitX dE t (f1 e)).drop (o+1)) (w :: vs):=by
    rw[hold2];show _+X.hdrs ((X.splitX dE t e).drop (o+1)) (w :: vs)=_;rw[FL _ ((X.splitX dE t (f1 e)).drop (o+1)) _ (by rw[List.map_drop,List.map_drop,H4 e (f1 e)])]
   have e4:List.modify (List.modify xs i f1) i g=List.modify xs i fun e=>g (f1 e):=by
    apply List.ext_getElem?;intro j;simp only[List.getElem?_modify];by_cases hij:i=j
    ·simp only[hij,if_true];cases xs[j]?<;>rfl
    ·simp[hij]
   refine⟨?_,?_⟩
   ·rw[e2,SP.run_bind,p1];simp only[oBS];rw[q1,e3,ww,List.set_set,e4];congr 2;by_cases hh:(X.isHdrX old || X.isHdrX v)=true
    ·rw[if_pos hh,if_pos hh,Nat.add_comm 1];rfl
    ·rw[if_neg hh,if_neg hh,Nat.zero_add]
   ·rw[e2,SP.foot_bind _ _ p1,e3];refine⟨fun x hx=>?_,fun x hx=>?_⟩
    ·rcases List.mem_append.1 hx with hx | hx
     ·rcases p2.1 x hx with h | h | ⟨h,h'⟩
      ·exact .inl h
      ·exact .inr (.inl h)
      ·exact .inr (.inr ⟨h,by omega⟩)
     ·rcases q2.1 x hx with h | h | ⟨h,h'⟩
      ·exact .inl h
      ·exact .inr (.inl h)
      ·exact .inr (.inr ⟨h,by omega⟩)
    ·rcases List.mem_append.1 hx with hx | hx
     ·rcases p2.2 x hx with h | ⟨h,h'⟩
      ·exact .inl h
      ·exact .inr ⟨h,by omega⟩
     ·rcases q2.2 x hx with h | ⟨h,h'⟩
      ·exact .inl h
      ·exact .inr ⟨h,by omega⟩
theorem Im(q:Key):∀(n:Nat) {σ:XS den}{k:Unit→XS den→Option Y}{y:Y},X.bumps q n σ k=some y→∃ σ',erS σ'=⟨(erS σ).tm,(erS σ).ce,KF q n σ.vr⟩∧(∀x∈σ.lg.1,x∈σ'.lg.1)∧(∀x∈σ.lg.2,x∈σ'.lg.2)∧(0 < n→Loc.v q∈σ'.lg.1∧Loc.v q∈σ'.lg.2)∧k () σ'=some y:=by
 intro n
 induction n with
 | zero=>intro σ k y h;exact⟨σ,rfl,fun _ h=>h,fun _ h=>h,fun h=>by omega,h⟩
 | succ n ih=>
  intro σ k y h;obtain⟨σ',h1,h2,h3,h4,h5⟩:=ih (show X.bumps q n ⟨σ.tm,σ.ce,oE σ.vr q,(.v q :: σ.lg.1,.v q :: σ.lg.2)⟩ k=some y from h);exact⟨σ',h1,fun x hx=>h2 x (by simp[hx]),fun x hx=>h3 x (by simp[hx]),fun _=>⟨h2 _ (by simp),h3 _ (by simp)⟩,h5⟩
theorem Fd{G G1 G2:(u:CT)→Option (den u→den u)}(hG:∀u f,G u=some f→∃f1 g,G1 u=some f1∧G2 u=some g∧∀x,f x=g (f1 x)):∀{t:CT}{o:Nat}{f:den t→den t},X.setD dE t o G=some f→∃f1 g,X.setD dE t o G1=some f1∧X.setD dE t o G2=some g∧∀x,f x=g (f1 x):=by
 intro t
 induction t with
 | pair a b iha ihb=>
  intro o f h;simp only[X.setD] at h ⊢;by_cases ho:o < jS a
  ·rw[if_pos ho] at h;obtain⟨h1,e1,rfl⟩:=gV h;obtain⟨f1,g,e2,e3,e4⟩:=iha e1;rw[if_pos ho,if_pos ho,e2,e3];exact⟨_,_,rfl,rfl,fun x=>by show (h1 x.1,x.2)=(g (f1 x.1),x.2);rw[e4]⟩
  ·rw[if_neg ho] at h;obtain⟨h1,e1,rfl⟩:=gV h;obtain⟨f1,g,e2,e3,e4⟩:=ihb e1;rw[if_neg ho,if_neg ho,e2,e3];exact⟨_,_,rfl,rfl,fun x=>by show (x.1,h1 x.2)=(x.1,g (f1 x.2));rw[e4]⟩
 | nat=>intro o f h;simp[X.setD] at h
 | _=>
  intro o f h
  cases o with
  | succ o=>simp[X.setD] at h
  | zero=>
   simp only[X.setD] at h ⊢
   first
    | exact hG _ f h
    | (obtain⟨a,b,c,d,_⟩:=hG _ f h;exact⟨a,b,c,d,fun _=>trivial⟩)
theorem Gl{t:CT}(xs:List (den t)) (i:Nat) (f1 g f:den t→den t) (h:∀x,f x=g (f1 x)):List.modify xs i f=List.modify (List.modify xs i f1) i g:=by
 apply List.ext_getElem?;intro j;simp only[List.getElem?_modify];by_cases hij:i=j
 ·simp only[hij,if_true]
  cases xs[j]? with
  | none=>rfl
  | some e=>exact congrArg some (h e)
 ·simp[hij]
theorem CJ{pl:List (den .nat×Nat×Nat)}{i sz o:Nat}{v w:XV den}{vs:List (XV den)}:∀{u:CT}{f:den u→den u},X.setHs dE (pl++[(i,sz,o)]) (v :: w :: vs) u=some f→∃f1 g,X.setH dE (pl++[(i,sz,o)]) v u=some f1∧X.setHs dE (pl++[(i,sz,o+1)]) (w :: vs) u=some g∧∀x,f x=g (f1 x):=by
 induction pl with
 | nil=>
  intro u f h
  cases u with
  | row ow t=>cases ow with
   | false=>simp[X.setHs] at h
   | true=>
    simp only[List.nil_append,X.setHs,X.setH] at h ⊢;split at h
    ·rename_i hsz;obtain⟨F,h1,rfl⟩:=gV h;simp only[X.setDs] at h1;split at h1
     ·rename_i f1 g e1 e2
      injection h1 with h1
      have e1':X.setD dE t o (fun u=>X.asF dE v u)=some f1:=e1;rw[if_pos hsz,if_pos hsz,e2];refine⟨fun xs=>List.modify xs i f1,fun xs=>List.modify xs i g,?_,rfl,fun x=>Gl x i f1 g F fun y=>by rw[← h1]⟩;rw[e1'];rfl
     ·simp at h1
    ·simp at h
  | _=>simp[X.setHs] at h
 | cons hp pl ih=>
  intro u f h;obtain⟨i0,sz0,o0⟩:=hp
  obtain⟨q,qs,hq⟩:∃q qs,pl++[(i,sz,o)]=q :: qs:=by cases pl with | nil=>exact⟨_,_,rfl⟩ | cons a b=>exact⟨_,_,rfl⟩
  obtain⟨q',qs',hq'⟩:∃q qs,pl++[(i,sz,o+1)]=q :: qs:=by cases pl with | nil=>exact⟨_,_,rfl⟩ | cons a b=>exact⟨_,_,rfl⟩
  cases u with
  | row ow t=>cases ow with
   | false=>simp only[List.cons_append,hq] at h;simp[X.setHs] at h
   | true=>
    simp only[List.cons_append,hq,hq',X.setHs,X.setH] at h ⊢;split at h
    ·rename_i hsz;obtain⟨F,h1,rfl⟩:=gV h
     obtain⟨f1,g,e1,e2,e3⟩:=Fd (G1:=X.setH dE (q :: qs) v) (G2:=X.setHs dE (q' :: qs') (w :: vs)) (fun u f hf=>by
      rw[← hq] at hf;obtain⟨a,b,c,d,e⟩:=ih hf;rw[hq] at c;rw[hq'] at d
      exact⟨a,b,c,d,e⟩) h1
     rw[if_pos hsz,if_pos hsz,e1,e2];exact⟨_,_,rfl,rfl,fun x=>Gl x i0 f1 g F e3⟩
    ·simp at h
  | _=>simp only[List.cons_append,hq] at h;simp[X.setHs] at h
theorem GX(v:XV den):∀(hs:List (den .nat×Nat×Nat)),hs≠[]→X.setHs dE hs [v]=X.setH dE hs v:=by
 intro hs
 induction hs with
 | nil=>intro h;exact absurd rfl h
 | cons h1 hs ih=>
  intro _;funext u;obtain⟨i,sz,o⟩:=h1
  cases hs with
  | nil=>cases u with
   | row ow t=>cases ow with
    | true=>rfl
    | false=>rfl
   | _=>rfl
  | cons h2 hs=>cases u with
   | row ow t=>cases ow with
    | true=>
     simp only[X.setHs,X.setH];rw[ih (by simp)]
    | false=>rfl
   | _=>rfl
theorem FR{pl:List Hop}{i sz o j:Nat}(hj:o≠j) (v:TV):∀{t:TV},d7 (fU t (pl++[(i,sz,o)]) v) (pl++[(i,sz,j)])=d7 t (pl++[(i,sz,j)]):=by
 induction pl with
 | nil=>
  intro t
  cases t with
  | ow c=>
   show d7 (.ow (c.modify i fun el=>el.modify o fun t1=>fU t1 [] v)) [(i,sz,j)]=d7 (.ow c) [(i,sz,j)];simp only[d7,List.getElem?_modify]
   cases hc:c[i]? with
   | none=>rfl
   | some el=>simp[List.getElem?_modify,hj]
  | _=>rfl
 | cons h pl ih=>
  intro t;obtain⟨i0,sz0,o0⟩:=h
  cases t with
  | ow c=>
   show d7 (.ow (c.modify i0 fun el=>el.modify o0 fun t1=>fU t1 (pl++[(i,sz,o)]) v)) ((i0,sz0,o0) :: (pl++[(i,sz,j)]))=d7 (.ow c) ((i0,sz0,o0) :: (pl++[(i,sz,j)]));simp only[d7,List.getElem?_modify]
   cases hc:c[i0]? with
   | none=>rfl
   | some el=>
    simp only[if_true,Option.map_eq_map,Option.map_some,List.length_modify,List.getElem?_modify];split
    ·cases he:el[o0]? with
     | none=>rfl
     | some t1=>exact ih
    ·rfl
  | _=>rfl
theorem Hn{r off:Nat}{pl:List (den .nat×Nat×Nat)}{i sz:Nat}{u:CT}:∀(l:List (XV den)) {o:Nat}{f:den u→den u}{x:den u}{σ:St}{L:List TV},X.setHs dE (pl++[(i,sz,o)]) l u=some f→0 < l.length→o+l.length≤sz →
 (∀j,j < l.length→∃old,d7 (er1 u x) (pl++[(i,sz,o+j)])=some old∧rI old=false)→(∀v∈l,X.isHdrX v=false)→σ.c r off=er1 u x→ef σ.ce r=some L→off < L.length →
 (putL ⟨r,off,pl++[(i,sz,o)]⟩ (erL l)).run σ=some ((),⟨σ.tm,fI σ.ce r (L.set off (er1 u (f x))),σ.vr⟩) ∧
 (∀z∈((putL ⟨r,off,pl++[(i,sz,o)]⟩ (erL l)).foot σ).1,z=.c r off∨z=.n r∨z=.h r off)∧∀z∈((putL ⟨r,off,pl++[(i,sz,o)]⟩ (erL l)).foot σ).2,z=.c r off:=by
 intro l
 induction l with
 | nil=>intro o f x σ L _ h;simp at h
 | cons v l ih=>
  intro o f x σ L hf _ ho hold hh hc hL hoff;obtain⟨old,hg,hoh⟩:=hold 0 (by simp);rw[Nat.add_zero] at hg
  have hvh:rI (er v)=false:=by rw[rH];exact hh v (by simp)
  have hput:∀(f1:den u→den u),X.setH dE (pl++[(i,sz,o)]) v u=some f1→(wE ⟨r,off,pl++[(i,sz,o)]⟩ (er v)).run σ=some ((),⟨σ.tm,fI σ.ce r (L.set off (er1 u (f1 x))),σ.vr⟩)∧(wE ⟨r,off,pl++[(i,sz,o)]⟩ (er v)).foot σ=([.c r off,.n r,.h r off],[.c r off]):=by
   intro f1 h1;have hs:=CK h1 x;unfold wE;simp only[SP.run,SP.foot,hc];rw[hg];simp only[hoh,hvh,Bool.or_false,Bool.false_eq_true,if_false,SP.run,SP.foot,hL,hoff,if_true,hc,Es (show pl++[(i,sz,o)]≠[] by simp),List.nil_append];rw[hs];exact⟨by first | rfl | trivial,by first | rfl | trivial⟩
  cases l with
  | nil=>
   rw[GX v _ (by simp)] at hf;obtain⟨h1,h2⟩:=hput f hf;have e2:putL ⟨r,off,pl++[(i,sz,o)]⟩ (erL [v])=(wE ⟨r,off,pl++[(i,sz,o)]⟩ (er v)).bind fun _=>.ret ():=rfl;rw[e2,SP.run_bind,h1,SP.foot_bind _ _ h1,h2];refine⟨rfl,fun z hz=>?_,fun z hz=>?_⟩
   ·simp only[SP.foot,List.append_nil,List.mem_cons,List.not_mem_nil,or_false] at hz;exact hz
   ·simp only[SP.foot,List.append_nil,List.mem_cons,List.not_mem_nil,or_false] at hz;exact hz
  | cons w vs=>
   obtain⟨f1,g,h1,h2,h3⟩:=CJ hf;obtain⟨p1,p2⟩:=hput f1 h1;have hs:=CK h1 x;simp only[List.length_cons] at ho
   obtain⟨q1,q2,q3⟩:=ih (o:=o+1) (x:=f1 x) (σ:=⟨σ.tm,fI σ.ce r (L.set off (er1 u (f1 x))),σ.vr⟩) h2 (by simp) (by simp only[List.length_cons];omega) (fun j hj=>by
    obtain⟨old',h4,h5⟩:=hold (j+1) (by simp only[List.length_cons] at hj ⊢;omega);refine⟨old',?_,h5⟩;rw[hs,FR (by omega),show o+1+j=o+(j+1) by omega]
    exact h4) (fun v' hv'=>hh v' (by simp[hv'])) (by
    unfold St.c;simp only[sq]
    simp[hoff]) (sq _ _ _) (by simpa using hoff)
   have e2:putL ⟨r,off,pl++[(i,sz,o)]⟩ (erL (v :: w :: vs))=(wE ⟨r,off,pl++[(i,sz,o)]⟩ (er v)).bind fun _=>putL ⟨r,off,pl++[(i,sz,o+1)]⟩ (erL (w :: vs)):=by
    have hfit:dR.fits ⟨r,off,pl++[(i,sz,o)]⟩ 1=true:=by
     simp only[dR.fits,List.reverse_append,List.reverse_cons,List.reverse_nil,List.nil_append,List.cons_append];simpa using (by omega:o+1 < sz)
    have hadd:dR.add ⟨r,off,pl++[(i,sz,o)]⟩ 1=⟨r,off,pl++[(i,sz,o+1)]⟩:=by simp[dR.add]
    show (wE ⟨r,off,pl++[(i,sz,o)]⟩ (er v)).bind (fun _=>if dR.fits ⟨r,off,pl++[(i,sz,o)]⟩ 1 then putL (dR.add ⟨r,off,pl++[(i,sz,o)]⟩ 1) (erL (w :: vs)) else .fail)=_;rw[hfit,hadd];rfl
   rw[e2,SP.run_bind,p1,SP.foot_bind _ _ p1,p2];simp only[oBS];rw[q1,ww,List.set_set,h3 x];refine⟨rfl,fun z hz=>?_,fun z hz=>?_⟩
   ·rcases List.mem_append.1 hz with hz | hz
    ·simpa using hz
    ·exact q2 z hz
   ·rcases List.mem_append.1 hz with hz | hz
    ·simpa using hz
    ·exact q3 z hz
theorem tz(l:List (den .nat×Nat×Nat)) (i:Nat) (sz o:Nat):X.lastO (l++[(i,sz,o)])=o:=by
 induction l with
 | nil=>rfl
 | cons h l ih=>
  cases l with
  | nil=>rfl
  | cons h2 l=>simpa [X.lastO] using ih
theorem EE:∀{hs:List (den .nat×Nat×Nat)}{tv:XV den}{k:(t:CT)→den t→Option Y}{y:Y},X.elemX dE tv hs k=some y→∃l i sz o t e,hs=l++[(i,sz,o)]∧jS t=sz∧(∀j v,Jt (X.splitX dE t e) j=some v→d7 (er tv) (l++[(i,sz,j)])=some (er v))∧k t e=some y:=by
 intro hs
 induction hs with
 | nil=>
  intro tv k y h
  cases tv with
  | d u x=>cases u with
   | row ow t=>cases ow<;>cases h
   | _=>cases h
  | _=>cases h
 | cons h1 hs ih=>
  intro tv k y h;obtain⟨i,sz,o⟩:=h1
  cases tv with
  | d u x=>cases u with
   | row ow t=>cases ow with
    | true=>
     cases hs with
     | nil=>
      simp only[X.elemX] at h;split at h
      ·rename_i hsz;obtain⟨e,he,h2⟩:=dM (show (dF (x:List (den t)) i).bind _=some y from h);have he:(x:List (den t))[i]?=some e:=he;refine⟨[],i,sz,o,t,e,rfl,hsz,fun j v hv=>?_,h2⟩
       have h3:(List.map (enc t) (x:List (den t)))[i]?=some (enc t e):=by rw[List.getElem?_map,he];rfl
       show (match (List.map (enc t) (x:List (den t)))[i]? with | some el=>if el.length=sz then (match el[j]? with | some t=>d7 t [] | none=>none) else none | none=>none)=_;rw[h3];simp only[fj,hsz,if_true,rk hv];rfl
      ·cases h
     | cons h2 hs=>
      simp only[X.elemX] at h;split at h
      ·rename_i hsz;obtain⟨e,he,h3⟩:=dM (show (dF (x:List (den t)) i).bind _=some y from h);have he:(x:List (den t))[i]?=some e:=he;split at h3
       ·rename_i v hv;obtain⟨l,i',sz',o',t',e',e1,e2,e3,e4⟩:=ih h3;refine⟨(i,sz,o) :: l,i',sz',o',t',e',by rw[e1];rfl,e2,fun j w hw=>?_,e4⟩
        have h4:(List.map (enc t) (x:List (den t)))[i]?=some (enc t e):=by rw[List.getElem?_map,he];rfl
        have:=e3 j w hw;show (match (List.map (enc t) (x:List (den t)))[i]? with | some el=>if el.length=sz then (match el[o]? with | some t=>d7 t (l++[(i',sz',j)]) | none=>none) else none | none=>none)=_;rw[h4];simp only[fj,hsz,if_true,rk hv];exact this
       ·cases h3
      ·cases h
    | false=>cases hs<;>cases h
   | _=>cases hs<;>cases h
  | _=>cases hs<;>cases h
theorem CF(r off:Nat) (hs:List (den .nat×Nat×Nat)) (l:List (XV den)) (h2:2≤hs.length):Sim (Y:=Y) (X.bind (X.rdC r off) fun tv=>X.elemM dE tv hs fun t e=>
 if X.lastO hs+l.length≤jS t∧0 < l.length∧(((X.splitX dE t e).drop (X.lastO hs)).take l.length).all (fun v=>!X.isHdrX v)=true∧l.all (fun v=>!X.isHdrX v)=true then X.bind (X.optM dE (X.setXs dE tv hs l)) fun tv'=>X.wrI dE r off tv' else X.fail dE) (putL ⟨r,off,hs⟩ (erL l)) id:=by
 intro σ k y hk
 have hk:X.elemM dE (X.cOf σ r off) hs (fun t e=>
  if X.lastO hs+l.length≤jS t∧0 < l.length∧(((X.splitX dE t e).drop (X.lastO hs)).take l.length).all (fun v=>!X.isHdrX v)=true∧l.all (fun v=>!X.isHdrX v)=true then X.bind (X.optM dE (X.setXs dE (X.cOf σ r off) hs l)) fun tv'=>X.wrI dE r off tv' else X.fail dE) (X.lgR (.c r off) σ) k=some y:=hk
 obtain⟨pl,i,sz,o,t,e,e1,e2,e3,e4⟩:=EE hk
 have e5:X.lastO hs=o:=by rw[e1,tz]
 rw[e5] at e4;dsimp only at e4;split at e4
 case isFalse=>cases e4
 rename_i hc;obtain⟨hc1,hc2,hc3,hc4⟩:=hc
 have hlen:(X.splitX dE t e).length=sz:=by rw[← fH,rl,fj,e2]
 cases hset:X.setXs dE (X.cOf σ r off) hs l with
 | none=>rw[hset] at e4;cases e4
 | some tv'=>
  rw[hset] at e4;have e4:X.wrI dE r off tv' (X.lgR (.c r off) σ) k=some y:=e4
  cases htv:X.cOf σ r off with
  | d u x=>
   rw[htv] at hset e3;obtain⟨f,hf,hf2⟩:=gV (show (X.setHs dE hs l u).map (fun f=>(XV.d u (f x):XV den))=some tv' from hset);subst hf2;unfold X.wrI at e4;split at e4
   case h_2=>cases e4
   rename_i L hL;have hL:ef σ.ce r=some L:=hL;split at e4
   case isFalse=>cases e4
   rename_i hoff;rw[oZ] at e4;rw[e1] at hf
   obtain⟨q1,q2,q3⟩:=Hn (r:=r) (off:=off) (σ:=erS σ) (L:=erL L) l (x:=x) hf hc2 (by rw[← e2];exact hc1) (fun j hj=>by
    have hjs:o+j < (X.splitX dE t e).length:=by omega
    refine⟨er (X.splitX dE t e)[o+j],e3 (o+j) _ (by rw[u7];exact oGE hjs),?_⟩;rw[rH]
    have:=List.all_eq_true.1 hc3 (X.splitX dE t e)[o+j] (List.mem_of_getElem? (i:=j) (by
     rw[List.getElem?_take,if_pos hj,List.getElem?_drop]
     exact oGE hjs))
    simpa using this) (fun v hv=>by simpa using List.all_eq_true.1 hc4 v hv) (by rw[xA,htv];rfl) (by rw[yd,hL];rfl) (by rw[fH];exact hoff)
   rw[← e1] at q1 q2 q3;refine⟨(),⟨σ.tm,fI σ.ce r (L.set off (.d u (f x))),σ.vr,(.n r :: .h r off :: .c r off :: σ.lg.1,.c r off :: σ.lg.2)⟩,?_,⟨fun z hz=>?_,fun z hz=>?_,fun z hz=>by simp[hz],fun z hz=>by simp[hz]⟩,e4⟩
   ·rw[q1];simp only[id_eq,oSJ,oPJ,true_and];unfold erS erC;simp only;rw[← p7,vO];rfl
   ·rcases q2 z hz with h | h | h<;>simp[h]
   ·simp[q3 z hz]
  | _=>rw[htv] at hset;cases hset
theorem Hq{r off i sz o:Nat}{l:List (XV den)}{tv:XV den}{σ:XS den}{k:Unit→XS den→Option Y}{y:Y}(h:X.putEl dE r off i sz o l tv σ k=some y) :
 (∃t xs,tv=.d (.row true t) xs∧(jS t=sz∧o+l.length≤sz∧0 < l.length)∧(X.atM dE true t xs i fun e=>X.bind (X.optM dE (X.setDs dE t o l)) fun f=>X.bind (X.wrI dE r off (.d (.row true t) (dE.upd t xs i f))) fun _=>X.bumps (r,off,2) (X.hdrs ((X.splitX dE t e).drop o) l)) σ k=some y) ∨
 ∃t xs i' o',tv=.gap t xs i' o'∧(jS t=sz∧o=o'∧o < sz∧l.length=1)∧(X.atM dE true t xs i fun _=>X.brM dE (dE.eqN i i') (X.bind (X.optM dE (X.setDs dE t o l)) fun f=>X.bind (X.wrI dE r off (.d (.row true t) (dE.upd t xs i f))) fun _=>X.bump (r,off,2))) σ k=some y:=by
 cases tv with
 | d u xs=>cases u with
  | row ow t=>cases ow with
   | true=>
    by_cases hc:jS t=sz∧o+l.length≤sz∧0 < l.length
    ·simp only[X.putEl,if_pos hc] at h;exact .inl ⟨t,xs,rfl,hc,h⟩
    ·simp only[X.putEl,if_neg hc] at h;cases h
   | false=>cases h
  | _=>cases h
 | gap t xs i' o'=>
  by_cases hc:jS t=sz∧o=o'∧o < sz∧l.length=1
  ·simp only[X.putEl,if_pos hc] at h;exact .inr ⟨t,xs,i',o',rfl,hc,h⟩
  ·simp only[X.putEl,if_neg hc] at h;cases h
 | _=>cases h
theorem LK{c:Bool}{m:XM den Option Y α}{σ:XS den}{k:α→XS den→Option Y}{y:Y}(h:X.brM dE c m σ k=some y):c=true∧m σ k=some y:=by
 cases c with
 | false=>cases h
 | true=>exact⟨rfl,h⟩
theorem JQ{t:CT}{xs:List (den t)}{i sz o:Nat}{e:den t}(hsz:jS t=sz) (he:xs[i]?=some e) (ho:o < sz):d7 (fU (er1 (.row true t) xs) [(i,0,o)] .dead) [(i,sz,o)]=some .dead:=by
 have h3:(List.map (enc t) xs)[i]?=some (enc t e):=by rw[List.getElem?_map,he];rfl
 show (match ((List.map (enc t) xs).modify i fun el=>el.modify o fun _=>TV.dead)[i]? with | some el=>if el.length=sz then (match el[o]? with | some t=>d7 t [] | none=>none) else none | none=>none)=_;rw[List.getElem?_modify,h3]
 have h4:o < (enc t e).length:=by rw[fj,hsz];exact ho
 simp[fj,hsz,List.getElem?_modify,oGE h4,d7]
theorem I9{tv:TV}{i sz sz' o:Nat}{u v:TV}:fU (fU tv [(i,sz',o)] u) [(i,sz,o)] v=fU tv [(i,sz,o)] v:=by
 cases tv with
 | ow c=>
  simp only[fU];congr 1;apply List.ext_getElem?;intro j;simp only[List.getElem?_modify];by_cases h:i=j
  ·simp only[h,if_true]
   cases c[j]? with
   | none=>rfl
   | some el=>
    show some ((el.modify o fun _=>u).modify o fun _=>v)=some (el.modify o fun _=>v);congr 1;apply List.ext_getElem?;intro k;simp only[List.getElem?_modify];by_cases h:o=k
    ·simp only[h,if_true];cases el[k]?<;>rfl
    ·simp[h]
  ·simp[h]
 | _=>rfl
theorem E8{r off i sz o:Nat}{t:CT}{xs:List (den t)}{l:List (XV den)}{σ:XS den}{k:Unit→XS den→Option Y}{y:Y}(hcell:X.cOf σ r off=.gap t xs i o) (hc:jS t=sz∧o < sz∧l.length=1) {e:den t}(he:xs[i]?=some e)
 (hk:(X.bind (X.optM dE (X.setDs dE t o l)) fun f=>X.bind (X.wrI dE r off (.d (.row true t) (dE.upd t xs i f))) fun _=>X.bump (r,off,2)) (X.lgR (.c r off) σ) k=some y) :
 ∃a σ',(putL ⟨r,off,[(i,sz,o)]⟩ (erL l)).run (erS σ)=some (id a,erS σ')∧ms σ σ' ((putL ⟨r,off,[(i,sz,o)]⟩ (erL l)).foot (erS σ))∧k a σ'=some y:=by
 obtain⟨hsz,ho,hl⟩:=hc
 obtain⟨v,rfl⟩:∃v,l=[v]:=by
  match l,hl with
  | [v],_=>exact⟨v,rfl⟩
 cases hf:X.setDs dE t o [v] with
 | none=>rw[hf] at hk;cases hk
 | some f=>
  rw[hf] at hk;have hf:X.setD dE t o (X.asF dE v)=some f:=hf
  have hset:fU (er1 (.row true t) xs) [(i,sz,o)] (er v)=er1 (.row true t) (List.modify xs i f):=by
   rw[xS xs i o f (fun _=>er v) (yx (fun u h hu _ x=>Ir hu x) hf)];rfl
  have hcell':(erS σ).c r off=fU (er1 (.row true t) xs) [(i,0,o)] .dead:=by rw[xA,hcell];rfl
  have hgl:=(lb.wrI (Y:=Y) (σ:=X.lgR (.c r off) σ) (r:=r) (o:=off) (t:=.d (.row true t) (List.modify xs i f)) (by
   show (er1 (.row true t) (List.modify xs i f)).hd=((erS σ).c r off).hd
   rw[hcell',vy (by simp),← hset,vy (by simp)])).bind (g:=fun _=>X.bump (r,off,2)) (h:=fun _=>.bump (r,off,2) (.ret ())) (f':=id) fun _=>Ee (r,off,2)
  obtain⟨a,σ',h1,h2,h3⟩:=hgl k y hk
  have e1:putL ⟨r,off,[(i,sz,o)]⟩ (erL [v])=.rdC r off fun tv=>(match d7 tv [(i,sz,o)] with
   | some old=>if rI old || rI (er v) then (if 1≤1 then SP.wrC r off (fU tv [(i,sz,o)] (er v)) (.bump (r,off,2) (.ret ())) else .fail) else .wrC r off (fU tv [(i,sz,o)] (er v)) (.ret ())
   | none=>.fail).bind fun _=>.ret ():=rfl
  have e2:∀s:TV,s=(erS σ).c r off→((match d7 s [(i,sz,o)] with
   | some old=>if rI old || rI (er v) then (if 1≤1 then SP.wrC r off (fU s [(i,sz,o)] (er v)) (.bump (r,off,2) (.ret ())) else .fail) else .wrC r off (fU s [(i,sz,o)] (er v)) (.ret ())
   | none=>.fail:SP Unit).bind fun _=>.ret ())=.wrC r off (er1 (.row true t) (List.modify xs i f)) (.bump (r,off,2) (.ret ())):=by
   intro s hs;rw[hs,hcell',JQ hsz he ho,I9,hset];rfl
  refine⟨a,σ',?_,⟨fun x hx=>?_,fun x hx=>?_,fun x hx=>h2.r0 x (by simp[X.lgR,hx]),fun x hx=>h2.w0 x hx⟩,h3⟩
  ·rw[e1];simp only[SP.run];rw[e2 _ rfl];exact h1
  ·rw[e1] at hx;simp only[SP.foot,List.mem_cons] at hx;rcases hx with rfl | hx
   ·exact h2.r0 _ (by simp[X.lgR])
   ·rw[e2 _ rfl] at hx;exact h2.r x hx
  ·rw[e1] at hx;simp only[SP.foot] at hx;rw[e2 _ rfl] at hx;exact h2.w x hx
theorem D7(p:XP den) (l:List (XV den)):Sim (Y:=Y) (X.putL dE p l) (putL (erP p) (erL l)) id:=by
 obtain⟨r,off,hops⟩:=p
 match hops with
 | []=>exact IX r l off
 | [(i,sz,o)]=>
  intro σ k y hk;show ∃a σ',(putL ⟨r,off,[(i,sz,o)]⟩ (erL l)).run (erS σ)=some (id a,erS σ')∧_;have hk:X.putEl dE r off i sz o l (X.cOf σ r off) (X.lgR (.c r off) σ) k=some y:=hk;rcases Hq hk with ⟨t,xs,hcell,⟨hsz,hol,hl0⟩,hk⟩ | ⟨t,xs,i',o',hcell,⟨hsz,hoo,hol,hl0⟩,hk⟩
  rotate_left
  ·obtain⟨e,he,hk⟩:=dM (show (dF xs i).bind _=some y from hk);have he:(xs:List (den t))[i]?=some e:=he;dsimp only at hk;obtain⟨hb,hk9⟩:=LK hk;have hii:i=i':=Nat.eq_of_beq_eq_true hb;subst hii;subst hoo;exact E8 hcell ⟨hsz,hol,hl0⟩ he hk9
  ··skip
    obtain⟨e,he,hk⟩:=dM (show (dF xs i).bind _=some y from hk);have he:(xs:List (den t))[i]?=some e:=he
    cases hf:X.setDs dE t o l with
    | none=>rw[hf] at hk;cases hk
    | some f=>
     rw[hf] at hk;have hk:X.wrI dE r off (.d (.row true t) (dE.upd t xs i f)) (X.lgR (.c r off) σ) (fun _ σ'=>X.bumps (r,off,2) (X.hdrs ((X.splitX dE t e).drop o) l) σ' k)=some y:=hk;unfold X.wrI at hk;split at hk
     case h_2=>cases hk
     rename_i L hL;have hL:ef σ.ce r=some L:=hL;split at hk
     case isFalse=>cases hk
     rename_i hoff;rw[oZ] at hk;obtain⟨σ',h1,h2,h3,h4,h5⟩:=Im _ _ hk
     have hc:(erS σ).c r off=er1 (.row true t) xs:=by rw[xA,hcell];rfl
     have hL':ef (erS σ).ce r=some (erL L):=by rw[yd,hL];rfl
     obtain⟨q1,q2⟩:=Ln hsz l (σ:=erS σ) hf he hol hc hL' (by rw[fH];exact hoff);refine⟨(),σ',?_,⟨fun x hx=>?_,fun x hx=>?_,fun x hx=>h2 x (by simp[X.lgR,hx]),fun x hx=>h3 x (by simp[X.lgR,hx])⟩,h5⟩
     ·rw[q1,h1];simp only[id_eq,oSJ,oPJ,true_and];congr 1;show fI (erC σ.ce) r _=erC (fI σ.ce r _);unfold erC;rw[← p7,vO];rfl
     ·rcases q2.1 x hx with h | (h | h) | ⟨h,h'⟩
      ·exact h2 x (by simp[X.lgR,h])
      ·exact h2 x (by simp[X.lgR,h])
      ·exact h2 x (by simp[X.lgR,h])
      ·rw[h];exact (h4 h').1
     ·rcases q2.2 x hx with h | ⟨h,h'⟩
      ·exact h3 x (by simp[X.lgR,h])
      ·rw[h];exact (h4 h').2
 | h1 :: h2 :: hs=>exact CF r off (h1 :: h2 :: hs) l (by simp)
end
end Go.Proofs.YtdcpgpngdcfhhaaGreat
