/- Part of the proof; no condition. -/
import Derived.Calls
import Derived.Below
import Derived.Laws.AppendOwnNone
import Derived.Laws.IdiomCopy
import Derived.Laws.MakeOwn
import Derived.Lib.AppendZerosOnto
set_option linter.unusedVariables false
set_option linter.unusedSimpArgs false
namespace Go.Proofs.YtakfoejcjdcgbaaGreat
open Go.RowKit
theorem oBS{α β:Type _}(a:α)(f:α->Option β):(some a).bind f=f a:=rfl
theorem oSJ{α:Type _}(a b:α):(some a=some b)=(a=b):=Option.some.injEq a b
theorem oGE{α:Type _}{l:List α}{i:Nat}(h:i<l.length):l[i]?=some l[i]:=List.getElem?_eq_getElem h
theorem oPJ{α β:Type _}(a:α)(b:β)(c:α)(d:β):((a,b)=(c,d))=(a=c/\b=d):=Prod.mk.injEq a b c d
theorem oGS{α:Type _}{l:List α}{i:Nat}{a:α}:l[i]?=some a->∃h:i<l.length,l[i]=a:=List.getElem?_eq_some_iff.1
theorem oDT{p:Prop}[i:Decidable p](h:p):decide p=true:=decide_eq_true h
theorem oDF{p:Prop}[i:Decidable p](h:¬p):decide p=false:=decide_eq_false h
theorem oDE{p:Prop}[i:Decidable p]:(decide p=true)=p:=decide_eq_true_eq
theorem oCT{α:Sort _}(a b:α):cond true a b=a:=rfl
theorem oCF{α:Sort _}(a b:α):cond false a b=b:=rfl
theorem oBA(a b:Bool):((a&&b)=true)=(a=true/\b=true):=Bool.and_eq_true a b
theorem oGD{α:Type _}{l:List α}{i:Nat}{a:α}:l.getD i a=l[i]?.getD a:=List.getD_eq_getElem?_getD ..
theorem oLC{α:Type _}{a:α}{l:List α}:(a::l).length=l.length+1:=List.length_cons ..
theorem oMS{α β:Type _}(a:α)(f:α->β):(some a).map f=some (f a):=rfl
theorem oLT{α:Type _}{i:Nat}{l:List α}:(l.take i).length=min i l.length:=List.length_take ..
theorem oTN(n:Nat):((n:Int)).toNat=n:=rfl
theorem oNT:(!true)=false:=rfl
theorem oBF{α:Type _}[BEq α][LawfulBEq α]{a b:α}:a≠b->(a==b)=false:=beq_eq_false_iff_ne.2
theorem oEN{α:Type _}{l:List α}(h:l.length=0):l=[]:=List.eq_nil_of_length_eq_zero h
theorem oGN{α:Type _}{l:List α}{i:Nat}(h:l.length<=i):l[i]?=none:=List.getElem?_eq_none h
theorem oLM{α:Type _}{f:α->α}{l:List α}{i:Nat}:(l.modify i f).length=l.length:=List.length_modify ..
theorem oIP{c:Prop}{h:Decidable c}(hc:c){α:Sort _}{t e:α}:ite c t e=t:=if_pos hc
theorem oIN{c:Prop}{h:Decidable c}(hc:¬c){α:Sort _}{t e:α}:ite c t e=e:=if_neg hc
abbrev Hop:=Nat×Nat×Nat
structure bS where
 root:Nat
 off:Nat
 hops:List Hop
inductive TV where
 |v (x:Value)
 |sl (c:List (List TV))
 |ow (c:List (List TV))
 |dead
 |ptr (p:bS) (vs:List Nat)
 |ip (cs:List TV)
 |pk (p:bS) (vs:List Nat)
 |pw (p:bS) (vs:List Nat) (sz lo n:Nat)
 |agg (l:List TV)
 |tup (l:List TV)
 |fn (f:FuncId) (cap:List TV)
def gc:Value->Bool
 |.bool _|.int _ _|.string _|.pointer none|.nilFunc|.nilIface=>true
 |_=>false
theorem pQ{x:Value}(h:gc x=true):x.oneCell'=true:=by
 cases x<;>simp_all [gc,Value.oneCell']
mutual
def TV.imm:TV->TV
 |.ow c=>.sl (kg c)
 |.v x=>.v x
 |.sl c=>.sl c
 |.dead=>.dead
 |.ptr p vs=>.ptr p vs
 |.ip cs=>.ip cs
 |.pk p vs=>.pk p vs
 |.pw p vs sz lo n=>.pw p vs sz lo n
 |.agg l=>.agg (fe l)
 |.tup l=>.tup (fe l)
 |.fn f cap=>.fn f cap
def fe:List TV->List TV
 | []=>[]
 |x::r=>x.imm::fe r
def kg:List (List TV)->List (List TV)
 | []=>[]
 |x::r=>fe x::kg r
end
theorem mf(l:List TV):fe l=l.map TV.imm:=by
 induction l with
 |nil=>rfl
 |cons x r ih=>simp[fe,ih]
theorem lw(l:List (List TV)):kg l=l.map (λe=>e.map TV.imm):=by
 induction l with
 |nil=>rfl
 |cons x r ih=>simp[kg,ih,mf]
theorem fH(c:List (List TV)):(TV.ow c).imm=.sl (c.map (λe=>e.map TV.imm)):=by
 simp[TV.imm,lw]
inductive io (w:World)(F:Nat->Prop):TV->Value->Prop
 |v {x:Value} (h:gc x=true):io w F (.v x) x
 |dead {x:Value} (h:x.oneCell'=true):io w F .dead x
 |sl {c:List (List TV)} {a:Option Addr} {cap:Nat} (sz:Nat) (u:Nat->Nat->Value)
  (hsz:∀i (h:i<c.length),c[i].length=sz)(hcap:c.length<=cap)(hmax:cap<=maxLen)(hnil:a=none->cap=0)
  (hcell:∀i j,i<c.length->j<sz->∃b o,a=some ⟨b,o,none⟩/\F b/\w.cell? ⟨b,o+(i*sz+j),none⟩=some (u i j))
  (hrec:∀i j (h:i<c.length)(h':j<c[i].length),io w F (c[i][j]) (u i j)):
  io w F (.sl c) (.slice a c.length cap)
theorem io.one{w:World}{F:Nat->Prop}{t:TV}{x:Value}(h:io w F t x):x.oneCell'=true:=by
 cases h with
 |v h=>exact pQ h
 |dead h=>exact h
 |sl=>rfl
theorem io.frame{w w':World}{F F':Nat->Prop}{t:TV}{x:Value}(h:io w F t x)(hw:∀k,F k->k<w.heap.size->w'.heap[k]?=w.heap[k]?)(hF:∀k,F k->k<w.heap.size->F' k):io w' F' t x:=by
 induction h with
 |v h=>exact .v h
 |dead h=>exact .dead h
 |sl sz u hsz hcap hmax hnil hcell hrec ih=>
  refine .sl sz u hsz hcap hmax hnil (λi j hi hj=>?_) ih;obtain⟨b,o,e,hb,hc⟩:=hcell i j hi hj;have hlt:=World.block_lt_of_cell? w _ hc;exact⟨b,o,e,hF b hb hlt,by rw[World.cell?_of_block (w:=w) (hw b hb hlt)];exact hc⟩
inductive fa (w:World)(F:Nat->Prop):(Nat->Prop)->TV->Value->Prop
 |v {fp:Nat->Prop} {x:Value} (hfp:∀k,¬fp k) (h:gc x=true):fa w F fp (.v x) x
 |dead {fp:Nat->Prop} {x:Value} (hfp:∀k,¬fp k) (h:x.oneCell'=true):fa w F fp .dead x
 |sl {fp:Nat->Prop} {c:List (List TV)} {x:Value} (hfp:∀k,¬fp k) (h:io w F (.sl c) x):fa w F fp (.sl c) x
 |nil {fp:Nat->Prop} {a:Option Addr} (hfp:∀k,¬fp k):fa w F fp (.ow []) (.slice a 0 0)
 |ow {fp:Nat->Prop} {c:List (List TV)} {b cap:Nat} {cur:Array Value} {e:TypeId} (sz:Nat) (u:Nat->Nat->Value) (f:Nat->Nat->Nat->Prop)
  (hfp:∀k,fp k↔k=b\/∃i j,i<c.length/\j<sz/\f i j k)
  (hb:w.heap[b]?=some (.cells cur e (0,0)))
  (hsz:∀i (h:i<c.length),c[i].length=sz)(hcap:c.length<=cap)(hz0:c.length=0->cap=0)(hmax:cap<=maxLen)(hcur:cur.size=cap*sz)
  (hcell:∀i j,i<c.length->j<sz->cur[i*sz+j]?=some (u i j))
  (hrec:∀i j (h:i<c.length)(h':j<c[i].length),fa w F (f i j) (c[i][j]) (u i j))
  (hnb:∀i j,¬f i j b)
  (hdis:∀i j i' j' k,f i j k->f i' j' k->i=i'/\j=j'):
  fa w F fp (.ow c) (.slice (some ⟨b,0,none⟩) c.length cap)
theorem fa.one{w:World}{F fp:Nat->Prop}{t:TV}{x:Value}(h:fa w F fp t x):x.oneCell'=true:=by
 cases h with
 |v _ h=>exact pQ h
 |dead _ h=>exact h
 |sl _ h=>exact h.one
 |nil=>rfl
 |ow=>rfl
theorem fa.live{w:World}{F fp:Nat->Prop}{t:TV}{x:Value}(h:fa w F fp t x):∀k,fp k->k<w.heap.size:=by
 induction h with
 |v hfp=>exact λk hk=>(hfp k hk).elim
 |dead hfp=>exact λk hk=>(hfp k hk).elim
 |sl hfp=>exact λk hk=>(hfp k hk).elim
 |nil hfp=>exact λk hk=>(hfp k hk).elim
 |ow sz u f hfp hb hsz hcap hz0 hmax hcur hcell hrec hnb hdis ih=>
  intro k hk
  rcases(hfp k).1 hk with rfl|⟨i,j,hi,hj,hf⟩
  ·rcases Nat.lt_or_ge k w.heap.size with h|h
   ·exact h
   ·simp[Array.getElem?_eq_none h]at hb
  ·exact ih i j hi (by rw[hsz i hi];exact hj) k hf
theorem fa.frame{w w':World}{F F' fp:Nat->Prop}{t:TV}{x:Value}(h:fa w F fp t x)(hp:∀k,fp k->w'.heap[k]?=w.heap[k]?)
 (hw:∀k,F k->k<w.heap.size->w'.heap[k]?=w.heap[k]?)(hF:∀k,F k->k<w.heap.size->F' k):fa w' F' fp t x:=by
 induction h with
 |v hfp h=>exact .v hfp h
 |dead hfp h=>exact .dead hfp h
 |sl hfp h=>exact .sl hfp (h.frame hw hF)
 |nil hfp=>exact .nil hfp
 |ow sz u f hfp hb hsz hcap hz0 hmax hcur hcell hrec hnb hdis ih=>
  exact .ow sz u f hfp ((hp _ ((hfp _).2 (.inl rfl))).trans hb) hsz hcap hz0 hmax hcur hcell (λi j hi hj=>ih i j hi hj λk hk=>hp k ((hfp k).2 (.inr ⟨i,j,hi,by rw[<- hsz i hi];exact hj,hk⟩))) hnb hdis
theorem fa.refp{w:World}{F fp fp':Nat->Prop}{t:TV}{x:Value}(h:fa w F fp t x)(he:∀k,fp k↔fp' k):fa w F fp' t x:=by
 have e:fp=fp':=funext λk=>propext (he k);exact e▸h
theorem fa.share{w:World}{F fp:Nat->Prop}{t:TV}{x:Value}(h:fa w F fp t x):io w (λk=>F k\/fp k) t.imm x\/∃l,t=.agg l:=by
 induction h with
 |v hfp h=>exact .inl (.v h)
 |dead hfp h=>exact .inl (.dead h)
 |sl hfp h=>exact .inl (h.frame (λ_ _ _=>rfl) λk hk _=>.inl hk)
 |nil hfp=>exact .inl (.sl (c:=[]) 0 (λ_ _=>.nilFunc) (by simp) (by simp) (by simp) (λ_=>rfl) (by simp) (by simp))
 | @ow fp c b cap cur e sz u f hfp hb hsz hcap hz0 hmax hcur hcell hrec hnb hdis ih=>
  refine .inl ?_;rw[fH]
  have hl:c.length=(c.map λe=>e.map TV.imm).length:=by simp
  rw[hl];refine .sl sz u (by simpa using hsz) (by simpa using hcap) hmax (by simp) (λi j hi hj=>⟨b,0,rfl,.inr ((hfp b).2 (.inl rfl)),?_⟩) (λi j hi hj=>?_)
  ·have:=hcell i j (by simpa using hi) hj;rw[cell_of_row w b _ _ _ _ hb,Nat.zero_add];exact this
  ·have ZT:i<c.length:=by simpa using hi
   have ZY:j<c[i].length:=by simpa using hj
   rcases ih i j ZT ZY with h|⟨l,hl⟩
   ·have:=h.frame (w':=w) (F':=λk=>F k\/fp k) (λ_ _ _=>rfl) (λk hk _=>by
     rcases hk with hk|hk
     ·exact .inl hk
     ·exact .inr ((hfp k).2 (.inr ⟨i,j,ZT,by rw[<- hsz i ZT];exact ZY,hk⟩)))
    simpa using this
   ·have h3:=hrec i j ZT ZY;rw[hl]at h3;cases h3
theorem fa.share'{w:World}{F fp:Nat->Prop}{t:TV}{x:Value}(h:fa w F fp t x):io w (λk=>F k\/fp k) t.imm x:=by
 rcases h.share with h1|⟨l,rfl⟩
 ·exact h1
 ·cases h
theorem io.toOwn{w:World}{F:Nat->Prop}{t:TV}{x:Value}(h:io w F t x):fa w F (λ_=>False) t x:=by
 cases h with
 |v h=>exact .v (by simp) h
 |dead h=>exact .dead (by simp) h
 |sl sz u hsz hcap hmax hnil hcell hrec=>exact .sl (by simp) (.sl sz u hsz hcap hmax hnil hcell hrec)
def b7:TV->List Hop->Option TV
 |t,[]=>some t
 |.ow c,(i,sz,o)::hs=>
  match c[i]? with
  |some el=>if el.length=sz then(match el[o]? with|some t=>b7 t hs|none=>none)else none
  |none=>none
 |_,_::_=>none
def eE:TV->List Hop->TV->TV
 |_,[],t=>t
 |.ow c,(i,sz,o)::hs,t=>.ow (c.modify i λel=>el.modify o λt1=>eE t1 hs t)
 |t0,_::_,_=>t0
def Pn:TV->List Hop->Option (List TV)
 |_,[]=>none
 |.ow c,[(i,sz,o)]=>
  match c[i]? with
  |some el=>if el.length=sz then some (el.drop o)else none
  |none=>none
 |.ow c,(i,sz,o)::hs=>
  match c[i]? with
  |some el=>if el.length=sz then(match el[o]? with|some t=>Pn t hs|none=>none)else none
  |none=>none
 |_,_::_=>none
def ct(w:World):Value->List Hop->Option Addr
 |.slice (some a) n _,[(i,sz,o)]=>if i<n then some ⟨a.block,a.off+(i*sz+o),none⟩else none
 |.slice (some a) n _,(i,sz,o)::h::hs=>
  if i<n then(match w.cell? ⟨a.block,a.off+(i*sz+o),none⟩with|some x=>ct w x (h::hs)|none=>none)else none
 |_,_=>none
def hvT(w:World)(x:Value)(hs:List Hop):Option Value:=
 match hs with
 | []=>some x
 |_=>(ct w x hs).bind w.cell?
theorem eB{t:TV}{i sz o:Nat}{hs:List Hop}{t1:TV}(h:b7 t ((i,sz,o)::hs)=some t1):
 ∃c el t2,t=.ow c/\c[i]?=some el/\el.length=sz/\el[o]?=some t2/\b7 t2 hs=some t1:=by
 cases t with
 |ow c=>
  simp[b7]at h
  cases hc:c[i]? with
  |none=>simp_all
  |some el=>
   split at h
   ·rename_i hz
    cases ho:el[o]? with
    |none=>simp_all
    |some t2=>simp_all
   ·simp at h
 |_=>simp[b7]at h
theorem g9{w:World}{x:Value}{hs:List Hop}{ad:Addr}{u:Value}(h:ct w x hs=some ad)(hc:w.cell? ad=some u):hvT w x hs=some u:=by
 cases hs with
 |nil=>cases x<;>simp[ct]at h
 |cons a r=>simp[hvT,h,hc]
theorem cc(w:World)(a:Addr)(x:Value){k:Nat}(h:k≠a.block):(w.setCell a x).heap[k]?=w.heap[k]?:=Below.heap_setCell w a x k h
theorem iD(w:World)(b o:Nat)(x:Value){cur:Array Value}{e:TypeId}{fz:Nat×Nat}(hb:w.heap[b]?=some (.cells cur e fz)):
 (w.setCell ⟨b,o,none⟩ x).heap[b]?=some (.cells (cur.setIfInBounds o x) e fz):=by
 simp only[World.setCell,Array.getElem?_modify,hb];rfl
theorem HJ{sz i j i' j':Nat}(hj:j<sz)(ZY:j'<sz)(h:i*sz+j=i'*sz+j'):i=i'/\j=j':=by
 have h1:(i*sz+j)/sz=i:=by rw[Nat.mul_comm,Nat.mul_add_div (by omega)];simp[Nat.div_eq_of_lt hj]
 have h2:(i'*sz+j')/sz=i':=by rw[Nat.mul_comm,Nat.mul_add_div (by omega)];simp[Nat.div_eq_of_lt ZY]
 simp_all
theorem lens{hops:List Hop}:∀{w:World}{F fp:Nat->Prop}{tv t:TV}{x:Value},fa w F fp tv x->hops≠[]->b7 tv hops=some t ->
 ∃ad u Zw,ct w x hops=some ad/\ad.spot=none/\w.cell? ad=some u/\w.frozen? ad=false/\fa w F Zw t u/\(∀k,Zw k->fp k)/\fp ad.block/\¬Zw ad.block /\
  ∀(w':World)(F':Nat->Prop)(t':TV)(u':Value)(ZI:Nat->Prop),(∀k,fp k->¬Zw k->w'.heap[k]?=(w.setCell ad u').heap[k]?)->
   (∀k,F k->k<w.heap.size->w'.heap[k]?=w.heap[k]?)->(∀k,F k->k<w.heap.size->F' k)->fa w' F' ZI t' u'->(∀k,ZI k->¬(fp k/\¬Zw k))->
   fa w' F' (λk=>(fp k/\¬Zw k)\/ZI k) (eE tv hops t') x:=by
 induction hops with
 |nil=>intro _ _ _ _ _ _ _ h _;exact absurd rfl h
 |cons hop hs ih=>
  obtain⟨i,sz',o⟩:=hop;intro w F fp tv t x hown _ Wm;obtain⟨c,el,t2,rfl,hc,hz,ho,Z6⟩:=eB Wm;subst hz
  cases hown with
  |nil hfp=>simp at hc
  | @ow _ _ b cap cur e sz u f hfp hb hsz hcap hz0 hmax hcur hcell hrec hnb hdis=>
   obtain⟨hi,Zd⟩:=oGS hc;obtain⟨Zj,Yr⟩:=oGS ho
   have VU:el.length=sz:=by rw[<- Zd];exact hsz i hi
   have Xq:o<sz:=by omega
   have VQ:fa w F (f i o) t2 (u i o):=by
    have:=hrec i o hi (by rw[Zd];exact Zj);simpa[Zd,Yr]using this
   have Zh:=hcell i o hi Xq
   have Zi:w.cell? ⟨b,0+(i*el.length+o),none⟩=some (u i o):=by rw[cell_of_row w b _ _ _ _ hb,Nat.zero_add,VU];exact Zh
   have hlt:i*sz+o<cur.size:=(Array.getElem?_eq_some_iff.1 Zh).1;have hfz:w.frozen? ⟨b,0+(i*el.length+o),none⟩=false:=frozen_of_row w b _ cur e hb;have Z':∀k,f i o k->fp k:=λk hk=>(hfp k).2 (.inr ⟨i,o,hi,Xq,hk⟩)
   have build:∀(w':World)(F':Nat->Prop)(W5:TV)(SJ:Value)(g:Nat->Prop),w'.heap[b]?=some (.cells (cur.setIfInBounds (i*sz+o) SJ) e (0,0))->
    (∀k,(∃i' j',i'<c.length/\j'<sz/\¬(i'=i/\j'=o)/\f i' j' k)->w'.heap[k]?=w.heap[k]?)->
    (∀k,F k->k<w.heap.size->w'.heap[k]?=w.heap[k]?)->(∀k,F k->k<w.heap.size->F' k)->fa w' F' g W5 SJ->¬g b ->
    (∀k,g k->∀i' j',i'<c.length->j'<sz->¬(i'=i/\j'=o)->¬f i' j' k)->
    fa w' F' (λk=>(fp k/\¬f i o k)\/g k) (.ow (c.modify i λel=>el.modify o λ_=>W5)) (.slice (some ⟨b,0,none⟩) c.length cap):=by
    intro w' F' W5 SJ g Zx ZW hF Zz ZD hgb WL
    have hlen:c.length=(c.modify i λel=>el.modify o λ_=>W5).length:=by simp
    have WZ:∀(i' j':Nat)(h:i'<c.length)(h2:j'<c[i'].length)(h3:i'<(c.modify i λel=>el.modify o λ_=>W5).length)(h4:j'<((c.modify i λel=>el.modify o λ_=>W5)[i']).length),
     ((c.modify i λel=>el.modify o λ_=>W5)[i'])[j']=if i'=i/\j'=o then W5 else c[i'][j']:=by
     intro i' j' h h2 h3 h4
     have e1:(c.modify i λel=>el.modify o λ_=>W5)[i']=if i=i' then(c[i']).modify o (λ_=>W5)else c[i']:=by
      rw[List.getElem_modify]
     by_cases hii:i=i'
     ·subst hii
      have e2:(c.modify i λel=>el.modify o λ_=>W5)[i]=(c[i]).modify o (λ_=>W5):=by rw[e1,oIP rfl]
      simp only[e2,List.getElem_modify];by_cases hjj:o=j'
      ·subst hjj;simp
      ·rw[oIN hjj,oIN (by intro h;exact hjj h.2.symm)]
     ·have e2:(c.modify i λel=>el.modify o λ_=>W5)[i']=c[i']:=by rw[e1,oIN hii]
      simp only[e2];rw[oIN (by intro h;exact hii h.1.symm)]
    rw[hlen];refine .ow sz (λi' j'=>if i'=i/\j'=o then SJ else u i' j') (λi' j' k=>if i'=i/\j'=o then g k else(i'<c.length/\j'<sz/\f i' j' k)) ?_ Zx ?_ (by simpa using hcap) (by simpa using hz0) hmax (by simpa using hcur) ?_ ?_ ?_ ?_
    ·intro k;constructor
     ·rintro(⟨h1,h2⟩|h1)
      ·rcases(hfp k).1 h1 with rfl|⟨i',j',h3,h4,h5⟩
       ·exact .inl rfl
       ·refine .inr ⟨i',j',by simpa using h3,h4,?_⟩;by_cases he:i'=i/\j'=o
        ·obtain⟨rfl,rfl⟩:=he;exact absurd h5 h2
        ·rw[oIN he];exact⟨h3,h4,h5⟩
      ·exact .inr ⟨i,o,by simpa using hi,Xq,by rw[oIP ⟨rfl,rfl⟩];exact h1⟩
     ·rintro(rfl|⟨i',j',h3,h4,h5⟩)
      ·exact .inl ⟨(hfp _).2 (.inl rfl),hnb _ _⟩
      ·by_cases he:i'=i/\j'=o
       ·rw[oIP he]at h5;exact .inr h5
       ·rw[oIN he]at h5;refine .inl ⟨(hfp k).2 (.inr ⟨i',j',h5.1,h5.2.1,h5.2.2⟩),λh6=>he (hdis _ _ _ _ k h5.2.2 h6)⟩
    ·intro i' h
     have h':i'<c.length:=by simpa using h
     rw[List.getElem_modify];split
     ·rw[oLM];exact hsz i' h'
     ·exact hsz i' h'
    ·intro i' j' ZT ZY
     have Xn:i'<c.length:=by simpa using ZT
     rw[Array.getElem?_setIfInBounds];by_cases he:i'=i/\j'=o
     ·obtain⟨rfl,rfl⟩:=he;simp[hlt]
     ·rw[oIN (λh=>he (by obtain⟨h1,h2⟩:=HJ Xq ZY h;exact⟨h1.symm,h2.symm⟩))];simp only[oIN he];exact hcell i' j' Xn ZY
    ·intro i' j' h h'
     have Xn:i'<c.length:=by simpa using h
     have UG:j'<c[i'].length:=by
      rw[List.getElem_modify]at h';split at h'<;>simpa using h'
     rw[WZ i' j' Xn UG h h'];by_cases he:i'=i/\j'=o
     ·simp only[oIP he];exact ZD
     ·simp only[oIN he]
      have UH:j'<sz:=by rw[<- hsz i' Xn];exact UG
      refine((hrec i' j' Xn UG).frame (λk hk=>ZW k ⟨i',j',Xn,UH,he,hk⟩) hF Zz).refp λk=>?_;simp[Xn,UH]
    ·intro i' j';split
     ·exact hgb
     ·exact λh=>hnb i' j' h.2.2
    ·intro i1 j1 i2 j2 k h1 h2;by_cases e1:i1=i/\j1=o
     ·by_cases e2:i2=i/\j2=o
      ·exact⟨e1.1.trans e2.1.symm,e1.2.trans e2.2.symm⟩
      ·rw[oIP e1]at h1;rw[oIN e2]at h2;exact absurd h2.2.2 (WL k h1 i2 j2 h2.1 h2.2.1 e2)
     ·by_cases e2:i2=i/\j2=o
      ·rw[oIN e1]at h1;rw[oIP e2]at h2;exact absurd h1.2.2 (WL k h2 i1 j1 h1.1 h1.2.1 e1)
      ·rw[oIN e1]at h1;rw[oIN e2]at h2;exact hdis _ _ _ _ k h1.2.2 h2.2.2
   cases hs with
   |nil=>
    simp only[b7,oSJ]at Z6;subst Z6;refine⟨⟨b,0+(i*el.length+o),none⟩,u i o,f i o,by simp[ct,hi],rfl,Zi,hfz,VQ,Z',(hfp b).2 (.inl rfl),hnb i o,?_⟩;intro w' F' t' u' ZI hw hF Zz ZD hd;simp only[eE]
    have hbb:w'.heap[b]?=some (.cells (cur.setIfInBounds (i*sz+o) u') e (0,0)):=by
     rw[hw b ((hfp b).2 (.inl rfl)) (hnb i o),Nat.zero_add,VU];exact iD w b _ u' hb
    refine build w' F' t' u' ZI hbb (λk ⟨i',j',h1,h2,h3,h4⟩=>?_) hF Zz ZD (λh=>hd b h ⟨(hfp b).2 (.inl rfl),hnb i o⟩) (λk hk i' j' h1 h2 h3 h4=>hd k hk ⟨(hfp k).2 (.inr ⟨i',j',h1,h2,h4⟩),λh=>h3 (hdis _ _ _ _ k h4 h)⟩);have RA:k≠b:=λe=>hnb i' j' (e▸h4);rw[hw k ((hfp k).2 (.inr ⟨i',j',h1,h2,h4⟩)) (λh=>h3 (hdis _ _ _ _ k h4 h))];exact cc w _ u' RA
   |cons h2 YK=>
    obtain⟨ad,u1,Zw,Zf,Zn,YU,Xm,XR,Yk,hin,VN,Xs⟩:=ih VQ (by simp) Z6;refine⟨ad,u1,Zw,?_,Zn,YU,Xm,XR,λk hk=>Z' k (Yk k hk),Z' _ hin,VN,?_⟩
    ·simp only[ct,hi,if_true,Zi];exact Zf
    ·intro w' F' t' u' ZI hw hF Zz ZD hd;have Q6:b≠ad.block:=λe=>hnb i o (e▸hin);have h3:=Xs w' F' t' u' ZI (λk hk Y9=>hw k (Z' k hk) Y9) hF Zz ZD (λk hk h=>hd k hk ⟨Z' k h.1,h.2⟩)
     have hbb:w'.heap[b]?=some (.cells (cur.setIfInBounds (i*sz+o) (u i o)) e (0,0)):=by
      rw[hw b ((hfp b).2 (.inl rfl)) (λh=>hnb i o (Yk b h)),cc w ad u' Q6,hb];congr 2;apply Array.ext_getElem?;intro j;rw[Array.getElem?_setIfInBounds];by_cases hj:i*sz+o=j
      ·subst hj;first|exact Zh|(rw[oIP rfl];first|exact Zh.symm|(rw[oIP hlt];exact Zh.symm)|(rw[oIP hlt];exact Zh)|simp[hlt,Zh])
      ·rw[oIN hj]
     have h4:=build w' F' _ _ _ hbb (λk ⟨i',j',h1,h2,h5,h6⟩=>by
      have Y9:¬Zw k:=λh=>h5 (hdis _ _ _ _ k h6 (Yk k h));have hka:k≠ad.block:=λe=>h5 (hdis _ _ _ _ ad.block (e▸h6) hin);rw[hw k ((hfp k).2 (.inr ⟨i',j',h1,h2,h6⟩)) Y9]
      exact cc w ad u' hka) hF Zz h3
      (λh=>by
       rcases h with h|h
       ·exact hnb i o h.1
       ·exact hd b h ⟨(hfp b).2 (.inl rfl),λh=>hnb i o (Yk b h)⟩)
      (λk hk i' j' h1 h2 h5 h6=>by
       rcases hk with hk|hk
       ·exact h5 (hdis _ _ _ _ k h6 hk.1)
       ·exact hd k hk ⟨(hfp k).2 (.inr ⟨i',j',h1,h2,h6⟩),λh=>h5 (hdis _ _ _ _ k h6 (Yk k h))⟩)
     have hset:eE (.ow c) ((i,el.length,o)::h2::YK) t'=.ow (c.modify i λel=>el.modify o λ_=>eE t2 (h2::YK) t'):=by
      simp only[eE];congr 1;apply List.ext_getElem?;intro j;simp only[List.getElem?_modify];by_cases hij:i=j
      ·subst hij;simp only[hc,if_true,oMS];refine congrArg some ?_;apply List.ext_getElem?;intro l;simp only[List.getElem?_modify];by_cases hol:o=l
       ·subst hol;simp[ho]
       ·simp[hol]
      ·simp[hij]
     rw[hset];refine h4.refp λk=>?_;constructor
     ·rintro(⟨h5,h6⟩|(⟨h5,h6⟩|h5))
      ·exact .inl ⟨h5,λh=>h6 (Yk k h)⟩
      ·exact .inl ⟨Z' k h5,h6⟩
      ·exact .inr h5
     ·rintro(⟨h5,h6⟩|h5)
      ·by_cases h7:f i o k
       ·exact .inr (.inl ⟨h7,h6⟩)
       ·exact .inl ⟨h5,h7⟩
      ·exact .inr (.inr h5)
theorem fa.hdr{w:World}{F fp:Nat->Prop}{c:List (List TV)}{x:Value}(h:fa w F fp (.ow c) x):∃a cap,x=.slice a c.length cap/\c.length<=cap:=by
 cases h with
 |nil=>simp_all
 |ow sz u f hfp hb hsz hcap=>exact⟨_,_,rfl,hcap⟩
theorem io.hdr{w:World}{F:Nat->Prop}{c:List (List TV)}{x:Value}(h:io w F (.sl c) x):∃a cap,x=.slice a c.length cap/\c.length<=cap:=by
 cases h with
 |sl sz u hsz hcap=>exact⟨_,_,rfl,hcap⟩
theorem mQ{hs:List Hop}:∀{w w':World}{F fp:Nat->Prop}{tv t:TV}{x:Value},fa w F fp tv x->b7 tv hs=some t->(∀k,fp k->w'.heap[k]?=w.heap[k]?)->ct w' x hs=ct w x hs:=by
 induction hs with
 |nil=>intro w w' F fp tv t x h _ _;cases x<;>simp[ct]
 |cons hop hs ih=>
  obtain⟨i,sz',o⟩:=hop;intro w w' F fp tv t x hown Wm hk;obtain⟨c,el,t2,rfl,hc,hz,ho,Z6⟩:=eB Wm;subst hz
  cases hown with
  |nil hfp=>simp at hc
  | @ow _ _ b cap cur e sz u f hfp hb hsz hcap hz0 hmax hcur hcell hrec hnb hdis=>
   obtain⟨hi,Zd⟩:=oGS hc;obtain⟨Zj,Yr⟩:=oGS ho
   have VU:el.length=sz:=by rw[<- Zd];exact hsz i hi
   have Xq:o<sz:=by omega
   have VQ:fa w F (f i o) t2 (u i o):=by
    have:=hrec i o hi (by rw[Zd];exact Zj);simpa[Zd,Yr]using this
   have Ux:=hk b ((hfp b).2 (.inl rfl))
   have Zi:w.cell? ⟨b,0+(i*el.length+o),none⟩=some (u i o):=by rw[cell_of_row w b _ _ _ _ hb,Nat.zero_add,VU];exact hcell i o hi Xq
   have SY:w'.cell? ⟨b,0+(i*el.length+o),none⟩=some (u i o):=by rw[World.cell?_of_block Ux];exact Zi
   cases hs with
   |nil=>simp[ct]
   |cons h2 YK=>
    simp only[ct,hi,if_true,Zi,SY];exact ih VQ Z6 λk YI=>hk k ((hfp k).2 (.inr ⟨i,o,hi,Xq,YI⟩))
theorem Fk{w:World}{ad:Addr}{u u':Value}(hc:w.cell? ad=some u)(hu:gc u=true)(Qw:gc u'=true){hs:List Hop}:∀{x:Value},ct (w.setCell ad u') x hs=ct w x hs:=by
 induction hs with
 |nil=>intro x;cases x<;>simp[ct]
 |cons hop hs ih=>
  obtain⟨i,sz,o⟩:=hop;intro x
  cases hs with
  |nil=>
   cases x with
   |slice a n c=>cases a<;>simp[ct]
   |_=>simp[ct]
  |cons h2 YK=>
   cases x with
   |slice a n c=>
    cases a with
    |none=>simp[ct]
    |some a=>
     simp[ct];split
     ·by_cases he:(⟨a.block,a.off+(i*sz+o),none⟩:Addr)=ad
      ·subst he;rw[World.cell?_setCell_same w _ _ hc,hc]
       have n1:∀y:Value,gc y=true->∀w:World,ct w y (h2::YK)=none:=by
        intro y hy w;cases y<;>simp[gc]at hy<;>simp[ct]
       simp_all
      ·rw[World.cell?_setCell_other w ad ⟨a.block,a.off+(i*sz+o),none⟩ u' (λe=>he e.symm)]
       simp_all
     ·rfl
   |_=>simp[ct]
theorem rY{w w':World}(hk:∀k,k<w.heap.size->w'.heap[k]?=w.heap[k]?){hs:List Hop}:∀{x:Value}{ad:Addr},ct w x hs=some ad->ct w' x hs=some ad:=by
 induction hs with
 |nil=>intro x ad h;cases x<;>simp[ct]at h
 |cons hop hs ih=>
  obtain⟨i,sz,o⟩:=hop;intro x ad h
  cases hs with
  |nil=>
   cases x with
   |slice a n c=>cases a<;>first|(simp[ct]at h;done)|simpa[ct]using h
   |_=>simp[ct]at h
  |cons h2 YK=>
   cases x with
   |slice a n c=>
    cases a with
    |none=>simp[ct]at h
    |some a=>
     simp only[ct]at h⊢;split at h
     ·rename_i hi
      cases hcc:w.cell? ⟨a.block,a.off+(i*sz+o),none⟩with
      |none=>simp_all
      |some y=>
       rw[World.cell?_of_block (hk _ (World.block_lt_of_cell? w _ hcc)),hcc]
       simp_all
     ·simp at h
   |_=>simp[ct]at h
theorem lz(c:List (List TV))(i o:Nat)(f:TV->TV):(c.modify i λel=>el.modify o f).map List.length=c.map List.length:=by
 apply List.ext_getElem?;intro j;simp only[List.getElem?_map,List.getElem?_modify];by_cases h:i=j
 ·subst h;cases c[i]?<;>simp
 ·simp[h]
theorem EH{c c':List (List TV)}(h:c'.map List.length=c.map List.length):c'.length=c.length:=by
 have:=congrArg List.length h;simpa using this
theorem kG{qs hs:List Hop}:∀{tv t tq t':TV},b7 tv qs=some tq->b7 tv hs=some t->hs.length<=qs.length->∃t1,b7 (eE tv qs t') hs=some t1/\(hs.length<qs.length->∀c,t=.ow c->∃c',t1=.ow c'/\c'.map List.length=c.map List.length):=by
 induction qs generalizing hs with
 |nil=>
  intro tv t tq t' _ h hl
  have:hs=[]:=by simp_all
  subst this;exact⟨t',rfl,λh=>absurd h (by simp)⟩
 |cons q qs ih=>
  obtain⟨i,sz,o⟩:=q;intro tv t tq t' hq h hl;obtain⟨c,el,t2,rfl,hc,hz,ho,XC⟩:=eB hq
  cases hs with
  |nil=>exact⟨_,rfl,λ_ c' WT=>⟨_,rfl,by simp only[b7,oSJ]at h;subst h;injection WT with WT;subst WT;exact lz _ _ _ _⟩⟩
  |cons p hs=>
   obtain⟨i',sz',o'⟩:=p;obtain⟨c2,QT,t3,e,Zp,hz2,Xe,h2⟩:=eB h
   injection e with e
   subst e;subst hz2;simp at hl;by_cases hii:i=i'
   ·subst hii;rw[hc]at Zp;obtain rfl:=Option.some.inj Zp;by_cases hoo:o=o'
    ·subst hoo;rw[ho]at Xe;obtain rfl:=Option.some.inj Xe;obtain⟨t1,g1,g2⟩:=ih (t':=t') XC h2 hl;refine⟨t1,?_,λhlt=>g2 (by simpa using hlt)⟩;simp[eE,b7,List.getElem?_modify,hc,ho,g1]
    ·refine⟨t,?_,λ_ c hc=>⟨c,hc,rfl⟩⟩;simp[eE,b7,List.getElem?_modify,hc,Xe,hoo,h2]
   ·refine⟨t,?_,λ_ c hc=>⟨c,hc,rfl⟩⟩;simp[eE,b7,List.getElem?_modify,Zp,hii,Xe,h2]
theorem vU{qs hs:List Hop}:∀{tv t:TV}{y y':TV},b7 tv qs=some y->(∀c,y≠.ow c)->b7 tv hs=some t->∃t1,b7 (eE tv qs y') hs=some t1/\(∀c,t=.ow c->∃c',t1=.ow c'/\c'.map List.length=c.map List.length):=by
 induction qs generalizing hs with
 |nil=>
  intro tv t y y' h1 hy h;simp only[b7,oSJ]at h1;subst h1
  cases hs with
  |nil=>simp only[b7,oSJ]at h;subst h;exact⟨y',rfl,λc hc=>absurd hc (hy c)⟩
  |cons p hs=>
   obtain⟨c,_,_,e,_⟩:=eB h
   simp_all
 |cons q qs ih=>
  obtain⟨i,sz,o⟩:=q;intro tv t y y' hq hy h;obtain⟨c,el,t2,rfl,hc,hz,ho,XC⟩:=eB hq
  cases hs with
  |nil=>exact⟨_,rfl,λc' WT=>⟨_,rfl,by simp only[b7,oSJ]at h;subst h;injection WT with WT;subst WT;exact lz _ _ _ _⟩⟩
  |cons p hs=>
   obtain⟨i',sz',o'⟩:=p;obtain⟨c2,QT,t3,e,Zp,hz2,Xe,h2⟩:=eB h
   injection e with e
   subst e;subst hz2;by_cases hii:i=i'
   ·subst hii;rw[hc]at Zp;obtain rfl:=Option.some.inj Zp;by_cases hoo:o=o'
    ·subst hoo;rw[ho]at Xe;obtain rfl:=Option.some.inj Xe;obtain⟨t1,g1,g2⟩:=ih (y':=y') XC hy h2;exact⟨t1,by simp[eE,b7,List.getElem?_modify,hc,ho,g1],g2⟩
    ·refine⟨t,?_,λc hc=>⟨c,hc,rfl⟩⟩;simp[eE,b7,List.getElem?_modify,hc,Xe,hoo,h2]
   ·refine⟨t,?_,λc hc=>⟨c,hc,rfl⟩⟩;simp[eE,b7,List.getElem?_modify,Zp,hii,Xe,h2]
theorem vT{qs:List Hop}:∀{tv t t':TV},b7 tv qs=some t->b7 (eE tv qs t') qs=some t':=by
 induction qs with
 |nil=>intro tv t t' _;rfl
 |cons q qs ih=>
  have ⟨i,sz,o⟩:=q;intro tv t t' hq;obtain⟨c,el,t2,rfl,hc,hz,ho,XC⟩:=eB hq;subst hz;simp[eE,b7,hc,ho,ih XC]
abbrev Key:=Nat×Nat×Nat
abbrev Cs:=Nat->Nat->TV
abbrev Vs:=Key->Nat
structure Gh where
 β:Nat->Option (Nat×Nat×Nat)
 η:Nat->Nat->Value
 φ:Nat->Nat->Nat->Prop
def Gh.val(G:Gh)(w:World)(r o:Nat):Value:=
 match G.β r with
 |some (b,o0,_)=>(w.cell? ⟨b,o0+o,none⟩).getD undef
 |none=>G.η r o
def Gh.addrB(G:Gh)(w:World)(p:bS):Option Addr:=
 match p.hops with
 | []=>
  match G.β p.root with
  |some (b,o0,n)=>if p.off<n then some ⟨b,o0+p.off,none⟩else none
  |none=>none
 |h::hs=>ct w (G.val w p.root p.off) (h::hs)
def Gh.addr(G:Gh)(w:World)(p:bS):Option Addr:=
 match p.hops with
 | []=>
  match G.β p.root with
  |some (b,o0,_)=>some ⟨b,o0+p.off,none⟩
  |none=>none
 |h::hs=>ct w (G.val w p.root p.off) (h::hs)
def Gh.hv(G:Gh)(w:World)(p:bS):Option Value:=hvT w (G.val w p.root p.off) p.hops
theorem kj{G:Gh}{w:World}{p:bS}{ad:Addr}(h:G.addr w p=some ad)(hn:p.hops=[]->∀b o0 n,G.β p.root=some (b,o0,n)->p.off<n):G.addrB w p=some ad:=by
 unfold Gh.addr at h;unfold Gh.addrB
 grind
def Gh.F(A:Nat->Prop)(G:Gh)(k:Nat):Prop:=A k/\(∀r o,¬G.φ r o k)/\(∀r b o n,G.β r=some (b,o,n)->k≠b)
structure iM (A:Nat->Prop)(C:Cs)(w:World)(G:Gh):Prop where
 cell:∀r o,(C r o=.dead/\∀k,¬G.φ r o k)\/fa w (G.F A) (G.φ r o) (C r o) (G.val w r o)
 box:∀r b o0 n,G.β r=some (b,o0,n)->∃cur e fz,w.heap[b]?=some (.cells cur e fz)/\o0+n<=cur.size/\∀j,j<n->w.frozen? ⟨b,o0+j,none⟩=false
 boxc:∀r b o0 n,G.β r=some (b,o0,n)->∀o,n<=o->C r o=.dead
 boxd:∀r r' b o n o' n',G.β r=some (b,o,n)->G.β r'=some (b,o',n')->r=r'
 boxf:∀r b o n,G.β r=some (b,o,n)->∀r' o',¬G.φ r' o' b
 dis:∀r o r' o' k,G.φ r o k->G.φ r' o' k->r=r'/\o=o'
 allow:∀r o k,G.φ r o k->A k
theorem iM.own{A:Nat->Prop}{C:Cs}{w:World}{G:Gh}(h:iM A C w G){r o:Nat}(hd:C r o≠.dead):fa w (G.F A) (G.φ r o) (C r o) (G.val w r o):=
 (h.cell r o).resolve_left λh=>hd h.1
theorem iM.live{A:Nat->Prop}{C:Cs}{w:World}{G:Gh}(h:iM A C w G){r o k:Nat}(hk:G.φ r o k):k<w.heap.size:=by
 rcases h.cell r o with⟨_,hn⟩|h
 ·simp_all
 ·exact h.live k hk
theorem iM.boxlt{A:Nat->Prop}{C:Cs}{w:World}{G:Gh}(h:iM A C w G){r b o n:Nat}(hb:G.β r=some (b,o,n)):b<w.heap.size:=by
 have ⟨cur,e,fz,h1,_⟩:=h.box r b o n hb
 grind
theorem iM.boxcell{A:Nat->Prop}{C:Cs}{w:World}{G:Gh}(h:iM A C w G){r b o0 n o:Nat}(hb:G.β r=some (b,o0,n))(ho:o<n):w.cell? ⟨b,o0+o,none⟩=some (G.val w r o):=by
 have ⟨cur,e,fz,h1,h2,_⟩:=h.box r b o0 n hb
 have hlt:o0+o<cur.size:=by omega
 have hc:=cell_of_row w b (o0+o) cur e fz h1;simp[Gh.val]
 simp_all
theorem gh{G G':Gh}{w w':World}{r o:Nat}(hβ:G'.β r=G.β r)(hη:G'.η r o=G.η r o)(hb:∀b o n,G.β r=some (b,o,n)->w'.heap[b]?=w.heap[b]?):G'.val w' r o=G.val w r o:=by
 unfold Gh.val;rw[hβ]
 cases h:G.β r with
 |none=>exact hη
 |some x=>
  have ⟨b,o0,n⟩:=x;simp only;rw[World.cell?_of_block (hb b o0 n h)]
theorem iM.set{A:Nat->Prop}{C:Cs}{w:World}{G:Gh}(hC:iM A C w G)(q:bS){t:TV}{ad:Addr}(Z5:G.addrB w q=some ad)(ht:b7 (C q.root q.off) q.hops=some t):
 ∃u Zw,ad.spot=none/\w.cell? ad=some u/\w.frozen? ad=false/\G.hv w q=some u/\(t=.dead\/fa w (G.F A) Zw t u)/\(∀k,Zw k->G.φ q.root q.off k)/\¬Zw ad.block/\((∃r b o n,G.β r=some (b,o,n)/\ad.block=b)\/G.φ q.root q.off ad.block)/\
  ∀(t':TV)(u':Value)(ZI:Nat->Prop)(C':Cs)(G':Gh)(w':World),
   (∀k,k<w.heap.size->w'.heap[k]?=(w.setCell ad u').heap[k]?)->
   C' q.root q.off=eE (C q.root q.off) q.hops t'->G'.β=G.β->G'.η=G.η ->
   (∀k,G'.φ q.root q.off k↔(G.φ q.root q.off k/\¬Zw k)\/ZI k)->
   (∀r o,¬(r=q.root/\o=q.off)->(C' r o=C r o/\∀k,G'.φ r o k↔G.φ r o k)\/(C' r o=.dead/\∀k,¬G'.φ r o k))->
   (∀k,ZI k->(∃r o,G.φ r o k)\/w.heap.size<=k)->(∀k,ZI k->A k/\(∀r o,¬(r=q.root/\o=q.off)->¬G'.φ r o k)/\¬(G.φ q.root q.off k/\¬Zw k))->
   fa w' (G'.F A) ZI t' u'->iM A C' w' G':=by
 obtain⟨r,o,hs⟩:=q
 have VB:∀{b:Nat}{cur:Array Value}{e:TypeId}{fz:Nat×Nat}(w':World)(x:Value),w.heap[b]?=some (.cells cur e fz)->(∀k,k<w.heap.size->w'.heap[k]?=(w.setCell ad x).heap[k]?)->ad.spot=none->∃YB:Array Value,w'.heap[b]?=some (.cells YB e fz)/\YB.size=cur.size:=by
  intro b cur e fz w' x hb hw Zn
  have hlt:b<w.heap.size:=by
   rcases Nat.lt_or_ge b w.heap.size with h|h
   ·exact h
   ·simp[Array.getElem?_eq_none h]at hb
  rw[hw b hlt];by_cases he:b=ad.block
  ·obtain⟨ab,ao,asq⟩:=ad;simp only at he Zn;subst he;subst Zn;exact⟨_,iD w b ao x hb,by simp⟩
  ·exact⟨cur,by rw[cc w ad x he,hb],rfl⟩
 have Tb:∀(w':World)(x:Value)(a:Addr),a.block<w.heap.size->(∀k,k<w.heap.size->w'.heap[k]?=(w.setCell ad x).heap[k]?)->w'.frozen? a=w.frozen? a:=by
  intro w' x a ha hw;rw[World.frozen?_of_block (hw a.block ha),World.frozen?_setCell]
 have fin:∀(u:Value) (Zw:Nat->Prop) (Zn:ad.spot=none) (YU:w.cell? ad=some u) (Rm:∀k,Zw k->G.φ r o k) (hnb:¬Zw ad.block)
  (Ya:(∃r b o n,G.β r=some (b,o,n)/\ad.block=b)\/G.φ r o ad.block)
  (Z7:∀(t':TV)(u':Value)(ZI:Nat->Prop)(G':Gh)(w':World),(∀k,k<w.heap.size->w'.heap[k]?=(w.setCell ad u').heap[k]?)->G'.β=G.β->G'.η=G.η->(∀k,G.F A k->k<w.heap.size->G'.F A k)->
   (∀k,G.F A k->k<w.heap.size->w'.heap[k]?=w.heap[k]?)->fa w' (G'.F A) ZI t' u'->(∀k,ZI k->¬(G.φ r o k/\¬Zw k))->
   (eE (C r o) hs t'=.dead/\∀k,¬((G.φ r o k/\¬Zw k)\/ZI k))\/fa w' (G'.F A) (λk=>(G.φ r o k/\¬Zw k)\/ZI k) (eE (C r o) hs t') (G'.val w' r o)),
  ∀(t':TV)(u':Value)(ZI:Nat->Prop)(C':Cs)(G':Gh)(w':World),
   (∀k,k<w.heap.size->w'.heap[k]?=(w.setCell ad u').heap[k]?)->
   C' r o=eE (C r o) hs t'->G'.β=G.β->G'.η=G.η ->
   (∀k,G'.φ r o k↔(G.φ r o k/\¬Zw k)\/ZI k)->
   (∀r' o',¬(r'=r/\o'=o)->(C' r' o'=C r' o'/\∀k,G'.φ r' o' k↔G.φ r' o' k)\/(C' r' o'=.dead/\∀k,¬G'.φ r' o' k))->
   (∀k,ZI k->(∃r o,G.φ r o k)\/w.heap.size<=k)->(∀k,ZI k->A k/\(∀r' o',¬(r'=r/\o'=o)->¬G'.φ r' o' k)/\¬(G.φ r o k/\¬Zw k))->
   fa w' (G'.F A) ZI t' u'->iM A C' w' G':=by
  intro u Zw Zn YU Rm hnb Ya Z7 t' u' ZI C' G' w' hw T8 hβ hη hφq Y0 ZD hal hown
  have Zz:∀k,G.F A k->k<w.heap.size->G'.F A k:=by
   intro k ⟨h1,h2,h3⟩ hlt;refine⟨h1,λr' o' hk=>?_,λr' b o' n' hb=>h3 r' b o' n' (hβ ▸ hb)⟩;by_cases he:r'=r/\o'=o
   ·obtain⟨rfl,rfl⟩:=he
    rcases(hφq k).1 hk with h|h
    ·exact h2 _ _ h.1
    ·rcases ZD k h with⟨r2,o2,h4⟩|h4
     ·exact h2 _ _ h4
     ·omega
   ·rcases Y0 r' o' he with⟨_,h4⟩|⟨_,h4⟩
    ·exact h2 _ _ ((h4 k).1 hk)
    ·exact h4 k hk
  have Q5:∀k,G.F A k->k≠ad.block:=by
   intro k ⟨_,h2,h3⟩ he
   rcases Ya with⟨r',b,o',n',hb,Zx⟩|hφ
   ·exact h3 r' b o' n' hb (he.trans Zx)
   ·exact h2 _ _ (he▸hφ)
  have Yy:∀k,G.F A k->k<w.heap.size->w'.heap[k]?=w.heap[k]?:=λk hk hlt=>by rw[hw k hlt];exact cc w ad u' (Q5 k hk)
  have hφYo:∀r' o',¬(r'=r/\o'=o)->∀k,G.φ r' o' k->w'.heap[k]?=w.heap[k]?:=by
   intro r' o' he k hk;rw[hw k (hC.live hk)];refine cc w ad u' λe=>?_
   rcases Ya with⟨r2,b,o2,n2,hb,Zx⟩|hφ
   ·exact hC.boxf r2 b o2 n2 hb r' o' (by rw[<- Zx,<- e];exact hk)
   ·exact he (hC.dis _ _ _ _ k hk (by rw[e];exact hφ))
  constructor
  ·intro r' o';by_cases he:r'=r/\o'=o
   ·obtain⟨rfl,rfl⟩:=he;rw[T8]
    rcases Z7 t' u' ZI G' w' hw hβ hη Zz Yy hown (λk hk=>(hal k hk).2.2)with⟨h1,h2⟩|h1
    ·exact .inl ⟨h1,λk hk=>h2 k ((hφq k).1 hk)⟩
    ·exact .inr (h1.refp λk=>(hφq k).symm)
   ·rcases Y0 r' o' he with⟨h1,h2⟩|h1
    ·rw[h1]
     rcases hC.cell r' o' with⟨h3,h4⟩|h3
     ·exact .inl ⟨h3,λk hk=>h4 k ((h2 k).1 hk)⟩
     ·by_cases hdead:C r' o'=.dead
      ·left;rw[hdead]at h3;refine⟨hdead,λk hk=>?_⟩
       cases h3 with
       |dead hfp _=>exact hfp k ((h2 k).1 hk)
      right
      have hv:G'.val w' r' o'=G.val w r' o':=by
       unfold Gh.val;rw[hβ,hη]
       cases hbb:G.β r' with
       |none=>rfl
       |some x=>
        obtain⟨b,o0,n⟩:=x
        have hne:(⟨b,o0+o',none⟩:Addr)≠ad:=by
         intro e
         rcases Ya with⟨r2,b2,o2,n2,ZZ,Q9⟩|hφ
         ·
          exact absurd trivial (by
           intro _;have hr:r2=r':=hC.boxd r2 r' b o2 n2 o0 n (by rw[ZZ,<- Q9,<- e]) hbb;subst hr
           cases hs with
           |nil=>
            simp only[Gh.addrB]at Z5
            cases hbr:G.β r with
            |none=>simp[hbr]at Z5
            |some y=>
             obtain⟨b3,o3,n3⟩:=y;simp only[hbr]at Z5;split at Z5
             ·injection Z5 with Z5
              rw[<- Z5]at e
              injection e with e1 e2
              have hr3:r2=r:=hC.boxd r2 r b o0 n o3 n3 hbb (by rw[hbr,e1]);subst hr3;rw[hbb]at hbr
              injection hbr with hbr
              injection hbr with h5 h6
              injection h6 with h6 h7
              exact he ⟨rfl,by omega⟩
             ·simp at Z5
           |cons h hs'=>
            have hd:C r o≠.dead:=by
             intro hd;have:=ht;simp only at this;rw[hd]at this;simp[b7]at this
            obtain⟨Xy,u2,fp2,Wd,_,_,_,_,_,Ti,_⟩:=lens (hC.own hd) (by simp) ht;have XG:ct w (G.val w r o) (h::hs')=some ad:=Z5;rw[XG]at Wd
            injection Wd with Wd
            subst Wd
            exact hC.boxf r2 b o0 n hbb r o (by rw[<- e]at Ti;exact Ti))
         ·exact hC.boxf r' b o0 n hbb r o (by rw[<- e]at hφ;exact hφ)
        have WS:b<w.heap.size:=hC.boxlt hbb;show(w'.cell? ⟨b,o0+o',none⟩).getD undef=(w.cell? ⟨b,o0+o',none⟩).getD undef;rw[show w'.cell? ⟨b,o0+o',none⟩=(w.setCell ad u').cell? ⟨b,o0+o',none⟩from World.cell?_of_block (w:=w.setCell ad u') (hw b WS)];rw[World.cell?_setCell_other w ad ⟨b,o0+o',none⟩ u' (λe=>hne e.symm)]
      rw[hv];exact(h3.frame (hφYo r' o' he) Yy Zz).refp λk=>(h2 k).symm
    ·exact .inl h1
  ·intro r' b o0 n hb;obtain⟨cur,e,fz,h1,h2,h3⟩:=hC.box r' b o0 n (hβ ▸ hb);obtain⟨YB,h4,h5⟩:=VB w' u' h1 hw Zn;exact⟨YB,e,fz,h4,by omega,λj hj=>by rw[Tb w' u' _ (hC.boxlt (hβ ▸ hb)) hw];exact h3 j hj⟩
  ·intro r' b o0 n hb o' Zj;by_cases he:r'=r/\o'=o
   ·obtain⟨rfl,rfl⟩:=he;have hd:=hC.boxc r' b o0 n (hβ ▸ hb) o' Zj;exfalso
    cases hs with
    |nil=>
     simp only[Gh.addrB]at Z5;rw[<- hβ,hb]at Z5;simp only at Z5;split at Z5
     ·omega
     ·simp at Z5
    |cons h hs'=>
     have:=ht;simp only at this;rw[hd]at this;simp[b7]at this
   ·rcases Y0 r' o' he with⟨h1,_⟩|⟨h1,_⟩
    ·rw[h1];exact hC.boxc r' b o0 n (hβ ▸ hb) o' Zj
    ·exact h1
  ·intro r1 r2 b o1 n1 o2 n2 h1 h2;exact hC.boxd r1 r2 b o1 n1 o2 n2 (hβ ▸ h1) (hβ ▸ h2)
  ·intro r' b o0 n hb r2 o2 hk;have Zx:G.β r'=some (b,o0,n):=hβ ▸ hb;by_cases he:r2=r/\o2=o
   ·obtain⟨rfl,rfl⟩:=he
    rcases(hφq b).1 hk with h|h
    ·exact hC.boxf r' b o0 n Zx _ _ h.1
    ·rcases ZD b h with⟨r3,o3,h4⟩|h4
     ·exact hC.boxf r' b o0 n Zx _ _ h4
     ·have:=hC.boxlt Zx;omega
   ·rcases Y0 r2 o2 he with⟨_,h4⟩|⟨_,h4⟩
    ·exact hC.boxf r' b o0 n Zx _ _ ((h4 b).1 hk)
    ·exact h4 b hk
  ·intro r1 o1 r2 o2 k h1 h2;by_cases e1:r1=r/\o1=o
   ·by_cases e2:r2=r/\o2=o
    ·exact⟨e1.1.trans e2.1.symm,e1.2.trans e2.2.symm⟩
    ·obtain⟨rfl,rfl⟩:=e1
     rcases(hφq k).1 h1 with h|h
     ·rcases Y0 r2 o2 e2 with⟨_,h4⟩|⟨_,h4⟩
      ·exact hC.dis _ _ _ _ k h.1 ((h4 k).1 h2)
      ·exact absurd h2 (h4 k)
     ·exact absurd h2 ((hal k h).2.1 r2 o2 e2)
   ·by_cases e2:r2=r/\o2=o
    ·obtain⟨rfl,rfl⟩:=e2
     rcases(hφq k).1 h2 with h|h
     ·rcases Y0 r1 o1 e1 with⟨_,h4⟩|⟨_,h4⟩
      ·exact hC.dis _ _ _ _ k ((h4 k).1 h1) h.1
      ·exact absurd h1 (h4 k)
     ·exact absurd h1 ((hal k h).2.1 r1 o1 e1)
    ·rcases Y0 r1 o1 e1 with⟨_,h4⟩|⟨_,h4⟩
     ·rcases Y0 r2 o2 e2 with⟨_,h5⟩|⟨_,h5⟩
      ·exact hC.dis _ _ _ _ k ((h4 k).1 h1) ((h5 k).1 h2)
      ·exact absurd h2 (h5 k)
     ·exact absurd h1 (h4 k)
  ·intro r' o' k hk;by_cases he:r'=r/\o'=o
   ·obtain⟨rfl,rfl⟩:=he
    rcases(hφq k).1 hk with h|h
    ·exact hC.allow _ _ k h.1
    ·exact(hal k h).1
   ·rcases Y0 r' o' he with⟨_,h4⟩|⟨_,h4⟩
    ·exact hC.allow _ _ k ((h4 k).1 hk)
    ·exact absurd hk (h4 k)
 cases hs with
 |nil=>
  simp only[Gh.addrB]at Z5
  cases hbr:G.β r with
  |none=>simp[hbr]at Z5
  |some y=>
   obtain⟨b,o0,n⟩:=y;simp only[hbr]at Z5;split at Z5
   ·rename_i hlt
    injection Z5 with Z5
    subst Z5;have YU:=hC.boxcell hbr hlt;obtain⟨cur,e,fz,ZR,ZZ,Ub⟩:=hC.box r b o0 n hbr;simp only[b7,oSJ]at ht;subst ht;refine⟨G.val w r o,G.φ r o,rfl,YU,Ub o hlt,rfl,?_,λk h=>h,hC.boxf r b o0 n hbr r o,.inl ⟨r,b,o0,n,hbr,rfl⟩,?_⟩
    ·rcases hC.cell r o with⟨h,_⟩|h
     ·exact .inl h
     ·exact .inr h
    ·refine fin (G.val w r o) (G.φ r o) rfl YU (λk h=>h) (hC.boxf r b o0 n hbr r o) (.inl ⟨r,b,o0,n,hbr,rfl⟩) ?_;intro t' u' ZI G' w' hw hβ hη Zz Yy hown hd
     have hv:G'.val w' r o=u':=by
      unfold Gh.val;rw[hβ,hbr];simp only;rw[show w'.cell? ⟨b,o0+o,none⟩=(w.setCell ⟨b,o0+o,none⟩ u').cell? ⟨b,o0+o,none⟩from World.cell?_of_block (w:=w.setCell ⟨b,o0+o,none⟩ u') (hw b (hC.boxlt hbr))];rw[World.cell?_setCell_same w _ _ YU];rfl
     refine .inr ?_;rw[hv];exact hown.refp λk=>⟨λh=>.inr h,λh=>h.elim (λh=>absurd h.1 h.2) id⟩
   ·simp at Z5
 |cons h hs'=>
  have hd:C r o≠.dead:=by
   intro hd;have:=ht;simp only at this;rw[hd]at this;simp[b7]at this
  obtain⟨Xy,u,Zw,Wd,Zn,YU,Xm,XR,Z',hin,VN,Xs⟩:=lens (hC.own hd) (by simp) ht;have XG:ct w (G.val w r o) (h::hs')=some ad:=Z5;rw[XG]at Wd
  injection Wd with Wd
  subst Wd;refine⟨u,Zw,Zn,YU,Xm,g9 XG YU,.inr XR,Z',VN,.inr hin,?_⟩;refine fin u Zw Zn YU Z' VN (.inr hin) ?_;intro t' u' ZI G' w' hw hβ hη Zz Yy hown WK
  have hv:G'.val w' r o=G.val w r o:=by
   refine gh (by rw[hβ]) (by rw[hη]) λb o0 n hb=>?_;rw[hw b (hC.boxlt hb)];exact cc w ad u' λe=>hC.boxf r b o0 n hb r o (e▸hin)
  right;rw[hv];exact Xs w' (G'.F A) t' u' ZI (λk hk _=>hw k (hC.live hk)) Yy Zz hown WK
def cW:TV->List Nat->TV
 |t,[]=>t.imm
 |.ow c,o::os=>.ow (c.map λel=>el.modify o λt=>cW t os)
 |t,_::_=>t
def fE(hs:List Hop):List Nat:=hs.map λh=>h.2.2
theorem B5{hs:List Hop}:∀{tv t:TV},b7 tv hs=some t->b7 (cW tv (fE hs)) hs=some t.imm:=by
 induction hs with
 |nil=>intro tv t h;simp[b7]at h;subst h;rfl
 |cons h hs ih=>
  have ⟨i,sz,o⟩:=h;intro tv t hg;obtain⟨c,el,t2,rfl,hc,hz,ho,ZL⟩:=eB hg;subst hz;have:=ih ZL;simp[fE,cW,b7,hc,ho]at this⊢;exact this
theorem fa.shareAt{os:List Nat}:∀{w:World}{F fp:Nat->Prop}{tv:TV}{x:Value},fa w F fp tv x->∃fp',(∀k,fp' k->fp k)/\fa w (λk=>F k\/(fp k/\¬fp' k)) fp' (cW tv os) x:=by
 induction os with
 |nil=>
  intro w F fp tv x h;refine⟨λ_=>False,λ_ h=>h.elim,?_⟩;have h1:=h.share'.toOwn
  have e:cW tv []=tv.imm:=by cases tv<;>rfl
  rw[e]
  exact h1.frame (λ_ _=>rfl) (λ_ _ _=>rfl) λk hk _=>by
   rcases hk with hk|hk
   ·exact .inl hk
   ·exact .inr ⟨hk,id⟩
 |cons o os ih=>
  intro w F fp tv x h
  cases h with
  |v hfp h=>exact⟨fp,λ_ h=>h,by simp only[cW];exact .v hfp h⟩
  |dead hfp h=>exact⟨fp,λ_ h=>h,by simp only[cW];exact .dead hfp h⟩
  |sl hfp h=>exact⟨fp,λ_ h=>h,by simp only[cW];exact .sl hfp (h.frame (λ_ _ _=>rfl) λk hk _=>.inl hk)⟩
  |nil hfp=>exact⟨fp,λ_ h=>h,by simp only[cW,List.map_nil];exact .nil hfp⟩
  | @ow _ c b cap cur e sz u f hfp hb hsz hcap hz0 hmax hcur hcell hrec hnb hdis=>
   have Rf:∀i,∃g:Nat->Prop,(∀k,g k->f i o k)/\∀(h:i<c.length)(h':o<c[i].length),fa w (λk=>F k\/(f i o k/\¬g k)) g (cW c[i][o] os) (u i o):=by
    intro i;by_cases hi:i<c.length
    ·by_cases ho:o<c[i].length
     ·obtain⟨g,h1,h2⟩:=ih (hrec i o hi ho);exact⟨g,h1,λ_ _=>h2⟩
     ·exact⟨f i o,λ_ h=>h,λ_ h=>absurd h ho⟩
    ·exact⟨f i o,λ_ h=>h,λh=>absurd h hi⟩
   let g:Nat->Nat->Prop:=λi=>Classical.choose (Rf i)
   have ZB:=λi=>(Classical.choose_spec (Rf i)).1;have ZL:=λi=>(Classical.choose_spec (Rf i)).2;refine⟨λk=>k=b\/∃i j,i<c.length/\j<sz/\(if j=o then g i k else f i j k),?_,?_⟩
   ·rintro k (rfl|⟨i,j,hi,hj,hk⟩)
    ·exact(hfp _).2 (.inl rfl)
    ·refine(hfp k).2 (.inr ⟨i,j,hi,hj,?_⟩);split at hk
     ·rename_i e;subst e;exact ZB i k hk
     ·exact hk
   ·simp only[cW]
    have hlen:c.length=(c.map λel=>el.modify o λt=>cW t os).length:=by simp
    rw[hlen];refine .ow sz u (λi j k=>if j=o then g i k else f i j k) (λk=>by simp) hb ?_ (by simpa using hcap) (by simpa using hz0) hmax hcur (λi j hi hj=>hcell i j (by simpa using hi) hj) ?_ ?_ ?_
    ·intro i h;simp only[List.getElem_map,oLM];exact hsz i (by simpa using h)
    ·intro i j h h'
     have hi:i<c.length:=by simpa using h
     have hj:j<c[i].length:=by simpa using h'
     have hjs:j<sz:=by rw[<- hsz i hi];exact hj
     simp only[List.getElem_map,List.getElem_modify];by_cases hjo:o=j
     ·subst hjo;simp only[if_true];refine(ZL i hi hj).frame (λ_ _=>rfl) (λ_ _ _=>rfl) λk hk _=>?_;rcases hk with hk|⟨Y9,YJ⟩
      ·exact .inl hk
      ·refine .inr ⟨(hfp k).2 (.inr ⟨i,o,hi,hjs,Y9⟩),?_⟩;rintro(rfl|⟨i',j',ZT,ZY,YI⟩)
       ·exact hnb _ _ Y9
       ·split at YI
        ·rename_i e;subst e;have:=hdis _ _ _ _ k Y9 (ZB i' k YI);rw[<- this.1]at YI;exact YJ YI
        ·rename_i e;exact e (hdis _ _ _ _ k YI Y9).2
     ·rw[oIN hjo];simp only[oIN (λe:j=o=>hjo e.symm)];exact(hrec i j hi hj).frame (λ_ _=>rfl) (λ_ _ _=>rfl) λk hk _=>.inl hk
    ·intro i j hk;split at hk
     ·exact hnb i o (ZB i b hk)
     ·exact hnb i j hk
    ·intro i j i' j' k h1 h2
     have e1:f i j k:=by
      split at h1
      ·rename_i e;subst e;exact ZB i k h1
      ·exact h1
     have e2:f i' j' k:=by
      split at h2
      ·rename_i e;subst e;exact ZB i' k h2
      ·exact h2
     exact hdis _ _ _ _ k e1 e2
theorem iM.grow{A:Nat->Prop}{C:Cs}{w w':World}{G:Gh}(hC:iM A C w G)(hw:∀k,k<w.heap.size->w'.heap[k]?=w.heap[k]?):iM A C w' G/\∀r o,G.val w' r o=G.val w r o:=by
 have hv:∀r o,G.val w' r o=G.val w r o:=λr o=>gh rfl rfl λb o n hb=>hw b (hC.boxlt hb);refine⟨⟨λr o=>?_,λr b o0 n hb=>?_,hC.boxc,hC.boxd,hC.boxf,hC.dis,hC.allow⟩,hv⟩
 ·rcases hC.cell r o with h|h
  ·simp_all
  ·right;rw[hv];exact h.frame (λk hk=>hw k (h.live k hk)) (λk _ hlt=>hw k hlt) (λ_ h _=>h)
 ·have ⟨cur,e,fz,h1,h2,h3⟩:=hC.box r b o0 n hb;exact⟨cur,e,fz,by rw[hw b (hC.boxlt hb)];exact h1,h2,λj hj=>by rw[World.frozen?_of_block (hw b (hC.boxlt hb))];exact h3 j hj⟩
theorem iM.ghost{A:Nat->Prop}{C C':Cs}{w:World}{G G':Gh}(hC:iM A C w G)(hβ:G'.β=G.β)
 (hO:∀k,(∃r o,G'.φ r o k)->∃r o,G.φ r o k)
 (hdis:∀r o r' o' k,G'.φ r o k->G'.φ r' o' k->r=r'/\o=o')
 (Zb:∀r b o0 n,G.β r=some (b,o0,n)->∀o,n<=o->C' r o=.dead)
 (hcell:∀r o,(C' r o=C r o/\(∀k,G'.φ r o k↔G.φ r o k)/\G'.η r o=G.η r o)\/(C' r o=.dead/\∀k,¬G'.φ r o k)\/fa w (G'.F A) (G'.φ r o) (C' r o) (G'.val w r o)):
 iM A C' w G'/\(∀k,G.F A k->G'.F A k):=by
 have hF:∀k,G.F A k->G'.F A k:=by
  rintro k ⟨h1,h2,h3⟩;refine⟨h1,λr o h=>?_,λr b o n hb=>h3 r b o n (hβ ▸ hb)⟩;obtain⟨r',o',h'⟩:=hO k ⟨r,o,h⟩;exact h2 r' o' h'
 refine⟨⟨λr o=>?_,λr b o0 n hb=>hC.box r b o0 n (hβ ▸ hb),λr b o0 n hb=>Zb r b o0 n (hβ ▸ hb),λr r' b o n o' n' h h'=>hC.boxd r r' b o n o' n' (hβ ▸ h) (hβ ▸ h'),
  λr b o n hb r' o' hk=>?_,hdis,λr o k hk=>?_⟩,hF⟩
 ·rcases hcell r o with⟨h1,h2,h3⟩|h|h
  ·rcases hC.cell r o with⟨h4,h5⟩|h4
   ·simp_all
   ·right;rw[h1,gh (G:=G) (w:=w) (by rw[hβ]) h3 (λ_ _ _ _=>rfl)];exact(h4.frame (λ_ _=>rfl) (λ_ _ _=>rfl) (λk h _=>hF k h)).refp λk=>(h2 k).symm
  ·exact .inl h
  ·exact .inr h
 ·obtain⟨r2,o2,h2⟩:=hO b ⟨r',o',hk⟩;exact hC.boxf r b o n (hβ ▸ hb) r2 o2 h2
 ·obtain⟨r2,o2,h2⟩:=hO k ⟨r,o,hk⟩;exact hC.allow r2 o2 k h2
def ji(C:Cs)(r o:Nat)(t:TV):Cs:=λr' o'=>if r'=r/\o'=o then t else C r' o'
theorem iM.share{A:Nat->Prop}{C:Cs}{w:World}{G:Gh}(hC:iM A C w G)(r o:Nat)(os:List Nat)(hd:C r o≠.dead):
 ∃G',G'.β=G.β/\G'.η=G.η/\iM A (ji C r o (cW (C r o) os)) w G'/\(∀k,G.F A k->G'.F A k)/\∀r o k,G'.φ r o k->G.φ r o k:=by
 obtain⟨fp',h1,h2⟩:=(hC.own hd).shareAt
 let G':Gh:=⟨G.β,G.η,λr' o' k=>if r'=r/\o'=o then fp' k else G.φ r' o' k⟩
 have Z':∀r' o' k,G'.φ r' o' k->G.φ r' o' k:=by
  intro r' o' k hk;dsimp[G']at hk;split at hk
  ·simp_all
  ·exact hk
 have YE:=iM.ghost (C':=ji C r o (cW (C r o) os)) (G':=G') hC rfl (λk ⟨r',o',h⟩=>⟨r',o',Z' r' o' k h⟩)
  (λ_ _ _ _ k h h'=>hC.dis _ _ _ _ k (Z' _ _ k h) (Z' _ _ k h'))
  (λr' b o0 n hb o' Zj=>by
   unfold ji;split
   ·rename_i e;rw[<- e.1,<- e.2]at hd;exact absurd (hC.boxc r' b o0 n hb o' Zj) hd
   ·exact hC.boxc r' b o0 n hb o' Zj)
  (λr' o'=>by
   by_cases e:r'=r/\o'=o
   ·obtain⟨rfl,rfl⟩:=e;refine .inr (.inr ?_);simp[ji,if_true]
    refine(h2.frame (λ_ _=>rfl) (λ_ _ _=>rfl) ?_).refp λk=>by simp[G']
    rintro k (⟨h3,h4,h5⟩|⟨h3,h4⟩) _
    ·exact⟨h3,λr2 o2 h=>h4 r2 o2 (Z' r2 o2 k h),h5⟩
    ·refine⟨hC.allow _ _ k h3,λr2 o2 h=>?_,λr2 b o2 n hb RA=>hC.boxf r2 b o2 n hb _ _ (RA▸h3)⟩;have:=hC.dis _ _ _ _ k h3 (Z' r2 o2 k h);obtain⟨rfl,rfl⟩:=this;exact h4 (by simpa[G']using h)
   ·exact .inl ⟨by simp[ji,e],λk=>by simp[G',e],rfl⟩)
 exact⟨G',rfl,rfl,YE.1,YE.2,Z'⟩
theorem iM.shareV{A:Nat->Prop}{C:Cs}{w:World}{G:Gh}(hC:iM A C w G)(q:bS){c:List (List TV)}(ht:b7 (C q.root q.off) q.hops=some (.ow c)):
 ∃G' u,G'.β=G.β/\G'.η=G.η/\iM A (ji C q.root q.off (cW (C q.root q.off) (fE q.hops))) w G'/\(∀k,G.F A k->G'.F A k)/\(∀r o k,G'.φ r o k->G.φ r o k)/\
  G.hv w q=some u/\io w (G'.F A) (TV.ow c).imm u:=by
 obtain⟨r,o,hs⟩:=q
 have hd:C r o≠.dead:=by
  intro hd;have:=ht;rw[hd]at this;cases hs<;>simp[b7]at this
 obtain⟨G',hβ,hη,Wc,hF,hφ⟩:=hC.share r o (fE hs) hd;have hg:=B5 ht
 have WJ:ji C r o (cW (C r o) (fE hs)) r o=cW (C r o) (fE hs):=by simp[ji]
 have Zu:ji C r o (cW (C r o) (fE hs)) r o≠.dead:=by
  rw[WJ];intro hd2;have h2:=hg;rw[hd2]at h2;cases hs<;>simp[b7,TV.imm]at h2
 have hown:=Wc.own Zu;rw[WJ]at hown;have hv:G'.val w r o=G.val w r o:=gh (by rw[hβ]) (by rw[hη]) λ_ _ _ _=>rfl;rw[hv]at hown
 have fin:∀u fp,fa w (G'.F A) fp (TV.ow c).imm u->io w (G'.F A) (TV.ow c).imm u:=by
  intro u fp h
  cases h with
  |sl _ h=>exact h
 cases hs with
 |nil=>
  refine⟨G',G.val w r o,hβ,hη,Wc,hF,hφ,rfl,fin _ (G'.φ r o) ?_⟩;simp only[b7,oSJ]at ht
  have e:cW (C r o) (fE [])=(TV.ow c).imm:=by rw[ht];rfl
  simp_all
 |cons h hs=>
  obtain⟨ad,u,Zw,h1,_,h3,_,h5,_⟩:=lens hown (by simp) hg;exact⟨G',u,hβ,hη,Wc,hF,hφ,g9 h1 h3,fin _ _ h5⟩
theorem iM.move{A:Nat->Prop}{C:Cs}{w:World}{G:Gh}(hC:iM A C w G)(q:bS){c:List (List TV)}(ht:b7 (C q.root q.off) q.hops=some (.ow c))(h ho:Nat)(hβ:G.β h=none)(hd:C h ho=.dead):
 ∃G' u,G'.β=G.β/\(∀r o,¬(r=h/\o=ho)->G'.η r o=G.η r o)/\G'.η h ho=u/\G.hv w q=some u /\
  iM A (ji (ji C q.root q.off (eE (C q.root q.off) q.hops .dead)) h ho (.ow c)) w G'/\(∀k,G.F A k->G'.F A k):=by
 obtain⟨r,o,hs⟩:=q
 have hdr:C r o≠.dead:=by
  intro hdr;have:=ht;simp only at this;rw[hdr]at this;cases hs<;>simp[b7]at this
 have Se:∃u Zw,G.hv w ⟨r,o,hs⟩=some u/\fa w (G.F A) Zw (.ow c) u/\(∀k,Zw k->G.φ r o k)/\
  ∀F',(∀k,G.F A k->F' k)->((eE (C r o) hs .dead=.dead/\∀k,¬(G.φ r o k/\¬Zw k))\/fa w F' (λk=>G.φ r o k/\¬Zw k) (eE (C r o) hs .dead) (G.val w r o)):=by
  cases hs with
  |nil=>
   simp only[b7,oSJ]at ht;have hown:=hC.own hdr;refine⟨G.val w r o,G.φ r o,rfl,by rw[ht]at hown;exact hown,λ_ h=>h,λF' _=>.inl ⟨rfl,λk h=>h.2 h.1⟩⟩
  |cons hp hs=>
   obtain⟨ad,u,Zw,h1,Zn,h3,h4,h5,h6,h7,h8,Xs⟩:=lens (hC.own hdr) (by simp) ht;refine⟨u,Zw,g9 h1 h3,h5,h6,λF' Q1=>.inr ?_⟩
   have:=Xs w F' .dead u (λ_=>False) (λk _ _=>by
    by_cases hk:k=ad.block
    ·obtain⟨ab,ao,asq⟩:=ad;simp only at hk Zn;subst hk;subst Zn;unfold World.cell? at h3
     cases hb:w.heap[k]? with
     |none=>simp[hb]at h3
     |some ob=>
      cases ob with
      |cells cur e fz=>
       simp only[hb]at h3;rw[iD w k ao u hb];congr 2;apply Array.ext_getElem?;intro j;rw[Array.getElem?_setIfInBounds];by_cases hj:ao=j
       ·subst hj;rw[oIP rfl]
        have Uu:cur[ao]?=some u:=by simpa using h3
        rw[Uu,oIP (Array.getElem?_eq_some_iff.1 Uu).1]
       ·rw[oIN hj]
      |_=>simp[hb]at h3
    ·exact(cc w ad u hk).symm) (λ_ _ _=>rfl) (λk hk _=>Q1 k hk) (.dead (λ_ h=>h) h5.one) (λ_ h=>h.elim)
   exact this.refp λk=>⟨λh=>h.elim id False.elim,.inl⟩
 obtain⟨u,Zw,ZP,XR,Z',ZW⟩:=Se
 let G':Gh:=⟨G.β,λr' o'=>if r'=h/\o'=ho then u else G.η r' o',λr' o' k=>if r'=h/\o'=ho then Zw k else if r'=r/\o'=o then G.φ r o k/\¬Zw k else G.φ r' o' k⟩
 have XU:∀r' o' k,G'.φ r' o' k->(r'=h/\o'=ho/\Zw k)\/(¬(r'=h/\o'=ho)/\G.φ r' o' k/\(r'=r/\o'=o->¬Zw k)):=by
  intro r' o' k hk;dsimp only[G']at hk;split at hk
  ·rename_i e;exact .inl ⟨e.1,e.2,hk⟩
  ·rename_i e;split at hk
   ·simp_all
   ·rename_i e2;exact .inr ⟨e,hk,λh=>absurd h e2⟩
 have Zz:∀k,G.F A k->G'.F A k:=by
  rintro k ⟨h1,h2,h3⟩;refine⟨h1,λr' o' hk=>?_,h3⟩
  rcases XU r' o' k hk with⟨_,_,h4⟩|⟨_,h4,_⟩
  ·exact h2 r o (Z' k h4)
  ·exact h2 r' o' h4
 have YE:=iM.ghost (C':=ji (ji C r o (eE (C r o) hs .dead)) h ho (.ow c)) (G':=G') hC rfl
  (λk ⟨r',o',hk⟩=>by
   rcases XU r' o' k hk with⟨_,_,h4⟩|⟨_,h4,_⟩
   ·exact⟨r,o,Z' k h4⟩
   ·exact⟨r',o',h4⟩)
  (λr1 o1 r2 o2 k h1 h2=>by
   rcases XU r1 o1 k h1 with⟨e1,e2,h3⟩|⟨e1,h3,Uu⟩
   ·rcases XU r2 o2 k h2 with⟨e3,e4,h4⟩|⟨e3,h4,I'⟩
    ·exact⟨e1.trans e3.symm,e2.trans e4.symm⟩
    ·have:=hC.dis _ _ _ _ k h4 (Z' k h3);exact absurd h3 (I' this)
   ·rcases XU r2 o2 k h2 with⟨e3,e4,h4⟩|⟨e3,h4,I'⟩
    ·have:=hC.dis _ _ _ _ k h3 (Z' k h4);exact absurd h4 (Uu this)
    ·exact hC.dis _ _ _ _ k h3 h4)
  (λr' b o0 n hb o' Zj=>by
   unfold ji;split
   ·rename_i e;rw[e.1,hβ]at hb;simp at hb
   ·split
    ·rename_i e;rw[<- e.1,<- e.2]at hdr;exact absurd (hC.boxc r' b o0 n hb o' Zj) hdr
    ·exact hC.boxc r' b o0 n hb o' Zj)
  (λr' o'=>by
   by_cases e:r'=h/\o'=ho
   ·obtain⟨rfl,rfl⟩:=e;refine .inr (.inr ?_)
    have hv:G'.val w r' o'=u:=by simp[Gh.val,G',hβ]
    rw[hv];simp only[ji,and_self,if_true]
    exact(XR.frame (λ_ _=>rfl) (λ_ _ _=>rfl) λk hk _=>Zz k hk).refp λk=>by simp[G']
   ·by_cases e2:r'=r/\o'=o
    ·obtain⟨rfl,rfl⟩:=e2
     have WT:ji (ji C r' o' (eE (C r' o') hs .dead)) h ho (.ow c) r' o'=eE (C r' o') hs .dead:=by simp[ji,e]
     rw[WT]
     have ZO:∀k,G'.φ r' o' k↔(G.φ r' o' k/\¬Zw k):=λk=>by simp[G',e]
     have hv:G'.val w r' o'=G.val w r' o':=gh rfl (by simp[G',e]) λ_ _ _ _=>rfl
     rcases ZW (G'.F A) Zz with⟨h1,h2⟩|h1
     ·exact .inr (.inl ⟨h1,λk hk=>h2 k ((ZO k).1 hk)⟩)
     ·exact .inr (.inr (by rw[hv];exact h1.refp λk=>(ZO k).symm))
    ·exact .inl ⟨by simp[ji,e,e2],λk=>by simp[G',e,e2],by simp[G',e]⟩)
 exact⟨G',u,rfl,λr' o' e=>by simp[G',e],by simp[G'],ZP,YE.1,YE.2⟩
def gY(V:Vs)(r o n:Nat):List Nat:=V (r,0,0)::(List.range n).map λd=>V (r,o,d+1)
theorem iS{V V':Vs}{r o n:Nat}:gY V r o n=gY V' r o n↔V (r,0,0)=V' (r,0,0)/\∀d,d<n->V (r,o,d+1)=V' (r,o,d+1):=by
 unfold gY
 simp_all
theorem jh{V0 V V':Vs}{r o n:Nat}(h0:∀q,V0 q<=V q)(h1:∀q,V q<=V' q)(h:gY V0 r o n=gY V' r o n):gY V0 r o n=gY V r o n/\gY V' r o n=gY V r o n:=by
 rw[iS]at h⊢;rw[iS];have ⟨h2,h3⟩:=h;refine⟨⟨?_,λd hd=>?_⟩,?_,λd hd=>?_⟩
 ·have:=h0 (r,0,0);have:=h1 (r,0,0);omega
 ·have:=h0 (r,o,d+1);have:=h1 (r,o,d+1);have:=h3 d hd;omega
 ·have:=h0 (r,0,0);have:=h1 (r,0,0);omega
 ·have:=h0 (r,o,d+1);have:=h1 (r,o,d+1);have:=h3 d hd;omega
theorem ke{V V':Vs}{r o n:Nat}{q:Key}(hq:V q<V' q)(h:gY V' r o n=gY V r o n):q≠(r,0,0)/\∀d,d<n->q≠(r,o,d+1):=by
 rw[iS]at h;refine⟨λe=>?_,λd hd e=>?_⟩
 all_goals simp_all
def OP(w:World)(C:Cs)(G:Gh)(p:bS)(x:Value):Prop:=p.root≠1/\∃ad t,G.addr w p=some ad/\x=.pointer (some ad)/\b7 (C p.root p.off) p.hops=some t
def PO(w:World)(C:Cs)(G:Gh)(p:bS)(x:Value):Prop:=p.root≠1/\∃c,G.hv w p=some x/\b7 (C p.root p.off) p.hops=some (.ow c)
def PN(w:World)(C:Cs)(G:Gh)(p:bS)(sz lo n:Nat)(x:Value):Prop:=
 p.root≠1/\∃c h,G.hv w p=some h/\b7 (C p.root p.off) p.hops=some (.ow c)/\lo+n<=c.length /\
  ∃a cap,x=.slice a n cap/\(n<=cap/\c.length<=lo+cap)/\cap<=maxLen/\(a=none->cap=0)/\(∀i (h:i<c.length),c[i].length=sz)/\(0<cap->∃b len Z1,h=.slice (some ⟨b,0,none⟩) len Z1/\a=some ⟨b,lo*sz,none⟩)
inductive ImF (w:World)(F:Nat->Prop):TV->Value->Prop
 |im {t:TV} {x:Value} (h:io w F t x):ImF w F t x
 |ip {cs:List TV} {b o:Nat} (u:Nat->Value) (hc:∀j,j<cs.length->F b/\w.cell? ⟨b,o+j,none⟩=some (u j)) (hr:∀j (h:j<cs.length),ImF w F cs[j] (u j)):
  ImF w F (.ip cs) (.pointer (some ⟨b,o,none⟩))
 |fn {f:FuncId} {l:List TV} {xs:Array Value} (hl:xs.size=l.length) (h:∀j (hj:j<l.length),ImF w F l[j] (xs.getD j undef)):ImF w F (.fn f l) (.func (.func f) #[] xs)
theorem ImF.frame{w w':World}{F F':Nat->Prop}{t:TV}{x:Value}(h:ImF w F t x)(hw:∀k,F k->k<w.heap.size->w'.heap[k]?=w.heap[k]?)(hF:∀k,F k->k<w.heap.size->F' k):ImF w' F' t x:=by
 induction h with
 |im h=>exact .im (h.frame hw hF)
 |ip u hc hr ih=>
  refine .ip u (λj hj=>?_) ih;have ⟨h1,h2⟩:=hc j hj;have hlt:=World.block_lt_of_cell? w _ h2;exact⟨hF _ h1 hlt,by rw[World.cell?_of_block (hw _ h1 hlt)];exact h2⟩
 |fn hl _ ih=>exact .fn hl ih
theorem ImF.one{w:World}{F:Nat->Prop}{t:TV}{x:Value}(h:ImF w F t x):x.oneCell'=true:=by
 cases h with
 |im h=>exact h.one
 |ip=>rfl
 |fn=>rfl
inductive TmR (w:World)(F:Nat->Prop)(V:Vs)(C:Cs)(G:Gh):TV->Value->Prop
 |v {x:Value} (h:gc x=true):TmR w F V C G (.v x) x
 |nil {a:Option Addr}:TmR w F V C G (.ow []) (.slice a 0 0)
 |sl {c:List (List TV)} {x:Value} (h:io w F (.sl c) x):TmR w F V C G (.sl c) x
 |dead {x:Value}:TmR w F V C G .dead x
 |ptr {p:bS} {vs:List Nat} {x:Value} (V0:Vs) (h0:∀q,V0 q<=V q) (hv:vs=gY V0 p.root p.off p.hops.length)
  (h:vs=gY V p.root p.off p.hops.length->OP w C G p x):TmR w F V C G (.ptr p vs) x
 |ip {cs:List TV} {b o:Nat} (u:Nat->Value) (hc:∀j,j<cs.length->F b/\w.cell? ⟨b,o+j,none⟩=some (u j)) (hr:∀j (h:j<cs.length),ImF w F cs[j] (u j)):
  TmR w F V C G (.ip cs) (.pointer (some ⟨b,o,none⟩))
 |pk {p:bS} {vs:List Nat} {x:Value} (V0:Vs) (h0:∀q,V0 q<=V q) (hv:vs=gY V0 p.root p.off (p.hops.length+1))
  (h:vs=gY V p.root p.off (p.hops.length+1)->PO w C G p x):TmR w F V C G (.pk p vs) x
 |pw {p:bS} {vs:List Nat} {sz lo n:Nat} {x:Value} (V0:Vs) (h0:∀q,V0 q<=V q) (hv:vs=gY V0 p.root p.off (p.hops.length+1))
  (h:vs=gY V p.root p.off (p.hops.length+1)->PN w C G p sz lo n x):TmR w F V C G (.pw p vs sz lo n) x
 |agg {l:List TV} {xs:Array Value} (hl:xs.size=l.length) (h:∀j (hj:j<l.length),TmR w F V C G l[j] (xs.getD j undef)):TmR w F V C G (.agg l) (.agg xs)
 |tup {l:List TV} {xs:Array Value} (hl:xs.size=l.length) (h:∀j (hj:j<l.length),TmR w F V C G l[j] (xs.getD j undef)):TmR w F V C G (.tup l) (.tuple xs)
 |fn {f:FuncId} {l:List TV} {xs:Array Value} (hl:xs.size=l.length) (h:∀j (hj:j<l.length),TmR w F V C G l[j] (xs.getD j undef)):TmR w F V C G (.fn f l) (.func (.func f) #[] xs)
theorem ImF.toTm{w:World}{F:Nat->Prop}{V:Vs}{C:Cs}{G:Gh}{t:TV}{x:Value}(h:ImF w F t x):TmR w F V C G t x:=by
 induction h with
 | @im t x h=>
  cases t with
  |v y=>cases h with|v hf=>exact .v hf
  |sl c=>exact .sl h
  |dead=>exact .dead
  |_=>cases h
 |ip u hc hr _=>exact .ip u hc hr
 |fn hl _ ih=>exact .fn hl ih
def zS:TV->Bool
 |.v _=>true
 |.sl _=>true
 |.ip _=>true
 |_=>false
def J1:TV->Bool
 |.fn _ l=>l.all zS
 |t=>zS t
theorem TmR.imC{w:World}{F:Nat->Prop}{V:Vs}{C:Cs}{G:Gh}{t:TV}{x:Value}(h:TmR w F V C G t x)(ht:zS t=true):ImF w F t x:=by
 cases h with
 |v h=>exact .im (.v h)
 |sl h=>exact .im h
 |ip u hc hr=>exact .ip u hc hr
 |_=>simp[zS]at ht
theorem TmR.imF{w:World}{F:Nat->Prop}{V:Vs}{C:Cs}{G:Gh}{t:TV}{x:Value}(h:TmR w F V C G t x)(ht:J1 t=true):ImF w F t x:=by
 cases h with
 |v h=>exact .im (.v h)
 |sl h=>exact .im h
 |ip u hc hr=>exact .ip u hc hr
 |fn hl hh=>exact .fn hl λj hj=>(hh j hj).imC (by simp[J1]at ht;exact ht _ (List.getElem_mem hj))
 |_=>simp[J1,zS]at ht
structure gf (w w':World)(V V':Vs)(C C':Cs)(G G':Gh):Prop where
 ver:∀q,V q<=V' q
 ptr:∀p ad t,p.root≠1->gY V' p.root p.off p.hops.length=gY V p.root p.off p.hops.length->G.addr w p=some ad->b7 (C p.root p.off) p.hops=some t ->
  ∃t',G'.addr w' p=some ad/\b7 (C' p.root p.off) p.hops=some t'
 hdr:∀p h c,p.root≠1->gY V' p.root p.off (p.hops.length+1)=gY V p.root p.off (p.hops.length+1)->G.hv w p=some h->b7 (C p.root p.off) p.hops=some (.ow c)->
  ∃c',G'.hv w' p=some h/\b7 (C' p.root p.off) p.hops=some (.ow c')/\c'.map List.length=c.map List.length
theorem gf.refl(w:World)(V:Vs)(C:Cs)(G:Gh):gf w w V V C C G G:=⟨λ_=>Nat.le_refl _,λ_ _ t _ _ h h'=>⟨t,h,h'⟩,λ_ _ c _ _ h h'=>⟨c,h,h',rfl⟩⟩
theorem gf.trans{w w' Xx:World}{V V' ds:Vs}{C C' C'':Cs}{G G' U2:Gh}(a:gf w w' V V' C C' G G')(b:gf w' Xx V' ds C' C'' G' U2):gf w Xx V ds C C'' G U2:=by
 refine⟨λq=>Nat.le_trans (a.ver q) (b.ver q),λp ad t Z8 hv h1 h2=>?_,λp h c Z8 hv h1 h2=>?_⟩
 ·have ⟨e1,e2⟩:=jh a.ver b.ver hv.symm;have ⟨t',h3,h4⟩:=a.ptr p ad t Z8 e1.symm h1 h2;exact b.ptr p ad t' Z8 e2 h3 h4
 ·have ⟨e1,e2⟩:=jh a.ver b.ver hv.symm;have ⟨c',h3,h4,h5⟩:=a.hdr p h c Z8 e1.symm h1 h2;have ⟨c2,h6,h7,h8⟩:=b.hdr p h c' Z8 e2 h3 h4
  simp_all
theorem TmR.keep{w w':World}{F F':Nat->Prop}{V V':Vs}{C C':Cs}{G G':Gh}{t:TV}{x:Value}(h:TmR w F V C G t x)(k:gf w w' V V' C C' G G')
 (hw:∀k,F k->k<w.heap.size->w'.heap[k]?=w.heap[k]?)(hF:∀k,F k->k<w.heap.size->F' k):TmR w' F' V' C' G' t x:=by
 induction h with
 |v h=>exact .v h
 |nil=>exact .nil
 |sl h=>exact .sl (h.frame hw hF)
 |dead=>exact .dead
 |ptr V0 h0 hv h=>
  refine .ptr V0 (λq=>Nat.le_trans (h0 q) (k.ver q)) hv λe=>?_;obtain⟨e1,e2⟩:=jh h0 k.ver (hv.symm.trans e);obtain⟨Z8,ad,t,h1,h2,h3⟩:=h (hv.trans e1);obtain⟨t',h4,h5⟩:=k.ptr _ ad t Z8 e2 h1 h3;exact⟨Z8,ad,t',h4,h2,h5⟩
 |ip u hc hr=>
  refine .ip u (λj hj=>?_) λj hj=>(hr j hj).frame hw hF;obtain⟨h1,h2⟩:=hc j hj;have hlt:=World.block_lt_of_cell? w _ h2;exact⟨hF _ h1 hlt,by rw[World.cell?_of_block (w:=w) (hw _ h1 hlt)];exact h2⟩
 |pk V0 h0 hv h=>
  refine .pk V0 (λq=>Nat.le_trans (h0 q) (k.ver q)) hv λe=>?_;obtain⟨e1,e2⟩:=jh h0 k.ver (hv.symm.trans e);obtain⟨Z8,c,h1,h2⟩:=h (hv.trans e1);obtain⟨c',h4,h5,_⟩:=k.hdr _ _ c Z8 e2 h1 h2;exact⟨Z8,c',h4,h5⟩
 |pw V0 h0 hv h=>
  refine .pw V0 (λq=>Nat.le_trans (h0 q) (k.ver q)) hv λe=>?_;obtain⟨e1,e2⟩:=jh h0 k.ver (hv.symm.trans e);obtain⟨Z8,c,h,h1,h2,h3,h6⟩:=h (hv.trans e1);obtain⟨c',h4,h5,h7⟩:=k.hdr _ _ c Z8 e2 h1 h2;obtain⟨a,cap,q1,q2,q3,q4,q5,q6⟩:=h6;have hl:=EH h7;refine⟨Z8,c',h,h4,h5,by omega,a,cap,q1,by omega,q3,q4,λi hi=>?_,q6⟩
  have e3:(c'.map List.length)[i]?=(c.map List.length)[i]?:=by rw[h7]
  have ZT:i<c.length:=by omega
  simp only[List.getElem?_map,oGE hi,oGE ZT,oMS,oSJ]at e3;rw[e3];exact q5 i ZT
 |agg hl _ ih=>exact .agg hl ih
 |tup hl _ ih=>exact .tup hl ih
 |fn hl _ ih=>exact .fn hl ih
theorem vg{G G':Gh}{w w':World}{p:bS}{ad:Addr}(hw:∀k,k<w.heap.size->w'.heap[k]?=w.heap[k]?)(hβ:G'.β p.root=G.β p.root)(hval:G'.val w' p.root p.off=G.val w p.root p.off)(hh:G.addr w p=some ad):G'.addr w' p=some ad:=by
 unfold Gh.addr at *
 cases hp:p.hops with
 |nil=>simp_all
 |cons a r=>
  rw[hp]at hh;rw[hval];exact rY hw hh
theorem tw{G G':Gh}{w w':World}{p:bS}{h:Value}(hw:∀k,k<w.heap.size->w'.heap[k]?=w.heap[k]?)(hval:G'.val w' p.root p.off=G.val w p.root p.off)(hh:G.hv w p=some h):G'.hv w' p=some h:=by
 unfold Gh.hv at *;rw[hval]
 cases hp:p.hops with
 |nil=>rw[hp]at hh;exact hh
 |cons a r=>
  rw[hp]at hh;simp[hvT]at hh⊢
  cases ha:ct w (G.val w p.root p.off) (a::r)with
  |none=>simp_all
  |some ad=>
   rw[rY hw ha];simp[ha]at hh⊢;rw[World.cell?_of_block (hw _ (World.block_lt_of_cell? w _ hh))];exact hh
theorem gf.root{w w':World}{V V':Vs}{C C':Cs}{G G':Gh}{A:Nat->Prop}(hC:iM A C w G)(r:Nat)(hw:∀k,k<w.heap.size->w'.heap[k]?=w.heap[k]?)
 (hV:∀q,V q<=V' q)(hr:V (r,0,0)<V' (r,0,0))(hCs:∀r' o,r'≠r->r'≠1->C' r' o=C r' o)(hβ:∀r',r'≠r->r'≠1->G'.β r'=G.β r')(hη:∀r' o,r'≠r->r'≠1->G'.η r' o=G.η r' o):gf w w' V V' C C' G G':=by
 have hval:=λr' o hne h1=>gh (hβ r' hne h1) (hη r' o hne h1) λb o n hb=>hw b (hC.boxlt hb);refine⟨hV,λp ad t Z8 hv h1 h2=>?_,λp h c Z8 hv h1 h2=>?_⟩
 ·have hne:p.root≠r:=λe=>(ke hr hv).1 (by rw[e]);exact⟨t,vg hw (hβ _ hne Z8) (hval _ _ hne Z8) h1,by simp_all⟩
 ·have hne:p.root≠r:=λe=>(ke hr hv).1 (by rw[e]);exact⟨c,tw hw (hval _ _ hne Z8) h1,by simp_all,rfl⟩
theorem gf.grow{w w':World}{V:Vs}{C:Cs}{G:Gh}{A:Nat->Prop}(hC:iM A C w G)(hw:∀k,k<w.heap.size->w'.heap[k]?=w.heap[k]?):gf w w' V V C C G G:=by
 have hval:=(hC.grow hw).2;exact⟨λ_=>Nat.le_refl _,λp ad t _ _ h1 h2=>⟨t,vg hw rfl (hval _ _) h1,h2⟩,λp h c _ _ h1 h2=>⟨c,tw hw (hval _ _) h1,h2,rfl⟩⟩
theorem rP{os:List Nat}:∀{hs:List Hop}{tv t:TV},b7 tv hs=some t->hs.length<=os.length->∃t1,b7 (cW tv os) hs=some t1/\(hs.length<os.length->∀c,t=.ow c->∃c',t1=.ow c'/\c'.map List.length=c.map List.length):=by
 induction os with
 |nil=>
  intro hs tv t _ hl;have:hs=[]:=oEN (by simpa using hl);subst this;exact⟨_,rfl,λh=>absurd h (by simp)⟩
 |cons o os ih=>
  intro hs tv t h hl
  cases hs with
  |nil=>
   simp only[b7,oSJ]at h;subst h;exact⟨_,rfl,λ_ c hc=>by subst hc;exact⟨_,rfl,by simp⟩⟩
  |cons p hs=>
   obtain⟨i,sz,o'⟩:=p;obtain⟨c,el,t2,rfl,hc,hz,ho,XC⟩:=eB h;subst hz;simp at hl;by_cases hoo:o=o'
   ·subst hoo;obtain⟨t1,h1,h2⟩:=ih XC hl;refine⟨t1,?_,λhlt=>h2 (by simpa using hlt)⟩;simp[cW,b7,List.getElem?_modify,hc,ho,h1]
   ·refine⟨t,?_,λ_ c hc=>⟨c,hc,rfl⟩⟩;simp[cW,b7,List.getElem?_modify,hc,ho,hoo,XC]
theorem gf.ghost{w:World}{V V':Vs}{C C':Cs}{G G':Gh}(r o d:Nat)(hV:∀q,V q<=V' q)(hr:V (r,o,d+1)<V' (r,o,d+1))(hβ:G'.β=G.β)
 (hη:∀r' o',r'≠1->C r' o'≠.dead->G'.η r' o'=G.η r' o')
 (hCs:∀r' o',¬(r'=r/\o'=o)->r'≠1->C' r' o'=C r' o')
 (hq:∀hs t,b7 (C r o) hs=some t->hs.length<=d->∃t1,b7 (C' r o) hs=some t1/\(hs.length<d->∀c,t=.ow c->∃c',t1=.ow c'/\c'.map List.length=c.map List.length)):gf w w V V' C C' G G':=by
 have hval:∀r' o',r'≠1->C r' o'≠.dead->G'.val w r' o'=G.val w r' o':=λr' o' h1 hd=>gh (by rw[hβ]) (hη r' o' h1 hd) λ_ _ _ _=>rfl;refine⟨hV,λp ad t Z8 hv h1 h2=>?_,λp h c Z8 hv h1 h2=>?_⟩
 ·have Zq:=(ke hr hv).2
  have ha:G'.addr w p=some ad:=by
   cases hp:p.hops with
   |nil=>unfold Gh.addr at h1⊢;rw[hp]at h1⊢;rw[hβ];exact h1
   |cons a l=>
    have hd:C p.root p.off≠.dead:=λhd=>by rw[hd,hp]at h2;simp[b7]at h2
    exact vg (λ_ _=>rfl) (by rw[hβ]) (hval _ _ Z8 hd) h1
  by_cases he:p.root=r/\p.off=o
  ·have hl:p.hops.length<=d:=by
    rcases Nat.lt_or_ge d p.hops.length with h|h
    ·exact absurd (show((r,o,d+1):Key)=(p.root,p.off,d+1) by rw[he.1,he.2]) (Zq d h)
    ·exact h
   rw[he.1,he.2]at h2;obtain⟨t1,h3,_⟩:=hq _ _ h2 hl;exact⟨t1,ha,by rw[he.1,he.2];exact h3⟩
  ·exact⟨t,ha,by rw[hCs _ _ he Z8];exact h2⟩
 ·have Zq:=(ke hr hv).2
  have hd:C p.root p.off≠.dead:=λhd=>by rw[hd]at h2;cases hp:p.hops<;>rw[hp]at h2<;>simp[b7]at h2
  have hh:=tw (G':=G') (λ_ _=>rfl) (hval _ _ Z8 hd) h1;by_cases he:p.root=r/\p.off=o
  ·have hl:p.hops.length<d:=by
    rcases Nat.lt_or_ge d (p.hops.length+1)with h|h
    ·exact absurd (show((r,o,d+1):Key)=(p.root,p.off,d+1) by rw[he.1,he.2]) (Zq d h)
    ·exact h
   rw[he.1,he.2]at h2;obtain⟨t1,h3,h4⟩:=hq _ _ h2 (Nat.le_of_lt hl)
   simp_all
  ·simp_all
theorem iM.hv_own{A:Nat->Prop}{C:Cs}{w:World}{G:Gh}(hC:iM A C w G)(p:bS){t:TV}(ht:b7 (C p.root p.off) p.hops=some t)(hd:t≠.dead):
 ∃u fp,G.hv w p=some u/\fa w (G.F A) fp t u/\(∀k,fp k->G.φ p.root p.off k)/\(p.hops≠[]->∃ad,ct w (G.val w p.root p.off) p.hops=some ad/\w.cell? ad=some u/\G.φ p.root p.off ad.block):=by
 have ⟨r,o,hs⟩:=p
 have hdr:C r o≠.dead:=by
  intro hdr;have:=ht;rw[hdr]at this
  cases hs with
  |nil=>simp[b7]at this;exact hd this.symm
  |cons=>simp[b7]at this
 cases hs with
 |nil=>
  simp[b7]at ht;subst ht;exact⟨G.val w r o,G.φ r o,rfl,hC.own hdr,λ_ h=>h,λh=>absurd rfl h⟩
 |cons h hs=>
  have ⟨ad,u,Zw,h1,_,h3,_,h5,h6,h7,_⟩:=lens (hC.own hdr) (by simp) ht;exact⟨u,Zw,g9 h1 h3,h5,h6,λ_=>⟨ad,h1,h3,h7⟩⟩
section
variable {A:Nat->Prop} {C:Cs} {w:World} {G:Gh}
theorem iM.where_(hC:iM A C w G)(q:bS){t:TV}{ad:Addr}(Z5:G.addrB w q=some ad)(ht:b7 (C q.root q.off) q.hops=some t):
 (q.hops=[]/\∃b o0 n,G.β q.root=some (b,o0,n)/\q.off<n/\ad=⟨b,o0+q.off,none⟩)\/(q.hops≠[]/\G.φ q.root q.off ad.block):=by
 obtain⟨r,o,hs⟩:=q
 cases hs with
 |nil=>
  left;simp only[Gh.addrB]at Z5
  cases hbr:G.β r with
  |none=>simp[hbr]at Z5
  |some y=>
   obtain⟨b,o0,n⟩:=y;simp only[hbr]at Z5;split at Z5
   ·rename_i hlt
    injection Z5 with Z5
    exact⟨rfl,b,o0,n,by simp_all,hlt,Z5.symm⟩
   ·simp at Z5
 |cons h hs=>
  right
  have hd:C r o≠.dead:=λhd=>by
   have:=ht;simp only at this;rw[hd]at this;simp[b7]at this
  obtain⟨Xy,u,Zw,h1,_,_,_,_,_,h7,_⟩:=lens (hC.own hd) (by simp) ht;have XG:ct w (G.val w r o) (h::hs)=some ad:=Z5
  simp_all
theorem iM.val_set(hC:iM A C w G)(q:bS){t:TV}{ad:Addr}(Z5:G.addrB w q=some ad)(ht:b7 (C q.root q.off) q.hops=some t){w':World}{u':Value}
 (hw:∀k,k<w.heap.size->w'.heap[k]?=(w.setCell ad u').heap[k]?){r' o':Nat}(hd:C r' o'≠.dead)(hne:¬(q.hops=[]/\r'=q.root/\o'=q.off)):G.val w' r' o'=G.val w r' o':=by
 unfold Gh.val
 cases hbb:G.β r' with
 |none=>rfl
 |some x=>
  have ⟨b,o0,n⟩:=x
  have hna:(⟨b,o0+o',none⟩:Addr)≠ad:=by
   intro e
   rcases hC.where_ q Z5 ht with⟨h1,b2,o2,n2,h2,h3,h4⟩|⟨_,h1⟩
   ·rw[h4]at e
    injection e with e1 e2
    have hr:=hC.boxd r' q.root b o0 n o2 n2 hbb (by rw[h2,e1])
    simp_all
   ·exact hC.boxf r' b o0 n hbb _ _ (by rw[<- e]at h1;exact h1)
  show(w'.cell? ⟨b,o0+o',none⟩).getD undef=(w.cell? ⟨b,o0+o',none⟩).getD undef;rw[World.cell?_of_block (hw b (hC.boxlt hbb)),World.cell?_setCell_other w ad ⟨b,o0+o',none⟩ u' (λe=>hna e.symm)]
theorem iM.phi_ne(hC:iM A C w G)(q:bS){t:TV}{ad:Addr}(Z5:G.addrB w q=some ad)(ht:b7 (C q.root q.off) q.hops=some t){r' o' k:Nat}(hne:¬(r'=q.root/\o'=q.off))(hk:G.φ r' o' k):k≠ad.block:=by
 intro e
 rcases hC.where_ q Z5 ht with⟨h1,b2,o2,n2,h2,h3,h4⟩|⟨_,h1⟩
 ·rw[h4]at e;exact hC.boxf _ _ _ _ h2 r' o' (by simp_all)
 ·exact hne (hC.dis _ _ _ _ k hk (by simp_all))
theorem jg{G':Gh}{w':World}{p:bS}{ad:Addr}(h1:G.addr w p=some ad)(hβ:G'.β=G.β)(hT:p.hops≠[]->ct w' (G'.val w' p.root p.off) p.hops=ct w (G.val w p.root p.off) p.hops):G'.addr w' p=some ad:=by
 unfold Gh.addr at h1⊢
 cases hp:p.hops with
 |nil=>simp_all
 |cons a r=>simp_all
theorem wU(hC:iM A C w G)(q:bS){u u':Value}{ad:Addr}(Z5:G.addrB w q=some ad)(ht:b7 (C q.root q.off) q.hops=some (.v u))(Qw:gc u'=true){w':World}{C':Cs}{G':Gh}{V:Vs}{t':TV}
 (hw:∀k,k<w.heap.size->w'.heap[k]?=(w.setCell ad u').heap[k]?)(hβ:G'.β=G.β)(hη:G'.η=G.η)
 (T8:C' q.root q.off=eE (C q.root q.off) q.hops t')(Y0:∀r o,¬(r=q.root/\o=q.off)->r≠1->C' r o=C r o):gf w w' V V C C' G G':=by
 obtain⟨u0,fp,hv,hown,_,SV⟩:=hC.hv_own q ht (by simp)
 have hu:gc u0=true/\u0=u:=by cases hown with|v _ h=>exact⟨h,rfl⟩
 obtain⟨hu,rfl⟩:=hu
 have YU:w.cell? ad=some u0:=by
  cases hq:q.hops with
  |nil=>
   rcases hC.where_ q Z5 ht with⟨_,b,o0,n,h2,h3,h4⟩|⟨h,_⟩
   ·rw[h4,hC.boxcell h2 h3];unfold Gh.hv at hv;rw[hq]at hv;exact hv
   ·exact absurd hq h
  |cons a r=>
   obtain⟨Xy,h1,h2,_⟩:=SV (by rw[hq];simp)
   have h3:ct w (G.val w q.root q.off) q.hops=some ad:=by
    unfold Gh.addrB at Z5;rw[hq]at Z5⊢;exact Z5
   rw[h3]at h1
   injection h1 with h1
   rw[h1];exact h2
 have hsz:(w.setCell ad u').heap.size=w.heap.size:=by simp
 have hval:∀r' o',C r' o'≠.dead->¬(q.hops=[]/\r'=q.root/\o'=q.off)->G'.val w' r' o'=G.val w r' o':=by
  intro r' o' hd hne;rw[<- hC.val_set q Z5 ht hw hd hne];unfold Gh.val;rw[hβ,hη]
 have hT:∀(x:Value)(hs:List Hop)(a:Addr),ct w x hs=some a->ct w' x hs=some a:=by
  intro x hs a h;refine rY (w:=w.setCell ad u') (λk hk=>hw k (by rw[<- hsz];exact hk)) ?_;rw[Fk YU hu Qw];exact h
 have Sz:∀(p:bS)(t:TV),p.root≠1->b7 (C p.root p.off) p.hops=some t->∃t1,b7 (C' p.root p.off) p.hops=some t1/\(∀c,t=.ow c->∃c',t1=.ow c'/\c'.map List.length=c.map List.length):=by
  intro p t Z8 h;by_cases he:p.root=q.root/\p.off=q.off
  ·rw[he.1,he.2]at h⊢;rw[T8];exact vU ht (by simp) h
  ·rw[Y0 _ _ he Z8];exact⟨t,h,λc hc=>⟨c,hc,rfl⟩⟩
 have Zq:∀(p:bS),p.hops≠[]->(∃t,b7 (C p.root p.off) p.hops=some t)->C p.root p.off≠.dead/\¬(q.hops=[]/\p.root=q.root/\p.off=q.off):=by
  rintro p hp ⟨t,h⟩;refine⟨λhd=>?_,λ⟨h1,h2,h3⟩=>?_⟩
  ·rw[hd]at h
   cases hq:p.hops with
   |nil=>exact hp hq
   |cons=>rw[hq]at h;simp[b7]at h
  ·rw[h1]at ht;simp only[b7,oSJ]at ht;rw[h2,h3,ht]at h
   cases hq:p.hops with
   |nil=>exact hp hq
   |cons=>rw[hq]at h;simp[b7]at h
 refine⟨λ_=>Nat.le_refl _,λp a t Z8 _ h1 h2=>?_,λp h c Z8 _ h1 h2=>?_⟩
 ·obtain⟨t1,h3,_⟩:=Sz p t Z8 h2;refine⟨t1,?_,h3⟩
  cases hp:p.hops with
  |nil=>exact jg h1 hβ λh=>absurd hp h
  |cons b l=>
   obtain⟨h4,h5⟩:=Zq p (by rw[hp];simp) ⟨t,h2⟩;refine jg h1 hβ λ_=>?_
   have h6:ct w (G.val w p.root p.off) p.hops=some a:=by unfold Gh.addr at h1;rw[hp]at h1⊢;exact h1
   rw[hval _ _ h4 h5,h6,hT _ _ _ h6]
 ·obtain⟨t1,h3,h4⟩:=Sz p _ Z8 h2;obtain⟨c',rfl,h5⟩:=h4 c rfl;refine⟨c',?_,h3,h5⟩;obtain⟨x,B',h6,h7,_,h8⟩:=hC.hv_own p h2 (by simp);rw[h1]at h6
  injection h6 with h6
  subst h6;obtain⟨aa,cp,TK,_⟩:=h7.hdr
  cases hp:p.hops with
  |nil=>
   have h9:C p.root p.off=.ow c:=by rw[hp]at h2;simpa[b7]using h2
   unfold Gh.hv at h1⊢;rw[hp]at h1⊢
   rw[hval _ _ (by rw[h9];simp) (λ⟨e1,e2,e3⟩=>by
    rw[e1]at ht;simp only[b7,oSJ]at ht;rw[e2,e3,ht]at h9
    simp at h9)]
   exact h1
  |cons b l=>
   obtain⟨Xy,h9,ZS,_⟩:=h8 (by rw[hp];simp);obtain⟨Xz,U3⟩:=Zq p (by rw[hp];simp) ⟨_,h2⟩
   have hne:Xy≠ad:=by
    intro e;rw[e,YU]at ZS
    injection ZS with ZS
    rw[ZS,TK]at hu;simp[gc]at hu
   unfold Gh.hv;refine g9 (hval _ _ Xz U3▸hT _ _ _ h9) ?_;rw[World.cell?_of_block (w:=w.setCell ad u') (hw _ (World.block_lt_of_cell? w _ ZS)),World.cell?_setCell_other w ad Xy u' (λe=>hne e.symm)];exact ZS
theorem tK(hC:iM A C w G)(q:bS)(hlen:q.hops.length<=1){t:TV}{ad:Addr}{u':Value}(Z5:G.addrB w q=some ad)(ht:b7 (C q.root q.off) q.hops=some t){w':World}{C':Cs}{G':Gh}{V V':Vs}{t':TV}
 (hw:∀k,k<w.heap.size->w'.heap[k]?=(w.setCell ad u').heap[k]?)(hβ:G'.β=G.β)(hη:G'.η=G.η)(hV:∀k,V k<=V' k)(hr:V (q.root,q.off,q.hops.length+1)<V' (q.root,q.off,q.hops.length+1))
 (T8:C' q.root q.off=eE (C q.root q.off) q.hops t')(Y0:∀r o,¬(r=q.root/\o=q.off)->r≠1->C' r o=C r o):gf w w' V V' C C' G G':=by
 have hval:∀r' o',C r' o'≠.dead->¬(q.hops=[]/\r'=q.root/\o'=q.off)->G'.val w' r' o'=G.val w r' o':=by
  intro r' o' hd hne;rw[<- hC.val_set q Z5 ht hw hd hne];unfold Gh.val;rw[hβ,hη]
 have Zu:∀(p:bS)(t:TV),t≠.dead\/p.hops≠[]->b7 (C p.root p.off) p.hops=some t->C p.root p.off≠.dead:=by
  intro p t h1 h hd;rw[hd]at h
  cases hq:p.hops with
  |nil=>
   rw[hq]at h;simp only[b7,oSJ]at h;rcases h1 with h1|h1
   ·exact h1 h.symm
   ·exact h1 hq
  |cons=>rw[hq]at h;simp[b7]at h
 have hφ:∀r' o' k,¬(r'=q.root/\o'=q.off)->G.φ r' o' k->w'.heap[k]?=w.heap[k]?:=by
  intro r' o' k hne hk;rw[hw k (hC.live hk)];exact cc w ad u' (hC.phi_ne q Z5 ht hne hk)
 refine⟨hV,λp a t1 Z8 hv h1 h2=>?_,λp h c Z8 hv h1 h2=>?_⟩
 ·have Zq:=(ke hr hv).2;by_cases he:p.root=q.root/\p.off=q.off
  ·have hl:p.hops.length<=q.hops.length:=by
    rcases Nat.lt_or_ge q.hops.length p.hops.length with h|h
    ·exact absurd (show((q.root,q.off,q.hops.length+1):Key)=(p.root,p.off,q.hops.length+1) by rw[he.1,he.2]) (Zq _ h)
    ·exact h
   have Ut:=h2;rw[he.1,he.2]at Ut;obtain⟨t2,h3,_⟩:=kG (t':=t') ht Ut hl;refine⟨t2,?_,by rw[he.1,he.2,T8];exact h3⟩;refine jg h1 hβ λhp=>?_
   have hq:q.hops≠[]:=λe=>by rw[e]at hl;exact hp (oEN (by simpa using hl))
   rw[hval _ _ (Zu p t1 (.inr hp) h2) (λh=>hq h.1)]
   match hp':p.hops,hp with
   | [hh],_=>cases G.val w p.root p.off<;>first|rfl|(rename_i a n c;cases a<;>rfl)
   |_::_::_,_=>rw[hp']at hl;simp at hl;omega
  ·have Wc:C' p.root p.off=C p.root p.off\/p.hops=[]:=.inl (Y0 _ _ he Z8);refine⟨?_,?_⟩
   ·exact(b7 (C' p.root p.off) p.hops).getD .dead
   ·refine⟨jg h1 hβ λhp=>?_,?_⟩
    ·have hd:=Zu p t1 (.inr hp) h2;rw[hval _ _ hd (λh=>he h.2)];exact mQ (hC.own hd) h2 λk hk=>hφ _ _ k he hk
    ·rcases Wc with h|h
     ·rw[h,h2];rfl
     ·rw[h];rfl
 ·have Zq:=(ke hr hv).2;have hd:=Zu p (.ow c) (.inl (by simp)) h2;by_cases he:p.root=q.root/\p.off=q.off
  ·have hl:p.hops.length<q.hops.length:=by
    rcases Nat.lt_or_ge q.hops.length (p.hops.length+1)with h|h
    ·exact absurd (show((q.root,q.off,q.hops.length+1):Key)=(p.root,p.off,q.hops.length+1) by rw[he.1,he.2]) (Zq _ h)
    ·exact h
   have Ut:=h2;rw[he.1,he.2]at Ut;obtain⟨t2,h3,h4⟩:=kG (t':=t') ht Ut (Nat.le_of_lt hl);obtain⟨c',rfl,h5⟩:=h4 hl c rfl;refine⟨c',?_,by rw[he.1,he.2,T8];exact h3,h5⟩;have hp:p.hops=[]:=oEN (by omega);unfold Gh.hv at h1⊢;rw[hp]at h1⊢;simp only[hvT]at h1⊢;rw[hval _ _ hd (λh=>by rw[h.1]at hl;simp at hl)];exact h1
  ·have Wc:=Y0 _ _ he Z8;refine⟨c,?_,by rw[Wc];exact h2,rfl⟩;obtain⟨x,B',h6,h7,_,h8⟩:=hC.hv_own p h2 (by simp);rw[h1]at h6
   injection h6 with h6
   subst h6;have YL:=hval _ _ hd (λh=>he h.2)
   cases hp:p.hops with
   |nil=>unfold Gh.hv at h1⊢;rw[hp]at h1⊢;simp only[hvT]at h1⊢;rw[YL];exact h1
   |cons b l=>
    obtain⟨Xy,h9,ZS,Xz⟩:=h8 (by rw[hp];simp);unfold Gh.hv;refine g9 (ad:=Xy) ?_ ?_
    ·rw[YL,mQ (hC.own hd) h2 λk hk=>hφ _ _ k he hk];exact h9
    ·rw[World.cell?_of_block (w:=w) (hφ _ _ _ he Xz)];exact ZS
end
def TV.hd:TV->Option (List Nat)
 |.ow c=>some (c.map List.length)
 |_=>none
inductive SP (α:Type) where
 |ret (a:α)
 |fail
 |rdT (i:Nat) (k:TV->SP α)
 |rdC (r o:Nat) (k:TV->SP α)
 |rdH (r o:Nat) (k:Option (List Nat)->SP α)
 |rdV (q:Key) (k:Nat->SP α)
 |wrT (i:Nat) (t:TV) (k:SP α)
 |wrC (r o:Nat) (t:TV) (k:SP α)
 |new (r:Nat) (l:List TV) (k:SP α)
 |bump (q:Key) (k:SP α)
def SP.bind{α β:Type}:SP α->(α->SP β)->SP β
 |.ret a,f=>f a
 |.fail,_=>.fail
 |.rdT i k,f=>.rdT i λt=>(k t).bind f
 |.rdC r o k,f=>.rdC r o λt=>(k t).bind f
 |.rdH r o k,f=>.rdH r o λt=>(k t).bind f
 |.rdV q k,f=>.rdV q λn=>(k n).bind f
 |.wrT i t k,f=>.wrT i t (k.bind f)
 |.wrC r o t k,f=>.wrC r o t (k.bind f)
 |.new r l k,f=>.new r l (k.bind f)
 |.bump q k,f=>.bump q (k.bind f)
def b9{α:Type}:List (Nat×α)->Nat->Option α
 | [],_=>none
 |(k,v)::r,i=>if k=i then some v else b9 r i
def dp{α:Type}:List (Nat×α)->Nat->α->List (Nat×α)
 | [],i,v=>[(i,v)]
 |(k,v0)::r,i,v=>if k=i then(i,v)::r else(k,v0)::dp r i v
def pd:List (Key×Nat)->Key->Nat
 | [],_=>0
 |(k,v)::r,i=>if k=i then v else pd r i
def nv:List (Key×Nat)->Key->List (Key×Nat)
 | [],i=>[(i,1)]
 |(k,v)::r,i=>if k=i then(k,v+1)::r else(k,v)::nv r i
structure St where
 tm:List (Nat×TV)
 ce:List (Nat×List TV)
 vr:List (Key×Nat)
def St.t(σ:St)(i:Nat):TV:=(b9 σ.tm i).getD .dead
def St.c(σ:St)(r o:Nat):TV:=match b9 σ.ce r with|some l=>l.getD o .dead|none=>.dead
def St.v(σ:St)(q:Key):Nat:=pd σ.vr q
def SP.run{α:Type}:SP α->St->Option (α×St)
 |.ret a,σ=>some (a,σ)
 |.fail,_=>none
 |.rdT i k,σ=>(k (σ.t i)).run σ
 |.rdC r o k,σ=>(k (σ.c r o)).run σ
 |.rdH r o k,σ=>(k (σ.c r o).hd).run σ
 |.rdV q k,σ=>(k (σ.v q)).run σ
 |.wrT i t k,σ=>k.run { σ with tm:=dp σ.tm i t }
 |.wrC r o t k,σ=>
  match b9 σ.ce r with
  |some l=>if o<l.length then k.run { σ with ce:=dp σ.ce r (l.set o t) }else none
  |none=>none
 |.new r l k,σ=>k.run { σ with ce:=dp σ.ce r l,vr:=nv σ.vr (r,0,0) }
 |.bump q k,σ=>k.run { σ with vr:=nv σ.vr q }
theorem SP.run_bind{α β:Type}(s:SP α)(f:α->SP β)(σ:St):(s.bind f).run σ=(s.run σ).bind λx=>(f x.1).run x.2:=by
 induction s generalizing σ with
 |ret a=>rfl
 |fail=>rfl
 |rdT i k ih=>exact ih _ _
 |rdC r o k ih=>exact ih _ _
 |rdH r o k ih=>exact ih _ _
 |rdV q k ih=>exact ih _ _
 |wrT i t k ih=>exact ih _
 |wrC r o t k ih=>
  simp[SP.bind,SP.run]
  cases b9 σ.ce r with
  |none=>rfl
  |some l=>
   simp only;split
   ·simp_all
   ·rfl
 |new r l k ih=>exact ih _
 |bump q k ih=>exact ih _
theorem bG{α β:Type}{s:SP α}{f:α->SP β}{σ:St}{y:β×St}(h:(s.bind f).run σ=some y):∃a σ1,s.run σ=some (a,σ1)/\(f a).run σ1=some y:=by
 rw[SP.run_bind]at h
 cases hs:s.run σ with
 |none=>simp_all
 |some x=>exact⟨x.1,x.2,rfl,by simp_all⟩
theorem cg{α:Type}(l:List (Nat×α))(i j:Nat)(v:α):b9 (dp l i v) j=if i=j then some v else b9 l j:=by
 induction l with
 |nil=>simp[dp,b9]
 |cons x r ih=>
  have ⟨k,v0⟩:=x;simp[dp];by_cases hk:k=i
  ·subst hk;simp[b9]
   simp_all
  ·rw[oIN hk];simp[b9]
   grind
theorem ff(l:List (Key×Nat))(i j:Key):pd (nv l i) j=pd l j+if i=j then 1 else 0:=by
 induction l with
 |nil=>simp only[nv,pd];split<;>rfl
 |cons x r ih=>
  have ⟨k,v0⟩:=x;simp[nv];by_cases hk:k=i
  ·subst hk;simp[pd]
   grind
  ·rw[oIN hk];simp[pd]
   grind
inductive Opd where
 |t (i:Nat)
 |c (x:Value)
 |f (f:FuncId)
inductive FK where
 |i
 |b
 |s
def cA:List FK->List Value->List Value->Option Bool
 | [],[],[]=>some true
 |.i::ks,.int k a::xs,.int k' b::ys=>if k=k' then(cA ks xs ys).map ((a==b) && ·)else none
 |.b::ks,.bool a::xs,.bool b::ys=>(cA ks xs ys).map ((a==b) && ·)
 |.s::ks,.string a::xs,.string b::ys=>(cA ks xs ys).map ((a==b) && ·)
 |_,_,_=>none
inductive TOp where
 |mov (x:Opd)
 |asn (mv:Bool) (x:Opd)
 |pick (c a b:Opd)
 |alloc (zero:List Value)
 |box (n:Nat) (mv:Bool) (x:Opd)
 |boxi (n:Nat) (x:Opd)
 |load (n:Option Nat) (a:Opd)
 |store (n:Nat) (mv:Bool) (a x:Opd)
 |nilc (x:Opd)
 |fld (off:Nat) (a:Opd)
 |fldv (off:Nat) (n:Option Nat) (x:Opd)
 |idx (sz:Nat) (x i:Opd)
 |ext (x:Opd) (i:Nat)
 |bin (op:BinOp) (x y:Opd)
 |bnb (neg:Bool) (x y:Opd)
 |eqa (ks:List FK) (neg:Bool) (x y:Opd)
 |un (op:UnOp) (x:Opd)
 |conv (k:IntKind) (x:Opd)
 |bld (zero:List Value) (mv:Bool) (parts:List (Nat×Nat×Opd))
 |bsl (sz:Nat) (mv:Bool) (len:Nat) (parts:List Opd)
 |mks (sz:Nat) (zero:List Value) (l c:Opd)
 |mki (sz:Nat) (zero:List Value) (l c:Opd)
 |slc (sz:Nat) (x:Opd) (lo hi:Option Opd)
 |sla (n:Nat) (x:Opd) (hi:Option Opd)
 |app (sz bytes:Nat) (mv fl:Bool) (s x:Opd)
 |apz (sz bytes:Nat) (zero:List Value) (s x:Opd)
 |del (sz:Nat) (s x:Opd)
 |cpy (sz:Nat) (d s:Opd)
 |len (x:Opd)
 |lens (x:Opd)
 |ixs (x i:Opd)
 |mm (mx:Bool) (xs:List Opd)
 |call (keep:Bool) (f:Opd) (args:List (Option Nat×Opd))
 |mkf (f:FuncId) (caps:List Opd)
 |idxa (n sz:Nat) (x i:Opd)
 |s2b (x:Opd)
 |b2s (x:Opd)
 |emp (x:Opd)
def cf:Value->TV
 |.slice none 0 0=>.ow []
 |x=>if gc x then .v x else .dead
def pt:Value->TV
 |.agg cs=>.agg (cs.toList.map cf)
 |x=>cf x
def opd:Opd->SP TV
 |.t i=>.rdT i .ret
 |.c x=>.ret (pt x)
 |.f f=>.ret (.fn f [])
def nN(r o n:Nat):List Key:=(r,0,0)::(List.range n).map λd=>(r,o,d+1)
def rdVs:List Key->SP (List Nat)
 | []=>.ret []
 |q::qs=>.rdV q λn=>(rdVs qs).bind λl=>.ret (n::l)
def chk(p:bS)(n:Nat)(vs:List Nat):SP Unit:=(rdVs (nN p.root p.off n)).bind λl=>if l=vs then .ret ()else .fail
def bS.add(p:bS)(n:Nat):bS:=
 match p.hops.reverse with
 | []=>⟨p.root,p.off+n,[]⟩
 |(i,sz,o)::r=>⟨p.root,p.off,(((i,sz,o+n):Hop)::r).reverse⟩
def bS.at_(p:bS)(i sz:Nat):bS:=⟨p.root,p.off,p.hops++[(i,sz,0)]⟩
def bS.fits(p:bS)(n:Nat):Bool:=
 match p.hops.reverse with
 | []=>true
 |(_,sz,o)::_=>decide (o+n<sz)
def getPl(p:bS):SP TV:=.rdC p.root p.off λtv=>match b7 tv p.hops with|some t=>.ret t|none=>.fail
def MG(p:bS):SP (Option (List Nat)):=match p.hops with
 | []=>.rdH p.root p.off .ret
 |_::_=>(getPl p).bind λt=>.ret t.hd
theorem tz{α:Type}(p:bS)(f:Option (List Nat)->SP α)(σ:St):((MG p).bind f).run σ=((getPl p).bind λt=>f t.hd).run σ:=by
 unfold MG;split
 ·rename_i h
  have e:(getPl p).run σ=some (σ.c p.root p.off,σ):=by
   unfold getPl;simp[h];rfl
  rw[SP.run_bind,SP.run_bind,e];rfl
 ·rw[SP.run_bind,SP.run_bind,SP.run_bind];cases(getPl p).run σ<;>rfl
def take1(mv:Bool):TV->SP TV
 |.v x=>.ret (.v x)
 |.sl c=>.ret (.sl c)
 |.ow []=>.ret (if mv then .ow []else .sl [])
 |.pk p vs=>(chk p (p.hops.length+1) vs).bind λ_=>.rdC p.root p.off λtv=>
  match b7 tv p.hops with
  |some (.ow c)=>
   if mv then .wrC p.root p.off (eE tv p.hops .dead) (.bump (p.root,p.off,p.hops.length+1) (.ret (.ow c)))
   else .wrC p.root p.off (cW tv (fE p.hops)) (.bump (p.root,p.off,p.hops.length+1) (.ret (TV.ow c).imm))
  |_=>.fail
 |.pw p vs _ lo n=>(chk p (p.hops.length+1) vs).bind λ_=>.rdC p.root p.off λtv=>
  match b7 tv p.hops with
  |some (.ow c)=>.wrC p.root p.off (cW tv (fE p.hops)) (.bump (p.root,p.off,p.hops.length+1) (.ret (.sl (((c.drop lo).take n).map λe=>e.map TV.imm))))
  |_=>.fail
 |_=>.fail
def takeL(mv:Bool):List TV->SP (List TV)
 | []=>.ret []
 |t::r=>(take1 mv t).bind λt'=>(takeL mv r).bind λr'=>.ret (t'::r')
def lk:TV->List TV
 |.agg l=>l
 |t=>[t]
def lG:TV->Bool
 |.v _=>false
 |_=>true
def sK(p:bS)(t:TV):SP Unit:=.rdC p.root p.off λtv=>
 match b7 tv p.hops with
 |some old=>
  if lG old||lG t then(if p.hops.length<=1 then .wrC p.root p.off (eE tv p.hops t) (.bump (p.root,p.off,p.hops.length+1) (.ret ()))else .fail)
  else .wrC p.root p.off (eE tv p.hops t) (.ret ())
 |none=>.fail
def putL(p:bS):List TV->SP Unit
 | []=>.ret ()
 |t::r=>(sK p t).bind λ_=>match r with | []=>.ret ()|_=>if p.fits 1 then putL (p.add 1) r else .fail
def peek1(p:bS):TV->SP TV
 |.v x=>.ret (.v x)
 |.sl c=>.ret (.sl c)
 |.ow _=>(rdVs (nN p.root p.off (p.hops.length+1))).bind λvs=>.ret (.pk p vs)
 |_=>.fail
def peekP(p:bS):SP TV:=match p.hops with
 | []=>.rdH p.root p.off λh=>match h with
  |some _=>(rdVs (nN p.root p.off 1)).bind λvs=>.ret (.pk p vs)
  |none=>(getPl p).bind (peek1 p)
 |_::_=>(getPl p).bind (peek1 p)
theorem GV(p:bS)(σ:St):(peekP p).run σ=((getPl p).bind (peek1 p)).run σ:=by
 unfold peekP;split
 ·rename_i h
  have e:(getPl p).run σ=some (σ.c p.root p.off,σ):=by
   unfold getPl;simp[h];rfl
  rw[SP.run_bind,e];simp[SP.run]
  cases hc:σ.c p.root p.off with
  |ow c=>simp[TV.hd,peek1,h]
  |_=>simp[TV.hd,SP.run_bind,e,hc]
 ·rfl
def peekL:bS->Nat->SP (List TV)
 |_,0=>.ret []
 |p,n+1=>(getPl p).bind λt=>(peek1 p t).bind λt'=>match n with|0=>.ret [t']|_=>if p.fits 1 then(peekL (p.add 1) n).bind λr=>.ret (t'::r)else .fail
def kf:TV->Bool
 |.ow _=>true
 |_=>false
def nameL(r:Nat):Nat->List TV->SP (List TV)
 |_,[]=>.ret []
 |i,.ow _::l=>.rdV (r,0,0) λg=>.rdV (r,i,1) λh=>(nameL r (i+1) l).bind λl'=>.ret (.pk ⟨r,i,[]⟩ [g,h]::l')
 |i,t::l=>(nameL r (i+1) l).bind λl'=>.ret (t::l')
def names(d:Nat)(l:List TV):SP (List TV):=if l.any kf then .new (2*d+3) l (nameL (2*d+3) 0 l)else .ret l
def Bw(s:Sem Value):Option Value:=
 match s with
 |.pure v=>some v
 |_=>none
def dM(op:BinOp):Value->Value->Option Value
 |.int k a,.int k' b=>Bw (Go.binOp op 0 (.int k a) (.int k' b))
 |.string a,.string b=>Bw (Go.binOp op 0 (.string a) (.string b))
 |_,_=>none
def Or(op:UnOp)(x:Value):Option Value:=Bw (Op.unary op x)
def co:List TV->Option (List Value)
 | []=>some []
 |.v x::r=>(co r).map (x :: ·)
 |_::_=>none
def ig{α:Type}:Option α->SP α
 |some a=>.ret a
 |none=>.fail
def rq:TV->SP Value
 |.v x=>.ret x
 |_=>.fail
def natOf:TV->SP Nat
 |.v (.int _ n)=>match n with|.ofNat k=>.ret k|.negSucc _=>.fail
 |_=>.fail
def jq:TV->SP Nat
 |.sl c=>.ret c.length
 |.ow []=>.ret 0
 |.pk p vs=>(chk p (p.hops.length+1) vs).bind λ_=>(MG p).bind λh=>match h with|some ls=>.ret ls.length|none=>.fail
 |.pw p vs _ _ n=>(chk p (p.hops.length+1) vs).bind λ_=>.ret n
 |_=>.fail
def optNat:Option Opd->Nat->SP Nat
 |some o,_=>(opd o).bind natOf
 |none,d=>.ret d
inductive RSh where
 |one
 |agg (n:Nat)
 |ptr
structure vl where
 cells:List TV
 sh:List RSh
abbrev Pts:=List (Nat×List TV)
abbrev cI:=FuncId->List TV->Pts->Option (vl×Pts)
structure Fm where
 w0:World
 A:Nat->Prop
 W0:Nat->Prop
 pr:Nat->Option (Nat×Nat×Nat)
 N:Nat
 hA:∀k,w0.heap.size<=k->A k
 kp:Nat->Option Value:=λ_=>none
def Fm.hr(_:Fm):Nat:=1
def Fm.ok(M:Fm)(d:Nat):Prop:=d<M.N/\M.kp d=none
theorem Fm.odd_ne(M:Fm)(i:Nat){p:Prop}:¬(2*i+3=M.hr/\p):=λe=>by have:=e.1;unfold Fm.hr at this;omega
structure OS (M:Fm)(w:World)(G:Gh):Prop where
 os:w.os=M.w0.os
 tape:w.tape=M.w0.tape
 output:w.output=M.w0.output
 size:M.w0.heap.size<=w.heap.size
 old:∀k,k<M.w0.heap.size->¬M.W0 k->(∀r b o n,M.pr r=some (b,o,n)->k≠b)->w.heap[k]?=M.w0.heap[k]?
 par:∀r b o n,M.pr r=some (b,o,n)->G.β r=some (b,o,n)/\∃cur0 cur e fz,M.w0.heap[b]?=some (.cells cur0 e fz)/\w.heap[b]?=some (.cells cur e fz)/\cur.size=cur0.size/\∀j,(j<o\/o+n<=j)->cur[j]?=cur0[j]?
 own:∀r o k,G.φ r o k->M.W0 k\/M.w0.heap.size<=k
 box:∀r b o n,G.β r=some (b,o,n)->M.pr r=some (b,o,n)\/(M.pr r=none/\M.w0.heap.size<=b)
 even:∀r,G.β r≠none->r%2=0
def b5(M:Fm)(σ:St)(H:List TV):Cs:=λr o=>if r=M.hr then H.getD o .dead else σ.c r o
structure Inv (M:Fm)(σ:St)(H:List TV)(xs:List Value)(ts:Array Value)(w:World)(G:Gh):Prop where
 core:iM M.A (b5 M σ H) w G
 tmr:∀i,TmR w (G.F M.A) σ.v (b5 M σ H) G (σ.t i) (ts.getD i undef)
 fram:OS M w G
 keys:∀r l,b9 σ.ce r=some l->r≠1
 size:ts.size=M.N
 hand:H.length=xs.length
 hval:∀j,j<xs.length->G.η M.hr j=xs.getD j undef
 shape:∀r b o n,G.β r=some (b,o,n)->∀l,b9 σ.ce r=some l->l.length=n
 kept:∀i x,i≠1000000->M.kp i=some x->G.η (2*i+3) 0=x
theorem Inv.hr_none{M:Fm}{σ:St}{H:List TV}{xs:List Value}{ts:Array Value}{w:World}{G:Gh}(h:Inv M σ H xs ts w G):G.β M.hr=none:=by
 cases hb:G.β M.hr with
 |none=>rfl
 |some x=>have:=h.fram.even M.hr (by simp_all);unfold Fm.hr at this;omega
theorem Inv.odd_none{M:Fm}{σ:St}{H:List TV}{xs:List Value}{ts:Array Value}{w:World}{G:Gh}(h:Inv M σ H xs ts w G)(d:Nat):G.β (2*d+3)=none:=by
 cases hb:G.β (2*d+3)with
 |none=>rfl
 |some x=>have:=h.fram.even (2*d+3) (by simp_all);omega
theorem yY{σ:St}{r o:Nat}(h:b9 σ.ce r=none):σ.c r o=.dead:=by simp[St.c,h]
theorem Inv.hr_dead{M:Fm}{σ:St}{H:List TV}{xs:List Value}{ts:Array Value}{w:World}{G:Gh}(h:Inv M σ H xs ts w G)(o:Nat):σ.c M.hr o=.dead:=by
 apply yY
 cases hb:b9 σ.ce M.hr with
 |none=>rfl
 |some l=>exact absurd rfl (h.keys _ _ hb)
theorem bW{M:Fm}{σ:St}{H:List TV}{r o:Nat}(h:r≠M.hr):b5 M σ H r o=σ.c r o:=by simp[b5,h]
theorem iI{M:Fm}{σ:St}{H:List TV}{o:Nat}:b5 M σ H M.hr o=H.getD o .dead:=by simp[b5]
section frames
variable {M:Fm} {w:World} {G G':Gh}
theorem OS.ghost(h:OS M w G)(hβ:G'.β=G.β)(hO:∀k,(∃r o,G'.φ r o k)->∃r o,G.φ r o k):OS M w G':=
 ⟨h.os,h.tape,h.output,h.size,h.old,λr b o n hp=>by rw[hβ];exact h.par r b o n hp,λr o k hk=>by have ⟨r',o',h'⟩:=hO k ⟨r,o,hk⟩;exact h.own r' o' k h',λr b o n hb=>h.box r b o n (hβ ▸ hb),λr hb=>h.even r (hβ ▸ hb)⟩
end frames
theorem iM.addImm{A:Nat->Prop}{C:Cs}{w:World}{G:Gh}(hC:iM A C w G)(h ho:Nat)(hβ:G.β h=none)(hd:C h ho=.dead){t:TV}{x:Value}(ht:fa w (G.F A) (λ_=>False) t x):
 ∃G',G'.β=G.β/\G'.φ=G.φ/\(∀r o,¬(r=h/\o=ho)->G'.η r o=G.η r o)/\G'.η h ho=x/\iM A (ji C h ho t) w G':=by
 have hφh:∀k,¬G.φ h ho k:=by
  rcases hC.cell h ho with⟨_,h2⟩|h2
  ·exact h2
  ·rw[hd]at h2
   cases h2 with
   |dead hfp _=>exact hfp
 let G':Gh:=⟨G.β,λr o=>if r=h/\o=ho then x else G.η r o,G.φ⟩
 have YE:=iM.ghost (C':=ji C h ho t) (G':=G') hC rfl (λk h=>h) hC.dis
  (λr b o0 n hb o hn=>by
   unfold ji;split
   ·simp_all
   ·exact hC.boxc r b o0 n hb o hn)
  (λr o=>by
   by_cases e:r=h/\o=ho
   ·obtain⟨rfl,rfl⟩:=e;refine .inr (.inr ?_)
    have hv:G'.val w r o=x:=by simp[Gh.val,G',hβ]
    rw[hv];simp[ji];exact ht.refp λk=>⟨λh=>h.elim,λh=>(hφh k h).elim⟩
   ·exact .inl ⟨by simp[ji,e],λk=>Iff.rfl,by simp[G',e]⟩)
 exact⟨G',rfl,rfl,λr o e=>by simp[G',e],by simp[G'],YE.1⟩
theorem uK{M:Fm}{σ:St}{H:List TV}{t:TV}:b5 M σ (H++[t])=ji (b5 M σ H) M.hr H.length t:=by
 funext r o;unfold b5 ji;by_cases hr:r=M.hr
 ·subst hr;simp;by_cases ho:o=H.length
  ·simp_all
  ·rw[oIN ho]
   grind
 ·simp[hr]
theorem we{σ:St}{r o:Nat}{t:TV}{l:List TV}(h:b9 σ.ce r=some l)(ho:o<l.length):
 (St.mk σ.tm (dp σ.ce r (l.set o t)) σ.vr).c=ji σ.c r o t:=by
 funext r' o';unfold St.c ji;simp[cg];by_cases hr:r=r'
 ·subst hr;simp[h];by_cases hoo:o'=o
  ·simp_all
  ·rw[oIN hoo];simp[Ne.symm hoo]
 ·simp[hr,Ne.symm hr]
theorem B9{M:Fm}{σ:St}{H:List TV}{r o:Nat}{t:TV}{l:List TV}(h:b9 σ.ce r=some l)(ho:o<l.length)(hr:r≠M.hr)(vr:List (Key×Nat)):
 b5 M (St.mk σ.tm (dp σ.ce r (l.set o t)) vr) H=ji (b5 M σ H) r o t:=by
 funext r' o';have e:=congrFun (congrFun (we (t:=t) h ho) r') o';have e2:(St.mk σ.tm (dp σ.ce r (l.set o t)) vr).c r' o'=(St.mk σ.tm (dp σ.ce r (l.set o t)) σ.vr).c r' o':=rfl;unfold b5;rw[e2,e];unfold ji;by_cases h1:r'=M.hr
 ·subst h1;simp[Ne.symm hr]
 ·simp[h1]
theorem b8{α:Type}{r o:Nat}{t:TV}{k:SP α}{σ:St}{y:α×St}(h:(SP.wrC r o t k).run σ=some y):
 ∃l,b9 σ.ce r=some l/\o<l.length/\k.run { σ with ce:=dp σ.ce r (l.set o t) }=some y:=by
 simp[SP.run]at h
 grind
theorem BI{σ:St}(hk:∀r l,b9 σ.ce r=some l->r≠1){r:Nat}{l l':List TV}(h:b9 σ.ce r=some l):∀r2 l2,b9 (dp σ.ce r l') r2=some l2->r2≠1:=by
 intro r2 l2 h2;rw[cg]at h2;split at h2
 all_goals simp_all
theorem w5{σ:St}{β:Nat->Option (Nat×Nat×Nat)}(hs:∀r b o n,β r=some (b,o,n)->∀l,b9 σ.ce r=some l->l.length=n){r:Nat}{l:List TV}{o:Nat}{t:TV}(h:b9 σ.ce r=some l):
 ∀r2 b o2 n,β r2=some (b,o2,n)->∀l2,b9 (dp σ.ce r (l.set o t)) r2=some l2->l2.length=n:=by
 intro r2 b o2 n hb l2 h2;rw[cg]at h2
 grind
theorem p7(l:List Key)(σ:St):(rdVs l).run σ=some (l.map σ.v,σ):=by
 induction l with
 |nil=>rfl
 |cons q l ih=>simp[rdVs,SP.run,SP.run_bind,ih]
theorem mz(σ:St)(r o n:Nat):(nN r o n).map σ.v=gY σ.v r o n:=by
 simp[nN,gY]
theorem bU{p:bS}{n:Nat}{vs:List Nat}{σ:St}{y:Unit×St}(h:(chk p n vs).run σ=some y):y.2=σ/\vs=gY σ.v p.root p.off n:=by
 unfold chk at h;rw[SP.run_bind,p7,mz]at h;simp at h;split at h
 ·rename_i e;simp[SP.run]at h;exact⟨by rw[<- h],e.symm⟩
 ·simp[SP.run]at h
section hands
variable {M:Fm} {σ σ':St} {H:List TV} {xs:List Value} {ts:Array Value} {w:World} {G:Gh}
def jM(M:Fm)(w:World)(ts:Array Value)(σ:St)(H:List TV)(G:Gh)(σ':St)(H':List TV)(xs':List Value)(G':Gh):Prop:=
 Inv M σ' H' xs' ts w G'/\(∀k,G.F M.A k->G'.F M.A k)/\gf w w σ.v σ'.v (b5 M σ H) (b5 M σ' H') G G'/\σ'.tm=σ.tm
theorem jM.trans{σ'':St}{H' SL:List TV}{xs' T6:List Value}{G' U2:Gh}(a:jM M w ts σ H G σ' H' xs' G')(b:jM M w ts σ' H' G' σ'' SL T6 U2):jM M w ts σ H G σ'' SL T6 U2:=
 ⟨b.1,λk h=>b.2.1 k (a.2.1 k h),a.2.2.1.trans b.2.2.1,b.2.2.2.trans a.2.2.2⟩
theorem jM.refl(hI:Inv M σ H xs ts w G):jM M w ts σ H G σ H xs G:=⟨hI,λ_ h=>h,gf.refl _ _ _ _,rfl⟩
theorem jM.tm{H':List TV}{xs':List Value}{G':Gh}{t:TV}{x:Value}(a:jM M w ts σ H G σ' H' xs' G')(h:TmR w (G.F M.A) σ.v (b5 M σ H) G t x):TmR w (G'.F M.A) σ'.v (b5 M σ' H') G' t x:=
 h.keep a.2.2.1 (λ_ _ _=>rfl) λk h _=>a.2.1 k h
theorem Inv.hand_dead(hI:Inv M σ H xs ts w G):b5 M σ H M.hr H.length=.dead:=by rw[iI];simp
theorem Inv.addHand(hI:Inv M σ H xs ts w G){t:TV}{x:Value}(ho:fa w (G.F M.A) (λ_=>False) t x):∃G',jM M w ts σ H G σ (H++[t]) (xs++[x]) G':=by
 have hdead:=hI.hand_dead;obtain⟨G',hβ,hφ,hη,hη2,ZF⟩:=hI.core.addImm M.hr H.length hI.hr_none hdead ho
 have hF:∀k,G.F M.A k->G'.F M.A k:=λk hk=>by unfold Gh.F at *;rw[hβ,hφ];exact hk
 have hk:gf w w σ.v σ.v (b5 M σ H) (b5 M σ (H++[t])) G G':=by
  have hval:∀r o,b5 M σ H r o≠.dead->G'.val w r o=G.val w r o:=λr o hd=>gh (by rw[hβ]) (hη r o λe=>hd (by rw[e.1,e.2];exact hdead)) λ_ _ _ _=>rfl
  have Y5:∀r o,b5 M σ H r o≠.dead->b5 M σ (H++[t]) r o=b5 M σ H r o:=λr o hd=>by rw[uK];unfold ji;rw[oIN λe=>hd (by rw[e.1,e.2];exact hdead)]
  refine⟨λ_=>Nat.le_refl _,λp ad t1 _ _ h1 h2=>?_,λp h c _ _ h1 h2=>?_⟩
  ·cases hp:p.hops with
   |nil=>exact⟨_,jg h1 hβ λh=>absurd hp h,by rfl⟩
   |cons a l=>
    have hd:b5 M σ H p.root p.off≠.dead:=λhd=>by rw[hd,hp]at h2;simp[b7]at h2
    exact⟨t1,jg h1 hβ λ_=>by rw[hval _ _ hd],by rw[Y5 _ _ hd,<- hp];exact h2⟩
  ·have hd:b5 M σ H p.root p.off≠.dead:=λhd=>by rw[hd]at h2;cases hp:p.hops<;>rw[hp]at h2<;>simp[b7]at h2
   exact⟨c,tw (λ_ _=>rfl) (hval _ _ hd) h1,by rw[Y5 _ _ hd];exact h2,rfl⟩
 refine⟨G',⟨by rw[uK];exact ZF,λi=>(hI.tmr i).keep hk (λ_ _ _=>rfl) (λk h _=>hF k h),hI.fram.ghost hβ (λk h=>by rw[hφ]at h;exact h),hI.keys,hI.size,by simp[hI.hand],?_,λr b o n h=>hI.shape r b o n (hβ ▸ h),λi x h0 h=>(hη _ _ (M.odd_ne i)).trans (hI.kept i x h0 h)⟩,hF,hk,rfl⟩;intro j hj;by_cases e:j=H.length
 ·subst e;rw[hη2,hI.hand];simp
 ·have ZY:j<xs.length:=by rw[List.length_append]at hj;simp at hj;have:=hI.hand;omega
  rw[hη M.hr j λh=>e h.2,hI.hval j ZY];simp[List.getElem?_append,ZY]
def St.wrB(σ:St)(p:bS)(l:List TV)(t:TV):St:=⟨σ.tm,dp σ.ce p.root (l.set p.off t),nv σ.vr (p.root,p.off,p.hops.length+1)⟩
theorem mg{p:bS}{l:List TV}{t:TV}(k:Key):(σ.wrB p l t).v k=σ.v k+if(p.root,p.off,p.hops.length+1)=k then 1 else 0:=ff σ.vr _ k
theorem DD{p:bS}{l:List TV}{t:TV}(hl:b9 σ.ce p.root=some l)(ho:p.off<l.length)(Z7:p.root≠M.hr):b5 M (σ.wrB p l t) H=ji (b5 M σ H) p.root p.off t:=B9 hl ho Z7 _
theorem Inv.share(hI:Inv M σ H xs ts w G){p:bS}{c:List (List TV)}{l:List TV}(Z7:p.root≠M.hr)(Z6:b7 (σ.c p.root p.off) p.hops=some (.ow c))(hl:b9 σ.ce p.root=some l)(ho:p.off<l.length):
 ∃G' u,jM M w ts σ H G (σ.wrB p l (cW (σ.c p.root p.off) (fE p.hops))) H xs G'/\G.hv w p=some u/\io w (G'.F M.A) (TV.ow c).imm u:=by
 have Yf:b7 (b5 M σ H p.root p.off) p.hops=some (.ow c):=by rw[bW Z7];exact Z6
 obtain⟨G1,u,hβ1,hη1,UC,PT,hφ1,Y3,ZM⟩:=hI.core.shareV p Yf
 have Vw:b5 M (σ.wrB p l (cW (σ.c p.root p.off) (fE p.hops))) H=ji (b5 M σ H) p.root p.off (cW (b5 M σ H p.root p.off) (fE p.hops)):=by
  rw[DD hl ho Z7,bW Z7]
 have Y9:gf w w σ.v (σ.wrB p l (cW (σ.c p.root p.off) (fE p.hops))).v (b5 M σ H) (b5 M (σ.wrB p l (cW (σ.c p.root p.off) (fE p.hops))) H) G G1:=by
  refine gf.ghost p.root p.off p.hops.length (λq=>by rw[mg];omega) (by rw[mg];simp) hβ1 (λr' o' _ _=>by rw[hη1]) (λr' o' hne _=>?_) (λhs t1 h1 h2=>?_)
  ·rw[Vw];simp[ji,hne]
  ·rw[Vw]
   have e:ji (b5 M σ H) p.root p.off (cW (b5 M σ H p.root p.off) (fE p.hops)) p.root p.off=cW (b5 M σ H p.root p.off) (fE p.hops):=by simp[ji]
   rw[e];have:=rP (os:=fE p.hops) h1 (by simpa[fE]using h2);simpa[fE]using this
 exact⟨G1,u,⟨⟨by rw[Vw];exact UC,λi=>(hI.tmr i).keep Y9 (λ_ _ _=>rfl) (λk h _=>PT k h),hI.fram.ghost hβ1 (λk ⟨r,o,h⟩=>⟨r,o,hφ1 r o k h⟩),BI hI.keys hl,hI.size,hI.hand,λj hj=>by rw[hη1];exact hI.hval j hj,w5 (λr b o n h=>hI.shape r b o n (hβ1▸h)) hl,λi x h0 h=>by rw[hη1];exact hI.kept i x h0 h⟩,PT,Y9,rfl⟩,Y3,ZM⟩
theorem Inv.moveHand(hI:Inv M σ H xs ts w G){p:bS}{c:List (List TV)}{l:List TV}(Z7:p.root≠M.hr)(Z6:b7 (σ.c p.root p.off) p.hops=some (.ow c))(hl:b9 σ.ce p.root=some l)(ho:p.off<l.length){x:Value}(hx:G.hv w p=some x):
 ∃G',jM M w ts σ H G (σ.wrB p l (eE (σ.c p.root p.off) p.hops .dead)) (H++[.ow c]) (xs++[x]) G':=by
 have hdead:=hI.hand_dead
 have Yf:b7 (b5 M σ H p.root p.off) p.hops=some (.ow c):=by rw[bW Z7];exact Z6
 obtain⟨G',u,hβ,hη,hη2,Y3,ZF,hF⟩:=hI.core.move p Yf M.hr H.length hI.hr_none hdead;rw[hx]at Y3
 injection Y3 with TX
 subst TX
 have Wc:b5 M (σ.wrB p l (eE (σ.c p.root p.off) p.hops .dead)) (H++[.ow c])=ji (ji (b5 M σ H) p.root p.off (eE (b5 M σ H p.root p.off) p.hops .dead)) M.hr H.length (.ow c):=by
  rw[uK,DD hl ho Z7,bW Z7]
 have hk:gf w w σ.v (σ.wrB p l (eE (σ.c p.root p.off) p.hops .dead)).v (b5 M σ H) (b5 M (σ.wrB p l (eE (σ.c p.root p.off) p.hops .dead)) (H++[.ow c])) G G':=by
  refine gf.ghost p.root p.off p.hops.length (λq=>by rw[mg];omega) (by rw[mg];simp) hβ (λr' o' h1 _=>hη r' o' λe=>h1 (by rw[e.1];rfl)) (λr' o' hne h1=>?_) (λhs t1 h1 h2=>?_)
  ·rw[Wc];have e:¬(r'=M.hr/\o'=H.length):=λe=>h1 (by rw[e.1];rfl);simp[ji,e,hne]
  ·rw[Wc]
   have e:ji (ji (b5 M σ H) p.root p.off (eE (b5 M σ H p.root p.off) p.hops .dead)) M.hr H.length (.ow c) p.root p.off=eE (b5 M σ H p.root p.off) p.hops .dead:=by simp[ji,Z7]
   rw[e];exact kG Yf h1 h2
 refine⟨G',⟨by rw[Wc];exact ZF,λi=>(hI.tmr i).keep hk (λ_ _ _=>rfl) (λk h _=>hF k h),?_,BI hI.keys hl,hI.size,by simp[hI.hand],?_,w5 (λr b o n h=>hI.shape r b o n (hβ ▸ h)) hl,λi x h0 h=>(hη _ _ (M.odd_ne i)).trans (hI.kept i x h0 h)⟩,hF,hk,rfl⟩
 ·refine hI.fram.ghost hβ λk ⟨r',o',YI⟩=>?_;by_cases hkk:∃r o,G.φ r o k
  ·exact hkk
  ·exfalso;by_cases hb:∃r b o n,G.β r=some (b,o,n)/\k=b
   ·obtain⟨r,b,o,n,ZR,ZZ⟩:=hb;exact ZF.boxf r b o n (by rw[hβ];exact ZR) r' o' (ZZ▸YI)
   ·exact(hF k ⟨ZF.allow r' o' k YI,λr o h=>hkk ⟨r,o,h⟩,λr b o n h1 h2=>hb ⟨r,b,o,n,h1,h2⟩⟩).2.1 r' o' YI
 ·intro j hj;by_cases e:j=H.length
  ·subst e;rw[hη2,hI.hand];simp
  ·have ZY:j<xs.length:=by rw[List.length_append]at hj;simp at hj;have:=hI.hand;omega
   rw[hη M.hr j λh=>e h.2,hI.hval j ZY];simp[List.getElem?_append,ZY]
theorem io.window{F:Nat->Prop}{c:List (List TV)}{b len cap:Nat}(h:io w F (.sl c) (.slice (some ⟨b,0,none⟩) len cap))(sz lo n:Nat)(hs:∀i (h:i<c.length),c[i].length=sz)(X2:lo+n<=c.length){a:Option Addr}{Z1:Nat}(hn:n<=Z1)
 (hm:Z1<=maxLen)(hnil:a=none->Z1=0)(ha:0<n->a=some ⟨b,lo*sz,none⟩):io w F (.sl ((c.drop lo).take n)) (.slice a n Z1):=by
 cases h with
 |sl sz' u hsz hcap hmax Tq hcell hrec=>
  have hl:((c.drop lo).take n).length=n:=by simp;omega
  have Z0:=io.sl (w:=w) (F:=F) (c:=(c.drop lo).take n) (a:=a) (cap:=Z1) sz (λi j=>u (lo+i) j) (λi hi=>by
   have:i<n:=by omega
   simp only[List.getElem_take,List.getElem_drop];exact hs _ (by omega)) (by omega) hm hnil (λi j hi hj=>by
   have hz:sz'=sz:=by rw[<- hsz (lo+i) (by omega),hs (lo+i) (by omega)]
   subst hz;obtain⟨b',o',e,hF,hc⟩:=hcell (lo+i) j (by omega) hj
   injection e with e
   injection e with e1 e2
   subst e1;subst e2
   exact⟨b,lo*sz',ha (by omega),hF,by rw[show lo*sz'+(i*sz'+j)=0+((lo+i)*sz'+j) by rw[Nat.add_mul];omega];exact hc⟩) (λi j hi hj=>by
   have ZT:i<n:=by omega
   have:=hrec (lo+i) j (by omega) (by simp_all)
   simpa[List.getElem_take,List.getElem_drop]using this)
  simp_all
theorem fK{mv:Bool}{t t':TV}{x:Value}(hI:Inv M σ H xs ts w G)(hx:TmR w (G.F M.A) σ.v (b5 M σ H) G t x)
 (hr:(take1 mv t).run σ=some (t',σ')):∃G',jM M w ts σ H G σ' (H++[t']) (xs++[x]) G'/\x.oneCell'=true:=by
 cases hx with
 |v h=>
  simp only[take1,SP.run,oSJ,oPJ]at hr;obtain⟨rfl,rfl⟩:=hr;obtain⟨G',h1⟩:=hI.addHand (.v (by simp) h);exact⟨G',h1,pQ h⟩
 |nil=>
  simp only[take1,SP.run,oSJ,oPJ]at hr;obtain⟨rfl,rfl⟩:=hr
  cases mv with
  |true=>
   obtain⟨G',h1⟩:=hI.addHand (.nil (by simp));exact⟨G',h1,rfl⟩
  |false=>
   have h0:∀ad,io w (G.F M.A) (.sl []) (.slice ad 0 0):=λad=>.sl (c:=[]) 1 (λ_ _=>.nilFunc) (λi h=>by simp at h) (Nat.le_refl _) (Nat.zero_le _) (λ_=>rfl) (λi j h=>by simp at h) (λi j h=>by simp at h);obtain⟨G',h1⟩:=hI.addHand (h0 _).toOwn;exact⟨G',h1,rfl⟩
 |sl h=>
  simp only[take1,SP.run,oSJ,oPJ]at hr;obtain⟨rfl,rfl⟩:=hr;obtain⟨G',h1⟩:=hI.addHand h.toOwn;exact⟨G',h1,h.one⟩
 |dead=>simp[take1,SP.run]at hr
 |ptr=>simp[take1,SP.run]at hr
 |ip=>simp[take1,SP.run]at hr
 |agg=>simp[take1,SP.run]at hr
 |tup=>simp[take1,SP.run]at hr
 |fn=>simp[take1,SP.run]at hr
 | @pk p vs x V0 h0 hv hok=>
  simp only[take1]at hr;obtain⟨_,σ1,h1,h2⟩:=bG hr;have e1:σ1=σ:=(bU h1).1;have e2:=(bU h1).2;subst e1;obtain⟨_,c,ZP,Z6⟩:=hok e2;simp only[SP.run]at h2
  have Z7:p.root≠M.hr:=by
   intro e;rw[e]at h2;rw[hI.hr_dead]at h2;cases hp:p.hops<;>rw[hp]at h2<;>simp[b7,SP.run]at h2
  have Yf:=Z6;rw[bW Z7]at Z6;rw[Z6]at h2;simp only at h2
  have Zt:x.oneCell'=true:=by
   obtain⟨u,fp,h4,h5,_⟩:=hI.core.hv_own p Yf (by simp);rw[ZP]at h4
   injection h4 with h4
   rw[h4];exact h5.one
  cases mv with
  |true=>
   simp only[if_true]at h2;obtain⟨l,hl,ho,h3⟩:=b8 h2;simp only[SP.run,oSJ,oPJ]at h3;obtain⟨rfl,rfl⟩:=h3;obtain⟨G',hg⟩:=hI.moveHand Z7 Z6 hl ho ZP;exact⟨G',hg,Zt⟩
  |false=>
   simp only[Bool.false_eq_true,if_false]at h2;obtain⟨l,hl,ho,h3⟩:=b8 h2;simp only[SP.run,oSJ,oPJ]at h3;obtain⟨rfl,rfl⟩:=h3;obtain⟨G1,u,hg,Y3,ZM⟩:=hI.share Z7 Z6 hl ho;rw[ZP]at Y3
   injection Y3 with TX
   subst TX;obtain⟨G',ZL⟩:=hg.1.addHand ZM.toOwn;exact⟨G',hg.trans ZL,Zt⟩
 | @pw p vs sz lo n x V0 h0 hv hok=>
  simp only[take1]at hr;obtain⟨_,σ1,h1,h2⟩:=bG hr;have e1:σ1=σ:=(bU h1).1;have e2:=(bU h1).2;subst e1;obtain⟨_,c,hd,ZP,Z6,X2,a,cap,rfl,XL,hm,hnil,hsz,Z4⟩:=hok e2;simp only[SP.run]at h2
  have Z7:p.root≠M.hr:=by
   intro e;rw[e]at h2;rw[hI.hr_dead]at h2;cases hp:p.hops<;>rw[hp]at h2<;>simp[b7,SP.run]at h2
  rw[bW Z7]at Z6;rw[Z6]at h2;simp only at h2;obtain⟨l,hl,ho,h3⟩:=b8 h2;simp only[SP.run,oSJ,oPJ]at h3;obtain⟨rfl,rfl⟩:=h3;obtain⟨G1,u,hg,Y3,ZM⟩:=hI.share Z7 Z6 hl ho;rw[ZP]at Y3
  injection Y3 with TX
  subst TX
  have Tg:io w (G1.F M.A) (.sl (((c.drop lo).take n).map λe=>e.map TV.imm)) (.slice a n cap):=by
   rw[fH]at ZM;by_cases hn:0<n
   ·obtain⟨b,len,Z1,rfl,ha⟩:=Z4 (by omega);have:=ZM.window sz lo n (λi hi=>by simp only[List.getElem_map,List.length_map];exact hsz i (by simpa using hi)) (by simpa using X2) XL.1 hm hnil (λ_=>ha);rw[<- List.map_drop,<- List.map_take]at this;exact this
   ·obtain rfl:n=0:=by omega
    simp only[List.take_zero,List.map_nil];exact io.sl (c:=[]) sz (λ_ _=>.nilFunc) (by simp) (by simp) hm hnil (by simp) (by simp)
  obtain⟨G',ZL⟩:=hg.1.addHand Tg.toOwn;exact⟨G',hg.trans ZL,rfl⟩
theorem ox{mv:Bool}:∀{l l':List TV}{ys:List Value}{σ σ':St}{H:List TV}{xs:List Value}{G:Gh},Inv M σ H xs ts w G->l.length=ys.length->(∀j (h:j<l.length),TmR w (G.F M.A) σ.v (b5 M σ H) G l[j] (ys.getD j undef))->
 (takeL mv l).run σ=some (l',σ')->l'.length=l.length/\(∀y∈ys,y.oneCell'=true)/\∃G',jM M w ts σ H G σ' (H++l') (xs++ys) G':=by
 intro l
 induction l with
 |nil=>
  intro l' ys σ σ' H xs G hI hl _ hr;obtain⟨rfl,rfl⟩:=hr;have:ys=[]:=oEN (by simpa using hl.symm);subst this;exact⟨rfl,by simp,G,by simpa using jM.refl hI⟩
 |cons t l ih=>
  intro l' ys σ σ' H xs G hI hl ht hr
  cases ys with
  |nil=>simp at hl
  |cons y ys=>
   obtain⟨t',σ1,h1,h2⟩:=bG hr;obtain⟨r',σ2,h3,h4⟩:=bG h2;obtain⟨rfl,rfl⟩:=h4;obtain⟨G1,ZB,ho⟩:=fK hI (ht 0 (by simp)) h1;obtain⟨e,Xe,G2,ZL⟩:=ih (l':=r') (ys:=ys) ZB.1 (by simpa using hl) (λj hj=>ZB.tm (by have:=ht (j+1) (by simpa using hj);simpa only [List.getElem_cons_succ,List.getD_cons_succ]using this)) h3;refine⟨by simp[e],by simp_all,G2,?_⟩;have:=ZB.trans ZL;simpa using this
end hands
structure ij (M:Fm)(w:World)(σ:St)(H:List TV)(G:Gh)(w':World)(σ':St)(H':List TV)(G':Gh):Prop where
 size:w.heap.size<=w'.heap.size
 keeps:gf w w' σ.v σ'.v (b5 M σ H) (b5 M σ' H') G G'
 heap:∀k,G.F M.A k->k<w.heap.size->w'.heap[k]?=w.heap[k]?
 free:∀k,G.F M.A k->k<w.heap.size->G'.F M.A k
theorem ij.trans{M:Fm}{w w' Xx:World}{σ σ' σ'':St}{H H' SL:List TV}{G G' U2:Gh}(a:ij M w σ H G w' σ' H' G')(b:ij M w' σ' H' G' Xx σ'' SL U2):ij M w σ H G Xx σ'' SL U2:=
 ⟨Nat.le_trans a.size b.size,a.keeps.trans b.keeps,λk h hl=>(b.heap k (a.free k h hl) (Nat.lt_of_lt_of_le hl a.size)).trans (a.heap k h hl),λk h hl=>b.free k (a.free k h hl) (Nat.lt_of_lt_of_le hl a.size)⟩
theorem ij.refl(M:Fm)(w:World)(σ:St)(H:List TV)(G:Gh):ij M w σ H G w σ H G:=⟨Nat.le_refl _,gf.refl _ _ _ _,λ_ _ _=>rfl,λ_ h _=>h⟩
theorem ij.tm{M:Fm}{w w':World}{σ σ':St}{H H':List TV}{G G':Gh}{t:TV}{x:Value}(a:ij M w σ H G w' σ' H' G')(h:TmR w (G.F M.A) σ.v (b5 M σ H) G t x):TmR w' (G'.F M.A) σ'.v (b5 M σ' H') G' t x:=
 h.keep a.keeps a.heap a.free
theorem jM.moves{M:Fm}{w:World}{ts:Array Value}{σ σ':St}{H H':List TV}{xs':List Value}{G G':Gh}(a:jM M w ts σ H G σ' H' xs' G'):ij M w σ H G w σ' H' G':=
 ⟨Nat.le_refl _,a.2.2.1,λ_ _ _=>rfl,λk h _=>a.2.1 k h⟩
section
variable {M:Fm} {σ σ':St} {H:List TV} {xs:List Value} {ts:Array Value} {w:World} {G:Gh}
theorem Inv.hand_own(hI:Inv M σ H xs ts w G){j:Nat}(hj:j<H.length)(hd:H[j]≠.dead):fa w (G.F M.A) (G.φ M.hr j) H[j] (xs.getD j undef):=by
 have e:b5 M σ H M.hr j=H[j]:=by rw[iI];simp[hj]
 have h:=hI.core.own (r:=M.hr) (o:=j) (by simp_all)
 have hv:G.val w M.hr j=xs.getD j undef:=by unfold Gh.val;rw[hI.hr_none];exact hI.hval j (by rw[<- hI.hand];exact hj)
 simp_all
theorem setH(H:List TV)(j:Nat):b5 M σ (H.set j .dead)=ji (b5 M σ H) M.hr j .dead:=by
 funext r o;unfold b5 ji;by_cases hr:r=M.hr
 ·subst hr;simp;by_cases ho:o=j
  ·subst ho
   grind
  ·rw[oIN ho];simp[Ne.symm ho]
 ·simp[hr]
theorem tL(hI:Inv M σ H xs ts w G){p:bS}{ad:Addr}{t:TV}(Z5:G.addrB w p=some ad)(Z6:b7 (b5 M σ H p.root p.off) p.hops=some t)(u:Value){w':World}
 (hw:w'=w.setCell ad u){G':Gh}(hβ:G'.β=G.β)(hφ:∀r o k,G'.φ r o k->∃r o,G.φ r o k):OS M w' G':=by
 subst hw;have hin:=hI.core.where_ p Z5 Z6;have hF:=hI.fram
 have SW:∀k,k<M.w0.heap.size->¬M.W0 k->(∀r b o n,M.pr r=some (b,o,n)->k≠b)->k≠ad.block:=by
  intro k h1 h2 h3 e
  rcases hin with⟨_,b,o0,n,hb,_,Zf⟩|⟨_,hφ⟩
  ·rw[Zf]at e;rcases hF.box _ _ _ _ hb with h4|⟨_,h4⟩
   ·exact h3 _ _ _ _ h4 e
   ·have:k=b:=e;omega
  ·rcases hF.own _ _ _ hφ with h4|h4
   ·simp_all
   ·omega
 refine⟨hF.os,hF.tape,hF.output,by simpa using hF.size,λk h1 h2 h3=>by rw[cc w ad u (SW k h1 h2 h3)];exact hF.old k h1 h2 h3,λr b o n hp=>?_,λr o k hk=>by obtain⟨r',o',h'⟩:=hφ r o k hk;exact hF.own r' o' k h',λr b o n hb=>hF.box r b o n (hβ ▸ hb),λr hb=>hF.even r (hβ ▸ hb)⟩;obtain⟨hb,cur0,cur,e,fz,h1,h2,h3,h4⟩:=hF.par r b o n hp;refine⟨by rw[hβ];exact hb,?_⟩;by_cases he:b=ad.block
 ·rcases hin with⟨_,b2,o2,n2,ZZ,hlt,Zf⟩|⟨_,hφ2⟩
  ·rw[Zf]at he;have hbb:b=b2:=he;subst hbb;have hr:r=p.root:=hI.core.boxd r p.root b o n o2 n2 hb ZZ;subst hr;rw[hb]at ZZ
   injection ZZ with ZZ
   injection ZZ with _ ZZ
   injection ZZ with e1 e2
   subst e1;refine⟨cur0,cur.setIfInBounds (o+p.off) u,e,fz,h1,by rw[Zf];exact iD w b _ u h2,by simpa using h3,λj hj=>?_⟩;rw[Array.getElem?_setIfInBounds,oIN (by omega)];exact h4 j hj
  ·exact absurd (he▸hφ2) (hI.core.boxf r b o n hb _ _)
 ·exact⟨cur0,cur,e,fz,h1,by rw[cc w ad u he];exact h2,h3,h4⟩
theorem Inv.put(hI:Inv M σ H xs ts w G){p:bS}{ad:Addr}{old:TV}(hp1:p.root≠1)(Z5:G.addrB w p=some ad)(Z6:b7 (b5 M σ H p.root p.off) p.hops=some old){j:Nat}(hj:j<H.length)(hd:H[j]≠.dead)
 (hr:(sK p H[j]).run σ=some ((),σ')):
 (∃u,w.cell? ad=some u)/\w.frozen? ad=false/\∃G',Inv M σ' (H.set j .dead) xs ts (w.setCell ad (xs.getD j undef)) G'/\ij M w σ H G (w.setCell ad (xs.getD j undef)) σ' (H.set j .dead) G'/\σ'.tm=σ.tm/\G'.β=G.β:=by
 have Z7:p.root≠M.hr:=hp1
 have hgs:b7 (σ.c p.root p.off) p.hops=some old:=by rw[<- bW Z7];exact Z6
 obtain⟨u,Zw,Zn,YU,Xm,ZP,ZA,Z',hnb,Vq,hset⟩:=hI.core.set p Z5 Z6;refine⟨⟨u,YU⟩,Xm,?_⟩;have hown:=hI.hand_own hj hd;obtain⟨y,hy⟩:∃y,y=xs.getD j undef:=⟨_,rfl⟩;rw[<- hy]at hown⊢;have hne:∀k,G.φ M.hr j k->¬G.φ p.root p.off k:=λk h1 h2=>Z7 (hI.core.dis _ _ _ _ k h2 h1).1
 let G':Gh:=⟨G.β,G.η,λr o k=>if r=M.hr/\o=j then False else if r=p.root/\o=p.off then(G.φ r o k/\¬Zw k)\/G.φ M.hr j k else G.φ r o k⟩
 have Z'φ:∀r o k,G'.φ r o k->∃r o,G.φ r o k:=by
  intro r o k hk;simp only[G']at hk;split at hk
  ·exact hk.elim
  ·split at hk
   ·rcases hk with hk|hk
    ·exact⟨_,_,hk.1⟩
    ·exact⟨_,_,hk⟩
   ·exact⟨_,_,hk⟩
 have Zz:∀k,G.F M.A k->G'.F M.A k:=by
  rintro k ⟨h1,h2,h3⟩;refine⟨h1,λr o h=>?_,h3⟩;obtain⟨r',o',h'⟩:=Z'φ r o k h;exact h2 r' o' h'
 have Q2:∀k,G.F M.A k->k≠ad.block:=by
  rintro k ⟨_,h2,h3⟩ e
  rcases Vq with⟨r,b,o,n,hb,ZZ⟩|h
  ·exact h3 r b o n hb (e.trans ZZ)
  ·exact h2 _ _ (e▸h)
 have Yy:∀k,G.F M.A k->k<w.heap.size->(w.setCell ad y).heap[k]?=w.heap[k]?:=λk h _=>cc w ad y (Q2 k h);have Ru:∀k,G.φ M.hr j k->k≠ad.block:=λk h=>hI.core.phi_ne p Z5 Z6 (λe=>Z7 e.1.symm) h;have Ty:fa (w.setCell ad y) (G'.F M.A) (G.φ M.hr j) H[j] y:=hown.frame (λk hk=>cc w ad y (Ru k hk)) Yy (λk h _=>Zz k h)
 have SN:∀(C':Cs),C' p.root p.off=eE (b5 M σ H p.root p.off) p.hops H[j]->(∀r o,¬(r=p.root/\o=p.off)->C' r o=if r=M.hr/\o=j then .dead else b5 M σ H r o)->iM M.A C' (w.setCell ad y) G':=by
  intro C' h1 h2;refine hset H[j] y (G.φ M.hr j) C' G' (w.setCell ad y) (λ_ _=>rfl) h1 rfl rfl (λk=>?_) (λr o hn=>?_) (λk hk=>.inl ⟨_,_,hk⟩) (λk hk=>⟨hI.core.allow _ _ k hk,λr o hn h=>?_,λh=>hne k hk h.1⟩) Ty
  ·simp[G',Ne.symm Z7,Z7]
  ·by_cases e:r=M.hr/\o=j
   ·right;exact⟨by rw[h2 r o hn,oIP e],λk=>by simp[G',e]⟩
   ·left;exact⟨by rw[h2 r o hn,oIN e],λk=>by simp[G',e,hn]⟩
  ·simp only[G']at h;by_cases e:r=M.hr/\o=j
   ·rw[oIP e]at h;exact h
   ·rw[oIN e,oIN hn]at h;exact e (hI.core.dis _ _ _ _ k h hk)
 have fin:∀(l:List TV)(vr:List (Key×Nat)),b9 σ.ce p.root=some l->p.off<l.length->σ'=⟨σ.tm,dp σ.ce p.root (l.set p.off (eE (σ.c p.root p.off) p.hops H[j])),vr⟩->
  gf w (w.setCell ad y) σ.v σ'.v (b5 M σ H) (b5 M σ' (H.set j .dead)) G G'->∃G',Inv M σ' (H.set j .dead) xs ts (w.setCell ad y) G'/\ij M w σ H G (w.setCell ad y) σ' (H.set j .dead) G'/\σ'.tm=σ.tm/\G'.β=G.β:=by
  intro l vr hl ho hσ hk
  have hC:b5 M σ' (H.set j .dead)=ji (ji (b5 M σ H) p.root p.off (eE (b5 M σ H p.root p.off) p.hops H[j])) M.hr j .dead:=by
   rw[setH,hσ,B9 hl ho Z7,bW Z7]
  have ZF:iM M.A (b5 M σ' (H.set j .dead)) (w.setCell ad y) G':=by
   rw[hC];refine SN _ (by simp[ji,Z7]) λr o hn=>?_;by_cases e:r=M.hr/\o=j
   ·simp[ji,e]
   ·simp[ji,e,hn]
  refine⟨G',⟨ZF,λi=>?_,tL hI Z5 Z6 y rfl rfl Z'φ,by rw[hσ];exact BI hI.keys hl,hI.size,by simpa using hI.hand,hI.hval,by rw[hσ];exact w5 hI.shape hl,hI.kept⟩,⟨by simp,hk,Yy,λk h _=>Zz k h⟩,by rw[hσ],rfl⟩;have:=(hI.tmr i).keep hk Yy (λk h _=>Zz k h)
  have e:σ'.t i=σ.t i:=by rw[hσ];rfl
  rw[e];exact this
 have U4:∀(l:List TV)(vr:List (Key×Nat)),b9 σ.ce p.root=some l->p.off<l.length->σ'=⟨σ.tm,dp σ.ce p.root (l.set p.off (eE (σ.c p.root p.off) p.hops H[j])),vr⟩->
  b5 M σ' (H.set j .dead) p.root p.off=eE (b5 M σ H p.root p.off) p.hops H[j]/\∀r o,¬(r=p.root/\o=p.off)->r≠1->b5 M σ' (H.set j .dead) r o=b5 M σ H r o:=by
  intro l vr hl ho hσ
  have hC:b5 M σ' (H.set j .dead)=ji (ji (b5 M σ H) p.root p.off (eE (b5 M σ H p.root p.off) p.hops H[j])) M.hr j .dead:=by
   rw[setH,hσ,B9 hl ho Z7,bW Z7]
  rw[hC];refine⟨by simp[ji,Z7],λr o hn h1=>?_⟩;have:¬(r=M.hr/\o=j):=λe=>h1 e.1;simp[ji,this,hn]
 unfold sK at hr;simp only[SP.run,hgs]at hr;by_cases hh:(lG old||lG H[j])=true
 ·rw[oIP hh]at hr;by_cases hlen:p.hops.length<=1
  ·rw[oIP hlen]at hr;obtain⟨l,hl,ho,h3⟩:=b8 hr;simp only[SP.run,oSJ,oPJ,true_and]at h3;obtain⟨Zg,Zp⟩:=U4 l _ hl ho h3.symm;refine fin l _ hl ho h3.symm ?_;refine tK hI.core p hlen Z5 Z6 (λ_ _=>rfl) rfl rfl (λq=>?_) ?_ Zg Zp
   ·rw[<- h3];show _<=pd (nv σ.vr _) q;rw[ff];exact Nat.le_add_right _ _
   ·rw[<- h3];show _<pd (nv σ.vr _) _;rw[ff];simp[St.v]
  ·rw[oIN hlen]at hr;simp[SP.run]at hr
 ·rw[oIN hh]at hr;obtain⟨l,hl,ho,h3⟩:=b8 hr;simp only[SP.run,oSJ,oPJ,true_and]at h3;obtain⟨Zg,Zp⟩:=U4 l _ hl ho h3.symm;refine fin l _ hl ho h3.symm ?_;simp only[Bool.or_eq_true,not_or]at hh
  obtain⟨o1,rfl⟩:∃o1,old=.v o1:=by cases old<;>simp[lG]at hh;exact⟨_,rfl⟩
  obtain⟨o2,Xe⟩:∃o2,H[j]=.v o2:=by cases h:H[j]<;>simp[h,lG]at hh;exact⟨_,rfl⟩
  have ZE:gc y=true:=by
   rw[Xe]at hown
   cases hown with
   |v _ h=>exact h
  have Qz:σ'.v=σ.v:=by rw[<- h3];rfl
  rw[Qz];exact wU hI.core p Z5 Z6 ZE (λ_ _=>rfl) rfl rfl Zg Zp
end
section
variable {M:Fm} {σ σ':St} {H:List TV} {xs:List Value} {ts:Array Value} {w:World} {G:Gh}
def St.root(σ:St)(r:Nat)(l:List TV):St:=⟨σ.tm,dp σ.ce r l,nv σ.vr (r,0,0)⟩
theorem fI{r:Nat}{l:List TV}(k:Key):(σ.root r l).v k=σ.v k+if(r,0,0)=k then 1 else 0:=ff σ.vr _ k
theorem nu{r:Nat}{l:List TV}(r' o:Nat):(σ.root r l).c r' o=if r'=r then l.getD o .dead else σ.c r' o:=by
 unfold St.c St.root;simp[cg];by_cases h:r=r'
 ·simp_all
 ·simp[h,Ne.symm h]
theorem uM{r:Nat}{l:List TV}(r' o:Nat)(hI:Inv M σ H xs ts w G):b5 M (σ.root r l) [] r' o=if r'=M.hr then .dead else if r'=r then l.getD o .dead else b5 M σ H r' o:=by
 unfold b5;by_cases h:r'=M.hr
 ·simp[h]
 ·simp[oIN h,nu]
theorem Inv.phi_dead(hI:Inv M σ H xs ts w G){r o:Nat}(hd:b5 M σ H r o=.dead):∀k,¬G.φ r o k:=by
 rcases hI.core.cell r o with⟨_,h2⟩|h2
 ·exact h2
 ·rw[hd]at h2
  cases h2 with
  |dead hfp _=>exact hfp
theorem Inv.hand_cell(hI:Inv M σ H xs ts w G)(o:Nat):(H.getD o .dead=.dead/\∀k,¬G.φ M.hr o k)\/(o<H.length/\fa w (G.F M.A) (G.φ M.hr o) (H.getD o .dead) (xs.getD o undef)):=by
 by_cases hd:H.getD o .dead=.dead
 ·exact .inl ⟨hd,hI.phi_dead (by rw[iI];exact hd)⟩
 ·right
  have ho:o<H.length:=by
   rcases Nat.lt_or_ge o H.length with h|h
   ·exact h
   ·simp_all
  have e:H[o]=H.getD o .dead:=by simp[ho]
  have:=hI.hand_own ho (by rw[e];exact hd);rw[e]at this;exact⟨ho,this⟩
theorem Inv.newBox(hI:Inv M σ H xs ts w G)(r:Nat)(e:TypeId)(h1:r≠1)(Y4:M.pr r=none)(Yn:r%2=0):
 ∃G',Inv M (σ.root r H) [] [] ts (w.alloc (.cells xs.toArray e)) G'/\ij M w σ H G (w.alloc (.cells xs.toArray e)) (σ.root r H) [] G'/\G'.β r=some (w.heap.size,0,H.length):=by
 have Z7:r≠M.hr:=h1;have hw:∀k,k<w.heap.size->(w.alloc (.cells xs.toArray e)).heap[k]?=w.heap[k]?:=λk hk=>Below.heap_alloc w _ k hk
 have ZD:(w.alloc (.cells xs.toArray e)).heap[w.heap.size]?=some (.cells xs.toArray e (0,0)):=by
  show(w.heap.push _)[w.heap.size]?=_;simp
 let G':Gh:=⟨λr'=>if r'=r then some (w.heap.size,0,H.length)else G.β r',G.η,λr' o k=>if r'=M.hr then False else if r'=r then G.φ M.hr o k else G.φ r' o k⟩
 have Z':∀r' o k,G'.φ r' o k->∃r2,G.φ r2 o k/\(r'=r/\r2=M.hr\/r'≠r/\r'≠M.hr/\r2=r'):=by
  intro r' o k hk;simp only[G']at hk;by_cases e1:r'=M.hr
  ·rw[oIP e1]at hk;exact hk.elim
  ·rw[oIN e1]at hk;by_cases e2:r'=r
   ·rw[oIP e2]at hk;exact⟨_,hk,.inl ⟨e2,rfl⟩⟩
   ·rw[oIN e2]at hk;exact⟨_,hk,.inr ⟨e2,e1,rfl⟩⟩
 have Zz:∀k,G.F M.A k->k<w.heap.size->G'.F M.A k:=by
  rintro k ⟨a1,a2,a3⟩ hk;refine⟨a1,λr' o h=>?_,λr' b o n hb=>?_⟩
  ·obtain⟨r2,h3,_⟩:=Z' r' o k h;exact a2 r2 o h3
  ·simp only[G']at hb;split at hb
   ·injection hb with hb;injection hb with hb;omega
   ·exact a3 r' b o n hb
 have hval:∀r' o,r'≠r->G'.val (w.alloc (.cells xs.toArray e)) r' o=G.val w r' o:=by
  intro r' o hne;exact gh (by simp[G',hne]) rfl λb o n hb=>hw b (hI.core.boxlt hb)
 have XA:∀r' o,b5 M (σ.root r H) [] r' o=if r'=M.hr then .dead else if r'=r then H.getD o .dead else b5 M σ H r' o:=λr' o=>uM r' o hI
 have ZF:iM M.A (b5 M (σ.root r H) []) (w.alloc (.cells xs.toArray e)) G':=by
  refine⟨λr' o=>?_,λr' b o0 n hb=>?_,λr' b o0 n hb o ho=>?_,λr1 r2 b o n o' n' ZR ZZ=>?_,λr' b o n hb r2 o2 hk=>?_,λr1 o1 r2 o2 k Y9 YJ=>?_,λr' o k hk=>?_⟩
  ·rw[XA];by_cases e1:r'=M.hr
   ·left;exact⟨by simp[e1],λk hk=>by simp[G',e1]at hk⟩
   ·rw[oIN e1];by_cases e2:r'=r
    ·subst e2;simp only[if_true]
     have ZO:∀k,G'.φ r' o k↔G.φ M.hr o k:=λk=>by simp[G',e1]
     rcases hI.hand_cell o with⟨a1,a2⟩|⟨a1,a2⟩
     ·left;exact⟨a1,λk hk=>a2 k ((ZO k).1 hk)⟩
     ·right
      have hv:G'.val (w.alloc (.cells xs.toArray e)) r' o=xs.getD o undef:=by
       have hlt:o<xs.length:=by rw[<- hI.hand];exact a1
       unfold Gh.val;simp only[G',if_true];rw[World.cell?_alloc_new];simp[hlt]
      rw[hv];exact(a2.frame (λk hk=>hw k (a2.live k hk)) (λk _ hk=>hw k hk) Zz).refp λk=>(ZO k).symm
    ·rw[oIN e2,hval r' o e2]
     have ZO:∀k,G'.φ r' o k↔G.φ r' o k:=λk=>by simp[G',e1,e2]
     rcases hI.core.cell r' o with⟨a1,a2⟩|a2
     ·left;exact⟨a1,λk hk=>a2 k ((ZO k).1 hk)⟩
     ·right;exact(a2.frame (λk hk=>hw k (a2.live k hk)) (λk _ hk=>hw k hk) Zz).refp λk=>(ZO k).symm
  ·simp only[G']at hb;split at hb
   ·injection hb with hb
    injection hb with ZR ZZ
    injection ZZ with ZZ Ub
    subst ZR;subst ZZ;subst Ub;exact⟨xs.toArray,e,(0,0),ZD,by simp[hI.hand],λj _=>frozen_of_row _ _ _ _ _ ZD⟩
   ·obtain⟨cur,e',fz,a1,a2,a3⟩:=hI.core.box r' b o0 n hb;exact⟨cur,e',fz,by rw[hw b (hI.core.boxlt hb)];exact a1,a2,λj hj=>by rw[World.frozen?_of_block (w:=w) (hw b (hI.core.boxlt hb))];exact a3 j hj⟩
  ·rw[XA];simp only[G']at hb;by_cases e1:r'=M.hr
   ·simp[e1]
   ·rw[oIN e1];split at hb
    ·rename_i e2
     injection hb with hb
     injection hb with ZR ZZ
     injection ZZ with ZZ Ub
     rw[oIP e2]
     have:¬o<H.length:=by omega
     simp[this]
    ·rename_i e2;rw[oIN e2];exact hI.core.boxc r' b o0 n hb o ho
  ·simp only[G']at ZR ZZ;split at ZR
   ·rename_i e1;split at ZZ
    ·rename_i e2;exact e1.trans e2.symm
    ·have:=hI.core.boxlt ZZ
     injection ZR with ZR;injection ZR with ZR;omega
   ·split at ZZ
    ·have:=hI.core.boxlt ZR
     injection ZZ with ZZ;injection ZZ with ZZ;omega
    ·exact hI.core.boxd r1 r2 b o n o' n' ZR ZZ
  ·obtain⟨r3,a1,_⟩:=Z' r2 o2 b hk;simp only[G']at hb;split at hb
   ·have:=hI.core.live a1
    injection hb with hb;injection hb with hb;omega
   ·exact hI.core.boxf r' b o n hb r3 o2 a1
  ·obtain⟨r3,a1,a2⟩:=Z' r1 o1 k Y9;obtain⟨r4,a3,a4⟩:=Z' r2 o2 k YJ;obtain⟨b1,b2⟩:=hI.core.dis _ _ _ _ k a1 a3;refine⟨?_,b2⟩
   rcases a2 with⟨c1,c2⟩|⟨c1,c2,c3⟩
   ·rcases a4 with⟨d1,d2⟩|⟨d1,d2,d3⟩
    ·exact c1.trans d1.symm
    ·exact absurd (d3.symm.trans (b1.symm.trans c2)) d2
   ·rcases a4 with⟨d1,d2⟩|⟨d1,d2,d3⟩
    ·exact absurd (c3.symm.trans (b1.trans d2)) c2
    ·rw[<- c3,<- d3];exact b1
  ·obtain⟨r3,a1,_⟩:=Z' r' o k hk;exact hI.core.allow _ _ k a1
 have hk:gf w (w.alloc (.cells xs.toArray e)) σ.v (σ.root r H).v (b5 M σ H) (b5 M (σ.root r H) []) G G':=by
  refine gf.root hI.core r hw (λq=>by rw[fI];omega) (by rw[fI];simp) (λr' o hne Us=>?_) (λr' hne _=>by simp[G',hne]) (λ_ _ _ _=>rfl);rw[XA];have:r'≠M.hr:=Us;simp[this,hne]
 have hF:=hI.fram;refine⟨G',⟨ZF,λi=>(hI.tmr i).keep hk (λk _ h=>hw k h) Zz,?_,λr' l h=>?_,hI.size,rfl,λj hj=>by simp at hj,λr' b o n hb l h=>?_,hI.kept⟩,⟨by simp,hk,λk _ h=>hw k h,Zz⟩,by simp[G']⟩
 ·refine⟨hF.os,hF.tape,hF.output,by have:=hF.size;simp;omega,λk a1 a2 a3=>by rw[hw k (Nat.lt_of_lt_of_le a1 hF.size)];exact hF.old k a1 a2 a3,λr' b o n hp=>?_,λr' o k hk=>?_,λr' b o n hb=>?_,λr' hb=>?_⟩
  ·obtain⟨a1,cur0,cur,e',fz,a2,a3,a4⟩:=hF.par r' b o n hp
   have hne:r'≠r:=λe=>by rw[e,Y4]at hp;simp at hp
   exact⟨by simp[G',hne,a1],cur0,cur,e',fz,a2,by rw[hw b (hI.core.boxlt a1)];exact a3,a4⟩
  ·obtain⟨r3,a1,_⟩:=Z' r' o k hk;exact hF.own _ _ k a1
  ·simp only[G']at hb;split at hb
   ·rename_i e1
    injection hb with hb;injection hb with ZR ZZ
    right;rw[e1];exact⟨Y4,by rw[<- ZR];exact hF.size⟩
   ·exact hF.box r' b o n hb
  ·simp only[G']at hb;split at hb
   ·rename_i e1;rw[e1];exact Yn
   ·exact hF.even r' hb
 ·rw[show(σ.root r H).ce=dp σ.ce r H from rfl,cg]at h;split at h
  ·rename_i e1;rw[<- e1];exact h1
  ·exact hI.keys r' l h
 ·rw[show(σ.root r H).ce=dp σ.ce r H from rfl,cg]at h;simp only[G']at hb;by_cases e1:r'=r
  ·rw[oIP e1.symm]at h;rw[oIP e1]at hb
   injection h with h
   injection hb with hb
   injection hb with _ hb
   injection hb with _ hb
   rw[<- h,hb]
  ·rw[oIN (Ne.symm e1)]at h;rw[oIN e1]at hb;exact hI.shape r' b o n hb l h
theorem Inv.reroot(hI:Inv M σ H xs ts w G)(r:Nat)(h1:r≠1)(hβr:G.β r=none)(hkr:∀i,i≠1000000->M.kp i≠none->2*i+3≠r):
 ∃G',jM M w ts σ H G (σ.root r H) [] [] G'/\G'.β=G.β/\∀j,j<xs.length->G'.η r j=xs.getD j undef:=by
 have Z7:r≠M.hr:=h1
 let G':Gh:=⟨G.β,λr' o=>if r'=r then G.η M.hr o else G.η r' o,λr' o k=>if r'=M.hr then False else if r'=r then G.φ M.hr o k else G.φ r' o k⟩
 have Z':∀r' o k,G'.φ r' o k->∃r2,G.φ r2 o k/\(r'=r/\r2=M.hr\/r'≠r/\r'≠M.hr/\r2=r'):=by
  intro r' o k hk;simp only[G']at hk;by_cases e1:r'=M.hr
  ·rw[oIP e1]at hk;exact hk.elim
  ·rw[oIN e1]at hk;by_cases e2:r'=r
   ·rw[oIP e2]at hk;exact⟨_,hk,.inl ⟨e2,rfl⟩⟩
   ·rw[oIN e2]at hk;exact⟨_,hk,.inr ⟨e2,e1,rfl⟩⟩
 have XA:∀r' o,b5 M (σ.root r H) [] r' o=if r'=M.hr then .dead else if r'=r then H.getD o .dead else b5 M σ H r' o:=λr' o=>uM r' o hI
 have U5:∀k,G.F M.A k->G'.F M.A k:=by
  rintro k ⟨a1,a2,a3⟩;refine⟨a1,λr' o h=>?_,a3⟩;obtain⟨r2,h3,_⟩:=Z' r' o k h;exact a2 r2 o h3
 have YE:=iM.ghost (C':=b5 M (σ.root r H) []) (G':=G') hI.core rfl
  (λk ⟨r',o,h⟩=>by obtain⟨r2,h3,_⟩:=Z' r' o k h;exact⟨r2,o,h3⟩)
  (λr1 o1 r2 o2 k Y9 YJ=>by
   obtain⟨r3,a1,a2⟩:=Z' r1 o1 k Y9;obtain⟨r4,a3,a4⟩:=Z' r2 o2 k YJ;obtain⟨b1,b2⟩:=hI.core.dis _ _ _ _ k a1 a3;refine⟨?_,b2⟩
   rcases a2 with⟨c1,c2⟩|⟨c1,c2,c3⟩
   ·rcases a4 with⟨d1,d2⟩|⟨d1,d2,d3⟩
    ·exact c1.trans d1.symm
    ·exact absurd (d3.symm.trans (b1.symm.trans c2)) d2
   ·rcases a4 with⟨d1,d2⟩|⟨d1,d2,d3⟩
    ·exact absurd (c3.symm.trans (b1.trans d2)) c2
    ·rw[<- c3,<- d3];exact b1)
  (λr' b o0 n hb o ho=>by
   rw[XA];by_cases e1:r'=M.hr
   ·simp[e1]
   ·by_cases e2:r'=r
    ·rw[e2,hβr]at hb;simp at hb
    ·simp only[e1,e2,if_false];exact hI.core.boxc r' b o0 n hb o ho)
  (λr' o=>by
   rw[XA];by_cases e1:r'=M.hr
   ·right;left;exact⟨by simp[e1],λk hk=>by simp[G',e1]at hk⟩
   ·rw[oIN e1];by_cases e2:r'=r
    ·subst e2;right;simp only[if_true]
     have ZO:∀k,G'.φ r' o k↔G.φ M.hr o k:=λk=>by simp[G',e1]
     rcases hI.hand_cell o with⟨a1,a2⟩|⟨a1,a2⟩
     ·left;exact⟨a1,λk hk=>a2 k ((ZO k).1 hk)⟩
     ·right
      have hv:G'.val w r' o=xs.getD o undef:=by
       unfold Gh.val;simp only[G',hβr,if_true];exact hI.hval o (by rw[<- hI.hand];exact a1)
      rw[hv];exact(a2.frame (λ_ _=>rfl) (λ_ _ _=>rfl) (λk h _=>U5 k h)).refp λk=>(ZO k).symm
    ·left
     exact⟨by simp[e2],λk=>by simp[G',e1,e2],by simp[G',e2]⟩)
 have hk:gf w w σ.v (σ.root r H).v (b5 M σ H) (b5 M (σ.root r H) []) G G':=by
  refine gf.root hI.core r (λ_ _=>rfl) (λq=>by rw[fI];omega) (by rw[fI];simp) (λr' o hne Us=>?_) (λr' hne _=>rfl) (λr' o hne _=>by simp[G',hne]);rw[XA];have:r'≠M.hr:=Us;simp[this,hne]
 refine⟨G',⟨⟨YE.1,λi=>(hI.tmr i).keep hk (λ_ _ _=>rfl) (λk h _=>U5 k h),hI.fram.ghost rfl (λk ⟨r',o,h⟩=>by obtain⟨r2,h3,_⟩:=Z' r' o k h;exact⟨r2,o,h3⟩),λr' l h=>?_,hI.size,rfl,λj hj=>by simp at hj,λr' b o n hb l h=>?_,λi x h0 h=>(oIN (hkr i h0 (by rw[h];simp))).trans (hI.kept i x h0 h)⟩,U5,hk,rfl⟩,rfl,λj hj=>by simp[G',hI.hval j hj]⟩
 ·rw[show(σ.root r H).ce=dp σ.ce r H from rfl,cg]at h;split at h
  ·rename_i e1;rw[<- e1];exact h1
  ·exact hI.keys r' l h
 ·rw[show(σ.root r H).ce=dp σ.ce r H from rfl,cg]at h;split at h
  ·rename_i e1;have Zx:G.β r'=some (b,o,n):=hb;rw[<- e1,hβr]at Zx;simp at Zx
  ·exact hI.shape r' b o n hb l h
theorem Inv.wrT(hI:Inv M σ H xs ts w G){d:Nat}(hd:M.ok d){t:TV}{x:Value}(h:TmR w (G.F M.A) σ.v (b5 M σ H) G t x):Inv M { σ with tm:=dp σ.tm d t } H xs (ts.setIfInBounds d x) w G:=by
 refine⟨hI.core,λi=>?_,hI.fram,hI.keys,by simpa using hI.size,hI.hand,hI.hval,hI.shape,hI.kept⟩
 have e:St.t { σ with tm:=dp σ.tm d t } i=if d=i then t else σ.t i:=by
  unfold St.t;simp only[cg];split<;>rfl
 rw[e]
 have e2:(ts.setIfInBounds d x).getD i undef=if d=i then x else ts.getD i undef:=by
  simp only[Array.getD_eq_getD_getElem?,Array.getElem?_setIfInBounds];by_cases hdi:d=i
  ·subst hdi;simp[hI.size,hd.1]
  ·simp[hdi]
 rw[e2];by_cases hdi:d=i
 ·simp only[hdi,if_true];exact h
 ·simp only[hdi,if_false];exact hI.tmr i
theorem Inv.clear(hI:Inv M σ H xs ts w G)(hd:∀j (h:j<H.length),H[j]=.dead):Inv M σ [] [] ts w G:=by
 have e:b5 M σ []=b5 M σ H:=by
  funext r o;unfold b5;split
  ·by_cases ho:o<H.length
   ·simp[ho,hd o ho]
   ·simp[ho]
  ·rfl
 exact⟨by rw[e];exact hI.core,λi=>by rw[e];exact hI.tmr i,hI.fram,hI.keys,hI.size,rfl,λj hj=>by simp at hj,hI.shape,hI.kept⟩
theorem Inv.grow(hI:Inv M σ H xs ts w G){w':World}(hw:∀k,k<w.heap.size->w'.heap[k]?=w.heap[k]?)(hs:w.heap.size<=w'.heap.size)(ho:w'.os=w.os)(ht:w'.tape=w.tape)(hu:w'.output=w.output):
 Inv M σ H xs ts w' G/\ij M w σ H G w' σ H G:=by
 have hk:=gf.grow (V:=σ.v) hI.core hw;have hF:=hI.fram;refine⟨⟨(hI.core.grow hw).1,λi=>(hI.tmr i).keep hk (λk _ h=>hw k h) (λ_ h _=>h),⟨ho.trans hF.os,ht.trans hF.tape,hu.trans hF.output,Nat.le_trans hF.size hs,λk a1 a2 a3=>by rw[hw k (Nat.lt_of_lt_of_le a1 hF.size)];exact hF.old k a1 a2 a3,λr b o n hp=>?_,hF.own,hF.box,hF.even⟩,hI.keys,hI.size,hI.hand,hI.hval,hI.shape,hI.kept⟩,⟨hs,hk,λk _ h=>hw k h,λ_ h _=>h⟩⟩;obtain⟨a1,cur0,cur,e',fz,a2,a3,a4⟩:=hF.par r b o n hp;exact⟨a1,cur0,cur,e',fz,a2,by rw[hw b (hI.core.boxlt a1)];exact a3,a4⟩
theorem Inv.drop(hI:Inv M σ H xs ts w G):∃G',jM M w ts σ H G σ [] [] G'/\G'.β=G.β:=by
 let G':Gh:=⟨G.β,G.η,λr' o k=>if r'=M.hr then False else G.φ r' o k⟩
 have Z':∀r' o k,G'.φ r' o k->G.φ r' o k:=by
  intro r' o k hk;simp only[G']at hk;split at hk
  ·exact hk.elim
  ·exact hk
 have YE:=iM.ghost (C':=b5 M σ []) (G':=G') hI.core rfl (λk ⟨r',o,h⟩=>⟨r',o,Z' r' o k h⟩) (λr1 o1 r2 o2 k h1 h2=>hI.core.dis _ _ _ _ k (Z' _ _ k h1) (Z' _ _ k h2))
  (λr' b o0 n hb o ho=>by
   have:=hI.core.boxc r' b o0 n hb o ho;unfold b5 at this⊢;split
   ·simp
   ·rename_i h;rw[oIN h]at this;exact this)
  (λr' o=>by
   by_cases e1:r'=M.hr
   ·right;left;exact⟨by rw[e1,iI];simp,λk hk=>by simp[G',e1]at hk⟩
   ·left;exact⟨by rw[bW e1,bW e1],λk=>by simp[G',e1],rfl⟩)
 have hk:gf w w σ.v σ.v (b5 M σ H) (b5 M σ []) G G':=by
  refine⟨λ_=>Nat.le_refl _,λp ad t Z8 _ h1 h2=>⟨t,jg h1 rfl λ_=>rfl,by rw[bW (by exact Z8)]at h2⊢;exact h2⟩,λp h c Z8 _ h1 h2=>⟨c,h1,by rw[bW (by exact Z8)]at h2⊢;exact h2,rfl⟩⟩
 exact⟨G',⟨⟨YE.1,λi=>(hI.tmr i).keep hk (λ_ _ _=>rfl) (λk h _=>YE.2 k h),hI.fram.ghost rfl (λk ⟨r',o,h⟩=>⟨r',o,Z' r' o k h⟩),hI.keys,hI.size,rfl,λj hj=>by simp at hj,hI.shape,hI.kept⟩,YE.2,hk,rfl⟩,rfl⟩
end
section
variable {M:Fm} {σ σ':St} {H:List TV} {xs:List Value} {ts:Array Value} {w:World} {G:Gh}
theorem mh(hI:Inv M σ H xs ts w G){w':World}{H':List TV}{G':Gh}(hw:∀k,k<w.heap.size->(∀j,¬G.φ M.hr j k)->w'.heap[k]?=w.heap[k]?)(hβ:G'.β=G.β)(hη:∀r o,r≠1->G'.η r o=G.η r o):
 gf w w' σ.v σ.v (b5 M σ H) (b5 M σ H') G G':=by
 have hC:∀r o,r≠1->b5 M σ H' r o=b5 M σ H r o:=λr o h=>by rw[bW (by exact h),bW (by exact h)]
 have hval:=λr o h=>gh (by rw[hβ]) (hη r o h) λb o n hb=>hw b (hI.core.boxlt hb) λj=>hI.core.boxf r b o n hb _ _;have hφ:∀r o,r≠1->∀k,G.φ r o k->w'.heap[k]?=w.heap[k]?:=λr o h k hk=>hw k (hI.core.live hk) λj hj=>h (hI.core.dis _ _ _ _ k hk hj).1;refine⟨λ_=>Nat.le_refl _,λp ad t Z8 _ h1 h2=>?_,λp h c Z8 _ h1 h2=>?_⟩
 ·refine⟨t,jg h1 hβ λhp=>?_,by rw[hC _ _ Z8];exact h2⟩
  have hd:b5 M σ H p.root p.off≠.dead:=λhd=>by rw[hd]at h2;cases hq:p.hops<;>rw[hq]at h2 hp<;>simp[b7]at h2 hp
  rw[hval _ _ Z8];exact mQ (hI.core.own hd) h2 (hφ _ _ Z8)
 ·refine⟨c,?_,by simp_all,rfl⟩;obtain⟨x,B',h6,h7,_,h8⟩:=hI.core.hv_own p h2 (by simp);rw[h1]at h6
  injection h6 with h6
  subst h6
  have hd:b5 M σ H p.root p.off≠.dead:=λhd=>by rw[hd]at h2;cases hq:p.hops<;>rw[hq]at h2<;>simp[b7]at h2
  cases hp:p.hops with
  |nil=>unfold Gh.hv at h1⊢;rw[hp]at h1⊢;rw[hval _ _ Z8];exact h1
  |cons b l=>
   obtain⟨Xy,h9,ZS,Xz⟩:=h8 (by rw[hp];simp);unfold Gh.hv;refine g9 (ad:=Xy) ?_ ?_
   ·rw[hval _ _ Z8,mQ (hI.core.own hd) h2 (hφ _ _ Z8)];exact h9
   ·rw[World.cell?_of_block (w:=w) (hφ _ _ Z8 _ Xz)];exact ZS
theorem Inv.rehand(hI:Inv M σ H xs ts w G){w':World}{t':TV}{v':Value}{fp':Nat->Prop}(hw:∀k,k<w.heap.size->(∀j,¬G.φ M.hr j k)->w'.heap[k]?=w.heap[k]?)(hs:w.heap.size<=w'.heap.size)
 (ho:w'.os=w.os)(ht:w'.tape=w.tape)(hu:w'.output=w.output)(hfp:∀k,fp' k->(∃j,G.φ M.hr j k)\/w.heap.size<=k)(hown:fa w' (λk=>G.F M.A k/\k<w.heap.size) fp' t' v'):
 ∃G',Inv M σ [t'] [v'] ts w' G'/\ij M w σ H G w' σ [t'] G'/\G'.β=G.β:=by
 let G':Gh:=⟨G.β,λr o=>if r=M.hr then v' else G.η r o,λr o k=>if r=M.hr then(if o=0 then fp' k else False)else G.φ r o k⟩
 have Z':∀r o k,G'.φ r o k->(r=M.hr/\o=0/\fp' k)\/(r≠M.hr/\G.φ r o k):=by
  intro r o k hk;simp only[G']at hk;by_cases e:r=M.hr
  ·rw[oIP e]at hk;by_cases e2:o=0
   ·rw[oIP e2]at hk;exact .inl ⟨e,e2,hk⟩
   ·rw[oIN e2]at hk;exact hk.elim
  ·rw[oIN e]at hk;exact .inr ⟨e,hk⟩
 have Zz:∀k,G.F M.A k->k<w.heap.size->G'.F M.A k:=by
  rintro k ⟨a1,a2,a3⟩ hk;refine⟨a1,λr o h=>?_,a3⟩
  rcases Z' r o k h with⟨_,_,h1⟩|⟨_,h1⟩
  ·rcases hfp k h1 with⟨j,h2⟩|h2
   ·exact a2 _ _ h2
   ·omega
  ·exact a2 _ _ h1
 have Yy:∀k,G.F M.A k->k<w.heap.size->w'.heap[k]?=w.heap[k]?:=λk ⟨_,a2,_⟩ hk=>hw k hk λj=>a2 _ _;have hφ:∀r o,r≠M.hr->∀k,G.φ r o k->w'.heap[k]?=w.heap[k]?:=λr o h k hk=>hw k (hI.core.live hk) λj hj=>h (hI.core.dis _ _ _ _ k hk hj).1;have Zb:∀r b o n,G.β r=some (b,o,n)->w'.heap[b]?=w.heap[b]?:=λr b o n hb=>hw b (hI.core.boxlt hb) λj=>hI.core.boxf r b o n hb _ _;have hk:=mh (H':=[t']) (G':=G') hI hw rfl (λr o h=>by simp[G',show r≠M.hr from h])
 have Wl:∀r o k,r≠M.hr->G.φ r o k->¬fp' k:=by
  intro r o k h hk hf
  rcases hfp k hf with⟨j,h2⟩|h2
  ·exact h (hI.core.dis _ _ _ _ k hk h2).1
  ·have:=hI.core.live hk;omega
 have hF:=hI.fram
 have ZF:iM M.A (b5 M σ [t']) w' G':=by
  refine⟨λr o=>?_,λr b o0 n hb=>?_,λr b o0 n hb o ho=>?_,hI.core.boxd,λr b o n hb r2 o2 hk=>?_,λr1 o1 r2 o2 k h1 h2=>?_,λr o k h=>?_⟩
  ·by_cases e:r=M.hr
   ·subst e;by_cases e2:o=0
    ·subst e2;right
     have hv:G'.val w' M.hr 0=v':=by unfold Gh.val;simp only[G',hI.hr_none,if_true]
     rw[hv,iI]
     exact(hown.frame (λ_ _=>rfl) (λ_ _ _=>rfl) (λk h _=>Zz k h.1 h.2)).refp λk=>by simp[G']
    ·left;refine⟨by rw[iI];simp[e2],λk hk=>by simp[G',e2]at hk⟩
   ·have hv:G'.val w' r o=G.val w r o:=gh rfl (by simp[G',e]) (Zb r)
    have ZO:∀k,G'.φ r o k↔G.φ r o k:=λk=>by simp[G',e]
    rw[bW e,hv];have hc:=hI.core.cell r o;rw[bW e]at hc
    rcases hc with⟨a1,a2⟩|a2
    ·left;exact⟨a1,λk hk=>a2 k ((ZO k).1 hk)⟩
    ·right;exact(a2.frame (hφ r o e) Yy Zz).refp λk=>(ZO k).symm
  ·obtain⟨cur,e',fz,a1,a2,a3⟩:=hI.core.box r b o0 n hb;exact⟨cur,e',fz,by rw[Zb r b o0 n hb];exact a1,a2,λj hj=>by rw[World.frozen?_of_block (w:=w) (Zb r b o0 n hb)];exact a3 j hj⟩
  ·have e:r≠M.hr:=λe=>by
    have Zx:G.β r=some (b,o0,n):=hb;rw[e,hI.hr_none]at Zx;simp at Zx
   have:=hI.core.boxc r b o0 n hb o ho;rw[bW e]at this⊢;exact this
  ·rcases Z' r2 o2 b hk with⟨_,_,h1⟩|⟨_,h1⟩
   ·rcases hfp b h1 with⟨j,h2⟩|h2
    ·exact hI.core.boxf r b o n hb _ _ h2
    ·have:=hI.core.boxlt hb;omega
   ·exact hI.core.boxf r b o n hb _ _ h1
  ·rcases Z' r1 o1 k h1 with⟨a1,a2,a3⟩|⟨a1,a2⟩
   ·rcases Z' r2 o2 k h2 with⟨b1,b2,b3⟩|⟨b1,b2⟩
    ·exact⟨a1.trans b1.symm,a2.trans b2.symm⟩
    ·exact absurd a3 (Wl _ _ k b1 b2)
   ·rcases Z' r2 o2 k h2 with⟨b1,b2,b3⟩|⟨b1,b2⟩
    ·exact absurd b3 (Wl _ _ k a1 a2)
    ·exact hI.core.dis _ _ _ _ k a2 b2
  ·rcases Z' r o k h with⟨a1,a2,a3⟩|⟨a1,a2⟩
   ·rcases hfp k a3 with⟨j,h2⟩|h2
    ·exact hI.core.allow _ _ k h2
    ·exact M.hA k (Nat.le_trans hF.size h2)
   ·exact hI.core.allow _ _ k a2
 refine⟨G',⟨ZF,λi=>(hI.tmr i).keep hk Yy Zz,?_,hI.keys,hI.size,rfl,λj hj=>?_,hI.shape,λi x h0 h=>by simp only[G',oIN (show ¬ 2*i+3=M.hr from λe=>M.odd_ne i (p:=True) ⟨e,trivial⟩)];exact hI.kept i x h0 h⟩,⟨hs,hk,Yy,Zz⟩,rfl⟩
 ·refine⟨ho.trans hF.os,ht.trans hF.tape,hu.trans hF.output,Nat.le_trans hF.size hs,λk a1 a2 a3=>?_,λr b o n hp=>?_,λr o k h=>?_,hF.box,hF.even⟩
  ·rw[hw k (Nat.lt_of_lt_of_le a1 hF.size) λj hj=>?_]
   ·exact hF.old k a1 a2 a3
   ·rcases hF.own _ _ k hj with h|h
    ·exact a2 h
    ·omega
  ·obtain⟨a1,cur0,cur,e',fz,a2,a3,a4⟩:=hF.par r b o n hp;exact⟨a1,cur0,cur,e',fz,a2,by rw[Zb r b o n a1];exact a3,a4⟩
  ·rcases Z' r o k h with⟨a1,a2,a3⟩|⟨a1,a2⟩
   ·rcases hfp k a3 with⟨j,h2⟩|h2
    ·exact hF.own _ _ k h2
    ·exact .inr (Nat.le_trans hF.size h2)
   ·exact hF.own _ _ k a2
 ·obtain rfl:j=0:=by simp at hj;omega
  simp[G']
theorem mE{α:Type}{c:List (List α)}{sz:Nat}(hs:∀i (h:i<c.length),c[i].length=sz){i j:Nat}(hi:i<c.length)(hj:j<c[i].length):c.flatten[i*sz+j]?=some c[i][j]:=by
 induction c generalizing i with
 |nil=>simp at hi
 |cons a c ih=>
  have ha:a.length=sz:=hs 0 (by simp);rw[List.flatten_cons]
  cases i with
  |zero=>
   simp at hj⊢;rw[List.getElem?_append_left hj,oGE hj]
  |succ i=>
   rw[List.getElem?_append_right (by rw[ha,Nat.succ_mul];omega),ha,show(i+1)*sz+j-sz=i*sz+j by rw[Nat.succ_mul];omega];exact ih (λi h=>hs (i+1) (by simp_all)) (by simpa using hi) hj
theorem uD{α:Type}{c:List (List α)}{sz:Nat}(hs:∀i (h:i<c.length),c[i].length=sz):c.flatten.length=c.length*sz:=by
 induction c with
 |nil=>simp
 |cons a c ih=>
  rw[List.flatten_cons,List.length_append,ih (λi h=>hs (i+1) (by simp_all)),show a.length=sz from hs 0 (by simp)];simp[Nat.succ_mul,Nat.add_comm]
theorem Inv.mkSlice(hI:Inv M σ H xs ts w G){c:List (List TV)}{sz:Nat}(e:TypeId)(hs:∀i (h:i<c.length),c[i].length=sz)(hc:c.flatten=H)(Zu:∀j (h:j<H.length),H[j]≠.dead)(hmax:c.length<=maxLen):
 ∃G',Inv M σ [.ow c] [.slice (some ⟨w.heap.size,0,none⟩) c.length c.length] ts (w.alloc (.cells xs.toArray e)) G'/\ij M w σ H G (w.alloc (.cells xs.toArray e)) σ [.ow c] G'/\G'.β=G.β:=by
 have hw:∀k,k<w.heap.size->(w.alloc (.cells xs.toArray e)).heap[k]?=w.heap[k]?:=λk hk=>Below.heap_alloc w _ k hk
 have ZD:(w.alloc (.cells xs.toArray e)).heap[w.heap.size]?=some (.cells xs.toArray e (0,0)):=by
  show(w.heap.push _)[w.heap.size]?=_;simp
 have hlen:H.length=c.length*sz:=by rw[<- hc];exact uD hs
 have Xo:∀i j,i<c.length->j<sz->i*sz+j<H.length:=by
  intro i j hi hj;rw[hlen]
  calc i*sz+j<i*sz+sz:=by omega
   _=(i+1)*sz:=by rw[Nat.succ_mul]
   _<=c.length*sz:=Nat.mul_le_mul_right _ hi
 refine hI.rehand (fp':=λk=>k=w.heap.size\/∃i j,i<c.length/\j<sz/\(i<c.length/\j<sz/\G.φ M.hr (i*sz+j) k)) (λk hk _=>hw k hk) (by simp) rfl rfl rfl (λk hk=>?_) ?_
 ·rcases hk with rfl|⟨i,j,_,_,_,_,h⟩
  ·omega
  ·exact .inl ⟨_,h⟩
 ·refine .ow sz (λi j=>xs.getD (i*sz+j) undef) (λi j k=>i<c.length/\j<sz/\G.φ M.hr (i*sz+j) k) (λk=>Iff.rfl) ZD hs (Nat.le_refl _) id hmax (by simp[<- hI.hand,hlen]) (λi j hi hj=>?_) (λi j hi hj=>?_) (λi j h=>?_) (λi j i' j' k h h'=>?_)
  ·have hlt:=Xo i j hi hj
   have X6:i*sz+j<xs.length:=by rw[<- hI.hand];exact hlt
   simp[X6]
  ·have ZY:j<sz:=by rw[<- hs i hi];exact hj
   have hlt:=Xo i j hi ZY;have hg:=mE hs hi hj;rw[hc,oGE hlt]at hg
   injection hg with hg
   rw[<- hg];exact((hI.hand_own hlt (Zu _ hlt)).frame (λk hk=>hw k ((hI.hand_own hlt (Zu _ hlt)).live k hk)) (λk _ hk=>hw k hk) (λk h hk=>⟨h,hk⟩)).refp λk=>⟨λh=>⟨hi,ZY,h⟩,λh=>h.2.2⟩
  ·have:=hI.core.live h.2.2;omega
  ·have:=(hI.core.dis _ _ _ _ k h.2.2 h'.2.2).2;exact HJ h.2.1 h'.2.1 this
end
section
variable {w:World} {F:Nat->Prop}
theorem fa.rows{fp:Nat->Prop}{t:TV}{v:Value}{c:List (List TV)}{sz:Nat}(h:fa w F fp t v)(ht:t=.ow c\/t=.sl c)(hs:∀i (h:i<c.length),c[i].length=sz):
 ∃(a:Option Addr)(cap:Nat)(vals:List Value)(f:Nat->Nat->Nat->Prop),v=.slice a c.length cap/\vals.length=c.length*sz/\(∀j u,vals[j]?=some u->∃b o,a=some ⟨b,o,none⟩/\w.cell? ⟨b,o+j,none⟩=some u)/\
  (∀i j (hi:i<c.length)(hj:j<c[i].length),fa w F (f i j) c[i][j] (vals.getD (i*sz+j) undef))/\(∀i j k,f i j k->i<c.length/\j<sz/\fp k)/\
  (∀i j i' j' k,f i j k->f i' j' k->i=i'/\j=j')/\(∀u∈vals,u.oneCell'=true)/\(∀i j b o,a=some ⟨b,o,none⟩->t=.ow c->¬f i j b):=by
 have mk:∀(u:Nat->Nat->Value)(f:Nat->Nat->Nat->Prop),(∀i j (hi:i<c.length)(hj:j<c[i].length),fa w F (f i j) c[i][j] (u i j))->
  ∃vals:List Value,vals.length=c.length*sz/\(∀i j,i<c.length->j<sz->vals[i*sz+j]?=some (u i j))/\(∀k x,vals[k]?=some x->∃i j,i<c.length/\j<sz/\k=i*sz+j/\x=u i j)/\(∀x∈vals,x.oneCell'=true):=by
  intro u f hr
  have h0:∀k,k<c.length*sz->0<sz:=λk hk=>by
   rcases Nat.eq_zero_or_pos sz with h|h
   ·rw[h]at hk;simp at hk
   ·exact h
  have UD:∀k,k<c.length*sz->k/sz<c.length:=λk hk=>Nat.div_lt_of_lt_mul (by rw[Nat.mul_comm];exact hk);have WZ:∀k,k<c.length*sz->k%sz<sz:=λk hk=>Nat.mod_lt _ (h0 k hk);refine⟨(List.range (c.length*sz)).map λk=>u (k/sz) (k%sz),by simp,λi j hi hj=>?_,λk x hk=>?_,λx hx=>?_⟩
  ·have hlt:i*sz+j<c.length*sz:=by
    calc i*sz+j<i*sz+sz:=by omega
     _=(i+1)*sz:=by rw[Nat.succ_mul]
     _<=c.length*sz:=Nat.mul_le_mul_right _ hi
   have e1:(i*sz+j)/sz=i:=by rw[Nat.mul_comm,Nat.mul_add_div (by omega)];simp[Nat.div_eq_of_lt hj]
   have e2:(i*sz+j)%sz=j:=by rw[Nat.mul_comm,Nat.mul_add_mod];exact Nat.mod_eq_of_lt hj
   simp[List.getElem?_range hlt,e1,e2]
  ·rw[List.getElem?_map]at hk
   rcases Nat.lt_or_ge k (c.length*sz)with h|h
   ·rw[List.getElem?_range h]at hk;simp at hk;exact⟨k/sz,k%sz,UD k h,WZ k h,by rw[Nat.mul_comm];exact(Nat.div_add_mod k sz).symm,hk.symm⟩
   ·rw[oGN (by simpa using h)]at hk;simp at hk
  ·obtain⟨k,hk,rfl⟩:=List.mem_map.1 hx;have hk:=List.mem_range.1 hk;exact(hr _ _ (UD k hk) (by rw[hs _ (UD k hk)];exact WZ k hk)).one
 rcases ht with rfl|rfl
 ·cases h with
  | @nil _ ad hfp=>exact⟨ad,0,[],λ_ _ _=>False,rfl,by simp,by simp,by simp,by simp,by simp,by simp,by simp⟩
  | @ow _ _ b cap cur e sz' u f hfp hb hsz hcap hz0 hmax hcur hcell hrec hnb hdis=>
   obtain⟨vals,v1,v2,v3,v4⟩:=mk u f hrec;refine⟨some ⟨b,0,none⟩,cap,vals,λi j k=>i<c.length/\j<sz/\f i j k,rfl,v1,λk x hk=>?_,λi j hi hj=>?_,λi j k hk=>?_,λi j i' j' k h h'=>hdis _ _ _ _ k h.2.2 h'.2.2,v4,λi j b' o e _ h=>by injection e with e;injection e with e;subst e;exact hnb i j h.2.2⟩
   ·obtain⟨i,j,hi,hj,rfl,rfl⟩:=v3 k x hk
    have e1:sz'=sz:=by rw[<- hsz i hi,hs i hi]
    subst e1;refine⟨b,0,rfl,?_⟩;rw[cell_of_row w b _ _ _ _ hb,Nat.zero_add];exact hcell i j hi hj
   ·have ZY:j<sz:=by rw[<- hs i hi];exact hj
    have:vals.getD (i*sz+j) undef=u i j:=by rw[oGD,v2 i j hi ZY];rfl
    rw[this];exact(hrec i j hi hj).refp λk=>⟨λh=>⟨hi,ZY,h⟩,λh=>h.2.2⟩
   ·refine⟨hk.1,hk.2.1,(hfp k).2 (.inr ⟨i,j,hk.1,?_,hk.2.2⟩)⟩;rw[<- hsz i hk.1,hs i hk.1];exact hk.2.1
 ·cases h with
  |sl hfp h=>
   cases h with
   | @sl _ a cap sz' u hsz hcap hmax hnil hcell hrec=>
    obtain⟨vals,v1,v2,v3,v4⟩:=mk u (λ_ _ _=>False) (λi j hi hj=>(hrec i j hi hj).toOwn);refine⟨a,cap,vals,λ_ _ _=>False,rfl,v1,λk x hk=>?_,λi j hi hj=>?_,λi j k hk=>hk.elim,λi j i' j' k h _=>h.elim,v4,λi j b o _ _ h=>h.elim⟩
    ·obtain⟨i,j,hi,hj,rfl,rfl⟩:=v3 k x hk
     have e1:sz'=sz:=by rw[<- hsz i hi,hs i hi]
     subst e1;obtain⟨b,o,e,_,hc⟩:=hcell i j hi hj;exact⟨b,o,e,hc⟩
    ·have ZY:j<sz:=by rw[<- hs i hi];exact hj
     have:vals.getD (i*sz+j) undef=u i j:=by rw[oGD,v2 i j hi ZY];rfl
     rw[this];exact(hrec i j hi hj).toOwn
theorem fa.build{c:List (List TV)}{b cap:Nat}{cur:Array Value}{e:TypeId}{sz:Nat}{vals:List Value}{f:Nat->Nat->Nat->Prop}(hb:w.heap[b]?=some (.cells cur e (0,0)))
 (hs:∀i (h:i<c.length),c[i].length=sz)(hcap:c.length<=cap)(hz0:c.length=0->cap=0)(hmax:cap<=maxLen)(hcur:cur.size=cap*sz)(hv:vals.length=c.length*sz)(YQ:cur.toList.take (c.length*sz)=vals)
 (hrec:∀i j (hi:i<c.length)(hj:j<c[i].length),fa w F (f i j) c[i][j] (vals.getD (i*sz+j) undef))(hnb:∀i j,¬f i j b)(hdis:∀i j i' j' k,f i j k->f i' j' k->i=i'/\j=j'):
 fa w F (λk=>k=b\/∃i j,i<c.length/\j<sz/\f i j k) (.ow c) (.slice (some ⟨b,0,none⟩) c.length cap):=by
 refine .ow sz (λi j=>vals.getD (i*sz+j) undef) f (λk=>Iff.rfl) hb hs hcap hz0 hmax hcur (λi j hi hj=>?_) hrec hnb hdis
 have hlt:i*sz+j<c.length*sz:=by
  calc i*sz+j<i*sz+sz:=by omega
   _=(i+1)*sz:=by rw[Nat.succ_mul]
   _<=c.length*sz:=Nat.mul_le_mul_right _ hi
 have e1:vals[i*sz+j]?=cur.toList[i*sz+j]?:=by rw[<- YQ,List.getElem?_take_of_lt hlt]
 have hlt2:i*sz+j<vals.length:=by omega
 rw[oGD,oGE hlt2,Option.getD_some,<- oGE hlt2,e1];simp
end
theorem mW{P:Program}(w:World)(t ty e e':TypeId)(i:TypeInfo)(ht:P.underlying t=some (.slice e))(hi:P.info? e=some i)
 (g YT Xw:Nat)(cur:Array Value)(hg:w.heap[g]?=some (.cells cur e' (0,0)))
 (a:Addr)(m c:Nat)(news:List Value)(hl:news.length=m*i.size)(Ze:∀j u,news[j]?=some u->w.cell? (a.add j)=some u)(h1:∀u∈news,u.oneCell'=true)
 (hroom:YT+m<=Xw)(Zl:YT*i.size+news.length<=cur.size):
 (Builtin.append_ #[t,t] ty #[.slice (some ⟨g,0,none⟩) YT Xw,.slice (some a) m c]).run P w =
  .ok (.slice (some ⟨g,0,none⟩) (YT+m) Xw) (w.setRow g (cur.toList.take (YT*i.size)++news++cur.toList.drop (YT*i.size+news.length)).toArray):=by
 have hf:=run_firstCells_some (P:=P) w i.size m a m c news hl Ze;have hst:=run_storeCells_at P g (YT*i.size) e' news 0 cur w hg (by omega) h1;simp[Builtin.append_,run_underlying ht,sizeOf,typeInfo,hi,Builtin.lenOf,hroom,hf,Addr.add_lit,hst]
theorem fB{P:Program}(w:World)(t ty e:TypeId)(i:TypeInfo)(ht:P.underlying t=some (.slice e))(hi:P.info? e=some i)
 (s:Option Addr)(n cap:Nat)(hn:n<=cap)(a:Option Addr)(c:Nat):
 (Builtin.append_ #[t,t] ty #[.slice s n cap,.slice a 0 c]).run P w=.ok (.slice s n cap) w:=by
 cases s<;>cases a<;>simp[Builtin.append_,run_underlying ht,sizeOf,typeInfo,hi,Builtin.lenOf,hn,Builtin.firstCells,loadCells,loadCellsFrom,storeCells]
section
variable {M:Fm} {σ σ':St} {H:List TV} {xs:List Value} {ts:Array Value} {w:World} {G:Gh}
theorem cY(b o j:Nat):(⟨b,o,none⟩:Addr).add j=⟨b,o+j,none⟩:=by
 unfold Addr.add;split
 ·simp_all
 ·rfl
theorem HX{c c2:List (List TV)}{i j:Nat}(hi:i<(c++c2).length)(hj:j<(c++c2)[i].length):(∃(h:i<c.length)(h':j<c[i].length),(c++c2)[i][j]=c[i][j])\/(¬i<c.length/\∃(h:i-c.length<c2.length)(h':j<c2[i-c.length].length),(c++c2)[i][j]=c2[i-c.length][j]):=by
 by_cases h:i<c.length
 ·left;refine⟨h,by simp_all,?_⟩
  simp_all
 ·right
  have hlt:i-c.length<c2.length:=by rw[List.length_append]at hi;omega
  have e:(c++c2)[i]=c2[i-c.length]:=by simp_all
  refine⟨h,hlt,by simp_all,?_⟩
  simp_all
structure Src (w:World)(F:Nat->Prop)(A:Nat->Prop)(c2:List (List TV))(sz:Nat)(aX:Option Addr)(news:List Value)(g:Nat->Nat->Nat->Prop):Prop where
 nl:news.length=c2.length*sz
 nr:∀j u,news[j]?=some u->∃b o,aX=some ⟨b,o,none⟩/\w.cell? ⟨b,o+j,none⟩=some u
 rec_:∀i j (hi:i<c2.length)(hj:j<c2[i].length),fa w F (g i j) c2[i][j] (news.getD (i*sz+j) undef)
 fp:∀i j k,g i j k->i<c2.length/\j<sz/\A k
 dis:∀i j i' j' k,g i j k->g i' j' k->i=i'/\j=j'
 one:∀u∈news,u.oneCell'=true
structure PM (w:World)(F:Nat->Prop)(A:Nat->Prop)(c2:List (List TV))(sz:Nat)(news:List Value)(g:Nat->Nat->Nat->Prop):Prop where
 nl:news.length=c2.length*sz
 rec_:∀i j (hi:i<c2.length)(hj:j<c2[i].length),fa w F (g i j) c2[i][j] (news.getD (i*sz+j) undef)
 fp:∀i j k,g i j k->i<c2.length/\j<sz/\A k
 dis:∀i j i' j' k,g i j k->g i' j' k->i=i'/\j=j'
 one:∀u∈news,u.oneCell'=true
theorem Inv.append1{P:Program}(hI:Inv M σ H xs ts w G){c c2:List (List TV)}{vS:Value}{news:List Value}{g:Nat->Nat->Nat->Prop}(e:TypeId)(i:TypeInfo)(z:Value)(prog:Sem Value)
 (ZC:fa w (G.F M.A) (G.φ M.hr 0) (.ow c) vS)(hX:PM w (G.F M.A) (G.φ M.hr 1) c2 i.size news g)(Y1:z.cells.size=i.size)
 (YR:∀k (h:k<c.length),c[k].length=i.size)(YK:∀k (h:k<c2.length),c2[k].length=i.size)(ZR:c.length+c2.length<=1099511627776)
 (r0:c2.length=0->∀a cap,c.length<=cap->vS=.slice a c.length cap->prog.run P w=.ok (.slice a c.length cap) w)
 (r1:0<c2.length->∀b cap cur e',vS=.slice (some ⟨b,0,none⟩) c.length cap->w.heap[b]?=some (.cells cur e' (0,0))->c.length+c2.length<=cap->c.length*i.size+news.length<=cur.size ->
  prog.run P w=.ok (.slice (some ⟨b,0,none⟩) (c.length+c2.length) cap) (w.setRow b (cur.toList.take (c.length*i.size)++news++cur.toList.drop (c.length*i.size+news.length)).toArray))
 (r2:0<c2.length->∀a cap (vals:List Value),vS=.slice (some a) c.length cap->vals.length=c.length*i.size->(∀j u,vals[j]?=some u->w.cell? (a.add j)=some u)->cap<c.length+c2.length ->
  prog.run P w=.ok (.slice (some ⟨w.heap.size,0,none⟩) (c.length+c2.length) (grownCap w (c.length+c2.length) cap e)) (w.drew.alloc (.cells (vals.toArray++news.toArray++Builtin.zeroCells z.cells (grownCap w (c.length+c2.length) cap e-(c.length+c2.length))) e)))
 (r3:0<c2.length->vS=.slice none 0 0->prog.run P w=.ok (.slice (some ⟨w.heap.size,0,none⟩) c2.length (grownCap w c2.length 0 e)) (w.drew.alloc (.cells (news.toArray++Builtin.zeroCells z.cells (grownCap w c2.length 0 e-c2.length)) e))):
 ∃v' w' G',prog.run P w=.ok v' w'/\Inv M σ [.ow (c++c2)] [v'] ts w' G'/\ij M w σ H G w' σ [.ow (c++c2)] G'/\G'.β=G.β:=by
 obtain⟨Yi,YV,YO,Yh,VM⟩:=hX
 have XK:c.length+c2.length<=maxLen:=by unfold maxLen;omega
 have T7:∀k,G.φ M.hr 0 k->¬G.φ M.hr 1 k:=λk h h'=>by have:=(hI.core.dis _ _ _ _ k h h').2;omega
 by_cases hm:c2.length=0
 ·have Zp:c2=[]:=oEN hm;subst Zp;obtain⟨a,cap,rfl,hn⟩:=ZC.hdr
  obtain⟨G',h1,h2,h3⟩:=hI.rehand (w':=w) (t':=.ow c) (v':=.slice a c.length cap) (fp':=G.φ M.hr 0) (λ_ _ _=>rfl) (Nat.le_refl _) rfl rfl rfl (λk hk=>.inl ⟨0,hk⟩)
   (ZC.frame (λ_ _=>rfl) (λ_ _ _=>rfl) λk h hk=>⟨h,hk⟩)
  exact⟨_,w,G',r0 (by rfl) a cap hn rfl,by simpa using h1,by simpa using h2,h3⟩
 ·
  have Wx:∀k (h:k<(c++c2).length),(c++c2)[k].length=i.size:=by
   intro k h;by_cases hk:k<c.length
   ·rw[List.getElem_append_left hk];exact YR k hk
   ·rw[List.getElem_append_right (by omega)];exact YK _ _
  have VJ:(c++c2).length=c.length+c2.length:=List.length_append
  have newRow:∀(vals:List Value)(f:Nat->Nat->Nat->Prop)(Z1:Nat)(rest:Array Value),vals.length=c.length*i.size->c.length+c2.length<=Z1->Z1<=maxLen->rest.size=(Z1-(c.length+c2.length))*i.size ->
   (∀k j (hk:k<c.length)(hj:j<c[k].length),fa w (G.F M.A) (f k j) c[k][j] (vals.getD (k*i.size+j) undef))->(∀k j q,f k j q->k<c.length/\j<i.size/\G.φ M.hr 0 q)->(∀a b a' b' k,f a b k->f a' b' k->a=a'/\b=b')->
   ∃G',Inv M σ [.ow (c++c2)] [.slice (some ⟨w.heap.size,0,none⟩) (c.length+c2.length) Z1] ts (w.drew.alloc (.cells (vals.toArray++news.toArray++rest) e)) G' /\
    ij M w σ H G (w.drew.alloc (.cells (vals.toArray++news.toArray++rest) e)) σ [.ow (c++c2)] G'/\G'.β=G.β:=by
   intro vals f Z1 rest YX W9 Wr ZW Ta Wk S7;have hw:∀k,k<w.heap.size->(w.drew.alloc (.cells (vals.toArray++news.toArray++rest) e)).heap[k]?=w.heap[k]?:=λk hk=>Below.heap_alloc w.drew _ k hk
   have ZD:(w.drew.alloc (.cells (vals.toArray++news.toArray++rest) e)).heap[w.heap.size]?=some (.cells (vals.toArray++news.toArray++rest) e (0,0)):=by
    show(w.heap.push _)[w.heap.size]?=_;simp
   have TR:(vals++news).length=(c++c2).length*i.size:=by rw[List.length_append,YX,Yi,VJ,Nat.add_mul]
   refine hI.rehand (λk hk _=>hw k hk) (by simp) rfl rfl rfl (λk hk=>?_) (VJ▸fa.build (vals:=vals++news) (f:=λa b k=>if a<c.length then f a b k else g (a-c.length) b k) ZD Wx (by rw[VJ];exact W9) (by rw[VJ];omega) Wr ?_ TR ?_ ?_ ?_ ?_)
   ·rcases hk with rfl|⟨a,b,_,_,hk⟩
    ·exact .inr (Nat.le_refl _)
    ·left;split at hk
     ·exact⟨0,(Wk _ _ k hk).2.2⟩
     ·exact⟨1,(YO _ _ k hk).2.2⟩
   ·simp only[Array.size_append,List.size_toArray,YX,Yi,ZW,<- Nat.add_mul];congr 1;omega
   ·rw[<- TR];simp only[Array.toList_append,List.append_assoc];rw[<- List.append_assoc];exact List.take_left
   ·intro a b ha hb
    rcases HX ha hb with⟨h,h',e1⟩|⟨h,h2,h',e1⟩
    ·rw[e1];simp only[oIP h]
     have e2:(vals++news).getD (a*i.size+b) undef=vals.getD (a*i.size+b) undef:=by
      have hlt:a*i.size+b<vals.length:=by
       rw[YX];have:=YR a h
       calc a*i.size+b<a*i.size+i.size:=by omega
        _=(a+1)*i.size:=by rw[Nat.succ_mul]
        _<=c.length*i.size:=Nat.mul_le_mul_right _ h
      simp only[oGD,List.getElem?_append_left hlt]
     rw[e2];exact(Ta a b h h').frame (λk hk=>hw k (hI.core.live (Wk _ _ k hk).2.2)) (λk _ hk=>hw k hk) (λk hF hk=>⟨hF,hk⟩)
    ·rw[e1];simp only[oIN h]
     have e2:(vals++news).getD (a*i.size+b) undef=news.getD ((a-c.length)*i.size+b) undef:=by
      have e3:(a-c.length)*i.size+b=a*i.size+b-c.length*i.size:=by
       rw[Nat.sub_mul];have:c.length*i.size<=a*i.size:=Nat.mul_le_mul_right _ (by omega);omega
      have hge:vals.length<=a*i.size+b:=by
       rw[YX];have:c.length*i.size<=a*i.size:=Nat.mul_le_mul_right _ (by omega);omega
      simp only[oGD,List.getElem?_append_right hge,YX,e3]
     rw[e2];exact(YV _ b h2 h').frame (λk hk=>hw k (hI.core.live (YO _ _ k hk).2.2)) (λk _ hk=>hw k hk) (λk hF hk=>⟨hF,hk⟩)
   ·intro a b hk;split at hk
    ·have:=hI.core.live (Wk _ _ _ hk).2.2;omega
    ·have:=hI.core.live (YO _ _ _ hk).2.2;omega
   ·intro a b a' b' k h h';split at h<;>split at h'
    ·exact S7 _ _ _ _ k h h'
    ·exact absurd (YO _ _ k h').2.2 (T7 k (Wk _ _ k h).2.2)
    ·exact absurd (YO _ _ k h).2.2 (T7 k (Wk _ _ k h').2.2)
    ·have:=Yh _ _ _ _ k h h';omega
  cases ZC with
  | @nil _ ad hfp=>
   cases ad with
   |some ad=>
    have hr:=r2 (by omega) ad 0 [] rfl (by simp) (by simp) (by simp;omega);have hge:=grownCap_ge w (0+c2.length) 0 e;have SZ:=grownCap_le_maxLen w (0+c2.length) 0 e (by simpa using XK);obtain⟨G',h1,h2,h3⟩:=newRow [] (λ_ _ _=>False) (grownCap w (0+c2.length) 0 e) (Builtin.zeroCells z.cells (grownCap w (0+c2.length) 0 e-(0+c2.length))) (by simp) (by simpa using hge) SZ (by simp[size_zeroCells,Y1]) (by simp) (by simp) (by simp);simp only[List.length_nil]at hr;exact⟨_,_,G',hr,h1,h2,h3⟩
   |none=>
    have hr:=r3 (by omega) rfl;have hge:=grownCap_ge w c2.length 0 e;have SZ:=grownCap_le_maxLen w c2.length 0 e (by simpa using XK);obtain⟨G',h1,h2,h3⟩:=newRow [] (λ_ _ _=>False) (grownCap w c2.length 0 e) (Builtin.zeroCells z.cells (grownCap w c2.length 0 e-c2.length)) (by simp) (by simpa using hge) SZ (by simp[size_zeroCells,Y1]) (by simp) (by simp) (by simp);simp only[List.length_nil,Nat.zero_add,Array.empty_append]at h1 h2;exact⟨_,_,G',hr,by simpa using h1,by simpa using h2,h3⟩
  | @ow _ _ b cap cur e' sz u f hfp hb hsz hcap hz0 hmax hcur hcell hrec hnb hdis=>
   have Sv:fa w (G.F M.A) (G.φ M.hr 0) (.ow c) (.slice (some ⟨b,0,none⟩) c.length cap):=.ow sz u f hfp hb hsz hcap hz0 hmax hcur hcell hrec hnb hdis;by_cases hroom:c.length+c2.length<=cap
   ·
    have hlc:c.length≠0:=λh=>by have:=hz0 h;omega
    have XW:sz=i.size:=by rw[<- hsz 0 (by omega),YR 0 (by omega)]
    subst XW;obtain⟨a',YA,vals,f',e1,YX,TS,XZ,Xt,Xh,UW,Wy⟩:=Sv.rows (.inl rfl) YR
    injection e1 with e1 _ e2
    subst e1;subst e2;have VY:∀i j,¬f' i j b:=λi j=>Wy i j b 0 rfl rfl
    have Zl:c.length*i.size+news.length<=cur.size:=by rw[Yi,hcur,<- Nat.add_mul];exact Nat.mul_le_mul_right _ hroom
    have hr:=r1 (by omega) b cap cur e' rfl hb hroom Zl
    have YW:cur.toList.take (c.length*i.size)=vals:=by
     apply List.ext_getElem?;intro k;by_cases hk:k<c.length*i.size
     ·rw[List.getElem?_take_of_lt hk]
      have YJ:k<vals.length:=by omega
      obtain⟨b',o',e3,e4⟩:=TS k _ (oGE YJ)
      injection e3 with e3;injection e3 with e3 e5;subst e3;subst e5
      rw[cell_of_row w b _ _ _ _ hb,Nat.zero_add]at e4;rw[oGE YJ,<- e4];simp
     ·rw[oGN (by simp;omega),oGN (by omega)]
    have hw:∀k,k≠b->(w.setRow b (cur.toList.take (c.length*i.size)++news++cur.toList.drop (c.length*i.size+news.length)).toArray).heap[k]?=w.heap[k]?:=λk hk=>setRow_other w b k _ hk;have hbφ:G.φ M.hr 0 b:=(hfp b).2 (.inl rfl);have ZD:=setRow_heap w b cur (cur.toList.take (c.length*i.size)++news++cur.toList.drop (c.length*i.size+news.length)).toArray e' (0,0) hb
    have TR:(vals++news).length=(c++c2).length*i.size:=by rw[List.length_append,YX,Yi,VJ,Nat.add_mul]
    refine Exists.elim (?_:∃G',Inv M σ [.ow (c++c2)] [.slice (some ⟨b,0,none⟩) (c++c2).length cap] ts (w.setRow b (cur.toList.take (c.length*i.size)++news++cur.toList.drop (c.length*i.size+news.length)).toArray) G' /\
     ij M w σ H G (w.setRow b (cur.toList.take (c.length*i.size)++news++cur.toList.drop (c.length*i.size+news.length)).toArray) σ [.ow (c++c2)] G'/\G'.β=G.β) λG' ⟨h1,h2,h3⟩=>⟨_,_,G',by rw[VJ]at h1;rw[show(Value.slice (some ⟨b,0,none⟩) (c.length+c2.length) cap)=_ from rfl]at h1;exact hr,by simpa[VJ]using h1,h2,h3⟩
    refine hI.rehand (t':=.ow (c++c2)) (v':=.slice (some ⟨b,0,none⟩) (c++c2).length cap) (w':=w.setRow b (cur.toList.take (c.length*i.size)++news++cur.toList.drop (c.length*i.size+news.length)).toArray)
     (λk _ hk=>hw k λe=>hk 0 (e▸hbφ)) (by simp) rfl rfl rfl (λk hk=>?_) (fa.build (vals:=vals++news) (f:=λa b k=>if a<c.length then f' a b k else g (a-c.length) b k) ZD Wx (by rw[VJ];exact hroom) (by rw[VJ];omega) hmax ?_ TR ?_ ?_ ?_ ?_)
    ·rcases hk with rfl|⟨a,d,_,_,hk⟩
     ·exact .inl ⟨0,hbφ⟩
     ·left;split at hk
      ·exact⟨0,(Xt _ _ k hk).2.2⟩
      ·exact⟨1,(YO _ _ k hk).2.2⟩
    ·simp only[List.size_toArray,List.length_append,oLT,List.length_drop,Array.length_toList];omega
    ·rw[<- TR,YW];exact List.take_left
    ·intro a d ha hd
     rcases HX ha hd with⟨h,h',e1⟩|⟨h,h2,h',e1⟩
     ·rw[e1];simp only[oIP h]
      have e2:(vals++news).getD (a*i.size+d) undef=vals.getD (a*i.size+d) undef:=by
       have hlt:a*i.size+d<vals.length:=by
        rw[YX];have:=YR a h
        calc a*i.size+d<a*i.size+i.size:=by omega
         _=(a+1)*i.size:=by rw[Nat.succ_mul]
         _<=c.length*i.size:=Nat.mul_le_mul_right _ h
       simp only[oGD,List.getElem?_append_left hlt]
      rw[e2];refine(XZ a d h h').frame (λk hk=>hw k λe=>?_) (λk hF _=>hw k λe=>hF.2.1 _ _ (e▸hbφ)) (λk hF hk=>⟨hF,hk⟩);exact VY _ _ (e▸hk)
     ·rw[e1];simp only[oIN h]
      have e2:(vals++news).getD (a*i.size+d) undef=news.getD ((a-c.length)*i.size+d) undef:=by
       have e3:(a-c.length)*i.size+d=a*i.size+d-c.length*i.size:=by
        rw[Nat.sub_mul];have:c.length*i.size<=a*i.size:=Nat.mul_le_mul_right _ (by omega);omega
       have hge:vals.length<=a*i.size+d:=by
        rw[YX];have:c.length*i.size<=a*i.size:=Nat.mul_le_mul_right _ (by omega);omega
       simp only[oGD,List.getElem?_append_right hge,YX,e3]
      rw[e2];refine(YV _ d h2 h').frame (λk hk=>hw k λe=>?_) (λk hF _=>hw k λe=>hF.2.1 _ _ (e▸hbφ)) (λk hF hk=>⟨hF,hk⟩);exact T7 b hbφ (e▸(YO _ _ k hk).2.2)
    ·intro a d hk;split at hk
     ·exact VY _ _ hk
     ·exact T7 b hbφ (YO _ _ _ hk).2.2
    ·intro a d a' d' k h h';split at h<;>split at h'
     ·exact Xh _ _ _ _ k h h'
     ·exact absurd (YO _ _ k h').2.2 (T7 k (Xt _ _ k h).2.2)
     ·exact absurd (YO _ _ k h).2.2 (T7 k (Xt _ _ k h').2.2)
     ·have:=Yh _ _ _ _ k h h';omega
   ·obtain⟨a',YA,vals,f',e1,YX,TS,XZ,Xt,Xh,UW,_⟩:=Sv.rows (.inl rfl) YR
    injection e1 with e1 _ e2
    subst e1;subst e2
    have XQ:∀j u,vals[j]?=some u->w.cell? ((⟨b,0,none⟩:Addr).add j)=some u:=λj u hj=>by
     obtain⟨b',o',e1,e2⟩:=TS j u hj
     injection e1 with e1;injection e1 with e1 e3;subst e1;subst e3
     rw[cY];exact e2
    have hr:=r2 (by omega) ⟨b,0,none⟩ cap vals rfl YX XQ (by omega);have hge:=grownCap_ge w (c.length+c2.length) cap e;have SZ:=grownCap_le_maxLen w (c.length+c2.length) cap e XK;obtain⟨G',h1,h2,h3⟩:=newRow vals f' (grownCap w (c.length+c2.length) cap e) (Builtin.zeroCells z.cells (grownCap w (c.length+c2.length) cap e-(c.length+c2.length))) YX hge SZ (by simp[size_zeroCells,Y1]) XZ Xt Xh;exact⟨_,_,G',hr,h1,h2,h3⟩
theorem Inv.append0{P:Program}(hI:Inv M σ H xs ts w G){c c2:List (List TV)}{vS:Value}{aX:Option Addr}{capX:Nat}{news:List Value}{g:Nat->Nat->Nat->Prop}(t ty e:TypeId)(i:TypeInfo)(z:Value)
 (ZC:fa w (G.F M.A) (G.φ M.hr 0) (.ow c) vS)(hX:Src w (G.F M.A) (G.φ M.hr 1) c2 i.size aX news g)
 (ht:P.underlying t=some (.slice e))(hi:P.info? e=some i)(hz:i.zero=some z)(Y1:z.cells.size=i.size)(Z4:0<i.size)
 (YR:∀k (h:k<c.length),c[k].length=i.size)(YK:∀k (h:k<c2.length),c2[k].length=i.size)(ZR:c.length+c2.length<=1099511627776)(ZZ:(c.length+c2.length)*i.bytes<=140737488355328):
 ∃v' w' G',(Builtin.append_ #[t,t] ty #[vS,.slice aX c2.length capX]).run P w=.ok v' w'/\Inv M σ [.ow (c++c2)] [v'] ts w' G'/\ij M w σ H G w' σ [.ow (c++c2)] G'/\G'.β=G.β:=by
 obtain⟨Yi,Vh,YV,YO,Yh,VM⟩:=hX
 have XK:c.length+c2.length<=maxLen:=by unfold maxLen;omega
 have Ww:0<c2.length->∃bX oX,aX=some ⟨bX,oX,none⟩/\∀j u,news[j]?=some u->w.cell? ((⟨bX,oX,none⟩:Addr).add j)=some u:=λhm=>by
  have Tt:0<news.length:=by rw[Yi];exact Nat.mul_pos hm Z4
  obtain⟨bX,oX,rfl,_⟩:=Vh 0 _ (oGE Tt);refine⟨bX,oX,rfl,λj u hj=>?_⟩;obtain⟨b',o',e1,e2⟩:=Vh j u hj
  injection e1 with e1;injection e1 with e1 e3;subst e1;subst e3
  rw[cY];exact e2
 refine hI.append1 e i z _ ZC ⟨Yi,YV,YO,Yh,VM⟩ Y1 YR YK ZR (λhm a cap hn ev=>?_) (λhm b cap cur e' ev hb hroom Zl=>?_) (λhm a cap vals ev YX XQ hg=>?_) (λhm ev=>?_)
 ·subst ev;rw[hm];exact fB w t ty e i ht hi a c.length cap hn aX capX
 ·subst ev;obtain⟨bX,oX,rfl,Ws⟩:=Ww hm;exact mW (P:=P) w t ty e e' i ht hi b c.length cap cur hb ⟨bX,oX,none⟩ c2.length capX news Yi Ws VM hroom Zl
 ·subst ev;obtain⟨bX,oX,rfl,Ws⟩:=Ww hm;exact run_append_grow (P:=P) w t ty e i z ht hi hz a c.length cap vals YX XQ ⟨bX,oX,none⟩ c2.length capX news Yi Ws hg (by unfold maxLen at XK;omega) (growslice_fits hg ZZ)
 ·subst ev;obtain⟨bX,oX,rfl,Ws⟩:=Ww hm;exact run_append_nil (P:=P) w t ty e i z ht hi hz ⟨bX,oX,none⟩ c2.length capX news Yi Ws hm (by unfold maxLen at XK;omega) (by have:c2.length*i.bytes<=(c.length+c2.length)*i.bytes:=Nat.mul_le_mul_right _ (by omega);omega)
theorem Inv.append{P:Program}(hI:Inv M σ H xs ts w G){c c2:List (List TV)}{X:TV}{vS vX:Value}(hH:H=[.ow c,X])(hxs:xs=[vS,vX])(hX:X=.ow c2\/X=.sl c2)(t ty e:TypeId)(i:TypeInfo)(z:Value)
 (ht:P.underlying t=some (.slice e))(hi:P.info? e=some i)(hz:i.zero=some z)(Y1:z.cells.size=i.size)(Z4:0<i.size)
 (YR:∀k (h:k<c.length),c[k].length=i.size)(YK:∀k (h:k<c2.length),c2[k].length=i.size)(ZR:c.length+c2.length<=1099511627776)(ZZ:(c.length+c2.length)*i.bytes<=140737488355328):
 ∃v' w' G',(Builtin.append_ #[t,t] ty #[vS,vX]).run P w=.ok v' w'/\Inv M σ [.ow (c++c2)] [v'] ts w' G'/\ij M w σ H G w' σ [.ow (c++c2)] G'/\G'.β=G.β:=by
 have ZC:=hI.hand_own (j:=0) (by rw[hH];simp) (by simp[hH]);have Vk:=hI.hand_own (j:=1) (by simp_all) (by rcases hX with h|h<;>simp[hH,h]);simp only[hH,hxs,List.getElem_cons_zero,List.getElem_cons_succ,List.getD_cons_zero]at ZC Vk;obtain⟨aX,capX,news,g,rfl,Yi,Vh,YV,YO,Yh,VM,_⟩:=Vk.rows hX YK;exact hI.append0 t ty e i z ZC ⟨Yi,Vh,YV,YO,Yh,VM⟩ ht hi hz Y1 Z4 YR YK ZR ZZ
end
def takeV(mv:Bool):TV->SP (List TV×Bool)
 |.agg l=>(takeL mv l).bind λl'=>.ret (l',true)
 |t=>(take1 mv t).bind λt'=>.ret ([t'],false)
def wr(d:Nat)(t:TV):SP Unit:=.wrT d t (.ret ())
def mV(agg:Bool)(l:List TV):TV:=if agg then .agg l else l.headD .dead
def inst(d:Nat)(agg:Bool)(l:List TV):SP Unit:=(names d l).bind λl'=>wr d (mV agg l')
def loadIp(n:Option Nat)(cs:List TV):Option TV:=
 match n with
 |none=>match cs with
  |.v x::_=>some (.v x)
  |.sl c::_=>some (.sl c)
  |.ip l::_=>some (.ip l)
  |.fn f l::_=>some (.fn f l)
  |_=>none
 |some n=>if n<=cs.length&&(cs.take n).all (λt=>match t with|.v _=>true|.sl _=>true|_=>false)then some (.agg (cs.take n))else none
def cq:TV->Bool
 |.v _=>true
 |.sl _=>true
 |.ow []=>true
 |_=>false
def takeParts(mv:Bool):List (Nat×Nat×Opd)->SP (List TV)
 | []=>.ret []
 |(_,n,x)::r=>(opd x).bind λt=>(takeL mv (lk t)).bind λl=>if l.length=n then(takeParts mv r).bind λl'=>.ret (l++l')else .fail
def iZ(cells:List TV)(off:Nat):List TV->List TV
 | []=>cells
 |t::r=>iZ (cells.set off t) (off+1) r
def mL(cells:List TV):List (Nat×Nat×Opd)->List TV->List TV
 | [],_=>cells
 |(off,n,_)::r,l=>mL (iZ cells off (l.take n)) r (l.drop n)
def ju(sz:Nat):Nat->List TV->List (List TV)
 |0,_=>[]
 |n+1,l=>l.take sz::ju sz n (l.drop sz)
def isV:TV->Bool
 |.v _=>true
 |_=>false
def contentOf:TV->SP (List (List TV))
 |.sl c=>.ret c
 |.ow []=>.ret []
 |.pk p vs=>(chk p (p.hops.length+1) vs).bind λ_=>(getPl p).bind λt=>match t with|.ow c=>.ret c|_=>.fail
 |.pw p vs _ lo n=>(chk p (p.hops.length+1) vs).bind λ_=>(getPl p).bind λt=>match t with|.ow c=>.ret ((c.drop lo).take n)|_=>.fail
 |_=>.fail
def Nl{α β:Type}(f:α->SP β):List α->SP (List β)
 | []=>.ret []
 |x::r=>(f x).bind λy=>(Nl f r).bind λl=>.ret (y::l)
def sn(mx:Bool)(k:IntKind):Int->List Value->Option Int
 |a,[]=>some a
 |a,.int k' b::r=>if k'=k then sn mx k (if mx then(if a<b then b else a)else(if b<a then b else a)) r else none
 |_,_=>none
def PL(i:Nat):Option Nat×Opd->SP (TV×Option (bS×List TV))
 |(none,x)=>(opd x).bind λt=>match t with
  |.fn f cap=>.ret (.fn f cap,none)
  |t=>(takeV false t).bind λl=>.ret (mV l.2 l.1,none)
 |(some n,x)=>(opd x).bind λt=>match t with
  |.ptr p vs=>(chk p p.hops.length vs).bind λ_=>.ret (.ptr ⟨2*i+2,0,[]⟩ [0],some (p,List.replicate n .dead))
  |_=>.fail
def om(s:ByteArray):List (List TV):=s.data.toList.map λb=>[.v (.int .u8 b.toNat)]
def wa:List (List TV)->Option (List Int)
 | []=>some []
 | [.v (.int .u8 n)]::r=>(wa r).map (n :: ·)
 |_=>none
def bstr(c:List (List TV)):Option ByteArray:=(wa c).map λns=>ns.foldl (λr n=>r.push (UInt8.ofNat n.toNat)) ByteArray.empty
def lS(sz:Nat):List (List TV)->Nat->List Value->List (List TV)
 |c,_,[]=>c
 |c,o,v::r=>lS sz (c.modify (o/sz) λel=>el.modify (o%sz) λ_=>.v v) (o+1) r
def Kl(sz:Nat)(c c2:List (List TV))(lo n:Nat):Option (Nat×Option (List (List TV))):=
 match co (c2.take (min c2.length n)).flatten with
 |some []=>if decide (0<sz)&&c2.all (λe=>e.length==sz)then some (min c2.length n,none)else none
 |some (v::vs)=>if decide (0<sz)&&c.all (λe=>e.length==sz)&&c2.all (λe=>e.length==sz)&&decide (lo+min c2.length n<=c.length)&&((c.drop lo).take (min c2.length n)).all (λe=>e.all isV)&&(v::vs).all gc
  then some (min c2.length n,some (lS sz c (lo*sz) (v::vs)))else none
 |none=>none
def yG(d:Nat)(p:bS)(tv:TV):Option (Nat×Option (List (List TV)))->SP Unit
 |some (m,some c')=>.wrC p.root p.off (eE tv p.hops (.ow c')) (wr d (.v (.int .i64 m)))
 |some (m,none)=>wr d (.v (.int .i64 m))
 |none=>.fail
def wy:TV->Bool
 |.pk _ _=>true
 |.pw _ _ _ _ _=>true
 |_=>false
def IU(d sz bytes:Nat)(s x:TV):SP Unit:=
 match s,x with
 |.ow c,.ow c2=>if(c++c2).all (λe=>e.length==sz)&&decide (c.length+c2.length<=1099511627776)&&decide ((c.length+c2.length)*bytes<=140737488355328)then inst d false [.ow (c++c2)]else .fail
 |.ow c,.sl c2=>if(c++c2).all (λe=>e.length==sz)&&decide (c.length+c2.length<=1099511627776)&&decide ((c.length+c2.length)*bytes<=140737488355328)then inst d false [.ow (c++c2)]else .fail
 |_,_=>.fail
def JY:TV->Bool
 |.v _=>true
 |.sl _=>true
 |_=>false
def ev1(d:Nat):TOp->SP Unit
 |.mov x=>(opd x).bind λt=>match t with
  |.ow c=>(match x with|.c _=>inst d false [.ow c]|_=>.fail)
  |.agg l=>if l.any kf then .fail else wr d (.agg l)
  |t=>wr d t
 |.asn mv x=>(opd x).bind λt=>match t with
  |.ptr p vs=>wr d (.ptr p vs)
  |.ip cs=>wr d (.ip cs)
  |.fn f cap=>wr d (.fn f cap)
  |t=>(takeV mv t).bind λl=>inst d l.2 l.1
 |.pick c a b=>(opd c).bind λtc=>match tc with
  |.v (.bool c)=>(opd (if c then a else b)).bind λt=>match t with|.v x=>wr d (.v x)|_=>.fail
  |_=>.fail
 |.alloc z=>if(z.map cf).all cq then .new (2*d+2) (z.map cf) (.rdV (2*d+2,0,0) λg=>wr d (.ptr ⟨2*d+2,0,[]⟩ [g]))else .fail
 |.box n mv x=>(opd x).bind λt=>(takeL mv (lk t)).bind λl=>if l.length=n then .new (2*d+2) l (.rdV (2*d+2,0,0) λg=>wr d (.ptr ⟨2*d+2,0,[]⟩ [g]))else .fail
 |.boxi n x=>(opd x).bind λt=>if J1 t then(if n=1 then wr d (.ip [t])else .fail)else(takeL false (lk t)).bind λl=>if l.length=n then wr d (.ip (l.map TV.imm))else .fail
 |.load n a=>(opd a).bind λt=>match t with
  |.ptr p vs=>(chk p p.hops.length vs).bind λ_=>match n with
   |none=>(peekP p).bind λt'=>wr d t'
   |some n=>(peekL p n).bind λl=>wr d (.agg l)
  |.ip cs=>match loadIp n cs with|some t=>wr d t|none=>.fail
  |_=>.fail
 |.store n mv a x=>(opd a).bind λta=>match ta with
  |.ptr p vs=>(opd x).bind λtx=>(takeL mv (lk tx)).bind λl=>if l.length=n then(chk p p.hops.length vs).bind λ_=>putL p l else .fail
  |_=>.fail
 |.nilc x=>(opd x).bind λt=>match t with
  |.ptr p vs=>(chk p p.hops.length vs).bind λ_=>wr d (.ptr p vs)
  |.ip cs=>wr d (.ip cs)
  |.fn f cap=>wr d (.fn f cap)
  |_=>.fail
 |.fld off a=>(opd a).bind λt=>match t with
  |.ptr p vs=>(chk p p.hops.length vs).bind λ_=>if p.fits off then wr d (.ptr (p.add off) vs)else .fail
  |.ip cs=>if off<cs.length then wr d (.ip (cs.drop off))else .fail
  |_=>.fail
 |.fldv off n x=>(opd x).bind λt=>match t with
  |.agg l=>match n with
   |none=>if off<l.length then wr d (l.getD off .dead)else .fail
   |some n=>if off+n<=l.length then wr d (.agg ((l.drop off).take n))else .fail
  |_=>.fail
 |.idx sz x i=>(opd x).bind λt=>(opd i).bind λti=>(natOf ti).bind λk=>match t with
  |.pk p vs=>(chk p (p.hops.length+1) vs).bind λ_=>(MG p).bind λh=>match h with
   |some ls=>if k<ls.length&&ls.getD k 0==sz&&decide (0<sz)then wr d (.ptr (p.at_ k sz) vs)else .fail
   |none=>.fail
  |.pw p vs sz' lo n=>(chk p (p.hops.length+1) vs).bind λ_=>(getPl p).bind λt=>match t with
   |.ow c=>if k<n&&(c.getD (lo+k) []).length==sz&&sz'==sz&&decide (0<sz)then wr d (.ptr (p.at_ (lo+k) sz) vs)else .fail
   |_=>.fail
  |.sl c=>if k<c.length&&(c.getD k []).length==sz&&decide (0<sz)then wr d (.ip (c.getD k []))else .fail
  |_=>.fail
 |.ext x i=>(opd x).bind λt=>match t with
  |.tup l=>if i<l.length then wr d (l.getD i .dead)else .fail
  |_=>.fail
 |.bin op x y=>(opd x).bind λa=>(opd y).bind λb=>(rq a).bind λa=>(rq b).bind λb=>(ig (dM op a b)).bind λr=>if gc r then wr d (.v r)else .fail
 |.bnb neg x y=>(opd x).bind λa=>(opd y).bind λb=>(rq a).bind λa=>(rq b).bind λb=>match a,b with
  |.bool a,.bool b=>wr d (.v (.bool (if neg then !(a==b)else a==b)))
  |_,_=>.fail
 |.eqa ks neg x y=>(opd x).bind λa=>(opd y).bind λb=>match a,b with
  |.agg a,.agg b=>(ig (co a)).bind λxs=>(ig (co b)).bind λys=>(ig (cA ks xs ys)).bind λr=>wr d (.v (.bool (if neg then !r else r)))
  |_,_=>.fail
 |.un op x=>(opd x).bind λa=>(rq a).bind λa=>(ig (Or op a)).bind λr=>if gc r then wr d (.v r)else .fail
 |.conv k x=>(opd x).bind λa=>(rq a).bind λa=>match a with|.int _ n=>wr d (.v (.int k (k.wrap n)))|_=>.fail
 |.bld z mv parts=>if(z.map cf).all cq then(takeParts mv parts).bind λl=>(names d l).bind λl'=>wr d (.agg (mL (z.map cf) parts l'))else .fail
 |.bsl sz mv len parts=>(takeParts mv (parts.map λp=>(0,sz,p))).bind λl=>if parts.length=len then inst d false [.ow (ju sz len l)]else .fail
 |.mks sz z l c=>if(z.map cf).all cq&&z.length==sz then(opd l).bind λtl=>(opd c).bind λtc=>(natOf tl).bind λn=>(natOf tc).bind λm=>
  if n=m&&decide (n*sz<=16777216)then inst d false [.ow (List.replicate n (z.map cf))]else .fail else .fail
 |.mki sz z l c=>if(z.map cf).all cq&&z.length==sz then(opd l).bind λtl=>(opd c).bind λtc=>(natOf tl).bind λn=>(natOf tc).bind λm=>
  if n=m&&decide (n*sz<=16777216)then inst d false [.ow (List.replicate n (z.map λx=>(cf x).imm))]else .fail else .fail
 |.sla n x hi=>(opd x).bind λt=>(optNat hi n).bind λh=>if decide (h<=n)&&decide (n<=16777216)then match t with
  |.ip cs=>if cs.length=n&&cs.all JY then wr d (.sl ((cs.map λc=>[c]).take h))else .fail
  |_=>.fail
  else .fail
 |.slc sz x lo hi=>(opd x).bind λt=>(jq t).bind λn=>(optNat lo 0).bind λl=>(optNat hi n).bind λh=>if l<=h&&decide (h<=n)then
  match t with
  |.sl c=>if c.all (λe=>e.length==sz)then wr d (.sl ((c.drop l).take (h-l)))else .fail
  |.pk p vs=>(getPl p).bind λt=>match t with|.ow c=>if c.all (λe=>e.length==sz)then wr d (.pw p vs sz l (h-l))else .fail|_=>.fail
  |.pw p vs sz' lo' _=>if sz'=sz then wr d (.pw p vs sz (lo'+l) (h-l))else .fail
  |.ow []=>inst d false [.ow []]
  |_=>.fail
  else .fail
 |.app sz bytes mv fl s x=>(opd s).bind λts=>(opd x).bind λtx=>
  if fl && !mv&&wy tx then(contentOf tx).bind λc2=>if c2.all (λe=>e.all isV)then(take1 true ts).bind λs=>IU d sz bytes s (.sl c2)else .fail
  else(take1 true ts).bind λs=>(take1 mv tx).bind λx=>IU d sz bytes s x
 |.apz sz bytes z s x=>if(z.map cf).all cq&&z.length==sz then(opd s).bind λts=>(opd x).bind λtx=>(natOf tx).bind λn=>(take1 true ts).bind λs=>IU d sz bytes s (.ow (List.replicate n (z.map cf)))else .fail
 |.del sz s x=>(opd s).bind λts=>(opd x).bind λtx=>match ts,tx with
  |.pw p vs s1 l1 k,.pw p2 vs2 s2 lo m=>if p.hops.isEmpty&&p2.hops.isEmpty&&p2.root==p.root&&p2.off==p.off&&vs2==vs&&s1==sz&&s2==sz then(take1 true (.pk p vs)).bind λt=>match t with
   |.ow c=>if c.all (λe=>e.length==sz)&&decide (l1<=0)&&decide (k<=lo)&&decide (lo+m<=c.length)then inst d false [(TV.ow (c.take k++(c.drop lo).take m)).imm]else .fail
   |_=>.fail
   else .fail
  |_,_=>.fail
 |.len x=>(opd x).bind λt=>(jq t).bind λn=>wr d (.v (.int .i64 n))
 |.lens x=>(opd x).bind λt=>match t with
  |.v (.string s)=>wr d (.v (.int .i64 s.size))
  |_=>.fail
 |.ixs x i=>(opd x).bind λt=>(opd i).bind λti=>(natOf ti).bind λk=>match t with
  |.v (.string s)=>match s[k]? with|some b=>wr d (.v (.int .u8 b.toNat))|none=>.fail
  |_=>.fail
 |.mm mx xs=>(Nl (λx=>(opd x).bind rq) xs).bind λl=>match l with
  |.int k a::r=>(ig (sn mx k a r)).bind λm=>wr d (.v (.int k m))
  |_=>.fail
 |.mkf f caps=>(Nl (λx=>(opd x).bind λt=>match t with|.ptr p vs=>.ret (.ptr p vs)|.ip cs=>.ret (.ip cs)|.v x=>.ret (.v x)|.sl c=>.ret (.sl c)|_=>.fail) caps).bind λl=>wr d (.fn f l)
 |.idxa n sz x i=>(opd x).bind λt=>(opd i).bind λti=>(natOf ti).bind λk=>match t with
  |.ptr p vs=>(chk p p.hops.length vs).bind λ_=>if k<n&&p.fits (k*sz)then wr d (.ptr (p.add (k*sz)) vs)else .fail
  |_=>.fail
 |.s2b x=>(opd x).bind λt=>match t with
  |.v (.string s)=>if s.size<4294967296 then wr d (.sl (om s))else .fail
  |_=>.fail
 |.b2s x=>(opd x).bind λt=>(take1 false t).bind λt'=>match t' with
  |.sl c=>(ig (bstr c)).bind λs=>wr d (.v (.string s))
  |.ow []=>wr d (.v (.string .empty))
  |_=>.fail
 |.cpy sz x y=>(opd x).bind λt=>(opd y).bind λu=>(contentOf u).bind λc2=>match t with
  |.pk p vs=>(chk p (p.hops.length+1) vs).bind λ_=>.rdC p.root p.off λtv=>match b7 tv p.hops with
   |some (.ow c)=>yG d p tv (Kl sz c c2 0 c.length)
   |_=>.fail
  |.pw p vs sz' lo n=>(chk p (p.hops.length+1) vs).bind λ_=>.rdC p.root p.off λtv=>match b7 tv p.hops with
   |some (.ow c)=>if sz'=sz then yG d p tv (Kl sz c c2 lo n)else .fail
   |_=>.fail
  |_=>.fail
 |.emp x=>(opd x).bind λt=>(jq t).bind λ_=>inst d false [.ow []]
 |.call _ _ _=>.fail
def bK:Operand->Option Opd
 |.tmp t=>some (.t t)
 |.const v=>some (.c v)
 |.func f=>some (.f f)
 |.global _=>none
section
variable {P:Program} {M:Fm} {σ σ':St} {ts:Array Value} {w:World} {G:Gh} {a:Act} {o:Oper}
theorem qd{F:Nat->Prop}{V:Vs}{C:Cs}(x:Value):TmR w F V C G (cf x) x:=by
 unfold cf;split
 ·exact .nil
 ·split
  ·rename_i h;exact .v h
  ·exact .dead
theorem wu{F:Nat->Prop}{V:Vs}{C:Cs}(x:Value):TmR w F V C G (pt x) x:=by
 unfold pt;split
 ·rename_i cs;refine .agg (by simp) λj hj=>?_
  have ZY:j<cs.size:=by simp_all
  have e:cs.getD j undef=cs[j]:=by simp[ZY]
  rw[e];simp;exact qd _
 ·exact qd _
theorem cr{F:Nat->Prop}(hI:∀i,TmR w F σ.v (b5 M σ []) G (σ.t i) (a.tmps.getD i undef)){x:Opd}{x':Operand}(hx:bK x'=some x){t:TV}(hr:(opd x).run σ=some (t,σ')):σ'=σ/\TmR w F σ.v (b5 M σ []) G t (a.eval x'):=by
 cases x' with
 |tmp i=>
  simp[bK]at hx;subst hx;obtain⟨rfl,rfl⟩:=hr;exact⟨rfl,hI i⟩
 |const v=>
  simp[bK]at hx;subst hx;obtain⟨rfl,rfl⟩:=hr;exact⟨rfl,wu v⟩
 |func f=>
  simp[bK]at hx;subst hx;obtain⟨rfl,rfl⟩:=hr;exact⟨rfl,.fn (by simp) (by simp)⟩
 |global g=>simp[bK]at hx
def jB(P:Program)(M:Fm)(σ':St)(a:Act)(o:Oper)(w:World):Prop:=
 ∃nx x w' G',(execOp a.eval o).run P w=.ok nx w'/\(nx=.value x\/nx=.skip/\x=undef)/\Inv M σ' [] [] (a.put o.dst x).tmps w' G'
theorem fG(hI:Inv M σ [] [] a.tmps w G){d:Nat}(hd:o.dst=some d)(hN:M.ok d){t:TV}{x:Value}(ht:TmR w (G.F M.A) σ.v (b5 M σ []) G t x)(hr:(wr d t).run σ=some ((),σ'))(hrun:(execOp a.eval o).run P w=.ok (.value x) w):jB P M σ' a o w:=by
 simp only[wr,SP.run,oSJ,oPJ,true_and]at hr;subst hr;exact⟨_,x,w,G,hrun,.inl rfl,by rw[hd];exact hI.wrT hN ht⟩
theorem qg{H:List TV}{xs:List Value}{d:Nat}(hd:d≠1000000->M.kp d=none)(hI:Inv M σ H xs ts w G){l':List TV}(Zu:∀j (h:j<H.length),cq H[j]=true\/kf H[j]=true)(hr:(names d H).run σ=some (l',σ')):
 ∃G',Inv M σ' [] [] ts w G'/\ij M w σ H G w σ' [] G'/\l'.length=H.length/\∀j (h:j<l'.length),TmR w (G'.F M.A) σ'.v (b5 M σ' []) G' l'[j] (xs.getD j undef):=by
 have hcell:∀{G':Gh},(∀k,G.F M.A k->G'.F M.A k)->∀{V:Vs} {C:Cs} j (h:j<H.length),kf H[j]=false->TmR w (G'.F M.A) V C G' H[j] (xs.getD j undef):=by
  intro G' hF V C j h ho;have hok:cq H[j]=true:=(Zu j h).resolve_right (by rw[ho];simp);have hown:=hI.hand_own h (by intro e;rw[e]at hok;simp[cq]at hok)
  cases hh:H[j]with
  |v x=>rw[hh]at hown;cases hown with|v _ hf=>exact .v hf
  |sl c=>rw[hh]at hown;cases hown with|sl _ hs=>exact .sl (hs.frame (λ_ _ _=>rfl) λk hk _=>hF k hk)
  |ow c=>rw[hh]at ho;simp[kf]at ho
  |_=>rw[hh]at hok;simp[cq]at hok
 unfold names at hr;by_cases hany:H.any kf=true
 ·rw[oIP hany]at hr;have X7:(nameL (2*d+3) 0 H).run (σ.root (2*d+3) H)=some (l',σ'):=hr;obtain⟨G',hg,hβ,hη⟩:=hI.reroot (2*d+3) (by omega) (hI.odd_none d) (λi h0 hi e=>hi ((show d=i by omega)▸hd (by omega)))
  have Z0:∀(l:List TV)(i:Nat)(l2:List TV)(σ2:St),(nameL (2*d+3) i l).run (σ.root (2*d+3) H)=some (l2,σ2)->σ2=σ.root (2*d+3) H/\l2.length=l.length/\∀j (h:j<l.length)(h2:j<l2.length),(kf l[j]=true/\l2[j]=.pk ⟨2*d+3,i+j,[]⟩ [(σ.root (2*d+3) H).v (2*d+3,0,0),(σ.root (2*d+3) H).v (2*d+3,i+j,1)])\/(kf l[j]=false/\l2[j]=l[j]):=by
   intro l
   induction l with
   |nil=>
    intro i l2 σ2 h;simp only[nameL,SP.run,oSJ,oPJ]at h;obtain⟨rfl,rfl⟩:=h;exact⟨rfl,rfl,λj h=>by simp at h⟩
   |cons t l ih=>
    intro i l2 σ2 h;by_cases ho:kf t=true
    ·obtain⟨c,rfl⟩:∃c,t=.ow c:=by cases t<;>simp[kf]at ho;exact⟨_,rfl⟩
     simp only[nameL,SP.run]at h;obtain⟨l3,σ3,h1,h2⟩:=bG h;simp only[SP.run,oSJ,oPJ]at h2;obtain⟨rfl,rfl⟩:=h2;obtain⟨rfl,e2,e3⟩:=ih _ _ _ h1;refine⟨rfl,by simp[e2],λj hj hj2=>?_⟩
     cases j with
     |zero=>exact .inl ⟨rfl,rfl⟩
     |succ j=>
      have:=e3 j (by simpa using hj) (by simpa using hj2);simpa[Nat.add_assoc,Nat.add_comm 1 j]using this
    ·have e:nameL (2*d+3) i (t::l)=(nameL (2*d+3) (i+1) l).bind λl'=>.ret (t::l'):=by cases t<;>simp[kf]at ho<;>rfl
     rw[e]at h;obtain⟨l3,σ3,h1,h2⟩:=bG h;simp only[SP.run,oSJ,oPJ]at h2;obtain⟨rfl,rfl⟩:=h2;obtain⟨rfl,e2,e3⟩:=ih _ _ _ h1;refine⟨rfl,by simp[e2],λj hj hj2=>?_⟩
     cases j with
     |zero=>exact .inr ⟨by simpa using ho,rfl⟩
     |succ j=>
      have:=e3 j (by simpa using hj) (by simpa using hj2);simpa[Nat.add_assoc,Nat.add_comm 1 j]using this
  obtain⟨rfl,e2,e3⟩:=Z0 H 0 l' σ' X7;refine⟨G',hg.1,hg.moves,e2,λj hj=>?_⟩
  have SA:j<H.length:=by omega
  rcases e3 j SA hj with⟨ho,e4⟩|⟨ho,e4⟩
  ·rw[e4]
   obtain⟨c,hc⟩:∃c,H[j]=.ow c:=by cases hh:H[j]<;>rw[hh]at ho<;>simp[kf]at ho;exact⟨_,rfl⟩
   refine .pk (σ.root (2*d+3) H).v (λ_=>Nat.le_refl _) (by simp[gY,List.range_succ]) λ_=>⟨by show(2*d+3:Nat)≠1;omega,c,?_,?_⟩
   ·unfold Gh.hv;simp only[hvT,Nat.zero_add];unfold Gh.val;rw[hβ,hI.odd_none d];simp only;rw[hη j (by rw[<- hI.hand];exact SA)]
   ·simp only[b7,Nat.zero_add];rw[bW (by show(2*d+3:Nat)≠1;omega),nu];simp[SA,hc]
  ·rw[e4];exact hcell hg.2.1 j SA ho
 ·rw[oIN hany]at hr;simp only[SP.run,oSJ,oPJ]at hr;obtain⟨rfl,rfl⟩:=hr;obtain⟨G',hg,hβ⟩:=hI.drop;refine⟨G',hg.1,hg.moves,rfl,λj hj=>hcell hg.2.1 j hj ?_⟩;simp only[List.any_eq_true,not_exists,not_and]at hany;have:=hany _ (List.getElem_mem hj);simpa using this
theorem iT{mv:Bool}{t t':TV}(hr:(take1 mv t).run σ=some (t',σ')):cq t'=true\/kf t'=true:=by
 cases t with
 |v x=>simp only[take1,SP.run,oPJ]at hr;obtain⟨rfl,_⟩:=hr;exact .inl rfl
 |sl c=>simp only[take1,SP.run,oSJ,oPJ]at hr;obtain⟨rfl,_⟩:=hr;exact .inl rfl
 |ow c=>
  cases c with
  |nil=>simp only[take1,SP.run,oSJ,oPJ]at hr;obtain⟨rfl,_⟩:=hr;cases mv<;>exact .inl rfl
  |cons=>simp[take1,SP.run]at hr
 |pk p vs=>
  obtain⟨_,σ1,h1,h2⟩:=bG hr;simp only[SP.run]at h2
  cases hg:b7 (σ1.c p.root p.off) p.hops with
  |none=>simp[hg,SP.run]at h2
  |some t2=>
   cases t2 with
   |ow c=>
    simp only[hg]at h2;split at h2
    ·obtain⟨l,_,_,h3⟩:=b8 h2;obtain⟨rfl,_⟩:=h3;exact .inr rfl
    ·obtain⟨l,_,_,h3⟩:=b8 h2;obtain⟨rfl,_⟩:=h3;rw[fH];exact .inl rfl
   |_=>simp[hg,SP.run]at h2
 |pw p vs sz lo n=>
  obtain⟨_,σ1,h1,h2⟩:=bG hr;simp only[SP.run]at h2
  cases hg:b7 (σ1.c p.root p.off) p.hops with
  |none=>simp[hg,SP.run]at h2
  |some t2=>
   cases t2 with
   |ow c=>
    simp only[hg]at h2;obtain⟨l,_,_,h3⟩:=b8 h2;obtain⟨rfl,_⟩:=h3;exact .inl rfl
   |_=>simp[hg,SP.run]at h2
 |_=>simp[take1,SP.run]at hr
theorem oy{mv:Bool}:∀{l l':List TV}{σ σ':St},(takeL mv l).run σ=some (l',σ')->∀j (h:j<l'.length),cq l'[j]=true\/kf l'[j]=true:=by
 intro l
 induction l with
 |nil=>
  intro l' σ σ' h j hj;obtain⟨rfl,_⟩:=h
  grind
 |cons t l ih=>
  intro l' σ σ' h j hj;have ⟨t',σ1,h1,h2⟩:=bG h;have ⟨r',σ2,h3,h4⟩:=bG h2;obtain⟨rfl,rfl⟩:=h4
  cases j with
  |zero=>exact iT h1
  |succ j=>exact ih h3 j (by simp_all)
theorem mD{H:List TV}{xs:List Value}{d:Nat}{agg:Bool}(hI:Inv M σ H xs a.tmps w G)(hd:o.dst=some d)(hN:M.ok d)(Zu:∀j (h:j<H.length),cq H[j]=true\/kf H[j]=true)(hr:(inst d agg H).run σ=some ((),σ'))
 {x:Value}(hx:(agg=true/\x=.agg xs.toArray)\/(agg=false/\∃y,xs=[y]/\x=y)){w0:World}(hrun:(execOp a.eval o).run P w0=.ok (.value x) w):jB P M σ' a o w0:=by
 unfold inst at hr;obtain⟨l',σ1,h1,h2⟩:=bG hr;obtain⟨G',ZK,hm,hl,ht⟩:=qg (λ_=>hN.2) hI Zu h1;simp only[wr,SP.run,oSJ,oPJ,true_and]at h2;subst h2;have Z0:TmR w (G'.F M.A) σ1.v (b5 M σ1 []) G' (mV agg l') x->jB P M { σ1 with tm:=dp σ1.tm d (mV agg l') } a o w0:=λh=>⟨_,x,w,G',hrun,.inl rfl,by rw[hd];exact ZK.wrT hN h⟩;apply Z0
 rcases hx with⟨rfl,rfl⟩|⟨rfl,y,rfl,rfl⟩
 ·simp only[mV,if_true];refine .agg (by simp[hl,hI.hand]) λj hj=>?_;have:=ht j hj;simpa using this
 ·simp only[mV]
  have hlen:l'.length=1:=by rw[hl,hI.hand];rfl
  obtain⟨t,rfl⟩:∃t,l'=[t]:=by
   cases l' with
   |nil=>simp at hlen
   |cons t r=>cases r with|nil=>exact⟨t,rfl⟩|cons=>simp at hlen
  simpa using ht 0 (by simp)
end
section
variable {P:Program} {M:Fm} {σ σ':St} {ts:Array Value} {w:World} {G:Gh} {a:Act} {o:Oper}
theorem TmR.ow_inv{F:Nat->Prop}{V:Vs}{C:Cs}{c:List (List TV)}{x:Value}(h:TmR w F V C G (.ow c) x):c=[]/\∃ad,x=.slice ad 0 0:=by
 cases h with
 |nil=>simp_all
theorem Fh{F:Nat->Prop}{V:Vs}{C:Cs}{l:List TV}{x:Value}(h:TmR w F V C G (.agg l) x):∃xs:Array Value,x=.agg xs/\xs.size=l.length/\∀j (hj:j<l.length),TmR w F V C G l[j] (xs.getD j undef):=by
 cases h with
 |agg hl h=>simp_all
theorem CL{mv:Bool}{t:TV}{x:Value}{l:List TV×Bool}(hI:Inv M σ [] [] ts w G)(hx:TmR w (G.F M.A) σ.v (b5 M σ []) G t x)(hr:(takeV mv t).run σ=some (l,σ')):
 ∃(xs:List Value)(G':Gh),jM M w ts σ [] G σ' l.1 xs G'/\((l.2=true/\x=.agg xs.toArray)\/(l.2=false/\∃y,xs=[y]/\x=y))/\(∀j (h:j<l.1.length),cq l.1[j]=true\/kf l.1[j]=true)/\(∀y∈xs,y.oneCell'=true):=by
 have one:∀t',(∀q,t≠.agg q)->(take1 mv t).run σ=some (t',σ')->l=([t'],false)->∃(xs:List Value)(G':Gh),jM M w ts σ [] G σ' l.1 xs G'/\((l.2=true/\x=.agg xs.toArray)\/(l.2=false/\∃y,xs=[y]/\x=y))/\(∀j (h:j<l.1.length),cq l.1[j]=true\/kf l.1[j]=true)/\(∀y∈xs,y.oneCell'=true):=by
  rintro t' _ h rfl;obtain⟨G',hg,ho⟩:=fK hI hx h;refine⟨[x],G',by simpa using hg,.inr ⟨rfl,x,rfl,rfl⟩,λj hj=>?_,by simpa using ho⟩
  obtain rfl:j=0:=by simp at hj;omega
  exact iT h
 by_cases ht:∃q,t=.agg q
 ·obtain⟨q,rfl⟩:=ht;obtain⟨l',σ1,h1,h2⟩:=bG hr;obtain⟨rfl,rfl⟩:=h2;obtain⟨xs,rfl,hl,hj⟩:=Fh hx;obtain⟨e1,e2,G',hg⟩:=ox (ys:=xs.toList) hI (by simp[hl]) (λj h=>by simp_all) h1;exact⟨xs.toList,G',by simpa using hg,.inl ⟨rfl,by simp⟩,oy h1,e2⟩
 ·have e:takeV mv t=(take1 mv t).bind λt'=>.ret ([t'],false):=by
   cases t<;>first|rfl|exact absurd ⟨_,rfl⟩ ht
  rw[e]at hr;obtain⟨t',σ1,h1,h2⟩:=bG hr;obtain⟨rfl,rfl⟩:=h2
  simp_all
theorem xP(hI:Inv M σ [] [] a.tmps w G){d:Nat}{ad:Option Addr}(hd:o.dst=some d)(hN:M.ok d)(hr:(inst d false [.ow []]).run σ=some ((),σ'))(hrun:(execOp a.eval o).run P w=.ok (.value (.slice ad 0 0)) w):jB P M σ' a o w:=by
 obtain⟨G1,hg⟩:=hI.addHand (t:=.ow []) (x:=.slice ad 0 0) (.nil (by simp))
 exact mD (H:=[.ow []]) (xs:=[.slice ad 0 0]) (by simpa using hg.1) hd hN (λj hj=>by
  obtain rfl:j=0:=by simp at hj;omega
  exact .inl rfl) hr (.inr ⟨rfl,_,rfl,rfl⟩) hrun
theorem F3(hI:Inv M σ [] [] a.tmps w G){d:Nat}(hd:o.dst=some d)(hN:M.ok d){x:Opd}{x':Operand}(hx:bK x'=some x)(ho:o.op=.move x'\/o.op=.assign x')(hr:(ev1 d (.mov x)).run σ=some ((),σ')):jB P M σ' a o w:=by
 simp only[ev1]at hr;obtain⟨t,σ1,h1,h2⟩:=bG hr;obtain⟨rfl,ht⟩:=cr hI.tmr hx h1
 have hrun:(execOp a.eval o).run P w=.ok (.value (a.eval x')) w:=by rcases ho with ho|ho<;>simp[execOp,ho]
 cases t with
 |ow c=>
  obtain⟨rfl,ad,e⟩:=ht.ow_inv;rw[e]at hrun
  cases x with
  |c v=>exact xP hI hd hN h2 hrun
  |_=>simp[SP.run]at h2
 |agg l=>
  simp only at h2;split at h2
  ·simp[SP.run]at h2
  ·exact fG hI hd hN ht h2 hrun
 |_=>exact fG hI hd hN ht h2 hrun
theorem Bk(hI:Inv M σ [] [] a.tmps w G){d:Nat}{mv:Bool}(hd:o.dst=some d)(hN:M.ok d){x:Opd}{x':Operand}(hx:bK x'=some x)(ho:o.op=.assign x'\/o.op=.move x')(hr:(ev1 d (.asn mv x)).run σ=some ((),σ')):jB P M σ' a o w:=by
 simp only[ev1]at hr;obtain⟨t,σ1,h1,h2⟩:=bG hr;obtain⟨rfl,ht⟩:=cr hI.tmr hx h1
 have hrun:(execOp a.eval o).run P w=.ok (.value (a.eval x')) w:=by rcases ho with ho|ho<;>simp[execOp,ho]
 have V5:∀ σ2,((takeV mv t).bind λl=>inst d l.2 l.1).run σ1=some ((),σ2)->jB P M σ2 a o w:=by
  intro σ2 h;obtain⟨l,σ3,h3,h4⟩:=bG h;obtain⟨xs,G',hg,hsh,hok,_⟩:=CL hI ht h3;exact mD hg.1 hd hN hok h4 hsh hrun
 cases t with
 |ptr p vs=>exact fG hI hd hN ht h2 hrun
 |ip cs=>exact fG hI hd hN ht h2 hrun
 |fn f cap=>exact fG hI hd hN ht h2 hrun
 |_=>exact V5 _ h2
theorem Ji(hI:Inv M σ [] [] a.tmps w G){d:Nat}(hd:o.dst=some d)(hN:M.ok d){c x y:Opd}{c' x' y':Operand}(hc:bK c'=some c)(hx:bK x'=some x)(hy:bK y'=some y)(ho:o.op=.pick c' x' y')
 (hr:(ev1 d (.pick c x y)).run σ=some ((),σ')):jB P M σ' a o w:=by
 simp only[ev1]at hr;obtain⟨t,σ1,h1,h2⟩:=bG hr;obtain⟨rfl,ht⟩:=cr hI.tmr hc h1
 cases t with
 |v xc=>
  cases xc with
  |bool b=>
   simp only at h2;obtain⟨t2,σ2,h3,h4⟩:=bG h2
   have hcv:a.eval c'=.bool b:=by generalize a.eval c'=z at ht;cases ht;rfl
   have hz:bK (if b then x' else y')=some (if b then x else y):=by cases b<;>simp[hx,hy]
   obtain⟨rfl,Yr⟩:=cr hI.tmr hz h3
   have hrun:(execOp a.eval o).run P w=.ok (.value (a.eval (if b then x' else y'))) w:=by cases b<;>simp[execOp,ho,hcv,asBool]
   cases t2 with
   |v z=>exact fG hI hd hN Yr h4 hrun
   |_=>simp[SP.run]at h4
  |_=>simp[SP.run]at h2
 |_=>simp[SP.run]at h2
theorem mi{t:TV}{x:Value}(h:(rq t).run σ=some (x,σ')):t=.v x/\σ'=σ:=by
 cases t<;>simp[rq,SP.run]at h
 simp_all
theorem mr{α:Type}{q:Option α}{x:α}(h:(ig q).run σ=some (x,σ')):q=some x/\σ'=σ:=by
 cases q<;>simp[ig,SP.run]at h
 simp_all
theorem ja{t:TV}{n:Nat}(h:(natOf t).run σ=some (n,σ')):∃k i,t=.v (.int k i)/\0<=i/\n=i.toNat/\σ'=σ:=by
 cases t with
 |v x=>
  cases x with
  |int k i=>
   simp[natOf]at h;split at h
   ·rename_i m;simp[SP.run]at h;exact⟨k,_,rfl,Int.natCast_nonneg m,h.1.symm,h.2.symm⟩
   ·simp[SP.run]at h
  |_=>simp[natOf,SP.run]at h
 |_=>simp[natOf,SP.run]at h
theorem TmR.v_inv{F:Nat->Prop}{V:Vs}{C:Cs}{y x:Value}(h:TmR w F V C G (.v y) x):x=y/\gc y=true:=by
 cases h with
 |v h=>simp_all
theorem ua{s:Sem Value}{v:Value}(h:Bw s=some v)(w:World):s.run P w=.ok v w:=by
 unfold Bw at h;split at h
 ·simp_all
 ·simp at h
theorem Iy(op:BinOp)(t:TypeId)(k k':IntKind)(x y:Int):Go.binOp op t (.int k x) (.int k' y)=Go.binOp op 0 (.int k x) (.int k' y):=by
 cases op<;>rfl
theorem Ix(op:BinOp)(t:TypeId)(x y:ByteArray):Go.binOp op t (.string x) (.string y)=Go.binOp op 0 (.string x) (.string y):=by
 cases op<;>rfl
theorem LT(hI:Inv M σ [] [] a.tmps w G){d:Nat}(hd:o.dst=some d)(hN:M.ok d){x y:Opd}{x' y':Operand}{op:BinOp}{t yt:TypeId}(hx:bK x'=some x)(hy:bK y'=some y)(ho:o.op=.binOp op t x' y' yt)
 (hr:(ev1 d (.bin op x y)).run σ=some ((),σ')):jB P M σ' a o w:=by
 simp only[ev1]at hr;obtain⟨t1,σ1,h1,h2⟩:=bG hr;obtain⟨rfl,Z2⟩:=cr hI.tmr hx h1;obtain⟨t2,σ2,h3,h4⟩:=bG h2;obtain⟨rfl,XD⟩:=cr hI.tmr hy h3;obtain⟨u1,σ3,h5,h6⟩:=bG h4;obtain⟨rfl,rfl⟩:=mi h5;obtain⟨u2,σ4,h7,h8⟩:=bG h6;obtain⟨rfl,rfl⟩:=mi h7;obtain⟨r,σ5,h9,ZS⟩:=bG h8;obtain⟨Yn,rfl⟩:=mr h9;obtain⟨ex,fx⟩:=Z2.v_inv;obtain⟨ey,fy⟩:=XD.v_inv;split at ZS
 case isFalse=>simp[SP.run]at ZS
 rename_i ZE;refine fG hI hd hN (.v ZE) ZS ?_
 cases u1 with
 |int k i=>
  cases u2 with
  |int k' i'=>
   simp only[dM]at Yn
   have hb:(Go.binOp op t (.int k i) (.int k' i')).run P w=.ok r w:=by rw[Iy];exact ua Yn w
   have hg:(eqGuard op t x' y' (.int k i) (.int k' i')).run P w=.ok () w:=by unfold eqGuard;split<;>rfl
   simp[execOp,ho,ex,ey,hb,hg]
  |_=>simp[dM]at Yn
 |string i=>
  cases u2 with
  |string i'=>
   simp only[dM]at Yn
   have hb:(Go.binOp op t (.string i) (.string i')).run P w=.ok r w:=by rw[Ix];exact ua Yn w
   have hg:(eqGuard op t x' y' (.string i) (.string i')).run P w=.ok () w:=by unfold eqGuard;split<;>rfl
   simp[execOp,ho,ex,ey,hb,hg]
  |_=>simp[dM]at Yn
 |_=>simp[dM]at Yn
theorem Gg(hI:Inv M σ [] [] a.tmps w G){d:Nat}(hd:o.dst=some d)(hN:M.ok d){x y:Opd}{x' y':Operand}{op:BinOp}{neg:Bool}{t yt:TypeId}(hx:bK x'=some x)(hy:bK y'=some y)(ho:o.op=.binOp op t x' y' yt)(hop:(op=.eql/\neg=false)\/(op=.neq/\neg=true))(ht:P.underlying t=some .bool)
 (hr:(ev1 d (.bnb neg x y)).run σ=some ((),σ')):jB P M σ' a o w:=by
 simp only[ev1]at hr;obtain⟨t1,σ1,h1,h2⟩:=bG hr;obtain⟨rfl,Z2⟩:=cr hI.tmr hx h1;obtain⟨t2,σ2,h3,h4⟩:=bG h2;obtain⟨rfl,XD⟩:=cr hI.tmr hy h3;obtain⟨u1,σ3,h5,h6⟩:=bG h4;obtain⟨rfl,rfl⟩:=mi h5;obtain⟨u2,σ4,h7,h8⟩:=bG h6;obtain⟨rfl,rfl⟩:=mi h7;obtain⟨ex,fx⟩:=Z2.v_inv;obtain⟨ey,fy⟩:=XD.v_inv
 cases u1 with
 |bool i=>
  cases u2 with
  |bool i'=>
   simp only at h8
   have hg:(eqGuard op t x' y' (.bool i) (.bool i')).run P w=.ok () w:=by unfold eqGuard;split<;>rfl
   have hq:(Op.equal t (.bool i) (.bool i')).run P w=.ok (i==i') w:=by
    obtain⟨n,hn⟩:∃n,Op.maxDepth=n+1:=⟨9999,rfl⟩;unfold Op.equal;rw[hn];simp[Op.equalIn,run_underlying ht]
   refine fG hI hd hN (.v rfl) h8 ?_
   rcases hop with⟨rfl,rfl⟩|⟨rfl,rfl⟩
   ·simp[execOp,ho,ex,ey,hg,Go.binOp,hq]
   ·simp[execOp,ho,ex,ey,hg,Go.binOp,hq]
  |_=>simp[SP.run]at h8
 |_=>simp[SP.run]at h8
theorem NQ(hI:Inv M σ [] [] a.tmps w G){d:Nat}(hd:o.dst=some d)(hN:M.ok d){x:Opd}{x':Operand}{op:UnOp}{t:TypeId}(hx:bK x'=some x)(ho:o.op=.unOp op t x')(hr:(ev1 d (.un op x)).run σ=some ((),σ')):jB P M σ' a o w:=by
 simp only[ev1]at hr;obtain⟨t1,σ1,h1,h2⟩:=bG hr;obtain⟨rfl,Z2⟩:=cr hI.tmr hx h1;obtain⟨u1,σ3,h5,h6⟩:=bG h2;obtain⟨rfl,rfl⟩:=mi h5;obtain⟨r,σ5,h9,ZS⟩:=bG h6;obtain⟨Yn,rfl⟩:=mr h9;obtain⟨ex,fx⟩:=Z2.v_inv;split at ZS
 case isFalse=>simp[SP.run]at ZS
 rename_i ZE;exact fG hI hd hN (.v ZE) ZS (by simp[execOp,ho,ex,ua Yn w])
theorem Jp(hI:Inv M σ [] [] a.tmps w G){d:Nat}(hd:o.dst=some d)(hN:M.ok d){x:Opd}{x':Operand}{k ks:IntKind}{s t:TypeId}(hx:bK x'=some x)(ho:o.op=.convert s t x')(hs:P.underlying s=some (.int ks))(ht:P.underlying t=some (.int k))
 (hr:(ev1 d (.conv k x)).run σ=some ((),σ')):jB P M σ' a o w:=by
 simp only[ev1]at hr;obtain⟨t1,σ1,h1,h2⟩:=bG hr;obtain⟨rfl,Z2⟩:=cr hI.tmr hx h1;obtain⟨u1,σ3,h5,h6⟩:=bG h2;obtain⟨rfl,rfl⟩:=mi h5;obtain⟨ex,fx⟩:=Z2.v_inv
 cases u1 with
 |int k2 n=>exact fG hI hd hN (.v rfl) h6 (by simp[execOp,ho,ex,convert,run_underlying hs,run_underlying ht,Conv.intToInt])
 |_=>simp[SP.run]at h6
theorem Jj(hI:Inv M σ [] [] a.tmps w G){d:Nat}(hd:o.dst=some d)(hN:M.ok d){x:Opd}{x':Operand}(hx:bK x'=some x)(ho:o.op=.nilCheck x')(hr:(ev1 d (.nilc x)).run σ=some ((),σ')):jB P M σ' a o w:=by
 simp only[ev1]at hr;obtain⟨t1,σ1,h1,h2⟩:=bG hr;obtain⟨rfl,Z2⟩:=cr hI.tmr hx h1
 cases t1 with
 |ptr p vs=>
  simp only at h2;obtain⟨_,σ2,h3,h4⟩:=bG h2;have e1:σ2=σ1:=(bU h3).1;have e2:=(bU h3).2;subst e1;have ht:=Z2
  cases Z2 with
  |ptr V0 h0 hv h=>
   obtain⟨_,ad,t,ha,W3,_⟩:=h e2;exact fG hI hd hN ht h4 (by simp[execOp,ho,W3])
 |ip cs=>
  have ht:=Z2;generalize hz:a.eval x'=z at Z2 ht
  cases Z2 with
  |ip u hc X7=>exact fG hI hd hN ht h2 (by simp[execOp,ho,hz])
 |fn f cap=>
  have ht:=Z2;generalize hz:a.eval x'=z at Z2 ht
  cases Z2 with
  |fn hl hh=>exact fG hI hd hN ht h2 (by simp[execOp,ho,hz])
 |_=>simp[SP.run]at h2
end
theorem bS.add_cases(p:bS)(n:Nat):(p.hops=[]/\p.add n=⟨p.root,p.off+n,[]⟩)\/(∃hs i sz o,p.hops=hs++[(i,sz,o)]/\p.add n=⟨p.root,p.off,hs++[(i,sz,o+n)]⟩):=by
 unfold bS.add
 cases h:p.hops.reverse with
 |nil=>simp_all
 |cons a r=>
  have ⟨i,sz,o⟩:=a
  simp_all
theorem Fj{w:World}{hs:List Hop}{i sz o:Nat}(n:Nat):∀{x:Value}{ad:Addr},ct w x (hs++[(i,sz,o)])=some ad->ct w x (hs++[(i,sz,o+n)])=some ⟨ad.block,ad.off+n,none⟩:=by
 induction hs with
 |nil=>
  intro x ad h
  cases x with
  |slice a l c=>
   cases a with
   |none=>simp[ct]at h
   |some a=>
    simp only[List.nil_append,ct]at h⊢;split at h
    ·rename_i hi;rw[oIP hi]
     injection h with h
     rw[<- h];simp[Nat.add_assoc]
    ·simp at h
  |_=>simp[ct]at h
 |cons hp hs ih=>
  obtain⟨i',sz',o'⟩:=hp;intro x ad h
  obtain⟨hd,tl,XI⟩:∃hd tl,hs++[(i,sz,o)]=hd::tl:=by cases hs<;>exact⟨_,_,rfl⟩
  obtain⟨hd2,tl2,VG⟩:∃hd tl,hs++[(i,sz,o+n)]=hd::tl:=by cases hs<;>exact⟨_,_,rfl⟩
  rw[List.cons_append,XI]at h;rw[List.cons_append,VG]
  cases x with
  |slice a l c=>
   cases a with
   |none=>simp[ct]at h
   |some a=>
    simp only[ct]at h⊢;split at h
    ·rename_i hi
     cases hc:w.cell? ⟨a.block,a.off+(i'*sz'+o'),none⟩with
     |none=>simp_all
     |some y=>
      simp_all
    ·simp at h
  |_=>simp[ct]at h
theorem lu{G:Gh}{w:World}{p:bS}{ad:Addr}(n:Nat)(h:G.addr w p=some ad):G.addr w (p.add n)=some ⟨ad.block,ad.off+n,none⟩:=by
 rcases p.add_cases n with⟨h1,h2⟩|⟨hs,i,sz,o,h1,h2⟩
 ·rw[h2];unfold Gh.addr at h⊢;rw[h1]at h
  cases hb:G.β p.root with
  |none=>simp_all
  |some x=>
   simp[hb]at h⊢;rw[<- h];simp[Nat.add_assoc]
 ·rw[h2];unfold Gh.addr at h⊢;rw[h1]at h
  obtain⟨hd,tl,XI⟩:∃hd tl,hs++[(i,sz,o)]=hd::tl:=by cases hs<;>exact⟨_,_,rfl⟩
  have ⟨hd2,tl2,VG⟩:∃hd tl,hs++[(i,sz,o+n)]=hd::tl:=by cases hs<;>exact⟨_,_,rfl⟩
  rw[XI]at h;simp only at h;rw[<- XI]at h;simp[VG];rw[<- VG];exact Fj n h
theorem dh(p:bS)(n:Nat):(p.add n).root=p.root:=by
 rcases p.add_cases n with⟨_,h2⟩|⟨hs,i,sz,o,_,h2⟩<;>rw[h2]
theorem CI(V:Vs)(p:bS)(n:Nat):gY V (p.add n).root (p.add n).off (p.add n).hops.length=gY V p.root p.off p.hops.length:=by
 rcases p.add_cases n with⟨h1,h2⟩|⟨hs,i,sz,o,h1,h2⟩<;>rw[h2,h1]
 ·rfl
 ·simp
theorem jz{G:Gh}{w:World}{p:bS}{ad:Addr}(h:G.addr w p=some ad):ad.spot=none:=by
 have Z0:∀(hs:List Hop)(x:Value),ct w x hs=some ad->ad.spot=none:=by
  intro hs
  induction hs with
  |nil=>intro x h;cases x<;>simp[ct]at h
  |cons a r ih=>
   intro x h
   cases x with
   |slice a l c=>
    cases a with
    |none=>cases r<;>simp[ct]at h
    |some a=>
     cases r with
     |nil=>
      simp only[ct]at h;split at h
      ·injection h with h;rw[<- h]
      ·simp at h
     |cons b r=>
      simp[ct]at h;split at h
      ·grind
      ·simp at h
   |_=>cases r<;>simp[ct]at h
 unfold Gh.addr at h
 grind
section
variable {P:Program} {M:Fm} {σ σ':St} {H:List TV} {xs:List Value} {ts:Array Value} {w:World} {G:Gh} {a:Act} {o:Oper}
theorem Inv.named(hI:Inv M σ H xs ts w G){p:bS}(h1:p.root≠1){ad:Addr}(ha:G.addr w p=some ad){t:TV}(ht:b7 (σ.c p.root p.off) p.hops=some t)(hd:t≠.dead):
 G.addrB w p=some ad/\∃u fp,w.cell? ad=some u/\fa w (G.F M.A) fp t u/\G.hv w p=some u:=by
 have Qv:b7 (b5 M σ H p.root p.off) p.hops=some t:=by rw[bW (h1)];exact ht
 obtain⟨u,fp,hv,hown,_,SV⟩:=hI.core.hv_own p Qv hd
 have hB:G.addrB w p=some ad:=by
  refine kj ha λhp b o0 n hb=>?_;rcases Nat.lt_or_ge p.off n with h|h
  ·exact h
  ·have:=hI.core.boxc p.root b o0 n hb p.off h;rw[bW (by exact h1)]at this;rw[hp,this]at ht;simp only[b7]at ht
   simp_all
 refine⟨hB,u,fp,?_,hown,hv⟩
 cases hp:p.hops with
 |nil=>
  rcases hI.core.where_ p hB Qv with⟨_,b,o0,n,hb,hlt,Zf⟩|⟨hne,_⟩
  ·rw[Zf,hI.core.boxcell hb hlt];unfold Gh.hv at hv;rw[hp]at hv;exact hv
  ·simp_all
 |cons x r=>
  have:ct w (G.val w p.root p.off) p.hops=some ad:=by unfold Gh.addr at ha;rw[hp]at ha⊢;exact ha
  simp_all
theorem cX{p:bS}{y:TV×St}(h:(getPl p).run σ=some y):y.2=σ/\b7 (σ.c p.root p.off) p.hops=some y.1:=by
 simp[getPl]at h
 cases hg:b7 (σ.c p.root p.off) p.hops with
 |none=>simp[hg,SP.run]at h
 |some t=>
  simp[hg,SP.run]at h;rw[<- h];exact⟨rfl,rfl⟩
theorem qb(hI:Inv M σ H xs ts w G){p:bS}(h1:p.root≠1){t t':TV}{u:Value}{fp:Nat->Prop}(ht:b7 (σ.c p.root p.off) p.hops=some t)(hown:fa w (G.F M.A) fp t u)(hv:G.hv w p=some u)
 (hr:(peek1 p t).run σ=some (t',σ')):σ'=σ/\TmR w (G.F M.A) σ.v (b5 M σ H) G t' u:=by
 cases t with
 |v x=>
  obtain⟨rfl,rfl⟩:=hr
  cases hown with
  |v _ h=>exact⟨rfl,.v h⟩
 |sl c=>
  obtain⟨rfl,rfl⟩:=hr
  cases hown with
  |sl _ h=>exact⟨rfl,.sl h⟩
 |ow c=>
  simp[peek1]at hr;rw[SP.run_bind,p7,mz]at hr;obtain⟨rfl,rfl⟩:=hr;exact⟨rfl,.pk σ.v (λ_=>Nat.le_refl _) rfl λ_=>⟨h1,c,hv,by rw[bW (h1)];exact ht⟩⟩
 |_=>simp[peek1,SP.run]at hr
theorem oE{p:bS}{y:TV×St}{t:TV}(hr:(peek1 p t).run σ=some y):t≠.dead:=by
 rintro rfl;simp[peek1,SP.run]at hr
theorem Dg(hI:Inv M σ H xs ts w G):∀{n:Nat}{p:bS}{ad:Addr}{l:List TV}{σ':St},p.root≠1->G.addr w p=some ad->(peekL p n).run σ=some (l,σ')->
 σ'=σ/\l.length=n/\∃us:List Value,us.length=n/\∀j (h:j<l.length)(h':j<us.length),w.cell? ⟨ad.block,ad.off+j,none⟩=some us[j]/\TmR w (G.F M.A) σ.v (b5 M σ H) G l[j] us[j]:=by
 intro n
 induction n with
 |zero=>
  intro p ad l σ' h1 ha hr;simp only[peekL,SP.run,oSJ,oPJ]at hr
  simp_all
 |succ n ih=>
  intro p ad l σ' h1 ha hr;simp only[peekL]at hr;obtain⟨t,σ1,h2,h3⟩:=bG hr;obtain⟨e1,hg⟩:=cX h2;have e1:σ1=σ:=e1;subst e1;obtain⟨t',σ2,h4,h5⟩:=bG h3;have hd:=oE h4;obtain⟨hB,u,fp,YU,hown,hv⟩:=hI.named h1 ha hg hd;obtain⟨rfl,YS⟩:=qb hI h1 hg hown hv h4;have Zn:=jz ha
  have Rd:w.cell? ⟨ad.block,ad.off+0,none⟩=some u:=by
   rw[Nat.add_zero];obtain⟨b,o,s⟩:=ad;simp only at Zn⊢;subst Zn;exact YU
  cases n with
  |zero=>
   obtain⟨rfl,rfl⟩:=h5;refine⟨rfl,rfl,[u],rfl,λj h h'=>?_⟩
   obtain rfl:j=0:=by simp at h;omega
   exact⟨Rd,YS⟩
  |succ n=>
   simp only at h5;split at h5
   ·obtain⟨r,σ3,h6,h7⟩:=bG h5;obtain⟨rfl,rfl⟩:=h7;obtain⟨rfl,e2,us,e3,e4⟩:=ih (by rw[dh];exact h1) (lu 1 ha) h6;refine⟨rfl,by simp[e2],u::us,by simp[e3],λj h h'=>?_⟩
    cases j with
    |zero=>exact⟨Rd,YS⟩
    |succ j=>
     have:=e4 j (by simpa using h) (by simpa using h');rw[show ad.off+(j+1)=ad.off+1+j by omega];exact this
   ·simp[SP.run]at h5
theorem lQ{t:TypeId}{d:TypeDesc}(h:P.underlying t=some d)(hd:∀f,d≠.struct f)(hd2:∀n e,d≠.array n e):(isAgg t).run P w=.ok false w:=by
 unfold isAgg;simp only[Sem.run_bind,run_underlying h]
 simp_all
theorem kx{t:TypeId}{d:TypeDesc}(h:P.underlying t=some d)(hd:(∃f,d=.struct f)\/∃n e,d=.array n e):(isAgg t).run P w=.ok true w:=by
 unfold isAgg;simp[run_underlying h]
 rcases hd with⟨f,rfl⟩|⟨n,e,rfl⟩<;>rfl
def DW(P:Program)(t:TypeId):Option Nat->Prop
 |none=>∃d,P.underlying t=some d/\(∀f,d≠.struct f)/\∀n e,d≠.array n e
 |some n=>(∃d,P.underlying t=some d/\((∃f,d=.struct f)\/∃n e,d=.array n e))/\(P.info? t).map (·.size)=some n
theorem Jk(hI:Inv M σ [] [] a.tmps w G){d:Nat}(hd:o.dst=some d)(hN:M.ok d){x:Opd}{x':Operand}{t:TypeId}{n:Option Nat}(hx:bK x'=some x)(ho:o.op=.load t x')(hn:DW P t n)(hr:(ev1 d (.load n x)).run σ=some ((),σ')):jB P M σ' a o w:=by
 simp only[ev1]at hr;obtain⟨tx,σ1,h1,h2⟩:=bG hr;obtain⟨rfl,Z2⟩:=cr hI.tmr hx h1
 cases tx with
 |ptr p vs=>
  simp only at h2;obtain⟨_,σ2,h3,h4⟩:=bG h2;have e1:σ2=σ1:=(bU h3).1;have e2:=(bU h3).2;subst e1;generalize hz:a.eval x'=z at Z2
  cases Z2 with
  |ptr V0 h0 hv h=>
   obtain⟨Z8,ad,t0,ha,rfl,_⟩:=h e2
   cases n with
   |none=>
    obtain⟨dd,hu,YD,hd2⟩:=hn;simp only at h4;obtain⟨t',σ4,QX,h8⟩:=bG h4;rw[GV]at QX;obtain⟨t1,σ3,h5,h7⟩:=bG QX;obtain⟨e3,hg⟩:=cX h5;have e3:σ3=σ2:=e3;subst e3;obtain⟨hB,u,fp,YU,hown,ZP⟩:=hI.named Z8 ha hg (oE h7);obtain⟨rfl,YS⟩:=qb hI Z8 hg hown ZP h7;refine fG hI hd hN YS h8 ?_;simp[execOp,ho,hz,Instr.loadAt,Instr.sureAddr,loadVar,lQ hu YD hd2,YU]
   |some n=>
    obtain⟨⟨dd,hu,YD⟩,hsz⟩:=hn;simp only at h4;obtain⟨l,σ3,h5,h6⟩:=bG h4;obtain⟨rfl,e3,us,e4,e5⟩:=Dg hI Z8 ha h5;refine fG hI hd hN (x:=.agg us.toArray) (.agg (by simp[e3,e4]) λj hj=>by have:=(e5 j hj (by omega)).2;simpa[show j<us.length by omega]using this) h6 ?_;have Zn:=jz ha
    have ZV:=run_loadCells_list (P:=P) w ad us λj v hj=>by
     obtain⟨hlt,rfl⟩:=oGS hj;have:=(e5 j (by omega) hlt).1;obtain⟨b,o,s⟩:=ad;simp only at Zn;subst Zn;rw[cY];exact this
    have Y6:(sizeOf t).run P w=.ok n w:=by
     unfold sizeOf typeInfo
     cases hi:P.info? t with
     |none=>simp[hi]at hsz
     |some i=>simp[hi]at hsz;simp[hi,hsz]
    rw[e4]at ZV;simp[execOp,ho,hz,Instr.loadAt,Instr.sureAddr,loadVar,kx hu YD,Y6,ZV]
 |ip cs=>
  simp only at h2;generalize hz:a.eval x'=z at Z2
  cases Z2 with
  | @ip _ b ob u hc UU=>
   cases hl:loadIp n cs with
   |none=>simp[hl,SP.run]at h2
   |some t'=>
    simp only[hl]at h2
    cases n with
    |none=>
     obtain⟨dd,hu,YD,hd2⟩:=hn;unfold loadIp at hl;simp only at hl
     have hlen:0<cs.length:=by cases cs<;>simp at hl⊢
     obtain⟨_,YU⟩:=hc 0 hlen;have ZM:=UU 0 hlen
     have YS:TmR w (G.F M.A) σ1.v (b5 M σ1 []) G t' (u 0):=by
      cases cs with
      |nil=>simp at hlen
      |cons c0 cs=>
       simp only[List.getElem_cons_zero]at ZM
       cases c0 with
       |v x=>simp only[oSJ]at hl;subst hl;exact ZM.toTm
       |sl c=>simp only[oSJ]at hl;subst hl;exact ZM.toTm
       |ip l=>simp only[oSJ]at hl;subst hl;exact ZM.toTm
       |fn f l=>simp only[oSJ]at hl;subst hl;exact ZM.toTm
       |_=>simp at hl
     refine fG hI hd hN YS h2 ?_;rw[Nat.add_zero]at YU;simp[execOp,ho,hz,Instr.loadAt,Instr.sureAddr,loadVar,lQ hu YD hd2,YU]
    |some n=>
     obtain⟨⟨dd,hu,YD⟩,hsz⟩:=hn;unfold loadIp at hl;simp only at hl;split at hl
     ·rename_i Z9;simp only[oBA,oDE]at Z9
      injection hl with hl
      subst hl
      have hlen:(cs.take n).length=n:=by simp;omega
      refine fG hI hd hN (x:=.agg ((List.range n).map u).toArray) (.agg (by simp;omega) λj hj=>?_) h2 ?_
      ·have P9:j<n:=by omega
       have Wo:j<cs.length:=by omega
       have ZM:=UU j Wo;have hal:=List.all_eq_true.1 Z9.2 _ (List.getElem_mem hj);have e:(cs.take n)[j]=cs[j]:=List.getElem_take;rw[e]at hal⊢
       have e2:((List.range n).map u).toArray.getD j undef=u j:=by simp[P9]
       rw[e2]
       cases hcj:cs[j]with
       |v x=>rw[hcj]at ZM;exact ZM.toTm
       |sl c=>rw[hcj]at ZM;exact ZM.toTm
       |_=>rw[hcj]at hal;simp at hal
      ·have ZV:=run_loadCells_list (P:=P) w ⟨b,ob,none⟩ ((List.range n).map u) λj v hj=>by
        rw[List.getElem?_map]at hj;rcases Nat.lt_or_ge j n with h|h
        ·rw[List.getElem?_range h]at hj;simp only[oMS,oSJ]at hj;rw[cY,<- hj];exact(hc j (by omega)).2
        ·rw[oGN (by simpa using h)]at hj;simp at hj
       have Y6:(sizeOf t).run P w=.ok n w:=by
        unfold sizeOf typeInfo
        cases hi:P.info? t with
        |none=>simp[hi]at hsz
        |some i=>simp[hi]at hsz;simp[hi,hsz]
       rw[List.length_map,List.length_range]at ZV;simp[execOp,ho,hz,Instr.loadAt,Instr.sureAddr,loadVar,kx hu YD,Y6,ZV]
     ·simp at hl
 |_=>simp[SP.run]at h2
end
section
variable {P:Program} {M:Fm} {σ σ':St} {H:List TV} {xs:List Value} {ts:Array Value} {w:World} {G:Gh} {a:Act} {o:Oper}
theorem Dc{p:bS}{t:TV}(h:(sK p t).run σ=some ((),σ')):
 ∃old l vr,b7 (σ.c p.root p.off) p.hops=some old/\b9 σ.ce p.root=some l/\p.off<l.length/\σ'=⟨σ.tm,dp σ.ce p.root (l.set p.off (eE (σ.c p.root p.off) p.hops t)),vr⟩/\gY σ'.v p.root p.off p.hops.length=gY σ.v p.root p.off p.hops.length:=by
 unfold sK at h;simp only[SP.run]at h
 cases hg:b7 (σ.c p.root p.off) p.hops with
 |none=>simp[hg,SP.run]at h
 |some old=>
  simp only[hg]at h;split at h
  ·split at h
   ·obtain⟨l,hl,ho,h3⟩:=b8 h;simp only[SP.run,oSJ,oPJ,true_and]at h3;refine⟨old,l,_,rfl,hl,ho,h3.symm,?_⟩;rw[iS]
    have hv:∀q,σ'.v q=σ.v q+if(p.root,p.off,p.hops.length+1)=q then 1 else 0:=λq=>by rw[<- h3];exact ff σ.vr _ q
    refine⟨by simp_all,λd hd=>?_⟩;rw[hv,oIN]
    ·omega
    ·intro e
     simp_all
   ·simp[SP.run]at h
  ·obtain⟨l,hl,ho,h3⟩:=b8 h;simp[SP.run,oPJ,true_and]at h3;refine⟨old,l,_,rfl,hl,ho,h3.symm,?_⟩
   have hv:σ'.v=σ.v:=by rw[<- h3];rfl
   rw[hv]
theorem Bu:∀{rest:List TV}{k:Nat}{σ σ':St}{H:List TV}{w:World}{G:Gh}{p:bS}{ad:Addr},Inv M σ H xs ts w G->p.root≠1->G.addr w p=some ad->H.drop k=rest->rest≠[]->(∀j (h:j<H.length),k<=j->H[j]≠.dead)->
 (putL p rest).run σ=some ((),σ')->(∀j,j<rest.length->(w.cell? ⟨ad.block,ad.off+j,none⟩).isSome=true/\w.frozen? ⟨ad.block,ad.off+j,none⟩=false)/\
  ∃G' H',Inv M σ' H' xs ts (w.setCells ad.block ad.off (xs.drop k)) G'/\H'.length=H.length/\(∀j (h:j<H'.length),k<=j->H'[j]=.dead)/\(∀j (h:j<H'.length)(h':j<H.length),j<k->H'[j]=H[j])/\σ'.tm=σ.tm/\ij M w σ H G (w.setCells ad.block ad.off (xs.drop k)) σ' H' G'/\G'.β=G.β:=by
 intro rest
 induction rest with
 |nil=>intro k σ σ' H w G p ad _ _ _ _ h;exact absurd rfl h
 |cons t rest ih=>
  intro k σ σ' H w G p ad hI h1 ha Ye _ Zu hr
  have hk:k<H.length:=by
   rcases Nat.lt_or_ge k H.length with h|h
   ·exact h
   ·rw[List.drop_of_length_le h]at Ye;simp at Ye
  have hH:H[k]=t/\H.drop (k+1)=rest:=by
   rw[List.drop_eq_getElem_cons hk]at Ye
   injection Ye with e1 e2
   exact⟨e1,e2⟩
  obtain⟨rfl,ZW⟩:=hH;simp only[putL]at hr;obtain⟨_,σ1,h2,h3⟩:=bG hr;obtain⟨old,l,vr,hg,hl,ho,hσ1,XY⟩:=Dc h2
  have hB:G.addrB w p=some ad:=by
   refine kj ha λhp b o0 n hb=>?_;have:=hI.shape _ _ _ _ hb l hl;omega
  have UF:b7 (b5 M σ H p.root p.off) p.hops=some old:=by rw[bW (by exact h1)];exact hg
  obtain⟨⟨u,YU⟩,Xm,G1,hI1,hm,Zv,hβ⟩:=hI.put h1 hB UF hk (Zu k hk (Nat.le_refl _)) h2;obtain⟨t',Ua,_⟩:=hm.keeps.ptr p ad old h1 XY ha UF;have Zn:=jz ha
  have QC:k<xs.length:=by rw[<- hI.hand];exact hk
  have Uk:xs.drop k=xs[k]::xs.drop (k+1):=List.drop_eq_getElem_cons QC
  have Zf:(⟨ad.block,ad.off,none⟩:Addr)=ad:=by obtain⟨b,o,s⟩:=ad;simp only at Zn;subst Zn;rfl
  have Z6:xs.getD k undef=xs[k]:=by simp[QC]
  rw[Z6]at hI1 hm Ua
  cases rest with
  |nil=>
   simp only[SP.run,oSJ,oPJ,true_and]at h3;subst h3
   have hlen:xs.drop (k+1)=[]:=by
    apply List.drop_of_length_le
    have:H.length<=k+1:=by
     rcases Nat.lt_or_ge (k+1) H.length with h|h
     ·have:=congrArg List.length ZW;simp at this;omega
     ·exact h
    rw[<- hI.hand];exact this
   refine⟨λj hj=>?_,G1,H.set k .dead,?_,by simp,λj hj Qc=>?_,λj hj ZY Rv=>by rw[List.getElem_set];rw[oIN (by omega)],Zv,?_,hβ⟩
   ·obtain rfl:j=0:=by simp at hj;omega
    rw[Nat.add_zero,Zf];exact⟨by rw[YU];rfl,Xm⟩
   ·rw[Uk,hlen];simp only[World.setCells,Zf];exact hI1
   ·have hj2:j<H.length:=by simpa using hj
    have:H.length<=k+1:=by
     rcases Nat.lt_or_ge (k+1) H.length with h|h
     ·have:=congrArg List.length ZW;simp at this;omega
     ·exact h
    obtain rfl:j=k:=by omega
    simp
   ·rw[Uk,hlen];simp only[World.setCells,Zf];exact hm
  |cons t2 rest=>
   simp only at h3;split at h3
   ·obtain⟨Zp,G2,H2,Z3,e1,e2,e3,e4,e5,e6⟩:=ih (k:=k+1) hI1 (by rw[dh];exact h1) (lu 1 Ua) (by rw[<- ZW];apply List.ext_getElem?;intro i;simp only[List.getElem?_drop,List.getElem?_set];rw[oIN (by omega)]) (by simp)
     (λj hj Qc=>by rw[List.getElem_set,oIN (by omega)];exact Zu j (by simpa using hj) (by omega)) h3
    refine⟨λj hj=>?_,G2,H2,?_,by simpa using e1,λj hj Qc=>?_,λj hj ZY Rv=>?_,e4.trans Zv,?_,e6.trans hβ⟩
    ·cases j with
     |zero=>rw[Nat.add_zero,Zf];exact⟨by rw[YU];rfl,Xm⟩
     |succ j=>
      have:=Zp j (by simpa using hj);simp only at this;rw[show ad.off+1+j=ad.off+(j+1) by omega]at this;rw[World.frozen?_setCell]at this;refine⟨?_,this.2⟩
      have hne:ad≠⟨ad.block,ad.off+(j+1),none⟩:=λe=>by have:=congrArg Addr.off e;simp at this
      rw[World.cell?_setCell_other w ad _ _ hne]at this;exact this.1
    ·rw[Uk];simp only[World.setCells,Zf];exact Z3
    ·by_cases Rv:j=k
     ·subst Rv;rw[e3 j hj (by rw[e1]at hj;exact hj) (by omega)];simp
     ·exact e2 j hj (by omega)
    ·have:=e3 j hj (by rw[List.length_set];exact ZY) (by omega);rw[this,List.getElem_set,oIN (by omega)]
    ·rw[Uk];simp only[World.setCells,Zf];exact hm.trans e5
   ·simp[SP.run]at h3
theorem nz{mv:Bool}{t:TV}{x:Value}{l:List TV}(hI:Inv M σ [] [] ts w G)(hx:TmR w (G.F M.A) σ.v (b5 M σ []) G t x)(hr:(takeL mv (lk t)).run σ=some (l,σ')):
 ∃G',jM M w ts σ [] G σ' l x.cells.toList G'/\(∀y∈x.cells.toList,y.oneCell'=true)/\(∀j (h:j<l.length),cq l[j]=true\/kf l[j]=true)/\l.length=x.cells.size:=by
 by_cases ht:∃q,t=.agg q
 ·obtain⟨q,rfl⟩:=ht;obtain⟨xs,rfl,hl,hj⟩:=Fh hx;obtain⟨e1,e2,G',hg⟩:=ox (ys:=xs.toList) hI (by simp[hl,lk]) (λj h=>by have h':j<q.length:=h;have:=hj j h';simpa[lk]using this) hr;exact⟨G',by simpa[Value.cells]using hg,by simpa[Value.cells]using e2,oy hr,by rw[e1];simp[lk,Value.cells,hl]⟩
 ·have e:lk t=[t]:=by cases t<;>first|rfl|exact absurd ⟨_,rfl⟩ ht
  rw[e]at hr
  have Tu:x.cells=#[x]:=by
   obtain⟨t',σ1,h1,h2⟩:=bG hr;obtain⟨G',hg,ho⟩:=fK hI hx h1
   cases x<;>first|rfl|simp[Value.oneCell']at ho
  obtain⟨e1,e2,G',hg⟩:=ox (ys:=[x]) hI (by simp) (λj h=>by
   obtain rfl:j=0:=by simp_all
   simpa using hx) hr
  rw[Tu];exact⟨G',by simp_all,by omega,oy hr,by rw[e1];rfl⟩
theorem pH{l:List TV}(h:∀j (h:j<l.length),cq l[j]=true\/kf l[j]=true):∀j (h:j<l.length),l[j]≠.dead:=by
 intro j hj e;have:=h j hj;rw[e]at this;simp[cq,kf]at this
theorem FR(hI:Inv M σ [] [] a.tmps w G){d n:Nat}{mv:Bool}(hd:o.dst=none){x y:Opd}{x' y':Operand}{t:TypeId}(hx:bK x'=some x)(hy:bK y'=some y)(ho:o.op=.store t x' y')(hn:(P.info? t).map (·.size)=some n)(Xp:0<n)
 (hr:(ev1 d (.store n mv x y)).run σ=some ((),σ')):jB P M σ' a o w:=by
 obtain⟨tx,σ1,h1,h2⟩:=bG hr;obtain⟨rfl,Z2⟩:=cr hI.tmr hx h1
 cases tx with
 |ptr p vs=>
  simp only at h2;obtain⟨ty,σ2,h3,h4⟩:=bG h2;obtain⟨rfl,XD⟩:=cr hI.tmr hy h3;obtain⟨l,σ3,h5,h6⟩:=bG h4;obtain⟨G1,hg,Zt,hok,hlen⟩:=nz hI XD h5;split at h6
  case isFalse=>simp[SP.run]at h6
  rename_i X2;obtain⟨_,σ4,h7,h8⟩:=bG h6;have e1:σ4=σ3:=(bU h7).1;have e2:=(bU h7).2;subst e1;have WP:=hg.tm Z2;generalize hz:a.eval x'=z at WP
  cases WP with
  |ptr V0 h0 hv h=>
   obtain⟨Z8,ad,t0,ha,rfl,_⟩:=h e2
   have hne:l≠[]:=λe=>by simp_all
   obtain⟨hc,G2,H2,Z3,e3,e4,_,e5,_⟩:=Bu (k:=0) hg.1 Z8 ha (by simp) hne (λj hj _=>pH hok j hj) h8;have Zn:=jz ha
   have Zf:ad=⟨ad.block,ad.off,none⟩:=by obtain⟨b,o,s⟩:=ad;simp only at Zn;subst Zn;rfl
   have hst:=run_storeCells_cells (P:=P) ad.block ad.off (a.eval y').cells.toList 0 w (λj hj=>by
    have:=(hc j (by rw[Array.length_toList]at hj;omega)).1;simpa using this) (λj hj=>by
    have:=(hc j (by rw[Array.length_toList]at hj;omega)).2;simpa using this) Zt
   rw[<- Zf]at hst
   have Y6:(sizeOf t).run P w=.ok n w:=by
    unfold sizeOf typeInfo
    cases hi:P.info? t with
    |none=>simp[hi]at hn
    |some i=>simp[hi]at hn;simp[hi,hn]
   refine⟨.skip,undef,w.setCells ad.block ad.off (a.eval y').cells.toList,G2,?_,.inr ⟨rfl,rfl⟩,?_⟩
   ·have WJ:(a.eval y').cells.size=n:=by rw[<- hlen,X2]
    simp[execOp,ho,hz,Instr.storeAt,Instr.sureAddr,storeVar,Y6,WJ];rw[show(storeCells ad (a.eval y').cells.toList).run P w=.ok () (w.setCells ad.block (ad.off+0) (a.eval y').cells.toList)from hst];rfl
   ·have UB:=Z3.clear (λj hj=>e4 j hj (Nat.zero_le _))
    have:(a.put o.dst undef).tmps=a.tmps:=by rw[hd];rfl
    rw[this];simpa using UB
 |_=>simp[SP.run]at h2
end
theorem rX{w:World}{hs:List Hop}{k sz n cap:Nat}{ad:Addr}:∀{x:Value},hvT w x hs=some (.slice (some ad) n cap)->k<n->ct w x (hs++[(k,sz,0)])=some ⟨ad.block,ad.off+(k*sz+0),none⟩:=by
 induction hs with
 |nil=>
  intro x h hk;simp only[hvT,oSJ]at h;subst h;simp[ct,hk]
 |cons hp hs ih=>
  obtain⟨i,sz',o⟩:=hp;intro x h hk;simp only[hvT]at h
  cases x with
  |slice a l c=>
   cases a with
   |none=>cases hs<;>simp[ct]at h
   |some a=>
    cases hs with
    |nil=>
     simp only[ct]at h;split at h
     ·rename_i hi;simp at h;simp only[List.cons_append,List.nil_append,ct,hi,if_true,h,hk]
     ·simp at h
    |cons h2 YK=>
     simp only[ct]at h;split at h
     ·rename_i hi
      cases hc:w.cell? ⟨a.block,a.off+(i*sz'+o),none⟩with
      |none=>simp_all
      |some y=>
       simp only[hc]at h;have:=ih (x:=y) (by simp only[hvT];exact h) hk;simp only[ct,List.cons_append,hi,if_true,hc];exact this
     ·simp at h
  |_=>cases hs<;>simp[ct]at h
theorem Ak{hs:List Hop}{k sz:Nat}{c:List (List TV)}{el:List TV}:∀{t:TV},b7 t hs=some (.ow c)->c[k]?=some el->el.length=sz->0<sz->∃t',b7 t (hs++[(k,sz,0)])=some t':=by
 induction hs with
 |nil=>
  intro t h hk hs h0;simp[b7]at h;subst h
  have:el[0]?=some el[0]:=by simp_all
  exact⟨el[0],by simp[b7,hk,hs,this]⟩
 |cons hp hs ih=>
  intro t h hk hsz h0;obtain⟨c',Wa,t2,rfl,hc,hz,ho,Z6⟩:=eB h;have ⟨t',h'⟩:=ih Z6 hk hsz h0;exact⟨t',by simp[b7,hc,hz,ho,h']⟩
theorem Dy{hs:List Hop}{i sz o n:Nat}:∀{t t1:TV},b7 t (hs++[(i,sz,o)])=some t1->o+n<sz->∃t',b7 t (hs++[(i,sz,o+n)])=some t':=by
 induction hs with
 |nil=>
  intro t t1 h hlt;obtain⟨c',Wa,t2,rfl,hc,hz,ho,Z6⟩:=eB h
  have:Wa[o+n]?=some Wa[o+n]:=by simp_all
  exact⟨Wa[o+n],by simp[b7,hc,hz,this]⟩
 |cons hp hs ih=>
  intro t t1 h hlt;obtain⟨c',Wa,t2,rfl,hc,hz,ho,Z6⟩:=eB h;have ⟨t',h'⟩:=ih Z6 hlt;exact⟨t',by simp[b7,hc,hz,ho,h']⟩
section
variable {P:Program} {M:Fm} {σ σ':St} {H:List TV} {xs:List Value} {ts:Array Value} {w:World} {G:Gh} {a:Act} {o:Oper}
theorem Inv.addHandL:∀{z:List Value}{H:List TV}{xs:List Value}{G:Gh},Inv M σ H xs ts w G->(z.map cf).all cq=true->∃G',jM M w ts σ H G σ (H++z.map cf) (xs++z) G':=by
 intro z
 induction z with
 |nil=>intro H xs G hI _;exact⟨G,by simpa using jM.refl hI⟩
 |cons x z ih=>
  intro H xs G hI hz;simp only[List.map_cons,List.all_cons,oBA]at hz
  have hx:fa w (G.F M.A) (λ_=>False) (cf x) x:=by
   have h1:=hz.1;unfold cf at h1⊢;split
   ·exact .nil (by simp)
   ·split
    ·rename_i h;exact .v (by simp) h
    ·rename_i h
     have hh:cq TV.dead=true:=by simp_all
     simp[cq]at hh
  have ⟨G1,g1⟩:=hI.addHand hx;have ⟨G2,g2⟩:=ih g1.1 hz.2;exact⟨G2,by simpa using g1.trans g2⟩
theorem Inv.addHandG{g:Value->TV}(hg:∀(w:World)(F:Nat->Prop)(x:Value),cq (cf x)=true->fa w F (λ_=>False) (g x) x):∀{z:List Value}{H:List TV}{xs:List Value}{G:Gh},Inv M σ H xs ts w G->(z.map cf).all cq=true->∃G',jM M w ts σ H G σ (H++z.map g) (xs++z) G':=by
 intro z
 induction z with
 |nil=>intro H xs G hI _;exact⟨G,by simpa using jM.refl hI⟩
 |cons x z ih=>
  intro H xs G hI hz;simp only[List.map_cons,List.all_cons,oBA]at hz;obtain⟨G1,g1⟩:=hI.addHand (hg _ _ _ hz.1);obtain⟨G2,g2⟩:=ih g1.1 hz.2;exact⟨G2,by simpa using g1.trans g2⟩
theorem Lc{H:List TV}{xs:List Value}(hI:Inv M σ H xs a.tmps w G){d:Nat}(hd:o.dst=some d)(hN:M.ok d)(Y4:M.pr (2*d+2)=none)(e:TypeId){w0:World}
 (hr:(SP.new (2*d+2) H (.rdV (2*d+2,0,0) λg=>wr d (.ptr ⟨2*d+2,0,[]⟩ [g]))).run σ=some ((),σ'))(hrun:(execOp a.eval o).run P w0=.ok (.value (.pointer (some ⟨w.heap.size,0,none⟩))) (w.alloc (.cells xs.toArray e))):jB P M σ' a o w0:=by
 obtain⟨G',ZK,_,hβ⟩:=hI.newBox (2*d+2) e (by omega) Y4 (by omega);have X7:(wr d (.ptr ⟨2*d+2,0,[]⟩ [(σ.root (2*d+2) H).v (2*d+2,0,0)])).run (σ.root (2*d+2) H)=some ((),σ'):=hr;simp only[wr,SP.run,oSJ,oPJ,true_and]at X7;subst X7;refine⟨_,_,_,G',hrun,.inl rfl,?_⟩;rw[hd];refine ZK.wrT hN (.ptr (σ.root (2*d+2) H).v (λ_=>Nat.le_refl _) (by simp[gY]) λ_=>⟨by show(2*d+2:Nat)≠1;omega,⟨w.heap.size,0,none⟩,_,?_,rfl,rfl⟩);unfold Gh.addr;simp only[hβ]
theorem Gi(hI:Inv M σ [] [] a.tmps w G){d:Nat}(hd:o.dst=some d)(hN:M.ok d)(Y4:M.pr (2*d+2)=none){e:TypeId}{z:List Value}(ho:o.op=.alloc e)(hz:(P.info? e).bind (·.zero.map (·.cells.toList))=some z)
 (hr:(ev1 d (.alloc z)).run σ=some ((),σ')):jB P M σ' a o w:=by
 simp only[ev1]at hr;split at hr
 case isFalse=>simp[SP.run]at hr
 rename_i hok;obtain⟨G1,hg⟩:=hI.addHandL hok;simp only[List.nil_append]at hg;refine Lc hg.1 hd hN Y4 e hr ?_
 cases hi:P.info? e with
 |none=>simp[hi]at hz
 |some i=>
  simp only[hi,oBS]at hz
  cases hiz:i.zero with
  |none=>simp[hiz]at hz
  |some v=>
   simp only[hiz,oMS,oSJ]at hz
   have hv:v.cells=z.toArray:=by rw[<- hz]
   simp[execOp,ho,Instr.alloc,zeroValue,typeInfo,hi,hiz,newVar,newRow,hv]
theorem LR(hI:Inv M σ [] [] a.tmps w G){d n:Nat}{mv:Bool}(hd:o.dst=some d)(hN:M.ok d)(Y4:M.pr (2*d+2)=none){x:Opd}{x':Operand}{e:TypeId}(hx:bK x'=some x)(ho:o.op=.box e x')
 (hr:(ev1 d (.box n mv x)).run σ=some ((),σ')):jB P M σ' a o w:=by
 simp only[ev1]at hr;obtain⟨t,σ1,h1,h2⟩:=bG hr;obtain⟨rfl,ht⟩:=cr hI.tmr hx h1;obtain⟨l,σ2,h3,h4⟩:=bG h2;obtain⟨G1,hg,Zt,hok,hlen⟩:=nz hI ht h3;split at h4
 case isFalse=>simp[SP.run]at h4
 refine Lc hg.1 hd hN Y4 e h4 ?_;simp[execOp,ho,Instr.box,newVar,newRow]
theorem LL(hI:Inv M σ [] [] a.tmps w G){d:Nat}(hd:o.dst=some d)(hN:M.ok d){x:Opd}{x':Operand}{s f:Nat}{ZU:Array Field}{fd:Field}(hx:bK x'=some x)(ho:o.op=.fieldAddr s x' f)
 (hu:P.underlying s=some (.struct ZU))(hf:ZU[f]?=some fd)(hs:∃n,(P.info? fd.type).map (·.size)=some (n+1))(hr:(ev1 d (.fld fd.offset x)).run σ=some ((),σ')):jB P M σ' a o w:=by
 obtain⟨nf,hs⟩:=hs
 have Y6:(sizeOf fd.type).run P w=.ok (nf+1) w:=by
  unfold sizeOf typeInfo
  cases hi:P.info? fd.type with
  |none=>simp[hi]at hs
  |some i=>simp[hi]at hs;simp[hi,hs]
 simp only[ev1]at hr;obtain⟨tx,σ1,h1,h2⟩:=bG hr;obtain⟨rfl,Z2⟩:=cr hI.tmr hx h1
 cases tx with
 |ptr p vs=>
  simp only at h2;obtain⟨_,σ2,h3,h4⟩:=bG h2;have e1:σ2=σ1:=(bU h3).1;have e2:=(bU h3).2;subst e1;split at h4
  case isFalse=>simp[SP.run]at h4
  rename_i Zl;generalize hz:a.eval x'=z at Z2
  cases Z2 with
  |ptr V0 h0 hv h=>
   obtain⟨Z8,ad,t0,ha,rfl,VF⟩:=h e2;refine fG hI hd hN (x:=.pointer (some (ad.add fd.offset))) ?_ h4 (by simp[execOp,ho,hz,Instr.fieldAt,Instr.sureAddr,run_underlying hu,hf,fieldPlace,Y6]);refine .ptr V0 h0 (by rw[CI];exact hv) λ_=>⟨by rw[dh];exact Z8,⟨ad.block,ad.off+fd.offset,none⟩,?_⟩;have Zn:=jz ha
   have X4:ad.add fd.offset=⟨ad.block,ad.off+fd.offset,none⟩:=by
    obtain⟨b,ob,sp⟩:=ad;simp only at Zn;subst Zn;exact cY b ob fd.offset
   rcases p.add_cases fd.offset with⟨q1,q2⟩|⟨hs',i,sz,o',q1,q2⟩
   ·exact⟨b5 M σ2 [] p.root (p.off+fd.offset),lu _ ha,by rw[X4],by rw[q2];rfl⟩
   ·have hlt:o'+fd.offset<sz:=by
     unfold bS.fits at Zl;rw[q1]at Zl;simpa using Zl
    rw[q1]at VF;obtain⟨t',YS⟩:=Dy VF hlt;exact⟨t',lu _ ha,by rw[X4],by rw[q2];exact YS⟩
 |ip cs=>
  simp only at h2;split at h2
  case isFalse=>simp[SP.run]at h2
  rename_i hlt;generalize hz:a.eval x'=z at Z2
  cases Z2 with
  | @ip _ b ob u hc UU=>
   refine fG hI hd hN (x:=.pointer (some ⟨b,ob+fd.offset,none⟩)) ?_ h2 (by simp[execOp,ho,hz,Instr.fieldAt,Instr.sureAddr,run_underlying hu,hf,fieldPlace,Y6,cY]);refine .ip (λj=>u (fd.offset+j)) (λj hj=>?_) λj hj=>?_
   ·have:=hc (fd.offset+j) (by simp at hj;omega);rw[show ob+fd.offset+j=ob+(fd.offset+j) by omega];exact this
   ·have:=UU (fd.offset+j) (by simp at hj;omega);simpa[List.getElem_drop]using this
 |_=>simp[SP.run]at h2
theorem LM(hI:Inv M σ [] [] a.tmps w G){d:Nat}(hd:o.dst=some d)(hN:M.ok d){x:Opd}{x':Operand}{i:Nat}(hx:bK x'=some x)(ho:o.op=.extract x' i)(hr:(ev1 d (.ext x i)).run σ=some ((),σ')):jB P M σ' a o w:=by
 simp only[ev1]at hr;obtain⟨tx,σ1,h1,h2⟩:=bG hr;obtain⟨rfl,Z2⟩:=cr hI.tmr hx h1
 cases tx with
 |tup l=>
  simp only at h2;split at h2
  case isFalse=>simp[SP.run]at h2
  rename_i hlt;generalize hz:a.eval x'=z at Z2
  cases Z2 with
  | @tup _ xs hl h=>
   have X6:i<xs.size:=by omega
   have ht:=h i hlt
   have e1:l.getD i .dead=l[i]:=by simp[hlt]
   have e2:xs.getD i undef=xs[i]:=by simp[X6]
   rw[e1]at h2;rw[e2]at ht;exact fG hI hd hN ht h2 (by simp[execOp,ho,hz,Instr.extract,X6])
 |_=>simp[SP.run]at h2
theorem Jo(hI:Inv M σ [] [] a.tmps w G){d:Nat}(hd:o.dst=some d)(hN:M.ok d){x:Opd}{x':Operand}{s f:Nat}{n:Option Nat}{ZU:Array Field}{fd:Field}(hx:bK x'=some x)(ho:o.op=.field s x' f)
 (hu:P.underlying s=some (.struct ZU))(hf:ZU[f]?=some fd)(hn:DW P fd.type n)(hr:(ev1 d (.fldv fd.offset n x)).run σ=some ((),σ')):jB P M σ' a o w:=by
 simp only[ev1]at hr;obtain⟨tx,σ1,h1,h2⟩:=bG hr;obtain⟨rfl,Z2⟩:=cr hI.tmr hx h1
 cases tx with
 |agg l=>
  simp only at h2;obtain⟨xs,hz,hl,hj⟩:=Fh Z2
  cases n with
  |none=>
   obtain⟨dd,R2,YD,hd2⟩:=hn;simp only at h2;split at h2
   case isFalse=>simp[SP.run]at h2
   rename_i hlt
   have X6:fd.offset<xs.size:=by omega
   have ht:=hj _ hlt
   have e1:l.getD fd.offset .dead=l[fd.offset]:=by simp[hlt]
   have e2:xs.getD fd.offset undef=xs[fd.offset]:=by simp[X6]
   rw[e1]at h2;rw[e2]at ht;exact fG hI hd hN ht h2 (by simp[execOp,ho,hz,Instr.field,run_underlying hu,hf,asAgg,part,lQ R2 YD hd2,X6])
  |some n=>
   obtain⟨⟨dd,R2,YD⟩,hsz⟩:=hn;simp only at h2;split at h2
   case isFalse=>simp[SP.run]at h2
   rename_i hlt
   have Y6:(sizeOf fd.type).run P w=.ok n w:=by
    unfold sizeOf typeInfo
    cases hi:P.info? fd.type with
    |none=>simp[hi]at hsz
    |some i=>simp[hi]at hsz;simp[hi,hsz]
   refine fG hI hd hN (x:=.agg (xs.extract fd.offset (fd.offset+n))) (.agg (by simp;omega) λj hj2=>?_) h2 (by simp[execOp,ho,hz,Instr.field,run_underlying hu,hf,asAgg,part,kx R2 YD,Y6])
   have P9:j<n:=by simp at hj2;omega
   have:=hj (fd.offset+j) (by omega)
   have e1:((l.drop fd.offset).take n)[j]=l[fd.offset+j]:=by simp[List.getElem_take,List.getElem_drop]
   have e2:(xs.extract fd.offset (fd.offset+n)).getD j undef=xs.getD (fd.offset+j) undef:=by
    have h1:fd.offset+j<xs.size:=by omega
    have h2:j<(xs.extract fd.offset (fd.offset+n)).size:=by simp;omega
    simp only[Array.getD_eq_getD_getElem?,Array.getElem?_eq_getElem h1,Array.getElem?_eq_getElem h2,Array.getElem_extract]
   rw[e1,e2];exact this
 |_=>simp[SP.run]at h2
end
section
variable {P:Program} {M:Fm} {σ σ':St} {H:List TV} {xs:List Value} {ts:Array Value} {w:World} {G:Gh} {a:Act} {o:Oper}
theorem nI(hI:Inv M σ H xs ts w G){p:bS}{c:List (List TV)}{x:Value}(hv:G.hv w p=some x)(hg:b7 (b5 M σ H p.root p.off) p.hops=some (.ow c)):∃fp,fa w (G.F M.A) fp (.ow c) x:=by
 have ⟨u,fp,h1,h2,_⟩:=hI.core.hv_own p hg (by simp);rw[hv]at h1
 injection h1 with h1
 exact⟨fp,h1▸h2⟩
theorem uC(c:List (List TV))(k:Nat):(c.map List.length).getD k 0=(c.getD k []).length:=by
 grind
theorem LJ(hI:Inv M σ [] [] a.tmps w G){d:Nat}(hd:o.dst=some d)(hN:M.ok d){x i:Opd}{x' i':Operand}{t e sz:Nat}(hx:bK x'=some x)(hi:bK i'=some i)(ho:o.op=.indexAddr t x' i')
 (hu:P.underlying t=some (.slice e))(hs:(P.info? e).map (·.size)=some sz)(hr:(ev1 d (.idx sz x i)).run σ=some ((),σ')):jB P M σ' a o w:=by
 have Y6:(sizeOf e).run P w=.ok sz w:=by
  unfold sizeOf typeInfo
  cases hi:P.info? e with
  |none=>simp[hi]at hs
  |some i=>simp[hi]at hs;simp[hi,hs]
 simp only[ev1]at hr;obtain⟨tx,σ1,h1,h2⟩:=bG hr;obtain⟨rfl,Z2⟩:=cr hI.tmr hx h1;obtain⟨ti,σ2,h3,h4⟩:=bG h2;obtain⟨rfl,VH⟩:=cr hI.tmr hi h3;obtain⟨k,σ3,h5,h6⟩:=bG h4;obtain⟨ik,n,rfl,Xp,hk,rfl⟩:=ja h5;obtain⟨ei,_⟩:=VH.v_inv
 have run:∀(b:Addr)(len cap:Nat),a.eval x'=.slice (some b) len cap->k<len->(execOp a.eval o).run P w=.ok (.value (.pointer (some (b.add (k*sz))))) w:=by
  intro b len cap W3 hlt
  have X6:n<(len:Int):=by omega
  subst hk;simp[execOp,ho,W3,ei,Instr.indexAt,asIntOf,run_underlying hu,Xp,X6,Y6]
 cases tx with
 |pk p vs=>
  simp only at h6;obtain⟨_,σ4,h7,h8⟩:=bG h6;have e1:σ4=σ3:=(bU h7).1;have e2:=(bU h7).2;subst e1;rw[tz]at h8;obtain⟨tt,σ5,h9,ZS⟩:=bG h8;obtain⟨e3,hg⟩:=cX h9;have e3:σ5=σ4:=e3;subst e3;generalize hz:a.eval x'=z at Z2 run
  cases Z2 with
  |pk V0 h0 hv h=>
   obtain⟨Z8,c,ZP,ZN⟩:=h e2
   have ZQ:b7 (σ5.c p.root p.off) p.hops=some (.ow c):=by rw[bW (by exact Z8)]at ZN;exact ZN
   rw[ZQ]at hg
   injection hg with hg
   subst hg;simp only[TV.hd]at ZS;split at ZS
   case isFalse=>simp[SP.run]at ZS
   rename_i Z9;rw[uC]at Z9;simp only[oBA,oDE,beq_iff_eq,List.length_map]at Z9;obtain⟨⟨hlt,Zd⟩,Z4⟩:=Z9;obtain⟨fp,hown⟩:=nI hI ZP ZN;have YC:c[k]?=some c[k]:=oGE hlt
   have hlen:c[k].length=sz:=by simpa[hlt]using Zd
   cases hown with
   |nil=>simp at hlt
   | @ow _ _ b cap cur e' sz' u f hfp hb hsz hcap hz0 hmax hcur hcell hrec hnb hdis=>
    refine fG hI hd hN ?_ ZS (run _ _ _ rfl hlt);obtain⟨t',YS⟩:=Ak ZN YC hlen Z4;refine .ptr V0 h0 (by simpa[bS.at_]using hv) λ_=>⟨Z8,⟨b,k*sz,none⟩,t',?_,by rw[cY,Nat.zero_add],YS⟩;have:=rX (sz:=sz) ZP hlt;unfold Gh.addr bS.at_;simp only
    obtain⟨hd',tl,XI⟩:∃hd tl,p.hops++[(k,sz,0)]=hd::tl:=by cases p.hops<;>exact⟨_,_,rfl⟩
    rw[XI];simp only;rw[<- XI,this];simp
 |pw p vs sz' lo m=>
  simp only at h6;obtain⟨_,σ4,h7,h8⟩:=bG h6;have e1:σ4=σ3:=(bU h7).1;have e2:=(bU h7).2;subst e1;obtain⟨tt,σ5,h9,ZS⟩:=bG h8;obtain⟨e3,hg⟩:=cX h9;have e3:σ5=σ4:=e3;subst e3;generalize hz:a.eval x'=z at Z2 run
  cases Z2 with
  |pw V0 h0 hv h=>
   obtain⟨Z8,c,YD,ZP,ZN,X2,a',cap,rfl,SC,XK,hnil,TM,Wu⟩:=h e2
   have ZQ:b7 (σ5.c p.root p.off) p.hops=some (.ow c):=by rw[bW (by exact Z8)]at ZN;exact ZN
   rw[ZQ]at hg
   injection hg with hg
   subst hg;simp only at ZS;split at ZS
   case isFalse=>simp[SP.run]at ZS
   rename_i Z9;simp only[oBA,oDE,beq_iff_eq]at Z9;obtain⟨⟨⟨hlt,Zd⟩,rfl⟩,Z4⟩:=Z9;obtain⟨b,len,Z1,rfl,rfl⟩:=Wu (by omega)
   have Qe:lo+k<c.length:=by omega
   have YC:c[lo+k]?=some c[lo+k]:=oGE Qe
   have hlen:c[lo+k].length=sz':=by simpa[Qe]using Zd
   obtain⟨fp,hown⟩:=nI hI ZP ZN;obtain⟨aa,cp,TK,YN⟩:=hown.hdr
   injection TK with _ hsl1 _
   refine fG hI hd hN ?_ ZS (run _ _ _ rfl hlt);obtain⟨t',YS⟩:=Ak ZN YC hlen Z4;refine .ptr V0 h0 (by simpa[bS.at_]using hv) λ_=>⟨Z8,⟨b,(lo+k)*sz',none⟩,t',?_,by rw[cY,Nat.add_mul],YS⟩;have:=rX (k:=lo+k) (sz:=sz') ZP (by omega);unfold Gh.addr bS.at_;simp only
   obtain⟨hd',tl,XI⟩:∃hd tl,p.hops++[(lo+k,sz',0)]=hd::tl:=by cases p.hops<;>exact⟨_,_,rfl⟩
   rw[XI];simp only;rw[<- XI,this];simp
 |sl c=>
  simp only at h6;split at h6
  case isFalse=>simp[SP.run]at h6
  rename_i Z9;simp only[oBA,oDE,beq_iff_eq]at Z9;obtain⟨⟨hlt,Zd⟩,Z4⟩:=Z9;generalize hz:a.eval x'=z at Z2 run
  cases Z2 with
  |sl ZM=>
   cases ZM with
   | @sl _ aa cap sz' u hsz hcap hmax hnil hcell hrec=>
    have YC:c.getD k []=c[k]:=by simp[hlt]
    rw[YC]at h6 Zd
    have XW:sz'=sz:=by rw[<- hsz k hlt,Zd]
    subst XW;obtain⟨b,ob,rfl,_,_⟩:=hcell k 0 hlt Z4;refine fG hI hd hN ?_ h6 (run _ _ _ rfl hlt);rw[cY];refine .ip (λj=>u k j) (λj hj=>?_) λj hj=>.im (hrec k j hlt hj);obtain⟨b',o',e4,h7,h8⟩:=hcell k j hlt (by omega)
    injection e4 with e4
    injection e4 with e5 e6
    subst e5;subst e6;exact⟨h7,by rw[show ob+k*sz'+j=ob+(k*sz'+j) by omega];exact h8⟩
 |_=>simp[SP.run]at h6
theorem qm{F:Nat->Prop}(hI:Inv M σ [] [] ts w G){t:TV}{x:Value}(hx:TmR w (G.F M.A) σ.v (b5 M σ []) G t x){n:Nat}(hr:(jq t).run σ=some (n,σ')):σ'=σ/\∃aa cap,x=.slice aa n cap/\n<=cap:=by
 cases t with
 |sl c=>
  simp only[jq,SP.run,oSJ,oPJ]at hr;obtain⟨rfl,rfl⟩:=hr
  cases hx with
  |sl h=>exact⟨rfl,h.hdr⟩
 |ow c=>
  obtain⟨rfl,ad,rfl⟩:=hx.ow_inv;simp only[jq,SP.run,oSJ,oPJ]at hr;obtain⟨rfl,rfl⟩:=hr;exact⟨rfl,_,_,rfl,Nat.le_refl _⟩
 |pk p vs=>
  simp only[jq]at hr;obtain⟨_,σ4,h7,h8⟩:=bG hr;have e1:σ4=σ:=(bU h7).1;have e2:=(bU h7).2;subst e1;rw[tz]at h8;obtain⟨tt,σ5,h9,ZS⟩:=bG h8;obtain⟨e3,hg⟩:=cX h9;have e3:σ5=σ4:=e3;subst e3
  cases hx with
  |pk V0 h0 hv h=>
   obtain⟨Z8,c,ZP,ZN⟩:=h e2
   have ZQ:b7 (σ5.c p.root p.off) p.hops=some (.ow c):=by rw[bW (by exact Z8)]at ZN;exact ZN
   rw[ZQ]at hg
   injection hg with hg
   subst hg;simp only[TV.hd,SP.run,List.length_map,oSJ,oPJ]at ZS;obtain⟨rfl,rfl⟩:=ZS;obtain⟨fp,hown⟩:=nI hI ZP ZN;exact⟨rfl,hown.hdr⟩
 |pw p vs sz lo m=>
  simp only[jq]at hr;obtain⟨_,σ4,h7,h8⟩:=bG hr;have e1:σ4=σ:=(bU h7).1;have e2:=(bU h7).2;subst e1;simp only[SP.run,oSJ,oPJ]at h8;obtain⟨rfl,rfl⟩:=h8
  cases hx with
  |pw V0 h0 hv h=>
   obtain⟨Z8,c,YD,ZP,ZN,X2,a',cap,rfl,SC,_⟩:=h e2;exact⟨rfl,_,_,rfl,SC.1⟩
 |_=>simp[jq,SP.run]at hr
theorem LG(hI:Inv M σ [] [] a.tmps w G){d:Nat}(hd:o.dst=some d)(hN:M.ok d){x:Opd}{x':Operand}{t e:TypeId}(hx:bK x'=some x)(ho:o.op=.call { callee:=.builtin .len,args:=#[x'],argTypes:=#[t] })
 (hu:P.underlying t=some (.slice e))(hr:(ev1 d (.len x)).run σ=some ((),σ')):jB P M σ' a o w:=by
 simp only[ev1]at hr;obtain⟨tx,σ1,h1,h2⟩:=bG hr;obtain⟨rfl,Z2⟩:=cr hI.tmr hx h1;obtain⟨n,σ2,h3,h4⟩:=bG h2;obtain⟨rfl,aa,cap,W3,_⟩:=qm (F:=G.F M.A) hI Z2 h3;exact fG hI hd hN (.v rfl) h4 (by simp[execOp,ho,resolve,invoke,builtin,Builtin.len_,W3,run_underlying hu,goInt])
theorem Jl(hI:Inv M σ [] [] a.tmps w G){d:Nat}(hd:o.dst=some d)(hN:M.ok d){x:Opd}{x':Operand}{t:TypeId}(hx:bK x'=some x)(ho:o.op=.call { callee:=.builtin .len,args:=#[x'],argTypes:=#[t] })
 (hu:P.underlying t=some .string)(hr:(ev1 d (.lens x)).run σ=some ((),σ')):jB P M σ' a o w:=by
 simp only[ev1]at hr;obtain⟨tx,σ1,h1,h2⟩:=bG hr;obtain⟨rfl,Z2⟩:=cr hI.tmr hx h1
 cases tx with
 |v y=>
  obtain⟨W3,_⟩:=Z2.v_inv
  cases y with
  |string s=>exact fG hI hd hN (.v rfl) h2 (by simp[execOp,ho,resolve,invoke,builtin,Builtin.len_,W3,run_underlying hu,goInt])
  |_=>simp[SP.run]at h2
 |_=>simp[SP.run]at h2
theorem Hr{F F':Nat->Prop}{fp:Nat->Prop}{t:TV}{x:Value}(h:fa w F fp t x)(hv:isV t=true):fa w F' (λ_=>False) t x:=by
 cases h with
 |v _ h=>exact .v (λ_ h=>h) h
 |_=>simp[isV]at hv
theorem Cj{σ σ':St}{tx:TV}{c2:List (List TV)}(hn:wy tx=true)(hr:(contentOf tx).run σ=some (c2,σ')):σ'=σ:=by
 have fin:∀{p:bS}{n:Nat}{vs:List Nat}{f:TV->SP (List (List TV))},(∀t y τ τ',(f t).run τ=some (y,τ')->τ'=τ)->((chk p n vs).bind λ_=>(getPl p).bind f).run σ=some (c2,σ')->σ'=σ:=by
  intro p n vs f hf h;obtain⟨_,σ1,h1,h2⟩:=bG h;have e1:σ1=σ:=(bU h1).1;have ⟨tt,σ2,h3,h4⟩:=bG h2;have e3:σ2=σ1:=(cX h3).1;rw[hf _ _ _ _ h4,e3,e1]
 cases tx with
 |pk p vs=>
  refine fin (λt y τ τ' h=>?_) hr;cases t<;>simp[SP.run]at h;exact h.2.symm
 |pw p vs sz lo n=>
  refine fin (λt y τ τ' h=>?_) hr;cases t<;>simp[SP.run]at h
  simp_all
 |_=>simp[wy]at hn
theorem JO(hI:Inv M σ H xs ts w G){tx:TV}{x:Value}{c2:List (List TV)}{sz:Nat}(hn:wy tx=true)(hx:TmR w (G.F M.A) σ.v (b5 M σ H) G tx x)(hr:(contentOf tx).run σ=some (c2,σ'))
 (hf:c2.all (λe=>e.all isV)=true)(hs:∀k (h:k<c2.length),c2[k].length=sz)(F' A:Nat->Prop):
 σ'=σ/\∃aX capX news,x=.slice aX c2.length capX/\Src w F' A c2 sz aX news (λ_ _ _=>False):=by
 have ZE:∀i j (hi:i<c2.length)(hj:j<c2[i].length),isV c2[i][j]=true:=λi j hi hj=>List.all_eq_true.1 (List.all_eq_true.1 hf _ (List.getElem_mem hi)) _ (List.getElem_mem hj)
 cases hx with
 | @pk p vs x V0 h0 hv h=>
  simp only[contentOf]at hr;obtain⟨_,σ1,h1,h2⟩:=bG hr;have e1:σ1=σ:=(bU h1).1;have e2:=(bU h1).2;subst e1;obtain⟨tt,σ2,h3,h4⟩:=bG h2;obtain⟨e3,hg⟩:=cX h3;have e3:σ2=σ1:=e3;subst e3;obtain⟨Z8,c,ZP,ZN⟩:=h e2
  have ZQ:b7 (σ2.c p.root p.off) p.hops=some (.ow c):=by rw[bW (by exact Z8)]at ZN;exact ZN
  rw[ZQ]at hg
  injection hg with hg
  subst hg;simp only[SP.run,oSJ,oPJ]at h4;obtain⟨rfl,rfl⟩:=h4;obtain⟨u,fp,h5,h6,_⟩:=hI.core.hv_own p ZN (by simp);rw[ZP]at h5
  injection h5 with h5
  subst h5;obtain⟨aX,capX,news,g,rfl,Yi,Vh,YV,_,_,VM,_⟩:=h6.rows (.inl rfl) hs;exact⟨rfl,aX,capX,news,rfl,Yi,Vh,λi j hi hj=>Hr (YV i j hi hj) (ZE i j hi hj),λ_ _ _ h=>h.elim,λ_ _ _ _ _ h=>h.elim,VM⟩
 | @pw p vs Za lo n x V0 h0 hv h=>
  simp only[contentOf]at hr;obtain⟨_,σ1,h1,h2⟩:=bG hr;have e1:σ1=σ:=(bU h1).1;have e2:=(bU h1).2;subst e1;obtain⟨tt,σ2,h3,h4⟩:=bG h2;obtain⟨e3,hg⟩:=cX h3;have e3:σ2=σ1:=e3;subst e3;obtain⟨Z8,c,hd,ZP,ZN,X2,a,cap,hx,XL,XK,hnil,X9,Zf⟩:=h e2
  have ZQ:b7 (σ2.c p.root p.off) p.hops=some (.ow c):=by rw[bW (by exact Z8)]at ZN;exact ZN
  rw[ZQ]at hg
  injection hg with hg
  subst hg;simp only[SP.run,oSJ,oPJ]at h4;obtain⟨rfl,rfl⟩:=h4
  have hl2:((c.drop lo).take n).length=n:=by simp;omega
  rcases Nat.eq_zero_or_pos n with Xp|hnp
  ·subst Xp;refine⟨rfl,a,cap,[],by rw[hl2];exact hx,by simp,by simp,λi j hi=>by simp at hi,λ_ _ _ h=>h.elim,λ_ _ _ _ _ h=>h.elim,by simp⟩
  ·have hsz:Za=sz:=by
    have e4:=hs 0 (by rw[hl2];exact hnp);rw[<- e4];simp only[List.getElem_take,List.getElem_drop];exact(X9 _ _).symm
   subst hsz;obtain⟨u,fp,h5,h6,_⟩:=hI.core.hv_own p ZN (by simp);rw[ZP]at h5
   injection h5 with h5
   subst h5;obtain⟨b,len,Z1,Uf,hav⟩:=Zf (by omega);obtain⟨aX,capX,news,g,Sw,Yi,Vh,YV,_,_,VM,_⟩:=h6.rows (.inl rfl) X9;rw[Uf]at Sw
   injection Sw with Sw _ _
   subst Sw
   have Xo:∀k,k<n*Za->lo*Za+k<news.length:=λk hk=>by
    rw[Yi]
    calc lo*Za+k<lo*Za+n*Za:=by omega
     _=(lo+n)*Za:=by rw[Nat.add_mul]
     _<=c.length*Za:=Nat.mul_le_mul_right _ X2
   have Ze:((news.drop (lo*Za)).take (n*Za)).length=n*Za:=by
    rw[oLT,List.length_drop,Yi];have:(lo+n)*Za<=c.length*Za:=Nat.mul_le_mul_right _ X2;rw[Nat.add_mul]at this;omega
   refine⟨rfl,a,cap,(news.drop (lo*Za)).take (n*Za),by rw[hl2];exact hx,by rw[hl2];exact Ze,λj u hj=>?_,λi j hi hj=>?_,λ_ _ _ h=>h.elim,λ_ _ _ _ _ h=>h.elim,λu hu=>VM u (List.mem_of_mem_drop (List.mem_of_mem_take hu))⟩
   ·have hjl:j<n*Za:=by
     rcases Nat.lt_or_ge j (n*Za)with h|h
     ·exact h
     ·rw[oGN (by rw[Ze];exact h)]at hj;cases hj
    rw[List.getElem?_take_of_lt hjl,List.getElem?_drop]at hj;obtain⟨b',o',e5,e6⟩:=Vh _ _ hj
    injection e5 with e5
    injection e5 with e5 e7
    subst e5;subst e7;exact⟨b,lo*Za,hav,by rw[<- e6];congr 2;omega⟩
   ·have ZT:i<n:=by rw[hl2]at hi;exact hi
    have hcell:((c.drop lo).take n)[i]=c[lo+i]'(by omega):=by simp
    have ZY:j<(c[lo+i]'(by omega)).length:=by rw[<- hcell];exact hj
    have hjs:j<Za:=by rw[X9]at ZY;exact ZY
    have h7:=YV (lo+i) j (by omega) ZY
    have hk:i*Za+j<n*Za:=by
     calc i*Za+j<i*Za+Za:=by omega
      _=(i+1)*Za:=by rw[Nat.succ_mul]
      _<=n*Za:=Nat.mul_le_mul_right _ ZT
    have e8:((news.drop (lo*Za)).take (n*Za)).getD (i*Za+j) undef=news.getD ((lo+i)*Za+j) undef:=by
     rw[oGD,oGD,List.getElem?_take_of_lt hk,List.getElem?_drop,Nat.add_mul,Nat.add_assoc]
    rw[e8]
    have e9:((c.drop lo).take n)[i][j]=(c[lo+i]'(by omega))[j]:=by simp only[hcell]
    rw[e9];refine Hr h7 ?_;rw[<- e9];exact ZE i j hi hj
 |_=>simp[wy]at hn
theorem LW(hI:Inv M σ [] [] a.tmps w G){d sz bytes:Nat}{mv:Bool}(hd:o.dst=some d)(hN:M.ok d){s x:Opd}{s' x':Operand}{t e:TypeId}{i:TypeInfo}{z:Value}(hs:bK s'=some s)(hx:bK x'=some x)
 (ho:o.op=.call { callee:=.builtin .append,args:=#[s',x'],argTypes:=#[t,t] })(hu:P.underlying t=some (.slice e))(hi:P.info? e=some i)(hz:i.zero=some z)(Y1:z.cells.size=i.size)(hsz:i.size=sz)(Ym:i.bytes=bytes)(Z4:0<sz)
 {fl:Bool}(hr:(ev1 d (.app sz bytes mv fl s x)).run σ=some ((),σ')):jB P M σ' a o w:=by
 subst hsz;subst Ym;simp only[ev1]at hr;obtain⟨t1,σ1,h1,h2⟩:=bG hr;obtain⟨rfl,YR⟩:=cr hI.tmr hs h1;obtain⟨t2,σ2,h3,h4⟩:=bG h2;obtain⟨rfl,Z2⟩:=cr hI.tmr hx h3
 have old:((take1 true t1).bind λsv=>(take1 mv t2).bind λx=>IU d i.size i.bytes sv x).run σ2=some ((),σ')->jB P M σ' a o w:=by
  intro h4;obtain⟨sv,σ3,h5,h6⟩:=bG h4;obtain⟨G1,g1,_⟩:=fK hI YR h5;obtain⟨xv,σ4,h7,h8⟩:=bG h6;obtain⟨G2,g2,_⟩:=fK g1.1 (g1.tm Z2) h7;simp only[List.nil_append,List.cons_append]at g2
  have fin:∀c c2,sv=.ow c->(xv=.ow c2\/xv=.sl c2)->(if(c++c2).all (λe=>e.length==i.size)&&decide (c.length+c2.length<=1099511627776)&&decide ((c.length+c2.length)*i.bytes<=140737488355328)then inst d false [.ow (c++c2)]else .fail).run σ4=some ((),σ')->jB P M σ' a o w:=by
   intro c c2 hc Zp h9;split at h9
   case isFalse=>simp[SP.run]at h9
   rename_i Z9;simp only[oBA,oDE,List.all_eq_true,beq_iff_eq]at Z9;obtain⟨⟨ZX,ZR⟩,ZZ⟩:=Z9;subst hc;obtain⟨v',w',G',hrun,ZK,_,_⟩:=g2.1.append (P:=P) (c:=c) (c2:=c2) (X:=xv) rfl rfl Zp t o.type e i z hu hi hz Y1 Z4 (λk h=>ZX _ (List.mem_append_left _ (List.getElem_mem h))) (λk h=>ZX _ (List.mem_append_right _ (List.getElem_mem h))) ZR ZZ;refine mD ZK hd hN (λj hj=>?_) h9 (.inr ⟨rfl,v',rfl,rfl⟩) (w0:=w) ?_
   ·obtain rfl:j=0:=by simp at hj;omega
    exact .inr rfl
   ·simp[execOp,ho,resolve,invoke,builtin,hrun]
  unfold IU at h8
  cases sv with
  |ow c=>
   cases xv with
   |ow c2=>exact fin c c2 rfl (.inl rfl) h8
   |sl c2=>exact fin c c2 rfl (.inr rfl) h8
   |_=>simp[SP.run]at h8
  |_=>simp[SP.run]at h8
 split at h4
 ·rename_i hc;simp only[oBA,Bool.not_eq_true']at hc;obtain⟨c2,σ4,h7,h8⟩:=bG h4;split at h8
  ·rename_i ZE;obtain⟨sv,σ3,h5,h9⟩:=bG h8
   have e4:σ4=σ2:=by
    have:=Cj hc.2 h7;exact this
   subst e4;obtain⟨G1,g1,_⟩:=fK hI YR h5;unfold IU at h9
   cases sv with
   |ow c=>
    simp only at h9;split at h9
    case isFalse=>simp[SP.run]at h9
    rename_i Z9;simp only[oBA,oDE,List.all_eq_true,beq_iff_eq]at Z9;obtain⟨⟨ZX,ZR⟩,ZZ⟩:=Z9;obtain⟨_,aX,capX,news,hxv,Ww⟩:=JO (sz:=i.size) hI hc.2 Z2 h7 ZE (λk h=>ZX _ (List.mem_append_right _ (List.getElem_mem h))) (G1.F M.A) (G1.φ M.hr 1);have ZC:=g1.1.hand_own (j:=0) (by simp) (by simp);simp only[List.nil_append,List.getElem_cons_zero,List.getD_cons_zero]at ZC;obtain⟨v',w',G',hrun,ZK,_,_⟩:=g1.1.append0 (P:=P) (capX:=capX) t o.type e i z ZC Ww hu hi hz Y1 Z4 (λk h=>ZX _ (List.mem_append_left _ (List.getElem_mem h))) (λk h=>ZX _ (List.mem_append_right _ (List.getElem_mem h))) ZR ZZ;rw[<- hxv]at hrun;refine mD ZK hd hN (λj hj=>?_) h9 (.inr ⟨rfl,v',rfl,rfl⟩) (w0:=w) ?_
    ·obtain rfl:j=0:=by simp at hj;omega
     exact .inr rfl
    ·simp[execOp,ho,resolve,invoke,builtin,hrun]
   |_=>simp[SP.run]at h9
  ·simp[SP.run]at h8
 ·exact old h4
end
def lP:List Value->Nat->List Value->List Value
 |cs,_,[]=>cs
 |cs,off,v::r=>lP (cs.set off v) (off+1) r
theorem sk(vs:List Value):∀(s off:Nat)(cs:Array Value),((vs.zipIdx s).foldl (λcs (x:Value×Nat)=>cs.setIfInBounds (off+x.2) x.1) cs).toList=lP cs.toList (off+s) vs:=by
 induction vs with
 |nil=>intro s off cs;rfl
 |cons v r ih=>
  intro s off cs;simp[lP];rw[ih];simp[Nat.add_assoc]
theorem Ek(vs:List Value):∀(off:Nat)(cs:List Value),(lP cs off vs).length=cs.length:=by
 induction vs with
 |nil=>intro off cs;rfl
 |cons v r ih=>intro off cs;simp[lP,ih]
theorem Ej(vs:List Value):∀(pre Yp:List Value),vs.length<=Yp.length->lP (pre++Yp) pre.length vs=pre++vs++Yp.drop vs.length:=by
 induction vs with
 |nil=>intro pre Yp _;simp[lP]
 |cons v r ih=>
  intro pre Yp h
  cases Yp with
  |nil=>simp at h
  |cons u Yp=>
   simp[lP];have:=ih (pre++[v]) Yp (by simp_all)
   simp_all
theorem ES{sz:Nat}:∀(l:List (Nat×Value))(k:Nat)(pre Yp:List Value),l.map (·.1)=List.range' k l.length->(∀p∈l,p.2.cells.size=sz)->pre.length=k*sz->Yp.length=l.length*sz ->
 Instr.fill (λi=>some (i*sz,sz)) (pre++Yp).toArray l=some (pre++l.flatMap (·.2.cells.toList)).toArray:=by
 intro l
 induction l with
 |nil=>intro k pre Yp _ _ _ h;have:Yp=[]:=oEN (by simpa using h);subst this;simp[Instr.fill]
 |cons p l ih=>
  obtain⟨i,v⟩:=p;intro k pre Yp h1 h2 h3 h4;simp only[List.map_cons,oLC,List.range'_succ,List.cons.injEq]at h1;obtain⟨rfl,h1⟩:=h1
  have hv:v.cells.size=sz:=by simp_all
  simp only[Instr.fill,hv,ne_eq,not_true_eq_false,false_or]
  have hsuf:sz<=Yp.length:=by rw[h4,oLC,Nat.succ_mul];omega
  rw[oIN (by simp;omega)];have hf:=sk v.cells.toList 0 (i*sz) (pre++Yp).toArray
  have hz:v.cells.zipIdx.foldl (λcs x=>cs.setIfInBounds (i*sz+x.2) x.1) (pre++Yp).toArray=(pre++v.cells.toList++Yp.drop sz).toArray:=by
   apply Array.ext'
   have e:v.cells.zipIdx.foldl (λcs x=>cs.setIfInBounds (i*sz+x.2) x.1) (pre++Yp).toArray=(v.cells.toList.zipIdx 0).foldl (λcs (x:Value×Nat)=>cs.setIfInBounds (i*sz+x.2) x.1) (pre++Yp).toArray:=by
    rw[<- Array.foldl_toList,Array.toList_zipIdx]
   rw[e,hf,<- h3,Nat.add_zero];rw[Ej _ _ _ (by simp_all)];simp[hv]
  have R7:=hz;rw[R7,ih (i+1) (pre++v.cells.toList) (Yp.drop sz) h1 (λp hp=>h2 p (by simp[hp])) (by simp[h3,hv,Nat.succ_mul]) (by rw[List.length_drop,h4,oLC,Nat.succ_mul];omega)];simp
theorem vZ(sz:Nat):∀(n:Nat)(l:List TV),l.length=n*sz->(ju sz n l).flatten=l/\(ju sz n l).length=n/\∀i (h:i<(ju sz n l).length),(ju sz n l)[i].length=sz:=by
 intro n
 induction n with
 |zero=>intro l h;have:l=[]:=oEN (by omega);subst this;exact⟨rfl,rfl,λi h=>by simp[ju]at h⟩
 |succ n ih=>
  intro l h
  have hl:sz<=l.length:=by rw[h,Nat.succ_mul];omega
  have ⟨e1,e2,e3⟩:=ih (l.drop sz) (by rw[List.length_drop,h,Nat.succ_mul];omega);refine⟨by simp[ju,e1],by simp[ju,e2],λi hi=>?_⟩
  cases i with
  |zero=>simp[ju];omega
  |succ i=>simpa[ju]using e3 i (by simpa[ju]using hi)
section
variable {P:Program} {M:Fm} {σ σ':St} {H:List TV} {xs:List Value} {ts:Array Value} {w:World} {G:Gh} {a:Act} {o:Oper}
theorem nw{mv:Bool}:∀{parts:List (Nat×Nat×Opd)}{pv:List Operand}{l:List TV}{σ σ':St}{H:List TV}{xs:List Value}{G:Gh},Inv M σ H xs a.tmps w G->pv.map bK=parts.map (λp=>some p.2.2)->
 (takeParts mv parts).run σ=some (l,σ')->∃G',jM M w a.tmps σ H G σ' (H++l) (xs++pv.flatMap λx=>(a.eval x).cells.toList) G'/\(∀j (h:j<l.length),cq l[j]=true\/kf l[j]=true)/\
  (∀k (h:k<parts.length)(h':k<pv.length),(a.eval pv[k]).cells.size=parts[k].2.1):=by
 intro parts
 induction parts with
 |nil=>
  intro pv l σ σ' H xs G hI hp hr;obtain⟨rfl,rfl⟩:=hr
  have:pv=[]:=by cases pv<;>simp at hp⊢
  subst this;exact⟨G,by simpa using jM.refl hI,λj h=>by simp at h,λk h=>by simp at h⟩
 |cons p parts ih=>
  obtain⟨off,n,x⟩:=p;intro pv l σ σ' H xs G hI hp hr
  cases pv with
  |nil=>simp at hp
  |cons y pv=>
   simp only[List.map_cons,List.cons.injEq]at hp;obtain⟨hy,hp⟩:=hp;simp only[takeParts]at hr;obtain⟨t,σ1,h1,h2⟩:=bG hr
   have RP:σ1=σ/\TmR w (G.F M.A) σ.v (b5 M σ H) G t (a.eval y):=by
    cases y with
    |tmp i=>
     simp only[bK,oSJ]at hy;subst hy;obtain⟨rfl,rfl⟩:=h1;exact⟨rfl,hI.tmr i⟩
    |const v=>
     simp only[bK,oSJ]at hy;subst hy;obtain⟨rfl,rfl⟩:=h1;exact⟨rfl,wu v⟩
    |func f=>
     simp only[bK,oSJ]at hy;subst hy;obtain⟨rfl,rfl⟩:=h1;exact⟨rfl,.fn (by simp) (by simp)⟩
    |global g=>simp[bK]at hy
   obtain⟨rfl,ht⟩:=RP;obtain⟨l1,σ2,h3,h4⟩:=bG h2;split at h4
   case isFalse=>simp[SP.run]at h4
   rename_i hn;obtain⟨l2,σ3,h5,h6⟩:=bG h4;simp only[SP.run,oSJ,oPJ]at h6;obtain⟨rfl,rfl⟩:=h6
   have hc:∃G',jM M w a.tmps σ1 H G σ2 (H++l1) (xs++(a.eval y).cells.toList) G'/\l1.length=(a.eval y).cells.size:=by
    by_cases hta:∃q,t=.agg q
    ·obtain⟨q,rfl⟩:=hta;obtain⟨zs,hz,hl,hj⟩:=Fh ht;obtain⟨e1,e2,G',hg⟩:=ox (ys:=zs.toList) hI (by simp[hl,lk]) (λj h=>by have h':j<q.length:=h;have:=hj j h';simpa[lk]using this) h3;rw[hz];exact⟨G',by simpa[Value.cells]using hg,by rw[e1];simp[lk,Value.cells,hl]⟩
    ·have e:lk t=[t]:=by cases t<;>first|rfl|exact absurd ⟨_,rfl⟩ hta
     rw[e]at h3
     have Tu:(a.eval y).cells=#[a.eval y]:=by
      simp only[takeL]at h3;obtain⟨t',σ1,h1,h2⟩:=bG h3;obtain⟨G',hg,ho⟩:=fK hI ht h1;generalize a.eval y=z at ho
      cases z<;>first|rfl|simp[Value.oneCell']at ho
     obtain⟨e1,e2,G',hg⟩:=ox (l:=[t]) (ys:=[a.eval y]) hI (by simp) (λj h=>by
      obtain rfl:j=0:=by simp at h;omega
      simpa using ht) h3
     rw[Tu];exact⟨G',by simpa using hg,by rw[e1];rfl⟩
   obtain⟨G1,g1,e1⟩:=hc;obtain⟨G2,g2,ok2,sz2⟩:=ih g1.1 hp h5;refine⟨G2,by simpa using g1.trans g2,λj hj=>?_,λk hk YI=>?_⟩
   ·by_cases hjl:j<l1.length
    ·rw[List.getElem_append_left hjl];exact oy h3 j hjl
    ·rw[List.getElem_append_right (by omega)];exact ok2 _ _
   ·cases k with
    |zero=>simp only[List.getElem_cons_zero];rw[<- e1];exact hn
    |succ k=>simpa using sz2 k (by simpa using hk) (by simpa using YI)
theorem LQ(hI:Inv M σ [] [] a.tmps w G){d sz len:Nat}{mv:Bool}(hd:o.dst=some d)(hN:M.ok d){t e:TypeId}{parts:Array (Nat×Operand)}{ps:List Opd}{i:TypeInfo}(ho:o.op=.buildSlice t len parts)(hu:P.underlying t=some (.slice e))(hi:P.info? e=some i)(hsz:i.size=sz)
 (hz:0<len*sz->∃z,i.zero=some z)(hp1:parts.toList.map (·.1)=List.range len)(hp2:parts.toList.map (λp=>bK p.2)=ps.map some)(hmax:len*sz<=16777216)(hlm:len<=16777216)(hr:(ev1 d (.bsl sz mv len ps)).run σ=some ((),σ')):jB P M σ' a o w:=by
 simp only[ev1]at hr;obtain⟨l,σ1,h1,h2⟩:=bG hr;split at h2
 case isFalse=>simp[SP.run]at h2
 rename_i hlen;obtain⟨G1,g1,hok,XX⟩:=nw (a:=a) (pv:=parts.toList.map (·.2)) hI (by simpa[Function.comp_def]using hp2) h1;simp only[List.nil_append]at g1
 have Wt:parts.toList.length=len:=by have:=congrArg List.length hp1;simpa using this
 have WJ:∀p∈parts.toList.map (λp=>(p.1,a.eval p.2)),p.2.cells.size=sz:=by
  intro p hp;obtain⟨k,hk,rfl⟩:=List.getElem_of_mem hp
  have YI:k<parts.toList.length:=by simpa using hk
  have:=XX k (by simp;omega) (by simpa using YI);simpa using this
 have YW:(parts.toList.map (·.2)).flatMap (λx=>(a.eval x).cells.toList)=(parts.toList.map (λp=>(p.1,a.eval p.2))).flatMap (·.2.cells.toList):=by
  simp[List.flatMap_map]
 have Uh:l.length=len*sz:=by
  have hh:=g1.1.hand;rw[hh,YW]
  have Z0:∀(q:List (Nat×Value)),(∀p∈q,p.2.cells.size=sz)->(q.flatMap (·.2.cells.toList)).length=q.length*sz:=by
   intro q
   induction q with
   |nil=>intro _;simp
   |cons p q ih=>intro h;simp only[List.flatMap_cons,List.length_append,ih (λp hp=>h p (by simp[hp])),oLC,Nat.succ_mul];have:=h p (by simp);simp[this];omega
  rw[Z0 _ WJ];simp[Wt]
 obtain⟨c1,c2,c3⟩:=vZ sz len l Uh;obtain⟨G2,Z3,_,_⟩:=g1.1.mkSlice (c:=ju sz len l) e c3 c1 (pH hok) (by rw[c2];unfold maxLen;omega);rw[c2]at Z3;refine mD Z3 hd hN (λj hj=>?_) h2 (.inr ⟨rfl,_,rfl,rfl⟩) (w0:=w) ?_
 ·obtain rfl:j=0:=by simp at hj;omega
  exact .inr rfl
 ·
  have YH:∀zc:List Value,zc.length=len*sz->Instr.fill (λi=>some (i*sz,sz)) zc.toArray (parts.map λp=>(p.1,a.eval p.2)).toList=some ((parts.toList.map (·.2)).flatMap λx=>(a.eval x).cells.toList).toArray:=by
   intro zc XE;have:=ES (sz:=sz) (parts.toList.map (λp=>(p.1,a.eval p.2))) 0 [] zc (by simp[Function.comp_def,hp1,Wt,List.range_eq_range']) WJ (by simp) (by simpa[Wt]using XE);rw[YW];simpa using this
  have Zq:¬(16777216<len*sz):=by omega
  have Y6:(sizeOf e).run P w=.ok sz w:=by simp[sizeOf,typeInfo,hi,hsz]
  by_cases h0:len*sz=0
  ·have hf:=YH [] (by simp[h0])
   have hr0:(Array.range (len*sz)).map (λ(x:Nat)=>(#[]:Array Value)[x%(#[]:Array Value).size]!)=([]:List Value).toArray:=by rw[h0];simp
   simp only[execOp,ho,Instr.buildSlice,Sem.run_bind,run_underlying hu,Result.andThen_ok,Y6,h0,Sem.run_ite,if_true,Sem.run_pure];rw[oIN (by omega)]
   try simp only[Result.andThen_ok]
   rw[show(Array.range 0).map (λ(x:Nat)=>(#[]:Array Value)[x%(#[]:Array Value).size]!)=([]:List Value).toArray by simp,hf];simp[newRow]
  ·obtain⟨z,hz⟩:=hz (by omega)
   have V9:(zeroValue e).run P w=.ok z w:=by simp[zeroValue,typeInfo,hi,hz]
   have hf:=YH ((Array.range (len*sz)).map (λx=>z.cells[x%z.cells.size]!)).toList (by simp);simp only[Array.toArray_toList]at hf;simp only[execOp,ho,Instr.buildSlice,Sem.run_bind,run_underlying hu,Result.andThen_ok,Y6,Sem.run_ite,Sem.run_pure];rw[oIN (by omega),oIN h0];simp only[Result.andThen_ok,V9];rw[hf];simp[newRow]
end
theorem wT{R:TV->Value->Prop}:∀(l:List TV)(ys:List Value)(cells:List TV)(vals:List Value)(off:Nat),cells.length=vals.length->(∀j (h:j<cells.length)(h':j<vals.length),R cells[j] vals[j])->l.length=ys.length->(∀j (h:j<l.length)(h':j<ys.length),R l[j] ys[j])->
 (iZ cells off l).length=(lP vals off ys).length/\∀j (h:j<(iZ cells off l).length)(h':j<(lP vals off ys).length),R (iZ cells off l)[j] (lP vals off ys)[j]:=by
 intro l
 induction l with
 |nil=>
  intro ys cells vals off h1 h2 h3 _;have:=oEN h3.symm;subst this;exact⟨h1,h2⟩
 |cons t l ih=>
  intro ys cells vals off h1 h2 h3 h4
  cases ys with
  |nil=>simp at h3
  |cons y ys=>
   refine ih ys _ _ _ (by simp[h1]) (λj h h'=>?_) (by simpa using h3) (λj h h'=>h4 (j+1) (by simpa using h) (by simpa using h'));simp only[List.getElem_set];by_cases hj:off=j
   ·simp only[hj,if_true];exact h4 0 (by simp) (by simp)
   ·simp only[oIN hj];exact h2 j (by simpa using h) (by simp_all)
def kH:List Value->List (Nat×Nat×Opd)->List Value->List Value
 |vals,[],_=>vals
 |vals,(off,n,_)::r,ys=>kH (lP vals off (ys.take n)) r (ys.drop n)
theorem mR{R:TV->Value->Prop}:∀(parts:List (Nat×Nat×Opd))(l:List TV)(ys:List Value)(cells:List TV)(vals:List Value),cells.length=vals.length->(∀j (h:j<cells.length)(h':j<vals.length),R cells[j] vals[j])->l.length=ys.length->(∀j (h:j<l.length)(h':j<ys.length),R l[j] ys[j])->
 (mL cells parts l).length=(kH vals parts ys).length/\∀j (h:j<(mL cells parts l).length)(h':j<(kH vals parts ys).length),R (mL cells parts l)[j] (kH vals parts ys)[j]:=by
 intro parts
 induction parts with
 |nil=>intro l ys cells vals h1 h2 _ _;exact⟨h1,h2⟩
 |cons p parts ih=>
  have ⟨off,n,x⟩:=p;intro l ys cells vals h1 h2 h3 h4;have ⟨g1,g2⟩:=wT (l.take n) (ys.take n) cells vals off h1 h2 (by simp[h3]) (λj h h'=>by simp;exact h4 j _ _);exact ih (l.drop n) (ys.drop n) _ _ g1 g2 (by simp[h3]) (λj h h'=>by simp;exact h4 _ _ _)
theorem uI{place:Nat->Option (Nat×Nat)}:∀(l:List (Nat×Value))(parts:List (Nat×Nat×Opd))(cells:Array Value),l.length=parts.length->(∀k (h:k<l.length)(h':k<parts.length),place l[k].1=some (parts[k].1,parts[k].2.1)/\l[k].2.cells.size=parts[k].2.1/\parts[k].1+parts[k].2.1<=cells.size)->
 Instr.fill place cells l=some (kH cells.toList parts (l.flatMap (·.2.cells.toList))).toArray:=by
 intro l
 induction l with
 |nil=>intro parts cells h _;have:parts=[]:=oEN (by simp_all);subst this;simp[Instr.fill,kH]
 |cons p l ih=>
  obtain⟨i,v⟩:=p;intro parts cells h1 h2
  cases parts with
  |nil=>simp at h1
  |cons q parts=>
   obtain⟨off,n,x⟩:=q;have h0:=h2 0 (by simp) (by simp);obtain⟨p1,p2,p3⟩:=h0;have p2':v.cells.size=n:=p2;have p1':place i=some (off,n):=p1;simp only[Instr.fill,p1']
   have hz:v.cells.zipIdx.foldl (λcs x=>cs.setIfInBounds (off+x.2) x.1) cells=(lP cells.toList off v.cells.toList).toArray:=by
    apply Array.ext'
    have e:v.cells.zipIdx.foldl (λcs x=>cs.setIfInBounds (off+x.2) x.1) cells=(v.cells.toList.zipIdx 0).foldl (λcs (x:Value×Nat)=>cs.setIfInBounds (off+x.2) x.1) cells:=by
     rw[<- Array.foldl_toList,Array.toList_zipIdx]
    rw[e,sk];simp
   have R7:=hz;rw[R7,ih parts _ (by simpa using h1) (λk h h'=>by have:=h2 (k+1) (by simpa using h) (by simpa using h');simpa[Ek]using this)];simp only[kH,List.flatMap_cons]
   simp_all
section
variable {P:Program} {M:Fm} {σ σ':St} {H:List TV} {xs:List Value} {ts:Array Value} {w:World} {G:Gh} {a:Act} {o:Oper}
theorem tX(ZU:List Field)(sz:Field->Nat)(h:∀f∈ZU,(sizeOf f.type).run P w=.ok (sz f) w):((ZU.mapM λf=>do pure (f.offset,<- sizeOf f.type):Sem (List (Nat×Nat)))).run P w=.ok (ZU.map λf=>(f.offset,sz f)) w:=by
 induction ZU with
 |nil=>simp
 |cons f r ih=>
  simp_all
theorem LS(hI:Inv M σ [] [] a.tmps w G){d:Nat}{mv:Bool}(hd:o.dst=some d)(hN:M.ok d){t:TypeId}{parts:Array (Nat×Operand)}{ps:List (Nat×Nat×Opd)}{z:List Value}{ZU:Array Field}{szf:Field->Nat}(ho:o.op=.build t parts)(hu:P.underlying t=some (.struct ZU))
 (hz:(P.info? t).bind (·.zero.map (·.cells.toList))=some z)(hsz:∀f∈ZU.toList,(P.info? f.type).map (·.size)=some (szf f))(hp1:parts.size=ps.length)
 (hp2:∀k (h:k<parts.size)(h':k<ps.length),bK parts[k].2=some ps[k].2.2/\((ZU[parts[k].1]?).map λf=>(f.offset,szf f))=some (ps[k].1,ps[k].2.1)/\ps[k].1+ps[k].2.1<=z.length)
 (hr:(ev1 d (.bld z mv ps)).run σ=some ((),σ')):jB P M σ' a o w:=by
 simp only[ev1]at hr;split at hr
 case isFalse=>simp[SP.run]at hr
 rename_i hok;obtain⟨l,σ1,h1,h2⟩:=bG hr;obtain⟨l',σ2,h3,h4⟩:=bG h2
 obtain⟨G1,g1,UQ,XX⟩:=nw (a:=a) (pv:=parts.toList.map (·.2)) hI (by
  apply List.ext_getElem
  ·simp[hp1]
  ·intro k hk YI;have:=(hp2 k (by simpa using hk) (by simpa using YI)).1
   simpa using this) h1
 simp only[List.nil_append]at g1;obtain⟨G2,Z3,_,hl2,Yr⟩:=qg (λ_=>hN.2) g1.1 UQ h3;obtain⟨ys,V3⟩:∃ys,ys=(parts.toList.map (·.2)).flatMap (λx=>(a.eval x).cells.toList):=⟨_,rfl⟩;rw[<- V3]at g1 Yr
 have hlen:l'.length=ys.length:=by rw[hl2];exact g1.1.hand
 have XE:∀j (h:j<(z.map cf).length)(h':j<z.length),TmR w (G2.F M.A) σ2.v (b5 M σ2 []) G2 (z.map cf)[j] z[j]:=λj h h'=>by simp only[List.getElem_map];exact qd _
 obtain⟨r1,r2⟩:=mR (R:=TmR w (G2.F M.A) σ2.v (b5 M σ2 []) G2) ps l' ys (z.map cf) z (by simp) XE hlen (λj h h'=>by have:=Yr j h;simpa[h']using this);refine fG Z3 hd hN (x:=.agg (kH z ps ys).toArray) (.agg (by simp[r1]) λj hj=>by have:=r2 j hj (by omega);simpa[show j<(kH z ps ys).length by omega]using this) h4 ?_
 cases hi:P.info? t with
 |none=>simp[hi]at hz
 |some i=>
  simp only[hi,oBS]at hz
  cases hiz:i.zero with
  |none=>simp[hiz]at hz
  |some v=>
   simp only[hiz,oMS,oSJ]at hz
   have V9:(zeroValue t).run P w=.ok v w:=by simp[zeroValue,typeInfo,hi,hiz]
   have Y6:∀f∈ZU.toList,(sizeOf f.type).run P w=.ok (szf f) w:=by
    intro f hf;have:=hsz f hf;unfold sizeOf typeInfo
    cases hi:P.info? f.type with
    |none=>simp[hi]at this
    |some i=>simp[hi]at this;simp[hi,this]
   have hm:=tX ZU.toList szf Y6
   have hma:((ZU.mapM λf=>do pure (f.offset,<- sizeOf f.type):Sem (Array (Nat×Nat)))).run P w=.ok (ZU.map λf=>(f.offset,szf f)) w:=by
    rw[Array.mapM_eq_mapM_toList];simp only[Sem.run_map,hm,Result.andThen_ok];congr 1;apply Array.ext';simp
   have YH:=uI (place:=λi=>(ZU.map λf=>(f.offset,szf f))[i]?) (parts.toList.map λp=>(p.1,a.eval p.2)) ps v.cells (by simp[hp1]) (λk h h'=>by
    have hk:k<parts.size:=by simpa using h
    obtain⟨q1,q2,q3⟩:=hp2 k hk h';have q4:=XX k h' (by simpa using hk);refine⟨by simpa using q2,by simpa using q4,?_⟩;rw[<- hz]at q3
    simpa using q3)
   have ZE:((parts.toList.map λp=>(p.1,a.eval p.2)).flatMap (·.2.cells.toList))=ys:=by rw[V3];simp[List.flatMap_map]
   rw[ZE,hz]at YH;simp only[execOp,ho,Instr.build,Sem.run_bind,V9,Result.andThen_ok,run_underlying hu,hma,Array.toList_map];rw[YH];simp
end
section
variable {P:Program} {M:Fm} {σ σ':St} {H:List TV} {xs:List Value} {ts:Array Value} {w:World} {G:Gh} {a:Act} {o:Oper}
theorem io.window'{F:Nat->Prop}{c:List (List TV)}{a0:Option Addr}{len cap:Nat}(h:io w F (.sl c) (.slice a0 len cap))(sz lo n:Nat)(hs:∀i (h:i<c.length),c[i].length=sz)(X2:lo+n<=c.length){a:Option Addr}{Z1:Nat}(hn:n<=Z1)
 (hm:Z1<=maxLen)(hnil:a=none->Z1=0)(ha:∀b o,0<n->a0=some ⟨b,o,none⟩->a=some ⟨b,o+lo*sz,none⟩):io w F (.sl ((c.drop lo).take n)) (.slice a n Z1):=by
 cases h with
 |sl sz' u hsz hcap hmax Tq hcell hrec=>
  have hl:((c.drop lo).take n).length=n:=by simp;omega
  have Z0:=io.sl (w:=w) (F:=F) (c:=(c.drop lo).take n) (a:=a) (cap:=Z1) sz (λi j=>u (lo+i) j) (λi hi=>by
   have:i<n:=by omega
   simp only[List.getElem_take,List.getElem_drop];exact hs _ (by omega)) (by omega) hm hnil (λi j hi hj=>by
   have hz:sz'=sz:=by rw[<- hsz (lo+i) (by omega),hs (lo+i) (by omega)]
   subst hz;obtain⟨b',o',e,hF,hc⟩:=hcell (lo+i) j (by omega) hj
   exact⟨b',o'+lo*sz',ha _ _ (by omega) e,hF,by rw[show o'+lo*sz'+(i*sz'+j)=o'+((lo+i)*sz'+j) by rw[Nat.add_mul];omega];exact hc⟩) (λi j hi hj=>by
   have:=hrec (lo+i) j (by omega) (by simp_all)
   simpa[List.getElem_take,List.getElem_drop]using this)
  simp_all
theorem ud{F:Nat->Prop}(hI:Inv M σ [] [] a.tmps w G){q:Option Opd}{q':Option Operand}{Nq n:Nat}(hq:q'.map bK=q.map some)(hr:(optNat q Nq).run σ=some (n,σ')):
 σ'=σ/\((q'=none/\n=Nq)\/∃x k i,q'=some x/\a.eval x=.int k i/\0<=i/\n=i.toNat):=by
 cases q with
 |none=>
  cases q' with
  |none=>
   simp[optNat,SP.run]at hr
   simp_all
  |some _=>simp_all
 |some x=>
  cases q' with
  |none=>simp_all
  |some x'=>
   simp at hq;have ⟨t,σ1,h1,h2⟩:=bG hr;obtain⟨rfl,ht⟩:=cr hI.tmr hq h1;obtain⟨k,i,rfl,h0,hn,rfl⟩:=ja h2;exact⟨rfl,.inr ⟨x',k,i,rfl,ht.v_inv.1,h0,hn⟩⟩
theorem ky{x:Value}{k:IntKind}{i:Int}{y:Nat}{code:BoundsCode}(hx:x=.int k i)(h0:0<=i)(hy:i.toNat<=y):(Instr.sliceBound x y code).run P w=.ok i.toNat w:=by
 subst hx
 have:i<=(y:Int):=by omega
 simp[Instr.sliceBound,asIntOf,h0,this]
def tI:Operand->Bool
 |.const (.int _ i)=>i==0
 |_=>false
def Ft:Option Operand->Bool
 |none=>true
 |some x=>tI x
theorem pb{x:Operand}(h:tI x=true):∃k,a.eval x=.int k 0:=by
 unfold tI at h;split at h
 ·rename_i k i
  have:i=0:=by simp_all
  subst this;exact⟨k,rfl⟩
 ·cases h
theorem LN(hI:Inv M σ [] [] a.tmps w G){d sz:Nat}(hd:o.dst=some d)(hN:M.ok d){x:Opd}{x':Operand}{lo':Option Operand}{ZT Sf:Operand}{t e:TypeId}(hx:bK x'=some x)(ho:o.op=.slice t x' lo' (some ZT) (some Sf))
 (VL:Ft lo'=true)(Te:tI ZT=true)(XK:tI Sf=true)(hu:P.underlying t=some (.slice e))(hs:(P.info? e).map (·.size)=some sz)(hr:(ev1 d (.emp x)).run σ=some ((),σ')):jB P M σ' a o w:=by
 have Y6:(sizeOf e).run P w=.ok sz w:=by
  unfold sizeOf typeInfo
  cases hi:P.info? e with
  |none=>simp[hi]at hs
  |some i=>simp[hi]at hs;simp[hi,hs]
 simp only[ev1]at hr;obtain⟨tx,σ1,h1,h2⟩:=bG hr;obtain⟨rfl,Z2⟩:=cr hI.tmr hx h1;obtain⟨n,σ2,h3,h4⟩:=bG h2;obtain⟨rfl,b,cap,W3,SD⟩:=qm (F:=G.F M.A) hI Z2 h3;obtain⟨k1,e1⟩:=pb (a:=a) Te;obtain⟨k2,e2⟩:=pb (a:=a) XK;have b1:=ky (P:=P) (w:=w) (y:=cap) (code:=.slice3Acap) e2 (Int.le_refl 0) (Nat.zero_le _);have b2:=ky (P:=P) (w:=w) (y:=0) (code:=.slice3B) e1 (Int.le_refl 0) (Nat.le_refl _)
 have hb:(Instr.sliceBounds true n cap (lo'.map a.eval) (some (a.eval ZT)) (some (a.eval Sf))).run P w=.ok (0,0,0) w:=by
  unfold Instr.sliceBounds;simp only[Int.toNat_zero]at b1 b2
  cases lo' with
  |none=>simp[b1,b2]
  |some l=>
   obtain⟨k3,e3⟩:=pb (a:=a) (x:=l) VL;have b3:=ky (P:=P) (w:=w) (y:=0) (code:=.slice3C) e3 (Int.le_refl 0) (Nat.le_refl _);simp only[Int.toNat_zero]at b3;simp[b1,b2,b3]
 refine xP (ad:=b) hI hd hN h4 ?_;simp[execOp,ho,W3,Instr.sliceAt,run_underlying hu,Instr.slice,hb,Y6]
theorem ImF.vs{w:World}{F:Nat->Prop}{t:TV}{x:Value}(h:ImF w F t x)(ht:JY t=true):io w F t x:=by
 cases h with
 |im h=>exact h
 |ip=>simp[JY]at ht
 |fn=>simp[JY]at ht
theorem Ly(hI:Inv M σ [] [] a.tmps w G){d n:Nat}(hd:o.dst=some d)(hN:M.ok d){x:Opd}{x':Operand}{hi:Option Opd}{ZT:Option Operand}{t e:TypeId}(hx:bK x'=some x)(Te:ZT.map bK=hi.map some)(ho:o.op=.slice t x' none ZT none)
 (hu:P.underlying t=some (.array n e))(hs:(P.info? e).map (·.size)=some 1)(hr:(ev1 d (.sla n x hi)).run σ=some ((),σ')):jB P M σ' a o w:=by
 have Y6:(sizeOf e).run P w=.ok 1 w:=by
  unfold sizeOf typeInfo
  cases hi:P.info? e with
  |none=>simp[hi]at hs
  |some i=>simp[hi]at hs;simp[hi,hs]
 simp only[ev1]at hr;obtain⟨tx,σ1,h1,h2⟩:=bG hr;obtain⟨rfl,Z2⟩:=cr hI.tmr hx h1;obtain⟨h,σ4,h7,h8⟩:=bG h2;obtain⟨rfl,hh⟩:=ud (F:=G.F M.A) hI Te h7;split at h8
 case isFalse=>simp[SP.run]at h8
 rename_i Z9;simp only[oBA,oDE]at Z9;obtain⟨P5,hmax⟩:=Z9
 cases tx with
 |ip cs=>
  simp only at h8;split at h8
  case isFalse=>simp[SP.run]at h8
  rename_i Zp;simp only[oBA,oDE,List.all_eq_true]at Zp;obtain⟨hlen,ZX⟩:=Zp;generalize hz:a.eval x'=z at Z2
  cases Z2 with
  | @ip _ b off u hc V8=>
   have run:(execOp a.eval o).run P w=.ok (.value (.slice (some ⟨b,off,none⟩) h n)) w:=by
    have hb:(Instr.sliceBounds false n n none (ZT.map a.eval) none).run P w=.ok (0,h,n) w:=by
     unfold Instr.sliceBounds
     rcases hh with⟨rfl,rfl⟩|⟨xh,kh,ih,rfl,eh,QV,rfl⟩
     ·simp
     ·have Uc:=ky (P:=P) (w:=w) (y:=n) (code:=.sliceAlen) eh QV P5;simp[Uc]
    simp[execOp,ho,hz,Instr.sliceAt,run_underlying hu,Instr.sureAddr,hb,Y6,cY]
   refine fG hI hd hN (x:=.slice (some ⟨b,off,none⟩) h n) (.sl ?_) h8 run
   have hl:((cs.map λc=>[c]).take h).length=h:=by rw[oLT,List.length_map];omega
   have Z0:=io.sl (w:=w) (F:=G.F M.A) (c:=(cs.map λc=>[c]).take h) (a:=some ⟨b,off,none⟩) (cap:=n) 1 (λi _=>u i) (λi hi=>by simp) (by omega) (by unfold maxLen;omega) (λhn=>by cases hn) (λi j hi hj=>by
    rw[hl]at hi
    obtain rfl:j=0:=by omega
    have:=hc i (by omega);refine⟨b,off,rfl,this.1,?_⟩;rw[show off+(i*1+0)=off+i by omega]
    exact this.2) (λi j hi hj=>by
    have hi2:i<cs.length:=by rw[hl]at hi;omega
    have e1:((cs.map λc=>[c]).take h)[i]=[cs[i]]:=by simp
    have Vc:j=0:=by
     rw[e1]at hj;simpa using hj
    subst Vc
    have e2:((cs.map λc=>[c]).take h)[i][0]=cs[i]:=by simp
    rw[e2]
    exact(V8 i hi2).vs (ZX _ (List.getElem_mem hi2)))
   rw[hl]at Z0;exact Z0
 |_=>simp[SP.run]at h8
theorem Lx(hI:Inv M σ [] [] a.tmps w G){d sz:Nat}(hd:o.dst=some d)(hN:M.ok d){x:Opd}{x':Operand}{lo hi:Option Opd}{lo' ZT:Option Operand}{t e:TypeId}(hx:bK x'=some x)(VL:lo'.map bK=lo.map some)(Te:ZT.map bK=hi.map some)(ho:o.op=.slice t x' lo' ZT none)
 (hu:P.underlying t=some (.slice e))(hs:(P.info? e).map (·.size)=some sz)(hr:(ev1 d (.slc sz x lo hi)).run σ=some ((),σ')):jB P M σ' a o w:=by
 have Y6:(sizeOf e).run P w=.ok sz w:=by
  unfold sizeOf typeInfo
  cases hi:P.info? e with
  |none=>simp[hi]at hs
  |some i=>simp[hi]at hs;simp[hi,hs]
 simp only[ev1]at hr;obtain⟨tx,σ1,h1,h2⟩:=bG hr;obtain⟨rfl,Z2⟩:=cr hI.tmr hx h1;obtain⟨n,σ2,h3,h4⟩:=bG h2;obtain⟨rfl,hlen⟩:=qm (F:=G.F M.A) hI Z2 h3;obtain⟨l,σ3,h5,h6⟩:=bG h4;obtain⟨rfl,hl⟩:=ud (F:=G.F M.A) hI VL h5;obtain⟨h,σ4,h7,h8⟩:=bG h6;obtain⟨rfl,hh⟩:=ud (F:=G.F M.A) hI Te h7;split at h8
 case isFalse=>simp[SP.run]at h8
 rename_i Z9;simp only[oBA,oDE]at Z9;obtain⟨Qd,P5⟩:=Z9
 have run:∀(b:Option Addr)(cap:Nat),a.eval x'=.slice b n cap->n<=cap->(execOp a.eval o).run P w=.ok (.value (.slice (if cap=l then b else b.map (·.add (l*sz))) (h-l) (cap-l))) w:=by
  intro b cap W3 SD
  have hb:(Instr.sliceBounds true n cap (lo'.map a.eval) (ZT.map a.eval) none).run P w=.ok (l,h,cap) w:=by
   unfold Instr.sliceBounds
   rcases hh with⟨rfl,rfl⟩|⟨xh,kh,ih,rfl,eh,QV,rfl⟩
   ·rcases hl with⟨rfl,rfl⟩|⟨xl,kl,il,rfl,el,QW,rfl⟩
    ·simp
    ·have:=ky (P:=P) (w:=w) (code:=.sliceB) el QW Qd;simp[this]
   ·have Uc:=ky (P:=P) (w:=w) (y:=cap) (code:=.sliceAcap) eh QV (by omega)
    rcases hl with⟨rfl,rfl⟩|⟨xl,kl,il,rfl,el,QW,rfl⟩
    ·simp[Uc]
    ·have:=ky (P:=P) (w:=w) (code:=.sliceB) el QW Qd;simp[Uc,this]
  simp[execOp,ho,W3,Instr.sliceAt,run_underlying hu,Instr.slice,hb,Y6]
 have hcap:∀b n2 cap,a.eval x'=.slice b n2 cap->n2=n->n<=cap:=by
  intro b n2 cap e1 e2;obtain⟨aa,Z1,e3,h9⟩:=hlen
  rw[e1]at e3;injection e3 with _ _ e3;omega
 cases tx with
 |sl c=>
  simp only at h8;generalize hz:a.eval x'=z at Z2 run hcap
  cases Z2 with
  |sl ZM=>
   have Tf:=ZM
   cases ZM with
   | @sl _ aa cap sz' u hsz U8 hmax hnil hcell hrec=>
    have hn:n=c.length:=by
     simp only[jq,SP.run,oSJ,oPJ]at h3;exact h3.1.symm
    subst hn;split at h8
    case isFalse=>simp[SP.run]at h8
    rename_i ZX;simp only[List.all_eq_true,beq_iff_eq]at ZX;refine fG hI hd hN (x:=.slice (if cap=l then aa else aa.map (·.add (l*sz))) (h-l) (cap-l)) (.sl ?_) h8 (run _ _ rfl U8);refine Tf.window' sz l (h-l) (λi hi=>ZX _ (List.getElem_mem hi)) (by omega) (by omega) (by omega) (λhn=>?_) (λb ob hp e1=>?_)
    ·by_cases hc:cap=l
     ·omega
     ·rw[oIN hc]at hn
      have:aa=none:=by cases aa<;>simp at hn⊢
      have:=hnil this;omega
    ·rw[oIN (by omega),e1];simp[cY]
 |ow c=>
  obtain⟨rfl,ad,W3⟩:=Z2.ow_inv
  have hn:n=0:=by
   simp only[jq,SP.run,oSJ,oPJ]at h3;exact h3.1.symm
  subst hn;simp only at h8;have:=run ad 0 W3 (Nat.le_refl _)
  have WY:l=0:=by omega
  have hh0:h=0:=by omega
  subst WY;subst hh0;exact xP hI hd hN h8 (by simpa using this)
 |pk p vs=>
  simp only at h8;obtain⟨tt,σ5,h9,ZS⟩:=bG h8;obtain⟨e3,hg⟩:=cX h9;have e3:σ5=σ4:=e3;subst e3;simp only[jq]at h3;obtain⟨_,σ6,q1,q2⟩:=bG h3;have e1:σ6=σ5:=(bU q1).1;have e2:=(bU q1).2;subst e1;rw[tz]at q2;obtain⟨Sp,σ7,q3,q4⟩:=bG q2;obtain⟨e4,ZL⟩:=cX q3;generalize hz:a.eval x'=z at Z2 run hcap;have ht:=Z2
  cases Z2 with
  |pk V0 h0 hv hok=>
   obtain⟨Z8,c,ZP,ZN⟩:=hok e2
   have ZQ:b7 (σ6.c p.root p.off) p.hops=some (.ow c):=by rw[bW (by exact Z8)]at ZN;exact ZN
   rw[ZQ]at hg ZL
   injection hg with hg
   injection ZL with ZL
   subst hg;have ZL:TV.ow c=Sp:=ZL;subst ZL;simp only[TV.hd,SP.run,List.length_map,oSJ,oPJ]at q4;have hn:n=c.length:=q4.1.symm;subst hn;simp only at ZS;split at ZS
   case isFalse=>simp[SP.run]at ZS
   rename_i ZX;simp only[List.all_eq_true,beq_iff_eq]at ZX;obtain⟨fp,hown⟩:=nI hI ZP ZN;obtain⟨aa,cap,rfl,YN⟩:=hown.hdr;refine fG hI hd hN (x:=.slice (if cap=l then aa else aa.map (·.add (l*sz))) (h-l) (cap-l)) ?_ ZS (run _ _ rfl YN)
   have XK:cap<=maxLen:=by
    cases hown with
    |nil=>exact Nat.zero_le _
    |ow=>assumption
   refine .pw V0 h0 hv λ_=>⟨Z8,c,_,ZP,ZN,by omega,_,_,rfl,by omega,by omega,λhn=>?_,λi hi=>ZX _ (List.getElem_mem hi),λhp=>?_⟩
   ·by_cases hc:cap=l
    ·omega
    ·rw[oIN hc]at hn
     have:aa=none:=by cases aa<;>simp at hn⊢
     subst this;cases hown;omega
   ·rw[oIN (by omega)]
    cases hown with
    |nil=>
     simp at hp
    |ow=>exact⟨_,_,_,rfl,by simp[cY]⟩
 |pw p vs sz' lo0 n0=>
  simp only at h8;split at h8
  case isFalse=>simp[SP.run]at h8
  rename_i hsz;subst hsz;simp only[jq]at h3;obtain⟨_,σ6,q1,q2⟩:=bG h3;have e1:σ6=σ4:=(bU q1).1;have e2:=(bU q1).2;subst e1;simp only[SP.run,oSJ,oPJ]at q2;have hn:n=n0:=q2.1.symm;subst hn;generalize hz:a.eval x'=z at Z2 run hcap
  cases Z2 with
  |pw V0 h0 hv hok=>
   obtain⟨Z8,c,YD,ZP,ZN,X2,aa,cap,rfl,SC,XK,hnil,TM,Wu⟩:=hok e2;refine fG hI hd hN (x:=.slice (if cap=l then aa else aa.map (·.add (l*sz'))) (h-l) (cap-l)) ?_ h8 (run _ _ rfl SC.1);refine .pw V0 h0 hv λ_=>⟨Z8,c,YD,ZP,ZN,by omega,_,_,rfl,by omega,by omega,λhn=>?_,TM,λhp=>?_⟩
   ·by_cases hc:cap=l
    ·omega
    ·rw[oIN hc]at hn
     have:aa=none:=by cases aa<;>simp at hn⊢
     have:=hnil this;omega
   ·rw[oIN (by omega)];obtain⟨b,len,Z1,rfl,rfl⟩:=Wu (by omega);exact⟨b,len,Z1,rfl,by simp[cY,Nat.add_mul]⟩
 |_=>simp[SP.run]at h8
theorem nL(z:List Value)(n:Nat):madeCells z.toArray (n*z.length)=((List.replicate n z).flatten).toArray:=by
 apply Array.ext';apply List.ext_getElem?;intro k;unfold madeCells;by_cases h:k<n*z.length
 ·have hz:0<z.length:=by
   grind
  have h1:k/z.length<n:=Nat.div_lt_of_lt_mul (by grind);have h2:k%z.length<z.length:=Nat.mod_lt _ hz
  have hk:k=k/z.length*z.length+k%z.length:=by rw[Nat.mul_comm];exact(Nat.div_add_mod k z.length).symm
  have h3:=mE (c:=List.replicate n z) (sz:=z.length) (λi hi=>by simp) (by simpa using h1) (by simpa using h2);rw[<- hk]at h3
  have e:((Array.range (n*z.length)).map λx=>z.toArray[x%z.toArray.size]!).toList[k]?=some z[k%z.length]:=by
   simp[h,h2]
  rw[e];simpa using h3.symm
 ·simp_all
theorem LD(hI:Inv M σ [] [] a.tmps w G){d sz:Nat}{z:List Value}(hd:o.dst=some d)(hN:M.ok d){l c:Opd}{l' c':Operand}{t e:TypeId}{i:TypeInfo}{zv:Value}(hl:bK l'=some l)(hc:bK c'=some c)(ho:o.op=.makeSlice t l' c')
 (hu:P.underlying t=some (.slice e))(hi:P.info? e=some i)(hz:i.zero=some zv)(XE:zv.cells.toList=z)(hsz:i.size=sz)(Ym:i.bytes<=16777216*sz)(Zn:0<sz)(hr:(ev1 d (.mks sz z l c)).run σ=some ((),σ')):jB P M σ' a o w:=by
 subst hsz;simp only[ev1]at hr;split at hr
 case isFalse=>simp[SP.run]at hr
 rename_i Z9;simp only[oBA,beq_iff_eq]at Z9;obtain⟨hok,W4⟩:=Z9;obtain⟨t1,σ1,h1,h2⟩:=bG hr;obtain⟨rfl,Wp⟩:=cr hI.tmr hl h1;obtain⟨t2,σ2,h3,h4⟩:=bG h2;obtain⟨rfl,Zg⟩:=cr hI.tmr hc h3;obtain⟨n,σ3,h5,h6⟩:=bG h4;obtain⟨k1,i1,rfl,Xp,hn,rfl⟩:=ja h5;obtain⟨m,σ4,h7,h8⟩:=bG h6;obtain⟨k2,i2,rfl,UK,hm,rfl⟩:=ja h7;split at h8
 case isFalse=>simp[SP.run]at h8
 rename_i Z9;simp only[oBA,oDE]at Z9;obtain⟨RN,Xj⟩:=Z9;obtain⟨el,_⟩:=Wp.v_inv;obtain⟨ec,_⟩:=Zg.v_inv
 have RJ:n<=16777216:=by
  calc n=n*1:=by omega
   _<=n*i.size:=Nat.mul_le_mul_left _ Zn
   _<=16777216:=Xj
 have XN:(((List.replicate n z).flatten).map cf).all cq=true:=by
  rw[List.all_eq_true]at hok⊢;intro x hx;simp only[List.mem_map,List.mem_flatten,List.mem_replicate]at hx;obtain⟨y,⟨q,⟨_,rfl⟩,hy⟩,rfl⟩:=hx;exact hok _ (List.mem_map_of_mem hy)
 obtain⟨G1,g1⟩:=hI.addHandL XN;simp only[List.nil_append]at g1;have Zi:∀j (h:j<(((List.replicate n z).flatten).map cf).length),cq ((((List.replicate n z).flatten).map cf))[j]=true:=λj h=>List.all_eq_true.1 XN _ (List.getElem_mem h);obtain⟨G2,Z3,_,_⟩:=g1.1.mkSlice (c:=List.replicate n (z.map cf)) (sz:=i.size) e (λk hk=>by simp[W4]) (by rw[List.map_flatten,List.map_replicate]) (pH λj h=>.inl (Zi j h)) (by simp;unfold maxLen;omega);refine mD Z3 hd hN (λj hj=>?_) h8 (.inr ⟨rfl,_,rfl,rfl⟩) (w0:=w) ?_
 ·obtain rfl:j=0:=by simp at hj;omega
  exact .inr rfl
 ·have hbb:(i.bytes:Int)*i2<=281474976710656:=by
   have h9:i.bytes*n<=16777216*i.size*n:=Nat.mul_le_mul_right _ Ym
   have ZS:16777216*i.size*n=16777216*(n*i.size):=by rw[Nat.mul_assoc,Nat.mul_comm i.size n]
   have Xz:i.bytes*n<=281474976710656:=by rw[ZS]at h9;omega
   have U3:i2=(n:Int):=by omega
   rw[U3,<- Int.natCast_mul];exact Int.ofNat_le.2 Xz
  have hrun:=run_make (P:=P) w t e i zv hu hi hz k1 k2 i1 i2 Xp (by omega) hbb (by omega);have e1:i1.toNat=n:=hn.symm
  have e2:i2.toNat=n:=by omega
  have e3:zv.cells=z.toArray:=by rw[<- XE]
  rw[e1,e2,e3,<- W4,nL]at hrun;simp[execOp,ho,el,ec,hrun]
theorem yP{w:World}{F:Nat->Prop}{x:Value}(h1:cq (cf x)=true):fa w F (λ_=>False) (cf x) x:=by
 unfold cf at h1⊢;split
 ·exact .nil (by simp)
 ·split
  ·rename_i h;exact .v (by simp) h
  ·rename_i h
   have hh:cq TV.dead=true:=by simpa[h]using h1
   simp[cq]at hh
theorem Ez{t:TV}(h:cq t=true):cq t.imm=true:=by
 cases t<;>first|rfl|(simp[cq]at h;done)
theorem Iq{w:World}{F:Nat->Prop}{x:Value}(h1:cq (cf x)=true):fa w F (λ_=>False) (cf x).imm x:=by
 have h2:=yP (w:=w) (F:=F) h1;revert h2;generalize cf x=t at h1;intro h2
 cases h2 with
 |v hfp h=>exact .v hfp h
 |nil hfp=>exact .sl (c:=[]) hfp (io.sl (c:=[]) 0 (λ_ _=>undef) (λi h=>absurd h (Nat.not_lt_zero _)) (Nat.le_refl _) (by unfold maxLen;omega) (λ_=>rfl) (λi j h=>absurd h (Nat.not_lt_zero _)) (λi j h=>absurd h (Nat.not_lt_zero _)))
 |sl hfp h=>exact .sl hfp h
 |dead=>simp[cq]at h1
 |ow sz u f hfp=>exact((hfp _).2 (.inl rfl)).elim
theorem LE(hI:Inv M σ [] [] a.tmps w G){d sz:Nat}{z:List Value}(hd:o.dst=some d)(hN:M.ok d){l c:Opd}{l' c':Operand}{t e:TypeId}{i:TypeInfo}{zv:Value}(hl:bK l'=some l)(hc:bK c'=some c)(ho:o.op=.makeSlice t l' c')
 (hu:P.underlying t=some (.slice e))(hi:P.info? e=some i)(hz:i.zero=some zv)(XE:zv.cells.toList=z)(hsz:i.size=sz)(Ym:i.bytes<=16777216*sz)(Zn:0<sz)(hr:(ev1 d (.mki sz z l c)).run σ=some ((),σ')):jB P M σ' a o w:=by
 subst hsz;simp only[ev1]at hr;split at hr
 case isFalse=>simp[SP.run]at hr
 rename_i Z9;simp only[oBA,beq_iff_eq]at Z9;obtain⟨hok,W4⟩:=Z9;obtain⟨t1,σ1,h1,h2⟩:=bG hr;obtain⟨rfl,Wp⟩:=cr hI.tmr hl h1;obtain⟨t2,σ2,h3,h4⟩:=bG h2;obtain⟨rfl,Zg⟩:=cr hI.tmr hc h3;obtain⟨n,σ3,h5,h6⟩:=bG h4;obtain⟨k1,i1,rfl,Xp,hn,rfl⟩:=ja h5;obtain⟨m,σ4,h7,h8⟩:=bG h6;obtain⟨k2,i2,rfl,UK,hm,rfl⟩:=ja h7;split at h8
 case isFalse=>simp[SP.run]at h8
 rename_i Z9;simp only[oBA,oDE]at Z9;obtain⟨RN,Xj⟩:=Z9;obtain⟨el,_⟩:=Wp.v_inv;obtain⟨ec,_⟩:=Zg.v_inv
 have RJ:n<=16777216:=by
  calc n=n*1:=by omega
   _<=n*i.size:=Nat.mul_le_mul_left _ Zn
   _<=16777216:=Xj
 have W1:(((List.replicate n z).flatten).map cf).all cq=true:=by
  rw[List.all_eq_true]at hok⊢;intro x hx;simp only[List.mem_map,List.mem_flatten,List.mem_replicate]at hx;obtain⟨y,⟨q,⟨_,rfl⟩,hy⟩,rfl⟩:=hx;exact hok _ (List.mem_map_of_mem hy)
 have XN:(((List.replicate n z).flatten).map λx=>(cf x).imm).all cq=true:=by
  rw[List.all_eq_true]at W1⊢;intro x hx;obtain⟨y,hy,rfl⟩:=List.mem_map.1 hx;exact Ez (W1 _ (List.mem_map_of_mem hy))
 obtain⟨G1,g1⟩:=hI.addHandG (g:=λx=>(cf x).imm) (λw F x h=>Iq h) W1;simp only[List.nil_append]at g1;have Zi:∀j (h:j<(((List.replicate n z).flatten).map λx=>(cf x).imm).length),cq ((((List.replicate n z).flatten).map λx=>(cf x).imm))[j]=true:=λj h=>List.all_eq_true.1 XN _ (List.getElem_mem h);obtain⟨G2,Z3,_,_⟩:=g1.1.mkSlice (c:=List.replicate n (z.map λx=>(cf x).imm)) (sz:=i.size) e (λk hk=>by simp[W4]) (by rw[List.map_flatten,List.map_replicate]) (pH λj h=>.inl (Zi j h)) (by simp;unfold maxLen;omega);refine mD Z3 hd hN (λj hj=>?_) h8 (.inr ⟨rfl,_,rfl,rfl⟩) (w0:=w) ?_
 ·obtain rfl:j=0:=by simp at hj;omega
  exact .inr rfl
 ·have hbb:(i.bytes:Int)*i2<=281474976710656:=by
   have h9:i.bytes*n<=16777216*i.size*n:=Nat.mul_le_mul_right _ Ym
   have ZS:16777216*i.size*n=16777216*(n*i.size):=by rw[Nat.mul_assoc,Nat.mul_comm i.size n]
   have Xz:i.bytes*n<=281474976710656:=by rw[ZS]at h9;omega
   have U3:i2=(n:Int):=by omega
   rw[U3,<- Int.natCast_mul];exact Int.ofNat_le.2 Xz
  have hrun:=run_make (P:=P) w t e i zv hu hi hz k1 k2 i1 i2 Xp (by omega) hbb (by omega);have e1:i1.toNat=n:=hn.symm
  have e2:i2.toNat=n:=by omega
  have e3:zv.cells=z.toArray:=by rw[<- XE]
  rw[e1,e2,e3,<- W4,nL]at hrun;simp[execOp,ho,el,ec,hrun]
theorem rA{P:Program}(w:World)(t tn ty e:TypeId)(i:TypeInfo)(kn kq:IntKind)(ht:P.underlying t=some (.slice e))(WM:P.underlying tn=some (.int kn))(hi:P.info? e=some i)(s:Option Addr)(n cap:Nat)(hn:n<=cap):
 (Builtin.append_ #[t,tn] ty #[.slice s n cap,.int kq 0]).run P w=.ok (.slice s n cap) w:=by
 have hw:IntKind.i64.wrap 0=0:=rfl;cases s<;>simp[Builtin.append_,run_underlying ht,run_underlying WM,sizeOf,typeInfo,hi,asInt,asIntOf,hw,hn,storeCells]
theorem nG{P:Program}(w:World)(t tn ty e e':TypeId)(i:TypeInfo)(z:Value)(kn kq:IntKind)(ht:P.underlying t=some (.slice e))(WM:P.underlying tn=some (.int kn))(hi:P.info? e=some i)(hz:i.zero=some z)
 (g YT Xw:Nat)(cur:Array Value)(hg:w.heap[g]?=some (.cells cur e' (0,0)))(n:Nat)(h0:0<n)(hs:0<i.size)(hn:n<=1099511627776)(h48:n*i.bytes<=140737488355328)(h1:∀u∈(Builtin.zeroCells z.cells n).toList,u.oneCell'=true)
 (hroom:YT+n<=Xw)(Zl:YT*i.size+(Builtin.zeroCells z.cells n).toList.length<=cur.size):
 (Builtin.append_ #[t,tn] ty #[.slice (some ⟨g,0,none⟩) YT Xw,.int kq n]).run P w =
  .ok (.slice (some ⟨g,0,none⟩) (YT+n) Xw) (w.setRow g (cur.toList.take (YT*i.size)++(Builtin.zeroCells z.cells n).toList++cur.toList.drop (YT*i.size+(Builtin.zeroCells z.cells n).toList.length)).toArray):=by
 have hst:=run_storeCells_at P g (YT*i.size) e' (Builtin.zeroCells z.cells n).toList 0 cur w hg (by simpa using Zl) h1
 have hw:IntKind.i64.wrap (n:Int)=n:=by rw[IntKind.wrap_i64];omega
 have QZ:¬(281474976710656<(n:Int)*(i.bytes:Int)):=by
  rw[<- Int.natCast_mul];omega
 have UN:¬((n:Int)<0):=by omega
 have hns:¬(n*i.size=0):=Nat.mul_ne_zero (by omega) (by omega);simp only[Nat.add_zero]at hst;simp[Builtin.append_,run_underlying ht,run_underlying WM,sizeOf,typeInfo,zeroValue,hi,hz,asInt,asIntOf,hw,UN,hns,QZ,hroom,Addr.add_lit]at hst⊢;rw[hst];rfl
theorem Inv.appendz{P:Program}{H:List TV}{xs:List Value}{ts:Array Value}{w:World}{G:Gh}(hI:Inv M σ H xs ts w G){c:List (List TV)}{vS:Value}(t tn ty e:TypeId)(i:TypeInfo)(z:Value)(kn kq:IntKind)(n:Nat)
 (ZC:fa w (G.F M.A) (G.φ M.hr 0) (.ow c) vS)(hok:(z.cells.toList.map cf).all cq=true)
 (ht:P.underlying t=some (.slice e))(WM:P.underlying tn=some (.int kn))(hi:P.info? e=some i)(hz:i.zero=some z)(Y1:z.cells.size=i.size)(Z4:0<i.size)
 (YR:∀k (h:k<c.length),c[k].length=i.size)(ZR:c.length+n<=1099511627776)(ZZ:(c.length+n)*i.bytes<=140737488355328):
 ∃v' w' G',(Builtin.append_ #[t,tn] ty #[vS,.int kq n]).run P w=.ok v' w'/\Inv M σ [.ow (c++List.replicate n (z.cells.toList.map cf))] [v'] ts w' G'/\ij M w σ H G w' σ [.ow (c++List.replicate n (z.cells.toList.map cf))] G'/\G'.β=G.β:=by
 have hz0:Builtin.zeroCells z.cells n=((List.replicate n z.cells.toList).flatten).toArray:=by
  have:=nL z.cells.toList n;rw[<- this];simp[Builtin.zeroCells,madeCells]
 have W4:(Builtin.zeroCells z.cells n).toList=(List.replicate n z.cells.toList).flatten:=by rw[hz0]
 have hcell:∀k j (hk:k<n)(hj:j<i.size),((List.replicate n z.cells.toList).flatten)[k*i.size+j]?=some (z.cells.toList[j]'(by simpa[Y1]using hj)):=λk j hk hj=>by
  have h3:=mE (c:=List.replicate n z.cells.toList) (sz:=i.size) (λq hq=>by simp[Y1]) (i:=k) (j:=j) (by simpa using hk) (by simpa[Y1]using hj);simpa using h3
 have Tp:∀u∈(List.replicate n z.cells.toList).flatten,cq (cf u)=true:=λu hu=>by
  simp only[List.mem_flatten,List.mem_replicate]at hu;obtain⟨y,⟨_,rfl⟩,hy⟩:=hu;exact List.all_eq_true.1 hok _ (List.mem_map_of_mem hy)
 have Zt:∀u∈(List.replicate n z.cells.toList).flatten,u.oneCell'=true:=λu hu=>(yP (w:=w) (F:=λ_=>True) (Tp u hu)).one
 have S8:((List.replicate n z.cells.toList).flatten).length=n*i.size:=by simp[Y1]
 have XK:c.length+n<=9223372036854775807:=by omega
 have hbn:n*i.bytes<=140737488355328:=Nat.le_trans (Nat.mul_le_mul_right _ (by omega)) ZZ;have UL:(List.replicate n (z.cells.toList.map cf)).length=n:=List.length_replicate;refine hI.append1 (c:=c) (c2:=List.replicate n (z.cells.toList.map cf)) (news:=(List.replicate n z.cells.toList).flatten) (g:=λ_ _ _=>False) e i z _ ZC ⟨by rw[UL,S8],λk j hk hj=>?_,λ_ _ _ h=>h.elim,λ_ _ _ _ _ h _=>h.elim,Zt⟩ Y1 YR (λk h=>by simp[Y1]) (by rw[UL];exact ZR) ?_ ?_ ?_ ?_
 ·rw[UL]at hk
  have ZY:j<i.size:=by simpa[Y1]using hj
  rw[oGD,hcell k j hk ZY]
  have e1:(List.replicate n (z.cells.toList.map cf))[k][j]=cf (z.cells.toList[j]'(by simpa[Y1]using ZY)):=by simp
  rw[e1];exact yP (List.all_eq_true.1 hok _ (List.mem_map_of_mem (List.getElem_mem _)))
 ·rw[UL];intro h0 a cap hn ev;subst ev;subst h0;exact rA w t tn ty e i kn kq ht WM hi a c.length cap hn
 ·rw[UL];intro h0 b cap cur e' ev hb hroom Zl;subst ev;have:=nG (P:=P) w t tn ty e e' i z kn kq ht WM hi hz b c.length cap cur hb n h0 Z4 (by omega) hbn (by rw[W4];exact Zt) hroom (by rw[W4];exact Zl);rw[W4]at this;exact this
 ·rw[UL];intro h0 a cap vals ev YX XQ hg;subst ev;have ZA:=run_firstCells_some (P:=P) w.drew i.size c.length a c.length cap vals YX (by simpa using XQ);have:=Go.Lib.run_append_grow_zeros (P:=P) w t tn ty e i z kq kn ht WM hi hz (some a) c.length cap vals ZA n h0 Z4 hg (by omega) (by omega) (growslice_fits hg ZZ);rw[hz0]at this;exact this
 ·rw[UL];intro h0 ev;subst ev;have:=Go.Lib.run_append_nil_zeros (P:=P) w t tn ty e i z kq kn ht WM hi hz n h0 Z4 (by omega) (by omega);rw[hz0]at this;exact this
theorem LV(hI:Inv M σ [] [] a.tmps w G){d sz bytes:Nat}{zs:List Value}(hd:o.dst=some d)(hN:M.ok d){s x:Opd}{s' x':Operand}{t tn e:TypeId}{kn:IntKind}{i:TypeInfo}{z:Value}(hs:bK s'=some s)(hx:bK x'=some x)
 (ho:o.op=.call { callee:=.builtin .append,args:=#[s',x'],argTypes:=#[t,tn] })(hu:P.underlying t=some (.slice e))(WM:P.underlying tn=some (.int kn))(hi:P.info? e=some i)(hz:i.zero=some z)(XE:z.cells.toList=zs)(hsz:i.size=sz)(Ym:i.bytes=bytes)(Z4:0<sz)
 (hr:(ev1 d (.apz sz bytes zs s x)).run σ=some ((),σ')):jB P M σ' a o w:=by
 subst hsz;subst Ym;subst XE;simp only[ev1]at hr;split at hr
 case isFalse=>simp[SP.run]at hr
 rename_i Z9;simp only[oBA,beq_iff_eq]at Z9;obtain⟨hok,W4⟩:=Z9;obtain⟨t1,σ1,h1,h2⟩:=bG hr;obtain⟨rfl,YR⟩:=cr hI.tmr hs h1;obtain⟨t2,σ2,h3,h4⟩:=bG h2;obtain⟨rfl,Z2⟩:=cr hI.tmr hx h3;obtain⟨n,σ3,h5,h6⟩:=bG h4;obtain⟨k1,i1,rfl,Xp,hn,rfl⟩:=ja h5;obtain⟨ex,_⟩:=Z2.v_inv;obtain⟨sv,σ4,h7,h8⟩:=bG h6;obtain⟨G1,g1,_⟩:=fK hI YR h7;unfold IU at h8
 cases sv with
 |ow c=>
  simp only at h8;split at h8
  case isFalse=>simp[SP.run]at h8
  rename_i Z9;simp only[oBA,oDE,List.all_eq_true,beq_iff_eq,List.length_replicate]at Z9;obtain⟨⟨ZX,ZR⟩,ZZ⟩:=Z9;have ZC:=g1.1.hand_own (j:=0) (by simp) (by simp);simp only[List.nil_append,List.getElem_cons_zero,List.getD_cons_zero]at ZC;obtain⟨v',w',G',hrun,ZK,_,_⟩:=g1.1.appendz (P:=P) t tn o.type e i z kn k1 n ZC hok hu WM hi hz (by simpa using W4) Z4 (λk h=>ZX _ (List.mem_append_left _ (List.getElem_mem h))) ZR ZZ
  have e1:i1=(n:Int):=by omega
  rw[<- e1]at hrun;refine mD ZK hd hN (λj hj=>?_) h8 (.inr ⟨rfl,v',rfl,rfl⟩) (w0:=w) ?_
  ·obtain rfl:j=0:=by simp at hj;omega
   exact .inr rfl
  ·simp[execOp,ho,resolve,invoke,builtin,ex,hrun]
 |_=>simp[SP.run]at h8
theorem LH(hI:Inv M σ [] [] a.tmps w G){d:Nat}(hd:o.dst=some d)(hN:M.ok d){x i:Opd}{x' i':Operand}{t:TypeId}(hx:bK x'=some x)(hi:bK i'=some i)(ho:o.op=.index t x' i')(hu:P.underlying t=some .string)(hr:(ev1 d (.ixs x i)).run σ=some ((),σ')):jB P M σ' a o w:=by
 simp only[ev1]at hr;obtain⟨tx,σ1,h1,h2⟩:=bG hr;obtain⟨rfl,Z2⟩:=cr hI.tmr hx h1;obtain⟨ti,σ2,h3,h4⟩:=bG h2;obtain⟨rfl,VH⟩:=cr hI.tmr hi h3;obtain⟨k,σ3,h5,h6⟩:=bG h4;obtain⟨ik,n,rfl,Xp,hk,rfl⟩:=ja h5;obtain⟨ei,_⟩:=VH.v_inv
 cases tx with
 |v y=>
  obtain⟨ex,_⟩:=Z2.v_inv
  cases y with
  |string s=>
   simp only at h6
   cases hb:s[k]? with
   |none=>simp[hb,SP.run]at h6
   |some b=>
    simp only[hb]at h6;subst hk;exact fG hI hd hN (.v rfl) h6 (by simp[execOp,ho,ex,ei,Instr.index,asIntOf,run_underlying hu,Xp,hb])
  |_=>simp[SP.run]at h6
 |_=>simp[SP.run]at h6
theorem Hh{β:Type}{f:Opd->SP β}{R:β->Operand->Prop}(hf:∀x x' y σ',bK x'=some x->(f x).run σ=some (y,σ')->σ'=σ/\R y x'):∀{l:List Opd}{l':List Operand}{r:List β}{σ':St},l'.map bK=l.map some->(Nl f l).run σ=some (r,σ')->
 σ'=σ/\r.length=l'.length/\∀k (h:k<r.length)(h':k<l'.length),R r[k] l'[k]:=by
 intro l
 induction l with
 |nil=>
  intro l' r σ' h1 h2;simp only[Nl,SP.run,oSJ,oPJ]at h2
  simp_all
 |cons x l ih=>
  intro l' r σ' h1 h2
  cases l' with
  |nil=>simp at h1
  |cons x' l'=>
   simp at h1;obtain⟨y,σ1,h3,h4⟩:=bG h2;obtain⟨rfl,hy⟩:=hf x x' y σ1 h1.1 h3;obtain⟨r2,σ2,h5,h6⟩:=bG h4;obtain⟨rfl,rfl⟩:=h6;obtain⟨e1,e2,e3⟩:=ih h1.2 h5;refine⟨e1,by simp[e2],λk h h'=>?_⟩
   cases k with
   |zero=>exact hy
   |succ k=>exact e3 k (by simp_all) (by simp_all)
theorem LF(hI:Inv M σ [] [] a.tmps w G){d:Nat}(hd:o.dst=some d)(hN:M.ok d){f:FuncId}{caps:List Opd}{XF:Array Operand}(hc:XF.toList.map bK=caps.map some)(ho:o.op=.makeFunc (.func f) #[] XF)(hr:(ev1 d (.mkf f caps)).run σ=some ((),σ')):jB P M σ' a o w:=by
 simp only[ev1]at hr;obtain⟨l,σ1,h1,h2⟩:=bG hr
 obtain⟨rfl,e2,e3⟩:=Hh (R:=λy x'=>TmR w (G.F M.A) σ.v (b5 M σ []) G y (a.eval x')) (λx x' y σ' hx hy=>by
  obtain⟨t,σ2,q1,q2⟩:=bG hy;obtain⟨rfl,ht⟩:=cr hI.tmr hx q1
  cases t<;>simp only[SP.run,oSJ,oPJ]at q2<;>first|(obtain⟨rfl,rfl⟩:=q2;exact⟨rfl,ht⟩)|simp at q2) hc h1
 refine fG hI hd hN (x:=.func (.func f) #[] (XF.map a.eval)) (.fn (by simp[e2]) λj hj=>?_) h2 (by simp[execOp,ho,Instr.makeFunc]);have:=e3 j hj (by omega)
 have Vc:j<XF.toList.length:=by omega
 have ZY:j<XF.size:=by simpa using Vc
 simpa[ZY]using this
end
end Go.Proofs.YtakfoejcjdcgbaaGreat
