/- Part of the proof; no condition. -/
import Derived.Calls
import Derived.Below
import Derived.Laws.AppendOwnNone
import Derived.Laws.IdiomCopy
import Derived.Laws.MakeOwn
import Derived.Laws.StructEq
set_option linter.unusedVariables false
set_option linter.unusedSimpArgs false
namespace Go.Proofs.YtabfnmgabblofaaGreat
open Go.RowKit
theorem oBS{α β:Type _}(a:α)(f:α->Option β):(some a).bind f=f a:=rfl
theorem oSJ{α:Type _}(a b:α):(some a=some b)=(a=b):=Option.some.injEq a b
theorem oGE{α:Type _}{l:List α}{i:Nat}(h:i<l.length):l[i]?=some l[i]:=List.getElem?_eq_getElem h
theorem oPJ{α β:Type _}(a:α)(b:β)(c:α)(d:β):((a,b)=(c,d))=(a=c/\b=d):=Prod.mk.injEq a b c d
theorem oGS{α:Type _}{l:List α}{i:Nat}{a:α}:l[i]?=some a->∃h:i<l.length,l[i]=a:=List.getElem?_eq_some_iff.1
theorem oDT{p:Prop}[i:Decidable p](h:p):decide p=true:=decide_eq_true h
theorem oDF{p:Prop}[i:Decidable p](h:¬p):decide p=false:=decide_eq_false h
theorem oDE{p:Prop}[i:Decidable p]:(decide p=true)=p:=decide_eq_true_eq
theorem oCT{α:Sort _}(a b:α):cond true a b=a:=rfl
theorem oCF{α:Sort _}(a b:α):cond false a b=b:=rfl
theorem oBA(a b:Bool):((a&&b)=true)=(a=true/\b=true):=Bool.and_eq_true a b
theorem oGD{α:Type _}{l:List α}{i:Nat}{a:α}:l.getD i a=l[i]?.getD a:=List.getD_eq_getElem?_getD ..
theorem oLC{α:Type _}{a:α}{l:List α}:(a::l).length=l.length+1:=List.length_cons ..
theorem oMS{α β:Type _}(a:α)(f:α->β):(some a).map f=some (f a):=rfl
theorem oLT{α:Type _}{i:Nat}{l:List α}:(l.take i).length=min i l.length:=List.length_take ..
theorem oTN(n:Nat):((n:Int)).toNat=n:=rfl
theorem oNT:(!true)=false:=rfl
theorem oBF{α:Type _}[BEq α][LawfulBEq α]{a b:α}:a≠b->(a==b)=false:=beq_eq_false_iff_ne.2
theorem oEN{α:Type _}{l:List α}(h:l.length=0):l=[]:=List.eq_nil_of_length_eq_zero h
theorem oGN{α:Type _}{l:List α}{i:Nat}(h:l.length<=i):l[i]?=none:=List.getElem?_eq_none h
theorem oLM{α:Type _}{f:α->α}{l:List α}{i:Nat}:(l.modify i f).length=l.length:=List.length_modify ..
theorem oIP{c:Prop}{h:Decidable c}(hc:c){α:Sort _}{t e:α}:ite c t e=t:=if_pos hc
theorem oIN{c:Prop}{h:Decidable c}(hc:¬c){α:Sort _}{t e:α}:ite c t e=e:=if_neg hc
theorem oAE{α:Type _}{p:α->Bool}{l:List α}:l.all p=true↔∀x∈l,p x=true:=List.all_eq_true
theorem oGM{α:Type _}(f:α->α)(i:Nat)(l:List α)(j:Nat):(l.modify i f)[j]?=Functor.map (λa=>if i=j then f a else a) l[j]?:=List.getElem?_modify ..
theorem oEG{α:Type _}{a b:List α}(h:∀i:Nat,a[i]?=b[i]?):a=b:=List.ext_getElem? h
theorem oLA{α:Type _}{a b:List α}:(a++b).length=a.length+b.length:=List.length_append
theorem oGP{α β:Type _}{f:α->β}{l:List α}{i:Nat}:(l.map f)[i]?=l[i]?.map f:=List.getElem?_map
theorem oMC{α:Type _}{a b:α}{l:List α}:a∈b::l↔a=b\/a∈l:=List.mem_cons
theorem oLP{α β:Type _}{l:List α}(f:α->β):(l.map f).length=l.length:=List.length_map ..
theorem oGX{α:Type _}{l:List α}{n:Nat}(h:n<l.length):l[n]∈l:=List.getElem_mem h
theorem oAL{α:Type _}{a b:List α}{n:Nat}(h:n<a.length):(a++b)[n]?=a[n]?:=List.getElem?_append_left h
theorem oAR{α:Type _}{a b:List α}{n:Nat}(h:a.length<=n):(a++b)[n]?=b[n-a.length]?:=List.getElem?_append_right h
theorem oMA{α:Type _}{x:α}{a b:List α}:x∈a++b↔x∈a\/x∈b:=List.mem_append
theorem oPC{α β:Type _}{f:α->β}{a:α}{l:List α}:(a::l).map f=f a::l.map f:=rfl
theorem oLS{α:Type _}{l:List α}{i:Nat}{a:α}:(l.set i a).length=l.length:=List.length_set
theorem oNA{α:Type _}(l:List α):[]++l=l:=rfl
theorem oLN{α:Type _}:([]:List α).length=0:=rfl
theorem oTE{a b:Int}(h:0<=a):a.tmod b=a%b:=Int.tmod_eq_emod_of_nonneg h
theorem oAG{α:Type _}{l:Array α}{i:Nat}{d:α}:l.getD i d=l[i]?.getD d:=Array.getD_eq_getD_getElem? ..
theorem oBN{α:Type _}[BEq α][LawfulBEq α](a:α):(a != a)=false:=bne_self_eq_false a
theorem oPM{α β γ:Type _}{g:β->γ}{f:α->β}{l:List α}:(l.map f).map g=l.map (g ∘ f):=List.map_map
theorem oLE(n:Nat):n<=n:=Nat.le_refl n
theorem gr{α:Type _}(l:List α)(i:Nat)(h:i<l.length):∃x,l[i]?=some x:=⟨_,oGE h⟩
abbrev Hop:=Nat×Nat×Nat
abbrev L_:=List Hop
structure gf where
 root:Nat
 off:Nat
 hops:L_
inductive TV where
 |v (x:Value)
 |sl (c:List (List TV))
 |ow (c:List (List TV))
 |dead
 |ptr (p:gf) (vs:List Nat)
 |ip (cs:List TV)
 |pk (p:gf) (vs:List Nat)
 |pw (p:gf) (vs:List Nat) (sz lo n:Nat)
 |agg (l:List TV)
 |tup (l:List TV)
 |fn (f:FuncId) (cap:List TV)
def kn:Value->Bool|.bool _|.int _ _|.string _|.pointer none|.nilFunc|.nilIface=>true|_=>false
theorem wQ{x:Value}(h:kn x=true):x.oneCell'=true:=by cases x<;>simp_all [kn,Value.oneCell']
abbrev U_:=List TV
abbrev o_:=List U_
mutual
def TV.imm:TV->TV|.ow c=>.sl (pO c)|.v x=>.v x|.sl c=>.sl c|.dead=>.dead|.ptr p vs=>.ptr p vs|.ip cs=>.ip cs|.pk p vs=>.pk p vs|.pw p vs sz lo n=>.pw p vs sz lo n|.agg l=>.agg (jl l)|.tup l=>.tup (jl l)|.fn f cap=>.fn f cap
def jl:U_->U_| []=>[]|x::r=>x.imm::jl r
def pO:o_->o_| []=>[]|x::r=>jl x::pO r
end
theorem rT(l:U_):jl l=l.map TV.imm:=by induction l with|nil=>rfl|cons x r ih=>simp[jl,ih]
theorem vq(l:o_):pO l=l.map (λe=>e.map TV.imm):=by induction l with|nil=>rfl|cons x r ih=>simp[pO,ih,rT]
theorem qu(c:o_):(TV.ow c).imm=.sl (c.map (λe=>e.map TV.imm)):=by simp[TV.imm,vq]
inductive ru (w:World)(F:Nat->Prop):TV->Value->Prop
 |v {x:Value} (h:kn x=true):ru w F (.v x) x
 |dead {x:Value} (h:x.oneCell'=true):ru w F .dead x
 |sl {c:List (List TV)} {a:Option Addr} {cap:Nat} (sz:Nat) (u:Nat->Nat->Value)
  (hsz:∀i (h:i<c.length),c[i].length=sz)(hcap:c.length<=cap)(hmax:cap<=maxLen)(hnil:a=none->cap=0)
  (hcell:∀i j,i<c.length->j<sz->∃b o,a=some ⟨b,o,none⟩/\F b/\w.cell? ⟨b,o+(i*sz+j),none⟩=some (u i j))
  (hrec:∀i j (h:i<c.length)(h':j<c[i].length),ru w F (c[i][j]) (u i j)):
  ru w F (.sl c) (.slice a c.length cap)
theorem ru.one{w:World}{F:Nat->Prop}{t:TV}{x:Value}(h:ru w F t x):x.oneCell'=true:=by cases h with|v h=>exact wQ h|dead h=>exact h|sl=>rfl
theorem ru.frame{w w':World}{F F':Nat->Prop}{t:TV}{x:Value}(h:ru w F t x)(hw:∀k,F k->k<w.heap.size->w'.heap[k]?=w.heap[k]?)(hF:∀k,F k->k<w.heap.size->F' k):ru w' F' t x:=by induction h with|v h=>exact .v h|dead h=>exact .dead h|sl sz u hsz hcap hmax hnil hcell hrec ih=>refine .sl sz u hsz hcap hmax hnil (λi j hi hj=>?_) ih;obtain⟨b,o,e,hb,hc⟩:=hcell i j hi hj;have hlt:=World.block_lt_of_cell? w _ hc;exact⟨b,o,e,hF b hb hlt,by rw[World.cell?_of_block (w:=w) (hw b hb hlt)];exact hc⟩
inductive jD (w:World)(F:Nat->Prop):(Nat->Prop)->TV->Value->Prop
 |v {fp:Nat->Prop} {x:Value} (hfp:∀k,¬fp k) (h:kn x=true):jD w F fp (.v x) x
 |dead {fp:Nat->Prop} {x:Value} (hfp:∀k,¬fp k) (h:x.oneCell'=true):jD w F fp .dead x
 |sl {fp:Nat->Prop} {c:List (List TV)} {x:Value} (hfp:∀k,¬fp k) (h:ru w F (.sl c) x):jD w F fp (.sl c) x
 |nil {fp:Nat->Prop} {a:Option Addr} (hfp:∀k,¬fp k):jD w F fp (.ow []) (.slice a 0 0)
 |ow {fp:Nat->Prop} {c:List (List TV)} {b cap:Nat} {cur:Array Value} {e:TypeId} (sz:Nat) (u:Nat->Nat->Value) (f:Nat->Nat->Nat->Prop)
  (hfp:∀k,fp k↔k=b\/∃i j,i<c.length/\j<sz/\f i j k)
  (hb:w.heap[b]?=some (.cells cur e (0,0)))
  (hsz:∀i (h:i<c.length),c[i].length=sz)(hcap:c.length<=cap)(hz0:c.length=0->cap=0)(hmax:cap<=maxLen)(hcur:cur.size=cap*sz)
  (hcell:∀i j,i<c.length->j<sz->cur[i*sz+j]?=some (u i j))
  (hrec:∀i j (h:i<c.length)(h':j<c[i].length),jD w F (f i j) (c[i][j]) (u i j))
  (hnb:∀i j,¬f i j b)
  (hdis:∀i j i' j' k,f i j k->f i' j' k->i=i'/\j=j'):
  jD w F fp (.ow c) (.slice (some ⟨b,0,none⟩) c.length cap)
theorem jD.one{w:World}{F fp:Nat->Prop}{t:TV}{x:Value}(h:jD w F fp t x):x.oneCell'=true:=by cases h with|v _ h=>exact wQ h|dead _ h=>exact h|sl _ h=>exact h.one|nil=>rfl|ow=>rfl
theorem jD.live{w:World}{F fp:Nat->Prop}{t:TV}{x:Value}(h:jD w F fp t x):∀k,fp k->k<w.heap.size:=by induction h with|v hfp=>exact λk hk=>(hfp k hk).elim|dead hfp=>exact λk hk=>(hfp k hk).elim|sl hfp=>exact λk hk=>(hfp k hk).elim|nil hfp=>exact λk hk=>(hfp k hk).elim|ow sz u f hfp hb hsz hcap hz0 hmax hcur hcell hrec hnb hdis ih=>intro k hk;rcases(hfp k).1 hk with rfl|⟨i,j,hi,hj,hf⟩;rcases Nat.lt_or_ge k w.heap.size with h|h;exact h;simp[Array.getElem?_eq_none h]at hb;exact ih i j hi (by rw[hsz i hi];exact hj) k hf
theorem jD.frame{w w':World}{F F' fp:Nat->Prop}{t:TV}{x:Value}(h:jD w F fp t x)(hp:∀k,fp k->w'.heap[k]?=w.heap[k]?) (hw:∀k,F k->k<w.heap.size->w'.heap[k]?=w.heap[k]?)(hF:∀k,F k->k<w.heap.size->F' k):jD w' F' fp t x:=by induction h with|v hfp h=>exact .v hfp h|dead hfp h=>exact .dead hfp h|sl hfp h=>exact .sl hfp (h.frame hw hF)|nil hfp=>exact .nil hfp|ow sz u f hfp hb hsz hcap hz0 hmax hcur hcell hrec hnb hdis ih=>exact .ow sz u f hfp ((hp _ ((hfp _).2 (.inl rfl))).trans hb) hsz hcap hz0 hmax hcur hcell (λi j hi hj=>ih i j hi hj λk hk=>hp k ((hfp k).2 (.inr ⟨i,j,hi,by rw[<- hsz i hi];exact hj,hk⟩))) hnb hdis
theorem jD.refp{w:World}{F fp fp':Nat->Prop}{t:TV}{x:Value}(h:jD w F fp t x)(he:∀k,fp k↔fp' k):jD w F fp' t x:=by have e:fp=fp':=funext λk=>propext (he k);exact e▸h
theorem jD.share{w:World}{F fp:Nat->Prop}{t:TV}{x:Value}(h:jD w F fp t x):ru w (λk=>F k\/fp k) t.imm x\/∃l,t=.agg l:=by
 induction h with
 |v hfp h=>exact .inl (.v h)|dead hfp h=>exact .inl (.dead h)|sl hfp h=>exact .inl (h.frame (λ_ _ _=>rfl) λk hk _=>.inl hk)|nil hfp=>exact .inl (.sl (c:=[]) 0 (λ_ _=>.nilFunc) (by simp) (by simp) (by simp) (λ_=>rfl) (by simp) (by simp))| @ow fp c b cap cur e sz u f hfp hb hsz hcap hz0 hmax hcur hcell hrec hnb hdis ih=>
 refine .inl ?_;rw[qu];have hl:c.length=(c.map λe=>e.map TV.imm).length:=by simp
 rw[hl];refine .sl sz u (by simpa using hsz) (by simpa using hcap) hmax (by simp) (λi j hi hj=>⟨b,0,rfl,.inr ((hfp b).2 (.inl rfl)),?_⟩) (λi j hi hj=>?_);have:=hcell i j (by simpa using hi) hj;rw[cell_of_row w b _ _ _ _ hb,Nat.zero_add];exact this;have Zk:i<c.length:=by simpa using hi
 have ZO:j<c[i].length:=by simpa using hj
 rcases ih i j Zk ZO with h|⟨l,hl⟩;have:=h.frame (w':=w) (F':=λk=>F k\/fp k) (λ_ _ _=>rfl) (λk hk _=>by rcases hk with hk|hk;exact .inl hk;exact .inr ((hfp k).2 (.inr ⟨i,j,Zk,by rw[<- hsz i Zk];exact ZO,hk⟩)));simpa using this;have h3:=hrec i j Zk ZO;rw[hl]at h3;cases h3
theorem jD.share'{w:World}{F fp:Nat->Prop}{t:TV}{x:Value}(h:jD w F fp t x):ru w (λk=>F k\/fp k) t.imm x:=by rcases h.share with h1|⟨l,rfl⟩;exact h1;cases h
theorem ru.toOwn{w:World}{F:Nat->Prop}{t:TV}{x:Value}(h:ru w F t x):jD w F (λ_=>False) t x:=by cases h with|v h=>exact .v (by simp) h|dead h=>exact .dead (by simp) h|sl sz u hsz hcap hmax hnil hcell hrec=>exact .sl (by simp) (.sl sz u hsz hcap hmax hnil hcell hrec)
def gE:TV->L_->Option TV
 |t,[]=>some t|.ow c,(i,sz,o)::hs=>
 match c[i]? with
  |some el=>if el.length=sz then(match el[o]? with|some t=>gE t hs|none=>none)else none
  |none=>none
 |_,_::_=>none
def iH:TV->L_->TV->TV|_,[],t=>t|.ow c,(i,sz,o)::hs,t=>.ow (c.modify i λel=>el.modify o λt1=>iH t1 hs t)|t0,_::_,_=>t0
def Vv:TV->L_->Option U_
 |_,[]=>none|.ow c,[(i,sz,o)]=>match c[i]? with|some el=>if el.length=sz then some (el.drop o)else none|none=>none
 |.ow c,(i,sz,o)::hs=>
 match c[i]? with
  |some el=>if el.length=sz then(match el[o]? with|some t=>Vv t hs|none=>none)else none
  |none=>none
 |_,_::_=>none
abbrev t_:=Option Addr
def gK(w:World):Value->L_->t_
 |.slice (some a) n _,[(i,sz,o)]=>if i<n then some ⟨a.block,a.off+(i*sz+o),none⟩else none|.slice (some a) n _,(i,sz,o)::h::hs=>if i<n then(match w.cell? ⟨a.block,a.off+(i*sz+o),none⟩with|some x=>gK w x (h::hs)|none=>none)else none
 |_,_=>none
abbrev r_:=Option Value
def hvT(w:World)(x:Value)(hs:L_):r_:=match hs with| []=>some x|_=>(gK w x hs).bind w.cell?
theorem iX{t:TV}{i sz o:Nat}{hs:L_}{t1:TV}(h:gE t ((i,sz,o)::hs)=some t1):∃c el t2,t=.ow c/\c[i]?=some el/\el.length=sz/\el[o]?=some t2/\gE t2 hs=some t1:=by
 cases t with
 |ow c=>
 simp[gE]at h;cases hc:c[i]? with
  |none=>simp_all|some el=>
  split at h;rename_i hz;cases ho:el[o]? with|none=>simp_all|some t2=>simp_all
  simp at h
 |_=>simp[gE]at h
theorem mj{w:World}{x:Value}{hs:L_}{ad:Addr}{u:Value}(h:gK w x hs=some ad)(hc:w.cell? ad=some u):hvT w x hs=some u:=by cases hs with|nil=>cases x<;>simp[gK]at h|cons a r=>simp[hvT,h,hc]
theorem gF(w:World)(a:Addr)(x:Value){k:Nat}(h:k≠a.block):(w.setCell a x).heap[k]?=w.heap[k]?:=Below.heap_setCell w a x k h
abbrev s_:=Array Value
theorem m8(w:World)(b o:Nat)(x:Value){cur:s_}{e:TypeId}{fz:Nat×Nat}(hb:w.heap[b]?=some (.cells cur e fz)):(w.setCell ⟨b,o,none⟩ x).heap[b]?=some (.cells (cur.setIfInBounds o x) e fz):=by simp only[World.setCell,Array.getElem?_modify,hb];rfl
theorem OS{sz i j i' j':Nat}(hj:j<sz)(ZO:j'<sz)(h:i*sz+j=i'*sz+j'):i=i'/\j=j':=by
 have h1:(i*sz+j)/sz=i:=by rw[Nat.mul_comm,Nat.mul_add_div (by omega)];simp[Nat.div_eq_of_lt hj]
 have h2:(i'*sz+j')/sz=i':=by rw[Nat.mul_comm,Nat.mul_add_div (by omega)];simp[Nat.div_eq_of_lt ZO]
 simp_all
theorem lens{hops:L_}:∀{w:World}{F fp:Nat->Prop}{tv t:TV}{x:Value},jD w F fp tv x->hops≠[]->gE tv hops=some t ->∃ad u Zt,gK w x hops=some ad/\ad.spot=none/\w.cell? ad=some u/\w.frozen? ad=false/\jD w F Zt t u/\(∀k,Zt k->fp k)/\fp ad.block/\¬Zt ad.block /\∀(w':World)(F':Nat->Prop)(t':TV)(u':Value)(ZG:Nat->Prop),(∀k,fp k->¬Zt k->w'.heap[k]?=(w.setCell ad u').heap[k]?)->(∀k,F k->k<w.heap.size->w'.heap[k]?=w.heap[k]?)->(∀k,F k->k<w.heap.size->F' k)->jD w' F' ZG t' u'->(∀k,ZG k->¬(fp k/\¬Zt k))->jD w' F' (λk=>(fp k/\¬Zt k)\/ZG k) (iH tv hops t') x:=by
 induction hops with
 |nil=>intro _ _ _ _ _ _ _ h _;exact absurd rfl h|cons hop hs ih=>
 obtain⟨i,sz',o⟩:=hop;intro w F fp tv t x hown _ hget0;obtain⟨c,el,t2,rfl,hc,hz,ho,Z3⟩:=iX hget0;subst hz;cases hown with
 |nil hfp=>simp at hc| @ow _ _ b cap cur e sz u f hfp hb hsz hcap hz0 hmax hcur hcell hrec hnb hdis=>
 obtain⟨hi,YT⟩:=oGS hc;obtain⟨Zv,YP⟩:=oGS ho;have hszi:el.length=sz:=by rw[<- YT];exact hsz i hi
 have Xa:o<sz:=by omega
 have hrio:jD w F (f i o) t2 (u i o):=by have:=hrec i o hi (by rw[YT];exact Zv);simpa[YT,YP]using this
 have Zf:=hcell i o hi Xa;have Y6:w.cell? ⟨b,0+(i*el.length+o),none⟩=some (u i o):=by rw[cell_of_row w b _ _ _ _ hb,Nat.zero_add,hszi];exact Zf
 have hlt:i*sz+o<cur.size:=(Array.getElem?_eq_some_iff.1 Zf).1;have hfz:w.frozen? ⟨b,0+(i*el.length+o),none⟩=false:=frozen_of_row w b _ cur e hb;have Z7:∀k,f i o k->fp k:=λk hk=>(hfp k).2 (.inr ⟨i,o,hi,Xa,hk⟩);have build:∀(w':World)(F':Nat->Prop)(WI:TV)(u2':Value)(g:Nat->Prop),w'.heap[b]?=some (.cells (cur.setIfInBounds (i*sz+o) u2') e (0,0))->(∀k,(∃i' j',i'<c.length/\j'<sz/\¬(i'=i/\j'=o)/\f i' j' k)->w'.heap[k]?=w.heap[k]?)->(∀k,F k->k<w.heap.size->w'.heap[k]?=w.heap[k]?)->(∀k,F k->k<w.heap.size->F' k)->jD w' F' g WI u2'->¬g b ->(∀k,g k->∀i' j',i'<c.length->j'<sz->¬(i'=i/\j'=o)->¬f i' j' k)->jD w' F' (λk=>(fp k/\¬f i o k)\/g k) (.ow (c.modify i λel=>el.modify o λ_=>WI)) (.slice (some ⟨b,0,none⟩) c.length cap):=by
  intro w' F' WI u2' g Za ZR hF Ze Zm hgb hgd;have hlen:c.length=(c.modify i λel=>el.modify o λ_=>WI).length:=by simp
  have W7:∀(i' j':Nat)(h:i'<c.length)(h2:j'<c[i'].length)(h3:i'<(c.modify i λel=>el.modify o λ_=>WI).length)(h4:j'<((c.modify i λel=>el.modify o λ_=>WI)[i']).length),((c.modify i λel=>el.modify o λ_=>WI)[i'])[j']=if i'=i/\j'=o then WI else c[i'][j']:=by
   intro i' j' h h2 h3 h4;have e1:(c.modify i λel=>el.modify o λ_=>WI)[i']=if i=i' then(c[i']).modify o (λ_=>WI)else c[i']:=by rw[List.getElem_modify]
   by_cases hii:i=i';subst hii;have e2:(c.modify i λel=>el.modify o λ_=>WI)[i]=(c[i]).modify o (λ_=>WI):=by rw[e1,oIP rfl]
   simp only[e2,List.getElem_modify];by_cases hjj:o=j';subst hjj;simp;rw[oIN hjj,oIN (by intro h;exact hjj h.2.symm)];have e2:(c.modify i λel=>el.modify o λ_=>WI)[i']=c[i']:=by rw[e1,oIN hii]
   simp only[e2];rw[oIN (by intro h;exact hii h.1.symm)]
  rw[hlen];refine .ow sz (λi' j'=>if i'=i/\j'=o then u2' else u i' j') (λi' j' k=>if i'=i/\j'=o then g k else(i'<c.length/\j'<sz/\f i' j' k)) ?_ Za ?_ (by simpa using hcap) (by simpa using hz0) hmax (by simpa using hcur) ?_ ?_ ?_ ?_;intro k;constructor;rintro(⟨h1,h2⟩|h1);rcases(hfp k).1 h1 with rfl|⟨i',j',h3,h4,h5⟩;exact .inl rfl;refine .inr ⟨i',j',by simpa using h3,h4,?_⟩;by_cases he:i'=i/\j'=o;obtain⟨rfl,rfl⟩:=he;exact absurd h5 h2;rw[oIN he];exact⟨h3,h4,h5⟩;exact .inr ⟨i,o,by simpa using hi,Xa,by rw[oIP ⟨rfl,rfl⟩];exact h1⟩;rintro(rfl|⟨i',j',h3,h4,h5⟩);exact .inl ⟨(hfp _).2 (.inl rfl),hnb _ _⟩;by_cases he:i'=i/\j'=o;rw[oIP he]at h5;exact .inr h5;rw[oIN he]at h5;refine .inl ⟨(hfp k).2 (.inr ⟨i',j',h5.1,h5.2.1,h5.2.2⟩),λh6=>he (hdis _ _ _ _ k h5.2.2 h6)⟩;intro i' h;have h':i'<c.length:=by simpa using h
  rw[List.getElem_modify];split;rw[oLM];exact hsz i' h';exact hsz i' h';intro i' j' Zk ZO;have W5:i'<c.length:=by simpa using Zk
  rw[Array.getElem?_setIfInBounds];by_cases he:i'=i/\j'=o;obtain⟨rfl,rfl⟩:=he;simp[hlt];rw[oIN (λh=>he (by obtain⟨h1,h2⟩:=OS Xa ZO h;exact⟨h1.symm,h2.symm⟩))];simp only[oIN he];exact hcell i' j' W5 ZO;intro i' j' h h';have W5:i'<c.length:=by simpa using h
  have hj'':j'<c[i'].length:=by rw[List.getElem_modify]at h';split at h'<;>simpa using h'
  rw[W7 i' j' W5 hj'' h h'];by_cases he:i'=i/\j'=o;simp only[oIP he];exact Zm;simp only[oIN he];have hj3:j'<sz:=by rw[<- hsz i' W5];exact hj''
  refine((hrec i' j' W5 hj'').frame (λk hk=>ZR k ⟨i',j',W5,hj3,he,hk⟩) hF Ze).refp λk=>?_;simp[W5,hj3];intro i' j';split;exact hgb;exact λh=>hnb i' j' h.2.2;intro i1 j1 i2 j2 k h1 h2;by_cases e1:i1=i/\j1=o;by_cases e2:i2=i/\j2=o;exact⟨e1.1.trans e2.1.symm,e1.2.trans e2.2.symm⟩;rw[oIP e1]at h1;rw[oIN e2]at h2;exact absurd h2.2.2 (hgd k h1 i2 j2 h2.1 h2.2.1 e2);by_cases e2:i2=i/\j2=o;rw[oIN e1]at h1;rw[oIP e2]at h2;exact absurd h1.2.2 (hgd k h2 i1 j1 h1.1 h1.2.1 e1);rw[oIN e1]at h1;rw[oIN e2]at h2;exact hdis _ _ _ _ k h1.2.2 h2.2.2
 cases hs with
 |nil=>
 simp only[gE,oSJ]at Z3;subst Z3;refine⟨⟨b,0+(i*el.length+o),none⟩,u i o,f i o,by simp[gK,hi],rfl,Y6,hfz,hrio,Z7,(hfp b).2 (.inl rfl),hnb i o,?_⟩;intro w' F' t' u' ZG hw hF Ze Zm hd;simp only[iH];have hbb:w'.heap[b]?=some (.cells (cur.setIfInBounds (i*sz+o) u') e (0,0)):=by rw[hw b ((hfp b).2 (.inl rfl)) (hnb i o),Nat.zero_add,hszi];exact m8 w b _ u' hb
 refine build w' F' t' u' ZG hbb (λk ⟨i',j',h1,h2,h3,h4⟩=>?_) hF Ze Zm (λh=>hd b h ⟨(hfp b).2 (.inl rfl),hnb i o⟩) (λk hk i' j' h1 h2 h3 h4=>hd k hk ⟨(hfp k).2 (.inr ⟨i',j',h1,h2,h4⟩),λh=>h3 (hdis _ _ _ _ k h4 h)⟩);have hkb:k≠b:=λe=>hnb i' j' (e▸h4);rw[hw k ((hfp k).2 (.inr ⟨i',j',h1,h2,h4⟩)) (λh=>h3 (hdis _ _ _ _ k h4 h))];exact gF w _ u' hkb
 |cons h2 YV=>
 obtain⟨ad,u1,Zt,Y0,ZD,YO,W4,Xv,X5,hin,hnin,M'⟩:=ih hrio (by simp) Z3;refine⟨ad,u1,Zt,?_,ZD,YO,W4,Xv,λk hk=>Z7 k (X5 k hk),Z7 _ hin,hnin,?_⟩;simp only[gK,hi,if_true,Y6];exact Y0;intro w' F' t' u' ZG hw hF Ze Zm hd;have hadb:b≠ad.block:=λe=>hnb i o (e▸hin);have h3:=M' w' F' t' u' ZG (λk hk Y7=>hw k (Z7 k hk) Y7) hF Ze Zm (λk hk h=>hd k hk ⟨Z7 k h.1,h.2⟩);have hbb:w'.heap[b]?=some (.cells (cur.setIfInBounds (i*sz+o) (u i o)) e (0,0)):=by
  rw[hw b ((hfp b).2 (.inl rfl)) (λh=>hnb i o (X5 b h)),gF w ad u' hadb,hb];congr 2;apply Array.ext_getElem?;intro j;rw[Array.getElem?_setIfInBounds];by_cases hj:i*sz+o=j;subst hj;first|exact Zf|(rw[oIP rfl];first|exact Zf.symm|(rw[oIP hlt];exact Zf.symm)|(rw[oIP hlt];exact Zf)|simp[hlt,Zf])
  rw[oIN hj]
 have h4:=build w' F' _ _ _ hbb (λk ⟨i',j',h1,h2,h5,h6⟩=>by
  have Y7:¬Zt k:=λh=>h5 (hdis _ _ _ _ k h6 (X5 k h));have hka:k≠ad.block:=λe=>h5 (hdis _ _ _ _ ad.block (e▸h6) hin);rw[hw k ((hfp k).2 (.inr ⟨i',j',h1,h2,h6⟩)) Y7];exact gF w ad u' hka) hF Ze h3
  (λh=>by rcases h with h|h;exact hnb i o h.1;exact hd b h ⟨(hfp b).2 (.inl rfl),λh=>hnb i o (X5 b h)⟩)
  (λk hk i' j' h1 h2 h5 h6=>by rcases hk with hk|hk;exact h5 (hdis _ _ _ _ k h6 hk.1);exact hd k hk ⟨(hfp k).2 (.inr ⟨i',j',h1,h2,h6⟩),λh=>h5 (hdis _ _ _ _ k h6 (X5 k h))⟩)
 have hset:iH (.ow c) ((i,el.length,o)::h2::YV) t'=.ow (c.modify i λel=>el.modify o λ_=>iH t2 (h2::YV) t'):=by simp only[iH];congr 1;apply oEG;intro j;simp only[oGM];by_cases hij:i=j;subst hij;simp only[hc,if_true,oMS];refine congrArg some ?_;apply oEG;intro l;simp only[oGM];by_cases hol:o=l;subst hol;simp[ho];simp[hol];simp[hij]
 rw[hset];refine h4.refp λk=>?_;constructor;rintro(⟨h5,h6⟩|(⟨h5,h6⟩|h5));exact .inl ⟨h5,λh=>h6 (X5 k h)⟩;exact .inl ⟨Z7 k h5,h6⟩;exact .inr h5;rintro(⟨h5,h6⟩|h5);by_cases h7:f i o k;exact .inr (.inl ⟨h7,h6⟩);exact .inl ⟨h5,h7⟩;exact .inr (.inr h5)
theorem jD.hdr{w:World}{F fp:Nat->Prop}{c:o_}{x:Value}(h:jD w F fp (.ow c) x):∃a cap,x=.slice a c.length cap/\c.length<=cap:=by cases h with|nil=>simp_all|ow sz u f hfp hb hsz hcap=>exact⟨_,_,rfl,hcap⟩
theorem ru.hdr{w:World}{F:Nat->Prop}{c:o_}{x:Value}(h:ru w F (.sl c) x):∃a cap,x=.slice a c.length cap/\c.length<=cap:=by cases h with|sl sz u hsz hcap=>exact⟨_,_,rfl,hcap⟩
theorem sV{hs:L_}:∀{w w':World}{F fp:Nat->Prop}{tv t:TV}{x:Value},jD w F fp tv x->gE tv hs=some t->(∀k,fp k->w'.heap[k]?=w.heap[k]?)->gK w' x hs=gK w x hs:=by
 induction hs with
 |nil=>intro w w' F fp tv t x h _ _;cases x<;>simp[gK]|cons hop hs ih=>
 obtain⟨i,sz',o⟩:=hop;intro w w' F fp tv t x hown hget0 hk;obtain⟨c,el,t2,rfl,hc,hz,ho,Z3⟩:=iX hget0;subst hz;cases hown with
 |nil hfp=>simp at hc| @ow _ _ b cap cur e sz u f hfp hb hsz hcap hz0 hmax hcur hcell hrec hnb hdis=>
 obtain⟨hi,YT⟩:=oGS hc;obtain⟨Zv,YP⟩:=oGS ho;have hszi:el.length=sz:=by rw[<- YT];exact hsz i hi
 have Xa:o<sz:=by omega
 have hrio:jD w F (f i o) t2 (u i o):=by have:=hrec i o hi (by rw[YT];exact Zv);simpa[YT,YP]using this
 have hbw:=hk b ((hfp b).2 (.inl rfl));have Y6:w.cell? ⟨b,0+(i*el.length+o),none⟩=some (u i o):=by rw[cell_of_row w b _ _ _ _ hb,Nat.zero_add,hszi];exact hcell i o hi Xa
 have hcl':w'.cell? ⟨b,0+(i*el.length+o),none⟩=some (u i o):=by rw[World.cell?_of_block hbw];exact Y6
 cases hs with|nil=>simp[gK]|cons h2 YV=>simp only[gK,hi,if_true,Y6,hcl'];exact ih hrio Z3 λk YA=>hk k ((hfp k).2 (.inr ⟨i,o,hi,Xa,YA⟩))
theorem MQ{w:World}{ad:Addr}{u u':Value}(hc:w.cell? ad=some u)(hu:kn u=true)(hu':kn u'=true){hs:L_}:∀{x:Value},gK (w.setCell ad u') x hs=gK w x hs:=by
 induction hs with
 |nil=>intro x;cases x<;>simp[gK]|cons hop hs ih=>
 obtain⟨i,sz,o⟩:=hop;intro x;cases hs with
 |nil=>cases x with|slice a n c=>cases a<;>simp[gK]|_=>simp[gK]
 |cons h2 YV=>
 cases x with
 |slice a n c=>
 cases a with
  |none=>simp[gK]|some a=>
  simp[gK];split;by_cases he:(⟨a.block,a.off+(i*sz+o),none⟩:Addr)=ad;subst he;rw[World.cell?_setCell_same w _ _ hc,hc];have n1:∀y:Value,kn y=true->∀w:World,gK w y (h2::YV)=none:=by intro y hy w;cases y<;>simp[kn]at hy<;>simp[gK]
  simp_all;rw[World.cell?_setCell_other w ad ⟨a.block,a.off+(i*sz+o),none⟩ u' (λe=>he e.symm)];simp_all;rfl
 |_=>simp[gK]
theorem zb{w w':World}(hk:∀k,k<w.heap.size->w'.heap[k]?=w.heap[k]?){hs:L_}:∀{x:Value}{ad:Addr},gK w x hs=some ad->gK w' x hs=some ad:=by
 induction hs with
 |nil=>intro x ad h;cases x<;>simp[gK]at h|cons hop hs ih=>
 obtain⟨i,sz,o⟩:=hop;intro x ad h;cases hs with
 |nil=>
 cases x with
  |slice a n c=>cases a<;>first|(simp[gK]at h;done)|simpa[gK]using h
  |_=>simp[gK]at h
 |cons h2 YV=>
 cases x with
 |slice a n c=>
 cases a with
  |none=>simp[gK]at h|some a=>
  simp only[gK]at h⊢;split at h;rename_i hi;cases hcc:w.cell? ⟨a.block,a.off+(i*sz+o),none⟩with|none=>simp_all|some y=>rw[World.cell?_of_block (hk _ (World.block_lt_of_cell? w _ hcc)),hcc];simp_all
  simp at h
 |_=>simp[gK]at h
theorem rh(c:o_)(i o:Nat)(f:TV->TV):(c.modify i λel=>el.modify o f).map List.length=c.map List.length:=by
 apply oEG;intro j;simp only[oGP,oGM];by_cases h:i=j;subst h;cases c[i]?<;>simp
 simp[h]
theorem Mh{c c':o_}(h:c'.map List.length=c.map List.length):c'.length=c.length:=by have:=congrArg List.length h;simpa using this
theorem qc{qs hs:L_}:∀{tv t tq t':TV},gE tv qs=some tq->gE tv hs=some t->hs.length<=qs.length->∃t1,gE (iH tv qs t') hs=some t1/\(hs.length<qs.length->∀c,t=.ow c->∃c',t1=.ow c'/\c'.map List.length=c.map List.length):=by
 induction qs generalizing hs with
 |nil=>
 intro tv t tq t' _ h hl;have:hs=[]:=by simp_all
 subst this;exact⟨t',rfl,λh=>absurd h (by simp)⟩
 |cons q qs ih=>
 obtain⟨i,sz,o⟩:=q;intro tv t tq t' hq h hl;obtain⟨c,el,t2,rfl,hc,hz,ho,Y3⟩:=iX hq;cases hs with
 |nil=>exact⟨_,rfl,λ_ c' YY=>⟨_,rfl,by simp only[gE,oSJ]at h;subst h;injection YY with YY;subst YY;exact rh _ _ _ _⟩⟩
 |cons p hs=>
 obtain⟨i',sz',o'⟩:=p;obtain⟨c2,el2,t3,e,ZJ,Xm,W',h2⟩:=iX h;injection e with e
 subst e;subst Xm;simp at hl;by_cases hii:i=i';subst hii;rw[hc]at ZJ;obtain rfl:=Option.some.inj ZJ;by_cases hoo:o=o';subst hoo;rw[ho]at W';obtain rfl:=Option.some.inj W';obtain⟨t1,g1,g2⟩:=ih (t':=t') Y3 h2 hl;refine⟨t1,?_,λhlt=>g2 (by simpa using hlt)⟩;simp[iH,gE,oGM,hc,ho,g1];refine⟨t,?_,λ_ c hc=>⟨c,hc,rfl⟩⟩;simp[iH,gE,oGM,hc,W',hoo,h2];refine⟨t,?_,λ_ c hc=>⟨c,hc,rfl⟩⟩;simp[iH,gE,oGM,ZJ,hii,W',h2]
theorem Dz{qs hs:L_}:∀{tv t:TV}{y y':TV},gE tv qs=some y->(∀c,y≠.ow c)->gE tv hs=some t->∃t1,gE (iH tv qs y') hs=some t1/\(∀c,t=.ow c->∃c',t1=.ow c'/\c'.map List.length=c.map List.length):=by
 induction qs generalizing hs with
 |nil=>intro tv t y y' h1 hy h;simp only[gE,oSJ]at h1;subst h1;cases hs with|nil=>simp only[gE,oSJ]at h;subst h;exact⟨y',rfl,λc hc=>absurd hc (hy c)⟩|cons p hs=>obtain⟨c,_,_,e,_⟩:=iX h;simp_all
 |cons q qs ih=>
 obtain⟨i,sz,o⟩:=q;intro tv t y y' hq hy h;obtain⟨c,el,t2,rfl,hc,hz,ho,Y3⟩:=iX hq;cases hs with
 |nil=>exact⟨_,rfl,λc' YY=>⟨_,rfl,by simp only[gE,oSJ]at h;subst h;injection YY with YY;subst YY;exact rh _ _ _ _⟩⟩
 |cons p hs=>
 obtain⟨i',sz',o'⟩:=p;obtain⟨c2,el2,t3,e,ZJ,Xm,W',h2⟩:=iX h;injection e with e
 subst e;subst Xm;by_cases hii:i=i';subst hii;rw[hc]at ZJ;obtain rfl:=Option.some.inj ZJ;by_cases hoo:o=o';subst hoo;rw[ho]at W';obtain rfl:=Option.some.inj W';obtain⟨t1,g1,g2⟩:=ih (y':=y') Y3 hy h2;exact⟨t1,by simp[iH,gE,oGM,hc,ho,g1],g2⟩;refine⟨t,?_,λc hc=>⟨c,hc,rfl⟩⟩;simp[iH,gE,oGM,hc,W',hoo,h2];refine⟨t,?_,λc hc=>⟨c,hc,rfl⟩⟩;simp[iH,gE,oGM,ZJ,hii,W',h2]
theorem Dy{qs:L_}:∀{tv t t':TV},gE tv qs=some t->gE (iH tv qs t') qs=some t':=by induction qs with|nil=>intro tv t t' _;rfl|cons q qs ih=>have ⟨i,sz,o⟩:=q;intro tv t t' hq;obtain⟨c,el,t2,rfl,hc,hz,ho,Y3⟩:=iX hq;subst hz;simp[iH,gE,hc,ho,ih Y3]
abbrev Key:=Nat×Nat×Nat
abbrev Cs:=Nat->Nat->TV
abbrev Vs:=Key->Nat
abbrev d_:=Option (Nat×Nat×Nat)
structure Gh where
 β:Nat->d_
 η:Nat->Nat->Value
 φ:Nat->Nat->Nat->Prop
def Gh.val(G:Gh)(w:World)(r o:Nat):Value:=match G.β r with|some (b,o0,_)=>(w.cell? ⟨b,o0+o,none⟩).getD undef|none=>G.η r o
def Gh.addrB(G:Gh)(w:World)(p:gf):t_:=
 match p.hops with
 | []=>match G.β p.root with|some (b,o0,n)=>if p.off<n then some ⟨b,o0+p.off,none⟩else none|none=>none
 |h::hs=>gK w (G.val w p.root p.off) (h::hs)
def Gh.addr(G:Gh)(w:World)(p:gf):t_:=
 match p.hops with
 | []=>match G.β p.root with|some (b,o0,_)=>some ⟨b,o0+p.off,none⟩|none=>none
 |h::hs=>gK w (G.val w p.root p.off) (h::hs)
def Gh.hv(G:Gh)(w:World)(p:gf):r_:=hvT w (G.val w p.root p.off) p.hops
theorem pR{G:Gh}{w:World}{p:gf}{ad:Addr}(h:G.addr w p=some ad)(hn:p.hops=[]->∀b o0 n,G.β p.root=some (b,o0,n)->p.off<n):G.addrB w p=some ad:=by unfold Gh.addr at h;unfold Gh.addrB;grind
def Gh.F(A:Nat->Prop)(G:Gh)(k:Nat):Prop:=A k/\(∀r o,¬G.φ r o k)/\(∀r b o n,G.β r=some (b,o,n)->k≠b)
structure nO (A:Nat->Prop)(C:Cs)(w:World)(G:Gh):Prop where
 cell:∀r o,(C r o=.dead/\∀k,¬G.φ r o k)\/jD w (G.F A) (G.φ r o) (C r o) (G.val w r o)
 box:∀r b o0 n,G.β r=some (b,o0,n)->∃cur e fz,w.heap[b]?=some (.cells cur e fz)/\o0+n<=cur.size/\∀j,j<n->w.frozen? ⟨b,o0+j,none⟩=false
 boxc:∀r b o0 n,G.β r=some (b,o0,n)->∀o,n<=o->C r o=.dead
 boxd:∀r r' b o n o' n',G.β r=some (b,o,n)->G.β r'=some (b,o',n')->r=r'
 boxf:∀r b o n,G.β r=some (b,o,n)->∀r' o',¬G.φ r' o' b
 dis:∀r o r' o' k,G.φ r o k->G.φ r' o' k->r=r'/\o=o'
 allow:∀r o k,G.φ r o k->A k
theorem nO.own{A:Nat->Prop}{C:Cs}{w:World}{G:Gh}(h:nO A C w G){r o:Nat}(hd:C r o≠.dead):jD w (G.F A) (G.φ r o) (C r o) (G.val w r o):=(h.cell r o).resolve_left λh=>hd h.1
theorem nO.live{A:Nat->Prop}{C:Cs}{w:World}{G:Gh}(h:nO A C w G){r o k:Nat}(hk:G.φ r o k):k<w.heap.size:=by rcases h.cell r o with⟨_,hn⟩|h;simp_all;exact h.live k hk
theorem nO.boxlt{A:Nat->Prop}{C:Cs}{w:World}{G:Gh}(h:nO A C w G){r b o n:Nat}(hb:G.β r=some (b,o,n)):b<w.heap.size:=by have ⟨cur,e,fz,h1,_⟩:=h.box r b o n hb;grind
theorem nO.boxcell{A:Nat->Prop}{C:Cs}{w:World}{G:Gh}(h:nO A C w G){r b o0 n o:Nat}(hb:G.β r=some (b,o0,n))(ho:o<n):w.cell? ⟨b,o0+o,none⟩=some (G.val w r o):=by
 have ⟨cur,e,fz,h1,h2,_⟩:=h.box r b o0 n hb;have hlt:o0+o<cur.size:=by omega
 have hc:=cell_of_row w b (o0+o) cur e fz h1;simp[Gh.val];simp_all
theorem lP{G G':Gh}{w w':World}{r o:Nat}(hβ:G'.β r=G.β r)(hη:G'.η r o=G.η r o)(hb:∀b o n,G.β r=some (b,o,n)->w'.heap[b]?=w.heap[b]?):G'.val w' r o=G.val w r o:=by unfold Gh.val;rw[hβ];cases h:G.β r with|none=>exact hη|some x=>have ⟨b,o0,n⟩:=x;simp only;rw[World.cell?_of_block (hb b o0 n h)]
theorem nO.set{A:Nat->Prop}{C:Cs}{w:World}{G:Gh}(hC:nO A C w G)(q:gf){t:TV}{ad:Addr}(Z4:G.addrB w q=some ad)(ht:gE (C q.root q.off) q.hops=some t):
 ∃u Zt,ad.spot=none/\w.cell? ad=some u/\w.frozen? ad=false/\G.hv w q=some u/\(t=.dead\/jD w (G.F A) Zt t u)/\(∀k,Zt k->G.φ q.root q.off k)/\¬Zt ad.block/\((∃r b o n,G.β r=some (b,o,n)/\ad.block=b)\/G.φ q.root q.off ad.block)/\
  ∀(t':TV)(u':Value)(ZG:Nat->Prop)(C':Cs)(G':Gh)(w':World),
   (∀k,k<w.heap.size->w'.heap[k]?=(w.setCell ad u').heap[k]?)->
   C' q.root q.off=iH (C q.root q.off) q.hops t'->G'.β=G.β->G'.η=G.η ->
   (∀k,G'.φ q.root q.off k↔(G.φ q.root q.off k/\¬Zt k)\/ZG k)->
   (∀r o,¬(r=q.root/\o=q.off)->(C' r o=C r o/\∀k,G'.φ r o k↔G.φ r o k)\/(C' r o=.dead/\∀k,¬G'.φ r o k))->
   (∀k,ZG k->(∃r o,G.φ r o k)\/w.heap.size<=k)->(∀k,ZG k->A k/\(∀r o,¬(r=q.root/\o=q.off)->¬G'.φ r o k)/\¬(G.φ q.root q.off k/\¬Zt k))->
   jD w' (G'.F A) ZG t' u'->nO A C' w' G':=by
 obtain⟨r,o,hs⟩:=q
 have hcellup:∀{b:Nat}{cur:s_}{e:TypeId}{fz:Nat×Nat}(w':World)(x:Value),w.heap[b]?=some (.cells cur e fz)->(∀k,k<w.heap.size->w'.heap[k]?=(w.setCell ad x).heap[k]?)->ad.spot=none->∃Yq:s_,w'.heap[b]?=some (.cells Yq e fz)/\Yq.size=cur.size:=by
  intro b cur e fz w' x hb hw ZD
  have hlt:b<w.heap.size:=by
   rcases Nat.lt_or_ge b w.heap.size with h|h
   ·exact h
   ·simp[Array.getElem?_eq_none h]at hb
  rw[hw b hlt];by_cases he:b=ad.block
  ·obtain⟨ab,ao,asq⟩:=ad;simp only at he ZD;subst he;subst ZD;exact⟨_,m8 w b ao x hb,by simp⟩
  ·exact⟨cur,by rw[gF w ad x he,hb],rfl⟩
 have hfzup:∀(w':World)(x:Value)(a:Addr),a.block<w.heap.size->(∀k,k<w.heap.size->w'.heap[k]?=(w.setCell ad x).heap[k]?)->w'.frozen? a=w.frozen? a:=by
  intro w' x a ha hw;rw[World.frozen?_of_block (hw a.block ha),World.frozen?_setCell]
 have ZT:∀(u:Value) (Zt:Nat->Prop) (ZD:ad.spot=none) (YO:w.cell? ad=some u) (hfp1:∀k,Zt k->G.φ r o k) (hnb:¬Zt ad.block)
  (XX:(∃r b o n,G.β r=some (b,o,n)/\ad.block=b)\/G.φ r o ad.block)
  (Z5:∀(t':TV)(u':Value)(ZG:Nat->Prop)(G':Gh)(w':World),(∀k,k<w.heap.size->w'.heap[k]?=(w.setCell ad u').heap[k]?)->G'.β=G.β->G'.η=G.η->(∀k,G.F A k->k<w.heap.size->G'.F A k)->
   (∀k,G.F A k->k<w.heap.size->w'.heap[k]?=w.heap[k]?)->jD w' (G'.F A) ZG t' u'->(∀k,ZG k->¬(G.φ r o k/\¬Zt k))->
   (iH (C r o) hs t'=.dead/\∀k,¬((G.φ r o k/\¬Zt k)\/ZG k))\/jD w' (G'.F A) (λk=>(G.φ r o k/\¬Zt k)\/ZG k) (iH (C r o) hs t') (G'.val w' r o)),
  ∀(t':TV)(u':Value)(ZG:Nat->Prop)(C':Cs)(G':Gh)(w':World),
   (∀k,k<w.heap.size->w'.heap[k]?=(w.setCell ad u').heap[k]?)->
   C' r o=iH (C r o) hs t'->G'.β=G.β->G'.η=G.η ->
   (∀k,G'.φ r o k↔(G.φ r o k/\¬Zt k)\/ZG k)->
   (∀r' o',¬(r'=r/\o'=o)->(C' r' o'=C r' o'/\∀k,G'.φ r' o' k↔G.φ r' o' k)\/(C' r' o'=.dead/\∀k,¬G'.φ r' o' k))->
   (∀k,ZG k->(∃r o,G.φ r o k)\/w.heap.size<=k)->(∀k,ZG k->A k/\(∀r' o',¬(r'=r/\o'=o)->¬G'.φ r' o' k)/\¬(G.φ r o k/\¬Zt k))->
   jD w' (G'.F A) ZG t' u'->nO A C' w' G':=by
  intro u Zt ZD YO hfp1 hnb XX Z5 t' u' ZG C' G' w' hw hCq hβ hη hφq YM Zm hal hown
  have Ze:∀k,G.F A k->k<w.heap.size->G'.F A k:=by
   intro k ⟨h1,h2,h3⟩ hlt;refine⟨h1,λr' o' hk=>?_,λr' b o' n' hb=>h3 r' b o' n' (hβ ▸ hb)⟩;by_cases he:r'=r/\o'=o
   ·obtain⟨rfl,rfl⟩:=he
    rcases(hφq k).1 hk with h|h
    ·exact h2 _ _ h.1
    ·rcases Zm k h with⟨r2,o2,h4⟩|h4
     ·exact h2 _ _ h4
     ·omega
   ·rcases YM r' o' he with⟨_,h4⟩|⟨_,h4⟩
    ·exact h2 _ _ ((h4 k).1 hk)
    ·exact h4 k hk
  have hadF:∀k,G.F A k->k≠ad.block:=by
   intro k ⟨_,h2,h3⟩ he
   rcases XX with⟨r',b,o',n',hb,Za⟩|hφ
   ·exact h3 r' b o' n' hb (he.trans Za)
   ·exact h2 _ _ (he▸hφ)
  have Yk:∀k,G.F A k->k<w.heap.size->w'.heap[k]?=w.heap[k]?:=λk hk hlt=>by rw[hw k hlt];exact gF w ad u' (hadF k hk)
  have hφsame:∀r' o',¬(r'=r/\o'=o)->∀k,G.φ r' o' k->w'.heap[k]?=w.heap[k]?:=by
   intro r' o' he k hk;rw[hw k (hC.live hk)];refine gF w ad u' λe=>?_
   rcases XX with⟨r2,b,o2,n2,hb,Za⟩|hφ
   ·exact hC.boxf r2 b o2 n2 hb r' o' (by rw[<- Za,<- e];exact hk)
   ·exact he (hC.dis _ _ _ _ k hk (by rw[e];exact hφ))
  constructor
  ·intro r' o';by_cases he:r'=r/\o'=o
   ·obtain⟨rfl,rfl⟩:=he;rw[hCq]
    rcases Z5 t' u' ZG G' w' hw hβ hη Ze Yk hown (λk hk=>(hal k hk).2.2)with⟨h1,h2⟩|h1
    ·exact .inl ⟨h1,λk hk=>h2 k ((hφq k).1 hk)⟩
    ·exact .inr (h1.refp λk=>(hφq k).symm)
   ·rcases YM r' o' he with⟨h1,h2⟩|h1
    ·rw[h1]
     rcases hC.cell r' o' with⟨h3,h4⟩|h3
     ·exact .inl ⟨h3,λk hk=>h4 k ((h2 k).1 hk)⟩
     ·by_cases hdead:C r' o'=.dead
      ·left;rw[hdead]at h3;refine⟨hdead,λk hk=>?_⟩
       cases h3 with
       |dead hfp _=>exact hfp k ((h2 k).1 hk)
      right
      have hv:G'.val w' r' o'=G.val w r' o':=by
       unfold Gh.val;rw[hβ,hη]
       cases hbb:G.β r' with
       |none=>rfl
       |some x=>
        obtain⟨b,o0,n⟩:=x
        have hne:(⟨b,o0+o',none⟩:Addr)≠ad:=by
         intro e
         rcases XX with⟨r2,b2,o2,n2,ZS,hb2'⟩|hφ
         ·
          exact absurd trivial (by
           intro _;have hr:r2=r':=hC.boxd r2 r' b o2 n2 o0 n (by rw[ZS,<- hb2',<- e]) hbb;subst hr
           cases hs with
           |nil=>
            simp only[Gh.addrB]at Z4
            cases hbr:G.β r with
            |none=>simp[hbr]at Z4
            |some y=>
             obtain⟨b3,o3,n3⟩:=y;simp only[hbr]at Z4;split at Z4
             ·injection Z4 with Z4
              rw[<- Z4]at e
              injection e with e1 e2
              have hr3:r2=r:=hC.boxd r2 r b o0 n o3 n3 hbb (by rw[hbr,e1]);subst hr3;rw[hbb]at hbr
              injection hbr with hbr
              injection hbr with h5 h6
              injection h6 with h6 h7
              exact he ⟨rfl,by omega⟩
             ·simp at Z4
           |cons h hs'=>
            have hd:C r o≠.dead:=by
             intro hd;have:=ht;simp only at this;rw[hd]at this;simp[gE]at this
            obtain⟨WJ,u2,fp2,XY,_,_,_,_,_,hin2,_⟩:=lens (hC.own hd) (by simp) ht;have Xn:gK w (G.val w r o) (h::hs')=some ad:=Z4;rw[Xn]at XY
            injection XY with XY
            subst XY
            exact hC.boxf r2 b o0 n hbb r o (by rw[<- e]at hin2;exact hin2))
         ·exact hC.boxf r' b o0 n hbb r o (by rw[<- e]at hφ;exact hφ)
        have hblt:b<w.heap.size:=hC.boxlt hbb;show(w'.cell? ⟨b,o0+o',none⟩).getD undef=(w.cell? ⟨b,o0+o',none⟩).getD undef;rw[show w'.cell? ⟨b,o0+o',none⟩=(w.setCell ad u').cell? ⟨b,o0+o',none⟩from World.cell?_of_block (w:=w.setCell ad u') (hw b hblt)];rw[World.cell?_setCell_other w ad ⟨b,o0+o',none⟩ u' (λe=>hne e.symm)]
      rw[hv];exact(h3.frame (hφsame r' o' he) Yk Ze).refp λk=>(h2 k).symm
    ·exact .inl h1
  ·intro r' b o0 n hb;obtain⟨cur,e,fz,h1,h2,h3⟩:=hC.box r' b o0 n (hβ ▸ hb);obtain⟨Yq,h4,h5⟩:=hcellup w' u' h1 hw ZD;exact⟨Yq,e,fz,h4,by omega,λj hj=>by rw[hfzup w' u' _ (hC.boxlt (hβ ▸ hb)) hw];exact h3 j hj⟩
  ·intro r' b o0 n hb o' Zv;by_cases he:r'=r/\o'=o
   ·obtain⟨rfl,rfl⟩:=he;have hd:=hC.boxc r' b o0 n (hβ ▸ hb) o' Zv;exfalso
    cases hs with
    |nil=>
     simp only[Gh.addrB]at Z4;rw[<- hβ,hb]at Z4;simp only at Z4;split at Z4
     ·omega
     ·simp at Z4
    |cons h hs'=>
     have:=ht;simp only at this;rw[hd]at this;simp[gE]at this
   ·rcases YM r' o' he with⟨h1,_⟩|⟨h1,_⟩
    ·rw[h1];exact hC.boxc r' b o0 n (hβ ▸ hb) o' Zv
    ·exact h1
  ·intro r1 r2 b o1 n1 o2 n2 h1 h2;exact hC.boxd r1 r2 b o1 n1 o2 n2 (hβ ▸ h1) (hβ ▸ h2)
  ·intro r' b o0 n hb r2 o2 hk;have Za:G.β r'=some (b,o0,n):=hβ ▸ hb;by_cases he:r2=r/\o2=o
   ·obtain⟨rfl,rfl⟩:=he
    rcases(hφq b).1 hk with h|h
    ·exact hC.boxf r' b o0 n Za _ _ h.1
    ·rcases Zm b h with⟨r3,o3,h4⟩|h4
     ·exact hC.boxf r' b o0 n Za _ _ h4
     ·have:=hC.boxlt Za;omega
   ·rcases YM r2 o2 he with⟨_,h4⟩|⟨_,h4⟩
    ·exact hC.boxf r' b o0 n Za _ _ ((h4 b).1 hk)
    ·exact h4 b hk
  ·intro r1 o1 r2 o2 k h1 h2;by_cases e1:r1=r/\o1=o
   ·by_cases e2:r2=r/\o2=o
    ·exact⟨e1.1.trans e2.1.symm,e1.2.trans e2.2.symm⟩
    ·obtain⟨rfl,rfl⟩:=e1
     rcases(hφq k).1 h1 with h|h
     ·rcases YM r2 o2 e2 with⟨_,h4⟩|⟨_,h4⟩
      ·exact hC.dis _ _ _ _ k h.1 ((h4 k).1 h2)
      ·exact absurd h2 (h4 k)
     ·exact absurd h2 ((hal k h).2.1 r2 o2 e2)
   ·by_cases e2:r2=r/\o2=o
    ·obtain⟨rfl,rfl⟩:=e2
     rcases(hφq k).1 h2 with h|h
     ·rcases YM r1 o1 e1 with⟨_,h4⟩|⟨_,h4⟩
      ·exact hC.dis _ _ _ _ k ((h4 k).1 h1) h.1
      ·exact absurd h1 (h4 k)
     ·exact absurd h1 ((hal k h).2.1 r1 o1 e1)
    ·rcases YM r1 o1 e1 with⟨_,h4⟩|⟨_,h4⟩
     ·rcases YM r2 o2 e2 with⟨_,h5⟩|⟨_,h5⟩
      ·exact hC.dis _ _ _ _ k ((h4 k).1 h1) ((h5 k).1 h2)
      ·exact absurd h2 (h5 k)
     ·exact absurd h1 (h4 k)
  ·intro r' o' k hk;by_cases he:r'=r/\o'=o
   ·obtain⟨rfl,rfl⟩:=he
    rcases(hφq k).1 hk with h|h
    ·exact hC.allow _ _ k h.1
    ·exact(hal k h).1
   ·rcases YM r' o' he with⟨_,h4⟩|⟨_,h4⟩
    ·exact hC.allow _ _ k ((h4 k).1 hk)
    ·exact absurd hk (h4 k)
 cases hs with
 |nil=>
  simp only[Gh.addrB]at Z4
  cases hbr:G.β r with
  |none=>simp[hbr]at Z4
  |some y=>
   obtain⟨b,o0,n⟩:=y;simp only[hbr]at Z4;split at Z4
   ·rename_i hlt
    injection Z4 with Z4
    subst Z4;have YO:=hC.boxcell hbr hlt;obtain⟨cur,e,fz,ZI,ZS,WM⟩:=hC.box r b o0 n hbr;simp only[gE,oSJ]at ht;subst ht;refine⟨G.val w r o,G.φ r o,rfl,YO,WM o hlt,rfl,?_,λk h=>h,hC.boxf r b o0 n hbr r o,.inl ⟨r,b,o0,n,hbr,rfl⟩,?_⟩
    ·rcases hC.cell r o with⟨h,_⟩|h
     ·exact .inl h
     ·exact .inr h
    ·refine ZT (G.val w r o) (G.φ r o) rfl YO (λk h=>h) (hC.boxf r b o0 n hbr r o) (.inl ⟨r,b,o0,n,hbr,rfl⟩) ?_;intro t' u' ZG G' w' hw hβ hη Ze Yk hown hd
     have hv:G'.val w' r o=u':=by
      unfold Gh.val;rw[hβ,hbr];simp only;rw[show w'.cell? ⟨b,o0+o,none⟩=(w.setCell ⟨b,o0+o,none⟩ u').cell? ⟨b,o0+o,none⟩from World.cell?_of_block (w:=w.setCell ⟨b,o0+o,none⟩ u') (hw b (hC.boxlt hbr))];rw[World.cell?_setCell_same w _ _ YO];rfl
     refine .inr ?_;rw[hv];exact hown.refp λk=>⟨λh=>.inr h,λh=>h.elim (λh=>absurd h.1 h.2) id⟩
   ·simp at Z4
 |cons h hs'=>
  have hd:C r o≠.dead:=by
   intro hd;have:=ht;simp only at this;rw[hd]at this;simp[gE]at this
  obtain⟨WJ,u,Zt,XY,ZD,YO,W4,Xv,Z7,hin,hnin,M'⟩:=lens (hC.own hd) (by simp) ht;have Xn:gK w (G.val w r o) (h::hs')=some ad:=Z4;rw[Xn]at XY
  injection XY with XY
  subst XY;refine⟨u,Zt,ZD,YO,W4,mj Xn YO,.inr Xv,Z7,hnin,.inr hin,?_⟩;refine ZT u Zt ZD YO Z7 hnin (.inr hin) ?_;intro t' u' ZG G' w' hw hβ hη Ze Yk hown hdd
  have hv:G'.val w' r o=G.val w r o:=by
   refine lP (by rw[hβ]) (by rw[hη]) λb o0 n hb=>?_;rw[hw b (hC.boxlt hb)];exact gF w ad u' λe=>hC.boxf r b o0 n hb r o (e▸hin)
  right;rw[hv];exact M' w' (G'.F A) t' u' ZG (λk hk _=>hw k (hC.live hk)) Yk Ze hown hdd
abbrev N_:=List Nat
def ir:TV->N_->TV|t,[]=>t.imm|.ow c,o::os=>.ow (c.map λel=>el.modify o λt=>ir t os)|t,_::_=>t
def jB(hs:L_):N_:=hs.map λh=>h.2.2
theorem J2{hs:L_}:∀{tv t:TV},gE tv hs=some t->gE (ir tv (jB hs)) hs=some t.imm:=by induction hs with|nil=>intro tv t h;simp[gE]at h;subst h;rfl|cons h hs ih=>have ⟨i,sz,o⟩:=h;intro tv t hg;obtain⟨c,el,t2,rfl,hc,hz,ho,Zu⟩:=iX hg;subst hz;have:=ih Zu;simp[jB,ir,gE,hc,ho]at this⊢;exact this
theorem jD.shareAt{os:N_}:∀{w:World}{F fp:Nat->Prop}{tv:TV}{x:Value},jD w F fp tv x->∃fp',(∀k,fp' k->fp k)/\jD w (λk=>F k\/(fp k/\¬fp' k)) fp' (ir tv os) x:=by
 induction os with
 |nil=>
 intro w F fp tv x h;refine⟨λ_=>False,λ_ h=>h.elim,?_⟩;have h1:=h.share'.toOwn;have e:ir tv []=tv.imm:=by cases tv<;>rfl
 simp_all
 |cons o os ih=>
 intro w F fp tv x h;cases h with
 |v hfp h=>exact⟨fp,λ_ h=>h,by simp only[ir];exact .v hfp h⟩|dead hfp h=>exact⟨fp,λ_ h=>h,by simp only[ir];exact .dead hfp h⟩|sl hfp h=>exact⟨fp,λ_ h=>h,by simp only[ir];exact .sl hfp (h.frame (λ_ _ _=>rfl) λk hk _=>.inl hk)⟩|nil hfp=>exact⟨fp,λ_ h=>h,by simp only[ir,List.map_nil];exact .nil hfp⟩| @ow _ c b cap cur e sz u f hfp hb hsz hcap hz0 hmax hcur hcell hrec hnb hdis=>
 have hch:∀i,∃g:Nat->Prop,(∀k,g k->f i o k)/\∀(h:i<c.length)(h':o<c[i].length),jD w (λk=>F k\/(f i o k/\¬g k)) g (ir c[i][o] os) (u i o):=by intro i;by_cases hi:i<c.length;by_cases ho:o<c[i].length;obtain⟨g,h1,h2⟩:=ih (hrec i o hi ho);exact⟨g,h1,λ_ _=>h2⟩;exact⟨f i o,λ_ h=>h,λ_ h=>absurd h ho⟩;exact⟨f i o,λ_ h=>h,λh=>absurd h hi⟩
 let g:Nat->Nat->Prop:=λi=>Classical.choose (hch i);have Zi:=λi=>(Classical.choose_spec (hch i)).1;have Zu:=λi=>(Classical.choose_spec (hch i)).2;refine⟨λk=>k=b\/∃i j,i<c.length/\j<sz/\(if j=o then g i k else f i j k),?_,?_⟩;rintro k (rfl|⟨i,j,hi,hj,hk⟩);exact(hfp _).2 (.inl rfl);refine(hfp k).2 (.inr ⟨i,j,hi,hj,?_⟩);split at hk;rename_i e;subst e;exact Zi i k hk;exact hk;simp only[ir];have hlen:c.length=(c.map λel=>el.modify o λt=>ir t os).length:=by simp
 rw[hlen];refine .ow sz u (λi j k=>if j=o then g i k else f i j k) (λk=>by simp) hb ?_ (by simpa using hcap) (by simpa using hz0) hmax hcur (λi j hi hj=>hcell i j (by simpa using hi) hj) ?_ ?_ ?_;intro i h;simp;exact hsz i (by simpa using h);intro i j h h';have hi:i<c.length:=by simpa using h
 have hj:j<c[i].length:=by simpa using h'
 have hjs:j<sz:=by rw[<- hsz i hi];exact hj
 simp only[List.getElem_map,List.getElem_modify];by_cases hjo:o=j;subst hjo;simp only[if_true];refine(Zu i hi hj).frame (λ_ _=>rfl) (λ_ _ _=>rfl) λk hk _=>?_;rcases hk with hk|⟨Y7,X'⟩;exact .inl hk;refine .inr ⟨(hfp k).2 (.inr ⟨i,o,hi,hjs,Y7⟩),?_⟩;rintro(rfl|⟨i',j',Zk,ZO,YA⟩);exact hnb _ _ Y7;split at YA;rename_i e;subst e;have:=hdis _ _ _ _ k Y7 (Zi i' k YA);rw[<- this.1]at YA;exact X' YA;rename_i e;exact e (hdis _ _ _ _ k YA Y7).2;rw[oIN hjo];simp only[oIN (λe:j=o=>hjo e.symm)];exact(hrec i j hi hj).frame (λ_ _=>rfl) (λ_ _ _=>rfl) λk hk _=>.inl hk;intro i j hk;split at hk;exact hnb i o (Zi i b hk);exact hnb i j hk;intro i j i' j' k h1 h2;have e1:f i j k:=by split at h1;rename_i e;subst e;exact Zi i k h1;exact h1
 have e2:f i' j' k:=by split at h2;rename_i e;subst e;exact Zi i' k h2;exact h2
 exact hdis _ _ _ _ k e1 e2
theorem nO.grow{A:Nat->Prop}{C:Cs}{w w':World}{G:Gh}(hC:nO A C w G)(hw:∀k,k<w.heap.size->w'.heap[k]?=w.heap[k]?):nO A C w' G/\∀r o,G.val w' r o=G.val w r o:=by have hv:∀r o,G.val w' r o=G.val w r o:=λr o=>lP rfl rfl λb o n hb=>hw b (hC.boxlt hb);refine⟨⟨λr o=>?_,λr b o0 n hb=>?_,hC.boxc,hC.boxd,hC.boxf,hC.dis,hC.allow⟩,hv⟩;rcases hC.cell r o with h|h;simp_all;right;rw[hv];exact h.frame (λk hk=>hw k (h.live k hk)) (λk _ hlt=>hw k hlt) (λ_ h _=>h);have ⟨cur,e,fz,h1,h2,h3⟩:=hC.box r b o0 n hb;exact⟨cur,e,fz,by rw[hw b (hC.boxlt hb)];exact h1,h2,λj hj=>by rw[World.frozen?_of_block (hw b (hC.boxlt hb))];exact h3 j hj⟩
theorem nO.ghost{A:Nat->Prop}{C C':Cs}{w:World}{G G':Gh}(hC:nO A C w G)(hβ:G'.β=G.β) (hO:∀k,(∃r o,G'.φ r o k)->∃r o,G.φ r o k) (hdis:∀r o r' o' k,G'.φ r o k->G'.φ r' o' k->r=r'/\o=o') (Yz:∀r b o0 n,G.β r=some (b,o0,n)->∀o,n<=o->C' r o=.dead) (hcell:∀r o,(C' r o=C r o/\(∀k,G'.φ r o k↔G.φ r o k)/\G'.η r o=G.η r o)\/(C' r o=.dead/\∀k,¬G'.φ r o k)\/jD w (G'.F A) (G'.φ r o) (C' r o) (G'.val w r o)):nO A C' w G'/\(∀k,G.F A k->G'.F A k):=by
 have hF:∀k,G.F A k->G'.F A k:=by rintro k ⟨h1,h2,h3⟩;refine⟨h1,λr o h=>?_,λr b o n hb=>h3 r b o n (hβ ▸ hb)⟩;obtain⟨r',o',h'⟩:=hO k ⟨r,o,h⟩;simp_all
 refine⟨⟨λr o=>?_,λr b o0 n hb=>hC.box r b o0 n (hβ ▸ hb),λr b o0 n hb=>Yz r b o0 n (hβ ▸ hb),λr r' b o n o' n' h h'=>hC.boxd r r' b o n o' n' (hβ ▸ h) (hβ ▸ h'),λr b o n hb r' o' hk=>?_,hdis,λr o k hk=>?_⟩,hF⟩;rcases hcell r o with⟨h1,h2,h3⟩|h|h;rcases hC.cell r o with⟨h4,h5⟩|h4;simp_all;right;rw[h1,lP (G:=G) (w:=w) (by rw[hβ]) h3 (λ_ _ _ _=>rfl)];exact(h4.frame (λ_ _=>rfl) (λ_ _ _=>rfl) (λk h _=>hF k h)).refp λk=>(h2 k).symm;exact .inl h;exact .inr h;obtain⟨r2,o2,h2⟩:=hO b ⟨r',o',hk⟩;exact hC.boxf r b o n (hβ ▸ hb) r2 o2 h2;obtain⟨r2,o2,h2⟩:=hO k ⟨r,o,hk⟩;exact hC.allow r2 o2 k h2
def oi(C:Cs)(r o:Nat)(t:TV):Cs:=λr' o'=>if r'=r/\o'=o then t else C r' o'
theorem nO.share{A:Nat->Prop}{C:Cs}{w:World}{G:Gh}(hC:nO A C w G)(r o:Nat)(os:N_)(hd:C r o≠.dead):∃G',G'.β=G.β/\G'.η=G.η/\nO A (oi C r o (ir (C r o) os)) w G'/\(∀k,G.F A k->G'.F A k)/\∀r o k,G'.φ r o k->G.φ r o k:=by
 obtain⟨fp',h1,h2⟩:=(hC.own hd).shareAt;let G':Gh:=⟨G.β,G.η,λr' o' k=>if r'=r/\o'=o then fp' k else G.φ r' o' k⟩;have Z7:∀r' o' k,G'.φ r' o' k->G.φ r' o' k:=by intro r' o' k hk;dsimp[G']at hk;split at hk;simp_all;exact hk
 have Ys:=nO.ghost (C':=oi C r o (ir (C r o) os)) (G':=G') hC rfl (λk ⟨r',o',h⟩=>⟨r',o',Z7 r' o' k h⟩)
  (λ_ _ _ _ k h h'=>hC.dis _ _ _ _ k (Z7 _ _ k h) (Z7 _ _ k h'))
  (λr' b o0 n hb o' Zv=>by
   unfold oi;split
   ·rename_i e;rw[<- e.1,<- e.2]at hd;exact absurd (hC.boxc r' b o0 n hb o' Zv) hd
   ·exact hC.boxc r' b o0 n hb o' Zv)
  (λr' o'=>by
   by_cases e:r'=r/\o'=o
   ·obtain⟨rfl,rfl⟩:=e;refine .inr (.inr ?_);simp[oi,if_true]
    refine(h2.frame (λ_ _=>rfl) (λ_ _ _=>rfl) ?_).refp λk=>by simp[G']
    rintro k (⟨h3,h4,h5⟩|⟨h3,h4⟩) _
    ·exact⟨h3,λr2 o2 h=>h4 r2 o2 (Z7 r2 o2 k h),h5⟩
    ·refine⟨hC.allow _ _ k h3,λr2 o2 h=>?_,λr2 b o2 n hb hkb=>hC.boxf r2 b o2 n hb _ _ (hkb▸h3)⟩;have:=hC.dis _ _ _ _ k h3 (Z7 r2 o2 k h);obtain⟨rfl,rfl⟩:=this;exact h4 (by simpa[G']using h)
   ·exact .inl ⟨by simp[oi,e],λk=>by simp[G',e],rfl⟩)
 exact⟨G',rfl,rfl,Ys.1,Ys.2,Z7⟩
theorem nO.shareV{A:Nat->Prop}{C:Cs}{w:World}{G:Gh}(hC:nO A C w G)(q:gf){c:o_}(ht:gE (C q.root q.off) q.hops=some (.ow c)):∃G' u,G'.β=G.β/\G'.η=G.η/\nO A (oi C q.root q.off (ir (C q.root q.off) (jB q.hops))) w G'/\(∀k,G.F A k->G'.F A k)/\(∀r o k,G'.φ r o k->G.φ r o k)/\G.hv w q=some u/\ru w (G'.F A) (TV.ow c).imm u:=by
 obtain⟨r,o,hs⟩:=q;have hd:C r o≠.dead:=by intro hd;have:=ht;rw[hd]at this;cases hs<;>simp[gE]at this
 have ⟨G',hβ,hη,hC',hF,hφ⟩:=hC.share r o (jB hs) hd;have hg:=J2 ht;have hcs:oi C r o (ir (C r o) (jB hs)) r o=ir (C r o) (jB hs):=by simp[oi]
 have Zn:oi C r o (ir (C r o) (jB hs)) r o≠.dead:=by rw[hcs];intro hd2;have h2:=hg;rw[hd2]at h2;cases hs<;>simp[gE,TV.imm]at h2
 have hown:=hC'.own Zn;rw[hcs]at hown;have hv:G'.val w r o=G.val w r o:=lP (by rw[hβ]) (by rw[hη]) λ_ _ _ _=>rfl;rw[hv]at hown;have ZT:∀u fp,jD w (G'.F A) fp (TV.ow c).imm u->ru w (G'.F A) (TV.ow c).imm u:=by intro u fp h;cases h with|sl _ h=>exact h
 cases hs with
 |nil=>
 refine⟨G',G.val w r o,hβ,hη,hC',hF,hφ,rfl,ZT _ (G'.φ r o) ?_⟩;simp[gE]at ht;have e:ir (C r o) (jB [])=(TV.ow c).imm:=by rw[ht];rfl
 simp_all
 |cons h hs=>have ⟨ad,u,Zt,h1,_,h3,_,h5,_⟩:=lens hown (by simp) hg;exact⟨G',u,hβ,hη,hC',hF,hφ,mj h1 h3,ZT _ _ h5⟩
theorem nO.move{A:Nat->Prop}{C:Cs}{w:World}{G:Gh}(hC:nO A C w G)(q:gf){c:o_}(ht:gE (C q.root q.off) q.hops=some (.ow c))(h ho:Nat)(hβ:G.β h=none)(hd:C h ho=.dead):∃G' u,G'.β=G.β/\(∀r o,¬(r=h/\o=ho)->G'.η r o=G.η r o)/\G'.η h ho=u/\G.hv w q=some u /\nO A (oi (oi C q.root q.off (iH (C q.root q.off) q.hops .dead)) h ho (.ow c)) w G'/\(∀k,G.F A k->G'.F A k):=by
 obtain⟨r,o,hs⟩:=q;have hdr:C r o≠.dead:=by intro hdr;have:=ht;simp only at this;rw[hdr]at this;cases hs<;>simp[gE]at this
 have main:∃u Zt,G.hv w ⟨r,o,hs⟩=some u/\jD w (G.F A) Zt (.ow c) u/\(∀k,Zt k->G.φ r o k)/\∀F',(∀k,G.F A k->F' k)->((iH (C r o) hs .dead=.dead/\∀k,¬(G.φ r o k/\¬Zt k))\/jD w F' (λk=>G.φ r o k/\¬Zt k) (iH (C r o) hs .dead) (G.val w r o)):=by
  cases hs with
  |nil=>simp only[gE,oSJ]at ht;have hown:=hC.own hdr;refine⟨G.val w r o,G.φ r o,rfl,by rw[ht]at hown;exact hown,λ_ h=>h,λF' _=>.inl ⟨rfl,λk h=>h.2 h.1⟩⟩|cons hp hs=>
  obtain⟨ad,u,Zt,h1,ZD,h3,h4,h5,h6,h7,h8,M'⟩:=lens (hC.own hdr) (by simp) ht;refine⟨u,Zt,mj h1 h3,h5,h6,λF' hF'=>.inr ?_⟩;have:=M' w F' .dead u (λ_=>False) (λk _ _=>by
   by_cases hk:k=ad.block;obtain⟨ab,ao,asq⟩:=ad;simp only at hk ZD;subst hk;subst ZD;unfold World.cell? at h3;cases hb:w.heap[k]? with
   |none=>simp[hb]at h3|some ob=>
    cases ob with
    |cells cur e fz=>
    simp only[hb]at h3;rw[m8 w k ao u hb];congr 2;apply Array.ext_getElem?;intro j;rw[Array.getElem?_setIfInBounds];by_cases hj:ao=j;subst hj;rw[oIP rfl];have h3':cur[ao]?=some u:=by simpa using h3
    rw[h3',oIP (Array.getElem?_eq_some_iff.1 h3').1];rw[oIN hj]
    |_=>simp[hb]at h3
   exact(gF w ad u hk).symm) (λ_ _ _=>rfl) (λk hk _=>hF' k hk) (.dead (λ_ h=>h) h5.one) (λ_ h=>h.elim)
  exact this.refp λk=>⟨λh=>h.elim id False.elim,.inl⟩
 obtain⟨u,Zt,Zy,Xv,Z7,ZR⟩:=main;let G':Gh:=⟨G.β,λr' o'=>if r'=h/\o'=ho then u else G.η r' o',λr' o' k=>if r'=h/\o'=ho then Zt k else if r'=r/\o'=o then G.φ r o k/\¬Zt k else G.φ r' o' k⟩;have Xx:∀r' o' k,G'.φ r' o' k->(r'=h/\o'=ho/\Zt k)\/(¬(r'=h/\o'=ho)/\G.φ r' o' k/\(r'=r/\o'=o->¬Zt k)):=by intro r' o' k hk;dsimp only[G']at hk;split at hk;rename_i e;exact .inl ⟨e.1,e.2,hk⟩;rename_i e;split at hk;simp_all;rename_i e2;exact .inr ⟨e,hk,λh=>absurd h e2⟩
 have Ze:∀k,G.F A k->G'.F A k:=by rintro k ⟨h1,h2,h3⟩;refine⟨h1,λr' o' hk=>?_,h3⟩;rcases Xx r' o' k hk with⟨_,_,h4⟩|⟨_,h4,_⟩;exact h2 r o (Z7 k h4);exact h2 r' o' h4
 have Ys:=nO.ghost (C':=oi (oi C r o (iH (C r o) hs .dead)) h ho (.ow c)) (G':=G') hC rfl
  (λk ⟨r',o',hk⟩=>by
   rcases Xx r' o' k hk with⟨_,_,h4⟩|⟨_,h4,_⟩
   ·exact⟨r,o,Z7 k h4⟩
   ·exact⟨r',o',h4⟩)
  (λr1 o1 r2 o2 k h1 h2=>by
   rcases Xx r1 o1 k h1 with⟨e1,e2,h3⟩|⟨e1,h3,h3'⟩
   ·rcases Xx r2 o2 k h2 with⟨e3,e4,h4⟩|⟨e3,h4,h4'⟩
    ·exact⟨e1.trans e3.symm,e2.trans e4.symm⟩
    ·have:=hC.dis _ _ _ _ k h4 (Z7 k h3);exact absurd h3 (h4' this)
   ·rcases Xx r2 o2 k h2 with⟨e3,e4,h4⟩|⟨e3,h4,h4'⟩
    ·have:=hC.dis _ _ _ _ k h3 (Z7 k h4);exact absurd h4 (h3' this)
    ·exact hC.dis _ _ _ _ k h3 h4)
  (λr' b o0 n hb o' Zv=>by
   unfold oi;split
   ·rename_i e;rw[e.1,hβ]at hb;simp at hb
   ·split
    ·rename_i e;rw[<- e.1,<- e.2]at hdr;exact absurd (hC.boxc r' b o0 n hb o' Zv) hdr
    ·exact hC.boxc r' b o0 n hb o' Zv)
  (λr' o'=>by
   by_cases e:r'=h/\o'=ho
   ·obtain⟨rfl,rfl⟩:=e;refine .inr (.inr ?_)
    have hv:G'.val w r' o'=u:=by simp[Gh.val,G',hβ]
    rw[hv];simp only[oi,and_self,if_true]
    exact(Xv.frame (λ_ _=>rfl) (λ_ _ _=>rfl) λk hk _=>Ze k hk).refp λk=>by simp[G']
   ·by_cases e2:r'=r/\o'=o
    ·obtain⟨rfl,rfl⟩:=e2
     have YY:oi (oi C r' o' (iH (C r' o') hs .dead)) h ho (.ow c) r' o'=iH (C r' o') hs .dead:=by simp[oi,e]
     rw[YY]
     have Zj:∀k,G'.φ r' o' k↔(G.φ r' o' k/\¬Zt k):=λk=>by simp[G',e]
     have hv:G'.val w r' o'=G.val w r' o':=lP rfl (by simp[G',e]) λ_ _ _ _=>rfl
     rcases ZR (G'.F A) Ze with⟨h1,h2⟩|h1
     ·exact .inr (.inl ⟨h1,λk hk=>h2 k ((Zj k).1 hk)⟩)
     ·exact .inr (.inr (by rw[hv];exact h1.refp λk=>(Zj k).symm))
    ·exact .inl ⟨by simp[oi,e,e2],λk=>by simp[G',e,e2],by simp[G',e]⟩)
 exact⟨G',u,rfl,λr' o' e=>by simp[G',e],by simp[G'],Zy,Ys.1,Ys.2⟩
def lz(V:Vs)(r o n:Nat):N_:=V (r,0,0)::(List.range n).map λd=>V (r,o,d+1)
theorem nB{V V':Vs}{r o n:Nat}:lz V r o n=lz V' r o n↔V (r,0,0)=V' (r,0,0)/\∀d,d<n->V (r,o,d+1)=V' (r,o,d+1):=by unfold lz;simp_all
theorem oh{V0 V V':Vs}{r o n:Nat}(h0:∀q,V0 q<=V q)(h1:∀q,V q<=V' q)(h:lz V0 r o n=lz V' r o n):lz V0 r o n=lz V r o n/\lz V' r o n=lz V r o n:=by rw[nB]at h⊢;rw[nB];have ⟨h2,h3⟩:=h;refine⟨⟨?_,λd hd=>?_⟩,?_,λd hd=>?_⟩;have:=h0 (r,0,0);have:=h1 (r,0,0);omega;have:=h0 (r,o,d+1);have:=h1 (r,o,d+1);have:=h3 d hd;omega;have:=h0 (r,0,0);have:=h1 (r,0,0);omega;have:=h0 (r,o,d+1);have:=h1 (r,o,d+1);have:=h3 d hd;omega
theorem pL{V V':Vs}{r o n:Nat}{q:Key}(hq:V q<V' q)(h:lz V' r o n=lz V r o n):q≠(r,0,0)/\∀d,d<n->q≠(r,o,d+1):=by rw[nB]at h;refine⟨λe=>?_,λd hd e=>?_⟩;all_goals simp_all
def U1(w:World)(C:Cs)(G:Gh)(p:gf)(x:Value):Prop:=p.root≠1/\∃ad t,G.addr w p=some ad/\x=.pointer (some ad)/\gE (C p.root p.off) p.hops=some t
def VP(w:World)(C:Cs)(G:Gh)(p:gf)(x:Value):Prop:=p.root≠1/\∃c,G.hv w p=some x/\gE (C p.root p.off) p.hops=some (.ow c)
def Wa(w:World)(C:Cs)(G:Gh)(p:gf)(sz lo n:Nat)(x:Value):Prop:=
 p.root≠1/\∃c h,G.hv w p=some h/\gE (C p.root p.off) p.hops=some (.ow c)/\lo+n<=c.length /\
  ∃a cap,x=.slice a n cap/\(n<=cap/\c.length<=lo+cap)/\cap<=maxLen/\(a=none->cap=0)/\(∀i (h:i<c.length),c[i].length=sz)/\(0<cap->∃b len ZP,h=.slice (some ⟨b,0,none⟩) len ZP/\a=some ⟨b,lo*sz,none⟩)
inductive ImF (w:World)(F:Nat->Prop):TV->Value->Prop
 |im {t:TV} {x:Value} (h:ru w F t x):ImF w F t x
 |ip {cs:List TV} {b o:Nat} (u:Nat->Value) (hc:∀j,j<cs.length->F b/\w.cell? ⟨b,o+j,none⟩=some (u j)) (hr:∀j (h:j<cs.length),ImF w F cs[j] (u j)):
  ImF w F (.ip cs) (.pointer (some ⟨b,o,none⟩))
 |fn {f:FuncId} {l:List TV} {xs:Array Value} (hl:xs.size=l.length) (h:∀j (hj:j<l.length),ImF w F l[j] (xs.getD j undef)):ImF w F (.fn f l) (.func (.func f) #[] xs)
theorem ImF.frame{w w':World}{F F':Nat->Prop}{t:TV}{x:Value}(h:ImF w F t x)(hw:∀k,F k->k<w.heap.size->w'.heap[k]?=w.heap[k]?)(hF:∀k,F k->k<w.heap.size->F' k):ImF w' F' t x:=by induction h with|im h=>exact .im (h.frame hw hF)|ip u hc hr ih=>refine .ip u (λj hj=>?_) ih;have ⟨h1,h2⟩:=hc j hj;have hlt:=World.block_lt_of_cell? w _ h2;exact⟨hF _ h1 hlt,by rw[World.cell?_of_block (hw _ h1 hlt)];exact h2⟩|fn hl _ ih=>exact .fn hl ih
theorem ImF.one{w:World}{F:Nat->Prop}{t:TV}{x:Value}(h:ImF w F t x):x.oneCell'=true:=by cases h with|im h=>exact h.one|ip=>rfl|fn=>rfl
inductive TmR (w:World)(F:Nat->Prop)(V:Vs)(C:Cs)(G:Gh):TV->Value->Prop
 |v {x:Value} (h:kn x=true):TmR w F V C G (.v x) x
 |nil {a:Option Addr}:TmR w F V C G (.ow []) (.slice a 0 0)
 |sl {c:List (List TV)} {x:Value} (h:ru w F (.sl c) x):TmR w F V C G (.sl c) x
 |dead {x:Value}:TmR w F V C G .dead x
 |ptr {p:gf} {vs:List Nat} {x:Value} (V0:Vs) (h0:∀q,V0 q<=V q) (hv:vs=lz V0 p.root p.off p.hops.length)
  (h:vs=lz V p.root p.off p.hops.length->U1 w C G p x):TmR w F V C G (.ptr p vs) x
 |ip {cs:List TV} {b o:Nat} (u:Nat->Value) (hc:∀j,j<cs.length->F b/\w.cell? ⟨b,o+j,none⟩=some (u j)) (hr:∀j (h:j<cs.length),ImF w F cs[j] (u j)):
  TmR w F V C G (.ip cs) (.pointer (some ⟨b,o,none⟩))
 |pk {p:gf} {vs:List Nat} {x:Value} (V0:Vs) (h0:∀q,V0 q<=V q) (hv:vs=lz V0 p.root p.off (p.hops.length+1))
  (h:vs=lz V p.root p.off (p.hops.length+1)->VP w C G p x):TmR w F V C G (.pk p vs) x
 |pw {p:gf} {vs:List Nat} {sz lo n:Nat} {x:Value} (V0:Vs) (h0:∀q,V0 q<=V q) (hv:vs=lz V0 p.root p.off (p.hops.length+1))
  (h:vs=lz V p.root p.off (p.hops.length+1)->Wa w C G p sz lo n x):TmR w F V C G (.pw p vs sz lo n) x
 |agg {l:List TV} {xs:Array Value} (hl:xs.size=l.length) (h:∀j (hj:j<l.length),TmR w F V C G l[j] (xs.getD j undef)):TmR w F V C G (.agg l) (.agg xs)
 |tup {l:List TV} {xs:Array Value} (hl:xs.size=l.length) (h:∀j (hj:j<l.length),TmR w F V C G l[j] (xs.getD j undef)):TmR w F V C G (.tup l) (.tuple xs)
 |fn {f:FuncId} {l:List TV} {xs:Array Value} (hl:xs.size=l.length) (h:∀j (hj:j<l.length),TmR w F V C G l[j] (xs.getD j undef)):TmR w F V C G (.fn f l) (.func (.func f) #[] xs)
theorem ImF.toTm{w:World}{F:Nat->Prop}{V:Vs}{C:Cs}{G:Gh}{t:TV}{x:Value}(h:ImF w F t x):TmR w F V C G t x:=by
 induction h with
 | @im t x h=>
 cases t with
  |v y=>cases h with|v hf=>exact .v hf
  |sl c=>exact .sl h|dead=>exact .dead|_=>cases h
 |ip u hc hr _=>exact .ip u hc hr|fn hl _ ih=>exact .fn hl ih
def RV:TV->Bool|.v _=>true|.sl _=>true|.ip _=>true|_=>false
theorem TmR.imC{w:World}{F:Nat->Prop}{V:Vs}{C:Cs}{G:Gh}{t:TV}{x:Value}(h:TmR w F V C G t x)(ht:RV t=true):ImF w F t x:=by cases h with|v h=>exact .im (.v h)|sl h=>exact .im h|ip u hc hr=>exact .ip u hc hr|_=>simp[RV]at ht
structure kZ (w w':World)(V V':Vs)(C C':Cs)(G G':Gh):Prop where
 ver:∀q,V q<=V' q
 ptr:∀p ad t,p.root≠1->lz V' p.root p.off p.hops.length=lz V p.root p.off p.hops.length->G.addr w p=some ad->gE (C p.root p.off) p.hops=some t ->
  ∃t',G'.addr w' p=some ad/\gE (C' p.root p.off) p.hops=some t'
 hdr:∀p h c,p.root≠1->lz V' p.root p.off (p.hops.length+1)=lz V p.root p.off (p.hops.length+1)->G.hv w p=some h->gE (C p.root p.off) p.hops=some (.ow c)->
  ∃c',G'.hv w' p=some h/\gE (C' p.root p.off) p.hops=some (.ow c')/\c'.map List.length=c.map List.length
theorem kZ.refl(w:World)(V:Vs)(C:Cs)(G:Gh):kZ w w V V C C G G:=⟨λ_=>oLE _,λ_ _ t _ _ h h'=>⟨t,h,h'⟩,λ_ _ c _ _ h h'=>⟨c,h,h',rfl⟩⟩
theorem kZ.trans{w w' w'':World}{V V' V'':Vs}{C C' C'':Cs}{G G' G'':Gh}(a:kZ w w' V V' C C' G G')(b:kZ w' w'' V' V'' C' C'' G' G''):kZ w w'' V V'' C C'' G G'':=by refine⟨λq=>Nat.le_trans (a.ver q) (b.ver q),λp ad t Z6 hv h1 h2=>?_,λp h c Z6 hv h1 h2=>?_⟩;have ⟨e1,e2⟩:=oh a.ver b.ver hv.symm;have ⟨t',h3,h4⟩:=a.ptr p ad t Z6 e1.symm h1 h2;exact b.ptr p ad t' Z6 e2 h3 h4;have ⟨e1,e2⟩:=oh a.ver b.ver hv.symm;have ⟨c',h3,h4,h5⟩:=a.hdr p h c Z6 e1.symm h1 h2;have ⟨c2,h6,h7,h8⟩:=b.hdr p h c' Z6 e2 h3 h4;simp_all
theorem TmR.keep{w w':World}{F F':Nat->Prop}{V V':Vs}{C C':Cs}{G G':Gh}{t:TV}{x:Value}(h:TmR w F V C G t x)(k:kZ w w' V V' C C' G G') (hw:∀k,F k->k<w.heap.size->w'.heap[k]?=w.heap[k]?)(hF:∀k,F k->k<w.heap.size->F' k):TmR w' F' V' C' G' t x:=by
 induction h with
 |v h=>exact .v h|nil=>exact .nil|sl h=>exact .sl (h.frame hw hF)|dead=>exact .dead|ptr V0 h0 hv h=>refine .ptr V0 (λq=>Nat.le_trans (h0 q) (k.ver q)) hv λe=>?_;obtain⟨e1,e2⟩:=oh h0 k.ver (hv.symm.trans e);obtain⟨Z6,ad,t,h1,h2,h3⟩:=h (hv.trans e1);obtain⟨t',h4,h5⟩:=k.ptr _ ad t Z6 e2 h1 h3;exact⟨Z6,ad,t',h4,h2,h5⟩|ip u hc hr=>refine .ip u (λj hj=>?_) λj hj=>(hr j hj).frame hw hF;obtain⟨h1,h2⟩:=hc j hj;have hlt:=World.block_lt_of_cell? w _ h2;exact⟨hF _ h1 hlt,by rw[World.cell?_of_block (w:=w) (hw _ h1 hlt)];exact h2⟩|pk V0 h0 hv h=>refine .pk V0 (λq=>Nat.le_trans (h0 q) (k.ver q)) hv λe=>?_;obtain⟨e1,e2⟩:=oh h0 k.ver (hv.symm.trans e);obtain⟨Z6,c,h1,h2⟩:=h (hv.trans e1);obtain⟨c',h4,h5,_⟩:=k.hdr _ _ c Z6 e2 h1 h2;exact⟨Z6,c',h4,h5⟩|pw V0 h0 hv h=>
 refine .pw V0 (λq=>Nat.le_trans (h0 q) (k.ver q)) hv λe=>?_;obtain⟨e1,e2⟩:=oh h0 k.ver (hv.symm.trans e);obtain⟨Z6,c,h,h1,h2,h3,h6⟩:=h (hv.trans e1);obtain⟨c',h4,h5,h7⟩:=k.hdr _ _ c Z6 e2 h1 h2;obtain⟨a,cap,q1,q2,q3,q4,q5,q6⟩:=h6;have hl:=Mh h7;refine⟨Z6,c',h,h4,h5,by omega,a,cap,q1,by omega,q3,q4,λi hi=>?_,q6⟩;have e3:(c'.map List.length)[i]?=(c.map List.length)[i]?:=by rw[h7]
 have Zk:i<c.length:=by omega
 simp only[oGP,oGE hi,oGE Zk,oMS,oSJ]at e3;rw[e3];exact q5 i Zk
 |agg hl _ ih=>exact .agg hl ih|tup hl _ ih=>exact .tup hl ih|fn hl _ ih=>exact .fn hl ih
theorem Cv{G G':Gh}{w w':World}{p:gf}{ad:Addr}(hw:∀k,k<w.heap.size->w'.heap[k]?=w.heap[k]?)(hβ:G'.β p.root=G.β p.root)(hval:G'.val w' p.root p.off=G.val w p.root p.off)(hh:G.addr w p=some ad):G'.addr w' p=some ad:=by unfold Gh.addr at *;cases hp:p.hops with|nil=>simp_all|cons a r=>rw[hp]at hh;rw[hval];exact zb hw hh
theorem AN{G G':Gh}{w w':World}{p:gf}{h:Value}(hw:∀k,k<w.heap.size->w'.heap[k]?=w.heap[k]?)(hval:G'.val w' p.root p.off=G.val w p.root p.off)(hh:G.hv w p=some h):G'.hv w' p=some h:=by unfold Gh.hv at *;rw[hval];cases hp:p.hops with|nil=>rw[hp]at hh;exact hh|cons a r=>rw[hp]at hh;simp[hvT]at hh⊢;cases ha:gK w (G.val w p.root p.off) (a::r)with|none=>simp_all|some ad=>rw[zb hw ha];simp[ha]at hh⊢;rw[World.cell?_of_block (hw _ (World.block_lt_of_cell? w _ hh))];exact hh
theorem kZ.root{w w':World}{V V':Vs}{C C':Cs}{G G':Gh}{A:Nat->Prop}(hC:nO A C w G)(r:Nat)(hw:∀k,k<w.heap.size->w'.heap[k]?=w.heap[k]?) (hV:∀q,V q<=V' q)(hr:V (r,0,0)<V' (r,0,0))(hCs:∀r' o,r'≠r->r'≠1->C' r' o=C r' o)(hβ:∀r',r'≠r->r'≠1->G'.β r'=G.β r')(hη:∀r' o,r'≠r->r'≠1->G'.η r' o=G.η r' o):kZ w w' V V' C C' G G':=by have hval:=λr' o hne h1=>lP (hβ r' hne h1) (hη r' o hne h1) λb o n hb=>hw b (hC.boxlt hb);refine⟨hV,λp ad t Z6 hv h1 h2=>?_,λp h c Z6 hv h1 h2=>?_⟩;have hne:p.root≠r:=λe=>(pL hr hv).1 (by rw[e]);exact⟨t,Cv hw (hβ _ hne Z6) (hval _ _ hne Z6) h1,by simp_all⟩;have hne:p.root≠r:=λe=>(pL hr hv).1 (by rw[e]);exact⟨c,AN hw (hval _ _ hne Z6) h1,by simp_all,rfl⟩
theorem kZ.grow{w w':World}{V:Vs}{C:Cs}{G:Gh}{A:Nat->Prop}(hC:nO A C w G)(hw:∀k,k<w.heap.size->w'.heap[k]?=w.heap[k]?):kZ w w' V V C C G G:=by have hval:=(hC.grow hw).2;exact⟨λ_=>oLE _,λp ad t _ _ h1 h2=>⟨t,Cv hw rfl (hval _ _) h1,h2⟩,λp h c _ _ h1 h2=>⟨c,AN hw (hval _ _) h1,h2,rfl⟩⟩
theorem yZ{os:N_}:∀{hs:L_}{tv t:TV},gE tv hs=some t->hs.length<=os.length->∃t1,gE (ir tv os) hs=some t1/\(hs.length<os.length->∀c,t=.ow c->∃c',t1=.ow c'/\c'.map List.length=c.map List.length):=by induction os with|nil=>intro hs tv t _ hl;have:hs=[]:=oEN (by simpa using hl);subst this;exact⟨_,rfl,λh=>absurd h (by simp)⟩|cons o os ih=>intro hs tv t h hl;cases hs with|nil=>simp only[gE,oSJ]at h;subst h;exact⟨_,rfl,λ_ c hc=>by subst hc;exact⟨_,rfl,by simp⟩⟩|cons p hs=>obtain⟨i,sz,o'⟩:=p;obtain⟨c,el,t2,rfl,hc,hz,ho,Y3⟩:=iX h;subst hz;simp at hl;by_cases hoo:o=o';subst hoo;obtain⟨t1,h1,h2⟩:=ih Y3 hl;refine⟨t1,?_,λhlt=>h2 (by simpa using hlt)⟩;simp[ir,gE,oGM,hc,ho,h1];refine⟨t,?_,λ_ c hc=>⟨c,hc,rfl⟩⟩;simp[ir,gE,oGM,hc,ho,hoo,Y3]
theorem kZ.ghost{w:World}{V V':Vs}{C C':Cs}{G G':Gh}(r o d:Nat)(hV:∀q,V q<=V' q)(hr:V (r,o,d+1)<V' (r,o,d+1))(hβ:G'.β=G.β) (hη:∀r' o',r'≠1->C r' o'≠.dead->G'.η r' o'=G.η r' o') (hCs:∀r' o',¬(r'=r/\o'=o)->r'≠1->C' r' o'=C r' o') (hq:∀hs t,gE (C r o) hs=some t->hs.length<=d->∃t1,gE (C' r o) hs=some t1/\(hs.length<d->∀c,t=.ow c->∃c',t1=.ow c'/\c'.map List.length=c.map List.length)):kZ w w V V' C C' G G':=by
 have hval:∀r' o',r'≠1->C r' o'≠.dead->G'.val w r' o'=G.val w r' o':=λr' o' h1 hd=>lP (by rw[hβ]) (hη r' o' h1 hd) λ_ _ _ _=>rfl;refine⟨hV,λp ad t Z6 hv h1 h2=>?_,λp h c Z6 hv h1 h2=>?_⟩;have YB:=(pL hr hv).2;have ha:G'.addr w p=some ad:=by
  cases hp:p.hops with
  |nil=>unfold Gh.addr at h1⊢;rw[hp]at h1⊢;rw[hβ];exact h1|cons a l=>
  have hd:C p.root p.off≠.dead:=λhd=>by rw[hd,hp]at h2;simp[gE]at h2
  exact Cv (λ_ _=>rfl) (by rw[hβ]) (hval _ _ Z6 hd) h1
 by_cases he:p.root=r/\p.off=o;have hl:p.hops.length<=d:=by rcases Nat.lt_or_ge d p.hops.length with h|h;exact absurd (show((r,o,d+1):Key)=(p.root,p.off,d+1) by rw[he.1,he.2]) (YB d h);exact h
 rw[he.1,he.2]at h2;obtain⟨t1,h3,_⟩:=hq _ _ h2 hl;exact⟨t1,ha,by rw[he.1,he.2];exact h3⟩;exact⟨t,ha,by rw[hCs _ _ he Z6];exact h2⟩;have YB:=(pL hr hv).2;have hd:C p.root p.off≠.dead:=λhd=>by rw[hd]at h2;cases hp:p.hops<;>rw[hp]at h2<;>simp[gE]at h2
 have hh:=AN (G':=G') (λ_ _=>rfl) (hval _ _ Z6 hd) h1;by_cases he:p.root=r/\p.off=o;have hl:p.hops.length<d:=by rcases Nat.lt_or_ge d (p.hops.length+1)with h|h;exact absurd (show((r,o,d+1):Key)=(p.root,p.off,d+1) by rw[he.1,he.2]) (YB d h);exact h
 rw[he.1,he.2]at h2;obtain⟨t1,h3,h4⟩:=hq _ _ h2 (Nat.le_of_lt hl);simp_all;simp_all
theorem nO.hv_own{A:Nat->Prop}{C:Cs}{w:World}{G:Gh}(hC:nO A C w G)(p:gf){t:TV}(ht:gE (C p.root p.off) p.hops=some t)(hd:t≠.dead):∃u fp,G.hv w p=some u/\jD w (G.F A) fp t u/\(∀k,fp k->G.φ p.root p.off k)/\(p.hops≠[]->∃ad,gK w (G.val w p.root p.off) p.hops=some ad/\w.cell? ad=some u/\G.φ p.root p.off ad.block):=by
 have ⟨r,o,hs⟩:=p;have hdr:C r o≠.dead:=by intro hdr;have:=ht;rw[hdr]at this;cases hs with|nil=>simp[gE]at this;exact hd this.symm|cons=>simp[gE]at this
 cases hs with|nil=>simp[gE]at ht;subst ht;exact⟨G.val w r o,G.φ r o,rfl,hC.own hdr,λ_ h=>h,λh=>absurd rfl h⟩|cons h hs=>have ⟨ad,u,Zt,h1,_,h3,_,h5,h6,h7,_⟩:=lens (hC.own hdr) (by simp) ht;exact⟨u,Zt,mj h1 h3,h5,h6,λ_=>⟨ad,h1,h3,h7⟩⟩
section
variable {A:Nat->Prop} {C:Cs} {w:World} {G:Gh}
theorem nO.where_(hC:nO A C w G)(q:gf){t:TV}{ad:Addr}(Z4:G.addrB w q=some ad)(ht:gE (C q.root q.off) q.hops=some t):(q.hops=[]/\∃b o0 n,G.β q.root=some (b,o0,n)/\q.off<n/\ad=⟨b,o0+q.off,none⟩)\/(q.hops≠[]/\G.φ q.root q.off ad.block):=by
 obtain⟨r,o,hs⟩:=q;cases hs with
 |nil=>
 left;simp only[Gh.addrB]at Z4;cases hbr:G.β r with
  |none=>simp[hbr]at Z4|some y=>
  obtain⟨b,o0,n⟩:=y;simp only[hbr]at Z4;split at Z4;rename_i hlt;injection Z4 with Z4
  exact⟨rfl,b,o0,n,by simp_all,hlt,Z4.symm⟩;simp at Z4
 |cons h hs=>
 right;have hd:C r o≠.dead:=λhd=>by have:=ht;simp only at this;rw[hd]at this;simp[gE]at this
 obtain⟨WJ,u,Zt,h1,_,_,_,_,_,h7,_⟩:=lens (hC.own hd) (by simp) ht;have Xn:gK w (G.val w r o) (h::hs)=some ad:=Z4;simp_all
theorem nO.val_set(hC:nO A C w G)(q:gf){t:TV}{ad:Addr}(Z4:G.addrB w q=some ad)(ht:gE (C q.root q.off) q.hops=some t){w':World}{u':Value} (hw:∀k,k<w.heap.size->w'.heap[k]?=(w.setCell ad u').heap[k]?){r' o':Nat}(hd:C r' o'≠.dead)(hne:¬(q.hops=[]/\r'=q.root/\o'=q.off)):G.val w' r' o'=G.val w r' o':=by
 unfold Gh.val;cases hbb:G.β r' with
 |none=>rfl|some x=>
 have ⟨b,o0,n⟩:=x;have hna:(⟨b,o0+o',none⟩:Addr)≠ad:=by
  intro e;rcases hC.where_ q Z4 ht with⟨h1,b2,o2,n2,h2,h3,h4⟩|⟨_,h1⟩;rw[h4]at e;injection e with e1 e2
  have hr:=hC.boxd r' q.root b o0 n o2 n2 hbb (by rw[h2,e1]);simp_all;exact hC.boxf r' b o0 n hbb _ _ (by rw[<- e]at h1;exact h1)
 show(w'.cell? ⟨b,o0+o',none⟩).getD undef=(w.cell? ⟨b,o0+o',none⟩).getD undef;rw[World.cell?_of_block (hw b (hC.boxlt hbb)),World.cell?_setCell_other w ad ⟨b,o0+o',none⟩ u' (λe=>hna e.symm)]
theorem nO.phi_ne(hC:nO A C w G)(q:gf){t:TV}{ad:Addr}(Z4:G.addrB w q=some ad)(ht:gE (C q.root q.off) q.hops=some t){r' o' k:Nat}(hne:¬(r'=q.root/\o'=q.off))(hk:G.φ r' o' k):k≠ad.block:=by intro e;rcases hC.where_ q Z4 ht with⟨h1,b2,o2,n2,h2,h3,h4⟩|⟨_,h1⟩;rw[h4]at e;exact hC.boxf _ _ _ _ h2 r' o' (by simp_all);exact hne (hC.dis _ _ _ _ k hk (by simp_all))
theorem of{G':Gh}{w':World}{p:gf}{ad:Addr}(h1:G.addr w p=some ad)(hβ:G'.β=G.β)(hT:p.hops≠[]->gK w' (G'.val w' p.root p.off) p.hops=gK w (G.val w p.root p.off) p.hops):G'.addr w' p=some ad:=by unfold Gh.addr at h1⊢;cases hp:p.hops with|nil=>simp_all|cons a r=>simp_all
theorem Ej(hC:nO A C w G)(q:gf){u u':Value}{ad:Addr}(Z4:G.addrB w q=some ad)(ht:gE (C q.root q.off) q.hops=some (.v u))(hu':kn u'=true){w':World}{C':Cs}{G':Gh}{V:Vs}{t':TV} (hw:∀k,k<w.heap.size->w'.heap[k]?=(w.setCell ad u').heap[k]?)(hβ:G'.β=G.β)(hη:G'.η=G.η) (hCq:C' q.root q.off=iH (C q.root q.off) q.hops t')(YM:∀r o,¬(r=q.root/\o=q.off)->r≠1->C' r o=C r o):kZ w w' V V C C' G G':=by
 obtain⟨u0,fp,hv,hown,_,hadf⟩:=hC.hv_own q ht (by simp);have hu:kn u0=true/\u0=u:=by cases hown with|v _ h=>exact⟨h,rfl⟩
 obtain⟨hu,rfl⟩:=hu;have YO:w.cell? ad=some u0:=by
  cases hq:q.hops with
  |nil=>rcases hC.where_ q Z4 ht with⟨_,b,o0,n,h2,h3,h4⟩|⟨h,_⟩;rw[h4,hC.boxcell h2 h3];unfold Gh.hv at hv;rw[hq]at hv;exact hv;exact absurd hq h
  |cons a r=>
  obtain⟨WJ,h1,h2,_⟩:=hadf (by rw[hq];simp);have h3:gK w (G.val w q.root q.off) q.hops=some ad:=by unfold Gh.addrB at Z4;rw[hq]at Z4⊢;exact Z4
  rw[h3]at h1;injection h1 with h1
  rw[h1];exact h2
 have hsz:(w.setCell ad u').heap.size=w.heap.size:=by simp
 have hval:∀r' o',C r' o'≠.dead->¬(q.hops=[]/\r'=q.root/\o'=q.off)->G'.val w' r' o'=G.val w r' o':=by intro r' o' hd hne;rw[<- hC.val_set q Z4 ht hw hd hne];unfold Gh.val;rw[hβ,hη]
 have hT:∀(x:Value)(hs:L_)(a:Addr),gK w x hs=some a->gK w' x hs=some a:=by intro x hs a h;refine zb (w:=w.setCell ad u') (λk hk=>hw k (by rw[<- hsz];exact hk)) ?_;rw[MQ YO hu hu'];exact h
 have hgt:∀(p:gf)(t:TV),p.root≠1->gE (C p.root p.off) p.hops=some t->∃t1,gE (C' p.root p.off) p.hops=some t1/\(∀c,t=.ow c->∃c',t1=.ow c'/\c'.map List.length=c.map List.length):=by intro p t Z6 h;by_cases he:p.root=q.root/\p.off=q.off;rw[he.1,he.2]at h⊢;rw[hCq];exact Dz ht (by simp) h;rw[YM _ _ he Z6];exact⟨t,h,λc hc=>⟨c,hc,rfl⟩⟩
 have YB:∀(p:gf),p.hops≠[]->(∃t,gE (C p.root p.off) p.hops=some t)->C p.root p.off≠.dead/\¬(q.hops=[]/\p.root=q.root/\p.off=q.off):=by
  rintro p hp ⟨t,h⟩;refine⟨λhd=>?_,λ⟨h1,h2,h3⟩=>?_⟩;rw[hd]at h;cases hq:p.hops with|nil=>exact hp hq|cons=>rw[hq]at h;simp[gE]at h
  rw[h1]at ht;simp only[gE,oSJ]at ht;rw[h2,h3,ht]at h;cases hq:p.hops with|nil=>exact hp hq|cons=>rw[hq]at h;simp[gE]at h
 refine⟨λ_=>oLE _,λp a t Z6 _ h1 h2=>?_,λp h c Z6 _ h1 h2=>?_⟩;obtain⟨t1,h3,_⟩:=hgt p t Z6 h2;refine⟨t1,?_,h3⟩;cases hp:p.hops with
 |nil=>exact of h1 hβ λh=>absurd hp h|cons b l=>
  obtain⟨h4,h5⟩:=YB p (by rw[hp];simp) ⟨t,h2⟩;refine of h1 hβ λ_=>?_;have h6:gK w (G.val w p.root p.off) p.hops=some a:=by unfold Gh.addr at h1;rw[hp]at h1⊢;exact h1
  rw[hval _ _ h4 h5,h6,hT _ _ _ h6]
 obtain⟨t1,h3,h4⟩:=hgt p _ Z6 h2;obtain⟨c',rfl,h5⟩:=h4 c rfl;refine⟨c',?_,h3,h5⟩;obtain⟨x,fpx,h6,h7,_,h8⟩:=hC.hv_own p h2 (by simp);rw[h1]at h6;injection h6 with h6
 subst h6;obtain⟨aa,cp,Y8,_⟩:=h7.hdr;cases hp:p.hops with
 |nil=>
 have h9:C p.root p.off=.ow c:=by rw[hp]at h2;simpa[gE]using h2
 unfold Gh.hv at h1⊢;rw[hp]at h1⊢;rw[hval _ _ (by rw[h9];simp) (λ⟨e1,e2,e3⟩=>by
  rw[e1]at ht;simp only[gE,oSJ]at ht;rw[e2,e3,ht]at h9
  simp at h9)]
 exact h1
 |cons b l=>
 obtain⟨WJ,h9,h10,_⟩:=h8 (by rw[hp];simp);obtain⟨WL,h12⟩:=YB p (by rw[hp];simp) ⟨_,h2⟩;have hne:WJ≠ad:=by
  intro e;rw[e,YO]at h10;injection h10 with h10
  rw[h10,Y8]at hu;simp[kn]at hu
 unfold Gh.hv;refine mj (hval _ _ WL h12▸hT _ _ _ h9) ?_;rw[World.cell?_of_block (w:=w.setCell ad u') (hw _ (World.block_lt_of_cell? w _ h10)),World.cell?_setCell_other w ad WJ u' (λe=>hne e.symm)];exact h10
theorem AZ(hC:nO A C w G)(q:gf)(hlen:q.hops.length<=1){t:TV}{ad:Addr}{u':Value}(Z4:G.addrB w q=some ad)(ht:gE (C q.root q.off) q.hops=some t){w':World}{C':Cs}{G':Gh}{V V':Vs}{t':TV} (hw:∀k,k<w.heap.size->w'.heap[k]?=(w.setCell ad u').heap[k]?)(hβ:G'.β=G.β)(hη:G'.η=G.η)(hV:∀k,V k<=V' k)(hr:V (q.root,q.off,q.hops.length+1)<V' (q.root,q.off,q.hops.length+1)) (hCq:C' q.root q.off=iH (C q.root q.off) q.hops t')(YM:∀r o,¬(r=q.root/\o=q.off)->r≠1->C' r o=C r o):kZ w w' V V' C C' G G':=by
 have hval:∀r' o',C r' o'≠.dead->¬(q.hops=[]/\r'=q.root/\o'=q.off)->G'.val w' r' o'=G.val w r' o':=by intro r' o' hd hne;rw[<- hC.val_set q Z4 ht hw hd hne];unfold Gh.val;rw[hβ,hη]
 have Zn:∀(p:gf)(t:TV),t≠.dead\/p.hops≠[]->gE (C p.root p.off) p.hops=some t->C p.root p.off≠.dead:=by
  intro p t h1 h hd;rw[hd]at h;cases hq:p.hops with
  |nil=>rw[hq]at h;simp only[gE,oSJ]at h;rcases h1 with h1|h1;exact h1 h.symm;exact h1 hq
  |cons=>rw[hq]at h;simp[gE]at h
 have hφ:∀r' o' k,¬(r'=q.root/\o'=q.off)->G.φ r' o' k->w'.heap[k]?=w.heap[k]?:=by intro r' o' k hne hk;rw[hw k (hC.live hk)];exact gF w ad u' (hC.phi_ne q Z4 ht hne hk)
 refine⟨hV,λp a t1 Z6 hv h1 h2=>?_,λp h c Z6 hv h1 h2=>?_⟩;have YB:=(pL hr hv).2;by_cases he:p.root=q.root/\p.off=q.off;have hl:p.hops.length<=q.hops.length:=by rcases Nat.lt_or_ge q.hops.length p.hops.length with h|h;exact absurd (show((q.root,q.off,q.hops.length+1):Key)=(p.root,p.off,q.hops.length+1) by rw[he.1,he.2]) (YB _ h);exact h
 have h2':=h2;rw[he.1,he.2]at h2';obtain⟨t2,h3,_⟩:=qc (t':=t') ht h2' hl;refine⟨t2,?_,by rw[he.1,he.2,hCq];exact h3⟩;refine of h1 hβ λhp=>?_;have hq:q.hops≠[]:=λe=>by rw[e]at hl;exact hp (oEN (by simpa using hl))
 rw[hval _ _ (Zn p t1 (.inr hp) h2) (λh=>hq h.1)];match hp':p.hops,hp with
 | [hh],_=>cases G.val w p.root p.off<;>first|rfl|(rename_i a n c;cases a<;>rfl)
 |_::_::_,_=>rw[hp']at hl;simp at hl;omega
 have hC':C' p.root p.off=C p.root p.off\/p.hops=[]:=.inl (YM _ _ he Z6);refine⟨?_,?_⟩;exact(gE (C' p.root p.off) p.hops).getD .dead;refine⟨of h1 hβ λhp=>?_,?_⟩;have hd:=Zn p t1 (.inr hp) h2;rw[hval _ _ hd (λh=>he h.2)];exact sV (hC.own hd) h2 λk hk=>hφ _ _ k he hk;rcases hC' with h|h;rw[h,h2];rfl;rw[h];rfl;have YB:=(pL hr hv).2;have hd:=Zn p (.ow c) (.inl (by simp)) h2;by_cases he:p.root=q.root/\p.off=q.off;have hl:p.hops.length<q.hops.length:=by rcases Nat.lt_or_ge q.hops.length (p.hops.length+1)with h|h;exact absurd (show((q.root,q.off,q.hops.length+1):Key)=(p.root,p.off,q.hops.length+1) by rw[he.1,he.2]) (YB _ h);exact h
 have h2':=h2;rw[he.1,he.2]at h2';obtain⟨t2,h3,h4⟩:=qc (t':=t') ht h2' (Nat.le_of_lt hl);obtain⟨c',rfl,h5⟩:=h4 hl c rfl;refine⟨c',?_,by rw[he.1,he.2,hCq];exact h3,h5⟩;have hp:p.hops=[]:=oEN (by omega);unfold Gh.hv at h1⊢;rw[hp]at h1⊢;simp only[hvT]at h1⊢;rw[hval _ _ hd (λh=>by rw[h.1]at hl;simp at hl)];exact h1;have hC':=YM _ _ he Z6;refine⟨c,?_,by rw[hC'];exact h2,rfl⟩;obtain⟨x,fpx,h6,h7,_,h8⟩:=hC.hv_own p h2 (by simp);rw[h1]at h6;injection h6 with h6
 subst h6;have YD:=hval _ _ hd (λh=>he h.2);cases hp:p.hops with|nil=>unfold Gh.hv at h1⊢;rw[hp]at h1⊢;simp only[hvT]at h1⊢;rw[YD];exact h1|cons b l=>obtain⟨WJ,h9,h10,WL⟩:=h8 (by rw[hp];simp);unfold Gh.hv;refine mj (ad:=WJ) ?_ ?_;rw[YD,sV (hC.own hd) h2 λk hk=>hφ _ _ k he hk];exact h9;rw[World.cell?_of_block (w:=w) (hφ _ _ _ he WL)];exact h10
end
def TV.hd:TV->Option N_|.ow c=>some (c.map List.length)|_=>none
inductive SP (α:Type) where
 |ret (a:α)
 |fail
 |rdT (i:Nat) (k:TV->SP α)
 |rdC (r o:Nat) (k:TV->SP α)
 |rdH (r o:Nat) (k:Option (List Nat)->SP α)
 |rdV (q:Key) (k:Nat->SP α)
 |wrT (i:Nat) (t:TV) (k:SP α)
 |wrC (r o:Nat) (t:TV) (k:SP α)
 |new (r:Nat) (l:List TV) (k:SP α)
 |bump (q:Key) (k:SP α)
def SP.bind{α β:Type}:SP α->(α->SP β)->SP β|.ret a,f=>f a|.fail,_=>.fail|.rdT i k,f=>.rdT i λt=>(k t).bind f|.rdC r o k,f=>.rdC r o λt=>(k t).bind f|.rdH r o k,f=>.rdH r o λt=>(k t).bind f|.rdV q k,f=>.rdV q λn=>(k n).bind f|.wrT i t k,f=>.wrT i t (k.bind f)|.wrC r o t k,f=>.wrC r o t (k.bind f)|.new r l k,f=>.new r l (k.bind f)|.bump q k,f=>.bump q (k.bind f)
def gD{α:Type}:List (Nat×α)->Nat->Option α| [],_=>none|(k,v)::r,i=>if k=i then some v else gD r i
def iJ{α:Type}:List (Nat×α)->Nat->α->List (Nat×α)| [],i,v=>[(i,v)]|(k,v0)::r,i,v=>if k=i then(i,v)::r else(k,v0)::iJ r i v
abbrev m_:=List (Key×Nat)
def nw:m_->Key->Nat| [],_=>0|(k,v)::r,i=>if k=i then v else nw r i
def tA:m_->Key->m_| [],i=>[(i,1)]|(k,v)::r,i=>if k=i then(k,v+1)::r else(k,v)::tA r i
abbrev q_:=List (Nat×TV)
structure St where
 tm:q_
 ce:List (Nat×U_)
 vr:m_
def St.t(σ:St)(i:Nat):TV:=(gD σ.tm i).getD .dead
def St.c(σ:St)(r o:Nat):TV:=match gD σ.ce r with|some l=>l.getD o .dead|none=>.dead
def St.v(σ:St)(q:Key):Nat:=nw σ.vr q
def SP.run{α:Type}:SP α->St->Option (α×St)
 |.ret a,σ=>some (a,σ)|.fail,_=>none|.rdT i k,σ=>(k (σ.t i)).run σ|.rdC r o k,σ=>(k (σ.c r o)).run σ|.rdH r o k,σ=>(k (σ.c r o).hd).run σ|.rdV q k,σ=>(k (σ.v q)).run σ|.wrT i t k,σ=>k.run { σ with tm:=iJ σ.tm i t }
 |.wrC r o t k,σ=>
 match gD σ.ce r with
  |some l=>if o<l.length then k.run { σ with ce:=iJ σ.ce r (l.set o t) }else none
  |none=>none
 |.new r l k,σ=>k.run { σ with ce:=iJ σ.ce r l,vr:=tA σ.vr (r,0,0) }
 |.bump q k,σ=>k.run { σ with vr:=tA σ.vr q }
theorem SP.run_bind{α β:Type}(s:SP α)(f:α->SP β)(σ:St):(s.bind f).run σ=(s.run σ).bind λx=>(f x.1).run x.2:=by
 induction s generalizing σ with
 |ret a=>rfl|fail=>rfl|rdT i k ih=>exact ih _ _|rdC r o k ih=>exact ih _ _|rdH r o k ih=>exact ih _ _|rdV q k ih=>exact ih _ _|wrT i t k ih=>exact ih _|wrC r o t k ih=>simp[SP.bind,SP.run];cases gD σ.ce r with|none=>rfl|some l=>simp only;split;simp_all;rfl
 |new r l k ih=>exact ih _|bump q k ih=>exact ih _
theorem fN{α β:Type}{s:SP α}{f:α->SP β}{σ:St}{y:β×St}(h:(s.bind f).run σ=some y):∃a σ1,s.run σ=some (a,σ1)/\(f a).run σ1=some y:=by rw[SP.run_bind]at h;cases hs:s.run σ with|none=>simp_all|some x=>exact⟨x.1,x.2,rfl,by simp_all⟩
theorem gN{α:Type}(l:List (Nat×α))(i j:Nat)(v:α):gD (iJ l i v) j=if i=j then some v else gD l j:=by induction l with|nil=>simp[iJ,gD]|cons x r ih=>have ⟨k,v0⟩:=x;simp[iJ];by_cases hk:k=i;subst hk;simp[gD];simp_all;rw[oIN hk];simp[gD];grind
theorem jn(l:m_)(i j:Key):nw (tA l i) j=nw l j+if i=j then 1 else 0:=by induction l with|nil=>simp only[tA,nw];split<;>rfl|cons x r ih=>have ⟨k,v0⟩:=x;simp[tA];by_cases hk:k=i;subst hk;simp[nw];grind;rw[oIN hk];simp[nw];grind
inductive Opd where
 |t (i:Nat)
 |c (x:Value)
 |f (f:FuncId)
inductive FK where
 |i
 |b
 |s
abbrev w_:=List Value
abbrev S_:=List FK
def gU:S_->w_->w_->Option Bool| [],[],[]=>some true|.i::ks,.int k a::xs,.int k' b::ys=>if k=k' then(gU ks xs ys).map ((a==b) && ·)else none|.b::ks,.bool a::xs,.bool b::ys=>(gU ks xs ys).map ((a==b) && ·)|.s::ks,.string a::xs,.string b::ys=>(gU ks xs ys).map ((a==b) && ·)|_,_,_=>none
inductive TOp where
 |mov (x:Opd)
 |asn (mv:Bool) (x:Opd)
 |pick (c a b:Opd)
 |alloc (zero:List Value)
 |box (n:Nat) (mv:Bool) (x:Opd)
 |load (n:Option Nat) (a:Opd)
 |store (n:Nat) (mv:Bool) (a x:Opd)
 |nilc (x:Opd)
 |fld (off:Nat) (a:Opd)
 |idx (sz:Nat) (x i:Opd)
 |ext (x:Opd) (i:Nat)
 |bin (op:BinOp) (x y:Opd)
 |bnb (neg:Bool) (x y:Opd)
 |eqa (ks:List FK) (neg:Bool) (x y:Opd)
 |un (op:UnOp) (x:Opd)
 |conv (k:IntKind) (x:Opd)
 |bld (zero:List Value) (mv:Bool) (parts:List (Nat×Nat×Opd))
 |bsl (sz:Nat) (mv:Bool) (len:Nat) (parts:List Opd)
 |mks (sz:Nat) (zero:List Value) (l c:Opd)
 |slc (sz:Nat) (x:Opd) (lo hi:Option Opd)
 |app (sz bytes:Nat) (mv fl:Bool) (s x:Opd)
 |cpy (sz:Nat) (d s:Opd)
 |len (x:Opd)
 |lens (x:Opd)
 |ixs (x i:Opd)
 |mm (mx:Bool) (xs:List Opd)
 |call (keep:Bool) (f:Opd) (args:List (Option Nat×Opd))
 |idxa (n sz:Nat) (x i:Opd)
 |s2b (x:Opd)
def iL:Value->TV|.slice none 0 0=>.ow []|x=>if kn x then .v x else .dead
def yO:Value->TV|.agg cs=>.agg (cs.toList.map iL)|x=>iL x
def opd:Opd->SP TV|.t i=>.rdT i .ret|.c x=>.ret (yO x)|.f f=>.ret (.fn f [])
def rE(r o n:Nat):List Key:=(r,0,0)::(List.range n).map λd=>(r,o,d+1)
def rdVs:List Key->SP N_| []=>.ret []|q::qs=>.rdV q λn=>(rdVs qs).bind λl=>.ret (n::l)
def chk(p:gf)(n:Nat)(vs:N_):SP Unit:=(rdVs (rE p.root p.off n)).bind λl=>if l=vs then .ret ()else .fail
def gf.add(p:gf)(n:Nat):gf:=match p.hops.reverse with| []=>⟨p.root,p.off+n,[]⟩|(i,sz,o)::r=>⟨p.root,p.off,(((i,sz,o+n):Hop)::r).reverse⟩
def gf.at_(p:gf)(i sz:Nat):gf:=⟨p.root,p.off,p.hops++[(i,sz,0)]⟩
def gf.fits(p:gf)(n:Nat):Bool:=match p.hops.reverse with| []=>true|(_,sz,o)::_=>decide (o+n<sz)
def getPl(p:gf):SP TV:=.rdC p.root p.off λtv=>match gE tv p.hops with|some t=>.ret t|none=>.fail
def Tl(p:gf):SP (Option N_):=match p.hops with
 | []=>.rdH p.root p.off .ret
 |_::_=>(getPl p).bind λt=>.ret t.hd
theorem Fh{α:Type}(p:gf)(f:Option N_->SP α)(σ:St):((Tl p).bind f).run σ=((getPl p).bind λt=>f t.hd).run σ:=by
 unfold Tl;split;rename_i h;have e:(getPl p).run σ=some (σ.c p.root p.off,σ):=by unfold getPl;simp[h];rfl
 rw[SP.run_bind,SP.run_bind,e];rfl;rw[SP.run_bind,SP.run_bind,SP.run_bind];cases(getPl p).run σ<;>rfl
def take1(mv:Bool):TV->SP TV
 |.v x=>.ret (.v x)|.sl c=>.ret (.sl c)|.ow []=>.ret (if mv then .ow []else .sl [])|.pk p vs=>(chk p (p.hops.length+1) vs).bind λ_=>.rdC p.root p.off λtv=>
 match gE tv p.hops with
  |some (.ow c)=>
   if mv then .wrC p.root p.off (iH tv p.hops .dead) (.bump (p.root,p.off,p.hops.length+1) (.ret (.ow c)))
   else .wrC p.root p.off (ir tv (jB p.hops)) (.bump (p.root,p.off,p.hops.length+1) (.ret (TV.ow c).imm))
  |_=>.fail
 |.pw p vs _ lo n=>(chk p (p.hops.length+1) vs).bind λ_=>.rdC p.root p.off λtv=>match gE tv p.hops with|some (.ow c)=>.wrC p.root p.off (ir tv (jB p.hops)) (.bump (p.root,p.off,p.hops.length+1) (.ret (.sl (((c.drop lo).take n).map λe=>e.map TV.imm))))|_=>.fail
 |_=>.fail
def takeL(mv:Bool):U_->SP U_| []=>.ret []|t::r=>(take1 mv t).bind λt'=>(takeL mv r).bind λr'=>.ret (t'::r')
def rK:TV->U_|.agg l=>l|t=>[t]
def tG:TV->Bool|.v _=>false|_=>true
def wv(p:gf)(t:TV):SP Unit:=.rdC p.root p.off λtv=>
 match gE tv p.hops with
 |some old=>
  if tG old||tG t then(if p.hops.length<=1 then .wrC p.root p.off (iH tv p.hops t) (.bump (p.root,p.off,p.hops.length+1) (.ret ()))else .fail)
  else .wrC p.root p.off (iH tv p.hops t) (.ret ())
 |none=>.fail
def putL(p:gf):U_->SP Unit| []=>.ret ()|t::r=>(wv p t).bind λ_=>match r with | []=>.ret ()|_=>if p.fits 1 then putL (p.add 1) r else .fail
def peek1(p:gf):TV->SP TV|.v x=>.ret (.v x)|.sl c=>.ret (.sl c)|.ow _=>(rdVs (rE p.root p.off (p.hops.length+1))).bind λvs=>.ret (.pk p vs)|_=>.fail
def peekP(p:gf):SP TV:=match p.hops with
 | []=>.rdH p.root p.off λh=>match h with
  |some _=>(rdVs (rE p.root p.off 1)).bind λvs=>.ret (.pk p vs)
  |none=>(getPl p).bind (peek1 p)
 |_::_=>(getPl p).bind (peek1 p)
theorem Oe(p:gf)(σ:St):(peekP p).run σ=((getPl p).bind (peek1 p)).run σ:=by
 unfold peekP;split;rename_i h;have e:(getPl p).run σ=some (σ.c p.root p.off,σ):=by unfold getPl;simp[h];rfl
 rw[SP.run_bind,e];simp[SP.run];cases hc:σ.c p.root p.off with|ow c=>simp[TV.hd,peek1,h]|_=>simp[TV.hd,SP.run_bind,e,hc]
 rfl
def peekL:gf->Nat->SP U_|_,0=>.ret []|p,n+1=>(getPl p).bind λt=>(peek1 p t).bind λt'=>match n with|0=>.ret [t']|_=>if p.fits 1 then(peekL (p.add 1) n).bind λr=>.ret (t'::r)else .fail
def nM:TV->Bool|.ow _=>true|_=>false
def nameL(r:Nat):Nat->U_->SP U_|_,[]=>.ret []|i,.ow _::l=>.rdV (r,0,0) λg=>.rdV (r,i,1) λh=>(nameL r (i+1) l).bind λl'=>.ret (.pk ⟨r,i,[]⟩ [g,h]::l')|i,t::l=>(nameL r (i+1) l).bind λl'=>.ret (t::l')
def names(d:Nat)(l:U_):SP U_:=if l.any nM then .new (2*d+3) l (nameL (2*d+3) 0 l)else .ret l
def Jo(s:Sem Value):r_:=match s with|.pure v=>some v|_=>none
def iY(op:BinOp):Value->Value->r_|.int k a,.int k' b=>Jo (Go.binOp op 0 (.int k a) (.int k' b))|.string a,.string b=>Jo (Go.binOp op 0 (.string a) (.string b))|_,_=>none
def UH(op:UnOp)(x:Value):r_:=Jo (Op.unary op x)
def gJ:U_->Option w_| []=>some []|.v x::r=>(gJ r).map (x :: ·)|_::_=>none
def qp{α:Type}:Option α->SP α|some a=>.ret a|none=>.fail
def yx:TV->SP Value|.v x=>.ret x|_=>.fail
def natOf:TV->SP Nat
 |.v (.int _ n)=>match n with|.ofNat k=>.ret k|.negSucc _=>.fail
 |_=>.fail
def vE:TV->SP Nat
 |.sl c=>.ret c.length|.ow []=>.ret 0|.pk p vs=>(chk p (p.hops.length+1) vs).bind λ_=>(Tl p).bind λh=>match h with|some ls=>.ret ls.length|none=>.fail
 |.pw p vs _ _ n=>(chk p (p.hops.length+1) vs).bind λ_=>.ret n|_=>.fail
def optNat:Option Opd->Nat->SP Nat|some o,_=>(opd o).bind natOf|none,d=>.ret d
inductive RSh where
 |one
 |agg (n:Nat)
 |ptr
abbrev P_:=List RSh
structure Lp where
 cells:U_
 sh:P_
abbrev Pts:=List (Nat×U_)
abbrev iz:=FuncId->U_->Pts->Option (Lp×Pts)
structure Fm where
 w0:World
 A:Nat->Prop
 W0:Nat->Prop
 pr:Nat->d_
 N:Nat
 hA:∀k,w0.heap.size<=k->A k
 kp:Nat->r_:=λ_=>none
 kc:Nat->Nat->r_:=λ_ _=>none
def Fm.hr(_:Fm):Nat:=1
def Fm.ok(M:Fm)(d:Nat):Prop:=d<M.N/\M.kp d=none
theorem Fm.odd_ne(M:Fm)(i:Nat){p:Prop}:¬(2*i+3=M.hr/\p):=λe=>by have:=e.1;unfold Fm.hr at this;omega
structure U4 (M:Fm)(w:World)(G:Gh):Prop where
 os:w.os=M.w0.os
 tape:w.tape=M.w0.tape
 output:w.output=M.w0.output
 size:M.w0.heap.size<=w.heap.size
 old:∀k,k<M.w0.heap.size->¬M.W0 k->(∀r b o n,M.pr r=some (b,o,n)->k≠b)->w.heap[k]?=M.w0.heap[k]?
 par:∀r b o n,M.pr r=some (b,o,n)->G.β r=some (b,o,n)/\∃cur0 cur e fz,M.w0.heap[b]?=some (.cells cur0 e fz)/\w.heap[b]?=some (.cells cur e fz)/\cur.size=cur0.size/\∀j,(j<o\/o+n<=j)->cur[j]?=cur0[j]?
 own:∀r o k,G.φ r o k->M.W0 k\/M.w0.heap.size<=k
 box:∀r b o n,G.β r=some (b,o,n)->M.pr r=some (b,o,n)\/(M.pr r=none/\M.w0.heap.size<=b)
 even:∀r,G.β r≠none->r%2=0
def gy(M:Fm)(σ:St)(H:U_):Cs:=λr o=>if r=M.hr then H.getD o .dead else σ.c r o
def Gn(M:Fm)(σ:St)(H:U_)(w:World)(G:Gh):Prop:=∀r o x,M.kc r o=some x->1<=σ.v (r,o+1,0)/\TmR w (G.F M.A) σ.v (gy M σ H) G (.pk ⟨r,o,[]⟩ [0,0]) x
theorem Gn.keep{M:Fm}{σ σ':St}{H H':U_}{w w':World}{G G':Gh}(h:Gn M σ H w G)(k:kZ w w' σ.v σ'.v (gy M σ H) (gy M σ' H') G G')
 (hw:∀k,G.F M.A k->k<w.heap.size->w'.heap[k]?=w.heap[k]?)(hF:∀k,G.F M.A k->k<w.heap.size->G'.F M.A k):Gn M σ' H' w' G':=
 λr o x hx=>⟨Nat.le_trans (h r o x hx).1 (k.ver _),(h r o x hx).2.keep k hw hF⟩
structure Inv (M:Fm)(σ:St)(H:U_)(xs:w_)(ts:s_)(w:World)(G:Gh):Prop where
 core:nO M.A (gy M σ H) w G
 tmr:∀i,TmR w (G.F M.A) σ.v (gy M σ H) G (σ.t i) (ts.getD i undef)
 fram:U4 M w G
 keys:∀r l,gD σ.ce r=some l->r≠1
 size:ts.size=M.N
 hand:H.length=xs.length
 hval:∀j,j<xs.length->G.η M.hr j=xs.getD j undef
 shape:∀r b o n,G.β r=some (b,o,n)->∀l,gD σ.ce r=some l->l.length=n
 kept:∀i x,i≠1000000->M.kp i=some x->G.η (2*i+3) 0=x
 gn:Gn M σ H w G
theorem Inv.hr_none{M:Fm}{σ:St}{H:U_}{xs:w_}{ts:s_}{w:World}{G:Gh}(h:Inv M σ H xs ts w G):G.β M.hr=none:=by cases hb:G.β M.hr with|none=>rfl|some x=>have:=h.fram.even M.hr (by simp_all);unfold Fm.hr at this;omega
theorem Inv.odd_none{M:Fm}{σ:St}{H:U_}{xs:w_}{ts:s_}{w:World}{G:Gh}(h:Inv M σ H xs ts w G)(d:Nat):G.β (2*d+3)=none:=by cases hb:G.β (2*d+3)with|none=>rfl|some x=>have:=h.fram.even (2*d+3) (by simp_all);omega
theorem GE{σ:St}{r o:Nat}(h:gD σ.ce r=none):σ.c r o=.dead:=by simp[St.c,h]
theorem Inv.hr_dead{M:Fm}{σ:St}{H:U_}{xs:w_}{ts:s_}{w:World}{G:Gh}(h:Inv M σ H xs ts w G)(o:Nat):σ.c M.hr o=.dead:=by apply GE;cases hb:gD σ.ce M.hr with|none=>rfl|some l=>exact absurd rfl (h.keys _ _ hb)
theorem gv{M:Fm}{σ:St}{H:U_}{r o:Nat}(h:r≠M.hr):gy M σ H r o=σ.c r o:=by simp[gy,h]
theorem qe{M:Fm}{σ:St}{H:U_}{o:Nat}:gy M σ H M.hr o=H.getD o .dead:=by simp[gy]
section frames
variable {M:Fm} {w:World} {G G':Gh}
theorem U4.ghost(h:U4 M w G)(hβ:G'.β=G.β)(hO:∀k,(∃r o,G'.φ r o k)->∃r o,G.φ r o k):U4 M w G':=⟨h.os,h.tape,h.output,h.size,h.old,λr b o n hp=>by rw[hβ];exact h.par r b o n hp,λr o k hk=>by have ⟨r',o',h'⟩:=hO k ⟨r,o,hk⟩;exact h.own r' o' k h',λr b o n hb=>h.box r b o n (hβ ▸ hb),λr hb=>h.even r (hβ ▸ hb)⟩
end frames
theorem nO.addImm{A:Nat->Prop}{C:Cs}{w:World}{G:Gh}(hC:nO A C w G)(h ho:Nat)(hβ:G.β h=none)(hd:C h ho=.dead){t:TV}{x:Value}(ht:jD w (G.F A) (λ_=>False) t x):∃G',G'.β=G.β/\G'.φ=G.φ/\(∀r o,¬(r=h/\o=ho)->G'.η r o=G.η r o)/\G'.η h ho=x/\nO A (oi C h ho t) w G':=by
 have hφh:∀k,¬G.φ h ho k:=by rcases hC.cell h ho with⟨_,h2⟩|h2;exact h2;rw[hd]at h2;cases h2 with|dead hfp _=>exact hfp
 let G':Gh:=⟨G.β,λr o=>if r=h/\o=ho then x else G.η r o,G.φ⟩;have Ys:=nO.ghost (C':=oi C h ho t) (G':=G') hC rfl (λk h=>h) hC.dis
  (λr b o0 n hb o hn=>by
   unfold oi;split
   ·simp_all
   ·exact hC.boxc r b o0 n hb o hn)
  (λr o=>by
   by_cases e:r=h/\o=ho
   ·obtain⟨rfl,rfl⟩:=e;refine .inr (.inr ?_)
    have hv:G'.val w r o=x:=by simp[Gh.val,G',hβ]
    rw[hv];simp[oi];exact ht.refp λk=>⟨λh=>h.elim,λh=>(hφh k h).elim⟩
   ·exact .inl ⟨by simp[oi,e],λk=>Iff.rfl,by simp[G',e]⟩)
 exact⟨G',rfl,rfl,λr o e=>by simp[G',e],by simp[G'],Ys.1⟩
theorem B6{M:Fm}{σ:St}{H:U_}{t:TV}:gy M σ (H++[t])=oi (gy M σ H) M.hr H.length t:=by funext r o;unfold gy oi;by_cases hr:r=M.hr;subst hr;grind;simp[hr]
theorem DE{σ:St}{r o:Nat}{t:TV}{l:U_}(h:gD σ.ce r=some l)(ho:o<l.length):(St.mk σ.tm (iJ σ.ce r (l.set o t)) σ.vr).c=oi σ.c r o t:=by unfold St.c oi;simp[gN];grind
theorem J5{M:Fm}{σ:St}{H:U_}{r o:Nat}{t:TV}{l:U_}(h:gD σ.ce r=some l)(ho:o<l.length)(hr:r≠M.hr)(vr:m_):gy M (St.mk σ.tm (iJ σ.ce r (l.set o t)) vr) H=oi (gy M σ H) r o t:=by funext r' o';have e:=congrFun (congrFun (DE (t:=t) h ho) r') o';have e2:(St.mk σ.tm (iJ σ.ce r (l.set o t)) vr).c r' o'=(St.mk σ.tm (iJ σ.ce r (l.set o t)) σ.vr).c r' o':=rfl;unfold gy;rw[e2,e];unfold oi;by_cases h1:r'=M.hr;subst h1;simp[Ne.symm hr];simp[h1]
theorem gG{α:Type}{r o:Nat}{t:TV}{k:SP α}{σ:St}{y:α×St}(h:(SP.wrC r o t k).run σ=some y):∃l,gD σ.ce r=some l/\o<l.length/\k.run { σ with ce:=iJ σ.ce r (l.set o t) }=some y:=by simp[SP.run]at h;grind
theorem Jz{σ:St}(hk:∀r l,gD σ.ce r=some l->r≠1){r:Nat}{l l':U_}(h:gD σ.ce r=some l):∀r2 l2,gD (iJ σ.ce r l') r2=some l2->r2≠1:=by intro r2 l2 h2;rw[gN]at h2;split at h2;all_goals simp_all
theorem Eo{σ:St}{β:Nat->d_}(hs:∀r b o n,β r=some (b,o,n)->∀l,gD σ.ce r=some l->l.length=n){r:Nat}{l:U_}{o:Nat}{t:TV}(h:gD σ.ce r=some l):∀r2 b o2 n,β r2=some (b,o2,n)->∀l2,gD (iJ σ.ce r (l.set o t)) r2=some l2->l2.length=n:=by intro r2 b o2 n hb l2 h2;rw[gN]at h2;grind
theorem Ex(l:List Key)(σ:St):(rdVs l).run σ=some (l.map σ.v,σ):=by induction l with|nil=>rfl|cons q l ih=>simp[rdVs,SP.run,SP.run_bind,ih]
theorem ww(σ:St)(r o n:Nat):(rE r o n).map σ.v=lz σ.v r o n:=by simp[rE,lz]
theorem gt{p:gf}{n:Nat}{vs:N_}{σ:St}{y:Unit×St}(h:(chk p n vs).run σ=some y):y.2=σ/\vs=lz σ.v p.root p.off n:=by unfold chk at h;rw[SP.run_bind,Ex,ww]at h;simp at h;split at h;rename_i e;simp[SP.run]at h;exact⟨by rw[<- h],e.symm⟩;simp[SP.run]at h
section hands
variable {M:Fm} {σ σ':St} {H:U_} {xs:w_} {ts:s_} {w:World} {G:Gh}
def pJ(M:Fm)(w:World)(ts:s_)(σ:St)(H:U_)(G:Gh)(σ':St)(H':U_)(xs':w_)(G':Gh):Prop:=Inv M σ' H' xs' ts w G'/\(∀k,G.F M.A k->G'.F M.A k)/\kZ w w σ.v σ'.v (gy M σ H) (gy M σ' H') G G'/\σ'.tm=σ.tm
theorem pJ.trans{σ'':St}{H' H'':U_}{xs' xs'':w_}{G' G'':Gh}(a:pJ M w ts σ H G σ' H' xs' G')(b:pJ M w ts σ' H' G' σ'' H'' xs'' G''):pJ M w ts σ H G σ'' H'' xs'' G'':=⟨b.1,λk h=>b.2.1 k (a.2.1 k h),a.2.2.1.trans b.2.2.1,b.2.2.2.trans a.2.2.2⟩
theorem pJ.refl(hI:Inv M σ H xs ts w G):pJ M w ts σ H G σ H xs G:=⟨hI,λ_ h=>h,kZ.refl _ _ _ _,rfl⟩
theorem pJ.tm{H':U_}{xs':w_}{G':Gh}{t:TV}{x:Value}(a:pJ M w ts σ H G σ' H' xs' G')(h:TmR w (G.F M.A) σ.v (gy M σ H) G t x):TmR w (G'.F M.A) σ'.v (gy M σ' H') G' t x:=h.keep a.2.2.1 (λ_ _ _=>rfl) λk h _=>a.2.1 k h
theorem Inv.hand_dead(hI:Inv M σ H xs ts w G):gy M σ H M.hr H.length=.dead:=by rw[qe];simp
theorem Inv.addHand(hI:Inv M σ H xs ts w G){t:TV}{x:Value}(ho:jD w (G.F M.A) (λ_=>False) t x):∃G',pJ M w ts σ H G σ (H++[t]) (xs++[x]) G':=by
 have hdead:=hI.hand_dead;have ⟨G',hβ,hφ,hη,hη2,Zh⟩:=hI.core.addImm M.hr H.length hI.hr_none hdead ho;have hF:∀k,G.F M.A k->G'.F M.A k:=λk hk=>by unfold Gh.F at *;rw[hβ,hφ];exact hk
 have hk:kZ w w σ.v σ.v (gy M σ H) (gy M σ (H++[t])) G G':=by
  have hval:∀r o,gy M σ H r o≠.dead->G'.val w r o=G.val w r o:=λr o hd=>lP (by rw[hβ]) (hη r o λe=>hd (by rw[e.1,e.2];exact hdead)) λ_ _ _ _=>rfl;have X3:∀r o,gy M σ H r o≠.dead->gy M σ (H++[t]) r o=gy M σ H r o:=λr o hd=>by rw[B6];unfold oi;rw[oIN λe=>hd (by simp_all)]
  refine⟨λ_=>oLE _,λp ad t1 _ _ h1 h2=>?_,λp h c _ _ h1 h2=>?_⟩;cases hp:p.hops with
  |nil=>exact⟨_,of h1 hβ λh=>absurd hp h,by rfl⟩|cons a l=>
   have hd:gy M σ H p.root p.off≠.dead:=λhd=>by rw[hd,hp]at h2;simp[gE]at h2
   exact⟨t1,of h1 hβ λ_=>by rw[hval _ _ hd],by simp_all⟩
  have hd:gy M σ H p.root p.off≠.dead:=λhd=>by rw[hd]at h2;cases hp:p.hops<;>rw[hp]at h2<;>simp[gE]at h2
  exact⟨c,AN (λ_ _=>rfl) (hval _ _ hd) h1,by simp_all,rfl⟩
 refine⟨G',⟨by rw[B6];exact Zh,λi=>(hI.tmr i).keep hk (λ_ _ _=>rfl) (λk h _=>hF k h),hI.fram.ghost hβ (λk h=>by rw[hφ]at h;exact h),hI.keys,hI.size,by simp[hI.hand],?_,λr b o n h=>hI.shape r b o n (hβ ▸ h),λi x h0 h=>(hη _ _ (M.odd_ne i)).trans (hI.kept i x h0 h),hI.gn.keep hk (λ_ _ _=>rfl) (λk h _=>hF k h)⟩,hF,hk,rfl⟩;intro j hj;by_cases e:j=H.length;subst e;rw[hη2,hI.hand];simp;have ZO:j<xs.length:=by rw[oLA]at hj;simp at hj;have:=hI.hand;omega
 rw[hη M.hr j λh=>e h.2,hI.hval j ZO];simp[List.getElem?_append,ZO]
def St.wrB(σ:St)(p:gf)(l:U_)(t:TV):St:=⟨σ.tm,iJ σ.ce p.root (l.set p.off t),tA σ.vr (p.root,p.off,p.hops.length+1)⟩
theorem rU{p:gf}{l:U_}{t:TV}(k:Key):(σ.wrB p l t).v k=σ.v k+if(p.root,p.off,p.hops.length+1)=k then 1 else 0:=jn σ.vr _ k
theorem Lb{p:gf}{l:U_}{t:TV}(hl:gD σ.ce p.root=some l)(ho:p.off<l.length)(Z5:p.root≠M.hr):gy M (σ.wrB p l t) H=oi (gy M σ H) p.root p.off t:=J5 hl ho Z5 _
theorem Inv.share(hI:Inv M σ H xs ts w G){p:gf}{c:o_}{l:U_}(Z5:p.root≠M.hr)(Z3:gE (σ.c p.root p.off) p.hops=some (.ow c))(hl:gD σ.ce p.root=some l)(ho:p.off<l.length):∃G' u,pJ M w ts σ H G (σ.wrB p l (ir (σ.c p.root p.off) (jB p.hops))) H xs G'/\G.hv w p=some u/\ru w (G'.F M.A) (TV.ow c).imm u:=by
 have X0:gE (gy M σ H p.root p.off) p.hops=some (.ow c):=by rw[gv Z5];exact Z3
 have ⟨G1,u,hβ1,hη1,hcore1,hF1,hφ1,Yt,ZH⟩:=hI.core.shareV p X0;have hC1:gy M (σ.wrB p l (ir (σ.c p.root p.off) (jB p.hops))) H=oi (gy M σ H) p.root p.off (ir (gy M σ H p.root p.off) (jB p.hops)):=by rw[Lb hl ho Z5,gv Z5]
 have Y7:kZ w w σ.v (σ.wrB p l (ir (σ.c p.root p.off) (jB p.hops))).v (gy M σ H) (gy M (σ.wrB p l (ir (σ.c p.root p.off) (jB p.hops))) H) G G1:=by
  refine kZ.ghost p.root p.off p.hops.length (λq=>by rw[rU];omega) (by rw[rU];simp) hβ1 (λr' o' _ _=>by rw[hη1]) (λr' o' hne _=>?_) (λhs t1 h1 h2=>?_);rw[hC1];simp[oi,hne];rw[hC1];have e:oi (gy M σ H) p.root p.off (ir (gy M σ H p.root p.off) (jB p.hops)) p.root p.off=ir (gy M σ H p.root p.off) (jB p.hops):=by simp[oi]
  rw[e];have:=yZ (os:=jB p.hops) h1 (by simpa[jB]using h2);simpa[jB]using this
 exact⟨G1,u,⟨⟨by simp_all,λi=>(hI.tmr i).keep Y7 (λ_ _ _=>rfl) (λk h _=>hF1 k h),hI.fram.ghost hβ1 (λk ⟨r,o,h⟩=>⟨r,o,hφ1 r o k h⟩),Jz hI.keys hl,hI.size,hI.hand,λj hj=>by rw[hη1];exact hI.hval j hj,Eo (λr b o n h=>hI.shape r b o n (hβ1▸h)) hl,λi x h0 h=>by rw[hη1];exact hI.kept i x h0 h,hI.gn.keep Y7 (λ_ _ _=>rfl) (λk h _=>hF1 k h)⟩,hF1,Y7,rfl⟩,Yt,ZH⟩
theorem Inv.moveHand(hI:Inv M σ H xs ts w G){p:gf}{c:o_}{l:U_}(Z5:p.root≠M.hr)(Z3:gE (σ.c p.root p.off) p.hops=some (.ow c))(hl:gD σ.ce p.root=some l)(ho:p.off<l.length){x:Value}(hx:G.hv w p=some x):∃G',pJ M w ts σ H G (σ.wrB p l (iH (σ.c p.root p.off) p.hops .dead)) (H++[.ow c]) (xs++[x]) G':=by
 have hdead:=hI.hand_dead;have X0:gE (gy M σ H p.root p.off) p.hops=some (.ow c):=by rw[gv Z5];exact Z3
 obtain⟨G',u,hβ,hη,hη2,Yt,Zh,hF⟩:=hI.core.move p X0 M.hr H.length hI.hr_none hdead;rw[hx]at Yt;injection Yt with hxu
 subst hxu;have hC':gy M (σ.wrB p l (iH (σ.c p.root p.off) p.hops .dead)) (H++[.ow c])=oi (oi (gy M σ H) p.root p.off (iH (gy M σ H p.root p.off) p.hops .dead)) M.hr H.length (.ow c):=by rw[B6,Lb hl ho Z5,gv Z5]
 have hk:kZ w w σ.v (σ.wrB p l (iH (σ.c p.root p.off) p.hops .dead)).v (gy M σ H) (gy M (σ.wrB p l (iH (σ.c p.root p.off) p.hops .dead)) (H++[.ow c])) G G':=by
  refine kZ.ghost p.root p.off p.hops.length (λq=>by rw[rU];omega) (by rw[rU];simp) hβ (λr' o' h1 _=>hη r' o' λe=>h1 (by rw[e.1];rfl)) (λr' o' hne h1=>?_) (λhs t1 h1 h2=>?_);rw[hC'];have e:¬(r'=M.hr/\o'=H.length):=λe=>h1 (by rw[e.1];rfl);simp[oi,e,hne];rw[hC'];have e:oi (oi (gy M σ H) p.root p.off (iH (gy M σ H p.root p.off) p.hops .dead)) M.hr H.length (.ow c) p.root p.off=iH (gy M σ H p.root p.off) p.hops .dead:=by simp[oi,Z5]
  rw[e];exact qc X0 h1 h2
 refine⟨G',⟨by rw[hC'];exact Zh,λi=>(hI.tmr i).keep hk (λ_ _ _=>rfl) (λk h _=>hF k h),?_,Jz hI.keys hl,hI.size,by simp[hI.hand],?_,Eo (λr b o n h=>hI.shape r b o n (hβ ▸ h)) hl,λi x h0 h=>(hη _ _ (M.odd_ne i)).trans (hI.kept i x h0 h),hI.gn.keep hk (λ_ _ _=>rfl) (λk h _=>hF k h)⟩,hF,hk,rfl⟩;refine hI.fram.ghost hβ λk ⟨r',o',YA⟩=>?_;by_cases hkk:∃r o,G.φ r o k;exact hkk;exfalso;by_cases hb:∃r b o n,G.β r=some (b,o,n)/\k=b;obtain⟨r,b,o,n,ZI,ZS⟩:=hb;exact Zh.boxf r b o n (by simp_all) r' o' (ZS▸YA);exact(hF k ⟨Zh.allow r' o' k YA,λr o h=>hkk ⟨r,o,h⟩,λr b o n h1 h2=>hb ⟨r,b,o,n,h1,h2⟩⟩).2.1 r' o' YA;intro j hj;by_cases e:j=H.length;subst e;rw[hη2,hI.hand];simp;have ZO:j<xs.length:=by rw[oLA]at hj;simp at hj;have:=hI.hand;omega
 rw[hη M.hr j λh=>e h.2,hI.hval j ZO];simp_all
theorem ru.window{F:Nat->Prop}{c:o_}{b len cap:Nat}(h:ru w F (.sl c) (.slice (some ⟨b,0,none⟩) len cap))(sz lo n:Nat)(hs:∀i (h:i<c.length),c[i].length=sz)(hln:lo+n<=c.length){a:t_}{ZP:Nat}(hn:n<=ZP) (hm:ZP<=maxLen)(hnil:a=none->ZP=0)(ha:0<n->a=some ⟨b,lo*sz,none⟩):ru w F (.sl ((c.drop lo).take n)) (.slice a n ZP):=by
 cases h with
 |sl sz' u hsz hcap hmax hnil' hcell hrec=>
 have hl:((c.drop lo).take n).length=n:=by simp;omega
 have key:=ru.sl (w:=w) (F:=F) (c:=(c.drop lo).take n) (a:=a) (cap:=ZP) sz (λi j=>u (lo+i) j) (λi hi=>by
  simp;exact hs _ (by omega)) (by omega) hm hnil (λi j hi hj=>by
  have hz:sz'=sz:=by rw[<- hsz (lo+i) (by omega),hs (lo+i) (by omega)]
  subst hz;obtain⟨b',o',e,hF,hc⟩:=hcell (lo+i) j (by omega) hj;injection e with e
  injection e with e1 e2
  subst e1;subst e2;exact⟨b,lo*sz',ha (by omega),hF,by rw[show lo*sz'+(i*sz'+j)=0+((lo+i)*sz'+j) by rw[Nat.add_mul];omega];exact hc⟩) (λi j hi hj=>by have:=hrec (lo+i) j (by omega) (by simp_all);simpa using this)
 simp_all
theorem lQ{mv:Bool}{t t':TV}{x:Value}(hI:Inv M σ H xs ts w G)(hx:TmR w (G.F M.A) σ.v (gy M σ H) G t x) (hr:(take1 mv t).run σ=some (t',σ')):∃G',pJ M w ts σ H G σ' (H++[t']) (xs++[x]) G'/\x.oneCell'=true:=by
 cases hx with
 |v h=>obtain⟨rfl,rfl⟩:=hr;obtain⟨G',h1⟩:=hI.addHand (.v (by simp) h);exact⟨G',h1,wQ h⟩|nil=>obtain⟨rfl,rfl⟩:=hr;cases mv with|true=>obtain⟨G',h1⟩:=hI.addHand (.nil (by simp));exact⟨G',h1,rfl⟩|false=>have h0:∀ad,ru w (G.F M.A) (.sl []) (.slice ad 0 0):=λad=>.sl (c:=[]) 1 (λ_ _=>.nilFunc) (λi h=>by simp at h) (oLE _) (Nat.zero_le _) (λ_=>rfl) (λi j h=>by simp at h) (λi j h=>by simp at h);obtain⟨G',h1⟩:=hI.addHand (h0 _).toOwn;exact⟨G',h1,rfl⟩
 |sl h=>obtain⟨rfl,rfl⟩:=hr;obtain⟨G',h1⟩:=hI.addHand h.toOwn;exact⟨G',h1,h.one⟩|dead=>simp[take1,SP.run]at hr|ptr=>simp[take1,SP.run]at hr|ip=>simp[take1,SP.run]at hr|agg=>simp[take1,SP.run]at hr|tup=>simp[take1,SP.run]at hr|fn=>simp[take1,SP.run]at hr| @pk p vs x V0 h0 hv hok=>
 simp only[take1]at hr;obtain⟨_,σ1,h1,h2⟩:=fN hr;have e1:σ1=σ:=(gt h1).1;have e2:=(gt h1).2;subst e1;obtain⟨_,c,Zy,Z3⟩:=hok e2;simp only[SP.run]at h2;have Z5:p.root≠M.hr:=by intro e;rw[e]at h2;rw[hI.hr_dead]at h2;cases hp:p.hops<;>rw[hp]at h2<;>simp[gE,SP.run]at h2
 have X0:=Z3;rw[gv Z5]at Z3;rw[Z3]at h2;simp only at h2;have YL:x.oneCell'=true:=by
  obtain⟨u,fp,h4,h5,_⟩:=hI.core.hv_own p X0 (by simp);rw[Zy]at h4;injection h4 with h4
  rw[h4];exact h5.one
 cases mv with
  |true=>simp only[if_true]at h2;obtain⟨l,hl,ho,h3⟩:=gG h2;simp only[SP.run,oSJ,oPJ]at h3;obtain⟨rfl,rfl⟩:=h3;obtain⟨G',hg⟩:=hI.moveHand Z5 Z3 hl ho Zy;exact⟨G',hg,YL⟩|false=>
  simp only[Bool.false_eq_true,if_false]at h2;obtain⟨l,hl,ho,h3⟩:=gG h2;obtain⟨rfl,rfl⟩:=h3;obtain⟨G1,u,hg,Yt,ZH⟩:=hI.share Z5 Z3 hl ho;rw[Zy]at Yt;injection Yt with hxu
  subst hxu;obtain⟨G',Zu⟩:=hg.1.addHand ZH.toOwn;exact⟨G',hg.trans Zu,YL⟩
 | @pw p vs sz lo n x V0 h0 hv hok=>
 simp only[take1]at hr;obtain⟨_,σ1,h1,h2⟩:=fN hr;have e1:σ1=σ:=(gt h1).1;have e2:=(gt h1).2;subst e1;obtain⟨_,c,hd,Zy,Z3,hln,a,cap,rfl,WR,hm,hnil,hsz,ZX⟩:=hok e2;simp only[SP.run]at h2;have Z5:p.root≠M.hr:=by intro e;rw[e]at h2;rw[hI.hr_dead]at h2;cases hp:p.hops<;>rw[hp]at h2<;>simp[gE,SP.run]at h2
 rw[gv Z5]at Z3;rw[Z3]at h2;simp only at h2;obtain⟨l,hl,ho,h3⟩:=gG h2;simp only[SP.run,oSJ,oPJ]at h3;obtain⟨rfl,rfl⟩:=h3;obtain⟨G1,u,hg,Yt,ZH⟩:=hI.share Z5 Z3 hl ho;rw[Zy]at Yt;injection Yt with hxu
 subst hxu;have himm2:ru w (G1.F M.A) (.sl (((c.drop lo).take n).map λe=>e.map TV.imm)) (.slice a n cap):=by
  rw[qu]at ZH;by_cases hn:0<n;obtain⟨b,len,ZP,rfl,ha⟩:=ZX (by omega);have:=ZH.window sz lo n (λi hi=>by simp only[List.getElem_map,oLP];exact hsz i (by simpa using hi)) (by simpa using hln) WR.1 hm hnil (λ_=>ha);rw[<- List.map_drop,<- List.map_take]at this;exact this;obtain rfl:n=0:=by omega
  simp only[List.take_zero,List.map_nil];exact ru.sl (c:=[]) sz (λ_ _=>.nilFunc) (by simp) (by simp) hm hnil (by simp) (by simp)
 obtain⟨G',Zu⟩:=hg.1.addHand himm2.toOwn;exact⟨G',hg.trans Zu,rfl⟩
theorem uY{mv:Bool}:∀{l l':U_}{ys:w_}{σ σ':St}{H:U_}{xs:w_}{G:Gh},Inv M σ H xs ts w G->l.length=ys.length->(∀j (h:j<l.length),TmR w (G.F M.A) σ.v (gy M σ H) G l[j] (ys.getD j undef))->(takeL mv l).run σ=some (l',σ')->l'.length=l.length/\(∀y∈ys,y.oneCell'=true)/\∃G',pJ M w ts σ H G σ' (H++l') (xs++ys) G':=by intro l;induction l with|nil=>intro l' ys σ σ' H xs G hI hl _ hr;obtain⟨rfl,rfl⟩:=hr;have:ys=[]:=oEN (by simp_all);subst this;exact⟨rfl,by simp,G,by simpa using pJ.refl hI⟩|cons t l ih=>intro l' ys σ σ' H xs G hI hl ht hr;cases ys with|nil=>simp at hl|cons y ys=>obtain⟨t',σ1,h1,h2⟩:=fN hr;obtain⟨r',σ2,h3,h4⟩:=fN h2;obtain⟨rfl,rfl⟩:=h4;obtain⟨G1,Zi,ho⟩:=lQ hI (ht 0 (by simp)) h1;obtain⟨e,W',G2,Zu⟩:=ih (l':=r') Zi.1 (by simpa using hl) (λj hj=>Zi.tm (by have:=ht (j+1) (by simpa using hj);simpa using this)) h3;refine⟨by simp[e],by simp_all,G2,?_⟩;have:=Zi.trans Zu;simpa using this
end hands
structure nA (M:Fm)(w:World)(σ:St)(H:U_)(G:Gh)(w':World)(σ':St)(H':U_)(G':Gh):Prop where
 size:w.heap.size<=w'.heap.size
 keeps:kZ w w' σ.v σ'.v (gy M σ H) (gy M σ' H') G G'
 heap:∀k,G.F M.A k->k<w.heap.size->w'.heap[k]?=w.heap[k]?
 free:∀k,G.F M.A k->k<w.heap.size->G'.F M.A k
theorem nA.trans{M:Fm}{w w' w'':World}{σ σ' σ'':St}{H H' H'':U_}{G G' G'':Gh}(a:nA M w σ H G w' σ' H' G')(b:nA M w' σ' H' G' w'' σ'' H'' G''):nA M w σ H G w'' σ'' H'' G'':=⟨Nat.le_trans a.size b.size,a.keeps.trans b.keeps,λk h hl=>(b.heap k (a.free k h hl) (Nat.lt_of_lt_of_le hl a.size)).trans (a.heap k h hl),λk h hl=>b.free k (a.free k h hl) (Nat.lt_of_lt_of_le hl a.size)⟩
theorem nA.refl(M:Fm)(w:World)(σ:St)(H:U_)(G:Gh):nA M w σ H G w σ H G:=⟨oLE _,kZ.refl _ _ _ _,λ_ _ _=>rfl,λ_ h _=>h⟩
theorem nA.tm{M:Fm}{w w':World}{σ σ':St}{H H':U_}{G G':Gh}{t:TV}{x:Value}(a:nA M w σ H G w' σ' H' G')(h:TmR w (G.F M.A) σ.v (gy M σ H) G t x):TmR w' (G'.F M.A) σ'.v (gy M σ' H') G' t x:=h.keep a.keeps a.heap a.free
theorem pJ.moves{M:Fm}{w:World}{ts:s_}{σ σ':St}{H H':U_}{xs':w_}{G G':Gh}(a:pJ M w ts σ H G σ' H' xs' G'):nA M w σ H G w σ' H' G':=⟨oLE _,a.2.2.1,λ_ _ _=>rfl,λk h _=>a.2.1 k h⟩
section
variable {M:Fm} {σ σ':St} {H:U_} {xs:w_} {ts:s_} {w:World} {G:Gh}
theorem Inv.hand_own(hI:Inv M σ H xs ts w G){j:Nat}(hj:j<H.length)(hd:H[j]≠.dead):jD w (G.F M.A) (G.φ M.hr j) H[j] (xs.getD j undef):=by
 have e:gy M σ H M.hr j=H[j]:=by rw[qe];simp[hj]
 have h:=hI.core.own (r:=M.hr) (o:=j) (by simp_all);have hv:G.val w M.hr j=xs.getD j undef:=by unfold Gh.val;rw[hI.hr_none];exact hI.hval j (by rw[<- hI.hand];exact hj)
 simp_all
theorem setH(H:U_)(j:Nat):gy M σ (H.set j .dead)=oi (gy M σ H) M.hr j .dead:=by funext r o;unfold gy oi;by_cases hr:r=M.hr;subst hr;grind;simp[hr]
theorem A2(hI:Inv M σ H xs ts w G){p:gf}{ad:Addr}{t:TV}(Z4:G.addrB w p=some ad)(Z3:gE (gy M σ H p.root p.off) p.hops=some t)(u:Value){w':World} (hw:w'=w.setCell ad u){G':Gh}(hβ:G'.β=G.β)(hφ:∀r o k,G'.φ r o k->∃r o,G.φ r o k):U4 M w' G':=by
 subst hw;have hin:=hI.core.where_ p Z4 Z3;have hF:=hI.fram;have hbl:∀k,k<M.w0.heap.size->¬M.W0 k->(∀r b o n,M.pr r=some (b,o,n)->k≠b)->k≠ad.block:=by intro k h1 h2 h3 e;rcases hin with⟨_,b,o0,n,hb,_,Y0⟩|⟨_,hφ⟩;rw[Y0]at e;rcases hF.box _ _ _ _ hb with h4|⟨_,h4⟩;exact h3 _ _ _ _ h4 e;have:k=b:=e;omega;rcases hF.own _ _ _ hφ with h4|h4;simp_all;omega
 refine⟨hF.os,hF.tape,hF.output,by simpa using hF.size,λk h1 h2 h3=>by rw[gF w ad u (hbl k h1 h2 h3)];exact hF.old k h1 h2 h3,λr b o n hp=>?_,λr o k hk=>by obtain⟨r',o',h'⟩:=hφ r o k hk;exact hF.own r' o' k h',λr b o n hb=>hF.box r b o n (hβ ▸ hb),λr hb=>hF.even r (hβ ▸ hb)⟩;obtain⟨hb,cur0,cur,e,fz,h1,h2,h3,h4⟩:=hF.par r b o n hp;refine⟨by simp_all,?_⟩;by_cases he:b=ad.block;rcases hin with⟨_,b2,o2,n2,ZS,hlt,Y0⟩|⟨_,hφ2⟩;rw[Y0]at he;have hbb:b=b2:=he;subst hbb;have hr:=hI.core.boxd r p.root b o n o2 n2 hb ZS;subst hr;rw[hb]at ZS;injection ZS with ZS
 injection ZS with _ ZS
 injection ZS with e1 e2
 subst e1;refine⟨cur0,cur.setIfInBounds (o+p.off) u,e,fz,h1,by rw[Y0];exact m8 w b _ u h2,by simpa using h3,λj hj=>?_⟩;rw[Array.getElem?_setIfInBounds,oIN (by omega)];exact h4 j hj;exact absurd (he▸hφ2) (hI.core.boxf r b o n hb _ _);exact⟨cur0,cur,e,fz,h1,by rw[gF w ad u he];exact h2,h3,h4⟩
theorem Inv.put(hI:Inv M σ H xs ts w G){p:gf}{ad:Addr}{old:TV}(hp1:p.root≠1)(Z4:G.addrB w p=some ad)(Z3:gE (gy M σ H p.root p.off) p.hops=some old){j:Nat}(hj:j<H.length)(hd:H[j]≠.dead) (hr:(wv p H[j]).run σ=some ((),σ')):(∃u,w.cell? ad=some u)/\w.frozen? ad=false/\∃G',Inv M σ' (H.set j .dead) xs ts (w.setCell ad (xs.getD j undef)) G'/\nA M w σ H G (w.setCell ad (xs.getD j undef)) σ' (H.set j .dead) G'/\σ'.tm=σ.tm/\G'.β=G.β:=by
 have Z5:p.root≠M.hr:=hp1;have hgs:gE (σ.c p.root p.off) p.hops=some old:=by rw[<- gv Z5];exact Z3
 obtain⟨u,Zt,ZD,YO,W4,Zy,ZB,Z7,hnb,hwh,hset⟩:=hI.core.set p Z4 Z3;refine⟨⟨u,YO⟩,W4,?_⟩;have hown:=hI.hand_own hj hd;obtain⟨y,hy⟩:∃y,y=xs.getD j undef:=⟨_,rfl⟩;rw[<- hy]at hown⊢;have hne:∀k,G.φ M.hr j k->¬G.φ p.root p.off k:=λk h1 h2=>Z5 (hI.core.dis _ _ _ _ k h2 h1).1;let G':Gh:=⟨G.β,G.η,λr o k=>if r=M.hr/\o=j then False else if r=p.root/\o=p.off then(G.φ r o k/\¬Zt k)\/G.φ M.hr j k else G.φ r o k⟩;have Z7φ:∀r o k,G'.φ r o k->∃r o,G.φ r o k:=by intro r o k hk;simp only[G']at hk;split at hk;exact hk.elim;split at hk;rcases hk with hk|hk;exact⟨_,_,hk.1⟩;exact⟨_,_,hk⟩;exact⟨_,_,hk⟩
 have Ze:∀k,G.F M.A k->G'.F M.A k:=by rintro k ⟨h1,h2,h3⟩;refine⟨h1,λr o h=>?_,h3⟩;obtain⟨r',o',h'⟩:=Z7φ r o k h;exact h2 r' o' h'
 have hFad:∀k,G.F M.A k->k≠ad.block:=by rintro k ⟨_,h2,h3⟩ e;rcases hwh with⟨r,b,o,n,hb,ZS⟩|h;exact h3 r b o n hb (e.trans ZS);exact h2 _ _ (e▸h)
 have Yk:∀k,G.F M.A k->k<w.heap.size->(w.setCell ad y).heap[k]?=w.heap[k]?:=λk h _=>gF w ad y (hFad k h);have hjad:∀k,G.φ M.hr j k->k≠ad.block:=λk h=>hI.core.phi_ne p Z4 Z3 (λe=>Z5 e.1.symm) h;have hownw:=hown.frame (λk hk=>gF w ad y (hjad k hk)) Yk (λk h _=>Ze k h);have core':∀(C':Cs),C' p.root p.off=iH (gy M σ H p.root p.off) p.hops H[j]->(∀r o,¬(r=p.root/\o=p.off)->C' r o=if r=M.hr/\o=j then .dead else gy M σ H r o)->nO M.A C' (w.setCell ad y) G':=by intro C' h1 h2;refine hset H[j] y (G.φ M.hr j) C' G' (w.setCell ad y) (λ_ _=>rfl) h1 rfl rfl (λk=>?_) (λr o hn=>?_) (λk hk=>.inl ⟨_,_,hk⟩) (λk hk=>⟨hI.core.allow _ _ k hk,λr o hn h=>?_,λh=>hne k hk h.1⟩) hownw;simp[G',Ne.symm Z5,Z5];by_cases e:r=M.hr/\o=j;right;exact⟨by rw[h2 r o hn,oIP e],λk=>by simp[G',e]⟩;left;exact⟨by rw[h2 r o hn,oIN e],λk=>by simp[G',e,hn]⟩;simp only[G']at h;by_cases e:r=M.hr/\o=j;rw[oIP e]at h;exact h;rw[oIN e,oIN hn]at h;exact e (hI.core.dis _ _ _ _ k h hk)
 have ZT:∀(l:U_)(vr:m_),gD σ.ce p.root=some l->p.off<l.length->σ'=⟨σ.tm,iJ σ.ce p.root (l.set p.off (iH (σ.c p.root p.off) p.hops H[j])),vr⟩->kZ w (w.setCell ad y) σ.v σ'.v (gy M σ H) (gy M σ' (H.set j .dead)) G G'->∃G',Inv M σ' (H.set j .dead) xs ts (w.setCell ad y) G'/\nA M w σ H G (w.setCell ad y) σ' (H.set j .dead) G'/\σ'.tm=σ.tm/\G'.β=G.β:=by
  intro l vr hl ho hσ hk;have hC:gy M σ' (H.set j .dead)=oi (oi (gy M σ H) p.root p.off (iH (gy M σ H p.root p.off) p.hops H[j])) M.hr j .dead:=by rw[setH,hσ,J5 hl ho Z5,gv Z5]
  have Zh:nO M.A (gy M σ' (H.set j .dead)) (w.setCell ad y) G':=by rw[hC];refine core' _ (by simp[oi,Z5]) λr o hn=>?_;by_cases e:r=M.hr/\o=j;simp[oi,e];simp[oi,e,hn]
  refine⟨G',⟨Zh,λi=>?_,A2 hI Z4 Z3 y rfl rfl Z7φ,by rw[hσ];exact Jz hI.keys hl,hI.size,by simpa using hI.hand,hI.hval,by rw[hσ];exact Eo hI.shape hl,hI.kept,hI.gn.keep hk Yk λk h _=>Ze k h⟩,⟨by simp,hk,Yk,λk h _=>Ze k h⟩,by rw[hσ],rfl⟩;have:=(hI.tmr i).keep hk Yk (λk h _=>Ze k h);have e:σ'.t i=σ.t i:=by rw[hσ];rfl
  rw[e];exact this
 have hCset:∀(l:U_)(vr:m_),gD σ.ce p.root=some l->p.off<l.length->σ'=⟨σ.tm,iJ σ.ce p.root (l.set p.off (iH (σ.c p.root p.off) p.hops H[j])),vr⟩->gy M σ' (H.set j .dead) p.root p.off=iH (gy M σ H p.root p.off) p.hops H[j]/\∀r o,¬(r=p.root/\o=p.off)->r≠1->gy M σ' (H.set j .dead) r o=gy M σ H r o:=by
  intro l vr hl ho hσ;have hC:gy M σ' (H.set j .dead)=oi (oi (gy M σ H) p.root p.off (iH (gy M σ H p.root p.off) p.hops H[j])) M.hr j .dead:=by rw[setH,hσ,J5 hl ho Z5,gv Z5]
  rw[hC];refine⟨by simp[oi,Z5],λr o hn h1=>?_⟩;have:¬(r=M.hr/\o=j):=λe=>h1 e.1;simp[oi,this,hn]
 unfold wv at hr;simp only[SP.run,hgs]at hr;by_cases hh:(tG old||tG H[j])=true;rw[oIP hh]at hr;by_cases hlen:p.hops.length<=1;rw[oIP hlen]at hr;obtain⟨l,hl,ho,h3⟩:=gG hr;simp only[SP.run,oSJ,oPJ,true_and]at h3;obtain⟨ZM,ZJ⟩:=hCset l _ hl ho h3.symm;refine ZT l _ hl ho h3.symm ?_;refine AZ hI.core p hlen Z4 Z3 (λ_ _=>rfl) rfl rfl (λq=>?_) ?_ ZM ZJ;rw[<- h3];show _<=nw (tA σ.vr _) q;rw[jn];exact Nat.le_add_right _ _;rw[<- h3];show _<nw (tA σ.vr _) _;rw[jn];simp[St.v];rw[oIN hlen]at hr;simp[SP.run]at hr;rw[oIN hh]at hr;obtain⟨l,hl,ho,h3⟩:=gG hr;simp only[SP.run,oSJ,oPJ,true_and]at h3;obtain⟨ZM,ZJ⟩:=hCset l _ hl ho h3.symm;refine ZT l _ hl ho h3.symm ?_;simp only[Bool.or_eq_true,not_or]at hh;obtain⟨o1,rfl⟩:∃o1,old=.v o1:=by cases old<;>simp[tG]at hh;exact⟨_,rfl⟩
 obtain⟨o2,W'⟩:∃o2,H[j]=.v o2:=by cases h:H[j]<;>simp[h,tG]at hh;exact⟨_,rfl⟩
 have ZE:kn y=true:=by rw[W']at hown;cases hown with|v _ h=>exact h
 have hvv:σ'.v=σ.v:=by rw[<- h3];rfl
 rw[hvv];exact Ej hI.core p Z4 Z3 ZE (λ_ _=>rfl) rfl rfl ZM ZJ
end
section
variable {M:Fm} {σ σ':St} {H:U_} {xs:w_} {ts:s_} {w:World} {G:Gh}
def St.root(σ:St)(r:Nat)(l:U_):St:=⟨σ.tm,iJ σ.ce r l,tA σ.vr (r,0,0)⟩
theorem qv{r:Nat}{l:U_}(k:Key):(σ.root r l).v k=σ.v k+if(r,0,0)=k then 1 else 0:=jn σ.vr _ k
theorem ze{r:Nat}{l:U_}(r' o:Nat):(σ.root r l).c r' o=if r'=r then l.getD o .dead else σ.c r' o:=by unfold St.c St.root;simp[gN];grind
theorem IG{r:Nat}{l:U_}(r' o:Nat)(hI:Inv M σ H xs ts w G):gy M (σ.root r l) [] r' o=if r'=M.hr then .dead else if r'=r then l.getD o .dead else gy M σ H r' o:=by unfold gy;by_cases h:r'=M.hr;simp[h];simp[oIN h,ze]
theorem Inv.phi_dead(hI:Inv M σ H xs ts w G){r o:Nat}(hd:gy M σ H r o=.dead):∀k,¬G.φ r o k:=by rcases hI.core.cell r o with⟨_,h2⟩|h2;exact h2;rw[hd]at h2;cases h2 with|dead hfp _=>exact hfp
theorem Inv.hand_cell(hI:Inv M σ H xs ts w G)(o:Nat):(H.getD o .dead=.dead/\∀k,¬G.φ M.hr o k)\/(o<H.length/\jD w (G.F M.A) (G.φ M.hr o) (H.getD o .dead) (xs.getD o undef)):=by
 by_cases hd:H.getD o .dead=.dead;exact .inl ⟨hd,hI.phi_dead (by rw[qe];exact hd)⟩;right;have ho:o<H.length:=by rcases Nat.lt_or_ge o H.length with h|h;exact h;simp_all
 have e:H[o]=H.getD o .dead:=by simp[ho]
 have:=hI.hand_own ho (by rw[e];exact hd);rw[e]at this;exact⟨ho,this⟩
theorem Inv.newBox(hI:Inv M σ H xs ts w G)(r:Nat)(e:TypeId)(h1:r≠1)(YX:M.pr r=none)(XN:r%2=0):∃G',Inv M (σ.root r H) [] [] ts (w.alloc (.cells xs.toArray e)) G'/\nA M w σ H G (w.alloc (.cells xs.toArray e)) (σ.root r H) [] G'/\G'.β r=some (w.heap.size,0,H.length):=by
 have Z5:r≠M.hr:=h1;have hw:∀k,k<w.heap.size->(w.alloc (.cells xs.toArray e)).heap[k]?=w.heap[k]?:=λk hk=>Below.heap_alloc w _ k hk;have Zm:(w.alloc (.cells xs.toArray e)).heap[w.heap.size]?=some (.cells xs.toArray e (0,0)):=by show(w.heap.push _)[w.heap.size]?=_;simp
 let G':Gh:=⟨λr'=>if r'=r then some (w.heap.size,0,H.length)else G.β r',G.η,λr' o k=>if r'=M.hr then False else if r'=r then G.φ M.hr o k else G.φ r' o k⟩;have Z7:∀r' o k,G'.φ r' o k->∃r2,G.φ r2 o k/\(r'=r/\r2=M.hr\/r'≠r/\r'≠M.hr/\r2=r'):=by intro r' o k hk;simp only[G']at hk;by_cases e1:r'=M.hr;rw[oIP e1]at hk;exact hk.elim;rw[oIN e1]at hk;by_cases e2:r'=r;rw[oIP e2]at hk;exact⟨_,hk,.inl ⟨e2,rfl⟩⟩;rw[oIN e2]at hk;exact⟨_,hk,.inr ⟨e2,e1,rfl⟩⟩
 have Ze:∀k,G.F M.A k->k<w.heap.size->G'.F M.A k:=by
  rintro k ⟨a1,a2,a3⟩ hk;refine⟨a1,λr' o h=>?_,λr' b o n hb=>?_⟩;obtain⟨r2,h3,_⟩:=Z7 r' o k h;exact a2 r2 o h3;simp only[G']at hb;split at hb;injection hb with hb;injection hb with hb;omega
  exact a3 r' b o n hb
 have hval:∀r' o,r'≠r->G'.val (w.alloc (.cells xs.toArray e)) r' o=G.val w r' o:=by intro r' o hne;exact lP (by simp[G',hne]) rfl λb o n hb=>hw b (hI.core.boxlt hb)
 have hCr:∀r' o,gy M (σ.root r H) [] r' o=if r'=M.hr then .dead else if r'=r then H.getD o .dead else gy M σ H r' o:=λr' o=>IG r' o hI
 have Zh:nO M.A (gy M (σ.root r H) []) (w.alloc (.cells xs.toArray e)) G':=by
  refine⟨λr' o=>?_,λr' b o0 n hb=>?_,λr' b o0 n hb o ho=>?_,λr1 r2 b o n o' n' ZI ZS=>?_,λr' b o n hb r2 o2 hk=>?_,λr1 o1 r2 o2 k Y7 X'=>?_,λr' o k hk=>?_⟩;rw[hCr];by_cases e1:r'=M.hr;left;exact⟨by simp[e1],λk hk=>by simp[G',e1]at hk⟩;rw[oIN e1];by_cases e2:r'=r;subst e2;simp only[if_true];have Zj:∀k,G'.φ r' o k↔G.φ M.hr o k:=λk=>by simp[G',e1]
  rcases hI.hand_cell o with⟨a1,a2⟩|⟨a1,a2⟩;left;exact⟨a1,λk hk=>a2 k ((Zj k).1 hk)⟩;right;have hv:G'.val (w.alloc (.cells xs.toArray e)) r' o=xs.getD o undef:=by
   have hlt:o<xs.length:=by rw[<- hI.hand];exact a1
   unfold Gh.val;simp only[G',if_true];rw[World.cell?_alloc_new];simp[hlt]
  rw[hv];exact(a2.frame (λk hk=>hw k (a2.live k hk)) (λk _ hk=>hw k hk) Ze).refp λk=>(Zj k).symm;rw[oIN e2,hval r' o e2];have Zj:∀k,G'.φ r' o k↔G.φ r' o k:=λk=>by simp[G',e1,e2]
  rcases hI.core.cell r' o with⟨a1,a2⟩|a2;left;exact⟨a1,λk hk=>a2 k ((Zj k).1 hk)⟩;right;exact(a2.frame (λk hk=>hw k (a2.live k hk)) (λk _ hk=>hw k hk) Ze).refp λk=>(Zj k).symm;simp only[G']at hb;split at hb;injection hb with hb
  injection hb with ZI ZS
  injection ZS with ZS WM
  subst ZI;subst ZS;subst WM;exact⟨xs.toArray,e,(0,0),Zm,by simp[hI.hand],λj _=>frozen_of_row _ _ _ _ _ Zm⟩;obtain⟨cur,e',fz,a1,a2,a3⟩:=hI.core.box r' b o0 n hb;exact⟨cur,e',fz,by rw[hw b (hI.core.boxlt hb)];exact a1,a2,λj hj=>by rw[World.frozen?_of_block (w:=w) (hw b (hI.core.boxlt hb))];exact a3 j hj⟩;rw[hCr];simp only[G']at hb;by_cases e1:r'=M.hr;simp[e1];rw[oIN e1];split at hb;simp_all;rename_i e2;rw[oIN e2];exact hI.core.boxc r' b o0 n hb o ho;simp only[G']at ZI ZS;split at ZI;rename_i e1;split at ZS;rename_i e2;exact e1.trans e2.symm;have:=hI.core.boxlt ZS;injection ZI with ZI;injection ZI with ZI;omega
  split at ZS;have:=hI.core.boxlt ZI;injection ZS with ZS;injection ZS with ZS;omega
  exact hI.core.boxd r1 r2 b o n o' n' ZI ZS;obtain⟨r3,a1,_⟩:=Z7 r2 o2 b hk;simp only[G']at hb;split at hb;have:=hI.core.live a1;injection hb with hb;injection hb with hb;omega
  exact hI.core.boxf r' b o n hb r3 o2 a1;obtain⟨r3,a1,a2⟩:=Z7 r1 o1 k Y7;obtain⟨r4,a3,a4⟩:=Z7 r2 o2 k X';obtain⟨b1,b2⟩:=hI.core.dis _ _ _ _ k a1 a3;omega;obtain⟨r3,a1,_⟩:=Z7 r' o k hk;exact hI.core.allow _ _ k a1
 have hk:kZ w (w.alloc (.cells xs.toArray e)) σ.v (σ.root r H).v (gy M σ H) (gy M (σ.root r H) []) G G':=by refine kZ.root hI.core r hw (λq=>by rw[qv];omega) (by rw[qv];simp) (λr' o hne h1'=>?_) (λr' hne _=>by simp[G',hne]) (λ_ _ _ _=>rfl);rw[hCr];have:r'≠M.hr:=h1';simp[this,hne]
 have hF:=hI.fram;refine⟨G',⟨Zh,λi=>(hI.tmr i).keep hk (λk _ h=>hw k h) Ze,?_,λr' l h=>?_,hI.size,rfl,λj hj=>by simp at hj,λr' b o n hb l h=>?_,hI.kept,hI.gn.keep hk (λk _ h=>hw k h) Ze⟩,⟨by simp,hk,λk _ h=>hw k h,Ze⟩,by simp[G']⟩;refine⟨hF.os,hF.tape,hF.output,by have:=hF.size;simp;omega,λk a1 a2 a3=>by rw[hw k (Nat.lt_of_lt_of_le a1 hF.size)];exact hF.old k a1 a2 a3,λr' b o n hp=>?_,λr' o k hk=>?_,λr' b o n hb=>?_,λr' hb=>?_⟩;obtain⟨a1,cur0,cur,e',fz,a2,a3,a4⟩:=hF.par r' b o n hp;have hne:r'≠r:=λe=>by rw[e,YX]at hp;simp at hp
 exact⟨by simp[G',hne,a1],cur0,cur,e',fz,a2,by rw[hw b (hI.core.boxlt a1)];exact a3,a4⟩;obtain⟨r3,a1,_⟩:=Z7 r' o k hk;exact hF.own _ _ k a1;simp only[G']at hb;split at hb;rename_i e1;injection hb with hb;injection hb with ZI ZS
 right;rw[e1];exact⟨YX,by rw[<- ZI];exact hF.size⟩;exact hF.box r' b o n hb;simp only[G']at hb;split at hb;rename_i e1;rw[e1];exact XN;exact hF.even r' hb;rw[show(σ.root r H).ce=iJ σ.ce r H from rfl,gN]at h;split at h;rename_i e1;rw[<- e1];exact h1;exact hI.keys r' l h;rw[show(σ.root r H).ce=iJ σ.ce r H from rfl,gN]at h;simp only[G']at hb;by_cases e1:r'=r;rw[oIP e1.symm]at h;rw[oIP e1]at hb;injection h with h
 injection hb with hb
 injection hb with _ hb
 injection hb with _ hb
 rw[<- h,hb];rw[oIN (Ne.symm e1)]at h;rw[oIN e1]at hb;exact hI.shape r' b o n hb l h
theorem Inv.reroot(hI:Inv M σ H xs ts w G)(r:Nat)(h1:r≠1)(hβr:G.β r=none)(hkr:∀i,i≠1000000->M.kp i≠none->2*i+3≠r):∃G',pJ M w ts σ H G (σ.root r H) [] [] G'/\G'.β=G.β/\∀j,j<xs.length->G'.η r j=xs.getD j undef:=by
 let G':Gh:=⟨G.β,λr' o=>if r'=r then G.η M.hr o else G.η r' o,λr' o k=>if r'=M.hr then False else if r'=r then G.φ M.hr o k else G.φ r' o k⟩;have Z7:∀r' o k,G'.φ r' o k->∃r2,G.φ r2 o k/\(r'=r/\r2=M.hr\/r'≠r/\r'≠M.hr/\r2=r'):=by intro r' o k hk;simp only[G']at hk;by_cases e1:r'=M.hr;rw[oIP e1]at hk;exact hk.elim;rw[oIN e1]at hk;by_cases e2:r'=r;rw[oIP e2]at hk;exact⟨_,hk,.inl ⟨e2,rfl⟩⟩;simp_all
 have hCr:∀r' o,gy M (σ.root r H) [] r' o=if r'=M.hr then .dead else if r'=r then H.getD o .dead else gy M σ H r' o:=λr' o=>IG r' o hI
 have hF0:∀k,G.F M.A k->G'.F M.A k:=by rintro k ⟨a1,a2,a3⟩;refine⟨a1,λr' o h=>?_,a3⟩;obtain⟨r2,h3,_⟩:=Z7 r' o k h;exact a2 r2 o h3
 have Ys:=nO.ghost (C':=gy M (σ.root r H) []) (G':=G') hI.core rfl
  (λk ⟨r',o,h⟩=>by obtain⟨r2,h3,_⟩:=Z7 r' o k h;exact⟨r2,o,h3⟩)
  (λr1 o1 r2 o2 k Y7 X'=>by
   obtain⟨r3,a1,a2⟩:=Z7 r1 o1 k Y7;obtain⟨r4,a3,a4⟩:=Z7 r2 o2 k X';obtain⟨b1,b2⟩:=hI.core.dis _ _ _ _ k a1 a3;refine⟨?_,b2⟩
   rcases a2 with⟨c1,c2⟩|⟨c1,c2,c3⟩
   ·omega
   ·rcases a4 with⟨d1,d2⟩|⟨d1,d2,d3⟩
    ·exact absurd (c3.symm.trans (b1.trans d2)) c2
    ·rw[<- c3,<- d3];exact b1)
  (λr' b o0 n hb o ho=>by
   rw[hCr];by_cases e1:r'=M.hr
   ·simp[e1]
   ·by_cases e2:r'=r
    ·rw[e2,hβr]at hb;simp at hb
    ·simp only[e1,e2,if_false];exact hI.core.boxc r' b o0 n hb o ho)
  (λr' o=>by
   rw[hCr];by_cases e1:r'=M.hr
   ·right;left;exact⟨by simp[e1],λk hk=>by simp[G',e1]at hk⟩
   ·rw[oIN e1];by_cases e2:r'=r
    ·subst e2;right;simp only[if_true]
     have Zj:∀k,G'.φ r' o k↔G.φ M.hr o k:=λk=>by simp[G',e1]
     rcases hI.hand_cell o with⟨a1,a2⟩|⟨a1,a2⟩
     ·simp_all
     ·right
      have hv:G'.val w r' o=xs.getD o undef:=by
       unfold Gh.val;simp only[G',hβr,if_true];exact hI.hval o (by rw[<- hI.hand];exact a1)
      rw[hv];exact(a2.frame (λ_ _=>rfl) (λ_ _ _=>rfl) (λk h _=>hF0 k h)).refp λk=>(Zj k).symm
    ·left
     exact⟨by simp[e2],λk=>by simp[G',e1,e2],by simp[G',e2]⟩)
 have hk:kZ w w σ.v (σ.root r H).v (gy M σ H) (gy M (σ.root r H) []) G G':=by refine kZ.root hI.core r (λ_ _=>rfl) (λq=>by rw[qv];omega) (by rw[qv];simp) (λr' o hne h1'=>?_) (λr' hne _=>rfl) (λr' o hne _=>by simp[G',hne]);rw[hCr];have:r'≠M.hr:=h1';simp[this,hne]
 refine⟨G',⟨⟨Ys.1,λi=>(hI.tmr i).keep hk (λ_ _ _=>rfl) (λk h _=>hF0 k h),hI.fram.ghost rfl (λk ⟨r',o,h⟩=>by obtain⟨r2,h3,_⟩:=Z7 r' o k h;exact⟨r2,o,h3⟩),λr' l h=>?_,hI.size,rfl,λj hj=>by simp at hj,λr' b o n hb l h=>?_,λi x h0 h=>(oIN (hkr i h0 (by rw[h];simp))).trans (hI.kept i x h0 h),hI.gn.keep hk (λ_ _ _=>rfl) (λk h _=>hF0 k h)⟩,hF0,hk,rfl⟩,rfl,λj hj=>by simp[G',hI.hval j hj]⟩;rw[show(σ.root r H).ce=iJ σ.ce r H from rfl,gN]at h;split at h;rename_i e1;rw[<- e1];exact h1;exact hI.keys r' l h;rw[show(σ.root r H).ce=iJ σ.ce r H from rfl,gN]at h;split at h;rename_i e1;have Za:G.β r'=some (b,o,n):=hb;rw[<- e1,hβr]at Za;simp at Za;exact hI.shape r' b o n hb l h
theorem Inv.wrT(hI:Inv M σ H xs ts w G){d:Nat}(hd:M.ok d){t:TV}{x:Value}(h:TmR w (G.F M.A) σ.v (gy M σ H) G t x):Inv M { σ with tm:=iJ σ.tm d t } H xs (ts.setIfInBounds d x) w G:=by
 refine⟨hI.core,λi=>?_,hI.fram,hI.keys,by simpa using hI.size,hI.hand,hI.hval,hI.shape,hI.kept,hI.gn⟩;have e:St.t { σ with tm:=iJ σ.tm d t } i=if d=i then t else σ.t i:=by unfold St.t;simp[gN];grind
 rw[e];have e2:(ts.setIfInBounds d x).getD i undef=if d=i then x else ts.getD i undef:=by by_cases hdi:d=i;subst hdi;simp[hI.size,hd.1];simp[hdi]
 rw[e2];by_cases hdi:d=i;simp[hdi];exact h;simp only[hdi];exact hI.tmr i
theorem Inv.clear(hI:Inv M σ H xs ts w G)(hd:∀j (h:j<H.length),H[j]=.dead):Inv M σ [] [] ts w G:=by
 have e:gy M σ []=gy M σ H:=by funext r o;unfold gy;split;by_cases ho:o<H.length;simp_all;simp[ho];rfl
 exact⟨by rw[e];exact hI.core,λi=>by rw[e];exact hI.tmr i,hI.fram,hI.keys,hI.size,rfl,λj hj=>by simp_all,hI.shape,hI.kept,by unfold Gn;rw[e];exact hI.gn⟩
theorem Inv.grow(hI:Inv M σ H xs ts w G){w':World}(hw:∀k,k<w.heap.size->w'.heap[k]?=w.heap[k]?)(hs:w.heap.size<=w'.heap.size)(ho:w'.os=w.os)(ht:w'.tape=w.tape)(hu:w'.output=w.output):Inv M σ H xs ts w' G/\nA M w σ H G w' σ H G:=by have hk:=kZ.grow (V:=σ.v) hI.core hw;have hF:=hI.fram;refine⟨⟨(hI.core.grow hw).1,λi=>(hI.tmr i).keep hk (λk _ h=>hw k h) (λ_ h _=>h),⟨ho.trans hF.os,ht.trans hF.tape,hu.trans hF.output,Nat.le_trans hF.size hs,λk a1 a2 a3=>by rw[hw k (Nat.lt_of_lt_of_le a1 hF.size)];exact hF.old k a1 a2 a3,λr b o n hp=>?_,hF.own,hF.box,hF.even⟩,hI.keys,hI.size,hI.hand,hI.hval,hI.shape,hI.kept,hI.gn.keep hk (λk _ h=>hw k h) (λ_ h _=>h)⟩,⟨hs,hk,λk _ h=>hw k h,λ_ h _=>h⟩⟩;have ⟨a1,cur0,cur,e',fz,a2,a3,a4⟩:=hF.par r b o n hp;exact⟨a1,cur0,cur,e',fz,a2,by rw[hw b (hI.core.boxlt a1)];exact a3,a4⟩
theorem Inv.drop(hI:Inv M σ H xs ts w G):∃G',pJ M w ts σ H G σ [] [] G'/\G'.β=G.β:=by
 let G':Gh:=⟨G.β,G.η,λr' o k=>if r'=M.hr then False else G.φ r' o k⟩;have Z7:∀r' o k,G'.φ r' o k->G.φ r' o k:=by grind
 have Ys:=nO.ghost (C':=gy M σ []) (G':=G') hI.core rfl (λk ⟨r',o,h⟩=>⟨r',o,Z7 r' o k h⟩) (λr1 o1 r2 o2 k h1 h2=>hI.core.dis _ _ _ _ k (Z7 _ _ k h1) (Z7 _ _ k h2))
  (λr' b o0 n hb o ho=>by
   have:=hI.core.boxc r' b o0 n hb o ho;unfold gy at this⊢;split
   ·simp
   ·rename_i h;rw[oIN h]at this;exact this)
  (λr' o=>by
   by_cases e1:r'=M.hr
   ·right;left;exact⟨by rw[e1,qe];simp,λk hk=>by simp[G',e1]at hk⟩
   ·left;exact⟨by rw[gv e1,gv e1],λk=>by grind,rfl⟩)
 have hk:kZ w w σ.v σ.v (gy M σ H) (gy M σ []) G G':=by refine⟨λ_=>oLE _,λp ad t Z6 _ h1 h2=>⟨t,of h1 rfl λ_=>rfl,by rw[gv (Z6)]at h2⊢;exact h2⟩,λp h c Z6 _ h1 h2=>⟨c,h1,by rw[gv (Z6)]at h2⊢;exact h2,rfl⟩⟩
 exact⟨G',⟨⟨Ys.1,λi=>(hI.tmr i).keep hk (λ_ _ _=>rfl) (λk h _=>Ys.2 k h),hI.fram.ghost rfl (λk ⟨r',o,h⟩=>⟨r',o,Z7 r' o k h⟩),hI.keys,hI.size,rfl,λj hj=>by simp_all,hI.shape,hI.kept,hI.gn.keep hk (λ_ _ _=>rfl) (λk h _=>Ys.2 k h)⟩,Ys.2,hk,rfl⟩,rfl⟩
end
section
variable {M:Fm} {σ σ':St} {H:U_} {xs:w_} {ts:s_} {w:World} {G:Gh}
theorem wO(hI:Inv M σ H xs ts w G){w':World}{H':U_}{G':Gh}(hw:∀k,k<w.heap.size->(∀j,¬G.φ M.hr j k)->w'.heap[k]?=w.heap[k]?)(hβ:G'.β=G.β)(hη:∀r o,r≠1->G'.η r o=G.η r o):kZ w w' σ.v σ.v (gy M σ H) (gy M σ H') G G':=by
 have hC:∀r o,r≠1->gy M σ H' r o=gy M σ H r o:=λr o h=>by rw[gv (by exact h),gv (by exact h)]
 have hval:=λr o h=>lP (by rw[hβ]) (hη r o h) λb o n hb=>hw b (hI.core.boxlt hb) λj=>hI.core.boxf r b o n hb _ _;have hφ:∀r o,r≠1->∀k,G.φ r o k->w'.heap[k]?=w.heap[k]?:=λr o h k hk=>hw k (hI.core.live hk) λj hj=>h (hI.core.dis _ _ _ _ k hk hj).1;refine⟨λ_=>oLE _,λp ad t Z6 _ h1 h2=>?_,λp h c Z6 _ h1 h2=>?_⟩;refine⟨t,of h1 hβ λhp=>?_,by rw[hC _ _ Z6];exact h2⟩;have hd:gy M σ H p.root p.off≠.dead:=λhd=>by rw[hd]at h2;cases hq:p.hops<;>rw[hq]at h2 hp<;>simp[gE]at h2 hp
 rw[hval _ _ Z6];exact sV (hI.core.own hd) h2 (hφ _ _ Z6);refine⟨c,?_,by simp_all,rfl⟩;obtain⟨x,fpx,h6,h7,_,h8⟩:=hI.core.hv_own p h2 (by simp);rw[h1]at h6;injection h6 with h6
 subst h6;have hd:gy M σ H p.root p.off≠.dead:=λhd=>by rw[hd]at h2;cases hq:p.hops<;>rw[hq]at h2<;>simp[gE]at h2
 cases hp:p.hops with|nil=>unfold Gh.hv at h1⊢;rw[hp]at h1⊢;rw[hval _ _ Z6];exact h1|cons b l=>obtain⟨WJ,h9,h10,WL⟩:=h8 (by rw[hp];simp);unfold Gh.hv;refine mj (ad:=WJ) ?_ ?_;rw[hval _ _ Z6,sV (hI.core.own hd) h2 (hφ _ _ Z6)];exact h9;rw[World.cell?_of_block (w:=w) (hφ _ _ Z6 _ WL)];exact h10
theorem Inv.rehand(hI:Inv M σ H xs ts w G){w':World}{t':TV}{v':Value}{fp':Nat->Prop}(hw:∀k,k<w.heap.size->(∀j,¬G.φ M.hr j k)->w'.heap[k]?=w.heap[k]?)(hs:w.heap.size<=w'.heap.size) (ho:w'.os=w.os)(ht:w'.tape=w.tape)(hu:w'.output=w.output)(hfp:∀k,fp' k->(∃j,G.φ M.hr j k)\/w.heap.size<=k)(hown:jD w' (λk=>G.F M.A k/\k<w.heap.size) fp' t' v'):∃G',Inv M σ [t'] [v'] ts w' G'/\nA M w σ H G w' σ [t'] G'/\G'.β=G.β:=by
 let G':Gh:=⟨G.β,λr o=>if r=M.hr then v' else G.η r o,λr o k=>if r=M.hr then(if o=0 then fp' k else False)else G.φ r o k⟩;have Z7:∀r o k,G'.φ r o k->(r=M.hr/\o=0/\fp' k)\/(r≠M.hr/\G.φ r o k):=by intro r o k hk;simp only[G']at hk;by_cases e:r=M.hr;rw[oIP e]at hk;by_cases e2:o=0;rw[oIP e2]at hk;exact .inl ⟨e,e2,hk⟩;rw[oIN e2]at hk;exact hk.elim;rw[oIN e]at hk;exact .inr ⟨e,hk⟩
 have Ze:∀k,G.F M.A k->k<w.heap.size->G'.F M.A k:=by rintro k ⟨a1,a2,a3⟩ hk;refine⟨a1,λr o h=>?_,a3⟩;rcases Z7 r o k h with⟨_,_,h1⟩|⟨_,h1⟩;rcases hfp k h1 with⟨j,h2⟩|h2;exact a2 _ _ h2;omega;exact a2 _ _ h1
 have Yk:∀k,G.F M.A k->k<w.heap.size->w'.heap[k]?=w.heap[k]?:=λk ⟨_,a2,_⟩ hk=>hw k hk λj=>a2 _ _;have hφ:∀r o,r≠M.hr->∀k,G.φ r o k->w'.heap[k]?=w.heap[k]?:=λr o h k hk=>hw k (hI.core.live hk) λj hj=>h (hI.core.dis _ _ _ _ k hk hj).1;have Yz:∀r b o n,G.β r=some (b,o,n)->w'.heap[b]?=w.heap[b]?:=λr b o n hb=>hw b (hI.core.boxlt hb) λj=>hI.core.boxf r b o n hb _ _;have hk:=wO (H':=[t']) (G':=G') hI hw rfl (λr o h=>by simp[G',show r≠M.hr from h]);have hfpd:∀r o k,r≠M.hr->G.φ r o k->¬fp' k:=by intro r o k h hk hf;rcases hfp k hf with⟨j,h2⟩|h2;exact h (hI.core.dis _ _ _ _ k hk h2).1;have:=hI.core.live hk;omega
 have hF:=hI.fram;have Zh:nO M.A (gy M σ [t']) w' G':=by
  refine⟨λr o=>?_,λr b o0 n hb=>?_,λr b o0 n hb o ho=>?_,hI.core.boxd,λr b o n hb r2 o2 hk=>?_,λr1 o1 r2 o2 k h1 h2=>?_,λr o k h=>?_⟩;by_cases e:r=M.hr;subst e;by_cases e2:o=0;subst e2;right;have hv:G'.val w' M.hr 0=v':=by unfold Gh.val;simp only[G',hI.hr_none,if_true]
  rw[hv,qe];exact(hown.frame (λ_ _=>rfl) (λ_ _ _=>rfl) (λk h _=>Ze k h.1 h.2)).refp λk=>by simp[G']
  left;refine⟨by rw[qe];simp[e2],λk hk=>by simp[G',e2]at hk⟩;have hv:G'.val w' r o=G.val w r o:=lP rfl (by simp[G',e]) (Yz r);have Zj:∀k,G'.φ r o k↔G.φ r o k:=λk=>by simp[G',e]
  rw[gv e,hv];have hc:=hI.core.cell r o;rw[gv e]at hc;rcases hc with⟨a1,a2⟩|a2;left;exact⟨a1,λk hk=>a2 k ((Zj k).1 hk)⟩;right;exact(a2.frame (hφ r o e) Yk Ze).refp λk=>(Zj k).symm;obtain⟨cur,e',fz,a1,a2,a3⟩:=hI.core.box r b o0 n hb;exact⟨cur,e',fz,by rw[Yz r b o0 n hb];exact a1,a2,λj hj=>by rw[World.frozen?_of_block (w:=w) (Yz r b o0 n hb)];exact a3 j hj⟩;have e:r≠M.hr:=λe=>by have Za:G.β r=some (b,o0,n):=hb;rw[e,hI.hr_none]at Za;simp at Za
  have:=hI.core.boxc r b o0 n hb o ho;rw[gv e]at this⊢;exact this;rcases Z7 r2 o2 b hk with⟨_,_,h1⟩|⟨_,h1⟩;rcases hfp b h1 with⟨j,h2⟩|h2;exact hI.core.boxf r b o n hb _ _ h2;have:=hI.core.boxlt hb;omega;exact hI.core.boxf r b o n hb _ _ h1;rcases Z7 r1 o1 k h1 with⟨a1,a2,a3⟩|⟨a1,a2⟩;rcases Z7 r2 o2 k h2 with⟨b1,b2,b3⟩|⟨b1,b2⟩;exact⟨a1.trans b1.symm,a2.trans b2.symm⟩;exact absurd a3 (hfpd _ _ k b1 b2);rcases Z7 r2 o2 k h2 with⟨b1,b2,b3⟩|⟨b1,b2⟩;exact absurd b3 (hfpd _ _ k a1 a2);exact hI.core.dis _ _ _ _ k a2 b2;rcases Z7 r o k h with⟨a1,a2,a3⟩|⟨a1,a2⟩;rcases hfp k a3 with⟨j,h2⟩|h2;exact hI.core.allow _ _ k h2;exact M.hA k (Nat.le_trans hF.size h2);exact hI.core.allow _ _ k a2
 refine⟨G',⟨Zh,λi=>(hI.tmr i).keep hk Yk Ze,?_,hI.keys,hI.size,rfl,λj hj=>?_,hI.shape,λi x h0 h=>by simp only[G',oIN (show ¬ 2*i+3=M.hr from λe=>M.odd_ne i (p:=True) ⟨e,trivial⟩)];exact hI.kept i x h0 h,hI.gn.keep hk Yk Ze⟩,⟨hs,hk,Yk,Ze⟩,rfl⟩;refine⟨ho.trans hF.os,ht.trans hF.tape,hu.trans hF.output,Nat.le_trans hF.size hs,λk a1 a2 a3=>?_,λr b o n hp=>?_,λr o k h=>?_,hF.box,hF.even⟩;rw[hw k (Nat.lt_of_lt_of_le a1 hF.size) λj hj=>?_];exact hF.old k a1 a2 a3;rcases hF.own _ _ k hj with h|h;exact a2 h;omega;obtain⟨a1,cur0,cur,e',fz,a2,a3,a4⟩:=hF.par r b o n hp;exact⟨a1,cur0,cur,e',fz,a2,by rw[Yz r b o n a1];exact a3,a4⟩;rcases Z7 r o k h with⟨a1,a2,a3⟩|⟨a1,a2⟩;rcases hfp k a3 with⟨j,h2⟩|h2;exact hF.own _ _ k h2;exact .inr (Nat.le_trans hF.size h2);exact hF.own _ _ k a2;obtain rfl:j=0:=by simp at hj;omega
 simp[G']
theorem wF{α:Type}{c:List (List α)}{sz:Nat}(hs:∀i (h:i<c.length),c[i].length=sz){i j:Nat}(hi:i<c.length)(hj:j<c[i].length):c.flatten[i*sz+j]?=some c[i][j]:=by induction c generalizing i with|nil=>simp at hi|cons a c ih=>have ha:a.length=sz:=hs 0 (by simp);rw[List.flatten_cons];cases i with|zero=>simp at hj⊢;rw[oAL hj,oGE hj]|succ i=>rw[oAR (by rw[ha,Nat.succ_mul];omega),ha,show(i+1)*sz+j-sz=i*sz+j by rw[Nat.succ_mul];omega];exact ih (λi h=>hs (i+1) (by simp_all)) (by simpa using hi) hj
theorem B2{α:Type}{c:List (List α)}{sz:Nat}(hs:∀i (h:i<c.length),c[i].length=sz):c.flatten.length=c.length*sz:=by induction c with|nil=>simp|cons a c ih=>rw[List.flatten_cons,oLA,ih (λi h=>hs (i+1) (by simp_all)),show a.length=sz from hs 0 (by simp)];simp[Nat.succ_mul,Nat.add_comm]
theorem Inv.mkSlice(hI:Inv M σ H xs ts w G){c:o_}{sz:Nat}(e:TypeId)(hs:∀i (h:i<c.length),c[i].length=sz)(hc:c.flatten=H)(Zn:∀j (h:j<H.length),H[j]≠.dead)(hmax:c.length<=maxLen):∃G',Inv M σ [.ow c] [.slice (some ⟨w.heap.size,0,none⟩) c.length c.length] ts (w.alloc (.cells xs.toArray e)) G'/\nA M w σ H G (w.alloc (.cells xs.toArray e)) σ [.ow c] G'/\G'.β=G.β:=by
 have hw:∀k,k<w.heap.size->(w.alloc (.cells xs.toArray e)).heap[k]?=w.heap[k]?:=λk hk=>Below.heap_alloc w _ k hk;have Zm:(w.alloc (.cells xs.toArray e)).heap[w.heap.size]?=some (.cells xs.toArray e (0,0)):=by show(w.heap.push _)[w.heap.size]?=_;simp
 have hlen:H.length=c.length*sz:=by rw[<- hc];exact B2 hs
 have XQ:∀i j,i<c.length->j<sz->i*sz+j<H.length:=by
  intro i j hi hj;rw[hlen];calc i*sz+j<i*sz+sz:=by omega
   _=(i+1)*sz:=by rw[Nat.succ_mul]
   _<=c.length*sz:=Nat.mul_le_mul_right _ hi
 refine hI.rehand (fp':=λk=>k=w.heap.size\/∃i j,i<c.length/\j<sz/\(i<c.length/\j<sz/\G.φ M.hr (i*sz+j) k)) (λk hk _=>hw k hk) (by simp) rfl rfl rfl (λk hk=>?_) ?_;rcases hk with rfl|⟨i,j,_,_,_,_,h⟩;omega;exact .inl ⟨_,h⟩;refine .ow sz (λi j=>xs.getD (i*sz+j) undef) (λi j k=>i<c.length/\j<sz/\G.φ M.hr (i*sz+j) k) (λk=>Iff.rfl) Zm hs (oLE _) id hmax (by simp[<- hI.hand,hlen]) (λi j hi hj=>?_) (λi j hi hj=>?_) (λi j h=>?_) (λi j i' j' k h h'=>?_);have hlt:=XQ i j hi hj;have Wx:i*sz+j<xs.length:=by rw[<- hI.hand];exact hlt
 simp[Wx];have ZO:j<sz:=by rw[<- hs i hi];exact hj
 have hlt:=XQ i j hi ZO;have hg:=wF hs hi hj;rw[hc,oGE hlt]at hg;injection hg with hg
 rw[<- hg];exact((hI.hand_own hlt (Zn _ hlt)).frame (λk hk=>hw k ((hI.hand_own hlt (Zn _ hlt)).live k hk)) (λk _ hk=>hw k hk) (λk h hk=>⟨h,hk⟩)).refp λk=>⟨λh=>⟨hi,ZO,h⟩,λh=>h.2.2⟩;have:=hI.core.live h.2.2;omega;have:=(hI.core.dis _ _ _ _ k h.2.2 h'.2.2).2;exact OS h.2.1 h'.2.1 this
end
section
variable {w:World} {F:Nat->Prop}
theorem jD.rows{fp:Nat->Prop}{t:TV}{v:Value}{c:o_}{sz:Nat}(h:jD w F fp t v)(ht:t=.ow c\/t=.sl c)(hs:∀i (h:i<c.length),c[i].length=sz):∃(a:t_)(cap:Nat)(vals:w_)(f:Nat->Nat->Nat->Prop),v=.slice a c.length cap/\vals.length=c.length*sz/\(∀j u,vals[j]?=some u->∃b o,a=some ⟨b,o,none⟩/\w.cell? ⟨b,o+j,none⟩=some u)/\(∀i j (hi:i<c.length)(hj:j<c[i].length),jD w F (f i j) c[i][j] (vals.getD (i*sz+j) undef))/\(∀i j k,f i j k->i<c.length/\j<sz/\fp k)/\(∀i j i' j' k,f i j k->f i' j' k->i=i'/\j=j')/\(∀u∈vals,u.oneCell'=true)/\(∀i j b o,a=some ⟨b,o,none⟩->t=.ow c->¬f i j b):=by
 have mk:∀(u:Nat->Nat->Value)(f:Nat->Nat->Nat->Prop),(∀i j (hi:i<c.length)(hj:j<c[i].length),jD w F (f i j) c[i][j] (u i j))->∃vals:w_,vals.length=c.length*sz/\(∀i j,i<c.length->j<sz->vals[i*sz+j]?=some (u i j))/\(∀k x,vals[k]?=some x->∃i j,i<c.length/\j<sz/\k=i*sz+j/\x=u i j)/\(∀x∈vals,x.oneCell'=true):=by
  intro u f hr;have h0:∀k,k<c.length*sz->0<sz:=λk hk=>by rcases Nat.eq_zero_or_pos sz with h|h;rw[h]at hk;simp at hk;exact h
  have hdiv:∀k,k<c.length*sz->k/sz<c.length:=λk hk=>Nat.div_lt_of_lt_mul (by rw[Nat.mul_comm];exact hk);have W7:∀k,k<c.length*sz->k%sz<sz:=λk hk=>Nat.mod_lt _ (h0 k hk);refine⟨(List.range (c.length*sz)).map λk=>u (k/sz) (k%sz),by simp,λi j hi hj=>?_,λk x hk=>?_,λx hx=>?_⟩;have hlt:i*sz+j<c.length*sz:=by
   calc i*sz+j<i*sz+sz:=by omega
    _=(i+1)*sz:=by rw[Nat.succ_mul]
    _<=c.length*sz:=Nat.mul_le_mul_right _ hi
  have e1:(i*sz+j)/sz=i:=by rw[Nat.mul_comm,Nat.mul_add_div (by omega)];simp[Nat.div_eq_of_lt hj]
  have e2:(i*sz+j)%sz=j:=by rw[Nat.mul_comm,Nat.mul_add_mod];exact Nat.mod_eq_of_lt hj
  simp[List.getElem?_range hlt,e1,e2];rw[oGP]at hk;rcases Nat.lt_or_ge k (c.length*sz)with h|h;rw[List.getElem?_range h]at hk;simp at hk;exact⟨k/sz,k%sz,hdiv k h,W7 k h,by rw[Nat.mul_comm];exact(Nat.div_add_mod k sz).symm,hk.symm⟩;rw[oGN (by simpa using h)]at hk;simp at hk;obtain⟨k,hk,rfl⟩:=List.mem_map.1 hx;have hk:=List.mem_range.1 hk;exact(hr _ _ (hdiv k hk) (by rw[hs _ (hdiv k hk)];exact W7 k hk)).one
 rcases ht with rfl|rfl;cases h with
 | @nil _ ad hfp=>exact⟨ad,0,[],λ_ _ _=>False,rfl,by simp,by simp,by simp,by simp,by simp,by simp,by simp⟩| @ow _ _ b cap cur e sz' u f hfp hb hsz hcap hz0 hmax hcur hcell hrec hnb hdis=>
  obtain⟨vals,v1,v2,v3,v4⟩:=mk u f hrec;refine⟨some ⟨b,0,none⟩,cap,vals,λi j k=>i<c.length/\j<sz/\f i j k,rfl,v1,λk x hk=>?_,λi j hi hj=>?_,λi j k hk=>?_,λi j i' j' k h h'=>hdis _ _ _ _ k h.2.2 h'.2.2,v4,λi j b' o e _ h=>by injection e with e;injection e with e;subst e;exact hnb i j h.2.2⟩;obtain⟨i,j,hi,hj,rfl,rfl⟩:=v3 k x hk;have e1:sz'=sz:=by rw[<- hsz i hi,hs i hi]
  subst e1;refine⟨b,0,rfl,?_⟩;rw[cell_of_row w b _ _ _ _ hb,Nat.zero_add];exact hcell i j hi hj;have ZO:j<sz:=by rw[<- hs i hi];exact hj
  have:vals.getD (i*sz+j) undef=u i j:=by rw[oGD,v2 i j hi ZO];rfl
  rw[this];exact(hrec i j hi hj).refp λk=>⟨λh=>⟨hi,ZO,h⟩,λh=>h.2.2⟩;refine⟨hk.1,hk.2.1,(hfp k).2 (.inr ⟨i,j,hk.1,?_,hk.2.2⟩)⟩;rw[<- hsz i hk.1,hs i hk.1];exact hk.2.1
 cases h with
 |sl hfp h=>
 cases h with
 | @sl _ a cap sz' u hsz hcap hmax hnil hcell hrec=>
 obtain⟨vals,v1,v2,v3,v4⟩:=mk u (λ_ _ _=>False) (λi j hi hj=>(hrec i j hi hj).toOwn);refine⟨a,cap,vals,λ_ _ _=>False,rfl,v1,λk x hk=>?_,λi j hi hj=>?_,λi j k hk=>hk.elim,λi j i' j' k h _=>h.elim,v4,λi j b o _ _ h=>h.elim⟩;obtain⟨i,j,hi,hj,rfl,rfl⟩:=v3 k x hk;have e1:sz'=sz:=by rw[<- hsz i hi,hs i hi]
 subst e1;have ⟨b,o,e,_,hc⟩:=hcell i j hi hj;exact⟨b,o,e,hc⟩;have ZO:j<sz:=by rw[<- hs i hi];exact hj
 have:vals.getD (i*sz+j) undef=u i j:=by rw[oGD,v2 i j hi ZO];rfl
 rw[this];exact(hrec i j hi hj).toOwn
theorem jD.build{c:o_}{b cap:Nat}{cur:s_}{e:TypeId}{sz:Nat}{vals:w_}{f:Nat->Nat->Nat->Prop}(hb:w.heap[b]?=some (.cells cur e (0,0))) (hs:∀i (h:i<c.length),c[i].length=sz)(hcap:c.length<=cap)(hz0:c.length=0->cap=0)(hmax:cap<=maxLen)(hcur:cur.size=cap*sz)(hv:vals.length=c.length*sz)(htake:cur.toList.take (c.length*sz)=vals) (hrec:∀i j (hi:i<c.length)(hj:j<c[i].length),jD w F (f i j) c[i][j] (vals.getD (i*sz+j) undef))(hnb:∀i j,¬f i j b)(hdis:∀i j i' j' k,f i j k->f i' j' k->i=i'/\j=j'):jD w F (λk=>k=b\/∃i j,i<c.length/\j<sz/\f i j k) (.ow c) (.slice (some ⟨b,0,none⟩) c.length cap):=by
 refine .ow sz (λi j=>vals.getD (i*sz+j) undef) f (λk=>Iff.rfl) hb hs hcap hz0 hmax hcur (λi j hi hj=>?_) hrec hnb hdis;have hlt:i*sz+j<c.length*sz:=by
  calc i*sz+j<i*sz+sz:=by omega
   _=(i+1)*sz:=by rw[Nat.succ_mul]
   _<=c.length*sz:=Nat.mul_le_mul_right _ hi
 have e1:vals[i*sz+j]?=cur.toList[i*sz+j]?:=by rw[<- htake,List.getElem?_take_of_lt hlt]
 have hlt2:i*sz+j<vals.length:=by omega
 rw[oGD,oGE hlt2,Option.getD_some,<- oGE hlt2,e1];simp
end
theorem Ao{P:Program}(w:World)(t ty e e':TypeId)(i:TypeInfo)(ht:P.underlying t=some (.slice e))(hi:P.info? e=some i) (g Xf sCap:Nat)(cur:s_)(hg:w.heap[g]?=some (.cells cur e' (0,0))) (a:Addr)(m c:Nat)(news:w_)(hl:news.length=m*i.size)(WS:∀j u,news[j]?=some u->w.cell? (a.add j)=some u)(h1:∀u∈news,u.oneCell'=true) (hroom:Xf+m<=sCap)(Z2:Xf*i.size+news.length<=cur.size):(Builtin.append_ #[t,t] ty #[.slice (some ⟨g,0,none⟩) Xf sCap,.slice (some a) m c]).run P w =.ok (.slice (some ⟨g,0,none⟩) (Xf+m) sCap) (w.setRow g (cur.toList.take (Xf*i.size)++news++cur.toList.drop (Xf*i.size+news.length)).toArray):=by have hf:=run_firstCells_some (P:=P) w i.size m a m c news hl WS;have hst:=run_storeCells_at P g (Xf*i.size) e' news 0 cur w hg (by omega) h1;simp[Builtin.append_,run_underlying ht,sizeOf,typeInfo,hi,Builtin.lenOf,hroom,hf,Addr.add_lit,hst]
theorem Bi{P:Program}(w:World)(t ty e:TypeId)(i:TypeInfo)(ht:P.underlying t=some (.slice e))(hi:P.info? e=some i) (s:t_)(n cap:Nat)(hn:n<=cap)(a:t_)(c:Nat):(Builtin.append_ #[t,t] ty #[.slice s n cap,.slice a 0 c]).run P w=.ok (.slice s n cap) w:=by cases s<;>cases a<;>simp[Builtin.append_,run_underlying ht,sizeOf,typeInfo,hi,Builtin.lenOf,hn,Builtin.firstCells,loadCells,loadCellsFrom,storeCells]
section
variable {M:Fm} {σ σ':St} {H:U_} {xs:w_} {ts:s_} {w:World} {G:Gh}
theorem iZ(b o j:Nat):(⟨b,o,none⟩:Addr).add j=⟨b,o+j,none⟩:=by unfold Addr.add;split;simp_all;rfl
theorem OZ{c c2:o_}{i j:Nat}(hi:i<(c++c2).length)(hj:j<(c++c2)[i].length):(∃(h:i<c.length)(h':j<c[i].length),(c++c2)[i][j]=c[i][j])\/(¬i<c.length/\∃(h:i-c.length<c2.length)(h':j<c2[i-c.length].length),(c++c2)[i][j]=c2[i-c.length][j]):=by
 by_cases h:i<c.length;left;refine⟨h,by simp_all,?_⟩;simp_all;right;have hlt:i-c.length<c2.length:=by rw[oLA]at hi;omega
 have e:(c++c2)[i]=c2[i-c.length]:=by simp_all
 refine⟨h,hlt,by simp_all,?_⟩;simp_all
structure Src (w:World)(F:Nat->Prop)(A:Nat->Prop)(c2:o_)(sz:Nat)(aX:t_)(news:w_)(g:Nat->Nat->Nat->Prop):Prop where
 nl:news.length=c2.length*sz
 nr:∀j u,news[j]?=some u->∃b o,aX=some ⟨b,o,none⟩/\w.cell? ⟨b,o+j,none⟩=some u
 rec_:∀i j (hi:i<c2.length)(hj:j<c2[i].length),jD w F (g i j) c2[i][j] (news.getD (i*sz+j) undef)
 fp:∀i j k,g i j k->i<c2.length/\j<sz/\A k
 dis:∀i j i' j' k,g i j k->g i' j' k->i=i'/\j=j'
 one:∀u∈news,u.oneCell'=true
structure V9 (w:World)(F:Nat->Prop)(A:Nat->Prop)(c2:o_)(sz:Nat)(news:w_)(g:Nat->Nat->Nat->Prop):Prop where
 nl:news.length=c2.length*sz
 rec_:∀i j (hi:i<c2.length)(hj:j<c2[i].length),jD w F (g i j) c2[i][j] (news.getD (i*sz+j) undef)
 fp:∀i j k,g i j k->i<c2.length/\j<sz/\A k
 dis:∀i j i' j' k,g i j k->g i' j' k->i=i'/\j=j'
 one:∀u∈news,u.oneCell'=true
theorem Inv.append1{P:Program}(hI:Inv M σ H xs ts w G){c c2:o_}{vS:Value}{news:w_}{g:Nat->Nat->Nat->Prop}(e:TypeId)(i:TypeInfo)(z:Value)(prog:Sem Value)
 (Y2:jD w (G.F M.A) (G.φ M.hr 0) (.ow c) vS)(hX:V9 w (G.F M.A) (G.φ M.hr 1) c2 i.size news g)(hzs:z.cells.size=i.size)
 (hs1:∀k (h:k<c.length),c[k].length=i.size)(YV:∀k (h:k<c2.length),c2[k].length=i.size)(ZI:c.length+c2.length<=1099511627776)
 (r0:c2.length=0->∀a cap,c.length<=cap->vS=.slice a c.length cap->prog.run P w=.ok (.slice a c.length cap) w)
 (r1:0<c2.length->∀b cap cur e',vS=.slice (some ⟨b,0,none⟩) c.length cap->w.heap[b]?=some (.cells cur e' (0,0))->c.length+c2.length<=cap->c.length*i.size+news.length<=cur.size ->
  prog.run P w=.ok (.slice (some ⟨b,0,none⟩) (c.length+c2.length) cap) (w.setRow b (cur.toList.take (c.length*i.size)++news++cur.toList.drop (c.length*i.size+news.length)).toArray))
 (r2:0<c2.length->∀a cap (vals:w_),vS=.slice (some a) c.length cap->vals.length=c.length*i.size->(∀j u,vals[j]?=some u->w.cell? (a.add j)=some u)->cap<c.length+c2.length ->
  prog.run P w=.ok (.slice (some ⟨w.heap.size,0,none⟩) (c.length+c2.length) (grownCap w (c.length+c2.length) cap e)) (w.drew.alloc (.cells (vals.toArray++news.toArray++Builtin.zeroCells z.cells (grownCap w (c.length+c2.length) cap e-(c.length+c2.length))) e)))
 (r3:0<c2.length->vS=.slice none 0 0->prog.run P w=.ok (.slice (some ⟨w.heap.size,0,none⟩) c2.length (grownCap w c2.length 0 e)) (w.drew.alloc (.cells (news.toArray++Builtin.zeroCells z.cells (grownCap w c2.length 0 e-c2.length)) e))):
 ∃v' w' G',prog.run P w=.ok v' w'/\Inv M σ [.ow (c++c2)] [v'] ts w' G'/\nA M w σ H G w' σ [.ow (c++c2)] G'/\G'.β=G.β:=by
 obtain⟨XG,YU,YK,X2,Wz⟩:=hX
 have Wy:c.length+c2.length<=maxLen:=by unfold maxLen;omega
 have h01:∀k,G.φ M.hr 0 k->¬G.φ M.hr 1 k:=λk h h'=>by have:=(hI.core.dis _ _ _ _ k h h').2;omega
 by_cases hm:c2.length=0
 ·have ZJ:c2=[]:=oEN hm;subst ZJ;obtain⟨a,cap,rfl,hn⟩:=Y2.hdr
  obtain⟨G',h1,h2,h3⟩:=hI.rehand (w':=w) (t':=.ow c) (v':=.slice a c.length cap) (fp':=G.φ M.hr 0) (λ_ _ _=>rfl) (oLE _) rfl rfl rfl (λk hk=>.inl ⟨0,hk⟩)
   (Y2.frame (λ_ _=>rfl) (λ_ _ _=>rfl) λk h hk=>⟨h,hk⟩)
  exact⟨_,w,G',r0 (by rfl) a cap hn rfl,by simpa using h1,by simpa using h2,h3⟩
 ·
  have P':∀k (h:k<(c++c2).length),(c++c2)[k].length=i.size:=by
   intro k h;by_cases hk:k<c.length
   ·rw[List.getElem_append_left hk];exact hs1 k hk
   ·rw[List.getElem_append_right (by omega)];exact YV _ _
  have hla:(c++c2).length=c.length+c2.length:=oLA
  have newRow:∀(vals:w_)(f:Nat->Nat->Nat->Prop)(ZP:Nat)(rest:s_),vals.length=c.length*i.size->c.length+c2.length<=ZP->ZP<=maxLen->rest.size=(ZP-(c.length+c2.length))*i.size ->
   (∀k j (hk:k<c.length)(hj:j<c[k].length),jD w (G.F M.A) (f k j) c[k][j] (vals.getD (k*i.size+j) undef))->(∀k j q,f k j q->k<c.length/\j<i.size/\G.φ M.hr 0 q)->(∀a b a' b' k,f a b k->f a' b' k->a=a'/\b=b')->
   ∃G',Inv M σ [.ow (c++c2)] [.slice (some ⟨w.heap.size,0,none⟩) (c.length+c2.length) ZP] ts (w.drew.alloc (.cells (vals.toArray++news.toArray++rest) e)) G' /\
    nA M w σ H G (w.drew.alloc (.cells (vals.toArray++news.toArray++rest) e)) σ [.ow (c++c2)] G'/\G'.β=G.β:=by
   intro vals f ZP rest YR hcap' hmax' ZR hfrec hffp hfdis;have hw:∀k,k<w.heap.size->(w.drew.alloc (.cells (vals.toArray++news.toArray++rest) e)).heap[k]?=w.heap[k]?:=λk hk=>Below.heap_alloc w.drew _ k hk
   have Zm:(w.drew.alloc (.cells (vals.toArray++news.toArray++rest) e)).heap[w.heap.size]?=some (.cells (vals.toArray++news.toArray++rest) e (0,0)):=by
    show(w.heap.push _)[w.heap.size]?=_;simp
   have hvn:(vals++news).length=(c++c2).length*i.size:=by rw[oLA,YR,XG,hla,Nat.add_mul]
   refine hI.rehand (λk hk _=>hw k hk) (by simp) rfl rfl rfl (λk hk=>?_) (hla▸jD.build (vals:=vals++news) (f:=λa b k=>if a<c.length then f a b k else g (a-c.length) b k) Zm P' (by rw[hla];exact hcap') (by rw[hla];omega) hmax' ?_ hvn ?_ ?_ ?_ ?_)
   ·rcases hk with rfl|⟨a,b,_,_,hk⟩
    ·exact .inr (oLE _)
    ·left;split at hk
     ·exact⟨0,(hffp _ _ k hk).2.2⟩
     ·exact⟨1,(YK _ _ k hk).2.2⟩
   ·simp only[Array.size_append,List.size_toArray,YR,XG,ZR,<- Nat.add_mul];congr 1;omega
   ·rw[<- hvn];simp only[Array.toList_append,List.append_assoc];rw[<- List.append_assoc];exact List.take_left
   ·intro a b ha hb
    rcases OZ ha hb with⟨h,h',e1⟩|⟨h,h2,h',e1⟩
    ·rw[e1];simp only[oIP h]
     have e2:(vals++news).getD (a*i.size+b) undef=vals.getD (a*i.size+b) undef:=by
      have hlt:a*i.size+b<vals.length:=by
       rw[YR];have:=hs1 a h
       calc a*i.size+b<a*i.size+i.size:=by omega
        _=(a+1)*i.size:=by rw[Nat.succ_mul]
        _<=c.length*i.size:=Nat.mul_le_mul_right _ h
      simp only[oGD,oAL hlt]
     rw[e2];exact(hfrec a b h h').frame (λk hk=>hw k (hI.core.live (hffp _ _ k hk).2.2)) (λk _ hk=>hw k hk) (λk hF hk=>⟨hF,hk⟩)
    ·rw[e1];simp only[oIN h]
     have e2:(vals++news).getD (a*i.size+b) undef=news.getD ((a-c.length)*i.size+b) undef:=by
      have e3:(a-c.length)*i.size+b=a*i.size+b-c.length*i.size:=by
       rw[Nat.sub_mul];have:c.length*i.size<=a*i.size:=Nat.mul_le_mul_right _ (by omega);omega
      have hge:vals.length<=a*i.size+b:=by
       rw[YR];have:c.length*i.size<=a*i.size:=Nat.mul_le_mul_right _ (by omega);omega
      simp only[oGD,oAR hge,YR,e3]
     rw[e2];exact(YU _ b h2 h').frame (λk hk=>hw k (hI.core.live (YK _ _ k hk).2.2)) (λk _ hk=>hw k hk) (λk hF hk=>⟨hF,hk⟩)
   ·intro a b hk;split at hk
    ·have:=hI.core.live (hffp _ _ _ hk).2.2;omega
    ·have:=hI.core.live (YK _ _ _ hk).2.2;omega
   ·intro a b a' b' k h h';split at h<;>split at h'
    ·exact hfdis _ _ _ _ k h h'
    ·exact absurd (YK _ _ k h').2.2 (h01 k (hffp _ _ k h).2.2)
    ·exact absurd (YK _ _ k h).2.2 (h01 k (hffp _ _ k h').2.2)
    ·have:=X2 _ _ _ _ k h h';omega
  cases Y2 with
  | @nil _ ad hfp=>
   cases ad with
   |some ad=>
    have hr:=r2 (by omega) ad 0 [] rfl (by simp) (by simp) (by simp;omega);have hge:=grownCap_ge w (0+c2.length) 0 e;have hcm:=grownCap_le_maxLen w (0+c2.length) 0 e (by simpa using Wy);obtain⟨G',h1,h2,h3⟩:=newRow [] (λ_ _ _=>False) (grownCap w (0+c2.length) 0 e) (Builtin.zeroCells z.cells (grownCap w (0+c2.length) 0 e-(0+c2.length))) (by simp) (by simpa using hge) hcm (by simp[size_zeroCells,hzs]) (by simp) (by simp) (by simp);simp only[oLN]at hr;exact⟨_,_,G',hr,h1,h2,h3⟩
   |none=>
    have hr:=r3 (by omega) rfl;have hge:=grownCap_ge w c2.length 0 e;have hcm:=grownCap_le_maxLen w c2.length 0 e (by simpa using Wy);obtain⟨G',h1,h2,h3⟩:=newRow [] (λ_ _ _=>False) (grownCap w c2.length 0 e) (Builtin.zeroCells z.cells (grownCap w c2.length 0 e-c2.length)) (by simp) (by simpa using hge) hcm (by simp[size_zeroCells,hzs]) (by simp) (by simp) (by simp);simp only[oLN,Nat.zero_add,Array.empty_append]at h1 h2;exact⟨_,_,G',hr,by simpa using h1,by simpa using h2,h3⟩
  | @ow _ _ b cap cur e' sz u f hfp hb hsz hcap hz0 hmax hcur hcell hrec hnb hdis=>
   have hOW:jD w (G.F M.A) (G.φ M.hr 0) (.ow c) (.slice (some ⟨b,0,none⟩) c.length cap):=.ow sz u f hfp hb hsz hcap hz0 hmax hcur hcell hrec hnb hdis;by_cases hroom:c.length+c2.length<=cap
   ·
    have W6:c.length≠0:=λh=>by have:=hz0 h;omega
    have O':sz=i.size:=by rw[<- hsz 0 (by omega),hs1 0 (by omega)]
    subst O';obtain⟨a',cap2,vals,f',e1,YR,hvr,Wi,Wg,U',Ws,hvnb0⟩:=hOW.rows (.inl rfl) hs1
    injection e1 with e1 _ e2
    subst e1;subst e2;have hvnb:∀i j,¬f' i j b:=λi j=>hvnb0 i j b 0 rfl rfl
    have Z2:c.length*i.size+news.length<=cur.size:=by rw[XG,hcur,<- Nat.add_mul];exact Nat.mul_le_mul_right _ hroom
    have hr:=r1 (by omega) b cap cur e' rfl hb hroom Z2
    have X6:cur.toList.take (c.length*i.size)=vals:=by
     apply oEG;intro k;by_cases hk:k<c.length*i.size
     ·rw[List.getElem?_take_of_lt hk]
      have X':k<vals.length:=by omega
      obtain⟨b',o',e3,e4⟩:=hvr k _ (oGE X')
      injection e3 with e3;injection e3 with e3 e5;subst e3;subst e5
      rw[cell_of_row w b _ _ _ _ hb,Nat.zero_add]at e4;rw[oGE X',<- e4];simp
     ·rw[oGN (by simp;omega),oGN (by omega)]
    have hw:∀k,k≠b->(w.setRow b (cur.toList.take (c.length*i.size)++news++cur.toList.drop (c.length*i.size+news.length)).toArray).heap[k]?=w.heap[k]?:=λk hk=>setRow_other w b k _ hk;have hbφ:G.φ M.hr 0 b:=(hfp b).2 (.inl rfl);have Zm:=setRow_heap w b cur (cur.toList.take (c.length*i.size)++news++cur.toList.drop (c.length*i.size+news.length)).toArray e' (0,0) hb
    have hvn:(vals++news).length=(c++c2).length*i.size:=by rw[oLA,YR,XG,hla,Nat.add_mul]
    refine Exists.elim (?_:∃G',Inv M σ [.ow (c++c2)] [.slice (some ⟨b,0,none⟩) (c++c2).length cap] ts (w.setRow b (cur.toList.take (c.length*i.size)++news++cur.toList.drop (c.length*i.size+news.length)).toArray) G' /\
     nA M w σ H G (w.setRow b (cur.toList.take (c.length*i.size)++news++cur.toList.drop (c.length*i.size+news.length)).toArray) σ [.ow (c++c2)] G'/\G'.β=G.β) λG' ⟨h1,h2,h3⟩=>⟨_,_,G',by rw[hla]at h1;rw[show(Value.slice (some ⟨b,0,none⟩) (c.length+c2.length) cap)=_ from rfl]at h1;exact hr,by simpa[hla]using h1,h2,h3⟩
    refine hI.rehand (t':=.ow (c++c2)) (v':=.slice (some ⟨b,0,none⟩) (c++c2).length cap) (w':=w.setRow b (cur.toList.take (c.length*i.size)++news++cur.toList.drop (c.length*i.size+news.length)).toArray)
     (λk _ hk=>hw k λe=>hk 0 (e▸hbφ)) (by simp) rfl rfl rfl (λk hk=>?_) (jD.build (vals:=vals++news) (f:=λa b k=>if a<c.length then f' a b k else g (a-c.length) b k) Zm P' (by rw[hla];exact hroom) (by rw[hla];omega) hmax ?_ hvn ?_ ?_ ?_ ?_)
    ·rcases hk with rfl|⟨a,d,_,_,hk⟩
     ·exact .inl ⟨0,hbφ⟩
     ·left;split at hk
      ·exact⟨0,(Wg _ _ k hk).2.2⟩
      ·exact⟨1,(YK _ _ k hk).2.2⟩
    ·simp only[List.size_toArray,oLA,oLT,List.length_drop,Array.length_toList];omega
    ·rw[<- hvn,X6];exact List.take_left
    ·intro a d ha hd
     rcases OZ ha hd with⟨h,h',e1⟩|⟨h,h2,h',e1⟩
     ·rw[e1];simp only[oIP h]
      have e2:(vals++news).getD (a*i.size+d) undef=vals.getD (a*i.size+d) undef:=by
       have hlt:a*i.size+d<vals.length:=by
        rw[YR];have:=hs1 a h
        calc a*i.size+d<a*i.size+i.size:=by omega
         _=(a+1)*i.size:=by rw[Nat.succ_mul]
         _<=c.length*i.size:=Nat.mul_le_mul_right _ h
       simp only[oGD,oAL hlt]
      rw[e2];refine(Wi a d h h').frame (λk hk=>hw k λe=>?_) (λk hF _=>hw k λe=>hF.2.1 _ _ (e▸hbφ)) (λk hF hk=>⟨hF,hk⟩);exact hvnb _ _ (e▸hk)
     ·rw[e1];simp only[oIN h]
      have e2:(vals++news).getD (a*i.size+d) undef=news.getD ((a-c.length)*i.size+d) undef:=by
       have e3:(a-c.length)*i.size+d=a*i.size+d-c.length*i.size:=by
        rw[Nat.sub_mul];have:c.length*i.size<=a*i.size:=Nat.mul_le_mul_right _ (by omega);omega
       have hge:vals.length<=a*i.size+d:=by
        rw[YR];have:c.length*i.size<=a*i.size:=Nat.mul_le_mul_right _ (by omega);omega
       simp only[oGD,oAR hge,YR,e3]
      rw[e2];refine(YU _ d h2 h').frame (λk hk=>hw k λe=>?_) (λk hF _=>hw k λe=>hF.2.1 _ _ (e▸hbφ)) (λk hF hk=>⟨hF,hk⟩);exact h01 b hbφ (e▸(YK _ _ k hk).2.2)
    ·intro a d hk;split at hk
     ·exact hvnb _ _ hk
     ·exact h01 b hbφ (YK _ _ _ hk).2.2
    ·intro a d a' d' k h h';split at h<;>split at h'
     ·exact U' _ _ _ _ k h h'
     ·exact absurd (YK _ _ k h').2.2 (h01 k (Wg _ _ k h).2.2)
     ·exact absurd (YK _ _ k h).2.2 (h01 k (Wg _ _ k h').2.2)
     ·have:=X2 _ _ _ _ k h h';omega
   ·obtain⟨a',cap2,vals,f',e1,YR,hvr,Wi,Wg,U',Ws,_⟩:=hOW.rows (.inl rfl) hs1
    injection e1 with e1 _ e2
    subst e1;subst e2
    have A':∀j u,vals[j]?=some u->w.cell? ((⟨b,0,none⟩:Addr).add j)=some u:=λj u hj=>by
     obtain⟨b',o',e1,e2⟩:=hvr j u hj
     injection e1 with e1;injection e1 with e1 e3;subst e1;subst e3
     rw[iZ];exact e2
    have hr:=r2 (by omega) ⟨b,0,none⟩ cap vals rfl YR A' (by omega);have hge:=grownCap_ge w (c.length+c2.length) cap e;have hcm:=grownCap_le_maxLen w (c.length+c2.length) cap e Wy;obtain⟨G',h1,h2,h3⟩:=newRow vals f' (grownCap w (c.length+c2.length) cap e) (Builtin.zeroCells z.cells (grownCap w (c.length+c2.length) cap e-(c.length+c2.length))) YR hge hcm (by simp[size_zeroCells,hzs]) Wi Wg U';exact⟨_,_,G',hr,h1,h2,h3⟩
theorem Inv.append0{P:Program}(hI:Inv M σ H xs ts w G){c c2:o_}{vS:Value}{aX:t_}{capX:Nat}{news:w_}{g:Nat->Nat->Nat->Prop}(t ty e:TypeId)(i:TypeInfo)(z:Value) (Y2:jD w (G.F M.A) (G.φ M.hr 0) (.ow c) vS)(hX:Src w (G.F M.A) (G.φ M.hr 1) c2 i.size aX news g) (ht:P.underlying t=some (.slice e))(hi:P.info? e=some i)(hz:i.zero=some z)(hzs:z.cells.size=i.size)(ZX:0<i.size) (hs1:∀k (h:k<c.length),c[k].length=i.size)(YV:∀k (h:k<c2.length),c2[k].length=i.size)(ZI:c.length+c2.length<=1099511627776)(ZS:(c.length+c2.length)*i.bytes<=140737488355328):∃v' w' G',(Builtin.append_ #[t,t] ty #[vS,.slice aX c2.length capX]).run P w=.ok v' w'/\Inv M σ [.ow (c++c2)] [v'] ts w' G'/\nA M w σ H G w' σ [.ow (c++c2)] G'/\G'.β=G.β:=by
 obtain⟨XG,hnr,YU,YK,X2,Wz⟩:=hX;have Wy:c.length+c2.length<=maxLen:=by unfold maxLen;omega
 have Os:0<c2.length->∃bX oX,aX=some ⟨bX,oX,none⟩/\∀j u,news[j]?=some u->w.cell? ((⟨bX,oX,none⟩:Addr).add j)=some u:=λhm=>by
  have hnpos:0<news.length:=by rw[XG];exact Nat.mul_pos hm ZX
  obtain⟨bX,oX,rfl,_⟩:=hnr 0 _ (oGE hnpos);refine⟨bX,oX,rfl,λj u hj=>?_⟩;obtain⟨b',o',e1,e2⟩:=hnr j u hj;injection e1 with e1;injection e1 with e1 e3;subst e1;subst e3
  rw[iZ];exact e2
 refine hI.append1 e i z _ Y2 ⟨XG,YU,YK,X2,Wz⟩ hzs hs1 YV ZI (λhm a cap hn ev=>?_) (λhm b cap cur e' ev hb hroom Z2=>?_) (λhm a cap vals ev YR A' hg=>?_) (λhm ev=>?_);subst ev;rw[hm];exact Bi w t ty e i ht hi a c.length cap hn aX capX;subst ev;obtain⟨bX,oX,rfl,zl⟩:=Os hm;exact Ao (P:=P) w t ty e e' i ht hi b c.length cap cur hb ⟨bX,oX,none⟩ c2.length capX news XG zl Wz hroom Z2;subst ev;obtain⟨bX,oX,rfl,zl⟩:=Os hm;exact run_append_grow (P:=P) w t ty e i z ht hi hz a c.length cap vals YR A' ⟨bX,oX,none⟩ c2.length capX news XG zl hg (by unfold maxLen at Wy;omega) (growslice_fits hg ZS);subst ev;obtain⟨bX,oX,rfl,zl⟩:=Os hm;exact run_append_nil (P:=P) w t ty e i z ht hi hz ⟨bX,oX,none⟩ c2.length capX news XG zl hm (by unfold maxLen at Wy;omega) (by have:c2.length*i.bytes<=(c.length+c2.length)*i.bytes:=Nat.mul_le_mul_right _ (by omega);omega)
theorem Inv.append{P:Program}(hI:Inv M σ H xs ts w G){c c2:o_}{X:TV}{vS vX:Value}(hH:H=[.ow c,X])(hxs:xs=[vS,vX])(hX:X=.ow c2\/X=.sl c2)(t ty e:TypeId)(i:TypeInfo)(z:Value) (ht:P.underlying t=some (.slice e))(hi:P.info? e=some i)(hz:i.zero=some z)(hzs:z.cells.size=i.size)(ZX:0<i.size) (hs1:∀k (h:k<c.length),c[k].length=i.size)(YV:∀k (h:k<c2.length),c2[k].length=i.size)(ZI:c.length+c2.length<=1099511627776)(ZS:(c.length+c2.length)*i.bytes<=140737488355328):∃v' w' G',(Builtin.append_ #[t,t] ty #[vS,vX]).run P w=.ok v' w'/\Inv M σ [.ow (c++c2)] [v'] ts w' G'/\nA M w σ H G w' σ [.ow (c++c2)] G'/\G'.β=G.β:=by have Y2:=hI.hand_own (j:=0) (by simp_all) (by simp[hH]);have hownX:=hI.hand_own (j:=1) (by simp_all) (by rcases hX with h|h<;>simp[hH,h]);simp only[hH,hxs,List.getElem_cons_zero,List.getElem_cons_succ]at Y2 hownX;obtain⟨aX,capX,news,g,rfl,XG,hnr,YU,YK,X2,Wz,_⟩:=hownX.rows hX YV;exact hI.append0 t ty e i z Y2 ⟨XG,hnr,YU,YK,X2,Wz⟩ ht hi hz hzs ZX hs1 YV ZI ZS
end
def takeV(mv:Bool):TV->SP (U_×Bool)|.agg l=>(takeL mv l).bind λl'=>.ret (l',true)|t=>(take1 mv t).bind λt'=>.ret ([t'],false)
def wr(d:Nat)(t:TV):SP Unit:=.wrT d t (.ret ())
def td(agg:Bool)(l:U_):TV:=if agg then .agg l else l.headD .dead
def inst(d:Nat)(agg:Bool)(l:U_):SP Unit:=(names d l).bind λl'=>wr d (td agg l')
abbrev x_:=Option Nat
def loadIp(n:x_)(cs:U_):Option TV:=
 match n with
 |none=>match cs with|.v x::_=>some (.v x)|.sl c::_=>some (.sl c)|.ip l::_=>some (.ip l)|.fn f l::_=>some (.fn f l)|_=>none
 |some n=>if n<=cs.length&&(cs.take n).all (λt=>match t with|.v _=>true|.sl _=>true|_=>false)then some (.agg (cs.take n))else none
def is:TV->Bool|.v _=>true|.sl _=>true|.ow []=>true|_=>false
abbrev e_:=List (Nat×Nat×Opd)
def takeParts(mv:Bool):e_->SP U_| []=>.ret []|(_,n,x)::r=>(opd x).bind λt=>(takeL mv (rK t)).bind λl=>if l.length=n then(takeParts mv r).bind λl'=>.ret (l++l')else .fail
def nJ(cells:U_)(off:Nat):U_->U_| []=>cells|t::r=>nJ (cells.set off t) (off+1) r
def sT(cells:U_):e_->U_->U_| [],_=>cells|(off,n,_)::r,l=>sT (nJ cells off (l.take n)) r (l.drop n)
def qf(sz:Nat):Nat->U_->o_|0,_=>[]|n+1,l=>l.take sz::qf sz n (l.drop sz)
def isV:TV->Bool|.v _=>true|_=>false
def contentOf:TV->SP o_
 |.sl c=>.ret c|.ow []=>.ret []|.pk p vs=>(chk p (p.hops.length+1) vs).bind λ_=>(getPl p).bind λt=>match t with|.ow c=>.ret c|_=>.fail
 |.pw p vs _ lo n=>(chk p (p.hops.length+1) vs).bind λ_=>(getPl p).bind λt=>match t with|.ow c=>.ret ((c.drop lo).take n)|_=>.fail
 |_=>.fail
def Ur{α β:Type}(f:α->SP β):List α->SP (List β)| []=>.ret []|x::r=>(f x).bind λy=>(Ur f r).bind λl=>.ret (y::l)
def zF(mx:Bool)(k:IntKind):Int->w_->Option Int|a,[]=>some a|a,.int k' b::r=>if k'=k then zF mx k (if mx then(if a<b then b else a)else(if b<a then b else a)) r else none|_,_=>none
def V8(i:Nat):x_×Opd->SP (TV×Option (gf×U_))
 |(none,x)=>(opd x).bind λt=>match t with|.fn f cap=>.ret (.fn f cap,none)|t=>(takeV false t).bind λl=>.ret (td l.2 l.1,none)
 |(some n,x)=>(opd x).bind λt=>match t with|.ptr p vs=>(chk p p.hops.length vs).bind λ_=>.ret (.ptr ⟨2*i+2,0,[]⟩ [0],some (p,List.replicate n .dead))|_=>.fail
def uR(s:ByteArray):o_:=s.data.toList.map λb=>[.v (.int .u8 b.toNat)]
abbrev M_:=List Int
def UT:o_->Option M_| []=>some []| [.v (.int .u8 n)]::r=>(UT r).map (n :: ·)|_=>none
def bstr(c:o_):Option ByteArray:=(UT c).map λns=>ns.foldl (λr n=>r.push (UInt8.ofNat n.toNat)) ByteArray.empty
def rD(sz:Nat):o_->Nat->w_->o_|c,_,[]=>c|c,o,v::r=>rD sz (c.modify (o/sz) λel=>el.modify (o%sz) λ_=>.v v) (o+1) r
def Rf(sz:Nat)(c c2:o_)(lo n:Nat):Option (Nat×Option o_):=
 match gJ (c2.take (min c2.length n)).flatten with
 |some []=>if decide (0<sz)&&c2.all (λe=>e.length==sz)then some (min c2.length n,none)else none|some (v::vs)=>if decide (0<sz)&&c.all (λe=>e.length==sz)&&c2.all (λe=>e.length==sz)&&decide (lo+min c2.length n<=c.length)&&((c.drop lo).take (min c2.length n)).all (λe=>e.all isV)&&(v::vs).all kn
  then some (min c2.length n,some (rD sz c (lo*sz) (v::vs)))else none
 |none=>none
def Gg(d:Nat)(p:gf)(tv:TV):Option (Nat×Option o_)->SP Unit|some (m,some c')=>.wrC p.root p.off (iH tv p.hops (.ow c')) (wr d (.v (.int .i64 m)))|some (m,none)=>wr d (.v (.int .i64 m))|none=>.fail
def DZ:TV->Bool|.pk _ _=>true|.pw _ _ _ _ _=>true|_=>false
def TF(d sz bytes:Nat)(s x:TV):SP Unit:=match s,x with|.ow c,.ow c2=>if(c++c2).all (λe=>e.length==sz)&&decide (c.length+c2.length<=1099511627776)&&decide ((c.length+c2.length)*bytes<=140737488355328)then inst d false [.ow (c++c2)]else .fail|.ow c,.sl c2=>if(c++c2).all (λe=>e.length==sz)&&decide (c.length+c2.length<=1099511627776)&&decide ((c.length+c2.length)*bytes<=140737488355328)then inst d false [.ow (c++c2)]else .fail|_,_=>.fail
def ev1(d:Nat):TOp->SP Unit
 |.mov x=>(opd x).bind λt=>match t with
  |.ow c=>(match x with|.c _=>inst d false [.ow c]|_=>.fail)
  |.agg l=>if l.any nM then .fail else wr d (.agg l)|t=>wr d t
 |.asn mv x=>(opd x).bind λt=>match t with|.ptr p vs=>wr d (.ptr p vs)|.ip cs=>wr d (.ip cs)|.fn f cap=>wr d (.fn f cap)|t=>(takeV mv t).bind λl=>inst d l.2 l.1
 |.pick c a b=>(opd c).bind λtc=>match tc with
  |.v (.bool c)=>(opd (if c then a else b)).bind λt=>match t with|.v x=>wr d (.v x)|_=>.fail
  |_=>.fail
 |.alloc z=>if(z.map iL).all is then .new (2*d+2) (z.map iL) (.rdV (2*d+2,0,0) λg=>wr d (.ptr ⟨2*d+2,0,[]⟩ [g]))else .fail|.box n mv x=>(opd x).bind λt=>(takeL mv (rK t)).bind λl=>if l.length=n then .new (2*d+2) l (.rdV (2*d+2,0,0) λg=>wr d (.ptr ⟨2*d+2,0,[]⟩ [g]))else .fail|.load n a=>(opd a).bind λt=>match t with
  |.ptr p vs=>(chk p p.hops.length vs).bind λ_=>match n with|none=>(peekP p).bind λt'=>wr d t'|some n=>(peekL p n).bind λl=>wr d (.agg l)
  |.ip cs=>match loadIp n cs with|some t=>wr d t|none=>.fail
  |_=>.fail
 |.store n mv a x=>(opd a).bind λta=>match ta with|.ptr p vs=>(opd x).bind λtx=>(takeL mv (rK tx)).bind λl=>if l.length=n then(chk p p.hops.length vs).bind λ_=>putL p l else .fail|_=>.fail
 |.nilc x=>(opd x).bind λt=>match t with|.ptr p vs=>(chk p p.hops.length vs).bind λ_=>wr d (.ptr p vs)|.ip cs=>wr d (.ip cs)|.fn f cap=>wr d (.fn f cap)|_=>.fail
 |.fld off a=>(opd a).bind λt=>match t with|.ptr p vs=>(chk p p.hops.length vs).bind λ_=>if p.fits off then wr d (.ptr (p.add off) vs)else .fail|.ip cs=>if off<cs.length then wr d (.ip (cs.drop off))else .fail|_=>.fail
 |.idx sz x i=>(opd x).bind λt=>(opd i).bind λti=>(natOf ti).bind λk=>match t with
  |.pk p vs=>(chk p (p.hops.length+1) vs).bind λ_=>(Tl p).bind λh=>match h with|some ls=>if k<ls.length&&ls.getD k 0==sz&&decide (0<sz)then wr d (.ptr (p.at_ k sz) vs)else .fail|none=>.fail
  |.pw p vs sz' lo n=>(chk p (p.hops.length+1) vs).bind λ_=>(getPl p).bind λt=>match t with|.ow c=>if k<n&&(c.getD (lo+k) []).length==sz&&sz'==sz&&decide (0<sz)then wr d (.ptr (p.at_ (lo+k) sz) vs)else .fail|_=>.fail
  |.sl c=>if k<c.length&&(c.getD k []).length==sz&&decide (0<sz)then wr d (.ip (c.getD k []))else .fail|_=>.fail
 |.ext x i=>(opd x).bind λt=>match t with|.tup l=>if i<l.length then wr d (l.getD i .dead)else .fail|_=>.fail
 |.bin op x y=>(opd x).bind λa=>(opd y).bind λb=>(yx a).bind λa=>(yx b).bind λb=>(qp (iY op a b)).bind λr=>if kn r then wr d (.v r)else .fail|.bnb neg x y=>(opd x).bind λa=>(opd y).bind λb=>(yx a).bind λa=>(yx b).bind λb=>match a,b with|.bool a,.bool b=>wr d (.v (.bool (if neg then !(a==b)else a==b)))|_,_=>.fail
 |.eqa ks neg x y=>(opd x).bind λa=>(opd y).bind λb=>match a,b with|.agg a,.agg b=>(qp (gJ a)).bind λxs=>(qp (gJ b)).bind λys=>(qp (gU ks xs ys)).bind λr=>wr d (.v (.bool (if neg then !r else r)))|_,_=>.fail
 |.un op x=>(opd x).bind λa=>(yx a).bind λa=>(qp (UH op a)).bind λr=>if kn r then wr d (.v r)else .fail|.conv k x=>(opd x).bind λa=>(yx a).bind λa=>match a with|.int _ n=>wr d (.v (.int k (k.wrap n)))|_=>.fail
 |.bld z mv parts=>if(z.map iL).all is then(takeParts mv parts).bind λl=>(names d l).bind λl'=>wr d (.agg (sT (z.map iL) parts l'))else .fail|.bsl sz mv len parts=>(takeParts mv (parts.map λp=>(0,sz,p))).bind λl=>if parts.length=len then inst d false [.ow (qf sz len l)]else .fail|.mks sz z l c=>if(z.map iL).all is&&z.length==sz then(opd l).bind λtl=>(opd c).bind λtc=>(natOf tl).bind λn=>(natOf tc).bind λm=>if n=m&&decide (n*sz<=16777216)then inst d false [.ow (List.replicate n (z.map iL))]else .fail else .fail|.slc sz x lo hi=>(opd x).bind λt=>(vE t).bind λn=>(optNat lo 0).bind λl=>(optNat hi n).bind λh=>if l<=h&&decide (h<=n)then
  match t with
  |.sl c=>if c.all (λe=>e.length==sz)then wr d (.sl ((c.drop l).take (h-l)))else .fail
  |.pk p vs=>(getPl p).bind λt=>match t with|.ow c=>if c.all (λe=>e.length==sz)then wr d (.pw p vs sz l (h-l))else .fail|_=>.fail
  |.pw p vs sz' lo' _=>if sz'=sz then wr d (.pw p vs sz (lo'+l) (h-l))else .fail
  |.ow []=>inst d false [.ow []]
  |_=>.fail
  else .fail
 |.app sz bytes mv fl s x=>(opd s).bind λts=>(opd x).bind λtx=>
  if fl && !mv&&DZ tx then(contentOf tx).bind λc2=>if c2.all (λe=>e.all isV)then(take1 true ts).bind λs=>TF d sz bytes s (.sl c2)else .fail
  else(take1 true ts).bind λs=>(take1 mv tx).bind λx=>TF d sz bytes s x
 |.len x=>(opd x).bind λt=>(vE t).bind λn=>wr d (.v (.int .i64 n))|.lens x=>(opd x).bind λt=>match t with|.v (.string s)=>wr d (.v (.int .i64 s.size))|_=>.fail
 |.ixs x i=>(opd x).bind λt=>(opd i).bind λti=>(natOf ti).bind λk=>match t with
  |.v (.string s)=>match s[k]? with|some b=>wr d (.v (.int .u8 b.toNat))|none=>.fail
  |_=>.fail
 |.mm mx xs=>(Ur (λx=>(opd x).bind yx) xs).bind λl=>match l with|.int k a::r=>(qp (zF mx k a r)).bind λm=>wr d (.v (.int k m))|_=>.fail
 |.idxa n sz x i=>(opd x).bind λt=>(opd i).bind λti=>(natOf ti).bind λk=>match t with|.ptr p vs=>(chk p p.hops.length vs).bind λ_=>if k<n&&p.fits (k*sz)then wr d (.ptr (p.add (k*sz)) vs)else .fail|_=>.fail
 |.s2b x=>(opd x).bind λt=>match t with|.v (.string s)=>if s.size<4294967296 then wr d (.sl (uR s))else .fail|_=>.fail
 |.cpy sz x y=>(opd x).bind λt=>(opd y).bind λu=>(contentOf u).bind λc2=>match t with
  |.pk p vs=>(chk p (p.hops.length+1) vs).bind λ_=>.rdC p.root p.off λtv=>match gE tv p.hops with|some (.ow c)=>Gg d p tv (Rf sz c c2 0 c.length)|_=>.fail
  |.pw p vs sz' lo n=>(chk p (p.hops.length+1) vs).bind λ_=>.rdC p.root p.off λtv=>match gE tv p.hops with|some (.ow c)=>if sz'=sz then Gg d p tv (Rf sz c c2 lo n)else .fail|_=>.fail
  |_=>.fail
 |.call _ _ _=>.fail
def fZ:Operand->Option Opd|.tmp t=>some (.t t)|.const v=>some (.c v)|.func f=>some (.f f)|.global _=>none
section
variable {P:Program} {M:Fm} {σ σ':St} {ts:s_} {w:World} {G:Gh} {a:Act} {o:Oper}
theorem w8{F:Nat->Prop}{V:Vs}{C:Cs}(x:Value):TmR w F V C G (iL x) x:=by unfold iL;split;exact .nil;split;rename_i h;exact .v h;exact .dead
theorem DU{F:Nat->Prop}{V:Vs}{C:Cs}(x:Value):TmR w F V C G (yO x) x:=by
 unfold yO;split;rename_i cs;refine .agg (by simp) λj hj=>?_;have ZO:j<cs.size:=by simp_all
 have e:cs.getD j undef=cs[j]:=by simp[ZO]
 rw[e];simp;exact w8 _;exact w8 _
theorem ij{F:Nat->Prop}(hI:∀i,TmR w F σ.v (gy M σ []) G (σ.t i) (a.tmps.getD i undef)){x:Opd}{x':Operand}(hx:fZ x'=some x){t:TV}(hr:(opd x).run σ=some (t,σ')):σ'=σ/\TmR w F σ.v (gy M σ []) G t (a.eval x'):=by cases x' with|tmp i=>simp[fZ]at hx;subst hx;obtain⟨rfl,rfl⟩:=hr;exact⟨rfl,hI i⟩|const v=>simp[fZ]at hx;subst hx;obtain⟨rfl,rfl⟩:=hr;exact⟨rfl,DU v⟩|func f=>simp[fZ]at hx;subst hx;obtain⟨rfl,rfl⟩:=hr;exact⟨rfl,.fn (by simp) (by simp)⟩|global g=>simp[fZ]at hx
def rx(P:Program)(M:Fm)(σ':St)(a:Act)(o:Oper)(w:World):Prop:=∃nx x w' G',(execOp a.eval o).run P w=.ok nx w'/\(nx=.value x\/nx=.skip/\x=undef)/\Inv M σ' [] [] (a.put o.dst x).tmps w' G'
theorem kG(hI:Inv M σ [] [] a.tmps w G){d:Nat}(hd:o.dst=some d)(hN:M.ok d){t:TV}{x:Value}(ht:TmR w (G.F M.A) σ.v (gy M σ []) G t x)(hr:(wr d t).run σ=some ((),σ'))(hrun:(execOp a.eval o).run P w=.ok (.value x) w):rx P M σ' a o w:=by simp only[wr,SP.run,oSJ,oPJ,true_and]at hr;subst hr;exact⟨_,x,w,G,hrun,.inl rfl,by rw[hd];exact hI.wrT hN ht⟩
theorem AL{H:U_}{xs:w_}{d:Nat}(hd:d≠1000000->M.kp d=none)(hI:Inv M σ H xs ts w G){l':U_}(Zn:∀j (h:j<H.length),is H[j]=true\/nM H[j]=true)(hr:(names d H).run σ=some (l',σ')):∃G',Inv M σ' [] [] ts w G'/\nA M w σ H G w σ' [] G'/\l'.length=H.length/\∀j (h:j<l'.length),TmR w (G'.F M.A) σ'.v (gy M σ' []) G' l'[j] (xs.getD j undef):=by
 have hcell:∀{G':Gh},(∀k,G.F M.A k->G'.F M.A k)->∀{V:Vs} {C:Cs} j (h:j<H.length),nM H[j]=false->TmR w (G'.F M.A) V C G' H[j] (xs.getD j undef):=by
  intro G' hF V C j h ho;have hok:is H[j]=true:=(Zn j h).resolve_right (by rw[ho];simp);have hown:=hI.hand_own h (by intro e;rw[e]at hok;simp[is]at hok);cases hh:H[j]with
  |v x=>rw[hh]at hown;cases hown with|v _ hf=>exact .v hf
  |sl c=>rw[hh]at hown;cases hown with|sl _ hs=>exact .sl (hs.frame (λ_ _ _=>rfl) λk hk _=>hF k hk)
  |ow c=>rw[hh]at ho;simp[nM]at ho|_=>rw[hh]at hok;simp[is]at hok
 unfold names at hr;by_cases hany:H.any nM=true;rw[oIP hany]at hr;have XT:(nameL (2*d+3) 0 H).run (σ.root (2*d+3) H)=some (l',σ'):=hr;obtain⟨G',hg,hβ,hη⟩:=hI.reroot (2*d+3) (by omega) (hI.odd_none d) (λi h0 hi e=>hi ((show d=i by omega)▸hd (by omega)));have key:∀(l:U_)(i:Nat)(l2:U_)(σ2:St),(nameL (2*d+3) i l).run (σ.root (2*d+3) H)=some (l2,σ2)->σ2=σ.root (2*d+3) H/\l2.length=l.length/\∀j (h:j<l.length)(h2:j<l2.length),(nM l[j]=true/\l2[j]=.pk ⟨2*d+3,i+j,[]⟩ [(σ.root (2*d+3) H).v (2*d+3,0,0),(σ.root (2*d+3) H).v (2*d+3,i+j,1)])\/(nM l[j]=false/\l2[j]=l[j]):=by
  intro l;induction l with
  |nil=>intro i l2 σ2 h;simp only[nameL,SP.run,oSJ,oPJ]at h;obtain⟨rfl,rfl⟩:=h;exact⟨rfl,rfl,λj h=>by simp at h⟩|cons t l ih=>
  intro i l2 σ2 h;by_cases ho:nM t=true;obtain⟨c,rfl⟩:∃c,t=.ow c:=by cases t<;>simp[nM]at ho;exact⟨_,rfl⟩
  simp only[nameL,SP.run]at h;obtain⟨l3,σ3,h1,h2⟩:=fN h;simp only[SP.run,oSJ,oPJ]at h2;obtain⟨rfl,rfl⟩:=h2;obtain⟨rfl,e2,e3⟩:=ih _ _ _ h1;refine⟨rfl,by simp[e2],λj hj hj2=>?_⟩;cases j with|zero=>exact .inl ⟨rfl,rfl⟩|succ j=>have:=e3 j (by simpa using hj) (by simpa using hj2);simpa[Nat.add_assoc,Nat.add_comm 1 j]using this
  have e:nameL (2*d+3) i (t::l)=(nameL (2*d+3) (i+1) l).bind λl'=>.ret (t::l'):=by cases t<;>simp[nM]at ho<;>rfl
  rw[e]at h;obtain⟨l3,σ3,h1,h2⟩:=fN h;simp only[SP.run,oSJ,oPJ]at h2;obtain⟨rfl,rfl⟩:=h2;obtain⟨rfl,e2,e3⟩:=ih _ _ _ h1;refine⟨rfl,by simp[e2],λj hj hj2=>?_⟩;cases j with|zero=>exact .inr ⟨by simpa using ho,rfl⟩|succ j=>have:=e3 j (by simpa using hj) (by simpa using hj2);simpa[Nat.add_assoc,Nat.add_comm 1 j]using this
 obtain⟨rfl,e2,e3⟩:=key H 0 l' σ' XT;refine⟨G',hg.1,hg.moves,e2,λj hj=>?_⟩;have hjH:j<H.length:=by omega
 rcases e3 j hjH hj with⟨ho,e4⟩|⟨ho,e4⟩;rw[e4];obtain⟨c,hc⟩:∃c,H[j]=.ow c:=by cases hh:H[j]<;>rw[hh]at ho<;>simp[nM]at ho;exact⟨_,rfl⟩
 refine .pk (σ.root (2*d+3) H).v (λ_=>oLE _) (by simp[lz,List.range_succ]) λ_=>⟨by show(2*d+3:Nat)≠1;omega,c,?_,?_⟩;unfold Gh.hv;simp only[hvT,Nat.zero_add];unfold Gh.val;rw[hβ,hI.odd_none d];simp only;rw[hη j (by rw[<- hI.hand];exact hjH)];simp only[gE,Nat.zero_add];rw[gv (by show(2*d+3:Nat)≠1;omega),ze];simp[hjH,hc];rw[e4];exact hcell hg.2.1 j hjH ho;rw[oIN hany]at hr;simp only[SP.run,oSJ,oPJ]at hr;obtain⟨rfl,rfl⟩:=hr;obtain⟨G',hg,hβ⟩:=hI.drop;refine⟨G',hg.1,hg.moves,rfl,λj hj=>hcell hg.2.1 j hj ?_⟩;simp only[List.any_eq_true,not_exists,not_and]at hany;have:=hany _ (oGX hj);simpa using this
theorem nC{mv:Bool}{t t':TV}(hr:(take1 mv t).run σ=some (t',σ')):is t'=true\/nM t'=true:=by
 cases t with
 |v x=>simp only[take1,SP.run,oPJ]at hr;obtain⟨rfl,_⟩:=hr;exact .inl rfl|sl c=>simp only[take1,SP.run,oSJ,oPJ]at hr;obtain⟨rfl,_⟩:=hr;exact .inl rfl|ow c=>cases c with|nil=>simp only[take1,SP.run,oSJ,oPJ]at hr;obtain⟨rfl,_⟩:=hr;cases mv<;>exact .inl rfl|cons=>simp[take1,SP.run]at hr
 |pk p vs=>obtain⟨_,σ1,h1,h2⟩:=fN hr;simp only[SP.run]at h2;cases hg:gE (σ1.c p.root p.off) p.hops with|none=>simp[hg,SP.run]at h2|some t2=>cases t2 with|ow c=>simp only[hg]at h2;split at h2;obtain⟨l,_,_,h3⟩:=gG h2;obtain⟨rfl,_⟩:=h3;exact .inr rfl;obtain⟨l,_,_,h3⟩:=gG h2;obtain⟨rfl,_⟩:=h3;rw[qu];exact .inl rfl|_=>simp[hg,SP.run]at h2
 |pw p vs sz lo n=>obtain⟨_,σ1,h1,h2⟩:=fN hr;simp only[SP.run]at h2;cases hg:gE (σ1.c p.root p.off) p.hops with|none=>simp[hg,SP.run]at h2|some t2=>cases t2 with|ow c=>simp only[hg]at h2;obtain⟨l,_,_,h3⟩:=gG h2;obtain⟨rfl,_⟩:=h3;exact .inl rfl|_=>simp[hg,SP.run]at h2
 |_=>simp[take1,SP.run]at hr
theorem uZ{mv:Bool}:∀{l l':U_}{σ σ':St},(takeL mv l).run σ=some (l',σ')->∀j (h:j<l'.length),is l'[j]=true\/nM l'[j]=true:=by intro l;induction l with|nil=>intro l' σ σ' h j hj;obtain⟨rfl,_⟩:=h;grind|cons t l ih=>intro l' σ σ' h j hj;have ⟨t',σ1,h1,h2⟩:=fN h;have ⟨r',σ2,h3,h4⟩:=fN h2;obtain⟨rfl,rfl⟩:=h4;cases j with|zero=>exact nC h1|succ j=>exact ih h3 j (by simp_all)
theorem yV{H:U_}{xs:w_}{d:Nat}{agg:Bool}(hI:Inv M σ H xs a.tmps w G)(hd:o.dst=some d)(hN:M.ok d)(Zn:∀j (h:j<H.length),is H[j]=true\/nM H[j]=true)(hr:(inst d agg H).run σ=some ((),σ')) {x:Value}(hx:(agg=true/\x=.agg xs.toArray)\/(agg=false/\∃y,xs=[y]/\x=y)){w0:World}(hrun:(execOp a.eval o).run P w0=.ok (.value x) w):rx P M σ' a o w0:=by
 unfold inst at hr;obtain⟨l',σ1,h1,h2⟩:=fN hr;obtain⟨G',Zw,hm,hl,ht⟩:=AL (λ_=>hN.2) hI Zn h1;simp only[wr,SP.run,oSJ,oPJ,true_and]at h2;subst h2;have key:TmR w (G'.F M.A) σ1.v (gy M σ1 []) G' (td agg l') x->rx P M { σ1 with tm:=iJ σ1.tm d (td agg l') } a o w0:=λh=>⟨_,x,w,G',hrun,.inl rfl,by rw[hd];exact Zw.wrT hN h⟩;apply key;rcases hx with⟨rfl,rfl⟩|⟨rfl,y,rfl,rfl⟩;simp only[td,if_true];refine .agg (by simp[hl,hI.hand]) λj hj=>?_;have:=ht j hj;simpa using this;simp only[td];have hlen:l'.length=1:=by rw[hl,hI.hand];rfl
 obtain⟨t,rfl⟩:∃t,l'=[t]:=by cases l' with|nil=>simp at hlen|cons t r=>cases r with|nil=>exact⟨t,rfl⟩|cons=>simp at hlen
 simpa using ht 0 (by simp)
end
section
variable {P:Program} {M:Fm} {σ σ':St} {ts:s_} {w:World} {G:Gh} {a:Act} {o:Oper}
theorem TmR.ow_inv{F:Nat->Prop}{V:Vs}{C:Cs}{c:o_}{x:Value}(h:TmR w F V C G (.ow c) x):c=[]/\∃ad,x=.slice ad 0 0:=by cases h with|nil=>simp_all
theorem Pp{F:Nat->Prop}{V:Vs}{C:Cs}{l:U_}{x:Value}(h:TmR w F V C G (.agg l) x):∃xs:s_,x=.agg xs/\xs.size=l.length/\∀j (hj:j<l.length),TmR w F V C G l[j] (xs.getD j undef):=by cases h with|agg hl h=>simp_all
theorem Kv{mv:Bool}{t:TV}{x:Value}{l:U_×Bool}(hI:Inv M σ [] [] ts w G)(hx:TmR w (G.F M.A) σ.v (gy M σ []) G t x)(hr:(takeV mv t).run σ=some (l,σ')):∃(xs:w_)(G':Gh),pJ M w ts σ [] G σ' l.1 xs G'/\((l.2=true/\x=.agg xs.toArray)\/(l.2=false/\∃y,xs=[y]/\x=y))/\(∀j (h:j<l.1.length),is l.1[j]=true\/nM l.1[j]=true)/\(∀y∈xs,y.oneCell'=true):=by
 have one:∀t',(∀q,t≠.agg q)->(take1 mv t).run σ=some (t',σ')->l=([t'],false)->∃(xs:w_)(G':Gh),pJ M w ts σ [] G σ' l.1 xs G'/\((l.2=true/\x=.agg xs.toArray)\/(l.2=false/\∃y,xs=[y]/\x=y))/\(∀j (h:j<l.1.length),is l.1[j]=true\/nM l.1[j]=true)/\(∀y∈xs,y.oneCell'=true):=by
  rintro t' _ h rfl;obtain⟨G',hg,ho⟩:=lQ hI hx h;refine⟨[x],G',by simpa using hg,.inr ⟨rfl,x,rfl,rfl⟩,λj hj=>?_,by simpa using ho⟩;obtain rfl:j=0:=by simp at hj;omega
  exact nC h
 by_cases ht:∃q,t=.agg q;obtain⟨q,rfl⟩:=ht;obtain⟨l',σ1,h1,h2⟩:=fN hr;obtain⟨rfl,rfl⟩:=h2;obtain⟨xs,rfl,hl,hj⟩:=Pp hx;obtain⟨e1,e2,G',hg⟩:=uY (ys:=xs.toList) hI (by simp[hl]) (λj h=>by simp_all) h1;exact⟨xs.toList,G',by simpa using hg,.inl ⟨rfl,by simp⟩,uZ h1,e2⟩;have e:takeV mv t=(take1 mv t).bind λt'=>.ret ([t'],false):=by cases t<;>first|rfl|exact absurd ⟨_,rfl⟩ ht
 rw[e]at hr;obtain⟨t',σ1,h1,h2⟩:=fN hr;obtain⟨rfl,rfl⟩:=h2;simp_all
theorem KZ(hI:Inv M σ [] [] a.tmps w G){d:Nat}{ad:t_}(hd:o.dst=some d)(hN:M.ok d)(hr:(inst d false [.ow []]).run σ=some ((),σ'))(hrun:(execOp a.eval o).run P w=.ok (.value (.slice ad 0 0)) w):rx P M σ' a o w:=by
 obtain⟨G1,hg⟩:=hI.addHand (t:=.ow []) (x:=.slice ad 0 0) (.nil (by simp));exact yV (H:=[.ow []]) (xs:=[.slice ad 0 0]) (by simpa using hg.1) hd hN (λj hj=>by
 obtain rfl:j=0:=by simp at hj;omega
 exact .inl rfl) hr (.inr ⟨rfl,_,rfl,rfl⟩) hrun
theorem Nl(hI:Inv M σ [] [] a.tmps w G){d:Nat}(hd:o.dst=some d)(hN:M.ok d){x:Opd}{x':Operand}(hx:fZ x'=some x)(ho:o.op=.move x'\/o.op=.assign x')(hr:(ev1 d (.mov x)).run σ=some ((),σ')):rx P M σ' a o w:=by
 simp only[ev1]at hr;obtain⟨t,σ1,h1,h2⟩:=fN hr;obtain⟨rfl,ht⟩:=ij hI.tmr hx h1;have hrun:(execOp a.eval o).run P w=.ok (.value (a.eval x')) w:=by rcases ho with ho|ho<;>simp[execOp,ho]
 cases t with
 |ow c=>obtain⟨rfl,ad,e⟩:=ht.ow_inv;rw[e]at hrun;cases x with|c v=>exact KZ hI hd hN h2 hrun|_=>simp[SP.run]at h2
 |agg l=>simp only at h2;split at h2;simp[SP.run]at h2;exact kG hI hd hN ht h2 hrun|_=>exact kG hI hd hN ht h2 hrun
theorem Nw(hI:Inv M σ [] [] a.tmps w G){d:Nat}{mv:Bool}(hd:o.dst=some d)(hN:M.ok d){x:Opd}{x':Operand}(hx:fZ x'=some x)(ho:o.op=.assign x'\/o.op=.move x')(hr:(ev1 d (.asn mv x)).run σ=some ((),σ')):rx P M σ' a o w:=by
 simp only[ev1]at hr;obtain⟨t,σ1,h1,h2⟩:=fN hr;obtain⟨rfl,ht⟩:=ij hI.tmr hx h1;have hrun:(execOp a.eval o).run P w=.ok (.value (a.eval x')) w:=by rcases ho with ho|ho<;>simp[execOp,ho]
 have gen:∀ σ2,((takeV mv t).bind λl=>inst d l.2 l.1).run σ1=some ((),σ2)->rx P M σ2 a o w:=by intro σ2 h;obtain⟨l,σ3,h3,h4⟩:=fN h;obtain⟨xs,G',hg,hsh,hok,_⟩:=Kv hI ht h3;exact yV hg.1 hd hN hok h4 hsh hrun
 cases t with|ptr p vs=>exact kG hI hd hN ht h2 hrun|ip cs=>exact kG hI hd hN ht h2 hrun|fn f cap=>exact kG hI hd hN ht h2 hrun|_=>exact gen _ h2
theorem P1(hI:Inv M σ [] [] a.tmps w G){d:Nat}(hd:o.dst=some d)(hN:M.ok d){c x y:Opd}{c' x' y':Operand}(hc:fZ c'=some c)(hx:fZ x'=some x)(hy:fZ y'=some y)(ho:o.op=.pick c' x' y') (hr:(ev1 d (.pick c x y)).run σ=some ((),σ')):rx P M σ' a o w:=by
 simp only[ev1]at hr;obtain⟨t,σ1,h1,h2⟩:=fN hr;obtain⟨rfl,ht⟩:=ij hI.tmr hc h1;cases t with
 |v xc=>
 cases xc with
  |bool b=>
  simp only at h2;obtain⟨t2,σ2,h3,h4⟩:=fN h2;have hcv:a.eval c'=.bool b:=by generalize a.eval c'=z at ht;cases ht;rfl
  have hz:fZ (if b then x' else y')=some (if b then x else y):=by cases b<;>simp[hx,hy]
  obtain⟨rfl,YP⟩:=ij hI.tmr hz h3;have hrun:(execOp a.eval o).run P w=.ok (.value (a.eval (if b then x' else y'))) w:=by cases b<;>simp[execOp,ho,hcv,asBool]
  cases t2 with|v z=>exact kG hI hd hN YP h4 hrun|_=>simp[SP.run]at h4
  |_=>simp[SP.run]at h2
 |_=>simp[SP.run]at h2
theorem rY{t:TV}{x:Value}(h:(yx t).run σ=some (x,σ')):t=.v x/\σ'=σ:=by
 cases t<;>simp[yx,SP.run]at h
 simp_all
theorem u7{α:Type}{q:Option α}{x:α}(h:(qp q).run σ=some (x,σ')):q=some x/\σ'=σ:=by
 cases q<;>simp[qp,SP.run]at h
 simp_all
theorem vg{t:TV}{n:Nat}(h:(natOf t).run σ=some (n,σ')):∃k i,t=.v (.int k i)/\0<=i/\n=i.toNat/\σ'=σ:=by
 cases t with
 |v x=>cases x with|int k i=>simp[natOf]at h;split at h;rename_i m;simp[SP.run]at h;exact⟨k,_,rfl,Int.natCast_nonneg m,h.1.symm,h.2.symm⟩;simp[SP.run]at h|_=>simp[natOf,SP.run]at h
 |_=>simp[natOf,SP.run]at h
theorem TmR.v_inv{F:Nat->Prop}{V:Vs}{C:Cs}{y x:Value}(h:TmR w F V C G (.v y) x):x=y/\kn y=true:=by cases h with|v h=>simp_all
theorem Bl{s:Sem Value}{v:Value}(h:Jo s=some v)(w:World):s.run P w=.ok v w:=by unfold Jo at h;split at h;simp_all;simp at h
theorem Pl(op:BinOp)(t:TypeId)(k k':IntKind)(x y:Int):Go.binOp op t (.int k x) (.int k' y)=Go.binOp op 0 (.int k x) (.int k' y):=by cases op<;>rfl
theorem Pk(op:BinOp)(t:TypeId)(x y:ByteArray):Go.binOp op t (.string x) (.string y)=Go.binOp op 0 (.string x) (.string y):=by cases op<;>rfl
theorem SI(hI:Inv M σ [] [] a.tmps w G){d:Nat}(hd:o.dst=some d)(hN:M.ok d){x y:Opd}{x' y':Operand}{op:BinOp}{t yt:TypeId}(hx:fZ x'=some x)(hy:fZ y'=some y)(ho:o.op=.binOp op t x' y' yt) (hr:(ev1 d (.bin op x y)).run σ=some ((),σ')):rx P M σ' a o w:=by
 simp only[ev1]at hr;obtain⟨t1,σ1,h1,h2⟩:=fN hr;obtain⟨rfl,Z0⟩:=ij hI.tmr hx h1;obtain⟨t2,σ2,h3,h4⟩:=fN h2;obtain⟨rfl,Xl⟩:=ij hI.tmr hy h3;obtain⟨u1,σ3,h5,h6⟩:=fN h4;obtain⟨rfl,rfl⟩:=rY h5;obtain⟨u2,σ4,h7,h8⟩:=fN h6;obtain⟨rfl,rfl⟩:=rY h7;obtain⟨r,σ5,h9,h10⟩:=fN h8;obtain⟨XN,rfl⟩:=u7 h9;obtain⟨ex,fx⟩:=Z0.v_inv;obtain⟨ey,fy⟩:=Xl.v_inv;split at h10;case isFalse=>simp[SP.run]at h10
 rename_i ZE;refine kG hI hd hN (.v ZE) h10 ?_;cases u1 with
 |int k i=>
 cases u2 with
  |int k' i'=>
  simp only[iY]at XN;have hb:(Go.binOp op t (.int k i) (.int k' i')).run P w=.ok r w:=by rw[Pl];exact Bl XN w
  have hg:(eqGuard op t x' y' (.int k i) (.int k' i')).run P w=.ok () w:=by unfold eqGuard;split<;>rfl
  simp[execOp,ho,ex,ey,hb,hg]
  |_=>simp[iY]at XN
 |string i=>
 cases u2 with
  |string i'=>
  simp only[iY]at XN;have hb:(Go.binOp op t (.string i) (.string i')).run P w=.ok r w:=by rw[Pk];exact Bl XN w
  have hg:(eqGuard op t x' y' (.string i) (.string i')).run P w=.ok () w:=by unfold eqGuard;split<;>rfl
  simp[execOp,ho,ex,ey,hb,hg]
  |_=>simp[iY]at XN
 |_=>simp[iY]at XN
theorem Nv(hI:Inv M σ [] [] a.tmps w G){d:Nat}(hd:o.dst=some d)(hN:M.ok d){x y:Opd}{x' y':Operand}{op:BinOp}{neg:Bool}{t yt:TypeId}(hx:fZ x'=some x)(hy:fZ y'=some y)(ho:o.op=.binOp op t x' y' yt)(hop:(op=.eql/\neg=false)\/(op=.neq/\neg=true))(ht:P.underlying t=some .bool) (hr:(ev1 d (.bnb neg x y)).run σ=some ((),σ')):rx P M σ' a o w:=by
 simp only[ev1]at hr;obtain⟨t1,σ1,h1,h2⟩:=fN hr;obtain⟨rfl,Z0⟩:=ij hI.tmr hx h1;obtain⟨t2,σ2,h3,h4⟩:=fN h2;obtain⟨rfl,Xl⟩:=ij hI.tmr hy h3;obtain⟨u1,σ3,h5,h6⟩:=fN h4;obtain⟨rfl,rfl⟩:=rY h5;obtain⟨u2,σ4,h7,h8⟩:=fN h6;obtain⟨rfl,rfl⟩:=rY h7;obtain⟨ex,fx⟩:=Z0.v_inv;obtain⟨ey,fy⟩:=Xl.v_inv;cases u1 with
 |bool i=>
 cases u2 with
  |bool i'=>
  simp only at h8;have hg:(eqGuard op t x' y' (.bool i) (.bool i')).run P w=.ok () w:=by unfold eqGuard;split<;>rfl
  have hq:(Op.equal t (.bool i) (.bool i')).run P w=.ok (i==i') w:=by obtain⟨n,hn⟩:∃n,Op.maxDepth=n+1:=⟨9999,rfl⟩;unfold Op.equal;rw[hn];simp[Op.equalIn,run_underlying ht]
  refine kG hI hd hN (.v rfl) h8 ?_;rcases hop with⟨rfl,rfl⟩|⟨rfl,rfl⟩;simp[execOp,ho,ex,ey,hg,Go.binOp,hq];simp[execOp,ho,ex,ey,hg,Go.binOp,hq]
  |_=>simp[SP.run]at h8
 |_=>simp[SP.run]at h8
theorem Ua(hI:Inv M σ [] [] a.tmps w G){d:Nat}(hd:o.dst=some d)(hN:M.ok d){x:Opd}{x':Operand}{op:UnOp}{t:TypeId}(hx:fZ x'=some x)(ho:o.op=.unOp op t x')(hr:(ev1 d (.un op x)).run σ=some ((),σ')):rx P M σ' a o w:=by
 simp only[ev1]at hr;obtain⟨t1,σ1,h1,h2⟩:=fN hr;obtain⟨rfl,Z0⟩:=ij hI.tmr hx h1;obtain⟨u1,σ3,h5,h6⟩:=fN h2;obtain⟨rfl,rfl⟩:=rY h5;obtain⟨r,σ5,h9,h10⟩:=fN h6;obtain⟨XN,rfl⟩:=u7 h9;obtain⟨ex,fx⟩:=Z0.v_inv;split at h10;case isFalse=>simp[SP.run]at h10
 rename_i ZE;exact kG hI hd hN (.v ZE) h10 (by simp[execOp,ho,ex,Bl XN w])
theorem P8(hI:Inv M σ [] [] a.tmps w G){d:Nat}(hd:o.dst=some d)(hN:M.ok d){x:Opd}{x':Operand}{k ks:IntKind}{s t:TypeId}(hx:fZ x'=some x)(ho:o.op=.convert s t x')(hs:P.underlying s=some (.int ks))(ht:P.underlying t=some (.int k)) (hr:(ev1 d (.conv k x)).run σ=some ((),σ')):rx P M σ' a o w:=by simp only[ev1]at hr;obtain⟨t1,σ1,h1,h2⟩:=fN hr;obtain⟨rfl,Z0⟩:=ij hI.tmr hx h1;obtain⟨u1,σ3,h5,h6⟩:=fN h2;obtain⟨rfl,rfl⟩:=rY h5;obtain⟨ex,fx⟩:=Z0.v_inv;cases u1 with|int k2 n=>exact kG hI hd hN (.v rfl) h6 (by simp[execOp,ho,ex,convert,run_underlying hs,run_underlying ht,Conv.intToInt])|_=>simp[SP.run]at h6
theorem P2(hI:Inv M σ [] [] a.tmps w G){d:Nat}(hd:o.dst=some d)(hN:M.ok d){x:Opd}{x':Operand}(hx:fZ x'=some x)(ho:o.op=.nilCheck x')(hr:(ev1 d (.nilc x)).run σ=some ((),σ')):rx P M σ' a o w:=by
 simp only[ev1]at hr;obtain⟨t1,σ1,h1,h2⟩:=fN hr;obtain⟨rfl,Z0⟩:=ij hI.tmr hx h1;cases t1 with
 |ptr p vs=>simp only at h2;obtain⟨_,σ2,h3,h4⟩:=fN h2;have e1:σ2=σ1:=(gt h3).1;have e2:=(gt h3).2;subst e1;have ht:=Z0;cases Z0 with|ptr V0 h0 hv h=>obtain⟨_,ad,t,ha,Wl,_⟩:=h e2;exact kG hI hd hN ht h4 (by simp[execOp,ho,Wl])
 |ip cs=>have ht:=Z0;generalize hz:a.eval x'=z at Z0 ht;cases Z0 with|ip u hc XT=>exact kG hI hd hN ht h2 (by simp[execOp,ho,hz])
 |fn f cap=>have ht:=Z0;generalize hz:a.eval x'=z at Z0 ht;cases Z0 with|fn hl hh=>exact kG hI hd hN ht h2 (by simp[execOp,ho,hz])
 |_=>simp[SP.run]at h2
end
theorem gf.add_cases(p:gf)(n:Nat):(p.hops=[]/\p.add n=⟨p.root,p.off+n,[]⟩)\/(∃hs i sz o,p.hops=hs++[(i,sz,o)]/\p.add n=⟨p.root,p.off,hs++[(i,sz,o+n)]⟩):=by unfold gf.add;cases h:p.hops.reverse with|nil=>simp_all|cons a r=>have ⟨i,sz,o⟩:=a;simp_all
theorem MP{w:World}{hs:L_}{i sz o:Nat}(n:Nat):∀{x:Value}{ad:Addr},gK w x (hs++[(i,sz,o)])=some ad->gK w x (hs++[(i,sz,o+n)])=some ⟨ad.block,ad.off+n,none⟩:=by
 induction hs with
 |nil=>
 intro x ad h;cases x with
  |slice a l c=>
  cases a with
   |none=>simp[gK]at h|some a=>
   simp only[oNA,gK]at h⊢;split at h;rename_i hi;rw[oIP hi];injection h with h
   rw[<- h];simp[Nat.add_assoc];simp at h
  |_=>simp[gK]at h
 |cons hp hs ih=>
 obtain⟨i',sz',o'⟩:=hp;intro x ad h;obtain⟨hd,tl,WO⟩:∃hd tl,hs++[(i,sz,o)]=hd::tl:=by cases hs<;>exact⟨_,_,rfl⟩
 have ⟨hd2,tl2,hht2⟩:∃hd tl,hs++[(i,sz,o+n)]=hd::tl:=by cases hs<;>exact⟨_,_,rfl⟩
 rw[List.cons_append,WO]at h;rw[List.cons_append,hht2];cases x with
 |slice a l c=>
 cases a with
  |none=>simp[gK]at h|some a=>
  simp[gK]at h⊢;split at h;rename_i hi;cases hc:w.cell? ⟨a.block,a.off+(i'*sz'+o'),none⟩with|none=>simp_all|some y=>simp_all
  simp at h
 |_=>simp[gK]at h
theorem sU{G:Gh}{w:World}{p:gf}{ad:Addr}(n:Nat)(h:G.addr w p=some ad):G.addr w (p.add n)=some ⟨ad.block,ad.off+n,none⟩:=by
 rcases p.add_cases n with⟨h1,h2⟩|⟨hs,i,sz,o,h1,h2⟩;rw[h2];unfold Gh.addr at h⊢;cases hb:G.β p.root with|none=>simp_all|some x=>grind
 rw[h2];unfold Gh.addr at h⊢;rw[h1]at h;have ⟨hd,tl,WO⟩:∃hd tl,hs++[(i,sz,o)]=hd::tl:=by cases hs<;>exact⟨_,_,rfl⟩
 have ⟨hd2,tl2,hht2⟩:∃hd tl,hs++[(i,sz,o+n)]=hd::tl:=by cases hs<;>exact⟨_,_,rfl⟩
 rw[WO]at h;simp only at h;rw[<- WO]at h;simp[hht2];rw[<- hht2];exact MP n h
theorem iy(p:gf)(n:Nat):(p.add n).root=p.root:=by rcases p.add_cases n with⟨_,h2⟩|⟨hs,i,sz,o,_,h2⟩<;>rw[h2]
theorem Ks(V:Vs)(p:gf)(n:Nat):lz V (p.add n).root (p.add n).off (p.add n).hops.length=lz V p.root p.off p.hops.length:=by
 rcases p.add_cases n with⟨h1,h2⟩|⟨hs,i,sz,o,h1,h2⟩<;>rw[h2,h1]
 rfl;simp
theorem oE{G:Gh}{w:World}{p:gf}{ad:Addr}(h:G.addr w p=some ad):ad.spot=none:=by
 have key:∀(hs:L_)(x:Value),gK w x hs=some ad->ad.spot=none:=by
  intro hs;induction hs with
  |nil=>intro x h;cases x<;>simp[gK]at h|cons a r ih=>
  intro x h;cases x with
  |slice a l c=>
  cases a with
   |none=>cases r<;>simp[gK]at h|some a=>
   cases r with
   |nil=>
   simp only[gK]at h;split at h;injection h with h;rw[<- h]
   simp at h
   |cons b r=>simp[gK]at h;grind
  |_=>cases r<;>simp[gK]at h
 unfold Gh.addr at h;grind
section
variable {P:Program} {M:Fm} {σ σ':St} {H:U_} {xs:w_} {ts:s_} {w:World} {G:Gh} {a:Act} {o:Oper}
theorem Inv.named(hI:Inv M σ H xs ts w G){p:gf}(h1:p.root≠1){ad:Addr}(ha:G.addr w p=some ad){t:TV}(ht:gE (σ.c p.root p.off) p.hops=some t)(hd:t≠.dead):G.addrB w p=some ad/\∃u fp,w.cell? ad=some u/\jD w (G.F M.A) fp t u/\G.hv w p=some u:=by
 have htE:gE (gy M σ H p.root p.off) p.hops=some t:=by rw[gv (h1)];exact ht
 have ⟨u,fp,hv,hown,_,hadf⟩:=hI.core.hv_own p htE hd;have hB:G.addrB w p=some ad:=by refine pR ha λhp b o0 n hb=>?_;rcases Nat.lt_or_ge p.off n with h|h;exact h;have:=hI.core.boxc p.root b o0 n hb p.off h;rw[gv (h1)]at this;rw[hp,this]at ht;simp[gE]at ht;simp_all
 refine⟨hB,u,fp,?_,hown,hv⟩;cases hp:p.hops with
 |nil=>rcases hI.core.where_ p hB htE with⟨_,b,o0,n,hb,hlt,Y0⟩|⟨hne,_⟩;rw[Y0,hI.core.boxcell hb hlt];unfold Gh.hv at hv;rw[hp]at hv;exact hv;simp_all
 |cons x r=>
 have:gK w (G.val w p.root p.off) p.hops=some ad:=by unfold Gh.addr at ha;rw[hp]at ha⊢;exact ha
 simp_all
theorem iD{p:gf}{y:TV×St}(h:(getPl p).run σ=some y):y.2=σ/\gE (σ.c p.root p.off) p.hops=some y.1:=by simp[getPl]at h;cases hg:gE (σ.c p.root p.off) p.hops with|none=>simp[hg,SP.run]at h|some t=>simp[hg,SP.run]at h;rw[<- h];exact⟨rfl,rfl⟩
theorem w7(hI:Inv M σ H xs ts w G){p:gf}(h1:p.root≠1){t t':TV}{u:Value}{fp:Nat->Prop}(ht:gE (σ.c p.root p.off) p.hops=some t)(hown:jD w (G.F M.A) fp t u)(hv:G.hv w p=some u) (hr:(peek1 p t).run σ=some (t',σ')):σ'=σ/\TmR w (G.F M.A) σ.v (gy M σ H) G t' u:=by
 cases t with
 |v x=>obtain⟨rfl,rfl⟩:=hr;cases hown with|v _ h=>exact⟨rfl,.v h⟩
 |sl c=>obtain⟨rfl,rfl⟩:=hr;cases hown with|sl _ h=>exact⟨rfl,.sl h⟩
 |ow c=>simp[peek1]at hr;rw[SP.run_bind,Ex,ww]at hr;obtain⟨rfl,rfl⟩:=hr;exact⟨rfl,.pk σ.v (λ_=>oLE _) rfl λ_=>⟨h1,c,hv,by rw[gv (h1)];exact ht⟩⟩|_=>simp[peek1,SP.run]at hr
theorem ve{p:gf}{y:TV×St}{t:TV}(hr:(peek1 p t).run σ=some y):t≠.dead:=by rintro rfl;simp[peek1,SP.run]at hr
theorem KQ(hI:Inv M σ H xs ts w G):∀{n:Nat}{p:gf}{ad:Addr}{l:U_}{σ':St},p.root≠1->G.addr w p=some ad->(peekL p n).run σ=some (l,σ')->σ'=σ/\l.length=n/\∃us:w_,us.length=n/\∀j (h:j<l.length)(h':j<us.length),w.cell? ⟨ad.block,ad.off+j,none⟩=some us[j]/\TmR w (G.F M.A) σ.v (gy M σ H) G l[j] us[j]:=by
 intro n;induction n with
 |zero=>intro p ad l σ' h1 ha hr;simp only[peekL,SP.run,oSJ,oPJ]at hr;simp_all|succ n ih=>
 intro p ad l σ' h1 ha hr;obtain⟨t,σ1,h2,h3⟩:=fN hr;obtain⟨e1,hg⟩:=iD h2;have e1:σ1=σ:=e1;subst e1;obtain⟨t',σ2,h4,h5⟩:=fN h3;have hd:=ve h4;obtain⟨hB,u,fp,YO,hown,hv⟩:=hI.named h1 ha hg hd;obtain⟨rfl,ZU⟩:=w7 hI h1 hg hown hv h4;have ZD:=oE ha;have hc0:w.cell? ⟨ad.block,ad.off+0,none⟩=some u:=by rw[Nat.add_zero];obtain⟨b,o,s⟩:=ad;simp_all
 cases n with
 |zero=>
 obtain⟨rfl,rfl⟩:=h5;refine⟨rfl,rfl,[u],rfl,λj h h'=>?_⟩;obtain rfl:j=0:=by simp at h;omega
 exact⟨hc0,ZU⟩
 |succ n=>
 simp only at h5;split at h5;obtain⟨r,σ3,h6,h7⟩:=fN h5;obtain⟨rfl,rfl⟩:=h7;obtain⟨rfl,e2,us,e3,e4⟩:=ih (by rw[iy];exact h1) (sU 1 ha) h6;refine⟨rfl,by simp[e2],u::us,by simp[e3],λj h h'=>?_⟩;cases j with|zero=>exact⟨hc0,ZU⟩|succ j=>have:=e4 j (by simpa using h) (by simpa using h');rw[show ad.off+(j+1)=ad.off+1+j by omega];exact this
 simp[SP.run]at h5
theorem tZ{t:TypeId}{d:TypeDesc}(h:P.underlying t=some d)(hd:∀f,d≠.struct f)(hd2:∀n e,d≠.array n e):(isAgg t).run P w=.ok false w:=by unfold isAgg;simp only[Sem.run_bind,run_underlying h];simp_all
theorem sn{t:TypeId}{d:TypeDesc}(h:P.underlying t=some d)(hd:(∃f,d=.struct f)\/∃n e,d=.array n e):(isAgg t).run P w=.ok true w:=by unfold isAgg;simp[run_underlying h];rcases hd with⟨f,rfl⟩|⟨n,e,rfl⟩<;>rfl
def Pv(P:Program)(t:TypeId):x_->Prop|none=>∃d,P.underlying t=some d/\(∀f,d≠.struct f)/\∀n e,d≠.array n e|some n=>(∃d,P.underlying t=some d/\((∃f,d=.struct f)\/∃n e,d=.array n e))/\(P.info? t).map (·.size)=some n
theorem P4(hI:Inv M σ [] [] a.tmps w G){d:Nat}(hd:o.dst=some d)(hN:M.ok d){x:Opd}{x':Operand}{t:TypeId}{n:x_}(hx:fZ x'=some x)(ho:o.op=.load t x')(hn:Pv P t n)(hr:(ev1 d (.load n x)).run σ=some ((),σ')):rx P M σ' a o w:=by
 simp only[ev1]at hr;obtain⟨tx,σ1,h1,h2⟩:=fN hr;obtain⟨rfl,Z0⟩:=ij hI.tmr hx h1;cases tx with
 |ptr p vs=>
 simp only at h2;obtain⟨_,σ2,h3,h4⟩:=fN h2;have e1:σ2=σ1:=(gt h3).1;have e2:=(gt h3).2;subst e1;generalize hz:a.eval x'=z at Z0;cases Z0 with
  |ptr V0 h0 hv h=>
  obtain⟨Z6,ad,t0,ha,rfl,_⟩:=h e2;cases n with
  |none=>obtain⟨dd,hu,Yn,hd2⟩:=hn;simp only at h4;obtain⟨t',σ4,h40,h8⟩:=fN h4;rw[Oe]at h40;obtain⟨t1,σ3,h5,h7⟩:=fN h40;obtain⟨e3,hg⟩:=iD h5;have e3:σ3=σ2:=e3;subst e3;obtain⟨hB,u,fp,YO,hown,Zy⟩:=hI.named Z6 ha hg (ve h7);obtain⟨rfl,ZU⟩:=w7 hI Z6 hg hown Zy h7;refine kG hI hd hN ZU h8 ?_;simp[execOp,ho,hz,Instr.loadAt,Instr.sureAddr,loadVar,tZ hu Yn hd2,YO]|some n=>
  obtain⟨⟨dd,hu,Yn⟩,hsz⟩:=hn;simp only at h4;obtain⟨l,σ3,h5,h6⟩:=fN h4;obtain⟨rfl,e3,us,e4,e5⟩:=KQ hI Z6 ha h5;refine kG hI hd hN (x:=.agg us.toArray) (.agg (by simp[e3,e4]) λj hj=>by have:=(e5 j hj (by omega)).2;simpa[show j<us.length by omega]using this) h6 ?_;have ZD:=oE ha;have ZW:=run_loadCells_list (P:=P) w ad us λj v hj=>by obtain⟨hlt,rfl⟩:=oGS hj;have:=(e5 j (by omega) hlt).1;obtain⟨b,o,s⟩:=ad;simp only at ZD;subst ZD;rw[iZ];exact this
  have Yv:(sizeOf t).run P w=.ok n w:=by unfold sizeOf typeInfo;cases hi:P.info? t with|none=>simp[hi]at hsz|some i=>simp[hi]at hsz;simp[hi,hsz]
  rw[e4]at ZW;simp[execOp,ho,hz,Instr.loadAt,Instr.sureAddr,loadVar,sn hu Yn,Yv,ZW]
 |ip cs=>
 simp only at h2;generalize hz:a.eval x'=z at Z0;cases Z0 with
  | @ip _ b ob u hc WD=>
  cases hl:loadIp n cs with
  |none=>simp[hl,SP.run]at h2|some t'=>
  simp only[hl]at h2;cases n with
  |none=>
  obtain⟨dd,hu,Yn,hd2⟩:=hn;unfold loadIp at hl;simp only at hl;have hlen:0<cs.length:=by cases cs<;>simp at hl⊢
  obtain⟨_,YO⟩:=hc 0 hlen;have ZH:=WD 0 hlen;have ZU:TmR w (G.F M.A) σ1.v (gy M σ1 []) G t' (u 0):=by cases cs with|nil=>simp at hlen|cons c0 cs=>simp only[List.getElem_cons_zero]at ZH;cases c0 with|v x=>simp only[oSJ]at hl;subst hl;exact ZH.toTm|sl c=>simp only[oSJ]at hl;subst hl;exact ZH.toTm|ip l=>simp only[oSJ]at hl;subst hl;exact ZH.toTm|fn f l=>simp only[oSJ]at hl;subst hl;exact ZH.toTm|_=>simp at hl
  refine kG hI hd hN ZU h2 ?_;rw[Nat.add_zero]at YO;simp[execOp,ho,hz,Instr.loadAt,Instr.sureAddr,loadVar,tZ hu Yn hd2,YO]
  |some n=>
  obtain⟨⟨dd,hu,Yn⟩,hsz⟩:=hn;unfold loadIp at hl;simp only at hl;split at hl;rename_i ZZ;simp only[oBA,oDE]at ZZ;injection hl with hl
  subst hl;have hlen:(cs.take n).length=n:=by simp;omega
  refine kG hI hd hN (x:=.agg ((List.range n).map u).toArray) (.agg (by simp;omega) λj hj=>?_) h2 ?_;have hjn:j<n:=by omega
  have hjc:j<cs.length:=by omega
  have ZH:=WD j hjc;have hal:=oAE.1 ZZ.2 _ (oGX hj);have e:(cs.take n)[j]=cs[j]:=List.getElem_take;rw[e]at hal⊢;have e2:((List.range n).map u).toArray.getD j undef=u j:=by simp[hjn]
  rw[e2];cases hcj:cs[j]with|v x=>rw[hcj]at ZH;exact ZH.toTm|sl c=>rw[hcj]at ZH;exact ZH.toTm|_=>rw[hcj]at hal;simp at hal
  have ZW:=run_loadCells_list (P:=P) w ⟨b,ob,none⟩ ((List.range n).map u) λj v hj=>by rw[oGP]at hj;rcases Nat.lt_or_ge j n with h|h;rw[List.getElem?_range h]at hj;rw[iZ,<- hj];exact(hc j (by omega)).2;rw[oGN (by simpa using h)]at hj;simp at hj
  have Yv:(sizeOf t).run P w=.ok n w:=by unfold sizeOf typeInfo;cases hi:P.info? t with|none=>simp[hi]at hsz|some i=>simp[hi]at hsz;simp[hi,hsz]
  rw[oLP,List.length_range]at ZW;simp[execOp,ho,hz,Instr.loadAt,Instr.sureAddr,loadVar,sn hu Yn,Yv,ZW];simp at hl
 |_=>simp[SP.run]at h2
end
section
variable {P:Program} {M:Fm} {σ σ':St} {H:U_} {xs:w_} {ts:s_} {w:World} {G:Gh} {a:Act} {o:Oper}
theorem KN{p:gf}{t:TV}(h:(wv p t).run σ=some ((),σ')):∃old l vr,gE (σ.c p.root p.off) p.hops=some old/\gD σ.ce p.root=some l/\p.off<l.length/\σ'=⟨σ.tm,iJ σ.ce p.root (l.set p.off (iH (σ.c p.root p.off) p.hops t)),vr⟩/\lz σ'.v p.root p.off p.hops.length=lz σ.v p.root p.off p.hops.length:=by
 unfold wv at h;simp only[SP.run]at h;cases hg:gE (σ.c p.root p.off) p.hops with
 |none=>simp[hg,SP.run]at h|some old=>
 simp only[hg]at h;split at h;split at h;obtain⟨l,hl,ho,h3⟩:=gG h;simp[SP.run,true_and]at h3;refine⟨old,l,_,rfl,hl,ho,h3.symm,?_⟩;rw[nB];have hv:∀q,σ'.v q=σ.v q+if(p.root,p.off,p.hops.length+1)=q then 1 else 0:=λq=>by rw[<- h3];exact jn σ.vr _ q
 refine⟨by simp_all,λd hd=>?_⟩;rw[hv,oIN];omega;intro e;simp_all;simp[SP.run]at h;obtain⟨l,hl,ho,h3⟩:=gG h;simp[SP.run,true_and]at h3;refine⟨old,l,_,rfl,hl,ho,h3.symm,?_⟩;have hv:σ'.v=σ.v:=by rw[<- h3];rfl
 rw[hv]
theorem N4:∀{rest:U_}{k:Nat}{σ σ':St}{H:U_}{w:World}{G:Gh}{p:gf}{ad:Addr},Inv M σ H xs ts w G->p.root≠1->G.addr w p=some ad->H.drop k=rest->rest≠[]->(∀j (h:j<H.length),k<=j->H[j]≠.dead)->(putL p rest).run σ=some ((),σ')->(∀j,j<rest.length->(w.cell? ⟨ad.block,ad.off+j,none⟩).isSome=true/\w.frozen? ⟨ad.block,ad.off+j,none⟩=false)/\∃G' H',Inv M σ' H' xs ts (w.setCells ad.block ad.off (xs.drop k)) G'/\H'.length=H.length/\(∀j (h:j<H'.length),k<=j->H'[j]=.dead)/\(∀j (h:j<H'.length)(h':j<H.length),j<k->H'[j]=H[j])/\σ'.tm=σ.tm/\nA M w σ H G (w.setCells ad.block ad.off (xs.drop k)) σ' H' G'/\G'.β=G.β:=by
 intro rest;induction rest with
 |nil=>intro k σ σ' H w G p ad _ _ _ _ h;exact absurd rfl h|cons t rest ih=>
 intro k σ σ' H w G p ad hI h1 ha XZ _ Zn hr;have hk:k<H.length:=by rcases Nat.lt_or_ge k H.length with h|h;exact h;rw[List.drop_of_length_le h]at XZ;simp at XZ
 have hH:H[k]=t/\H.drop (k+1)=rest:=by
  rw[List.drop_eq_getElem_cons hk]at XZ;injection XZ with e1 e2
  exact⟨e1,e2⟩
 obtain⟨rfl,ZR⟩:=hH;simp only[putL]at hr;obtain⟨_,σ1,h2,h3⟩:=fN hr;obtain⟨old,l,vr,hg,hl,ho,hσ1,Xz⟩:=KN h2;have hB:G.addrB w p=some ad:=by refine pR ha λhp b o0 n hb=>?_;have:=hI.shape _ _ _ _ hb l hl;omega
 have hgE:gE (gy M σ H p.root p.off) p.hops=some old:=by rw[gv (by exact h1)];exact hg
 obtain⟨⟨u,YO⟩,W4,G1,hI1,hm,Zg,hβ⟩:=hI.put h1 hB hgE hk (Zn k hk (oLE _)) h2;obtain⟨t',YF,_⟩:=hm.keeps.ptr p ad old h1 Xz ha hgE;have ZD:=oE ha;have hxk:k<xs.length:=by rw[<- hI.hand];exact hk
 have hxd:xs.drop k=xs[k]::xs.drop (k+1):=List.drop_eq_getElem_cons hxk;have Y0:(⟨ad.block,ad.off,none⟩:Addr)=ad:=by obtain⟨b,o,s⟩:=ad;simp only at ZD;subst ZD;rfl
 have Z3:xs.getD k undef=xs[k]:=by simp[hxk]
 rw[Z3]at hI1 hm YF;cases rest with
 |nil=>
 simp only[SP.run,oSJ,oPJ,true_and]at h3;subst h3;have hlen:xs.drop (k+1)=[]:=by
  apply List.drop_of_length_le;have:H.length<=k+1:=by simp_all
  rw[<- hI.hand];exact this
 refine⟨λj hj=>?_,G1,H.set k .dead,?_,by simp,λj hj hkj=>?_,λj hj ZO hjk=>by rw[List.getElem_set];rw[oIN (by omega)],Zg,?_,hβ⟩;obtain rfl:j=0:=by simp at hj;omega
 rw[Nat.add_zero,Y0];exact⟨by rw[YO];rfl,W4⟩;rw[hxd,hlen];simp only[World.setCells,Y0];exact hI1;have hj2:j<H.length:=by simpa using hj
 have:H.length<=k+1:=by rcases Nat.lt_or_ge (k+1) H.length with h|h;have:=congrArg List.length ZR;simp at this;omega;exact h
 obtain rfl:j=k:=by omega
 simp;rw[hxd,hlen];simp only[World.setCells,Y0];exact hm
 |cons t2 rest=>
 simp only at h3;split at h3;obtain⟨ZJ,G2,H2,ZN,e1,e2,e3,e4,e5,e6⟩:=ih (k:=k+1) hI1 (by rw[iy];exact h1) (sU 1 YF) (by rw[<- ZR];apply oEG;intro i;simp only[List.getElem?_drop,List.getElem?_set];rw[oIN (by omega)]) (by simp)
  (λj hj hkj=>by rw[List.getElem_set,oIN (by omega)];exact Zn j (by simpa using hj) (by omega)) h3
 refine⟨λj hj=>?_,G2,H2,?_,by simpa using e1,λj hj hkj=>?_,λj hj ZO hjk=>?_,e4.trans Zg,?_,e6.trans hβ⟩;cases j with
 |zero=>rw[Nat.add_zero,Y0];exact⟨by rw[YO];rfl,W4⟩|succ j=>
  have:=ZJ j (by simpa using hj);simp only at this;rw[show ad.off+1+j=ad.off+(j+1) by omega]at this;rw[World.frozen?_setCell]at this;refine⟨?_,this.2⟩;have hne:ad≠⟨ad.block,ad.off+(j+1),none⟩:=λe=>by have:=congrArg Addr.off e;simp at this
  rw[World.cell?_setCell_other w ad _ _ hne]at this;exact this.1
 rw[hxd];simp only[World.setCells,Y0];exact ZN;by_cases hjk:j=k;subst hjk;rw[e3 j hj (by rw[e1]at hj;exact hj) (by omega)];simp;exact e2 j hj (by omega);have:=e3 j hj (by rw[oLS];exact ZO) (by omega);rw[this,List.getElem_set,oIN (by omega)];rw[hxd];simp only[World.setCells,Y0];exact hm.trans e5;simp[SP.run]at h3
theorem zg{mv:Bool}{t:TV}{x:Value}{l:U_}(hI:Inv M σ [] [] ts w G)(hx:TmR w (G.F M.A) σ.v (gy M σ []) G t x)(hr:(takeL mv (rK t)).run σ=some (l,σ')):∃G',pJ M w ts σ [] G σ' l x.cells.toList G'/\(∀y∈x.cells.toList,y.oneCell'=true)/\(∀j (h:j<l.length),is l[j]=true\/nM l[j]=true)/\l.length=x.cells.size:=by
 by_cases ht:∃q,t=.agg q;obtain⟨q,rfl⟩:=ht;obtain⟨xs,rfl,hl,hj⟩:=Pp hx;obtain⟨e1,e2,G',hg⟩:=uY (ys:=xs.toList) hI (by simp[hl,rK]) (λj h=>by have h':j<q.length:=h;have:=hj j h';simpa[rK]using this) hr;exact⟨G',by simpa[Value.cells]using hg,by simpa[Value.cells]using e2,uZ hr,by rw[e1];simp[rK,Value.cells,hl]⟩;have e:rK t=[t]:=by cases t<;>first|rfl|exact absurd ⟨_,rfl⟩ ht
 rw[e]at hr;have XH:x.cells=#[x]:=by have ⟨t',σ1,h1,h2⟩:=fN hr;have ⟨G',hg,ho⟩:=lQ hI hx h1;cases x<;>first|rfl|simp[Value.oneCell']at ho
 have ⟨e1,e2,G',hg⟩:=uY (ys:=[x]) hI (by simp) (λj h=>by
  obtain rfl:j=0:=by simp_all
  simpa using hx) hr
 rw[XH];exact⟨G',by simp_all,by omega,uZ hr,by omega⟩
theorem Ck{l:U_}(h:∀j (h:j<l.length),is l[j]=true\/nM l[j]=true):∀j (h:j<l.length),l[j]≠.dead:=by intro j hj e;have:=h j hj;rw[e]at this;simp[is,nM]at this
theorem M9(hI:Inv M σ [] [] a.tmps w G){d n:Nat}{mv:Bool}(hd:o.dst=none){x y:Opd}{x' y':Operand}{t:TypeId}(hx:fZ x'=some x)(hy:fZ y'=some y)(ho:o.op=.store t x' y')(hn:(P.info? t).map (·.size)=some n)(hn0:0<n) (hr:(ev1 d (.store n mv x y)).run σ=some ((),σ')):rx P M σ' a o w:=by
 obtain⟨tx,σ1,h1,h2⟩:=fN hr;obtain⟨rfl,Z0⟩:=ij hI.tmr hx h1;cases tx with
 |ptr p vs=>
 obtain⟨ty,σ2,h3,h4⟩:=fN h2;obtain⟨rfl,Xl⟩:=ij hI.tmr hy h3;obtain⟨l,σ3,h5,h6⟩:=fN h4;obtain⟨G1,hg,YL,hok,hlen⟩:=zg hI Xl h5;split at h6;case isFalse=>simp[SP.run]at h6
 rename_i hln;obtain⟨_,σ4,h7,h8⟩:=fN h6;have e1:σ4=σ3:=(gt h7).1;have e2:=(gt h7).2;subst e1;have Y4:=hg.tm Z0;generalize hz:a.eval x'=z at Y4;cases Y4 with
  |ptr V0 h0 hv h=>
  obtain⟨Z6,ad,t0,ha,rfl,_⟩:=h e2;have hne:l≠[]:=λe=>by simp_all
  obtain⟨hc,G2,H2,ZN,e3,e4,_,e5,_⟩:=N4 (k:=0) hg.1 Z6 ha (by simp) hne (λj hj _=>Ck hok j hj) h8;have ZD:=oE ha;have Y0:ad=⟨ad.block,ad.off,none⟩:=by obtain⟨b,o,s⟩:=ad;simp only at ZD;subst ZD;rfl
  have hst:=run_storeCells_cells (P:=P) ad.block ad.off (a.eval y').cells.toList 0 w (λj hj=>by have:=(hc j (by rw[Array.length_toList]at hj;omega)).1;simpa using this) (λj hj=>by have:=(hc j (by rw[Array.length_toList]at hj;omega)).2;simpa using this) YL;rw[<- Y0]at hst;have Yv:(sizeOf t).run P w=.ok n w:=by unfold sizeOf typeInfo;cases hi:P.info? t with|none=>simp_all|some i=>simp[hi]at hn;simp[hi,hn]
  refine⟨.skip,undef,w.setCells ad.block ad.off (a.eval y').cells.toList,G2,?_,.inr ⟨rfl,rfl⟩,?_⟩;have hcs:(a.eval y').cells.size=n:=by rw[<- hlen,hln]
  simp[execOp,ho,hz,Instr.storeAt,Instr.sureAddr,storeVar,Yv,hcs];rw[show(storeCells ad (a.eval y').cells.toList).run P w=.ok () (w.setCells ad.block (ad.off+0) (a.eval y').cells.toList)from hst];rfl;have hclr:=ZN.clear (λj hj=>e4 j hj (Nat.zero_le _));have:(a.put o.dst undef).tmps=a.tmps:=by rw[hd];rfl
  rw[this];simpa using hclr
 |_=>simp[SP.run]at h2
end
theorem Ef{w:World}{hs:L_}{k sz n cap:Nat}{ad:Addr}:∀{x:Value},hvT w x hs=some (.slice (some ad) n cap)->k<n->gK w x (hs++[(k,sz,0)])=some ⟨ad.block,ad.off+(k*sz+0),none⟩:=by
 induction hs with
 |nil=>intro x h hk;simp only[hvT,oSJ]at h;subst h;simp[gK,hk]|cons hp hs ih=>
 obtain⟨i,sz',o⟩:=hp;intro x h hk;simp only[hvT]at h;cases x with
 |slice a l c=>
 cases a with
  |none=>cases hs<;>simp[gK]at h|some a=>
  cases hs with
  |nil=>simp only[gK]at h;split at h;rename_i hi;simp at h;simp only[List.cons_append,oNA,gK,hi,if_true,h,hk];simp at h|cons h2 YV=>
  simp only[gK]at h;split at h;rename_i hi;cases hc:w.cell? ⟨a.block,a.off+(i*sz'+o),none⟩with|none=>simp_all|some y=>simp only[hc]at h;have:=ih (x:=y) (by simp only[hvT];exact h) hk;simp only[gK,List.cons_append,hi,if_true,hc];exact this
  simp at h
 |_=>cases hs<;>simp[gK]at h
theorem Iz{hs:L_}{k sz:Nat}{c:o_}{el:U_}:∀{t:TV},gE t hs=some (.ow c)->c[k]?=some el->el.length=sz->0<sz->∃t',gE t (hs++[(k,sz,0)])=some t':=by
 induction hs with
 |nil=>
 intro t h hk hs h0;simp[gE]at h;subst h;have:el[0]?=some el[0]:=by simp_all
 exact⟨el[0],by simp[gE,hk,hs,this]⟩
 |cons hp hs ih=>intro t h hk hsz h0;obtain⟨c',el',t2,rfl,hc,hz,ho,Z3⟩:=iX h;have ⟨t',h'⟩:=ih Z3 hk hsz h0;exact⟨t',by simp[gE,hc,hz,ho,h']⟩
theorem K4{hs:L_}{i sz o n:Nat}:∀{t t1:TV},gE t (hs++[(i,sz,o)])=some t1->o+n<sz->∃t',gE t (hs++[(i,sz,o+n)])=some t':=by
 induction hs with
 |nil=>
 intro t t1 h hlt;obtain⟨c',el',t2,rfl,hc,hz,ho,Z3⟩:=iX h;have:el'[o+n]?=some el'[o+n]:=by simp_all
 exact⟨el'[o+n],by simp[gE,hc,hz,this]⟩
 |cons hp hs ih=>intro t t1 h hlt;obtain⟨c',el',t2,rfl,hc,hz,ho,Z3⟩:=iX h;have ⟨t',h'⟩:=ih Z3 hlt;exact⟨t',by simp[gE,hc,hz,ho,h']⟩
section
variable {P:Program} {M:Fm} {σ σ':St} {H:U_} {xs:w_} {ts:s_} {w:World} {G:Gh} {a:Act} {o:Oper}
theorem Inv.addHandL:∀{z:w_}{H:U_}{xs:w_}{G:Gh},Inv M σ H xs ts w G->(z.map iL).all is=true->∃G',pJ M w ts σ H G σ (H++z.map iL) (xs++z) G':=by
 intro z;induction z with
 |nil=>intro H xs G hI _;exact⟨G,by simpa using pJ.refl hI⟩|cons x z ih=>
 intro H xs G hI hz;simp only[oPC,List.all_cons,oBA]at hz;have hx:jD w (G.F M.A) (λ_=>False) (iL x) x:=by
  have h1:=hz.1;unfold iL at h1⊢;split;exact .nil (by simp);split;rename_i h;exact .v (by simp) h;rename_i h;have hh:is TV.dead=true:=by simp_all
  simp[is]at hh
 have ⟨G1,g1⟩:=hI.addHand hx;have ⟨G2,g2⟩:=ih g1.1 hz.2;exact⟨G2,by simpa using g1.trans g2⟩
theorem R3{H:U_}{xs:w_}(hI:Inv M σ H xs a.tmps w G){d:Nat}(hd:o.dst=some d)(hN:M.ok d)(YX:M.pr (2*d+2)=none)(e:TypeId){w0:World} (hr:(SP.new (2*d+2) H (.rdV (2*d+2,0,0) λg=>wr d (.ptr ⟨2*d+2,0,[]⟩ [g]))).run σ=some ((),σ'))(hrun:(execOp a.eval o).run P w0=.ok (.value (.pointer (some ⟨w.heap.size,0,none⟩))) (w.alloc (.cells xs.toArray e))):rx P M σ' a o w0:=by obtain⟨G',Zw,_,hβ⟩:=hI.newBox (2*d+2) e (by omega) YX (by omega);have XT:(wr d (.ptr ⟨2*d+2,0,[]⟩ [(σ.root (2*d+2) H).v (2*d+2,0,0)])).run (σ.root (2*d+2) H)=some ((),σ'):=hr;simp only[wr,SP.run,oSJ,oPJ,true_and]at XT;subst XT;refine⟨_,_,_,G',hrun,.inl rfl,?_⟩;rw[hd];refine Zw.wrT hN (.ptr (σ.root (2*d+2) H).v (λ_=>oLE _) (by simp[lz]) λ_=>⟨by show(2*d+2:Nat)≠1;omega,⟨w.heap.size,0,none⟩,_,?_,rfl,rfl⟩);unfold Gh.addr;simp only[hβ]
theorem Nx(hI:Inv M σ [] [] a.tmps w G){d:Nat}(hd:o.dst=some d)(hN:M.ok d)(YX:M.pr (2*d+2)=none){e:TypeId}{z:w_}(ho:o.op=.alloc e)(hz:(P.info? e).bind (·.zero.map (·.cells.toList))=some z) (hr:(ev1 d (.alloc z)).run σ=some ((),σ')):rx P M σ' a o w:=by
 simp only[ev1]at hr;split at hr;case isFalse=>simp[SP.run]at hr
 rename_i hok;obtain⟨G1,hg⟩:=hI.addHandL hok;simp only[oNA]at hg;refine R3 hg.1 hd hN YX e hr ?_;cases hi:P.info? e with
 |none=>simp[hi]at hz|some i=>
 simp only[hi,oBS]at hz;cases hiz:i.zero with
 |none=>simp[hiz]at hz|some v=>
 simp only[hiz,oMS,oSJ]at hz;have hv:v.cells=z.toArray:=by rw[<- hz]
 simp[execOp,ho,Instr.alloc,zeroValue,typeInfo,hi,hiz,newVar,newRow,hv]
theorem SG(hI:Inv M σ [] [] a.tmps w G){d n:Nat}{mv:Bool}(hd:o.dst=some d)(hN:M.ok d)(YX:M.pr (2*d+2)=none){x:Opd}{x':Operand}{e:TypeId}(hx:fZ x'=some x)(ho:o.op=.box e x') (hr:(ev1 d (.box n mv x)).run σ=some ((),σ')):rx P M σ' a o w:=by
 simp only[ev1]at hr;obtain⟨t,σ1,h1,h2⟩:=fN hr;obtain⟨rfl,ht⟩:=ij hI.tmr hx h1;obtain⟨l,σ2,h3,h4⟩:=fN h2;obtain⟨G1,hg,YL,hok,hlen⟩:=zg hI ht h3;split at h4;case isFalse=>simp[SP.run]at h4
 refine R3 hg.1 hd hN YX e h4 ?_;simp[execOp,ho,Instr.box,newVar,newRow]
theorem SC(hI:Inv M σ [] [] a.tmps w G){d:Nat}(hd:o.dst=some d)(hN:M.ok d){x:Opd}{x':Operand}{s f:Nat}{ZL:Array Field}{fd:Field}(hx:fZ x'=some x)(ho:o.op=.fieldAddr s x' f) (hu:P.underlying s=some (.struct ZL))(hf:ZL[f]?=some fd)(hs:∃n,(P.info? fd.type).map (·.size)=some (n+1))(hr:(ev1 d (.fld fd.offset x)).run σ=some ((),σ')):rx P M σ' a o w:=by
 obtain⟨nf,hs⟩:=hs;have Yv:(sizeOf fd.type).run P w=.ok (nf+1) w:=by unfold sizeOf typeInfo;cases hi:P.info? fd.type with|none=>simp[hi]at hs|some i=>simp[hi]at hs;simp[hi,hs]
 simp only[ev1]at hr;obtain⟨tx,σ1,h1,h2⟩:=fN hr;obtain⟨rfl,Z0⟩:=ij hI.tmr hx h1;cases tx with
 |ptr p vs=>
 simp only at h2;obtain⟨_,σ2,h3,h4⟩:=fN h2;have e1:σ2=σ1:=(gt h3).1;have e2:=(gt h3).2;subst e1;split at h4;case isFalse=>simp[SP.run]at h4
 rename_i Z2;generalize hz:a.eval x'=z at Z0;cases Z0 with
  |ptr V0 h0 hv h=>
  obtain⟨Z6,ad,t0,ha,rfl,hg0⟩:=h e2;refine kG hI hd hN (x:=.pointer (some (ad.add fd.offset))) ?_ h4 (by simp[execOp,ho,hz,Instr.fieldAt,Instr.sureAddr,run_underlying hu,hf,fieldPlace,Yv]);refine .ptr V0 h0 (by rw[Ks];exact hv) λ_=>⟨by rw[iy];exact Z6,⟨ad.block,ad.off+fd.offset,none⟩,?_⟩;have ZD:=oE ha;have XL:ad.add fd.offset=⟨ad.block,ad.off+fd.offset,none⟩:=by obtain⟨b,ob,sp⟩:=ad;simp only at ZD;subst ZD;exact iZ b ob fd.offset
  rcases p.add_cases fd.offset with⟨q1,q2⟩|⟨hs',i,sz,o',q1,q2⟩;exact⟨gy M σ2 [] p.root (p.off+fd.offset),sU _ ha,by rw[XL],by rw[q2];rfl⟩;have hlt:o'+fd.offset<sz:=by unfold gf.fits at Z2;rw[q1]at Z2;simpa using Z2
  rw[q1]at hg0;obtain⟨t',ZU⟩:=K4 hg0 hlt;exact⟨t',sU _ ha,by rw[XL],by rw[q2];exact ZU⟩
 |ip cs=>
 simp only at h2;split at h2;case isFalse=>simp[SP.run]at h2
 rename_i hlt;generalize hz:a.eval x'=z at Z0;cases Z0 with| @ip _ b ob u hc WD=>refine kG hI hd hN (x:=.pointer (some ⟨b,ob+fd.offset,none⟩)) ?_ h2 (by simp[execOp,ho,hz,Instr.fieldAt,Instr.sureAddr,run_underlying hu,hf,fieldPlace,Yv,iZ]);refine .ip (λj=>u (fd.offset+j)) (λj hj=>?_) λj hj=>?_;have:=hc (fd.offset+j) (by simp at hj;omega);rw[show ob+fd.offset+j=ob+(fd.offset+j) by omega];exact this;have:=WD (fd.offset+j) (by simp at hj;omega);simpa[List.getElem_drop]using this
 |_=>simp[SP.run]at h2
theorem SD(hI:Inv M σ [] [] a.tmps w G){d:Nat}(hd:o.dst=some d)(hN:M.ok d){x:Opd}{x':Operand}{i:Nat}(hx:fZ x'=some x)(ho:o.op=.extract x' i)(hr:(ev1 d (.ext x i)).run σ=some ((),σ')):rx P M σ' a o w:=by
 simp only[ev1]at hr;obtain⟨tx,σ1,h1,h2⟩:=fN hr;obtain⟨rfl,Z0⟩:=ij hI.tmr hx h1;cases tx with
 |tup l=>
 simp only at h2;split at h2;case isFalse=>simp[SP.run]at h2
 rename_i hlt;generalize hz:a.eval x'=z at Z0;cases Z0 with
  | @tup _ xs hl h=>
  have Wx:i<xs.size:=by omega
  have ht:=h i hlt;have e1:l.getD i .dead=l[i]:=by simp[hlt]
  have e2:xs.getD i undef=xs[i]:=by simp[Wx]
  rw[e1]at h2;rw[e2]at ht;exact kG hI hd hN ht h2 (by simp[execOp,ho,hz,Instr.extract,Wx])
 |_=>simp[SP.run]at h2
end
section
variable {P:Program} {M:Fm} {σ σ':St} {H:U_} {xs:w_} {ts:s_} {w:World} {G:Gh} {a:Act} {o:Oper}
theorem zj(hI:Inv M σ H xs ts w G){p:gf}{c:o_}{x:Value}(hv:G.hv w p=some x)(hg:gE (gy M σ H p.root p.off) p.hops=some (.ow c)):∃fp,jD w (G.F M.A) fp (.ow c) x:=by
 have ⟨u,fp,h1,h2,_⟩:=hI.core.hv_own p hg (by simp);rw[hv]at h1;injection h1 with h1
 exact⟨fp,h1▸h2⟩
theorem BZ(c:o_)(k:Nat):(c.map List.length).getD k 0=(c.getD k []).length:=by grind
theorem SA(hI:Inv M σ [] [] a.tmps w G){d:Nat}(hd:o.dst=some d)(hN:M.ok d){x i:Opd}{x' i':Operand}{t e sz:Nat}(hx:fZ x'=some x)(hi:fZ i'=some i)(ho:o.op=.indexAddr t x' i') (hu:P.underlying t=some (.slice e))(hs:(P.info? e).map (·.size)=some sz)(hr:(ev1 d (.idx sz x i)).run σ=some ((),σ')):rx P M σ' a o w:=by
 have Yv:(sizeOf e).run P w=.ok sz w:=by unfold sizeOf typeInfo;cases hi:P.info? e with|none=>simp[hi]at hs|some i=>simp[hi]at hs;simp[hi,hs]
 simp only[ev1]at hr;obtain⟨tx,σ1,h1,h2⟩:=fN hr;obtain⟨rfl,Z0⟩:=ij hI.tmr hx h1;obtain⟨ti,σ2,h3,h4⟩:=fN h2;obtain⟨rfl,Xr⟩:=ij hI.tmr hi h3;obtain⟨k,σ3,h5,h6⟩:=fN h4;obtain⟨ik,n,rfl,hn0,hk,rfl⟩:=vg h5;obtain⟨ei,_⟩:=Xr.v_inv;have run:∀(b:Addr)(len cap:Nat),a.eval x'=.slice (some b) len cap->k<len->(execOp a.eval o).run P w=.ok (.value (.pointer (some (b.add (k*sz))))) w:=by
  intro b len cap Wl hlt;have Wx:n<(len:Int):=by omega
  subst hk;simp[execOp,ho,Wl,ei,Instr.indexAt,asIntOf,run_underlying hu,hn0,Wx,Yv]
 cases tx with
 |pk p vs=>
 simp only at h6;obtain⟨_,σ4,h7,h8⟩:=fN h6;have e1:σ4=σ3:=(gt h7).1;have e2:=(gt h7).2;subst e1;rw[Fh]at h8;obtain⟨tt,σ5,h9,h10⟩:=fN h8;obtain⟨e3,hg⟩:=iD h9;have e3:σ5=σ4:=e3;subst e3;generalize hz:a.eval x'=z at Z0 run;cases Z0 with
  |pk V0 h0 hv h=>
  obtain⟨Z6,c,Zy,Zx⟩:=h e2;have Zl:gE (σ5.c p.root p.off) p.hops=some (.ow c):=by rw[gv (by exact Z6)]at Zx;exact Zx
  rw[Zl]at hg;injection hg with hg
  subst hg;simp only[TV.hd]at h10;split at h10;case isFalse=>simp[SP.run]at h10
  rename_i ZZ;rw[BZ]at ZZ;simp only[oBA,oDE,beq_iff_eq,oLP]at ZZ;obtain⟨⟨hlt,YT⟩,ZX⟩:=ZZ;obtain⟨fp,hown⟩:=zj hI Zy Zx;have YN:c[k]?=some c[k]:=oGE hlt;have hlen:c[k].length=sz:=by simpa[hlt]using YT
  cases hown with
  |nil=>simp at hlt| @ow _ _ b cap cur e' sz' u f hfp hb hsz hcap hz0 hmax hcur hcell hrec hnb hdis=>
  refine kG hI hd hN ?_ h10 (run _ _ _ rfl hlt);obtain⟨t',ZU⟩:=Iz Zx YN hlen ZX;refine .ptr V0 h0 (by simpa[gf.at_]using hv) λ_=>⟨Z6,⟨b,k*sz,none⟩,t',?_,by rw[iZ,Nat.zero_add],ZU⟩;have:=Ef (sz:=sz) Zy hlt;unfold Gh.addr gf.at_;simp only;obtain⟨Yw,tl,WO⟩:∃hd tl,p.hops++[(k,sz,0)]=hd::tl:=by cases p.hops<;>exact⟨_,_,rfl⟩
  rw[WO];simp only;rw[<- WO,this];simp
 |pw p vs sz' lo m=>
 simp only at h6;obtain⟨_,σ4,h7,h8⟩:=fN h6;have e1:σ4=σ3:=(gt h7).1;have e2:=(gt h7).2;subst e1;obtain⟨tt,σ5,h9,h10⟩:=fN h8;obtain⟨e3,hg⟩:=iD h9;have e3:σ5=σ4:=e3;subst e3;generalize hz:a.eval x'=z at Z0 run;cases Z0 with
  |pw V0 h0 hv h=>
  obtain⟨Z6,c,Yn,Zy,Zx,hln,a',cap,rfl,hmc,Wy,hnil,hszs,E'⟩:=h e2;have Zl:gE (σ5.c p.root p.off) p.hops=some (.ow c):=by rw[gv (by exact Z6)]at Zx;exact Zx
  rw[Zl]at hg;injection hg with hg
  subst hg;simp only at h10;split at h10;case isFalse=>simp[SP.run]at h10
  rename_i ZZ;simp only[oBA,oDE,beq_iff_eq]at ZZ;obtain⟨⟨⟨hlt,YT⟩,rfl⟩,ZX⟩:=ZZ;obtain⟨b,len,ZP,rfl,rfl⟩:=E' (by omega);have Ww:lo+k<c.length:=by omega
  have YN:c[lo+k]?=some c[lo+k]:=oGE Ww;have hlen:c[lo+k].length=sz':=by simpa[Ww]using YT
  obtain⟨fp,hown⟩:=zj hI Zy Zx;obtain⟨aa,cp,Y8,Yh⟩:=hown.hdr;injection Y8 with _ hsl1 _
  refine kG hI hd hN ?_ h10 (run _ _ _ rfl hlt);obtain⟨t',ZU⟩:=Iz Zx YN hlen ZX;refine .ptr V0 h0 (by simpa[gf.at_]using hv) λ_=>⟨Z6,⟨b,(lo+k)*sz',none⟩,t',?_,by rw[iZ,Nat.add_mul],ZU⟩;have:=Ef (k:=lo+k) (sz:=sz') Zy (by omega);unfold Gh.addr gf.at_;simp only;obtain⟨Yw,tl,WO⟩:∃hd tl,p.hops++[(lo+k,sz',0)]=hd::tl:=by cases p.hops<;>exact⟨_,_,rfl⟩
  rw[WO];simp only;rw[<- WO,this];simp
 |sl c=>
 simp only at h6;split at h6;case isFalse=>simp[SP.run]at h6
 rename_i ZZ;simp only[oBA,oDE,beq_iff_eq]at ZZ;obtain⟨⟨hlt,YT⟩,ZX⟩:=ZZ;generalize hz:a.eval x'=z at Z0 run;cases Z0 with
  |sl ZH=>
  cases ZH with
  | @sl _ aa cap sz' u hsz hcap hmax hnil hcell hrec=>
  have YN:c.getD k []=c[k]:=by simp[hlt]
  rw[YN]at h6 YT;have O':sz'=sz:=by rw[<- hsz k hlt,YT]
  subst O';obtain⟨b,ob,rfl,_,_⟩:=hcell k 0 hlt ZX;refine kG hI hd hN ?_ h6 (run _ _ _ rfl hlt);rw[iZ];refine .ip (λj=>u k j) (λj hj=>?_) λj hj=>.im (hrec k j hlt hj);obtain⟨b',o',e4,h7,h8⟩:=hcell k j hlt (by omega);injection e4 with e4
  injection e4 with e5 e6
  subst e5;subst e6;exact⟨h7,by rw[show ob+k*sz'+j=ob+(k*sz'+j) by omega];exact h8⟩
 |_=>simp[SP.run]at h6
theorem Ho{F:Nat->Prop}(hI:Inv M σ [] [] ts w G){t:TV}{x:Value}(hx:TmR w (G.F M.A) σ.v (gy M σ []) G t x){n:Nat}(hr:(vE t).run σ=some (n,σ')):σ'=σ/\∃aa cap,x=.slice aa n cap/\n<=cap:=by
 cases t with
 |sl c=>obtain⟨rfl,rfl⟩:=hr;cases hx with|sl h=>exact⟨rfl,h.hdr⟩
 |ow c=>obtain⟨rfl,ad,rfl⟩:=hx.ow_inv;obtain⟨rfl,rfl⟩:=hr;simp_all|pk p vs=>
 obtain⟨_,σ4,h7,h8⟩:=fN hr;have e1:σ4=σ:=(gt h7).1;have e2:=(gt h7).2;subst e1;rw[Fh]at h8;obtain⟨tt,σ5,h9,h10⟩:=fN h8;obtain⟨e3,hg⟩:=iD h9;subst e3;cases hx with
  |pk V0 h0 hv h=>
  obtain⟨Z6,c,Zy,Zx⟩:=h e2;have Zl:gE (σ5.c p.root p.off) p.hops=some (.ow c):=by rw[gv (by exact Z6)]at Zx;exact Zx
  rw[Zl]at hg;injection hg with hg
  subst hg;simp only[TV.hd,SP.run,oLP,oSJ,oPJ]at h10;obtain⟨rfl,rfl⟩:=h10;obtain⟨fp,hown⟩:=zj hI Zy Zx;exact⟨rfl,hown.hdr⟩
 |pw p vs sz lo m=>obtain⟨_,σ4,h7,h8⟩:=fN hr;have e1:σ4=σ:=(gt h7).1;have e2:=(gt h7).2;subst e1;obtain⟨rfl,rfl⟩:=h8;cases hx with|pw V0 h0 hv h=>obtain⟨Z6,c,Yn,Zy,Zx,hln,a',cap,rfl,hmc,_⟩:=h e2;exact⟨rfl,_,_,rfl,hmc.1⟩
 |_=>simp[vE,SP.run]at hr
theorem Sy(hI:Inv M σ [] [] a.tmps w G){d:Nat}(hd:o.dst=some d)(hN:M.ok d){x:Opd}{x':Operand}{t e:TypeId}(hx:fZ x'=some x)(ho:o.op=.call { callee:=.builtin .len,args:=#[x'],argTypes:=#[t] }) (hu:P.underlying t=some (.slice e))(hr:(ev1 d (.len x)).run σ=some ((),σ')):rx P M σ' a o w:=by obtain⟨tx,σ1,h1,h2⟩:=fN hr;obtain⟨rfl,Z0⟩:=ij hI.tmr hx h1;have ⟨n,σ2,h3,h4⟩:=fN h2;obtain⟨rfl,aa,cap,Wl,_⟩:=Ho (F:=G.F M.A) hI Z0 h3;exact kG hI hd hN (.v rfl) h4 (by simp[execOp,ho,resolve,invoke,builtin,Builtin.len_,Wl,run_underlying hu,goInt])
theorem P5(hI:Inv M σ [] [] a.tmps w G){d:Nat}(hd:o.dst=some d)(hN:M.ok d){x:Opd}{x':Operand}{t:TypeId}(hx:fZ x'=some x)(ho:o.op=.call { callee:=.builtin .len,args:=#[x'],argTypes:=#[t] }) (hu:P.underlying t=some .string)(hr:(ev1 d (.lens x)).run σ=some ((),σ')):rx P M σ' a o w:=by
 simp only[ev1]at hr;obtain⟨tx,σ1,h1,h2⟩:=fN hr;obtain⟨rfl,Z0⟩:=ij hI.tmr hx h1;cases tx with
 |v y=>obtain⟨Wl,_⟩:=Z0.v_inv;cases y with|string s=>exact kG hI hd hN (.v rfl) h2 (by simp[execOp,ho,resolve,invoke,builtin,Builtin.len_,Wl,run_underlying hu,goInt])|_=>simp[SP.run]at h2
 |_=>simp[SP.run]at h2
theorem OI{F F':Nat->Prop}{fp:Nat->Prop}{t:TV}{x:Value}(h:jD w F fp t x)(hv:isV t=true):jD w F' (λ_=>False) t x:=by cases h with|v _ h=>exact .v (λ_ h=>h) h|_=>simp[isV]at hv
theorem Kc{σ σ':St}{tx:TV}{c2:o_}(hn:DZ tx=true)(hr:(contentOf tx).run σ=some (c2,σ')):σ'=σ:=by
 have ZT:∀{p:gf}{n:Nat}{vs:N_}{f:TV->SP o_},(∀t y τ τ',(f t).run τ=some (y,τ')->τ'=τ)->((chk p n vs).bind λ_=>(getPl p).bind f).run σ=some (c2,σ')->σ'=σ:=by intro p n vs f hf h;obtain⟨_,σ1,h1,h2⟩:=fN h;have e1:σ1=σ:=(gt h1).1;have ⟨tt,σ2,h3,h4⟩:=fN h2;have e3:σ2=σ1:=(iD h3).1;rw[hf _ _ _ _ h4,e3,e1]
 cases tx with
 |pk p vs=>refine ZT (λt y τ τ' h=>?_) hr;cases t<;>simp[SP.run]at h;exact h.2.symm|pw p vs sz lo n=>
 refine ZT (λt y τ τ' h=>?_) hr;cases t<;>simp[SP.run]at h
 simp_all
 |_=>simp[DZ]at hn
theorem QG(hI:Inv M σ H xs ts w G){tx:TV}{x:Value}{c2:o_}{sz:Nat}(hn:DZ tx=true)(hx:TmR w (G.F M.A) σ.v (gy M σ H) G tx x)(hr:(contentOf tx).run σ=some (c2,σ')) (hf:c2.all (λe=>e.all isV)=true)(hs:∀k (h:k<c2.length),c2[k].length=sz)(F' A:Nat->Prop):σ'=σ/\∃aX capX news,x=.slice aX c2.length capX/\Src w F' A c2 sz aX news (λ_ _ _=>False):=by
 have ZE:∀i j (hi:i<c2.length)(hj:j<c2[i].length),isV c2[i][j]=true:=λi j hi hj=>oAE.1 (oAE.1 hf _ (oGX hi)) _ (oGX hj);cases hx with
 | @pk p vs x V0 h0 hv h=>
 simp only[contentOf]at hr;obtain⟨_,σ1,h1,h2⟩:=fN hr;have e1:σ1=σ:=(gt h1).1;have e2:=(gt h1).2;subst e1;obtain⟨tt,σ2,h3,h4⟩:=fN h2;obtain⟨e3,hg⟩:=iD h3;have e3:σ2=σ1:=e3;subst e3;obtain⟨Z6,c,Zy,Zx⟩:=h e2;have Zl:gE (σ2.c p.root p.off) p.hops=some (.ow c):=by rw[gv (by exact Z6)]at Zx;exact Zx
 rw[Zl]at hg;injection hg with hg
 subst hg;simp only[SP.run,oSJ,oPJ]at h4;obtain⟨rfl,rfl⟩:=h4;obtain⟨u,fp,h5,h6,_⟩:=hI.core.hv_own p Zx (by simp);rw[Zy]at h5;injection h5 with h5
 subst h5;obtain⟨aX,capX,news,g,rfl,XG,hnr,YU,_,_,Wz,_⟩:=h6.rows (.inl rfl) hs;exact⟨rfl,aX,capX,news,rfl,XG,hnr,λi j hi hj=>OI (YU i j hi hj) (ZE i j hi hj),λ_ _ _ h=>h.elim,λ_ _ _ _ _ h=>h.elim,Wz⟩
 | @pw p vs Y' lo n x V0 h0 hv h=>
 simp only[contentOf]at hr;obtain⟨_,σ1,h1,h2⟩:=fN hr;have e1:σ1=σ:=(gt h1).1;have e2:=(gt h1).2;subst e1;obtain⟨tt,σ2,h3,h4⟩:=fN h2;obtain⟨e3,hg⟩:=iD h3;have e3:σ2=σ1:=e3;subst e3;obtain⟨Z6,c,hd,Zy,Zx,hln,a,cap,hx,WR,Wy,hnil,Xb,Y0⟩:=h e2;have Zl:gE (σ2.c p.root p.off) p.hops=some (.ow c):=by rw[gv (by exact Z6)]at Zx;exact Zx
 rw[Zl]at hg;injection hg with hg
 subst hg;simp only[SP.run,oSJ,oPJ]at h4;obtain⟨rfl,rfl⟩:=h4;have Ya:((c.drop lo).take n).length=n:=by simp;omega
 rcases Nat.eq_zero_or_pos n with hn0|hnp;subst hn0;refine⟨rfl,a,cap,[],by rw[Ya];exact hx,by simp,by simp,λi j hi=>by simp at hi,λ_ _ _ h=>h.elim,λ_ _ _ _ _ h=>h.elim,by simp⟩;have hsz:Y'=sz:=by have e4:=hs 0 (by rw[Ya];exact hnp);rw[<- e4];simp only[List.getElem_take,List.getElem_drop];exact(Xb _ _).symm
 subst hsz;obtain⟨u,fp,h5,h6,_⟩:=hI.core.hv_own p Zx (by simp);rw[Zy]at h5;injection h5 with h5
 subst h5;obtain⟨b,len,ZP,hdv,hav⟩:=Y0 (by omega);obtain⟨aX,capX,news,g,hda,XG,hnr,YU,_,_,Wz,_⟩:=h6.rows (.inl rfl) Xb;rw[hdv]at hda;injection hda with hda _ _
 subst hda;have XQ:∀k,k<n*Y'->lo*Y'+k<news.length:=λk hk=>by
  rw[XG];calc lo*Y'+k<lo*Y'+n*Y':=by omega
   _=(lo+n)*Y':=by rw[Nat.add_mul]
   _<=c.length*Y':=Nat.mul_le_mul_right _ hln
 have WS:((news.drop (lo*Y')).take (n*Y')).length=n*Y':=by rw[oLT,List.length_drop,XG];have:(lo+n)*Y'<=c.length*Y':=Nat.mul_le_mul_right _ hln;rw[Nat.add_mul]at this;omega
 refine⟨rfl,a,cap,(news.drop (lo*Y')).take (n*Y'),by rw[Ya];exact hx,by rw[Ya];exact WS,λj u hj=>?_,λi j hi hj=>?_,λ_ _ _ h=>h.elim,λ_ _ _ _ _ h=>h.elim,λu hu=>Wz u (List.mem_of_mem_drop (List.mem_of_mem_take hu))⟩;have hjl:j<n*Y':=by rcases Nat.lt_or_ge j (n*Y')with h|h;exact h;rw[oGN (by rw[WS];exact h)]at hj;cases hj
 rw[List.getElem?_take_of_lt hjl,List.getElem?_drop]at hj;obtain⟨b',o',e5,e6⟩:=hnr _ _ hj;injection e5 with e5
 injection e5 with e5 e7
 subst e5;subst e7;exact⟨b,lo*Y',hav,by rw[<- e6];congr 2;omega⟩;have Zk:i<n:=by rw[Ya]at hi;exact hi
 have hcell:((c.drop lo).take n)[i]=c[lo+i]'(by omega):=by simp
 have ZO:j<(c[lo+i]'(by omega)).length:=by rw[<- hcell];exact hj
 have hjs:j<Y':=by rw[Xb]at ZO;exact ZO
 have h7:=YU (lo+i) j (by omega) ZO;have hk:i*Y'+j<n*Y':=by
  calc i*Y'+j<i*Y'+Y':=by omega
   _=(i+1)*Y':=by rw[Nat.succ_mul]
   _<=n*Y':=Nat.mul_le_mul_right _ Zk
 have e8:((news.drop (lo*Y')).take (n*Y')).getD (i*Y'+j) undef=news.getD ((lo+i)*Y'+j) undef:=by rw[oGD,oGD,List.getElem?_take_of_lt hk,List.getElem?_drop,Nat.add_mul,Nat.add_assoc]
 rw[e8];have e9:((c.drop lo).take n)[i][j]=(c[lo+i]'(by omega))[j]:=by simp only[hcell]
 rw[e9];refine OI h7 ?_;rw[<- e9];exact ZE i j hi hj
 |_=>simp[DZ]at hn
theorem SJ(hI:Inv M σ [] [] a.tmps w G){d sz bytes:Nat}{mv:Bool}(hd:o.dst=some d)(hN:M.ok d){s x:Opd}{s' x':Operand}{t e:TypeId}{i:TypeInfo}{z:Value}(hs:fZ s'=some s)(hx:fZ x'=some x) (ho:o.op=.call { callee:=.builtin .append,args:=#[s',x'],argTypes:=#[t,t] })(hu:P.underlying t=some (.slice e))(hi:P.info? e=some i)(hz:i.zero=some z)(hzs:z.cells.size=i.size)(hsz:i.size=sz)(hby:i.bytes=bytes)(ZX:0<sz) {fl:Bool}(hr:(ev1 d (.app sz bytes mv fl s x)).run σ=some ((),σ')):rx P M σ' a o w:=by
 subst hsz;subst hby;simp only[ev1]at hr;obtain⟨t1,σ1,h1,h2⟩:=fN hr;obtain⟨rfl,hs1⟩:=ij hI.tmr hs h1;obtain⟨t2,σ2,h3,h4⟩:=fN h2;obtain⟨rfl,Z0⟩:=ij hI.tmr hx h3;have old:((take1 true t1).bind λsv=>(take1 mv t2).bind λx=>TF d i.size i.bytes sv x).run σ2=some ((),σ')->rx P M σ' a o w:=by
  intro h4;obtain⟨sv,σ3,h5,h6⟩:=fN h4;obtain⟨G1,g1,_⟩:=lQ hI hs1 h5;obtain⟨xv,σ4,h7,h8⟩:=fN h6;obtain⟨G2,g2,_⟩:=lQ g1.1 (g1.tm Z0) h7;simp only[oNA,List.cons_append]at g2;have ZT:∀c c2,sv=.ow c->(xv=.ow c2\/xv=.sl c2)->(if(c++c2).all (λe=>e.length==i.size)&&decide (c.length+c2.length<=1099511627776)&&decide ((c.length+c2.length)*i.bytes<=140737488355328)then inst d false [.ow (c++c2)]else .fail).run σ4=some ((),σ')->rx P M σ' a o w:=by
   intro c c2 hc ZJ h9;split at h9;case isFalse=>simp[SP.run]at h9
   rename_i ZZ;simp only[oBA,oDE,oAE,beq_iff_eq]at ZZ;obtain⟨⟨ZK,ZI⟩,ZS⟩:=ZZ;subst hc;obtain⟨v',w',G',hrun,Zw,_,_⟩:=g2.1.append (P:=P) (c:=c) (c2:=c2) (X:=xv) rfl rfl ZJ t o.type e i z hu hi hz hzs ZX (λk h=>ZK _ (List.mem_append_left _ (oGX h))) (λk h=>ZK _ (List.mem_append_right _ (oGX h))) ZI ZS;refine yV Zw hd hN (λj hj=>?_) h9 (.inr ⟨rfl,v',rfl,rfl⟩) (w0:=w) ?_;obtain rfl:j=0:=by simp at hj;omega
   exact .inr rfl;simp[execOp,ho,resolve,invoke,builtin,hrun]
  unfold TF at h8;cases sv with
  |ow c=>cases xv with|ow c2=>exact ZT c c2 rfl (.inl rfl) h8|sl c2=>exact ZT c c2 rfl (.inr rfl) h8|_=>simp[SP.run]at h8
  |_=>simp[SP.run]at h8
 split at h4
 ·rename_i hc;simp only[oBA,Bool.not_eq_true']at hc;obtain⟨c2,σ4,h7,h8⟩:=fN h4;split at h8
  ·rename_i ZE;obtain⟨sv,σ3,h5,h9⟩:=fN h8
   have e4:σ4=σ2:=by
    have:=Kc hc.2 h7;exact this
   subst e4;obtain⟨G1,g1,_⟩:=lQ hI hs1 h5;unfold TF at h9
   cases sv with
   |ow c=>
    simp only at h9;split at h9
    case isFalse=>simp[SP.run]at h9
    rename_i ZZ;simp only[oBA,oDE,oAE,beq_iff_eq]at ZZ;obtain⟨⟨ZK,ZI⟩,ZS⟩:=ZZ;obtain⟨_,aX,capX,news,hxv,Os⟩:=QG (sz:=i.size) hI hc.2 Z0 h7 ZE (λk h=>ZK _ (List.mem_append_right _ (oGX h))) (G1.F M.A) (G1.φ M.hr 1);have Y2:=g1.1.hand_own (j:=0) (by simp) (by simp);simp only[oNA,List.getElem_cons_zero,List.getD_cons_zero]at Y2;obtain⟨v',w',G',hrun,Zw,_,_⟩:=g1.1.append0 (P:=P) (capX:=capX) t o.type e i z Y2 Os hu hi hz hzs ZX (λk h=>ZK _ (List.mem_append_left _ (oGX h))) (λk h=>ZK _ (List.mem_append_right _ (oGX h))) ZI ZS;rw[<- hxv]at hrun;refine yV Zw hd hN (λj hj=>?_) h9 (.inr ⟨rfl,v',rfl,rfl⟩) (w0:=w) ?_
    ·obtain rfl:j=0:=by simp at hj;omega
     exact .inr rfl
    ·simp[execOp,ho,resolve,invoke,builtin,hrun]
   |_=>simp[SP.run]at h9
  ·simp[SP.run]at h8
 exact old h4
end
def rC:w_->Nat->w_->w_|cs,_,[]=>cs|cs,off,v::r=>rC (cs.set off v) (off+1) r
theorem zE(vs:w_):∀(s off:Nat)(cs:s_),((vs.zipIdx s).foldl (λcs (x:Value×Nat)=>cs.setIfInBounds (off+x.2) x.1) cs).toList=rC cs.toList (off+s) vs:=by induction vs with|nil=>intro s off cs;rfl|cons v r ih=>intro s off cs;simp[rC];rw[ih];simp[Nat.add_assoc]
theorem LL(vs:w_):∀(off:Nat)(cs:w_),(rC cs off vs).length=cs.length:=by induction vs with|nil=>intro off cs;rfl|cons v r ih=>intro off cs;simp[rC,ih]
theorem LK(vs:w_):∀(pre Ye:w_),vs.length<=Ye.length->rC (pre++Ye) pre.length vs=pre++vs++Ye.drop vs.length:=by induction vs with|nil=>intro pre Ye _;simp[rC]|cons v r ih=>intro pre Ye h;cases Ye with|nil=>simp at h|cons u Ye=>simp[rC];have:=ih (pre++[v]) Ye (by simp_all);simp_all
theorem MA{sz:Nat}:∀(l:List (Nat×Value))(k:Nat)(pre Ye:w_),l.map (·.1)=List.range' k l.length->(∀p∈l,p.2.cells.size=sz)->pre.length=k*sz->Ye.length=l.length*sz ->Instr.fill (λi=>some (i*sz,sz)) (pre++Ye).toArray l=some (pre++l.flatMap (·.2.cells.toList)).toArray:=by
 intro l;induction l with
 |nil=>intro k pre Ye _ _ _ h;have:Ye=[]:=oEN (by simpa using h);subst this;simp[Instr.fill]|cons p l ih=>
 obtain⟨i,v⟩:=p;intro k pre Ye h1 h2 h3 h4;simp only[oPC,oLC,List.range'_succ,List.cons.injEq]at h1;obtain⟨rfl,h1⟩:=h1;have hv:v.cells.size=sz:=by simp_all
 simp only[Instr.fill,hv,ne_eq,not_true_eq_false,false_or];have hsuf:sz<=Ye.length:=by rw[h4,oLC,Nat.succ_mul];omega
 rw[oIN (by simp;omega)];have hf:=zE v.cells.toList 0 (i*sz) (pre++Ye).toArray;have hz:v.cells.zipIdx.foldl (λcs x=>cs.setIfInBounds (i*sz+x.2) x.1) (pre++Ye).toArray=(pre++v.cells.toList++Ye.drop sz).toArray:=by
  apply Array.ext';have e:v.cells.zipIdx.foldl (λcs x=>cs.setIfInBounds (i*sz+x.2) x.1) (pre++Ye).toArray=(v.cells.toList.zipIdx 0).foldl (λcs (x:Value×Nat)=>cs.setIfInBounds (i*sz+x.2) x.1) (pre++Ye).toArray:=by rw[<- Array.foldl_toList,Array.toList_zipIdx]
  rw[e,hf,<- h3,Nat.add_zero];rw[LK _ _ _ (by simp_all)];simp[hv]
 have WY:=hz;rw[WY,ih (i+1) (pre++v.cells.toList) (Ye.drop sz) h1 (λp hp=>h2 p (by simp[hp])) (by simp[h3,hv,Nat.succ_mul]) (by rw[List.length_drop,h4,oLC,Nat.succ_mul];omega)];simp
theorem DB(sz:Nat):∀(n:Nat)(l:U_),l.length=n*sz->(qf sz n l).flatten=l/\(qf sz n l).length=n/\∀i (h:i<(qf sz n l).length),(qf sz n l)[i].length=sz:=by
 intro n;induction n with
 |zero=>intro l h;have:l=[]:=oEN (by omega);subst this;exact⟨rfl,rfl,λi h=>by simp[qf]at h⟩|succ n ih=>
 intro l h;have hl:sz<=l.length:=by rw[h,Nat.succ_mul];omega
 have ⟨e1,e2,e3⟩:=ih (l.drop sz) (by rw[List.length_drop,h,Nat.succ_mul];omega);refine⟨by simp[qf,e1],by simp[qf,e2],λi hi=>?_⟩;cases i with|zero=>simp[qf];omega|succ i=>simpa[qf]using e3 i (by simpa[qf]using hi)
section
variable {P:Program} {M:Fm} {σ σ':St} {H:U_} {xs:w_} {ts:s_} {w:World} {G:Gh} {a:Act} {o:Oper}
theorem tI{mv:Bool}:∀{parts:e_}{pv:List Operand}{l:U_}{σ σ':St}{H:U_}{xs:w_}{G:Gh},Inv M σ H xs a.tmps w G->pv.map fZ=parts.map (λp=>some p.2.2)->(takeParts mv parts).run σ=some (l,σ')->∃G',pJ M w a.tmps σ H G σ' (H++l) (xs++pv.flatMap λx=>(a.eval x).cells.toList) G'/\(∀j (h:j<l.length),is l[j]=true\/nM l[j]=true)/\(∀k (h:k<parts.length)(h':k<pv.length),(a.eval pv[k]).cells.size=parts[k].2.1):=by
 intro parts;induction parts with
 |nil=>
 intro pv l σ σ' H xs G hI hp hr;obtain⟨rfl,rfl⟩:=hr;have:pv=[]:=by cases pv<;>simp at hp⊢
 subst this;exact⟨G,by simpa using pJ.refl hI,λj h=>by simp at h,λk h=>by simp at h⟩
 |cons p parts ih=>
 obtain⟨off,n,x⟩:=p;intro pv l σ σ' H xs G hI hp hr;cases pv with
 |nil=>simp at hp|cons y pv=>
 simp only[oPC,List.cons.injEq]at hp;obtain⟨hy,hp⟩:=hp;simp only[takeParts]at hr;obtain⟨t,σ1,h1,h2⟩:=fN hr;have hopd:σ1=σ/\TmR w (G.F M.A) σ.v (gy M σ H) G t (a.eval y):=by cases y with|tmp i=>simp only[fZ,oSJ]at hy;subst hy;obtain⟨rfl,rfl⟩:=h1;exact⟨rfl,hI.tmr i⟩|const v=>simp only[fZ,oSJ]at hy;subst hy;obtain⟨rfl,rfl⟩:=h1;exact⟨rfl,DU v⟩|func f=>simp only[fZ,oSJ]at hy;subst hy;obtain⟨rfl,rfl⟩:=h1;exact⟨rfl,.fn (by simp) (by simp)⟩|global g=>simp[fZ]at hy
 obtain⟨rfl,ht⟩:=hopd;obtain⟨l1,σ2,h3,h4⟩:=fN h2;split at h4;case isFalse=>simp[SP.run]at h4
 rename_i hn;obtain⟨l2,σ3,h5,h6⟩:=fN h4;simp only[SP.run,oSJ,oPJ]at h6;obtain⟨rfl,rfl⟩:=h6;have hc:∃G',pJ M w a.tmps σ1 H G σ2 (H++l1) (xs++(a.eval y).cells.toList) G'/\l1.length=(a.eval y).cells.size:=by
  by_cases hta:∃q,t=.agg q;obtain⟨q,rfl⟩:=hta;obtain⟨zs,hz,hl,hj⟩:=Pp ht;obtain⟨e1,e2,G',hg⟩:=uY (ys:=zs.toList) hI (by simp[hl,rK]) (λj h=>by have h':j<q.length:=h;have:=hj j h';simpa[rK]using this) h3;rw[hz];exact⟨G',by simpa[Value.cells]using hg,by rw[e1];simp[rK,Value.cells,hl]⟩;have e:rK t=[t]:=by cases t<;>first|rfl|exact absurd ⟨_,rfl⟩ hta
  rw[e]at h3;have XH:(a.eval y).cells=#[a.eval y]:=by simp only[takeL]at h3;obtain⟨t',σ1,h1,h2⟩:=fN h3;obtain⟨G',hg,ho⟩:=lQ hI ht h1;generalize a.eval y=z at ho;cases z<;>first|rfl|simp[Value.oneCell']at ho
  obtain⟨e1,e2,G',hg⟩:=uY (l:=[t]) (ys:=[a.eval y]) hI (by simp) (λj h=>by
   obtain rfl:j=0:=by simp at h;omega
   simpa using ht) h3
  rw[XH];exact⟨G',by simpa using hg,by rw[e1];rfl⟩
 obtain⟨G1,g1,e1⟩:=hc;obtain⟨G2,g2,ok2,sz2⟩:=ih g1.1 hp h5;refine⟨G2,by simpa using g1.trans g2,λj hj=>?_,λk hk YA=>?_⟩;by_cases hjl:j<l1.length;rw[List.getElem_append_left hjl];exact uZ h3 j hjl;rw[List.getElem_append_right (by omega)];exact ok2 _ _;cases k with|zero=>simp only[List.getElem_cons_zero];rw[<- e1];exact hn|succ k=>simpa using sz2 k (by simpa using hk) (by simpa using YA)
abbrev O_:=List Opd
theorem SF(hI:Inv M σ [] [] a.tmps w G){d sz len:Nat}{mv:Bool}(hd:o.dst=some d)(hN:M.ok d){t e:TypeId}{parts:Array (Nat×Operand)}{ps:O_}{i:TypeInfo}(ho:o.op=.buildSlice t len parts)(hu:P.underlying t=some (.slice e))(hi:P.info? e=some i)(hsz:i.size=sz) (hz:0<len*sz->∃z,i.zero=some z)(hp1:parts.toList.map (·.1)=List.range len)(hp2:parts.toList.map (λp=>fZ p.2)=ps.map some)(hmax:len*sz<=16777216)(hlm:len<=16777216)(hr:(ev1 d (.bsl sz mv len ps)).run σ=some ((),σ')):rx P M σ' a o w:=by
 simp only[ev1]at hr;obtain⟨l,σ1,h1,h2⟩:=fN hr;split at h2;case isFalse=>simp[SP.run]at h2
 rename_i hlen;obtain⟨G1,g1,hok,Xy⟩:=tI (a:=a) (pv:=parts.toList.map (·.2)) hI (by simpa[Function.comp_def]using hp2) h1;simp only[oNA]at g1;have B':parts.toList.length=len:=by have:=congrArg List.length hp1;simpa using this
 have hcs:∀p∈parts.toList.map (λp=>(p.1,a.eval p.2)),p.2.cells.size=sz:=by
  intro p hp;obtain⟨k,hk,rfl⟩:=List.getElem_of_mem hp;have YA:k<parts.toList.length:=by simpa using hk
  have:=Xy k (by simp;omega) (by simpa using YA);simpa using this
 have X6:(parts.toList.map (·.2)).flatMap (λx=>(a.eval x).cells.toList)=(parts.toList.map (λp=>(p.1,a.eval p.2))).flatMap (·.2.cells.toList):=by simp[List.flatMap_map]
 have hll:l.length=len*sz:=by
  have hh:=g1.1.hand;rw[hh,X6];have key:∀(q:List (Nat×Value)),(∀p∈q,p.2.cells.size=sz)->(q.flatMap (·.2.cells.toList)).length=q.length*sz:=by intro q;induction q with|nil=>intro _;simp|cons p q ih=>intro h;simp only[List.flatMap_cons,oLA,ih (λp hp=>h p (by simp[hp])),oLC,Nat.succ_mul];have:=h p (by simp);simp[this];omega
  rw[key _ hcs];simp[B']
 obtain⟨c1,c2,c3⟩:=DB sz len l hll;obtain⟨G2,ZN,_,_⟩:=g1.1.mkSlice (c:=qf sz len l) e c3 c1 (Ck hok) (by rw[c2];unfold maxLen;omega);rw[c2]at ZN;refine yV ZN hd hN (λj hj=>?_) h2 (.inr ⟨rfl,_,rfl,rfl⟩) (w0:=w) ?_;obtain rfl:j=0:=by simp at hj;omega
 exact .inr rfl
 ·
  have Yy:∀zc:w_,zc.length=len*sz->Instr.fill (λi=>some (i*sz,sz)) zc.toArray (parts.map λp=>(p.1,a.eval p.2)).toList=some ((parts.toList.map (·.2)).flatMap λx=>(a.eval x).cells.toList).toArray:=by
   intro zc hzc;have:=MA (sz:=sz) (parts.toList.map (λp=>(p.1,a.eval p.2))) 0 [] zc (by simp[Function.comp_def,hp1,B',List.range_eq_range']) hcs (by simp) (by simpa[B']using hzc);rw[X6];simpa using this
  have YB:¬(16777216<len*sz):=by omega
  have Yv:(sizeOf e).run P w=.ok sz w:=by simp[sizeOf,typeInfo,hi,hsz]
  by_cases h0:len*sz=0
  ·have hf:=Yy [] (by simp[h0])
   have hr0:(Array.range (len*sz)).map (λ(x:Nat)=>(#[]:s_)[x%(#[]:s_).size]!)=([]:w_).toArray:=by rw[h0];simp
   simp only[execOp,ho,Instr.buildSlice,Sem.run_bind,run_underlying hu,Result.andThen_ok,Yv,h0,Sem.run_ite,if_true,Sem.run_pure];rw[oIN (by omega)]
   try simp only[Result.andThen_ok]
   rw[show(Array.range 0).map (λ(x:Nat)=>(#[]:s_)[x%(#[]:s_).size]!)=([]:w_).toArray by simp,hf];simp[newRow]
  ·obtain⟨z,hz⟩:=hz (by omega)
   have hzv:(zeroValue e).run P w=.ok z w:=by simp[zeroValue,typeInfo,hi,hz]
   have hf:=Yy ((Array.range (len*sz)).map (λx=>z.cells[x%z.cells.size]!)).toList (by simp);simp only[Array.toArray_toList]at hf;simp only[execOp,ho,Instr.buildSlice,Sem.run_bind,run_underlying hu,Result.andThen_ok,Yv,Sem.run_ite,Sem.run_pure];rw[oIN (by omega),oIN h0];simp only[Result.andThen_ok,hzv];rw[hf];simp[newRow]
end
theorem Ei{R:TV->Value->Prop}:∀(l:U_)(ys:w_)(cells:U_)(vals:w_)(off:Nat),cells.length=vals.length->(∀j (h:j<cells.length)(h':j<vals.length),R cells[j] vals[j])->l.length=ys.length->(∀j (h:j<l.length)(h':j<ys.length),R l[j] ys[j])->(nJ cells off l).length=(rC vals off ys).length/\∀j (h:j<(nJ cells off l).length)(h':j<(rC vals off ys).length),R (nJ cells off l)[j] (rC vals off ys)[j]:=by intro l;induction l with|nil=>intro ys cells vals off h1 h2 h3 _;have:=oEN h3.symm;subst this;exact⟨h1,h2⟩|cons t l ih=>intro ys cells vals off h1 h2 h3 h4;cases ys with|nil=>simp at h3|cons y ys=>refine ih ys _ _ _ (by simp[h1]) (λj h h'=>?_) (by simpa using h3) (λj h h'=>h4 (j+1) (by simpa using h) (by simpa using h'));simp only[List.getElem_set];by_cases hj:off=j;simp only[hj,if_true];exact h4 0 (by simp) (by simp);simp only[oIN hj];exact h2 j (by simpa using h) (by simp_all)
def qd:w_->e_->w_->w_|vals,[],_=>vals|vals,(off,n,_)::r,ys=>qd (rC vals off (ys.take n)) r (ys.drop n)
theorem sW{R:TV->Value->Prop}:∀(parts:e_)(l:U_)(ys:w_)(cells:U_)(vals:w_),cells.length=vals.length->(∀j (h:j<cells.length)(h':j<vals.length),R cells[j] vals[j])->l.length=ys.length->(∀j (h:j<l.length)(h':j<ys.length),R l[j] ys[j])->(sT cells parts l).length=(qd vals parts ys).length/\∀j (h:j<(sT cells parts l).length)(h':j<(qd vals parts ys).length),R (sT cells parts l)[j] (qd vals parts ys)[j]:=by intro parts;induction parts with|nil=>intro l ys cells vals h1 h2 _ _;exact⟨h1,h2⟩|cons p parts ih=>have ⟨off,n,x⟩:=p;intro l ys cells vals h1 h2 h3 h4;have ⟨g1,g2⟩:=Ei (l.take n) (ys.take n) cells vals off h1 h2 (by simp[h3]) (λj h h'=>by simp;exact h4 j _ _);exact ih (l.drop n) (ys.drop n) _ _ g1 g2 (by simp[h3]) (λj h h'=>by simp;exact h4 _ _ _)
theorem B4{place:Nat->Option (Nat×Nat)}:∀(l:List (Nat×Value))(parts:e_)(cells:s_),l.length=parts.length->(∀k (h:k<l.length)(h':k<parts.length),place l[k].1=some (parts[k].1,parts[k].2.1)/\l[k].2.cells.size=parts[k].2.1/\parts[k].1+parts[k].2.1<=cells.size)->Instr.fill place cells l=some (qd cells.toList parts (l.flatMap (·.2.cells.toList))).toArray:=by
 intro l;induction l with
 |nil=>intro parts cells h _;have:parts=[]:=oEN (by simp_all);subst this;simp[Instr.fill,qd]|cons p l ih=>
 obtain⟨i,v⟩:=p;intro parts cells h1 h2;cases parts with
 |nil=>simp at h1|cons q parts=>
 obtain⟨off,n,x⟩:=q;have h0:=h2 0 (by simp) (by simp);obtain⟨p1,p2,p3⟩:=h0;have p2':v.cells.size=n:=p2;have p1':place i=some (off,n):=p1;simp only[Instr.fill,p1'];have hz:v.cells.zipIdx.foldl (λcs x=>cs.setIfInBounds (off+x.2) x.1) cells=(rC cells.toList off v.cells.toList).toArray:=by
  apply Array.ext';have e:v.cells.zipIdx.foldl (λcs x=>cs.setIfInBounds (off+x.2) x.1) cells=(v.cells.toList.zipIdx 0).foldl (λcs (x:Value×Nat)=>cs.setIfInBounds (off+x.2) x.1) cells:=by rw[<- Array.foldl_toList,Array.toList_zipIdx]
  rw[e,zE];simp
 have WY:=hz;rw[WY,ih parts _ (by simpa using h1) (λk h h'=>by have:=h2 (k+1) (by simpa using h) (by simpa using h');simpa[LL]using this)];simp only[qd,List.flatMap_cons];simp_all
section
variable {P:Program} {M:Fm} {σ σ':St} {H:U_} {xs:w_} {ts:s_} {w:World} {G:Gh} {a:Act} {o:Oper}
abbrev p_:=List (Nat×Nat)
theorem Bg(ZL:List Field)(sz:Field->Nat)(h:∀f∈ZL,(sizeOf f.type).run P w=.ok (sz f) w):((ZL.mapM λf=>do pure (f.offset,<- sizeOf f.type):Sem p_)).run P w=.ok (ZL.map λf=>(f.offset,sz f)) w:=by induction ZL with|nil=>simp|cons f r ih=>simp_all
theorem SH(hI:Inv M σ [] [] a.tmps w G){d:Nat}{mv:Bool}(hd:o.dst=some d)(hN:M.ok d){t:TypeId}{parts:Array (Nat×Operand)}{ps:e_}{z:w_}{ZL:Array Field}{szf:Field->Nat}(ho:o.op=.build t parts)(hu:P.underlying t=some (.struct ZL)) (hz:(P.info? t).bind (·.zero.map (·.cells.toList))=some z)(hsz:∀f∈ZL.toList,(P.info? f.type).map (·.size)=some (szf f))(hp1:parts.size=ps.length) (hp2:∀k (h:k<parts.size)(h':k<ps.length),fZ parts[k].2=some ps[k].2.2/\((ZL[parts[k].1]?).map λf=>(f.offset,szf f))=some (ps[k].1,ps[k].2.1)/\ps[k].1+ps[k].2.1<=z.length) (hr:(ev1 d (.bld z mv ps)).run σ=some ((),σ')):rx P M σ' a o w:=by
 simp only[ev1]at hr;split at hr;case isFalse=>simp[SP.run]at hr
 rename_i hok;obtain⟨l,σ1,h1,h2⟩:=fN hr;obtain⟨l',σ2,h3,h4⟩:=fN h2;obtain⟨G1,g1,hokl,Xy⟩:=tI (a:=a) (pv:=parts.toList.map (·.2)) hI (by apply List.ext_getElem;simp[hp1];intro k hk YA;have:=(hp2 k (by simpa using hk) (by simpa using YA)).1;simpa using this) h1;simp only[oNA]at g1;obtain⟨G2,ZN,_,Ya,YP⟩:=AL (λ_=>hN.2) g1.1 hokl h3;obtain⟨ys,hys⟩:∃ys,ys=(parts.toList.map (·.2)).flatMap (λx=>(a.eval x).cells.toList):=⟨_,rfl⟩;rw[<- hys]at g1 YP;have hlen:l'.length=ys.length:=by rw[Ya];exact g1.1.hand
 have hzc:∀j (h:j<(z.map iL).length)(h':j<z.length),TmR w (G2.F M.A) σ2.v (gy M σ2 []) G2 (z.map iL)[j] z[j]:=λj h h'=>by simp only[List.getElem_map];exact w8 _
 obtain⟨r1,r2⟩:=sW (R:=TmR w (G2.F M.A) σ2.v (gy M σ2 []) G2) ps l' ys (z.map iL) z (by simp) hzc hlen (λj h h'=>by have:=YP j h;simpa[h']using this);refine kG ZN hd hN (x:=.agg (qd z ps ys).toArray) (.agg (by simp[r1]) λj hj=>by have:=r2 j hj (by omega);simpa[show j<(qd z ps ys).length by omega]using this) h4 ?_;cases hi:P.info? t with
 |none=>simp[hi]at hz|some i=>
 simp only[hi,oBS]at hz;cases hiz:i.zero with
 |none=>simp[hiz]at hz|some v=>
 simp only[hiz,oMS,oSJ]at hz;have hzv:(zeroValue t).run P w=.ok v w:=by simp[zeroValue,typeInfo,hi,hiz]
 have Yv:∀f∈ZL.toList,(sizeOf f.type).run P w=.ok (szf f) w:=by intro f hf;have:=hsz f hf;unfold sizeOf typeInfo;cases hi:P.info? f.type with|none=>simp[hi]at this|some i=>simp[hi]at this;simp[hi,this]
 have hm:=Bg ZL.toList szf Yv;have hma:((ZL.mapM λf=>do pure (f.offset,<- sizeOf f.type):Sem (Array (Nat×Nat)))).run P w=.ok (ZL.map λf=>(f.offset,szf f)) w:=by rw[Array.mapM_eq_mapM_toList];simp only[Sem.run_map,hm,Result.andThen_ok];congr 1;apply Array.ext';simp
 have Yy:=B4 (place:=λi=>(ZL.map λf=>(f.offset,szf f))[i]?) (parts.toList.map λp=>(p.1,a.eval p.2)) ps v.cells (by simp[hp1]) (λk h h'=>by
  have hk:k<parts.size:=by simpa using h
  obtain⟨q1,q2,q3⟩:=hp2 k hk h';have q4:=Xy k h' (by simpa using hk);refine⟨by simpa using q2,by simpa using q4,?_⟩;rw[<- hz]at q3;simpa using q3)
 have ZE:((parts.toList.map λp=>(p.1,a.eval p.2)).flatMap (·.2.cells.toList))=ys:=by rw[hys];simp[List.flatMap_map]
 rw[ZE,hz]at Yy;simp only[execOp,ho,Instr.build,Sem.run_bind,hzv,Result.andThen_ok,run_underlying hu,hma,Array.toList_map];rw[Yy];simp
end
section
variable {P:Program} {M:Fm} {σ σ':St} {H:U_} {xs:w_} {ts:s_} {w:World} {G:Gh} {a:Act} {o:Oper}
theorem ru.window'{F:Nat->Prop}{c:o_}{a0:t_}{len cap:Nat}(h:ru w F (.sl c) (.slice a0 len cap))(sz lo n:Nat)(hs:∀i (h:i<c.length),c[i].length=sz)(hln:lo+n<=c.length){a:t_}{ZP:Nat}(hn:n<=ZP) (hm:ZP<=maxLen)(hnil:a=none->ZP=0)(ha:∀b o,0<n->a0=some ⟨b,o,none⟩->a=some ⟨b,o+lo*sz,none⟩):ru w F (.sl ((c.drop lo).take n)) (.slice a n ZP):=by
 cases h with
 |sl sz' u hsz hcap hmax hnil' hcell hrec=>
 have hl:((c.drop lo).take n).length=n:=by simp;omega
 have key:=ru.sl (w:=w) (c:=(c.drop lo).take n) sz (λi j=>u (lo+i) j) (λi hi=>by
  simp;exact hs _ (by omega)) (by omega) hm hnil (λi j hi hj=>by
  have hz:sz'=sz:=by rw[<- hsz (lo+i) (by omega),hs (lo+i) (by omega)]
  subst hz;obtain⟨b',o',e,hF,hc⟩:=hcell (lo+i) j (by omega) hj;exact⟨b',o'+lo*sz',ha _ _ (by omega) e,hF,by rw[show o'+lo*sz'+(i*sz'+j)=o'+((lo+i)*sz'+j) by rw[Nat.add_mul];omega];exact hc⟩) (λi j hi hj=>by have:=hrec (lo+i) j (by omega) (by simp_all);simpa using this)
 simp_all
theorem Hf{F:Nat->Prop}(hI:Inv M σ [] [] a.tmps w G){q:Option Opd}{q':Option Operand}{TP n:Nat}(hq:q'.map fZ=q.map some)(hr:(optNat q TP).run σ=some (n,σ')):σ'=σ/\((q'=none/\n=TP)\/∃x k i,q'=some x/\a.eval x=.int k i/\0<=i/\n=i.toNat):=by
 cases q with
 |none=>cases q' with|none=>simp[optNat,SP.run]at hr;simp_all|some _=>simp_all
 |some x=>cases q' with|none=>simp_all|some x'=>simp at hq;have ⟨t,σ1,h1,h2⟩:=fN hr;obtain⟨rfl,ht⟩:=ij hI.tmr hq h1;obtain⟨k,i,rfl,h0,hn,rfl⟩:=vg h2;exact⟨rfl,.inr ⟨x',k,i,rfl,ht.v_inv.1,h0,hn⟩⟩
theorem Bh{x:Value}{k:IntKind}{i:Int}{y:Nat}{code:BoundsCode}(hx:x=.int k i)(h0:0<=i)(hy:i.toNat<=y):(Instr.sliceBound x y code).run P w=.ok i.toNat w:=by
 subst hx;have:i<=(y:Int):=by omega
 simp[Instr.sliceBound,asIntOf,h0,this]
theorem Sr(hI:Inv M σ [] [] a.tmps w G){d sz:Nat}(hd:o.dst=some d)(hN:M.ok d){x:Opd}{x':Operand}{lo hi:Option Opd}{lo' Zk:Option Operand}{t e:TypeId}(hx:fZ x'=some x)(hlo:lo'.map fZ=lo.map some)(hhi:Zk.map fZ=hi.map some)(ho:o.op=.slice t x' lo' Zk none) (hu:P.underlying t=some (.slice e))(hs:(P.info? e).map (·.size)=some sz)(hr:(ev1 d (.slc sz x lo hi)).run σ=some ((),σ')):rx P M σ' a o w:=by
 have Yv:(sizeOf e).run P w=.ok sz w:=by unfold sizeOf typeInfo;cases hi:P.info? e with|none=>simp[hi]at hs|some i=>simp[hi]at hs;simp[hi,hs]
 simp only[ev1]at hr;obtain⟨tx,σ1,h1,h2⟩:=fN hr;obtain⟨rfl,Z0⟩:=ij hI.tmr hx h1;obtain⟨n,σ2,h3,h4⟩:=fN h2;obtain⟨rfl,hlen⟩:=Ho (F:=G.F M.A) hI Z0 h3;obtain⟨l,σ3,h5,h6⟩:=fN h4;obtain⟨rfl,hl⟩:=Hf (F:=G.F M.A) hI hlo h5;obtain⟨h,σ4,h7,h8⟩:=fN h6;obtain⟨rfl,hh⟩:=Hf (F:=G.F M.A) hI hhi h7;split at h8;case isFalse=>simp[SP.run]at h8
 rename_i ZZ;simp only[oBA,oDE]at ZZ;obtain⟨hlh,hhn⟩:=ZZ;have run:∀(b:t_)(cap:Nat),a.eval x'=.slice b n cap->n<=cap->(execOp a.eval o).run P w=.ok (.value (.slice (if cap=l then b else b.map (·.add (l*sz))) (h-l) (cap-l))) w:=by
  intro b cap Wl hnc;have hb:(Instr.sliceBounds true n cap (lo'.map a.eval) (Zk.map a.eval) none).run P w=.ok (l,h,cap) w:=by unfold Instr.sliceBounds;rcases hh with⟨rfl,rfl⟩|⟨xh,kh,ih,rfl,eh,h0h,rfl⟩;rcases hl with⟨rfl,rfl⟩|⟨xl,kl,il,rfl,el,h0l,rfl⟩;simp;have:=Bh (P:=P) (w:=w) (code:=.sliceB) el h0l hlh;simp[this];have hbh:=Bh (P:=P) (w:=w) (y:=cap) (code:=.sliceAcap) eh h0h (by omega);rcases hl with⟨rfl,rfl⟩|⟨xl,kl,il,rfl,el,h0l,rfl⟩;simp[hbh];have:=Bh (P:=P) (w:=w) (code:=.sliceB) el h0l hlh;simp[hbh,this]
  simp[execOp,ho,Wl,Instr.sliceAt,run_underlying hu,Instr.slice,hb,Yv]
 have hcap:∀b n2 cap,a.eval x'=.slice b n2 cap->n2=n->n<=cap:=by intro b n2 cap e1 e2;obtain⟨aa,ZP,e3,h9⟩:=hlen;rw[e1]at e3;injection e3 with _ _ e3;omega
 cases tx with
 |sl c=>
 simp only at h8;generalize hz:a.eval x'=z at Z0 run hcap;cases Z0 with
  |sl ZH=>
  have himm':=ZH;cases ZH with
  | @sl _ aa cap sz' u hsz hcap0 hmax hnil hcell hrec=>
  have hn:n=c.length:=by simp only[vE,SP.run,oSJ,oPJ]at h3;exact h3.1.symm
  subst hn;split at h8;case isFalse=>simp[SP.run]at h8
  rename_i ZK;simp only[oAE,beq_iff_eq]at ZK;refine kG hI hd hN (x:=.slice (if cap=l then aa else aa.map (·.add (l*sz))) (h-l) (cap-l)) (.sl ?_) h8 (run _ _ rfl hcap0);refine himm'.window' sz l (h-l) (λi hi=>ZK _ (oGX hi)) (by omega) (by omega) (by omega) (λhn=>?_) (λb ob hp e1=>?_);by_cases hc:cap=l;omega;rw[oIN hc]at hn;have:aa=none:=by cases aa<;>simp at hn⊢
  have:=hnil this;omega;rw[oIN (by omega),e1];simp[iZ]
 |ow c=>
 obtain⟨rfl,ad,Wl⟩:=Z0.ow_inv;have hn:n=0:=by simp only[vE,SP.run,oSJ,oPJ]at h3;exact h3.1.symm
 subst hn;simp only at h8;have:=run ad 0 Wl (oLE _);have qN:l=0:=by omega
 have hh0:h=0:=by omega
 subst qN;subst hh0;exact KZ hI hd hN h8 (by simpa using this)
 |pk p vs=>
 simp only at h8;obtain⟨tt,σ5,h9,h10⟩:=fN h8;obtain⟨e3,hg⟩:=iD h9;have e3:σ5=σ4:=e3;subst e3;simp only[vE]at h3;obtain⟨_,σ6,q1,q2⟩:=fN h3;have e1:σ6=σ5:=(gt q1).1;have e2:=(gt q1).2;subst e1;rw[Fh]at q2;obtain⟨tt2,σ7,q3,q4⟩:=fN q2;obtain⟨e4,Zu⟩:=iD q3;generalize hz:a.eval x'=z at Z0 run hcap;have ht:=Z0;cases Z0 with
  |pk V0 h0 hv hok=>
  obtain⟨Z6,c,Zy,Zx⟩:=hok e2;have Zl:gE (σ6.c p.root p.off) p.hops=some (.ow c):=by rw[gv (by exact Z6)]at Zx;exact Zx
  rw[Zl]at hg Zu;injection hg with hg
  injection Zu with Zu
  subst hg;have Zu:TV.ow c=tt2:=Zu;subst Zu;simp only[TV.hd,SP.run,oLP,oSJ,oPJ]at q4;have hn:n=c.length:=q4.1.symm;subst hn;simp only at h10;split at h10;case isFalse=>simp[SP.run]at h10
  rename_i ZK;simp only[oAE,beq_iff_eq]at ZK;obtain⟨fp,hown⟩:=zj hI Zy Zx;obtain⟨aa,cap,rfl,Yh⟩:=hown.hdr;refine kG hI hd hN (x:=.slice (if cap=l then aa else aa.map (·.add (l*sz))) (h-l) (cap-l)) ?_ h10 (run _ _ rfl Yh);have Wy:cap<=maxLen:=by cases hown with|nil=>exact Nat.zero_le _|ow=>assumption
  refine .pw V0 h0 hv λ_=>⟨Z6,c,_,Zy,Zx,by omega,_,_,rfl,by omega,by omega,λhn=>?_,λi hi=>ZK _ (oGX hi),λhp=>?_⟩;by_cases hc:cap=l;omega;rw[oIN hc]at hn;have:aa=none:=by cases aa<;>simp at hn⊢
  subst this;cases hown;omega;rw[oIN (by omega)];cases hown with|nil=>simp at hp|ow=>exact⟨_,_,_,rfl,by simp[iZ]⟩
 |pw p vs sz' lo0 n0=>
 simp only at h8;split at h8;case isFalse=>simp[SP.run]at h8
 rename_i hsz;subst hsz;simp only[vE]at h3;obtain⟨_,σ6,q1,q2⟩:=fN h3;have e1:σ6=σ4:=(gt q1).1;have e2:=(gt q1).2;subst e1;simp only[SP.run,oSJ,oPJ]at q2;have hn:n=n0:=q2.1.symm;subst hn;generalize hz:a.eval x'=z at Z0 run hcap;cases Z0 with
  |pw V0 h0 hv hok=>
  obtain⟨Z6,c,Yn,Zy,Zx,hln,aa,cap,rfl,hmc,Wy,hnil,hszs,E'⟩:=hok e2;refine kG hI hd hN (x:=.slice (if cap=l then aa else aa.map (·.add (l*sz'))) (h-l) (cap-l)) ?_ h8 (run _ _ rfl hmc.1);refine .pw V0 h0 hv λ_=>⟨Z6,c,Yn,Zy,Zx,by omega,_,_,rfl,by omega,by omega,λhn=>?_,hszs,λhp=>?_⟩;by_cases hc:cap=l;omega;rw[oIN hc]at hn;have:aa=none:=by cases aa<;>simp at hn⊢
  have:=hnil this;omega;rw[oIN (by omega)];obtain⟨b,len,ZP,rfl,rfl⟩:=E' (by omega);exact⟨b,len,ZP,rfl,by simp[iZ,Nat.add_mul]⟩
 |_=>simp[SP.run]at h8
theorem Hk(z:w_)(n:Nat):madeCells z.toArray (n*z.length)=((List.replicate n z).flatten).toArray:=by
 apply Array.ext';apply oEG;intro k;unfold madeCells;by_cases h:k<n*z.length;have hz:0<z.length:=by grind
 have h1:k/z.length<n:=Nat.div_lt_of_lt_mul (by grind);have h2:k%z.length<z.length:=Nat.mod_lt _ hz;have hk:k=k/z.length*z.length+k%z.length:=by rw[Nat.mul_comm];exact(Nat.div_add_mod k z.length).symm
 have h3:=wF (c:=List.replicate n z) (sz:=z.length) (λi hi=>by simp) (by simpa using h1) (by simpa using h2);rw[<- hk]at h3;have e:((Array.range (n*z.length)).map λx=>z.toArray[x%z.toArray.size]!).toList[k]?=some z[k%z.length]:=by simp[h,h2]
 rw[e];simpa using h3.symm;simp_all
theorem Sx(hI:Inv M σ [] [] a.tmps w G){d sz:Nat}{z:w_}(hd:o.dst=some d)(hN:M.ok d){l c:Opd}{l' c':Operand}{t e:TypeId}{i:TypeInfo}{zv:Value}(hl:fZ l'=some l)(hc:fZ c'=some c)(ho:o.op=.makeSlice t l' c') (hu:P.underlying t=some (.slice e))(hi:P.info? e=some i)(hz:i.zero=some zv)(hzc:zv.cells.toList=z)(hsz:i.size=sz)(hby:i.bytes<=16777216*sz)(ZD:0<sz)(hr:(ev1 d (.mks sz z l c)).run σ=some ((),σ')):rx P M σ' a o w:=by
 subst hsz;simp only[ev1]at hr;split at hr;case isFalse=>simp[SP.run]at hr
 rename_i ZZ;simp only[oBA,beq_iff_eq]at ZZ;obtain⟨hok,hzl⟩:=ZZ;obtain⟨t1,σ1,h1,h2⟩:=fN hr;obtain⟨rfl,Xu⟩:=ij hI.tmr hl h1;obtain⟨t2,σ2,h3,h4⟩:=fN h2;obtain⟨rfl,ZM⟩:=ij hI.tmr hc h3;obtain⟨n,σ3,h5,h6⟩:=fN h4;obtain⟨k1,i1,rfl,hn0,hn,rfl⟩:=vg h5;obtain⟨m,σ4,h7,h8⟩:=fN h6;obtain⟨k2,i2,rfl,hm0,hm,rfl⟩:=vg h7;split at h8;case isFalse=>simp[SP.run]at h8
 rename_i ZZ;simp only[oBA,oDE]at ZZ;obtain⟨hnm,hbound⟩:=ZZ;obtain⟨el,_⟩:=Xu.v_inv;obtain⟨ec,_⟩:=ZM.v_inv;have hn24:n<=16777216:=by
  calc n=n*1:=by omega
   _<=n*i.size:=Nat.mul_le_mul_left _ ZD
   _<=16777216:=hbound
 have hok2:(((List.replicate n z).flatten).map iL).all is=true:=by rw[oAE]at hok⊢;intro x hx;simp only[List.mem_map,List.mem_flatten,List.mem_replicate]at hx;obtain⟨y,⟨q,⟨_,rfl⟩,hy⟩,rfl⟩:=hx;exact hok _ (List.mem_map_of_mem hy)
 obtain⟨G1,g1⟩:=hI.addHandL hok2;simp only[oNA]at g1;have Y6:∀j (h:j<(((List.replicate n z).flatten).map iL).length),is ((((List.replicate n z).flatten).map iL))[j]=true:=λj h=>oAE.1 hok2 _ (oGX h);obtain⟨G2,ZN,_,_⟩:=g1.1.mkSlice (c:=List.replicate n (z.map iL)) (sz:=i.size) e (λk hk=>by simp[hzl]) (by rw[List.map_flatten,List.map_replicate]) (Ck λj h=>.inl (Y6 j h)) (by simp;unfold maxLen;omega);refine yV ZN hd hN (λj hj=>?_) h8 (.inr ⟨rfl,_,rfl,rfl⟩) (w0:=w) ?_;obtain rfl:j=0:=by simp at hj;omega
 exact .inr rfl;have hbb:(i.bytes:Int)*i2<=281474976710656:=by
  have h9:i.bytes*n<=16777216*i.size*n:=Nat.mul_le_mul_right _ hby;have h10:16777216*i.size*n=16777216*(n*i.size):=by rw[Nat.mul_assoc,Nat.mul_comm i.size n]
  have WL:i.bytes*n<=281474976710656:=by rw[h10]at h9;omega
  have h12:i2=(n:Int):=by omega
  rw[h12,<- Int.natCast_mul];exact Int.ofNat_le.2 WL
 have hrun:=run_make (P:=P) w t e i zv hu hi hz k1 k2 i1 i2 hn0 (by omega) hbb (by omega);have e1:i1.toNat=n:=hn.symm;have e2:i2.toNat=n:=by omega
 have e3:zv.cells=z.toArray:=by rw[<- hzc]
 rw[e1,e2,e3,<- hzl,Hk]at hrun;simp[execOp,ho,el,ec,hrun]
theorem Sz(hI:Inv M σ [] [] a.tmps w G){d:Nat}(hd:o.dst=some d)(hN:M.ok d){x i:Opd}{x' i':Operand}{t:TypeId}(hx:fZ x'=some x)(hi:fZ i'=some i)(ho:o.op=.index t x' i')(hu:P.underlying t=some .string)(hr:(ev1 d (.ixs x i)).run σ=some ((),σ')):rx P M σ' a o w:=by
 simp only[ev1]at hr;obtain⟨tx,σ1,h1,h2⟩:=fN hr;obtain⟨rfl,Z0⟩:=ij hI.tmr hx h1;obtain⟨ti,σ2,h3,h4⟩:=fN h2;obtain⟨rfl,Xr⟩:=ij hI.tmr hi h3;obtain⟨k,σ3,h5,h6⟩:=fN h4;obtain⟨ik,n,rfl,hn0,hk,rfl⟩:=vg h5;obtain⟨ei,_⟩:=Xr.v_inv;cases tx with
 |v y=>
 obtain⟨ex,_⟩:=Z0.v_inv;cases y with
  |string s=>simp only at h6;cases hb:s[k]? with|none=>simp[hb,SP.run]at h6|some b=>simp only[hb]at h6;subst hk;exact kG hI hd hN (.v rfl) h6 (by simp[execOp,ho,ex,ei,Instr.index,asIntOf,run_underlying hu,hn0,hb])
  |_=>simp[SP.run]at h6
 |_=>simp[SP.run]at h6
theorem Ta{β:Type}{f:Opd->SP β}{R:β->Operand->Prop}(hf:∀x x' y σ',fZ x'=some x->(f x).run σ=some (y,σ')->σ'=σ/\R y x'):∀{l:O_}{l':List Operand}{r:List β}{σ':St},l'.map fZ=l.map some->(Ur f l).run σ=some (r,σ')->σ'=σ/\r.length=l'.length/\∀k (h:k<r.length)(h':k<l'.length),R r[k] l'[k]:=by intro l;induction l with|nil=>intro l' r σ' h1 h2;simp only[Ur,SP.run,oSJ,oPJ]at h2;simp_all|cons x l ih=>intro l' r σ' h1 h2;cases l' with|nil=>simp at h1|cons x' l'=>simp at h1;obtain⟨y,σ1,h3,h4⟩:=fN h2;obtain⟨rfl,hy⟩:=hf x x' y σ1 h1.1 h3;obtain⟨r2,σ2,h5,h6⟩:=fN h4;obtain⟨rfl,rfl⟩:=h6;obtain⟨e1,e2,e3⟩:=ih h1.2 h5;refine⟨e1,by simp[e2],λk h h'=>?_⟩;cases k with|zero=>exact hy|succ k=>exact e3 k (by simp_all) (by simp_all)
end
section
variable {P:Program} {M:Fm} {σ σ':St} {H:U_} {xs:w_} {ts:s_} {w:World} {G:Gh}
theorem Inv.rehandL(hI:Inv M σ H xs ts w G){w':World}{H':U_}{xs':w_}{f:Nat->Nat->Prop}{Fx:Nat->Prop}(hw:∀k,k<w.heap.size->(∀j,¬G.φ M.hr j k)->w'.heap[k]?=w.heap[k]?)(hs:w.heap.size<=w'.heap.size) (ho:w'.os=w.os)(ht:w'.tape=w.tape)(hu:w'.output=w.output)(hlen:H'.length=xs'.length)(hf:∀j k,f j k->j<H'.length/\((∃i,G.φ M.hr i k)\/w.heap.size<=k))(hdis:∀j j' k,f j k->f j' k->j=j') (hFx:∀k,Fx k->(G.F M.A k\/(∃i,G.φ M.hr i k)\/w.heap.size<=k)/\∀j,¬f j k)(hown:∀j (h:j<H'.length),(H'[j]=.dead/\∀k,¬f j k)\/jD w' Fx (f j) H'[j] (xs'.getD j undef)):∃G',Inv M σ H' xs' ts w' G'/\nA M w σ H G w' σ H' G'/\G'.β=G.β/\∀r o k,r≠1->(G'.φ r o k↔G.φ r o k):=by
 let G':Gh:=⟨G.β,λr o=>if r=M.hr then xs'.getD o undef else G.η r o,λr o k=>if r=M.hr then f o k else G.φ r o k⟩;have Z7:∀r o k,G'.φ r o k->(r=M.hr/\f o k)\/(r≠M.hr/\G.φ r o k):=by intro r o k hk;simp only[G']at hk;by_cases e:r=M.hr;rw[oIP e]at hk;exact .inl ⟨e,hk⟩;rw[oIN e]at hk;exact .inr ⟨e,hk⟩
 have Ze:∀k,G.F M.A k->k<w.heap.size->G'.F M.A k:=by rintro k ⟨a1,a2,a3⟩ hk;refine⟨a1,λr o h=>?_,a3⟩;rcases Z7 r o k h with⟨_,h1⟩|⟨_,h1⟩;rcases(hf _ k h1).2 with⟨j,h2⟩|h2;exact a2 _ _ h2;omega;exact a2 _ _ h1
 have Yk:∀k,G.F M.A k->k<w.heap.size->w'.heap[k]?=w.heap[k]?:=λk ⟨_,a2,_⟩ hk=>hw k hk λj=>a2 _ _;have hφ:∀r o,r≠M.hr->∀k,G.φ r o k->w'.heap[k]?=w.heap[k]?:=λr o h k hk=>hw k (hI.core.live hk) λj hj=>h (hI.core.dis _ _ _ _ k hk hj).1;have Yz:=λr b o n hb=>hw b (hI.core.boxlt hb) λj=>hI.core.boxf r b o n hb _ _;have hk:=wO (H':=H') (G':=G') hI hw rfl (λr o h=>by simp[G',show r≠M.hr from h]);have hfd:∀r o k,r≠M.hr->G.φ r o k->∀j,¬f j k:=by intro r o k h hk j hf';rcases(hf j k hf').2 with⟨i,h2⟩|h2;exact h (hI.core.dis _ _ _ _ k hk h2).1;have:=hI.core.live hk;omega
 have hF:=hI.fram;have hallow:∀k,((∃i,G.φ M.hr i k)\/w.heap.size<=k)->M.A k:=by rintro k (⟨i,h⟩|h);exact hI.core.allow _ _ k h;exact M.hA k (Nat.le_trans hF.size h)
 have hnbox:∀k,((∃i,G.φ M.hr i k)\/w.heap.size<=k)->∀r b o n,G.β r=some (b,o,n)->k≠b:=by rintro k (⟨i,h⟩|h) r b o n hb rfl;exact hI.core.boxf r k o n hb _ _ h;have:=hI.core.boxlt hb;omega
 have hFxF:∀k,Fx k->G'.F M.A k:=by intro k hk;obtain⟨h1,h2⟩:=hFx k hk;refine⟨?_,λr o h=>?_,λr b o n hb=>?_⟩;rcases h1 with h1|h1;exact h1.1;exact hallow k h1;rcases Z7 r o k h with⟨_,h3⟩|⟨h3,h4⟩;exact h2 _ h3;rcases h1 with h1|⟨i,h1⟩|h1;exact h1.2.1 _ _ h4;exact h3 (hI.core.dis _ _ _ _ k h4 h1).1;have:=hI.core.live h4;omega;rcases h1 with h1|h1;exact h1.2.2 r b o n hb;exact hnbox k h1 r b o n hb
 have Zh:nO M.A (gy M σ H') w' G':=by
  refine⟨λr o=>?_,λr b o0 n hb=>?_,λr b o0 n hb o ho=>?_,hI.core.boxd,λr b o n hb r2 o2 hk=>?_,λr1 o1 r2 o2 k h1 h2=>?_,λr o k h=>?_⟩;by_cases e:r=M.hr;subst e;have Zj:∀k,G'.φ M.hr o k↔f o k:=λk=>by simp[G']
  by_cases e2:o<H'.length;have hv:G'.val w' M.hr o=xs'.getD o undef:=by unfold Gh.val;simp only[G',hI.hr_none,if_true]
  rw[hv,qe];have e3:H'.getD o .dead=H'[o]:=by simp[e2]
  rw[e3];rcases hown o e2 with⟨h1,h2⟩|h1;left;exact⟨h1,λk hk=>h2 k ((Zj k).1 hk)⟩;right;exact(h1.frame (λ_ _=>rfl) (λ_ _ _=>rfl) (λk h _=>hFxF k h)).refp λk=>(Zj k).symm;left;exact⟨by rw[qe];simp[e2],λk hk=>e2 (hf o k ((Zj k).1 hk)).1⟩;have hv:G'.val w' r o=G.val w r o:=lP rfl (by simp[G',e]) (Yz r);have Zj:∀k,G'.φ r o k↔G.φ r o k:=λk=>by simp[G',e]
  rw[gv e,hv];have hc:=hI.core.cell r o;rw[gv e]at hc;rcases hc with⟨a1,a2⟩|a2;left;exact⟨a1,λk hk=>a2 k ((Zj k).1 hk)⟩;right;exact(a2.frame (hφ r o e) Yk Ze).refp λk=>(Zj k).symm;obtain⟨cur,e',fz,a1,a2,a3⟩:=hI.core.box r b o0 n hb;exact⟨cur,e',fz,by rw[Yz r b o0 n hb];exact a1,a2,λj hj=>by rw[World.frozen?_of_block (w:=w) (Yz r b o0 n hb)];exact a3 j hj⟩;have e:r≠M.hr:=λe=>by have Za:G.β r=some (b,o0,n):=hb;rw[e,hI.hr_none]at Za;simp at Za
  have:=hI.core.boxc r b o0 n hb o ho;rw[gv e]at this⊢;exact this;rcases Z7 r2 o2 b hk with⟨_,h1⟩|⟨_,h1⟩;exact hnbox b (hf _ b h1).2 r b o n hb rfl;exact hI.core.boxf r b o n hb _ _ h1;rcases Z7 r1 o1 k h1 with⟨a1,a3⟩|⟨a1,a2⟩;rcases Z7 r2 o2 k h2 with⟨b1,b3⟩|⟨b1,b2⟩;exact⟨a1.trans b1.symm,hdis _ _ k a3 b3⟩;exact absurd a3 (hfd _ _ k b1 b2 _);rcases Z7 r2 o2 k h2 with⟨b1,b3⟩|⟨b1,b2⟩;exact absurd b3 (hfd _ _ k a1 a2 _);exact hI.core.dis _ _ _ _ k a2 b2;rcases Z7 r o k h with⟨_,a3⟩|⟨a1,a2⟩;exact hallow k (hf _ k a3).2;exact hI.core.allow _ _ k a2
 refine⟨G',⟨Zh,λi=>(hI.tmr i).keep hk Yk Ze,?_,hI.keys,hI.size,hlen,λj hj=>by simp[G'],hI.shape,λi x h0 h=>by simp only[G'];exact hI.kept i x h0 h,hI.gn.keep hk Yk Ze⟩,⟨hs,hk,Yk,Ze⟩,rfl,λr o k h=>by simp[G',show r≠M.hr from h]⟩;refine⟨ho.trans hF.os,ht.trans hF.tape,hu.trans hF.output,Nat.le_trans hF.size hs,λk a1 a2 a3=>?_,λr b o n hp=>?_,λr o k h=>?_,hF.box,hF.even⟩;rw[hw k (Nat.lt_of_lt_of_le a1 hF.size) λj hj=>?_];exact hF.old k a1 a2 a3;rcases hF.own _ _ k hj with h|h;exact a2 h;omega;obtain⟨a1,cur0,cur,e',fz,a2,a3,a4⟩:=hF.par r b o n hp;exact⟨a1,cur0,cur,e',fz,a2,by rw[Yz r b o n a1];exact a3,a4⟩;rcases Z7 r o k h with⟨_,a3⟩|⟨a1,a2⟩;rcases(hf _ k a3).2 with⟨j,h2⟩|h2;exact hF.own _ _ k h2;exact .inr (Nat.le_trans hF.size h2);exact hF.own _ _ k a2
theorem Inv.dropImm(hI:Inv M σ H xs ts w G)(Zn:∀j (h:j<H.length),H[j]≠.dead):∃G',pJ M w ts σ H G σ [] [] G'/\∀j (h:j<H.length),ru w (G'.F M.A) H[j].imm (xs.getD j undef):=by
 have ⟨G',Zw,hm,hβ,hφ⟩:=hI.rehandL (w':=w) (H':=[]) (xs':=[]) (f:=λ_ _=>False) (Fx:=λ_=>False) (λ_ _ _=>rfl) (oLE _) rfl rfl rfl rfl (λ_ _ h=>h.elim) (λ_ _ _ h=>h.elim) (λ_ h=>h.elim) (λj h=>by simp at h);have hF0:∀k,G.F M.A k->G'.F M.A k:=by rintro k ⟨a1,a2,a3⟩;refine⟨a1,λr o h=>?_,λr b o n hb=>a3 r b o n (hβ ▸ hb)⟩;by_cases hr:r=1;have:=Zw.phi_dead (r:=r) (o:=o) (by rw[hr,show(1:Nat)=M.hr from rfl,qe];simp);simp_all;simp_all
 refine⟨G',⟨Zw,hF0,hm.keeps,rfl⟩,λj hj=>?_⟩;refine(hI.hand_own hj (Zn j hj)).share'.frame (λ_ _ _=>rfl) λk hk _=>?_;rcases hk with hk|hk;simp_all;refine⟨hI.core.allow _ _ k hk,λr o h=>?_,λr b o n hb=>?_⟩;by_cases hr:r=1;have:=Zw.phi_dead (r:=r) (o:=o) (by rw[hr,show(1:Nat)=M.hr from rfl,qe];simp);simp_all;exact hr (hI.core.dis _ _ _ _ k ((hφ r o k hr).1 h) hk).1;rintro rfl;exact hI.core.boxf r k o n (hβ ▸ hb) _ _ hk
end
def IE(g:TypeId->Option S_):Nat->List Field->Option S_
 |_,[]=>some []|off,f::fs=>
  if f.name≠ "_"/\f.offset=off then
   match g f.type with
   |some ks=>(IE g (off+ks.length) fs).map (ks++·)
   |none=>none
  else none
def vJ(P:Program):Nat->TypeId->Option S_
 |0,_=>none|d+1,t=>
 match P.underlying t with
 |some .bool=>some [.b]|some (.int _)=>some [.i]|some .string=>some [.s]|some (.struct fs)=>
  if P.stoodInHeld t then none
  else match IE (vJ P d) 0 fs.toList with
   |some ks=>if(P.info? t).map (·.size)=some ks.length then some ks else none
   |none=>none
 |_=>none
theorem L6{α β:Type}{f:α->β}{o:Option α}{b:β}(h:o.map f=some b):∃a,o=some a/\f a=b:=by simp_all
theorem J7:∀{ks:S_}{xs ys:w_}{r:Bool},gU ks xs ys=some r->xs.length=ks.length/\ys.length=ks.length:=by
 intro ks;induction ks with
 |nil=>intro xs ys r h;cases xs<;>cases ys<;>simp[gU]at h⊢|cons k ks ih=>
 intro xs ys r h;cases xs with
 |nil=>cases k<;>simp[gU]at h|cons x xs=>
 cases ys with
 |nil=>cases k<;>cases x<;>simp[gU]at h|cons y ys=>
 cases k<;>cases x<;>cases y<;>simp only[gU]at h<;>first|(simp at h;done)|skip
 split at h;obtain⟨r',h1,_⟩:=L6 h;have:=ih h1;simp[this.1,this.2];simp at h;obtain⟨r',h1,_⟩:=L6 h;have:=ih h1;simp[this.1,this.2];obtain⟨r',h1,_⟩:=L6 h;have:=ih h1;simp[this.1,this.2]
theorem DA:∀{k1 k2:S_}{xs ys:w_}{r:Bool},gU (k1++k2) xs ys=some r ->∃r1 r2,gU k1 (xs.take k1.length) (ys.take k1.length)=some r1/\gU k2 (xs.drop k1.length) (ys.drop k1.length)=some r2/\r=(r1&&r2):=by
 intro k1;induction k1 with
 |nil=>intro k2 xs ys r h;exact⟨true,r,rfl,h,rfl⟩|cons k k1 ih=>
 intro k2 xs ys r h;simp only[List.cons_append]at h;cases xs with
 |nil=>cases k<;>simp[gU]at h|cons x xs=>
 cases ys with
 |nil=>cases k<;>cases x<;>simp[gU]at h|cons y ys=>
 have ZT:∀(q:Bool)(h:(gU (k1++k2) xs ys).map (q && ·)=some r)(hq:∀X Y,gU (k::k1) (x::X) (y::Y)=(gU k1 X Y).map (q && ·)),∃r1 r2,gU (k::k1) ((x::xs).take (k::k1).length) ((y::ys).take (k::k1).length)=some r1/\gU k2 ((x::xs).drop (k::k1).length) ((y::ys).drop (k::k1).length)=some r2/\r=(r1&&r2):=by intro q h hq;obtain⟨r',h1,h2⟩:=L6 h;obtain⟨r1,r2,a1,a2,a3⟩:=ih h1;refine⟨q&&r1,r2,?_,by simpa using a2,by rw[<- h2,a3,Bool.and_assoc]⟩;simp only[oLC,List.take_succ_cons];rw[hq,a1];rfl
 cases k<;>cases x<;>cases y<;>simp only[gU]at h<;>first|(simp at h;done)|skip
 split at h;rename_i e;exact ZT _ h λX Y=>by simp only[gU,oIP e]
 simp at h;exact ZT _ h λX Y=>rfl;exact ZT _ h λX Y=>rfl
section
variable {P:Program} {w:World}
theorem B8{d D:Nat}{g:TypeId->Option S_} (ih:∀t ks,g t=some ks->∀(xs ys:s_) off r,gU ks ((xs.toList.drop off).take ks.length) ((ys.toList.drop off).take ks.length)=some r->∃a b,(part t xs off).run P w=.ok a w/\(part t ys off).run P w=.ok b w/\(Op.equalIn D t a b).run P w=.ok r w)(xs ys:s_):∀(fs:List Field)(o:Nat)(ks:S_)(r:Bool),IE g o fs=some ks->gU ks (xs.toList.drop o) (ys.toList.drop o)=some r->(Op.eqFields D xs ys fs).run P w=.ok r w:=by
 intro fs;induction fs with
 |nil=>
 intro o ks r h he;simp only[IE,oSJ]at h;subst h;have hr:r=true:=by revert he;generalize xs.toList.drop o=X;generalize ys.toList.drop o=Y;intro he;cases X<;>cases Y<;>simp[gU]at he;exact he
 subst hr;rfl
 |cons f fs ihf=>
 intro o ks r h he;simp only[IE]at h;split at h;case isFalse=>simp at h
 rename_i hf;split at h;case h_2=>simp at h
 rename_i k1 Y7;obtain⟨k2,X',rfl⟩:=L6 h;obtain⟨r1,r2,a1,a2,rfl⟩:=DA he;obtain⟨a,b,p1,p2,p3⟩:=ih f.type k1 Y7 xs ys o r1 a1;rw[List.drop_drop,List.drop_drop]at a2;have ZR:=ihf (o+k1.length) k2 r2 X' a2;simp only[Op.eqFields];rw[oIP hf.1,hf.2];simp only[Sem.run_bind,p1,p2,p3,Result.andThen_ok];cases r1 with|false=>simp|true=>simp_all
theorem Oh:∀(d:Nat)(t:TypeId)(ks:S_),vJ P d t=some ks->∀D,d<=D->∀(xs ys:s_)(off:Nat)(r:Bool),gU ks ((xs.toList.drop off).take ks.length) ((ys.toList.drop off).take ks.length)=some r ->∃a b,(part t xs off).run P w=.ok a w/\(part t ys off).run P w=.ok b w/\(Op.equalIn D t a b).run P w=.ok r w:=by
 intro d;induction d with
 |zero=>intro t ks h;simp[vJ]at h|succ d ih=>
 intro t ks h D hD xs ys off r he;obtain⟨D',rfl⟩:∃D',D=D'+1:=⟨D-1,by omega⟩;simp only[vJ]at h;have one:∀(dsc:TypeDesc)(k:FK),P.underlying t=some dsc->(∀f,dsc≠.struct f)->(∀n e,dsc≠.array n e)->ks=[k]->∃x y,xs[off]?=some x/\ys[off]?=some y/\gU [k] [x] [y]=some r/\(part t xs off).run P w=.ok x w/\(part t ys off).run P w=.ok y w:=by
  rintro dsc k hu h1 h2 rfl;obtain⟨l1,l2⟩:=J7 he;obtain⟨x,hx⟩:∃x,xs.toList.drop off=x::(xs.toList.drop (off+1)):=by
   have:off<xs.toList.length:=by simp at l1⊢;omega
   exact⟨_,List.drop_eq_getElem_cons this⟩
  obtain⟨y,hy⟩:∃y,ys.toList.drop off=y::(ys.toList.drop (off+1)):=by
   have:off<ys.toList.length:=by simp at l2⊢;omega
   exact⟨_,List.drop_eq_getElem_cons this⟩
  have Y4:xs[off]?=some x:=by have:=congrArg (λl=>l[0]?) hx;simpa using this
  have WF:ys[off]?=some y:=by have:=congrArg (λl=>l[0]?) hy;simpa using this
  rw[hx,hy]at he;exact⟨x,y,Y4,WF,by simpa using he,by simp[part,tZ hu h1 h2,Y4],by simp[part,tZ hu h1 h2,WF]⟩
 split at h;rename_i hu;injection h with h
 obtain⟨x,y,_,_,e,p1,p2⟩:=one _ .b hu (λ_ h=>by cases h) (λ_ _ h=>by cases h) h.symm;refine⟨x,y,p1,p2,?_⟩;cases x<;>cases y<;>simp[gU]at e;simp[Op.equalIn,run_underlying hu,e]
 ·rename_i k0 hu
  injection h with h
  obtain⟨x,y,_,_,e,p1,p2⟩:=one _ .i hu (λ_ h=>by cases h) (λ_ _ h=>by cases h) h.symm;refine⟨x,y,p1,p2,?_⟩
  cases x<;>cases y<;>simp only[gU]at e<;>first|(simp at e;done)|skip
  rename_i ka a kb b;split at e
  ·rename_i hk;subst hk;simp at e;simp[Op.equalIn,run_underlying hu,e]
  ·simp at e
 rename_i hu;injection h with h
 obtain⟨x,y,_,_,e,p1,p2⟩:=one _ .s hu (λ_ h=>by cases h) (λ_ _ h=>by cases h) h.symm;refine⟨x,y,p1,p2,?_⟩;cases x<;>cases y<;>simp[gU]at e;simp[Op.equalIn,run_underlying hu,e]
 ·rename_i fs hu;split at h
  case isTrue=>simp at h
  rename_i hst;split at h
  case h_2=>simp at h
  rename_i ks' hfs;split at h
  case isFalse=>simp at h
  rename_i hsz
  injection h with h
  subst h
  have Yv:(sizeOf t).run P w=.ok ks'.length w:=by
   unfold sizeOf typeInfo
   cases hi:P.info? t with
   |none=>simp[hi]at hsz
   |some i=>simp[hi]at hsz;simp[hi,hsz]
  have hpart:∀zs:s_,(part t zs off).run P w=.ok (.agg (zs.extract off (off+ks'.length))) w:=λzs=>by
   simp[part,sn hu (.inl ⟨_,rfl⟩),Yv]
  refine⟨_,_,hpart xs,hpart ys,?_⟩
  have hff:P.fieldsOf t=fs:=by simp[Program.fieldsOf,hu]
  rw[run_equalIn_struct w D' t _ _ (by rw[hff];exact hu) (by simpa using hst),hff];refine B8 (d:=d) (g:=vJ P d) (λt ks h xs ys off r he=>ih t ks h D' (by omega) xs ys off r he) _ _ fs.toList 0 ks' r hfs ?_
  have e:∀zs:s_,(zs.extract off (off+ks'.length)).toList.drop 0=(zs.toList.drop off).take ks'.length:=λzs=>by
   simp[List.extract_eq_take_drop]
  rw[e,e];exact he
 simp at h
theorem O8{d D:Nat}{t:TypeId}{ks:S_}{fs:Array Field}(h:vJ P (d+1) t=some ks)(hu:P.underlying t=some (.struct fs))(hD:d<=D){xs ys:s_}{r:Bool}(he:gU ks xs.toList ys.toList=some r):(Op.equalIn (D+1) t (.agg xs) (.agg ys)).run P w=.ok r w:=by
 simp only[vJ,hu]at h;split at h;case isTrue=>simp at h
 split at h;case h_2=>simp at h
 rename_i ks' hfs;split at h;case isFalse=>simp at h
 have hff:P.fieldsOf t=fs:=by simp[Program.fieldsOf,hu]
 rw[run_equalIn_struct w D t _ _ (by simp_all) (by simp_all),hff];exact B8 (d:=d) (λt ks h xs ys off r he=>Oh d t ks h D hD xs ys off r he) _ _ fs.toList 0 ks' r hfs (by simp_all)
variable {M:Fm} {σ σ':St} {G:Gh} {a:Act} {o:Oper}
theorem Q7{F:Nat->Prop}{V:Vs}{C:Cs}:∀{l:U_}{vs:w_},gJ l=some vs->vs.length=l.length/\∀j (h:j<l.length)(h':j<vs.length)(x:Value),TmR w F V C G l[j] x->x=vs[j]:=by
 intro l;induction l with
 |nil=>intro vs h;simp[gJ]at h;subst h;exact⟨rfl,λj h=>by simp at h⟩|cons t l ih=>
 intro vs h;cases t with
 |v z=>obtain⟨Zc,h1,rfl⟩:=L6 h;have ⟨e,h2⟩:=ih h1;refine⟨by simp[e],λj hj ZO x hx=>?_⟩;cases j with|zero=>exact hx.v_inv.1|succ j=>exact h2 j (by simp_all) (by simp_all) x hx
 |_=>simp[gJ]at h
theorem IB{F:Nat->Prop}{V:Vs}{C:Cs}{l:U_}{vs:w_}{x:Value}(h:gJ l=some vs)(hx:TmR w F V C G (.agg l) x):x=.agg vs.toArray:=by
 obtain⟨xs,rfl,hl,hj⟩:=Pp hx;obtain⟨e,h2⟩:=Q7 h;congr 1;apply Array.ext;simp_all;intro j h1 h3;have:=h2 j (by omega) (by omega) _ (hj j (by omega));have e2:xs.getD j undef=xs[j]:=by simp[h1]
 simp_all
theorem Ns(hI:Inv M σ [] [] a.tmps w G){d:Nat}(hd:o.dst=some d)(hN:M.ok d){x y:Opd}{x' y':Operand}{op:BinOp}{neg:Bool}{t yt:TypeId}{ks:S_}{fs:Array Field}(hx:fZ x'=some x)(hy:fZ y'=some y)(ho:o.op=.binOp op t x' y' yt)(hop:(op=.eql/\neg=false)\/(op=.neq/\neg=true)) (hu:P.underlying t=some (.struct fs))(hk:vJ P 50 t=some ks)(hgd:P.eqGuardType P.depth t=false)(hr:(ev1 d (.eqa ks neg x y)).run σ=some ((),σ')):rx P M σ' a o w:=by
 simp only[ev1]at hr;obtain⟨t1,σ1,h1,h2⟩:=fN hr;obtain⟨rfl,Z0⟩:=ij hI.tmr hx h1;obtain⟨t2,σ2,h3,h4⟩:=fN h2;obtain⟨rfl,Xl⟩:=ij hI.tmr hy h3;cases t1 with
 |agg l1=>
 cases t2 with
  |agg l2=>simp only at h4;obtain⟨vs1,σ3,h5,h6⟩:=fN h4;obtain⟨e1,rfl⟩:=u7 h5;obtain⟨vs2,σ4,h7,h8⟩:=fN h6;obtain⟨e2,rfl⟩:=u7 h7;obtain⟨r,σ5,h9,h10⟩:=fN h8;obtain⟨e3,rfl⟩:=u7 h9;have ex:=IB e1 Z0;have ey:=IB e2 Xl;have hq:(Op.equalIn 10000 t (.agg vs1.toArray) (.agg vs2.toArray)).run P w=.ok r w:=O8 (d:=49) (D:=9999) hk hu (by omega) (by simpa using e3);have hg:(eqGuard op t x' y' (.agg vs1.toArray) (.agg vs2.toArray)).run P w=.ok () w:=run_eqGuard_agg w op t x' y' _ _ hgd;refine kG hI hd hN (.v rfl) h10 ?_;rcases hop with⟨rfl,rfl⟩|⟨rfl,rfl⟩;simp[execOp,ho,ex,ey,hg,run_eql_struct,hq];simp[execOp,ho,ex,ey,hg,run_neq_struct,hq]
  |_=>simp[SP.run]at h4
 |_=>simp[SP.run]at h4
end
end Go.Proofs.YtabfnmgabblofaaGreat
