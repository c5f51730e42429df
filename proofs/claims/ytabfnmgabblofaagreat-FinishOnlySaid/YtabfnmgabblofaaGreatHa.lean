/- Part of the proof; no condition. -/
import Derived.Calls
import Derived.Below
import Derived.Laws.AppendOwnNone
import Derived.Laws.IdiomCopy
import Derived.Laws.MakeOwn
import Derived.Laws.StructEq
set_option linter.unusedVariables false
set_option linter.unusedSimpArgs false
namespace Go.Proofs.YtabfnmgabblofaaGreat
open Go.RowKit
theorem oBS{α β:Type _}(a:α)(f:α->Option β):(some a).bind f=f a:=rfl
theorem oSJ{α:Type _}(a b:α):(some a=some b)=(a=b):=Option.some.injEq a b
theorem oGE{α:Type _}{l:List α}{i:Nat}(h:i<l.length):l[i]?=some l[i]:=List.getElem?_eq_getElem h
theorem oPJ{α β:Type _}(a:α)(b:β)(c:α)(d:β):((a,b)=(c,d))=(a=c/\b=d):=Prod.mk.injEq a b c d
theorem oGS{α:Type _}{l:List α}{i:Nat}{a:α}:l[i]?=some a->∃h:i<l.length,l[i]=a:=List.getElem?_eq_some_iff.1
theorem oDT{p:Prop}[i:Decidable p](h:p):decide p=true:=decide_eq_true h
theorem oDF{p:Prop}[i:Decidable p](h:¬p):decide p=false:=decide_eq_false h
theorem oDE{p:Prop}[i:Decidable p]:(decide p=true)=p:=decide_eq_true_eq
theorem oCT{α:Sort _}(a b:α):cond true a b=a:=rfl
theorem oCF{α:Sort _}(a b:α):cond false a b=b:=rfl
theorem oBA(a b:Bool):((a&&b)=true)=(a=true/\b=true):=Bool.and_eq_true a b
theorem oGD{α:Type _}{l:List α}{i:Nat}{a:α}:l.getD i a=l[i]?.getD a:=List.getD_eq_getElem?_getD ..
theorem oLC{α:Type _}{a:α}{l:List α}:(a::l).length=l.length+1:=List.length_cons ..
theorem oMS{α β:Type _}(a:α)(f:α->β):(some a).map f=some (f a):=rfl
theorem oLT{α:Type _}{i:Nat}{l:List α}:(l.take i).length=min i l.length:=List.length_take ..
theorem oTN(n:Nat):((n:Int)).toNat=n:=rfl
theorem oNT:(!true)=false:=rfl
theorem oBF{α:Type _}[BEq α][LawfulBEq α]{a b:α}:a≠b->(a==b)=false:=beq_eq_false_iff_ne.2
theorem oEN{α:Type _}{l:List α}(h:l.length=0):l=[]:=List.eq_nil_of_length_eq_zero h
theorem oGN{α:Type _}{l:List α}{i:Nat}(h:l.length<=i):l[i]?=none:=List.getElem?_eq_none h
theorem oLM{α:Type _}{f:α->α}{l:List α}{i:Nat}:(l.modify i f).length=l.length:=List.length_modify ..
theorem oIP{c:Prop}{h:Decidable c}(hc:c){α:Sort _}{t e:α}:ite c t e=t:=if_pos hc
theorem oIN{c:Prop}{h:Decidable c}(hc:¬c){α:Sort _}{t e:α}:ite c t e=e:=if_neg hc
theorem oAE{α:Type _}{p:α->Bool}{l:List α}:l.all p=true↔∀x∈l,p x=true:=List.all_eq_true
theorem oGM{α:Type _}(f:α->α)(i:Nat)(l:List α)(j:Nat):(l.modify i f)[j]?=Functor.map (λa=>if i=j then f a else a) l[j]?:=List.getElem?_modify ..
theorem oEG{α:Type _}{a b:List α}(h:∀i:Nat,a[i]?=b[i]?):a=b:=List.ext_getElem? h
theorem oLA{α:Type _}{a b:List α}:(a++b).length=a.length+b.length:=List.length_append
theorem oGP{α β:Type _}{f:α->β}{l:List α}{i:Nat}:(l.map f)[i]?=l[i]?.map f:=List.getElem?_map
theorem oMC{α:Type _}{a b:α}{l:List α}:a∈b::l↔a=b\/a∈l:=List.mem_cons
theorem oLP{α β:Type _}{l:List α}(f:α->β):(l.map f).length=l.length:=List.length_map ..
theorem oGX{α:Type _}{l:List α}{n:Nat}(h:n<l.length):l[n]∈l:=List.getElem_mem h
theorem oAL{α:Type _}{a b:List α}{n:Nat}(h:n<a.length):(a++b)[n]?=a[n]?:=List.getElem?_append_left h
theorem oAR{α:Type _}{a b:List α}{n:Nat}(h:a.length<=n):(a++b)[n]?=b[n-a.length]?:=List.getElem?_append_right h
theorem oMA{α:Type _}{x:α}{a b:List α}:x∈a++b↔x∈a\/x∈b:=List.mem_append
theorem oPC{α β:Type _}{f:α->β}{a:α}{l:List α}:(a::l).map f=f a::l.map f:=rfl
theorem oLS{α:Type _}{l:List α}{i:Nat}{a:α}:(l.set i a).length=l.length:=List.length_set
theorem oNA{α:Type _}(l:List α):[]++l=l:=rfl
theorem oLN{α:Type _}:([]:List α).length=0:=rfl
theorem oTE{a b:Int}(h:0<=a):a.tmod b=a%b:=Int.tmod_eq_emod_of_nonneg h
theorem oAG{α:Type _}{l:Array α}{i:Nat}{d:α}:l.getD i d=l[i]?.getD d:=Array.getD_eq_getD_getElem? ..
theorem oBN{α:Type _}[BEq α][LawfulBEq α](a:α):(a != a)=false:=bne_self_eq_false a
theorem oPM{α β γ:Type _}{g:β->γ}{f:α->β}{l:List α}:(l.map f).map g=l.map (g ∘ f):=List.map_map
theorem oLE(n:Nat):n<=n:=Nat.le_refl n
theorem gw{α:Type _}(l:List α)(i:Nat)(h:i<l.length):∃x,l[i]?=some x:=⟨_,oGE h⟩
abbrev Hop:=Nat×Nat×Nat
abbrev L_:=List Hop
structure gl where
 root:Nat
 off:Nat
 hops:L_
inductive TV where
 |v (x:Value)
 |sl (c:List (List TV))
 |ow (c:List (List TV))
 |dead
 |ptr (p:gl) (vs:List Nat)
 |ip (cs:List TV)
 |pk (p:gl) (vs:List Nat)
 |pw (p:gl) (vs:List Nat) (sz lo n:Nat)
 |agg (l:List TV)
 |tup (l:List TV)
 |fn (f:FuncId) (cap:List TV)
def kJ:Value->Bool|.bool _|.int _ _|.string _|.pointer none|.nilFunc|.nilIface=>true|_=>false
theorem xH{x:Value}(h:kJ x=true):x.oneCell'=true:=by cases x<;>simp_all [kJ,Value.oneCell']
abbrev U_:=List TV
abbrev o_:=List U_
mutual
def TV.imm:TV->TV|.ow c=>.sl (qj c)|.v x=>.v x|.sl c=>.sl c|.dead=>.dead|.ptr p vs=>.ptr p vs|.ip cs=>.ip cs|.pk p vs=>.pk p vs|.pw p vs sz lo n=>.pw p vs sz lo n|.agg l=>.agg (jA l)|.tup l=>.tup (jA l)|.fn f cap=>.fn f cap
def jA:U_->U_| []=>[]|x::r=>x.imm::jA r
def qj:o_->o_| []=>[]|x::r=>jA x::qj r
end
theorem sD(l:U_):jA l=l.map TV.imm:=by induction l with|nil=>rfl|cons x r ih=>simp[jA,ih]
theorem wl(l:o_):qj l=l.map (λe=>e.map TV.imm):=by induction l with|nil=>rfl|cons x r ih=>simp[qj,ih,sD]
theorem qY(c:o_):(TV.ow c).imm=.sl (c.map (λe=>e.map TV.imm)):=by simp[TV.imm,wl]
inductive r8 (w:World)(F:Nat->Prop):TV->Value->Prop
 |v {x:Value} (h:kJ x=true):r8 w F (.v x) x
 |dead {x:Value} (h:x.oneCell'=true):r8 w F .dead x
 |sl {c:List (List TV)} {a:Option Addr} {cap:Nat} (sz:Nat) (u:Nat->Nat->Value)
  (hsz:∀i (h:i<c.length),c[i].length=sz)(hcap:c.length<=cap)(hmax:cap<=maxLen)(hnil:a=none->cap=0)
  (hcell:∀i j,i<c.length->j<sz->∃b o,a=some ⟨b,o,none⟩/\F b/\w.cell? ⟨b,o+(i*sz+j),none⟩=some (u i j))
  (hrec:∀i j (h:i<c.length)(h':j<c[i].length),r8 w F (c[i][j]) (u i j)):
  r8 w F (.sl c) (.slice a c.length cap)
theorem r8.one{w:World}{F:Nat->Prop}{t:TV}{x:Value}(h:r8 w F t x):x.oneCell'=true:=by cases h with|v h=>exact xH h|dead h=>exact h|sl=>rfl
theorem r8.frame{w w':World}{F F':Nat->Prop}{t:TV}{x:Value}(h:r8 w F t x)(hw:∀k,F k->k<w.heap.size->w'.heap[k]?=w.heap[k]?)(hF:∀k,F k->k<w.heap.size->F' k):r8 w' F' t x:=by induction h with|v h=>exact .v h|dead h=>exact .dead h|sl sz u hsz hcap hmax hnil hcell hrec ih=>refine .sl sz u hsz hcap hmax hnil (λi j hi hj=>?_) ih;obtain⟨b,o,e,hb,hc⟩:=hcell i j hi hj;have hlt:=World.block_lt_of_cell? w _ hc;exact⟨b,o,e,hF b hb hlt,by rw[World.cell?_of_block (w:=w) (hw b hb hlt)];exact hc⟩
inductive jS (w:World)(F:Nat->Prop):(Nat->Prop)->TV->Value->Prop
 |v {fp:Nat->Prop} {x:Value} (hfp:∀k,¬fp k) (h:kJ x=true):jS w F fp (.v x) x
 |dead {fp:Nat->Prop} {x:Value} (hfp:∀k,¬fp k) (h:x.oneCell'=true):jS w F fp .dead x
 |sl {fp:Nat->Prop} {c:List (List TV)} {x:Value} (hfp:∀k,¬fp k) (h:r8 w F (.sl c) x):jS w F fp (.sl c) x
 |nil {fp:Nat->Prop} {a:Option Addr} (hfp:∀k,¬fp k):jS w F fp (.ow []) (.slice a 0 0)
 |ow {fp:Nat->Prop} {c:List (List TV)} {b cap:Nat} {cur:Array Value} {e:TypeId} (sz:Nat) (u:Nat->Nat->Value) (f:Nat->Nat->Nat->Prop)
  (hfp:∀k,fp k↔k=b\/∃i j,i<c.length/\j<sz/\f i j k)
  (hb:w.heap[b]?=some (.cells cur e (0,0)))
  (hsz:∀i (h:i<c.length),c[i].length=sz)(hcap:c.length<=cap)(hz0:c.length=0->cap=0)(hmax:cap<=maxLen)(hcur:cur.size=cap*sz)
  (hcell:∀i j,i<c.length->j<sz->cur[i*sz+j]?=some (u i j))
  (hrec:∀i j (h:i<c.length)(h':j<c[i].length),jS w F (f i j) (c[i][j]) (u i j))
  (hnb:∀i j,¬f i j b)
  (hdis:∀i j i' j' k,f i j k->f i' j' k->i=i'/\j=j'):
  jS w F fp (.ow c) (.slice (some ⟨b,0,none⟩) c.length cap)
theorem jS.one{w:World}{F fp:Nat->Prop}{t:TV}{x:Value}(h:jS w F fp t x):x.oneCell'=true:=by cases h with|v _ h=>exact xH h|dead _ h=>exact h|sl _ h=>exact h.one|nil=>rfl|ow=>rfl
theorem jS.live{w:World}{F fp:Nat->Prop}{t:TV}{x:Value}(h:jS w F fp t x):∀k,fp k->k<w.heap.size:=by induction h with|v hfp=>exact λk hk=>(hfp k hk).elim|dead hfp=>exact λk hk=>(hfp k hk).elim|sl hfp=>exact λk hk=>(hfp k hk).elim|nil hfp=>exact λk hk=>(hfp k hk).elim|ow sz u f hfp hb hsz hcap hz0 hmax hcur hcell hrec hnb hdis ih=>intro k hk;rcases(hfp k).1 hk with rfl|⟨i,j,hi,hj,hf⟩;rcases Nat.lt_or_ge k w.heap.size with h|h;exact h;simp[Array.getElem?_eq_none h]at hb;exact ih i j hi (by rw[hsz i hi];exact hj) k hf
theorem jS.frame{w w':World}{F F' fp:Nat->Prop}{t:TV}{x:Value}(h:jS w F fp t x)(hp:∀k,fp k->w'.heap[k]?=w.heap[k]?) (hw:∀k,F k->k<w.heap.size->w'.heap[k]?=w.heap[k]?)(hF:∀k,F k->k<w.heap.size->F' k):jS w' F' fp t x:=by induction h with|v hfp h=>exact .v hfp h|dead hfp h=>exact .dead hfp h|sl hfp h=>exact .sl hfp (h.frame hw hF)|nil hfp=>exact .nil hfp|ow sz u f hfp hb hsz hcap hz0 hmax hcur hcell hrec hnb hdis ih=>exact .ow sz u f hfp ((hp _ ((hfp _).2 (.inl rfl))).trans hb) hsz hcap hz0 hmax hcur hcell (λi j hi hj=>ih i j hi hj λk hk=>hp k ((hfp k).2 (.inr ⟨i,j,hi,by rw[<- hsz i hi];exact hj,hk⟩))) hnb hdis
theorem jS.refp{w:World}{F fp fp':Nat->Prop}{t:TV}{x:Value}(h:jS w F fp t x)(he:∀k,fp k↔fp' k):jS w F fp' t x:=by have e:fp=fp':=funext λk=>propext (he k);exact e▸h
theorem jS.share{w:World}{F fp:Nat->Prop}{t:TV}{x:Value}(h:jS w F fp t x):r8 w (λk=>F k\/fp k) t.imm x\/∃l,t=.agg l:=by
 induction h with
 |v hfp h=>exact .inl (.v h)|dead hfp h=>exact .inl (.dead h)|sl hfp h=>exact .inl (h.frame (λ_ _ _=>rfl) λk hk _=>.inl hk)|nil hfp=>exact .inl (.sl (c:=[]) 0 (λ_ _=>.nilFunc) (by simp) (by simp) (by simp) (λ_=>rfl) (by simp) (by simp))| @ow fp c b cap cur e sz u f hfp hb hsz hcap hz0 hmax hcur hcell hrec hnb hdis ih=>
 refine .inl ?_;rw[qY];have hl:c.length=(c.map λe=>e.map TV.imm).length:=by simp
 rw[hl];refine .sl sz u (by simpa using hsz) (by simpa using hcap) hmax (by simp) (λi j hi hj=>⟨b,0,rfl,.inr ((hfp b).2 (.inl rfl)),?_⟩) (λi j hi hj=>?_);have:=hcell i j (by simpa using hi) hj;rw[cell_of_row w b _ _ _ _ hb,Nat.zero_add];exact this;have Zn:i<c.length:=by simpa using hi
 have ZR:j<c[i].length:=by simpa using hj
 rcases ih i j Zn ZR with h|⟨l,hl⟩;have:=h.frame (w':=w) (F':=λk=>F k\/fp k) (λ_ _ _=>rfl) (λk hk _=>by rcases hk with hk|hk;exact .inl hk;exact .inr ((hfp k).2 (.inr ⟨i,j,Zn,by rw[<- hsz i Zn];exact ZR,hk⟩)));simpa using this;have h3:=hrec i j Zn ZR;rw[hl]at h3;cases h3
theorem jS.share'{w:World}{F fp:Nat->Prop}{t:TV}{x:Value}(h:jS w F fp t x):r8 w (λk=>F k\/fp k) t.imm x:=by rcases h.share with h1|⟨l,rfl⟩;exact h1;cases h
theorem r8.toOwn{w:World}{F:Nat->Prop}{t:TV}{x:Value}(h:r8 w F t x):jS w F (λ_=>False) t x:=by cases h with|v h=>exact .v (by simp) h|dead h=>exact .dead (by simp) h|sl sz u hsz hcap hmax hnil hcell hrec=>exact .sl (by simp) (.sl sz u hsz hcap hmax hnil hcell hrec)
def gJ:TV->L_->Option TV
 |t,[]=>some t|.ow c,(i,sz,o)::hs=>
 match c[i]? with
  |some el=>if el.length=sz then(match el[o]? with|some t=>gJ t hs|none=>none)else none
  |none=>none
 |_,_::_=>none
def iU:TV->L_->TV->TV|_,[],t=>t|.ow c,(i,sz,o)::hs,t=>.ow (c.modify i λel=>el.modify o λt1=>iU t1 hs t)|t0,_::_,_=>t0
def WJ:TV->L_->Option U_
 |_,[]=>none|.ow c,[(i,sz,o)]=>match c[i]? with|some el=>if el.length=sz then some (el.drop o)else none|none=>none
 |.ow c,(i,sz,o)::hs=>
 match c[i]? with
  |some el=>if el.length=sz then(match el[o]? with|some t=>WJ t hs|none=>none)else none
  |none=>none
 |_,_::_=>none
abbrev t_:=Option Addr
def gP(w:World):Value->L_->t_
 |.slice (some a) n _,[(i,sz,o)]=>if i<n then some ⟨a.block,a.off+(i*sz+o),none⟩else none|.slice (some a) n _,(i,sz,o)::h::hs=>if i<n then(match w.cell? ⟨a.block,a.off+(i*sz+o),none⟩with|some x=>gP w x (h::hs)|none=>none)else none
 |_,_=>none
abbrev r_:=Option Value
def hvT(w:World)(x:Value)(hs:L_):r_:=match hs with| []=>some x|_=>(gP w x hs).bind w.cell?
theorem jc{t:TV}{i sz o:Nat}{hs:L_}{t1:TV}(h:gJ t ((i,sz,o)::hs)=some t1):∃c el t2,t=.ow c/\c[i]?=some el/\el.length=sz/\el[o]?=some t2/\gJ t2 hs=some t1:=by
 cases t with
 |ow c=>
 simp[gJ]at h;cases hc:c[i]? with
  |none=>simp_all|some el=>
  split at h;rename_i hz;cases ho:el[o]? with|none=>simp_all|some t2=>simp_all
  simp at h
 |_=>simp[gJ]at h
theorem mD{w:World}{x:Value}{hs:L_}{ad:Addr}{u:Value}(h:gP w x hs=some ad)(hc:w.cell? ad=some u):hvT w x hs=some u:=by cases hs with|nil=>cases x<;>simp[gP]at h|cons a r=>simp[hvT,h,hc]
theorem gK(w:World)(a:Addr)(x:Value){k:Nat}(h:k≠a.block):(w.setCell a x).heap[k]?=w.heap[k]?:=Below.heap_setCell w a x k h
abbrev s_:=Array Value
theorem nH(w:World)(b o:Nat)(x:Value){cur:s_}{e:TypeId}{fz:Nat×Nat}(hb:w.heap[b]?=some (.cells cur e fz)):(w.setCell ⟨b,o,none⟩ x).heap[b]?=some (.cells (cur.setIfInBounds o x) e fz):=by simp only[World.setCell,Array.getElem?_modify,hb];rfl
theorem PW{sz i j i' j':Nat}(hj:j<sz)(ZR:j'<sz)(h:i*sz+j=i'*sz+j'):i=i'/\j=j':=by
 have h1:(i*sz+j)/sz=i:=by rw[Nat.mul_comm,Nat.mul_add_div (by omega)];simp[Nat.div_eq_of_lt hj]
 have h2:(i'*sz+j')/sz=i':=by rw[Nat.mul_comm,Nat.mul_add_div (by omega)];simp[Nat.div_eq_of_lt ZR]
 simp_all
theorem lens{hops:L_}:∀{w:World}{F fp:Nat->Prop}{tv t:TV}{x:Value},jS w F fp tv x->hops≠[]->gJ tv hops=some t ->∃ad u Zw,gP w x hops=some ad/\ad.spot=none/\w.cell? ad=some u/\w.frozen? ad=false/\jS w F Zw t u/\(∀k,Zw k->fp k)/\fp ad.block/\¬Zw ad.block /\∀(w':World)(F':Nat->Prop)(t':TV)(u':Value)(ZJ:Nat->Prop),(∀k,fp k->¬Zw k->w'.heap[k]?=(w.setCell ad u').heap[k]?)->(∀k,F k->k<w.heap.size->w'.heap[k]?=w.heap[k]?)->(∀k,F k->k<w.heap.size->F' k)->jS w' F' ZJ t' u'->(∀k,ZJ k->¬(fp k/\¬Zw k))->jS w' F' (λk=>(fp k/\¬Zw k)\/ZJ k) (iU tv hops t') x:=by
 induction hops with
 |nil=>intro _ _ _ _ _ _ _ h _;exact absurd rfl h|cons hop hs ih=>
 obtain⟨i,sz',o⟩:=hop;intro w F fp tv t x hown _ hget0;obtain⟨c,el,t2,rfl,hc,hz,ho,Z5⟩:=jc hget0;subst hz;cases hown with
 |nil hfp=>simp at hc| @ow _ _ b cap cur e sz u f hfp hb hsz hcap hz0 hmax hcur hcell hrec hnb hdis=>
 obtain⟨hi,YW⟩:=oGS hc;obtain⟨Zy,YT⟩:=oGS ho;have hszi:el.length=sz:=by rw[<- YW];exact hsz i hi
 have I':o<sz:=by omega
 have hrio:jS w F (f i o) t2 (u i o):=by have:=hrec i o hi (by rw[YW];exact Zy);simpa[YW,YT]using this
 have Zi:=hcell i o hi I';have Y9:w.cell? ⟨b,0+(i*el.length+o),none⟩=some (u i o):=by rw[cell_of_row w b _ _ _ _ hb,Nat.zero_add,hszi];exact Zi
 have hlt:i*sz+o<cur.size:=(Array.getElem?_eq_some_iff.1 Zi).1;have hfz:w.frozen? ⟨b,0+(i*el.length+o),none⟩=false:=frozen_of_row w b _ cur e hb;have Z9:∀k,f i o k->fp k:=λk hk=>(hfp k).2 (.inr ⟨i,o,hi,I',hk⟩);have build:∀(w':World)(F':Nat->Prop)(t2':TV)(u2':Value)(g:Nat->Prop),w'.heap[b]?=some (.cells (cur.setIfInBounds (i*sz+o) u2') e (0,0))->(∀k,(∃i' j',i'<c.length/\j'<sz/\¬(i'=i/\j'=o)/\f i' j' k)->w'.heap[k]?=w.heap[k]?)->(∀k,F k->k<w.heap.size->w'.heap[k]?=w.heap[k]?)->(∀k,F k->k<w.heap.size->F' k)->jS w' F' g t2' u2'->¬g b ->(∀k,g k->∀i' j',i'<c.length->j'<sz->¬(i'=i/\j'=o)->¬f i' j' k)->jS w' F' (λk=>(fp k/\¬f i o k)\/g k) (.ow (c.modify i λel=>el.modify o λ_=>t2')) (.slice (some ⟨b,0,none⟩) c.length cap):=by
  intro w' F' t2' u2' g Zh ZU hF Zg Zp hgb hgd;have hlen:c.length=(c.modify i λel=>el.modify o λ_=>t2').length:=by simp
  have zl:∀(i' j':Nat)(h:i'<c.length)(h2:j'<c[i'].length)(h3:i'<(c.modify i λel=>el.modify o λ_=>t2').length)(h4:j'<((c.modify i λel=>el.modify o λ_=>t2')[i']).length),((c.modify i λel=>el.modify o λ_=>t2')[i'])[j']=if i'=i/\j'=o then t2' else c[i'][j']:=by
   intro i' j' h h2 h3 h4;have e1:(c.modify i λel=>el.modify o λ_=>t2')[i']=if i=i' then(c[i']).modify o (λ_=>t2')else c[i']:=by rw[List.getElem_modify]
   by_cases hii:i=i';subst hii;have e2:(c.modify i λel=>el.modify o λ_=>t2')[i]=(c[i]).modify o (λ_=>t2'):=by rw[e1,oIP rfl]
   simp only[e2,List.getElem_modify];by_cases hjj:o=j';subst hjj;simp;rw[oIN hjj,oIN (by intro h;exact hjj h.2.symm)];have e2:(c.modify i λel=>el.modify o λ_=>t2')[i']=c[i']:=by rw[e1,oIN hii]
   simp only[e2];rw[oIN (by intro h;exact hii h.1.symm)]
  rw[hlen];refine .ow sz (λi' j'=>if i'=i/\j'=o then u2' else u i' j') (λi' j' k=>if i'=i/\j'=o then g k else(i'<c.length/\j'<sz/\f i' j' k)) ?_ Zh ?_ (by simpa using hcap) (by simpa using hz0) hmax (by simpa using hcur) ?_ ?_ ?_ ?_;intro k;constructor;rintro(⟨h1,h2⟩|h1);rcases(hfp k).1 h1 with rfl|⟨i',j',h3,h4,h5⟩;exact .inl rfl;refine .inr ⟨i',j',by simpa using h3,h4,?_⟩;by_cases he:i'=i/\j'=o;obtain⟨rfl,rfl⟩:=he;exact absurd h5 h2;rw[oIN he];exact⟨h3,h4,h5⟩;exact .inr ⟨i,o,by simpa using hi,I',by rw[oIP ⟨rfl,rfl⟩];exact h1⟩;rintro(rfl|⟨i',j',h3,h4,h5⟩);exact .inl ⟨(hfp _).2 (.inl rfl),hnb _ _⟩;by_cases he:i'=i/\j'=o;rw[oIP he]at h5;exact .inr h5;rw[oIN he]at h5;refine .inl ⟨(hfp k).2 (.inr ⟨i',j',h5.1,h5.2.1,h5.2.2⟩),λh6=>he (hdis _ _ _ _ k h5.2.2 h6)⟩;intro i' h;have h':i'<c.length:=by simpa using h
  rw[List.getElem_modify];split;rw[oLM];exact hsz i' h';exact hsz i' h';intro i' j' Zn ZR;have hi'':i'<c.length:=by simpa using Zn
  rw[Array.getElem?_setIfInBounds];by_cases he:i'=i/\j'=o;obtain⟨rfl,rfl⟩:=he;simp[hlt];rw[oIN (λh=>he (by obtain⟨h1,h2⟩:=PW I' ZR h;exact⟨h1.symm,h2.symm⟩))];simp only[oIN he];exact hcell i' j' hi'' ZR;intro i' j' h h';have hi'':i'<c.length:=by simpa using h
  have hj'':j'<c[i'].length:=by rw[List.getElem_modify]at h';split at h'<;>simpa using h'
  rw[zl i' j' hi'' hj'' h h'];by_cases he:i'=i/\j'=o;simp only[oIP he];exact Zp;simp only[oIN he];have hj3:j'<sz:=by rw[<- hsz i' hi''];exact hj''
  refine((hrec i' j' hi'' hj'').frame (λk hk=>ZU k ⟨i',j',hi'',hj3,he,hk⟩) hF Zg).refp λk=>?_;simp[hi'',hj3];intro i' j';split;exact hgb;exact λh=>hnb i' j' h.2.2;intro i1 j1 i2 j2 k h1 h2;by_cases e1:i1=i/\j1=o;by_cases e2:i2=i/\j2=o;exact⟨e1.1.trans e2.1.symm,e1.2.trans e2.2.symm⟩;rw[oIP e1]at h1;rw[oIN e2]at h2;exact absurd h2.2.2 (hgd k h1 i2 j2 h2.1 h2.2.1 e2);by_cases e2:i2=i/\j2=o;rw[oIN e1]at h1;rw[oIP e2]at h2;exact absurd h1.2.2 (hgd k h2 i1 j1 h1.1 h1.2.1 e1);rw[oIN e1]at h1;rw[oIN e2]at h2;exact hdis _ _ _ _ k h1.2.2 h2.2.2
 cases hs with
 |nil=>
 simp only[gJ,oSJ]at Z5;subst Z5;refine⟨⟨b,0+(i*el.length+o),none⟩,u i o,f i o,by simp[gP,hi],rfl,Y9,hfz,hrio,Z9,(hfp b).2 (.inl rfl),hnb i o,?_⟩;intro w' F' t' u' ZJ hw hF Zg Zp hd;simp only[iU];have hbb:w'.heap[b]?=some (.cells (cur.setIfInBounds (i*sz+o) u') e (0,0)):=by rw[hw b ((hfp b).2 (.inl rfl)) (hnb i o),Nat.zero_add,hszi];exact nH w b _ u' hb
 refine build w' F' t' u' ZJ hbb (λk ⟨i',j',h1,h2,h3,h4⟩=>?_) hF Zg Zp (λh=>hd b h ⟨(hfp b).2 (.inl rfl),hnb i o⟩) (λk hk i' j' h1 h2 h3 h4=>hd k hk ⟨(hfp k).2 (.inr ⟨i',j',h1,h2,h4⟩),λh=>h3 (hdis _ _ _ _ k h4 h)⟩);have hkb:k≠b:=λe=>hnb i' j' (e▸h4);rw[hw k ((hfp k).2 (.inr ⟨i',j',h1,h2,h4⟩)) (λh=>h3 (hdis _ _ _ _ k h4 h))];exact gK w _ u' hkb
 |cons h2 YY=>
 obtain⟨ad,u1,Zw,Y4,ZG,YS,hfr,XA,X9,hin,hnin,hrep⟩:=ih hrio (by simp) Z5;refine⟨ad,u1,Zw,?_,ZG,YS,hfr,XA,λk hk=>Z9 k (X9 k hk),Z9 _ hin,hnin,?_⟩;simp only[gP,hi,if_true,Y9];exact Y4;intro w' F' t' u' ZJ hw hF Zg Zp hd;have hadb:b≠ad.block:=λe=>hnb i o (e▸hin);have h3:=hrep w' F' t' u' ZJ (λk hk Ze=>hw k (Z9 k hk) Ze) hF Zg Zp (λk hk h=>hd k hk ⟨Z9 k h.1,h.2⟩);have hbb:w'.heap[b]?=some (.cells (cur.setIfInBounds (i*sz+o) (u i o)) e (0,0)):=by
  rw[hw b ((hfp b).2 (.inl rfl)) (λh=>hnb i o (X9 b h)),gK w ad u' hadb,hb];congr 2;apply Array.ext_getElem?;intro j;rw[Array.getElem?_setIfInBounds];by_cases hj:i*sz+o=j;subst hj;first|exact Zi|(rw[oIP rfl];first|exact Zi.symm|(rw[oIP hlt];exact Zi.symm)|(rw[oIP hlt];exact Zi)|simp[hlt,Zi])
  rw[oIN hj]
 have h4:=build w' F' _ _ _ hbb (λk ⟨i',j',h1,h2,h5,h6⟩=>by
  have Ze:¬Zw k:=λh=>h5 (hdis _ _ _ _ k h6 (X9 k h));have hka:k≠ad.block:=λe=>h5 (hdis _ _ _ _ ad.block (e▸h6) hin);rw[hw k ((hfp k).2 (.inr ⟨i',j',h1,h2,h6⟩)) Ze];exact gK w ad u' hka) hF Zg h3
  (λh=>by rcases h with h|h;exact hnb i o h.1;exact hd b h ⟨(hfp b).2 (.inl rfl),λh=>hnb i o (X9 b h)⟩)
  (λk hk i' j' h1 h2 h5 h6=>by rcases hk with hk|hk;exact h5 (hdis _ _ _ _ k h6 hk.1);exact hd k hk ⟨(hfp k).2 (.inr ⟨i',j',h1,h2,h6⟩),λh=>h5 (hdis _ _ _ _ k h6 (X9 k h))⟩)
 have hset:iU (.ow c) ((i,el.length,o)::h2::YY) t'=.ow (c.modify i λel=>el.modify o λ_=>iU t2 (h2::YY) t'):=by simp only[iU];congr 1;apply oEG;intro j;simp only[oGM];by_cases hij:i=j;subst hij;simp only[hc,if_true,oMS];refine congrArg some ?_;apply oEG;intro l;simp only[oGM];by_cases hol:o=l;subst hol;simp[ho];simp[hol];simp[hij]
 rw[hset];refine h4.refp λk=>?_;constructor;rintro(⟨h5,h6⟩|(⟨h5,h6⟩|h5));exact .inl ⟨h5,λh=>h6 (X9 k h)⟩;exact .inl ⟨Z9 k h5,h6⟩;exact .inr h5;rintro(⟨h5,h6⟩|h5);by_cases h7:f i o k;exact .inr (.inl ⟨h7,h6⟩);exact .inl ⟨h5,h7⟩;exact .inr (.inr h5)
theorem jS.hdr{w:World}{F fp:Nat->Prop}{c:o_}{x:Value}(h:jS w F fp (.ow c) x):∃a cap,x=.slice a c.length cap/\c.length<=cap:=by cases h with|nil=>simp_all|ow sz u f hfp hb hsz hcap=>exact⟨_,_,rfl,hcap⟩
theorem r8.hdr{w:World}{F:Nat->Prop}{c:o_}{x:Value}(h:r8 w F (.sl c) x):∃a cap,x=.slice a c.length cap/\c.length<=cap:=by cases h with|sl sz u hsz hcap=>exact⟨_,_,rfl,hcap⟩
theorem tQ{hs:L_}:∀{w w':World}{F fp:Nat->Prop}{tv t:TV}{x:Value},jS w F fp tv x->gJ tv hs=some t->(∀k,fp k->w'.heap[k]?=w.heap[k]?)->gP w' x hs=gP w x hs:=by
 induction hs with
 |nil=>intro w w' F fp tv t x h _ _;cases x<;>simp[gP]|cons hop hs ih=>
 obtain⟨i,sz',o⟩:=hop;intro w w' F fp tv t x hown hget0 hk;obtain⟨c,el,t2,rfl,hc,hz,ho,Z5⟩:=jc hget0;subst hz;cases hown with
 |nil hfp=>simp at hc| @ow _ _ b cap cur e sz u f hfp hb hsz hcap hz0 hmax hcur hcell hrec hnb hdis=>
 obtain⟨hi,YW⟩:=oGS hc;obtain⟨Zy,YT⟩:=oGS ho;have hszi:el.length=sz:=by rw[<- YW];exact hsz i hi
 have I':o<sz:=by omega
 have hrio:jS w F (f i o) t2 (u i o):=by have:=hrec i o hi (by rw[YW];exact Zy);simpa[YW,YT]using this
 have hbw:=hk b ((hfp b).2 (.inl rfl));have Y9:w.cell? ⟨b,0+(i*el.length+o),none⟩=some (u i o):=by rw[cell_of_row w b _ _ _ _ hb,Nat.zero_add,hszi];exact hcell i o hi I'
 have hcl':w'.cell? ⟨b,0+(i*el.length+o),none⟩=some (u i o):=by rw[World.cell?_of_block hbw];exact Y9
 cases hs with|nil=>simp[gP]|cons h2 YY=>simp only[gP,hi,if_true,Y9,hcl'];exact ih hrio Z5 λk YD=>hk k ((hfp k).2 (.inr ⟨i,o,hi,I',YD⟩))
theorem NR{w:World}{ad:Addr}{u u':Value}(hc:w.cell? ad=some u)(hu:kJ u=true)(hu':kJ u'=true){hs:L_}:∀{x:Value},gP (w.setCell ad u') x hs=gP w x hs:=by
 induction hs with
 |nil=>intro x;cases x<;>simp[gP]|cons hop hs ih=>
 obtain⟨i,sz,o⟩:=hop;intro x;cases hs with
 |nil=>cases x with|slice a n c=>cases a<;>simp[gP]|_=>simp[gP]
 |cons h2 YY=>
 cases x with
 |slice a n c=>
 cases a with
  |none=>simp[gP]|some a=>
  simp[gP];split;by_cases he:(⟨a.block,a.off+(i*sz+o),none⟩:Addr)=ad;subst he;rw[World.cell?_setCell_same w _ _ hc,hc];have n1:∀y:Value,kJ y=true->∀w:World,gP w y (h2::YY)=none:=by intro y hy w;cases y<;>simp[kJ]at hy<;>simp[gP]
  simp_all;rw[World.cell?_setCell_other w ad ⟨a.block,a.off+(i*sz+o),none⟩ u' (λe=>he e.symm)];simp_all;rfl
 |_=>simp[gP]
theorem zP{w w':World}(hk:∀k,k<w.heap.size->w'.heap[k]?=w.heap[k]?){hs:L_}:∀{x:Value}{ad:Addr},gP w x hs=some ad->gP w' x hs=some ad:=by
 induction hs with
 |nil=>intro x ad h;cases x<;>simp[gP]at h|cons hop hs ih=>
 obtain⟨i,sz,o⟩:=hop;intro x ad h;cases hs with
 |nil=>
 cases x with
  |slice a n c=>cases a<;>first|(simp[gP]at h;done)|simpa[gP]using h
  |_=>simp[gP]at h
 |cons h2 YY=>
 cases x with
 |slice a n c=>
 cases a with
  |none=>simp[gP]at h|some a=>
  simp only[gP]at h⊢;split at h;rename_i hi;cases hcc:w.cell? ⟨a.block,a.off+(i*sz+o),none⟩with|none=>simp_all|some y=>rw[World.cell?_of_block (hk _ (World.block_lt_of_cell? w _ hcc)),hcc];simp_all
  simp at h
 |_=>simp[gP]at h
theorem rT(c:o_)(i o:Nat)(f:TV->TV):(c.modify i λel=>el.modify o f).map List.length=c.map List.length:=by
 apply oEG;intro j;simp only[oGP,oGM];by_cases h:i=j;subst h;cases c[i]?<;>simp
 simp[h]
theorem Nh{c c':o_}(h:c'.map List.length=c.map List.length):c'.length=c.length:=by have:=congrArg List.length h;simpa using this
theorem qC{qs hs:L_}:∀{tv t tq t':TV},gJ tv qs=some tq->gJ tv hs=some t->hs.length<=qs.length->∃t1,gJ (iU tv qs t') hs=some t1/\(hs.length<qs.length->∀c,t=.ow c->∃c',t1=.ow c'/\c'.map List.length=c.map List.length):=by
 induction qs generalizing hs with
 |nil=>
 intro tv t tq t' _ h hl;have:hs=[]:=by simp_all
 subst this;exact⟨t',rfl,λh=>absurd h (by simp)⟩
 |cons q qs ih=>
 obtain⟨i,sz,o⟩:=q;intro tv t tq t' hq h hl;obtain⟨c,el,t2,rfl,hc,hz,ho,Y7⟩:=jc hq;cases hs with
 |nil=>exact⟨_,rfl,λ_ c' Y2=>⟨_,rfl,by simp only[gJ,oSJ]at h;subst h;injection Y2 with Y2;subst Y2;exact rT _ _ _ _⟩⟩
 |cons p hs=>
 obtain⟨i',sz',o'⟩:=p;obtain⟨c2,el2,t3,e,ZL,W',E',h2⟩:=jc h;injection e with e
 subst e;subst W';simp at hl;by_cases hii:i=i';subst hii;rw[hc]at ZL;obtain rfl:=Option.some.inj ZL;by_cases hoo:o=o';subst hoo;rw[ho]at E';obtain rfl:=Option.some.inj E';obtain⟨t1,g1,g2⟩:=ih (t':=t') Y7 h2 hl;refine⟨t1,?_,λhlt=>g2 (by simpa using hlt)⟩;simp[iU,gJ,oGM,hc,ho,g1];refine⟨t,?_,λ_ c hc=>⟨c,hc,rfl⟩⟩;simp[iU,gJ,oGM,hc,E',hoo,h2];refine⟨t,?_,λ_ c hc=>⟨c,hc,rfl⟩⟩;simp[iU,gJ,oGM,ZL,hii,E',h2]
theorem Ej{qs hs:L_}:∀{tv t:TV}{y y':TV},gJ tv qs=some y->(∀c,y≠.ow c)->gJ tv hs=some t->∃t1,gJ (iU tv qs y') hs=some t1/\(∀c,t=.ow c->∃c',t1=.ow c'/\c'.map List.length=c.map List.length):=by
 induction qs generalizing hs with
 |nil=>intro tv t y y' h1 hy h;simp only[gJ,oSJ]at h1;subst h1;cases hs with|nil=>simp only[gJ,oSJ]at h;subst h;exact⟨y',rfl,λc hc=>absurd hc (hy c)⟩|cons p hs=>obtain⟨c,_,_,e,_⟩:=jc h;simp_all
 |cons q qs ih=>
 obtain⟨i,sz,o⟩:=q;intro tv t y y' hq hy h;obtain⟨c,el,t2,rfl,hc,hz,ho,Y7⟩:=jc hq;cases hs with
 |nil=>exact⟨_,rfl,λc' Y2=>⟨_,rfl,by simp only[gJ,oSJ]at h;subst h;injection Y2 with Y2;subst Y2;exact rT _ _ _ _⟩⟩
 |cons p hs=>
 obtain⟨i',sz',o'⟩:=p;obtain⟨c2,el2,t3,e,ZL,W',E',h2⟩:=jc h;injection e with e
 subst e;subst W';by_cases hii:i=i';subst hii;rw[hc]at ZL;obtain rfl:=Option.some.inj ZL;by_cases hoo:o=o';subst hoo;rw[ho]at E';obtain rfl:=Option.some.inj E';obtain⟨t1,g1,g2⟩:=ih (y':=y') Y7 hy h2;exact⟨t1,by simp[iU,gJ,oGM,hc,ho,g1],g2⟩;refine⟨t,?_,λc hc=>⟨c,hc,rfl⟩⟩;simp[iU,gJ,oGM,hc,E',hoo,h2];refine⟨t,?_,λc hc=>⟨c,hc,rfl⟩⟩;simp[iU,gJ,oGM,ZL,hii,E',h2]
theorem Ei{qs:L_}:∀{tv t t':TV},gJ tv qs=some t->gJ (iU tv qs t') qs=some t':=by induction qs with|nil=>intro tv t t' _;rfl|cons q qs ih=>have ⟨i,sz,o⟩:=q;intro tv t t' hq;obtain⟨c,el,t2,rfl,hc,hz,ho,Y7⟩:=jc hq;subst hz;simp[iU,gJ,hc,ho,ih Y7]
abbrev Key:=Nat×Nat×Nat
abbrev Cs:=Nat->Nat->TV
abbrev Vs:=Key->Nat
abbrev d_:=Option (Nat×Nat×Nat)
structure Gh where
 β:Nat->d_
 η:Nat->Nat->Value
 φ:Nat->Nat->Nat->Prop
def Gh.val(G:Gh)(w:World)(r o:Nat):Value:=match G.β r with|some (b,o0,_)=>(w.cell? ⟨b,o0+o,none⟩).getD undef|none=>G.η r o
def Gh.addrB(G:Gh)(w:World)(p:gl):t_:=
 match p.hops with
 | []=>match G.β p.root with|some (b,o0,n)=>if p.off<n then some ⟨b,o0+p.off,none⟩else none|none=>none
 |h::hs=>gP w (G.val w p.root p.off) (h::hs)
def Gh.addr(G:Gh)(w:World)(p:gl):t_:=
 match p.hops with
 | []=>match G.β p.root with|some (b,o0,_)=>some ⟨b,o0+p.off,none⟩|none=>none
 |h::hs=>gP w (G.val w p.root p.off) (h::hs)
def Gh.hv(G:Gh)(w:World)(p:gl):r_:=hvT w (G.val w p.root p.off) p.hops
theorem ql{G:Gh}{w:World}{p:gl}{ad:Addr}(h:G.addr w p=some ad)(hn:p.hops=[]->∀b o0 n,G.β p.root=some (b,o0,n)->p.off<n):G.addrB w p=some ad:=by unfold Gh.addr at h;unfold Gh.addrB;grind
def Gh.F(A:Nat->Prop)(G:Gh)(k:Nat):Prop:=A k/\(∀r o,¬G.φ r o k)/\(∀r b o n,G.β r=some (b,o,n)->k≠b)
structure ol (A:Nat->Prop)(C:Cs)(w:World)(G:Gh):Prop where
 cell:∀r o,(C r o=.dead/\∀k,¬G.φ r o k)\/jS w (G.F A) (G.φ r o) (C r o) (G.val w r o)
 box:∀r b o0 n,G.β r=some (b,o0,n)->∃cur e fz,w.heap[b]?=some (.cells cur e fz)/\o0+n<=cur.size/\∀j,j<n->w.frozen? ⟨b,o0+j,none⟩=false
 boxc:∀r b o0 n,G.β r=some (b,o0,n)->∀o,n<=o->C r o=.dead
 boxd:∀r r' b o n o' n',G.β r=some (b,o,n)->G.β r'=some (b,o',n')->r=r'
 boxf:∀r b o n,G.β r=some (b,o,n)->∀r' o',¬G.φ r' o' b
 dis:∀r o r' o' k,G.φ r o k->G.φ r' o' k->r=r'/\o=o'
 allow:∀r o k,G.φ r o k->A k
theorem ol.own{A:Nat->Prop}{C:Cs}{w:World}{G:Gh}(h:ol A C w G){r o:Nat}(hd:C r o≠.dead):jS w (G.F A) (G.φ r o) (C r o) (G.val w r o):=(h.cell r o).resolve_left λh=>hd h.1
theorem ol.live{A:Nat->Prop}{C:Cs}{w:World}{G:Gh}(h:ol A C w G){r o k:Nat}(hk:G.φ r o k):k<w.heap.size:=by rcases h.cell r o with⟨_,hn⟩|h;simp_all;exact h.live k hk
theorem ol.boxlt{A:Nat->Prop}{C:Cs}{w:World}{G:Gh}(h:ol A C w G){r b o n:Nat}(hb:G.β r=some (b,o,n)):b<w.heap.size:=by have ⟨cur,e,fz,h1,_⟩:=h.box r b o n hb;grind
theorem ol.boxcell{A:Nat->Prop}{C:Cs}{w:World}{G:Gh}(h:ol A C w G){r b o0 n o:Nat}(hb:G.β r=some (b,o0,n))(ho:o<n):w.cell? ⟨b,o0+o,none⟩=some (G.val w r o):=by
 have ⟨cur,e,fz,h1,h2,_⟩:=h.box r b o0 n hb;have hlt:o0+o<cur.size:=by omega
 have hc:=cell_of_row w b (o0+o) cur e fz h1;simp[Gh.val];simp_all
theorem mc{G G':Gh}{w w':World}{r o:Nat}(hβ:G'.β r=G.β r)(hη:G'.η r o=G.η r o)(hb:∀b o n,G.β r=some (b,o,n)->w'.heap[b]?=w.heap[b]?):G'.val w' r o=G.val w r o:=by unfold Gh.val;rw[hβ];cases h:G.β r with|none=>exact hη|some x=>have ⟨b,o0,n⟩:=x;simp only;rw[World.cell?_of_block (hb b o0 n h)]
theorem ol.set{A:Nat->Prop}{C:Cs}{w:World}{G:Gh}(hC:ol A C w G)(q:gl){t:TV}{ad:Addr}(Z6:G.addrB w q=some ad)(ht:gJ (C q.root q.off) q.hops=some t):
 ∃u Zw,ad.spot=none/\w.cell? ad=some u/\w.frozen? ad=false/\G.hv w q=some u/\(t=.dead\/jS w (G.F A) Zw t u)/\(∀k,Zw k->G.φ q.root q.off k)/\¬Zw ad.block/\((∃r b o n,G.β r=some (b,o,n)/\ad.block=b)\/G.φ q.root q.off ad.block)/\
  ∀(t':TV)(u':Value)(ZJ:Nat->Prop)(C':Cs)(G':Gh)(w':World),
   (∀k,k<w.heap.size->w'.heap[k]?=(w.setCell ad u').heap[k]?)->
   C' q.root q.off=iU (C q.root q.off) q.hops t'->G'.β=G.β->G'.η=G.η ->
   (∀k,G'.φ q.root q.off k↔(G.φ q.root q.off k/\¬Zw k)\/ZJ k)->
   (∀r o,¬(r=q.root/\o=q.off)->(C' r o=C r o/\∀k,G'.φ r o k↔G.φ r o k)\/(C' r o=.dead/\∀k,¬G'.φ r o k))->
   (∀k,ZJ k->(∃r o,G.φ r o k)\/w.heap.size<=k)->(∀k,ZJ k->A k/\(∀r o,¬(r=q.root/\o=q.off)->¬G'.φ r o k)/\¬(G.φ q.root q.off k/\¬Zw k))->
   jS w' (G'.F A) ZJ t' u'->ol A C' w' G':=by
 obtain⟨r,o,hs⟩:=q
 have hcellup:∀{b:Nat}{cur:s_}{e:TypeId}{fz:Nat×Nat}(w':World)(x:Value),w.heap[b]?=some (.cells cur e fz)->(∀k,k<w.heap.size->w'.heap[k]?=(w.setCell ad x).heap[k]?)->ad.spot=none->∃Yt:s_,w'.heap[b]?=some (.cells Yt e fz)/\Yt.size=cur.size:=by
  intro b cur e fz w' x hb hw ZG
  have hlt:b<w.heap.size:=by
   rcases Nat.lt_or_ge b w.heap.size with h|h
   ·exact h
   ·simp[Array.getElem?_eq_none h]at hb
  rw[hw b hlt];by_cases he:b=ad.block
  ·obtain⟨ab,ao,asq⟩:=ad;simp only at he ZG;subst he;subst ZG;exact⟨_,nH w b ao x hb,by simp⟩
  ·exact⟨cur,by rw[gK w ad x he,hb],rfl⟩
 have hfzup:∀(w':World)(x:Value)(a:Addr),a.block<w.heap.size->(∀k,k<w.heap.size->w'.heap[k]?=(w.setCell ad x).heap[k]?)->w'.frozen? a=w.frozen? a:=by
  intro w' x a ha hw;rw[World.frozen?_of_block (hw a.block ha),World.frozen?_setCell]
 have ZV:∀(u:Value) (Zw:Nat->Prop) (ZG:ad.spot=none) (YS:w.cell? ad=some u) (hfp1:∀k,Zw k->G.φ r o k) (hnb:¬Zw ad.block)
  (X1:(∃r b o n,G.β r=some (b,o,n)/\ad.block=b)\/G.φ r o ad.block)
  (Z7:∀(t':TV)(u':Value)(ZJ:Nat->Prop)(G':Gh)(w':World),(∀k,k<w.heap.size->w'.heap[k]?=(w.setCell ad u').heap[k]?)->G'.β=G.β->G'.η=G.η->(∀k,G.F A k->k<w.heap.size->G'.F A k)->
   (∀k,G.F A k->k<w.heap.size->w'.heap[k]?=w.heap[k]?)->jS w' (G'.F A) ZJ t' u'->(∀k,ZJ k->¬(G.φ r o k/\¬Zw k))->
   (iU (C r o) hs t'=.dead/\∀k,¬((G.φ r o k/\¬Zw k)\/ZJ k))\/jS w' (G'.F A) (λk=>(G.φ r o k/\¬Zw k)\/ZJ k) (iU (C r o) hs t') (G'.val w' r o)),
  ∀(t':TV)(u':Value)(ZJ:Nat->Prop)(C':Cs)(G':Gh)(w':World),
   (∀k,k<w.heap.size->w'.heap[k]?=(w.setCell ad u').heap[k]?)->
   C' r o=iU (C r o) hs t'->G'.β=G.β->G'.η=G.η ->
   (∀k,G'.φ r o k↔(G.φ r o k/\¬Zw k)\/ZJ k)->
   (∀r' o',¬(r'=r/\o'=o)->(C' r' o'=C r' o'/\∀k,G'.φ r' o' k↔G.φ r' o' k)\/(C' r' o'=.dead/\∀k,¬G'.φ r' o' k))->
   (∀k,ZJ k->(∃r o,G.φ r o k)\/w.heap.size<=k)->(∀k,ZJ k->A k/\(∀r' o',¬(r'=r/\o'=o)->¬G'.φ r' o' k)/\¬(G.φ r o k/\¬Zw k))->
   jS w' (G'.F A) ZJ t' u'->ol A C' w' G':=by
  intro u Zw ZG YS hfp1 hnb X1 Z7 t' u' ZJ C' G' w' hw hCq hβ hη hφq YQ Zp hal hown
  have Zg:∀k,G.F A k->k<w.heap.size->G'.F A k:=by
   intro k ⟨h1,h2,h3⟩ hlt;refine⟨h1,λr' o' hk=>?_,λr' b o' n' hb=>h3 r' b o' n' (hβ ▸ hb)⟩;by_cases he:r'=r/\o'=o
   ·obtain⟨rfl,rfl⟩:=he
    rcases(hφq k).1 hk with h|h
    ·exact h2 _ _ h.1
    ·rcases Zp k h with⟨r2,o2,h4⟩|h4
     ·exact h2 _ _ h4
     ·omega
   ·rcases YQ r' o' he with⟨_,h4⟩|⟨_,h4⟩
    ·exact h2 _ _ ((h4 k).1 hk)
    ·exact h4 k hk
  have hadF:∀k,G.F A k->k≠ad.block:=by
   intro k ⟨_,h2,h3⟩ he
   rcases X1 with⟨r',b,o',n',hb,Zh⟩|hφ
   ·exact h3 r' b o' n' hb (he.trans Zh)
   ·exact h2 _ _ (he▸hφ)
  have Ym:∀k,G.F A k->k<w.heap.size->w'.heap[k]?=w.heap[k]?:=λk hk hlt=>by rw[hw k hlt];exact gK w ad u' (hadF k hk)
  have hφsame:∀r' o',¬(r'=r/\o'=o)->∀k,G.φ r' o' k->w'.heap[k]?=w.heap[k]?:=by
   intro r' o' he k hk;rw[hw k (hC.live hk)];refine gK w ad u' λe=>?_
   rcases X1 with⟨r2,b,o2,n2,hb,Zh⟩|hφ
   ·exact hC.boxf r2 b o2 n2 hb r' o' (by rw[<- Zh,<- e];exact hk)
   ·exact he (hC.dis _ _ _ _ k hk (by rw[e];exact hφ))
  constructor
  ·intro r' o';by_cases he:r'=r/\o'=o
   ·obtain⟨rfl,rfl⟩:=he;rw[hCq]
    rcases Z7 t' u' ZJ G' w' hw hβ hη Zg Ym hown (λk hk=>(hal k hk).2.2)with⟨h1,h2⟩|h1
    ·exact .inl ⟨h1,λk hk=>h2 k ((hφq k).1 hk)⟩
    ·exact .inr (h1.refp λk=>(hφq k).symm)
   ·rcases YQ r' o' he with⟨h1,h2⟩|h1
    ·rw[h1]
     rcases hC.cell r' o' with⟨h3,h4⟩|h3
     ·exact .inl ⟨h3,λk hk=>h4 k ((h2 k).1 hk)⟩
     ·by_cases hdead:C r' o'=.dead
      ·left;rw[hdead]at h3;refine⟨hdead,λk hk=>?_⟩
       cases h3 with
       |dead hfp _=>exact hfp k ((h2 k).1 hk)
      right
      have hv:G'.val w' r' o'=G.val w r' o':=by
       unfold Gh.val;rw[hβ,hη]
       cases hbb:G.β r' with
       |none=>rfl
       |some x=>
        obtain⟨b,o0,n⟩:=x
        have hne:(⟨b,o0+o',none⟩:Addr)≠ad:=by
         intro e
         rcases X1 with⟨r2,b2,o2,n2,hb2,hb2'⟩|hφ
         ·
          exact absurd trivial (by
           intro _;have hr:r2=r':=hC.boxd r2 r' b o2 n2 o0 n (by rw[hb2,<- hb2',<- e]) hbb;subst hr
           cases hs with
           |nil=>
            simp only[Gh.addrB]at Z6
            cases hbr:G.β r with
            |none=>simp[hbr]at Z6
            |some y=>
             obtain⟨b3,o3,n3⟩:=y;simp only[hbr]at Z6;split at Z6
             ·injection Z6 with Z6
              rw[<- Z6]at e
              injection e with e1 e2
              have hr3:r2=r:=hC.boxd r2 r b o0 n o3 n3 hbb (by rw[hbr,e1]);subst hr3;rw[hbb]at hbr
              injection hbr with hbr
              injection hbr with h5 h6
              injection h6 with h6 h7
              exact he ⟨rfl,by omega⟩
             ·simp at Z6
           |cons h hs'=>
            have hd:C r o≠.dead:=by
             intro hd;have:=ht;simp only at this;rw[hd]at this;simp[gJ]at this
            obtain⟨ad2,u2,fp2,X2,_,_,_,_,_,hin2,_⟩:=lens (hC.own hd) (by simp) ht;have Xs:gP w (G.val w r o) (h::hs')=some ad:=Z6;rw[Xs]at X2
            injection X2 with X2
            subst X2
            exact hC.boxf r2 b o0 n hbb r o (by rw[<- e]at hin2;exact hin2))
         ·exact hC.boxf r' b o0 n hbb r o (by rw[<- e]at hφ;exact hφ)
        have hblt:b<w.heap.size:=hC.boxlt hbb;show(w'.cell? ⟨b,o0+o',none⟩).getD undef=(w.cell? ⟨b,o0+o',none⟩).getD undef;rw[show w'.cell? ⟨b,o0+o',none⟩=(w.setCell ad u').cell? ⟨b,o0+o',none⟩from World.cell?_of_block (w:=w.setCell ad u') (hw b hblt)];rw[World.cell?_setCell_other w ad ⟨b,o0+o',none⟩ u' (λe=>hne e.symm)]
      rw[hv];exact(h3.frame (hφsame r' o' he) Ym Zg).refp λk=>(h2 k).symm
    ·exact .inl h1
  ·intro r' b o0 n hb;obtain⟨cur,e,fz,h1,h2,h3⟩:=hC.box r' b o0 n (hβ ▸ hb);obtain⟨Yt,h4,h5⟩:=hcellup w' u' h1 hw ZG;exact⟨Yt,e,fz,h4,by omega,λj hj=>by rw[hfzup w' u' _ (hC.boxlt (hβ ▸ hb)) hw];exact h3 j hj⟩
  ·intro r' b o0 n hb o' Zy;by_cases he:r'=r/\o'=o
   ·obtain⟨rfl,rfl⟩:=he;have hd:=hC.boxc r' b o0 n (hβ ▸ hb) o' Zy;exfalso
    cases hs with
    |nil=>
     simp only[Gh.addrB]at Z6;rw[<- hβ,hb]at Z6;simp only at Z6;split at Z6
     ·omega
     ·simp at Z6
    |cons h hs'=>
     have:=ht;simp only at this;rw[hd]at this;simp[gJ]at this
   ·rcases YQ r' o' he with⟨h1,_⟩|⟨h1,_⟩
    ·rw[h1];exact hC.boxc r' b o0 n (hβ ▸ hb) o' Zy
    ·exact h1
  ·intro r1 r2 b o1 n1 o2 n2 h1 h2;exact hC.boxd r1 r2 b o1 n1 o2 n2 (hβ ▸ h1) (hβ ▸ h2)
  ·intro r' b o0 n hb r2 o2 hk;have Zh:G.β r'=some (b,o0,n):=hβ ▸ hb;by_cases he:r2=r/\o2=o
   ·obtain⟨rfl,rfl⟩:=he
    rcases(hφq b).1 hk with h|h
    ·exact hC.boxf r' b o0 n Zh _ _ h.1
    ·rcases Zp b h with⟨r3,o3,h4⟩|h4
     ·exact hC.boxf r' b o0 n Zh _ _ h4
     ·have:=hC.boxlt Zh;omega
   ·rcases YQ r2 o2 he with⟨_,h4⟩|⟨_,h4⟩
    ·exact hC.boxf r' b o0 n Zh _ _ ((h4 b).1 hk)
    ·exact h4 b hk
  ·intro r1 o1 r2 o2 k h1 h2;by_cases e1:r1=r/\o1=o
   ·by_cases e2:r2=r/\o2=o
    ·exact⟨e1.1.trans e2.1.symm,e1.2.trans e2.2.symm⟩
    ·obtain⟨rfl,rfl⟩:=e1
     rcases(hφq k).1 h1 with h|h
     ·rcases YQ r2 o2 e2 with⟨_,h4⟩|⟨_,h4⟩
      ·exact hC.dis _ _ _ _ k h.1 ((h4 k).1 h2)
      ·exact absurd h2 (h4 k)
     ·exact absurd h2 ((hal k h).2.1 r2 o2 e2)
   ·by_cases e2:r2=r/\o2=o
    ·obtain⟨rfl,rfl⟩:=e2
     rcases(hφq k).1 h2 with h|h
     ·rcases YQ r1 o1 e1 with⟨_,h4⟩|⟨_,h4⟩
      ·exact hC.dis _ _ _ _ k ((h4 k).1 h1) h.1
      ·exact absurd h1 (h4 k)
     ·exact absurd h1 ((hal k h).2.1 r1 o1 e1)
    ·rcases YQ r1 o1 e1 with⟨_,h4⟩|⟨_,h4⟩
     ·rcases YQ r2 o2 e2 with⟨_,h5⟩|⟨_,h5⟩
      ·exact hC.dis _ _ _ _ k ((h4 k).1 h1) ((h5 k).1 h2)
      ·exact absurd h2 (h5 k)
     ·exact absurd h1 (h4 k)
  ·intro r' o' k hk;by_cases he:r'=r/\o'=o
   ·obtain⟨rfl,rfl⟩:=he
    rcases(hφq k).1 hk with h|h
    ·exact hC.allow _ _ k h.1
    ·exact(hal k h).1
   ·rcases YQ r' o' he with⟨_,h4⟩|⟨_,h4⟩
    ·exact hC.allow _ _ k ((h4 k).1 hk)
    ·exact absurd hk (h4 k)
 cases hs with
 |nil=>
  simp only[Gh.addrB]at Z6
  cases hbr:G.β r with
  |none=>simp[hbr]at Z6
  |some y=>
   obtain⟨b,o0,n⟩:=y;simp only[hbr]at Z6;split at Z6
   ·rename_i hlt
    injection Z6 with Z6
    subst Z6;have YS:=hC.boxcell hbr hlt;obtain⟨cur,e,fz,ZM,hb2,hb3⟩:=hC.box r b o0 n hbr;simp only[gJ,oSJ]at ht;subst ht;refine⟨G.val w r o,G.φ r o,rfl,YS,hb3 o hlt,rfl,?_,λk h=>h,hC.boxf r b o0 n hbr r o,.inl ⟨r,b,o0,n,hbr,rfl⟩,?_⟩
    ·rcases hC.cell r o with⟨h,_⟩|h
     ·exact .inl h
     ·exact .inr h
    ·refine ZV (G.val w r o) (G.φ r o) rfl YS (λk h=>h) (hC.boxf r b o0 n hbr r o) (.inl ⟨r,b,o0,n,hbr,rfl⟩) ?_;intro t' u' ZJ G' w' hw hβ hη Zg Ym hown hd
     have hv:G'.val w' r o=u':=by
      unfold Gh.val;rw[hβ,hbr];simp only;rw[show w'.cell? ⟨b,o0+o,none⟩=(w.setCell ⟨b,o0+o,none⟩ u').cell? ⟨b,o0+o,none⟩from World.cell?_of_block (w:=w.setCell ⟨b,o0+o,none⟩ u') (hw b (hC.boxlt hbr))];rw[World.cell?_setCell_same w _ _ YS];rfl
     refine .inr ?_;rw[hv];exact hown.refp λk=>⟨λh=>.inr h,λh=>h.elim (λh=>absurd h.1 h.2) id⟩
   ·simp at Z6
 |cons h hs'=>
  have hd:C r o≠.dead:=by
   intro hd;have:=ht;simp only at this;rw[hd]at this;simp[gJ]at this
  obtain⟨ad2,u,Zw,X2,ZG,YS,hfr,XA,Z9,hin,hnin,hrep⟩:=lens (hC.own hd) (by simp) ht;have Xs:gP w (G.val w r o) (h::hs')=some ad:=Z6;rw[Xs]at X2
  injection X2 with X2
  subst X2;refine⟨u,Zw,ZG,YS,hfr,mD Xs YS,.inr XA,Z9,hnin,.inr hin,?_⟩;refine ZV u Zw ZG YS Z9 hnin (.inr hin) ?_;intro t' u' ZJ G' w' hw hβ hη Zg Ym hown hdd
  have hv:G'.val w' r o=G.val w r o:=by
   refine mc (by rw[hβ]) (by rw[hη]) λb o0 n hb=>?_;rw[hw b (hC.boxlt hb)];exact gK w ad u' λe=>hC.boxf r b o0 n hb r o (e▸hin)
  right;rw[hv];exact hrep w' (G'.F A) t' u' ZJ (λk hk _=>hw k (hC.live hk)) Ym Zg hown hdd
abbrev N_:=List Nat
def iA:TV->N_->TV|t,[]=>t.imm|.ow c,o::os=>.ow (c.map λel=>el.modify o λt=>iA t os)|t,_::_=>t
def jQ(hs:L_):N_:=hs.map λh=>h.2.2
theorem KY{hs:L_}:∀{tv t:TV},gJ tv hs=some t->gJ (iA tv (jQ hs)) hs=some t.imm:=by induction hs with|nil=>intro tv t h;simp[gJ]at h;subst h;rfl|cons h hs ih=>have ⟨i,sz,o⟩:=h;intro tv t hg;obtain⟨c,el,t2,rfl,hc,hz,ho,Zx⟩:=jc hg;subst hz;have:=ih Zx;simp[jQ,iA,gJ,hc,ho]at this⊢;exact this
theorem jS.shareAt{os:N_}:∀{w:World}{F fp:Nat->Prop}{tv:TV}{x:Value},jS w F fp tv x->∃fp',(∀k,fp' k->fp k)/\jS w (λk=>F k\/(fp k/\¬fp' k)) fp' (iA tv os) x:=by
 induction os with
 |nil=>
 intro w F fp tv x h;refine⟨λ_=>False,λ_ h=>h.elim,?_⟩;have h1:=h.share'.toOwn;have e:iA tv []=tv.imm:=by cases tv<;>rfl
 simp_all
 |cons o os ih=>
 intro w F fp tv x h;cases h with
 |v hfp h=>exact⟨fp,λ_ h=>h,by simp only[iA];exact .v hfp h⟩|dead hfp h=>exact⟨fp,λ_ h=>h,by simp only[iA];exact .dead hfp h⟩|sl hfp h=>exact⟨fp,λ_ h=>h,by simp only[iA];exact .sl hfp (h.frame (λ_ _ _=>rfl) λk hk _=>.inl hk)⟩|nil hfp=>exact⟨fp,λ_ h=>h,by simp only[iA,List.map_nil];exact .nil hfp⟩| @ow _ c b cap cur e sz u f hfp hb hsz hcap hz0 hmax hcur hcell hrec hnb hdis=>
 have hch:∀i,∃g:Nat->Prop,(∀k,g k->f i o k)/\∀(h:i<c.length)(h':o<c[i].length),jS w (λk=>F k\/(f i o k/\¬g k)) g (iA c[i][o] os) (u i o):=by intro i;by_cases hi:i<c.length;by_cases ho:o<c[i].length;obtain⟨g,h1,h2⟩:=ih (hrec i o hi ho);exact⟨g,h1,λ_ _=>h2⟩;exact⟨f i o,λ_ h=>h,λ_ h=>absurd h ho⟩;exact⟨f i o,λ_ h=>h,λh=>absurd h hi⟩
 let g:Nat->Nat->Prop:=λi=>Classical.choose (hch i);have Zl:=λi=>(Classical.choose_spec (hch i)).1;have Zx:=λi=>(Classical.choose_spec (hch i)).2;refine⟨λk=>k=b\/∃i j,i<c.length/\j<sz/\(if j=o then g i k else f i j k),?_,?_⟩;rintro k (rfl|⟨i,j,hi,hj,hk⟩);exact(hfp _).2 (.inl rfl);refine(hfp k).2 (.inr ⟨i,j,hi,hj,?_⟩);split at hk;rename_i e;subst e;exact Zl i k hk;exact hk;simp only[iA];have hlen:c.length=(c.map λel=>el.modify o λt=>iA t os).length:=by simp
 rw[hlen];refine .ow sz u (λi j k=>if j=o then g i k else f i j k) (λk=>by simp) hb ?_ (by simpa using hcap) (by simpa using hz0) hmax hcur (λi j hi hj=>hcell i j (by simpa using hi) hj) ?_ ?_ ?_;intro i h;simp;exact hsz i (by simpa using h);intro i j h h';have hi:i<c.length:=by simpa using h
 have hj:j<c[i].length:=by simpa using h'
 have hjs:j<sz:=by rw[<- hsz i hi];exact hj
 simp only[List.getElem_map,List.getElem_modify];by_cases hjo:o=j;subst hjo;simp only[if_true];refine(Zx i hi hj).frame (λ_ _=>rfl) (λ_ _ _=>rfl) λk hk _=>?_;rcases hk with hk|⟨Ze,Yq⟩;exact .inl hk;refine .inr ⟨(hfp k).2 (.inr ⟨i,o,hi,hjs,Ze⟩),?_⟩;rintro(rfl|⟨i',j',Zn,ZR,YD⟩);exact hnb _ _ Ze;split at YD;rename_i e;subst e;have:=hdis _ _ _ _ k Ze (Zl i' k YD);rw[<- this.1]at YD;exact Yq YD;rename_i e;exact e (hdis _ _ _ _ k YD Ze).2;rw[oIN hjo];simp only[oIN (λe:j=o=>hjo e.symm)];exact(hrec i j hi hj).frame (λ_ _=>rfl) (λ_ _ _=>rfl) λk hk _=>.inl hk;intro i j hk;split at hk;exact hnb i o (Zl i b hk);exact hnb i j hk;intro i j i' j' k h1 h2;have e1:f i j k:=by split at h1;rename_i e;subst e;exact Zl i k h1;exact h1
 have e2:f i' j' k:=by split at h2;rename_i e;subst e;exact Zl i' k h2;exact h2
 exact hdis _ _ _ _ k e1 e2
theorem ol.grow{A:Nat->Prop}{C:Cs}{w w':World}{G:Gh}(hC:ol A C w G)(hw:∀k,k<w.heap.size->w'.heap[k]?=w.heap[k]?):ol A C w' G/\∀r o,G.val w' r o=G.val w r o:=by have hv:∀r o,G.val w' r o=G.val w r o:=λr o=>mc rfl rfl λb o n hb=>hw b (hC.boxlt hb);refine⟨⟨λr o=>?_,λr b o0 n hb=>?_,hC.boxc,hC.boxd,hC.boxf,hC.dis,hC.allow⟩,hv⟩;rcases hC.cell r o with h|h;simp_all;right;rw[hv];exact h.frame (λk hk=>hw k (h.live k hk)) (λk _ hlt=>hw k hlt) (λ_ h _=>h);have ⟨cur,e,fz,h1,h2,h3⟩:=hC.box r b o0 n hb;exact⟨cur,e,fz,by rw[hw b (hC.boxlt hb)];exact h1,h2,λj hj=>by rw[World.frozen?_of_block (hw b (hC.boxlt hb))];exact h3 j hj⟩
theorem ol.ghost{A:Nat->Prop}{C C':Cs}{w:World}{G G':Gh}(hC:ol A C w G)(hβ:G'.β=G.β) (hO:∀k,(∃r o,G'.φ r o k)->∃r o,G.φ r o k) (hdis:∀r o r' o' k,G'.φ r o k->G'.φ r' o' k->r=r'/\o=o') (YC:∀r b o0 n,G.β r=some (b,o0,n)->∀o,n<=o->C' r o=.dead) (hcell:∀r o,(C' r o=C r o/\(∀k,G'.φ r o k↔G.φ r o k)/\G'.η r o=G.η r o)\/(C' r o=.dead/\∀k,¬G'.φ r o k)\/jS w (G'.F A) (G'.φ r o) (C' r o) (G'.val w r o)):ol A C' w G'/\(∀k,G.F A k->G'.F A k):=by
 have hF:∀k,G.F A k->G'.F A k:=by rintro k ⟨h1,h2,h3⟩;refine⟨h1,λr o h=>?_,λr b o n hb=>h3 r b o n (hβ ▸ hb)⟩;obtain⟨r',o',h'⟩:=hO k ⟨r,o,h⟩;simp_all
 refine⟨⟨λr o=>?_,λr b o0 n hb=>hC.box r b o0 n (hβ ▸ hb),λr b o0 n hb=>YC r b o0 n (hβ ▸ hb),λr r' b o n o' n' h h'=>hC.boxd r r' b o n o' n' (hβ ▸ h) (hβ ▸ h'),λr b o n hb r' o' hk=>?_,hdis,λr o k hk=>?_⟩,hF⟩;rcases hcell r o with⟨h1,h2,h3⟩|h|h;rcases hC.cell r o with⟨h4,h5⟩|h4;simp_all;right;rw[h1,mc (G:=G) (w:=w) (by rw[hβ]) h3 (λ_ _ _ _=>rfl)];exact(h4.frame (λ_ _=>rfl) (λ_ _ _=>rfl) (λk h _=>hF k h)).refp λk=>(h2 k).symm;exact .inl h;exact .inr h;obtain⟨r2,o2,h2⟩:=hO b ⟨r',o',hk⟩;exact hC.boxf r b o n (hβ ▸ hb) r2 o2 h2;obtain⟨r2,o2,h2⟩:=hO k ⟨r,o,hk⟩;exact hC.allow r2 o2 k h2
def oL(C:Cs)(r o:Nat)(t:TV):Cs:=λr' o'=>if r'=r/\o'=o then t else C r' o'
theorem ol.share{A:Nat->Prop}{C:Cs}{w:World}{G:Gh}(hC:ol A C w G)(r o:Nat)(os:N_)(hd:C r o≠.dead):∃G',G'.β=G.β/\G'.η=G.η/\ol A (oL C r o (iA (C r o) os)) w G'/\(∀k,G.F A k->G'.F A k)/\∀r o k,G'.φ r o k->G.φ r o k:=by
 obtain⟨fp',h1,h2⟩:=(hC.own hd).shareAt;let G':Gh:=⟨G.β,G.η,λr' o' k=>if r'=r/\o'=o then fp' k else G.φ r' o' k⟩;have Z9:∀r' o' k,G'.φ r' o' k->G.φ r' o' k:=by intro r' o' k hk;dsimp[G']at hk;split at hk;simp_all;exact hk
 have Yu:=ol.ghost (C':=oL C r o (iA (C r o) os)) (G':=G') hC rfl (λk ⟨r',o',h⟩=>⟨r',o',Z9 r' o' k h⟩)
  (λ_ _ _ _ k h h'=>hC.dis _ _ _ _ k (Z9 _ _ k h) (Z9 _ _ k h'))
  (λr' b o0 n hb o' Zy=>by
   unfold oL;split
   ·rename_i e;rw[<- e.1,<- e.2]at hd;exact absurd (hC.boxc r' b o0 n hb o' Zy) hd
   ·exact hC.boxc r' b o0 n hb o' Zy)
  (λr' o'=>by
   by_cases e:r'=r/\o'=o
   ·obtain⟨rfl,rfl⟩:=e;refine .inr (.inr ?_);simp[oL,if_true]
    refine(h2.frame (λ_ _=>rfl) (λ_ _ _=>rfl) ?_).refp λk=>by simp[G']
    rintro k (⟨h3,h4,h5⟩|⟨h3,h4⟩) _
    ·exact⟨h3,λr2 o2 h=>h4 r2 o2 (Z9 r2 o2 k h),h5⟩
    ·refine⟨hC.allow _ _ k h3,λr2 o2 h=>?_,λr2 b o2 n hb hkb=>hC.boxf r2 b o2 n hb _ _ (hkb▸h3)⟩;have:=hC.dis _ _ _ _ k h3 (Z9 r2 o2 k h);obtain⟨rfl,rfl⟩:=this;exact h4 (by simpa[G']using h)
   ·exact .inl ⟨by simp[oL,e],λk=>by simp[G',e],rfl⟩)
 exact⟨G',rfl,rfl,Yu.1,Yu.2,Z9⟩
theorem ol.shareV{A:Nat->Prop}{C:Cs}{w:World}{G:Gh}(hC:ol A C w G)(q:gl){c:o_}(ht:gJ (C q.root q.off) q.hops=some (.ow c)):∃G' u,G'.β=G.β/\G'.η=G.η/\ol A (oL C q.root q.off (iA (C q.root q.off) (jQ q.hops))) w G'/\(∀k,G.F A k->G'.F A k)/\(∀r o k,G'.φ r o k->G.φ r o k)/\G.hv w q=some u/\r8 w (G'.F A) (TV.ow c).imm u:=by
 obtain⟨r,o,hs⟩:=q;have hd:C r o≠.dead:=by intro hd;have:=ht;rw[hd]at this;cases hs<;>simp[gJ]at this
 have ⟨G',hβ,hη,hC',hF,hφ⟩:=hC.share r o (jQ hs) hd;have hg:=KY ht;have hcs:oL C r o (iA (C r o) (jQ hs)) r o=iA (C r o) (jQ hs):=by simp[oL]
 have Zq:oL C r o (iA (C r o) (jQ hs)) r o≠.dead:=by rw[hcs];intro hd2;have h2:=hg;rw[hd2]at h2;cases hs<;>simp[gJ,TV.imm]at h2
 have hown:=hC'.own Zq;rw[hcs]at hown;have hv:G'.val w r o=G.val w r o:=mc (by rw[hβ]) (by rw[hη]) λ_ _ _ _=>rfl;rw[hv]at hown;have ZV:∀u fp,jS w (G'.F A) fp (TV.ow c).imm u->r8 w (G'.F A) (TV.ow c).imm u:=by intro u fp h;cases h with|sl _ h=>exact h
 cases hs with
 |nil=>
 refine⟨G',G.val w r o,hβ,hη,hC',hF,hφ,rfl,ZV _ (G'.φ r o) ?_⟩;simp[gJ]at ht;have e:iA (C r o) (jQ [])=(TV.ow c).imm:=by rw[ht];rfl
 simp_all
 |cons h hs=>have ⟨ad,u,Zw,h1,_,h3,_,h5,_⟩:=lens hown (by simp) hg;exact⟨G',u,hβ,hη,hC',hF,hφ,mD h1 h3,ZV _ _ h5⟩
theorem ol.move{A:Nat->Prop}{C:Cs}{w:World}{G:Gh}(hC:ol A C w G)(q:gl){c:o_}(ht:gJ (C q.root q.off) q.hops=some (.ow c))(h ho:Nat)(hβ:G.β h=none)(hd:C h ho=.dead):∃G' u,G'.β=G.β/\(∀r o,¬(r=h/\o=ho)->G'.η r o=G.η r o)/\G'.η h ho=u/\G.hv w q=some u /\ol A (oL (oL C q.root q.off (iU (C q.root q.off) q.hops .dead)) h ho (.ow c)) w G'/\(∀k,G.F A k->G'.F A k):=by
 obtain⟨r,o,hs⟩:=q;have hdr:C r o≠.dead:=by intro hdr;have:=ht;simp only at this;rw[hdr]at this;cases hs<;>simp[gJ]at this
 have main:∃u Zw,G.hv w ⟨r,o,hs⟩=some u/\jS w (G.F A) Zw (.ow c) u/\(∀k,Zw k->G.φ r o k)/\∀F',(∀k,G.F A k->F' k)->((iU (C r o) hs .dead=.dead/\∀k,¬(G.φ r o k/\¬Zw k))\/jS w F' (λk=>G.φ r o k/\¬Zw k) (iU (C r o) hs .dead) (G.val w r o)):=by
  cases hs with
  |nil=>simp only[gJ,oSJ]at ht;have hown:=hC.own hdr;refine⟨G.val w r o,G.φ r o,rfl,by rw[ht]at hown;exact hown,λ_ h=>h,λF' _=>.inl ⟨rfl,λk h=>h.2 h.1⟩⟩|cons hp hs=>
  obtain⟨ad,u,Zw,h1,ZG,h3,h4,h5,h6,h7,h8,hrep⟩:=lens (hC.own hdr) (by simp) ht;refine⟨u,Zw,mD h1 h3,h5,h6,λF' hF'=>.inr ?_⟩;have:=hrep w F' .dead u (λ_=>False) (λk _ _=>by
   by_cases hk:k=ad.block;obtain⟨ab,ao,asq⟩:=ad;simp only at hk ZG;subst hk;subst ZG;unfold World.cell? at h3;cases hb:w.heap[k]? with
   |none=>simp[hb]at h3|some ob=>
    cases ob with
    |cells cur e fz=>
    simp only[hb]at h3;rw[nH w k ao u hb];congr 2;apply Array.ext_getElem?;intro j;rw[Array.getElem?_setIfInBounds];by_cases hj:ao=j;subst hj;rw[oIP rfl];have h3':cur[ao]?=some u:=by simpa using h3
    rw[h3',oIP (Array.getElem?_eq_some_iff.1 h3').1];rw[oIN hj]
    |_=>simp[hb]at h3
   exact(gK w ad u hk).symm) (λ_ _ _=>rfl) (λk hk _=>hF' k hk) (.dead (λ_ h=>h) h5.one) (λ_ h=>h.elim)
  exact this.refp λk=>⟨λh=>h.elim id False.elim,.inl⟩
 obtain⟨u,Zw,ZB,XA,Z9,ZU⟩:=main;let G':Gh:=⟨G.β,λr' o'=>if r'=h/\o'=ho then u else G.η r' o',λr' o' k=>if r'=h/\o'=ho then Zw k else if r'=r/\o'=o then G.φ r o k/\¬Zw k else G.φ r' o' k⟩;have XC:∀r' o' k,G'.φ r' o' k->(r'=h/\o'=ho/\Zw k)\/(¬(r'=h/\o'=ho)/\G.φ r' o' k/\(r'=r/\o'=o->¬Zw k)):=by intro r' o' k hk;dsimp only[G']at hk;split at hk;rename_i e;exact .inl ⟨e.1,e.2,hk⟩;rename_i e;split at hk;simp_all;rename_i e2;exact .inr ⟨e,hk,λh=>absurd h e2⟩
 have Zg:∀k,G.F A k->G'.F A k:=by rintro k ⟨h1,h2,h3⟩;refine⟨h1,λr' o' hk=>?_,h3⟩;rcases XC r' o' k hk with⟨_,_,h4⟩|⟨_,h4,_⟩;exact h2 r o (Z9 k h4);exact h2 r' o' h4
 have Yu:=ol.ghost (C':=oL (oL C r o (iU (C r o) hs .dead)) h ho (.ow c)) (G':=G') hC rfl
  (λk ⟨r',o',hk⟩=>by
   rcases XC r' o' k hk with⟨_,_,h4⟩|⟨_,h4,_⟩
   ·exact⟨r,o,Z9 k h4⟩
   ·exact⟨r',o',h4⟩)
  (λr1 o1 r2 o2 k h1 h2=>by
   rcases XC r1 o1 k h1 with⟨e1,e2,h3⟩|⟨e1,h3,h3'⟩
   ·rcases XC r2 o2 k h2 with⟨e3,e4,h4⟩|⟨e3,h4,h4'⟩
    ·exact⟨e1.trans e3.symm,e2.trans e4.symm⟩
    ·have:=hC.dis _ _ _ _ k h4 (Z9 k h3);exact absurd h3 (h4' this)
   ·rcases XC r2 o2 k h2 with⟨e3,e4,h4⟩|⟨e3,h4,h4'⟩
    ·have:=hC.dis _ _ _ _ k h3 (Z9 k h4);exact absurd h4 (h3' this)
    ·exact hC.dis _ _ _ _ k h3 h4)
  (λr' b o0 n hb o' Zy=>by
   unfold oL;split
   ·rename_i e;rw[e.1,hβ]at hb;simp at hb
   ·split
    ·rename_i e;rw[<- e.1,<- e.2]at hdr;exact absurd (hC.boxc r' b o0 n hb o' Zy) hdr
    ·exact hC.boxc r' b o0 n hb o' Zy)
  (λr' o'=>by
   by_cases e:r'=h/\o'=ho
   ·obtain⟨rfl,rfl⟩:=e;refine .inr (.inr ?_)
    have hv:G'.val w r' o'=u:=by simp[Gh.val,G',hβ]
    rw[hv];simp only[oL,and_self,if_true]
    exact(XA.frame (λ_ _=>rfl) (λ_ _ _=>rfl) λk hk _=>Zg k hk).refp λk=>by simp[G']
   ·by_cases e2:r'=r/\o'=o
    ·obtain⟨rfl,rfl⟩:=e2
     have Y2:oL (oL C r' o' (iU (C r' o') hs .dead)) h ho (.ow c) r' o'=iU (C r' o') hs .dead:=by simp[oL,e]
     rw[Y2]
     have Zm:∀k,G'.φ r' o' k↔(G.φ r' o' k/\¬Zw k):=λk=>by simp[G',e]
     have hv:G'.val w r' o'=G.val w r' o':=mc rfl (by simp[G',e]) λ_ _ _ _=>rfl
     rcases ZU (G'.F A) Zg with⟨h1,h2⟩|h1
     ·exact .inr (.inl ⟨h1,λk hk=>h2 k ((Zm k).1 hk)⟩)
     ·exact .inr (.inr (by rw[hv];exact h1.refp λk=>(Zm k).symm))
    ·exact .inl ⟨by simp[oL,e,e2],λk=>by simp[G',e,e2],by simp[G',e]⟩)
 exact⟨G',u,rfl,λr' o' e=>by simp[G',e],by simp[G'],ZB,Yu.1,Yu.2⟩
def lP(V:Vs)(r o n:Nat):N_:=V (r,0,0)::(List.range n).map λd=>V (r,o,d+1)
theorem n5{V V':Vs}{r o n:Nat}:lP V r o n=lP V' r o n↔V (r,0,0)=V' (r,0,0)/\∀d,d<n->V (r,o,d+1)=V' (r,o,d+1):=by unfold lP;simp_all
theorem oK{V0 V V':Vs}{r o n:Nat}(h0:∀q,V0 q<=V q)(h1:∀q,V q<=V' q)(h:lP V0 r o n=lP V' r o n):lP V0 r o n=lP V r o n/\lP V' r o n=lP V r o n:=by rw[n5]at h⊢;rw[n5];have ⟨h2,h3⟩:=h;refine⟨⟨?_,λd hd=>?_⟩,?_,λd hd=>?_⟩;have:=h0 (r,0,0);have:=h1 (r,0,0);omega;have:=h0 (r,o,d+1);have:=h1 (r,o,d+1);have:=h3 d hd;omega;have:=h0 (r,0,0);have:=h1 (r,0,0);omega;have:=h0 (r,o,d+1);have:=h1 (r,o,d+1);have:=h3 d hd;omega
theorem qf{V V':Vs}{r o n:Nat}{q:Key}(hq:V q<V' q)(h:lP V' r o n=lP V r o n):q≠(r,0,0)/\∀d,d<n->q≠(r,o,d+1):=by rw[n5]at h;refine⟨λe=>?_,λd hd e=>?_⟩;all_goals simp_all
def Wf(w:World)(C:Cs)(G:Gh)(p:gl)(x:Value):Prop:=p.root≠1/\∃ad t,G.addr w p=some ad/\x=.pointer (some ad)/\gJ (C p.root p.off) p.hops=some t
def W3(w:World)(C:Cs)(G:Gh)(p:gl)(x:Value):Prop:=p.root≠1/\∃c,G.hv w p=some x/\gJ (C p.root p.off) p.hops=some (.ow c)
def Xm(w:World)(C:Cs)(G:Gh)(p:gl)(sz lo n:Nat)(x:Value):Prop:=
 p.root≠1/\∃c h,G.hv w p=some h/\gJ (C p.root p.off) p.hops=some (.ow c)/\lo+n<=c.length /\
  ∃a cap,x=.slice a n cap/\(n<=cap/\c.length<=lo+cap)/\cap<=maxLen/\(a=none->cap=0)/\(∀i (h:i<c.length),c[i].length=sz)/\(0<cap->∃b len ZS,h=.slice (some ⟨b,0,none⟩) len ZS/\a=some ⟨b,lo*sz,none⟩)
inductive ImF (w:World)(F:Nat->Prop):TV->Value->Prop
 |im {t:TV} {x:Value} (h:r8 w F t x):ImF w F t x
 |ip {cs:List TV} {b o:Nat} (u:Nat->Value) (hc:∀j,j<cs.length->F b/\w.cell? ⟨b,o+j,none⟩=some (u j)) (hr:∀j (h:j<cs.length),ImF w F cs[j] (u j)):
  ImF w F (.ip cs) (.pointer (some ⟨b,o,none⟩))
 |fn {f:FuncId} {l:List TV} {xs:Array Value} (hl:xs.size=l.length) (h:∀j (hj:j<l.length),ImF w F l[j] (xs.getD j undef)):ImF w F (.fn f l) (.func (.func f) #[] xs)
theorem ImF.frame{w w':World}{F F':Nat->Prop}{t:TV}{x:Value}(h:ImF w F t x)(hw:∀k,F k->k<w.heap.size->w'.heap[k]?=w.heap[k]?)(hF:∀k,F k->k<w.heap.size->F' k):ImF w' F' t x:=by induction h with|im h=>exact .im (h.frame hw hF)|ip u hc hr ih=>refine .ip u (λj hj=>?_) ih;have ⟨h1,h2⟩:=hc j hj;have hlt:=World.block_lt_of_cell? w _ h2;exact⟨hF _ h1 hlt,by rw[World.cell?_of_block (hw _ h1 hlt)];exact h2⟩|fn hl _ ih=>exact .fn hl ih
theorem ImF.one{w:World}{F:Nat->Prop}{t:TV}{x:Value}(h:ImF w F t x):x.oneCell'=true:=by cases h with|im h=>exact h.one|ip=>rfl|fn=>rfl
inductive TmR (w:World)(F:Nat->Prop)(V:Vs)(C:Cs)(G:Gh):TV->Value->Prop
 |v {x:Value} (h:kJ x=true):TmR w F V C G (.v x) x
 |nil {a:Option Addr}:TmR w F V C G (.ow []) (.slice a 0 0)
 |sl {c:List (List TV)} {x:Value} (h:r8 w F (.sl c) x):TmR w F V C G (.sl c) x
 |dead {x:Value}:TmR w F V C G .dead x
 |ptr {p:gl} {vs:List Nat} {x:Value} (V0:Vs) (h0:∀q,V0 q<=V q) (hv:vs=lP V0 p.root p.off p.hops.length)
  (h:vs=lP V p.root p.off p.hops.length->Wf w C G p x):TmR w F V C G (.ptr p vs) x
 |ip {cs:List TV} {b o:Nat} (u:Nat->Value) (hc:∀j,j<cs.length->F b/\w.cell? ⟨b,o+j,none⟩=some (u j)) (hr:∀j (h:j<cs.length),ImF w F cs[j] (u j)):
  TmR w F V C G (.ip cs) (.pointer (some ⟨b,o,none⟩))
 |pk {p:gl} {vs:List Nat} {x:Value} (V0:Vs) (h0:∀q,V0 q<=V q) (hv:vs=lP V0 p.root p.off (p.hops.length+1))
  (h:vs=lP V p.root p.off (p.hops.length+1)->W3 w C G p x):TmR w F V C G (.pk p vs) x
 |pw {p:gl} {vs:List Nat} {sz lo n:Nat} {x:Value} (V0:Vs) (h0:∀q,V0 q<=V q) (hv:vs=lP V0 p.root p.off (p.hops.length+1))
  (h:vs=lP V p.root p.off (p.hops.length+1)->Xm w C G p sz lo n x):TmR w F V C G (.pw p vs sz lo n) x
 |agg {l:List TV} {xs:Array Value} (hl:xs.size=l.length) (h:∀j (hj:j<l.length),TmR w F V C G l[j] (xs.getD j undef)):TmR w F V C G (.agg l) (.agg xs)
 |tup {l:List TV} {xs:Array Value} (hl:xs.size=l.length) (h:∀j (hj:j<l.length),TmR w F V C G l[j] (xs.getD j undef)):TmR w F V C G (.tup l) (.tuple xs)
 |fn {f:FuncId} {l:List TV} {xs:Array Value} (hl:xs.size=l.length) (h:∀j (hj:j<l.length),TmR w F V C G l[j] (xs.getD j undef)):TmR w F V C G (.fn f l) (.func (.func f) #[] xs)
theorem ImF.toTm{w:World}{F:Nat->Prop}{V:Vs}{C:Cs}{G:Gh}{t:TV}{x:Value}(h:ImF w F t x):TmR w F V C G t x:=by
 induction h with
 | @im t x h=>
 cases t with
  |v y=>cases h with|v hf=>exact .v hf
  |sl c=>exact .sl h|dead=>exact .dead|_=>cases h
 |ip u hc hr _=>exact .ip u hc hr|fn hl _ ih=>exact .fn hl ih
def S5:TV->Bool|.v _=>true|.sl _=>true|.ip _=>true|_=>false
theorem TmR.imC{w:World}{F:Nat->Prop}{V:Vs}{C:Cs}{G:Gh}{t:TV}{x:Value}(h:TmR w F V C G t x)(ht:S5 t=true):ImF w F t x:=by cases h with|v h=>exact .im (.v h)|sl h=>exact .im h|ip u hc hr=>exact .ip u hc hr|_=>simp[S5]at ht
structure lz (w w':World)(V V':Vs)(C C':Cs)(G G':Gh):Prop where
 ver:∀q,V q<=V' q
 ptr:∀p ad t,p.root≠1->lP V' p.root p.off p.hops.length=lP V p.root p.off p.hops.length->G.addr w p=some ad->gJ (C p.root p.off) p.hops=some t ->
  ∃t',G'.addr w' p=some ad/\gJ (C' p.root p.off) p.hops=some t'
 hdr:∀p h c,p.root≠1->lP V' p.root p.off (p.hops.length+1)=lP V p.root p.off (p.hops.length+1)->G.hv w p=some h->gJ (C p.root p.off) p.hops=some (.ow c)->
  ∃c',G'.hv w' p=some h/\gJ (C' p.root p.off) p.hops=some (.ow c')/\c'.map List.length=c.map List.length
theorem lz.refl(w:World)(V:Vs)(C:Cs)(G:Gh):lz w w V V C C G G:=⟨λ_=>oLE _,λ_ _ t _ _ h h'=>⟨t,h,h'⟩,λ_ _ c _ _ h h'=>⟨c,h,h',rfl⟩⟩
theorem lz.trans{w w' w'':World}{V V' V'':Vs}{C C' C'':Cs}{G G' G'':Gh}(a:lz w w' V V' C C' G G')(b:lz w' w'' V' V'' C' C'' G' G''):lz w w'' V V'' C C'' G G'':=by refine⟨λq=>Nat.le_trans (a.ver q) (b.ver q),λp ad t Z8 hv h1 h2=>?_,λp h c Z8 hv h1 h2=>?_⟩;have ⟨e1,e2⟩:=oK a.ver b.ver hv.symm;have ⟨t',h3,h4⟩:=a.ptr p ad t Z8 e1.symm h1 h2;exact b.ptr p ad t' Z8 e2 h3 h4;have ⟨e1,e2⟩:=oK a.ver b.ver hv.symm;have ⟨c',h3,h4,h5⟩:=a.hdr p h c Z8 e1.symm h1 h2;have ⟨c2,h6,h7,h8⟩:=b.hdr p h c' Z8 e2 h3 h4;simp_all
theorem TmR.keep{w w':World}{F F':Nat->Prop}{V V':Vs}{C C':Cs}{G G':Gh}{t:TV}{x:Value}(h:TmR w F V C G t x)(k:lz w w' V V' C C' G G') (hw:∀k,F k->k<w.heap.size->w'.heap[k]?=w.heap[k]?)(hF:∀k,F k->k<w.heap.size->F' k):TmR w' F' V' C' G' t x:=by
 induction h with
 |v h=>exact .v h|nil=>exact .nil|sl h=>exact .sl (h.frame hw hF)|dead=>exact .dead|ptr V0 h0 hv h=>refine .ptr V0 (λq=>Nat.le_trans (h0 q) (k.ver q)) hv λe=>?_;obtain⟨e1,e2⟩:=oK h0 k.ver (hv.symm.trans e);obtain⟨Z8,ad,t,h1,h2,h3⟩:=h (hv.trans e1);obtain⟨t',h4,h5⟩:=k.ptr _ ad t Z8 e2 h1 h3;exact⟨Z8,ad,t',h4,h2,h5⟩|ip u hc hr=>refine .ip u (λj hj=>?_) λj hj=>(hr j hj).frame hw hF;obtain⟨h1,h2⟩:=hc j hj;have hlt:=World.block_lt_of_cell? w _ h2;exact⟨hF _ h1 hlt,by rw[World.cell?_of_block (w:=w) (hw _ h1 hlt)];exact h2⟩|pk V0 h0 hv h=>refine .pk V0 (λq=>Nat.le_trans (h0 q) (k.ver q)) hv λe=>?_;obtain⟨e1,e2⟩:=oK h0 k.ver (hv.symm.trans e);obtain⟨Z8,c,h1,h2⟩:=h (hv.trans e1);obtain⟨c',h4,h5,_⟩:=k.hdr _ _ c Z8 e2 h1 h2;exact⟨Z8,c',h4,h5⟩|pw V0 h0 hv h=>
 refine .pw V0 (λq=>Nat.le_trans (h0 q) (k.ver q)) hv λe=>?_;obtain⟨e1,e2⟩:=oK h0 k.ver (hv.symm.trans e);obtain⟨Z8,c,h,h1,h2,h3,h6⟩:=h (hv.trans e1);obtain⟨c',h4,h5,h7⟩:=k.hdr _ _ c Z8 e2 h1 h2;obtain⟨a,cap,q1,q2,q3,q4,q5,q6⟩:=h6;have hl:=Nh h7;refine⟨Z8,c',h,h4,h5,by omega,a,cap,q1,by omega,q3,q4,λi hi=>?_,q6⟩;have e3:(c'.map List.length)[i]?=(c.map List.length)[i]?:=by rw[h7]
 have Zn:i<c.length:=by omega
 simp only[oGP,oGE hi,oGE Zn,oMS,oSJ]at e3;rw[e3];exact q5 i Zn
 |agg hl _ ih=>exact .agg hl ih|tup hl _ ih=>exact .tup hl ih|fn hl _ ih=>exact .fn hl ih
theorem Dk{G G':Gh}{w w':World}{p:gl}{ad:Addr}(hw:∀k,k<w.heap.size->w'.heap[k]?=w.heap[k]?)(hβ:G'.β p.root=G.β p.root)(hval:G'.val w' p.root p.off=G.val w p.root p.off)(hh:G.addr w p=some ad):G'.addr w' p=some ad:=by unfold Gh.addr at *;cases hp:p.hops with|nil=>simp_all|cons a r=>rw[hp]at hh;rw[hval];exact zP hw hh
theorem Bv{G G':Gh}{w w':World}{p:gl}{h:Value}(hw:∀k,k<w.heap.size->w'.heap[k]?=w.heap[k]?)(hval:G'.val w' p.root p.off=G.val w p.root p.off)(hh:G.hv w p=some h):G'.hv w' p=some h:=by unfold Gh.hv at *;rw[hval];cases hp:p.hops with|nil=>rw[hp]at hh;exact hh|cons a r=>rw[hp]at hh;simp[hvT]at hh⊢;cases ha:gP w (G.val w p.root p.off) (a::r)with|none=>simp_all|some ad=>rw[zP hw ha];simp[ha]at hh⊢;rw[World.cell?_of_block (hw _ (World.block_lt_of_cell? w _ hh))];exact hh
theorem lz.root{w w':World}{V V':Vs}{C C':Cs}{G G':Gh}{A:Nat->Prop}(hC:ol A C w G)(r:Nat)(hw:∀k,k<w.heap.size->w'.heap[k]?=w.heap[k]?) (hV:∀q,V q<=V' q)(hr:V (r,0,0)<V' (r,0,0))(hCs:∀r' o,r'≠r->r'≠1->C' r' o=C r' o)(hβ:∀r',r'≠r->r'≠1->G'.β r'=G.β r')(hη:∀r' o,r'≠r->r'≠1->G'.η r' o=G.η r' o):lz w w' V V' C C' G G':=by have hval:=λr' o hne h1=>mc (hβ r' hne h1) (hη r' o hne h1) λb o n hb=>hw b (hC.boxlt hb);refine⟨hV,λp ad t Z8 hv h1 h2=>?_,λp h c Z8 hv h1 h2=>?_⟩;have hne:p.root≠r:=λe=>(qf hr hv).1 (by rw[e]);exact⟨t,Dk hw (hβ _ hne Z8) (hval _ _ hne Z8) h1,by simp_all⟩;have hne:p.root≠r:=λe=>(qf hr hv).1 (by rw[e]);exact⟨c,Bv hw (hval _ _ hne Z8) h1,by simp_all,rfl⟩
theorem lz.grow{w w':World}{V:Vs}{C:Cs}{G:Gh}{A:Nat->Prop}(hC:ol A C w G)(hw:∀k,k<w.heap.size->w'.heap[k]?=w.heap[k]?):lz w w' V V C C G G:=by have hval:=(hC.grow hw).2;exact⟨λ_=>oLE _,λp ad t _ _ h1 h2=>⟨t,Dk hw rfl (hval _ _) h1,h2⟩,λp h c _ _ h1 h2=>⟨c,Bv hw (hval _ _) h1,h2,rfl⟩⟩
theorem zL{os:N_}:∀{hs:L_}{tv t:TV},gJ tv hs=some t->hs.length<=os.length->∃t1,gJ (iA tv os) hs=some t1/\(hs.length<os.length->∀c,t=.ow c->∃c',t1=.ow c'/\c'.map List.length=c.map List.length):=by induction os with|nil=>intro hs tv t _ hl;have:hs=[]:=oEN (by simpa using hl);subst this;exact⟨_,rfl,λh=>absurd h (by simp)⟩|cons o os ih=>intro hs tv t h hl;cases hs with|nil=>simp only[gJ,oSJ]at h;subst h;exact⟨_,rfl,λ_ c hc=>by subst hc;exact⟨_,rfl,by simp⟩⟩|cons p hs=>obtain⟨i,sz,o'⟩:=p;obtain⟨c,el,t2,rfl,hc,hz,ho,Y7⟩:=jc h;subst hz;simp at hl;by_cases hoo:o=o';subst hoo;obtain⟨t1,h1,h2⟩:=ih Y7 hl;refine⟨t1,?_,λhlt=>h2 (by simpa using hlt)⟩;simp[iA,gJ,oGM,hc,ho,h1];refine⟨t,?_,λ_ c hc=>⟨c,hc,rfl⟩⟩;simp[iA,gJ,oGM,hc,ho,hoo,Y7]
theorem lz.ghost{w:World}{V V':Vs}{C C':Cs}{G G':Gh}(r o d:Nat)(hV:∀q,V q<=V' q)(hr:V (r,o,d+1)<V' (r,o,d+1))(hβ:G'.β=G.β) (hη:∀r' o',r'≠1->C r' o'≠.dead->G'.η r' o'=G.η r' o') (hCs:∀r' o',¬(r'=r/\o'=o)->r'≠1->C' r' o'=C r' o') (hq:∀hs t,gJ (C r o) hs=some t->hs.length<=d->∃t1,gJ (C' r o) hs=some t1/\(hs.length<d->∀c,t=.ow c->∃c',t1=.ow c'/\c'.map List.length=c.map List.length)):lz w w V V' C C' G G':=by
 have hval:∀r' o',r'≠1->C r' o'≠.dead->G'.val w r' o'=G.val w r' o':=λr' o' h1 hd=>mc (by rw[hβ]) (hη r' o' h1 hd) λ_ _ _ _=>rfl;refine⟨hV,λp ad t Z8 hv h1 h2=>?_,λp h c Z8 hv h1 h2=>?_⟩;have YO:=(qf hr hv).2;have ha:G'.addr w p=some ad:=by
  cases hp:p.hops with
  |nil=>unfold Gh.addr at h1⊢;rw[hp]at h1⊢;rw[hβ];exact h1|cons a l=>
  have hd:C p.root p.off≠.dead:=λhd=>by rw[hd,hp]at h2;simp[gJ]at h2
  exact Dk (λ_ _=>rfl) (by rw[hβ]) (hval _ _ Z8 hd) h1
 by_cases he:p.root=r/\p.off=o;have hl:p.hops.length<=d:=by rcases Nat.lt_or_ge d p.hops.length with h|h;exact absurd (show((r,o,d+1):Key)=(p.root,p.off,d+1) by rw[he.1,he.2]) (YO d h);exact h
 rw[he.1,he.2]at h2;obtain⟨t1,h3,_⟩:=hq _ _ h2 hl;exact⟨t1,ha,by rw[he.1,he.2];exact h3⟩;exact⟨t,ha,by rw[hCs _ _ he Z8];exact h2⟩;have YO:=(qf hr hv).2;have hd:C p.root p.off≠.dead:=λhd=>by rw[hd]at h2;cases hp:p.hops<;>rw[hp]at h2<;>simp[gJ]at h2
 have hh:=Bv (G':=G') (λ_ _=>rfl) (hval _ _ Z8 hd) h1;by_cases he:p.root=r/\p.off=o;have hl:p.hops.length<d:=by rcases Nat.lt_or_ge d (p.hops.length+1)with h|h;exact absurd (show((r,o,d+1):Key)=(p.root,p.off,d+1) by rw[he.1,he.2]) (YO d h);exact h
 rw[he.1,he.2]at h2;obtain⟨t1,h3,h4⟩:=hq _ _ h2 (Nat.le_of_lt hl);simp_all;simp_all
theorem ol.hv_own{A:Nat->Prop}{C:Cs}{w:World}{G:Gh}(hC:ol A C w G)(p:gl){t:TV}(ht:gJ (C p.root p.off) p.hops=some t)(hd:t≠.dead):∃u fp,G.hv w p=some u/\jS w (G.F A) fp t u/\(∀k,fp k->G.φ p.root p.off k)/\(p.hops≠[]->∃ad,gP w (G.val w p.root p.off) p.hops=some ad/\w.cell? ad=some u/\G.φ p.root p.off ad.block):=by
 have ⟨r,o,hs⟩:=p;have hdr:C r o≠.dead:=by intro hdr;have:=ht;rw[hdr]at this;cases hs with|nil=>simp[gJ]at this;exact hd this.symm|cons=>simp[gJ]at this
 cases hs with|nil=>simp[gJ]at ht;subst ht;exact⟨G.val w r o,G.φ r o,rfl,hC.own hdr,λ_ h=>h,λh=>absurd rfl h⟩|cons h hs=>have ⟨ad,u,Zw,h1,_,h3,_,h5,h6,h7,_⟩:=lens (hC.own hdr) (by simp) ht;exact⟨u,Zw,mD h1 h3,h5,h6,λ_=>⟨ad,h1,h3,h7⟩⟩
section
variable {A:Nat->Prop} {C:Cs} {w:World} {G:Gh}
theorem ol.where_(hC:ol A C w G)(q:gl){t:TV}{ad:Addr}(Z6:G.addrB w q=some ad)(ht:gJ (C q.root q.off) q.hops=some t):(q.hops=[]/\∃b o0 n,G.β q.root=some (b,o0,n)/\q.off<n/\ad=⟨b,o0+q.off,none⟩)\/(q.hops≠[]/\G.φ q.root q.off ad.block):=by
 obtain⟨r,o,hs⟩:=q;cases hs with
 |nil=>
 left;simp only[Gh.addrB]at Z6;cases hbr:G.β r with
  |none=>simp[hbr]at Z6|some y=>
  obtain⟨b,o0,n⟩:=y;simp only[hbr]at Z6;split at Z6;rename_i hlt;injection Z6 with Z6
  exact⟨rfl,b,o0,n,by simp_all,hlt,Z6.symm⟩;simp at Z6
 |cons h hs=>
 right;have hd:C r o≠.dead:=λhd=>by have:=ht;simp only at this;rw[hd]at this;simp[gJ]at this
 obtain⟨ad2,u,Zw,h1,_,_,_,_,_,h7,_⟩:=lens (hC.own hd) (by simp) ht;have Xs:gP w (G.val w r o) (h::hs)=some ad:=Z6;simp_all
theorem ol.val_set(hC:ol A C w G)(q:gl){t:TV}{ad:Addr}(Z6:G.addrB w q=some ad)(ht:gJ (C q.root q.off) q.hops=some t){w':World}{u':Value} (hw:∀k,k<w.heap.size->w'.heap[k]?=(w.setCell ad u').heap[k]?){r' o':Nat}(hd:C r' o'≠.dead)(hne:¬(q.hops=[]/\r'=q.root/\o'=q.off)):G.val w' r' o'=G.val w r' o':=by
 unfold Gh.val;cases hbb:G.β r' with
 |none=>rfl|some x=>
 have ⟨b,o0,n⟩:=x;have hna:(⟨b,o0+o',none⟩:Addr)≠ad:=by
  intro e;rcases hC.where_ q Z6 ht with⟨h1,b2,o2,n2,h2,h3,h4⟩|⟨_,h1⟩;rw[h4]at e;injection e with e1 e2
  have hr:=hC.boxd r' q.root b o0 n o2 n2 hbb (by rw[h2,e1]);simp_all;exact hC.boxf r' b o0 n hbb _ _ (by rw[<- e]at h1;exact h1)
 show(w'.cell? ⟨b,o0+o',none⟩).getD undef=(w.cell? ⟨b,o0+o',none⟩).getD undef;rw[World.cell?_of_block (hw b (hC.boxlt hbb)),World.cell?_setCell_other w ad ⟨b,o0+o',none⟩ u' (λe=>hna e.symm)]
theorem ol.phi_ne(hC:ol A C w G)(q:gl){t:TV}{ad:Addr}(Z6:G.addrB w q=some ad)(ht:gJ (C q.root q.off) q.hops=some t){r' o' k:Nat}(hne:¬(r'=q.root/\o'=q.off))(hk:G.φ r' o' k):k≠ad.block:=by intro e;rcases hC.where_ q Z6 ht with⟨h1,b2,o2,n2,h2,h3,h4⟩|⟨_,h1⟩;rw[h4]at e;exact hC.boxf _ _ _ _ h2 r' o' (by simp_all);exact hne (hC.dis _ _ _ _ k hk (by simp_all))
theorem oJ{G':Gh}{w':World}{p:gl}{ad:Addr}(h1:G.addr w p=some ad)(hβ:G'.β=G.β)(hT:p.hops≠[]->gP w' (G'.val w' p.root p.off) p.hops=gP w (G.val w p.root p.off) p.hops):G'.addr w' p=some ad:=by unfold Gh.addr at h1⊢;cases hp:p.hops with|nil=>simp_all|cons a r=>simp_all
theorem E3(hC:ol A C w G)(q:gl){u u':Value}{ad:Addr}(Z6:G.addrB w q=some ad)(ht:gJ (C q.root q.off) q.hops=some (.v u))(hu':kJ u'=true){w':World}{C':Cs}{G':Gh}{V:Vs}{t':TV} (hw:∀k,k<w.heap.size->w'.heap[k]?=(w.setCell ad u').heap[k]?)(hβ:G'.β=G.β)(hη:G'.η=G.η) (hCq:C' q.root q.off=iU (C q.root q.off) q.hops t')(YQ:∀r o,¬(r=q.root/\o=q.off)->r≠1->C' r o=C r o):lz w w' V V C C' G G':=by
 obtain⟨u0,fp,hv,hown,_,hadf⟩:=hC.hv_own q ht (by simp);have hu:kJ u0=true/\u0=u:=by cases hown with|v _ h=>exact⟨h,rfl⟩
 obtain⟨hu,rfl⟩:=hu;have YS:w.cell? ad=some u0:=by
  cases hq:q.hops with
  |nil=>rcases hC.where_ q Z6 ht with⟨_,b,o0,n,h2,h3,h4⟩|⟨h,_⟩;rw[h4,hC.boxcell h2 h3];unfold Gh.hv at hv;rw[hq]at hv;exact hv;exact absurd hq h
  |cons a r=>
  obtain⟨ad2,h1,h2,_⟩:=hadf (by rw[hq];simp);have h3:gP w (G.val w q.root q.off) q.hops=some ad:=by unfold Gh.addrB at Z6;rw[hq]at Z6⊢;exact Z6
  rw[h3]at h1;injection h1 with h1
  rw[h1];exact h2
 have hsz:(w.setCell ad u').heap.size=w.heap.size:=by simp
 have hval:∀r' o',C r' o'≠.dead->¬(q.hops=[]/\r'=q.root/\o'=q.off)->G'.val w' r' o'=G.val w r' o':=by intro r' o' hd hne;rw[<- hC.val_set q Z6 ht hw hd hne];unfold Gh.val;rw[hβ,hη]
 have hT:∀(x:Value)(hs:L_)(a:Addr),gP w x hs=some a->gP w' x hs=some a:=by intro x hs a h;refine zP (w:=w.setCell ad u') (λk hk=>hw k (by rw[<- hsz];exact hk)) ?_;rw[NR YS hu hu'];exact h
 have hgt:∀(p:gl)(t:TV),p.root≠1->gJ (C p.root p.off) p.hops=some t->∃t1,gJ (C' p.root p.off) p.hops=some t1/\(∀c,t=.ow c->∃c',t1=.ow c'/\c'.map List.length=c.map List.length):=by intro p t Z8 h;by_cases he:p.root=q.root/\p.off=q.off;rw[he.1,he.2]at h⊢;rw[hCq];exact Ej ht (by simp) h;rw[YQ _ _ he Z8];exact⟨t,h,λc hc=>⟨c,hc,rfl⟩⟩
 have YO:∀(p:gl),p.hops≠[]->(∃t,gJ (C p.root p.off) p.hops=some t)->C p.root p.off≠.dead/\¬(q.hops=[]/\p.root=q.root/\p.off=q.off):=by
  rintro p hp ⟨t,h⟩;refine⟨λhd=>?_,λ⟨h1,h2,h3⟩=>?_⟩;rw[hd]at h;cases hq:p.hops with|nil=>exact hp hq|cons=>rw[hq]at h;simp[gJ]at h
  rw[h1]at ht;simp only[gJ,oSJ]at ht;rw[h2,h3,ht]at h;cases hq:p.hops with|nil=>exact hp hq|cons=>rw[hq]at h;simp[gJ]at h
 refine⟨λ_=>oLE _,λp a t Z8 _ h1 h2=>?_,λp h c Z8 _ h1 h2=>?_⟩;obtain⟨t1,h3,_⟩:=hgt p t Z8 h2;refine⟨t1,?_,h3⟩;cases hp:p.hops with
 |nil=>exact oJ h1 hβ λh=>absurd hp h|cons b l=>
  obtain⟨h4,h5⟩:=YO p (by rw[hp];simp) ⟨t,h2⟩;refine oJ h1 hβ λ_=>?_;have h6:gP w (G.val w p.root p.off) p.hops=some a:=by unfold Gh.addr at h1;rw[hp]at h1⊢;exact h1
  rw[hval _ _ h4 h5,h6,hT _ _ _ h6]
 obtain⟨t1,h3,h4⟩:=hgt p _ Z8 h2;obtain⟨c',rfl,h5⟩:=h4 c rfl;refine⟨c',?_,h3,h5⟩;obtain⟨x,fpx,h6,h7,_,h8⟩:=hC.hv_own p h2 (by simp);rw[h1]at h6;injection h6 with h6
 subst h6;obtain⟨aa,cp,Y',_⟩:=h7.hdr;cases hp:p.hops with
 |nil=>
 have h9:C p.root p.off=.ow c:=by rw[hp]at h2;simpa[gJ]using h2
 unfold Gh.hv at h1⊢;rw[hp]at h1⊢;rw[hval _ _ (by rw[h9];simp) (λ⟨e1,e2,e3⟩=>by
  rw[e1]at ht;simp only[gJ,oSJ]at ht;rw[e2,e3,ht]at h9
  simp at h9)]
 exact h1
 |cons b l=>
 obtain⟨ad2,h9,h10,_⟩:=h8 (by rw[hp];simp);obtain⟨h11,h12⟩:=YO p (by rw[hp];simp) ⟨_,h2⟩;have hne:ad2≠ad:=by
  intro e;rw[e,YS]at h10;injection h10 with h10
  rw[h10,Y']at hu;simp[kJ]at hu
 unfold Gh.hv;refine mD (hval _ _ h11 h12▸hT _ _ _ h9) ?_;rw[World.cell?_of_block (w:=w.setCell ad u') (hw _ (World.block_lt_of_cell? w _ h10)),World.cell?_setCell_other w ad ad2 u' (λe=>hne e.symm)];exact h10
theorem BH(hC:ol A C w G)(q:gl)(hlen:q.hops.length<=1){t:TV}{ad:Addr}{u':Value}(Z6:G.addrB w q=some ad)(ht:gJ (C q.root q.off) q.hops=some t){w':World}{C':Cs}{G':Gh}{V V':Vs}{t':TV} (hw:∀k,k<w.heap.size->w'.heap[k]?=(w.setCell ad u').heap[k]?)(hβ:G'.β=G.β)(hη:G'.η=G.η)(hV:∀k,V k<=V' k)(hr:V (q.root,q.off,q.hops.length+1)<V' (q.root,q.off,q.hops.length+1)) (hCq:C' q.root q.off=iU (C q.root q.off) q.hops t')(YQ:∀r o,¬(r=q.root/\o=q.off)->r≠1->C' r o=C r o):lz w w' V V' C C' G G':=by
 have hval:∀r' o',C r' o'≠.dead->¬(q.hops=[]/\r'=q.root/\o'=q.off)->G'.val w' r' o'=G.val w r' o':=by intro r' o' hd hne;rw[<- hC.val_set q Z6 ht hw hd hne];unfold Gh.val;rw[hβ,hη]
 have Zq:∀(p:gl)(t:TV),t≠.dead\/p.hops≠[]->gJ (C p.root p.off) p.hops=some t->C p.root p.off≠.dead:=by
  intro p t h1 h hd;rw[hd]at h;cases hq:p.hops with
  |nil=>rw[hq]at h;simp only[gJ,oSJ]at h;rcases h1 with h1|h1;exact h1 h.symm;exact h1 hq
  |cons=>rw[hq]at h;simp[gJ]at h
 have hφ:∀r' o' k,¬(r'=q.root/\o'=q.off)->G.φ r' o' k->w'.heap[k]?=w.heap[k]?:=by intro r' o' k hne hk;rw[hw k (hC.live hk)];exact gK w ad u' (hC.phi_ne q Z6 ht hne hk)
 refine⟨hV,λp a t1 Z8 hv h1 h2=>?_,λp h c Z8 hv h1 h2=>?_⟩;have YO:=(qf hr hv).2;by_cases he:p.root=q.root/\p.off=q.off;have hl:p.hops.length<=q.hops.length:=by rcases Nat.lt_or_ge q.hops.length p.hops.length with h|h;exact absurd (show((q.root,q.off,q.hops.length+1):Key)=(p.root,p.off,q.hops.length+1) by rw[he.1,he.2]) (YO _ h);exact h
 have h2':=h2;rw[he.1,he.2]at h2';obtain⟨t2,h3,_⟩:=qC (t':=t') ht h2' hl;refine⟨t2,?_,by rw[he.1,he.2,hCq];exact h3⟩;refine oJ h1 hβ λhp=>?_;have hq:q.hops≠[]:=λe=>by rw[e]at hl;exact hp (oEN (by simpa using hl))
 rw[hval _ _ (Zq p t1 (.inr hp) h2) (λh=>hq h.1)];match hp':p.hops,hp with
 | [hh],_=>cases G.val w p.root p.off<;>first|rfl|(rename_i a n c;cases a<;>rfl)
 |_::_::_,_=>rw[hp']at hl;simp at hl;omega
 have hC':C' p.root p.off=C p.root p.off\/p.hops=[]:=.inl (YQ _ _ he Z8);refine⟨?_,?_⟩;exact(gJ (C' p.root p.off) p.hops).getD .dead;refine⟨oJ h1 hβ λhp=>?_,?_⟩;have hd:=Zq p t1 (.inr hp) h2;rw[hval _ _ hd (λh=>he h.2)];exact tQ (hC.own hd) h2 λk hk=>hφ _ _ k he hk;rcases hC' with h|h;rw[h,h2];rfl;rw[h];rfl;have YO:=(qf hr hv).2;have hd:=Zq p (.ow c) (.inl (by simp)) h2;by_cases he:p.root=q.root/\p.off=q.off;have hl:p.hops.length<q.hops.length:=by rcases Nat.lt_or_ge q.hops.length (p.hops.length+1)with h|h;exact absurd (show((q.root,q.off,q.hops.length+1):Key)=(p.root,p.off,q.hops.length+1) by rw[he.1,he.2]) (YO _ h);exact h
 have h2':=h2;rw[he.1,he.2]at h2';obtain⟨t2,h3,h4⟩:=qC (t':=t') ht h2' (Nat.le_of_lt hl);obtain⟨c',rfl,h5⟩:=h4 hl c rfl;refine⟨c',?_,by rw[he.1,he.2,hCq];exact h3,h5⟩;have hp:p.hops=[]:=oEN (by omega);unfold Gh.hv at h1⊢;rw[hp]at h1⊢;simp only[hvT]at h1⊢;rw[hval _ _ hd (λh=>by rw[h.1]at hl;simp at hl)];exact h1;have hC':=YQ _ _ he Z8;refine⟨c,?_,by rw[hC'];exact h2,rfl⟩;obtain⟨x,fpx,h6,h7,_,h8⟩:=hC.hv_own p h2 (by simp);rw[h1]at h6;injection h6 with h6
 subst h6;have YF:=hval _ _ hd (λh=>he h.2);cases hp:p.hops with|nil=>unfold Gh.hv at h1⊢;rw[hp]at h1⊢;simp only[hvT]at h1⊢;rw[YF];exact h1|cons b l=>obtain⟨ad2,h9,h10,h11⟩:=h8 (by rw[hp];simp);unfold Gh.hv;refine mD (ad:=ad2) ?_ ?_;rw[YF,tQ (hC.own hd) h2 λk hk=>hφ _ _ k he hk];exact h9;rw[World.cell?_of_block (w:=w) (hφ _ _ _ he h11)];exact h10
end
def TV.hd:TV->Option N_|.ow c=>some (c.map List.length)|_=>none
inductive SP (α:Type) where
 |ret (a:α)
 |fail
 |rdT (i:Nat) (k:TV->SP α)
 |rdC (r o:Nat) (k:TV->SP α)
 |rdH (r o:Nat) (k:Option (List Nat)->SP α)
 |rdV (q:Key) (k:Nat->SP α)
 |wrT (i:Nat) (t:TV) (k:SP α)
 |wrC (r o:Nat) (t:TV) (k:SP α)
 |new (r:Nat) (l:List TV) (k:SP α)
 |bump (q:Key) (k:SP α)
def SP.bind{α β:Type}:SP α->(α->SP β)->SP β|.ret a,f=>f a|.fail,_=>.fail|.rdT i k,f=>.rdT i λt=>(k t).bind f|.rdC r o k,f=>.rdC r o λt=>(k t).bind f|.rdH r o k,f=>.rdH r o λt=>(k t).bind f|.rdV q k,f=>.rdV q λn=>(k n).bind f|.wrT i t k,f=>.wrT i t (k.bind f)|.wrC r o t k,f=>.wrC r o t (k.bind f)|.new r l k,f=>.new r l (k.bind f)|.bump q k,f=>.bump q (k.bind f)
def gI{α:Type}:List (Nat×α)->Nat->Option α| [],_=>none|(k,v)::r,i=>if k=i then some v else gI r i
def iW{α:Type}:List (Nat×α)->Nat->α->List (Nat×α)| [],i,v=>[(i,v)]|(k,v0)::r,i,v=>if k=i then(i,v)::r else(k,v0)::iW r i v
abbrev m_:=List (Key×Nat)
def nW:m_->Key->Nat| [],_=>0|(k,v)::r,i=>if k=i then v else nW r i
def uc:m_->Key->m_| [],i=>[(i,1)]|(k,v)::r,i=>if k=i then(k,v+1)::r else(k,v)::uc r i
abbrev q_:=List (Nat×TV)
structure St where
 tm:q_
 ce:List (Nat×U_)
 vr:m_
def St.t(σ:St)(i:Nat):TV:=(gI σ.tm i).getD .dead
def St.c(σ:St)(r o:Nat):TV:=match gI σ.ce r with|some l=>l.getD o .dead|none=>.dead
def St.v(σ:St)(q:Key):Nat:=nW σ.vr q
def SP.run{α:Type}:SP α->St->Option (α×St)
 |.ret a,σ=>some (a,σ)|.fail,_=>none|.rdT i k,σ=>(k (σ.t i)).run σ|.rdC r o k,σ=>(k (σ.c r o)).run σ|.rdH r o k,σ=>(k (σ.c r o).hd).run σ|.rdV q k,σ=>(k (σ.v q)).run σ|.wrT i t k,σ=>k.run { σ with tm:=iW σ.tm i t }
 |.wrC r o t k,σ=>
 match gI σ.ce r with
  |some l=>if o<l.length then k.run { σ with ce:=iW σ.ce r (l.set o t) }else none
  |none=>none
 |.new r l k,σ=>k.run { σ with ce:=iW σ.ce r l,vr:=uc σ.vr (r,0,0) }
 |.bump q k,σ=>k.run { σ with vr:=uc σ.vr q }
theorem SP.run_bind{α β:Type}(s:SP α)(f:α->SP β)(σ:St):(s.bind f).run σ=(s.run σ).bind λx=>(f x.1).run x.2:=by
 induction s generalizing σ with
 |ret a=>rfl|fail=>rfl|rdT i k ih=>exact ih _ _|rdC r o k ih=>exact ih _ _|rdH r o k ih=>exact ih _ _|rdV q k ih=>exact ih _ _|wrT i t k ih=>exact ih _|wrC r o t k ih=>simp[SP.bind,SP.run];cases gI σ.ce r with|none=>rfl|some l=>simp only;split;simp_all;rfl
 |new r l k ih=>exact ih _|bump q k ih=>exact ih _
theorem fS{α β:Type}{s:SP α}{f:α->SP β}{σ:St}{y:β×St}(h:(s.bind f).run σ=some y):∃a σ1,s.run σ=some (a,σ1)/\(f a).run σ1=some y:=by rw[SP.run_bind]at h;cases hs:s.run σ with|none=>simp_all|some x=>exact⟨x.1,x.2,rfl,by simp_all⟩
theorem gS{α:Type}(l:List (Nat×α))(i j:Nat)(v:α):gI (iW l i v) j=if i=j then some v else gI l j:=by induction l with|nil=>simp[iW,gI]|cons x r ih=>have ⟨k,v0⟩:=x;simp[iW];by_cases hk:k=i;subst hk;simp[gI];simp_all;rw[oIN hk];simp[gI];grind
theorem jC(l:m_)(i j:Key):nW (uc l i) j=nW l j+if i=j then 1 else 0:=by induction l with|nil=>simp only[uc,nW];split<;>rfl|cons x r ih=>have ⟨k,v0⟩:=x;simp[uc];by_cases hk:k=i;subst hk;simp[nW];grind;rw[oIN hk];simp[nW];grind
inductive Opd where
 |t (i:Nat)
 |c (x:Value)
 |f (f:FuncId)
inductive FK where
 |i
 |b
 |s
abbrev w_:=List Value
abbrev S_:=List FK
def g8:S_->w_->w_->Option Bool| [],[],[]=>some true|.i::ks,.int k a::xs,.int k' b::ys=>if k=k' then(g8 ks xs ys).map ((a==b) && ·)else none|.b::ks,.bool a::xs,.bool b::ys=>(g8 ks xs ys).map ((a==b) && ·)|.s::ks,.string a::xs,.string b::ys=>(g8 ks xs ys).map ((a==b) && ·)|_,_,_=>none
inductive TOp where
 |mov (x:Opd)
 |asn (mv:Bool) (x:Opd)
 |pick (c a b:Opd)
 |alloc (zero:List Value)
 |box (n:Nat) (mv:Bool) (x:Opd)
 |load (n:Option Nat) (a:Opd)
 |store (n:Nat) (mv:Bool) (a x:Opd)
 |nilc (x:Opd)
 |fld (off:Nat) (a:Opd)
 |idx (sz:Nat) (x i:Opd)
 |ext (x:Opd) (i:Nat)
 |bin (op:BinOp) (x y:Opd)
 |bnb (neg:Bool) (x y:Opd)
 |eqa (ks:List FK) (neg:Bool) (x y:Opd)
 |un (op:UnOp) (x:Opd)
 |conv (k:IntKind) (x:Opd)
 |bld (zero:List Value) (mv:Bool) (parts:List (Nat×Nat×Opd))
 |bsl (sz:Nat) (mv:Bool) (len:Nat) (parts:List Opd)
 |mks (sz:Nat) (zero:List Value) (l c:Opd)
 |slc (sz:Nat) (x:Opd) (lo hi:Option Opd)
 |app (sz bytes:Nat) (mv fl:Bool) (s x:Opd)
 |cpy (sz:Nat) (d s:Opd)
 |len (x:Opd)
 |lens (x:Opd)
 |ixs (x i:Opd)
 |mm (mx:Bool) (xs:List Opd)
 |call (keep:Bool) (f:Opd) (args:List (Option Nat×Opd))
 |idxa (n sz:Nat) (x i:Opd)
 |s2b (x:Opd)
def iY:Value->TV|.slice none 0 0=>.ow []|x=>if kJ x then .v x else .dead
def zx:Value->TV|.agg cs=>.agg (cs.toList.map iY)|x=>iY x
def opd:Opd->SP TV|.t i=>.rdT i .ret|.c x=>.ret (zx x)|.f f=>.ret (.fn f [])
def sj(r o n:Nat):List Key:=(r,0,0)::(List.range n).map λd=>(r,o,d+1)
def rdVs:List Key->SP N_| []=>.ret []|q::qs=>.rdV q λn=>(rdVs qs).bind λl=>.ret (n::l)
def chk(p:gl)(n:Nat)(vs:N_):SP Unit:=(rdVs (sj p.root p.off n)).bind λl=>if l=vs then .ret ()else .fail
def gl.add(p:gl)(n:Nat):gl:=match p.hops.reverse with| []=>⟨p.root,p.off+n,[]⟩|(i,sz,o)::r=>⟨p.root,p.off,(((i,sz,o+n):Hop)::r).reverse⟩
def gl.at_(p:gl)(i sz:Nat):gl:=⟨p.root,p.off,p.hops++[(i,sz,0)]⟩
def gl.fits(p:gl)(n:Nat):Bool:=match p.hops.reverse with| []=>true|(_,sz,o)::_=>decide (o+n<sz)
def getPl(p:gl):SP TV:=.rdC p.root p.off λtv=>match gJ tv p.hops with|some t=>.ret t|none=>.fail
def Uv(p:gl):SP (Option N_):=match p.hops with
 | []=>.rdH p.root p.off .ret
 |_::_=>(getPl p).bind λt=>.ret t.hd
theorem F4{α:Type}(p:gl)(f:Option N_->SP α)(σ:St):((Uv p).bind f).run σ=((getPl p).bind λt=>f t.hd).run σ:=by
 unfold Uv;split;rename_i h;have e:(getPl p).run σ=some (σ.c p.root p.off,σ):=by unfold getPl;simp[h];rfl
 rw[SP.run_bind,SP.run_bind,e];rfl;rw[SP.run_bind,SP.run_bind,SP.run_bind];cases(getPl p).run σ<;>rfl
def take1(mv:Bool):TV->SP TV
 |.v x=>.ret (.v x)|.sl c=>.ret (.sl c)|.ow []=>.ret (if mv then .ow []else .sl [])|.pk p vs=>(chk p (p.hops.length+1) vs).bind λ_=>.rdC p.root p.off λtv=>
 match gJ tv p.hops with
  |some (.ow c)=>
   if mv then .wrC p.root p.off (iU tv p.hops .dead) (.bump (p.root,p.off,p.hops.length+1) (.ret (.ow c)))
   else .wrC p.root p.off (iA tv (jQ p.hops)) (.bump (p.root,p.off,p.hops.length+1) (.ret (TV.ow c).imm))
  |_=>.fail
 |.pw p vs _ lo n=>(chk p (p.hops.length+1) vs).bind λ_=>.rdC p.root p.off λtv=>match gJ tv p.hops with|some (.ow c)=>.wrC p.root p.off (iA tv (jQ p.hops)) (.bump (p.root,p.off,p.hops.length+1) (.ret (.sl (((c.drop lo).take n).map λe=>e.map TV.imm))))|_=>.fail
 |_=>.fail
def takeL(mv:Bool):U_->SP U_| []=>.ret []|t::r=>(take1 mv t).bind λt'=>(takeL mv r).bind λr'=>.ret (t'::r')
def su:TV->U_|.agg l=>l|t=>[t]
def ui:TV->Bool|.v _=>false|_=>true
def xj(p:gl)(t:TV):SP Unit:=.rdC p.root p.off λtv=>
 match gJ tv p.hops with
 |some old=>
  if ui old||ui t then(if p.hops.length<=1 then .wrC p.root p.off (iU tv p.hops t) (.bump (p.root,p.off,p.hops.length+1) (.ret ()))else .fail)
  else .wrC p.root p.off (iU tv p.hops t) (.ret ())
 |none=>.fail
def putL(p:gl):U_->SP Unit| []=>.ret ()|t::r=>(xj p t).bind λ_=>match r with | []=>.ret ()|_=>if p.fits 1 then putL (p.add 1) r else .fail
def peek1(p:gl):TV->SP TV|.v x=>.ret (.v x)|.sl c=>.ret (.sl c)|.ow _=>(rdVs (sj p.root p.off (p.hops.length+1))).bind λvs=>.ret (.pk p vs)|_=>.fail
def peekP(p:gl):SP TV:=match p.hops with
 | []=>.rdH p.root p.off λh=>match h with
  |some _=>(rdVs (sj p.root p.off 1)).bind λvs=>.ret (.pk p vs)
  |none=>(getPl p).bind (peek1 p)
 |_::_=>(getPl p).bind (peek1 p)
theorem Pl(p:gl)(σ:St):(peekP p).run σ=((getPl p).bind (peek1 p)).run σ:=by
 unfold peekP;split;rename_i h;have e:(getPl p).run σ=some (σ.c p.root p.off,σ):=by unfold getPl;simp[h];rfl
 rw[SP.run_bind,e];simp[SP.run];cases hc:σ.c p.root p.off with|ow c=>simp[TV.hd,peek1,h]|_=>simp[TV.hd,SP.run_bind,e,hc]
 rfl
def peekL:gl->Nat->SP U_|_,0=>.ret []|p,n+1=>(getPl p).bind λt=>(peek1 p t).bind λt'=>match n with|0=>.ret [t']|_=>if p.fits 1 then(peekL (p.add 1) n).bind λr=>.ret (t'::r)else .fail
def oi:TV->Bool|.ow _=>true|_=>false
def nameL(r:Nat):Nat->U_->SP U_|_,[]=>.ret []|i,.ow _::l=>.rdV (r,0,0) λg=>.rdV (r,i,1) λh=>(nameL r (i+1) l).bind λl'=>.ret (.pk ⟨r,i,[]⟩ [g,h]::l')|i,t::l=>(nameL r (i+1) l).bind λl'=>.ret (t::l')
def names(d:Nat)(l:U_):SP U_:=if l.any oi then .new (2*d+3) l (nameL (2*d+3) 0 l)else .ret l
def Kk(s:Sem Value):r_:=match s with|.pure v=>some v|_=>none
def jd(op:BinOp):Value->Value->r_|.int k a,.int k' b=>Kk (Go.binOp op 0 (.int k a) (.int k' b))|.string a,.string b=>Kk (Go.binOp op 0 (.string a) (.string b))|_,_=>none
def VQ(op:UnOp)(x:Value):r_:=Kk (Op.unary op x)
def gO:U_->Option w_| []=>some []|.v x::r=>(gO r).map (x :: ·)|_::_=>none
def qU{α:Type}:Option α->SP α|some a=>.ret a|none=>.fail
def zd:TV->SP Value|.v x=>.ret x|_=>.fail
def natOf:TV->SP Nat
 |.v (.int _ n)=>match n with|.ofNat k=>.ret k|.negSucc _=>.fail
 |_=>.fail
def wz:TV->SP Nat
 |.sl c=>.ret c.length|.ow []=>.ret 0|.pk p vs=>(chk p (p.hops.length+1) vs).bind λ_=>(Uv p).bind λh=>match h with|some ls=>.ret ls.length|none=>.fail
 |.pw p vs _ _ n=>(chk p (p.hops.length+1) vs).bind λ_=>.ret n|_=>.fail
def optNat:Option Opd->Nat->SP Nat|some o,_=>(opd o).bind natOf|none,d=>.ret d
inductive RSh where
 |one
 |agg (n:Nat)
 |ptr
abbrev P_:=List RSh
structure Mq where
 cells:U_
 sh:P_
abbrev Pts:=List (Nat×U_)
abbrev iJ:=FuncId->U_->Pts->Option (Mq×Pts)
structure Fm where
 w0:World
 A:Nat->Prop
 W0:Nat->Prop
 pr:Nat->d_
 N:Nat
 hA:∀k,w0.heap.size<=k->A k
 kp:Nat->r_:=λ_=>none
 kc:Nat->Nat->r_:=λ_ _=>none
def Fm.hr(_:Fm):Nat:=1
def Fm.ok(M:Fm)(d:Nat):Prop:=d<M.N/\M.kp d=none
theorem Fm.odd_ne(M:Fm)(i:Nat){p:Prop}:¬(2*i+3=M.hr/\p):=λe=>by have:=e.1;unfold Fm.hr at this;omega
structure Wi (M:Fm)(w:World)(G:Gh):Prop where
 os:w.os=M.w0.os
 tape:w.tape=M.w0.tape
 output:w.output=M.w0.output
 size:M.w0.heap.size<=w.heap.size
 old:∀k,k<M.w0.heap.size->¬M.W0 k->(∀r b o n,M.pr r=some (b,o,n)->k≠b)->w.heap[k]?=M.w0.heap[k]?
 par:∀r b o n,M.pr r=some (b,o,n)->G.β r=some (b,o,n)/\∃cur0 cur e fz,M.w0.heap[b]?=some (.cells cur0 e fz)/\w.heap[b]?=some (.cells cur e fz)/\cur.size=cur0.size/\∀j,(j<o\/o+n<=j)->cur[j]?=cur0[j]?
 own:∀r o k,G.φ r o k->M.W0 k\/M.w0.heap.size<=k
 box:∀r b o n,G.β r=some (b,o,n)->M.pr r=some (b,o,n)\/(M.pr r=none/\M.w0.heap.size<=b)
 even:∀r,G.β r≠none->r%2=0
def gG(M:Fm)(σ:St)(H:U_):Cs:=λr o=>if r=M.hr then H.getD o .dead else σ.c r o
def Gn(M:Fm)(σ:St)(H:U_)(w:World)(G:Gh):Prop:=∀r o x,M.kc r o=some x->1<=σ.v (r,o+1,0)/\TmR w (G.F M.A) σ.v (gG M σ H) G (.pk ⟨r,o,[]⟩ [0,0]) x
theorem Gn.keep{M:Fm}{σ σ':St}{H H':U_}{w w':World}{G G':Gh}(h:Gn M σ H w G)(k:lz w w' σ.v σ'.v (gG M σ H) (gG M σ' H') G G')
 (hw:∀k,G.F M.A k->k<w.heap.size->w'.heap[k]?=w.heap[k]?)(hF:∀k,G.F M.A k->k<w.heap.size->G'.F M.A k):Gn M σ' H' w' G':=
 λr o x hx=>⟨Nat.le_trans (h r o x hx).1 (k.ver _),(h r o x hx).2.keep k hw hF⟩
structure Inv (M:Fm)(σ:St)(H:U_)(xs:w_)(ts:s_)(w:World)(G:Gh):Prop where
 core:ol M.A (gG M σ H) w G
 tmr:∀i,TmR w (G.F M.A) σ.v (gG M σ H) G (σ.t i) (ts.getD i undef)
 fram:Wi M w G
 keys:∀r l,gI σ.ce r=some l->r≠1
 size:ts.size=M.N
 hand:H.length=xs.length
 hval:∀j,j<xs.length->G.η M.hr j=xs.getD j undef
 shape:∀r b o n,G.β r=some (b,o,n)->∀l,gI σ.ce r=some l->l.length=n
 kept:∀i x,i≠1000000->M.kp i=some x->G.η (2*i+3) 0=x
 gn:Gn M σ H w G
theorem Inv.hr_none{M:Fm}{σ:St}{H:U_}{xs:w_}{ts:s_}{w:World}{G:Gh}(h:Inv M σ H xs ts w G):G.β M.hr=none:=by cases hb:G.β M.hr with|none=>rfl|some x=>have:=h.fram.even M.hr (by simp_all);unfold Fm.hr at this;omega
theorem Inv.odd_none{M:Fm}{σ:St}{H:U_}{xs:w_}{ts:s_}{w:World}{G:Gh}(h:Inv M σ H xs ts w G)(d:Nat):G.β (2*d+3)=none:=by cases hb:G.β (2*d+3)with|none=>rfl|some x=>have:=h.fram.even (2*d+3) (by simp_all);omega
theorem Hv{σ:St}{r o:Nat}(h:gI σ.ce r=none):σ.c r o=.dead:=by simp[St.c,h]
theorem Inv.hr_dead{M:Fm}{σ:St}{H:U_}{xs:w_}{ts:s_}{w:World}{G:Gh}(h:Inv M σ H xs ts w G)(o:Nat):σ.c M.hr o=.dead:=by apply Hv;cases hb:gI σ.ce M.hr with|none=>rfl|some l=>exact absurd rfl (h.keys _ _ hb)
theorem gF{M:Fm}{σ:St}{H:U_}{r o:Nat}(h:r≠M.hr):gG M σ H r o=σ.c r o:=by simp[gG,h]
theorem qF{M:Fm}{σ:St}{H:U_}{o:Nat}:gG M σ H M.hr o=H.getD o .dead:=by simp[gG]
section frames
variable {M:Fm} {w:World} {G G':Gh}
theorem Wi.ghost(h:Wi M w G)(hβ:G'.β=G.β)(hO:∀k,(∃r o,G'.φ r o k)->∃r o,G.φ r o k):Wi M w G':=⟨h.os,h.tape,h.output,h.size,h.old,λr b o n hp=>by rw[hβ];exact h.par r b o n hp,λr o k hk=>by have ⟨r',o',h'⟩:=hO k ⟨r,o,hk⟩;exact h.own r' o' k h',λr b o n hb=>h.box r b o n (hβ ▸ hb),λr hb=>h.even r (hβ ▸ hb)⟩
end frames
theorem ol.addImm{A:Nat->Prop}{C:Cs}{w:World}{G:Gh}(hC:ol A C w G)(h ho:Nat)(hβ:G.β h=none)(hd:C h ho=.dead){t:TV}{x:Value}(ht:jS w (G.F A) (λ_=>False) t x):∃G',G'.β=G.β/\G'.φ=G.φ/\(∀r o,¬(r=h/\o=ho)->G'.η r o=G.η r o)/\G'.η h ho=x/\ol A (oL C h ho t) w G':=by
 have hφh:∀k,¬G.φ h ho k:=by rcases hC.cell h ho with⟨_,h2⟩|h2;exact h2;rw[hd]at h2;cases h2 with|dead hfp _=>exact hfp
 let G':Gh:=⟨G.β,λr o=>if r=h/\o=ho then x else G.η r o,G.φ⟩;have Yu:=ol.ghost (C':=oL C h ho t) (G':=G') hC rfl (λk h=>h) hC.dis
  (λr b o0 n hb o hn=>by
   unfold oL;split
   ·simp_all
   ·exact hC.boxc r b o0 n hb o hn)
  (λr o=>by
   by_cases e:r=h/\o=ho
   ·obtain⟨rfl,rfl⟩:=e;refine .inr (.inr ?_)
    have hv:G'.val w r o=x:=by simp[Gh.val,G',hβ]
    rw[hv];simp[oL];exact ht.refp λk=>⟨λh=>h.elim,λh=>(hφh k h).elim⟩
   ·exact .inl ⟨by simp[oL,e],λk=>Iff.rfl,by simp[G',e]⟩)
 exact⟨G',rfl,rfl,λr o e=>by simp[G',e],by simp[G'],Yu.1⟩
theorem CQ{M:Fm}{σ:St}{H:U_}{t:TV}:gG M σ (H++[t])=oL (gG M σ H) M.hr H.length t:=by funext r o;unfold gG oL;by_cases hr:r=M.hr;subst hr;grind;simp[hr]
theorem En{σ:St}{r o:Nat}{t:TV}{l:U_}(h:gI σ.ce r=some l)(ho:o<l.length):(St.mk σ.tm (iW σ.ce r (l.set o t)) σ.vr).c=oL σ.c r o t:=by unfold St.c oL;simp[gS];grind
theorem K1{M:Fm}{σ:St}{H:U_}{r o:Nat}{t:TV}{l:U_}(h:gI σ.ce r=some l)(ho:o<l.length)(hr:r≠M.hr)(vr:m_):gG M (St.mk σ.tm (iW σ.ce r (l.set o t)) vr) H=oL (gG M σ H) r o t:=by funext r' o';have e:=congrFun (congrFun (En (t:=t) h ho) r') o';have e2:(St.mk σ.tm (iW σ.ce r (l.set o t)) vr).c r' o'=(St.mk σ.tm (iW σ.ce r (l.set o t)) σ.vr).c r' o':=rfl;unfold gG;rw[e2,e];unfold oL;by_cases h1:r'=M.hr;subst h1;simp[Ne.symm hr];simp[h1]
theorem gL{α:Type}{r o:Nat}{t:TV}{k:SP α}{σ:St}{y:α×St}(h:(SP.wrC r o t k).run σ=some y):∃l,gI σ.ce r=some l/\o<l.length/\k.run { σ with ce:=iW σ.ce r (l.set o t) }=some y:=by simp[SP.run]at h;grind
theorem Kv{σ:St}(hk:∀r l,gI σ.ce r=some l->r≠1){r:Nat}{l l':U_}(h:gI σ.ce r=some l):∀r2 l2,gI (iW σ.ce r l') r2=some l2->r2≠1:=by intro r2 l2 h2;rw[gS]at h2;split at h2;all_goals simp_all
theorem E9{σ:St}{β:Nat->d_}(hs:∀r b o n,β r=some (b,o,n)->∀l,gI σ.ce r=some l->l.length=n){r:Nat}{l:U_}{o:Nat}{t:TV}(h:gI σ.ce r=some l):∀r2 b o2 n,β r2=some (b,o2,n)->∀l2,gI (iW σ.ce r (l.set o t)) r2=some l2->l2.length=n:=by intro r2 b o2 n hb l2 h2;rw[gS]at h2;grind
theorem Fh(l:List Key)(σ:St):(rdVs l).run σ=some (l.map σ.v,σ):=by induction l with|nil=>rfl|cons q l ih=>simp[rdVs,SP.run,SP.run_bind,ih]
theorem xk(σ:St)(r o n:Nat):(sj r o n).map σ.v=lP σ.v r o n:=by simp[sj,lP]
theorem gz{p:gl}{n:Nat}{vs:N_}{σ:St}{y:Unit×St}(h:(chk p n vs).run σ=some y):y.2=σ/\vs=lP σ.v p.root p.off n:=by unfold chk at h;rw[SP.run_bind,Fh,xk]at h;simp at h;split at h;rename_i e;simp[SP.run]at h;exact⟨by rw[<- h],e.symm⟩;simp[SP.run]at h
section hands
variable {M:Fm} {σ σ':St} {H:U_} {xs:w_} {ts:s_} {w:World} {G:Gh}
def qd(M:Fm)(w:World)(ts:s_)(σ:St)(H:U_)(G:Gh)(σ':St)(H':U_)(xs':w_)(G':Gh):Prop:=Inv M σ' H' xs' ts w G'/\(∀k,G.F M.A k->G'.F M.A k)/\lz w w σ.v σ'.v (gG M σ H) (gG M σ' H') G G'/\σ'.tm=σ.tm
theorem qd.trans{σ'':St}{H' H'':U_}{xs' xs'':w_}{G' G'':Gh}(a:qd M w ts σ H G σ' H' xs' G')(b:qd M w ts σ' H' G' σ'' H'' xs'' G''):qd M w ts σ H G σ'' H'' xs'' G'':=⟨b.1,λk h=>b.2.1 k (a.2.1 k h),a.2.2.1.trans b.2.2.1,b.2.2.2.trans a.2.2.2⟩
theorem qd.refl(hI:Inv M σ H xs ts w G):qd M w ts σ H G σ H xs G:=⟨hI,λ_ h=>h,lz.refl _ _ _ _,rfl⟩
theorem qd.tm{H':U_}{xs':w_}{G':Gh}{t:TV}{x:Value}(a:qd M w ts σ H G σ' H' xs' G')(h:TmR w (G.F M.A) σ.v (gG M σ H) G t x):TmR w (G'.F M.A) σ'.v (gG M σ' H') G' t x:=h.keep a.2.2.1 (λ_ _ _=>rfl) λk h _=>a.2.1 k h
theorem Inv.hand_dead(hI:Inv M σ H xs ts w G):gG M σ H M.hr H.length=.dead:=by rw[qF];simp
theorem Inv.addHand(hI:Inv M σ H xs ts w G){t:TV}{x:Value}(ho:jS w (G.F M.A) (λ_=>False) t x):∃G',qd M w ts σ H G σ (H++[t]) (xs++[x]) G':=by
 have hdead:=hI.hand_dead;have ⟨G',hβ,hφ,hη,hη2,Zk⟩:=hI.core.addImm M.hr H.length hI.hr_none hdead ho;have hF:∀k,G.F M.A k->G'.F M.A k:=λk hk=>by unfold Gh.F at *;rw[hβ,hφ];exact hk
 have hk:lz w w σ.v σ.v (gG M σ H) (gG M σ (H++[t])) G G':=by
  have hval:∀r o,gG M σ H r o≠.dead->G'.val w r o=G.val w r o:=λr o hd=>mc (by rw[hβ]) (hη r o λe=>hd (by rw[e.1,e.2];exact hdead)) λ_ _ _ _=>rfl;have X7:∀r o,gG M σ H r o≠.dead->gG M σ (H++[t]) r o=gG M σ H r o:=λr o hd=>by rw[CQ];unfold oL;rw[oIN λe=>hd (by simp_all)]
  refine⟨λ_=>oLE _,λp ad t1 _ _ h1 h2=>?_,λp h c _ _ h1 h2=>?_⟩;cases hp:p.hops with
  |nil=>exact⟨_,oJ h1 hβ λh=>absurd hp h,by rfl⟩|cons a l=>
   have hd:gG M σ H p.root p.off≠.dead:=λhd=>by rw[hd,hp]at h2;simp[gJ]at h2
   exact⟨t1,oJ h1 hβ λ_=>by rw[hval _ _ hd],by simp_all⟩
  have hd:gG M σ H p.root p.off≠.dead:=λhd=>by rw[hd]at h2;cases hp:p.hops<;>rw[hp]at h2<;>simp[gJ]at h2
  exact⟨c,Bv (λ_ _=>rfl) (hval _ _ hd) h1,by simp_all,rfl⟩
 refine⟨G',⟨by rw[CQ];exact Zk,λi=>(hI.tmr i).keep hk (λ_ _ _=>rfl) (λk h _=>hF k h),hI.fram.ghost hβ (λk h=>by rw[hφ]at h;exact h),hI.keys,hI.size,by simp[hI.hand],?_,λr b o n h=>hI.shape r b o n (hβ ▸ h),λi x h0 h=>(hη _ _ (M.odd_ne i)).trans (hI.kept i x h0 h),hI.gn.keep hk (λ_ _ _=>rfl) (λk h _=>hF k h)⟩,hF,hk,rfl⟩;intro j hj;by_cases e:j=H.length;subst e;rw[hη2,hI.hand];simp;have ZR:j<xs.length:=by rw[oLA]at hj;simp at hj;have:=hI.hand;omega
 rw[hη M.hr j λh=>e h.2,hI.hval j ZR];simp[List.getElem?_append,ZR]
def St.wrB(σ:St)(p:gl)(l:U_)(t:TV):St:=⟨σ.tm,iW σ.ce p.root (l.set p.off t),uc σ.vr (p.root,p.off,p.hops.length+1)⟩
theorem sE{p:gl}{l:U_}{t:TV}(k:Key):(σ.wrB p l t).v k=σ.v k+if(p.root,p.off,p.hops.length+1)=k then 1 else 0:=jC σ.vr _ k
theorem Md{p:gl}{l:U_}{t:TV}(hl:gI σ.ce p.root=some l)(ho:p.off<l.length)(Z7:p.root≠M.hr):gG M (σ.wrB p l t) H=oL (gG M σ H) p.root p.off t:=K1 hl ho Z7 _
theorem Inv.share(hI:Inv M σ H xs ts w G){p:gl}{c:o_}{l:U_}(Z7:p.root≠M.hr)(Z5:gJ (σ.c p.root p.off) p.hops=some (.ow c))(hl:gI σ.ce p.root=some l)(ho:p.off<l.length):∃G' u,qd M w ts σ H G (σ.wrB p l (iA (σ.c p.root p.off) (jQ p.hops))) H xs G'/\G.hv w p=some u/\r8 w (G'.F M.A) (TV.ow c).imm u:=by
 have X4:gJ (gG M σ H p.root p.off) p.hops=some (.ow c):=by rw[gF Z7];exact Z5
 have ⟨G1,u,hβ1,hη1,hcore1,hF1,hφ1,Yv,ZK⟩:=hI.core.shareV p X4;have hC1:gG M (σ.wrB p l (iA (σ.c p.root p.off) (jQ p.hops))) H=oL (gG M σ H) p.root p.off (iA (gG M σ H p.root p.off) (jQ p.hops)):=by rw[Md hl ho Z7,gF Z7]
 have Ze:lz w w σ.v (σ.wrB p l (iA (σ.c p.root p.off) (jQ p.hops))).v (gG M σ H) (gG M (σ.wrB p l (iA (σ.c p.root p.off) (jQ p.hops))) H) G G1:=by
  refine lz.ghost p.root p.off p.hops.length (λq=>by rw[sE];omega) (by rw[sE];simp) hβ1 (λr' o' _ _=>by rw[hη1]) (λr' o' hne _=>?_) (λhs t1 h1 h2=>?_);rw[hC1];simp[oL,hne];rw[hC1];have e:oL (gG M σ H) p.root p.off (iA (gG M σ H p.root p.off) (jQ p.hops)) p.root p.off=iA (gG M σ H p.root p.off) (jQ p.hops):=by simp[oL]
  rw[e];have:=zL (os:=jQ p.hops) h1 (by simpa[jQ]using h2);simpa[jQ]using this
 exact⟨G1,u,⟨⟨by simp_all,λi=>(hI.tmr i).keep Ze (λ_ _ _=>rfl) (λk h _=>hF1 k h),hI.fram.ghost hβ1 (λk ⟨r,o,h⟩=>⟨r,o,hφ1 r o k h⟩),Kv hI.keys hl,hI.size,hI.hand,λj hj=>by rw[hη1];exact hI.hval j hj,E9 (λr b o n h=>hI.shape r b o n (hβ1▸h)) hl,λi x h0 h=>by rw[hη1];exact hI.kept i x h0 h,hI.gn.keep Ze (λ_ _ _=>rfl) (λk h _=>hF1 k h)⟩,hF1,Ze,rfl⟩,Yv,ZK⟩
theorem Inv.moveHand(hI:Inv M σ H xs ts w G){p:gl}{c:o_}{l:U_}(Z7:p.root≠M.hr)(Z5:gJ (σ.c p.root p.off) p.hops=some (.ow c))(hl:gI σ.ce p.root=some l)(ho:p.off<l.length){x:Value}(hx:G.hv w p=some x):∃G',qd M w ts σ H G (σ.wrB p l (iU (σ.c p.root p.off) p.hops .dead)) (H++[.ow c]) (xs++[x]) G':=by
 have hdead:=hI.hand_dead;have X4:gJ (gG M σ H p.root p.off) p.hops=some (.ow c):=by rw[gF Z7];exact Z5
 obtain⟨G',u,hβ,hη,hη2,Yv,Zk,hF⟩:=hI.core.move p X4 M.hr H.length hI.hr_none hdead;rw[hx]at Yv;injection Yv with hxu
 subst hxu;have hC':gG M (σ.wrB p l (iU (σ.c p.root p.off) p.hops .dead)) (H++[.ow c])=oL (oL (gG M σ H) p.root p.off (iU (gG M σ H p.root p.off) p.hops .dead)) M.hr H.length (.ow c):=by rw[CQ,Md hl ho Z7,gF Z7]
 have hk:lz w w σ.v (σ.wrB p l (iU (σ.c p.root p.off) p.hops .dead)).v (gG M σ H) (gG M (σ.wrB p l (iU (σ.c p.root p.off) p.hops .dead)) (H++[.ow c])) G G':=by
  refine lz.ghost p.root p.off p.hops.length (λq=>by rw[sE];omega) (by rw[sE];simp) hβ (λr' o' h1 _=>hη r' o' λe=>h1 (by rw[e.1];rfl)) (λr' o' hne h1=>?_) (λhs t1 h1 h2=>?_);rw[hC'];have e:¬(r'=M.hr/\o'=H.length):=λe=>h1 (by rw[e.1];rfl);simp[oL,e,hne];rw[hC'];have e:oL (oL (gG M σ H) p.root p.off (iU (gG M σ H p.root p.off) p.hops .dead)) M.hr H.length (.ow c) p.root p.off=iU (gG M σ H p.root p.off) p.hops .dead:=by simp[oL,Z7]
  rw[e];exact qC X4 h1 h2
 refine⟨G',⟨by rw[hC'];exact Zk,λi=>(hI.tmr i).keep hk (λ_ _ _=>rfl) (λk h _=>hF k h),?_,Kv hI.keys hl,hI.size,by simp[hI.hand],?_,E9 (λr b o n h=>hI.shape r b o n (hβ ▸ h)) hl,λi x h0 h=>(hη _ _ (M.odd_ne i)).trans (hI.kept i x h0 h),hI.gn.keep hk (λ_ _ _=>rfl) (λk h _=>hF k h)⟩,hF,hk,rfl⟩;refine hI.fram.ghost hβ λk ⟨r',o',YD⟩=>?_;by_cases hkk:∃r o,G.φ r o k;exact hkk;exfalso;by_cases hb:∃r b o n,G.β r=some (b,o,n)/\k=b;obtain⟨r,b,o,n,ZM,hb2⟩:=hb;exact Zk.boxf r b o n (by simp_all) r' o' (hb2▸YD);exact(hF k ⟨Zk.allow r' o' k YD,λr o h=>hkk ⟨r,o,h⟩,λr b o n h1 h2=>hb ⟨r,b,o,n,h1,h2⟩⟩).2.1 r' o' YD;intro j hj;by_cases e:j=H.length;subst e;rw[hη2,hI.hand];simp;have ZR:j<xs.length:=by rw[oLA]at hj;simp at hj;have:=hI.hand;omega
 rw[hη M.hr j λh=>e h.2,hI.hval j ZR];simp_all
theorem r8.window{F:Nat->Prop}{c:o_}{b len cap:Nat}(h:r8 w F (.sl c) (.slice (some ⟨b,0,none⟩) len cap))(sz lo n:Nat)(hs:∀i (h:i<c.length),c[i].length=sz)(hln:lo+n<=c.length){a:t_}{ZS:Nat}(hn:n<=ZS) (hm:ZS<=maxLen)(hnil:a=none->ZS=0)(ha:0<n->a=some ⟨b,lo*sz,none⟩):r8 w F (.sl ((c.drop lo).take n)) (.slice a n ZS):=by
 cases h with
 |sl sz' u hsz hcap hmax hnil' hcell hrec=>
 have hl:((c.drop lo).take n).length=n:=by simp;omega
 have key:=r8.sl (w:=w) (F:=F) (c:=(c.drop lo).take n) (a:=a) (cap:=ZS) sz (λi j=>u (lo+i) j) (λi hi=>by
  simp;exact hs _ (by omega)) (by omega) hm hnil (λi j hi hj=>by
  have hz:sz'=sz:=by rw[<- hsz (lo+i) (by omega),hs (lo+i) (by omega)]
  subst hz;obtain⟨b',o',e,hF,hc⟩:=hcell (lo+i) j (by omega) hj;injection e with e
  injection e with e1 e2
  subst e1;subst e2;exact⟨b,lo*sz',ha (by omega),hF,by rw[show lo*sz'+(i*sz'+j)=0+((lo+i)*sz'+j) by rw[Nat.add_mul];omega];exact hc⟩) (λi j hi hj=>by have:=hrec (lo+i) j (by omega) (by simp_all);simpa using this)
 simp_all
theorem md{mv:Bool}{t t':TV}{x:Value}(hI:Inv M σ H xs ts w G)(hx:TmR w (G.F M.A) σ.v (gG M σ H) G t x) (hr:(take1 mv t).run σ=some (t',σ')):∃G',qd M w ts σ H G σ' (H++[t']) (xs++[x]) G'/\x.oneCell'=true:=by
 cases hx with
 |v h=>obtain⟨rfl,rfl⟩:=hr;obtain⟨G',h1⟩:=hI.addHand (.v (by simp) h);exact⟨G',h1,xH h⟩|nil=>obtain⟨rfl,rfl⟩:=hr;cases mv with|true=>obtain⟨G',h1⟩:=hI.addHand (.nil (by simp));exact⟨G',h1,rfl⟩|false=>have h0:∀ad,r8 w (G.F M.A) (.sl []) (.slice ad 0 0):=λad=>.sl (c:=[]) 1 (λ_ _=>.nilFunc) (λi h=>by simp at h) (oLE _) (Nat.zero_le _) (λ_=>rfl) (λi j h=>by simp at h) (λi j h=>by simp at h);obtain⟨G',h1⟩:=hI.addHand (h0 _).toOwn;exact⟨G',h1,rfl⟩
 |sl h=>obtain⟨rfl,rfl⟩:=hr;obtain⟨G',h1⟩:=hI.addHand h.toOwn;exact⟨G',h1,h.one⟩|dead=>simp[take1,SP.run]at hr|ptr=>simp[take1,SP.run]at hr|ip=>simp[take1,SP.run]at hr|agg=>simp[take1,SP.run]at hr|tup=>simp[take1,SP.run]at hr|fn=>simp[take1,SP.run]at hr| @pk p vs x V0 h0 hv hok=>
 simp only[take1]at hr;obtain⟨_,σ1,h1,h2⟩:=fS hr;have e1:σ1=σ:=(gz h1).1;have e2:=(gz h1).2;subst e1;obtain⟨_,c,ZB,Z5⟩:=hok e2;simp only[SP.run]at h2;have Z7:p.root≠M.hr:=by intro e;rw[e]at h2;rw[hI.hr_dead]at h2;cases hp:p.hops<;>rw[hp]at h2<;>simp[gJ,SP.run]at h2
 have X4:=Z5;rw[gF Z7]at Z5;rw[Z5]at h2;simp only at h2;have YP:x.oneCell'=true:=by
  obtain⟨u,fp,h4,h5,_⟩:=hI.core.hv_own p X4 (by simp);rw[ZB]at h4;injection h4 with h4
  rw[h4];exact h5.one
 cases mv with
  |true=>simp only[if_true]at h2;obtain⟨l,hl,ho,h3⟩:=gL h2;simp only[SP.run,oSJ,oPJ]at h3;obtain⟨rfl,rfl⟩:=h3;obtain⟨G',hg⟩:=hI.moveHand Z7 Z5 hl ho ZB;exact⟨G',hg,YP⟩|false=>
  simp only[Bool.false_eq_true,if_false]at h2;obtain⟨l,hl,ho,h3⟩:=gL h2;obtain⟨rfl,rfl⟩:=h3;obtain⟨G1,u,hg,Yv,ZK⟩:=hI.share Z7 Z5 hl ho;rw[ZB]at Yv;injection Yv with hxu
  subst hxu;obtain⟨G',Zx⟩:=hg.1.addHand ZK.toOwn;exact⟨G',hg.trans Zx,YP⟩
 | @pw p vs sz lo n x V0 h0 hv hok=>
 simp only[take1]at hr;obtain⟨_,σ1,h1,h2⟩:=fS hr;have e1:σ1=σ:=(gz h1).1;have e2:=(gz h1).2;subst e1;obtain⟨_,c,hd,ZB,Z5,hln,a,cap,rfl,hncap,hm,hnil,hsz,Z0⟩:=hok e2;simp only[SP.run]at h2;have Z7:p.root≠M.hr:=by intro e;rw[e]at h2;rw[hI.hr_dead]at h2;cases hp:p.hops<;>rw[hp]at h2<;>simp[gJ,SP.run]at h2
 rw[gF Z7]at Z5;rw[Z5]at h2;simp only at h2;obtain⟨l,hl,ho,h3⟩:=gL h2;simp only[SP.run,oSJ,oPJ]at h3;obtain⟨rfl,rfl⟩:=h3;obtain⟨G1,u,hg,Yv,ZK⟩:=hI.share Z7 Z5 hl ho;rw[ZB]at Yv;injection Yv with hxu
 subst hxu;have himm2:r8 w (G1.F M.A) (.sl (((c.drop lo).take n).map λe=>e.map TV.imm)) (.slice a n cap):=by
  rw[qY]at ZK;by_cases hn:0<n;obtain⟨b,len,ZS,rfl,ha⟩:=Z0 (by omega);have:=ZK.window sz lo n (λi hi=>by simp only[List.getElem_map,oLP];exact hsz i (by simpa using hi)) (by simpa using hln) hncap.1 hm hnil (λ_=>ha);rw[<- List.map_drop,<- List.map_take]at this;exact this;obtain rfl:n=0:=by omega
  simp only[List.take_zero,List.map_nil];exact r8.sl (c:=[]) sz (λ_ _=>.nilFunc) (by simp) (by simp) hm hnil (by simp) (by simp)
 obtain⟨G',Zx⟩:=hg.1.addHand himm2.toOwn;exact⟨G',hg.trans Zx,rfl⟩
theorem vI{mv:Bool}:∀{l l':U_}{ys:w_}{σ σ':St}{H:U_}{xs:w_}{G:Gh},Inv M σ H xs ts w G->l.length=ys.length->(∀j (h:j<l.length),TmR w (G.F M.A) σ.v (gG M σ H) G l[j] (ys.getD j undef))->(takeL mv l).run σ=some (l',σ')->l'.length=l.length/\(∀y∈ys,y.oneCell'=true)/\∃G',qd M w ts σ H G σ' (H++l') (xs++ys) G':=by intro l;induction l with|nil=>intro l' ys σ σ' H xs G hI hl _ hr;obtain⟨rfl,rfl⟩:=hr;have:ys=[]:=oEN (by simp_all);subst this;exact⟨rfl,by simp,G,by simpa using qd.refl hI⟩|cons t l ih=>intro l' ys σ σ' H xs G hI hl ht hr;cases ys with|nil=>simp at hl|cons y ys=>obtain⟨t',σ1,h1,h2⟩:=fS hr;obtain⟨r',σ2,h3,h4⟩:=fS h2;obtain⟨rfl,rfl⟩:=h4;obtain⟨G1,Zl,ho⟩:=md hI (ht 0 (by simp)) h1;obtain⟨e,E',G2,Zx⟩:=ih (l':=r') Zl.1 (by simpa using hl) (λj hj=>Zl.tm (by have:=ht (j+1) (by simpa using hj);simpa using this)) h3;refine⟨by simp[e],by simp_all,G2,?_⟩;have:=Zl.trans Zx;simpa using this
end hands
structure nZ (M:Fm)(w:World)(σ:St)(H:U_)(G:Gh)(w':World)(σ':St)(H':U_)(G':Gh):Prop where
 size:w.heap.size<=w'.heap.size
 keeps:lz w w' σ.v σ'.v (gG M σ H) (gG M σ' H') G G'
 heap:∀k,G.F M.A k->k<w.heap.size->w'.heap[k]?=w.heap[k]?
 free:∀k,G.F M.A k->k<w.heap.size->G'.F M.A k
theorem nZ.trans{M:Fm}{w w' w'':World}{σ σ' σ'':St}{H H' H'':U_}{G G' G'':Gh}(a:nZ M w σ H G w' σ' H' G')(b:nZ M w' σ' H' G' w'' σ'' H'' G''):nZ M w σ H G w'' σ'' H'' G'':=⟨Nat.le_trans a.size b.size,a.keeps.trans b.keeps,λk h hl=>(b.heap k (a.free k h hl) (Nat.lt_of_lt_of_le hl a.size)).trans (a.heap k h hl),λk h hl=>b.free k (a.free k h hl) (Nat.lt_of_lt_of_le hl a.size)⟩
theorem nZ.refl(M:Fm)(w:World)(σ:St)(H:U_)(G:Gh):nZ M w σ H G w σ H G:=⟨oLE _,lz.refl _ _ _ _,λ_ _ _=>rfl,λ_ h _=>h⟩
theorem nZ.tm{M:Fm}{w w':World}{σ σ':St}{H H':U_}{G G':Gh}{t:TV}{x:Value}(a:nZ M w σ H G w' σ' H' G')(h:TmR w (G.F M.A) σ.v (gG M σ H) G t x):TmR w' (G'.F M.A) σ'.v (gG M σ' H') G' t x:=h.keep a.keeps a.heap a.free
theorem qd.moves{M:Fm}{w:World}{ts:s_}{σ σ':St}{H H':U_}{xs':w_}{G G':Gh}(a:qd M w ts σ H G σ' H' xs' G'):nZ M w σ H G w σ' H' G':=⟨oLE _,a.2.2.1,λ_ _ _=>rfl,λk h _=>a.2.1 k h⟩
section
variable {M:Fm} {σ σ':St} {H:U_} {xs:w_} {ts:s_} {w:World} {G:Gh}
theorem Inv.hand_own(hI:Inv M σ H xs ts w G){j:Nat}(hj:j<H.length)(hd:H[j]≠.dead):jS w (G.F M.A) (G.φ M.hr j) H[j] (xs.getD j undef):=by
 have e:gG M σ H M.hr j=H[j]:=by rw[qF];simp[hj]
 have h:=hI.core.own (r:=M.hr) (o:=j) (by simp_all);have hv:G.val w M.hr j=xs.getD j undef:=by unfold Gh.val;rw[hI.hr_none];exact hI.hval j (by rw[<- hI.hand];exact hj)
 simp_all
theorem setH(H:U_)(j:Nat):gG M σ (H.set j .dead)=oL (gG M σ H) M.hr j .dead:=by funext r o;unfold gG oL;by_cases hr:r=M.hr;subst hr;grind;simp[hr]
theorem BI(hI:Inv M σ H xs ts w G){p:gl}{ad:Addr}{t:TV}(Z6:G.addrB w p=some ad)(Z5:gJ (gG M σ H p.root p.off) p.hops=some t)(u:Value){w':World} (hw:w'=w.setCell ad u){G':Gh}(hβ:G'.β=G.β)(hφ:∀r o k,G'.φ r o k->∃r o,G.φ r o k):Wi M w' G':=by
 subst hw;have hin:=hI.core.where_ p Z6 Z5;have hF:=hI.fram;have hbl:∀k,k<M.w0.heap.size->¬M.W0 k->(∀r b o n,M.pr r=some (b,o,n)->k≠b)->k≠ad.block:=by intro k h1 h2 h3 e;rcases hin with⟨_,b,o0,n,hb,_,Y4⟩|⟨_,hφ⟩;rw[Y4]at e;rcases hF.box _ _ _ _ hb with h4|⟨_,h4⟩;exact h3 _ _ _ _ h4 e;have:k=b:=e;omega;rcases hF.own _ _ _ hφ with h4|h4;simp_all;omega
 refine⟨hF.os,hF.tape,hF.output,by simpa using hF.size,λk h1 h2 h3=>by rw[gK w ad u (hbl k h1 h2 h3)];exact hF.old k h1 h2 h3,λr b o n hp=>?_,λr o k hk=>by obtain⟨r',o',h'⟩:=hφ r o k hk;exact hF.own r' o' k h',λr b o n hb=>hF.box r b o n (hβ ▸ hb),λr hb=>hF.even r (hβ ▸ hb)⟩;obtain⟨hb,cur0,cur,e,fz,h1,h2,h3,h4⟩:=hF.par r b o n hp;refine⟨by simp_all,?_⟩;by_cases he:b=ad.block;rcases hin with⟨_,b2,o2,n2,hb2,hlt,Y4⟩|⟨_,hφ2⟩;rw[Y4]at he;have hbb:b=b2:=he;subst hbb;have hr:=hI.core.boxd r p.root b o n o2 n2 hb hb2;subst hr;rw[hb]at hb2;injection hb2 with hb2
 injection hb2 with _ hb2
 injection hb2 with e1 e2
 subst e1;refine⟨cur0,cur.setIfInBounds (o+p.off) u,e,fz,h1,by rw[Y4];exact nH w b _ u h2,by simpa using h3,λj hj=>?_⟩;rw[Array.getElem?_setIfInBounds,oIN (by omega)];exact h4 j hj;exact absurd (he▸hφ2) (hI.core.boxf r b o n hb _ _);exact⟨cur0,cur,e,fz,h1,by rw[gK w ad u he];exact h2,h3,h4⟩
theorem Inv.put(hI:Inv M σ H xs ts w G){p:gl}{ad:Addr}{old:TV}(hp1:p.root≠1)(Z6:G.addrB w p=some ad)(Z5:gJ (gG M σ H p.root p.off) p.hops=some old){j:Nat}(hj:j<H.length)(hd:H[j]≠.dead) (hr:(xj p H[j]).run σ=some ((),σ')):(∃u,w.cell? ad=some u)/\w.frozen? ad=false/\∃G',Inv M σ' (H.set j .dead) xs ts (w.setCell ad (xs.getD j undef)) G'/\nZ M w σ H G (w.setCell ad (xs.getD j undef)) σ' (H.set j .dead) G'/\σ'.tm=σ.tm/\G'.β=G.β:=by
 have Z7:p.root≠M.hr:=hp1;have hgs:gJ (σ.c p.root p.off) p.hops=some old:=by rw[<- gF Z7];exact Z5
 obtain⟨u,Zw,ZG,YS,hfr,ZB,ZE,Z9,hnb,hwh,hset⟩:=hI.core.set p Z6 Z5;refine⟨⟨u,YS⟩,hfr,?_⟩;have hown:=hI.hand_own hj hd;obtain⟨y,hy⟩:∃y,y=xs.getD j undef:=⟨_,rfl⟩;rw[<- hy]at hown⊢;have hne:∀k,G.φ M.hr j k->¬G.φ p.root p.off k:=λk h1 h2=>Z7 (hI.core.dis _ _ _ _ k h2 h1).1;let G':Gh:=⟨G.β,G.η,λr o k=>if r=M.hr/\o=j then False else if r=p.root/\o=p.off then(G.φ r o k/\¬Zw k)\/G.φ M.hr j k else G.φ r o k⟩;have Z9φ:∀r o k,G'.φ r o k->∃r o,G.φ r o k:=by intro r o k hk;simp only[G']at hk;split at hk;exact hk.elim;split at hk;rcases hk with hk|hk;exact⟨_,_,hk.1⟩;exact⟨_,_,hk⟩;exact⟨_,_,hk⟩
 have Zg:∀k,G.F M.A k->G'.F M.A k:=by rintro k ⟨h1,h2,h3⟩;refine⟨h1,λr o h=>?_,h3⟩;obtain⟨r',o',h'⟩:=Z9φ r o k h;exact h2 r' o' h'
 have hFad:∀k,G.F M.A k->k≠ad.block:=by rintro k ⟨_,h2,h3⟩ e;rcases hwh with⟨r,b,o,n,hb,hb2⟩|h;exact h3 r b o n hb (e.trans hb2);exact h2 _ _ (e▸h)
 have Ym:∀k,G.F M.A k->k<w.heap.size->(w.setCell ad y).heap[k]?=w.heap[k]?:=λk h _=>gK w ad y (hFad k h);have hjad:∀k,G.φ M.hr j k->k≠ad.block:=λk h=>hI.core.phi_ne p Z6 Z5 (λe=>Z7 e.1.symm) h;have hownw:=hown.frame (λk hk=>gK w ad y (hjad k hk)) Ym (λk h _=>Zg k h);have core':∀(C':Cs),C' p.root p.off=iU (gG M σ H p.root p.off) p.hops H[j]->(∀r o,¬(r=p.root/\o=p.off)->C' r o=if r=M.hr/\o=j then .dead else gG M σ H r o)->ol M.A C' (w.setCell ad y) G':=by intro C' h1 h2;refine hset H[j] y (G.φ M.hr j) C' G' (w.setCell ad y) (λ_ _=>rfl) h1 rfl rfl (λk=>?_) (λr o hn=>?_) (λk hk=>.inl ⟨_,_,hk⟩) (λk hk=>⟨hI.core.allow _ _ k hk,λr o hn h=>?_,λh=>hne k hk h.1⟩) hownw;simp[G',Ne.symm Z7,Z7];by_cases e:r=M.hr/\o=j;right;exact⟨by rw[h2 r o hn,oIP e],λk=>by simp[G',e]⟩;left;exact⟨by rw[h2 r o hn,oIN e],λk=>by simp[G',e,hn]⟩;simp only[G']at h;by_cases e:r=M.hr/\o=j;rw[oIP e]at h;exact h;rw[oIN e,oIN hn]at h;exact e (hI.core.dis _ _ _ _ k h hk)
 have ZV:∀(l:U_)(vr:m_),gI σ.ce p.root=some l->p.off<l.length->σ'=⟨σ.tm,iW σ.ce p.root (l.set p.off (iU (σ.c p.root p.off) p.hops H[j])),vr⟩->lz w (w.setCell ad y) σ.v σ'.v (gG M σ H) (gG M σ' (H.set j .dead)) G G'->∃G',Inv M σ' (H.set j .dead) xs ts (w.setCell ad y) G'/\nZ M w σ H G (w.setCell ad y) σ' (H.set j .dead) G'/\σ'.tm=σ.tm/\G'.β=G.β:=by
  intro l vr hl ho hσ hk;have hC:gG M σ' (H.set j .dead)=oL (oL (gG M σ H) p.root p.off (iU (gG M σ H p.root p.off) p.hops H[j])) M.hr j .dead:=by rw[setH,hσ,K1 hl ho Z7,gF Z7]
  have Zk:ol M.A (gG M σ' (H.set j .dead)) (w.setCell ad y) G':=by rw[hC];refine core' _ (by simp[oL,Z7]) λr o hn=>?_;by_cases e:r=M.hr/\o=j;simp[oL,e];simp[oL,e,hn]
  refine⟨G',⟨Zk,λi=>?_,BI hI Z6 Z5 y rfl rfl Z9φ,by rw[hσ];exact Kv hI.keys hl,hI.size,by simpa using hI.hand,hI.hval,by rw[hσ];exact E9 hI.shape hl,hI.kept,hI.gn.keep hk Ym λk h _=>Zg k h⟩,⟨by simp,hk,Ym,λk h _=>Zg k h⟩,by rw[hσ],rfl⟩;have:=(hI.tmr i).keep hk Ym (λk h _=>Zg k h);have e:σ'.t i=σ.t i:=by rw[hσ];rfl
  rw[e];exact this
 have hCset:∀(l:U_)(vr:m_),gI σ.ce p.root=some l->p.off<l.length->σ'=⟨σ.tm,iW σ.ce p.root (l.set p.off (iU (σ.c p.root p.off) p.hops H[j])),vr⟩->gG M σ' (H.set j .dead) p.root p.off=iU (gG M σ H p.root p.off) p.hops H[j]/\∀r o,¬(r=p.root/\o=p.off)->r≠1->gG M σ' (H.set j .dead) r o=gG M σ H r o:=by
  intro l vr hl ho hσ;have hC:gG M σ' (H.set j .dead)=oL (oL (gG M σ H) p.root p.off (iU (gG M σ H p.root p.off) p.hops H[j])) M.hr j .dead:=by rw[setH,hσ,K1 hl ho Z7,gF Z7]
  rw[hC];refine⟨by simp[oL,Z7],λr o hn h1=>?_⟩;have:¬(r=M.hr/\o=j):=λe=>h1 e.1;simp[oL,this,hn]
 unfold xj at hr;simp only[SP.run,hgs]at hr;by_cases hh:(ui old||ui H[j])=true;rw[oIP hh]at hr;by_cases hlen:p.hops.length<=1;rw[oIP hlen]at hr;obtain⟨l,hl,ho,h3⟩:=gL hr;simp only[SP.run,oSJ,oPJ,true_and]at h3;obtain⟨ZP,ZL⟩:=hCset l _ hl ho h3.symm;refine ZV l _ hl ho h3.symm ?_;refine BH hI.core p hlen Z6 Z5 (λ_ _=>rfl) rfl rfl (λq=>?_) ?_ ZP ZL;rw[<- h3];show _<=nW (uc σ.vr _) q;rw[jC];exact Nat.le_add_right _ _;rw[<- h3];show _<nW (uc σ.vr _) _;rw[jC];simp[St.v];rw[oIN hlen]at hr;simp[SP.run]at hr;rw[oIN hh]at hr;obtain⟨l,hl,ho,h3⟩:=gL hr;simp only[SP.run,oSJ,oPJ,true_and]at h3;obtain⟨ZP,ZL⟩:=hCset l _ hl ho h3.symm;refine ZV l _ hl ho h3.symm ?_;simp only[Bool.or_eq_true,not_or]at hh;obtain⟨o1,rfl⟩:∃o1,old=.v o1:=by cases old<;>simp[ui]at hh;exact⟨_,rfl⟩
 obtain⟨o2,E'⟩:∃o2,H[j]=.v o2:=by cases h:H[j]<;>simp[h,ui]at hh;exact⟨_,rfl⟩
 have ZH:kJ y=true:=by rw[E']at hown;cases hown with|v _ h=>exact h
 have hvv:σ'.v=σ.v:=by rw[<- h3];rfl
 rw[hvv];exact E3 hI.core p Z6 Z5 ZH (λ_ _=>rfl) rfl rfl ZP ZL
end
section
variable {M:Fm} {σ σ':St} {H:U_} {xs:w_} {ts:s_} {w:World} {G:Gh}
def St.root(σ:St)(r:Nat)(l:U_):St:=⟨σ.tm,iW σ.ce r l,uc σ.vr (r,0,0)⟩
theorem qZ{r:Nat}{l:U_}(k:Key):(σ.root r l).v k=σ.v k+if(r,0,0)=k then 1 else 0:=jC σ.vr _ k
theorem zR{r:Nat}{l:U_}(r' o:Nat):(σ.root r l).c r' o=if r'=r then l.getD o .dead else σ.c r' o:=by unfold St.c St.root;simp[gS];grind
theorem JE{r:Nat}{l:U_}(r' o:Nat)(hI:Inv M σ H xs ts w G):gG M (σ.root r l) [] r' o=if r'=M.hr then .dead else if r'=r then l.getD o .dead else gG M σ H r' o:=by unfold gG;by_cases h:r'=M.hr;simp[h];simp[oIN h,zR]
theorem Inv.phi_dead(hI:Inv M σ H xs ts w G){r o:Nat}(hd:gG M σ H r o=.dead):∀k,¬G.φ r o k:=by rcases hI.core.cell r o with⟨_,h2⟩|h2;exact h2;rw[hd]at h2;cases h2 with|dead hfp _=>exact hfp
theorem Inv.hand_cell(hI:Inv M σ H xs ts w G)(o:Nat):(H.getD o .dead=.dead/\∀k,¬G.φ M.hr o k)\/(o<H.length/\jS w (G.F M.A) (G.φ M.hr o) (H.getD o .dead) (xs.getD o undef)):=by
 by_cases hd:H.getD o .dead=.dead;exact .inl ⟨hd,hI.phi_dead (by rw[qF];exact hd)⟩;right;have ho:o<H.length:=by rcases Nat.lt_or_ge o H.length with h|h;exact h;simp_all
 have e:H[o]=H.getD o .dead:=by simp[ho]
 have:=hI.hand_own ho (by rw[e];exact hd);rw[e]at this;exact⟨ho,this⟩
theorem Inv.newBox(hI:Inv M σ H xs ts w G)(r:Nat)(e:TypeId)(h1:r≠1)(Y1:M.pr r=none)(XW:r%2=0):∃G',Inv M (σ.root r H) [] [] ts (w.alloc (.cells xs.toArray e)) G'/\nZ M w σ H G (w.alloc (.cells xs.toArray e)) (σ.root r H) [] G'/\G'.β r=some (w.heap.size,0,H.length):=by
 have Z7:r≠M.hr:=h1;have hw:∀k,k<w.heap.size->(w.alloc (.cells xs.toArray e)).heap[k]?=w.heap[k]?:=λk hk=>Below.heap_alloc w _ k hk;have Zp:(w.alloc (.cells xs.toArray e)).heap[w.heap.size]?=some (.cells xs.toArray e (0,0)):=by show(w.heap.push _)[w.heap.size]?=_;simp
 let G':Gh:=⟨λr'=>if r'=r then some (w.heap.size,0,H.length)else G.β r',G.η,λr' o k=>if r'=M.hr then False else if r'=r then G.φ M.hr o k else G.φ r' o k⟩;have Z9:∀r' o k,G'.φ r' o k->∃r2,G.φ r2 o k/\(r'=r/\r2=M.hr\/r'≠r/\r'≠M.hr/\r2=r'):=by intro r' o k hk;simp only[G']at hk;by_cases e1:r'=M.hr;rw[oIP e1]at hk;exact hk.elim;rw[oIN e1]at hk;by_cases e2:r'=r;rw[oIP e2]at hk;exact⟨_,hk,.inl ⟨e2,rfl⟩⟩;rw[oIN e2]at hk;exact⟨_,hk,.inr ⟨e2,e1,rfl⟩⟩
 have Zg:∀k,G.F M.A k->k<w.heap.size->G'.F M.A k:=by
  rintro k ⟨a1,a2,a3⟩ hk;refine⟨a1,λr' o h=>?_,λr' b o n hb=>?_⟩;obtain⟨r2,h3,_⟩:=Z9 r' o k h;exact a2 r2 o h3;simp only[G']at hb;split at hb;injection hb with hb;injection hb with hb;omega
  exact a3 r' b o n hb
 have hval:∀r' o,r'≠r->G'.val (w.alloc (.cells xs.toArray e)) r' o=G.val w r' o:=by intro r' o hne;exact mc (by simp[G',hne]) rfl λb o n hb=>hw b (hI.core.boxlt hb)
 have hCr:∀r' o,gG M (σ.root r H) [] r' o=if r'=M.hr then .dead else if r'=r then H.getD o .dead else gG M σ H r' o:=λr' o=>JE r' o hI
 have Zk:ol M.A (gG M (σ.root r H) []) (w.alloc (.cells xs.toArray e)) G':=by
  refine⟨λr' o=>?_,λr' b o0 n hb=>?_,λr' b o0 n hb o ho=>?_,λr1 r2 b o n o' n' ZM hb2=>?_,λr' b o n hb r2 o2 hk=>?_,λr1 o1 r2 o2 k Ze Yq=>?_,λr' o k hk=>?_⟩;rw[hCr];by_cases e1:r'=M.hr;left;exact⟨by simp[e1],λk hk=>by simp[G',e1]at hk⟩;rw[oIN e1];by_cases e2:r'=r;subst e2;simp only[if_true];have Zm:∀k,G'.φ r' o k↔G.φ M.hr o k:=λk=>by simp[G',e1]
  rcases hI.hand_cell o with⟨a1,a2⟩|⟨a1,a2⟩;left;exact⟨a1,λk hk=>a2 k ((Zm k).1 hk)⟩;right;have hv:G'.val (w.alloc (.cells xs.toArray e)) r' o=xs.getD o undef:=by
   have hlt:o<xs.length:=by rw[<- hI.hand];exact a1
   unfold Gh.val;simp only[G',if_true];rw[World.cell?_alloc_new];simp[hlt]
  rw[hv];exact(a2.frame (λk hk=>hw k (a2.live k hk)) (λk _ hk=>hw k hk) Zg).refp λk=>(Zm k).symm;rw[oIN e2,hval r' o e2];have Zm:∀k,G'.φ r' o k↔G.φ r' o k:=λk=>by simp[G',e1,e2]
  rcases hI.core.cell r' o with⟨a1,a2⟩|a2;left;exact⟨a1,λk hk=>a2 k ((Zm k).1 hk)⟩;right;exact(a2.frame (λk hk=>hw k (a2.live k hk)) (λk _ hk=>hw k hk) Zg).refp λk=>(Zm k).symm;simp only[G']at hb;split at hb;injection hb with hb
  injection hb with ZM hb2
  injection hb2 with hb2 hb3
  subst ZM;subst hb2;subst hb3;exact⟨xs.toArray,e,(0,0),Zp,by simp[hI.hand],λj _=>frozen_of_row _ _ _ _ _ Zp⟩;obtain⟨cur,e',fz,a1,a2,a3⟩:=hI.core.box r' b o0 n hb;exact⟨cur,e',fz,by rw[hw b (hI.core.boxlt hb)];exact a1,a2,λj hj=>by rw[World.frozen?_of_block (w:=w) (hw b (hI.core.boxlt hb))];exact a3 j hj⟩;rw[hCr];simp only[G']at hb;by_cases e1:r'=M.hr;simp[e1];rw[oIN e1];split at hb;simp_all;rename_i e2;rw[oIN e2];exact hI.core.boxc r' b o0 n hb o ho;simp only[G']at ZM hb2;split at ZM;rename_i e1;split at hb2;rename_i e2;exact e1.trans e2.symm;have:=hI.core.boxlt hb2;injection ZM with ZM;injection ZM with ZM;omega
  split at hb2;have:=hI.core.boxlt ZM;injection hb2 with hb2;injection hb2 with hb2;omega
  exact hI.core.boxd r1 r2 b o n o' n' ZM hb2;obtain⟨r3,a1,_⟩:=Z9 r2 o2 b hk;simp only[G']at hb;split at hb;have:=hI.core.live a1;injection hb with hb;injection hb with hb;omega
  exact hI.core.boxf r' b o n hb r3 o2 a1;obtain⟨r3,a1,a2⟩:=Z9 r1 o1 k Ze;obtain⟨r4,a3,a4⟩:=Z9 r2 o2 k Yq;obtain⟨b1,b2⟩:=hI.core.dis _ _ _ _ k a1 a3;omega;obtain⟨r3,a1,_⟩:=Z9 r' o k hk;exact hI.core.allow _ _ k a1
 have hk:lz w (w.alloc (.cells xs.toArray e)) σ.v (σ.root r H).v (gG M σ H) (gG M (σ.root r H) []) G G':=by refine lz.root hI.core r hw (λq=>by rw[qZ];omega) (by rw[qZ];simp) (λr' o hne h1'=>?_) (λr' hne _=>by simp[G',hne]) (λ_ _ _ _=>rfl);rw[hCr];have:r'≠M.hr:=h1';simp[this,hne]
 have hF:=hI.fram;refine⟨G',⟨Zk,λi=>(hI.tmr i).keep hk (λk _ h=>hw k h) Zg,?_,λr' l h=>?_,hI.size,rfl,λj hj=>by simp at hj,λr' b o n hb l h=>?_,hI.kept,hI.gn.keep hk (λk _ h=>hw k h) Zg⟩,⟨by simp,hk,λk _ h=>hw k h,Zg⟩,by simp[G']⟩;refine⟨hF.os,hF.tape,hF.output,by have:=hF.size;simp;omega,λk a1 a2 a3=>by rw[hw k (Nat.lt_of_lt_of_le a1 hF.size)];exact hF.old k a1 a2 a3,λr' b o n hp=>?_,λr' o k hk=>?_,λr' b o n hb=>?_,λr' hb=>?_⟩;obtain⟨a1,cur0,cur,e',fz,a2,a3,a4⟩:=hF.par r' b o n hp;have hne:r'≠r:=λe=>by rw[e,Y1]at hp;simp at hp
 exact⟨by simp[G',hne,a1],cur0,cur,e',fz,a2,by rw[hw b (hI.core.boxlt a1)];exact a3,a4⟩;obtain⟨r3,a1,_⟩:=Z9 r' o k hk;exact hF.own _ _ k a1;simp only[G']at hb;split at hb;rename_i e1;injection hb with hb;injection hb with ZM hb2
 right;rw[e1];exact⟨Y1,by rw[<- ZM];exact hF.size⟩;exact hF.box r' b o n hb;simp only[G']at hb;split at hb;rename_i e1;rw[e1];exact XW;exact hF.even r' hb;rw[show(σ.root r H).ce=iW σ.ce r H from rfl,gS]at h;split at h;rename_i e1;rw[<- e1];exact h1;exact hI.keys r' l h;rw[show(σ.root r H).ce=iW σ.ce r H from rfl,gS]at h;simp only[G']at hb;by_cases e1:r'=r;rw[oIP e1.symm]at h;rw[oIP e1]at hb;injection h with h
 injection hb with hb
 injection hb with _ hb
 injection hb with _ hb
 rw[<- h,hb];rw[oIN (Ne.symm e1)]at h;rw[oIN e1]at hb;exact hI.shape r' b o n hb l h
theorem Inv.reroot(hI:Inv M σ H xs ts w G)(r:Nat)(h1:r≠1)(hβr:G.β r=none)(hkr:∀i,i≠1000000->M.kp i≠none->2*i+3≠r):∃G',qd M w ts σ H G (σ.root r H) [] [] G'/\G'.β=G.β/\∀j,j<xs.length->G'.η r j=xs.getD j undef:=by
 let G':Gh:=⟨G.β,λr' o=>if r'=r then G.η M.hr o else G.η r' o,λr' o k=>if r'=M.hr then False else if r'=r then G.φ M.hr o k else G.φ r' o k⟩;have Z9:∀r' o k,G'.φ r' o k->∃r2,G.φ r2 o k/\(r'=r/\r2=M.hr\/r'≠r/\r'≠M.hr/\r2=r'):=by intro r' o k hk;simp only[G']at hk;by_cases e1:r'=M.hr;rw[oIP e1]at hk;exact hk.elim;rw[oIN e1]at hk;by_cases e2:r'=r;rw[oIP e2]at hk;exact⟨_,hk,.inl ⟨e2,rfl⟩⟩;simp_all
 have hCr:∀r' o,gG M (σ.root r H) [] r' o=if r'=M.hr then .dead else if r'=r then H.getD o .dead else gG M σ H r' o:=λr' o=>JE r' o hI
 have hF0:∀k,G.F M.A k->G'.F M.A k:=by rintro k ⟨a1,a2,a3⟩;refine⟨a1,λr' o h=>?_,a3⟩;obtain⟨r2,h3,_⟩:=Z9 r' o k h;exact a2 r2 o h3
 have Yu:=ol.ghost (C':=gG M (σ.root r H) []) (G':=G') hI.core rfl
  (λk ⟨r',o,h⟩=>by obtain⟨r2,h3,_⟩:=Z9 r' o k h;exact⟨r2,o,h3⟩)
  (λr1 o1 r2 o2 k Ze Yq=>by
   obtain⟨r3,a1,a2⟩:=Z9 r1 o1 k Ze;obtain⟨r4,a3,a4⟩:=Z9 r2 o2 k Yq;obtain⟨b1,b2⟩:=hI.core.dis _ _ _ _ k a1 a3;refine⟨?_,b2⟩
   rcases a2 with⟨c1,c2⟩|⟨c1,c2,c3⟩
   ·omega
   ·rcases a4 with⟨d1,d2⟩|⟨d1,d2,d3⟩
    ·exact absurd (c3.symm.trans (b1.trans d2)) c2
    ·rw[<- c3,<- d3];exact b1)
  (λr' b o0 n hb o ho=>by
   rw[hCr];by_cases e1:r'=M.hr
   ·simp[e1]
   ·by_cases e2:r'=r
    ·rw[e2,hβr]at hb;simp at hb
    ·simp only[e1,e2,if_false];exact hI.core.boxc r' b o0 n hb o ho)
  (λr' o=>by
   rw[hCr];by_cases e1:r'=M.hr
   ·right;left;exact⟨by simp[e1],λk hk=>by simp[G',e1]at hk⟩
   ·rw[oIN e1];by_cases e2:r'=r
    ·subst e2;right;simp only[if_true]
     have Zm:∀k,G'.φ r' o k↔G.φ M.hr o k:=λk=>by simp[G',e1]
     rcases hI.hand_cell o with⟨a1,a2⟩|⟨a1,a2⟩
     ·simp_all
     ·right
      have hv:G'.val w r' o=xs.getD o undef:=by
       unfold Gh.val;simp only[G',hβr,if_true];exact hI.hval o (by rw[<- hI.hand];exact a1)
      rw[hv];exact(a2.frame (λ_ _=>rfl) (λ_ _ _=>rfl) (λk h _=>hF0 k h)).refp λk=>(Zm k).symm
    ·left
     exact⟨by simp[e2],λk=>by simp[G',e1,e2],by simp[G',e2]⟩)
 have hk:lz w w σ.v (σ.root r H).v (gG M σ H) (gG M (σ.root r H) []) G G':=by refine lz.root hI.core r (λ_ _=>rfl) (λq=>by rw[qZ];omega) (by rw[qZ];simp) (λr' o hne h1'=>?_) (λr' hne _=>rfl) (λr' o hne _=>by simp[G',hne]);rw[hCr];have:r'≠M.hr:=h1';simp[this,hne]
 refine⟨G',⟨⟨Yu.1,λi=>(hI.tmr i).keep hk (λ_ _ _=>rfl) (λk h _=>hF0 k h),hI.fram.ghost rfl (λk ⟨r',o,h⟩=>by obtain⟨r2,h3,_⟩:=Z9 r' o k h;exact⟨r2,o,h3⟩),λr' l h=>?_,hI.size,rfl,λj hj=>by simp at hj,λr' b o n hb l h=>?_,λi x h0 h=>(oIN (hkr i h0 (by rw[h];simp))).trans (hI.kept i x h0 h),hI.gn.keep hk (λ_ _ _=>rfl) (λk h _=>hF0 k h)⟩,hF0,hk,rfl⟩,rfl,λj hj=>by simp[G',hI.hval j hj]⟩;rw[show(σ.root r H).ce=iW σ.ce r H from rfl,gS]at h;split at h;rename_i e1;rw[<- e1];exact h1;exact hI.keys r' l h;rw[show(σ.root r H).ce=iW σ.ce r H from rfl,gS]at h;split at h;rename_i e1;have Zh:G.β r'=some (b,o,n):=hb;rw[<- e1,hβr]at Zh;simp at Zh;exact hI.shape r' b o n hb l h
theorem Inv.wrT(hI:Inv M σ H xs ts w G){d:Nat}(hd:M.ok d){t:TV}{x:Value}(h:TmR w (G.F M.A) σ.v (gG M σ H) G t x):Inv M { σ with tm:=iW σ.tm d t } H xs (ts.setIfInBounds d x) w G:=by
 refine⟨hI.core,λi=>?_,hI.fram,hI.keys,by simpa using hI.size,hI.hand,hI.hval,hI.shape,hI.kept,hI.gn⟩;have e:St.t { σ with tm:=iW σ.tm d t } i=if d=i then t else σ.t i:=by unfold St.t;simp[gS];grind
 rw[e];have e2:(ts.setIfInBounds d x).getD i undef=if d=i then x else ts.getD i undef:=by by_cases hdi:d=i;subst hdi;simp[hI.size,hd.1];simp[hdi]
 rw[e2];by_cases hdi:d=i;simp[hdi];exact h;simp only[hdi];exact hI.tmr i
theorem Inv.clear(hI:Inv M σ H xs ts w G)(hd:∀j (h:j<H.length),H[j]=.dead):Inv M σ [] [] ts w G:=by
 have e:gG M σ []=gG M σ H:=by funext r o;unfold gG;split;by_cases ho:o<H.length;simp_all;simp[ho];rfl
 exact⟨by rw[e];exact hI.core,λi=>by rw[e];exact hI.tmr i,hI.fram,hI.keys,hI.size,rfl,λj hj=>by simp_all,hI.shape,hI.kept,by unfold Gn;rw[e];exact hI.gn⟩
theorem Inv.grow(hI:Inv M σ H xs ts w G){w':World}(hw:∀k,k<w.heap.size->w'.heap[k]?=w.heap[k]?)(hs:w.heap.size<=w'.heap.size)(ho:w'.os=w.os)(ht:w'.tape=w.tape)(hu:w'.output=w.output):Inv M σ H xs ts w' G/\nZ M w σ H G w' σ H G:=by have hk:=lz.grow (V:=σ.v) hI.core hw;have hF:=hI.fram;refine⟨⟨(hI.core.grow hw).1,λi=>(hI.tmr i).keep hk (λk _ h=>hw k h) (λ_ h _=>h),⟨ho.trans hF.os,ht.trans hF.tape,hu.trans hF.output,Nat.le_trans hF.size hs,λk a1 a2 a3=>by rw[hw k (Nat.lt_of_lt_of_le a1 hF.size)];exact hF.old k a1 a2 a3,λr b o n hp=>?_,hF.own,hF.box,hF.even⟩,hI.keys,hI.size,hI.hand,hI.hval,hI.shape,hI.kept,hI.gn.keep hk (λk _ h=>hw k h) (λ_ h _=>h)⟩,⟨hs,hk,λk _ h=>hw k h,λ_ h _=>h⟩⟩;have ⟨a1,cur0,cur,e',fz,a2,a3,a4⟩:=hF.par r b o n hp;exact⟨a1,cur0,cur,e',fz,a2,by rw[hw b (hI.core.boxlt a1)];exact a3,a4⟩
theorem Inv.drop(hI:Inv M σ H xs ts w G):∃G',qd M w ts σ H G σ [] [] G'/\G'.β=G.β:=by
 let G':Gh:=⟨G.β,G.η,λr' o k=>if r'=M.hr then False else G.φ r' o k⟩;have Z9:∀r' o k,G'.φ r' o k->G.φ r' o k:=by grind
 have Yu:=ol.ghost (C':=gG M σ []) (G':=G') hI.core rfl (λk ⟨r',o,h⟩=>⟨r',o,Z9 r' o k h⟩) (λr1 o1 r2 o2 k h1 h2=>hI.core.dis _ _ _ _ k (Z9 _ _ k h1) (Z9 _ _ k h2))
  (λr' b o0 n hb o ho=>by
   have:=hI.core.boxc r' b o0 n hb o ho;unfold gG at this⊢;split
   ·simp
   ·rename_i h;rw[oIN h]at this;exact this)
  (λr' o=>by
   by_cases e1:r'=M.hr
   ·right;left;exact⟨by rw[e1,qF];simp,λk hk=>by simp[G',e1]at hk⟩
   ·left;exact⟨by rw[gF e1,gF e1],λk=>by grind,rfl⟩)
 have hk:lz w w σ.v σ.v (gG M σ H) (gG M σ []) G G':=by refine⟨λ_=>oLE _,λp ad t Z8 _ h1 h2=>⟨t,oJ h1 rfl λ_=>rfl,by rw[gF (Z8)]at h2⊢;exact h2⟩,λp h c Z8 _ h1 h2=>⟨c,h1,by rw[gF (Z8)]at h2⊢;exact h2,rfl⟩⟩
 exact⟨G',⟨⟨Yu.1,λi=>(hI.tmr i).keep hk (λ_ _ _=>rfl) (λk h _=>Yu.2 k h),hI.fram.ghost rfl (λk ⟨r',o,h⟩=>⟨r',o,Z9 r' o k h⟩),hI.keys,hI.size,rfl,λj hj=>by simp_all,hI.shape,hI.kept,hI.gn.keep hk (λ_ _ _=>rfl) (λk h _=>Yu.2 k h)⟩,Yu.2,hk,rfl⟩,rfl⟩
end
section
variable {M:Fm} {σ σ':St} {H:U_} {xs:w_} {ts:s_} {w:World} {G:Gh}
theorem xF(hI:Inv M σ H xs ts w G){w':World}{H':U_}{G':Gh}(hw:∀k,k<w.heap.size->(∀j,¬G.φ M.hr j k)->w'.heap[k]?=w.heap[k]?)(hβ:G'.β=G.β)(hη:∀r o,r≠1->G'.η r o=G.η r o):lz w w' σ.v σ.v (gG M σ H) (gG M σ H') G G':=by
 have hC:∀r o,r≠1->gG M σ H' r o=gG M σ H r o:=λr o h=>by rw[gF (by exact h),gF (by exact h)]
 have hval:=λr o h=>mc (by rw[hβ]) (hη r o h) λb o n hb=>hw b (hI.core.boxlt hb) λj=>hI.core.boxf r b o n hb _ _;have hφ:∀r o,r≠1->∀k,G.φ r o k->w'.heap[k]?=w.heap[k]?:=λr o h k hk=>hw k (hI.core.live hk) λj hj=>h (hI.core.dis _ _ _ _ k hk hj).1;refine⟨λ_=>oLE _,λp ad t Z8 _ h1 h2=>?_,λp h c Z8 _ h1 h2=>?_⟩;refine⟨t,oJ h1 hβ λhp=>?_,by rw[hC _ _ Z8];exact h2⟩;have hd:gG M σ H p.root p.off≠.dead:=λhd=>by rw[hd]at h2;cases hq:p.hops<;>rw[hq]at h2 hp<;>simp[gJ]at h2 hp
 rw[hval _ _ Z8];exact tQ (hI.core.own hd) h2 (hφ _ _ Z8);refine⟨c,?_,by simp_all,rfl⟩;obtain⟨x,fpx,h6,h7,_,h8⟩:=hI.core.hv_own p h2 (by simp);rw[h1]at h6;injection h6 with h6
 subst h6;have hd:gG M σ H p.root p.off≠.dead:=λhd=>by rw[hd]at h2;cases hq:p.hops<;>rw[hq]at h2<;>simp[gJ]at h2
 cases hp:p.hops with|nil=>unfold Gh.hv at h1⊢;rw[hp]at h1⊢;rw[hval _ _ Z8];exact h1|cons b l=>obtain⟨ad2,h9,h10,h11⟩:=h8 (by rw[hp];simp);unfold Gh.hv;refine mD (ad:=ad2) ?_ ?_;rw[hval _ _ Z8,tQ (hI.core.own hd) h2 (hφ _ _ Z8)];exact h9;rw[World.cell?_of_block (w:=w) (hφ _ _ Z8 _ h11)];exact h10
theorem Inv.rehand(hI:Inv M σ H xs ts w G){w':World}{t':TV}{v':Value}{fp':Nat->Prop}(hw:∀k,k<w.heap.size->(∀j,¬G.φ M.hr j k)->w'.heap[k]?=w.heap[k]?)(hs:w.heap.size<=w'.heap.size) (ho:w'.os=w.os)(ht:w'.tape=w.tape)(hu:w'.output=w.output)(hfp:∀k,fp' k->(∃j,G.φ M.hr j k)\/w.heap.size<=k)(hown:jS w' (λk=>G.F M.A k/\k<w.heap.size) fp' t' v'):∃G',Inv M σ [t'] [v'] ts w' G'/\nZ M w σ H G w' σ [t'] G'/\G'.β=G.β:=by
 let G':Gh:=⟨G.β,λr o=>if r=M.hr then v' else G.η r o,λr o k=>if r=M.hr then(if o=0 then fp' k else False)else G.φ r o k⟩;have Z9:∀r o k,G'.φ r o k->(r=M.hr/\o=0/\fp' k)\/(r≠M.hr/\G.φ r o k):=by intro r o k hk;simp only[G']at hk;by_cases e:r=M.hr;rw[oIP e]at hk;by_cases e2:o=0;rw[oIP e2]at hk;exact .inl ⟨e,e2,hk⟩;rw[oIN e2]at hk;exact hk.elim;rw[oIN e]at hk;exact .inr ⟨e,hk⟩
 have Zg:∀k,G.F M.A k->k<w.heap.size->G'.F M.A k:=by rintro k ⟨a1,a2,a3⟩ hk;refine⟨a1,λr o h=>?_,a3⟩;rcases Z9 r o k h with⟨_,_,h1⟩|⟨_,h1⟩;rcases hfp k h1 with⟨j,h2⟩|h2;exact a2 _ _ h2;omega;exact a2 _ _ h1
 have Ym:∀k,G.F M.A k->k<w.heap.size->w'.heap[k]?=w.heap[k]?:=λk ⟨_,a2,_⟩ hk=>hw k hk λj=>a2 _ _;have hφ:∀r o,r≠M.hr->∀k,G.φ r o k->w'.heap[k]?=w.heap[k]?:=λr o h k hk=>hw k (hI.core.live hk) λj hj=>h (hI.core.dis _ _ _ _ k hk hj).1;have YC:∀r b o n,G.β r=some (b,o,n)->w'.heap[b]?=w.heap[b]?:=λr b o n hb=>hw b (hI.core.boxlt hb) λj=>hI.core.boxf r b o n hb _ _;have hk:=xF (H':=[t']) (G':=G') hI hw rfl (λr o h=>by simp[G',show r≠M.hr from h]);have hfpd:∀r o k,r≠M.hr->G.φ r o k->¬fp' k:=by intro r o k h hk hf;rcases hfp k hf with⟨j,h2⟩|h2;exact h (hI.core.dis _ _ _ _ k hk h2).1;have:=hI.core.live hk;omega
 have hF:=hI.fram;have Zk:ol M.A (gG M σ [t']) w' G':=by
  refine⟨λr o=>?_,λr b o0 n hb=>?_,λr b o0 n hb o ho=>?_,hI.core.boxd,λr b o n hb r2 o2 hk=>?_,λr1 o1 r2 o2 k h1 h2=>?_,λr o k h=>?_⟩;by_cases e:r=M.hr;subst e;by_cases e2:o=0;subst e2;right;have hv:G'.val w' M.hr 0=v':=by unfold Gh.val;simp only[G',hI.hr_none,if_true]
  rw[hv,qF];exact(hown.frame (λ_ _=>rfl) (λ_ _ _=>rfl) (λk h _=>Zg k h.1 h.2)).refp λk=>by simp[G']
  left;refine⟨by rw[qF];simp[e2],λk hk=>by simp[G',e2]at hk⟩;have hv:G'.val w' r o=G.val w r o:=mc rfl (by simp[G',e]) (YC r);have Zm:∀k,G'.φ r o k↔G.φ r o k:=λk=>by simp[G',e]
  rw[gF e,hv];have hc:=hI.core.cell r o;rw[gF e]at hc;rcases hc with⟨a1,a2⟩|a2;left;exact⟨a1,λk hk=>a2 k ((Zm k).1 hk)⟩;right;exact(a2.frame (hφ r o e) Ym Zg).refp λk=>(Zm k).symm;obtain⟨cur,e',fz,a1,a2,a3⟩:=hI.core.box r b o0 n hb;exact⟨cur,e',fz,by rw[YC r b o0 n hb];exact a1,a2,λj hj=>by rw[World.frozen?_of_block (w:=w) (YC r b o0 n hb)];exact a3 j hj⟩;have e:r≠M.hr:=λe=>by have Zh:G.β r=some (b,o0,n):=hb;rw[e,hI.hr_none]at Zh;simp at Zh
  have:=hI.core.boxc r b o0 n hb o ho;rw[gF e]at this⊢;exact this;rcases Z9 r2 o2 b hk with⟨_,_,h1⟩|⟨_,h1⟩;rcases hfp b h1 with⟨j,h2⟩|h2;exact hI.core.boxf r b o n hb _ _ h2;have:=hI.core.boxlt hb;omega;exact hI.core.boxf r b o n hb _ _ h1;rcases Z9 r1 o1 k h1 with⟨a1,a2,a3⟩|⟨a1,a2⟩;rcases Z9 r2 o2 k h2 with⟨b1,b2,b3⟩|⟨b1,b2⟩;exact⟨a1.trans b1.symm,a2.trans b2.symm⟩;exact absurd a3 (hfpd _ _ k b1 b2);rcases Z9 r2 o2 k h2 with⟨b1,b2,b3⟩|⟨b1,b2⟩;exact absurd b3 (hfpd _ _ k a1 a2);exact hI.core.dis _ _ _ _ k a2 b2;rcases Z9 r o k h with⟨a1,a2,a3⟩|⟨a1,a2⟩;rcases hfp k a3 with⟨j,h2⟩|h2;exact hI.core.allow _ _ k h2;exact M.hA k (Nat.le_trans hF.size h2);exact hI.core.allow _ _ k a2
 refine⟨G',⟨Zk,λi=>(hI.tmr i).keep hk Ym Zg,?_,hI.keys,hI.size,rfl,λj hj=>?_,hI.shape,λi x h0 h=>by simp only[G',oIN (show ¬ 2*i+3=M.hr from λe=>M.odd_ne i (p:=True) ⟨e,trivial⟩)];exact hI.kept i x h0 h,hI.gn.keep hk Ym Zg⟩,⟨hs,hk,Ym,Zg⟩,rfl⟩;refine⟨ho.trans hF.os,ht.trans hF.tape,hu.trans hF.output,Nat.le_trans hF.size hs,λk a1 a2 a3=>?_,λr b o n hp=>?_,λr o k h=>?_,hF.box,hF.even⟩;rw[hw k (Nat.lt_of_lt_of_le a1 hF.size) λj hj=>?_];exact hF.old k a1 a2 a3;rcases hF.own _ _ k hj with h|h;exact a2 h;omega;obtain⟨a1,cur0,cur,e',fz,a2,a3,a4⟩:=hF.par r b o n hp;exact⟨a1,cur0,cur,e',fz,a2,by rw[YC r b o n a1];exact a3,a4⟩;rcases Z9 r o k h with⟨a1,a2,a3⟩|⟨a1,a2⟩;rcases hfp k a3 with⟨j,h2⟩|h2;exact hF.own _ _ k h2;exact .inr (Nat.le_trans hF.size h2);exact hF.own _ _ k a2;obtain rfl:j=0:=by simp at hj;omega
 simp[G']
theorem xw{α:Type}{c:List (List α)}{sz:Nat}(hs:∀i (h:i<c.length),c[i].length=sz){i j:Nat}(hi:i<c.length)(hj:j<c[i].length):c.flatten[i*sz+j]?=some c[i][j]:=by induction c generalizing i with|nil=>simp at hi|cons a c ih=>have ha:a.length=sz:=hs 0 (by simp);rw[List.flatten_cons];cases i with|zero=>simp at hj⊢;rw[oAL hj,oGE hj]|succ i=>rw[oAR (by rw[ha,Nat.succ_mul];omega),ha,show(i+1)*sz+j-sz=i*sz+j by rw[Nat.succ_mul];omega];exact ih (λi h=>hs (i+1) (by simp_all)) (by simpa using hi) hj
theorem CM{α:Type}{c:List (List α)}{sz:Nat}(hs:∀i (h:i<c.length),c[i].length=sz):c.flatten.length=c.length*sz:=by induction c with|nil=>simp|cons a c ih=>rw[List.flatten_cons,oLA,ih (λi h=>hs (i+1) (by simp_all)),show a.length=sz from hs 0 (by simp)];simp[Nat.succ_mul,Nat.add_comm]
theorem Inv.mkSlice(hI:Inv M σ H xs ts w G){c:o_}{sz:Nat}(e:TypeId)(hs:∀i (h:i<c.length),c[i].length=sz)(hc:c.flatten=H)(Zq:∀j (h:j<H.length),H[j]≠.dead)(hmax:c.length<=maxLen):∃G',Inv M σ [.ow c] [.slice (some ⟨w.heap.size,0,none⟩) c.length c.length] ts (w.alloc (.cells xs.toArray e)) G'/\nZ M w σ H G (w.alloc (.cells xs.toArray e)) σ [.ow c] G'/\G'.β=G.β:=by
 have hw:∀k,k<w.heap.size->(w.alloc (.cells xs.toArray e)).heap[k]?=w.heap[k]?:=λk hk=>Below.heap_alloc w _ k hk;have Zp:(w.alloc (.cells xs.toArray e)).heap[w.heap.size]?=some (.cells xs.toArray e (0,0)):=by show(w.heap.push _)[w.heap.size]?=_;simp
 have hlen:H.length=c.length*sz:=by rw[<- hc];exact CM hs
 have XX:∀i j,i<c.length->j<sz->i*sz+j<H.length:=by
  intro i j hi hj;rw[hlen];calc i*sz+j<i*sz+sz:=by omega
   _=(i+1)*sz:=by rw[Nat.succ_mul]
   _<=c.length*sz:=Nat.mul_le_mul_right _ hi
 refine hI.rehand (fp':=λk=>k=w.heap.size\/∃i j,i<c.length/\j<sz/\(i<c.length/\j<sz/\G.φ M.hr (i*sz+j) k)) (λk hk _=>hw k hk) (by simp) rfl rfl rfl (λk hk=>?_) ?_;rcases hk with rfl|⟨i,j,_,_,_,_,h⟩;omega;exact .inl ⟨_,h⟩;refine .ow sz (λi j=>xs.getD (i*sz+j) undef) (λi j k=>i<c.length/\j<sz/\G.φ M.hr (i*sz+j) k) (λk=>Iff.rfl) Zp hs (oLE _) id hmax (by simp[<- hI.hand,hlen]) (λi j hi hj=>?_) (λi j hi hj=>?_) (λi j h=>?_) (λi j i' j' k h h'=>?_);have hlt:=XX i j hi hj;have hlt':i*sz+j<xs.length:=by rw[<- hI.hand];exact hlt
 simp[hlt'];have ZR:j<sz:=by rw[<- hs i hi];exact hj
 have hlt:=XX i j hi ZR;have hg:=xw hs hi hj;rw[hc,oGE hlt]at hg;injection hg with hg
 rw[<- hg];exact((hI.hand_own hlt (Zq _ hlt)).frame (λk hk=>hw k ((hI.hand_own hlt (Zq _ hlt)).live k hk)) (λk _ hk=>hw k hk) (λk h hk=>⟨h,hk⟩)).refp λk=>⟨λh=>⟨hi,ZR,h⟩,λh=>h.2.2⟩;have:=hI.core.live h.2.2;omega;have:=(hI.core.dis _ _ _ _ k h.2.2 h'.2.2).2;exact PW h.2.1 h'.2.1 this
end
section
variable {w:World} {F:Nat->Prop}
theorem jS.rows{fp:Nat->Prop}{t:TV}{v:Value}{c:o_}{sz:Nat}(h:jS w F fp t v)(ht:t=.ow c\/t=.sl c)(hs:∀i (h:i<c.length),c[i].length=sz):∃(a:t_)(cap:Nat)(vals:w_)(f:Nat->Nat->Nat->Prop),v=.slice a c.length cap/\vals.length=c.length*sz/\(∀j u,vals[j]?=some u->∃b o,a=some ⟨b,o,none⟩/\w.cell? ⟨b,o+j,none⟩=some u)/\(∀i j (hi:i<c.length)(hj:j<c[i].length),jS w F (f i j) c[i][j] (vals.getD (i*sz+j) undef))/\(∀i j k,f i j k->i<c.length/\j<sz/\fp k)/\(∀i j i' j' k,f i j k->f i' j' k->i=i'/\j=j')/\(∀u∈vals,u.oneCell'=true)/\(∀i j b o,a=some ⟨b,o,none⟩->t=.ow c->¬f i j b):=by
 have mk:∀(u:Nat->Nat->Value)(f:Nat->Nat->Nat->Prop),(∀i j (hi:i<c.length)(hj:j<c[i].length),jS w F (f i j) c[i][j] (u i j))->∃vals:w_,vals.length=c.length*sz/\(∀i j,i<c.length->j<sz->vals[i*sz+j]?=some (u i j))/\(∀k x,vals[k]?=some x->∃i j,i<c.length/\j<sz/\k=i*sz+j/\x=u i j)/\(∀x∈vals,x.oneCell'=true):=by
  intro u f hr;have h0:∀k,k<c.length*sz->0<sz:=λk hk=>by rcases Nat.eq_zero_or_pos sz with h|h;rw[h]at hk;simp at hk;exact h
  have hdiv:∀k,k<c.length*sz->k/sz<c.length:=λk hk=>Nat.div_lt_of_lt_mul (by rw[Nat.mul_comm];exact hk);have zl:∀k,k<c.length*sz->k%sz<sz:=λk hk=>Nat.mod_lt _ (h0 k hk);refine⟨(List.range (c.length*sz)).map λk=>u (k/sz) (k%sz),by simp,λi j hi hj=>?_,λk x hk=>?_,λx hx=>?_⟩;have hlt:i*sz+j<c.length*sz:=by
   calc i*sz+j<i*sz+sz:=by omega
    _=(i+1)*sz:=by rw[Nat.succ_mul]
    _<=c.length*sz:=Nat.mul_le_mul_right _ hi
  have e1:(i*sz+j)/sz=i:=by rw[Nat.mul_comm,Nat.mul_add_div (by omega)];simp[Nat.div_eq_of_lt hj]
  have e2:(i*sz+j)%sz=j:=by rw[Nat.mul_comm,Nat.mul_add_mod];exact Nat.mod_eq_of_lt hj
  simp[List.getElem?_range hlt,e1,e2];rw[oGP]at hk;rcases Nat.lt_or_ge k (c.length*sz)with h|h;rw[List.getElem?_range h]at hk;simp at hk;exact⟨k/sz,k%sz,hdiv k h,zl k h,by rw[Nat.mul_comm];exact(Nat.div_add_mod k sz).symm,hk.symm⟩;rw[oGN (by simpa using h)]at hk;simp at hk;obtain⟨k,hk,rfl⟩:=List.mem_map.1 hx;have hk:=List.mem_range.1 hk;exact(hr _ _ (hdiv k hk) (by rw[hs _ (hdiv k hk)];exact zl k hk)).one
 rcases ht with rfl|rfl;cases h with
 | @nil _ ad hfp=>exact⟨ad,0,[],λ_ _ _=>False,rfl,by simp,by simp,by simp,by simp,by simp,by simp,by simp⟩| @ow _ _ b cap cur e sz' u f hfp hb hsz hcap hz0 hmax hcur hcell hrec hnb hdis=>
  obtain⟨vals,v1,v2,v3,v4⟩:=mk u f hrec;refine⟨some ⟨b,0,none⟩,cap,vals,λi j k=>i<c.length/\j<sz/\f i j k,rfl,v1,λk x hk=>?_,λi j hi hj=>?_,λi j k hk=>?_,λi j i' j' k h h'=>hdis _ _ _ _ k h.2.2 h'.2.2,v4,λi j b' o e _ h=>by injection e with e;injection e with e;subst e;exact hnb i j h.2.2⟩;obtain⟨i,j,hi,hj,rfl,rfl⟩:=v3 k x hk;have e1:sz'=sz:=by rw[<- hsz i hi,hs i hi]
  subst e1;refine⟨b,0,rfl,?_⟩;rw[cell_of_row w b _ _ _ _ hb,Nat.zero_add];exact hcell i j hi hj;have ZR:j<sz:=by rw[<- hs i hi];exact hj
  have:vals.getD (i*sz+j) undef=u i j:=by rw[oGD,v2 i j hi ZR];rfl
  rw[this];exact(hrec i j hi hj).refp λk=>⟨λh=>⟨hi,ZR,h⟩,λh=>h.2.2⟩;refine⟨hk.1,hk.2.1,(hfp k).2 (.inr ⟨i,j,hk.1,?_,hk.2.2⟩)⟩;rw[<- hsz i hk.1,hs i hk.1];exact hk.2.1
 cases h with
 |sl hfp h=>
 cases h with
 | @sl _ a cap sz' u hsz hcap hmax hnil hcell hrec=>
 obtain⟨vals,v1,v2,v3,v4⟩:=mk u (λ_ _ _=>False) (λi j hi hj=>(hrec i j hi hj).toOwn);refine⟨a,cap,vals,λ_ _ _=>False,rfl,v1,λk x hk=>?_,λi j hi hj=>?_,λi j k hk=>hk.elim,λi j i' j' k h _=>h.elim,v4,λi j b o _ _ h=>h.elim⟩;obtain⟨i,j,hi,hj,rfl,rfl⟩:=v3 k x hk;have e1:sz'=sz:=by rw[<- hsz i hi,hs i hi]
 subst e1;have ⟨b,o,e,_,hc⟩:=hcell i j hi hj;exact⟨b,o,e,hc⟩;have ZR:j<sz:=by rw[<- hs i hi];exact hj
 have:vals.getD (i*sz+j) undef=u i j:=by rw[oGD,v2 i j hi ZR];rfl
 rw[this];exact(hrec i j hi hj).toOwn
theorem jS.build{c:o_}{b cap:Nat}{cur:s_}{e:TypeId}{sz:Nat}{vals:w_}{f:Nat->Nat->Nat->Prop}(hb:w.heap[b]?=some (.cells cur e (0,0))) (hs:∀i (h:i<c.length),c[i].length=sz)(hcap:c.length<=cap)(hz0:c.length=0->cap=0)(hmax:cap<=maxLen)(hcur:cur.size=cap*sz)(hv:vals.length=c.length*sz)(htake:cur.toList.take (c.length*sz)=vals) (hrec:∀i j (hi:i<c.length)(hj:j<c[i].length),jS w F (f i j) c[i][j] (vals.getD (i*sz+j) undef))(hnb:∀i j,¬f i j b)(hdis:∀i j i' j' k,f i j k->f i' j' k->i=i'/\j=j'):jS w F (λk=>k=b\/∃i j,i<c.length/\j<sz/\f i j k) (.ow c) (.slice (some ⟨b,0,none⟩) c.length cap):=by
 refine .ow sz (λi j=>vals.getD (i*sz+j) undef) f (λk=>Iff.rfl) hb hs hcap hz0 hmax hcur (λi j hi hj=>?_) hrec hnb hdis;have hlt:i*sz+j<c.length*sz:=by
  calc i*sz+j<i*sz+sz:=by omega
   _=(i+1)*sz:=by rw[Nat.succ_mul]
   _<=c.length*sz:=Nat.mul_le_mul_right _ hi
 have e1:vals[i*sz+j]?=cur.toList[i*sz+j]?:=by rw[<- htake,List.getElem?_take_of_lt hlt]
 have hlt2:i*sz+j<vals.length:=by omega
 rw[oGD,oGE hlt2,Option.getD_some,<- oGE hlt2,e1];simp
end
theorem A6{P:Program}(w:World)(t ty e e':TypeId)(i:TypeInfo)(ht:P.underlying t=some (.slice e))(hi:P.info? e=some i) (g QA sCap:Nat)(cur:s_)(hg:w.heap[g]?=some (.cells cur e' (0,0))) (a:Addr)(m c:Nat)(news:w_)(hl:news.length=m*i.size)(hnews:∀j u,news[j]?=some u->w.cell? (a.add j)=some u)(h1:∀u∈news,u.oneCell'=true) (hroom:QA+m<=sCap)(Z4:QA*i.size+news.length<=cur.size):(Builtin.append_ #[t,t] ty #[.slice (some ⟨g,0,none⟩) QA sCap,.slice (some a) m c]).run P w =.ok (.slice (some ⟨g,0,none⟩) (QA+m) sCap) (w.setRow g (cur.toList.take (QA*i.size)++news++cur.toList.drop (QA*i.size+news.length)).toArray):=by have hf:=run_firstCells_some (P:=P) w i.size m a m c news hl hnews;have hst:=run_storeCells_at P g (QA*i.size) e' news 0 cur w hg (by omega) h1;simp[Builtin.append_,run_underlying ht,sizeOf,typeInfo,hi,Builtin.lenOf,hroom,hf,Addr.add_lit,hst]
theorem B3{P:Program}(w:World)(t ty e:TypeId)(i:TypeInfo)(ht:P.underlying t=some (.slice e))(hi:P.info? e=some i) (s:t_)(n cap:Nat)(hn:n<=cap)(a:t_)(c:Nat):(Builtin.append_ #[t,t] ty #[.slice s n cap,.slice a 0 c]).run P w=.ok (.slice s n cap) w:=by cases s<;>cases a<;>simp[Builtin.append_,run_underlying ht,sizeOf,typeInfo,hi,Builtin.lenOf,hn,Builtin.firstCells,loadCells,loadCellsFrom,storeCells]
section
variable {M:Fm} {σ σ':St} {H:U_} {xs:w_} {ts:s_} {w:World} {G:Gh}
theorem je(b o j:Nat):(⟨b,o,none⟩:Addr).add j=⟨b,o+j,none⟩:=by unfold Addr.add;split;simp_all;rfl
theorem P3{c c2:o_}{i j:Nat}(hi:i<(c++c2).length)(hj:j<(c++c2)[i].length):(∃(h:i<c.length)(h':j<c[i].length),(c++c2)[i][j]=c[i][j])\/(¬i<c.length/\∃(h:i-c.length<c2.length)(h':j<c2[i-c.length].length),(c++c2)[i][j]=c2[i-c.length][j]):=by
 by_cases h:i<c.length;left;refine⟨h,by simp_all,?_⟩;simp_all;right;have hlt:i-c.length<c2.length:=by rw[oLA]at hi;omega
 have e:(c++c2)[i]=c2[i-c.length]:=by simp_all
 refine⟨h,hlt,by simp_all,?_⟩;simp_all
structure Src (w:World)(F:Nat->Prop)(A:Nat->Prop)(c2:o_)(sz:Nat)(aX:t_)(news:w_)(g:Nat->Nat->Nat->Prop):Prop where
 nl:news.length=c2.length*sz
 nr:∀j u,news[j]?=some u->∃b o,aX=some ⟨b,o,none⟩/\w.cell? ⟨b,o+j,none⟩=some u
 rec_:∀i j (hi:i<c2.length)(hj:j<c2[i].length),jS w F (g i j) c2[i][j] (news.getD (i*sz+j) undef)
 fp:∀i j k,g i j k->i<c2.length/\j<sz/\A k
 dis:∀i j i' j' k,g i j k->g i' j' k->i=i'/\j=j'
 one:∀u∈news,u.oneCell'=true
structure Xl (w:World)(F:Nat->Prop)(A:Nat->Prop)(c2:o_)(sz:Nat)(news:w_)(g:Nat->Nat->Nat->Prop):Prop where
 nl:news.length=c2.length*sz
 rec_:∀i j (hi:i<c2.length)(hj:j<c2[i].length),jS w F (g i j) c2[i][j] (news.getD (i*sz+j) undef)
 fp:∀i j k,g i j k->i<c2.length/\j<sz/\A k
 dis:∀i j i' j' k,g i j k->g i' j' k->i=i'/\j=j'
 one:∀u∈news,u.oneCell'=true
theorem Inv.append1{P:Program}(hI:Inv M σ H xs ts w G){c c2:o_}{vS:Value}{news:w_}{g:Nat->Nat->Nat->Prop}(e:TypeId)(i:TypeInfo)(z:Value)(prog:Sem Value)
 (Y6:jS w (G.F M.A) (G.φ M.hr 0) (.ow c) vS)(hX:Xl w (G.F M.A) (G.φ M.hr 1) c2 i.size news g)(hzs:z.cells.size=i.size)
 (hs1:∀k (h:k<c.length),c[k].length=i.size)(YY:∀k (h:k<c2.length),c2[k].length=i.size)(ZM:c.length+c2.length<=1099511627776)
 (r0:c2.length=0->∀a cap,c.length<=cap->vS=.slice a c.length cap->prog.run P w=.ok (.slice a c.length cap) w)
 (r1:0<c2.length->∀b cap cur e',vS=.slice (some ⟨b,0,none⟩) c.length cap->w.heap[b]?=some (.cells cur e' (0,0))->c.length+c2.length<=cap->c.length*i.size+news.length<=cur.size ->
  prog.run P w=.ok (.slice (some ⟨b,0,none⟩) (c.length+c2.length) cap) (w.setRow b (cur.toList.take (c.length*i.size)++news++cur.toList.drop (c.length*i.size+news.length)).toArray))
 (r2:0<c2.length->∀a cap (vals:w_),vS=.slice (some a) c.length cap->vals.length=c.length*i.size->(∀j u,vals[j]?=some u->w.cell? (a.add j)=some u)->cap<c.length+c2.length ->
  prog.run P w=.ok (.slice (some ⟨w.heap.size,0,none⟩) (c.length+c2.length) (grownCap w (c.length+c2.length) cap e)) (w.drew.alloc (.cells (vals.toArray++news.toArray++Builtin.zeroCells z.cells (grownCap w (c.length+c2.length) cap e-(c.length+c2.length))) e)))
 (r3:0<c2.length->vS=.slice none 0 0->prog.run P w=.ok (.slice (some ⟨w.heap.size,0,none⟩) c2.length (grownCap w c2.length 0 e)) (w.drew.alloc (.cells (news.toArray++Builtin.zeroCells z.cells (grownCap w c2.length 0 e-c2.length)) e))):
 ∃v' w' G',prog.run P w=.ok v' w'/\Inv M σ [.ow (c++c2)] [v'] ts w' G'/\nZ M w σ H G w' σ [.ow (c++c2)] G'/\G'.β=G.β:=by
 obtain⟨XL,YX,YN,X6,hn1⟩:=hX
 have hmx:c.length+c2.length<=maxLen:=by unfold maxLen;omega
 have h01:∀k,G.φ M.hr 0 k->¬G.φ M.hr 1 k:=λk h h'=>by have:=(hI.core.dis _ _ _ _ k h h').2;omega
 by_cases hm:c2.length=0
 ·have ZL:c2=[]:=oEN hm;subst ZL;obtain⟨a,cap,rfl,hn⟩:=Y6.hdr
  obtain⟨G',h1,h2,h3⟩:=hI.rehand (w':=w) (t':=.ow c) (v':=.slice a c.length cap) (fp':=G.φ M.hr 0) (λ_ _ _=>rfl) (oLE _) rfl rfl rfl (λk hk=>.inl ⟨0,hk⟩)
   (Y6.frame (λ_ _=>rfl) (λ_ _ _=>rfl) λk h hk=>⟨h,hk⟩)
  exact⟨_,w,G',r0 (by rfl) a cap hn rfl,by simpa using h1,by simpa using h2,h3⟩
 ·
  have hszall:∀k (h:k<(c++c2).length),(c++c2)[k].length=i.size:=by
   intro k h;by_cases hk:k<c.length
   ·rw[List.getElem_append_left hk];exact hs1 k hk
   ·rw[List.getElem_append_right (by omega)];exact YY _ _
  have hla:(c++c2).length=c.length+c2.length:=oLA
  have newRow:∀(vals:w_)(f:Nat->Nat->Nat->Prop)(ZS:Nat)(rest:s_),vals.length=c.length*i.size->c.length+c2.length<=ZS->ZS<=maxLen->rest.size=(ZS-(c.length+c2.length))*i.size ->
   (∀k j (hk:k<c.length)(hj:j<c[k].length),jS w (G.F M.A) (f k j) c[k][j] (vals.getD (k*i.size+j) undef))->(∀k j q,f k j q->k<c.length/\j<i.size/\G.φ M.hr 0 q)->(∀a b a' b' k,f a b k->f a' b' k->a=a'/\b=b')->
   ∃G',Inv M σ [.ow (c++c2)] [.slice (some ⟨w.heap.size,0,none⟩) (c.length+c2.length) ZS] ts (w.drew.alloc (.cells (vals.toArray++news.toArray++rest) e)) G' /\
    nZ M w σ H G (w.drew.alloc (.cells (vals.toArray++news.toArray++rest) e)) σ [.ow (c++c2)] G'/\G'.β=G.β:=by
   intro vals f ZS rest YZ hcap' hmax' ZU hfrec hffp hfdis;have hw:∀k,k<w.heap.size->(w.drew.alloc (.cells (vals.toArray++news.toArray++rest) e)).heap[k]?=w.heap[k]?:=λk hk=>Below.heap_alloc w.drew _ k hk
   have Zp:(w.drew.alloc (.cells (vals.toArray++news.toArray++rest) e)).heap[w.heap.size]?=some (.cells (vals.toArray++news.toArray++rest) e (0,0)):=by
    show(w.heap.push _)[w.heap.size]?=_;simp
   have hvn:(vals++news).length=(c++c2).length*i.size:=by rw[oLA,YZ,XL,hla,Nat.add_mul]
   refine hI.rehand (λk hk _=>hw k hk) (by simp) rfl rfl rfl (λk hk=>?_) (hla▸jS.build (vals:=vals++news) (f:=λa b k=>if a<c.length then f a b k else g (a-c.length) b k) Zp hszall (by rw[hla];exact hcap') (by rw[hla];omega) hmax' ?_ hvn ?_ ?_ ?_ ?_)
   ·rcases hk with rfl|⟨a,b,_,_,hk⟩
    ·exact .inr (oLE _)
    ·left;split at hk
     ·exact⟨0,(hffp _ _ k hk).2.2⟩
     ·exact⟨1,(YN _ _ k hk).2.2⟩
   ·simp only[Array.size_append,List.size_toArray,YZ,XL,ZU,<- Nat.add_mul];congr 1;omega
   ·rw[<- hvn];simp only[Array.toList_append,List.append_assoc];rw[<- List.append_assoc];exact List.take_left
   ·intro a b ha hb
    rcases P3 ha hb with⟨h,h',e1⟩|⟨h,h2,h',e1⟩
    ·rw[e1];simp only[oIP h]
     have e2:(vals++news).getD (a*i.size+b) undef=vals.getD (a*i.size+b) undef:=by
      have hlt:a*i.size+b<vals.length:=by
       rw[YZ];have:=hs1 a h
       calc a*i.size+b<a*i.size+i.size:=by omega
        _=(a+1)*i.size:=by rw[Nat.succ_mul]
        _<=c.length*i.size:=Nat.mul_le_mul_right _ h
      simp only[oGD,oAL hlt]
     rw[e2];exact(hfrec a b h h').frame (λk hk=>hw k (hI.core.live (hffp _ _ k hk).2.2)) (λk _ hk=>hw k hk) (λk hF hk=>⟨hF,hk⟩)
    ·rw[e1];simp only[oIN h]
     have e2:(vals++news).getD (a*i.size+b) undef=news.getD ((a-c.length)*i.size+b) undef:=by
      have e3:(a-c.length)*i.size+b=a*i.size+b-c.length*i.size:=by
       rw[Nat.sub_mul];have:c.length*i.size<=a*i.size:=Nat.mul_le_mul_right _ (by omega);omega
      have hge:vals.length<=a*i.size+b:=by
       rw[YZ];have:c.length*i.size<=a*i.size:=Nat.mul_le_mul_right _ (by omega);omega
      simp only[oGD,oAR hge,YZ,e3]
     rw[e2];exact(YX _ b h2 h').frame (λk hk=>hw k (hI.core.live (YN _ _ k hk).2.2)) (λk _ hk=>hw k hk) (λk hF hk=>⟨hF,hk⟩)
   ·intro a b hk;split at hk
    ·have:=hI.core.live (hffp _ _ _ hk).2.2;omega
    ·have:=hI.core.live (YN _ _ _ hk).2.2;omega
   ·intro a b a' b' k h h';split at h<;>split at h'
    ·exact hfdis _ _ _ _ k h h'
    ·exact absurd (YN _ _ k h').2.2 (h01 k (hffp _ _ k h).2.2)
    ·exact absurd (YN _ _ k h).2.2 (h01 k (hffp _ _ k h').2.2)
    ·have:=X6 _ _ _ _ k h h';omega
  cases Y6 with
  | @nil _ ad hfp=>
   cases ad with
   |some ad=>
    have hr:=r2 (by omega) ad 0 [] rfl (by simp) (by simp) (by simp;omega);have hge:=grownCap_ge w (0+c2.length) 0 e;have hcm:=grownCap_le_maxLen w (0+c2.length) 0 e (by simpa using hmx);obtain⟨G',h1,h2,h3⟩:=newRow [] (λ_ _ _=>False) (grownCap w (0+c2.length) 0 e) (Builtin.zeroCells z.cells (grownCap w (0+c2.length) 0 e-(0+c2.length))) (by simp) (by simpa using hge) hcm (by simp[size_zeroCells,hzs]) (by simp) (by simp) (by simp);simp only[oLN]at hr;exact⟨_,_,G',hr,h1,h2,h3⟩
   |none=>
    have hr:=r3 (by omega) rfl;have hge:=grownCap_ge w c2.length 0 e;have hcm:=grownCap_le_maxLen w c2.length 0 e (by simpa using hmx);obtain⟨G',h1,h2,h3⟩:=newRow [] (λ_ _ _=>False) (grownCap w c2.length 0 e) (Builtin.zeroCells z.cells (grownCap w c2.length 0 e-c2.length)) (by simp) (by simpa using hge) hcm (by simp[size_zeroCells,hzs]) (by simp) (by simp) (by simp);simp only[oLN,Nat.zero_add,Array.empty_append]at h1 h2;exact⟨_,_,G',hr,by simpa using h1,by simpa using h2,h3⟩
  | @ow _ _ b cap cur e' sz u f hfp hb hsz hcap hz0 hmax hcur hcell hrec hnb hdis=>
   have hOW:jS w (G.F M.A) (G.φ M.hr 0) (.ow c) (.slice (some ⟨b,0,none⟩) c.length cap):=.ow sz u f hfp hb hsz hcap hz0 hmax hcur hcell hrec hnb hdis;by_cases hroom:c.length+c2.length<=cap
   ·
    have ds:c.length≠0:=λh=>by have:=hz0 h;omega
    have hsz':sz=i.size:=by rw[<- hsz 0 (by omega),hs1 0 (by omega)]
    subst hsz';obtain⟨a',cap2,vals,f',e1,YZ,hvr,hvrec,hvfp,hvdis,hv1,hvnb0⟩:=hOW.rows (.inl rfl) hs1
    injection e1 with e1 _ e2
    subst e1;subst e2;have hvnb:∀i j,¬f' i j b:=λi j=>hvnb0 i j b 0 rfl rfl
    have Z4:c.length*i.size+news.length<=cur.size:=by rw[XL,hcur,<- Nat.add_mul];exact Nat.mul_le_mul_right _ hroom
    have hr:=r1 (by omega) b cap cur e' rfl hb hroom Z4
    have X':cur.toList.take (c.length*i.size)=vals:=by
     apply oEG;intro k;by_cases hk:k<c.length*i.size
     ·rw[List.getElem?_take_of_lt hk]
      have Yq:k<vals.length:=by omega
      obtain⟨b',o',e3,e4⟩:=hvr k _ (oGE Yq)
      injection e3 with e3;injection e3 with e3 e5;subst e3;subst e5
      rw[cell_of_row w b _ _ _ _ hb,Nat.zero_add]at e4;rw[oGE Yq,<- e4];simp
     ·rw[oGN (by simp;omega),oGN (by omega)]
    have hw:∀k,k≠b->(w.setRow b (cur.toList.take (c.length*i.size)++news++cur.toList.drop (c.length*i.size+news.length)).toArray).heap[k]?=w.heap[k]?:=λk hk=>setRow_other w b k _ hk;have hbφ:G.φ M.hr 0 b:=(hfp b).2 (.inl rfl);have Zp:=setRow_heap w b cur (cur.toList.take (c.length*i.size)++news++cur.toList.drop (c.length*i.size+news.length)).toArray e' (0,0) hb
    have hvn:(vals++news).length=(c++c2).length*i.size:=by rw[oLA,YZ,XL,hla,Nat.add_mul]
    refine Exists.elim (?_:∃G',Inv M σ [.ow (c++c2)] [.slice (some ⟨b,0,none⟩) (c++c2).length cap] ts (w.setRow b (cur.toList.take (c.length*i.size)++news++cur.toList.drop (c.length*i.size+news.length)).toArray) G' /\
     nZ M w σ H G (w.setRow b (cur.toList.take (c.length*i.size)++news++cur.toList.drop (c.length*i.size+news.length)).toArray) σ [.ow (c++c2)] G'/\G'.β=G.β) λG' ⟨h1,h2,h3⟩=>⟨_,_,G',by rw[hla]at h1;rw[show(Value.slice (some ⟨b,0,none⟩) (c.length+c2.length) cap)=_ from rfl]at h1;exact hr,by simpa[hla]using h1,h2,h3⟩
    refine hI.rehand (t':=.ow (c++c2)) (v':=.slice (some ⟨b,0,none⟩) (c++c2).length cap) (w':=w.setRow b (cur.toList.take (c.length*i.size)++news++cur.toList.drop (c.length*i.size+news.length)).toArray)
     (λk _ hk=>hw k λe=>hk 0 (e▸hbφ)) (by simp) rfl rfl rfl (λk hk=>?_) (jS.build (vals:=vals++news) (f:=λa b k=>if a<c.length then f' a b k else g (a-c.length) b k) Zp hszall (by rw[hla];exact hroom) (by rw[hla];omega) hmax ?_ hvn ?_ ?_ ?_ ?_)
    ·rcases hk with rfl|⟨a,d,_,_,hk⟩
     ·exact .inl ⟨0,hbφ⟩
     ·left;split at hk
      ·exact⟨0,(hvfp _ _ k hk).2.2⟩
      ·exact⟨1,(YN _ _ k hk).2.2⟩
    ·simp only[List.size_toArray,oLA,oLT,List.length_drop,Array.length_toList];omega
    ·rw[<- hvn,X'];exact List.take_left
    ·intro a d ha hd
     rcases P3 ha hd with⟨h,h',e1⟩|⟨h,h2,h',e1⟩
     ·rw[e1];simp only[oIP h]
      have e2:(vals++news).getD (a*i.size+d) undef=vals.getD (a*i.size+d) undef:=by
       have hlt:a*i.size+d<vals.length:=by
        rw[YZ];have:=hs1 a h
        calc a*i.size+d<a*i.size+i.size:=by omega
         _=(a+1)*i.size:=by rw[Nat.succ_mul]
         _<=c.length*i.size:=Nat.mul_le_mul_right _ h
       simp only[oGD,oAL hlt]
      rw[e2];refine(hvrec a d h h').frame (λk hk=>hw k λe=>?_) (λk hF _=>hw k λe=>hF.2.1 _ _ (e▸hbφ)) (λk hF hk=>⟨hF,hk⟩);exact hvnb _ _ (e▸hk)
     ·rw[e1];simp only[oIN h]
      have e2:(vals++news).getD (a*i.size+d) undef=news.getD ((a-c.length)*i.size+d) undef:=by
       have e3:(a-c.length)*i.size+d=a*i.size+d-c.length*i.size:=by
        rw[Nat.sub_mul];have:c.length*i.size<=a*i.size:=Nat.mul_le_mul_right _ (by omega);omega
       have hge:vals.length<=a*i.size+d:=by
        rw[YZ];have:c.length*i.size<=a*i.size:=Nat.mul_le_mul_right _ (by omega);omega
       simp only[oGD,oAR hge,YZ,e3]
      rw[e2];refine(YX _ d h2 h').frame (λk hk=>hw k λe=>?_) (λk hF _=>hw k λe=>hF.2.1 _ _ (e▸hbφ)) (λk hF hk=>⟨hF,hk⟩);exact h01 b hbφ (e▸(YN _ _ k hk).2.2)
    ·intro a d hk;split at hk
     ·exact hvnb _ _ hk
     ·exact h01 b hbφ (YN _ _ _ hk).2.2
    ·intro a d a' d' k h h';split at h<;>split at h'
     ·exact hvdis _ _ _ _ k h h'
     ·exact absurd (YN _ _ k h').2.2 (h01 k (hvfp _ _ k h).2.2)
     ·exact absurd (YN _ _ k h).2.2 (h01 k (hvfp _ _ k h').2.2)
     ·have:=X6 _ _ _ _ k h h';omega
   ·obtain⟨a',cap2,vals,f',e1,YZ,hvr,hvrec,hvfp,hvdis,hv1,_⟩:=hOW.rows (.inl rfl) hs1
    injection e1 with e1 _ e2
    subst e1;subst e2
    have holds:∀j u,vals[j]?=some u->w.cell? ((⟨b,0,none⟩:Addr).add j)=some u:=λj u hj=>by
     obtain⟨b',o',e1,e2⟩:=hvr j u hj
     injection e1 with e1;injection e1 with e1 e3;subst e1;subst e3
     rw[je];exact e2
    have hr:=r2 (by omega) ⟨b,0,none⟩ cap vals rfl YZ holds (by omega);have hge:=grownCap_ge w (c.length+c2.length) cap e;have hcm:=grownCap_le_maxLen w (c.length+c2.length) cap e hmx;obtain⟨G',h1,h2,h3⟩:=newRow vals f' (grownCap w (c.length+c2.length) cap e) (Builtin.zeroCells z.cells (grownCap w (c.length+c2.length) cap e-(c.length+c2.length))) YZ hge hcm (by simp[size_zeroCells,hzs]) hvrec hvfp hvdis;exact⟨_,_,G',hr,h1,h2,h3⟩
theorem Inv.append0{P:Program}(hI:Inv M σ H xs ts w G){c c2:o_}{vS:Value}{aX:t_}{capX:Nat}{news:w_}{g:Nat->Nat->Nat->Prop}(t ty e:TypeId)(i:TypeInfo)(z:Value) (Y6:jS w (G.F M.A) (G.φ M.hr 0) (.ow c) vS)(hX:Src w (G.F M.A) (G.φ M.hr 1) c2 i.size aX news g) (ht:P.underlying t=some (.slice e))(hi:P.info? e=some i)(hz:i.zero=some z)(hzs:z.cells.size=i.size)(Z0:0<i.size) (hs1:∀k (h:k<c.length),c[k].length=i.size)(YY:∀k (h:k<c2.length),c2[k].length=i.size)(ZM:c.length+c2.length<=1099511627776)(hb2:(c.length+c2.length)*i.bytes<=140737488355328):∃v' w' G',(Builtin.append_ #[t,t] ty #[vS,.slice aX c2.length capX]).run P w=.ok v' w'/\Inv M σ [.ow (c++c2)] [v'] ts w' G'/\nZ M w σ H G w' σ [.ow (c++c2)] G'/\G'.β=G.β:=by
 obtain⟨XL,hnr,YX,YN,X6,hn1⟩:=hX;have hmx:c.length+c2.length<=maxLen:=by unfold maxLen;omega
 have hsrc:0<c2.length->∃bX oX,aX=some ⟨bX,oX,none⟩/\∀j u,news[j]?=some u->w.cell? ((⟨bX,oX,none⟩:Addr).add j)=some u:=λhm=>by
  have hnpos:0<news.length:=by rw[XL];exact Nat.mul_pos hm Z0
  obtain⟨bX,oX,rfl,_⟩:=hnr 0 _ (oGE hnpos);refine⟨bX,oX,rfl,λj u hj=>?_⟩;obtain⟨b',o',e1,e2⟩:=hnr j u hj;injection e1 with e1;injection e1 with e1 e3;subst e1;subst e3
  rw[je];exact e2
 refine hI.append1 e i z _ Y6 ⟨XL,YX,YN,X6,hn1⟩ hzs hs1 YY ZM (λhm a cap hn ev=>?_) (λhm b cap cur e' ev hb hroom Z4=>?_) (λhm a cap vals ev YZ holds hg=>?_) (λhm ev=>?_);subst ev;rw[hm];exact B3 w t ty e i ht hi a c.length cap hn aX capX;subst ev;obtain⟨bX,oX,rfl,hnr'⟩:=hsrc hm;exact A6 (P:=P) w t ty e e' i ht hi b c.length cap cur hb ⟨bX,oX,none⟩ c2.length capX news XL hnr' hn1 hroom Z4;subst ev;obtain⟨bX,oX,rfl,hnr'⟩:=hsrc hm;exact run_append_grow (P:=P) w t ty e i z ht hi hz a c.length cap vals YZ holds ⟨bX,oX,none⟩ c2.length capX news XL hnr' hg (by unfold maxLen at hmx;omega) (growslice_fits hg hb2);subst ev;obtain⟨bX,oX,rfl,hnr'⟩:=hsrc hm;exact run_append_nil (P:=P) w t ty e i z ht hi hz ⟨bX,oX,none⟩ c2.length capX news XL hnr' hm (by unfold maxLen at hmx;omega) (by have:c2.length*i.bytes<=(c.length+c2.length)*i.bytes:=Nat.mul_le_mul_right _ (by omega);omega)
theorem Inv.append{P:Program}(hI:Inv M σ H xs ts w G){c c2:o_}{X:TV}{vS vX:Value}(hH:H=[.ow c,X])(hxs:xs=[vS,vX])(hX:X=.ow c2\/X=.sl c2)(t ty e:TypeId)(i:TypeInfo)(z:Value) (ht:P.underlying t=some (.slice e))(hi:P.info? e=some i)(hz:i.zero=some z)(hzs:z.cells.size=i.size)(Z0:0<i.size) (hs1:∀k (h:k<c.length),c[k].length=i.size)(YY:∀k (h:k<c2.length),c2[k].length=i.size)(ZM:c.length+c2.length<=1099511627776)(hb2:(c.length+c2.length)*i.bytes<=140737488355328):∃v' w' G',(Builtin.append_ #[t,t] ty #[vS,vX]).run P w=.ok v' w'/\Inv M σ [.ow (c++c2)] [v'] ts w' G'/\nZ M w σ H G w' σ [.ow (c++c2)] G'/\G'.β=G.β:=by have Y6:=hI.hand_own (j:=0) (by simp_all) (by simp[hH]);have hownX:=hI.hand_own (j:=1) (by simp_all) (by rcases hX with h|h<;>simp[hH,h]);simp only[hH,hxs,List.getElem_cons_zero,List.getElem_cons_succ]at Y6 hownX;obtain⟨aX,capX,news,g,rfl,XL,hnr,YX,YN,X6,hn1,_⟩:=hownX.rows hX YY;exact hI.append0 t ty e i z Y6 ⟨XL,hnr,YX,YN,X6,hn1⟩ ht hi hz hzs Z0 hs1 YY ZM hb2
end
def takeV(mv:Bool):TV->SP (U_×Bool)|.agg l=>(takeL mv l).bind λl'=>.ret (l',true)|t=>(take1 mv t).bind λt'=>.ret ([t'],false)
def wr(d:Nat)(t:TV):SP Unit:=.wrT d t (.ret ())
def tZ(agg:Bool)(l:U_):TV:=if agg then .agg l else l.headD .dead
def inst(d:Nat)(agg:Bool)(l:U_):SP Unit:=(names d l).bind λl'=>wr d (tZ agg l')
abbrev x_:=Option Nat
def loadIp(n:x_)(cs:U_):Option TV:=
 match n with
 |none=>match cs with|.v x::_=>some (.v x)|.sl c::_=>some (.sl c)|.ip l::_=>some (.ip l)|.fn f l::_=>some (.fn f l)|_=>none
 |some n=>if n<=cs.length&&(cs.take n).all (λt=>match t with|.v _=>true|.sl _=>true|_=>false)then some (.agg (cs.take n))else none
def iB:TV->Bool|.v _=>true|.sl _=>true|.ow []=>true|_=>false
abbrev e_:=List (Nat×Nat×Opd)
def takeParts(mv:Bool):e_->SP U_| []=>.ret []|(_,n,x)::r=>(opd x).bind λt=>(takeL mv (su t)).bind λl=>if l.length=n then(takeParts mv r).bind λl'=>.ret (l++l')else .fail
def oe(cells:U_)(off:Nat):U_->U_| []=>cells|t::r=>oe (cells.set off t) (off+1) r
def tO(cells:U_):e_->U_->U_| [],_=>cells|(off,n,_)::r,l=>tO (oe cells off (l.take n)) r (l.drop n)
def qG(sz:Nat):Nat->U_->o_|0,_=>[]|n+1,l=>l.take sz::qG sz n (l.drop sz)
def isV:TV->Bool|.v _=>true|_=>false
def contentOf:TV->SP o_
 |.sl c=>.ret c|.ow []=>.ret []|.pk p vs=>(chk p (p.hops.length+1) vs).bind λ_=>(getPl p).bind λt=>match t with|.ow c=>.ret c|_=>.fail
 |.pw p vs _ lo n=>(chk p (p.hops.length+1) vs).bind λ_=>(getPl p).bind λt=>match t with|.ow c=>.ret ((c.drop lo).take n)|_=>.fail
 |_=>.fail
def VA{α β:Type}(f:α->SP β):List α->SP (List β)| []=>.ret []|x::r=>(f x).bind λy=>(VA f r).bind λl=>.ret (y::l)
def Aq(mx:Bool)(k:IntKind):Int->w_->Option Int|a,[]=>some a|a,.int k' b::r=>if k'=k then Aq mx k (if mx then(if a<b then b else a)else(if b<a then b else a)) r else none|_,_=>none
def Xk(i:Nat):x_×Opd->SP (TV×Option (gl×U_))
 |(none,x)=>(opd x).bind λt=>match t with|.fn f cap=>.ret (.fn f cap,none)|t=>(takeV false t).bind λl=>.ret (tZ l.2 l.1,none)
 |(some n,x)=>(opd x).bind λt=>match t with|.ptr p vs=>(chk p p.hops.length vs).bind λ_=>.ret (.ptr ⟨2*i+2,0,[]⟩ [0],some (p,List.replicate n .dead))|_=>.fail
def vB(s:ByteArray):o_:=s.data.toList.map λb=>[.v (.int .u8 b.toNat)]
abbrev M_:=List Int
def V5:o_->Option M_| []=>some []| [.v (.int .u8 n)]::r=>(V5 r).map (n :: ·)|_=>none
def bstr(c:o_):Option ByteArray:=(V5 c).map λns=>ns.foldl (λr n=>r.push (UInt8.ofNat n.toNat)) ByteArray.empty
def si(sz:Nat):o_->Nat->w_->o_|c,_,[]=>c|c,o,v::r=>si sz (c.modify (o/sz) λel=>el.modify (o%sz) λ_=>.v v) (o+1) r
def Sq(sz:Nat)(c c2:o_)(lo n:Nat):Option (Nat×Option o_):=
 match gO (c2.take (min c2.length n)).flatten with
 |some []=>if decide (0<sz)&&c2.all (λe=>e.length==sz)then some (min c2.length n,none)else none|some (v::vs)=>if decide (0<sz)&&c.all (λe=>e.length==sz)&&c2.all (λe=>e.length==sz)&&decide (lo+min c2.length n<=c.length)&&((c.drop lo).take (min c2.length n)).all (λe=>e.all isV)&&(v::vs).all kJ
  then some (min c2.length n,some (si sz c (lo*sz) (v::vs)))else none
 |none=>none
def G9(d:Nat)(p:gl)(tv:TV):Option (Nat×Option o_)->SP Unit|some (m,some c')=>.wrC p.root p.off (iU tv p.hops (.ow c')) (wr d (.v (.int .i64 m)))|some (m,none)=>wr d (.v (.int .i64 m))|none=>.fail
def EI:TV->Bool|.pk _ _=>true|.pw _ _ _ _ _=>true|_=>false
def UO(d sz bytes:Nat)(s x:TV):SP Unit:=match s,x with|.ow c,.ow c2=>if(c++c2).all (λe=>e.length==sz)&&decide (c.length+c2.length<=1099511627776)&&decide ((c.length+c2.length)*bytes<=140737488355328)then inst d false [.ow (c++c2)]else .fail|.ow c,.sl c2=>if(c++c2).all (λe=>e.length==sz)&&decide (c.length+c2.length<=1099511627776)&&decide ((c.length+c2.length)*bytes<=140737488355328)then inst d false [.ow (c++c2)]else .fail|_,_=>.fail
def ev1(d:Nat):TOp->SP Unit
 |.mov x=>(opd x).bind λt=>match t with
  |.ow c=>(match x with|.c _=>inst d false [.ow c]|_=>.fail)
  |.agg l=>if l.any oi then .fail else wr d (.agg l)|t=>wr d t
 |.asn mv x=>(opd x).bind λt=>match t with|.ptr p vs=>wr d (.ptr p vs)|.ip cs=>wr d (.ip cs)|.fn f cap=>wr d (.fn f cap)|t=>(takeV mv t).bind λl=>inst d l.2 l.1
 |.pick c a b=>(opd c).bind λtc=>match tc with
  |.v (.bool c)=>(opd (if c then a else b)).bind λt=>match t with|.v x=>wr d (.v x)|_=>.fail
  |_=>.fail
 |.alloc z=>if(z.map iY).all iB then .new (2*d+2) (z.map iY) (.rdV (2*d+2,0,0) λg=>wr d (.ptr ⟨2*d+2,0,[]⟩ [g]))else .fail|.box n mv x=>(opd x).bind λt=>(takeL mv (su t)).bind λl=>if l.length=n then .new (2*d+2) l (.rdV (2*d+2,0,0) λg=>wr d (.ptr ⟨2*d+2,0,[]⟩ [g]))else .fail|.load n a=>(opd a).bind λt=>match t with
  |.ptr p vs=>(chk p p.hops.length vs).bind λ_=>match n with|none=>(peekP p).bind λt'=>wr d t'|some n=>(peekL p n).bind λl=>wr d (.agg l)
  |.ip cs=>match loadIp n cs with|some t=>wr d t|none=>.fail
  |_=>.fail
 |.store n mv a x=>(opd a).bind λta=>match ta with|.ptr p vs=>(opd x).bind λtx=>(takeL mv (su tx)).bind λl=>if l.length=n then(chk p p.hops.length vs).bind λ_=>putL p l else .fail|_=>.fail
 |.nilc x=>(opd x).bind λt=>match t with|.ptr p vs=>(chk p p.hops.length vs).bind λ_=>wr d (.ptr p vs)|.ip cs=>wr d (.ip cs)|.fn f cap=>wr d (.fn f cap)|_=>.fail
 |.fld off a=>(opd a).bind λt=>match t with|.ptr p vs=>(chk p p.hops.length vs).bind λ_=>if p.fits off then wr d (.ptr (p.add off) vs)else .fail|.ip cs=>if off<cs.length then wr d (.ip (cs.drop off))else .fail|_=>.fail
 |.idx sz x i=>(opd x).bind λt=>(opd i).bind λti=>(natOf ti).bind λk=>match t with
  |.pk p vs=>(chk p (p.hops.length+1) vs).bind λ_=>(Uv p).bind λh=>match h with|some ls=>if k<ls.length&&ls.getD k 0==sz&&decide (0<sz)then wr d (.ptr (p.at_ k sz) vs)else .fail|none=>.fail
  |.pw p vs sz' lo n=>(chk p (p.hops.length+1) vs).bind λ_=>(getPl p).bind λt=>match t with|.ow c=>if k<n&&(c.getD (lo+k) []).length==sz&&sz'==sz&&decide (0<sz)then wr d (.ptr (p.at_ (lo+k) sz) vs)else .fail|_=>.fail
  |.sl c=>if k<c.length&&(c.getD k []).length==sz&&decide (0<sz)then wr d (.ip (c.getD k []))else .fail|_=>.fail
 |.ext x i=>(opd x).bind λt=>match t with|.tup l=>if i<l.length then wr d (l.getD i .dead)else .fail|_=>.fail
 |.bin op x y=>(opd x).bind λa=>(opd y).bind λb=>(zd a).bind λa=>(zd b).bind λb=>(qU (jd op a b)).bind λr=>if kJ r then wr d (.v r)else .fail|.bnb neg x y=>(opd x).bind λa=>(opd y).bind λb=>(zd a).bind λa=>(zd b).bind λb=>match a,b with|.bool a,.bool b=>wr d (.v (.bool (if neg then !(a==b)else a==b)))|_,_=>.fail
 |.eqa ks neg x y=>(opd x).bind λa=>(opd y).bind λb=>match a,b with|.agg a,.agg b=>(qU (gO a)).bind λxs=>(qU (gO b)).bind λys=>(qU (g8 ks xs ys)).bind λr=>wr d (.v (.bool (if neg then !r else r)))|_,_=>.fail
 |.un op x=>(opd x).bind λa=>(zd a).bind λa=>(qU (VQ op a)).bind λr=>if kJ r then wr d (.v r)else .fail|.conv k x=>(opd x).bind λa=>(zd a).bind λa=>match a with|.int _ n=>wr d (.v (.int k (k.wrap n)))|_=>.fail
 |.bld z mv parts=>if(z.map iY).all iB then(takeParts mv parts).bind λl=>(names d l).bind λl'=>wr d (.agg (tO (z.map iY) parts l'))else .fail|.bsl sz mv len parts=>(takeParts mv (parts.map λp=>(0,sz,p))).bind λl=>if parts.length=len then inst d false [.ow (qG sz len l)]else .fail|.mks sz z l c=>if(z.map iY).all iB&&z.length==sz then(opd l).bind λtl=>(opd c).bind λtc=>(natOf tl).bind λn=>(natOf tc).bind λm=>if n=m&&decide (n*sz<=16777216)then inst d false [.ow (List.replicate n (z.map iY))]else .fail else .fail|.slc sz x lo hi=>(opd x).bind λt=>(wz t).bind λn=>(optNat lo 0).bind λl=>(optNat hi n).bind λh=>if l<=h&&decide (h<=n)then
  match t with
  |.sl c=>if c.all (λe=>e.length==sz)then wr d (.sl ((c.drop l).take (h-l)))else .fail
  |.pk p vs=>(getPl p).bind λt=>match t with|.ow c=>if c.all (λe=>e.length==sz)then wr d (.pw p vs sz l (h-l))else .fail|_=>.fail
  |.pw p vs sz' lo' _=>if sz'=sz then wr d (.pw p vs sz (lo'+l) (h-l))else .fail
  |.ow []=>inst d false [.ow []]
  |_=>.fail
  else .fail
 |.app sz bytes mv fl s x=>(opd s).bind λts=>(opd x).bind λtx=>
  if fl && !mv&&EI tx then(contentOf tx).bind λc2=>if c2.all (λe=>e.all isV)then(take1 true ts).bind λs=>UO d sz bytes s (.sl c2)else .fail
  else(take1 true ts).bind λs=>(take1 mv tx).bind λx=>UO d sz bytes s x
 |.len x=>(opd x).bind λt=>(wz t).bind λn=>wr d (.v (.int .i64 n))|.lens x=>(opd x).bind λt=>match t with|.v (.string s)=>wr d (.v (.int .i64 s.size))|_=>.fail
 |.ixs x i=>(opd x).bind λt=>(opd i).bind λti=>(natOf ti).bind λk=>match t with
  |.v (.string s)=>match s[k]? with|some b=>wr d (.v (.int .u8 b.toNat))|none=>.fail
  |_=>.fail
 |.mm mx xs=>(VA (λx=>(opd x).bind zd) xs).bind λl=>match l with|.int k a::r=>(qU (Aq mx k a r)).bind λm=>wr d (.v (.int k m))|_=>.fail
 |.idxa n sz x i=>(opd x).bind λt=>(opd i).bind λti=>(natOf ti).bind λk=>match t with|.ptr p vs=>(chk p p.hops.length vs).bind λ_=>if k<n&&p.fits (k*sz)then wr d (.ptr (p.add (k*sz)) vs)else .fail|_=>.fail
 |.s2b x=>(opd x).bind λt=>match t with|.v (.string s)=>if s.size<4294967296 then wr d (.sl (vB s))else .fail|_=>.fail
 |.cpy sz x y=>(opd x).bind λt=>(opd y).bind λu=>(contentOf u).bind λc2=>match t with
  |.pk p vs=>(chk p (p.hops.length+1) vs).bind λ_=>.rdC p.root p.off λtv=>match gJ tv p.hops with|some (.ow c)=>G9 d p tv (Sq sz c c2 0 c.length)|_=>.fail
  |.pw p vs sz' lo n=>(chk p (p.hops.length+1) vs).bind λ_=>.rdC p.root p.off λtv=>match gJ tv p.hops with|some (.ow c)=>if sz'=sz then G9 d p tv (Sq sz c c2 lo n)else .fail|_=>.fail
  |_=>.fail
 |.call _ _ _=>.fail
def gc:Operand->Option Opd|.tmp t=>some (.t t)|.const v=>some (.c v)|.func f=>some (.f f)|.global _=>none
section
variable {P:Program} {M:Fm} {σ σ':St} {ts:s_} {w:World} {G:Gh} {a:Act} {o:Oper}
theorem xR{F:Nat->Prop}{V:Vs}{C:Cs}(x:Value):TmR w F V C G (iY x) x:=by unfold iY;split;exact .nil;split;rename_i h;exact .v h;exact .dead
theorem EE{F:Nat->Prop}{V:Vs}{C:Cs}(x:Value):TmR w F V C G (zx x) x:=by
 unfold zx;split;rename_i cs;refine .agg (by simp) λj hj=>?_;have ZR:j<cs.size:=by simp_all
 have e:cs.getD j undef=cs[j]:=by simp[ZR]
 rw[e];simp;exact xR _;exact xR _
theorem iv{F:Nat->Prop}(hI:∀i,TmR w F σ.v (gG M σ []) G (σ.t i) (a.tmps.getD i undef)){x:Opd}{x':Operand}(hx:gc x'=some x){t:TV}(hr:(opd x).run σ=some (t,σ')):σ'=σ/\TmR w F σ.v (gG M σ []) G t (a.eval x'):=by cases x' with|tmp i=>simp[gc]at hx;subst hx;obtain⟨rfl,rfl⟩:=hr;exact⟨rfl,hI i⟩|const v=>simp[gc]at hx;subst hx;obtain⟨rfl,rfl⟩:=hr;exact⟨rfl,EE v⟩|func f=>simp[gc]at hx;subst hx;obtain⟨rfl,rfl⟩:=hr;exact⟨rfl,.fn (by simp) (by simp)⟩|global g=>simp[gc]at hx
def r9(P:Program)(M:Fm)(σ':St)(a:Act)(o:Oper)(w:World):Prop:=∃nx x w' G',(execOp a.eval o).run P w=.ok nx w'/\(nx=.value x\/nx=.skip/\x=undef)/\Inv M σ' [] [] (a.put o.dst x).tmps w' G'
theorem kV(hI:Inv M σ [] [] a.tmps w G){d:Nat}(hd:o.dst=some d)(hN:M.ok d){t:TV}{x:Value}(ht:TmR w (G.F M.A) σ.v (gG M σ []) G t x)(hr:(wr d t).run σ=some ((),σ'))(hrun:(execOp a.eval o).run P w=.ok (.value x) w):r9 P M σ' a o w:=by simp only[wr,SP.run,oSJ,oPJ,true_and]at hr;subst hr;exact⟨_,x,w,G,hrun,.inl rfl,by rw[hd];exact hI.wrT hN ht⟩
theorem Bt{H:U_}{xs:w_}{d:Nat}(hd:d≠1000000->M.kp d=none)(hI:Inv M σ H xs ts w G){l':U_}(Zq:∀j (h:j<H.length),iB H[j]=true\/oi H[j]=true)(hr:(names d H).run σ=some (l',σ')):∃G',Inv M σ' [] [] ts w G'/\nZ M w σ H G w σ' [] G'/\l'.length=H.length/\∀j (h:j<l'.length),TmR w (G'.F M.A) σ'.v (gG M σ' []) G' l'[j] (xs.getD j undef):=by
 have hcell:∀{G':Gh},(∀k,G.F M.A k->G'.F M.A k)->∀{V:Vs} {C:Cs} j (h:j<H.length),oi H[j]=false->TmR w (G'.F M.A) V C G' H[j] (xs.getD j undef):=by
  intro G' hF V C j h ho;have hok:iB H[j]=true:=(Zq j h).resolve_right (by rw[ho];simp);have hown:=hI.hand_own h (by intro e;rw[e]at hok;simp[iB]at hok);cases hh:H[j]with
  |v x=>rw[hh]at hown;cases hown with|v _ hf=>exact .v hf
  |sl c=>rw[hh]at hown;cases hown with|sl _ hs=>exact .sl (hs.frame (λ_ _ _=>rfl) λk hk _=>hF k hk)
  |ow c=>rw[hh]at ho;simp[oi]at ho|_=>rw[hh]at hok;simp[iB]at hok
 unfold names at hr;by_cases hany:H.any oi=true;rw[oIP hany]at hr;have XZ:(nameL (2*d+3) 0 H).run (σ.root (2*d+3) H)=some (l',σ'):=hr;obtain⟨G',hg,hβ,hη⟩:=hI.reroot (2*d+3) (by omega) (hI.odd_none d) (λi h0 hi e=>hi ((show d=i by omega)▸hd (by omega)));have key:∀(l:U_)(i:Nat)(l2:U_)(σ2:St),(nameL (2*d+3) i l).run (σ.root (2*d+3) H)=some (l2,σ2)->σ2=σ.root (2*d+3) H/\l2.length=l.length/\∀j (h:j<l.length)(h2:j<l2.length),(oi l[j]=true/\l2[j]=.pk ⟨2*d+3,i+j,[]⟩ [(σ.root (2*d+3) H).v (2*d+3,0,0),(σ.root (2*d+3) H).v (2*d+3,i+j,1)])\/(oi l[j]=false/\l2[j]=l[j]):=by
  intro l;induction l with
  |nil=>intro i l2 σ2 h;simp only[nameL,SP.run,oSJ,oPJ]at h;obtain⟨rfl,rfl⟩:=h;exact⟨rfl,rfl,λj h=>by simp at h⟩|cons t l ih=>
  intro i l2 σ2 h;by_cases ho:oi t=true;obtain⟨c,rfl⟩:∃c,t=.ow c:=by cases t<;>simp[oi]at ho;exact⟨_,rfl⟩
  simp only[nameL,SP.run]at h;obtain⟨l3,σ3,h1,h2⟩:=fS h;simp only[SP.run,oSJ,oPJ]at h2;obtain⟨rfl,rfl⟩:=h2;obtain⟨rfl,e2,e3⟩:=ih _ _ _ h1;refine⟨rfl,by simp[e2],λj hj hj2=>?_⟩;cases j with|zero=>exact .inl ⟨rfl,rfl⟩|succ j=>have:=e3 j (by simpa using hj) (by simpa using hj2);simpa[Nat.add_assoc,Nat.add_comm 1 j]using this
  have e:nameL (2*d+3) i (t::l)=(nameL (2*d+3) (i+1) l).bind λl'=>.ret (t::l'):=by cases t<;>simp[oi]at ho<;>rfl
  rw[e]at h;obtain⟨l3,σ3,h1,h2⟩:=fS h;simp only[SP.run,oSJ,oPJ]at h2;obtain⟨rfl,rfl⟩:=h2;obtain⟨rfl,e2,e3⟩:=ih _ _ _ h1;refine⟨rfl,by simp[e2],λj hj hj2=>?_⟩;cases j with|zero=>exact .inr ⟨by simpa using ho,rfl⟩|succ j=>have:=e3 j (by simpa using hj) (by simpa using hj2);simpa[Nat.add_assoc,Nat.add_comm 1 j]using this
 obtain⟨rfl,e2,e3⟩:=key H 0 l' σ' XZ;refine⟨G',hg.1,hg.moves,e2,λj hj=>?_⟩;have hjH:j<H.length:=by omega
 rcases e3 j hjH hj with⟨ho,e4⟩|⟨ho,e4⟩;rw[e4];obtain⟨c,hc⟩:∃c,H[j]=.ow c:=by cases hh:H[j]<;>rw[hh]at ho<;>simp[oi]at ho;exact⟨_,rfl⟩
 refine .pk (σ.root (2*d+3) H).v (λ_=>oLE _) (by simp[lP,List.range_succ]) λ_=>⟨by show(2*d+3:Nat)≠1;omega,c,?_,?_⟩;unfold Gh.hv;simp only[hvT,Nat.zero_add];unfold Gh.val;rw[hβ,hI.odd_none d];simp only;rw[hη j (by rw[<- hI.hand];exact hjH)];simp only[gJ,Nat.zero_add];rw[gF (by show(2*d+3:Nat)≠1;omega),zR];simp[hjH,hc];rw[e4];exact hcell hg.2.1 j hjH ho;rw[oIN hany]at hr;simp only[SP.run,oSJ,oPJ]at hr;obtain⟨rfl,rfl⟩:=hr;obtain⟨G',hg,hβ⟩:=hI.drop;refine⟨G',hg.1,hg.moves,rfl,λj hj=>hcell hg.2.1 j hj ?_⟩;simp only[List.any_eq_true,not_exists,not_and]at hany;have:=hany _ (oGX hj);simpa using this
theorem n6{mv:Bool}{t t':TV}(hr:(take1 mv t).run σ=some (t',σ')):iB t'=true\/oi t'=true:=by
 cases t with
 |v x=>simp only[take1,SP.run,oPJ]at hr;obtain⟨rfl,_⟩:=hr;exact .inl rfl|sl c=>simp only[take1,SP.run,oSJ,oPJ]at hr;obtain⟨rfl,_⟩:=hr;exact .inl rfl|ow c=>cases c with|nil=>simp only[take1,SP.run,oSJ,oPJ]at hr;obtain⟨rfl,_⟩:=hr;cases mv<;>exact .inl rfl|cons=>simp[take1,SP.run]at hr
 |pk p vs=>obtain⟨_,σ1,h1,h2⟩:=fS hr;simp only[SP.run]at h2;cases hg:gJ (σ1.c p.root p.off) p.hops with|none=>simp[hg,SP.run]at h2|some t2=>cases t2 with|ow c=>simp only[hg]at h2;split at h2;obtain⟨l,_,_,h3⟩:=gL h2;obtain⟨rfl,_⟩:=h3;exact .inr rfl;obtain⟨l,_,_,h3⟩:=gL h2;obtain⟨rfl,_⟩:=h3;rw[qY];exact .inl rfl|_=>simp[hg,SP.run]at h2
 |pw p vs sz lo n=>obtain⟨_,σ1,h1,h2⟩:=fS hr;simp only[SP.run]at h2;cases hg:gJ (σ1.c p.root p.off) p.hops with|none=>simp[hg,SP.run]at h2|some t2=>cases t2 with|ow c=>simp only[hg]at h2;obtain⟨l,_,_,h3⟩:=gL h2;obtain⟨rfl,_⟩:=h3;exact .inl rfl|_=>simp[hg,SP.run]at h2
 |_=>simp[take1,SP.run]at hr
theorem vJ{mv:Bool}:∀{l l':U_}{σ σ':St},(takeL mv l).run σ=some (l',σ')->∀j (h:j<l'.length),iB l'[j]=true\/oi l'[j]=true:=by intro l;induction l with|nil=>intro l' σ σ' h j hj;obtain⟨rfl,_⟩:=h;grind|cons t l ih=>intro l' σ σ' h j hj;have ⟨t',σ1,h1,h2⟩:=fS h;have ⟨r',σ2,h3,h4⟩:=fS h2;obtain⟨rfl,rfl⟩:=h4;cases j with|zero=>exact n6 h1|succ j=>exact ih h3 j (by simp_all)
theorem zG{H:U_}{xs:w_}{d:Nat}{agg:Bool}(hI:Inv M σ H xs a.tmps w G)(hd:o.dst=some d)(hN:M.ok d)(Zq:∀j (h:j<H.length),iB H[j]=true\/oi H[j]=true)(hr:(inst d agg H).run σ=some ((),σ')) {x:Value}(hx:(agg=true/\x=.agg xs.toArray)\/(agg=false/\∃y,xs=[y]/\x=y)){w0:World}(hrun:(execOp a.eval o).run P w0=.ok (.value x) w):r9 P M σ' a o w0:=by
 unfold inst at hr;obtain⟨l',σ1,h1,h2⟩:=fS hr;obtain⟨G',Zz,hm,hl,ht⟩:=Bt (λ_=>hN.2) hI Zq h1;simp only[wr,SP.run,oSJ,oPJ,true_and]at h2;subst h2;have key:TmR w (G'.F M.A) σ1.v (gG M σ1 []) G' (tZ agg l') x->r9 P M { σ1 with tm:=iW σ1.tm d (tZ agg l') } a o w0:=λh=>⟨_,x,w,G',hrun,.inl rfl,by rw[hd];exact Zz.wrT hN h⟩;apply key;rcases hx with⟨rfl,rfl⟩|⟨rfl,y,rfl,rfl⟩;simp only[tZ,if_true];refine .agg (by simp[hl,hI.hand]) λj hj=>?_;have:=ht j hj;simpa using this;simp only[tZ];have hlen:l'.length=1:=by rw[hl,hI.hand];rfl
 obtain⟨t,rfl⟩:∃t,l'=[t]:=by cases l' with|nil=>simp at hlen|cons t r=>cases r with|nil=>exact⟨t,rfl⟩|cons=>simp at hlen
 simpa using ht 0 (by simp)
end
section
variable {P:Program} {M:Fm} {σ σ':St} {ts:s_} {w:World} {G:Gh} {a:Act} {o:Oper}
theorem TmR.ow_inv{F:Nat->Prop}{V:Vs}{C:Cs}{c:o_}{x:Value}(h:TmR w F V C G (.ow c) x):c=[]/\∃ad,x=.slice ad 0 0:=by cases h with|nil=>simp_all
theorem Qt{F:Nat->Prop}{V:Vs}{C:Cs}{l:U_}{x:Value}(h:TmR w F V C G (.agg l) x):∃xs:s_,x=.agg xs/\xs.size=l.length/\∀j (hj:j<l.length),TmR w F V C G l[j] (xs.getD j undef):=by cases h with|agg hl h=>simp_all
theorem Lt{mv:Bool}{t:TV}{x:Value}{l:U_×Bool}(hI:Inv M σ [] [] ts w G)(hx:TmR w (G.F M.A) σ.v (gG M σ []) G t x)(hr:(takeV mv t).run σ=some (l,σ')):∃(xs:w_)(G':Gh),qd M w ts σ [] G σ' l.1 xs G'/\((l.2=true/\x=.agg xs.toArray)\/(l.2=false/\∃y,xs=[y]/\x=y))/\(∀j (h:j<l.1.length),iB l.1[j]=true\/oi l.1[j]=true)/\(∀y∈xs,y.oneCell'=true):=by
 have one:∀t',(∀q,t≠.agg q)->(take1 mv t).run σ=some (t',σ')->l=([t'],false)->∃(xs:w_)(G':Gh),qd M w ts σ [] G σ' l.1 xs G'/\((l.2=true/\x=.agg xs.toArray)\/(l.2=false/\∃y,xs=[y]/\x=y))/\(∀j (h:j<l.1.length),iB l.1[j]=true\/oi l.1[j]=true)/\(∀y∈xs,y.oneCell'=true):=by
  rintro t' _ h rfl;obtain⟨G',hg,ho⟩:=md hI hx h;refine⟨[x],G',by simpa using hg,.inr ⟨rfl,x,rfl,rfl⟩,λj hj=>?_,by simpa using ho⟩;obtain rfl:j=0:=by simp at hj;omega
  exact n6 h
 by_cases ht:∃q,t=.agg q;obtain⟨q,rfl⟩:=ht;obtain⟨l',σ1,h1,h2⟩:=fS hr;obtain⟨rfl,rfl⟩:=h2;obtain⟨xs,rfl,hl,hj⟩:=Qt hx;obtain⟨e1,e2,G',hg⟩:=vI (ys:=xs.toList) hI (by simp[hl]) (λj h=>by simp_all) h1;exact⟨xs.toList,G',by simpa using hg,.inl ⟨rfl,by simp⟩,vJ h1,e2⟩;have e:takeV mv t=(take1 mv t).bind λt'=>.ret ([t'],false):=by cases t<;>first|rfl|exact absurd ⟨_,rfl⟩ ht
 rw[e]at hr;obtain⟨t',σ1,h1,h2⟩:=fS hr;obtain⟨rfl,rfl⟩:=h2;simp_all
theorem L0(hI:Inv M σ [] [] a.tmps w G){d:Nat}{ad:t_}(hd:o.dst=some d)(hN:M.ok d)(hr:(inst d false [.ow []]).run σ=some ((),σ'))(hrun:(execOp a.eval o).run P w=.ok (.value (.slice ad 0 0)) w):r9 P M σ' a o w:=by
 obtain⟨G1,hg⟩:=hI.addHand (t:=.ow []) (x:=.slice ad 0 0) (.nil (by simp));exact zG (H:=[.ow []]) (xs:=[.slice ad 0 0]) (by simpa using hg.1) hd hN (λj hj=>by
 obtain rfl:j=0:=by simp at hj;omega
 exact .inl rfl) hr (.inr ⟨rfl,_,rfl,rfl⟩) hrun
theorem Oq(hI:Inv M σ [] [] a.tmps w G){d:Nat}(hd:o.dst=some d)(hN:M.ok d){x:Opd}{x':Operand}(hx:gc x'=some x)(ho:o.op=.move x'\/o.op=.assign x')(hr:(ev1 d (.mov x)).run σ=some ((),σ')):r9 P M σ' a o w:=by
 simp only[ev1]at hr;obtain⟨t,σ1,h1,h2⟩:=fS hr;obtain⟨rfl,ht⟩:=iv hI.tmr hx h1;have hrun:(execOp a.eval o).run P w=.ok (.value (a.eval x')) w:=by rcases ho with ho|ho<;>simp[execOp,ho]
 cases t with
 |ow c=>obtain⟨rfl,ad,e⟩:=ht.ow_inv;rw[e]at hrun;cases x with|c v=>exact L0 hI hd hN h2 hrun|_=>simp[SP.run]at h2
 |agg l=>simp only at h2;split at h2;simp[SP.run]at h2;exact kV hI hd hN ht h2 hrun|_=>exact kV hI hd hN ht h2 hrun
theorem OD(hI:Inv M σ [] [] a.tmps w G){d:Nat}{mv:Bool}(hd:o.dst=some d)(hN:M.ok d){x:Opd}{x':Operand}(hx:gc x'=some x)(ho:o.op=.assign x'\/o.op=.move x')(hr:(ev1 d (.asn mv x)).run σ=some ((),σ')):r9 P M σ' a o w:=by
 simp only[ev1]at hr;obtain⟨t,σ1,h1,h2⟩:=fS hr;obtain⟨rfl,ht⟩:=iv hI.tmr hx h1;have hrun:(execOp a.eval o).run P w=.ok (.value (a.eval x')) w:=by rcases ho with ho|ho<;>simp[execOp,ho]
 have gen:∀ σ2,((takeV mv t).bind λl=>inst d l.2 l.1).run σ1=some ((),σ2)->r9 P M σ2 a o w:=by intro σ2 h;obtain⟨l,σ3,h3,h4⟩:=fS h;obtain⟨xs,G',hg,hsh,hok,_⟩:=Lt hI ht h3;exact zG hg.1 hd hN hok h4 hsh hrun
 cases t with|ptr p vs=>exact kV hI hd hN ht h2 hrun|ip cs=>exact kV hI hd hN ht h2 hrun|fn f cap=>exact kV hI hd hN ht h2 hrun|_=>exact gen _ h2
theorem Q6(hI:Inv M σ [] [] a.tmps w G){d:Nat}(hd:o.dst=some d)(hN:M.ok d){c x y:Opd}{c' x' y':Operand}(hc:gc c'=some c)(hx:gc x'=some x)(hy:gc y'=some y)(ho:o.op=.pick c' x' y') (hr:(ev1 d (.pick c x y)).run σ=some ((),σ')):r9 P M σ' a o w:=by
 simp only[ev1]at hr;obtain⟨t,σ1,h1,h2⟩:=fS hr;obtain⟨rfl,ht⟩:=iv hI.tmr hc h1;cases t with
 |v xc=>
 cases xc with
  |bool b=>
  simp only at h2;obtain⟨t2,σ2,h3,h4⟩:=fS h2;have hcv:a.eval c'=.bool b:=by generalize a.eval c'=z at ht;cases ht;rfl
  have hz:gc (if b then x' else y')=some (if b then x else y):=by cases b<;>simp[hx,hy]
  obtain⟨rfl,YT⟩:=iv hI.tmr hz h3;have hrun:(execOp a.eval o).run P w=.ok (.value (a.eval (if b then x' else y'))) w:=by cases b<;>simp[execOp,ho,hcv,asBool]
  cases t2 with|v z=>exact kV hI hd hN YT h4 hrun|_=>simp[SP.run]at h4
  |_=>simp[SP.run]at h2
 |_=>simp[SP.run]at h2
theorem sI{t:TV}{x:Value}(h:(zd t).run σ=some (x,σ')):t=.v x/\σ'=σ:=by
 cases t<;>simp[zd,SP.run]at h
 simp_all
theorem vO{α:Type}{q:Option α}{x:α}(h:(qU q).run σ=some (x,σ')):q=some x/\σ'=σ:=by
 cases q<;>simp[qU,SP.run]at h
 simp_all
theorem vU{t:TV}{n:Nat}(h:(natOf t).run σ=some (n,σ')):∃k i,t=.v (.int k i)/\0<=i/\n=i.toNat/\σ'=σ:=by
 cases t with
 |v x=>cases x with|int k i=>simp[natOf]at h;split at h;rename_i m;simp[SP.run]at h;exact⟨k,_,rfl,Int.natCast_nonneg m,h.1.symm,h.2.symm⟩;simp[SP.run]at h|_=>simp[natOf,SP.run]at h
 |_=>simp[natOf,SP.run]at h
theorem TmR.v_inv{F:Nat->Prop}{V:Vs}{C:Cs}{y x:Value}(h:TmR w F V C G (.v y) x):x=y/\kJ y=true:=by cases h with|v h=>simp_all
theorem B6{s:Sem Value}{v:Value}(h:Kk s=some v)(w:World):s.run P w=.ok v w:=by unfold Kk at h;split at h;simp_all;simp at h
theorem Qp(op:BinOp)(t:TypeId)(k k':IntKind)(x y:Int):Go.binOp op t (.int k x) (.int k' y)=Go.binOp op 0 (.int k x) (.int k' y):=by cases op<;>rfl
theorem Qo(op:BinOp)(t:TypeId)(x y:ByteArray):Go.binOp op t (.string x) (.string y)=Go.binOp op 0 (.string x) (.string y):=by cases op<;>rfl
theorem TN(hI:Inv M σ [] [] a.tmps w G){d:Nat}(hd:o.dst=some d)(hN:M.ok d){x y:Opd}{x' y':Operand}{op:BinOp}{t yt:TypeId}(hx:gc x'=some x)(hy:gc y'=some y)(ho:o.op=.binOp op t x' y' yt) (hr:(ev1 d (.bin op x y)).run σ=some ((),σ')):r9 P M σ' a o w:=by
 simp only[ev1]at hr;obtain⟨t1,σ1,h1,h2⟩:=fS hr;obtain⟨rfl,Z2⟩:=iv hI.tmr hx h1;obtain⟨t2,σ2,h3,h4⟩:=fS h2;obtain⟨rfl,U'⟩:=iv hI.tmr hy h3;obtain⟨u1,σ3,h5,h6⟩:=fS h4;obtain⟨rfl,rfl⟩:=sI h5;obtain⟨u2,σ4,h7,h8⟩:=fS h6;obtain⟨rfl,rfl⟩:=sI h7;obtain⟨r,σ5,h9,h10⟩:=fS h8;obtain⟨XW,rfl⟩:=vO h9;obtain⟨ex,fx⟩:=Z2.v_inv;obtain⟨ey,fy⟩:=U'.v_inv;split at h10;case isFalse=>simp[SP.run]at h10
 rename_i ZH;refine kV hI hd hN (.v ZH) h10 ?_;cases u1 with
 |int k i=>
 cases u2 with
  |int k' i'=>
  simp only[jd]at XW;have hb:(Go.binOp op t (.int k i) (.int k' i')).run P w=.ok r w:=by rw[Qp];exact B6 XW w
  have hg:(eqGuard op t x' y' (.int k i) (.int k' i')).run P w=.ok () w:=by unfold eqGuard;split<;>rfl
  simp[execOp,ho,ex,ey,hb,hg]
  |_=>simp[jd]at XW
 |string i=>
 cases u2 with
  |string i'=>
  simp only[jd]at XW;have hb:(Go.binOp op t (.string i) (.string i')).run P w=.ok r w:=by rw[Qo];exact B6 XW w
  have hg:(eqGuard op t x' y' (.string i) (.string i')).run P w=.ok () w:=by unfold eqGuard;split<;>rfl
  simp[execOp,ho,ex,ey,hb,hg]
  |_=>simp[jd]at XW
 |_=>simp[jd]at XW
theorem OC(hI:Inv M σ [] [] a.tmps w G){d:Nat}(hd:o.dst=some d)(hN:M.ok d){x y:Opd}{x' y':Operand}{op:BinOp}{neg:Bool}{t yt:TypeId}(hx:gc x'=some x)(hy:gc y'=some y)(ho:o.op=.binOp op t x' y' yt)(hop:(op=.eql/\neg=false)\/(op=.neq/\neg=true))(ht:P.underlying t=some .bool) (hr:(ev1 d (.bnb neg x y)).run σ=some ((),σ')):r9 P M σ' a o w:=by
 simp only[ev1]at hr;obtain⟨t1,σ1,h1,h2⟩:=fS hr;obtain⟨rfl,Z2⟩:=iv hI.tmr hx h1;obtain⟨t2,σ2,h3,h4⟩:=fS h2;obtain⟨rfl,U'⟩:=iv hI.tmr hy h3;obtain⟨u1,σ3,h5,h6⟩:=fS h4;obtain⟨rfl,rfl⟩:=sI h5;obtain⟨u2,σ4,h7,h8⟩:=fS h6;obtain⟨rfl,rfl⟩:=sI h7;obtain⟨ex,fx⟩:=Z2.v_inv;obtain⟨ey,fy⟩:=U'.v_inv;cases u1 with
 |bool i=>
 cases u2 with
  |bool i'=>
  simp only at h8;have hg:(eqGuard op t x' y' (.bool i) (.bool i')).run P w=.ok () w:=by unfold eqGuard;split<;>rfl
  have hq:(Op.equal t (.bool i) (.bool i')).run P w=.ok (i==i') w:=by obtain⟨n,hn⟩:∃n,Op.maxDepth=n+1:=⟨9999,rfl⟩;unfold Op.equal;rw[hn];simp[Op.equalIn,run_underlying ht]
  refine kV hI hd hN (.v rfl) h8 ?_;rcases hop with⟨rfl,rfl⟩|⟨rfl,rfl⟩;simp[execOp,ho,ex,ey,hg,Go.binOp,hq];simp[execOp,ho,ex,ey,hg,Go.binOp,hq]
  |_=>simp[SP.run]at h8
 |_=>simp[SP.run]at h8
theorem Vh(hI:Inv M σ [] [] a.tmps w G){d:Nat}(hd:o.dst=some d)(hN:M.ok d){x:Opd}{x':Operand}{op:UnOp}{t:TypeId}(hx:gc x'=some x)(ho:o.op=.unOp op t x')(hr:(ev1 d (.un op x)).run σ=some ((),σ')):r9 P M σ' a o w:=by
 simp only[ev1]at hr;obtain⟨t1,σ1,h1,h2⟩:=fS hr;obtain⟨rfl,Z2⟩:=iv hI.tmr hx h1;obtain⟨u1,σ3,h5,h6⟩:=fS h2;obtain⟨rfl,rfl⟩:=sI h5;obtain⟨r,σ5,h9,h10⟩:=fS h6;obtain⟨XW,rfl⟩:=vO h9;obtain⟨ex,fx⟩:=Z2.v_inv;split at h10;case isFalse=>simp[SP.run]at h10
 rename_i ZH;exact kV hI hd hN (.v ZH) h10 (by simp[execOp,ho,ex,B6 XW w])
theorem Rd(hI:Inv M σ [] [] a.tmps w G){d:Nat}(hd:o.dst=some d)(hN:M.ok d){x:Opd}{x':Operand}{k ks:IntKind}{s t:TypeId}(hx:gc x'=some x)(ho:o.op=.convert s t x')(hs:P.underlying s=some (.int ks))(ht:P.underlying t=some (.int k)) (hr:(ev1 d (.conv k x)).run σ=some ((),σ')):r9 P M σ' a o w:=by simp only[ev1]at hr;obtain⟨t1,σ1,h1,h2⟩:=fS hr;obtain⟨rfl,Z2⟩:=iv hI.tmr hx h1;obtain⟨u1,σ3,h5,h6⟩:=fS h2;obtain⟨rfl,rfl⟩:=sI h5;obtain⟨ex,fx⟩:=Z2.v_inv;cases u1 with|int k2 n=>exact kV hI hd hN (.v rfl) h6 (by simp[execOp,ho,ex,convert,run_underlying hs,run_underlying ht,Conv.intToInt])|_=>simp[SP.run]at h6
theorem Q7(hI:Inv M σ [] [] a.tmps w G){d:Nat}(hd:o.dst=some d)(hN:M.ok d){x:Opd}{x':Operand}(hx:gc x'=some x)(ho:o.op=.nilCheck x')(hr:(ev1 d (.nilc x)).run σ=some ((),σ')):r9 P M σ' a o w:=by
 simp only[ev1]at hr;obtain⟨t1,σ1,h1,h2⟩:=fS hr;obtain⟨rfl,Z2⟩:=iv hI.tmr hx h1;cases t1 with
 |ptr p vs=>simp only at h2;obtain⟨_,σ2,h3,h4⟩:=fS h2;have e1:σ2=σ1:=(gz h3).1;have e2:=(gz h3).2;subst e1;have ht:=Z2;cases Z2 with|ptr V0 h0 hv h=>obtain⟨_,ad,t,ha,hxx,_⟩:=h e2;exact kV hI hd hN ht h4 (by simp[execOp,ho,hxx])
 |ip cs=>have ht:=Z2;generalize hz:a.eval x'=z at Z2 ht;cases Z2 with|ip u hc XZ=>exact kV hI hd hN ht h2 (by simp[execOp,ho,hz])
 |fn f cap=>have ht:=Z2;generalize hz:a.eval x'=z at Z2 ht;cases Z2 with|fn hl hh=>exact kV hI hd hN ht h2 (by simp[execOp,ho,hz])
 |_=>simp[SP.run]at h2
end
theorem gl.add_cases(p:gl)(n:Nat):(p.hops=[]/\p.add n=⟨p.root,p.off+n,[]⟩)\/(∃hs i sz o,p.hops=hs++[(i,sz,o)]/\p.add n=⟨p.root,p.off,hs++[(i,sz,o+n)]⟩):=by unfold gl.add;cases h:p.hops.reverse with|nil=>simp_all|cons a r=>have ⟨i,sz,o⟩:=a;simp_all
theorem NQ{w:World}{hs:L_}{i sz o:Nat}(n:Nat):∀{x:Value}{ad:Addr},gP w x (hs++[(i,sz,o)])=some ad->gP w x (hs++[(i,sz,o+n)])=some ⟨ad.block,ad.off+n,none⟩:=by
 induction hs with
 |nil=>
 intro x ad h;cases x with
  |slice a l c=>
  cases a with
   |none=>simp[gP]at h|some a=>
   simp only[oNA,gP]at h⊢;split at h;rename_i hi;rw[oIP hi];injection h with h
   rw[<- h];simp[Nat.add_assoc];simp at h
  |_=>simp[gP]at h
 |cons hp hs ih=>
 obtain⟨i',sz',o'⟩:=hp;intro x ad h;obtain⟨hd,tl,hht⟩:∃hd tl,hs++[(i,sz,o)]=hd::tl:=by cases hs<;>exact⟨_,_,rfl⟩
 have ⟨hd2,tl2,hht2⟩:∃hd tl,hs++[(i,sz,o+n)]=hd::tl:=by cases hs<;>exact⟨_,_,rfl⟩
 rw[List.cons_append,hht]at h;rw[List.cons_append,hht2];cases x with
 |slice a l c=>
 cases a with
  |none=>simp[gP]at h|some a=>
  simp[gP]at h⊢;split at h;rename_i hi;cases hc:w.cell? ⟨a.block,a.off+(i'*sz'+o'),none⟩with|none=>simp_all|some y=>simp_all
  simp at h
 |_=>simp[gP]at h
theorem tP{G:Gh}{w:World}{p:gl}{ad:Addr}(n:Nat)(h:G.addr w p=some ad):G.addr w (p.add n)=some ⟨ad.block,ad.off+n,none⟩:=by
 rcases p.add_cases n with⟨h1,h2⟩|⟨hs,i,sz,o,h1,h2⟩;rw[h2];unfold Gh.addr at h⊢;cases hb:G.β p.root with|none=>simp_all|some x=>grind
 rw[h2];unfold Gh.addr at h⊢;rw[h1]at h;have ⟨hd,tl,hht⟩:∃hd tl,hs++[(i,sz,o)]=hd::tl:=by cases hs<;>exact⟨_,_,rfl⟩
 have ⟨hd2,tl2,hht2⟩:∃hd tl,hs++[(i,sz,o+n)]=hd::tl:=by cases hs<;>exact⟨_,_,rfl⟩
 rw[hht]at h;simp only at h;rw[<- hht]at h;simp[hht2];rw[<- hht2];exact NQ n h
theorem iH(p:gl)(n:Nat):(p.add n).root=p.root:=by rcases p.add_cases n with⟨_,h2⟩|⟨hs,i,sz,o,_,h2⟩<;>rw[h2]
theorem Lq(V:Vs)(p:gl)(n:Nat):lP V (p.add n).root (p.add n).off (p.add n).hops.length=lP V p.root p.off p.hops.length:=by
 rcases p.add_cases n with⟨h1,h2⟩|⟨hs,i,sz,o,h1,h2⟩<;>rw[h2,h1]
 rfl;simp
theorem o6{G:Gh}{w:World}{p:gl}{ad:Addr}(h:G.addr w p=some ad):ad.spot=none:=by
 have key:∀(hs:L_)(x:Value),gP w x hs=some ad->ad.spot=none:=by
  intro hs;induction hs with
  |nil=>intro x h;cases x<;>simp[gP]at h|cons a r ih=>
  intro x h;cases x with
  |slice a l c=>
  cases a with
   |none=>cases r<;>simp[gP]at h|some a=>
   cases r with
   |nil=>
   simp only[gP]at h;split at h;injection h with h;rw[<- h]
   simp at h
   |cons b r=>simp[gP]at h;grind
  |_=>cases r<;>simp[gP]at h
 unfold Gh.addr at h;grind
section
variable {P:Program} {M:Fm} {σ σ':St} {H:U_} {xs:w_} {ts:s_} {w:World} {G:Gh} {a:Act} {o:Oper}
theorem Inv.named(hI:Inv M σ H xs ts w G){p:gl}(h1:p.root≠1){ad:Addr}(ha:G.addr w p=some ad){t:TV}(ht:gJ (σ.c p.root p.off) p.hops=some t)(hd:t≠.dead):G.addrB w p=some ad/\∃u fp,w.cell? ad=some u/\jS w (G.F M.A) fp t u/\G.hv w p=some u:=by
 have htE:gJ (gG M σ H p.root p.off) p.hops=some t:=by rw[gF (h1)];exact ht
 have ⟨u,fp,hv,hown,_,hadf⟩:=hI.core.hv_own p htE hd;have hB:G.addrB w p=some ad:=by refine ql ha λhp b o0 n hb=>?_;rcases Nat.lt_or_ge p.off n with h|h;exact h;have:=hI.core.boxc p.root b o0 n hb p.off h;rw[gF (h1)]at this;rw[hp,this]at ht;simp[gJ]at ht;simp_all
 refine⟨hB,u,fp,?_,hown,hv⟩;cases hp:p.hops with
 |nil=>rcases hI.core.where_ p hB htE with⟨_,b,o0,n,hb,hlt,Y4⟩|⟨hne,_⟩;rw[Y4,hI.core.boxcell hb hlt];unfold Gh.hv at hv;rw[hp]at hv;exact hv;simp_all
 |cons x r=>
 have:gP w (G.val w p.root p.off) p.hops=some ad:=by unfold Gh.addr at ha;rw[hp]at ha⊢;exact ha
 simp_all
theorem iQ{p:gl}{y:TV×St}(h:(getPl p).run σ=some y):y.2=σ/\gJ (σ.c p.root p.off) p.hops=some y.1:=by simp[getPl]at h;cases hg:gJ (σ.c p.root p.off) p.hops with|none=>simp[hg,SP.run]at h|some t=>simp[hg,SP.run]at h;rw[<- h];exact⟨rfl,rfl⟩
theorem xQ(hI:Inv M σ H xs ts w G){p:gl}(h1:p.root≠1){t t':TV}{u:Value}{fp:Nat->Prop}(ht:gJ (σ.c p.root p.off) p.hops=some t)(hown:jS w (G.F M.A) fp t u)(hv:G.hv w p=some u) (hr:(peek1 p t).run σ=some (t',σ')):σ'=σ/\TmR w (G.F M.A) σ.v (gG M σ H) G t' u:=by
 cases t with
 |v x=>obtain⟨rfl,rfl⟩:=hr;cases hown with|v _ h=>exact⟨rfl,.v h⟩
 |sl c=>obtain⟨rfl,rfl⟩:=hr;cases hown with|sl _ h=>exact⟨rfl,.sl h⟩
 |ow c=>simp[peek1]at hr;rw[SP.run_bind,Fh,xk]at hr;obtain⟨rfl,rfl⟩:=hr;exact⟨rfl,.pk σ.v (λ_=>oLE _) rfl λ_=>⟨h1,c,hv,by rw[gF (h1)];exact ht⟩⟩|_=>simp[peek1,SP.run]at hr
theorem vR{p:gl}{y:TV×St}{t:TV}(hr:(peek1 p t).run σ=some y):t≠.dead:=by rintro rfl;simp[peek1,SP.run]at hr
theorem LQ(hI:Inv M σ H xs ts w G):∀{n:Nat}{p:gl}{ad:Addr}{l:U_}{σ':St},p.root≠1->G.addr w p=some ad->(peekL p n).run σ=some (l,σ')->σ'=σ/\l.length=n/\∃us:w_,us.length=n/\∀j (h:j<l.length)(h':j<us.length),w.cell? ⟨ad.block,ad.off+j,none⟩=some us[j]/\TmR w (G.F M.A) σ.v (gG M σ H) G l[j] us[j]:=by
 intro n;induction n with
 |zero=>intro p ad l σ' h1 ha hr;simp only[peekL,SP.run,oSJ,oPJ]at hr;simp_all|succ n ih=>
 intro p ad l σ' h1 ha hr;obtain⟨t,σ1,h2,h3⟩:=fS hr;obtain⟨e1,hg⟩:=iQ h2;have e1:σ1=σ:=e1;subst e1;obtain⟨t',σ2,h4,h5⟩:=fS h3;have hd:=vR h4;obtain⟨hB,u,fp,YS,hown,hv⟩:=hI.named h1 ha hg hd;obtain⟨rfl,ZW⟩:=xQ hI h1 hg hown hv h4;have ZG:=o6 ha;have hc0:w.cell? ⟨ad.block,ad.off+0,none⟩=some u:=by rw[Nat.add_zero];obtain⟨b,o,s⟩:=ad;simp_all
 cases n with
 |zero=>
 obtain⟨rfl,rfl⟩:=h5;refine⟨rfl,rfl,[u],rfl,λj h h'=>?_⟩;obtain rfl:j=0:=by simp at h;omega
 exact⟨hc0,ZW⟩
 |succ n=>
 simp only at h5;split at h5;obtain⟨r,σ3,h6,h7⟩:=fS h5;obtain⟨rfl,rfl⟩:=h7;obtain⟨rfl,e2,us,e3,e4⟩:=ih (by rw[iH];exact h1) (tP 1 ha) h6;refine⟨rfl,by simp[e2],u::us,by simp[e3],λj h h'=>?_⟩;cases j with|zero=>exact⟨hc0,ZW⟩|succ j=>have:=e4 j (by simpa using h) (by simpa using h');rw[show ad.off+(j+1)=ad.off+1+j by omega];exact this
 simp[SP.run]at h5
theorem uE{t:TypeId}{d:TypeDesc}(h:P.underlying t=some d)(hd:∀f,d≠.struct f)(hd2:∀n e,d≠.array n e):(isAgg t).run P w=.ok false w:=by unfold isAgg;simp only[Sem.run_bind,run_underlying h];simp_all
theorem sY{t:TypeId}{d:TypeDesc}(h:P.underlying t=some d)(hd:(∃f,d=.struct f)\/∃n e,d=.array n e):(isAgg t).run P w=.ok true w:=by unfold isAgg;simp[run_underlying h];rcases hd with⟨f,rfl⟩|⟨n,e,rfl⟩<;>rfl
def Qy(P:Program)(t:TypeId):x_->Prop|none=>∃d,P.underlying t=some d/\(∀f,d≠.struct f)/\∀n e,d≠.array n e|some n=>(∃d,P.underlying t=some d/\((∃f,d=.struct f)\/∃n e,d=.array n e))/\(P.info? t).map (·.size)=some n
theorem Q9(hI:Inv M σ [] [] a.tmps w G){d:Nat}(hd:o.dst=some d)(hN:M.ok d){x:Opd}{x':Operand}{t:TypeId}{n:x_}(hx:gc x'=some x)(ho:o.op=.load t x')(hn:Qy P t n)(hr:(ev1 d (.load n x)).run σ=some ((),σ')):r9 P M σ' a o w:=by
 simp only[ev1]at hr;obtain⟨tx,σ1,h1,h2⟩:=fS hr;obtain⟨rfl,Z2⟩:=iv hI.tmr hx h1;cases tx with
 |ptr p vs=>
 simp only at h2;obtain⟨_,σ2,h3,h4⟩:=fS h2;have e1:σ2=σ1:=(gz h3).1;have e2:=(gz h3).2;subst e1;generalize hz:a.eval x'=z at Z2;cases Z2 with
  |ptr V0 h0 hv h=>
  obtain⟨Z8,ad,t0,ha,rfl,_⟩:=h e2;cases n with
  |none=>obtain⟨dd,hu,Yp,hd2⟩:=hn;simp only at h4;obtain⟨t',σ4,h40,h8⟩:=fS h4;rw[Pl]at h40;obtain⟨t1,σ3,h5,h7⟩:=fS h40;obtain⟨e3,hg⟩:=iQ h5;have e3:σ3=σ2:=e3;subst e3;obtain⟨hB,u,fp,YS,hown,ZB⟩:=hI.named Z8 ha hg (vR h7);obtain⟨rfl,ZW⟩:=xQ hI Z8 hg hown ZB h7;refine kV hI hd hN ZW h8 ?_;simp[execOp,ho,hz,Instr.loadAt,Instr.sureAddr,loadVar,uE hu Yp hd2,YS]|some n=>
  obtain⟨⟨dd,hu,Yp⟩,hsz⟩:=hn;simp only at h4;obtain⟨l,σ3,h5,h6⟩:=fS h4;obtain⟨rfl,e3,us,e4,e5⟩:=LQ hI Z8 ha h5;refine kV hI hd hN (x:=.agg us.toArray) (.agg (by simp[e3,e4]) λj hj=>by have:=(e5 j hj (by omega)).2;simpa[show j<us.length by omega]using this) h6 ?_;have ZG:=o6 ha;have ZZ:=run_loadCells_list (P:=P) w ad us λj v hj=>by obtain⟨hlt,rfl⟩:=oGS hj;have:=(e5 j (by omega) hlt).1;obtain⟨b,o,s⟩:=ad;simp only at ZG;subst ZG;rw[je];exact this
  have Yx:(sizeOf t).run P w=.ok n w:=by unfold sizeOf typeInfo;cases hi:P.info? t with|none=>simp[hi]at hsz|some i=>simp[hi]at hsz;simp[hi,hsz]
  rw[e4]at ZZ;simp[execOp,ho,hz,Instr.loadAt,Instr.sureAddr,loadVar,sY hu Yp,Yx,ZZ]
 |ip cs=>
 simp only at h2;generalize hz:a.eval x'=z at Z2;cases Z2 with
  | @ip _ b ob u hc hrr=>
  cases hl:loadIp n cs with
  |none=>simp[hl,SP.run]at h2|some t'=>
  simp only[hl]at h2;cases n with
  |none=>
  obtain⟨dd,hu,Yp,hd2⟩:=hn;unfold loadIp at hl;simp only at hl;have hlen:0<cs.length:=by cases cs<;>simp at hl⊢
  obtain⟨_,YS⟩:=hc 0 hlen;have ZK:=hrr 0 hlen;have ZW:TmR w (G.F M.A) σ1.v (gG M σ1 []) G t' (u 0):=by cases cs with|nil=>simp at hlen|cons c0 cs=>simp only[List.getElem_cons_zero]at ZK;cases c0 with|v x=>simp only[oSJ]at hl;subst hl;exact ZK.toTm|sl c=>simp only[oSJ]at hl;subst hl;exact ZK.toTm|ip l=>simp only[oSJ]at hl;subst hl;exact ZK.toTm|fn f l=>simp only[oSJ]at hl;subst hl;exact ZK.toTm|_=>simp at hl
  refine kV hI hd hN ZW h2 ?_;rw[Nat.add_zero]at YS;simp[execOp,ho,hz,Instr.loadAt,Instr.sureAddr,loadVar,uE hu Yp hd2,YS]
  |some n=>
  obtain⟨⟨dd,hu,Yp⟩,hsz⟩:=hn;unfold loadIp at hl;simp only at hl;split at hl;rename_i Z1;simp only[oBA,oDE]at Z1;injection hl with hl
  subst hl;have hlen:(cs.take n).length=n:=by simp;omega
  refine kV hI hd hN (x:=.agg ((List.range n).map u).toArray) (.agg (by simp;omega) λj hj=>?_) h2 ?_;have hjn:j<n:=by omega
  have hjc:j<cs.length:=by omega
  have ZK:=hrr j hjc;have hal:=oAE.1 Z1.2 _ (oGX hj);have e:(cs.take n)[j]=cs[j]:=List.getElem_take;rw[e]at hal⊢;have e2:((List.range n).map u).toArray.getD j undef=u j:=by simp[hjn]
  rw[e2];cases hcj:cs[j]with|v x=>rw[hcj]at ZK;exact ZK.toTm|sl c=>rw[hcj]at ZK;exact ZK.toTm|_=>rw[hcj]at hal;simp at hal
  have ZZ:=run_loadCells_list (P:=P) w ⟨b,ob,none⟩ ((List.range n).map u) λj v hj=>by rw[oGP]at hj;rcases Nat.lt_or_ge j n with h|h;rw[List.getElem?_range h]at hj;rw[je,<- hj];exact(hc j (by omega)).2;rw[oGN (by simpa using h)]at hj;simp at hj
  have Yx:(sizeOf t).run P w=.ok n w:=by unfold sizeOf typeInfo;cases hi:P.info? t with|none=>simp[hi]at hsz|some i=>simp[hi]at hsz;simp[hi,hsz]
  rw[oLP,List.length_range]at ZZ;simp[execOp,ho,hz,Instr.loadAt,Instr.sureAddr,loadVar,sY hu Yp,Yx,ZZ];simp at hl
 |_=>simp[SP.run]at h2
end
section
variable {P:Program} {M:Fm} {σ σ':St} {H:U_} {xs:w_} {ts:s_} {w:World} {G:Gh} {a:Act} {o:Oper}
theorem LN{p:gl}{t:TV}(h:(xj p t).run σ=some ((),σ')):∃old l vr,gJ (σ.c p.root p.off) p.hops=some old/\gI σ.ce p.root=some l/\p.off<l.length/\σ'=⟨σ.tm,iW σ.ce p.root (l.set p.off (iU (σ.c p.root p.off) p.hops t)),vr⟩/\lP σ'.v p.root p.off p.hops.length=lP σ.v p.root p.off p.hops.length:=by
 unfold xj at h;simp only[SP.run]at h;cases hg:gJ (σ.c p.root p.off) p.hops with
 |none=>simp[hg,SP.run]at h|some old=>
 simp only[hg]at h;split at h;split at h;obtain⟨l,hl,ho,h3⟩:=gL h;simp[SP.run,true_and]at h3;refine⟨old,l,_,rfl,hl,ho,h3.symm,?_⟩;rw[n5];have hv:∀q,σ'.v q=σ.v q+if(p.root,p.off,p.hops.length+1)=q then 1 else 0:=λq=>by rw[<- h3];exact jC σ.vr _ q
 refine⟨by simp_all,λd hd=>?_⟩;rw[hv,oIN];omega;intro e;simp_all;simp[SP.run]at h;obtain⟨l,hl,ho,h3⟩:=gL h;simp[SP.run,true_and]at h3;refine⟨old,l,_,rfl,hl,ho,h3.symm,?_⟩;have hv:σ'.v=σ.v:=by rw[<- h3];rfl
 rw[hv]
theorem Pb:∀{rest:U_}{k:Nat}{σ σ':St}{H:U_}{w:World}{G:Gh}{p:gl}{ad:Addr},Inv M σ H xs ts w G->p.root≠1->G.addr w p=some ad->H.drop k=rest->rest≠[]->(∀j (h:j<H.length),k<=j->H[j]≠.dead)->(putL p rest).run σ=some ((),σ')->(∀j,j<rest.length->(w.cell? ⟨ad.block,ad.off+j,none⟩).isSome=true/\w.frozen? ⟨ad.block,ad.off+j,none⟩=false)/\∃G' H',Inv M σ' H' xs ts (w.setCells ad.block ad.off (xs.drop k)) G'/\H'.length=H.length/\(∀j (h:j<H'.length),k<=j->H'[j]=.dead)/\(∀j (h:j<H'.length)(h':j<H.length),j<k->H'[j]=H[j])/\σ'.tm=σ.tm/\nZ M w σ H G (w.setCells ad.block ad.off (xs.drop k)) σ' H' G'/\G'.β=G.β:=by
 intro rest;induction rest with
 |nil=>intro k σ σ' H w G p ad _ _ _ _ h;exact absurd rfl h|cons t rest ih=>
 intro k σ σ' H w G p ad hI h1 ha X3 _ Zq hr;have hk:k<H.length:=by rcases Nat.lt_or_ge k H.length with h|h;exact h;rw[List.drop_of_length_le h]at X3;simp at X3
 have hH:H[k]=t/\H.drop (k+1)=rest:=by
  rw[List.drop_eq_getElem_cons hk]at X3;injection X3 with e1 e2
  exact⟨e1,e2⟩
 obtain⟨rfl,ZU⟩:=hH;simp only[putL]at hr;obtain⟨_,σ1,h2,h3⟩:=fS hr;obtain⟨old,l,vr,hg,hl,ho,hσ1,XE⟩:=LN h2;have hB:G.addrB w p=some ad:=by refine ql ha λhp b o0 n hb=>?_;have:=hI.shape _ _ _ _ hb l hl;omega
 have hgE:gJ (gG M σ H p.root p.off) p.hops=some old:=by rw[gF (by exact h1)];exact hg
 obtain⟨⟨u,YS⟩,hfr,G1,hI1,hm,Zj,hβ⟩:=hI.put h1 hB hgE hk (Zq k hk (oLE _)) h2;obtain⟨t',YI,_⟩:=hm.keeps.ptr p ad old h1 XE ha hgE;have ZG:=o6 ha;have hxk:k<xs.length:=by rw[<- hI.hand];exact hk
 have hxd:xs.drop k=xs[k]::xs.drop (k+1):=List.drop_eq_getElem_cons hxk;have Y4:(⟨ad.block,ad.off,none⟩:Addr)=ad:=by obtain⟨b,o,s⟩:=ad;simp only at ZG;subst ZG;rfl
 have Z5:xs.getD k undef=xs[k]:=by simp[hxk]
 rw[Z5]at hI1 hm YI;cases rest with
 |nil=>
 simp only[SP.run,oSJ,oPJ,true_and]at h3;subst h3;have hlen:xs.drop (k+1)=[]:=by
  apply List.drop_of_length_le;have:H.length<=k+1:=by simp_all
  rw[<- hI.hand];exact this
 refine⟨λj hj=>?_,G1,H.set k .dead,?_,by simp,λj hj hkj=>?_,λj hj ZR hjk=>by rw[List.getElem_set];rw[oIN (by omega)],Zj,?_,hβ⟩;obtain rfl:j=0:=by simp at hj;omega
 rw[Nat.add_zero,Y4];exact⟨by rw[YS];rfl,hfr⟩;rw[hxd,hlen];simp only[World.setCells,Y4];exact hI1;have hj2:j<H.length:=by simpa using hj
 have:H.length<=k+1:=by rcases Nat.lt_or_ge (k+1) H.length with h|h;have:=congrArg List.length ZU;simp at this;omega;exact h
 obtain rfl:j=k:=by omega
 simp;rw[hxd,hlen];simp only[World.setCells,Y4];exact hm
 |cons t2 rest=>
 simp only at h3;split at h3;obtain⟨ZL,G2,H2,ZQ,e1,e2,e3,e4,e5,e6⟩:=ih (k:=k+1) hI1 (by rw[iH];exact h1) (tP 1 YI) (by rw[<- ZU];apply oEG;intro i;simp only[List.getElem?_drop,List.getElem?_set];rw[oIN (by omega)]) (by simp)
  (λj hj hkj=>by rw[List.getElem_set,oIN (by omega)];exact Zq j (by simpa using hj) (by omega)) h3
 refine⟨λj hj=>?_,G2,H2,?_,by simpa using e1,λj hj hkj=>?_,λj hj ZR hjk=>?_,e4.trans Zj,?_,e6.trans hβ⟩;cases j with
 |zero=>rw[Nat.add_zero,Y4];exact⟨by rw[YS];rfl,hfr⟩|succ j=>
  have:=ZL j (by simpa using hj);simp only at this;rw[show ad.off+1+j=ad.off+(j+1) by omega]at this;rw[World.frozen?_setCell]at this;refine⟨?_,this.2⟩;have hne:ad≠⟨ad.block,ad.off+(j+1),none⟩:=λe=>by have:=congrArg Addr.off e;simp at this
  rw[World.cell?_setCell_other w ad _ _ hne]at this;exact this.1
 rw[hxd];simp only[World.setCells,Y4];exact ZQ;by_cases hjk:j=k;subst hjk;rw[e3 j hj (by rw[e1]at hj;exact hj) (by omega)];simp;exact e2 j hj (by omega);have:=e3 j hj (by rw[oLS];exact ZR) (by omega);rw[this,List.getElem_set,oIN (by omega)];rw[hxd];simp only[World.setCells,Y4];exact hm.trans e5;simp[SP.run]at h3
theorem zT{mv:Bool}{t:TV}{x:Value}{l:U_}(hI:Inv M σ [] [] ts w G)(hx:TmR w (G.F M.A) σ.v (gG M σ []) G t x)(hr:(takeL mv (su t)).run σ=some (l,σ')):∃G',qd M w ts σ [] G σ' l x.cells.toList G'/\(∀y∈x.cells.toList,y.oneCell'=true)/\(∀j (h:j<l.length),iB l[j]=true\/oi l[j]=true)/\l.length=x.cells.size:=by
 by_cases ht:∃q,t=.agg q;obtain⟨q,rfl⟩:=ht;obtain⟨xs,rfl,hl,hj⟩:=Qt hx;obtain⟨e1,e2,G',hg⟩:=vI (ys:=xs.toList) hI (by simp[hl,su]) (λj h=>by have h':j<q.length:=h;have:=hj j h';simpa[su]using this) hr;exact⟨G',by simpa[Value.cells]using hg,by simpa[Value.cells]using e2,vJ hr,by rw[e1];simp[su,Value.cells,hl]⟩;have e:su t=[t]:=by cases t<;>first|rfl|exact absurd ⟨_,rfl⟩ ht
 rw[e]at hr;have XN:x.cells=#[x]:=by have ⟨t',σ1,h1,h2⟩:=fS hr;have ⟨G',hg,ho⟩:=md hI hx h1;cases x<;>first|rfl|simp[Value.oneCell']at ho
 have ⟨e1,e2,G',hg⟩:=vI (ys:=[x]) hI (by simp) (λj h=>by
  obtain rfl:j=0:=by simp_all
  simpa using hx) hr
 rw[XN];exact⟨G',by simp_all,by omega,vJ hr,by omega⟩
theorem Da{l:U_}(h:∀j (h:j<l.length),iB l[j]=true\/oi l[j]=true):∀j (h:j<l.length),l[j]≠.dead:=by intro j hj e;have:=h j hj;rw[e]at this;simp[iB,oi]at this
theorem Od(hI:Inv M σ [] [] a.tmps w G){d n:Nat}{mv:Bool}(hd:o.dst=none){x y:Opd}{x' y':Operand}{t:TypeId}(hx:gc x'=some x)(hy:gc y'=some y)(ho:o.op=.store t x' y')(hn:(P.info? t).map (·.size)=some n)(hn0:0<n) (hr:(ev1 d (.store n mv x y)).run σ=some ((),σ')):r9 P M σ' a o w:=by
 obtain⟨tx,σ1,h1,h2⟩:=fS hr;obtain⟨rfl,Z2⟩:=iv hI.tmr hx h1;cases tx with
 |ptr p vs=>
 obtain⟨ty,σ2,h3,h4⟩:=fS h2;obtain⟨rfl,U'⟩:=iv hI.tmr hy h3;obtain⟨l,σ3,h5,h6⟩:=fS h4;obtain⟨G1,hg,YP,hok,hlen⟩:=zT hI U' h5;split at h6;case isFalse=>simp[SP.run]at h6
 rename_i hln;obtain⟨_,σ4,h7,h8⟩:=fS h6;have e1:σ4=σ3:=(gz h7).1;have e2:=(gz h7).2;subst e1;have YB:=hg.tm Z2;generalize hz:a.eval x'=z at YB;cases YB with
  |ptr V0 h0 hv h=>
  obtain⟨Z8,ad,t0,ha,rfl,_⟩:=h e2;have hne:l≠[]:=λe=>by simp_all
  obtain⟨hc,G2,H2,ZQ,e3,e4,_,e5,_⟩:=Pb (k:=0) hg.1 Z8 ha (by simp) hne (λj hj _=>Da hok j hj) h8;have ZG:=o6 ha;have Y4:ad=⟨ad.block,ad.off,none⟩:=by obtain⟨b,o,s⟩:=ad;simp only at ZG;subst ZG;rfl
  have hst:=run_storeCells_cells (P:=P) ad.block ad.off (a.eval y').cells.toList 0 w (λj hj=>by have:=(hc j (by rw[Array.length_toList]at hj;omega)).1;simpa using this) (λj hj=>by have:=(hc j (by rw[Array.length_toList]at hj;omega)).2;simpa using this) YP;rw[<- Y4]at hst;have Yx:(sizeOf t).run P w=.ok n w:=by unfold sizeOf typeInfo;cases hi:P.info? t with|none=>simp_all|some i=>simp[hi]at hn;simp[hi,hn]
  refine⟨.skip,undef,w.setCells ad.block ad.off (a.eval y').cells.toList,G2,?_,.inr ⟨rfl,rfl⟩,?_⟩;have hcs:(a.eval y').cells.size=n:=by rw[<- hlen,hln]
  simp[execOp,ho,hz,Instr.storeAt,Instr.sureAddr,storeVar,Yx,hcs];rw[show(storeCells ad (a.eval y').cells.toList).run P w=.ok () (w.setCells ad.block (ad.off+0) (a.eval y').cells.toList)from hst];rfl;have hclr:=ZQ.clear (λj hj=>e4 j hj (Nat.zero_le _));have:(a.put o.dst undef).tmps=a.tmps:=by rw[hd];rfl
  rw[this];simpa using hclr
 |_=>simp[SP.run]at h2
end
theorem EZ{w:World}{hs:L_}{k sz n cap:Nat}{ad:Addr}:∀{x:Value},hvT w x hs=some (.slice (some ad) n cap)->k<n->gP w x (hs++[(k,sz,0)])=some ⟨ad.block,ad.off+(k*sz+0),none⟩:=by
 induction hs with
 |nil=>intro x h hk;simp only[hvT,oSJ]at h;subst h;simp[gP,hk]|cons hp hs ih=>
 obtain⟨i,sz',o⟩:=hp;intro x h hk;simp only[hvT]at h;cases x with
 |slice a l c=>
 cases a with
  |none=>cases hs<;>simp[gP]at h|some a=>
  cases hs with
  |nil=>simp only[gP]at h;split at h;rename_i hi;simp at h;simp only[List.cons_append,oNA,gP,hi,if_true,h,hk];simp at h|cons h2 YY=>
  simp only[gP]at h;split at h;rename_i hi;cases hc:w.cell? ⟨a.block,a.off+(i*sz'+o),none⟩with|none=>simp_all|some y=>simp only[hc]at h;have:=ih (x:=y) (by simp only[hvT];exact h) hk;simp only[gP,List.cons_append,hi,if_true,hc];exact this
  simp at h
 |_=>cases hs<;>simp[gP]at h
theorem Jx{hs:L_}{k sz:Nat}{c:o_}{el:U_}:∀{t:TV},gJ t hs=some (.ow c)->c[k]?=some el->el.length=sz->0<sz->∃t',gJ t (hs++[(k,sz,0)])=some t':=by
 induction hs with
 |nil=>
 intro t h hk hs h0;simp[gJ]at h;subst h;have:el[0]?=some el[0]:=by simp_all
 exact⟨el[0],by simp[gJ,hk,hs,this]⟩
 |cons hp hs ih=>intro t h hk hsz h0;obtain⟨c',el',t2,rfl,hc,hz,ho,Z5⟩:=jc h;have ⟨t',h'⟩:=ih Z5 hk hsz h0;exact⟨t',by simp[gJ,hc,hz,ho,h']⟩
theorem L6{hs:L_}{i sz o n:Nat}:∀{t t1:TV},gJ t (hs++[(i,sz,o)])=some t1->o+n<sz->∃t',gJ t (hs++[(i,sz,o+n)])=some t':=by
 induction hs with
 |nil=>
 intro t t1 h hlt;obtain⟨c',el',t2,rfl,hc,hz,ho,Z5⟩:=jc h;have:el'[o+n]?=some el'[o+n]:=by simp_all
 exact⟨el'[o+n],by simp[gJ,hc,hz,this]⟩
 |cons hp hs ih=>intro t t1 h hlt;obtain⟨c',el',t2,rfl,hc,hz,ho,Z5⟩:=jc h;have ⟨t',h'⟩:=ih Z5 hlt;exact⟨t',by simp[gJ,hc,hz,ho,h']⟩
section
variable {P:Program} {M:Fm} {σ σ':St} {H:U_} {xs:w_} {ts:s_} {w:World} {G:Gh} {a:Act} {o:Oper}
theorem Inv.addHandL:∀{z:w_}{H:U_}{xs:w_}{G:Gh},Inv M σ H xs ts w G->(z.map iY).all iB=true->∃G',qd M w ts σ H G σ (H++z.map iY) (xs++z) G':=by
 intro z;induction z with
 |nil=>intro H xs G hI _;exact⟨G,by simpa using qd.refl hI⟩|cons x z ih=>
 intro H xs G hI hz;simp only[oPC,List.all_cons,oBA]at hz;have hx:jS w (G.F M.A) (λ_=>False) (iY x) x:=by
  have h1:=hz.1;unfold iY at h1⊢;split;exact .nil (by simp);split;rename_i h;exact .v (by simp) h;rename_i h;have hh:iB TV.dead=true:=by simp_all
  simp[iB]at hh
 have ⟨G1,g1⟩:=hI.addHand hx;have ⟨G2,g2⟩:=ih g1.1 hz.2;exact⟨G2,by simpa using g1.trans g2⟩
theorem Tc{H:U_}{xs:w_}(hI:Inv M σ H xs a.tmps w G){d:Nat}(hd:o.dst=some d)(hN:M.ok d)(Y1:M.pr (2*d+2)=none)(e:TypeId){w0:World} (hr:(SP.new (2*d+2) H (.rdV (2*d+2,0,0) λg=>wr d (.ptr ⟨2*d+2,0,[]⟩ [g]))).run σ=some ((),σ'))(hrun:(execOp a.eval o).run P w0=.ok (.value (.pointer (some ⟨w.heap.size,0,none⟩))) (w.alloc (.cells xs.toArray e))):r9 P M σ' a o w0:=by obtain⟨G',Zz,_,hβ⟩:=hI.newBox (2*d+2) e (by omega) Y1 (by omega);have XZ:(wr d (.ptr ⟨2*d+2,0,[]⟩ [(σ.root (2*d+2) H).v (2*d+2,0,0)])).run (σ.root (2*d+2) H)=some ((),σ'):=hr;simp only[wr,SP.run,oSJ,oPJ,true_and]at XZ;subst XZ;refine⟨_,_,_,G',hrun,.inl rfl,?_⟩;rw[hd];refine Zz.wrT hN (.ptr (σ.root (2*d+2) H).v (λ_=>oLE _) (by simp[lP]) λ_=>⟨by show(2*d+2:Nat)≠1;omega,⟨w.heap.size,0,none⟩,_,?_,rfl,rfl⟩);unfold Gh.addr;simp only[hβ]
theorem OE(hI:Inv M σ [] [] a.tmps w G){d:Nat}(hd:o.dst=some d)(hN:M.ok d)(Y1:M.pr (2*d+2)=none){e:TypeId}{z:w_}(ho:o.op=.alloc e)(hz:(P.info? e).bind (·.zero.map (·.cells.toList))=some z) (hr:(ev1 d (.alloc z)).run σ=some ((),σ')):r9 P M σ' a o w:=by
 simp only[ev1]at hr;split at hr;case isFalse=>simp[SP.run]at hr
 rename_i hok;obtain⟨G1,hg⟩:=hI.addHandL hok;simp only[oNA]at hg;refine Tc hg.1 hd hN Y1 e hr ?_;cases hi:P.info? e with
 |none=>simp[hi]at hz|some i=>
 simp only[hi,oBS]at hz;cases hiz:i.zero with
 |none=>simp[hiz]at hz|some v=>
 simp only[hiz,oMS,oSJ]at hz;have hv:v.cells=z.toArray:=by rw[<- hz]
 simp[execOp,ho,Instr.alloc,zeroValue,typeInfo,hi,hiz,newVar,newRow,hv]
theorem TL(hI:Inv M σ [] [] a.tmps w G){d n:Nat}{mv:Bool}(hd:o.dst=some d)(hN:M.ok d)(Y1:M.pr (2*d+2)=none){x:Opd}{x':Operand}{e:TypeId}(hx:gc x'=some x)(ho:o.op=.box e x') (hr:(ev1 d (.box n mv x)).run σ=some ((),σ')):r9 P M σ' a o w:=by
 simp only[ev1]at hr;obtain⟨t,σ1,h1,h2⟩:=fS hr;obtain⟨rfl,ht⟩:=iv hI.tmr hx h1;obtain⟨l,σ2,h3,h4⟩:=fS h2;obtain⟨G1,hg,YP,hok,hlen⟩:=zT hI ht h3;split at h4;case isFalse=>simp[SP.run]at h4
 refine Tc hg.1 hd hN Y1 e h4 ?_;simp[execOp,ho,Instr.box,newVar,newRow]
theorem TH(hI:Inv M σ [] [] a.tmps w G){d:Nat}(hd:o.dst=some d)(hN:M.ok d){x:Opd}{x':Operand}{s f:Nat}{ZO:Array Field}{fd:Field}(hx:gc x'=some x)(ho:o.op=.fieldAddr s x' f) (hu:P.underlying s=some (.struct ZO))(hf:ZO[f]?=some fd)(hs:∃n,(P.info? fd.type).map (·.size)=some (n+1))(hr:(ev1 d (.fld fd.offset x)).run σ=some ((),σ')):r9 P M σ' a o w:=by
 obtain⟨nf,hs⟩:=hs;have Yx:(sizeOf fd.type).run P w=.ok (nf+1) w:=by unfold sizeOf typeInfo;cases hi:P.info? fd.type with|none=>simp[hi]at hs|some i=>simp[hi]at hs;simp[hi,hs]
 simp only[ev1]at hr;obtain⟨tx,σ1,h1,h2⟩:=fS hr;obtain⟨rfl,Z2⟩:=iv hI.tmr hx h1;cases tx with
 |ptr p vs=>
 simp only at h2;obtain⟨_,σ2,h3,h4⟩:=fS h2;have e1:σ2=σ1:=(gz h3).1;have e2:=(gz h3).2;subst e1;split at h4;case isFalse=>simp[SP.run]at h4
 rename_i Z4;generalize hz:a.eval x'=z at Z2;cases Z2 with
  |ptr V0 h0 hv h=>
  obtain⟨Z8,ad,t0,ha,rfl,hg0⟩:=h e2;refine kV hI hd hN (x:=.pointer (some (ad.add fd.offset))) ?_ h4 (by simp[execOp,ho,hz,Instr.fieldAt,Instr.sureAddr,run_underlying hu,hf,fieldPlace,Yx]);refine .ptr V0 h0 (by rw[Lq];exact hv) λ_=>⟨by rw[iH];exact Z8,⟨ad.block,ad.off+fd.offset,none⟩,?_⟩;have ZG:=o6 ha;have XU:ad.add fd.offset=⟨ad.block,ad.off+fd.offset,none⟩:=by obtain⟨b,ob,sp⟩:=ad;simp only at ZG;subst ZG;exact je b ob fd.offset
  rcases p.add_cases fd.offset with⟨q1,q2⟩|⟨hs',i,sz,o',q1,q2⟩;exact⟨gG M σ2 [] p.root (p.off+fd.offset),tP _ ha,by rw[XU],by rw[q2];rfl⟩;have hlt:o'+fd.offset<sz:=by unfold gl.fits at Z4;rw[q1]at Z4;simpa using Z4
  rw[q1]at hg0;obtain⟨t',ZW⟩:=L6 hg0 hlt;exact⟨t',tP _ ha,by rw[XU],by rw[q2];exact ZW⟩
 |ip cs=>
 simp only at h2;split at h2;case isFalse=>simp[SP.run]at h2
 rename_i hlt;generalize hz:a.eval x'=z at Z2;cases Z2 with| @ip _ b ob u hc hrr=>refine kV hI hd hN (x:=.pointer (some ⟨b,ob+fd.offset,none⟩)) ?_ h2 (by simp[execOp,ho,hz,Instr.fieldAt,Instr.sureAddr,run_underlying hu,hf,fieldPlace,Yx,je]);refine .ip (λj=>u (fd.offset+j)) (λj hj=>?_) λj hj=>?_;have:=hc (fd.offset+j) (by simp at hj;omega);rw[show ob+fd.offset+j=ob+(fd.offset+j) by omega];exact this;have:=hrr (fd.offset+j) (by simp at hj;omega);simpa[List.getElem_drop]using this
 |_=>simp[SP.run]at h2
theorem TI(hI:Inv M σ [] [] a.tmps w G){d:Nat}(hd:o.dst=some d)(hN:M.ok d){x:Opd}{x':Operand}{i:Nat}(hx:gc x'=some x)(ho:o.op=.extract x' i)(hr:(ev1 d (.ext x i)).run σ=some ((),σ')):r9 P M σ' a o w:=by
 simp only[ev1]at hr;obtain⟨tx,σ1,h1,h2⟩:=fS hr;obtain⟨rfl,Z2⟩:=iv hI.tmr hx h1;cases tx with
 |tup l=>
 simp only at h2;split at h2;case isFalse=>simp[SP.run]at h2
 rename_i hlt;generalize hz:a.eval x'=z at Z2;cases Z2 with
  | @tup _ xs hl h=>
  have hlt':i<xs.size:=by omega
  have ht:=h i hlt;have e1:l.getD i .dead=l[i]:=by simp[hlt]
  have e2:xs.getD i undef=xs[i]:=by simp[hlt']
  rw[e1]at h2;rw[e2]at ht;exact kV hI hd hN ht h2 (by simp[execOp,ho,hz,Instr.extract,hlt'])
 |_=>simp[SP.run]at h2
end
section
variable {P:Program} {M:Fm} {σ σ':St} {H:U_} {xs:w_} {ts:s_} {w:World} {G:Gh} {a:Act} {o:Oper}
theorem zX(hI:Inv M σ H xs ts w G){p:gl}{c:o_}{x:Value}(hv:G.hv w p=some x)(hg:gJ (gG M σ H p.root p.off) p.hops=some (.ow c)):∃fp,jS w (G.F M.A) fp (.ow c) x:=by
 have ⟨u,fp,h1,h2,_⟩:=hI.core.hv_own p hg (by simp);rw[hv]at h1;injection h1 with h1
 exact⟨fp,h1▸h2⟩
theorem CL(c:o_)(k:Nat):(c.map List.length).getD k 0=(c.getD k []).length:=by grind
theorem TF(hI:Inv M σ [] [] a.tmps w G){d:Nat}(hd:o.dst=some d)(hN:M.ok d){x i:Opd}{x' i':Operand}{t e sz:Nat}(hx:gc x'=some x)(hi:gc i'=some i)(ho:o.op=.indexAddr t x' i') (hu:P.underlying t=some (.slice e))(hs:(P.info? e).map (·.size)=some sz)(hr:(ev1 d (.idx sz x i)).run σ=some ((),σ')):r9 P M σ' a o w:=by
 have Yx:(sizeOf e).run P w=.ok sz w:=by unfold sizeOf typeInfo;cases hi:P.info? e with|none=>simp[hi]at hs|some i=>simp[hi]at hs;simp[hi,hs]
 simp only[ev1]at hr;obtain⟨tx,σ1,h1,h2⟩:=fS hr;obtain⟨rfl,Z2⟩:=iv hI.tmr hx h1;obtain⟨ti,σ2,h3,h4⟩:=fS h2;obtain⟨rfl,Xw⟩:=iv hI.tmr hi h3;obtain⟨k,σ3,h5,h6⟩:=fS h4;obtain⟨ik,n,rfl,hn0,hk,rfl⟩:=vU h5;obtain⟨ei,_⟩:=Xw.v_inv;have run:∀(b:Addr)(len cap:Nat),a.eval x'=.slice (some b) len cap->k<len->(execOp a.eval o).run P w=.ok (.value (.pointer (some (b.add (k*sz))))) w:=by
  intro b len cap hxx hlt;have hlt':n<(len:Int):=by omega
  subst hk;simp[execOp,ho,hxx,ei,Instr.indexAt,asIntOf,run_underlying hu,hn0,hlt',Yx]
 cases tx with
 |pk p vs=>
 simp only at h6;obtain⟨_,σ4,h7,h8⟩:=fS h6;have e1:σ4=σ3:=(gz h7).1;have e2:=(gz h7).2;subst e1;rw[F4]at h8;obtain⟨tt,σ5,h9,h10⟩:=fS h8;obtain⟨e3,hg⟩:=iQ h9;have e3:σ5=σ4:=e3;subst e3;generalize hz:a.eval x'=z at Z2 run;cases Z2 with
  |pk V0 h0 hv h=>
  obtain⟨Z8,c,ZB,ZA⟩:=h e2;have Zo:gJ (σ5.c p.root p.off) p.hops=some (.ow c):=by rw[gF (by exact Z8)]at ZA;exact ZA
  rw[Zo]at hg;injection hg with hg
  subst hg;simp only[TV.hd]at h10;split at h10;case isFalse=>simp[SP.run]at h10
  rename_i Z1;rw[CL]at Z1;simp only[oBA,oDE,beq_iff_eq,oLP]at Z1;obtain⟨⟨hlt,YW⟩,Z0⟩:=Z1;obtain⟨fp,hown⟩:=zX hI ZB ZA;have YR:c[k]?=some c[k]:=oGE hlt;have hlen:c[k].length=sz:=by simpa[hlt]using YW
  cases hown with
  |nil=>simp at hlt| @ow _ _ b cap cur e' sz' u f hfp hb hsz hcap hz0 hmax hcur hcell hrec hnb hdis=>
  refine kV hI hd hN ?_ h10 (run _ _ _ rfl hlt);obtain⟨t',ZW⟩:=Jx ZA YR hlen Z0;refine .ptr V0 h0 (by simpa[gl.at_]using hv) λ_=>⟨Z8,⟨b,k*sz,none⟩,t',?_,by rw[je,Nat.zero_add],ZW⟩;have:=EZ (sz:=sz) ZB hlt;unfold Gh.addr gl.at_;simp only;obtain⟨Yy,tl,hht⟩:∃hd tl,p.hops++[(k,sz,0)]=hd::tl:=by cases p.hops<;>exact⟨_,_,rfl⟩
  rw[hht];simp only;rw[<- hht,this];simp
 |pw p vs sz' lo m=>
 simp only at h6;obtain⟨_,σ4,h7,h8⟩:=fS h6;have e1:σ4=σ3:=(gz h7).1;have e2:=(gz h7).2;subst e1;obtain⟨tt,σ5,h9,h10⟩:=fS h8;obtain⟨e3,hg⟩:=iQ h9;have e3:σ5=σ4:=e3;subst e3;generalize hz:a.eval x'=z at Z2 run;cases Z2 with
  |pw V0 h0 hv h=>
  obtain⟨Z8,c,Yp,ZB,ZA,hln,a',cap,rfl,hmc,hmx,hnil,hszs,hpos0⟩:=h e2;have Zo:gJ (σ5.c p.root p.off) p.hops=some (.ow c):=by rw[gF (by exact Z8)]at ZA;exact ZA
  rw[Zo]at hg;injection hg with hg
  subst hg;simp only at h10;split at h10;case isFalse=>simp[SP.run]at h10
  rename_i Z1;simp only[oBA,oDE,beq_iff_eq]at Z1;obtain⟨⟨⟨hlt,YW⟩,rfl⟩,Z0⟩:=Z1;obtain⟨b,len,ZS,rfl,rfl⟩:=hpos0 (by omega);have qN:lo+k<c.length:=by omega
  have YR:c[lo+k]?=some c[lo+k]:=oGE qN;have hlen:c[lo+k].length=sz':=by simpa[qN]using YW
  obtain⟨fp,hown⟩:=zX hI ZB ZA;obtain⟨aa,cp,Y',hle⟩:=hown.hdr;injection Y' with _ hsl1 _
  refine kV hI hd hN ?_ h10 (run _ _ _ rfl hlt);obtain⟨t',ZW⟩:=Jx ZA YR hlen Z0;refine .ptr V0 h0 (by simpa[gl.at_]using hv) λ_=>⟨Z8,⟨b,(lo+k)*sz',none⟩,t',?_,by rw[je,Nat.add_mul],ZW⟩;have:=EZ (k:=lo+k) (sz:=sz') ZB (by omega);unfold Gh.addr gl.at_;simp only;obtain⟨Yy,tl,hht⟩:∃hd tl,p.hops++[(lo+k,sz',0)]=hd::tl:=by cases p.hops<;>exact⟨_,_,rfl⟩
  rw[hht];simp only;rw[<- hht,this];simp
 |sl c=>
 simp only at h6;split at h6;case isFalse=>simp[SP.run]at h6
 rename_i Z1;simp only[oBA,oDE,beq_iff_eq]at Z1;obtain⟨⟨hlt,YW⟩,Z0⟩:=Z1;generalize hz:a.eval x'=z at Z2 run;cases Z2 with
  |sl ZK=>
  cases ZK with
  | @sl _ aa cap sz' u hsz hcap hmax hnil hcell hrec=>
  have YR:c.getD k []=c[k]:=by simp[hlt]
  rw[YR]at h6 YW;have hsz':sz'=sz:=by rw[<- hsz k hlt,YW]
  subst hsz';obtain⟨b,ob,rfl,_,_⟩:=hcell k 0 hlt Z0;refine kV hI hd hN ?_ h6 (run _ _ _ rfl hlt);rw[je];refine .ip (λj=>u k j) (λj hj=>?_) λj hj=>.im (hrec k j hlt hj);obtain⟨b',o',e4,h7,h8⟩:=hcell k j hlt (by omega);injection e4 with e4
  injection e4 with e5 e6
  subst e5;subst e6;exact⟨h7,by rw[show ob+k*sz'+j=ob+(k*sz'+j) by omega];exact h8⟩
 |_=>simp[SP.run]at h6
theorem Ie{F:Nat->Prop}(hI:Inv M σ [] [] ts w G){t:TV}{x:Value}(hx:TmR w (G.F M.A) σ.v (gG M σ []) G t x){n:Nat}(hr:(wz t).run σ=some (n,σ')):σ'=σ/\∃aa cap,x=.slice aa n cap/\n<=cap:=by
 cases t with
 |sl c=>obtain⟨rfl,rfl⟩:=hr;cases hx with|sl h=>exact⟨rfl,h.hdr⟩
 |ow c=>obtain⟨rfl,ad,rfl⟩:=hx.ow_inv;obtain⟨rfl,rfl⟩:=hr;simp_all|pk p vs=>
 obtain⟨_,σ4,h7,h8⟩:=fS hr;have e1:σ4=σ:=(gz h7).1;have e2:=(gz h7).2;subst e1;rw[F4]at h8;obtain⟨tt,σ5,h9,h10⟩:=fS h8;obtain⟨e3,hg⟩:=iQ h9;subst e3;cases hx with
  |pk V0 h0 hv h=>
  obtain⟨Z8,c,ZB,ZA⟩:=h e2;have Zo:gJ (σ5.c p.root p.off) p.hops=some (.ow c):=by rw[gF (by exact Z8)]at ZA;exact ZA
  rw[Zo]at hg;injection hg with hg
  subst hg;simp only[TV.hd,SP.run,oLP,oSJ,oPJ]at h10;obtain⟨rfl,rfl⟩:=h10;obtain⟨fp,hown⟩:=zX hI ZB ZA;exact⟨rfl,hown.hdr⟩
 |pw p vs sz lo m=>obtain⟨_,σ4,h7,h8⟩:=fS hr;have e1:σ4=σ:=(gz h7).1;have e2:=(gz h7).2;subst e1;obtain⟨rfl,rfl⟩:=h8;cases hx with|pw V0 h0 hv h=>obtain⟨Z8,c,Yp,ZB,ZA,hln,a',cap,rfl,hmc,_⟩:=h e2;exact⟨rfl,_,_,rfl,hmc.1⟩
 |_=>simp[wz,SP.run]at hr
theorem TD(hI:Inv M σ [] [] a.tmps w G){d:Nat}(hd:o.dst=some d)(hN:M.ok d){x:Opd}{x':Operand}{t e:TypeId}(hx:gc x'=some x)(ho:o.op=.call { callee:=.builtin .len,args:=#[x'],argTypes:=#[t] }) (hu:P.underlying t=some (.slice e))(hr:(ev1 d (.len x)).run σ=some ((),σ')):r9 P M σ' a o w:=by obtain⟨tx,σ1,h1,h2⟩:=fS hr;obtain⟨rfl,Z2⟩:=iv hI.tmr hx h1;have ⟨n,σ2,h3,h4⟩:=fS h2;obtain⟨rfl,aa,cap,hxx,_⟩:=Ie (F:=G.F M.A) hI Z2 h3;exact kV hI hd hN (.v rfl) h4 (by simp[execOp,ho,resolve,invoke,builtin,Builtin.len_,hxx,run_underlying hu,goInt])
theorem Ra(hI:Inv M σ [] [] a.tmps w G){d:Nat}(hd:o.dst=some d)(hN:M.ok d){x:Opd}{x':Operand}{t:TypeId}(hx:gc x'=some x)(ho:o.op=.call { callee:=.builtin .len,args:=#[x'],argTypes:=#[t] }) (hu:P.underlying t=some .string)(hr:(ev1 d (.lens x)).run σ=some ((),σ')):r9 P M σ' a o w:=by
 simp only[ev1]at hr;obtain⟨tx,σ1,h1,h2⟩:=fS hr;obtain⟨rfl,Z2⟩:=iv hI.tmr hx h1;cases tx with
 |v y=>obtain⟨hxx,_⟩:=Z2.v_inv;cases y with|string s=>exact kV hI hd hN (.v rfl) h2 (by simp[execOp,ho,resolve,invoke,builtin,Builtin.len_,hxx,run_underlying hu,goInt])|_=>simp[SP.run]at h2
 |_=>simp[SP.run]at h2
theorem PM{F F':Nat->Prop}{fp:Nat->Prop}{t:TV}{x:Value}(h:jS w F fp t x)(hv:isV t=true):jS w F' (λ_=>False) t x:=by cases h with|v _ h=>exact .v (λ_ h=>h) h|_=>simp[isV]at hv
theorem K8{σ σ':St}{tx:TV}{c2:o_}(hn:EI tx=true)(hr:(contentOf tx).run σ=some (c2,σ')):σ'=σ:=by
 have ZV:∀{p:gl}{n:Nat}{vs:N_}{f:TV->SP o_},(∀t y τ τ',(f t).run τ=some (y,τ')->τ'=τ)->((chk p n vs).bind λ_=>(getPl p).bind f).run σ=some (c2,σ')->σ'=σ:=by intro p n vs f hf h;obtain⟨_,σ1,h1,h2⟩:=fS h;have e1:σ1=σ:=(gz h1).1;have ⟨tt,σ2,h3,h4⟩:=fS h2;have e3:σ2=σ1:=(iQ h3).1;rw[hf _ _ _ _ h4,e3,e1]
 cases tx with
 |pk p vs=>refine ZV (λt y τ τ' h=>?_) hr;cases t<;>simp[SP.run]at h;exact h.2.symm|pw p vs sz lo n=>
 refine ZV (λt y τ τ' h=>?_) hr;cases t<;>simp[SP.run]at h
 simp_all
 |_=>simp[EI]at hn
theorem RJ(hI:Inv M σ H xs ts w G){tx:TV}{x:Value}{c2:o_}{sz:Nat}(hn:EI tx=true)(hx:TmR w (G.F M.A) σ.v (gG M σ H) G tx x)(hr:(contentOf tx).run σ=some (c2,σ')) (hf:c2.all (λe=>e.all isV)=true)(hs:∀k (h:k<c2.length),c2[k].length=sz)(F' A:Nat->Prop):σ'=σ/\∃aX capX news,x=.slice aX c2.length capX/\Src w F' A c2 sz aX news (λ_ _ _=>False):=by
 have ZH:∀i j (hi:i<c2.length)(hj:j<c2[i].length),isV c2[i][j]=true:=λi j hi hj=>oAE.1 (oAE.1 hf _ (oGX hi)) _ (oGX hj);cases hx with
 | @pk p vs x V0 h0 hv h=>
 simp only[contentOf]at hr;obtain⟨_,σ1,h1,h2⟩:=fS hr;have e1:σ1=σ:=(gz h1).1;have e2:=(gz h1).2;subst e1;obtain⟨tt,σ2,h3,h4⟩:=fS h2;obtain⟨e3,hg⟩:=iQ h3;have e3:σ2=σ1:=e3;subst e3;obtain⟨Z8,c,ZB,ZA⟩:=h e2;have Zo:gJ (σ2.c p.root p.off) p.hops=some (.ow c):=by rw[gF (by exact Z8)]at ZA;exact ZA
 rw[Zo]at hg;injection hg with hg
 subst hg;simp only[SP.run,oSJ,oPJ]at h4;obtain⟨rfl,rfl⟩:=h4;obtain⟨u,fp,h5,h6,_⟩:=hI.core.hv_own p ZA (by simp);rw[ZB]at h5;injection h5 with h5
 subst h5;obtain⟨aX,capX,news,g,rfl,XL,hnr,YX,_,_,hn1,_⟩:=h6.rows (.inl rfl) hs;exact⟨rfl,aX,capX,news,rfl,XL,hnr,λi j hi hj=>PM (YX i j hi hj) (ZH i j hi hj),λ_ _ _ h=>h.elim,λ_ _ _ _ _ h=>h.elim,hn1⟩
 | @pw p vs Zb lo n x V0 h0 hv h=>
 simp only[contentOf]at hr;obtain⟨_,σ1,h1,h2⟩:=fS hr;have e1:σ1=σ:=(gz h1).1;have e2:=(gz h1).2;subst e1;obtain⟨tt,σ2,h3,h4⟩:=fS h2;obtain⟨e3,hg⟩:=iQ h3;have e3:σ2=σ1:=e3;subst e3;obtain⟨Z8,c,hd,ZB,ZA,hln,a,cap,hx,hncap,hmx,hnil,N0,Y4⟩:=h e2;have Zo:gJ (σ2.c p.root p.off) p.hops=some (.ow c):=by rw[gF (by exact Z8)]at ZA;exact ZA
 rw[Zo]at hg;injection hg with hg
 subst hg;simp only[SP.run,oSJ,oPJ]at h4;obtain⟨rfl,rfl⟩:=h4;have Yd:((c.drop lo).take n).length=n:=by simp;omega
 rcases Nat.eq_zero_or_pos n with hn0|hnp;subst hn0;refine⟨rfl,a,cap,[],by rw[Yd];exact hx,by simp,by simp,λi j hi=>by simp at hi,λ_ _ _ h=>h.elim,λ_ _ _ _ _ h=>h.elim,by simp⟩;have hsz:Zb=sz:=by have e4:=hs 0 (by rw[Yd];exact hnp);rw[<- e4];simp only[List.getElem_take,List.getElem_drop];exact(N0 _ _).symm
 subst hsz;obtain⟨u,fp,h5,h6,_⟩:=hI.core.hv_own p ZA (by simp);rw[ZB]at h5;injection h5 with h5
 subst h5;obtain⟨b,len,ZS,hdv,hav⟩:=Y4 (by omega);obtain⟨aX,capX,news,g,hda,XL,hnr,YX,_,_,hn1,_⟩:=h6.rows (.inl rfl) N0;rw[hdv]at hda;injection hda with hda _ _
 subst hda;have XX:∀k,k<n*Zb->lo*Zb+k<news.length:=λk hk=>by
  rw[XL];calc lo*Zb+k<lo*Zb+n*Zb:=by omega
   _=(lo+n)*Zb:=by rw[Nat.add_mul]
   _<=c.length*Zb:=Nat.mul_le_mul_right _ hln
 have hnews:((news.drop (lo*Zb)).take (n*Zb)).length=n*Zb:=by rw[oLT,List.length_drop,XL];have:(lo+n)*Zb<=c.length*Zb:=Nat.mul_le_mul_right _ hln;rw[Nat.add_mul]at this;omega
 refine⟨rfl,a,cap,(news.drop (lo*Zb)).take (n*Zb),by rw[Yd];exact hx,by rw[Yd];exact hnews,λj u hj=>?_,λi j hi hj=>?_,λ_ _ _ h=>h.elim,λ_ _ _ _ _ h=>h.elim,λu hu=>hn1 u (List.mem_of_mem_drop (List.mem_of_mem_take hu))⟩;have hjl:j<n*Zb:=by rcases Nat.lt_or_ge j (n*Zb)with h|h;exact h;rw[oGN (by rw[hnews];exact h)]at hj;cases hj
 rw[List.getElem?_take_of_lt hjl,List.getElem?_drop]at hj;obtain⟨b',o',e5,e6⟩:=hnr _ _ hj;injection e5 with e5
 injection e5 with e5 e7
 subst e5;subst e7;exact⟨b,lo*Zb,hav,by rw[<- e6];congr 2;omega⟩;have Zn:i<n:=by rw[Yd]at hi;exact hi
 have hcell:((c.drop lo).take n)[i]=c[lo+i]'(by omega):=by simp
 have ZR:j<(c[lo+i]'(by omega)).length:=by rw[<- hcell];exact hj
 have hjs:j<Zb:=by rw[N0]at ZR;exact ZR
 have h7:=YX (lo+i) j (by omega) ZR;have hk:i*Zb+j<n*Zb:=by
  calc i*Zb+j<i*Zb+Zb:=by omega
   _=(i+1)*Zb:=by rw[Nat.succ_mul]
   _<=n*Zb:=Nat.mul_le_mul_right _ Zn
 have e8:((news.drop (lo*Zb)).take (n*Zb)).getD (i*Zb+j) undef=news.getD ((lo+i)*Zb+j) undef:=by rw[oGD,oGD,List.getElem?_take_of_lt hk,List.getElem?_drop,Nat.add_mul,Nat.add_assoc]
 rw[e8];have e9:((c.drop lo).take n)[i][j]=(c[lo+i]'(by omega))[j]:=by simp only[hcell]
 rw[e9];refine PM h7 ?_;rw[<- e9];exact ZH i j hi hj
 |_=>simp[EI]at hn
theorem TO(hI:Inv M σ [] [] a.tmps w G){d sz bytes:Nat}{mv:Bool}(hd:o.dst=some d)(hN:M.ok d){s x:Opd}{s' x':Operand}{t e:TypeId}{i:TypeInfo}{z:Value}(hs:gc s'=some s)(hx:gc x'=some x) (ho:o.op=.call { callee:=.builtin .append,args:=#[s',x'],argTypes:=#[t,t] })(hu:P.underlying t=some (.slice e))(hi:P.info? e=some i)(hz:i.zero=some z)(hzs:z.cells.size=i.size)(hsz:i.size=sz)(hby:i.bytes=bytes)(Z0:0<sz) {fl:Bool}(hr:(ev1 d (.app sz bytes mv fl s x)).run σ=some ((),σ')):r9 P M σ' a o w:=by
 subst hsz;subst hby;simp only[ev1]at hr;obtain⟨t1,σ1,h1,h2⟩:=fS hr;obtain⟨rfl,hs1⟩:=iv hI.tmr hs h1;obtain⟨t2,σ2,h3,h4⟩:=fS h2;obtain⟨rfl,Z2⟩:=iv hI.tmr hx h3;have old:((take1 true t1).bind λsv=>(take1 mv t2).bind λx=>UO d i.size i.bytes sv x).run σ2=some ((),σ')->r9 P M σ' a o w:=by
  intro h4;obtain⟨sv,σ3,h5,h6⟩:=fS h4;obtain⟨G1,g1,_⟩:=md hI hs1 h5;obtain⟨xv,σ4,h7,h8⟩:=fS h6;obtain⟨G2,g2,_⟩:=md g1.1 (g1.tm Z2) h7;simp only[oNA,List.cons_append]at g2;have ZV:∀c c2,sv=.ow c->(xv=.ow c2\/xv=.sl c2)->(if(c++c2).all (λe=>e.length==i.size)&&decide (c.length+c2.length<=1099511627776)&&decide ((c.length+c2.length)*i.bytes<=140737488355328)then inst d false [.ow (c++c2)]else .fail).run σ4=some ((),σ')->r9 P M σ' a o w:=by
   intro c c2 hc ZL h9;split at h9;case isFalse=>simp[SP.run]at h9
   rename_i Z1;simp only[oBA,oDE,oAE,beq_iff_eq]at Z1;obtain⟨⟨ZN,ZM⟩,hb2⟩:=Z1;subst hc;obtain⟨v',w',G',hrun,Zz,_,_⟩:=g2.1.append (P:=P) (c:=c) (c2:=c2) (X:=xv) rfl rfl ZL t o.type e i z hu hi hz hzs Z0 (λk h=>ZN _ (List.mem_append_left _ (oGX h))) (λk h=>ZN _ (List.mem_append_right _ (oGX h))) ZM hb2;refine zG Zz hd hN (λj hj=>?_) h9 (.inr ⟨rfl,v',rfl,rfl⟩) (w0:=w) ?_;obtain rfl:j=0:=by simp at hj;omega
   exact .inr rfl;simp[execOp,ho,resolve,invoke,builtin,hrun]
  unfold UO at h8;cases sv with
  |ow c=>cases xv with|ow c2=>exact ZV c c2 rfl (.inl rfl) h8|sl c2=>exact ZV c c2 rfl (.inr rfl) h8|_=>simp[SP.run]at h8
  |_=>simp[SP.run]at h8
 split at h4
 ·rename_i hc;simp only[oBA,Bool.not_eq_true']at hc;obtain⟨c2,σ4,h7,h8⟩:=fS h4;split at h8
  ·rename_i ZH;obtain⟨sv,σ3,h5,h9⟩:=fS h8
   have e4:σ4=σ2:=by
    have:=K8 hc.2 h7;exact this
   subst e4;obtain⟨G1,g1,_⟩:=md hI hs1 h5;unfold UO at h9
   cases sv with
   |ow c=>
    simp only at h9;split at h9
    case isFalse=>simp[SP.run]at h9
    rename_i Z1;simp only[oBA,oDE,oAE,beq_iff_eq]at Z1;obtain⟨⟨ZN,ZM⟩,hb2⟩:=Z1;obtain⟨_,aX,capX,news,hxv,hsrc⟩:=RJ (sz:=i.size) hI hc.2 Z2 h7 ZH (λk h=>ZN _ (List.mem_append_right _ (oGX h))) (G1.F M.A) (G1.φ M.hr 1);have Y6:=g1.1.hand_own (j:=0) (by simp) (by simp);simp only[oNA,List.getElem_cons_zero,List.getD_cons_zero]at Y6;obtain⟨v',w',G',hrun,Zz,_,_⟩:=g1.1.append0 (P:=P) (capX:=capX) t o.type e i z Y6 hsrc hu hi hz hzs Z0 (λk h=>ZN _ (List.mem_append_left _ (oGX h))) (λk h=>ZN _ (List.mem_append_right _ (oGX h))) ZM hb2;rw[<- hxv]at hrun;refine zG Zz hd hN (λj hj=>?_) h9 (.inr ⟨rfl,v',rfl,rfl⟩) (w0:=w) ?_
    ·obtain rfl:j=0:=by simp at hj;omega
     exact .inr rfl
    ·simp[execOp,ho,resolve,invoke,builtin,hrun]
   |_=>simp[SP.run]at h9
  ·simp[SP.run]at h8
 exact old h4
end
def sf:w_->Nat->w_->w_|cs,_,[]=>cs|cs,off,v::r=>sf (cs.set off v) (off+1) r
theorem Ap(vs:w_):∀(s off:Nat)(cs:s_),((vs.zipIdx s).foldl (λcs (x:Value×Nat)=>cs.setIfInBounds (off+x.2) x.1) cs).toList=sf cs.toList (off+s) vs:=by induction vs with|nil=>intro s off cs;rfl|cons v r ih=>intro s off cs;simp[sf];rw[ih];simp[Nat.add_assoc]
theorem MK(vs:w_):∀(off:Nat)(cs:w_),(sf cs off vs).length=cs.length:=by induction vs with|nil=>intro off cs;rfl|cons v r ih=>intro off cs;simp[sf,ih]
theorem MJ(vs:w_):∀(pre Yh:w_),vs.length<=Yh.length->sf (pre++Yh) pre.length vs=pre++vs++Yh.drop vs.length:=by induction vs with|nil=>intro pre Yh _;simp[sf]|cons v r ih=>intro pre Yh h;cases Yh with|nil=>simp at h|cons u Yh=>simp[sf];have:=ih (pre++[v]) Yh (by simp_all);simp_all
theorem NA{sz:Nat}:∀(l:List (Nat×Value))(k:Nat)(pre Yh:w_),l.map (·.1)=List.range' k l.length->(∀p∈l,p.2.cells.size=sz)->pre.length=k*sz->Yh.length=l.length*sz ->Instr.fill (λi=>some (i*sz,sz)) (pre++Yh).toArray l=some (pre++l.flatMap (·.2.cells.toList)).toArray:=by
 intro l;induction l with
 |nil=>intro k pre Yh _ _ _ h;have:Yh=[]:=oEN (by simpa using h);subst this;simp[Instr.fill]|cons p l ih=>
 obtain⟨i,v⟩:=p;intro k pre Yh h1 h2 h3 h4;simp only[oPC,oLC,List.range'_succ,List.cons.injEq]at h1;obtain⟨rfl,h1⟩:=h1;have hv:v.cells.size=sz:=by simp_all
 simp only[Instr.fill,hv,ne_eq,not_true_eq_false,false_or];have hsuf:sz<=Yh.length:=by rw[h4,oLC,Nat.succ_mul];omega
 rw[oIN (by simp;omega)];have hf:=Ap v.cells.toList 0 (i*sz) (pre++Yh).toArray;have hz:v.cells.zipIdx.foldl (λcs x=>cs.setIfInBounds (i*sz+x.2) x.1) (pre++Yh).toArray=(pre++v.cells.toList++Yh.drop sz).toArray:=by
  apply Array.ext';have e:v.cells.zipIdx.foldl (λcs x=>cs.setIfInBounds (i*sz+x.2) x.1) (pre++Yh).toArray=(v.cells.toList.zipIdx 0).foldl (λcs (x:Value×Nat)=>cs.setIfInBounds (i*sz+x.2) x.1) (pre++Yh).toArray:=by rw[<- Array.foldl_toList,Array.toList_zipIdx]
  rw[e,hf,<- h3,Nat.add_zero];rw[MJ _ _ _ (by simp_all)];simp[hv]
 have hz':=hz;rw[hz',ih (i+1) (pre++v.cells.toList) (Yh.drop sz) h1 (λp hp=>h2 p (by simp[hp])) (by simp[h3,hv,Nat.succ_mul]) (by rw[List.length_drop,h4,oLC,Nat.succ_mul];omega)];simp
theorem El(sz:Nat):∀(n:Nat)(l:U_),l.length=n*sz->(qG sz n l).flatten=l/\(qG sz n l).length=n/\∀i (h:i<(qG sz n l).length),(qG sz n l)[i].length=sz:=by
 intro n;induction n with
 |zero=>intro l h;have:l=[]:=oEN (by omega);subst this;exact⟨rfl,rfl,λi h=>by simp[qG]at h⟩|succ n ih=>
 intro l h;have hl:sz<=l.length:=by rw[h,Nat.succ_mul];omega
 have ⟨e1,e2,e3⟩:=ih (l.drop sz) (by rw[List.length_drop,h,Nat.succ_mul];omega);refine⟨by simp[qG,e1],by simp[qG,e2],λi hi=>?_⟩;cases i with|zero=>simp[qG];omega|succ i=>simpa[qG]using e3 i (by simpa[qG]using hi)
section
variable {P:Program} {M:Fm} {σ σ':St} {H:U_} {xs:w_} {ts:s_} {w:World} {G:Gh} {a:Act} {o:Oper}
theorem uk{mv:Bool}:∀{parts:e_}{pv:List Operand}{l:U_}{σ σ':St}{H:U_}{xs:w_}{G:Gh},Inv M σ H xs a.tmps w G->pv.map gc=parts.map (λp=>some p.2.2)->(takeParts mv parts).run σ=some (l,σ')->∃G',qd M w a.tmps σ H G σ' (H++l) (xs++pv.flatMap λx=>(a.eval x).cells.toList) G'/\(∀j (h:j<l.length),iB l[j]=true\/oi l[j]=true)/\(∀k (h:k<parts.length)(h':k<pv.length),(a.eval pv[k]).cells.size=parts[k].2.1):=by
 intro parts;induction parts with
 |nil=>
 intro pv l σ σ' H xs G hI hp hr;obtain⟨rfl,rfl⟩:=hr;have:pv=[]:=by cases pv<;>simp at hp⊢
 subst this;exact⟨G,by simpa using qd.refl hI,λj h=>by simp at h,λk h=>by simp at h⟩
 |cons p parts ih=>
 obtain⟨off,n,x⟩:=p;intro pv l σ σ' H xs G hI hp hr;cases pv with
 |nil=>simp at hp|cons y pv=>
 simp only[oPC,List.cons.injEq]at hp;obtain⟨hy,hp⟩:=hp;simp only[takeParts]at hr;obtain⟨t,σ1,h1,h2⟩:=fS hr;have hopd:σ1=σ/\TmR w (G.F M.A) σ.v (gG M σ H) G t (a.eval y):=by cases y with|tmp i=>simp only[gc,oSJ]at hy;subst hy;obtain⟨rfl,rfl⟩:=h1;exact⟨rfl,hI.tmr i⟩|const v=>simp only[gc,oSJ]at hy;subst hy;obtain⟨rfl,rfl⟩:=h1;exact⟨rfl,EE v⟩|func f=>simp only[gc,oSJ]at hy;subst hy;obtain⟨rfl,rfl⟩:=h1;exact⟨rfl,.fn (by simp) (by simp)⟩|global g=>simp[gc]at hy
 obtain⟨rfl,ht⟩:=hopd;obtain⟨l1,σ2,h3,h4⟩:=fS h2;split at h4;case isFalse=>simp[SP.run]at h4
 rename_i hn;obtain⟨l2,σ3,h5,h6⟩:=fS h4;simp only[SP.run,oSJ,oPJ]at h6;obtain⟨rfl,rfl⟩:=h6;have hc:∃G',qd M w a.tmps σ1 H G σ2 (H++l1) (xs++(a.eval y).cells.toList) G'/\l1.length=(a.eval y).cells.size:=by
  by_cases hta:∃q,t=.agg q;obtain⟨q,rfl⟩:=hta;obtain⟨zs,hz,hl,hj⟩:=Qt ht;obtain⟨e1,e2,G',hg⟩:=vI (ys:=zs.toList) hI (by simp[hl,su]) (λj h=>by have h':j<q.length:=h;have:=hj j h';simpa[su]using this) h3;rw[hz];exact⟨G',by simpa[Value.cells]using hg,by rw[e1];simp[su,Value.cells,hl]⟩;have e:su t=[t]:=by cases t<;>first|rfl|exact absurd ⟨_,rfl⟩ hta
  rw[e]at h3;have XN:(a.eval y).cells=#[a.eval y]:=by simp only[takeL]at h3;obtain⟨t',σ1,h1,h2⟩:=fS h3;obtain⟨G',hg,ho⟩:=md hI ht h1;generalize a.eval y=z at ho;cases z<;>first|rfl|simp[Value.oneCell']at ho
  obtain⟨e1,e2,G',hg⟩:=vI (l:=[t]) (ys:=[a.eval y]) hI (by simp) (λj h=>by
   obtain rfl:j=0:=by simp at h;omega
   simpa using ht) h3
  rw[XN];exact⟨G',by simpa using hg,by rw[e1];rfl⟩
 obtain⟨G1,g1,e1⟩:=hc;obtain⟨G2,g2,ok2,sz2⟩:=ih g1.1 hp h5;refine⟨G2,by simpa using g1.trans g2,λj hj=>?_,λk hk YD=>?_⟩;by_cases hjl:j<l1.length;rw[List.getElem_append_left hjl];exact vJ h3 j hjl;rw[List.getElem_append_right (by omega)];exact ok2 _ _;cases k with|zero=>simp only[List.getElem_cons_zero];rw[<- e1];exact hn|succ k=>simpa using sz2 k (by simpa using hk) (by simpa using YD)
abbrev O_:=List Opd
theorem TK(hI:Inv M σ [] [] a.tmps w G){d sz len:Nat}{mv:Bool}(hd:o.dst=some d)(hN:M.ok d){t e:TypeId}{parts:Array (Nat×Operand)}{ps:O_}{i:TypeInfo}(ho:o.op=.buildSlice t len parts)(hu:P.underlying t=some (.slice e))(hi:P.info? e=some i)(hsz:i.size=sz) (hz:0<len*sz->∃z,i.zero=some z)(hp1:parts.toList.map (·.1)=List.range len)(hp2:parts.toList.map (λp=>gc p.2)=ps.map some)(hmax:len*sz<=16777216)(hlm:len<=16777216)(hr:(ev1 d (.bsl sz mv len ps)).run σ=some ((),σ')):r9 P M σ' a o w:=by
 simp only[ev1]at hr;obtain⟨l,σ1,h1,h2⟩:=fS hr;split at h2;case isFalse=>simp[SP.run]at h2
 rename_i hlen;obtain⟨G1,g1,hok,XD⟩:=uk (a:=a) (pv:=parts.toList.map (·.2)) hI (by simpa[Function.comp_def]using hp2) h1;simp only[oNA]at g1;have hplen:parts.toList.length=len:=by have:=congrArg List.length hp1;simpa using this
 have hcs:∀p∈parts.toList.map (λp=>(p.1,a.eval p.2)),p.2.cells.size=sz:=by
  intro p hp;obtain⟨k,hk,rfl⟩:=List.getElem_of_mem hp;have YD:k<parts.toList.length:=by simpa using hk
  have:=XD k (by simp;omega) (by simpa using YD);simpa using this
 have X':(parts.toList.map (·.2)).flatMap (λx=>(a.eval x).cells.toList)=(parts.toList.map (λp=>(p.1,a.eval p.2))).flatMap (·.2.cells.toList):=by simp[List.flatMap_map]
 have hll:l.length=len*sz:=by
  have hh:=g1.1.hand;rw[hh,X'];have key:∀(q:List (Nat×Value)),(∀p∈q,p.2.cells.size=sz)->(q.flatMap (·.2.cells.toList)).length=q.length*sz:=by intro q;induction q with|nil=>intro _;simp|cons p q ih=>intro h;simp only[List.flatMap_cons,oLA,ih (λp hp=>h p (by simp[hp])),oLC,Nat.succ_mul];have:=h p (by simp);simp[this];omega
  rw[key _ hcs];simp[hplen]
 obtain⟨c1,c2,c3⟩:=El sz len l hll;obtain⟨G2,ZQ,_,_⟩:=g1.1.mkSlice (c:=qG sz len l) e c3 c1 (Da hok) (by rw[c2];unfold maxLen;omega);rw[c2]at ZQ;refine zG ZQ hd hN (λj hj=>?_) h2 (.inr ⟨rfl,_,rfl,rfl⟩) (w0:=w) ?_;obtain rfl:j=0:=by simp at hj;omega
 exact .inr rfl
 ·
  have YA:∀zc:w_,zc.length=len*sz->Instr.fill (λi=>some (i*sz,sz)) zc.toArray (parts.map λp=>(p.1,a.eval p.2)).toList=some ((parts.toList.map (·.2)).flatMap λx=>(a.eval x).cells.toList).toArray:=by
   intro zc hzc;have:=NA (sz:=sz) (parts.toList.map (λp=>(p.1,a.eval p.2))) 0 [] zc (by simp[Function.comp_def,hp1,hplen,List.range_eq_range']) hcs (by simp) (by simpa[hplen]using hzc);rw[X'];simpa using this
  have YO:¬(16777216<len*sz):=by omega
  have Yx:(sizeOf e).run P w=.ok sz w:=by simp[sizeOf,typeInfo,hi,hsz]
  by_cases h0:len*sz=0
  ·have hf:=YA [] (by simp[h0])
   have hr0:(Array.range (len*sz)).map (λ(x:Nat)=>(#[]:s_)[x%(#[]:s_).size]!)=([]:w_).toArray:=by rw[h0];simp
   simp only[execOp,ho,Instr.buildSlice,Sem.run_bind,run_underlying hu,Result.andThen_ok,Yx,h0,Sem.run_ite,if_true,Sem.run_pure];rw[oIN (by omega)]
   try simp only[Result.andThen_ok]
   rw[show(Array.range 0).map (λ(x:Nat)=>(#[]:s_)[x%(#[]:s_).size]!)=([]:w_).toArray by simp,hf];simp[newRow]
  ·obtain⟨z,hz⟩:=hz (by omega)
   have hzv:(zeroValue e).run P w=.ok z w:=by simp[zeroValue,typeInfo,hi,hz]
   have hf:=YA ((Array.range (len*sz)).map (λx=>z.cells[x%z.cells.size]!)).toList (by simp);simp only[Array.toArray_toList]at hf;simp only[execOp,ho,Instr.buildSlice,Sem.run_bind,run_underlying hu,Result.andThen_ok,Yx,Sem.run_ite,Sem.run_pure];rw[oIN (by omega),oIN h0];simp only[Result.andThen_ok,hzv];rw[hf];simp[newRow]
end
theorem E2{R:TV->Value->Prop}:∀(l:U_)(ys:w_)(cells:U_)(vals:w_)(off:Nat),cells.length=vals.length->(∀j (h:j<cells.length)(h':j<vals.length),R cells[j] vals[j])->l.length=ys.length->(∀j (h:j<l.length)(h':j<ys.length),R l[j] ys[j])->(oe cells off l).length=(sf vals off ys).length/\∀j (h:j<(oe cells off l).length)(h':j<(sf vals off ys).length),R (oe cells off l)[j] (sf vals off ys)[j]:=by intro l;induction l with|nil=>intro ys cells vals off h1 h2 h3 _;have:=oEN h3.symm;subst this;exact⟨h1,h2⟩|cons t l ih=>intro ys cells vals off h1 h2 h3 h4;cases ys with|nil=>simp at h3|cons y ys=>refine ih ys _ _ _ (by simp[h1]) (λj h h'=>?_) (by simpa using h3) (λj h h'=>h4 (j+1) (by simpa using h) (by simpa using h'));simp only[List.getElem_set];by_cases hj:off=j;simp only[hj,if_true];exact h4 0 (by simp) (by simp);simp only[oIN hj];exact h2 j (by simpa using h) (by simp_all)
def qD:w_->e_->w_->w_|vals,[],_=>vals|vals,(off,n,_)::r,ys=>qD (sf vals off (ys.take n)) r (ys.drop n)
theorem tR{R:TV->Value->Prop}:∀(parts:e_)(l:U_)(ys:w_)(cells:U_)(vals:w_),cells.length=vals.length->(∀j (h:j<cells.length)(h':j<vals.length),R cells[j] vals[j])->l.length=ys.length->(∀j (h:j<l.length)(h':j<ys.length),R l[j] ys[j])->(tO cells parts l).length=(qD vals parts ys).length/\∀j (h:j<(tO cells parts l).length)(h':j<(qD vals parts ys).length),R (tO cells parts l)[j] (qD vals parts ys)[j]:=by intro parts;induction parts with|nil=>intro l ys cells vals h1 h2 _ _;exact⟨h1,h2⟩|cons p parts ih=>have ⟨off,n,x⟩:=p;intro l ys cells vals h1 h2 h3 h4;have ⟨g1,g2⟩:=E2 (l.take n) (ys.take n) cells vals off h1 h2 (by simp[h3]) (λj h h'=>by simp;exact h4 j _ _);exact ih (l.drop n) (ys.drop n) _ _ g1 g2 (by simp[h3]) (λj h h'=>by simp;exact h4 _ _ _)
theorem CO{place:Nat->Option (Nat×Nat)}:∀(l:List (Nat×Value))(parts:e_)(cells:s_),l.length=parts.length->(∀k (h:k<l.length)(h':k<parts.length),place l[k].1=some (parts[k].1,parts[k].2.1)/\l[k].2.cells.size=parts[k].2.1/\parts[k].1+parts[k].2.1<=cells.size)->Instr.fill place cells l=some (qD cells.toList parts (l.flatMap (·.2.cells.toList))).toArray:=by
 intro l;induction l with
 |nil=>intro parts cells h _;have:parts=[]:=oEN (by simp_all);subst this;simp[Instr.fill,qD]|cons p l ih=>
 obtain⟨i,v⟩:=p;intro parts cells h1 h2;cases parts with
 |nil=>simp at h1|cons q parts=>
 obtain⟨off,n,x⟩:=q;have h0:=h2 0 (by simp) (by simp);obtain⟨p1,p2,p3⟩:=h0;have p2':v.cells.size=n:=p2;have p1':place i=some (off,n):=p1;simp only[Instr.fill,p1'];have hz:v.cells.zipIdx.foldl (λcs x=>cs.setIfInBounds (off+x.2) x.1) cells=(sf cells.toList off v.cells.toList).toArray:=by
  apply Array.ext';have e:v.cells.zipIdx.foldl (λcs x=>cs.setIfInBounds (off+x.2) x.1) cells=(v.cells.toList.zipIdx 0).foldl (λcs (x:Value×Nat)=>cs.setIfInBounds (off+x.2) x.1) cells:=by rw[<- Array.foldl_toList,Array.toList_zipIdx]
  rw[e,Ap];simp
 have hz':=hz;rw[hz',ih parts _ (by simpa using h1) (λk h h'=>by have:=h2 (k+1) (by simpa using h) (by simpa using h');simpa[MK]using this)];simp only[qD,List.flatMap_cons];simp_all
section
variable {P:Program} {M:Fm} {σ σ':St} {H:U_} {xs:w_} {ts:s_} {w:World} {G:Gh} {a:Act} {o:Oper}
abbrev p_:=List (Nat×Nat)
theorem BZ(ZO:List Field)(sz:Field->Nat)(h:∀f∈ZO,(sizeOf f.type).run P w=.ok (sz f) w):((ZO.mapM λf=>do pure (f.offset,<- sizeOf f.type):Sem p_)).run P w=.ok (ZO.map λf=>(f.offset,sz f)) w:=by induction ZO with|nil=>simp|cons f r ih=>simp_all
theorem TM(hI:Inv M σ [] [] a.tmps w G){d:Nat}{mv:Bool}(hd:o.dst=some d)(hN:M.ok d){t:TypeId}{parts:Array (Nat×Operand)}{ps:e_}{z:w_}{ZO:Array Field}{szf:Field->Nat}(ho:o.op=.build t parts)(hu:P.underlying t=some (.struct ZO)) (hz:(P.info? t).bind (·.zero.map (·.cells.toList))=some z)(hsz:∀f∈ZO.toList,(P.info? f.type).map (·.size)=some (szf f))(hp1:parts.size=ps.length) (hp2:∀k (h:k<parts.size)(h':k<ps.length),gc parts[k].2=some ps[k].2.2/\((ZO[parts[k].1]?).map λf=>(f.offset,szf f))=some (ps[k].1,ps[k].2.1)/\ps[k].1+ps[k].2.1<=z.length) (hr:(ev1 d (.bld z mv ps)).run σ=some ((),σ')):r9 P M σ' a o w:=by
 simp only[ev1]at hr;split at hr;case isFalse=>simp[SP.run]at hr
 rename_i hok;obtain⟨l,σ1,h1,h2⟩:=fS hr;obtain⟨l',σ2,h3,h4⟩:=fS h2;obtain⟨G1,g1,hokl,XD⟩:=uk (a:=a) (pv:=parts.toList.map (·.2)) hI (by apply List.ext_getElem;simp[hp1];intro k hk YD;have:=(hp2 k (by simpa using hk) (by simpa using YD)).1;simpa using this) h1;simp only[oNA]at g1;obtain⟨G2,ZQ,_,Yd,YT⟩:=Bt (λ_=>hN.2) g1.1 hokl h3;obtain⟨ys,hys⟩:∃ys,ys=(parts.toList.map (·.2)).flatMap (λx=>(a.eval x).cells.toList):=⟨_,rfl⟩;rw[<- hys]at g1 YT;have hlen:l'.length=ys.length:=by rw[Yd];exact g1.1.hand
 have hzc:∀j (h:j<(z.map iY).length)(h':j<z.length),TmR w (G2.F M.A) σ2.v (gG M σ2 []) G2 (z.map iY)[j] z[j]:=λj h h'=>by simp only[List.getElem_map];exact xR _
 obtain⟨r1,r2⟩:=tR (R:=TmR w (G2.F M.A) σ2.v (gG M σ2 []) G2) ps l' ys (z.map iY) z (by simp) hzc hlen (λj h h'=>by have:=YT j h;simpa[h']using this);refine kV ZQ hd hN (x:=.agg (qD z ps ys).toArray) (.agg (by simp[r1]) λj hj=>by have:=r2 j hj (by omega);simpa[show j<(qD z ps ys).length by omega]using this) h4 ?_;cases hi:P.info? t with
 |none=>simp[hi]at hz|some i=>
 simp only[hi,oBS]at hz;cases hiz:i.zero with
 |none=>simp[hiz]at hz|some v=>
 simp only[hiz,oMS,oSJ]at hz;have hzv:(zeroValue t).run P w=.ok v w:=by simp[zeroValue,typeInfo,hi,hiz]
 have Yx:∀f∈ZO.toList,(sizeOf f.type).run P w=.ok (szf f) w:=by intro f hf;have:=hsz f hf;unfold sizeOf typeInfo;cases hi:P.info? f.type with|none=>simp[hi]at this|some i=>simp[hi]at this;simp[hi,this]
 have hm:=BZ ZO.toList szf Yx;have hma:((ZO.mapM λf=>do pure (f.offset,<- sizeOf f.type):Sem (Array (Nat×Nat)))).run P w=.ok (ZO.map λf=>(f.offset,szf f)) w:=by rw[Array.mapM_eq_mapM_toList];simp only[Sem.run_map,hm,Result.andThen_ok];congr 1;apply Array.ext';simp
 have YA:=CO (place:=λi=>(ZO.map λf=>(f.offset,szf f))[i]?) (parts.toList.map λp=>(p.1,a.eval p.2)) ps v.cells (by simp[hp1]) (λk h h'=>by
  have hk:k<parts.size:=by simpa using h
  obtain⟨q1,q2,q3⟩:=hp2 k hk h';have q4:=XD k h' (by simpa using hk);refine⟨by simpa using q2,by simpa using q4,?_⟩;rw[<- hz]at q3;simpa using q3)
 have ZH:((parts.toList.map λp=>(p.1,a.eval p.2)).flatMap (·.2.cells.toList))=ys:=by rw[hys];simp[List.flatMap_map]
 rw[ZH,hz]at YA;simp only[execOp,ho,Instr.build,Sem.run_bind,hzv,Result.andThen_ok,run_underlying hu,hma,Array.toList_map];rw[YA];simp
end
section
variable {P:Program} {M:Fm} {σ σ':St} {H:U_} {xs:w_} {ts:s_} {w:World} {G:Gh} {a:Act} {o:Oper}
theorem r8.window'{F:Nat->Prop}{c:o_}{a0:t_}{len cap:Nat}(h:r8 w F (.sl c) (.slice a0 len cap))(sz lo n:Nat)(hs:∀i (h:i<c.length),c[i].length=sz)(hln:lo+n<=c.length){a:t_}{ZS:Nat}(hn:n<=ZS) (hm:ZS<=maxLen)(hnil:a=none->ZS=0)(ha:∀b o,0<n->a0=some ⟨b,o,none⟩->a=some ⟨b,o+lo*sz,none⟩):r8 w F (.sl ((c.drop lo).take n)) (.slice a n ZS):=by
 cases h with
 |sl sz' u hsz hcap hmax hnil' hcell hrec=>
 have hl:((c.drop lo).take n).length=n:=by simp;omega
 have key:=r8.sl (w:=w) (c:=(c.drop lo).take n) sz (λi j=>u (lo+i) j) (λi hi=>by
  simp;exact hs _ (by omega)) (by omega) hm hnil (λi j hi hj=>by
  have hz:sz'=sz:=by rw[<- hsz (lo+i) (by omega),hs (lo+i) (by omega)]
  subst hz;obtain⟨b',o',e,hF,hc⟩:=hcell (lo+i) j (by omega) hj;exact⟨b',o'+lo*sz',ha _ _ (by omega) e,hF,by rw[show o'+lo*sz'+(i*sz'+j)=o'+((lo+i)*sz'+j) by rw[Nat.add_mul];omega];exact hc⟩) (λi j hi hj=>by have:=hrec (lo+i) j (by omega) (by simp_all);simpa using this)
 simp_all
theorem H5{F:Nat->Prop}(hI:Inv M σ [] [] a.tmps w G){q:Option Opd}{q':Option Operand}{UX n:Nat}(hq:q'.map gc=q.map some)(hr:(optNat q UX).run σ=some (n,σ')):σ'=σ/\((q'=none/\n=UX)\/∃x k i,q'=some x/\a.eval x=.int k i/\0<=i/\n=i.toNat):=by
 cases q with
 |none=>cases q' with|none=>simp[optNat,SP.run]at hr;simp_all|some _=>simp_all
 |some x=>cases q' with|none=>simp_all|some x'=>simp at hq;have ⟨t,σ1,h1,h2⟩:=fS hr;obtain⟨rfl,ht⟩:=iv hI.tmr hq h1;obtain⟨k,i,rfl,h0,hn,rfl⟩:=vU h2;exact⟨rfl,.inr ⟨x',k,i,rfl,ht.v_inv.1,h0,hn⟩⟩
theorem B2{x:Value}{k:IntKind}{i:Int}{y:Nat}{code:BoundsCode}(hx:x=.int k i)(h0:0<=i)(hy:i.toNat<=y):(Instr.sliceBound x y code).run P w=.ok i.toNat w:=by
 subst hx;have:i<=(y:Int):=by omega
 simp[Instr.sliceBound,asIntOf,h0,this]
theorem Tw(hI:Inv M σ [] [] a.tmps w G){d sz:Nat}(hd:o.dst=some d)(hN:M.ok d){x:Opd}{x':Operand}{lo hi:Option Opd}{lo' Zn:Option Operand}{t e:TypeId}(hx:gc x'=some x)(hlo:lo'.map gc=lo.map some)(hhi:Zn.map gc=hi.map some)(ho:o.op=.slice t x' lo' Zn none) (hu:P.underlying t=some (.slice e))(hs:(P.info? e).map (·.size)=some sz)(hr:(ev1 d (.slc sz x lo hi)).run σ=some ((),σ')):r9 P M σ' a o w:=by
 have Yx:(sizeOf e).run P w=.ok sz w:=by unfold sizeOf typeInfo;cases hi:P.info? e with|none=>simp[hi]at hs|some i=>simp[hi]at hs;simp[hi,hs]
 simp only[ev1]at hr;obtain⟨tx,σ1,h1,h2⟩:=fS hr;obtain⟨rfl,Z2⟩:=iv hI.tmr hx h1;obtain⟨n,σ2,h3,h4⟩:=fS h2;obtain⟨rfl,hlen⟩:=Ie (F:=G.F M.A) hI Z2 h3;obtain⟨l,σ3,h5,h6⟩:=fS h4;obtain⟨rfl,hl⟩:=H5 (F:=G.F M.A) hI hlo h5;obtain⟨h,σ4,h7,h8⟩:=fS h6;obtain⟨rfl,hh⟩:=H5 (F:=G.F M.A) hI hhi h7;split at h8;case isFalse=>simp[SP.run]at h8
 rename_i Z1;simp only[oBA,oDE]at Z1;obtain⟨hlh,hhn⟩:=Z1;have run:∀(b:t_)(cap:Nat),a.eval x'=.slice b n cap->n<=cap->(execOp a.eval o).run P w=.ok (.value (.slice (if cap=l then b else b.map (·.add (l*sz))) (h-l) (cap-l))) w:=by
  intro b cap hxx hnc;have hb:(Instr.sliceBounds true n cap (lo'.map a.eval) (Zn.map a.eval) none).run P w=.ok (l,h,cap) w:=by unfold Instr.sliceBounds;rcases hh with⟨rfl,rfl⟩|⟨xh,kh,ih,rfl,eh,h0h,rfl⟩;rcases hl with⟨rfl,rfl⟩|⟨xl,kl,il,rfl,el,h0l,rfl⟩;simp;have:=B2 (P:=P) (w:=w) (code:=.sliceB) el h0l hlh;simp[this];have hbh:=B2 (P:=P) (w:=w) (y:=cap) (code:=.sliceAcap) eh h0h (by omega);rcases hl with⟨rfl,rfl⟩|⟨xl,kl,il,rfl,el,h0l,rfl⟩;simp[hbh];have:=B2 (P:=P) (w:=w) (code:=.sliceB) el h0l hlh;simp[hbh,this]
  simp[execOp,ho,hxx,Instr.sliceAt,run_underlying hu,Instr.slice,hb,Yx]
 have hcap:∀b n2 cap,a.eval x'=.slice b n2 cap->n2=n->n<=cap:=by intro b n2 cap e1 e2;obtain⟨aa,ZS,e3,h9⟩:=hlen;rw[e1]at e3;injection e3 with _ _ e3;omega
 cases tx with
 |sl c=>
 simp only at h8;generalize hz:a.eval x'=z at Z2 run hcap;cases Z2 with
  |sl ZK=>
  have himm':=ZK;cases ZK with
  | @sl _ aa cap sz' u hsz hcap0 hmax hnil hcell hrec=>
  have hn:n=c.length:=by simp only[wz,SP.run,oSJ,oPJ]at h3;exact h3.1.symm
  subst hn;split at h8;case isFalse=>simp[SP.run]at h8
  rename_i ZN;simp only[oAE,beq_iff_eq]at ZN;refine kV hI hd hN (x:=.slice (if cap=l then aa else aa.map (·.add (l*sz))) (h-l) (cap-l)) (.sl ?_) h8 (run _ _ rfl hcap0);refine himm'.window' sz l (h-l) (λi hi=>ZN _ (oGX hi)) (by omega) (by omega) (by omega) (λhn=>?_) (λb ob hp e1=>?_);by_cases hc:cap=l;omega;rw[oIN hc]at hn;have:aa=none:=by cases aa<;>simp at hn⊢
  have:=hnil this;omega;rw[oIN (by omega),e1];simp[je]
 |ow c=>
 obtain⟨rfl,ad,hxx⟩:=Z2.ow_inv;have hn:n=0:=by simp only[wz,SP.run,oSJ,oPJ]at h3;exact h3.1.symm
 subst hn;simp only at h8;have:=run ad 0 hxx (oLE _);have hl0:l=0:=by omega
 have hh0:h=0:=by omega
 subst hl0;subst hh0;exact L0 hI hd hN h8 (by simpa using this)
 |pk p vs=>
 simp only at h8;obtain⟨tt,σ5,h9,h10⟩:=fS h8;obtain⟨e3,hg⟩:=iQ h9;have e3:σ5=σ4:=e3;subst e3;simp only[wz]at h3;obtain⟨_,σ6,q1,q2⟩:=fS h3;have e1:σ6=σ5:=(gz q1).1;have e2:=(gz q1).2;subst e1;rw[F4]at q2;obtain⟨tt2,σ7,q3,q4⟩:=fS q2;obtain⟨e4,Zx⟩:=iQ q3;generalize hz:a.eval x'=z at Z2 run hcap;have ht:=Z2;cases Z2 with
  |pk V0 h0 hv hok=>
  obtain⟨Z8,c,ZB,ZA⟩:=hok e2;have Zo:gJ (σ6.c p.root p.off) p.hops=some (.ow c):=by rw[gF (by exact Z8)]at ZA;exact ZA
  rw[Zo]at hg Zx;injection hg with hg
  injection Zx with Zx
  subst hg;have Zx:TV.ow c=tt2:=Zx;subst Zx;simp only[TV.hd,SP.run,oLP,oSJ,oPJ]at q4;have hn:n=c.length:=q4.1.symm;subst hn;simp only at h10;split at h10;case isFalse=>simp[SP.run]at h10
  rename_i ZN;simp only[oAE,beq_iff_eq]at ZN;obtain⟨fp,hown⟩:=zX hI ZB ZA;obtain⟨aa,cap,rfl,hle⟩:=hown.hdr;refine kV hI hd hN (x:=.slice (if cap=l then aa else aa.map (·.add (l*sz))) (h-l) (cap-l)) ?_ h10 (run _ _ rfl hle);have hmx:cap<=maxLen:=by cases hown with|nil=>exact Nat.zero_le _|ow=>assumption
  refine .pw V0 h0 hv λ_=>⟨Z8,c,_,ZB,ZA,by omega,_,_,rfl,by omega,by omega,λhn=>?_,λi hi=>ZN _ (oGX hi),λhp=>?_⟩;by_cases hc:cap=l;omega;rw[oIN hc]at hn;have:aa=none:=by cases aa<;>simp at hn⊢
  subst this;cases hown;omega;rw[oIN (by omega)];cases hown with|nil=>simp at hp|ow=>exact⟨_,_,_,rfl,by simp[je]⟩
 |pw p vs sz' lo0 n0=>
 simp only at h8;split at h8;case isFalse=>simp[SP.run]at h8
 rename_i hsz;subst hsz;simp only[wz]at h3;obtain⟨_,σ6,q1,q2⟩:=fS h3;have e1:σ6=σ4:=(gz q1).1;have e2:=(gz q1).2;subst e1;simp only[SP.run,oSJ,oPJ]at q2;have hn:n=n0:=q2.1.symm;subst hn;generalize hz:a.eval x'=z at Z2 run hcap;cases Z2 with
  |pw V0 h0 hv hok=>
  obtain⟨Z8,c,Yp,ZB,ZA,hln,aa,cap,rfl,hmc,hmx,hnil,hszs,hpos0⟩:=hok e2;refine kV hI hd hN (x:=.slice (if cap=l then aa else aa.map (·.add (l*sz'))) (h-l) (cap-l)) ?_ h8 (run _ _ rfl hmc.1);refine .pw V0 h0 hv λ_=>⟨Z8,c,Yp,ZB,ZA,by omega,_,_,rfl,by omega,by omega,λhn=>?_,hszs,λhp=>?_⟩;by_cases hc:cap=l;omega;rw[oIN hc]at hn;have:aa=none:=by cases aa<;>simp at hn⊢
  have:=hnil this;omega;rw[oIN (by omega)];obtain⟨b,len,ZS,rfl,rfl⟩:=hpos0 (by omega);exact⟨b,len,ZS,rfl,by simp[je,Nat.add_mul]⟩
 |_=>simp[SP.run]at h8
theorem Ia(z:w_)(n:Nat):madeCells z.toArray (n*z.length)=((List.replicate n z).flatten).toArray:=by
 apply Array.ext';apply oEG;intro k;unfold madeCells;by_cases h:k<n*z.length;have hz:0<z.length:=by grind
 have h1:k/z.length<n:=Nat.div_lt_of_lt_mul (by grind);have h2:k%z.length<z.length:=Nat.mod_lt _ hz;have hk:k=k/z.length*z.length+k%z.length:=by rw[Nat.mul_comm];exact(Nat.div_add_mod k z.length).symm
 have h3:=xw (c:=List.replicate n z) (sz:=z.length) (λi hi=>by simp) (by simpa using h1) (by simpa using h2);rw[<- hk]at h3;have e:((Array.range (n*z.length)).map λx=>z.toArray[x%z.toArray.size]!).toList[k]?=some z[k%z.length]:=by simp[h,h2]
 rw[e];simpa using h3.symm;simp_all
theorem TC(hI:Inv M σ [] [] a.tmps w G){d sz:Nat}{z:w_}(hd:o.dst=some d)(hN:M.ok d){l c:Opd}{l' c':Operand}{t e:TypeId}{i:TypeInfo}{zv:Value}(hl:gc l'=some l)(hc:gc c'=some c)(ho:o.op=.makeSlice t l' c') (hu:P.underlying t=some (.slice e))(hi:P.info? e=some i)(hz:i.zero=some zv)(hzc:zv.cells.toList=z)(hsz:i.size=sz)(hby:i.bytes<=16777216*sz)(ZG:0<sz)(hr:(ev1 d (.mks sz z l c)).run σ=some ((),σ')):r9 P M σ' a o w:=by
 subst hsz;simp only[ev1]at hr;split at hr;case isFalse=>simp[SP.run]at hr
 rename_i Z1;simp only[oBA,beq_iff_eq]at Z1;obtain⟨hok,hzl⟩:=Z1;obtain⟨t1,σ1,h1,h2⟩:=fS hr;obtain⟨rfl,Xz⟩:=iv hI.tmr hl h1;obtain⟨t2,σ2,h3,h4⟩:=fS h2;obtain⟨rfl,ZP⟩:=iv hI.tmr hc h3;obtain⟨n,σ3,h5,h6⟩:=fS h4;obtain⟨k1,i1,rfl,hn0,hn,rfl⟩:=vU h5;obtain⟨m,σ4,h7,h8⟩:=fS h6;obtain⟨k2,i2,rfl,hm0,hm,rfl⟩:=vU h7;split at h8;case isFalse=>simp[SP.run]at h8
 rename_i Z1;simp only[oBA,oDE]at Z1;obtain⟨hnm,hbound⟩:=Z1;obtain⟨el,_⟩:=Xz.v_inv;obtain⟨ec,_⟩:=ZP.v_inv;have hn24:n<=16777216:=by
  calc n=n*1:=by omega
   _<=n*i.size:=Nat.mul_le_mul_left _ ZG
   _<=16777216:=hbound
 have hok2:(((List.replicate n z).flatten).map iY).all iB=true:=by rw[oAE]at hok⊢;intro x hx;simp only[List.mem_map,List.mem_flatten,List.mem_replicate]at hx;obtain⟨y,⟨q,⟨_,rfl⟩,hy⟩,rfl⟩:=hx;exact hok _ (List.mem_map_of_mem hy)
 obtain⟨G1,g1⟩:=hI.addHandL hok2;simp only[oNA]at g1;have Y9:∀j (h:j<(((List.replicate n z).flatten).map iY).length),iB ((((List.replicate n z).flatten).map iY))[j]=true:=λj h=>oAE.1 hok2 _ (oGX h);obtain⟨G2,ZQ,_,_⟩:=g1.1.mkSlice (c:=List.replicate n (z.map iY)) (sz:=i.size) e (λk hk=>by simp[hzl]) (by rw[List.map_flatten,List.map_replicate]) (Da λj h=>.inl (Y9 j h)) (by simp;unfold maxLen;omega);refine zG ZQ hd hN (λj hj=>?_) h8 (.inr ⟨rfl,_,rfl,rfl⟩) (w0:=w) ?_;obtain rfl:j=0:=by simp at hj;omega
 exact .inr rfl;have hbb:(i.bytes:Int)*i2<=281474976710656:=by
  have h9:i.bytes*n<=16777216*i.size*n:=Nat.mul_le_mul_right _ hby;have h10:16777216*i.size*n=16777216*(n*i.size):=by rw[Nat.mul_assoc,Nat.mul_comm i.size n]
  have h11:i.bytes*n<=281474976710656:=by rw[h10]at h9;omega
  have h12:i2=(n:Int):=by omega
  rw[h12,<- Int.natCast_mul];exact Int.ofNat_le.2 h11
 have hrun:=run_make (P:=P) w t e i zv hu hi hz k1 k2 i1 i2 hn0 (by omega) hbb (by omega);have e1:i1.toNat=n:=hn.symm;have e2:i2.toNat=n:=by omega
 have e3:zv.cells=z.toArray:=by rw[<- hzc]
 rw[e1,e2,e3,<- hzl,Ia]at hrun;simp[execOp,ho,el,ec,hrun]
theorem TE(hI:Inv M σ [] [] a.tmps w G){d:Nat}(hd:o.dst=some d)(hN:M.ok d){x i:Opd}{x' i':Operand}{t:TypeId}(hx:gc x'=some x)(hi:gc i'=some i)(ho:o.op=.index t x' i')(hu:P.underlying t=some .string)(hr:(ev1 d (.ixs x i)).run σ=some ((),σ')):r9 P M σ' a o w:=by
 simp only[ev1]at hr;obtain⟨tx,σ1,h1,h2⟩:=fS hr;obtain⟨rfl,Z2⟩:=iv hI.tmr hx h1;obtain⟨ti,σ2,h3,h4⟩:=fS h2;obtain⟨rfl,Xw⟩:=iv hI.tmr hi h3;obtain⟨k,σ3,h5,h6⟩:=fS h4;obtain⟨ik,n,rfl,hn0,hk,rfl⟩:=vU h5;obtain⟨ei,_⟩:=Xw.v_inv;cases tx with
 |v y=>
 obtain⟨ex,_⟩:=Z2.v_inv;cases y with
  |string s=>simp only at h6;cases hb:s[k]? with|none=>simp[hb,SP.run]at h6|some b=>simp only[hb]at h6;subst hk;exact kV hI hd hN (.v rfl) h6 (by simp[execOp,ho,ex,ei,Instr.index,asIntOf,run_underlying hu,hn0,hb])
  |_=>simp[SP.run]at h6
 |_=>simp[SP.run]at h6
theorem Uj{β:Type}{f:Opd->SP β}{R:β->Operand->Prop}(hf:∀x x' y σ',gc x'=some x->(f x).run σ=some (y,σ')->σ'=σ/\R y x'):∀{l:O_}{l':List Operand}{r:List β}{σ':St},l'.map gc=l.map some->(VA f l).run σ=some (r,σ')->σ'=σ/\r.length=l'.length/\∀k (h:k<r.length)(h':k<l'.length),R r[k] l'[k]:=by intro l;induction l with|nil=>intro l' r σ' h1 h2;simp only[VA,SP.run,oSJ,oPJ]at h2;simp_all|cons x l ih=>intro l' r σ' h1 h2;cases l' with|nil=>simp at h1|cons x' l'=>simp at h1;obtain⟨y,σ1,h3,h4⟩:=fS h2;obtain⟨rfl,hy⟩:=hf x x' y σ1 h1.1 h3;obtain⟨r2,σ2,h5,h6⟩:=fS h4;obtain⟨rfl,rfl⟩:=h6;obtain⟨e1,e2,e3⟩:=ih h1.2 h5;refine⟨e1,by simp[e2],λk h h'=>?_⟩;cases k with|zero=>exact hy|succ k=>exact e3 k (by simp_all) (by simp_all)
end
section
variable {P:Program} {M:Fm} {σ σ':St} {H:U_} {xs:w_} {ts:s_} {w:World} {G:Gh}
theorem Inv.rehandL(hI:Inv M σ H xs ts w G){w':World}{H':U_}{xs':w_}{f:Nat->Nat->Prop}{Fx:Nat->Prop}(hw:∀k,k<w.heap.size->(∀j,¬G.φ M.hr j k)->w'.heap[k]?=w.heap[k]?)(hs:w.heap.size<=w'.heap.size) (ho:w'.os=w.os)(ht:w'.tape=w.tape)(hu:w'.output=w.output)(hlen:H'.length=xs'.length)(hf:∀j k,f j k->j<H'.length/\((∃i,G.φ M.hr i k)\/w.heap.size<=k))(hdis:∀j j' k,f j k->f j' k->j=j') (hFx:∀k,Fx k->(G.F M.A k\/(∃i,G.φ M.hr i k)\/w.heap.size<=k)/\∀j,¬f j k)(hown:∀j (h:j<H'.length),(H'[j]=.dead/\∀k,¬f j k)\/jS w' Fx (f j) H'[j] (xs'.getD j undef)):∃G',Inv M σ H' xs' ts w' G'/\nZ M w σ H G w' σ H' G'/\G'.β=G.β/\∀r o k,r≠1->(G'.φ r o k↔G.φ r o k):=by
 let G':Gh:=⟨G.β,λr o=>if r=M.hr then xs'.getD o undef else G.η r o,λr o k=>if r=M.hr then f o k else G.φ r o k⟩;have Z9:∀r o k,G'.φ r o k->(r=M.hr/\f o k)\/(r≠M.hr/\G.φ r o k):=by intro r o k hk;simp only[G']at hk;by_cases e:r=M.hr;rw[oIP e]at hk;exact .inl ⟨e,hk⟩;rw[oIN e]at hk;exact .inr ⟨e,hk⟩
 have Zg:∀k,G.F M.A k->k<w.heap.size->G'.F M.A k:=by rintro k ⟨a1,a2,a3⟩ hk;refine⟨a1,λr o h=>?_,a3⟩;rcases Z9 r o k h with⟨_,h1⟩|⟨_,h1⟩;rcases(hf _ k h1).2 with⟨j,h2⟩|h2;exact a2 _ _ h2;omega;exact a2 _ _ h1
 have Ym:∀k,G.F M.A k->k<w.heap.size->w'.heap[k]?=w.heap[k]?:=λk ⟨_,a2,_⟩ hk=>hw k hk λj=>a2 _ _;have hφ:∀r o,r≠M.hr->∀k,G.φ r o k->w'.heap[k]?=w.heap[k]?:=λr o h k hk=>hw k (hI.core.live hk) λj hj=>h (hI.core.dis _ _ _ _ k hk hj).1;have YC:=λr b o n hb=>hw b (hI.core.boxlt hb) λj=>hI.core.boxf r b o n hb _ _;have hk:=xF (H':=H') (G':=G') hI hw rfl (λr o h=>by simp[G',show r≠M.hr from h]);have hfd:∀r o k,r≠M.hr->G.φ r o k->∀j,¬f j k:=by intro r o k h hk j hf';rcases(hf j k hf').2 with⟨i,h2⟩|h2;exact h (hI.core.dis _ _ _ _ k hk h2).1;have:=hI.core.live hk;omega
 have hF:=hI.fram;have hallow:∀k,((∃i,G.φ M.hr i k)\/w.heap.size<=k)->M.A k:=by rintro k (⟨i,h⟩|h);exact hI.core.allow _ _ k h;exact M.hA k (Nat.le_trans hF.size h)
 have hnbox:∀k,((∃i,G.φ M.hr i k)\/w.heap.size<=k)->∀r b o n,G.β r=some (b,o,n)->k≠b:=by rintro k (⟨i,h⟩|h) r b o n hb rfl;exact hI.core.boxf r k o n hb _ _ h;have:=hI.core.boxlt hb;omega
 have hFxF:∀k,Fx k->G'.F M.A k:=by intro k hk;obtain⟨h1,h2⟩:=hFx k hk;refine⟨?_,λr o h=>?_,λr b o n hb=>?_⟩;rcases h1 with h1|h1;exact h1.1;exact hallow k h1;rcases Z9 r o k h with⟨_,h3⟩|⟨h3,h4⟩;exact h2 _ h3;rcases h1 with h1|⟨i,h1⟩|h1;exact h1.2.1 _ _ h4;exact h3 (hI.core.dis _ _ _ _ k h4 h1).1;have:=hI.core.live h4;omega;rcases h1 with h1|h1;exact h1.2.2 r b o n hb;exact hnbox k h1 r b o n hb
 have Zk:ol M.A (gG M σ H') w' G':=by
  refine⟨λr o=>?_,λr b o0 n hb=>?_,λr b o0 n hb o ho=>?_,hI.core.boxd,λr b o n hb r2 o2 hk=>?_,λr1 o1 r2 o2 k h1 h2=>?_,λr o k h=>?_⟩;by_cases e:r=M.hr;subst e;have Zm:∀k,G'.φ M.hr o k↔f o k:=λk=>by simp[G']
  by_cases e2:o<H'.length;have hv:G'.val w' M.hr o=xs'.getD o undef:=by unfold Gh.val;simp only[G',hI.hr_none,if_true]
  rw[hv,qF];have e3:H'.getD o .dead=H'[o]:=by simp[e2]
  rw[e3];rcases hown o e2 with⟨h1,h2⟩|h1;left;exact⟨h1,λk hk=>h2 k ((Zm k).1 hk)⟩;right;exact(h1.frame (λ_ _=>rfl) (λ_ _ _=>rfl) (λk h _=>hFxF k h)).refp λk=>(Zm k).symm;left;exact⟨by rw[qF];simp[e2],λk hk=>e2 (hf o k ((Zm k).1 hk)).1⟩;have hv:G'.val w' r o=G.val w r o:=mc rfl (by simp[G',e]) (YC r);have Zm:∀k,G'.φ r o k↔G.φ r o k:=λk=>by simp[G',e]
  rw[gF e,hv];have hc:=hI.core.cell r o;rw[gF e]at hc;rcases hc with⟨a1,a2⟩|a2;left;exact⟨a1,λk hk=>a2 k ((Zm k).1 hk)⟩;right;exact(a2.frame (hφ r o e) Ym Zg).refp λk=>(Zm k).symm;obtain⟨cur,e',fz,a1,a2,a3⟩:=hI.core.box r b o0 n hb;exact⟨cur,e',fz,by rw[YC r b o0 n hb];exact a1,a2,λj hj=>by rw[World.frozen?_of_block (w:=w) (YC r b o0 n hb)];exact a3 j hj⟩;have e:r≠M.hr:=λe=>by have Zh:G.β r=some (b,o0,n):=hb;rw[e,hI.hr_none]at Zh;simp at Zh
  have:=hI.core.boxc r b o0 n hb o ho;rw[gF e]at this⊢;exact this;rcases Z9 r2 o2 b hk with⟨_,h1⟩|⟨_,h1⟩;exact hnbox b (hf _ b h1).2 r b o n hb rfl;exact hI.core.boxf r b o n hb _ _ h1;rcases Z9 r1 o1 k h1 with⟨a1,a3⟩|⟨a1,a2⟩;rcases Z9 r2 o2 k h2 with⟨b1,b3⟩|⟨b1,b2⟩;exact⟨a1.trans b1.symm,hdis _ _ k a3 b3⟩;exact absurd a3 (hfd _ _ k b1 b2 _);rcases Z9 r2 o2 k h2 with⟨b1,b3⟩|⟨b1,b2⟩;exact absurd b3 (hfd _ _ k a1 a2 _);exact hI.core.dis _ _ _ _ k a2 b2;rcases Z9 r o k h with⟨_,a3⟩|⟨a1,a2⟩;exact hallow k (hf _ k a3).2;exact hI.core.allow _ _ k a2
 refine⟨G',⟨Zk,λi=>(hI.tmr i).keep hk Ym Zg,?_,hI.keys,hI.size,hlen,λj hj=>by simp[G'],hI.shape,λi x h0 h=>by simp only[G'];exact hI.kept i x h0 h,hI.gn.keep hk Ym Zg⟩,⟨hs,hk,Ym,Zg⟩,rfl,λr o k h=>by simp[G',show r≠M.hr from h]⟩;refine⟨ho.trans hF.os,ht.trans hF.tape,hu.trans hF.output,Nat.le_trans hF.size hs,λk a1 a2 a3=>?_,λr b o n hp=>?_,λr o k h=>?_,hF.box,hF.even⟩;rw[hw k (Nat.lt_of_lt_of_le a1 hF.size) λj hj=>?_];exact hF.old k a1 a2 a3;rcases hF.own _ _ k hj with h|h;exact a2 h;omega;obtain⟨a1,cur0,cur,e',fz,a2,a3,a4⟩:=hF.par r b o n hp;exact⟨a1,cur0,cur,e',fz,a2,by rw[YC r b o n a1];exact a3,a4⟩;rcases Z9 r o k h with⟨_,a3⟩|⟨a1,a2⟩;rcases(hf _ k a3).2 with⟨j,h2⟩|h2;exact hF.own _ _ k h2;exact .inr (Nat.le_trans hF.size h2);exact hF.own _ _ k a2
theorem Inv.dropImm(hI:Inv M σ H xs ts w G)(Zq:∀j (h:j<H.length),H[j]≠.dead):∃G',qd M w ts σ H G σ [] [] G'/\∀j (h:j<H.length),r8 w (G'.F M.A) H[j].imm (xs.getD j undef):=by
 have ⟨G',Zz,hm,hβ,hφ⟩:=hI.rehandL (w':=w) (H':=[]) (xs':=[]) (f:=λ_ _=>False) (Fx:=λ_=>False) (λ_ _ _=>rfl) (oLE _) rfl rfl rfl rfl (λ_ _ h=>h.elim) (λ_ _ _ h=>h.elim) (λ_ h=>h.elim) (λj h=>by simp at h);have hF0:∀k,G.F M.A k->G'.F M.A k:=by rintro k ⟨a1,a2,a3⟩;refine⟨a1,λr o h=>?_,λr b o n hb=>a3 r b o n (hβ ▸ hb)⟩;by_cases hr:r=1;have:=Zz.phi_dead (r:=r) (o:=o) (by rw[hr,show(1:Nat)=M.hr from rfl,qF];simp);simp_all;simp_all
 refine⟨G',⟨Zz,hF0,hm.keeps,rfl⟩,λj hj=>?_⟩;refine(hI.hand_own hj (Zq j hj)).share'.frame (λ_ _ _=>rfl) λk hk _=>?_;rcases hk with hk|hk;simp_all;refine⟨hI.core.allow _ _ k hk,λr o h=>?_,λr b o n hb=>?_⟩;by_cases hr:r=1;have:=Zz.phi_dead (r:=r) (o:=o) (by rw[hr,show(1:Nat)=M.hr from rfl,qF];simp);simp_all;exact hr (hI.core.dis _ _ _ _ k ((hφ r o k hr).1 h) hk).1;rintro rfl;exact hI.core.boxf r k o n (hβ ▸ hb) _ _ hk
end
def JC(g:TypeId->Option S_):Nat->List Field->Option S_
 |_,[]=>some []|off,f::fs=>
  if f.name≠ "_"/\f.offset=off then
   match g f.type with
   |some ks=>(JC g (off+ks.length) fs).map (ks++·)
   |none=>none
  else none
def wE(P:Program):Nat->TypeId->Option S_
 |0,_=>none|d+1,t=>
 match P.underlying t with
 |some .bool=>some [.b]|some (.int _)=>some [.i]|some .string=>some [.s]|some (.struct fs)=>
  if P.stoodInHeld t then none
  else match JC (wE P d) 0 fs.toList with
   |some ks=>if(P.info? t).map (·.size)=some ks.length then some ks else none
   |none=>none
 |_=>none
theorem M4{α β:Type}{f:α->β}{o:Option α}{b:β}(h:o.map f=some b):∃a,o=some a/\f a=b:=by simp_all
theorem K3:∀{ks:S_}{xs ys:w_}{r:Bool},g8 ks xs ys=some r->xs.length=ks.length/\ys.length=ks.length:=by
 intro ks;induction ks with
 |nil=>intro xs ys r h;cases xs<;>cases ys<;>simp[g8]at h⊢|cons k ks ih=>
 intro xs ys r h;cases xs with
 |nil=>cases k<;>simp[g8]at h|cons x xs=>
 cases ys with
 |nil=>cases k<;>cases x<;>simp[g8]at h|cons y ys=>
 cases k<;>cases x<;>cases y<;>simp only[g8]at h<;>first|(simp at h;done)|skip
 split at h;obtain⟨r',h1,_⟩:=M4 h;have:=ih h1;simp[this.1,this.2];simp at h;obtain⟨r',h1,_⟩:=M4 h;have:=ih h1;simp[this.1,this.2];obtain⟨r',h1,_⟩:=M4 h;have:=ih h1;simp[this.1,this.2]
theorem Ek:∀{k1 k2:S_}{xs ys:w_}{r:Bool},g8 (k1++k2) xs ys=some r ->∃r1 r2,g8 k1 (xs.take k1.length) (ys.take k1.length)=some r1/\g8 k2 (xs.drop k1.length) (ys.drop k1.length)=some r2/\r=(r1&&r2):=by
 intro k1;induction k1 with
 |nil=>intro k2 xs ys r h;exact⟨true,r,rfl,h,rfl⟩|cons k k1 ih=>
 intro k2 xs ys r h;simp only[List.cons_append]at h;cases xs with
 |nil=>cases k<;>simp[g8]at h|cons x xs=>
 cases ys with
 |nil=>cases k<;>cases x<;>simp[g8]at h|cons y ys=>
 have ZV:∀(q:Bool)(h:(g8 (k1++k2) xs ys).map (q && ·)=some r)(hq:∀X Y,g8 (k::k1) (x::X) (y::Y)=(g8 k1 X Y).map (q && ·)),∃r1 r2,g8 (k::k1) ((x::xs).take (k::k1).length) ((y::ys).take (k::k1).length)=some r1/\g8 k2 ((x::xs).drop (k::k1).length) ((y::ys).drop (k::k1).length)=some r2/\r=(r1&&r2):=by intro q h hq;obtain⟨r',h1,h2⟩:=M4 h;obtain⟨r1,r2,a1,a2,a3⟩:=ih h1;refine⟨q&&r1,r2,?_,by simpa using a2,by rw[<- h2,a3,Bool.and_assoc]⟩;simp only[oLC,List.take_succ_cons];rw[hq,a1];rfl
 cases k<;>cases x<;>cases y<;>simp only[g8]at h<;>first|(simp at h;done)|skip
 split at h;rename_i e;exact ZV _ h λX Y=>by simp only[g8,oIP e]
 simp at h;exact ZV _ h λX Y=>rfl;exact ZV _ h λX Y=>rfl
section
variable {P:Program} {w:World}
theorem CS{d D:Nat}{g:TypeId->Option S_} (ih:∀t ks,g t=some ks->∀(xs ys:s_) off r,g8 ks ((xs.toList.drop off).take ks.length) ((ys.toList.drop off).take ks.length)=some r->∃a b,(part t xs off).run P w=.ok a w/\(part t ys off).run P w=.ok b w/\(Op.equalIn D t a b).run P w=.ok r w)(xs ys:s_):∀(fs:List Field)(o:Nat)(ks:S_)(r:Bool),JC g o fs=some ks->g8 ks (xs.toList.drop o) (ys.toList.drop o)=some r->(Op.eqFields D xs ys fs).run P w=.ok r w:=by
 intro fs;induction fs with
 |nil=>
 intro o ks r h he;simp only[JC,oSJ]at h;subst h;have hr:r=true:=by revert he;generalize xs.toList.drop o=X;generalize ys.toList.drop o=Y;intro he;cases X<;>cases Y<;>simp[g8]at he;exact he
 subst hr;rfl
 |cons f fs ihf=>
 intro o ks r h he;simp only[JC]at h;split at h;case isFalse=>simp at h
 rename_i hf;split at h;case h_2=>simp at h
 rename_i k1 Ze;obtain⟨k2,Yq,rfl⟩:=M4 h;obtain⟨r1,r2,a1,a2,rfl⟩:=Ek he;obtain⟨a,b,p1,p2,p3⟩:=ih f.type k1 Ze xs ys o r1 a1;rw[List.drop_drop,List.drop_drop]at a2;have ZU:=ihf (o+k1.length) k2 r2 Yq a2;simp only[Op.eqFields];rw[oIP hf.1,hf.2];simp only[Sem.run_bind,p1,p2,p3,Result.andThen_ok];cases r1 with|false=>simp|true=>simp_all
theorem Po:∀(d:Nat)(t:TypeId)(ks:S_),wE P d t=some ks->∀D,d<=D->∀(xs ys:s_)(off:Nat)(r:Bool),g8 ks ((xs.toList.drop off).take ks.length) ((ys.toList.drop off).take ks.length)=some r ->∃a b,(part t xs off).run P w=.ok a w/\(part t ys off).run P w=.ok b w/\(Op.equalIn D t a b).run P w=.ok r w:=by
 intro d;induction d with
 |zero=>intro t ks h;simp[wE]at h|succ d ih=>
 intro t ks h D hD xs ys off r he;obtain⟨D',rfl⟩:∃D',D=D'+1:=⟨D-1,by omega⟩;simp only[wE]at h;have one:∀(dsc:TypeDesc)(k:FK),P.underlying t=some dsc->(∀f,dsc≠.struct f)->(∀n e,dsc≠.array n e)->ks=[k]->∃x y,xs[off]?=some x/\ys[off]?=some y/\g8 [k] [x] [y]=some r/\(part t xs off).run P w=.ok x w/\(part t ys off).run P w=.ok y w:=by
  rintro dsc k hu h1 h2 rfl;obtain⟨l1,l2⟩:=K3 he;obtain⟨x,hx⟩:∃x,xs.toList.drop off=x::(xs.toList.drop (off+1)):=by
   have:off<xs.toList.length:=by simp at l1⊢;omega
   exact⟨_,List.drop_eq_getElem_cons this⟩
  obtain⟨y,hy⟩:∃y,ys.toList.drop off=y::(ys.toList.drop (off+1)):=by
   have:off<ys.toList.length:=by simp at l2⊢;omega
   exact⟨_,List.drop_eq_getElem_cons this⟩
  have YB:xs[off]?=some x:=by have:=congrArg (λl=>l[0]?) hx;simpa using this
  have hy2:ys[off]?=some y:=by have:=congrArg (λl=>l[0]?) hy;simpa using this
  rw[hx,hy]at he;exact⟨x,y,YB,hy2,by simpa using he,by simp[part,uE hu h1 h2,YB],by simp[part,uE hu h1 h2,hy2]⟩
 split at h;rename_i hu;injection h with h
 obtain⟨x,y,_,_,e,p1,p2⟩:=one _ .b hu (λ_ h=>by cases h) (λ_ _ h=>by cases h) h.symm;refine⟨x,y,p1,p2,?_⟩;cases x<;>cases y<;>simp[g8]at e;simp[Op.equalIn,run_underlying hu,e]
 ·rename_i k0 hu
  injection h with h
  obtain⟨x,y,_,_,e,p1,p2⟩:=one _ .i hu (λ_ h=>by cases h) (λ_ _ h=>by cases h) h.symm;refine⟨x,y,p1,p2,?_⟩
  cases x<;>cases y<;>simp only[g8]at e<;>first|(simp at e;done)|skip
  rename_i ka a kb b;split at e
  ·rename_i hk;subst hk;simp at e;simp[Op.equalIn,run_underlying hu,e]
  ·simp at e
 rename_i hu;injection h with h
 obtain⟨x,y,_,_,e,p1,p2⟩:=one _ .s hu (λ_ h=>by cases h) (λ_ _ h=>by cases h) h.symm;refine⟨x,y,p1,p2,?_⟩;cases x<;>cases y<;>simp[g8]at e;simp[Op.equalIn,run_underlying hu,e]
 ·rename_i fs hu;split at h
  case isTrue=>simp at h
  rename_i hst;split at h
  case h_2=>simp at h
  rename_i ks' hfs;split at h
  case isFalse=>simp at h
  rename_i hsz
  injection h with h
  subst h
  have Yx:(sizeOf t).run P w=.ok ks'.length w:=by
   unfold sizeOf typeInfo
   cases hi:P.info? t with
   |none=>simp[hi]at hsz
   |some i=>simp[hi]at hsz;simp[hi,hsz]
  have hpart:∀zs:s_,(part t zs off).run P w=.ok (.agg (zs.extract off (off+ks'.length))) w:=λzs=>by
   simp[part,sY hu (.inl ⟨_,rfl⟩),Yx]
  refine⟨_,_,hpart xs,hpart ys,?_⟩
  have hff:P.fieldsOf t=fs:=by simp[Program.fieldsOf,hu]
  rw[run_equalIn_struct w D' t _ _ (by rw[hff];exact hu) (by simpa using hst),hff];refine CS (d:=d) (g:=wE P d) (λt ks h xs ys off r he=>ih t ks h D' (by omega) xs ys off r he) _ _ fs.toList 0 ks' r hfs ?_
  have e:∀zs:s_,(zs.extract off (off+ks'.length)).toList.drop 0=(zs.toList.drop off).take ks'.length:=λzs=>by
   simp[List.extract_eq_take_drop]
  rw[e,e];exact he
 simp at h
theorem Qc{d D:Nat}{t:TypeId}{ks:S_}{fs:Array Field}(h:wE P (d+1) t=some ks)(hu:P.underlying t=some (.struct fs))(hD:d<=D){xs ys:s_}{r:Bool}(he:g8 ks xs.toList ys.toList=some r):(Op.equalIn (D+1) t (.agg xs) (.agg ys)).run P w=.ok r w:=by
 simp only[wE,hu]at h;split at h;case isTrue=>simp at h
 split at h;case h_2=>simp at h
 rename_i ks' hfs;split at h;case isFalse=>simp at h
 have hff:P.fieldsOf t=fs:=by simp[Program.fieldsOf,hu]
 rw[run_equalIn_struct w D t _ _ (by simp_all) (by simp_all),hff];exact CS (d:=d) (λt ks h xs ys off r he=>Po d t ks h D hD xs ys off r he) _ _ fs.toList 0 ks' r hfs (by simp_all)
variable {M:Fm} {σ σ':St} {G:Gh} {a:Act} {o:Oper}
theorem Sf{F:Nat->Prop}{V:Vs}{C:Cs}:∀{l:U_}{vs:w_},gO l=some vs->vs.length=l.length/\∀j (h:j<l.length)(h':j<vs.length)(x:Value),TmR w F V C G l[j] x->x=vs[j]:=by
 intro l;induction l with
 |nil=>intro vs h;simp[gO]at h;subst h;exact⟨rfl,λj h=>by simp at h⟩|cons t l ih=>
 intro vs h;cases t with
 |v z=>obtain⟨Zd,h1,rfl⟩:=M4 h;have ⟨e,h2⟩:=ih h1;refine⟨by simp[e],λj hj ZR x hx=>?_⟩;cases j with|zero=>exact hx.v_inv.1|succ j=>exact h2 j (by simp_all) (by simp_all) x hx
 |_=>simp[gO]at h
theorem Jz{F:Nat->Prop}{V:Vs}{C:Cs}{l:U_}{vs:w_}{x:Value}(h:gO l=some vs)(hx:TmR w F V C G (.agg l) x):x=.agg vs.toArray:=by
 obtain⟨xs,rfl,hl,hj⟩:=Qt hx;obtain⟨e,h2⟩:=Sf h;congr 1;apply Array.ext;simp_all;intro j h1 h3;have:=h2 j (by omega) (by omega) _ (hj j (by omega));have e2:xs.getD j undef=xs[j]:=by simp[h1]
 simp_all
theorem Oz(hI:Inv M σ [] [] a.tmps w G){d:Nat}(hd:o.dst=some d)(hN:M.ok d){x y:Opd}{x' y':Operand}{op:BinOp}{neg:Bool}{t yt:TypeId}{ks:S_}{fs:Array Field}(hx:gc x'=some x)(hy:gc y'=some y)(ho:o.op=.binOp op t x' y' yt)(hop:(op=.eql/\neg=false)\/(op=.neq/\neg=true)) (hu:P.underlying t=some (.struct fs))(hk:wE P 50 t=some ks)(hgd:P.eqGuardType P.depth t=false)(hr:(ev1 d (.eqa ks neg x y)).run σ=some ((),σ')):r9 P M σ' a o w:=by
 simp only[ev1]at hr;obtain⟨t1,σ1,h1,h2⟩:=fS hr;obtain⟨rfl,Z2⟩:=iv hI.tmr hx h1;obtain⟨t2,σ2,h3,h4⟩:=fS h2;obtain⟨rfl,U'⟩:=iv hI.tmr hy h3;cases t1 with
 |agg l1=>
 cases t2 with
  |agg l2=>simp only at h4;obtain⟨vs1,σ3,h5,h6⟩:=fS h4;obtain⟨e1,rfl⟩:=vO h5;obtain⟨vs2,σ4,h7,h8⟩:=fS h6;obtain⟨e2,rfl⟩:=vO h7;obtain⟨r,σ5,h9,h10⟩:=fS h8;obtain⟨e3,rfl⟩:=vO h9;have ex:=Jz e1 Z2;have ey:=Jz e2 U';have hq:(Op.equalIn 10000 t (.agg vs1.toArray) (.agg vs2.toArray)).run P w=.ok r w:=Qc (d:=49) (D:=9999) hk hu (by omega) (by simpa using e3);have hg:(eqGuard op t x' y' (.agg vs1.toArray) (.agg vs2.toArray)).run P w=.ok () w:=run_eqGuard_agg w op t x' y' _ _ hgd;refine kV hI hd hN (.v rfl) h10 ?_;rcases hop with⟨rfl,rfl⟩|⟨rfl,rfl⟩;simp[execOp,ho,ex,ey,hg,run_eql_struct,hq];simp[execOp,ho,ex,ey,hg,run_neq_struct,hq]
  |_=>simp[SP.run]at h4
 |_=>simp[SP.run]at h4
end
end Go.Proofs.YtabfnmgabblofaaGreat
