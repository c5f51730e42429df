/- Steps on typed data are steps on trees: what is taken, put, named; no condition. -/
import Derived.Test.YtkmbahlpmoljpaaQi
set_option linter.unusedVariables false
set_option linter.unusedSimpArgs false
namespace Go.Proofs.Ytkmbahlpmoljpaa
open Go.RowKit

section
variable {α β γ δ Y : Type}
theorem Sim.rdT {i : Nat} {g : XV den → XM den Option Y γ} {h : TV → SP δ} {f : γ → δ} (H : ∀ t, Sim (g t) (h (er t)) f) : Sim (X.bind (X.rdT i) g) (.rdT i h) f := (sim_rdT i).bind H
theorem Sim.rdC {r o : Nat} {g : XV den → XM den Option Y γ} {h : TV → SP δ} {f : γ → δ} (H : ∀ t, Sim (g t) (h (er t)) f) : Sim (X.bind (X.rdC r o) g) (.rdC r o h) f := (sim_rdC r o).bind H
theorem Sim.rdV {q : Key} {g : Nat → XM den Option Y γ} {h : Nat → SP δ} {f : γ → δ} (H : ∀ t, Sim (g t) (h t) f) : Sim (X.bind (X.rdV q) g) (.rdV q h) f := (sim_rdV q).bind H
theorem Sim.wrT {i : Nat} {t : XV den} {t' : TV} {g : Unit → XM den Option Y γ} {h : SP δ} {f : γ → δ} (e : er t = t') (H : Sim (g ()) h f) : Sim (X.bind (X.wrT realA i t) g) (.wrT i t' h) f := by subst e; exact (sim_wrT i t).bind (h := fun _ => h) fun _ => H
theorem Sim.wrC {r o : Nat} {t : XV den} {t' : TV} {g : Unit → XM den Option Y γ} {h : SP δ} {f : γ → δ} (e : er t = t') (H : Sim (g ()) h f) : Sim (X.bind (X.wrC realA r o t) g) (.wrC r o t' h) f := by subst e; exact (sim_wrC r o t).bind (h := fun _ => h) fun _ => H
theorem Sim.new {r : Nat} {l : List (XV den)} {l' : List TV} {g : Unit → XM den Option Y γ} {h : SP δ} {f : γ → δ} (e : erL l = l') (H : Sim (g ()) h f) : Sim (X.bind (X.new realA r l) g) (.new r l' h) f := by subst e; exact (sim_new r l).bind (h := fun _ => h) fun _ => H
theorem Sim.bump {q : Key} {g : Unit → XM den Option Y γ} {h : SP δ} {f : γ → δ} (H : Sim (g ()) h f) : Sim (X.bind (X.bump q) g) (.bump q h) f := (sim_bump q).bind (h := fun _ => h) fun _ => H

theorem isOwX_er (x : XV den) : isOw (er x) = X.isOwX x := by
  cases x with
  | d t y => cases t with
    | row o t => cases o <;> rfl
    | nilr o => cases o <;> rfl
    | _ => rfl
  | _ => rfl
theorem isHdrX_er (x : XV den) : isHdr (er x) = X.isHdrX x := by
  cases x with
  | d t y => cases t with
    | row o t => cases o <;> rfl
    | nilr o => cases o <;> rfl
    | _ => rfl
  | _ => rfl
theorem okCellX_er {x : XV den} (h : X.okCellX x = true) : okCell (er x) = true := by
  cases x with
  | d t y => cases t with
    | row o t => cases o <;> first | rfl | simp [X.okCellX] at h
    | nilr o => cases o <;> rfl
    | nat => simp [X.okCellX] at h
    | pair a b => simp [X.okCellX] at h
    | _ => rfl
  | k y => rfl
  | _ => simp [X.okCellX] at h
/-- A cell that can be handed over as it is: a flat one, or shared. -/
theorem plainX_er {x : XV den} (h : X.okCellX x = true) (h2 : X.isOwX x = false) : (∃ y, er x = .v y) ∨ ∃ c, er x = .sl c := by
  cases x with
  | d t y => cases t with
    | int k => exact .inl ⟨_, rfl⟩
    | bool => exact .inl ⟨_, rfl⟩
    | str => exact .inl ⟨_, rfl⟩
    | row o t => cases o <;> first | exact .inr ⟨_, rfl⟩ | simp [X.okCellX] at h
    | nilr o => cases o <;> first | exact .inr ⟨_, rfl⟩ | simp [X.isOwX, X.isOwT] at h2
    | nat => simp [X.okCellX] at h
    | pair a b => simp [X.okCellX] at h
  | k y => exact .inl ⟨_, rfl⟩
  | _ => simp [X.okCellX] at h
theorem isOwX_ow {v : XV den} (h : X.isOwX v = true) : ∃ c, er v = .ow c := by
  rw [← isOwX_er] at h
  cases hv : er v <;> rw [hv] at h <;> simp [isOw] at h
  exact ⟨_, rfl⟩
theorem hopOs_er (p : XP den) : hopOffs (erP p).hops = X.hopOs p.hops := rfl
theorem bare_er {p : XP den} (h : XP.bare p = true) : (erP p).hops = [] := by
  obtain ⟨r, o, hs⟩ := p
  cases hs with
  | nil => rfl
  | cons => simp [XP.bare] at h
theorem winX_er {lo n : Nat} {v w : XV den} (h : X.winX realA lo n v = some w) : ∃ c, er v = .ow c ∧ er w = .sl (((c.drop lo).take n).map fun e => e.map TV.imm) := by
  unfold X.winX at h
  split at h
  · rename_i t xs
    split at h
    · rename_i t' ys hi
      injection h with h
      subst h
      refine ⟨_, rfl, ?_⟩
      have h1 := immX_er hi
      have h2 : TV.sl (List.map (enc t') (ys : List (den t'))) = (TV.ow (List.map (enc t) (xs : List (den t)))).imm := h1
      rw [TV.imm_ow] at h2
      injection h2 with h2
      show TV.sl (List.map (enc t') ((List.drop lo (ys : List (den t'))).take n)) = _
      rw [List.map_take, List.map_drop, h2, List.map_take, List.map_drop]
    · simp at h
  · injection h with h; subst h; exact ⟨[], rfl, by simp [er, er1]⟩
  · simp at h
theorem sim_take1 (mv : Bool) (x : XV den) : Sim (Y := Y) (X.take1 realA mv x) (take1 mv (er x)) er := by
  cases x with
  | d t y => cases t with
    | int k => exact .ret rfl
    | bool => exact .ret rfl
    | str => exact .ret rfl
    | nat => exact .fail
    | row o t => cases o <;> first | exact .fail | exact .ret rfl
    | nilr o => cases o <;> cases mv <;> exact .ret rfl
    | pair a b => exact .fail
  | k y => exact .ret rfl
  | pk p vs =>
    refine (sim_chk p _ vs).bind fun _ => Sim.rdC fun tv => sim_getX fun v hv => ?_
    refine Sim.ite (fun ho => ?_) fun _ => .fail
    obtain ⟨c, hc⟩ := isOwX_ow ho
    have hv' : getT (er tv) (erP p).hops = some (.ow c) := by rw [← hc]; exact hv
    simp only [hv']
    cases mv with
    | true =>
      simp only [if_true]
      refine Sim.ite (fun hb => ?_) fun _ => .fail
      refine Sim.wrC (by rw [bare_er hb]; rfl) (Sim.bump (.ret hc))
    | false =>
      simp only [Bool.false_eq_true, if_false]
      refine Sim.opt fun tv' h1 => Sim.opt fun v' h2 => Sim.wrC (shareX_er h1) (Sim.bump (.ret ?_))
      rw [immX_er h2, hc]
  | pw p vs sz lo n =>
    refine (sim_chk p _ vs).bind fun _ => Sim.rdC fun tv => sim_getX fun v hv => ?_
    refine Sim.opt fun tv' h1 => Sim.opt fun v' h2 => ?_
    obtain ⟨c, hc, hw⟩ := winX_er h2
    have hv' : getT (er tv) (erP p).hops = some (.ow c) := by rw [← hc]; exact hv
    simp only [hv']
    exact Sim.wrC (shareX_er h1) (Sim.bump (.ret hw))
  | _ => exact .fail
theorem sim_takeL (mv : Bool) : ∀ l : List (XV den), Sim (Y := Y) (X.takeL realA mv l) (takeL mv (erL l)) erL := by
  intro l
  induction l with
  | nil => exact .ret rfl
  | cons t r ih => exact (sim_take1 mv t).bind fun t' => ih.bind fun r' => .ret rfl
theorem cellsX_er (t : XV den) : cellsT (er t) = erL (X.cellsX t) := by
  cases t with
  | d t y => cases t with
    | row o t => cases o <;> rfl
    | nilr o => cases o <;> rfl
    | _ => rfl
  | _ => rfl
theorem er_agg {t : XV den} : (∃ l, t = .agg l) ∨ ((∀ l, t ≠ .agg l) ∧ ∀ l, er t ≠ .agg l) := by
  cases t with
  | agg l => exact .inl ⟨l, rfl⟩
  | d t y => cases t with
    | row o t => cases o <;> exact .inr ⟨by simp, by simp [er, er1]⟩
    | nilr o => cases o <;> exact .inr ⟨by simp, by simp [er, er1]⟩
    | _ => exact .inr ⟨by simp, by simp [er, er1]⟩
  | _ => exact .inr ⟨by simp, by simp [er]⟩
theorem sim_takeV (mv : Bool) (t : XV den) : Sim (Y := Y) (X.takeV realA mv t) (takeV mv (er t)) fun x => (erL x.1, x.2) := by
  rcases er_agg (t := t) with ⟨l, rfl⟩ | ⟨h1, h2⟩
  · exact (sim_takeL mv l).bind fun l' => .ret rfl
  · have e1 : X.takeV (X := Y) realA mv t = X.bind (X.take1 realA mv t) fun t' => X.ret ([t'], false) := by
      unfold X.takeV
      split
      · exact absurd rfl (h1 _)
      · rfl
    have e2 : takeV mv (er t) = (take1 mv (er t)).bind fun t' => .ret ([t'], false) := by
      unfold takeV
      split
      · rename_i e; exact absurd e (h2 _)
      · rfl
    rw [e1, e2]
    exact (sim_take1 mv t).bind fun t' => .ret rfl

/-! ## Cells put -/
theorem fits_bare {p : Place} (h : p.hops = []) (n : Nat) : p.fits n = true := by
  unfold Place.fits
  rw [h]; rfl
theorem add_bare (r o n : Nat) : (⟨r, o, []⟩ : Place).add n = ⟨r, o + n, []⟩ := rfl
theorem sim_putB (r : Nat) : ∀ (l : List (XV den)) (o : Nat), Sim (Y := Y) (X.putB realA r o l) (putL ⟨r, o, []⟩ (erL l)) id := by
  intro l
  induction l with
  | nil => intro o; exact .ret rfl
  | cons t l ih =>
    intro o
    have step : ∀ (g : Unit → XM den Option Y Unit) (s : SP Unit), Sim (g ()) s id → Sim (X.bind (X.rdC r o) fun old => X.bind (X.wrC realA r o t) fun _ => X.bind (if X.isHdrX old || X.isHdrX t then X.bump (r, o, 1) else X.ret ()) g) ((putP ⟨r, o, []⟩ (er t)).bind fun _ => s) id := by
      intro g s hg
      refine Sim.rdC (h := fun tv => SP.bind _ _) fun old => ?_
      simp only [getT, isHdrX_er]
      by_cases hh : (X.isHdrX old || X.isHdrX t) = true
      · rw [if_pos hh, if_pos hh]
        rw [if_pos (by simp)]
        exact Sim.wrC rfl (Sim.bump hg)
      · rw [if_neg hh, if_neg hh]
        exact Sim.wrC rfl ((Sim.ret (a := ()) (b := ()) (f := id) rfl).bind (h := fun _ => s) fun _ => hg)
    cases l with
    | nil => exact step _ (.ret ()) (.ret rfl)
    | cons u l => exact step _ _ (ih (o + 1))
theorem sim_bumps (q : Key) : ∀ n : Nat, Sim (Y := Y) (X.bumps q n) (Nat.rec (.ret ()) (fun _ s => .bump q s) n) id := by
  intro n
  induction n with
  | zero => exact .ret rfl
  | succ n ih => exact Sim.bump ih
/-! ## Cells of an element put -/
def vincN (q : Key) : Nat → List (Key × Nat) → List (Key × Nat)
  | 0, v => v
  | n + 1, v => vincN q n (vinc v q)
theorem aget_self {α : Type} (l : List (Nat × α)) (i : Nat) (a : α) : aget (aset l i a) i = some a := by rw [aget_aset]; simp
theorem row_modify {t : CT} (xs : List (den t)) (i o : Nat) (f : den t → den t) (φ : TV → TV) (h : ∀ x, enc t (f x) = (enc t x).modify o φ) : er1 (.row true t) (List.modify xs i f) = .ow ((List.map (enc t) xs).modify i fun el => el.modify o φ) := by
  show TV.ow (List.map (enc t) (List.modify xs i f)) = _
  congr 1
  apply List.ext_getElem?
  intro j
  simp only [List.getElem?_map, List.getElem?_modify]
  by_cases hij : i = j
  · simp only [hij, if_true]
    cases xs[j]? with
    | none => rfl
    | some e => exact congrArg some (h e)
  · simp only [hij, if_false]; simp
theorem hdr_types {t : CT} (e e' : den t) : (X.splitX realA t e).map X.isHdrX = (X.splitX realA t e').map X.isHdrX := by
  induction t with
  | pair a b iha ihb =>
    simp only [X.splitX, List.map_append]
    rw [iha _ (realA.fst a b e'), ihb _ (realA.snd a b e')]
  | _ => rfl
theorem hdrs_types : ∀ (a a' l : List (XV den)), a.map X.isHdrX = a'.map X.isHdrX → X.hdrs a l = X.hdrs a' l := by
  intro a
  induction a with
  | nil => intro a' l h; cases a' with | nil => rfl | cons => simp at h
  | cons x a ih =>
    intro a' l h
    cases a' with
    | nil => simp at h
    | cons x' a' =>
      simp only [List.map_cons, List.cons.injEq] at h
      cases l with
      | nil => rfl
      | cons b l => simp only [X.hdrs]; rw [h.1, ih a' l h.2]
def putFoot (r off n : Nat) (f : Foot) : Prop := (∀ x ∈ f.1, x = .c r off ∨ x = .n r ∨ (x = .v (r, off, 2) ∧ 0 < n)) ∧ ∀ x ∈ f.2, x = .c r off ∨ (x = .v (r, off, 2) ∧ 0 < n)
theorem putP_el {r off i sz o : Nat} {t : CT} (hsz : ctSz t = sz) {v old : XV den} {f : den t → den t} {xs : List (den t)} {e : den t} {σ : St} {L : List TV} (hf : X.setD realA t o (X.asF realA v) = some f) (he : xs[i]? = some e) (hold : nthX (X.splitX realA t e) o = some old)
    (hc : σ.c r off = er1 (.row true t) xs) (hL : aget σ.ce r = some L) (ho : off < L.length) :
    (putP ⟨r, off, [(i, sz, o)]⟩ (er v)).run σ = some ((), ⟨σ.tm, aset σ.ce r (L.set off (er1 (.row true t) (List.modify xs i f))), if X.isHdrX old || X.isHdrX v then vinc σ.vr (r, off, 2) else σ.vr⟩) ∧
    putFoot r off (if X.isHdrX old || X.isHdrX v then 1 else 0) ((putP ⟨r, off, [(i, sz, o)]⟩ (er v)).foot σ) := by
  have hget : getT (er1 (.row true t) xs) [(i, sz, o)] = some (er old) := by
    have h3 : (List.map (enc t) xs)[i]? = some (enc t e) := by rw [List.getElem?_map, he]; rfl
    show (match (List.map (enc t) xs)[i]? with | some el => if el.length = sz then (match el[o]? with | some t => getT t [] | none => none) else none | none => none) = _
    rw [h3]
    simp only [enc_len, hsz, if_true, split_nth hold]
    rfl
  have hset : setT (er1 (.row true t) xs) [(i, sz, o)] (er v) = er1 (.row true t) (List.modify xs i f) := by
    rw [row_modify xs i o f (fun _ => er v) (setD_enc (fun u h hu _ x => asF_er hu x) hf)]
    rfl
  unfold putP
  simp only [SP.run, SP.foot, hc, hget, isHdrX_er, hset]
  by_cases hh : (X.isHdrX old || X.isHdrX v) = true
  · rw [if_pos hh, if_pos hh, if_pos hh, if_pos (by simp)]
    simp only [SP.run, SP.foot, hL, ho, if_true]
    refine ⟨rfl, fun x hx => ?_, fun x hx => ?_⟩
    · simp only [List.length_cons, List.length_nil, List.mem_cons, List.not_mem_nil, or_false] at hx
      rcases hx with h | h | h
      · exact .inl h
      · exact .inr (.inl h)
      · exact .inr (.inr ⟨h, by decide⟩)
    · simp only [List.length_cons, List.length_nil, List.mem_cons, List.not_mem_nil, or_false] at hx
      rcases hx with h | h
      · exact .inl h
      · exact .inr ⟨h, by decide⟩
  · rw [if_neg hh, if_neg hh, if_neg hh]
    simp only [SP.run, SP.foot, hL, ho, if_true]
    refine ⟨by first | rfl | trivial, fun x hx => ?_, fun x hx => ?_⟩
    · simp only [List.mem_cons, List.not_mem_nil, or_false] at hx
      rcases hx with h | h
      · exact .inl h
      · exact .inr (.inl h)
    · simp only [List.mem_cons, List.not_mem_nil, or_false] at hx
      exact .inl hx
theorem vincN_succ (q : Key) (n : Nat) (v : List (Key × Nat)) : vincN q (n + 1) v = vincN q n (vinc v q) := rfl
theorem putL_el {r off i sz : Nat} {t : CT} (hsz : ctSz t = sz) : ∀ (l : List (XV den)) {o : Nat} {f : den t → den t} {xs : List (den t)} {e : den t} {σ : St} {L : List TV}, X.setDs realA t o l = some f → xs[i]? = some e → o + l.length ≤ sz →
    σ.c r off = er1 (.row true t) xs → aget σ.ce r = some L → off < L.length →
    (putL ⟨r, off, [(i, sz, o)]⟩ (erL l)).run σ = some ((), ⟨σ.tm, aset σ.ce r (L.set off (er1 (.row true t) (List.modify xs i f))), vincN (r, off, 2) (X.hdrs ((X.splitX realA t e).drop o) l) σ.vr⟩) ∧
    putFoot r off (X.hdrs ((X.splitX realA t e).drop o) l) ((putL ⟨r, off, [(i, sz, o)]⟩ (erL l)).foot σ) := by
  intro l
  induction l with
  | nil => intro o f xs e σ L h; simp [X.setDs] at h
  | cons v l ih =>
    intro o f xs e σ L hf he ho hc hL hoff
    have hlen : (X.splitX realA t e).length = sz := by rw [← erL_len, split_er, enc_len, hsz]
    simp only [List.length_cons] at ho
    obtain ⟨old, hold⟩ : ∃ old, nthX (X.splitX realA t e) o = some old := by
      rw [nthX_eq]
      exact ⟨_, List.getElem?_eq_getElem (by omega)⟩
    have hold2 : (X.splitX realA t e).drop o = old :: (X.splitX realA t e).drop (o + 1) := by
      rw [nthX_eq] at hold
      have ho3 : o < (X.splitX realA t e).length := by omega
      rw [List.drop_eq_getElem_cons ho3]
      rw [List.getElem?_eq_getElem ho3] at hold
      injection hold with hold
      rw [hold]
    cases l with
    | nil =>
      simp only [X.setDs] at hf
      obtain ⟨h1, h2⟩ := putP_el (r := r) (off := off) (i := i) hsz hf he hold hc hL hoff
      have e1 : X.hdrs ((X.splitX realA t e).drop o) [v] = if X.isHdrX old || X.isHdrX v then 1 else 0 := by rw [hold2]; simp [X.hdrs]
      have e2 : putL ⟨r, off, [(i, sz, o)]⟩ (erL [v]) = (putP ⟨r, off, [(i, sz, o)]⟩ (er v)).bind fun _ => .ret () := rfl
      refine ⟨?_, ?_⟩
      · rw [e2, SP.run_bind, h1, e1]
        simp only [Option.bind_some, SP.run]
        by_cases hh : (X.isHdrX old || X.isHdrX v) = true
        · rw [if_pos hh, if_pos hh]; rfl
        · rw [if_neg hh, if_neg hh]; rfl
      · rw [e2, SP.foot_bind _ _ h1, e1]
        simpa [SP.foot] using h2
    | cons w vs =>
      simp only [X.setDs] at hf
      split at hf
      case h_2 => simp at hf
      rename_i f1 g h1 h2
      injection hf with hf
      subst hf
      obtain ⟨p1, p2⟩ := putP_el (r := r) (off := off) (i := i) hsz h1 he hold hc hL hoff
      have he1 : (List.modify xs i f1)[i]? = some (f1 e) := by simp [List.getElem?_modify, he]
      have hofs : ∀ (vr : List (Key × Nat)), (⟨σ.tm, aset σ.ce r (L.set off (er1 (.row true t) (List.modify xs i f1))), vr⟩ : St).c r off = er1 (.row true t) (List.modify xs i f1) := by
        intro vr
        unfold St.c
        simp only [aget_self]
        simp [hoff]
      have hIH := ih (o := o + 1) (σ := ⟨σ.tm, aset σ.ce r (L.set off (er1 (.row true t) (List.modify xs i f1))), if X.isHdrX old || X.isHdrX v then vinc σ.vr (r, off, 2) else σ.vr⟩) h2 he1 (by simp only [List.length_cons] at ho ⊢; omega) (hofs _) (aget_self _ _ _) (by simpa using hoff)
      obtain ⟨q1, q2⟩ := hIH
      have e2 : putL ⟨r, off, [(i, sz, o)]⟩ (erL (v :: w :: vs)) = (putP ⟨r, off, [(i, sz, o)]⟩ (er v)).bind fun _ => putL ⟨r, off, [(i, sz, o + 1)]⟩ (erL (w :: vs)) := by
        have hfit : Place.fits ⟨r, off, [(i, sz, o)]⟩ 1 = true := by simp only [Place.fits, List.reverse_cons, List.reverse_nil, List.nil_append]; simp only [List.length_cons] at ho; simpa using (by omega : o + 1 < sz)
        show (putP ⟨r, off, [(i, sz, o)]⟩ (er v)).bind (fun _ => if Place.fits ⟨r, off, [(i, sz, o)]⟩ 1 then putL ⟨r, off, [(i, sz, o + 1)]⟩ (erL (w :: vs)) else .fail) = _
        rw [hfit]; rfl
      have e3 : X.hdrs ((X.splitX realA t e).drop o) (v :: w :: vs) = (if X.isHdrX old || X.isHdrX v then 1 else 0) + X.hdrs ((X.splitX realA t (f1 e)).drop (o + 1)) (w :: vs) := by
        rw [hold2]
        show _ + X.hdrs ((X.splitX realA t e).drop (o + 1)) (w :: vs) = _
        rw [hdrs_types _ ((X.splitX realA t (f1 e)).drop (o + 1)) _ (by rw [List.map_drop, List.map_drop, hdr_types e (f1 e)])]
      have e4 : List.modify (List.modify xs i f1) i g = List.modify xs i fun e => g (f1 e) := by
        apply List.ext_getElem?
        intro j
        simp only [List.getElem?_modify]
        by_cases hij : i = j
        · simp only [hij, if_true]; cases xs[j]? <;> rfl
        · simp [hij]
      refine ⟨?_, ?_⟩
      · rw [e2, SP.run_bind, p1]
        simp only [Option.bind_some]
        rw [q1, e3, aset_aset, List.set_set, e4]
        congr 2
        by_cases hh : (X.isHdrX old || X.isHdrX v) = true
        · rw [if_pos hh, if_pos hh, Nat.add_comm 1]; rfl
        · rw [if_neg hh, if_neg hh, Nat.zero_add]
      · rw [e2, SP.foot_bind _ _ p1, e3]
        refine ⟨fun x hx => ?_, fun x hx => ?_⟩
        · rcases List.mem_append.1 hx with hx | hx
          · rcases p2.1 x hx with h | h | ⟨h, h'⟩
            · exact .inl h
            · exact .inr (.inl h)
            · exact .inr (.inr ⟨h, by omega⟩)
          · rcases q2.1 x hx with h | h | ⟨h, h'⟩
            · exact .inl h
            · exact .inr (.inl h)
            · exact .inr (.inr ⟨h, by omega⟩)
        · rcases List.mem_append.1 hx with hx | hx
          · rcases p2.2 x hx with h | ⟨h, h'⟩
            · exact .inl h
            · exact .inr ⟨h, by omega⟩
          · rcases q2.2 x hx with h | ⟨h, h'⟩
            · exact .inl h
            · exact .inr ⟨h, by omega⟩
theorem bumps_run (q : Key) : ∀ (n : Nat) {σ : XS den} {k : Unit → XS den → Option Y} {y : Y}, X.bumps q n σ k = some y → ∃ σ', erS σ' = ⟨(erS σ).tm, (erS σ).ce, vincN q n σ.vr⟩ ∧ (∀ x ∈ σ.lg.1, x ∈ σ'.lg.1) ∧ (∀ x ∈ σ.lg.2, x ∈ σ'.lg.2) ∧ (0 < n → Loc.v q ∈ σ'.lg.1 ∧ Loc.v q ∈ σ'.lg.2) ∧ k () σ' = some y := by
  intro n
  induction n with
  | zero => intro σ k y h; exact ⟨σ, rfl, fun _ h => h, fun _ h => h, fun h => by omega, h⟩
  | succ n ih =>
    intro σ k y h
    obtain ⟨σ', h1, h2, h3, h4, h5⟩ := ih (show X.bumps q n ⟨σ.tm, σ.ce, vinc σ.vr q, (.v q :: σ.lg.1, .v q :: σ.lg.2)⟩ k = some y from h)
    exact ⟨σ', h1, fun x hx => h2 x (by simp [hx]), fun x hx => h3 x (by simp [hx]), fun _ => ⟨h2 _ (by simp), h3 _ (by simp)⟩, h5⟩
/-! ## Cells at the end of a long way put -/
theorem setD_split {G G1 G2 : (u : CT) → Option (den u → den u)} (hG : ∀ u f, G u = some f → ∃ f1 g, G1 u = some f1 ∧ G2 u = some g ∧ ∀ x, f x = g (f1 x)) : ∀ {t : CT} {o : Nat} {f : den t → den t}, X.setD realA t o G = some f → ∃ f1 g, X.setD realA t o G1 = some f1 ∧ X.setD realA t o G2 = some g ∧ ∀ x, f x = g (f1 x) := by
  intro t
  induction t with
  | pair a b iha ihb =>
    intro o f h
    simp only [X.setD] at h ⊢
    by_cases ho : o < ctSz a
    · rw [if_pos ho] at h
      obtain ⟨h1, e1, rfl⟩ := omap h
      obtain ⟨f1, g, e2, e3, e4⟩ := iha e1
      rw [if_pos ho, if_pos ho, e2, e3]
      exact ⟨_, _, rfl, rfl, fun x => by show (h1 x.1, x.2) = (g (f1 x.1), x.2); rw [e4]⟩
    · rw [if_neg ho] at h
      obtain ⟨h1, e1, rfl⟩ := omap h
      obtain ⟨f1, g, e2, e3, e4⟩ := ihb e1
      rw [if_neg ho, if_neg ho, e2, e3]
      exact ⟨_, _, rfl, rfl, fun x => by show (x.1, h1 x.2) = (x.1, g (f1 x.2)); rw [e4]⟩
  | nat => intro o f h; simp [X.setD] at h
  | _ =>
    intro o f h
    cases o with
    | succ o => simp [X.setD] at h
    | zero =>
      simp only [X.setD] at h ⊢
      first
        | exact hG _ f h
        | (obtain ⟨a, b, c, d, _⟩ := hG _ f h; exact ⟨a, b, c, d, fun _ => trivial⟩)
theorem upd_upd {t : CT} (xs : List (den t)) (i : Nat) (f1 g f : den t → den t) (h : ∀ x, f x = g (f1 x)) : List.modify xs i f = List.modify (List.modify xs i f1) i g := by
  apply List.ext_getElem?
  intro j
  simp only [List.getElem?_modify]
  by_cases hij : i = j
  · simp only [hij, if_true]
    cases xs[j]? with
    | none => rfl
    | some e => exact congrArg some (h e)
  · simp [hij]
theorem setHs_split {pl : List (den .nat × Nat × Nat)} {i sz o : Nat} {v w : XV den} {vs : List (XV den)} : ∀ {u : CT} {f : den u → den u}, X.setHs realA (pl ++ [(i, sz, o)]) (v :: w :: vs) u = some f → ∃ f1 g, X.setH realA (pl ++ [(i, sz, o)]) v u = some f1 ∧ X.setHs realA (pl ++ [(i, sz, o + 1)]) (w :: vs) u = some g ∧ ∀ x, f x = g (f1 x) := by
  induction pl with
  | nil =>
    intro u f h
    cases u with
    | row ow t => cases ow with
      | false => simp [X.setHs] at h
      | true =>
        simp only [List.nil_append, X.setHs, X.setH] at h ⊢
        split at h
        · rename_i hsz
          obtain ⟨F, h1, rfl⟩ := omap h
          simp only [X.setDs] at h1
          split at h1
          · rename_i f1 g e1 e2
            injection h1 with h1
            have e1' : X.setD realA t o (fun u => X.asF realA v u) = some f1 := e1
            rw [if_pos hsz, if_pos hsz, e2]
            refine ⟨fun xs => List.modify xs i f1, fun xs => List.modify xs i g, ?_, rfl, fun x => upd_upd x i f1 g F fun y => by rw [← h1]⟩
            rw [e1']; rfl
          · simp at h1
        · simp at h
    | _ => simp [X.setHs] at h
  | cons hp pl ih =>
    intro u f h
    obtain ⟨i0, sz0, o0⟩ := hp
    obtain ⟨q, qs, hq⟩ : ∃ q qs, pl ++ [(i, sz, o)] = q :: qs := by cases pl with | nil => exact ⟨_, _, rfl⟩ | cons a b => exact ⟨_, _, rfl⟩
    obtain ⟨q', qs', hq'⟩ : ∃ q qs, pl ++ [(i, sz, o + 1)] = q :: qs := by cases pl with | nil => exact ⟨_, _, rfl⟩ | cons a b => exact ⟨_, _, rfl⟩
    cases u with
    | row ow t => cases ow with
      | false => simp only [List.cons_append, hq] at h; simp [X.setHs] at h
      | true =>
        simp only [List.cons_append, hq, hq', X.setHs, X.setH] at h ⊢
        split at h
        · rename_i hsz
          obtain ⟨F, h1, rfl⟩ := omap h
          obtain ⟨f1, g, e1, e2, e3⟩ := setD_split (G1 := X.setH realA (q :: qs) v) (G2 := X.setHs realA (q' :: qs') (w :: vs)) (fun u f hf => by
            rw [← hq] at hf
            obtain ⟨a, b, c, d, e⟩ := ih hf
            rw [hq] at c
            rw [hq'] at d
            exact ⟨a, b, c, d, e⟩) h1
          rw [if_pos hsz, if_pos hsz, e1, e2]
          exact ⟨_, _, rfl, rfl, fun x => upd_upd x i0 f1 g F e3⟩
        · simp at h
    | _ => simp only [List.cons_append, hq] at h; simp [X.setHs] at h
theorem setHs_one (v : XV den) : ∀ (hs : List (den .nat × Nat × Nat)), hs ≠ [] → X.setHs realA hs [v] = X.setH realA hs v := by
  intro hs
  induction hs with
  | nil => intro h; exact absurd rfl h
  | cons h1 hs ih =>
    intro _
    funext u
    obtain ⟨i, sz, o⟩ := h1
    cases hs with
    | nil => cases u with
      | row ow t => cases ow with
        | true => rfl
        | false => rfl
      | _ => rfl
    | cons h2 hs => cases u with
      | row ow t => cases ow with
        | true =>
          simp only [X.setHs, X.setH]
          rw [ih (by simp)]
        | false => rfl
      | _ => rfl
theorem getT_other {pl : List Hop} {i sz o j : Nat} (hj : o ≠ j) (v : TV) : ∀ {t : TV}, getT (setT t (pl ++ [(i, sz, o)]) v) (pl ++ [(i, sz, j)]) = getT t (pl ++ [(i, sz, j)]) := by
  induction pl with
  | nil =>
    intro t
    cases t with
    | ow c =>
      show getT (.ow (c.modify i fun el => el.modify o fun t1 => setT t1 [] v)) [(i, sz, j)] = getT (.ow c) [(i, sz, j)]
      simp only [getT, List.getElem?_modify]
      cases hc : c[i]? with
      | none => rfl
      | some el => simp [List.getElem?_modify, hj]
    | _ => rfl
  | cons h pl ih =>
    intro t
    obtain ⟨i0, sz0, o0⟩ := h
    cases t with
    | ow c =>
      show getT (.ow (c.modify i0 fun el => el.modify o0 fun t1 => setT t1 (pl ++ [(i, sz, o)]) v)) ((i0, sz0, o0) :: (pl ++ [(i, sz, j)])) = getT (.ow c) ((i0, sz0, o0) :: (pl ++ [(i, sz, j)]))
      simp only [getT, List.getElem?_modify]
      cases hc : c[i0]? with
      | none => rfl
      | some el =>
        simp only [if_true, Option.map_eq_map, Option.map_some, List.length_modify, List.getElem?_modify]
        split
        · cases he : el[o0]? with
          | none => rfl
          | some t1 => exact ih
        · rfl
    | _ => rfl
theorem putL_deep {r off : Nat} {pl : List (den .nat × Nat × Nat)} {i sz : Nat} {u : CT} : ∀ (l : List (XV den)) {o : Nat} {f : den u → den u} {x : den u} {σ : St} {L : List TV}, X.setHs realA (pl ++ [(i, sz, o)]) l u = some f → 0 < l.length → o + l.length ≤ sz →
    (∀ j, j < l.length → ∃ old, getT (er1 u x) (pl ++ [(i, sz, o + j)]) = some old ∧ isHdr old = false) → (∀ v ∈ l, X.isHdrX v = false) → σ.c r off = er1 u x → aget σ.ce r = some L → off < L.length →
    (putL ⟨r, off, pl ++ [(i, sz, o)]⟩ (erL l)).run σ = some ((), ⟨σ.tm, aset σ.ce r (L.set off (er1 u (f x))), σ.vr⟩) ∧
    (∀ z ∈ ((putL ⟨r, off, pl ++ [(i, sz, o)]⟩ (erL l)).foot σ).1, z = .c r off ∨ z = .n r) ∧ ∀ z ∈ ((putL ⟨r, off, pl ++ [(i, sz, o)]⟩ (erL l)).foot σ).2, z = .c r off := by
  intro l
  induction l with
  | nil => intro o f x σ L _ h; simp at h
  | cons v l ih =>
    intro o f x σ L hf _ ho hold hh hc hL hoff
    obtain ⟨old, hg, hoh⟩ := hold 0 (by simp)
    rw [Nat.add_zero] at hg
    have hvh : isHdr (er v) = false := by rw [isHdrX_er]; exact hh v (by simp)
    have hput : ∀ (f1 : den u → den u), X.setH realA (pl ++ [(i, sz, o)]) v u = some f1 → (putP ⟨r, off, pl ++ [(i, sz, o)]⟩ (er v)).run σ = some ((), ⟨σ.tm, aset σ.ce r (L.set off (er1 u (f1 x))), σ.vr⟩) ∧ (putP ⟨r, off, pl ++ [(i, sz, o)]⟩ (er v)).foot σ = ([.c r off, .n r], [.c r off]) := by
      intro f1 h1
      have hs := setH_er h1 x
      unfold putP
      simp only [SP.run, SP.foot, hc]
      rw [hg]
      simp only [hoh, hvh, Bool.or_false, Bool.false_eq_true, if_false, SP.run, SP.foot, hL, hoff, if_true]
      rw [hs]
      exact ⟨by first | rfl | trivial, by first | rfl | trivial⟩
    cases l with
    | nil =>
      rw [setHs_one v _ (by simp)] at hf
      obtain ⟨h1, h2⟩ := hput f hf
      have e2 : putL ⟨r, off, pl ++ [(i, sz, o)]⟩ (erL [v]) = (putP ⟨r, off, pl ++ [(i, sz, o)]⟩ (er v)).bind fun _ => .ret () := rfl
      rw [e2, SP.run_bind, h1, SP.foot_bind _ _ h1, h2]
      refine ⟨rfl, fun z hz => ?_, fun z hz => ?_⟩
      · simp only [SP.foot, List.append_nil, List.mem_cons, List.not_mem_nil, or_false] at hz; exact hz
      · simp only [SP.foot, List.append_nil, List.mem_cons, List.not_mem_nil, or_false] at hz; exact hz
    | cons w vs =>
      obtain ⟨f1, g, h1, h2, h3⟩ := setHs_split hf
      obtain ⟨p1, p2⟩ := hput f1 h1
      have hs := setH_er h1 x
      simp only [List.length_cons] at ho
      obtain ⟨q1, q2, q3⟩ := ih (o := o + 1) (x := f1 x) (σ := ⟨σ.tm, aset σ.ce r (L.set off (er1 u (f1 x))), σ.vr⟩) h2 (by simp) (by simp only [List.length_cons]; omega) (fun j hj => by
        obtain ⟨old', h4, h5⟩ := hold (j + 1) (by simp only [List.length_cons] at hj ⊢; omega)
        refine ⟨old', ?_, h5⟩
        rw [hs, getT_other (by omega), show o + 1 + j = o + (j + 1) by omega]
        exact h4) (fun v' hv' => hh v' (by simp [hv'])) (by
        unfold St.c
        simp only [aget_self]
        simp [hoff]) (aget_self _ _ _) (by simpa using hoff)
      have e2 : putL ⟨r, off, pl ++ [(i, sz, o)]⟩ (erL (v :: w :: vs)) = (putP ⟨r, off, pl ++ [(i, sz, o)]⟩ (er v)).bind fun _ => putL ⟨r, off, pl ++ [(i, sz, o + 1)]⟩ (erL (w :: vs)) := by
        have hfit : Place.fits ⟨r, off, pl ++ [(i, sz, o)]⟩ 1 = true := by
          simp only [Place.fits, List.reverse_append, List.reverse_cons, List.reverse_nil, List.nil_append, List.cons_append]
          simpa using (by omega : o + 1 < sz)
        have hadd : Place.add ⟨r, off, pl ++ [(i, sz, o)]⟩ 1 = ⟨r, off, pl ++ [(i, sz, o + 1)]⟩ := by simp [Place.add]
        show (putP ⟨r, off, pl ++ [(i, sz, o)]⟩ (er v)).bind (fun _ => if Place.fits ⟨r, off, pl ++ [(i, sz, o)]⟩ 1 then putL (Place.add ⟨r, off, pl ++ [(i, sz, o)]⟩ 1) (erL (w :: vs)) else .fail) = _
        rw [hfit, hadd]; rfl
      rw [e2, SP.run_bind, p1, SP.foot_bind _ _ p1, p2]
      simp only [Option.bind_some]
      rw [q1, aset_aset, List.set_set, h3 x]
      refine ⟨rfl, fun z hz => ?_, fun z hz => ?_⟩
      · rcases List.mem_append.1 hz with hz | hz
        · simpa using hz
        · exact q2 z hz
      · rcases List.mem_append.1 hz with hz | hz
        · simpa using hz
        · exact q3 z hz
theorem lastO_append (l : List (den .nat × Nat × Nat)) (i : Nat) (sz o : Nat) : X.lastO (l ++ [(i, sz, o)]) = o := by
  induction l with
  | nil => rfl
  | cons h l ih =>
    cases l with
    | nil => rfl
    | cons h2 l => simpa [X.lastO] using ih
theorem elemX_ok : ∀ {hs : List (den .nat × Nat × Nat)} {tv : XV den} {k : (t : CT) → den t → Option Y} {y : Y}, X.elemX realA tv hs k = some y → ∃ l i sz o t e, hs = l ++ [(i, sz, o)] ∧ ctSz t = sz ∧ (∀ j v, nthX (X.splitX realA t e) j = some v → getT (er tv) (l ++ [(i, sz, j)]) = some (er v)) ∧ k t e = some y := by
  intro hs
  induction hs with
  | nil =>
    intro tv k y h
    cases tv with
    | d u x => cases u with
      | row ow t => cases ow <;> cases h
      | _ => cases h
    | _ => cases h
  | cons h1 hs ih =>
    intro tv k y h
    obtain ⟨i, sz, o⟩ := h1
    cases tv with
    | d u x => cases u with
      | row ow t => cases ow with
        | true =>
          cases hs with
          | nil =>
            simp only [X.elemX] at h
            split at h
            · rename_i hsz
              obtain ⟨e, he, h2⟩ := obind (show (get? (x : List (den t)) i).bind _ = some y from h)
              have he : (x : List (den t))[i]? = some e := he
              refine ⟨[], i, sz, o, t, e, rfl, hsz, fun j v hv => ?_, h2⟩
              have h3 : (List.map (enc t) (x : List (den t)))[i]? = some (enc t e) := by rw [List.getElem?_map, he]; rfl
              show (match (List.map (enc t) (x : List (den t)))[i]? with | some el => if el.length = sz then (match el[j]? with | some t => getT t [] | none => none) else none | none => none) = _
              rw [h3]
              simp only [enc_len, hsz, if_true, split_nth hv]
              rfl
            · cases h
          | cons h2 hs =>
            simp only [X.elemX] at h
            split at h
            · rename_i hsz
              obtain ⟨e, he, h3⟩ := obind (show (get? (x : List (den t)) i).bind _ = some y from h)
              have he : (x : List (den t))[i]? = some e := he
              split at h3
              · rename_i v hv
                obtain ⟨l, i', sz', o', t', e', e1, e2, e3, e4⟩ := ih h3
                refine ⟨(i, sz, o) :: l, i', sz', o', t', e', by rw [e1]; rfl, e2, fun j w hw => ?_, e4⟩
                have h4 : (List.map (enc t) (x : List (den t)))[i]? = some (enc t e) := by rw [List.getElem?_map, he]; rfl
                have := e3 j w hw
                show (match (List.map (enc t) (x : List (den t)))[i]? with | some el => if el.length = sz then (match el[o]? with | some t => getT t (l ++ [(i', sz', j)]) | none => none) else none | none => none) = _
                rw [h4]
                simp only [enc_len, hsz, if_true, split_nth hv]
                exact this
              · cases h3
            · cases h
        | false => cases hs <;> cases h
      | _ => cases hs <;> cases h
    | _ => cases hs <;> cases h
theorem sim_putDeep (r off : Nat) (hs : List (den .nat × Nat × Nat)) (l : List (XV den)) (h2 : 2 ≤ hs.length) : Sim (Y := Y) (X.bind (X.rdC r off) fun tv => X.elemM realA tv hs fun t e =>
    if X.lastO hs + l.length ≤ ctSz t ∧ 0 < l.length ∧ (((X.splitX realA t e).drop (X.lastO hs)).take l.length).all (fun v => !X.isHdrX v) = true ∧ l.all (fun v => !X.isHdrX v) = true then X.bind (X.optM realA (X.setXs realA tv hs l)) fun tv' => X.wrC realA r off tv' else X.fail realA) (putL ⟨r, off, hs⟩ (erL l)) id := by
  intro σ k y hk
  have hk : X.elemM realA (X.cOf σ r off) hs (fun t e =>
    if X.lastO hs + l.length ≤ ctSz t ∧ 0 < l.length ∧ (((X.splitX realA t e).drop (X.lastO hs)).take l.length).all (fun v => !X.isHdrX v) = true ∧ l.all (fun v => !X.isHdrX v) = true then X.bind (X.optM realA (X.setXs realA (X.cOf σ r off) hs l)) fun tv' => X.wrC realA r off tv' else X.fail realA) (X.lgR (.c r off) σ) k = some y := hk
  obtain ⟨pl, i, sz, o, t, e, e1, e2, e3, e4⟩ := elemX_ok hk
  have e5 : X.lastO hs = o := by rw [e1, lastO_append]
  rw [e5] at e4
  dsimp only at e4
  split at e4
  case isFalse => cases e4
  rename_i hc
  obtain ⟨hc1, hc2, hc3, hc4⟩ := hc
  have hlen : (X.splitX realA t e).length = sz := by rw [← erL_len, split_er, enc_len, e2]
  cases hset : X.setXs realA (X.cOf σ r off) hs l with
  | none => rw [hset] at e4; cases e4
  | some tv' =>
    rw [hset] at e4
    have e4 : X.wrC realA r off tv' (X.lgR (.c r off) σ) k = some y := e4
    cases htv : X.cOf σ r off with
    | d u x =>
      rw [htv] at hset e3
      obtain ⟨f, hf, hf2⟩ := omap (show (X.setHs realA hs l u).map (fun f => (XV.d u (f x) : XV den)) = some tv' from hset)
      subst hf2
      unfold X.wrC at e4
      split at e4
      case h_2 => cases e4
      rename_i L hL
      have hL : aget σ.ce r = some L := hL
      split at e4
      case isFalse => cases e4
      rename_i hoff
      rw [letX_real] at e4
      rw [e1] at hf
      obtain ⟨q1, q2, q3⟩ := putL_deep (r := r) (off := off) (σ := erS σ) (L := erL L) l (x := x) hf hc2 (by rw [← e2]; exact hc1) (fun j hj => by
        have hjs : o + j < (X.splitX realA t e).length := by omega
        refine ⟨er (X.splitX realA t e)[o + j], e3 (o + j) _ (by rw [nthX_eq]; exact List.getElem?_eq_getElem hjs), ?_⟩
        rw [isHdrX_er]
        have := List.all_eq_true.1 hc3 (X.splitX realA t e)[o + j] (List.mem_of_getElem? (i := j) (by
          rw [List.getElem?_take, if_pos hj, List.getElem?_drop]
          exact List.getElem?_eq_getElem hjs))
        simpa using this) (fun v hv => by simpa using List.all_eq_true.1 hc4 v hv) (by rw [erS_c, htv]; rfl) (by rw [erS_ce, hL]; rfl) (by rw [erL_len]; exact hoff)
      rw [← e1] at q1 q2 q3
      refine ⟨(), ⟨σ.tm, aset σ.ce r (L.set off (.d u (f x))), σ.vr, (.n r :: .c r off :: σ.lg.1, .c r off :: σ.lg.2)⟩, ?_, ⟨fun z hz => ?_, fun z hz => ?_, fun z hz => by simp [hz], fun z hz => by simp [hz]⟩, e4⟩
      · rw [q1]
        simp only [id_eq, Option.some.injEq, Prod.mk.injEq, true_and]
        unfold erS erC
        simp only
        rw [← aset_map, erL_set]
        rfl
      · rcases q2 z hz with h | h <;> simp [h]
      · simp [q3 z hz]
    | _ => rw [htv] at hset; cases hset
theorem putEl_inv {r off i sz o : Nat} {l : List (XV den)} {tv : XV den} {σ : XS den} {k : Unit → XS den → Option Y} {y : Y} (h : X.putEl realA r off i sz o l tv σ k = some y) :
    ∃ t xs, tv = .d (.row true t) xs ∧ (ctSz t = sz ∧ o + l.length ≤ sz ∧ 0 < l.length) ∧ (X.atM realA true t xs i fun e => X.bind (X.optM realA (X.setDs realA t o l)) fun f => X.bind (X.wrC realA r off (.d (.row true t) (realA.upd t xs i f))) fun _ => X.bumps (r, off, 2) (X.hdrs ((X.splitX realA t e).drop o) l)) σ k = some y := by
  cases tv with
  | d u xs => cases u with
    | row ow t => cases ow with
      | true =>
        by_cases hc : ctSz t = sz ∧ o + l.length ≤ sz ∧ 0 < l.length
        · simp only [X.putEl, if_pos hc] at h
          exact ⟨t, xs, rfl, hc, h⟩
        · simp only [X.putEl, if_neg hc] at h
          cases h
      | false => cases h
    | _ => cases h
  | _ => cases h
theorem sim_putL (p : XP den) (l : List (XV den)) : Sim (Y := Y) (X.putL realA p l) (putL (erP p) (erL l)) id := by
  obtain ⟨r, off, hops⟩ := p
  match hops with
  | [] => exact sim_putB r l off
  | [(i, sz, o)] =>
    intro σ k y hk
    show ∃ a σ', (putL ⟨r, off, [(i, sz, o)]⟩ (erL l)).run (erS σ) = some (id a, erS σ') ∧ _
    have hk : X.putEl realA r off i sz o l (X.cOf σ r off) (X.lgR (.c r off) σ) k = some y := hk
    obtain ⟨t, xs, hcell, ⟨hsz, hol, hl0⟩, hk⟩ := putEl_inv hk
    · · skip
        obtain ⟨e, he, hk⟩ := obind (show (get? xs i).bind _ = some y from hk)
        have he : (xs : List (den t))[i]? = some e := he
        cases hf : X.setDs realA t o l with
        | none => rw [hf] at hk; cases hk
        | some f =>
          rw [hf] at hk
          have hk : X.wrC realA r off (.d (.row true t) (realA.upd t xs i f)) (X.lgR (.c r off) σ) (fun _ σ' => X.bumps (r, off, 2) (X.hdrs ((X.splitX realA t e).drop o) l) σ' k) = some y := hk
          unfold X.wrC at hk
          split at hk
          case h_2 => cases hk
          rename_i L hL
          have hL : aget σ.ce r = some L := hL
          split at hk
          case isFalse => cases hk
          rename_i hoff
          rw [letX_real] at hk
          obtain ⟨σ', h1, h2, h3, h4, h5⟩ := bumps_run _ _ hk
          have hc : (erS σ).c r off = er1 (.row true t) xs := by rw [erS_c, hcell]; rfl
          have hL' : aget (erS σ).ce r = some (erL L) := by rw [erS_ce, hL]; rfl
          obtain ⟨q1, q2⟩ := putL_el hsz l (σ := erS σ) hf he hol hc hL' (by rw [erL_len]; exact hoff)
          refine ⟨(), σ', ?_, ⟨fun x hx => ?_, fun x hx => ?_, fun x hx => h2 x (by simp [X.lgR, hx]), fun x hx => h3 x (by simp [X.lgR, hx])⟩, h5⟩
          · rw [q1, h1]
            simp only [id_eq, Option.some.injEq, Prod.mk.injEq, true_and]
            congr 1
            show aset (erC σ.ce) r _ = erC (aset σ.ce r _)
            unfold erC
            rw [← aset_map, erL_set]
            rfl
          · rcases q2.1 x hx with h | h | ⟨h, h'⟩
            · exact h2 x (by simp [X.lgR, h])
            · exact h2 x (by simp [X.lgR, h])
            · rw [h]; exact (h4 h').1
          · rcases q2.2 x hx with h | ⟨h, h'⟩
            · exact h3 x (by simp [X.lgR, h])
            · rw [h]; exact (h4 h').2
  | h1 :: h2 :: hs => exact sim_putDeep r off (h1 :: h2 :: hs) l (by simp)
end
end Go.Proofs.Ytkmbahlpmoljpaa
/- Steps on typed data are steps on trees: what is read and named, numbers, rows; no condition. -/
set_option linter.unusedVariables false
set_option linter.unusedSimpArgs false
namespace Go.Proofs.Ytkmbahlpmoljpaa
open Go.RowKit

section
variable {α β γ δ Y : Type}
theorem sim_peek1 (p : XP den) (t : XV den) : Sim (Y := Y) (X.peek1 realA p t) (peek1 (erP p) (er t)) er := by
  cases t with
  | k x => exact .ret rfl
  | d t x =>
    have own : X.isOwT t = true → Sim (Y := Y) (X.peek1 realA p (.d t x)) (peek1 (erP p) (er (.d t x))) er := by
      intro h
      have h1 : X.isOwX (.d t x : XV den) = true := h
      obtain ⟨c, hc⟩ := isOwX_ow h1
      rw [hc]
      show Sim (if X.isOwT t then _ else _) (SP.bind _ _) er
      rw [if_pos h]
      exact (sim_rdVs _).bind fun vs => .ret rfl
    cases t with
    | row o t => cases o <;> first | exact .ret rfl | exact own rfl
    | nilr o => cases o <;> first | exact .ret rfl | exact own rfl
    | int k => exact .ret rfl
    | bool => exact .ret rfl
    | str => exact .ret rfl
    | nat => exact .fail
    | pair a b => exact .fail
  | _ => exact .fail
theorem getPl_bare (r o : Nat) : getPl ⟨r, o, []⟩ = .rdC r o fun tv => .ret tv := rfl
theorem sim_peekB (r : Nat) : ∀ (n o : Nat), Sim (Y := Y) (X.peekB realA r o n) (peekL ⟨r, o, []⟩ n) erL := by
  intro n
  induction n with
  | zero => intro o; exact .ret rfl
  | succ n ih =>
    intro o
    cases n with
    | zero =>
      show Sim _ ((getPl ⟨r, o, []⟩).bind fun t => (peek1 ⟨r, o, []⟩ t).bind fun t' => .ret [t']) erL
      refine Sim.rdC (h := fun tv => SP.bind _ _) fun t => (sim_peek1 ⟨r, o, []⟩ t).bind fun t' => ?_
      exact (Sim.ret (a := []) (b := []) (f := erL) rfl).bind (h := fun l => .ret (er t' :: l)) fun l => .ret rfl
    | succ n =>
      show Sim _ ((getPl ⟨r, o, []⟩).bind fun t => (peek1 ⟨r, o, []⟩ t).bind fun t' => (peekL ⟨r, o + 1, []⟩ (n + 1)).bind fun l => .ret (t' :: l)) erL
      exact Sim.rdC (h := fun tv => SP.bind _ _) fun t => (sim_peek1 ⟨r, o, []⟩ t).bind fun t' => (ih (o + 1)).bind fun l => .ret rfl
/-- The last hop at another cell. -/
def setLast : List Hop → Nat → List Hop
  | [], _ => []
  | [(i, sz, _)], j => [(i, sz, j)]
  | h :: h2 :: hs, j => h :: setLast (h2 :: hs) j
theorem setLast_append (l : List Hop) (i sz o j : Nat) : setLast (l ++ [(i, sz, o)]) j = l ++ [(i, sz, j)] := by
  induction l with
  | nil => rfl
  | cons h l ih =>
    cases l with
    | nil => rfl
    | cons h2 l => simp only [List.cons_append, setLast] at ih ⊢; rw [ih]
theorem add_hops {r o : Nat} {l : List Hop} {i sz f n : Nat} : (⟨r, o, l ++ [(i, sz, f)]⟩ : Place).add n = ⟨r, o, l ++ [(i, sz, f + n)]⟩ := by
  simp [Place.add]
theorem fits_hops {r o : Nat} {l : List Hop} {i sz f n : Nat} : (⟨r, o, l ++ [(i, sz, f)]⟩ : Place).fits n = decide (f + n < sz) := by
  simp [Place.fits]
theorem rdVs_same : ∀ {qs : List Key} {σ : St} {a : List Nat} {τ : St}, (rdVs qs).run σ = some (a, τ) → τ = σ := by
  intro qs
  induction qs with
  | nil => intro σ a τ h; simp only [rdVs, SP.run, Option.some.injEq, Prod.mk.injEq] at h; exact h.2.symm
  | cons q qs ih =>
    intro σ a τ h
    simp only [rdVs, SP.run] at h
    obtain ⟨l, σ1, h1, h2⟩ := SP.run_bind_some h
    simp only [SP.run, Option.some.injEq, Prod.mk.injEq] at h2
    rw [← h2.2]
    exact ih h1
theorem peek1_same {p : Place} {t : TV} {σ : St} {y : TV × St} (h : (peek1 p t).run σ = some y) : y.2 = σ := by
  cases t with
  | v x => simp only [peek1, SP.run, Option.some.injEq] at h; rw [← h]
  | sl c => simp only [peek1, SP.run, Option.some.injEq] at h; rw [← h]
  | ow c =>
    simp only [peek1] at h
    obtain ⟨l, σ1, h1, h2⟩ := SP.run_bind_some h
    simp only [SP.run, Option.some.injEq] at h2
    rw [← h2]
    exact rdVs_same h1
  | _ => simp [peek1, SP.run] at h
theorem peekCs_run {r off : Nat} {l : List (den .nat × Nat × Nat)} {i : Nat} {sz : Nat} {tv : TV} : ∀ (cs : List (XV den)) (o : Nat) {σ : XS den} {k : List (XV den) → XS den → Option Y} {y : Y}, X.peekCs realA ⟨r, off, l ++ [(i, sz, o)]⟩ cs σ k = some y →
    (erS σ).c r off = tv → Loc.c r off ∈ σ.lg.1 → (∀ j v, cs[j]? = some v → getT tv (l ++ [(i, sz, o + j)]) = some (er v)) → 0 < cs.length → o + cs.length ≤ sz →
    ∃ vs σ', (peekL ⟨r, off, l ++ [(i, sz, o)]⟩ cs.length).run (erS σ) = some (erL vs, erS σ') ∧ Noted σ σ' ((peekL ⟨r, off, l ++ [(i, sz, o)]⟩ cs.length).foot (erS σ)) ∧ k vs σ' = some y := by
  intro cs
  induction cs with
  | nil => intro o σ k y h _ _ _ h0; simp at h0
  | cons t cs ih =>
    intro o σ k y h hc hlg hg h0 hsz
    have h : X.peek1 realA ⟨r, off, l ++ [(i, sz, o)]⟩ t σ (fun t' σ1 => X.peekCs realA (X.addP ⟨r, off, l ++ [(i, sz, o)]⟩ 1) cs σ1 fun vs σ2 => k (t' :: vs) σ2) = some y := h
    obtain ⟨t', σ1, r1, n1, k1⟩ := sim_peek1 ⟨r, off, l ++ [(i, sz, o)]⟩ t σ _ y h
    have r1 : (peek1 ⟨r, off, l ++ [(i, sz, o)]⟩ (er t)).run (erS σ) = some (er t', erS σ1) := r1
    have hs : erS σ1 = erS σ := peek1_same r1
    have hpl : (getPl ⟨r, off, l ++ [(i, sz, o)]⟩).run (erS σ) = some (er t, erS σ) := by
      have h3 : getT tv (l ++ [(i, sz, o)]) = some (er t) := hg 0 t rfl
      simp only [getPl, SP.run, hc]
      rw [h3]; rfl
    have fpl : (getPl ⟨r, off, l ++ [(i, sz, o)]⟩).foot (erS σ) = ([.c r off], []) := by
      simp only [getPl, SP.foot, hc]
      have := hg 0 t rfl
      simp only [Nat.add_zero] at this
      rw [this]; rfl
    cases cs with
    | nil =>
      have k1 : k [t'] σ1 = some y := k1
      have e : peekL ⟨r, off, l ++ [(i, sz, o)]⟩ 1 = (getPl ⟨r, off, l ++ [(i, sz, o)]⟩).bind fun t => (peek1 ⟨r, off, l ++ [(i, sz, o)]⟩ t).bind fun t' => .ret [t'] := rfl
      refine ⟨[t'], σ1, ?_, ?_, k1⟩
      · show (peekL _ 1).run _ = _
        rw [e, SP.run_bind, hpl]
        simp only [Option.bind_some, SP.run_bind, r1]
        rfl
      · show Noted σ σ1 ((peekL _ 1).foot _)
        rw [e, SP.foot_bind _ _ hpl, SP.foot_bind _ _ r1, fpl]
        refine ⟨fun x hx => ?_, fun x hx => ?_, n1.r0, n1.w0⟩
        · simp only [SP.foot, List.cons_append, List.nil_append, List.append_nil, List.mem_cons] at hx
          rcases hx with h | h
          · rw [h]; exact n1.r0 _ hlg
          · exact n1.r x h
        · simp only [SP.foot, List.nil_append, List.append_nil] at hx
          exact n1.w x hx
    | cons u cs =>
      have k1 : X.peekCs realA (X.addP ⟨r, off, l ++ [(i, sz, o)]⟩ 1) (u :: cs) σ1 (fun vs σ2 => k (t' :: vs) σ2) = some y := k1
      have eadd : X.addP (⟨r, off, l ++ [(i, sz, o)]⟩ : XP den) 1 = ⟨r, off, l ++ [(i, sz, o + 1)]⟩ := by simp [X.addP]
      rw [eadd] at k1
      simp only [List.length_cons] at hsz h0
      obtain ⟨vs, σ2, r2, n2, k2⟩ := ih (o + 1) k1 (by rw [hs]; exact hc) (n1.r0 _ hlg) (fun j v hv => by
        have := hg (j + 1) v (by simpa using hv)
        rw [show o + 1 + j = o + (j + 1) by omega]; exact this) (by simp) (by simp only [List.length_cons]; omega)
      have e : peekL ⟨r, off, l ++ [(i, sz, o)]⟩ (u :: cs).length.succ = (getPl ⟨r, off, l ++ [(i, sz, o)]⟩).bind fun t => (peek1 ⟨r, off, l ++ [(i, sz, o)]⟩ t).bind fun t' => (peekL ⟨r, off, l ++ [(i, sz, o + 1)]⟩ (u :: cs).length).bind fun r => .ret (t' :: r) := by
        show (getPl _).bind (fun t => (peek1 _ t).bind fun t' => if Place.fits ⟨r, off, l ++ [(i, sz, o)]⟩ 1 then (peekL (Place.add ⟨r, off, l ++ [(i, sz, o)]⟩ 1) (cs.length + 1)).bind fun r => .ret (t' :: r) else .fail) = _
        have h3 : decide (o + 1 < sz) = true := by simpa using (by omega : o + 1 < sz)
        rw [fits_hops, add_hops, h3]; rfl
      refine ⟨t' :: vs, σ2, ?_, ?_, k2⟩
      · show (peekL _ (u :: cs).length.succ).run _ = _
        rw [e, SP.run_bind, hpl]
        simp only [Option.bind_some, SP.run_bind, r1, r2]
        rfl
      · show Noted σ σ2 ((peekL _ (u :: cs).length.succ).foot _)
        rw [e, SP.foot_bind _ _ hpl, SP.foot_bind _ _ r1, SP.foot_bind _ _ r2, fpl]
        refine ⟨fun x hx => ?_, fun x hx => ?_, fun x hx => n2.r0 x (n1.r0 x hx), fun x hx => n2.w0 x (n1.w0 x hx)⟩
        · simp only [SP.foot, List.cons_append, List.nil_append, List.append_nil, List.mem_cons, List.mem_append] at hx
          rcases hx with h | h | h
          · rw [h]; exact n2.r0 _ (n1.r0 _ hlg)
          · exact n2.r0 _ (n1.r x h)
          · exact n2.r x h
        · simp only [SP.foot, List.nil_append, List.append_nil, List.mem_append] at hx
          rcases hx with h | h
          · exact n2.w0 _ (n1.w x h)
          · exact n2.w x h
theorem sim_peekL (p : XP den) (n : Nat) : Sim (Y := Y) (X.peekL realA p n) (peekL (erP p) n) erL := by
  obtain ⟨r, off, hops⟩ := p
  cases hops with
  | nil => exact sim_peekB r n off
  | cons h1 hs =>
    intro σ k y hk
    have hk : X.elemM realA (X.cOf σ r off) (h1 :: hs) (fun t e => if X.lastO (h1 :: hs) + n ≤ ctSz t ∧ 0 < n then X.peekCs realA ⟨r, off, h1 :: hs⟩ (((X.splitX realA t e).drop (X.lastO (h1 :: hs))).take n) else X.fail realA) (X.lgR (.c r off) σ) k = some y := hk
    obtain ⟨l, i, sz, o, t, e, e1, e2, e3, e4⟩ := elemX_ok hk
    have e5 : X.lastO (h1 :: hs) = o := by rw [e1, lastO_append]
    rw [e5] at e4
    dsimp only at e4
    split at e4
    · rename_i hc
      have hlen : (X.splitX realA t e).length = sz := by rw [← erL_len, split_er, enc_len, e2]
      have hcl : (((X.splitX realA t e).drop o).take n).length = n := by rw [List.length_take, List.length_drop, hlen]; omega
      rw [e1] at e4
      obtain ⟨vs, σ', r1, n1, k1⟩ := peekCs_run (tv := er (X.cOf σ r off)) _ o e4 (erS_c σ r off) (by simp [X.lgR]) (fun j v hv => e3 (o + j) v (by
        rw [nthX_eq]
        rw [List.getElem?_take] at hv
        split at hv
        · rw [List.getElem?_drop] at hv; exact hv
        · simp at hv)) (by rw [hcl]; exact hc.2) (by rw [hcl, ← e2]; exact hc.1)
      rw [hcl] at r1 n1
      have ep : erP ⟨r, off, h1 :: hs⟩ = ⟨r, off, l ++ [(i, sz, o)]⟩ := by unfold erP; rw [e1]
      rw [ep]
      exact ⟨vs, σ', r1, ⟨n1.r, n1.w, fun x hx => n1.r0 x (by simp [X.lgR, hx]), fun x hx => n1.w0 x hx⟩, k1⟩
    · cases e4

/-! ## Names -/
theorem sim_nameL (r : Nat) : ∀ (l : List (XV den)) (i : Nat), Sim (Y := Y) (X.nameL r i l) (nameL r i (erL l)) erL := by
  intro l
  induction l with
  | nil => intro i; exact .ret rfl
  | cons t l ih =>
    intro i
    cases ho : X.isOwX t with
    | true =>
      obtain ⟨c, hc⟩ := isOwX_ow ho
      have e : nameL r i (erL (t :: l)) = .rdV (r, 0, 0) fun g => .rdV (r, i, 1) fun h => (nameL r (i + 1) (erL l)).bind fun l' => .ret (.pk ⟨r, i, []⟩ [g, h] :: l') := by
        simp only [erL, hc, nameL]
      rw [e]
      simp only [X.nameL, ho, if_true]
      exact Sim.rdV fun g => Sim.rdV fun h => (ih (i + 1)).bind fun l' => .ret rfl
    | false =>
      have e : nameL r i (erL (t :: l)) = (nameL r (i + 1) (erL l)).bind fun l' => .ret (er t :: l') := by
        have h1 : isOw (er t) = false := by rw [isOwX_er, ho]
        simp only [erL]
        cases he : er t with
        | ow c => rw [he] at h1; simp [isOw] at h1
        | _ => rfl
      rw [e]
      simp only [X.nameL, ho, Bool.false_eq_true, if_false]
      exact (ih (i + 1)).bind fun l' => .ret rfl
theorem any_ow (l : List (XV den)) : (erL l).any isOw = l.any X.isOwX := by
  induction l with
  | nil => rfl
  | cons t l ih => simp only [erL, List.any_cons, isOwX_er, ih]
theorem sim_names (d : Nat) (l : List (XV den)) : Sim (Y := Y) (X.names realA d l) (names d (erL l)) erL := by
  unfold X.names names
  rw [any_ow]
  by_cases h : l.any X.isOwX = true
  · rw [if_pos h, if_pos h]
    exact Sim.new rfl (sim_nameL _ l 0)
  · rw [if_neg h, if_neg h]
    exact .ret rfl
theorem shapedX_er (agg : Bool) (l : List (XV den)) : er (X.shapedX agg l) = shaped agg (erL l) := by
  cases agg with
  | true => rfl
  | false => exact erL_headD l
theorem sim_wr (d : Nat) {t : XV den} {t' : TV} (e : er t = t') : Sim (Y := Y) (X.wr realA d t) (wr d t') id := by subst e; exact sim_wrT d t
theorem sim_inst (d : Nat) (agg : Bool) {l : List (XV den)} {l' : List TV} (e : erL l = l') : Sim (Y := Y) (X.inst realA d agg l) (inst d agg l') id := by
  subst e
  exact (sim_names d l).bind fun l' => sim_wr d (shapedX_er agg l')

/-! ## Numbers -/
theorem sim_natOf (t : XV den) : Sim (Y := Y) (X.natOf realA t) (natOf (er t)) id := by
  cases t with
  | d t x => cases t with
    | int k =>
      refine Sim.nat fun m hm => ?_
      subst hm
      exact .ret rfl
    | _ => exact .fail
  | _ => exact .fail
theorem sim_lenOf (t : XV den) : Sim (Y := Y) (X.lenOf realA t) (lenOfT (er t)) id := by
  cases t with
  | d t x => cases t with
    | row o t => cases o with
      | false => exact .ret (List.length_map _).symm
      | true => exact .fail
    | nilr o => cases o <;> exact .ret rfl
    | _ => exact .fail
  | pk p vs =>
    refine (sim_chk p _ vs).bind fun _ => (sim_getPl p).bind fun t => ?_
    cases t with
    | d t x => cases t with
      | row o t => cases o with
        | true => exact .ret (List.length_map _).symm
        | false => exact .fail
      | nilr o => cases o with
        | true => exact .ret rfl
        | false => exact .fail
      | _ => exact .fail
    | _ => exact .fail
  | pw p vs sz lo n => exact (sim_chk p _ vs).bind fun _ => .ret rfl
  | _ => exact .fail
theorem sim_optNat (o : Option Opd) (d : Nat) : Sim (Y := Y) (X.optNat realA o d) (optNat o d) id := by
  cases o with
  | none => exact .ret rfl
  | some o => exact (sim_opd o).bind fun t => sim_natOf t
theorem sim_takeParts (mv : Bool) : ∀ l : List (Nat × Nat × Opd), Sim (Y := Y) (X.takeParts realA mv l) (takeParts mv l) erL := by
  intro l
  induction l with
  | nil => exact .ret rfl
  | cons x l ih =>
    obtain ⟨off, n, x⟩ := x
    refine (sim_opd x).bind fun t => ?_
    rw [cellsX_er]
    refine (sim_takeL mv _).bind fun l1 => ?_
    refine Sim.ite (fun hn => ?_) fun _ => .fail
    rw [if_pos (by rw [erL_len]; exact hn)]
    exact ih.bind fun l' => .ret (erL_append _ _)
theorem placeX_er : ∀ (l cells : List (XV den)) (off : Nat), erL (X.placeX cells off l) = placeCells (erL cells) off (erL l) := by
  intro l
  induction l with
  | nil => intros; rfl
  | cons t l ih => intro cells off; simp only [X.placeX, erL, placeCells]; rw [ih, erL_set]
theorem assembleX_er : ∀ (ps : List (Nat × Nat × Opd)) (cells l : List (XV den)), erL (X.assembleX cells ps l) = assemble (erL cells) ps (erL l) := by
  intro ps
  induction ps with
  | nil => intros; rfl
  | cons p ps ih =>
    intro cells l
    obtain ⟨off, n, x⟩ := p
    simp only [X.assembleX, assemble]
    rw [ih, placeX_er, erL_take, erL_drop]
theorem chunksX_er (sz : Nat) : ∀ (n : Nat) (l : List (XV den)), (X.chunksX sz n l).map erL = chunks sz n (erL l) := by
  intro n
  induction n with
  | zero => intros; rfl
  | succ n ih => intro l; simp only [X.chunksX, List.map_cons, chunks]; rw [ih, erL_take, erL_drop]
theorem cells_er (z : List Value) : erL (z.map (X.cellX realA)) = z.map ofCell := by
  rw [erL_eq, List.map_map]
  exact List.map_congr_left fun y _ => cellX_er y
theorem okCells_er {z : List Value} (h : (z.map (X.cellX realA)).all X.okCellX = true) : (z.map ofCell).all okCell = true := by
  rw [← cells_er, erL_eq, List.all_map]
  rw [List.all_eq_true] at h ⊢
  intro x hx
  exact okCellX_er (h x hx)
end
end Go.Proofs.Ytkmbahlpmoljpaa
/- Steps on typed data are steps on trees: each operation; no condition. -/
set_option linter.unusedVariables false
set_option linter.unusedSimpArgs false
namespace Go.Proofs.Ytkmbahlpmoljpaa
open Go.RowKit

section
variable {α β γ δ Y : Type}
theorem pv_pure (v : Value) : pureV (pure v) = some v := rfl
theorem bin_ar {k : IntKind} {a b : Int} {op : BinOp} (h : op = .add ∨ op = .sub ∨ op = .mul ∨ op = .and ∨ op = .or ∨ op = .xor ∨ op = .andNot) : evalBin op (.int k a) (.int k b) = some (.int k (arR op k a b)) := by
  rcases h with rfl | rfl | rfl | rfl | rfl | rfl | rfl <;> simp [evalBin, Go.binOp, Op.intArith, Op.intBits, arR, pv_pure]
theorem bin_cm {k : IntKind} {a b : Int} {op : BinOp} (h : op = .eql ∨ op = .neq ∨ op = .lss ∨ op = .leq ∨ op = .gtr ∨ op = .geq) : evalBin op (.int k a) (.int k b) = some (.bool (cmR op a b)) := by
  rcases h with rfl | rfl | rfl | rfl | rfl | rfl <;> simp [evalBin, Go.binOp, Op.intCmp, cmR, pv_pure]
theorem bin_dv {k : IntKind} {a b : Int} {op : BinOp} (h : op = .quo ∨ op = .rem) (hb : b ≠ 0) : evalBin op (.int k a) (.int k b) = some (.int k (arR op k a b)) := by
  rcases h with rfl | rfl <;> simp [evalBin, Go.binOp, Op.intDiv, arR, pv_pure, hb]
theorem bin_sh {k k' : IntKind} {a : Int} {n : Nat} {op : BinOp} (h : op = .shl ∨ op = .shr) : evalBin op (.int k a) (.int k' n) = some (.int k (shR op k a n)) := by
  rcases h with rfl | rfl <;> simp [evalBin, Go.binOp, Op.shift, shR, pv_pure, show ¬ ((n : Int) < 0) by omega]
theorem bin_st {a b : ByteArray} : evalBin .eql (.string a) (.string b) = some (.bool (eqT? a b)) ∧ evalBin .neq (.string a) (.string b) = some (.bool (!(eqT? a b))) := ⟨rfl, rfl⟩
theorem xs_res (d : Nat) {op : BinOp} {x y r : Value} {t : XV den} (h : evalBin op x y = some r) (hf : vflat r = true) (e : er t = .v r) : Sim (Y := Y) (X.wr realA d t) ((spOpt (evalBin op x y)).bind fun r => if vflat r then wr d (.v r) else .fail) id := by
  rw [h]
  show Sim _ (if vflat r then wr d (.v r) else .fail) id
  rw [if_pos hf]
  exact sim_wr d e
theorem xs_bin (d : Nat) (op : BinOp) (a b : XV den) : Sim (Y := Y) (X.binX realA d op a b) ((valOf (er a)).bind fun a => (valOf (er b)).bind fun b => (spOpt (evalBin op a b)).bind fun r => if vflat r then wr d (.v r) else .fail) id := by
  cases a with
  | d t x => cases t with
    | int k => cases b with
      | d u y => cases u with
        | int k' =>
          show Sim _ ((spOpt (evalBin op (.int k x) (.int k' y))).bind _) id
          have ar : (op = .add ∨ op = .sub ∨ op = .mul ∨ op = .and ∨ op = .or ∨ op = .xor ∨ op = .andNot) → Sim (Y := Y) (if h : k' = k then X.wr realA d (.d (.int k) (realA.ar op k x (h ▸ y))) else X.fail realA) ((spOpt (evalBin op (.int k x) (.int k' y))).bind fun r => if vflat r then wr d (.v r) else .fail) id := by
            intro hop
            by_cases h : k' = k
            · subst h
              rw [dif_pos rfl]
              exact xs_res d (bin_ar hop) rfl rfl
            · rw [dif_neg h]; exact .fail
          have cm : (op = .eql ∨ op = .neq ∨ op = .lss ∨ op = .leq ∨ op = .gtr ∨ op = .geq) → Sim (Y := Y) (if h : k' = k then X.wr realA d (.d .bool (realA.cm op k x (h ▸ y))) else X.fail realA) ((spOpt (evalBin op (.int k x) (.int k' y))).bind fun r => if vflat r then wr d (.v r) else .fail) id := by
            intro hop
            by_cases h : k' = k
            · subst h
              rw [dif_pos rfl]
              exact xs_res d (bin_cm hop) rfl rfl
            · rw [dif_neg h]; exact .fail
          have dv : (op = .quo ∨ op = .rem) → Sim (Y := Y) (if h : k' = k then X.brM realA (realA.cm .neq k' y (realA.lit k' 0)) (X.wr realA d (.d (.int k) (realA.ar op k x (h ▸ y)))) else X.fail realA) ((spOpt (evalBin op (.int k x) (.int k' y))).bind fun r => if vflat r then wr d (.v r) else .fail) id := by
            intro hop
            by_cases h : k' = k
            · subst h
              rw [dif_pos rfl]
              refine Sim.br fun hb => xs_res d (bin_dv hop ?_) rfl rfl
              have hb : ((y : Int) != 0) = true := hb
              simpa using hb
            · rw [dif_neg h]; exact .fail
          cases op with
          | add => exact ar (by simp)
          | sub => exact ar (by simp)
          | mul => exact ar (by simp)
          | and => exact ar (by simp)
          | or => exact ar (by simp)
          | xor => exact ar (by simp)
          | andNot => exact ar (by simp)
          | eql => exact cm (by simp)
          | neq => exact cm (by simp)
          | lss => exact cm (by simp)
          | leq => exact cm (by simp)
          | gtr => exact cm (by simp)
          | geq => exact cm (by simp)
          | quo => exact dv (by simp)
          | rem => exact dv (by simp)
          | shl =>
            refine Sim.nat fun n hn => ?_
            have hn : y = (n : Int) := hn
            subst hn
            exact xs_res d (bin_sh (.inl rfl)) rfl rfl
          | shr =>
            refine Sim.nat fun n hn => ?_
            have hn : y = (n : Int) := hn
            subst hn
            exact xs_res d (bin_sh (.inr rfl)) rfl rfl
        | _ => exact .fail
      | _ => exact .fail
    | str => cases b with
      | d u y => cases u with
        | str =>
          show Sim _ ((spOpt (evalBin op (.string x) (.string y))).bind _) id
          cases op with
          | eql => exact xs_res d bin_st.1 rfl rfl
          | neq => exact xs_res d bin_st.2 rfl rfl
          | _ => exact .fail
        | _ => exact .fail
      | _ => exact .fail
    | _ => exact .fail
  | _ => exact .fail
theorem eqAll_ok : ∀ {ks : List FK} {xs ys : List (XV den)} {c : Bool}, X.eqAll realA ks xs ys = some c → ∃ vs ws, flatsOf (erL xs) = some vs ∧ flatsOf (erL ys) = some ws ∧ eqFlats ks vs ws = some c := by
  intro ks
  induction ks with
  | nil =>
    intro xs ys c h
    cases xs with
    | nil => cases ys with
      | nil => simp only [X.eqAll, Option.some.injEq] at h; subst h; exact ⟨[], [], rfl, rfl, rfl⟩
      | cons => simp [X.eqAll] at h
    | cons => simp [X.eqAll] at h
  | cons f ks ih =>
    intro xs ys c h
    cases xs with
    | nil => cases f <;> simp [X.eqAll] at h
    | cons x xs => cases ys with
      | nil => cases f <;> simp [X.eqAll] at h
      | cons y ys =>
        cases x with
        | d t a => cases y with
          | d u b =>
            cases f with
            | i => cases t with
              | int k => cases u with
                | int k' =>
                  simp only [X.eqAll] at h
                  split at h
                  · rename_i hk
                    subst hk
                    obtain ⟨c', h1, rfl⟩ := omap h
                    obtain ⟨vs, ws, e1, e2, e3⟩ := ih h1
                    refine ⟨.int k' a :: vs, .int k' b :: ws, by simp only [erL, er, er1, flatsOf, e1, Option.map_some], by simp only [erL, er, er1, flatsOf, e2, Option.map_some], ?_⟩
                    simp only [eqFlats, if_true, e3, Option.map_some]
                    rfl
                  · simp at h
                | _ => simp [X.eqAll] at h
              | _ => simp [X.eqAll] at h
            | b => cases t with
              | bool => cases u with
                | bool =>
                  simp only [X.eqAll] at h
                  obtain ⟨c', h1, rfl⟩ := omap h
                  obtain ⟨vs, ws, e1, e2, e3⟩ := ih h1
                  refine ⟨.bool a :: vs, .bool b :: ws, by simp only [erL, er, er1, flatsOf, e1, Option.map_some], by simp only [erL, er, er1, flatsOf, e2, Option.map_some], ?_⟩
                  simp only [eqFlats, e3, Option.map_some]
                  rfl
                | _ => simp [X.eqAll] at h
              | _ => simp [X.eqAll] at h
            | s => cases t with
              | str => cases u with
                | str =>
                  simp only [X.eqAll] at h
                  obtain ⟨c', h1, rfl⟩ := omap h
                  obtain ⟨vs, ws, e1, e2, e3⟩ := ih h1
                  refine ⟨.string a :: vs, .string b :: ws, by simp only [erL, er, er1, flatsOf, e1, Option.map_some], by simp only [erL, er, er1, flatsOf, e2, Option.map_some], ?_⟩
                  simp only [eqFlats, e3, Option.map_some]
                  rfl
                | _ => simp [X.eqAll] at h
              | _ => simp [X.eqAll] at h
          | _ => cases f <;> simp [X.eqAll] at h
        | _ => cases f <;> simp [X.eqAll] at h
theorem sim_mapM {f : Opd → XM den Option Y (XV den)} {g : Opd → SP β} {e : XV den → β} (h : ∀ x, Sim (f x) (g x) e) : ∀ l : List Opd, Sim (X.mapM' f l) (mapO g l) (List.map e) := by
  intro l
  induction l with
  | nil => exact .ret rfl
  | cons x l ih => exact (h x).bind fun y => ih.bind fun l' => .ret rfl
def valX (x : XV den) : Value := match x with | .d (.int k) n => .int k n | _ => undef
theorem sim_intOf (t : XV den) : Sim (Y := Y) (X.intOf realA t) (valOf (er t)) valX := by
  cases t with
  | d t x => cases t with
    | int k => exact .ret rfl
    | _ => exact .fail
  | _ => exact .fail
theorem mmAll_ok {mx : Bool} {k : IntKind} : ∀ {r : List (XV den)} {a m : Int}, X.mmAll realA mx k a r = some m → foldMM mx k a (r.map valX) = some m := by
  intro r
  induction r with
  | nil => intro a m h; exact h
  | cons x r ih =>
    intro a m h
    cases x with
    | d t b => cases t with
      | int k' =>
        simp only [X.mmAll] at h
        split at h
        · rename_i hk
          subst hk
          have := ih h
          simp only [List.map_cons, valX, foldMM, if_true]
          exact this
        · simp at h
      | _ => simp [X.mmAll] at h
    | _ => simp [X.mmAll] at h
theorem sim_capOf (t : XV den) : Sim (Y := Y) (X.capOf realA t) (match er t with | .ptr p vs => .ret (.ptr p vs) | .v x => .ret (.v x) | .sl c => .ret (.sl c) | _ => .fail) er := by
  have gen : Sim (Y := Y) (if X.okCellX t && !X.isOwX t then X.ret t else X.fail realA) (match er t with | .ptr p vs => .ret (.ptr p vs) | .v x => .ret (.v x) | .sl c => .ret (.sl c) | _ => .fail) er := by
    refine Sim.ite (fun h => ?_) fun _ => .fail
    simp only [Bool.and_eq_true, Bool.not_eq_true'] at h
    rcases plainX_er h.1 h.2 with ⟨y, hy⟩ | ⟨c, hc⟩
    · rw [hy]; exact .ret hy
    · rw [hc]; exact .ret hc
  cases t with
  | ptr p vs => exact .ret rfl
  | _ => exact gen
/-! ## Rows made of parts -/
theorem joinX_ok : ∀ {t : CT} {l r : List (XV den)} {x : den t}, X.joinX realA t l = some (x, r) → erL l = enc t x ++ erL r := by
  have one : ∀ {u : CT} (hu : X.oneT u = true) {l r : List (XV den)} {x : den u}, X.joinC realA u l = some (x, r) → erL l = enc u x ++ erL r := by
    intro u hu l r x h
    unfold X.joinC at h
    split at h
    · rename_i t y r'
      obtain ⟨z, h1, h2⟩ := omap h
      injection h2 with h2 h3
      subst h2; subst h3
      rw [enc_one hu, asT_er h1]; rfl
    · simp at h
  intro t
  induction t with
  | pair a b iha ihb =>
    intro l r x h
    simp only [X.joinX] at h
    split at h
    · rename_i x1 r1 h1
      split at h
      · rename_i y1 r2 h2
        injection h with h
        injection h with h h3
        subst h; subst h3
        rw [iha h1, ihb h2, ← List.append_assoc]; rfl
      · simp at h
    · simp at h
  | nat => intro l r x h; simp [X.joinX] at h
  | int k => intro l r x h; exact one rfl h
  | bool => intro l r x h; exact one rfl h
  | str => intro l r x h; exact one rfl h
  | row o t => intro l r x h; exact one rfl h
  | nilr o => intro l r x h; exact one rfl h
theorem joinOne_ok {t : CT} {l : List (XV den)} {x : den t} (h : X.joinOne realA t l = some x) : erL l = enc t x := by
  unfold X.joinOne at h
  split at h
  · rename_i y h1
    injection h with h
    subst h
    rw [joinX_ok h1]; simp [erL]
  · simp at h
theorem joinAll_ok {t : CT} : ∀ {ls : List (List (XV den))} {xs : List (den t)}, X.joinAll realA t ls = some xs → ls.map erL = xs.map (enc t) := by
  intro ls
  induction ls with
  | nil => intro xs h; simp only [X.joinAll, Option.some.injEq] at h; subst h; rfl
  | cons l ls ih =>
    intro xs h
    simp only [X.joinAll] at h
    split at h
    · rename_i x xs' h1 h2
      injection h with h
      subst h
      simp only [List.map_cons]
      rw [joinOne_ok h1, ih h2]
    · simp at h
theorem rowOf_ok {hint : Option CT} {ls : List (List (XV den))} {v : XV den} (h : X.rowOf realA hint ls = some v) : er v = .ow (ls.map erL) := by
  unfold X.rowOf at h
  split at h
  · injection h with h; subst h; rfl
  · split at h
    · obtain ⟨es, h1, rfl⟩ := omap h
      rw [joinAll_ok h1]; rfl
    · simp at h
theorem repOf_ok {hint : Option CT} {n : Nat} {l : List (XV den)} {v : XV den} (h : X.repOf realA hint n l = some v) : er v = .ow (List.replicate n (erL l)) := by
  unfold X.repOf at h
  split at h
  · obtain ⟨e, h1, rfl⟩ := omap h
    rw [joinOne_ok h1]
    show TV.ow (List.map _ (List.replicate n e)) = _
    rw [List.map_replicate]
  · simp at h
theorem all_len (t : CT) (xs : List (den t)) : (List.map (enc t) xs).all (fun e => e.length == ctSz t) = true := by
  rw [List.all_map, List.all_eq_true]
  intro x _
  simp [enc_len]
theorem appOk_ok {sz bytes : Nat} {c c2 : List (List TV)} (h1 : c.all (fun e => e.length == sz) = true) (h2 : c2.all (fun e => e.length == sz) = true) (h : appOk? bytes c.length c2.length = true) :
    ((c ++ c2).all (fun e => e.length == sz) && decide (c.length + c2.length ≤ 1099511627776) && decide ((c.length + c2.length) * bytes ≤ 140737488355328)) = true := by
  rw [List.all_append, h1, h2]
  simpa [appOk?] using h
theorem xs_app (d sz bytes : Nat) (hint : Option CT) (s x : XV den) : Sim (Y := Y) (X.appX realA d sz bytes hint s x) (match er s, er x with
    | .ow c, .ow c2 => if (c ++ c2).all (fun e => e.length == sz) && decide (c.length + c2.length ≤ 1099511627776) && decide ((c.length + c2.length) * bytes ≤ 140737488355328) then inst d false [.ow (c ++ c2)] else .fail
    | .ow c, .sl c2 => if (c ++ c2).all (fun e => e.length == sz) && decide (c.length + c2.length ≤ 1099511627776) && decide ((c.length + c2.length) * bytes ≤ 140737488355328) then inst d false [.ow (c ++ c2)] else .fail
    | _, _ => .fail) id := by
  have key : ∀ {t : CT} {c c3 : List (den t)} {c' c2' : List (List TV)} {a : XV den}, ctSz t = sz ∨ (c' = [] ∧ c2' = []) → c' = c.map (enc t) → c2' = c3.map (enc t) → er a = .ow (c' ++ c2') → appOk? bytes c'.length c2'.length = true →
      Sim (Y := Y) (X.inst realA d false [a]) (if (c' ++ c2').all (fun e => e.length == sz) && decide (c'.length + c2'.length ≤ 1099511627776) && decide ((c'.length + c2'.length) * bytes ≤ 140737488355328) then inst d false [.ow (c' ++ c2')] else .fail) id := by
    intro t c c3 c' c2' a hsz e1 e2 ea hok
    rw [if_pos]
    · exact sim_inst d false (by simp only [erL, ea])
    · refine appOk_ok ?_ ?_ hok
      · rcases hsz with hsz | ⟨h1, h2⟩
        · rw [e1, ← hsz]; exact all_len t c
        · rw [h1]; rfl
      · rcases hsz with hsz | ⟨h1, h2⟩
        · rw [e2, ← hsz]; exact all_len t c3
        · rw [h2]; rfl
  cases s with
  | d ts c => cases ts with
    | row ow t => cases ow with
      | false => exact .fail
      | true => cases x with
        | d tx c2 => cases tx with
          | row o t2 =>
            refine Sim.ite (fun hsz => Sim.opt fun c3 h3 => Sim.br fun hok => ?_) fun _ => .fail
            have h4 := asT_enc h3
            have hok : appOk? bytes (List.length c) (List.length c2) = true := hok
            have h5 : List.map (enc t2) (c2 : List (den t2)) = List.map (enc t) (c3 : List (den t)) := by
              cases o with
              | true =>
                have h6 : [TV.ow (List.map (enc t) (c3 : List (den t)))] = [TV.ow (List.map (enc t2) (c2 : List (den t2)))] := h4
                injection h6 with h6
                injection h6 with h6
                exact h6.symm
              | false =>
                have h6 : [TV.sl (List.map (enc t) (c3 : List (den t)))] = [TV.sl (List.map (enc t2) (c2 : List (den t2)))] := h4
                injection h6 with h6
                injection h6 with h6
                exact h6.symm
            cases o <;> exact key (t := t) (c := c) (c3 := c3) (.inl hsz) rfl h5 (by show TV.ow (List.map (enc t) (List.append c c3)) = _; rw [h5, ← List.map_append]; rfl) (by simpa using hok)
          | nilr o =>
            refine Sim.ite (fun hsz => Sim.br fun hok => ?_) fun _ => .fail
            have hok : appOk? bytes (List.length c) 0 = true := hok
            cases o <;> exact key (t := t) (c := c) (c3 := []) (.inl hsz) rfl rfl (by simp [er, er1]) (by simpa using hok)
          | _ => exact .fail
        | _ => exact .fail
    | nilr ow => cases ow with
      | false => exact .fail
      | true => cases x with
        | d tx c2 => cases tx with
          | row o t2 =>
            refine Sim.ite (fun hsz => Sim.opt fun c3 h3 => Sim.br fun hok => ?_) fun _ => .fail
            have h4 := asT_enc h3
            have hok : appOk? bytes 0 (List.length c2) = true := hok
            have h5 : List.map (enc t2) (c2 : List (den t2)) = List.map (enc (X.resT hint t2)) (c3 : List (den (X.resT hint t2))) := by
              cases o with
              | true =>
                have h6 : [TV.ow (List.map (enc (X.resT hint t2)) (c3 : List (den (X.resT hint t2))))] = [TV.ow (List.map (enc t2) (c2 : List (den t2)))] := h4
                injection h6 with h6
                injection h6 with h6
                exact h6.symm
              | false =>
                have h6 : [TV.sl (List.map (enc (X.resT hint t2)) (c3 : List (den (X.resT hint t2))))] = [TV.sl (List.map (enc t2) (c2 : List (den t2)))] := h4
                injection h6 with h6
                injection h6 with h6
                exact h6.symm
            cases o <;> exact key (t := t2) (c := []) (c3 := c2) (.inl hsz) rfl rfl (by show TV.ow (List.map (enc (X.resT hint t2)) (List.append [] c3)) = _; rw [h5]; rfl) (by simpa using hok)
          | nilr o =>
            refine Sim.br fun hok => ?_
            have hok : appOk? bytes 0 0 = true := hok
            cases o <;> exact key (t := .bool) (c := []) (c3 := []) (.inr ⟨rfl, rfl⟩) rfl rfl rfl hok
          | _ => exact .fail
        | _ => exact .fail
    | _ => exact .fail
  | _ => exact .fail
end
end Go.Proofs.Ytkmbahlpmoljpaa
/- Steps on typed data are steps on trees: all operations; no condition. -/
set_option linter.unusedVariables false
set_option linter.unusedSimpArgs false
namespace Go.Proofs.Ytkmbahlpmoljpaa
open Go.RowKit

section
variable {α β γ δ Y : Type}
/-- An operand is read; nothing else happens. -/
theorem opd_look {x : Opd} {σ : XS den} {k : XV den → XS den → Option Y} {y : Y} (h : X.opd realA x σ k = some y) : ∃ t σ', (opd x).run (erS σ) = some (er t, erS σ) ∧ erS σ' = erS σ ∧ Noted σ σ' ((opd x).foot (erS σ)) ∧ k t σ' = some y := by
  obtain ⟨t, σ', h1, h2, h3⟩ := sim_opd x σ k y h
  have e : erS σ' = erS σ := by
    cases x with
    | t i => simp only [opd, SP.run, Option.some.injEq, Prod.mk.injEq] at h1; exact h1.2.symm
    | c v => simp only [opd, SP.run, Option.some.injEq, Prod.mk.injEq] at h1; exact h1.2.symm
    | f f => simp only [opd, SP.run, Option.some.injEq, Prod.mk.injEq] at h1; exact h1.2.symm
  rw [e] at h1
  exact ⟨t, σ', h1, e, h2, h3⟩
theorem noted_trans {σ σ1 σ2 : XS den} {f : Foot} (h : Noted σ σ1 f) (h2 : Noted σ1 σ2 ([], [])) : Noted σ σ2 f := ⟨fun x hx => h2.r0 x (h.r x hx), fun x hx => h2.w0 x (h.w x hx), fun x hx => h2.r0 x (h.r0 x hx), fun x hx => h2.w0 x (h.w0 x hx)⟩
theorem noted_weak {σ σ1 : XS den} {f : Foot} (h : Noted σ σ1 f) : Noted σ σ1 ([], []) := ⟨fun x hx => by simp at hx, fun x hx => by simp at hx, h.r0, h.w0⟩
theorem flat1_er {t : CT} (h : X.flat1 t = true) : ∀ x : den t, ∃ v, er (.d t x) = .v v := by
  cases t <;> simp [X.flat1] at h
  · exact fun x => ⟨_, rfl⟩
  · exact fun x => ⟨_, rfl⟩
  · exact fun x => ⟨_, rfl⟩
theorem pickX_ok {d : Nat} {tc ta tb : XV den} {σ : XS den} {k : Unit → XS den → Option Y} {y : Y} (h : X.pickX realA d tc ta tb σ k = some y) : ∃ c v t, er tc = .v (.bool c) ∧ er (if c then ta else tb) = .v v ∧ er t = .v v ∧ X.wr realA d t σ k = some y := by
  unfold X.pickX at h
  split at h
  · rename_i c k1 x k2 z
    split at h
    · rename_i hk
      subst hk
      refine ⟨c, .int k2 (bif c then x else z), _, rfl, ?_, rfl, h⟩
      cases c <;> rfl
    · cases h
  · rename_i c x z
    refine ⟨c, .bool (bif c then x else z), _, rfl, ?_, rfl, h⟩
    cases c <;> rfl
  · rename_i c x z
    refine ⟨c, .string (bif c then x else z), _, rfl, ?_, rfl, h⟩
    cases c <;> rfl
  · split at h
    · rename_i hf
      rename den .bool => c
      cases c with
      | true => exact ⟨true, _, _, rfl, (flat1_er hf _).choose_spec, (flat1_er hf _).choose_spec, h⟩
      | false => cases h
    · cases h
  · split at h
    · rename_i hf
      rename den .bool => c
      cases c with
      | false => exact ⟨false, _, _, rfl, (flat1_er hf _).choose_spec, (flat1_er hf _).choose_spec, h⟩
      | true => cases h
    · cases h
  · cases h
theorem xs_pick (HT : List (Nat × CT)) (d : Nat) (c a b : Opd) : Sim (Y := Y) (X.ev1 realA HT d (.pick c a b)) (ev1 d (.pick c a b)) id := by
  intro σ k y hk
  obtain ⟨tc, σ1, r1, e1, n1, hk⟩ := opd_look (show X.opd realA c σ (fun tc σ1 => X.opd realA a σ1 fun ta σ2 => X.opd realA b σ2 fun tb σ3 => X.pickX realA d tc ta tb σ3 k) = some y from hk)
  obtain ⟨ta, σ2, r2, e2, n2, hk⟩ := opd_look hk
  obtain ⟨tb, σ3, r3, e3, n3, hk⟩ := opd_look hk
  obtain ⟨cv, v, t, h1, h2, h3, hk⟩ := pickX_ok hk
  obtain ⟨u, σ', r4, n4, hk⟩ := sim_wr d h3 σ3 k y hk
  have e13 : erS σ3 = erS σ := by rw [e3, e2, e1]
  have hx : (opd (if cv then a else b)).run (erS σ) = some (.v v, erS σ) ∧ Noted σ1 σ3 ((opd (if cv then a else b)).foot (erS σ)) := by
    rw [e1] at r2 n2
    rw [e2, e1] at r3 n3
    cases cv with
    | true => exact ⟨by simp only [if_true]; rw [r2]; simp only [if_true] at h2; rw [h2], ⟨fun x hx => n3.r0 x (n2.r x hx), fun x hx => n3.w0 x (n2.w x hx), fun x hx => n3.r0 x (n2.r0 x hx), fun x hx => n3.w0 x (n2.w0 x hx)⟩⟩
    | false => exact ⟨by simp only [Bool.false_eq_true, if_false]; rw [r3]; simp only [Bool.false_eq_true, if_false] at h2; rw [h2], ⟨fun x hx => n3.r x hx, fun x hx => n3.w x hx, fun x hx => n3.r0 x (n2.r0 x hx), fun x hx => n3.w0 x (n2.w0 x hx)⟩⟩
  obtain ⟨hx1, hx2⟩ := hx
  have rc : (opd c).run (erS σ) = some (.v (.bool cv), erS σ) := by rw [r1, h1]
  refine ⟨(), σ', ?_, ?_, hk⟩
  · simp only [ev1]
    rw [SP.run_bind, rc]
    simp only [Option.bind_some]
    rw [SP.run_bind, hx1]
    simp only [Option.bind_some]
    rw [e13] at r4
    exact r4
  · simp only [ev1]
    rw [SP.foot_bind _ _ rc]
    simp only
    rw [SP.foot_bind _ _ hx1]
    rw [e13] at n4
    refine ⟨fun x hx => ?_, fun x hx => ?_, fun x hx => n4.r0 x (hx2.r0 x (n1.r0 x hx)), fun x hx => n4.w0 x (hx2.w0 x (n1.w0 x hx))⟩
    · rcases List.mem_append.1 hx with hx | hx
      · exact n4.r0 x (hx2.r0 x (n1.r x hx))
      · rcases List.mem_append.1 hx with hx | hx
        · exact n4.r0 x (hx2.r x hx)
        · exact n4.r x hx
    · rcases List.mem_append.1 hx with hx | hx
      · exact n4.w0 x (hx2.w0 x (n1.w x hx))
      · rcases List.mem_append.1 hx with hx | hx
        · exact n4.w0 x (hx2.w x hx)
        · exact n4.w x hx
theorem loadIp_ok {n : Option Nat} {cs : List (XV den)} {t : XV den} (h : X.loadIp n cs = some t) : loadIp n (erL cs) = some (er t) := by
  cases n with
  | none =>
    cases cs with
    | nil => simp [X.loadIp] at h
    | cons x cs =>
      simp only [X.loadIp] at h
      split at h
      · rename_i hc
        injection h with h
        subst h
        simp only [Bool.and_eq_true, Bool.not_eq_true'] at hc
        rcases plainX_er hc.1 hc.2 with ⟨y, hy⟩ | ⟨c, hc⟩
        · simp only [loadIp, erL, hy]
        · simp only [loadIp, erL, hc]
      · simp at h
  | some n =>
    simp only [X.loadIp] at h
    split at h
    · rename_i hc
      injection h with h
      subst h
      simp only [Bool.and_eq_true, decide_eq_true_eq] at hc
      simp only [loadIp]
      rw [if_pos]
      · simp only [er, erL_take]
      · simp only [Bool.and_eq_true, decide_eq_true_eq]
        refine ⟨by rw [erL_len]; exact hc.1, ?_⟩
        rw [← erL_take, erL_eq, List.all_map, List.all_eq_true]
        intro x hx
        have := List.all_eq_true.1 hc.2 x hx
        simp only [Bool.and_eq_true, Bool.not_eq_true'] at this
        simp only [Function.comp_apply]
        rcases plainX_er this.1 this.2 with ⟨y, hy⟩ | ⟨c, hc⟩
        · rw [hy]
        · rw [hc]
    · simp at h

/-! ## Rows written over -/
theorem flat_vals : ∀ {t : CT} (x : den t), X.flatT t = true → ∃ vs, flatsOf (enc t x) = some vs ∧ vs.length = ctSz t ∧ (vs.all vflat = true) ∧ enc t x = vs.map TV.v ∧ 0 < ctSz t := by
  intro t
  induction t with
  | int k => intro x _; exact ⟨[.int k x], rfl, rfl, rfl, rfl, Nat.one_pos⟩
  | bool => intro x _; exact ⟨[.bool x], rfl, rfl, rfl, rfl, by decide⟩
  | str => intro x _; exact ⟨[.string x], rfl, rfl, rfl, rfl, by decide⟩
  | pair a b iha ihb =>
    intro x h
    simp only [X.flatT, Bool.and_eq_true] at h
    obtain ⟨vs, e1, e2, e3, e4, e5⟩ := iha x.1 h.1
    obtain ⟨ws, f1, f2, f3, f4, f5⟩ := ihb x.2 h.2
    refine ⟨vs ++ ws, ?_, by simp [e2, f2, ctSz], by simp [e3, f3], by show enc a x.1 ++ enc b x.2 = _; rw [e4, f4]; simp, by simp only [ctSz]; omega⟩
    show flatsOf (enc a x.1 ++ enc b x.2) = _
    rw [e4, f4]
    have : ∀ l : List Value, flatsOf (l.map TV.v) = some l := by
      intro l
      induction l with
      | nil => rfl
      | cons y l ih => simp [flatsOf, ih]
    rw [← List.map_append, this]
  | _ => intro x h; simp [X.flatT] at h
theorem flatsOf_v (l : List Value) : flatsOf (l.map TV.v) = some l := by
  induction l with
  | nil => rfl
  | cons y l ih => simp [flatsOf, ih]
theorem patch_row (sz : Nat) (h0 : 0 < sz) : ∀ (vs : List Value) (c : List (List TV)) (lo j : Nat) (rest : List Value), j + vs.length = sz → (∀ el, c[lo]? = some el → el.length = sz) → patchF sz c (lo * sz + j) (vs ++ rest) = patchF sz (c.modify lo fun el => el.take j ++ vs.map TV.v) ((lo + 1) * sz) rest := by
  intro vs
  induction vs with
  | nil =>
    intro c lo j rest hj hel
    have hj : j = sz := by simpa using hj
    subst hj
    simp only [List.nil_append, List.map_nil, List.append_nil]
    have e : (c.modify lo fun el => el.take j) = c := by
      apply List.ext_getElem?
      intro i
      rw [List.getElem?_modify]
      by_cases h : lo = i
      · subst h
        cases hc : c[lo]? with
        | none => rfl
        | some el => simp only [if_true]; show some (el.take j) = some el; rw [List.take_of_length_le (by rw [hel el hc]; exact Nat.le_refl _)]
      · simp only [if_neg h]; cases c[i]? <;> rfl
    rw [e, Nat.succ_mul]
  | cons v vs ih =>
    intro c lo j rest hj hel
    simp only [List.length_cons] at hj
    have hjs : j < sz := by omega
    show patchF sz (c.modify ((lo * sz + j) / sz) fun el => el.modify ((lo * sz + j) % sz) fun _ => .v v) (lo * sz + j + 1) (vs ++ rest) = _
    have e1 : (lo * sz + j) / sz = lo := by rw [Nat.mul_comm, Nat.mul_add_div h0, Nat.div_eq_of_lt hjs]; rfl
    have e2 : (lo * sz + j) % sz = j := by rw [Nat.mul_comm, Nat.mul_add_mod, Nat.mod_eq_of_lt hjs]
    rw [e1, e2, show lo * sz + j + 1 = lo * sz + (j + 1) by omega]
    have hel' : ∀ el, (c.modify lo fun el => el.modify j fun _ => .v v)[lo]? = some el → el.length = sz := by
      intro el h
      rw [List.getElem?_modify] at h
      cases hc : c[lo]? with
      | none => rw [hc] at h; simp at h
      | some el0 =>
        rw [hc] at h
        simp only [if_true, Option.map_eq_map, Option.map_some, Option.some.injEq] at h
        rw [← h, List.length_modify]
        exact hel el0 hc
    rw [ih _ lo (j + 1) rest (by omega) hel']
    congr 1
    apply List.ext_getElem?
    intro i
    simp only [List.getElem?_modify]
    by_cases h : lo = i
    · subst h
      simp only [if_true]
      cases hc : c[lo]? with
      | none => rfl
      | some el =>
        simp only [Option.map_eq_map, Option.map_some, Option.some.injEq]
        have hl := hel el hc
        apply List.ext_getElem?
        intro m
        simp only [List.map_cons]
        by_cases hm : m < j
        · rw [List.getElem?_append_left (by rw [List.length_take, List.length_modify]; omega), List.getElem?_append_left (by rw [List.length_take]; omega), List.getElem?_take, List.getElem?_take, if_pos (by omega), if_pos (by omega), List.getElem?_modify]
          have : ¬ j = m := by omega
          simp only [this, if_false]; simp
        · by_cases hm2 : m = j
          · subst hm2
            rw [List.getElem?_append_left (by rw [List.length_take, List.length_modify]; omega), List.getElem?_append_right (by rw [List.length_take]; omega), List.getElem?_take, if_pos (by omega), List.getElem?_modify, List.length_take]
            have : m - min m el.length = 0 := by omega
            rw [this]
            have h3 : m < el.length := by omega
            rw [List.getElem?_eq_getElem h3]; simp
          · rw [List.getElem?_append_right (by rw [List.length_take, List.length_modify]; omega), List.getElem?_append_right (by rw [List.length_take]; omega), List.length_take, List.length_take, List.length_modify]
            have : m - min j el.length = (m - min (j + 1) el.length) + 1 := by omega
            rw [this, List.getElem?_cons_succ]
    · simp only [if_neg h]; cases c[i]? <;> rfl
theorem patch_rows {t : CT} (hf : X.flatT t = true) : ∀ (ys xs : List (den t)) (lo : Nat) (vals : List Value), flatsOf ((ys.map (enc t)).flatten) = some vals → lo + ys.length ≤ xs.length → patchF (ctSz t) (xs.map (enc t)) (lo * ctSz t) vals = (xs.take lo ++ ys ++ xs.drop (lo + ys.length)).map (enc t) := by
  intro ys
  induction ys with
  | nil =>
    intro xs lo vals h hl
    simp only [List.map_nil, List.flatten_nil, flatsOf, Option.some.injEq] at h
    subst h
    simp [patchF]
  | cons y ys ih =>
    intro xs lo vals h hl
    simp only [List.length_cons] at hl
    obtain ⟨vs, e1, e2, e3, e4, e5⟩ := flat_vals y hf
    obtain ⟨ws, h2, rfl⟩ : ∃ ws, flatsOf ((ys.map (enc t)).flatten) = some ws ∧ vals = vs ++ ws := by
      simp only [List.map_cons, List.flatten_cons, e4] at h
      have : ∀ (l : List Value) (r : List TV), flatsOf (l.map TV.v ++ r) = (flatsOf r).map (l ++ ·) := by
        intro l r
        induction l with
        | nil => simp
        | cons z l ih => simp only [List.map_cons, List.cons_append, flatsOf, ih]; cases flatsOf r <;> rfl
      rw [this] at h
      obtain ⟨ws, h3, h4⟩ := omap h
      exact ⟨ws, h3, h4.symm⟩
    have := patch_row (ctSz t) e5 vs (xs.map (enc t)) lo 0 ws (by omega) (fun el hel => by
      rw [List.getElem?_map] at hel
      cases hx : xs[lo]? with
      | none => rw [hx] at hel; simp at hel
      | some z => rw [hx] at hel; simp only [Option.map_some, Option.some.injEq] at hel; rw [← hel, enc_len])
    rw [Nat.add_zero] at this
    rw [this]
    have e6 : ((xs.map (enc t)).modify lo fun el => el.take 0 ++ vs.map TV.v) = (xs.set lo y).map (enc t) := by
      apply List.ext_getElem?
      intro i
      simp only [List.getElem?_modify, List.getElem?_map, List.getElem?_set]
      by_cases hi : lo = i
      · subst hi
        have hlt : lo < xs.length := by omega
        simp [hlt, e4]
      · simp [hi]
    rw [e6, ih (xs.set lo y) (lo + 1) ws h2 (by rw [List.length_set]; omega)]
    congr 1
    rw [List.take_set, List.drop_set, if_pos (by omega)]
    have : (xs.take (lo + 1)).set lo y = xs.take lo ++ [y] := by
      rw [List.take_succ_eq_append_getElem (by omega : lo < xs.length), List.set_append_right _ _ (by rw [List.length_take]; omega)]
      congr 1
      have : lo - (xs.take lo).length = 0 := by rw [List.length_take]; omega
      rw [this]; rfl
    rw [this]
    simp only [List.length_cons, List.append_assoc, List.cons_append, List.nil_append]
    rw [show lo + 1 + ys.length = lo + (ys.length + 1) by omega]
end
end Go.Proofs.Ytkmbahlpmoljpaa
/- Steps on typed data are steps on trees: the whole of operations; no condition. -/
set_option linter.unusedVariables false
set_option linter.unusedSimpArgs false
namespace Go.Proofs.Ytkmbahlpmoljpaa
open Go.RowKit

section
variable {α β γ δ Y : Type}
theorem Sim.fork {c : Bool} {m m' : XM den Option Y α} {s : SP β} {f : α → β} (h : c = true → Sim m s f) (h' : c = false → Sim m' s f) : Sim (X.forkM realA c m m') s f := by
  intro σ k y hk
  cases c with
  | true => exact h rfl σ k y hk
  | false => exact h' rfl σ k y hk
def contX (v : XV den) : List (List TV) := match er v with | .sl c => c | .ow c => c | _ => []
theorem xs_content (t : XV den) : Sim (Y := Y) (X.contentOf realA t) (contentOf (er t)) contX := by
  cases t with
  | d t x => cases t with
    | row o t => cases o with
      | false => exact .ret rfl
      | true => exact .fail
    | nilr o => cases o <;> exact .ret rfl
    | _ => exact .fail
  | pk p vs =>
    refine (sim_chk p _ vs).bind fun _ => (sim_getPl p).bind fun t => ?_
    cases t with
    | d t x => cases t with
      | row o t => cases o with
        | true => exact .ret rfl
        | false => exact .fail
      | nilr o => cases o with
        | true => exact .ret rfl
        | false => exact .fail
      | _ => exact .fail
    | _ => exact .fail
  | pw p vs sz lo n =>
    refine (sim_chk p _ vs).bind fun _ => (sim_getPl p).bind fun t => ?_
    cases t with
    | d t x => cases t with
      | row o t => cases o with
        | true =>
          refine .ret ?_
          show List.map (enc t) ((List.drop lo x).take n) = ((List.map (enc t) x).drop lo).take n
          rw [List.map_take, List.map_drop]
        | false => exact .fail
      | _ => exact .fail
    | _ => exact .fail
  | _ => exact .fail
theorem rows_vals {t : CT} (hf : X.flatT t = true) : ∀ zs : List (den t), ∃ vals, flatsOf ((zs.map (enc t)).flatten) = some vals ∧ vals.all vflat = true ∧ (zs ≠ [] → ∃ v vs, vals = v :: vs) ∧ (zs = [] → vals = []) := by
  intro zs
  induction zs with
  | nil => exact ⟨[], rfl, rfl, fun h => absurd rfl h, fun _ => rfl⟩
  | cons z zs ih =>
    obtain ⟨ws, h1, h2, _⟩ := ih
    obtain ⟨vs, e1, e2, e3, e4, e5⟩ := flat_vals z hf
    have : ∀ (l : List Value) (r : List TV), flatsOf (l.map TV.v ++ r) = (flatsOf r).map (l ++ ·) := by
      intro l r
      induction l with
      | nil => simp
      | cons z l ih => simp only [List.map_cons, List.cons_append, flatsOf, ih]; cases flatsOf r <;> rfl
    refine ⟨vs ++ ws, ?_, by simp [e3, h2], fun _ => ?_, fun h => by simp at h⟩
    · rw [List.map_cons, List.flatten_cons, e4, this, h1]; rfl
    · cases vs with
      | nil => simp at e2; omega
      | cons v vs => exact ⟨v, vs ++ ws, rfl⟩
theorem isV_enc {t : CT} (hf : X.flatT t = true) (x : den t) : (enc t x).all isV = true := by
  obtain ⟨vs, _, _, _, e4, _⟩ := flat_vals x hf
  rw [e4, List.all_map, List.all_eq_true]
  intro y _; rfl
theorem cpy_typed {t : CT} (hf : X.flatT t = true) (xs ys : List (den t)) (lo n : Nat) (hle : lo + min ys.length n ≤ xs.length) :
    cpyC (ctSz t) (xs.map (enc t)) (ys.map (enc t)) lo n = if 0 < min ys.length n then some (min ys.length n, some ((splice? xs lo (min ys.length n) ys).map (enc t))) else some (min ys.length n, none) := by
  obtain ⟨vals, h1, h2, h3, h4⟩ := rows_vals hf (ys.take (min ys.length n))
  have e5 : 0 < ctSz t := by
    clear h1 h2 h3 h4 hle
    induction t with
    | pair a b iha ihb =>
      simp only [X.flatT, Bool.and_eq_true] at hf
      simp only [ctSz]
      have := iha hf.1 [] [] 
      omega
    | int k => exact Nat.one_pos
    | bool => exact Nat.one_pos
    | str => exact Nat.one_pos
    | _ => simp [X.flatT] at hf
  unfold cpyC
  rw [List.length_map, ← List.map_take, h1]
  by_cases hm : 0 < min ys.length n
  · rw [if_pos hm]
    obtain ⟨v, vs, hv⟩ := h3 (by intro h; have := congrArg List.length h; rw [List.length_take, List.length_nil] at this; omega)
    rw [hv]
    simp only
    rw [if_pos, ← hv]
    · have hp := patch_rows hf (ys.take (min ys.length n)) xs lo vals h1 (by rw [List.length_take]; omega)
      rw [hp]
      have e : (List.take (min ys.length n) ys).length = min ys.length n := by rw [List.length_take]; omega
      rw [e]; rfl
    · simp only [Bool.and_eq_true, decide_eq_true_eq]
      refine ⟨⟨⟨⟨⟨e5, all_len t xs⟩, all_len t ys⟩, by rw [List.length_map]; exact hle⟩, ?_⟩, by rw [← hv]; exact h2⟩
      rw [← List.map_drop, ← List.map_take, List.all_map, List.all_eq_true]
      intro x _
      exact isV_enc hf x
  · rw [if_neg hm]
    have : ys.take (min ys.length n) = [] := by
      have : min ys.length n = 0 := by omega
      rw [this]; rfl
    rw [h4 this]
    simp only
    rw [if_pos]
    simp only [Bool.and_eq_true, decide_eq_true_eq]
    exact ⟨e5, all_len t ys⟩
theorem xs_cpy (d sz : Nat) (p : XP den) (lo : Nat) (n : Option Nat) (tv c2 : XV den) : Sim (Y := Y) (X.cpyX realA d sz p lo n tv c2) (match getT (er tv) p.hops with | some (.ow c) => cpyTo d (erP p) (er tv) (cpyC sz c (contX c2) lo (n.getD c.length)) | _ => .fail) id := by
  refine sim_getX fun v hv => ?_
  rw [hv]
  cases v with
  | d tt x => cases tt with
    | row o t => cases o with
      | false => exact .fail
      | true => cases c2 with
        | d t2 y => cases t2 with
          | row o2 t2 =>
            by_cases hc : ctBeq t2 t = true ∧ ctSz t = sz ∧ X.flatT t = true
            · have he := ctBeq_eq hc.1
              subst he
              have e0 : X.cpyX (X := Y) realA d sz p lo n = X.cpyX realA d sz p lo n := rfl
              show Sim (if h : ctBeq t2 t2 = true ∧ ctSz t2 = sz ∧ X.flatT t2 = true then _ else _) _ id
              rw [dif_pos hc]
              refine Sim.opt fun tv' htv => Sim.br fun hok => ?_
              have hok : slOk? lo (lo + min (List.length (y : List (den t2))) (n.getD (List.length (x : List (den t2))))) (List.length (x : List (den t2))) = true := by
                have h9 := hok
                cases n <;> exact h9
              have hle : lo + min (List.length (y : List (den t2))) (n.getD (List.length (x : List (den t2)))) ≤ List.length (x : List (den t2)) := by
                simp only [slOk?, Bool.and_eq_true, decide_eq_true_eq] at hok
                exact hok.2
              have hct : contX (.d (.row o2 t2) y : XV den) = List.map (enc t2) (y : List (den t2)) := by cases o2 <;> rfl
              have hrow : er (.d (.row true t2) x : XV den) = .ow (List.map (enc t2) (x : List (den t2))) := rfl
              rw [hrow, hct]
              simp only [List.length_map]
              rw [← hc.2.1, cpy_typed hc.2.2 x y lo _ hle]
              have hset := setX_er htv
              refine Sim.fork (fun hb => ?_) fun hb => ?_
              · have hb : Nat.blt 0 (min (List.length (y : List (den t2))) (n.getD (List.length (x : List (den t2))))) = true := by cases n <;> exact hb
                rw [if_pos (by simpa using hb)]
                refine Sim.wrC ?_ (sim_wr d ?_)
                · rw [hset]
                  cases n <;> rfl
                · cases n <;> rfl
              · have hb : Nat.blt 0 (min (List.length (y : List (den t2))) (n.getD (List.length (x : List (den t2))))) = false := by cases n <;> exact hb
                rw [if_neg (by intro h; rw [Bool.eq_false_iff] at hb; exact hb (by simpa using h))]
                refine sim_wr d ?_
                cases n <;> rfl
            · show Sim (if h : ctBeq t2 t = true ∧ ctSz t = sz ∧ X.flatT t = true then _ else _) _ id
              rw [dif_neg hc]
              exact .fail
          | nilr o2 =>
            refine Sim.ite (fun h0 => ?_) fun _ => .fail
            have hct : contX (.d (.nilr o2) y : XV den) = [] := by cases o2 <;> rfl
            have hrow : er (.d (.row true t) x : XV den) = .ow (List.map (enc t) (x : List (den t))) := rfl
            rw [hrow, hct]
            have : cpyC sz (List.map (enc t) (x : List (den t))) [] lo (n.getD (List.map (enc t) (x : List (den t))).length) = some (0, none) := by
              simp [cpyC, flatsOf, h0]
            simp only [this]
            exact sim_wr d rfl
          | _ => exact .fail
        | _ => exact .fail
    | _ => exact .fail
  | _ => exact .fail
end
end Go.Proofs.Ytkmbahlpmoljpaa
