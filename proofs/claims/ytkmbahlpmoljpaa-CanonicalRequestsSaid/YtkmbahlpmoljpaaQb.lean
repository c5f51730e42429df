/- Names for places behind a store; no condition. -/
import Derived.Test.YtkmbahlpmoljpaaQa
set_option linter.unusedVariables false
set_option linter.unusedSimpArgs false
namespace Go.Proofs.Ytkmbahlpmoljpaa
open Go.RowKit

theorem Core.hv_own {A : Nat → Prop} {C : Cs} {w : World} {G : Gh} (hC : Core A C w G) (p : Place) {t : TV} (ht : getT (C p.root p.off) p.hops = some t) (hd : t ≠ .dead) :
    ∃ u fp, G.hv w p = some u ∧ OwnR w (G.F A) fp t u ∧ (∀ k, fp k → G.φ p.root p.off k) ∧ (p.hops ≠ [] → ∃ ad, addrT w (G.val w p.root p.off) p.hops = some ad ∧ w.cell? ad = some u ∧ G.φ p.root p.off ad.block) := by
  obtain ⟨r, o, hs⟩ := p
  have hdr : C r o ≠ .dead := by
    intro hdr
    have := ht
    simp only at this
    rw [hdr] at this
    cases hs with
    | nil => simp only [getT, Option.some.injEq] at this; exact hd this.symm
    | cons => simp [getT] at this
  cases hs with
  | nil =>
    simp only [getT, Option.some.injEq] at ht
    subst ht
    exact ⟨G.val w r o, G.φ r o, rfl, hC.own hdr, fun _ h => h, fun h => absurd rfl h⟩
  | cons h hs =>
    obtain ⟨ad, u, fp1, h1, _, h3, _, h5, h6, h7, _⟩ := lens (hC.own hdr) (by simp) ht
    exact ⟨u, fp1, hvT_of_addr h1 h3, h5, h6, fun _ => ⟨ad, h1, h3, h7⟩⟩

section
variable {A : Nat → Prop} {C : Cs} {w : World} {G : Gh}

theorem Core.where_ (hC : Core A C w G) (q : Place) {t : TV} {ad : Addr} (hadr : G.addrB w q = some ad) (ht : getT (C q.root q.off) q.hops = some t) :
    (q.hops = [] ∧ ∃ b o0 n, G.β q.root = some (b, o0, n) ∧ q.off < n ∧ ad = ⟨b, o0 + q.off, none⟩) ∨ (q.hops ≠ [] ∧ G.φ q.root q.off ad.block) := by
  obtain ⟨r, o, hs⟩ := q
  cases hs with
  | nil =>
    left
    simp only [Gh.addrB] at hadr
    cases hbr : G.β r with
    | none => simp [hbr] at hadr
    | some y =>
      obtain ⟨b, o0, n⟩ := y
      simp only [hbr] at hadr
      split at hadr
      · rename_i hlt
        injection hadr with hadr
        exact ⟨rfl, b, o0, n, by first | exact hbr | rfl, hlt, hadr.symm⟩
      · simp at hadr
  | cons h hs =>
    right
    refine ⟨by simp, ?_⟩
    have hd : C r o ≠ .dead := fun hd => by
      have := ht
      simp only at this
      rw [hd] at this
      simp [getT] at this
    obtain ⟨ad2, u, fp1, h1, _, _, _, _, _, h7, _⟩ := lens (hC.own hd) (by simp) ht
    have hadr2 : addrT w (G.val w r o) (h :: hs) = some ad := hadr
    rw [hadr2] at h1
    injection h1 with h1
    subst h1
    exact h7

theorem Core.val_set (hC : Core A C w G) (q : Place) {t : TV} {ad : Addr} (hadr : G.addrB w q = some ad) (ht : getT (C q.root q.off) q.hops = some t) {w' : World} {u' : Value}
    (hw : ∀ k, k < w.heap.size → w'.heap[k]? = (w.setCell ad u').heap[k]?) {r' o' : Nat} (hd : C r' o' ≠ .dead) (hne : ¬ (q.hops = [] ∧ r' = q.root ∧ o' = q.off)) : G.val w' r' o' = G.val w r' o' := by
  unfold Gh.val
  cases hbb : G.β r' with
  | none => rfl
  | some x =>
    obtain ⟨b, o0, n⟩ := x
    have hlt : o' < n := by
      rcases Nat.lt_or_ge o' n with h | h
      · exact h
      · exact absurd (hC.boxc r' b o0 n hbb o' h) hd
    have hna : (⟨b, o0 + o', none⟩ : Addr) ≠ ad := by
      intro e
      rcases hC.where_ q hadr ht with ⟨h1, b2, o2, n2, h2, h3, h4⟩ | ⟨_, h1⟩
      · rw [h4] at e
        injection e with e1 e2
        have hr : r' = q.root := hC.boxd r' q.root b o0 n o2 n2 hbb (by rw [h2, e1])
        subst hr
        rw [hbb] at h2
        injection h2 with h2
        injection h2 with h5 h6
        injection h6 with h6 h7
        exact hne ⟨h1, rfl, by omega⟩
      · exact hC.boxf r' b o0 n hbb _ _ (by rw [← e] at h1; exact h1)
    show (w'.cell? ⟨b, o0 + o', none⟩).getD undef = (w.cell? ⟨b, o0 + o', none⟩).getD undef
    rw [World.cell?_of_block (w := w.setCell ad u') (hw b (hC.boxlt hbb)), World.cell?_setCell_other w ad ⟨b, o0 + o', none⟩ u' (fun e => hna e.symm)]
theorem Core.phi_ne (hC : Core A C w G) (q : Place) {t : TV} {ad : Addr} (hadr : G.addrB w q = some ad) (ht : getT (C q.root q.off) q.hops = some t) {r' o' k : Nat} (hne : ¬ (r' = q.root ∧ o' = q.off)) (hk : G.φ r' o' k) : k ≠ ad.block := by
  intro e
  rcases hC.where_ q hadr ht with ⟨h1, b2, o2, n2, h2, h3, h4⟩ | ⟨_, h1⟩
  · rw [h4] at e
    exact hC.boxf _ _ _ _ h2 r' o' (by rw [← show k = b2 from e]; exact hk)
  · exact hne (hC.dis _ _ _ _ k hk (by rw [e]; exact h1))

theorem addr_val {G' : Gh} {w' : World} {p : Place} {ad : Addr} (h1 : G.addr w p = some ad) (hβ : G'.β = G.β) (hT : p.hops ≠ [] → addrT w' (G'.val w' p.root p.off) p.hops = addrT w (G.val w p.root p.off) p.hops) : G'.addr w' p = some ad := by
  unfold Gh.addr at h1 ⊢
  cases hp : p.hops with
  | nil => rw [hp] at h1; simp only at h1 ⊢; rw [hβ]; exact h1
  | cons a r => rw [hp] at h1 hT; simp only at h1 ⊢; rw [hT (by simp)]; exact h1

/-- A store of a number (or the like) where one was. -/
theorem Keeps.flat (hC : Core A C w G) (q : Place) {u u' : Value} {ad : Addr} (hadr : G.addrB w q = some ad) (ht : getT (C q.root q.off) q.hops = some (.v u)) (hu' : vflat u' = true) {w' : World} {C' : Cs} {G' : Gh} {V : Vs} {t' : TV}
    (hw : ∀ k, k < w.heap.size → w'.heap[k]? = (w.setCell ad u').heap[k]?) (hβ : G'.β = G.β) (hη : G'.η = G.η)
    (hCq : C' q.root q.off = setT (C q.root q.off) q.hops t') (hoth : ∀ r o, ¬ (r = q.root ∧ o = q.off) → r ≠ 1 → C' r o = C r o) : Keeps w w' V V C C' G G' := by
  obtain ⟨u0, fp, hv, hown, _, hadf⟩ := hC.hv_own q ht (by simp)
  have hu : vflat u0 = true ∧ u0 = u := by cases hown with | v _ h => exact ⟨h, rfl⟩
  obtain ⟨hu, rfl⟩ := hu
  have hcu : w.cell? ad = some u0 := by
    cases hq : q.hops with
    | nil =>
      rcases hC.where_ q hadr ht with ⟨_, b, o0, n, h2, h3, h4⟩ | ⟨h, _⟩
      · rw [h4, hC.boxcell h2 h3]
        unfold Gh.hv at hv
        rw [hq] at hv
        exact hv
      · exact absurd hq h
    | cons a r =>
      obtain ⟨ad2, h1, h2, _⟩ := hadf (by rw [hq]; simp)
      have h3 : addrT w (G.val w q.root q.off) q.hops = some ad := by
        unfold Gh.addrB at hadr
        rw [hq] at hadr ⊢
        exact hadr
      rw [h3] at h1
      injection h1 with h1
      rw [h1]; exact h2
  have hsz : (w.setCell ad u').heap.size = w.heap.size := by simp
  have hval : ∀ r' o', C r' o' ≠ .dead → ¬ (q.hops = [] ∧ r' = q.root ∧ o' = q.off) → G'.val w' r' o' = G.val w r' o' := by
    intro r' o' hd hne
    rw [← hC.val_set q hadr ht hw hd hne]
    unfold Gh.val
    rw [hβ, hη]
  have hT : ∀ (x : Value) (hs : List Hop) (a : Addr), addrT w x hs = some a → addrT w' x hs = some a := by
    intro x hs a h
    refine addrT_grow (w := w.setCell ad u') (fun k hk => hw k (by rw [← hsz]; exact hk)) ?_
    rw [addrT_flat hcu hu hu']
    exact h
  have hgt : ∀ (p : Place) (t : TV), p.root ≠ 1 → getT (C p.root p.off) p.hops = some t → ∃ t1, getT (C' p.root p.off) p.hops = some t1 ∧ (∀ c, t = .ow c → ∃ c', t1 = .ow c' ∧ c'.map List.length = c.map List.length) := by
    intro p t hr1 h
    by_cases he : p.root = q.root ∧ p.off = q.off
    · rw [he.1, he.2] at h ⊢
      rw [hCq]
      exact getT_setT_flat ht (by simp) h
    · rw [hoth _ _ he hr1]
      exact ⟨t, h, fun c hc => ⟨c, hc, rfl⟩⟩
  have hno : ∀ (p : Place), p.hops ≠ [] → (∃ t, getT (C p.root p.off) p.hops = some t) → C p.root p.off ≠ .dead ∧ ¬ (q.hops = [] ∧ p.root = q.root ∧ p.off = q.off) := by
    rintro p hp ⟨t, h⟩
    refine ⟨fun hd => ?_, fun ⟨h1, h2, h3⟩ => ?_⟩
    · rw [hd] at h
      cases hq : p.hops with
      | nil => exact hp hq
      | cons => rw [hq] at h; simp [getT] at h
    · rw [h1] at ht
      simp only [getT, Option.some.injEq] at ht
      rw [h2, h3, ht] at h
      cases hq : p.hops with
      | nil => exact hp hq
      | cons => rw [hq] at h; simp [getT] at h
  refine ⟨fun _ => Nat.le_refl _, fun p a t hr1 _ h1 h2 => ?_, fun p h c hr1 _ h1 h2 => ?_⟩
  · obtain ⟨t1, h3, _⟩ := hgt p t hr1 h2
    refine ⟨t1, ?_, h3⟩
    cases hp : p.hops with
    | nil => exact addr_val h1 hβ fun h => absurd hp h
    | cons b l =>
      obtain ⟨h4, h5⟩ := hno p (by rw [hp]; simp) ⟨t, h2⟩
      refine addr_val h1 hβ fun _ => ?_
      have h6 : addrT w (G.val w p.root p.off) p.hops = some a := by unfold Gh.addr at h1; rw [hp] at h1 ⊢; exact h1
      rw [hval _ _ h4 h5, h6, hT _ _ _ h6]
  · obtain ⟨t1, h3, h4⟩ := hgt p _ hr1 h2
    obtain ⟨c', rfl, h5⟩ := h4 c rfl
    refine ⟨c', ?_, h3, h5⟩
    obtain ⟨x, fpx, h6, h7, _, h8⟩ := hC.hv_own p h2 (by simp)
    rw [h1] at h6
    injection h6 with h6
    subst h6
    obtain ⟨aa, cp, hsl, _⟩ := h7.hdr
    cases hp : p.hops with
    | nil =>
      have h9 : C p.root p.off = .ow c := by rw [hp] at h2; simpa [getT] using h2
      unfold Gh.hv at h1 ⊢
      rw [hp] at h1 ⊢
      simp only [hvT] at h1 ⊢
      rw [hval _ _ (by rw [h9]; simp) (fun ⟨e1, e2, e3⟩ => by
        rw [e1] at ht
        simp only [getT, Option.some.injEq] at ht
        rw [e2, e3, ht] at h9
        simp at h9)]
      exact h1
    | cons b l =>
      obtain ⟨ad2, h9, h10, _⟩ := h8 (by rw [hp]; simp)
      obtain ⟨h11, h12⟩ := hno p (by rw [hp]; simp) ⟨_, h2⟩
      have hne : ad2 ≠ ad := by
        intro e
        rw [e, hcu] at h10
        injection h10 with h10
        rw [h10, hsl] at hu
        simp [vflat] at hu
      unfold Gh.hv
      refine hvT_of_addr (hval _ _ h11 h12 ▸ hT _ _ _ h9) ?_
      rw [World.cell?_of_block (w := w.setCell ad u') (hw _ (World.block_lt_of_cell? w _ h10)), World.cell?_setCell_other w ad ad2 u' (fun e => hne e.symm)]
      exact h10
/-- A store of anything, at no great depth: the names that pass it are void. -/
theorem Keeps.header (hC : Core A C w G) (q : Place) (hlen : q.hops.length ≤ 1) {t : TV} {ad : Addr} {u' : Value} (hadr : G.addrB w q = some ad) (ht : getT (C q.root q.off) q.hops = some t) {w' : World} {C' : Cs} {G' : Gh} {V V' : Vs} {t' : TV}
    (hw : ∀ k, k < w.heap.size → w'.heap[k]? = (w.setCell ad u').heap[k]?) (hβ : G'.β = G.β) (hη : G'.η = G.η) (hV : ∀ k, V k ≤ V' k) (hr : V (q.root, q.off, q.hops.length + 1) < V' (q.root, q.off, q.hops.length + 1))
    (hCq : C' q.root q.off = setT (C q.root q.off) q.hops t') (hoth : ∀ r o, ¬ (r = q.root ∧ o = q.off) → r ≠ 1 → C' r o = C r o) : Keeps w w' V V' C C' G G' := by
  have hval : ∀ r' o', C r' o' ≠ .dead → ¬ (q.hops = [] ∧ r' = q.root ∧ o' = q.off) → G'.val w' r' o' = G.val w r' o' := by
    intro r' o' hd hne
    rw [← hC.val_set q hadr ht hw hd hne]
    unfold Gh.val
    rw [hβ, hη]
  have hnd : ∀ (p : Place) (t : TV), t ≠ .dead ∨ p.hops ≠ [] → getT (C p.root p.off) p.hops = some t → C p.root p.off ≠ .dead := by
    intro p t h1 h hd
    rw [hd] at h
    cases hq : p.hops with
    | nil =>
      rw [hq] at h
      simp only [getT, Option.some.injEq] at h
      rcases h1 with h1 | h1
      · exact h1 h.symm
      · exact h1 hq
    | cons => rw [hq] at h; simp [getT] at h
  have hφ : ∀ r' o' k, ¬ (r' = q.root ∧ o' = q.off) → G.φ r' o' k → w'.heap[k]? = w.heap[k]? := by
    intro r' o' k hne hk
    rw [hw k (hC.live hk)]
    exact setCell_block_ne w ad u' (hC.phi_ne q hadr ht hne hk)
  refine ⟨hV, fun p a t1 hr1 hv h1 h2 => ?_, fun p h c hr1 hv h1 h2 => ?_⟩
  · have hno := (vers_of_le hr hv).2
    by_cases he : p.root = q.root ∧ p.off = q.off
    · have hl : p.hops.length ≤ q.hops.length := by
        rcases Nat.lt_or_ge q.hops.length p.hops.length with h | h
        · exact absurd (show ((q.root, q.off, q.hops.length + 1) : Key) = (p.root, p.off, q.hops.length + 1) by rw [he.1, he.2]) (hno _ h)
        · exact h
      have h2' := h2
      rw [he.1, he.2] at h2'
      obtain ⟨t2, h3, _⟩ := getT_setT_short (t' := t') ht h2' hl
      refine ⟨t2, ?_, by rw [he.1, he.2, hCq]; exact h3⟩
      refine addr_val h1 hβ fun hp => ?_
      have hq : q.hops ≠ [] := fun e => by rw [e] at hl; exact hp (List.eq_nil_of_length_eq_zero (by simpa using hl))
      rw [hval _ _ (hnd p t1 (.inr hp) h2) (fun h => hq h.1)]
      match hp' : p.hops, hp with
      | [hh], _ => cases G.val w p.root p.off <;> first | rfl | (rename_i a n c; cases a <;> rfl)
      | _ :: _ :: _, _ => rw [hp'] at hl; simp at hl; omega
    · have hC' : C' p.root p.off = C p.root p.off ∨ p.hops = [] := .inl (hoth _ _ he hr1)
      refine ⟨?_, ?_⟩
      · exact (getT (C' p.root p.off) p.hops).getD .dead
      · refine ⟨addr_val h1 hβ fun hp => ?_, ?_⟩
        · have hd := hnd p t1 (.inr hp) h2
          rw [hval _ _ hd (fun h => he h.2)]
          exact addrT_frame (hC.own hd) h2 fun k hk => hφ _ _ k he hk
        · rcases hC' with h | h
          · rw [h, h2]; rfl
          · rw [h]; rfl
  · have hno := (vers_of_le hr hv).2
    have hd := hnd p (.ow c) (.inl (by simp)) h2
    by_cases he : p.root = q.root ∧ p.off = q.off
    · have hl : p.hops.length < q.hops.length := by
        rcases Nat.lt_or_ge q.hops.length (p.hops.length + 1) with h | h
        · exact absurd (show ((q.root, q.off, q.hops.length + 1) : Key) = (p.root, p.off, q.hops.length + 1) by rw [he.1, he.2]) (hno _ h)
        · exact h
      have h2' := h2
      rw [he.1, he.2] at h2'
      obtain ⟨t2, h3, h4⟩ := getT_setT_short (t' := t') ht h2' (Nat.le_of_lt hl)
      obtain ⟨c', rfl, h5⟩ := h4 hl c rfl
      refine ⟨c', ?_, by rw [he.1, he.2, hCq]; exact h3, h5⟩
      have hp : p.hops = [] := List.eq_nil_of_length_eq_zero (by omega)
      unfold Gh.hv at h1 ⊢
      rw [hp] at h1 ⊢
      simp only [hvT] at h1 ⊢
      rw [hval _ _ hd (fun h => by rw [h.1] at hl; simp at hl)]
      exact h1
    · have hC' : C' p.root p.off = C p.root p.off := hoth _ _ he hr1
      refine ⟨c, ?_, by rw [hC']; exact h2, rfl⟩
      obtain ⟨x, fpx, h6, h7, _, h8⟩ := hC.hv_own p h2 (by simp)
      rw [h1] at h6
      injection h6 with h6
      subst h6
      have hv' := hval _ _ hd (fun h => he h.2)
      cases hp : p.hops with
      | nil => unfold Gh.hv at h1 ⊢; rw [hp] at h1 ⊢; simp only [hvT] at h1 ⊢; rw [hv']; exact h1
      | cons b l =>
        obtain ⟨ad2, h9, h10, h11⟩ := h8 (by rw [hp]; simp)
        unfold Gh.hv
        refine hvT_of_addr (ad := ad2) ?_ ?_
        · rw [hv', addrT_frame (hC.own hd) h2 fun k hk => hφ _ _ k he hk]; exact h9
        · rw [World.cell?_of_block (w := w) (hφ _ _ _ he h11)]; exact h10
end
end Go.Proofs.Ytkmbahlpmoljpaa
/- Operations on values as trees; definitions, and what a run of one is; no condition. -/
set_option linter.unusedVariables false
set_option linter.unusedSimpArgs false
namespace Go.Proofs.Ytkmbahlpmoljpaa
open Go.RowKit

/-- A program over slots, cells and counts. -/
inductive SP (α : Type) where
  | ret (a : α)
  | fail
  | rdT (i : Nat) (k : TV → SP α)
  | rdC (r o : Nat) (k : TV → SP α)
  | rdV (q : Key) (k : Nat → SP α)
  | wrT (i : Nat) (t : TV) (k : SP α)
  | wrC (r o : Nat) (t : TV) (k : SP α)
  | new (r : Nat) (l : List TV) (k : SP α)
  | bump (q : Key) (k : SP α)
def SP.bind {α β : Type} : SP α → (α → SP β) → SP β
  | .ret a, f => f a
  | .fail, _ => .fail
  | .rdT i k, f => .rdT i fun t => (k t).bind f
  | .rdC r o k, f => .rdC r o fun t => (k t).bind f
  | .rdV q k, f => .rdV q fun n => (k n).bind f
  | .wrT i t k, f => .wrT i t (k.bind f)
  | .wrC r o t k, f => .wrC r o t (k.bind f)
  | .new r l k, f => .new r l (k.bind f)
  | .bump q k, f => .bump q (k.bind f)
instance : Monad SP where
  pure := SP.ret
  bind := SP.bind

def aget {α : Type} : List (Nat × α) → Nat → Option α
  | [], _ => none
  | (k, v) :: r, i => if k = i then some v else aget r i
def aset {α : Type} : List (Nat × α) → Nat → α → List (Nat × α)
  | [], i, v => [(i, v)]
  | (k, v0) :: r, i, v => if k = i then (i, v) :: r else (k, v0) :: aset r i v
def vget : List (Key × Nat) → Key → Nat
  | [], _ => 0
  | (k, v) :: r, i => if k = i then v else vget r i
def vinc : List (Key × Nat) → Key → List (Key × Nat)
  | [], i => [(i, 1)]
  | (k, v) :: r, i => if k = i then (k, v + 1) :: r else (k, v) :: vinc r i

structure St where
  tm : List (Nat × TV)
  ce : List (Nat × List TV)
  vr : List (Key × Nat)
def St.t (σ : St) (i : Nat) : TV := (aget σ.tm i).getD .dead
def St.c (σ : St) (r o : Nat) : TV := match aget σ.ce r with | some l => l.getD o .dead | none => .dead
def St.v (σ : St) (q : Key) : Nat := vget σ.vr q

def SP.run {α : Type} : SP α → St → Option (α × St)
  | .ret a, σ => some (a, σ)
  | .fail, _ => none
  | .rdT i k, σ => (k (σ.t i)).run σ
  | .rdC r o k, σ => (k (σ.c r o)).run σ
  | .rdV q k, σ => (k (σ.v q)).run σ
  | .wrT i t k, σ => k.run { σ with tm := aset σ.tm i t }
  | .wrC r o t k, σ =>
    match aget σ.ce r with
    | some l => if o < l.length then k.run { σ with ce := aset σ.ce r (l.set o t) } else none
    | none => none
  | .new r l k, σ => k.run { σ with ce := aset σ.ce r l, vr := vinc σ.vr (r, 0, 0) }
  | .bump q k, σ => k.run { σ with vr := vinc σ.vr q }

theorem SP.run_bind {α β : Type} (s : SP α) (f : α → SP β) (σ : St) : (s.bind f).run σ = (s.run σ).bind fun x => (f x.1).run x.2 := by
  induction s generalizing σ with
  | ret a => rfl
  | fail => rfl
  | rdT i k ih => exact ih _ _
  | rdC r o k ih => exact ih _ _
  | rdV q k ih => exact ih _ _
  | wrT i t k ih => exact ih _
  | wrC r o t k ih =>
    simp only [SP.bind, SP.run]
    cases aget σ.ce r with
    | none => rfl
    | some l =>
      simp only
      split
      · exact ih _
      · rfl
  | new r l k ih => exact ih _
  | bump q k ih => exact ih _
theorem SP.run_bind_some {α β : Type} {s : SP α} {f : α → SP β} {σ : St} {y : β × St} (h : (s.bind f).run σ = some y) : ∃ a σ1, s.run σ = some (a, σ1) ∧ (f a).run σ1 = some y := by
  rw [SP.run_bind] at h
  cases hs : s.run σ with
  | none => simp [hs] at h
  | some x => exact ⟨x.1, x.2, rfl, by simpa [hs] using h⟩

theorem aget_aset {α : Type} (l : List (Nat × α)) (i j : Nat) (v : α) : aget (aset l i v) j = if i = j then some v else aget l j := by
  induction l with
  | nil => simp [aset, aget]
  | cons x r ih =>
    obtain ⟨k, v0⟩ := x
    simp only [aset]
    by_cases hk : k = i
    · subst hk
      rw [if_pos rfl]
      simp only [aget]
      split <;> rfl
    · rw [if_neg hk]
      simp only [aget, ih]
      by_cases hj : k = j
      · subst hj; simp [Ne.symm hk]
      · simp [hj]
theorem vget_vinc (l : List (Key × Nat)) (i j : Key) : vget (vinc l i) j = vget l j + if i = j then 1 else 0 := by
  induction l with
  | nil => simp only [vinc, vget]; split <;> rfl
  | cons x r ih =>
    obtain ⟨k, v0⟩ := x
    simp only [vinc]
    by_cases hk : k = i
    · subst hk
      rw [if_pos rfl]
      simp only [vget]
      split <;> simp_all
    · rw [if_neg hk]
      simp only [vget, ih]
      by_cases hj : k = j
      · subst hj; simp [Ne.symm hk]
      · simp [hj]

/-! ## Operands and operations -/
inductive Opd where
  | t (i : Nat)
  | c (x : Value)
  | f (f : FuncId)
inductive FK where
  | i
  | b
  | s
/-- Flat cells compared. -/
def eqFlats : List FK → List Value → List Value → Option Bool
  | [], [], [] => some true
  | .i :: ks, .int k a :: xs, .int k' b :: ys => if k = k' then (eqFlats ks xs ys).map ((a == b) && ·) else none
  | .b :: ks, .bool a :: xs, .bool b :: ys => (eqFlats ks xs ys).map ((a == b) && ·)
  | .s :: ks, .string a :: xs, .string b :: ys => (eqFlats ks xs ys).map ((a == b) && ·)
  | _, _, _ => none
inductive TOp where
  | mov (x : Opd)
  | asn (mv : Bool) (x : Opd)
  | pick (c a b : Opd)
  | alloc (zero : List Value)
  | box (n : Nat) (mv : Bool) (x : Opd)
  | load (n : Option Nat) (a : Opd)
  | store (n : Nat) (mv : Bool) (a x : Opd)
  | nilc (x : Opd)
  | fld (off : Nat) (a : Opd)
  | fldv (off : Nat) (n : Option Nat) (x : Opd)
  | idx (sz : Nat) (x i : Opd)
  | ext (x : Opd) (i : Nat)
  | bin (op : BinOp) (x y : Opd)
  | bnb (neg : Bool) (x y : Opd)
  | eqa (ks : List FK) (neg : Bool) (x y : Opd)
  | un (op : UnOp) (x : Opd)
  | conv (k : IntKind) (x : Opd)
  | bld (zero : List Value) (mv : Bool) (parts : List (Nat × Nat × Opd))
  | bsl (sz : Nat) (mv : Bool) (len : Nat) (parts : List Opd)
  | mks (sz : Nat) (zero : List Value) (l c : Opd)
  | slc (sz : Nat) (x : Opd) (lo hi : Option Opd)
  | app (sz bytes : Nat) (mv : Bool) (s x : Opd)
  | cpy (sz : Nat) (d s : Opd)
  | len (x : Opd)
  | lens (x : Opd)
  | ixs (x i : Opd)
  | mm (mx : Bool) (xs : List Opd)
  | call (keep : Bool) (f : Opd) (args : List (Option Nat × Opd))
  | mkf (f : FuncId) (caps : List Opd)
  | idxa (n sz : Nat) (x i : Opd)
  | s2b (x : Opd)
  | b2s (x : Opd)

def ofCell : Value → TV
  | .slice none 0 0 => .ow []
  | x => if vflat x then .v x else .dead
def ofConst : Value → TV
  | .agg cs => .agg (cs.toList.map ofCell)
  | x => ofCell x
def opd : Opd → SP TV
  | .t i => .rdT i .ret
  | .c x => .ret (ofConst x)
  | .f f => .ret (.fn f [])

def keysOf (r o n : Nat) : List Key := (r, 0, 0) :: (List.range n).map fun d => (r, o, d + 1)
def rdVs : List Key → SP (List Nat)
  | [] => .ret []
  | q :: qs => .rdV q fun n => (rdVs qs).bind fun l => .ret (n :: l)
def chk (p : Place) (n : Nat) (vs : List Nat) : SP Unit := (rdVs (keysOf p.root p.off n)).bind fun l => if l = vs then .ret () else .fail
def Place.add (p : Place) (n : Nat) : Place :=
  match p.hops.reverse with
  | [] => ⟨p.root, p.off + n, []⟩
  | (i, sz, o) :: r => ⟨p.root, p.off, (((i, sz, o + n) : Hop) :: r).reverse⟩
def Place.at_ (p : Place) (i sz : Nat) : Place := ⟨p.root, p.off, p.hops ++ [(i, sz, 0)]⟩
/-- Further cells of the same element (or variable). -/
def Place.fits (p : Place) (n : Nat) : Bool :=
  match p.hops.reverse with
  | [] => true
  | (_, sz, o) :: _ => decide (o + n < sz)

def getPl (p : Place) : SP TV := .rdC p.root p.off fun tv => match getT tv p.hops with | some t => .ret t | none => .fail

def take1 (mv : Bool) : TV → SP TV
  | .v x => .ret (.v x)
  | .sl c => .ret (.sl c)
  | .ow [] => .ret (if mv then .ow [] else .sl [])
  | .pk p vs => (chk p (p.hops.length + 1) vs).bind fun _ => .rdC p.root p.off fun tv =>
    match getT tv p.hops with
    | some (.ow c) =>
      if mv then .wrC p.root p.off (setT tv p.hops .dead) (.bump (p.root, p.off, p.hops.length + 1) (.ret (.ow c)))
      else .wrC p.root p.off (shareT tv (hopOffs p.hops)) (.bump (p.root, p.off, p.hops.length + 1) (.ret (TV.ow c).imm))
    | _ => .fail
  | .pw p vs _ lo n => (chk p (p.hops.length + 1) vs).bind fun _ => .rdC p.root p.off fun tv =>
    match getT tv p.hops with
    | some (.ow c) => .wrC p.root p.off (shareT tv (hopOffs p.hops)) (.bump (p.root, p.off, p.hops.length + 1) (.ret (.sl (((c.drop lo).take n).map fun e => e.map TV.imm))))
    | _ => .fail
  | _ => .fail
def takeL (mv : Bool) : List TV → SP (List TV)
  | [] => .ret []
  | t :: r => (take1 mv t).bind fun t' => (takeL mv r).bind fun r' => .ret (t' :: r')
def cellsT : TV → List TV
  | .agg l => l
  | t => [t]

def isHdr : TV → Bool
  | .v _ => false
  | _ => true
def putP (p : Place) (t : TV) : SP Unit := .rdC p.root p.off fun tv =>
  match getT tv p.hops with
  | some old =>
    if isHdr old || isHdr t then (if p.hops.length ≤ 1 then .wrC p.root p.off (setT tv p.hops t) (.bump (p.root, p.off, p.hops.length + 1) (.ret ())) else .fail)
    else .wrC p.root p.off (setT tv p.hops t) (.ret ())
  | none => .fail
def putL (p : Place) : List TV → SP Unit
  | [] => .ret ()
  | t :: r => (putP p t).bind fun _ => match r with | [] => .ret () | _ => if p.fits 1 then putL (p.add 1) r else .fail

/-- A name for what stands at a place, as it is loaded. -/
def peek1 (p : Place) : TV → SP TV
  | .v x => .ret (.v x)
  | .sl c => .ret (.sl c)
  | .ow _ => (rdVs (keysOf p.root p.off (p.hops.length + 1))).bind fun vs => .ret (.pk p vs)
  | _ => .fail
def peekL : Place → Nat → SP (List TV)
  | _, 0 => .ret []
  | p, n + 1 => (getPl p).bind fun t => (peek1 p t).bind fun t' => match n with | 0 => .ret [t'] | _ => if p.fits 1 then (peekL (p.add 1) n).bind fun r => .ret (t' :: r) else .fail

def isOw : TV → Bool
  | .ow _ => true
  | _ => false
def nameL (r : Nat) : Nat → List TV → SP (List TV)
  | _, [] => .ret []
  | i, .ow _ :: l => .rdV (r, 0, 0) fun g => .rdV (r, i, 1) fun h => (nameL r (i + 1) l).bind fun l' => .ret (.pk ⟨r, i, []⟩ [g, h] :: l')
  | i, t :: l => (nameL r (i + 1) l).bind fun l' => .ret (t :: l')
/-- Names for what an operation has made. -/
def names (d : Nat) (l : List TV) : SP (List TV) := if l.any isOw then .new (2 * d + 3) l (nameL (2 * d + 3) 0 l) else .ret l

def pureV (s : Sem Value) : Option Value :=
  match s with
  | .pure v => some v
  | _ => none
def evalBin (op : BinOp) : Value → Value → Option Value
  | .int k a, .int k' b => pureV (Go.binOp op 0 (.int k a) (.int k' b))
  | .string a, .string b => pureV (Go.binOp op 0 (.string a) (.string b))
  | _, _ => none
def evalUn (op : UnOp) (x : Value) : Option Value := pureV (Op.unary op x)
def flatEq : Value → Value → Bool
  | .int _ a, .int _ b => a == b
  | .bool a, .bool b => a == b
  | .string a, .string b => a == b
  | _, _ => false
def flatsOf : List TV → Option (List Value)
  | [] => some []
  | .v x :: r => (flatsOf r).map (x :: ·)
  | _ :: _ => none
def spOpt {α : Type} : Option α → SP α
  | some a => .ret a
  | none => .fail
def valOf : TV → SP Value
  | .v x => .ret x
  | _ => .fail
def natOf : TV → SP Nat
  | .v (.int _ n) => match n with | .ofNat k => .ret k | .negSucc _ => .fail
  | _ => .fail
def lenOfT : TV → SP Nat
  | .sl c => .ret c.length
  | .ow [] => .ret 0
  | .pk p vs => (chk p (p.hops.length + 1) vs).bind fun _ => (getPl p).bind fun t => match t with | .ow c => .ret c.length | _ => .fail
  | .pw p vs _ _ n => (chk p (p.hops.length + 1) vs).bind fun _ => .ret n
  | _ => .fail
def optNat : Option Opd → Nat → SP Nat
  | some o, _ => (opd o).bind natOf
  | none, d => .ret d
inductive RSh where
  | one
  | agg (n : Nat)
  | ptr (p : Place)
/-- What a function hands back: cells, and how they are to be read. -/
structure TRes where
  cells : List TV
  sh : List RSh
abbrev Pts := List (Nat × List TV)
/-- What a function does: arguments and what its pointers lead to, the result and what they then lead to. -/
abbrev Callee := FuncId → List TV → Pts → Option (TRes × Pts)
end Go.Proofs.Ytkmbahlpmoljpaa
/- The state of a walk: slots, variables and what is in hand; no condition. -/
set_option linter.unusedVariables false
set_option linter.unusedSimpArgs false
namespace Go.Proofs.Ytkmbahlpmoljpaa
open Go.RowKit

/-- What a call began with. -/
structure Fm where
  w0 : World
  A : Nat → Prop
  W0 : Nat → Prop
  pr : Nat → Option (Nat × Nat × Nat)
  N : Nat
  hA : ∀ k, w0.heap.size ≤ k → A k
def Fm.hr (_ : Fm) : Nat := 1

structure Fram (M : Fm) (w : World) (G : Gh) : Prop where
  os : w.os = M.w0.os
  tape : w.tape = M.w0.tape
  output : w.output = M.w0.output
  size : M.w0.heap.size ≤ w.heap.size
  old : ∀ k, k < M.w0.heap.size → ¬ M.W0 k → (∀ r b o n, M.pr r = some (b, o, n) → k ≠ b) → w.heap[k]? = M.w0.heap[k]?
  par : ∀ r b o n, M.pr r = some (b, o, n) → G.β r = some (b, o, n) ∧ ∃ cur0 cur e fz, M.w0.heap[b]? = some (.cells cur0 e fz) ∧ w.heap[b]? = some (.cells cur e fz) ∧ cur.size = cur0.size ∧ ∀ j, (j < o ∨ o + n ≤ j) → cur[j]? = cur0[j]?
  own : ∀ r o k, G.φ r o k → M.W0 k ∨ M.w0.heap.size ≤ k
  box : ∀ r b o n, G.β r = some (b, o, n) → M.pr r = some (b, o, n) ∨ (M.pr r = none ∧ M.w0.heap.size ≤ b)
  even : ∀ r, G.β r ≠ none → r % 2 = 0

/-- The cells, with those in hand. -/
def extC (M : Fm) (σ : St) (H : List TV) : Cs := fun r o => if r = M.hr then H.getD o .dead else σ.c r o
structure Inv (M : Fm) (σ : St) (H : List TV) (xs : List Value) (ts : Array Value) (w : World) (G : Gh) : Prop where
  core : Core M.A (extC M σ H) w G
  tmr : ∀ i, TmR w (G.F M.A) σ.v (extC M σ H) G (σ.t i) (ts.getD i undef)
  fram : Fram M w G
  keys : ∀ r l, aget σ.ce r = some l → r ≠ 1
  size : ts.size = M.N
  hand : H.length = xs.length
  hval : ∀ j, j < xs.length → G.η M.hr j = xs.getD j undef
  shape : ∀ r b o n, G.β r = some (b, o, n) → ∀ l, aget σ.ce r = some l → l.length = n

theorem Inv.hr_none {M : Fm} {σ : St} {H : List TV} {xs : List Value} {ts : Array Value} {w : World} {G : Gh} (h : Inv M σ H xs ts w G) : G.β M.hr = none := by
  cases hb : G.β M.hr with
  | none => rfl
  | some x => have := h.fram.even M.hr (by rw [hb]; simp); unfold Fm.hr at this; omega
theorem Inv.odd_none {M : Fm} {σ : St} {H : List TV} {xs : List Value} {ts : Array Value} {w : World} {G : Gh} (h : Inv M σ H xs ts w G) (d : Nat) : G.β (2 * d + 3) = none := by
  cases hb : G.β (2 * d + 3) with
  | none => rfl
  | some x => have := h.fram.even (2 * d + 3) (by rw [hb]; simp); omega
theorem St.c_none {σ : St} {r o : Nat} (h : aget σ.ce r = none) : σ.c r o = .dead := by simp [St.c, h]
theorem Inv.hr_dead {M : Fm} {σ : St} {H : List TV} {xs : List Value} {ts : Array Value} {w : World} {G : Gh} (h : Inv M σ H xs ts w G) (o : Nat) : σ.c M.hr o = .dead := by
  apply St.c_none
  cases hb : aget σ.ce M.hr with
  | none => rfl
  | some l => exact absurd rfl (h.keys _ _ hb)

theorem extC_ne {M : Fm} {σ : St} {H : List TV} {r o : Nat} (h : r ≠ M.hr) : extC M σ H r o = σ.c r o := by simp [extC, h]
theorem extC_hr {M : Fm} {σ : St} {H : List TV} {o : Nat} : extC M σ H M.hr o = H.getD o .dead := by simp [extC]
theorem extC_nil {M : Fm} {σ : St} (h : ∀ o, σ.c M.hr o = .dead) : extC M σ [] = σ.c := by
  funext r o
  unfold extC
  split
  · rename_i e; subst e; simp [h o]
  · rfl

section frames
variable {M : Fm} {w : World} {G G' : Gh}
/-- Fewer blocks, the same variables. -/
theorem Fram.ghost (h : Fram M w G) (hβ : G'.β = G.β) (hO : ∀ k, (∃ r o, G'.φ r o k) → ∃ r o, G.φ r o k) : Fram M w G' :=
  ⟨h.os, h.tape, h.output, h.size, h.old, fun r b o n hp => by rw [hβ]; exact h.par r b o n hp, fun r o k hk => by obtain ⟨r', o', h'⟩ := hO k ⟨r, o, hk⟩; exact h.own r' o' k h', fun r b o n hb => h.box r b o n (hβ ▸ hb), fun r hb => h.even r (hβ ▸ hb)⟩
end frames

/-- Another word for a cell of a root without cells in memory. -/
theorem Core.addImm {A : Nat → Prop} {C : Cs} {w : World} {G : Gh} (hC : Core A C w G) (h ho : Nat) (hβ : G.β h = none) (hd : C h ho = .dead) {t : TV} {x : Value} (ht : OwnR w (G.F A) (fun _ => False) t x) :
    ∃ G', G'.β = G.β ∧ G'.φ = G.φ ∧ (∀ r o, ¬ (r = h ∧ o = ho) → G'.η r o = G.η r o) ∧ G'.η h ho = x ∧ Core A (updC C h ho t) w G' := by
  have hφh : ∀ k, ¬ G.φ h ho k := by
    rcases hC.cell h ho with ⟨_, h2⟩ | h2
    · exact h2
    · rw [hd] at h2
      cases h2 with
      | dead hfp _ => exact hfp
  let G' : Gh := ⟨G.β, fun r o => if r = h ∧ o = ho then x else G.η r o, G.φ⟩
  have hgh := Core.ghost (C' := updC C h ho t) (G' := G') hC rfl (fun k h => h) hC.dis
    (fun r b o0 n hb o hn => by
      unfold updC
      split
      · rename_i e; rw [e.1, hβ] at hb; simp at hb
      · exact hC.boxc r b o0 n hb o hn)
    (fun r o => by
      by_cases e : r = h ∧ o = ho
      · obtain ⟨rfl, rfl⟩ := e
        refine .inr (.inr ?_)
        have hv : G'.val w r o = x := by simp [Gh.val, G', hβ]
        rw [hv]
        simp only [updC, and_self, if_true]
        exact ht.refp fun k => ⟨fun h => h.elim, fun h => (hφh k h).elim⟩
      · exact .inl ⟨by simp [updC, e], fun k => Iff.rfl, by simp [G', e]⟩)
  exact ⟨G', rfl, rfl, fun r o e => by simp [G', e], by simp [G'], hgh.1⟩

theorem extC_snoc {M : Fm} {σ : St} {H : List TV} {t : TV} : extC M σ (H ++ [t]) = updC (extC M σ H) M.hr H.length t := by
  funext r o
  unfold extC updC
  by_cases hr : r = M.hr
  · subst hr
    simp only [true_and, if_true]
    by_cases ho : o = H.length
    · subst ho; simp
    · rw [if_neg ho]
      simp only [List.getD_eq_getElem?_getD, List.getElem?_append]
      split
      · rfl
      · rw [List.getElem?_eq_none (by simp; omega), List.getElem?_eq_none (by omega)]
  · simp [hr]

/-- A cell of the state turned. -/
theorem St.c_wr {σ : St} {r o : Nat} {t : TV} {l : List TV} (h : aget σ.ce r = some l) (ho : o < l.length) :
    (St.mk σ.tm (aset σ.ce r (l.set o t)) σ.vr).c = updC σ.c r o t := by
  funext r' o'
  unfold St.c updC
  simp only [aget_aset]
  by_cases hr : r = r'
  · subst hr
    simp only [if_true, h, true_and]
    by_cases hoo : o' = o
    · subst hoo; simp [ho]
    · rw [if_neg hoo]; simp [List.getElem?_set, Ne.symm hoo]
  · simp [hr, Ne.symm hr]
theorem extC_wr {M : Fm} {σ : St} {H : List TV} {r o : Nat} {t : TV} {l : List TV} (h : aget σ.ce r = some l) (ho : o < l.length) (hr : r ≠ M.hr) (vr : List (Key × Nat)) :
    extC M (St.mk σ.tm (aset σ.ce r (l.set o t)) vr) H = updC (extC M σ H) r o t := by
  funext r' o'
  have e := congrFun (congrFun (St.c_wr (t := t) h ho) r') o'
  have e2 : (St.mk σ.tm (aset σ.ce r (l.set o t)) vr).c r' o' = (St.mk σ.tm (aset σ.ce r (l.set o t)) σ.vr).c r' o' := rfl
  unfold extC
  rw [e2, e]
  unfold updC
  by_cases h1 : r' = M.hr
  · subst h1; simp [Ne.symm hr]
  · simp [h1]
theorem SP.run_wrC {α : Type} {r o : Nat} {t : TV} {k : SP α} {σ : St} {y : α × St} (h : (SP.wrC r o t k).run σ = some y) :
    ∃ l, aget σ.ce r = some l ∧ o < l.length ∧ k.run { σ with ce := aset σ.ce r (l.set o t) } = some y := by
  simp only [SP.run] at h
  cases hl : aget σ.ce r with
  | none => simp [hl] at h
  | some l =>
    simp only [hl] at h
    split at h
    · rename_i ho; exact ⟨l, rfl, ho, h⟩
    · simp at h
theorem keys_wr {σ : St} (hk : ∀ r l, aget σ.ce r = some l → r ≠ 1) {r : Nat} {l l' : List TV} (h : aget σ.ce r = some l) : ∀ r2 l2, aget (aset σ.ce r l') r2 = some l2 → r2 ≠ 1 := by
  intro r2 l2 h2
  rw [aget_aset] at h2
  split at h2
  · rename_i e; subst e; exact hk _ _ h
  · exact hk _ _ h2
theorem shape_wr {σ : St} {β : Nat → Option (Nat × Nat × Nat)} (hs : ∀ r b o n, β r = some (b, o, n) → ∀ l, aget σ.ce r = some l → l.length = n) {r : Nat} {l : List TV} {o : Nat} {t : TV} (h : aget σ.ce r = some l) :
    ∀ r2 b o2 n, β r2 = some (b, o2, n) → ∀ l2, aget (aset σ.ce r (l.set o t)) r2 = some l2 → l2.length = n := by
  intro r2 b o2 n hb l2 h2
  rw [aget_aset] at h2
  split at h2
  · rename_i e
    subst e
    injection h2 with h2
    rw [← h2, List.length_set]
    exact hs _ _ _ _ hb l h
  · exact hs _ _ _ _ hb l2 h2
theorem rdVs_run (l : List Key) (σ : St) : (rdVs l).run σ = some (l.map σ.v, σ) := by
  induction l with
  | nil => rfl
  | cons q l ih => simp [rdVs, SP.run, SP.run_bind, ih]
theorem keysOf_vers (σ : St) (r o n : Nat) : (keysOf r o n).map σ.v = vers σ.v r o n := by
  simp [keysOf, vers, Function.comp_def]
theorem chk_run {p : Place} {n : Nat} {vs : List Nat} {σ : St} {y : Unit × St} (h : (chk p n vs).run σ = some y) : y.2 = σ ∧ vs = vers σ.v p.root p.off n := by
  unfold chk at h
  rw [SP.run_bind, rdVs_run, keysOf_vers] at h
  simp only [Option.bind_some] at h
  split at h
  · rename_i e
    simp only [SP.run, Option.some.injEq] at h
    exact ⟨by rw [← h], e.symm⟩
  · simp [SP.run] at h
theorem v_bump {σ : St} {q : Key} (ce : List (Nat × List TV)) (tm : List (Nat × TV)) : ∀ k, (St.mk tm ce (vinc σ.vr q)).v k = σ.v k + if q = k then 1 else 0 := fun k => vget_vinc σ.vr q k

section hands
variable {M : Fm} {σ σ' : St} {H : List TV} {xs : List Value} {ts : Array Value} {w : World} {G : Gh}
/-- What one step about words alone gives. -/
def Goes (M : Fm) (w : World) (ts : Array Value) (σ : St) (H : List TV) (G : Gh) (σ' : St) (H' : List TV) (xs' : List Value) (G' : Gh) : Prop :=
  Inv M σ' H' xs' ts w G' ∧ (∀ k, G.F M.A k → G'.F M.A k) ∧ Keeps w w σ.v σ'.v (extC M σ H) (extC M σ' H') G G' ∧ σ'.tm = σ.tm
theorem Goes.trans {σ'' : St} {H' H'' : List TV} {xs' xs'' : List Value} {G' G'' : Gh} (a : Goes M w ts σ H G σ' H' xs' G') (b : Goes M w ts σ' H' G' σ'' H'' xs'' G'') : Goes M w ts σ H G σ'' H'' xs'' G'' :=
  ⟨b.1, fun k h => b.2.1 k (a.2.1 k h), a.2.2.1.trans b.2.2.1, b.2.2.2.trans a.2.2.2⟩
theorem Goes.refl (hI : Inv M σ H xs ts w G) : Goes M w ts σ H G σ H xs G := ⟨hI, fun _ h => h, Keeps.refl _ _ _ _, rfl⟩
theorem Goes.tm {H' : List TV} {xs' : List Value} {G' : Gh} {t : TV} {x : Value} (a : Goes M w ts σ H G σ' H' xs' G') (h : TmR w (G.F M.A) σ.v (extC M σ H) G t x) : TmR w (G'.F M.A) σ'.v (extC M σ' H') G' t x :=
  h.keep a.2.2.1 (fun _ _ _ => rfl) fun k h _ => a.2.1 k h

theorem Inv.hand_dead (hI : Inv M σ H xs ts w G) : extC M σ H M.hr H.length = .dead := by rw [extC_hr]; simp

theorem Inv.addHand (hI : Inv M σ H xs ts w G) {t : TV} {x : Value} (ho : OwnR w (G.F M.A) (fun _ => False) t x) : ∃ G', Goes M w ts σ H G σ (H ++ [t]) (xs ++ [x]) G' := by
  have hdead := hI.hand_dead
  obtain ⟨G', hβ, hφ, hη, hη2, hcore⟩ := hI.core.addImm M.hr H.length hI.hr_none hdead ho
  have hF : ∀ k, G.F M.A k → G'.F M.A k := fun k hk => by unfold Gh.F at *; rw [hβ, hφ]; exact hk
  have hk : Keeps w w σ.v σ.v (extC M σ H) (extC M σ (H ++ [t])) G G' := by
    have hval : ∀ r o, extC M σ H r o ≠ .dead → G'.val w r o = G.val w r o := fun r o hd => val_same (by rw [hβ]) (hη r o fun e => hd (by rw [e.1, e.2]; exact hdead)) fun _ _ _ _ => rfl
    have hsame : ∀ r o, extC M σ H r o ≠ .dead → extC M σ (H ++ [t]) r o = extC M σ H r o := fun r o hd => by rw [extC_snoc]; unfold updC; rw [if_neg fun e => hd (by rw [e.1, e.2]; exact hdead)]
    refine ⟨fun _ => Nat.le_refl _, fun p ad t1 _ _ h1 h2 => ?_, fun p h c _ _ h1 h2 => ?_⟩
    · cases hp : p.hops with
      | nil => exact ⟨_, addr_val h1 hβ fun h => absurd hp h, by rfl⟩
      | cons a l =>
        have hd : extC M σ H p.root p.off ≠ .dead := fun hd => by rw [hd, hp] at h2; simp [getT] at h2
        exact ⟨t1, addr_val h1 hβ fun _ => by rw [hval _ _ hd], by rw [hsame _ _ hd, ← hp]; exact h2⟩
    · have hd : extC M σ H p.root p.off ≠ .dead := fun hd => by rw [hd] at h2; cases hp : p.hops <;> rw [hp] at h2 <;> simp [getT] at h2
      exact ⟨c, hv_grow' (fun _ _ => rfl) (hval _ _ hd) h1, by rw [hsame _ _ hd]; exact h2, rfl⟩
  refine ⟨G', ⟨by rw [extC_snoc]; exact hcore, fun i => (hI.tmr i).keep hk (fun _ _ _ => rfl) (fun k h _ => hF k h), hI.fram.ghost hβ (fun k h => by rw [hφ] at h; exact h), hI.keys, hI.size, by simp [hI.hand], ?_, fun r b o n h => hI.shape r b o n (hβ ▸ h)⟩, hF, hk, rfl⟩
  intro j hj
  by_cases e : j = H.length
  · subst e; rw [hη2, hI.hand]; simp
  · have hj' : j < xs.length := by rw [List.length_append] at hj; simp at hj; have := hI.hand; omega
    rw [hη M.hr j fun h => e h.2, hI.hval j hj']
    simp [List.getElem?_append, hj']

/-- The state behind a write and a count. -/
def St.wrB (σ : St) (p : Place) (l : List TV) (t : TV) : St := ⟨σ.tm, aset σ.ce p.root (l.set p.off t), vinc σ.vr (p.root, p.off, p.hops.length + 1)⟩
theorem St.wrB_v {p : Place} {l : List TV} {t : TV} (k : Key) : (σ.wrB p l t).v k = σ.v k + if (p.root, p.off, p.hops.length + 1) = k then 1 else 0 := vget_vinc σ.vr _ k
theorem extC_wrB {p : Place} {l : List TV} {t : TV} (hl : aget σ.ce p.root = some l) (ho : p.off < l.length) (hroot : p.root ≠ M.hr) : extC M (σ.wrB p l t) H = updC (extC M σ H) p.root p.off t := extC_wr hl ho hroot _

theorem Inv.share (hI : Inv M σ H xs ts w G) {p : Place} {c : List (List TV)} {l : List TV} (hroot : p.root ≠ M.hr) (hget : getT (σ.c p.root p.off) p.hops = some (.ow c)) (hl : aget σ.ce p.root = some l) (ho : p.off < l.length) :
    ∃ G' u, Goes M w ts σ H G (σ.wrB p l (shareT (σ.c p.root p.off) (hopOffs p.hops))) H xs G' ∧ G.hv w p = some u ∧ ImmR w (G'.F M.A) (TV.ow c).imm u := by
  have hgetE : getT (extC M σ H p.root p.off) p.hops = some (.ow c) := by rw [extC_ne hroot]; exact hget
  obtain ⟨G1, u, hβ1, hη1, hcore1, hF1, hφ1, hhv2, himm⟩ := hI.core.shareV p hgetE
  have hC1 : extC M (σ.wrB p l (shareT (σ.c p.root p.off) (hopOffs p.hops))) H = updC (extC M σ H) p.root p.off (shareT (extC M σ H p.root p.off) (hopOffs p.hops)) := by
    rw [extC_wrB hl ho hroot, extC_ne hroot]
  have hk1 : Keeps w w σ.v (σ.wrB p l (shareT (σ.c p.root p.off) (hopOffs p.hops))).v (extC M σ H) (extC M (σ.wrB p l (shareT (σ.c p.root p.off) (hopOffs p.hops))) H) G G1 := by
    refine Keeps.ghost p.root p.off p.hops.length (fun q => by rw [St.wrB_v]; omega) (by rw [St.wrB_v]; simp) hβ1 (fun r' o' _ _ => by rw [hη1]) (fun r' o' hne _ => ?_) (fun hs t1 h1 h2 => ?_)
    · rw [hC1]; simp [updC, hne]
    · rw [hC1]
      have e : updC (extC M σ H) p.root p.off (shareT (extC M σ H p.root p.off) (hopOffs p.hops)) p.root p.off = shareT (extC M σ H p.root p.off) (hopOffs p.hops) := by simp [updC]
      rw [e]
      have := getT_shareT_short (os := hopOffs p.hops) h1 (by simpa [hopOffs] using h2)
      simpa [hopOffs] using this
  exact ⟨G1, u, ⟨⟨by rw [hC1]; exact hcore1, fun i => (hI.tmr i).keep hk1 (fun _ _ _ => rfl) (fun k h _ => hF1 k h), hI.fram.ghost hβ1 (fun k ⟨r, o, h⟩ => ⟨r, o, hφ1 r o k h⟩), keys_wr hI.keys hl, hI.size, hI.hand, fun j hj => by rw [hη1]; exact hI.hval j hj, shape_wr (fun r b o n h => hI.shape r b o n (hβ1 ▸ h)) hl⟩, hF1, hk1, rfl⟩, hhv2, himm⟩

theorem Inv.moveHand (hI : Inv M σ H xs ts w G) {p : Place} {c : List (List TV)} {l : List TV} (hroot : p.root ≠ M.hr) (hget : getT (σ.c p.root p.off) p.hops = some (.ow c)) (hl : aget σ.ce p.root = some l) (ho : p.off < l.length) {x : Value} (hx : G.hv w p = some x) :
    ∃ G', Goes M w ts σ H G (σ.wrB p l (setT (σ.c p.root p.off) p.hops .dead)) (H ++ [.ow c]) (xs ++ [x]) G' := by
  have hdead := hI.hand_dead
  have hgetE : getT (extC M σ H p.root p.off) p.hops = some (.ow c) := by rw [extC_ne hroot]; exact hget
  obtain ⟨G', u, hβ, hη, hη2, hhv2, hcore, hF⟩ := hI.core.move p hgetE M.hr H.length hI.hr_none hdead
  rw [hx] at hhv2
  injection hhv2 with hxu
  subst hxu
  have hC' : extC M (σ.wrB p l (setT (σ.c p.root p.off) p.hops .dead)) (H ++ [.ow c]) = updC (updC (extC M σ H) p.root p.off (setT (extC M σ H p.root p.off) p.hops .dead)) M.hr H.length (.ow c) := by
    rw [extC_snoc, extC_wrB hl ho hroot, extC_ne hroot]
  have hk : Keeps w w σ.v (σ.wrB p l (setT (σ.c p.root p.off) p.hops .dead)).v (extC M σ H) (extC M (σ.wrB p l (setT (σ.c p.root p.off) p.hops .dead)) (H ++ [.ow c])) G G' := by
    refine Keeps.ghost p.root p.off p.hops.length (fun q => by rw [St.wrB_v]; omega) (by rw [St.wrB_v]; simp) hβ (fun r' o' h1 _ => hη r' o' fun e => h1 (by rw [e.1]; rfl)) (fun r' o' hne h1 => ?_) (fun hs t1 h1 h2 => ?_)
    · rw [hC']
      have e : ¬ (r' = M.hr ∧ o' = H.length) := fun e => h1 (by rw [e.1]; rfl)
      simp [updC, e, hne]
    · rw [hC']
      have e : updC (updC (extC M σ H) p.root p.off (setT (extC M σ H p.root p.off) p.hops .dead)) M.hr H.length (.ow c) p.root p.off = setT (extC M σ H p.root p.off) p.hops .dead := by simp [updC, hroot]
      rw [e]
      exact getT_setT_short hgetE h1 h2
  refine ⟨G', ⟨by rw [hC']; exact hcore, fun i => (hI.tmr i).keep hk (fun _ _ _ => rfl) (fun k h _ => hF k h), ?_, keys_wr hI.keys hl, hI.size, by simp [hI.hand], ?_, shape_wr (fun r b o n h => hI.shape r b o n (hβ ▸ h)) hl⟩, hF, hk, rfl⟩
  · refine hI.fram.ghost hβ fun k ⟨r', o', hk'⟩ => ?_
    by_cases hkk : ∃ r o, G.φ r o k
    · exact hkk
    · exfalso
      by_cases hb : ∃ r b o n, G.β r = some (b, o, n) ∧ k = b
      · obtain ⟨r, b, o, n, hb1, hb2⟩ := hb
        exact hcore.boxf r b o n (by rw [hβ]; exact hb1) r' o' (hb2 ▸ hk')
      · exact (hF k ⟨hcore.allow r' o' k hk', fun r o h => hkk ⟨r, o, h⟩, fun r b o n h1 h2 => hb ⟨r, b, o, n, h1, h2⟩⟩).2.1 r' o' hk'
  · intro j hj
    by_cases e : j = H.length
    · subst e; rw [hη2, hI.hand]; simp
    · have hj' : j < xs.length := by rw [List.length_append] at hj; simp at hj; have := hI.hand; omega
      rw [hη M.hr j fun h => e h.2, hI.hval j hj']
      simp [List.getElem?_append, hj']

theorem ImmR.window {F : Nat → Prop} {c : List (List TV)} {b len cap : Nat} (h : ImmR w F (.sl c) (.slice (some ⟨b, 0, none⟩) len cap)) (sz lo n : Nat) (hs : ∀ i (h : i < c.length), c[i].length = sz) (hln : lo + n ≤ c.length) {a : Option Addr} {cap' : Nat} (hn : n ≤ cap')
    (hm : cap' ≤ maxLen) (hnil : a = none → cap' = 0) (ha : 0 < n → a = some ⟨b, lo * sz, none⟩) : ImmR w F (.sl ((c.drop lo).take n)) (.slice a n cap') := by
  cases h with
  | sl sz' u hsz hcap hmax hnil' hcell hrec =>
    have hl : ((c.drop lo).take n).length = n := by simp; omega
    have key := ImmR.sl (w := w) (F := F) (c := (c.drop lo).take n) (a := a) (cap := cap') sz (fun i j => u (lo + i) j) (fun i hi => by
      have : i < n := by omega
      simp only [List.getElem_take, List.getElem_drop]; exact hs _ (by omega)) (by omega) hm hnil (fun i j hi hj => by
      have hi' : i < n := by omega
      have hz : sz' = sz := by rw [← hsz (lo + i) (by omega), hs (lo + i) (by omega)]
      subst hz
      obtain ⟨b', o', e, hF, hc⟩ := hcell (lo + i) j (by omega) hj
      injection e with e
      injection e with e1 e2
      subst e1; subst e2
      exact ⟨b, lo * sz', ha (by omega), hF, by rw [show lo * sz' + (i * sz' + j) = 0 + ((lo + i) * sz' + j) by rw [Nat.add_mul]; omega]; exact hc⟩) (fun i j hi hj => by
      have hi' : i < n := by omega
      have := hrec (lo + i) j (by omega) (by simpa [List.getElem_take, List.getElem_drop] using hj)
      simpa [List.getElem_take, List.getElem_drop] using this)
    rw [hl] at key
    exact key

/-- Something is taken in hand. -/
theorem take1_ok {mv : Bool} {t t' : TV} {x : Value} (hI : Inv M σ H xs ts w G) (hx : TmR w (G.F M.A) σ.v (extC M σ H) G t x)
    (hr : (take1 mv t).run σ = some (t', σ')) : ∃ G', Goes M w ts σ H G σ' (H ++ [t']) (xs ++ [x]) G' ∧ x.oneCell' = true := by
  cases hx with
  | v h =>
    simp only [take1, SP.run, Option.some.injEq, Prod.mk.injEq] at hr
    obtain ⟨rfl, rfl⟩ := hr
    obtain ⟨G', h1⟩ := hI.addHand (.v (by simp) h)
    exact ⟨G', h1, vflat_one h⟩
  | nil =>
    simp only [take1, SP.run, Option.some.injEq, Prod.mk.injEq] at hr
    obtain ⟨rfl, rfl⟩ := hr
    cases mv with
    | true =>
      obtain ⟨G', h1⟩ := hI.addHand (.nil (by simp))
      exact ⟨G', h1, rfl⟩
    | false =>
      have h0 : ImmR w (G.F M.A) (.sl []) (.slice none 0 0) := .sl (c := []) 1 (fun _ _ => .nilFunc) (fun i h => by simp at h) (Nat.le_refl _) (Nat.zero_le _) (fun _ => rfl) (fun i j h => by simp at h) (fun i j h => by simp at h)
      obtain ⟨G', h1⟩ := hI.addHand h0.toOwn
      exact ⟨G', h1, rfl⟩
  | sl h =>
    simp only [take1, SP.run, Option.some.injEq, Prod.mk.injEq] at hr
    obtain ⟨rfl, rfl⟩ := hr
    obtain ⟨G', h1⟩ := hI.addHand h.toOwn
    exact ⟨G', h1, h.one⟩
  | dead => simp [take1, SP.run] at hr
  | ptr => simp [take1, SP.run] at hr
  | ip => simp [take1, SP.run] at hr
  | agg => simp [take1, SP.run] at hr
  | tup => simp [take1, SP.run] at hr
  | fn => simp [take1, SP.run] at hr
  | @pk p vs x V0 h0 hv hok =>
    simp only [take1] at hr
    obtain ⟨_, σ1, h1, h2⟩ := SP.run_bind_some hr
    have e1 : σ1 = σ := (chk_run h1).1
    have e2 := (chk_run h1).2
    subst e1
    obtain ⟨_, c, hhv, hget⟩ := hok e2
    simp only [SP.run] at h2
    have hroot : p.root ≠ M.hr := by
      intro e
      rw [e] at h2
      rw [hI.hr_dead] at h2
      cases hp : p.hops <;> rw [hp] at h2 <;> simp [getT, SP.run] at h2
    have hgetE := hget
    rw [extC_ne hroot] at hget
    rw [hget] at h2
    simp only at h2
    have hone : x.oneCell' = true := by
      obtain ⟨u, fp, h4, h5, _⟩ := hI.core.hv_own p hgetE (by simp)
      rw [hhv] at h4
      injection h4 with h4
      rw [h4]; exact h5.one
    cases mv with
    | true =>
      simp only [if_true] at h2
      obtain ⟨l, hl, ho, h3⟩ := SP.run_wrC h2
      simp only [SP.run, Option.some.injEq, Prod.mk.injEq] at h3
      obtain ⟨rfl, rfl⟩ := h3
      obtain ⟨G', hg⟩ := hI.moveHand hroot hget hl ho hhv
      exact ⟨G', hg, hone⟩
    | false =>
      simp only [Bool.false_eq_true, if_false] at h2
      obtain ⟨l, hl, ho, h3⟩ := SP.run_wrC h2
      simp only [SP.run, Option.some.injEq, Prod.mk.injEq] at h3
      obtain ⟨rfl, rfl⟩ := h3
      obtain ⟨G1, u, hg, hhv2, himm⟩ := hI.share hroot hget hl ho
      rw [hhv] at hhv2
      injection hhv2 with hxu
      subst hxu
      obtain ⟨G', hg2⟩ := hg.1.addHand himm.toOwn
      exact ⟨G', hg.trans hg2, hone⟩
  | @pw p vs sz lo n x V0 h0 hv hok =>
    simp only [take1] at hr
    obtain ⟨_, σ1, h1, h2⟩ := SP.run_bind_some hr
    have e1 : σ1 = σ := (chk_run h1).1
    have e2 := (chk_run h1).2
    subst e1
    obtain ⟨_, c, hd, hhv, hget, hln, a, cap, rfl, hncap, hm, hnil, hsz, hpos⟩ := hok e2
    simp only [SP.run] at h2
    have hroot : p.root ≠ M.hr := by
      intro e
      rw [e] at h2
      rw [hI.hr_dead] at h2
      cases hp : p.hops <;> rw [hp] at h2 <;> simp [getT, SP.run] at h2
    rw [extC_ne hroot] at hget
    rw [hget] at h2
    simp only at h2
    obtain ⟨l, hl, ho, h3⟩ := SP.run_wrC h2
    simp only [SP.run, Option.some.injEq, Prod.mk.injEq] at h3
    obtain ⟨rfl, rfl⟩ := h3
    obtain ⟨G1, u, hg, hhv2, himm⟩ := hI.share hroot hget hl ho
    rw [hhv] at hhv2
    injection hhv2 with hxu
    subst hxu
    have himm2 : ImmR w (G1.F M.A) (.sl (((c.drop lo).take n).map fun e => e.map TV.imm)) (.slice a n cap) := by
      rw [TV.imm_ow] at himm
      by_cases hn : 0 < n
      · obtain ⟨b, len, cap', rfl, ha⟩ := hpos hn
        have := himm.window sz lo n (fun i hi => by simp only [List.getElem_map, List.length_map]; exact hsz i (by simpa using hi)) (by simpa using hln) hncap hm hnil (fun _ => ha)
        rw [← List.map_drop, ← List.map_take] at this
        exact this
      · obtain rfl : n = 0 := by omega
        simp only [List.take_zero, List.map_nil]
        exact ImmR.sl (c := []) sz (fun _ _ => .nilFunc) (by simp) (by simp) hm hnil (by simp) (by simp)
    obtain ⟨G', hg2⟩ := hg.1.addHand himm2.toOwn
    exact ⟨G', hg.trans hg2, rfl⟩

theorem takeL_ok {mv : Bool} : ∀ {l l' : List TV} {ys : List Value} {σ σ' : St} {H : List TV} {xs : List Value} {G : Gh}, Inv M σ H xs ts w G → l.length = ys.length → (∀ j (h : j < l.length), TmR w (G.F M.A) σ.v (extC M σ H) G l[j] (ys.getD j undef)) →
    (takeL mv l).run σ = some (l', σ') → l'.length = l.length ∧ (∀ y ∈ ys, y.oneCell' = true) ∧ ∃ G', Goes M w ts σ H G σ' (H ++ l') (xs ++ ys) G' := by
  intro l
  induction l with
  | nil =>
    intro l' ys σ σ' H xs G hI hl _ hr
    simp only [takeL, SP.run, Option.some.injEq, Prod.mk.injEq] at hr
    obtain ⟨rfl, rfl⟩ := hr
    have : ys = [] := List.eq_nil_of_length_eq_zero (by simpa using hl.symm)
    subst this
    exact ⟨rfl, by simp, G, by simpa using Goes.refl hI⟩
  | cons t l ih =>
    intro l' ys σ σ' H xs G hI hl ht hr
    cases ys with
    | nil => simp at hl
    | cons y ys =>
      simp only [takeL] at hr
      obtain ⟨t', σ1, h1, h2⟩ := SP.run_bind_some hr
      obtain ⟨r', σ2, h3, h4⟩ := SP.run_bind_some h2
      simp only [SP.run, Option.some.injEq, Prod.mk.injEq] at h4
      obtain ⟨rfl, rfl⟩ := h4
      obtain ⟨G1, hg1, ho⟩ := take1_ok hI (ht 0 (by simp)) h1
      obtain ⟨e, ho2, G2, hg2⟩ := ih (l' := r') (ys := ys) hg1.1 (by simpa using hl) (fun j hj => hg1.tm (by have := ht (j + 1) (by simpa using hj); simpa only [List.getElem_cons_succ, List.getD_cons_succ] using this)) h3
      refine ⟨by simp [e], by simp only [List.mem_cons]; rintro z (rfl | hz); exact ho; exact ho2 z hz, G2, ?_⟩
      have := hg1.trans hg2
      simpa using this
end hands
end Go.Proofs.Ytkmbahlpmoljpaa
/- Stores, new variables, new names; no condition. -/
set_option linter.unusedVariables false
set_option linter.unusedSimpArgs false
namespace Go.Proofs.Ytkmbahlpmoljpaa
open Go.RowKit

/-- What a step hands on. -/
structure Moves (M : Fm) (w : World) (σ : St) (H : List TV) (G : Gh) (w' : World) (σ' : St) (H' : List TV) (G' : Gh) : Prop where
  size : w.heap.size ≤ w'.heap.size
  keeps : Keeps w w' σ.v σ'.v (extC M σ H) (extC M σ' H') G G'
  heap : ∀ k, G.F M.A k → k < w.heap.size → w'.heap[k]? = w.heap[k]?
  free : ∀ k, G.F M.A k → k < w.heap.size → G'.F M.A k
theorem Moves.trans {M : Fm} {w w' w'' : World} {σ σ' σ'' : St} {H H' H'' : List TV} {G G' G'' : Gh} (a : Moves M w σ H G w' σ' H' G') (b : Moves M w' σ' H' G' w'' σ'' H'' G'') : Moves M w σ H G w'' σ'' H'' G'' :=
  ⟨Nat.le_trans a.size b.size, a.keeps.trans b.keeps, fun k h hl => (b.heap k (a.free k h hl) (Nat.lt_of_lt_of_le hl a.size)).trans (a.heap k h hl), fun k h hl => b.free k (a.free k h hl) (Nat.lt_of_lt_of_le hl a.size)⟩
theorem Moves.refl (M : Fm) (w : World) (σ : St) (H : List TV) (G : Gh) : Moves M w σ H G w σ H G := ⟨Nat.le_refl _, Keeps.refl _ _ _ _, fun _ _ _ => rfl, fun _ h _ => h⟩
theorem Moves.tm {M : Fm} {w w' : World} {σ σ' : St} {H H' : List TV} {G G' : Gh} {t : TV} {x : Value} (a : Moves M w σ H G w' σ' H' G') (h : TmR w (G.F M.A) σ.v (extC M σ H) G t x) : TmR w' (G'.F M.A) σ'.v (extC M σ' H') G' t x :=
  h.keep a.keeps a.heap a.free
theorem Goes.moves {M : Fm} {w : World} {ts : Array Value} {σ σ' : St} {H H' : List TV} {xs' : List Value} {G G' : Gh} (a : Goes M w ts σ H G σ' H' xs' G') : Moves M w σ H G w σ' H' G' :=
  ⟨Nat.le_refl _, a.2.2.1, fun _ _ _ => rfl, fun k h _ => a.2.1 k h⟩

section
variable {M : Fm} {σ σ' : St} {H : List TV} {xs : List Value} {ts : Array Value} {w : World} {G : Gh}

theorem Inv.hand_own (hI : Inv M σ H xs ts w G) {j : Nat} (hj : j < H.length) (hd : H[j] ≠ .dead) : OwnR w (G.F M.A) (G.φ M.hr j) H[j] (xs.getD j undef) := by
  have e : extC M σ H M.hr j = H[j] := by rw [extC_hr]; simp [hj]
  have h := hI.core.own (r := M.hr) (o := j) (by rw [e]; exact hd)
  have hv : G.val w M.hr j = xs.getD j undef := by unfold Gh.val; rw [hI.hr_none]; exact hI.hval j (by rw [← hI.hand]; exact hj)
  rw [e, hv] at h
  exact h

theorem setH (H : List TV) (j : Nat) : extC M σ (H.set j .dead) = updC (extC M σ H) M.hr j .dead := by
  funext r o
  unfold extC updC
  by_cases hr : r = M.hr
  · subst hr
    simp only [true_and, if_true]
    by_cases ho : o = j
    · subst ho
      simp only [if_true, List.getD_eq_getElem?_getD, List.getElem?_set, if_true]
      split <;> rfl
    · rw [if_neg ho]; simp [List.getElem?_set, Ne.symm ho]
  · simp [hr]

/-- Where a frame's address may lie. -/
theorem Fram.addr_ok (hI : Inv M σ H xs ts w G) {p : Place} {ad : Addr} {t : TV} (hadr : G.addrB w p = some ad) (hget : getT (extC M σ H p.root p.off) p.hops = some t) (u : Value) {w' : World}
    (hw : w' = w.setCell ad u) {G' : Gh} (hβ : G'.β = G.β) (hφ : ∀ r o k, G'.φ r o k → ∃ r o, G.φ r o k) : Fram M w' G' := by
  subst hw
  have hin := hI.core.where_ p hadr hget
  have hF := hI.fram
  have hbl : ∀ k, k < M.w0.heap.size → ¬ M.W0 k → (∀ r b o n, M.pr r = some (b, o, n) → k ≠ b) → k ≠ ad.block := by
    intro k h1 h2 h3 e
    rcases hin with ⟨_, b, o0, n, hb, _, had⟩ | ⟨_, hφ⟩
    · rw [had] at e
      rcases hF.box _ _ _ _ hb with h4 | ⟨_, h4⟩
      · exact h3 _ _ _ _ h4 e
      · have : k = b := e; omega
    · rcases hF.own _ _ _ hφ with h4 | h4
      · exact h2 (e ▸ h4)
      · omega
  refine ⟨hF.os, hF.tape, hF.output, by simpa using hF.size, fun k h1 h2 h3 => by rw [setCell_block_ne w ad u (hbl k h1 h2 h3)]; exact hF.old k h1 h2 h3, fun r b o n hp => ?_, fun r o k hk => by obtain ⟨r', o', h'⟩ := hφ r o k hk; exact hF.own r' o' k h', fun r b o n hb => hF.box r b o n (hβ ▸ hb), fun r hb => hF.even r (hβ ▸ hb)⟩
  obtain ⟨hb, cur0, cur, e, fz, h1, h2, h3, h4⟩ := hF.par r b o n hp
  refine ⟨by rw [hβ]; exact hb, ?_⟩
  by_cases he : b = ad.block
  · rcases hin with ⟨_, b2, o2, n2, hb2, hlt, had⟩ | ⟨_, hφ2⟩
    · rw [had] at he
      have hbb : b = b2 := he
      subst hbb
      have hr : r = p.root := hI.core.boxd r p.root b o n o2 n2 hb hb2
      subst hr
      rw [hb] at hb2
      injection hb2 with hb2
      injection hb2 with _ hb2
      injection hb2 with e1 e2
      subst e1; subst e2
      refine ⟨cur0, cur.setIfInBounds (o + p.off) u, e, fz, h1, by rw [had]; exact setCell_block w b _ u h2, by simpa using h3, fun j hj => ?_⟩
      rw [Array.getElem?_setIfInBounds, if_neg (by omega)]
      exact h4 j hj
    · exact absurd (he ▸ hφ2) (hI.core.boxf r b o n hb _ _)
  · exact ⟨cur0, cur, e, fz, h1, by rw [setCell_block_ne w ad u he]; exact h2, h3, h4⟩

/-- What is in hand is put at a place. -/
theorem Inv.put (hI : Inv M σ H xs ts w G) {p : Place} {ad : Addr} {old : TV} (hp1 : p.root ≠ 1) (hadr : G.addrB w p = some ad) (hget : getT (extC M σ H p.root p.off) p.hops = some old) {j : Nat} (hj : j < H.length) (hd : H[j] ≠ .dead)
    (hr : (putP p H[j]).run σ = some ((), σ')) :
    (∃ u, w.cell? ad = some u) ∧ w.frozen? ad = false ∧ ∃ G', Inv M σ' (H.set j .dead) xs ts (w.setCell ad (xs.getD j undef)) G' ∧ Moves M w σ H G (w.setCell ad (xs.getD j undef)) σ' (H.set j .dead) G' ∧ σ'.tm = σ.tm ∧ G'.β = G.β := by
  have hroot : p.root ≠ M.hr := hp1
  have hgs : getT (σ.c p.root p.off) p.hops = some old := by rw [← extC_ne hroot]; exact hget
  obtain ⟨u, fp1, hsp, hcu, hfr, hhv, hold, hsub, hnb, hwh, hset⟩ := hI.core.set p hadr hget
  refine ⟨⟨u, hcu⟩, hfr, ?_⟩
  have hown := hI.hand_own hj hd
  obtain ⟨y, hy⟩ : ∃ y, y = xs.getD j undef := ⟨_, rfl⟩
  rw [← hy] at hown ⊢
  have hne : ∀ k, G.φ M.hr j k → ¬ G.φ p.root p.off k := fun k h1 h2 => hroot (hI.core.dis _ _ _ _ k h2 h1).1
  let G' : Gh := ⟨G.β, G.η, fun r o k => if r = M.hr ∧ o = j then False else if r = p.root ∧ o = p.off then (G.φ r o k ∧ ¬ fp1 k) ∨ G.φ M.hr j k else G.φ r o k⟩
  have hsubφ : ∀ r o k, G'.φ r o k → ∃ r o, G.φ r o k := by
    intro r o k hk
    simp only [G'] at hk
    split at hk
    · exact hk.elim
    · split at hk
      · rcases hk with hk | hk
        · exact ⟨_, _, hk.1⟩
        · exact ⟨_, _, hk⟩
      · exact ⟨_, _, hk⟩
  have hFF : ∀ k, G.F M.A k → G'.F M.A k := by
    rintro k ⟨h1, h2, h3⟩
    refine ⟨h1, fun r o h => ?_, h3⟩
    obtain ⟨r', o', h'⟩ := hsubφ r o k h
    exact h2 r' o' h'
  have hFad : ∀ k, G.F M.A k → k ≠ ad.block := by
    rintro k ⟨_, h2, h3⟩ e
    rcases hwh with ⟨r, b, o, n, hb, hb2⟩ | h
    · exact h3 r b o n hb (e.trans hb2)
    · exact h2 _ _ (e ▸ h)
  have hFw : ∀ k, G.F M.A k → k < w.heap.size → (w.setCell ad y).heap[k]? = w.heap[k]? := fun k h _ => setCell_block_ne w ad y (hFad k h)
  have hjad : ∀ k, G.φ M.hr j k → k ≠ ad.block := fun k h => hI.core.phi_ne p hadr hget (fun e => hroot e.1.symm) h
  have hownw : OwnR (w.setCell ad y) (G'.F M.A) (G.φ M.hr j) H[j] y := hown.frame (fun k hk => setCell_block_ne w ad y (hjad k hk)) hFw (fun k h _ => hFF k h)
  have core' : ∀ (C' : Cs), C' p.root p.off = setT (extC M σ H p.root p.off) p.hops H[j] → (∀ r o, ¬ (r = p.root ∧ o = p.off) → C' r o = if r = M.hr ∧ o = j then .dead else extC M σ H r o) → Core M.A C' (w.setCell ad y) G' := by
    intro C' h1 h2
    refine hset H[j] y (G.φ M.hr j) C' G' (w.setCell ad y) (fun _ _ => rfl) h1 rfl rfl (fun k => ?_) (fun r o hn => ?_) (fun k hk => .inl ⟨_, _, hk⟩) (fun k hk => ⟨hI.core.allow _ _ k hk, fun r o hn h => ?_, fun h => hne k hk h.1⟩) hownw
    · simp [G', Ne.symm hroot, hroot]
    · by_cases e : r = M.hr ∧ o = j
      · right
        exact ⟨by rw [h2 r o hn, if_pos e], fun k => by simp [G', e]⟩
      · left
        exact ⟨by rw [h2 r o hn, if_neg e], fun k => by simp [G', e, hn]⟩
    · simp only [G'] at h
      by_cases e : r = M.hr ∧ o = j
      · rw [if_pos e] at h; exact h
      · rw [if_neg e, if_neg hn] at h
        exact e (hI.core.dis _ _ _ _ k h hk)
  have fin : ∀ (l : List TV) (vr : List (Key × Nat)), aget σ.ce p.root = some l → p.off < l.length → σ' = ⟨σ.tm, aset σ.ce p.root (l.set p.off (setT (σ.c p.root p.off) p.hops H[j])), vr⟩ →
      Keeps w (w.setCell ad y) σ.v σ'.v (extC M σ H) (extC M σ' (H.set j .dead)) G G' → ∃ G', Inv M σ' (H.set j .dead) xs ts (w.setCell ad y) G' ∧ Moves M w σ H G (w.setCell ad y) σ' (H.set j .dead) G' ∧ σ'.tm = σ.tm ∧ G'.β = G.β := by
    intro l vr hl ho hσ hk
    have hC : extC M σ' (H.set j .dead) = updC (updC (extC M σ H) p.root p.off (setT (extC M σ H p.root p.off) p.hops H[j])) M.hr j .dead := by
      rw [setH, hσ, extC_wr hl ho hroot, extC_ne hroot]
    have hcore : Core M.A (extC M σ' (H.set j .dead)) (w.setCell ad y) G' := by
      rw [hC]
      refine core' _ (by simp [updC, hroot]) fun r o hn => ?_
      by_cases e : r = M.hr ∧ o = j
      · simp [updC, e]
      · simp [updC, e, hn]
    refine ⟨G', ⟨hcore, fun i => ?_, Fram.addr_ok hI hadr hget y rfl rfl hsubφ, by rw [hσ]; exact keys_wr hI.keys hl, hI.size, by simpa using hI.hand, hI.hval, by rw [hσ]; exact shape_wr hI.shape hl⟩, ⟨by simp, hk, hFw, fun k h _ => hFF k h⟩, by rw [hσ], rfl⟩
    have := (hI.tmr i).keep hk hFw (fun k h _ => hFF k h)
    have e : σ'.t i = σ.t i := by rw [hσ]; rfl
    rw [e]; exact this
  have hCset : ∀ (l : List TV) (vr : List (Key × Nat)), aget σ.ce p.root = some l → p.off < l.length → σ' = ⟨σ.tm, aset σ.ce p.root (l.set p.off (setT (σ.c p.root p.off) p.hops H[j])), vr⟩ →
      extC M σ' (H.set j .dead) p.root p.off = setT (extC M σ H p.root p.off) p.hops H[j] ∧ ∀ r o, ¬ (r = p.root ∧ o = p.off) → r ≠ 1 → extC M σ' (H.set j .dead) r o = extC M σ H r o := by
    intro l vr hl ho hσ
    have hC : extC M σ' (H.set j .dead) = updC (updC (extC M σ H) p.root p.off (setT (extC M σ H p.root p.off) p.hops H[j])) M.hr j .dead := by
      rw [setH, hσ, extC_wr hl ho hroot, extC_ne hroot]
    rw [hC]
    refine ⟨by simp [updC, hroot], fun r o hn h1 => ?_⟩
    have : ¬ (r = M.hr ∧ o = j) := fun e => h1 e.1
    simp [updC, this, hn]
  unfold putP at hr
  simp only [SP.run, hgs] at hr
  by_cases hh : (isHdr old || isHdr H[j]) = true
  · rw [if_pos hh] at hr
    by_cases hlen : p.hops.length ≤ 1
    · rw [if_pos hlen] at hr
      obtain ⟨l, hl, ho, h3⟩ := SP.run_wrC hr
      simp only [SP.run, Option.some.injEq, Prod.mk.injEq, true_and] at h3
      obtain ⟨hc1, hc2⟩ := hCset l _ hl ho h3.symm
      refine fin l _ hl ho h3.symm ?_
      refine Keeps.header hI.core p hlen hadr hget (fun _ _ => rfl) rfl rfl (fun q => ?_) ?_ hc1 hc2
      · rw [← h3]; show _ ≤ vget (vinc σ.vr _) q; rw [vget_vinc]; exact Nat.le_add_right _ _
      · rw [← h3]; show _ < vget (vinc σ.vr _) _; rw [vget_vinc]; simp [St.v]
    · rw [if_neg hlen] at hr; simp [SP.run] at hr
  · rw [if_neg hh] at hr
    obtain ⟨l, hl, ho, h3⟩ := SP.run_wrC hr
    simp only [SP.run, Option.some.injEq, Prod.mk.injEq, true_and] at h3
    obtain ⟨hc1, hc2⟩ := hCset l _ hl ho h3.symm
    refine fin l _ hl ho h3.symm ?_
    simp only [Bool.or_eq_true, not_or] at hh
    obtain ⟨o1, rfl⟩ : ∃ o1, old = .v o1 := by cases old <;> simp [isHdr] at hh; exact ⟨_, rfl⟩
    obtain ⟨o2, ho2⟩ : ∃ o2, H[j] = .v o2 := by cases h : H[j] <;> simp [h, isHdr] at hh; exact ⟨_, rfl⟩
    have hfl : vflat y = true := by
      rw [ho2] at hown
      cases hown with
      | v _ h => exact h
    have hvv : σ'.v = σ.v := by rw [← h3]; rfl
    rw [hvv]
    exact Keeps.flat hI.core p hadr hget hfl (fun _ _ => rfl) rfl rfl hc1 hc2
end
end Go.Proofs.Ytkmbahlpmoljpaa
/- New variables and names, slots; no condition. -/
set_option linter.unusedVariables false
set_option linter.unusedSimpArgs false
namespace Go.Proofs.Ytkmbahlpmoljpaa
open Go.RowKit

section
variable {M : Fm} {σ σ' : St} {H : List TV} {xs : List Value} {ts : Array Value} {w : World} {G : Gh}

def St.root (σ : St) (r : Nat) (l : List TV) : St := ⟨σ.tm, aset σ.ce r l, vinc σ.vr (r, 0, 0)⟩
theorem St.root_v {r : Nat} {l : List TV} (k : Key) : (σ.root r l).v k = σ.v k + if (r, 0, 0) = k then 1 else 0 := vget_vinc σ.vr _ k
theorem St.root_c {r : Nat} {l : List TV} (r' o : Nat) : (σ.root r l).c r' o = if r' = r then l.getD o .dead else σ.c r' o := by
  unfold St.c St.root
  simp only [aget_aset]
  by_cases h : r = r'
  · subst h; simp
  · simp [h, Ne.symm h]
theorem extC_root {r : Nat} {l : List TV} (r' o : Nat) (hI : Inv M σ H xs ts w G) : extC M (σ.root r l) [] r' o = if r' = M.hr then .dead else if r' = r then l.getD o .dead else extC M σ H r' o := by
  unfold extC
  by_cases h : r' = M.hr
  · simp [h]
  · simp only [if_neg h, St.root_c]

theorem Inv.phi_dead (hI : Inv M σ H xs ts w G) {r o : Nat} (hd : extC M σ H r o = .dead) : ∀ k, ¬ G.φ r o k := by
  rcases hI.core.cell r o with ⟨_, h2⟩ | h2
  · exact h2
  · rw [hd] at h2
    cases h2 with
    | dead hfp _ => exact hfp
theorem Inv.hand_cell (hI : Inv M σ H xs ts w G) (o : Nat) : (H.getD o .dead = .dead ∧ ∀ k, ¬ G.φ M.hr o k) ∨ (o < H.length ∧ OwnR w (G.F M.A) (G.φ M.hr o) (H.getD o .dead) (xs.getD o undef)) := by
  by_cases hd : H.getD o .dead = .dead
  · exact .inl ⟨hd, hI.phi_dead (by rw [extC_hr]; exact hd)⟩
  · right
    have ho : o < H.length := by
      rcases Nat.lt_or_ge o H.length with h | h
      · exact h
      · exact absurd (by simp [h]) hd
    have e : H[o] = H.getD o .dead := by simp [ho]
    have := hI.hand_own ho (by rw [e]; exact hd)
    rw [e] at this
    exact ⟨ho, this⟩

/-- What is in hand becomes a new variable. -/
theorem Inv.newBox (hI : Inv M σ H xs ts w G) (r : Nat) (e : TypeId) (h1 : r ≠ 1) (hpr : M.pr r = none) (hev : r % 2 = 0) :
    ∃ G', Inv M (σ.root r H) [] [] ts (w.alloc (.cells xs.toArray e)) G' ∧ Moves M w σ H G (w.alloc (.cells xs.toArray e)) (σ.root r H) [] G' ∧ G'.β r = some (w.heap.size, 0, H.length) := by
  have hroot : r ≠ M.hr := h1
  have hw : ∀ k, k < w.heap.size → (w.alloc (.cells xs.toArray e)).heap[k]? = w.heap[k]? := fun k hk => Below.heap_alloc w _ k hk
  have hnew : (w.alloc (.cells xs.toArray e)).heap[w.heap.size]? = some (.cells xs.toArray e (0, 0)) := by
    show (w.heap.push _)[w.heap.size]? = _
    simp
  let G' : Gh := ⟨fun r' => if r' = r then some (w.heap.size, 0, H.length) else G.β r', G.η, fun r' o k => if r' = M.hr then False else if r' = r then G.φ M.hr o k else G.φ r' o k⟩
  have hsub : ∀ r' o k, G'.φ r' o k → ∃ r2, G.φ r2 o k ∧ (r' = r ∧ r2 = M.hr ∨ r' ≠ r ∧ r' ≠ M.hr ∧ r2 = r') := by
    intro r' o k hk
    simp only [G'] at hk
    by_cases e1 : r' = M.hr
    · rw [if_pos e1] at hk; exact hk.elim
    · rw [if_neg e1] at hk
      by_cases e2 : r' = r
      · rw [if_pos e2] at hk; exact ⟨_, hk, .inl ⟨e2, rfl⟩⟩
      · rw [if_neg e2] at hk; exact ⟨_, hk, .inr ⟨e2, e1, rfl⟩⟩
  have hFF : ∀ k, G.F M.A k → k < w.heap.size → G'.F M.A k := by
    rintro k ⟨a1, a2, a3⟩ hk
    refine ⟨a1, fun r' o h => ?_, fun r' b o n hb => ?_⟩
    · obtain ⟨r2, h3, _⟩ := hsub r' o k h
      exact a2 r2 o h3
    · simp only [G'] at hb
      split at hb
      · injection hb with hb; injection hb with hb; omega
      · exact a3 r' b o n hb
  have hval : ∀ r' o, r' ≠ r → G'.val (w.alloc (.cells xs.toArray e)) r' o = G.val w r' o := by
    intro r' o hne
    exact val_same (by simp [G', hne]) rfl fun b o n hb => hw b (hI.core.boxlt hb)
  have hCr : ∀ r' o, extC M (σ.root r H) [] r' o = if r' = M.hr then .dead else if r' = r then H.getD o .dead else extC M σ H r' o := fun r' o => extC_root r' o hI
  have hcore : Core M.A (extC M (σ.root r H) []) (w.alloc (.cells xs.toArray e)) G' := by
    refine ⟨fun r' o => ?_, fun r' b o0 n hb => ?_, fun r' b o0 n hb o ho => ?_, fun r1 r2 b o n o' n' hb1 hb2 => ?_, fun r' b o n hb r2 o2 hk => ?_, fun r1 o1 r2 o2 k hk1 hk2 => ?_, fun r' o k hk => ?_⟩
    · rw [hCr]
      by_cases e1 : r' = M.hr
      · left; exact ⟨by simp [e1], fun k hk => by simp [G', e1] at hk⟩
      · rw [if_neg e1]
        by_cases e2 : r' = r
        · subst e2
          simp only [if_true]
          have hphi : ∀ k, G'.φ r' o k ↔ G.φ M.hr o k := fun k => by simp [G', e1]
          rcases hI.hand_cell o with ⟨a1, a2⟩ | ⟨a1, a2⟩
          · left; exact ⟨a1, fun k hk => a2 k ((hphi k).1 hk)⟩
          · right
            have hv : G'.val (w.alloc (.cells xs.toArray e)) r' o = xs.getD o undef := by
              have hlt : o < xs.length := by rw [← hI.hand]; exact a1
              unfold Gh.val
              simp only [G', if_true]
              rw [World.cell?_alloc_new]
              simp [hlt]
            rw [hv]
            exact (a2.frame (fun k hk => hw k (a2.live k hk)) (fun k _ hk => hw k hk) hFF).refp fun k => (hphi k).symm
        · rw [if_neg e2, hval r' o e2]
          have hphi : ∀ k, G'.φ r' o k ↔ G.φ r' o k := fun k => by simp [G', e1, e2]
          rcases hI.core.cell r' o with ⟨a1, a2⟩ | a2
          · left; exact ⟨a1, fun k hk => a2 k ((hphi k).1 hk)⟩
          · right; exact (a2.frame (fun k hk => hw k (a2.live k hk)) (fun k _ hk => hw k hk) hFF).refp fun k => (hphi k).symm
    · simp only [G'] at hb
      split at hb
      · injection hb with hb
        injection hb with hb1 hb2
        injection hb2 with hb2 hb3
        subst hb1; subst hb2; subst hb3
        exact ⟨xs.toArray, e, (0, 0), hnew, by simp [hI.hand], fun j _ => frozen_of_row _ _ _ _ _ hnew⟩
      · obtain ⟨cur, e', fz, a1, a2, a3⟩ := hI.core.box r' b o0 n hb
        exact ⟨cur, e', fz, by rw [hw b (hI.core.boxlt hb)]; exact a1, a2, fun j hj => by rw [World.frozen?_of_block (w := w) (hw b (hI.core.boxlt hb))]; exact a3 j hj⟩
    · rw [hCr]
      simp only [G'] at hb
      by_cases e1 : r' = M.hr
      · simp [e1]
      · rw [if_neg e1]
        split at hb
        · rename_i e2
          injection hb with hb
          injection hb with hb1 hb2
          injection hb2 with hb2 hb3
          rw [if_pos e2]
          have : ¬ o < H.length := by omega
          simp [this]
        · rename_i e2
          rw [if_neg e2]
          exact hI.core.boxc r' b o0 n hb o ho
    · simp only [G'] at hb1 hb2
      split at hb1
      · rename_i e1
        split at hb2
        · rename_i e2; exact e1.trans e2.symm
        · have := hI.core.boxlt hb2
          injection hb1 with hb1; injection hb1 with hb1; omega
      · split at hb2
        · have := hI.core.boxlt hb1
          injection hb2 with hb2; injection hb2 with hb2; omega
        · exact hI.core.boxd r1 r2 b o n o' n' hb1 hb2
    · obtain ⟨r3, a1, _⟩ := hsub r2 o2 b hk
      simp only [G'] at hb
      split at hb
      · have := hI.core.live a1
        injection hb with hb; injection hb with hb; omega
      · exact hI.core.boxf r' b o n hb r3 o2 a1
    · obtain ⟨r3, a1, a2⟩ := hsub r1 o1 k hk1
      obtain ⟨r4, a3, a4⟩ := hsub r2 o2 k hk2
      obtain ⟨b1, b2⟩ := hI.core.dis _ _ _ _ k a1 a3
      refine ⟨?_, b2⟩
      rcases a2 with ⟨c1, c2⟩ | ⟨c1, c2, c3⟩
      · rcases a4 with ⟨d1, d2⟩ | ⟨d1, d2, d3⟩
        · exact c1.trans d1.symm
        · exact absurd (d3.symm.trans (b1.symm.trans c2)) d2
      · rcases a4 with ⟨d1, d2⟩ | ⟨d1, d2, d3⟩
        · exact absurd (c3.symm.trans (b1.trans d2)) c2
        · rw [← c3, ← d3]; exact b1
    · obtain ⟨r3, a1, _⟩ := hsub r' o k hk
      exact hI.core.allow _ _ k a1
  have hk : Keeps w (w.alloc (.cells xs.toArray e)) σ.v (σ.root r H).v (extC M σ H) (extC M (σ.root r H) []) G G' := by
    refine Keeps.root hI.core r hw (fun q => by rw [St.root_v]; omega) (by rw [St.root_v]; simp) (fun r' o hne h1' => ?_) (fun r' hne _ => by simp [G', hne]) (fun _ _ _ _ => rfl)
    rw [hCr]
    have : r' ≠ M.hr := h1'
    simp [this, hne]
  have hF := hI.fram
  refine ⟨G', ⟨hcore, fun i => (hI.tmr i).keep hk (fun k _ h => hw k h) hFF, ?_, fun r' l h => ?_, hI.size, rfl, fun j hj => by simp at hj, fun r' b o n hb l h => ?_⟩, ⟨by simp, hk, fun k _ h => hw k h, hFF⟩, by simp [G']⟩
  · refine ⟨hF.os, hF.tape, hF.output, by have := hF.size; simp; omega, fun k a1 a2 a3 => by rw [hw k (Nat.lt_of_lt_of_le a1 hF.size)]; exact hF.old k a1 a2 a3, fun r' b o n hp => ?_, fun r' o k hk => ?_, fun r' b o n hb => ?_, fun r' hb => ?_⟩
    · obtain ⟨a1, cur0, cur, e', fz, a2, a3, a4⟩ := hF.par r' b o n hp
      have hne : r' ≠ r := fun e => by rw [e, hpr] at hp; simp at hp
      exact ⟨by simp [G', hne, a1], cur0, cur, e', fz, a2, by rw [hw b (hI.core.boxlt a1)]; exact a3, a4⟩
    · obtain ⟨r3, a1, _⟩ := hsub r' o k hk
      exact hF.own _ _ k a1
    · simp only [G'] at hb
      split at hb
      · rename_i e1
        injection hb with hb; injection hb with hb1 hb2
        right; rw [e1]; exact ⟨hpr, by rw [← hb1]; exact hF.size⟩
      · exact hF.box r' b o n hb
    · simp only [G'] at hb
      split at hb
      · rename_i e1; rw [e1]; exact hev
      · exact hF.even r' hb
  · rw [show (σ.root r H).ce = aset σ.ce r H from rfl, aget_aset] at h
    split at h
    · rename_i e1; rw [← e1]; exact h1
    · exact hI.keys r' l h
  · rw [show (σ.root r H).ce = aset σ.ce r H from rfl, aget_aset] at h
    simp only [G'] at hb
    by_cases e1 : r' = r
    · rw [if_pos e1.symm] at h
      rw [if_pos e1] at hb
      injection h with h
      injection hb with hb
      injection hb with _ hb
      injection hb with _ hb
      rw [← h, hb]
    · rw [if_neg (Ne.symm e1)] at h
      rw [if_neg e1] at hb
      exact hI.shape r' b o n hb l h

/-- What is in hand gets a name without a cell. -/
theorem Inv.reroot (hI : Inv M σ H xs ts w G) (r : Nat) (h1 : r ≠ 1) (hβr : G.β r = none) :
    ∃ G', Goes M w ts σ H G (σ.root r H) [] [] G' ∧ G'.β = G.β ∧ ∀ j, j < xs.length → G'.η r j = xs.getD j undef := by
  have hroot : r ≠ M.hr := h1
  let G' : Gh := ⟨G.β, fun r' o => if r' = r then G.η M.hr o else G.η r' o, fun r' o k => if r' = M.hr then False else if r' = r then G.φ M.hr o k else G.φ r' o k⟩
  have hsub : ∀ r' o k, G'.φ r' o k → ∃ r2, G.φ r2 o k ∧ (r' = r ∧ r2 = M.hr ∨ r' ≠ r ∧ r' ≠ M.hr ∧ r2 = r') := by
    intro r' o k hk
    simp only [G'] at hk
    by_cases e1 : r' = M.hr
    · rw [if_pos e1] at hk; exact hk.elim
    · rw [if_neg e1] at hk
      by_cases e2 : r' = r
      · rw [if_pos e2] at hk; exact ⟨_, hk, .inl ⟨e2, rfl⟩⟩
      · rw [if_neg e2] at hk; exact ⟨_, hk, .inr ⟨e2, e1, rfl⟩⟩
  have hCr : ∀ r' o, extC M (σ.root r H) [] r' o = if r' = M.hr then .dead else if r' = r then H.getD o .dead else extC M σ H r' o := fun r' o => extC_root r' o hI
  have hF0 : ∀ k, G.F M.A k → G'.F M.A k := by
    rintro k ⟨a1, a2, a3⟩
    refine ⟨a1, fun r' o h => ?_, a3⟩
    obtain ⟨r2, h3, _⟩ := hsub r' o k h
    exact a2 r2 o h3
  have hgh := Core.ghost (C' := extC M (σ.root r H) []) (G' := G') hI.core rfl
    (fun k ⟨r', o, h⟩ => by obtain ⟨r2, h3, _⟩ := hsub r' o k h; exact ⟨r2, o, h3⟩)
    (fun r1 o1 r2 o2 k hk1 hk2 => by
      obtain ⟨r3, a1, a2⟩ := hsub r1 o1 k hk1
      obtain ⟨r4, a3, a4⟩ := hsub r2 o2 k hk2
      obtain ⟨b1, b2⟩ := hI.core.dis _ _ _ _ k a1 a3
      refine ⟨?_, b2⟩
      rcases a2 with ⟨c1, c2⟩ | ⟨c1, c2, c3⟩
      · rcases a4 with ⟨d1, d2⟩ | ⟨d1, d2, d3⟩
        · exact c1.trans d1.symm
        · exact absurd (d3.symm.trans (b1.symm.trans c2)) d2
      · rcases a4 with ⟨d1, d2⟩ | ⟨d1, d2, d3⟩
        · exact absurd (c3.symm.trans (b1.trans d2)) c2
        · rw [← c3, ← d3]; exact b1)
    (fun r' b o0 n hb o ho => by
      rw [hCr]
      by_cases e1 : r' = M.hr
      · simp [e1]
      · by_cases e2 : r' = r
        · rw [e2, hβr] at hb; simp at hb
        · simp only [e1, e2, if_false]; exact hI.core.boxc r' b o0 n hb o ho)
    (fun r' o => by
      rw [hCr]
      by_cases e1 : r' = M.hr
      · right; left; exact ⟨by simp [e1], fun k hk => by simp [G', e1] at hk⟩
      · rw [if_neg e1]
        by_cases e2 : r' = r
        · subst e2
          right
          simp only [if_true]
          have hphi : ∀ k, G'.φ r' o k ↔ G.φ M.hr o k := fun k => by simp [G', e1]
          rcases hI.hand_cell o with ⟨a1, a2⟩ | ⟨a1, a2⟩
          · left; exact ⟨a1, fun k hk => a2 k ((hphi k).1 hk)⟩
          · right
            have hv : G'.val w r' o = xs.getD o undef := by
              unfold Gh.val
              simp only [G', hβr, if_true]
              exact hI.hval o (by rw [← hI.hand]; exact a1)
            rw [hv]
            exact (a2.frame (fun _ _ => rfl) (fun _ _ _ => rfl) (fun k h _ => hF0 k h)).refp fun k => (hphi k).symm
        · left
          exact ⟨by simp [e2], fun k => by simp [G', e1, e2], by simp [G', e2]⟩)
  have hk : Keeps w w σ.v (σ.root r H).v (extC M σ H) (extC M (σ.root r H) []) G G' := by
    refine Keeps.root hI.core r (fun _ _ => rfl) (fun q => by rw [St.root_v]; omega) (by rw [St.root_v]; simp) (fun r' o hne h1' => ?_) (fun r' hne _ => rfl) (fun r' o hne _ => by simp [G', hne])
    rw [hCr]
    have : r' ≠ M.hr := h1'
    simp [this, hne]
  refine ⟨G', ⟨⟨hgh.1, fun i => (hI.tmr i).keep hk (fun _ _ _ => rfl) (fun k h _ => hF0 k h), hI.fram.ghost rfl (fun k ⟨r', o, h⟩ => by obtain ⟨r2, h3, _⟩ := hsub r' o k h; exact ⟨r2, o, h3⟩), fun r' l h => ?_, hI.size, rfl, fun j hj => by simp at hj, fun r' b o n hb l h => ?_⟩, hF0, hk, rfl⟩, rfl, fun j hj => by simp [G', hI.hval j hj]⟩
  · rw [show (σ.root r H).ce = aset σ.ce r H from rfl, aget_aset] at h
    split at h
    · rename_i e1; rw [← e1]; exact h1
    · exact hI.keys r' l h
  · rw [show (σ.root r H).ce = aset σ.ce r H from rfl, aget_aset] at h
    split at h
    · rename_i e1
      have hb' : G.β r' = some (b, o, n) := hb
      rw [← e1, hβr] at hb'; simp at hb'
    · exact hI.shape r' b o n hb l h

/-- A slot is written. -/
theorem Inv.wrT (hI : Inv M σ H xs ts w G) {d : Nat} (hd : d < M.N) {t : TV} {x : Value} (h : TmR w (G.F M.A) σ.v (extC M σ H) G t x) : Inv M { σ with tm := aset σ.tm d t } H xs (ts.setIfInBounds d x) w G := by
  refine ⟨hI.core, fun i => ?_, hI.fram, hI.keys, by simpa using hI.size, hI.hand, hI.hval, hI.shape⟩
  have e : St.t { σ with tm := aset σ.tm d t } i = if d = i then t else σ.t i := by
    unfold St.t
    simp only [aget_aset]
    split <;> rfl
  rw [e]
  have e2 : (ts.setIfInBounds d x).getD i undef = if d = i then x else ts.getD i undef := by
    simp only [Array.getD_eq_getD_getElem?, Array.getElem?_setIfInBounds]
    by_cases hdi : d = i
    · subst hdi; simp [hI.size, hd]
    · simp [hdi]
  rw [e2]
  by_cases hdi : d = i
  · simp only [hdi, if_true]; exact h
  · simp only [hdi, if_false]; exact hI.tmr i
theorem Inv.clear (hI : Inv M σ H xs ts w G) (hd : ∀ j (h : j < H.length), H[j] = .dead) : Inv M σ [] [] ts w G := by
  have e : extC M σ [] = extC M σ H := by
    funext r o
    unfold extC
    split
    · by_cases ho : o < H.length
      · simp [ho, hd o ho]
      · simp [ho]
    · rfl
  exact ⟨by rw [e]; exact hI.core, fun i => by rw [e]; exact hI.tmr i, hI.fram, hI.keys, hI.size, rfl, fun j hj => by simp at hj, hI.shape⟩
theorem Inv.grow (hI : Inv M σ H xs ts w G) {w' : World} (hw : ∀ k, k < w.heap.size → w'.heap[k]? = w.heap[k]?) (hs : w.heap.size ≤ w'.heap.size) (ho : w'.os = w.os) (ht : w'.tape = w.tape) (hu : w'.output = w.output) :
    Inv M σ H xs ts w' G ∧ Moves M w σ H G w' σ H G := by
  have hk := Keeps.grow (V := σ.v) hI.core hw
  have hF := hI.fram
  refine ⟨⟨(hI.core.grow hw).1, fun i => (hI.tmr i).keep hk (fun k _ h => hw k h) (fun _ h _ => h), ⟨ho.trans hF.os, ht.trans hF.tape, hu.trans hF.output, Nat.le_trans hF.size hs, fun k a1 a2 a3 => by rw [hw k (Nat.lt_of_lt_of_le a1 hF.size)]; exact hF.old k a1 a2 a3, fun r b o n hp => ?_, hF.own, hF.box, hF.even⟩, hI.keys, hI.size, hI.hand, hI.hval, hI.shape⟩, ⟨hs, hk, fun k _ h => hw k h, fun _ h _ => h⟩⟩
  obtain ⟨a1, cur0, cur, e', fz, a2, a3, a4⟩ := hF.par r b o n hp
  exact ⟨a1, cur0, cur, e', fz, a2, by rw [hw b (hI.core.boxlt a1)]; exact a3, a4⟩
/-- What is in hand is let go. -/
theorem Inv.drop (hI : Inv M σ H xs ts w G) : ∃ G', Goes M w ts σ H G σ [] [] G' ∧ G'.β = G.β := by
  let G' : Gh := ⟨G.β, G.η, fun r' o k => if r' = M.hr then False else G.φ r' o k⟩
  have hsub : ∀ r' o k, G'.φ r' o k → G.φ r' o k := by
    intro r' o k hk
    simp only [G'] at hk
    split at hk
    · exact hk.elim
    · exact hk
  have hgh := Core.ghost (C' := extC M σ []) (G' := G') hI.core rfl (fun k ⟨r', o, h⟩ => ⟨r', o, hsub r' o k h⟩) (fun r1 o1 r2 o2 k h1 h2 => hI.core.dis _ _ _ _ k (hsub _ _ k h1) (hsub _ _ k h2))
    (fun r' b o0 n hb o ho => by
      have := hI.core.boxc r' b o0 n hb o ho
      unfold extC at this ⊢
      split
      · simp
      · rename_i h; rw [if_neg h] at this; exact this)
    (fun r' o => by
      by_cases e1 : r' = M.hr
      · right; left; exact ⟨by rw [e1, extC_hr]; simp, fun k hk => by simp [G', e1] at hk⟩
      · left; exact ⟨by rw [extC_ne e1, extC_ne e1], fun k => by simp [G', e1], rfl⟩)
  have hk : Keeps w w σ.v σ.v (extC M σ H) (extC M σ []) G G' := by
    refine ⟨fun _ => Nat.le_refl _, fun p ad t hr1 _ h1 h2 => ⟨t, addr_val h1 rfl fun _ => rfl, by rw [extC_ne (by exact hr1)] at h2 ⊢; exact h2⟩, fun p h c hr1 _ h1 h2 => ⟨c, h1, by rw [extC_ne (by exact hr1)] at h2 ⊢; exact h2, rfl⟩⟩
  exact ⟨G', ⟨⟨hgh.1, fun i => (hI.tmr i).keep hk (fun _ _ _ => rfl) (fun k h _ => hgh.2 k h), hI.fram.ghost rfl (fun k ⟨r', o, h⟩ => ⟨r', o, hsub r' o k h⟩), hI.keys, hI.size, rfl, fun j hj => by simp at hj, hI.shape⟩, hgh.2, hk, rfl⟩, rfl⟩
end
end Go.Proofs.Ytkmbahlpmoljpaa
/- Slices that are made; no condition. -/
set_option linter.unusedVariables false
set_option linter.unusedSimpArgs false
namespace Go.Proofs.Ytkmbahlpmoljpaa
open Go.RowKit

section
variable {M : Fm} {σ σ' : St} {H : List TV} {xs : List Value} {ts : Array Value} {w : World} {G : Gh}

/-- The world turns only in what is in hand. -/
theorem Keeps.away (hI : Inv M σ H xs ts w G) {w' : World} {H' : List TV} {G' : Gh} (hw : ∀ k, k < w.heap.size → (∀ j, ¬ G.φ M.hr j k) → w'.heap[k]? = w.heap[k]?) (hβ : G'.β = G.β) (hη : ∀ r o, r ≠ 1 → G'.η r o = G.η r o) :
    Keeps w w' σ.v σ.v (extC M σ H) (extC M σ H') G G' := by
  have hC : ∀ r o, r ≠ 1 → extC M σ H' r o = extC M σ H r o := fun r o h => by rw [extC_ne (by exact h), extC_ne (by exact h)]
  have hval : ∀ r o, r ≠ 1 → G'.val w' r o = G.val w r o := fun r o h => val_same (by rw [hβ]) (hη r o h) fun b o n hb => hw b (hI.core.boxlt hb) fun j => hI.core.boxf r b o n hb _ _
  have hφ : ∀ r o, r ≠ 1 → ∀ k, G.φ r o k → w'.heap[k]? = w.heap[k]? := fun r o h k hk => hw k (hI.core.live hk) fun j hj => h (hI.core.dis _ _ _ _ k hk hj).1
  refine ⟨fun _ => Nat.le_refl _, fun p ad t hr1 _ h1 h2 => ?_, fun p h c hr1 _ h1 h2 => ?_⟩
  · refine ⟨t, addr_val h1 hβ fun hp => ?_, by rw [hC _ _ hr1]; exact h2⟩
    have hd : extC M σ H p.root p.off ≠ .dead := fun hd => by rw [hd] at h2; cases hq : p.hops <;> rw [hq] at h2 hp <;> simp [getT] at h2 hp
    rw [hval _ _ hr1]
    exact addrT_frame (hI.core.own hd) h2 (hφ _ _ hr1)
  · refine ⟨c, ?_, by rw [hC _ _ hr1]; exact h2, rfl⟩
    obtain ⟨x, fpx, h6, h7, _, h8⟩ := hI.core.hv_own p h2 (by simp)
    rw [h1] at h6
    injection h6 with h6
    subst h6
    have hd : extC M σ H p.root p.off ≠ .dead := fun hd => by rw [hd] at h2; cases hq : p.hops <;> rw [hq] at h2 <;> simp [getT] at h2
    cases hp : p.hops with
    | nil => unfold Gh.hv at h1 ⊢; rw [hp] at h1 ⊢; simp only [hvT] at h1 ⊢; rw [hval _ _ hr1]; exact h1
    | cons b l =>
      obtain ⟨ad2, h9, h10, h11⟩ := h8 (by rw [hp]; simp)
      unfold Gh.hv
      refine hvT_of_addr (ad := ad2) ?_ ?_
      · rw [hval _ _ hr1, addrT_frame (hI.core.own hd) h2 (hφ _ _ hr1)]; exact h9
      · rw [World.cell?_of_block (w := w) (hφ _ _ hr1 _ h11)]; exact h10

/-- What is in hand is made into one. -/
theorem Inv.rehand (hI : Inv M σ H xs ts w G) {w' : World} {t' : TV} {v' : Value} {fp' : Nat → Prop} (hw : ∀ k, k < w.heap.size → (∀ j, ¬ G.φ M.hr j k) → w'.heap[k]? = w.heap[k]?) (hs : w.heap.size ≤ w'.heap.size)
    (ho : w'.os = w.os) (ht : w'.tape = w.tape) (hu : w'.output = w.output) (hfp : ∀ k, fp' k → (∃ j, G.φ M.hr j k) ∨ w.heap.size ≤ k) (hown : OwnR w' (fun k => G.F M.A k ∧ k < w.heap.size) fp' t' v') :
    ∃ G', Inv M σ [t'] [v'] ts w' G' ∧ Moves M w σ H G w' σ [t'] G' ∧ G'.β = G.β := by
  let G' : Gh := ⟨G.β, fun r o => if r = M.hr then v' else G.η r o, fun r o k => if r = M.hr then (if o = 0 then fp' k else False) else G.φ r o k⟩
  have hsub : ∀ r o k, G'.φ r o k → (r = M.hr ∧ o = 0 ∧ fp' k) ∨ (r ≠ M.hr ∧ G.φ r o k) := by
    intro r o k hk
    simp only [G'] at hk
    by_cases e : r = M.hr
    · rw [if_pos e] at hk
      by_cases e2 : o = 0
      · rw [if_pos e2] at hk; exact .inl ⟨e, e2, hk⟩
      · rw [if_neg e2] at hk; exact hk.elim
    · rw [if_neg e] at hk; exact .inr ⟨e, hk⟩
  have hFF : ∀ k, G.F M.A k → k < w.heap.size → G'.F M.A k := by
    rintro k ⟨a1, a2, a3⟩ hk
    refine ⟨a1, fun r o h => ?_, a3⟩
    rcases hsub r o k h with ⟨_, _, h1⟩ | ⟨_, h1⟩
    · rcases hfp k h1 with ⟨j, h2⟩ | h2
      · exact a2 _ _ h2
      · omega
    · exact a2 _ _ h1
  have hFw : ∀ k, G.F M.A k → k < w.heap.size → w'.heap[k]? = w.heap[k]? := fun k ⟨_, a2, _⟩ hk => hw k hk fun j => a2 _ _
  have hφ : ∀ r o, r ≠ M.hr → ∀ k, G.φ r o k → w'.heap[k]? = w.heap[k]? := fun r o h k hk => hw k (hI.core.live hk) fun j hj => h (hI.core.dis _ _ _ _ k hk hj).1
  have hbox : ∀ r b o n, G.β r = some (b, o, n) → w'.heap[b]? = w.heap[b]? := fun r b o n hb => hw b (hI.core.boxlt hb) fun j => hI.core.boxf r b o n hb _ _
  have hk := Keeps.away (H' := [t']) (G' := G') hI hw rfl (fun r o h => by simp [G', show r ≠ M.hr from h])
  have hfpd : ∀ r o k, r ≠ M.hr → G.φ r o k → ¬ fp' k := by
    intro r o k h hk hf
    rcases hfp k hf with ⟨j, h2⟩ | h2
    · exact h (hI.core.dis _ _ _ _ k hk h2).1
    · have := hI.core.live hk; omega
  have hF := hI.fram
  have hcore : Core M.A (extC M σ [t']) w' G' := by
    refine ⟨fun r o => ?_, fun r b o0 n hb => ?_, fun r b o0 n hb o ho => ?_, hI.core.boxd, fun r b o n hb r2 o2 hk => ?_, fun r1 o1 r2 o2 k h1 h2 => ?_, fun r o k h => ?_⟩
    · by_cases e : r = M.hr
      · subst e
        by_cases e2 : o = 0
        · subst e2
          right
          have hv : G'.val w' M.hr 0 = v' := by unfold Gh.val; simp only [G', hI.hr_none, if_true]
          rw [hv, extC_hr]
          exact (hown.frame (fun _ _ => rfl) (fun _ _ _ => rfl) (fun k h _ => hFF k h.1 h.2)).refp fun k => by simp [G']
        · left
          refine ⟨by rw [extC_hr]; simp [e2], fun k hk => by simp [G', e2] at hk⟩
      · have hv : G'.val w' r o = G.val w r o := val_same rfl (by simp [G', e]) (hbox r)
        have hphi : ∀ k, G'.φ r o k ↔ G.φ r o k := fun k => by simp [G', e]
        rw [extC_ne e, hv]
        have hc := hI.core.cell r o
        rw [extC_ne e] at hc
        rcases hc with ⟨a1, a2⟩ | a2
        · left; exact ⟨a1, fun k hk => a2 k ((hphi k).1 hk)⟩
        · right; exact (a2.frame (hφ r o e) hFw hFF).refp fun k => (hphi k).symm
    · obtain ⟨cur, e', fz, a1, a2, a3⟩ := hI.core.box r b o0 n hb
      exact ⟨cur, e', fz, by rw [hbox r b o0 n hb]; exact a1, a2, fun j hj => by rw [World.frozen?_of_block (w := w) (hbox r b o0 n hb)]; exact a3 j hj⟩
    · have e : r ≠ M.hr := fun e => by
        have hb' : G.β r = some (b, o0, n) := hb
        rw [e, hI.hr_none] at hb'; simp at hb'
      have := hI.core.boxc r b o0 n hb o ho
      rw [extC_ne e] at this ⊢
      exact this
    · rcases hsub r2 o2 b hk with ⟨_, _, h1⟩ | ⟨_, h1⟩
      · rcases hfp b h1 with ⟨j, h2⟩ | h2
        · exact hI.core.boxf r b o n hb _ _ h2
        · have := hI.core.boxlt hb; omega
      · exact hI.core.boxf r b o n hb _ _ h1
    · rcases hsub r1 o1 k h1 with ⟨a1, a2, a3⟩ | ⟨a1, a2⟩
      · rcases hsub r2 o2 k h2 with ⟨b1, b2, b3⟩ | ⟨b1, b2⟩
        · exact ⟨a1.trans b1.symm, a2.trans b2.symm⟩
        · exact absurd a3 (hfpd _ _ k b1 b2)
      · rcases hsub r2 o2 k h2 with ⟨b1, b2, b3⟩ | ⟨b1, b2⟩
        · exact absurd b3 (hfpd _ _ k a1 a2)
        · exact hI.core.dis _ _ _ _ k a2 b2
    · rcases hsub r o k h with ⟨a1, a2, a3⟩ | ⟨a1, a2⟩
      · rcases hfp k a3 with ⟨j, h2⟩ | h2
        · exact hI.core.allow _ _ k h2
        · exact M.hA k (Nat.le_trans hF.size h2)
      · exact hI.core.allow _ _ k a2
  refine ⟨G', ⟨hcore, fun i => (hI.tmr i).keep hk hFw hFF, ?_, hI.keys, hI.size, rfl, fun j hj => ?_, hI.shape⟩, ⟨hs, hk, hFw, hFF⟩, rfl⟩
  · refine ⟨ho.trans hF.os, ht.trans hF.tape, hu.trans hF.output, Nat.le_trans hF.size hs, fun k a1 a2 a3 => ?_, fun r b o n hp => ?_, fun r o k h => ?_, hF.box, hF.even⟩
    · rw [hw k (Nat.lt_of_lt_of_le a1 hF.size) fun j hj => ?_]
      · exact hF.old k a1 a2 a3
      · rcases hF.own _ _ k hj with h | h
        · exact a2 h
        · omega
    · obtain ⟨a1, cur0, cur, e', fz, a2, a3, a4⟩ := hF.par r b o n hp
      exact ⟨a1, cur0, cur, e', fz, a2, by rw [hbox r b o n a1]; exact a3, a4⟩
    · rcases hsub r o k h with ⟨a1, a2, a3⟩ | ⟨a1, a2⟩
      · rcases hfp k a3 with ⟨j, h2⟩ | h2
        · exact hF.own _ _ k h2
        · exact .inr (Nat.le_trans hF.size h2)
      · exact hF.own _ _ k a2
  · obtain rfl : j = 0 := by simp at hj; omega
    simp [G']

theorem flatten_get {α : Type} {c : List (List α)} {sz : Nat} (hs : ∀ i (h : i < c.length), c[i].length = sz) {i j : Nat} (hi : i < c.length) (hj : j < c[i].length) : c.flatten[i * sz + j]? = some c[i][j] := by
  induction c generalizing i with
  | nil => simp at hi
  | cons a c ih =>
    have ha : a.length = sz := hs 0 (by simp)
    rw [List.flatten_cons]
    cases i with
    | zero =>
      simp only [Nat.zero_mul, Nat.zero_add, List.getElem_cons_zero] at hj ⊢
      rw [List.getElem?_append_left hj, List.getElem?_eq_getElem hj]
    | succ i =>
      simp only [List.getElem_cons_succ] at hj ⊢
      rw [List.getElem?_append_right (by rw [ha, Nat.succ_mul]; omega), ha, show (i + 1) * sz + j - sz = i * sz + j by rw [Nat.succ_mul]; omega]
      exact ih (fun i h => hs (i + 1) (by simpa using h)) (by simpa using hi) hj
theorem flatten_len {α : Type} {c : List (List α)} {sz : Nat} (hs : ∀ i (h : i < c.length), c[i].length = sz) : c.flatten.length = c.length * sz := by
  induction c with
  | nil => simp
  | cons a c ih =>
    rw [List.flatten_cons, List.length_append, ih (fun i h => hs (i + 1) (by simpa using h)), show a.length = sz from hs 0 (by simp)]
    simp [Nat.succ_mul, Nat.add_comm]

/-- The cells in hand become a slice of their own. -/
theorem Inv.mkSlice (hI : Inv M σ H xs ts w G) {c : List (List TV)} {sz : Nat} (e : TypeId) (hs : ∀ i (h : i < c.length), c[i].length = sz) (hc : c.flatten = H) (hnd : ∀ j (h : j < H.length), H[j] ≠ .dead) (hmax : c.length ≤ maxLen) :
    ∃ G', Inv M σ [.ow c] [.slice (some ⟨w.heap.size, 0, none⟩) c.length c.length] ts (w.alloc (.cells xs.toArray e)) G' ∧ Moves M w σ H G (w.alloc (.cells xs.toArray e)) σ [.ow c] G' ∧ G'.β = G.β := by
  have hw : ∀ k, k < w.heap.size → (w.alloc (.cells xs.toArray e)).heap[k]? = w.heap[k]? := fun k hk => Below.heap_alloc w _ k hk
  have hnew : (w.alloc (.cells xs.toArray e)).heap[w.heap.size]? = some (.cells xs.toArray e (0, 0)) := by
    show (w.heap.push _)[w.heap.size]? = _
    simp
  have hlen : H.length = c.length * sz := by rw [← hc]; exact flatten_len hs
  have hidx : ∀ i j, i < c.length → j < sz → i * sz + j < H.length := by
    intro i j hi hj
    rw [hlen]
    calc i * sz + j < i * sz + sz := by omega
      _ = (i + 1) * sz := by rw [Nat.succ_mul]
      _ ≤ c.length * sz := Nat.mul_le_mul_right _ hi
  refine hI.rehand (fp' := fun k => k = w.heap.size ∨ ∃ i j, i < c.length ∧ j < sz ∧ (i < c.length ∧ j < sz ∧ G.φ M.hr (i * sz + j) k)) (fun k hk _ => hw k hk) (by simp) rfl rfl rfl (fun k hk => ?_) ?_
  · rcases hk with rfl | ⟨i, j, _, _, _, _, h⟩
    · exact .inr (Nat.le_refl _)
    · exact .inl ⟨_, h⟩
  · refine .ow sz (fun i j => xs.getD (i * sz + j) undef) (fun i j k => i < c.length ∧ j < sz ∧ G.φ M.hr (i * sz + j) k) (fun k => Iff.rfl) hnew hs (Nat.le_refl _) id hmax (by simp [← hI.hand, hlen]) (fun i j hi hj => ?_) (fun i j hi hj => ?_) (fun i j h => ?_) (fun i j i' j' k h h' => ?_)
    · have hlt := hidx i j hi hj
      have hlt' : i * sz + j < xs.length := by rw [← hI.hand]; exact hlt
      simp [hlt']
    · have hj' : j < sz := by rw [← hs i hi]; exact hj
      have hlt := hidx i j hi hj'
      have hg := flatten_get hs hi hj
      rw [hc, List.getElem?_eq_getElem hlt] at hg
      injection hg with hg
      rw [← hg]
      exact ((hI.hand_own hlt (hnd _ hlt)).frame (fun k hk => hw k ((hI.hand_own hlt (hnd _ hlt)).live k hk)) (fun k _ hk => hw k hk) (fun k h hk => ⟨h, hk⟩)).refp fun k => ⟨fun h => ⟨hi, hj', h⟩, fun h => h.2.2⟩
    · have := hI.core.live h.2.2; omega
    · have := (hI.core.dis _ _ _ _ k h.2.2 h'.2.2).2
      exact idx_inj h.2.1 h'.2.1 this
end
end Go.Proofs.Ytkmbahlpmoljpaa
