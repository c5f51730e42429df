/- Handing over to another function and coming back; no condition. -/
import Derived.Test.YtkmbahlpmoljpaaQf
set_option linter.unusedVariables false
set_option linter.unusedSimpArgs false
namespace Go.Proofs.Ytkmbahlpmoljpaa
open Go.RowKit

section
variable {P : Program} {M : Fm} {σ σ' : St} {H : List TV} {xs : List Value} {ts : Array Value} {w : World} {G : Gh}

theorem Inv.trunc (hI : Inv M σ H xs ts w G) {k : Nat} (hd : ∀ j (h : j < H.length), k ≤ j → H[j] = .dead) : Inv M σ (H.take k) (xs.take k) ts w G ∧ extC M σ (H.take k) = extC M σ H := by
  have e : extC M σ (H.take k) = extC M σ H := by
    funext r o
    unfold extC
    split
    · simp only [List.getD_eq_getElem?_getD, List.getElem?_take]
      split
      · rfl
      · rename_i ho
        by_cases h : o < H.length
        · rw [List.getElem?_eq_getElem h, hd o h (by omega)]; rfl
        · rw [List.getElem?_eq_none (by omega)]
    · rfl
  refine ⟨⟨by rw [e]; exact hI.core, fun i => by rw [e]; exact hI.tmr i, hI.fram, hI.keys, hI.size, by simp [hI.hand], fun j hj => ?_, hI.shape⟩, e⟩
  have h2 : j < k ∧ j < xs.length := by simp at hj; omega
  rw [hI.hval j h2.2]
  simp [List.getD_eq_getElem?_getD, List.getElem?_take, h2.1]

theorem setCells_block_ne (b : Nat) (vs : List Value) : ∀ (o : Nat) (w : World) {k : Nat}, k ≠ b → (w.setCells b o vs).heap[k]? = w.heap[k]? := by
  induction vs with
  | nil => intro o w k h; rfl
  | cons v r ih =>
    intro o w k h
    simp only [World.setCells]
    rw [ih _ _ h]
    exact setCell_block_ne w _ v h
theorem setCells_block (b : Nat) (vs : List Value) : ∀ (o : Nat) (w : World) {cur : Array Value} {e : TypeId} {fz : Nat × Nat}, w.heap[b]? = some (.cells cur e fz) →
    ∃ cur', (w.setCells b o vs).heap[b]? = some (.cells cur' e fz) ∧ cur'.size = cur.size ∧ ∀ j, cur'[j]? = if o ≤ j ∧ j < o + vs.length ∧ j < cur.size then vs[j - o]? else cur[j]? := by
  induction vs with
  | nil => intro o w cur e fz h; exact ⟨cur, h, rfl, fun j => by rw [if_neg (by simp; omega)]⟩
  | cons v r ih =>
    intro o w cur e fz h
    simp only [World.setCells]
    obtain ⟨cur', h1, h2, h3⟩ := ih (o + 1) _ (setCell_block w b o v h)
    refine ⟨cur', h1, by rw [h2]; simp, fun j => ?_⟩
    rw [h3]
    simp only [Array.size_setIfInBounds, List.length_cons]
    by_cases hj : j = o
    · subst hj
      rw [if_neg (by omega)]
      by_cases hs : j < cur.size
      · rw [if_pos (by omega)]; simp [hs]
      · rw [if_neg (by omega)]; simp [hs]
    · by_cases hc : o + 1 ≤ j ∧ j < o + 1 + r.length ∧ j < cur.size
      · rw [if_pos hc, if_pos (by omega)]
        rw [show j - o = (j - (o + 1)) + 1 by omega]
        simp
      · rw [if_neg hc, if_neg (by omega)]
        rw [Array.getElem?_setIfInBounds, if_neg (Ne.symm hj)]
theorem setCells_only (b : Nat) (vs : List Value) : ∀ (o : Nat) (w : World), w.setCells b o vs = { w with heap := (w.setCells b o vs).heap } := by
  induction vs with
  | nil => intro o w; rfl
  | cons v r ih =>
    intro o w
    simp only [World.setCells]
    have h : w.setCell ⟨b, o, none⟩ v = { w with heap := (w.setCell ⟨b, o, none⟩ v).heap } := by
      unfold World.setCell
      split <;> first | rfl | (split <;> rfl)
    rw [ih]
    rw [h]

def restore (w W : World) (b : Nat) : World := match w.heap[b]? with | some x => { W with heap := W.heap.setIfInBounds b x } | none => W
theorem restore_ne {w W : World} {b k : Nat} (h : k ≠ b) : (restore w W b).heap[k]? = W.heap[k]? := by
  unfold restore
  split
  · simp [Array.getElem?_setIfInBounds, Ne.symm h]
  · rfl
theorem restore_eq {w W : World} {b : Nat} (h : b < W.heap.size) (h2 : b < w.heap.size) : (restore w W b).heap[b]? = w.heap[b]? := by
  unfold restore
  rw [Array.getElem?_eq_getElem h2]
  simp [h]
theorem restore_size {w W : World} {b : Nat} : (restore w W b).heap.size = W.heap.size := by
  unfold restore
  split <;> simp
theorem restore_rest {w W : World} {b : Nat} : (restore w W b).os = W.os ∧ (restore w W b).tape = W.tape ∧ (restore w W b).output = W.output ∧ (restore w W b).drawn = W.drawn := by
  unfold restore
  split <;> exact ⟨rfl, rfl, rfl, rfl⟩
theorem setCells_restore {w W : World} {b o : Nat} {vs : List Value} {cur0 cur : Array Value} {e : TypeId} {fz : Nat × Nat} (h0 : w.heap[b]? = some (.cells cur0 e fz)) (h1 : W.heap[b]? = some (.cells cur e fz)) (hs : cur.size = cur0.size)
    (hout : ∀ j, (j < o ∨ o + vs.length ≤ j) → cur[j]? = cur0[j]?) (hin : ∀ j (h : j < vs.length), cur[o + j]? = some vs[j]) : (restore w W b).setCells b o vs = W := by
  have hbW : b < W.heap.size := (Array.getElem?_eq_some_iff.1 h1).1
  have hbw : b < w.heap.size := (Array.getElem?_eq_some_iff.1 h0).1
  rw [setCells_only]
  obtain ⟨r1, r2, r3, r4⟩ := restore_rest (w := w) (W := W) (b := b)
  have hheap : ((restore w W b).setCells b o vs).heap = W.heap := by
    apply Array.ext_getElem?
    intro k
    by_cases hk : k = b
    · subst hk
      obtain ⟨cur', e1, e2, e3⟩ := setCells_block k vs o (restore w W k) ((restore_eq hbW hbw).trans h0)
      rw [e1, h1]
      congr 2
      apply Array.ext_getElem?
      intro j
      rw [e3]
      split
      · rename_i hj
        have := hin (j - o) (by omega)
        rw [show o + (j - o) = j by omega] at this
        rw [this, List.getElem?_eq_getElem (by omega)]
      · rename_i hj
        by_cases hjs : j < cur0.size
        · exact (hout j (by omega)).symm
        · rw [Array.getElem?_eq_none (by omega), Array.getElem?_eq_none (by omega)]
    · rw [setCells_block_ne b vs o _ hk, restore_ne hk]
  rw [hheap]
  cases W
  cases hR : restore w _ b
  rw [hR] at r1 r2 r3 r4
  simp_all
end
end Go.Proofs.Ytkmbahlpmoljpaa
/- Into another function; no condition. -/
set_option linter.unusedVariables false
set_option linter.unusedSimpArgs false
namespace Go.Proofs.Ytkmbahlpmoljpaa
open Go.RowKit

/-- What is handed over lies in hand: variables pr, their cells ce, from bs on in hand. -/
structure Hands (H : List TV) (xs : List Value) (w : World) (G : Gh) (A : Nat → Prop) (pr : Nat → Option (Nat × Nat × Nat)) (bs : Nat → Nat) (ce : List (Nat × List TV)) (ow : Nat → Option Nat) : Prop where
  even : ∀ r b o n, pr r = some (b, o, n) → r % 2 = 0 ∧ 0 < n
  cells : ∀ r b o n, pr r = some (b, o, n) → ∃ l, aget ce r = some l ∧ l.length = n ∧ ∀ j (h : j < l.length), ∃ h' : bs r + j < H.length, l[j] = H[bs r + j] ∧ l[j] ≠ .dead
  only : ∀ r l, aget ce r = some l → pr r ≠ none ∨ ow r ≠ none
  owc : ∀ r j, ow r = some j → r % 2 = 1 ∧ r ≠ 1 ∧ ∃ (c : List (List TV)) (h : j < H.length), aget ce r = some [.ow c] ∧ H[j] = .ow c
  owa : ∀ r j r' b o n, ow r = some j → pr r' = some (b, o, n) → ∀ j', j' < n → bs r' + j' ≠ j
  owi : ∀ r r' j, ow r = some j → ow r' = some j → r = r'
  apart : ∀ r b o n r' b' o' n', pr r = some (b, o, n) → pr r' = some (b', o', n') → ∀ j j', j < n → j' < n' → bs r + j = bs r' + j' → r = r'
  inj : ∀ r b o n r' o' n', pr r = some (b, o, n) → pr r' = some (b, o', n') → r = r'
  notF : ∀ r b o n, pr r = some (b, o, n) → ¬ G.F A b
  notH : ∀ r b o n, pr r = some (b, o, n) → ∀ j, ¬ G.φ 1 j b
  here : ∀ r b o n, pr r = some (b, o, n) → ∀ j, j < n → w.cell? ⟨b, o + j, none⟩ = some (xs.getD (bs r + j) undef) ∧ w.frozen? ⟨b, o + j, none⟩ = false

/-- What the other function begins with. -/
def Fm.into (M : Fm) (w : World) (G : Gh) (pr : Nat → Option (Nat × Nat × Nat)) (N : Nat) : Fm where
  w0 := w
  A := fun k => G.F M.A k ∨ (∃ j, G.φ 1 j k) ∨ w.heap.size ≤ k
  W0 := fun k => ∃ j, G.φ 1 j k
  pr := pr
  N := N
  hA := fun k h => .inr (.inr h)
def Gh.into (G : Gh) (pr : Nat → Option (Nat × Nat × Nat)) (bs : Nat → Nat) (ow : Nat → Option Nat) (xs : List Value) : Gh :=
  ⟨pr, fun r _ => match ow r with | some j => xs.getD j undef | none => undef, fun r o k => (∃ b o0 n, pr r = some (b, o0, n) ∧ o < n ∧ G.φ 1 (bs r + o) k) ∨ ∃ j, ow r = some j ∧ o = 0 ∧ G.φ 1 j k⟩
theorem Gh.into_hand {G : Gh} {pr : Nat → Option (Nat × Nat × Nat)} {bs : Nat → Nat} {ow : Nat → Option Nat} {xs : List Value} {r o k : Nat} (h : (G.into pr bs ow xs).φ r o k) : ∃ j, G.φ 1 j k := by
  rcases h with ⟨_, _, _, _, _, h⟩ | ⟨_, _, _, h⟩ <;> exact ⟨_, h⟩

section
variable {P : Program} {M : Fm} {σ σ' : St} {H : List TV} {xs : List Value} {ts : Array Value} {w : World} {G : Gh}
variable {pr : Nat → Option (Nat × Nat × Nat)} {bs : Nat → Nat} {ce : List (Nat × List TV)} {ow : Nat → Option Nat}

theorem Hands.F (hh : Hands H xs w G M.A pr bs ce ow) {N k : Nat} (h : G.F M.A k) : (G.into pr bs ow xs).F (M.into w G pr N).A k :=
  ⟨.inl h, fun r o hφ => by obtain ⟨j, h3⟩ := Gh.into_hand hφ; exact h.2.1 _ _ h3, fun r b o n hb e => hh.notF r b o n hb (e ▸ h)⟩
theorem cell_block {w : World} {b o : Nat} {v : Value} (h : w.cell? ⟨b, o, none⟩ = some v) : ∃ cur e fz, w.heap[b]? = some (.cells cur e fz) ∧ o < cur.size ∧ cur[o]? = some v := by
  unfold World.cell? at h
  simp only at h
  split at h
  · rename_i cur e fz hb
    simp at h
    refine ⟨cur, e, fz, hb, ?_, h⟩
    exact (Array.getElem?_eq_some_iff.1 h).1
  · simp at h

theorem Inv.enter (hI : Inv M σ H xs ts w G) (hh : Hands H xs w G M.A pr bs ce ow) {tm : List (Nat × TV)} {ts' : Array Value} {N : Nat} (hN : ts'.size = N)
    (ht : ∀ i, TmR w ((G.into pr bs ow xs).F (M.into w G pr N).A) (fun _ => 0) (extC (M.into w G pr N) ⟨tm, ce, []⟩ []) (G.into pr bs ow xs) ((aget tm i).getD .dead) (ts'.getD i undef)) :
    Inv (M.into w G pr N) ⟨tm, ce, []⟩ [] [] ts' w (G.into pr bs ow xs) := by
  have hev : ∀ r b o n, pr r = some (b, o, n) → r ≠ 1 := fun r b o n h e => by have := (hh.even r b o n h).1; omega
  have hno : ∀ r b o n, pr r = some (b, o, n) → ow r = none := fun r b o n h => by
    cases e : ow r with
    | none => rfl
    | some j => have := (hh.even r b o n h).1; have := (hh.owc r j e).1; omega
  have hne : ∀ r l, aget ce r = some l → r ≠ 1 := by
    intro r l h
    rcases hh.only r l h with h1 | h1
    · cases hp : pr r with
      | none => exact absurd hp h1
      | some x => exact hev r _ _ _ hp
    · cases hp : ow r with
      | none => exact absurd hp h1
      | some j => exact (hh.owc r j hp).2.1
  have hcell : ∀ r o, extC (M.into w G pr N) ⟨tm, ce, []⟩ [] r o = match aget ce r with | some l => l.getD o .dead | none => .dead := by
    intro r o
    unfold extC
    split
    · rename_i e
      cases hc : aget ce r with
      | none => simp
      | some l => exact absurd e (hne r l hc)
    · rfl
  refine ⟨⟨fun r o => ?_, fun r b o0 n hb => ?_, fun r b o0 n hb o ho => ?_, fun r r' b o n o' n' h1 h2 => hh.inj r b o n r' o' n' h1 h2, fun r b o n hb r' o' hφ => by obtain ⟨j, h3⟩ := Gh.into_hand hφ; exact hh.notH r b o n hb _ h3, fun r1 o1 r2 o2 k hk1 hk2 => ?_, fun r o k hφ => .inr (.inl (Gh.into_hand hφ))⟩, ht, ?_, fun r l h => hne r l h, hN, rfl, fun j hj => by simp at hj, fun r b o n hb l hl => ?_⟩
  · rw [hcell]
    cases hc : aget ce r with
    | none =>
      left
      refine ⟨rfl, fun k hk => ?_⟩
      rcases hk with ⟨b1, p1, n1, h1, h2, h3⟩ | ⟨j, h1, _⟩
      · obtain ⟨l, h4, _⟩ := hh.cells r _ _ _ h1
        rw [hc] at h4; simp at h4
      · obtain ⟨_, _, c, _, h4, _⟩ := hh.owc r j h1
        rw [hc] at h4; simp at h4
    | some l =>
      cases hp : pr r with
      | none =>
        obtain ⟨j, hj⟩ : ∃ j, ow r = some j := by
          rcases hh.only r l hc with h1 | h1
          · exact absurd hp h1
          · cases e : ow r with
            | none => exact absurd e h1
            | some j => exact ⟨j, rfl⟩
        obtain ⟨_, _, c, hjl, h4, h5⟩ := hh.owc r j hj
        rw [hc] at h4
        injection h4 with h4
        subst h4
        cases o with
        | zero =>
          right
          have hown := hI.hand_own hjl (by rw [h5]; simp)
          have hval : (G.into pr bs ow xs).val w r 0 = xs.getD j undef := by
            unfold Gh.val Gh.into
            simp only [hp, hj]
          rw [hval]
          simp only [List.getD_cons_zero]
          rw [h5] at hown
          refine (hown.frame (fun _ _ => rfl) (fun _ _ _ => rfl) fun k hk _ => hh.F hk).refp fun k => ?_
          constructor
          · intro hk; exact .inr ⟨j, hj, rfl, hk⟩
          · rintro (⟨b1, p1, n1, h1, _, _⟩ | ⟨j', h1, _, hk⟩)
            · rw [hp] at h1; simp at h1
            · rw [hj] at h1; injection h1 with h1; rw [h1]; exact hk
        | succ o =>
          left
          refine ⟨by simp, fun k hk => ?_⟩
          rcases hk with ⟨b1, p1, n1, h1, _, _⟩ | ⟨j', _, h1, _⟩
          · rw [hp] at h1; simp at h1
          · omega
      | some x =>
        obtain ⟨b, o0, n⟩ := x
        obtain ⟨l', h4, h5, h6⟩ := hh.cells r _ _ _ hp
        rw [hc] at h4
        injection h4 with h4
        subst h4
        by_cases ho : o < l.length
        · right
          obtain ⟨h7, h8, h9⟩ := h6 o ho
          have hown := hI.hand_own h7 (by rw [← h8]; exact h9)
          have hval : (G.into pr bs ow xs).val w r o = xs.getD (bs r + o) undef := by
            unfold Gh.val Gh.into
            simp only [hp]
            rw [(hh.here r _ _ _ hp o (by omega)).1]
            rfl
          rw [hval]
          have e : l.getD o .dead = l[o] := by simp [ho]
          simp only [e]
          rw [h8]
          refine (hown.frame (fun _ _ => rfl) (fun _ _ _ => rfl) fun k hk _ => hh.F hk).refp fun k => ?_
          constructor
          · intro hk; exact .inl ⟨b, o0, n, hp, by omega, hk⟩
          · rintro (⟨_, _, _, _, _, hk⟩ | ⟨j', h1, _, _⟩)
            · exact hk
            · rw [hno r _ _ _ hp] at h1; simp at h1
        · left
          refine ⟨by simp only []; rw [List.getD_eq_getElem?_getD, List.getElem?_eq_none (by omega)]; rfl, fun k hk => ?_⟩
          rcases hk with ⟨b1, p1, n1, h1, h2, h3⟩ | ⟨j', h1, _, _⟩
          · rw [hp] at h1
            injection h1 with h1
            injection h1 with _ h1
            injection h1 with _ h1
            omega
          · rw [hno r _ _ _ hp] at h1; simp at h1
  · have hn := (hh.even r _ _ _ hb).2
    have hb' : pr r = some (b, o0, n) := hb
    obtain ⟨cur, e, fz, h1, h2, h3⟩ := cell_block (hh.here r _ _ _ hb' (n - 1) (by omega)).1
    exact ⟨cur, e, fz, h1, by omega, fun j hj => (hh.here r _ _ _ hb' j hj).2⟩
  · have hb' : pr r = some (b, o0, n) := hb
    rw [hcell]
    obtain ⟨l, h1, h2, _⟩ := hh.cells r _ _ _ hb'
    rw [h1]
    show l.getD o .dead = .dead
    rw [List.getD_eq_getElem?_getD, List.getElem?_eq_none (by omega)]; rfl
  · rcases hk1 with ⟨b1, p1, n1, h1, h2, h3⟩ | ⟨j1, h1, h2, h3⟩ <;> rcases hk2 with ⟨b2, p2, n2, k1, k2, k3⟩ | ⟨j2, k1, k2, k3⟩
    · obtain ⟨_, h5⟩ := hI.core.dis _ _ _ _ k h3 k3
      have := hh.apart _ _ _ _ _ _ _ _ h1 k1 _ _ h2 k2 h5
      subst this
      exact ⟨rfl, by omega⟩
    · obtain ⟨_, h5⟩ := hI.core.dis _ _ _ _ k h3 k3
      exact absurd h5 (hh.owa _ _ _ _ _ _ k1 h1 _ h2)
    · obtain ⟨_, h5⟩ := hI.core.dis _ _ _ _ k h3 k3
      exact absurd h5.symm (hh.owa _ _ _ _ _ _ h1 k1 _ k2)
    · obtain ⟨_, h5⟩ := hI.core.dis _ _ _ _ k h3 k3
      subst h5
      exact ⟨hh.owi _ _ _ h1 k1, by omega⟩
  · refine ⟨rfl, rfl, rfl, Nat.le_refl _, fun _ _ _ _ => rfl, fun r b o n hp => ⟨hp, ?_⟩, fun r o k hφ => .inl (Gh.into_hand hφ), fun r b o n hb => .inl hb, fun r hb => ?_⟩
    · have hn := (hh.even r _ _ _ hp).2
      obtain ⟨cur, e, fz, h1, h2, h3⟩ := cell_block (hh.here r _ _ _ hp (n - 1) (by omega)).1
      exact ⟨cur, cur, e, fz, h1, h1, rfl, fun _ _ => rfl⟩
    · cases hp : pr r with
      | none => exact absurd hp hb
      | some x => exact (hh.even r _ _ _ hp).1
  · obtain ⟨l', h1, h2, _⟩ := hh.cells r _ _ _ hb
    have hl' : aget ce r = some l := hl
    rw [hl'] at h1
    injection h1 with h1
    rw [h1]; exact h2
end
end Go.Proofs.Ytkmbahlpmoljpaa
/- Back from another function; no condition. -/
set_option linter.unusedVariables false
set_option linter.unusedSimpArgs false
namespace Go.Proofs.Ytkmbahlpmoljpaa
open Go.RowKit

/-- What comes back, in hand: first what the function handed back, then what the variables hold. -/
structure Hands2 (H2 : List TV) (ys : List Value) (H' : List TV) (xs' : List Value) (C2 : Cs) (G2 : Gh) (w2 : World) (pr : Nat → Option (Nat × Nat × Nat)) (bs : Nat → Nat) : Prop where
  len : H'.length = xs'.length
  low : ∀ j (h : j < H2.length), ∃ h' : j < H'.length, H'[j] = H2[j] ∧ xs'.getD j undef = ys.getD j undef
  cells : ∀ r b o n, pr r = some (b, o, n) → ∀ t, t < n → ∃ h : bs r + t < H'.length, H2.length ≤ bs r + t ∧ H'[bs r + t] = C2 r t ∧ xs'.getD (bs r + t) undef = G2.val w2 r t
  cover : ∀ j, j < H'.length → j < H2.length ∨ ∃ r b o n t, pr r = some (b, o, n) ∧ t < n ∧ j = bs r + t
  apart : ∀ r b o n r' b' o' n', pr r = some (b, o, n) → pr r' = some (b', o', n') → ∀ j j', j < n → j' < n' → bs r + j = bs r' + j' → r = r'

section
variable {P : Program} {M : Fm} {σ σ2 : St} {H H2 H' : List TV} {xs ys xs' : List Value} {ts ts2 : Array Value} {w w2 w' : World} {G G2 : Gh}
variable {pr : Nat → Option (Nat × Nat × Nat)} {bs bs2 : Nat → Nat} {ce : List (Nat × List TV)} {N : Nat} {ow : Nat → Option Nat}

theorem Inv.leave (hI : Inv M σ H xs ts w G) (hh : Hands H xs w G M.A pr bs ce ow) (h2 : Inv (M.into w G pr N) σ2 H2 ys ts2 w2 G2) (hb2 : Hands2 H2 ys H' xs' (extC (M.into w G pr N) σ2 H2) G2 w2 pr bs2)
    (hs : w'.heap.size = w2.heap.size) (ho : w'.os = w2.os) (htp : w'.tape = w2.tape) (hu : w'.output = w2.output) (hsame : ∀ k, (∀ r b o n, pr r = some (b, o, n) → k ≠ b) → w'.heap[k]? = w2.heap[k]?)
    (hback : ∀ r b o n, pr r = some (b, o, n) → w'.heap[b]? = w.heap[b]?) : ∃ G', Inv M σ H' xs' ts w' G' ∧ Moves M w σ H G w' σ H' G' ∧ G'.β = G.β := by
  have hFr := h2.fram
  let f : Nat → Nat → Prop := fun j k => (j < H2.length ∧ G2.φ 1 j k) ∨ ∃ r b o n t, pr r = some (b, o, n) ∧ t < n ∧ j = bs2 r + t ∧ G2.φ r t k
  have hfφ : ∀ j k, f j k → ∃ r o, G2.φ r o k := by
    rintro j k (⟨_, h⟩ | ⟨r, b, o, n, t, _, _, _, h⟩)
    · exact ⟨_, _, h⟩
    · exact ⟨_, _, h⟩
  have hβ2 : ∀ r b o n, pr r = some (b, o, n) → G2.β r = some (b, o, n) := fun r b o n h => (hFr.par r b o n h).1
  have hr1 : ∀ r b o n, pr r = some (b, o, n) → r ≠ 1 := fun r b o n h e => by have := (hh.even r b o n h).1; omega
  have hφw : ∀ r o k, G2.φ r o k → w'.heap[k]? = w2.heap[k]? := fun r o k h => hsame k fun r' b o' n hp e => h2.core.boxf r' b o' n (hβ2 _ _ _ _ hp) _ _ (e ▸ h)
  have hFw : ∀ k, G2.F (M.into w G pr N).A k → w'.heap[k]? = w2.heap[k]? := fun k h => hsame k fun r' b o' n hp e => h.2.2 r' b o' n (hβ2 _ _ _ _ hp) e
  obtain ⟨G', a1, a2, a3, _⟩ := hI.rehandL (w' := w') (H' := H') (xs' := xs') (f := f) (Fx := G2.F (M.into w G pr N).A)
    (fun k hk hn => by
      by_cases hp : ∃ r b o n, pr r = some (b, o, n) ∧ k = b
      · obtain ⟨r, b, o, n, hp, rfl⟩ := hp
        exact hback r k o n hp
      · have hp' : ∀ r b o n, pr r = some (b, o, n) → k ≠ b := fun r b o n h e => hp ⟨r, b, o, n, h, e⟩
        rw [hsame k hp']
        exact hFr.old k hk (fun ⟨j, hj⟩ => hn j hj) hp')
    (by rw [hs]; exact hFr.size) (ho.trans hFr.os) (htp.trans hFr.tape) (hu.trans hFr.output) hb2.len
    (fun j k h => by
      refine ⟨?_, ?_⟩
      · rcases h with ⟨h, _⟩ | ⟨r, b, o, n, t, hp, ht, rfl, _⟩
        · exact (hb2.low j h).1
        · exact (hb2.cells r b o n hp t ht).1
      · obtain ⟨r, o, hφ⟩ := hfφ j k h
        exact hFr.own r o k hφ)
    (fun j j' k h h' => by
      rcases h with ⟨h1, h3⟩ | ⟨r, b, o, n, t, hp, ht, rfl, h3⟩
      · rcases h' with ⟨k1, k3⟩ | ⟨r', b', o', n', t', hp', ht', rfl, k3⟩
        · exact (h2.core.dis _ _ _ _ k h3 k3).2
        · exact absurd (h2.core.dis _ _ _ _ k h3 k3).1.symm (hr1 _ _ _ _ hp')
      · rcases h' with ⟨k1, k3⟩ | ⟨r', b', o', n', t', hp', ht', rfl, k3⟩
        · exact absurd (h2.core.dis _ _ _ _ k h3 k3).1 (hr1 _ _ _ _ hp)
        · obtain ⟨e1, e2⟩ := h2.core.dis _ _ _ _ k h3 k3
          rw [e1, e2])
    (fun k h => ⟨h.1, fun j hf => by obtain ⟨r, o, hφ⟩ := hfφ j k hf; exact h.2.1 r o hφ⟩)
    (fun j hj => by
      rcases hb2.cover j hj with h | ⟨r, b, o, n, t, hp, ht, rfl⟩
      · obtain ⟨_, e1, e2⟩ := hb2.low j h
        have hno : ∀ k, f j k ↔ G2.φ 1 j k := fun k => by
          constructor
          · rintro (⟨_, h⟩ | ⟨r, b, o, n, t, hp, ht, e, _⟩)
            · exact h
            · have := (hb2.cells r b o n hp t ht).2.1; omega
          · exact fun hk => .inl ⟨h, hk⟩
        by_cases hd : H2[j] = .dead
        · left
          refine ⟨e1.trans hd, fun k hk => ?_⟩
          refine h2.phi_dead (r := 1) (o := j) ?_ k ((hno k).1 hk)
          rw [show (1 : Nat) = (M.into w G pr N).hr from rfl, extC_hr]
          simp [h, hd]
        · right
          have := h2.hand_own h hd
          rw [e1, e2]
          exact (this.frame (fun k hk => hφw _ _ k hk) (fun k hk _ => hFw k hk) fun k hk _ => hk).refp fun k => (hno k).symm
      · obtain ⟨h1, h3, h4, h5⟩ := hb2.cells r b o n hp t ht
        have hno : ∀ k, f (bs2 r + t) k ↔ G2.φ r t k := fun k => by
          constructor
          · rintro (⟨h, _⟩ | ⟨r', b', o', n', t', hp', ht', e, hk⟩)
            · omega
            · have := hb2.apart _ _ _ _ _ _ _ _ hp hp' _ _ ht ht' e
              subst this
              have : t = t' := by omega
              subst this
              exact hk
          · exact fun hk => .inr ⟨r, b, o, n, t, hp, ht, rfl, hk⟩
        rw [h4, h5]
        rcases h2.core.cell r t with ⟨c1, c2⟩ | c1
        · left; exact ⟨c1, fun k hk => c2 k ((hno k).1 hk)⟩
        · right
          exact (c1.frame (fun k hk => hφw _ _ k hk) (fun k hk _ => hFw k hk) fun k hk _ => hk).refp fun k => (hno k).symm)
  exact ⟨G', a1, a2, a3⟩
end
end Go.Proofs.Ytkmbahlpmoljpaa
/- A call on trees: the arguments; no condition. -/
set_option linter.unusedVariables false
set_option linter.unusedSimpArgs false
namespace Go.Proofs.Ytkmbahlpmoljpaa
open Go.RowKit

/-- A value that can be handed over as it is. -/
def isArg : TV → Bool
  | .v _ => true
  | .sl _ => true
  | .ip _ => true
  | .ow [] => true
  | .fn _ [] => true
  | .agg l => l.all fun t => match t with | .v _ => true | .sl _ => true | _ => false
  | _ => false
def isNm : TV → Bool
  | .pk _ _ => true
  | .ow [] => true
  | _ => false
def argV (x : Option Nat × Opd) : SP TV := (opd x.2).bind fun t => if x.1 == some 0 && isNm t then .ret t else match t with
  | .ip cs => .ret (.ip cs)
  | .fn f cap => .ret (.fn f cap)
  | .ptr p vs => .ret (.ptr p vs)
  | t => (takeV false t).bind fun l => .ret (shaped l.2 (l.1.map TV.imm))
def argVs : List (Option Nat × Opd) → SP (List TV)
  | [] => .ret []
  | x :: r => (argV x).bind fun t => (argVs r).bind fun l => .ret (t :: l)
/-- Slices that are handed over for good: what they are taken out of no longer has them. -/
def takeOwns : Nat → List (Option Nat × TV) → SP (List (Nat × TV))
  | _, [] => .ret []
  | i, (some 0, .pk p vs) :: r => (take1 true (.pk p vs)).bind fun t => if isOw t then (takeOwns (i + 1) r).bind fun q => .ret ((i, t) :: q) else .fail
  | i, _ :: r => takeOwns (i + 1) r

/-- A pointer that is handed over, with what it leads to. -/
structure GP where
  i : Nat
  p : Place
  vs : List Nat
  cells : List TV
def grabL (p : Place) : Nat → SP (List TV)
  | 0 => .ret []
  | n + 1 => (getPl p).bind fun t => (peek1 p t).bind fun t' => (take1 true t').bind fun t2 => match n with
    | 0 => .ret [t2]
    | _ => if p.fits 1 then (grabL (p.add 1) n).bind fun r => .ret (t2 :: r) else .fail
def grabs : Nat → List (Option Nat × TV) → SP (List GP)
  | _, [] => .ret []
  | i, (some n, .ptr p vs) :: r => (chk p p.hops.length vs).bind fun _ => (grabL p n).bind fun l => (grabs (i + 1) r).bind fun q => .ret (⟨i, p, vs, l⟩ :: q)
  | i, (some 0, .pk _ _) :: r => grabs (i + 1) r
  | i, (_, t) :: r => if isArg t then grabs (i + 1) r else .fail
/-- The variable is there. -/
def touch (p : Place) : SP Unit := .rdC p.root p.off fun tv => .wrC p.root p.off tv (.ret ())
def rechk : List GP → SP Unit
  | [] => .ret ()
  | g :: r => (chk g.p g.p.hops.length g.vs).bind fun _ => (touch g.p).bind fun _ => rechk r
def nodupN : List Nat → Bool
  | [] => true
  | x :: r => !r.contains x && nodupN r

def argT (i : Nat) : TV → TV
  | .ptr _ _ => .ptr ⟨2 * i + 2, 0, []⟩ [0]
  | .pk _ _ => .pk ⟨2 * i + 3, 0, []⟩ [0, 0]
  | t => t
def argTs : Nat → List TV → List TV
  | _, [] => []
  | i, t :: r => argT i t :: argTs (i + 1) r
def numbered {α : Type} : Nat → List α → List (Nat × α)
  | _, [] => []
  | i, t :: r => (i, t) :: numbered (i + 1) r
/-- How a function begins. -/
def mkSt (vals : List TV) (pts : Pts) : St := ⟨numbered 0 vals, pts, []⟩
def isDead : TV → Bool
  | .dead => true
  | _ => false
/-- What the pointers lead to, put back, the last one first. -/
def putBack : List (GP × List TV) → SP Unit
  | [] => .ret ()
  | (g, l) :: r => (putBack r).bind fun _ => if l.length = g.cells.length && l.all fun t => !isDead t then putL g.p l else .fail

def shapeR : List RSh → List TV → List TV
  | [], _ => []
  | .one :: r, l => l.headD .dead :: shapeR r l.tail
  | .agg n :: r, l => .agg (l.take n) :: shapeR r (l.drop n)
  | .ptr _ :: r, l => .dead :: shapeR r l
def shapeT (sh : List RSh) (l : List TV) : TV :=
  match shapeR sh l with
  | [x] => x
  | l => .tup l
def rshOk : List RSh → Nat → Bool
  | [], n => n == 0
  | .one :: r, n => decide (0 < n) && rshOk r (n - 1)
  | .agg m :: r, n => decide (m ≤ n) && rshOk r (n - m)
  | .ptr _ :: _, _ => false
def landR (dst : Option Nat) (res : TRes) : SP Unit :=
  match dst with
  | some d => (names d res.cells).bind fun l => wr d (shapeT res.sh l)
  | none => .ret ()
def callV (F : Callee) (dst : Option Nat) (f : FuncId) (ns : List (Option Nat)) (vals : List TV) : SP Unit :=
  (takeOwns 0 (ns.zip vals)).bind fun ow => (grabs 0 (ns.zip vals)).bind fun q => (rechk q).bind fun _ =>
    if nodupN (q.map (·.p.root)) && q.all (fun g => decide (0 < g.cells.length)) then
      (spOpt (F f (argTs 0 vals) (q.map (fun g => (2 * g.i + 2, g.cells)) ++ ow.map fun x => (2 * x.1 + 3, [x.2])))).bind fun r =>
        if r.2.map (·.1) = q.map (fun g => 2 * g.i + 2) ++ ow.map (fun x => 2 * x.1 + 3) && rshOk r.1.sh r.1.cells.length then (putBack (q.zip (r.2.map (·.2)))).bind fun _ => landR dst r.1 else .fail
    else .fail
/-- What a function that only makes a variable puts into it. -/
inductive BxC where
  | arg (i : Nat)
  | val (x : Value)
/-- Functions that only make a variable; how many cells captured pointers lead to (a hint). -/
structure Env where
  box : FuncId → Option (Nat × List BxC)
  ps : FuncId → List (Option Nat)
def bxT (vals : List TV) : BxC → TV
  | .arg i => vals.getD i .dead
  | .val x => .v x
def bxV (as : List Value) : BxC → Value
  | .arg i => as.getD i undef
  | .val x => x
def evBox (dst : Option Nat) (tm : List BxC) (vals : List TV) : SP Unit :=
  match dst with
  | some d => (takeL false (tm.map (bxT vals))).bind fun l => .new (2 * d + 2) l (.rdV (2 * d + 2, 0, 0) fun g => wr d (.ptr ⟨2 * d + 2, 0, []⟩ [g]))
  | none => .fail
def capNs (E : Env) (f : FuncId) (n m : Nat) : List (Option Nat) := (List.range m).map fun k => (E.ps f).getD (n + k) none
/-- A value as it is read, without being handed over. -/
def see1 : TV → SP TV
  | .v x => .ret (.v x)
  | .sl c => .ret (.sl c)
  | .ow [] => .ret (.sl [])
  | .pk p vs => (chk p (p.hops.length + 1) vs).bind fun _ => .rdC p.root p.off fun tv => match getT tv p.hops with | some (.ow c) => .ret (TV.ow c).imm | _ => .fail
  | _ => .fail
def seeL : List TV → SP (List TV)
  | [] => .ret []
  | t :: r => (see1 t).bind fun t' => (seeL r).bind fun l => .ret (t' :: l)
def seeA : TV → SP TV
  | .agg l => (seeL l).bind fun l' => .ret (.agg l')
  | .ip cs => .ret (.ip cs)
  | .fn f cap => match cap with | [] => .ret (.fn f []) | _ :: _ => .fail
  | t => see1 t
def seeAs : List Opd → SP (List TV)
  | [] => .ret []
  | x :: r => (opd x).bind fun t => (seeA t).bind fun t' => (seeAs r).bind fun l => .ret (t' :: l)
def isFV : TV → Bool
  | .v x => vflat x
  | _ => false
/-- A call that only looks at what is handed over, and hands back flat cells. -/
def callB (F : Callee) (dst : Option Nat) (f : FuncId) (vals : List TV) : SP Unit :=
  (spOpt (F f vals [])).bind fun r => if r.2.length = 0 && r.1.cells.all isFV && rshOk r.1.sh r.1.cells.length then (match dst with | some d => wr d (shapeT r.1.sh r.1.cells) | none => .ret ()) else .fail
def evCall (E : Env) (F : Callee) (dst : Option Nat) : TOp → SP Unit
  | .call k (.f f) args =>
    if k then (argVs args).bind fun vals => match E.box f with
      | some x => if vals.length = x.1 then evBox dst x.2 vals else .fail
      | none => callV F dst f (args.map (·.1)) vals
    else (seeAs (args.map (·.2))).bind fun vals => callB F dst f vals
  | .call _ (.t i) args => .rdT i fun t => match t with
    | .fn f caps => (argVs args).bind fun vals => callV F dst f (args.map (·.1) ++ capNs E f args.length caps.length) (vals ++ caps)
    | _ => .fail
  | _ => .fail

section
variable {P : Program} {M : Fm} {σ σ' : St} {H : List TV} {xs : List Value} {ts : Array Value} {w : World} {G : Gh} {a : Act} {o : Oper}

theorem argV_ok (hI : Inv M σ [] [] a.tmps w G) {x : Option Nat × Opd} {x' : Operand} (hx : compOpd x' = some x.2) {t : TV} (hr : (argV x).run σ = some (t, σ')) :
    ∃ G', Goes M w a.tmps σ [] G σ' [] [] G' ∧ TmR w (G'.F M.A) σ'.v (extC M σ' []) G' t (a.eval x') := by
  unfold argV at hr
  obtain ⟨t0, σ1, h1, h2⟩ := SP.run_bind_some hr
  obtain ⟨rfl, ht⟩ := opd_ok hI.tmr hx h1
  have gen : ∀ (l : List TV × Bool) (σ2 : St), (takeV false t0).run σ1 = some (l, σ2) → t = shaped l.2 (l.1.map TV.imm) → σ' = σ2 → ∃ G', Goes M w a.tmps σ1 [] G σ' [] [] G' ∧ TmR w (G'.F M.A) σ'.v (extC M σ' []) G' t (a.eval x') := by
    rintro l σ2 h3 rfl rfl
    obtain ⟨xs, G1, hg, hsh, hok, hone⟩ := takeV_ok hI ht h3
    obtain ⟨G2, hg2, himm⟩ := hg.1.dropImm (cell_nd hok)
    refine ⟨G2, hg.trans hg2, ?_⟩
    have hlen := hg.1.hand
    rcases hsh with ⟨e1, e2⟩ | ⟨e1, y, e2, e3⟩
    · rw [e1, e2]
      simp only [shaped, if_true]
      refine .agg (by simp [hlen]) fun j hj => ?_
      have hj' : j < l.1.length := by simpa using hj
      have := himm j hj'
      simp only [List.getElem_map]
      have e : xs.toArray.getD j undef = xs.getD j undef := by simp [Array.getD_eq_getD_getElem?, List.getD_eq_getElem?_getD]
      rw [e]
      exact this.toTm
    · rw [e1, e3]
      subst e2
      have hl1 : l.1.length = 1 := by simpa using hlen
      obtain ⟨t1, ht1⟩ : ∃ t1, l.1 = [t1] := List.length_eq_one_iff.1 hl1
      have := himm 0 (by omega)
      simp only [ht1, List.getElem_cons_zero, List.getD_cons_zero] at this
      simp only [ht1, shaped, List.map_cons, List.map_nil, List.headD_cons]
      exact this.toTm
  have keepit : t = t0 → σ' = σ1 → ∃ G', Goes M w a.tmps σ1 [] G σ' [] [] G' ∧ TmR w (G'.F M.A) σ'.v (extC M σ' []) G' t (a.eval x') := by
    rintro rfl rfl
    exact ⟨G, Goes.refl hI, ht⟩
  split at h2
  · simp only [SP.run, Option.some.injEq, Prod.mk.injEq] at h2
    exact keepit h2.1.symm h2.2.symm
  cases t0 with
  | ip cs =>
    simp only [SP.run, Option.some.injEq, Prod.mk.injEq] at h2
    exact keepit h2.1.symm h2.2.symm
  | fn f cap =>
    simp only [SP.run, Option.some.injEq, Prod.mk.injEq] at h2
    exact keepit h2.1.symm h2.2.symm
  | ptr p vs =>
    simp only [SP.run, Option.some.injEq, Prod.mk.injEq] at h2
    exact keepit h2.1.symm h2.2.symm
  | _ =>
    simp only at h2
    obtain ⟨l, σ2, h3, h4⟩ := SP.run_bind_some h2
    simp only [SP.run, Option.some.injEq, Prod.mk.injEq] at h4
    exact gen l σ2 h3 h4.1.symm h4.2.symm

theorem argVs_ok : ∀ {l : List (Option Nat × Opd)} {l' : List Operand} {ts' : List TV} {σ σ' : St} {G : Gh}, Inv M σ [] [] a.tmps w G → l'.length = l.length → (∀ j (h : j < l.length) (h' : j < l'.length), compOpd l'[j] = some l[j].2) → (argVs l).run σ = some (ts', σ') →
    ∃ G', Goes M w a.tmps σ [] G σ' [] [] G' ∧ ts'.length = l.length ∧ ∀ j (h : j < ts'.length) (h' : j < l'.length), TmR w (G'.F M.A) σ'.v (extC M σ' []) G' ts'[j] (a.eval l'[j]) := by
  intro l
  induction l with
  | nil =>
    intro l' ts' σ σ' G hI hl hc hr
    simp only [argVs, SP.run, Option.some.injEq, Prod.mk.injEq] at hr
    obtain ⟨rfl, rfl⟩ := hr
    exact ⟨G, Goes.refl hI, rfl, fun j h => by simp at h⟩
  | cons x l ih =>
    intro l' ts' σ σ' G hI hl hc hr
    cases l' with
    | nil => simp at hl
    | cons x' l' =>
      simp only [argVs] at hr
      obtain ⟨t, σ1, h1, h2⟩ := SP.run_bind_some hr
      obtain ⟨r, σ2, h3, h4⟩ := SP.run_bind_some h2
      simp only [SP.run, Option.some.injEq, Prod.mk.injEq] at h4
      obtain ⟨rfl, rfl⟩ := h4
      obtain ⟨G1, hg1, ht1⟩ := argV_ok hI (by have := hc 0 (by simp) (by simp); simpa using this) h1
      obtain ⟨G2, hg2, e, hts⟩ := ih (l' := l') hg1.1 (by simpa using hl) (fun j h h' => by have := hc (j + 1) (by simpa using h) (by simpa using h'); simpa using this) h3
      refine ⟨G2, hg1.trans hg2, by simp [e], fun j h h' => ?_⟩
      cases j with
      | zero => exact hg2.tm ht1
      | succ j => exact hts j (by simpa using h) (by simpa using h')
end
end Go.Proofs.Ytkmbahlpmoljpaa
/- A call on trees: what pointers lead to, taken in hand; no condition. -/
set_option linter.unusedVariables false
set_option linter.unusedSimpArgs false
namespace Go.Proofs.Ytkmbahlpmoljpaa
open Go.RowKit

section
variable {P : Program} {M : Fm} {σ σ' : St} {H : List TV} {xs : List Value} {ts : Array Value} {w : World} {G : Gh} {a : Act} {o : Oper}

theorem take1_vers {t t' t2 : TV} {p : Place} {y : TV × St} (hp : (peek1 p t).run σ = some (t', σ')) (hr : (take1 true t').run σ = some y) : vers y.2.v p.root p.off p.hops.length = vers σ.v p.root p.off p.hops.length := by
  cases t with
  | v x =>
    simp only [peek1, SP.run, Option.some.injEq, Prod.mk.injEq] at hp
    obtain ⟨rfl, rfl⟩ := hp
    simp only [take1, SP.run, Option.some.injEq] at hr
    rw [← hr]
  | sl c =>
    simp only [peek1, SP.run, Option.some.injEq, Prod.mk.injEq] at hp
    obtain ⟨rfl, rfl⟩ := hp
    simp only [take1, SP.run, Option.some.injEq] at hr
    rw [← hr]
  | ow c =>
    simp only [peek1] at hp
    obtain ⟨vs, σ1, h1, h2⟩ := SP.run_bind_some hp
    simp only [SP.run, Option.some.injEq, Prod.mk.injEq] at h2
    obtain ⟨rfl, _⟩ := h2
    simp only [take1] at hr
    obtain ⟨_, σ2, h3, h4⟩ := SP.run_bind_some hr
    have e1 : σ2 = σ := (chk_run h3).1
    subst e1
    simp only [SP.run] at h4
    split at h4
    · simp only [if_true] at h4
      obtain ⟨l, hl, ho, h5⟩ := SP.run_wrC h4
      simp only [SP.run, Option.some.injEq] at h5
      rw [vers_eq_iff]
      have hv : ∀ q, y.2.v q = σ2.v q + if (p.root, p.off, p.hops.length + 1) = q then 1 else 0 := fun q => by rw [← h5]; exact vget_vinc σ2.vr _ q
      refine ⟨by rw [hv]; simp, fun d hd => ?_⟩
      rw [hv, if_neg]
      · omega
      · intro e
        injection e with _ e
        injection e with _ e
        omega
    · simp [SP.run] at h4
  | _ => simp [peek1, SP.run] at hp

theorem grabL_ok : ∀ {n : Nat} {p : Place} {ad : Addr} {l : List TV} {σ σ' : St} {H : List TV} {xs : List Value} {G : Gh}, Inv M σ H xs ts w G → p.root ≠ 1 → G.addr w p = some ad → (grabL p n).run σ = some (l, σ') →
    l.length = n ∧ ∃ us G', Goes M w ts σ H G σ' (H ++ l) (xs ++ us) G' ∧ us.length = n ∧ (∀ j (h : j < us.length), w.cell? ⟨ad.block, ad.off + j, none⟩ = some us[j] ∧ w.frozen? ⟨ad.block, ad.off + j, none⟩ = false) ∧ ∀ j (h : j < l.length), okCell l[j] = true ∨ isOw l[j] = true := by
  intro n
  induction n with
  | zero =>
    intro p ad l σ σ' H xs G hI h1 ha hr
    simp only [grabL, SP.run, Option.some.injEq, Prod.mk.injEq] at hr
    obtain ⟨rfl, rfl⟩ := hr
    exact ⟨rfl, [], G, by simpa using Goes.refl hI, rfl, fun j h => by simp at h, fun j h => by simp at h⟩
  | succ n ih =>
    intro p ad l σ σ' H xs G hI h1 ha hr
    simp only [grabL] at hr
    obtain ⟨t, σ1, h2, h3⟩ := SP.run_bind_some hr
    obtain ⟨e1, hg⟩ := getPl_run h2
    have e1 : σ1 = σ := e1
    subst e1
    obtain ⟨t', σ2, h4, h5⟩ := SP.run_bind_some h3
    have hd := peek1_dead h4
    obtain ⟨hB, u, fp, hcu, hown, hv⟩ := hI.named h1 ha hg hd
    obtain ⟨rfl, ht'⟩ := peek1_ok hI h1 hg hown hv h4
    obtain ⟨t2, σ3, h6, h7⟩ := SP.run_bind_some h5
    have hvers := take1_vers (t2 := t2) h4 h6
    obtain ⟨G1, hg1, hone⟩ := take1_ok hI ht' h6
    have hgE : getT (extC M σ2 H p.root p.off) p.hops = some t := by rw [extC_ne (by exact h1)]; exact hg
    obtain ⟨u0, fp1, hsp, hcu0, hfr, _⟩ := hI.core.set p hB hgE
    obtain ⟨_, ha1, _⟩ := hg1.2.2.1.ptr p ad t h1 hvers ha hgE
    have had : (⟨ad.block, ad.off + 0, none⟩ : Addr) = ad := by obtain ⟨b, o, s⟩ := ad; simp only at hsp; subst hsp; rfl
    have hcell := take1_cell h6
    cases n with
    | zero =>
      simp only [SP.run, Option.some.injEq, Prod.mk.injEq] at h7
      obtain ⟨rfl, rfl⟩ := h7
      refine ⟨rfl, [u], G1, hg1, rfl, fun j h => ?_, fun j h => ?_⟩
      · obtain rfl : j = 0 := by simp at h; omega
        rw [had]; exact ⟨hcu, hfr⟩
      · obtain rfl : j = 0 := by simp at h; omega
        exact hcell
    | succ n =>
      simp only at h7
      split at h7
      · obtain ⟨r, σ4, h8, h9⟩ := SP.run_bind_some h7
        simp only [SP.run, Option.some.injEq, Prod.mk.injEq] at h9
        obtain ⟨rfl, rfl⟩ := h9
        obtain ⟨e2, us, G2, hg2, e3, e4, e5⟩ := ih hg1.1 (by rw [Place.add_root]; exact h1) (addr_add 1 ha1) h8
        refine ⟨by simp [e2], u :: us, G2, by simpa using hg1.trans hg2, by simp [e3], fun j h => ?_, fun j h => ?_⟩
        · cases j with
          | zero => rw [had]; exact ⟨hcu, hfr⟩
          | succ j =>
            have := e4 j (by simpa using h)
            simp only [List.getElem_cons_succ]
            rw [show ad.off + (j + 1) = ad.off + 1 + j by omega]
            exact this
        · cases j with
          | zero => exact hcell
          | succ j => exact e5 j (by simpa using h)
      · simp [SP.run] at h7

/-- Arguments, what the pointers among them lead to, and their values. -/
inductive GRel (w : World) : Nat → List TV → List Value → List (GP × Addr) → List Value → Prop
  | nil (i : Nat) : GRel w i [] [] [] []
  | ptr {i : Nat} {p : Place} {vs : List Nat} {cells : List TV} {ad : Addr} {u : List Value} {ts : List TV} {xs : List Value} {K : List (GP × Addr)} {us : List Value} (hr : p.root ≠ 1) (hs : ad.spot = none) (hu : u.length = cells.length)
      (hc : ∀ j (h : j < u.length), w.cell? ⟨ad.block, ad.off + j, none⟩ = some u[j] ∧ w.frozen? ⟨ad.block, ad.off + j, none⟩ = false) (hok : ∀ j (h : j < cells.length), okCell cells[j] = true ∨ isOw cells[j] = true)
      (h : GRel w (i + 1) ts xs K us) : GRel w i (.ptr p vs :: ts) (.pointer (some ad) :: xs) ((⟨i, p, vs, cells⟩, ad) :: K) (u ++ us)
  | arg {i : Nat} {t : TV} {x : Value} {ts : List TV} {xs : List Value} {K : List (GP × Addr)} {us : List Value} (ha : isArg t = true) (h : GRel w (i + 1) ts xs K us) : GRel w i (t :: ts) (x :: xs) K us
  | own {i : Nat} {p : Place} {vs : List Nat} {x : Value} {ts : List TV} {xs : List Value} {K : List (GP × Addr)} {us : List Value} (h : GRel w (i + 1) ts xs K us) : GRel w i (.pk p vs :: ts) (x :: xs) K us
/-- Slices handed over for good, and their values. -/
inductive ORel : Nat → List (Option Nat × TV) → List Value → List (Nat × TV) → List Value → Prop
  | nil (i : Nat) : ORel i [] [] [] []
  | own {i : Nat} {p : Place} {vs : List Nat} {l : List (Option Nat × TV)} {x : Value} {xs : List Value} {c : List (List TV)} {ow : List (Nat × TV)} {zs : List Value} (h : ORel (i + 1) l xs ow zs) : ORel i ((some 0, .pk p vs) :: l) (x :: xs) ((i, .ow c) :: ow) (x :: zs)
  | skip {i : Nat} {y : Option Nat × TV} {l : List (Option Nat × TV)} {x : Value} {xs : List Value} {ow : List (Nat × TV)} {zs : List Value} (h : ORel (i + 1) l xs ow zs) : ORel i (y :: l) (x :: xs) ow zs
theorem takeOwns_skip {i : Nat} {y : Option Nat × TV} {l : List (Option Nat × TV)} (hn : ∀ p vs, y ≠ (some 0, .pk p vs)) : takeOwns i (y :: l) = takeOwns (i + 1) l := by
  obtain ⟨n, t⟩ := y
  cases t with
  | pk p vs =>
    cases n with
    | none => rfl
    | some n =>
      cases n with
      | zero => exact absurd rfl (hn p vs)
      | succ n => rfl
  | _ => cases n with
    | none => rfl
    | some n => cases n <;> rfl
theorem takeOwns_ok : ∀ {l : List (Option Nat × TV)} {as : List Value} {i : Nat} {ow : List (Nat × TV)} {σ σ' : St} {H : List TV} {xs : List Value} {G : Gh}, Inv M σ H xs ts w G → as.length = l.length → (∀ j (h : j < l.length) (h' : j < as.length), TmR w (G.F M.A) σ.v (extC M σ H) G l[j].2 as[j]) → (takeOwns i l).run σ = some (ow, σ') →
    ∃ zs G', Goes M w ts σ H G σ' (H ++ ow.map (·.2)) (xs ++ zs) G' ∧ ORel i l as ow zs ∧ ∀ (j : Nat) (p : Place) (vs : List Nat), l[j]? = some (some 0, TV.pk p vs) → ∃ x ∈ ow, x.1 = i + j := by
  intro l
  induction l with
  | nil =>
    intro as i ow σ σ' H xs G hI hl _ hr
    simp only [takeOwns, SP.run, Option.some.injEq, Prod.mk.injEq] at hr
    obtain ⟨rfl, rfl⟩ := hr
    have : as = [] := List.eq_nil_of_length_eq_zero (by simpa using hl)
    subst this
    exact ⟨[], G, by simpa using Goes.refl hI, .nil i, fun j p vs h => by simp at h⟩
  | cons y l ih =>
    intro as i ow σ σ' H xs G hI hl ht hr
    cases as with
    | nil => simp at hl
    | cons x as =>
      have ht0 := ht 0 (by simp) (by simp)
      simp only [List.getElem_cons_zero] at ht0
      by_cases hp : ∃ p vs, y = (some 0, .pk p vs)
      · obtain ⟨p, vs, rfl⟩ := hp
        simp only [takeOwns] at hr
        obtain ⟨t, σ1, h1, h2⟩ := SP.run_bind_some hr
        split at h2
        case isFalse => simp [SP.run] at h2
        rename_i how
        obtain ⟨q, σ2, h3, h4⟩ := SP.run_bind_some h2
        simp only [SP.run, Option.some.injEq, Prod.mk.injEq] at h4
        obtain ⟨rfl, rfl⟩ := h4
        obtain ⟨c, rfl⟩ : ∃ c, t = .ow c := by cases t <;> simp [isOw] at how; exact ⟨_, rfl⟩
        obtain ⟨G1, hg1, _⟩ := take1_ok hI ht0 h1
        obtain ⟨zs, G2, hg2, k1, k2⟩ := ih (as := as) hg1.1 (by simpa using hl) (fun j h h' => hg1.tm (by have := ht (j + 1) (by simpa using h) (by simpa using h'); simpa only [List.getElem_cons_succ] using this)) h3
        refine ⟨x :: zs, G2, by simpa [List.append_assoc] using hg1.trans hg2, .own k1, fun j p vs h => ?_⟩
        cases j with
        | zero => exact ⟨_, List.mem_cons_self, rfl⟩
        | succ j =>
          obtain ⟨z, h5, h6⟩ := k2 j p vs (by simpa using h)
          exact ⟨z, List.mem_cons_of_mem _ h5, by omega⟩
      · have hn : ∀ p vs, y ≠ (some 0, .pk p vs) := fun p vs e => hp ⟨p, vs, e⟩
        rw [takeOwns_skip hn] at hr
        obtain ⟨zs, G2, hg2, k1, k2⟩ := ih (as := as) hI (by simpa using hl) (fun j h h' => by have := ht (j + 1) (by simpa using h) (by simpa using h'); simpa only [List.getElem_cons_succ] using this) hr
        refine ⟨zs, G2, hg2, .skip k1, fun j p vs h => ?_⟩
        cases j with
        | zero => exact absurd (by simpa using h) (hn p vs)
        | succ j =>
          obtain ⟨z, h5, h6⟩ := k2 j p vs (by simpa using h)
          exact ⟨z, h5, by omega⟩
/-- Names among the arguments are handed over for good. -/
theorem grabs_pk : ∀ {l : List (Option Nat × TV)} {i : Nat} {q : List GP} {σ σ' : St}, (grabs i l).run σ = some (q, σ') → ∀ (j : Nat) (n : Option Nat) (p : Place) (vs : List Nat), l[j]? = some (n, TV.pk p vs) → n = some 0 := by
  intro l
  induction l with
  | nil => intro i q σ σ' _ j n p vs h; simp at h
  | cons y l ih =>
    intro i q σ σ' hr j n p vs h
    obtain ⟨m, t⟩ := y
    cases j with
    | zero =>
      simp only [List.getElem?_cons_zero, Option.some.injEq, Prod.mk.injEq] at h
      obtain ⟨rfl, rfl⟩ := h
      cases m with
      | none => simp [grabs, isArg, SP.run] at hr
      | some m =>
        cases m with
        | zero => rfl
        | succ m => simp [grabs, isArg, SP.run] at hr
    | succ j =>
      have hj : l[j]? = some (n, .pk p vs) := by simpa using h
      have step : ∀ {σ1 σ2 : St} {q1 : List GP}, (grabs (i + 1) l).run σ1 = some (q1, σ2) → n = some 0 := fun h1 => ih h1 j n p vs hj
      have arg : ((if isArg t then grabs (i + 1) l else .fail : SP (List GP))).run σ = some (q, σ') → n = some 0 := by
        intro h1
        split at h1
        · exact step h1
        · simp [SP.run] at h1
      cases t with
      | ptr p2 vs2 =>
        cases m with
        | none => exact arg hr
        | some m =>
          simp only [grabs] at hr
          obtain ⟨_, σ1, h1, h2⟩ := SP.run_bind_some hr
          obtain ⟨cells, σ2, h3, h4⟩ := SP.run_bind_some h2
          obtain ⟨q1, σ3, h5, h6⟩ := SP.run_bind_some h4
          exact step h5
      | pk p2 vs2 =>
        cases m with
        | none => exact arg hr
        | some m =>
          cases m with
          | zero => exact step hr
          | succ m => exact arg hr
      | _ => cases m with
        | none => exact arg hr
        | some m => cases m <;> exact arg hr

theorem grabs_ok : ∀ {l : List (Option Nat × TV)} {as : List Value} {i : Nat} {q : List GP} {σ σ' : St} {H : List TV} {xs : List Value} {G : Gh}, Inv M σ H xs ts w G → as.length = l.length → (∀ j (h : j < l.length) (h' : j < as.length), TmR w (G.F M.A) σ.v (extC M σ H) G l[j].2 as[j]) → (grabs i l).run σ = some (q, σ') →
    ∃ us G' K, Goes M w ts σ H G σ' (H ++ q.flatMap (·.cells)) (xs ++ us) G' ∧ K.map (·.1) = q ∧ GRel w i (l.map (·.2)) as K us := by
  intro l
  induction l with
  | nil =>
    intro as i q σ σ' H xs G hI hl _ hr
    simp only [grabs, SP.run, Option.some.injEq, Prod.mk.injEq] at hr
    obtain ⟨rfl, rfl⟩ := hr
    have : as = [] := List.eq_nil_of_length_eq_zero (by simpa using hl)
    subst this
    exact ⟨[], G, [], by simpa using Goes.refl hI, rfl, .nil i⟩
  | cons x l ih =>
    intro as i q σ σ' H xs G hI hl ht hr
    cases as with
    | nil => simp at hl
    | cons y as =>
      obtain ⟨n, t⟩ := x
      have ht0 := ht 0 (by simp) (by simp)
      simp only [List.getElem_cons_zero] at ht0
      have hrest : ∀ {σ1 : St} {H1 : List TV} {xs1 : List Value} {G1 : Gh}, Goes M w ts σ H G σ1 H1 xs1 G1 → ∀ j (h : j < l.length) (h' : j < as.length), TmR w (G1.F M.A) σ1.v (extC M σ1 H1) G1 l[j].2 as[j] := fun hg j h h' =>
        hg.tm (by have := ht (j + 1) (by simpa using h) (by simpa using h'); simpa only [List.getElem_cons_succ] using this)
      have other : (∀ p vs, t ≠ .ptr p vs) → (∀ p vs, (n, t) ≠ (some 0, .pk p vs)) → ∃ us G' K, Goes M w ts σ H G σ' (H ++ q.flatMap (·.cells)) (xs ++ us) G' ∧ K.map (·.1) = q ∧ GRel w i (((n, t) :: l).map (·.2)) (y :: as) K us := by
        intro hne hne2
        have hr' : (if isArg t then grabs (i + 1) l else .fail : SP (List GP)).run σ = some (q, σ') := by
          cases n with
          | none => cases t <;> exact hr
          | some n => cases n <;> cases t <;> first | exact absurd rfl (hne _ _) | exact absurd rfl (hne2 _ _) | exact hr
        split at hr'
        · rename_i harg
          obtain ⟨us, G', K, e1, e2, e3⟩ := ih (as := as) hI (by simpa using hl) (hrest (Goes.refl hI)) hr'
          exact ⟨us, G', K, e1, e2, .arg harg e3⟩
        · simp [SP.run] at hr'
      by_cases hp : ∃ p vs, t = .ptr p vs
      · obtain ⟨p, vs, rfl⟩ := hp
        cases n with
        | none => simp [grabs, isArg, SP.run] at hr
        | some n =>
          simp only [grabs] at hr
          obtain ⟨_, σ1, h1, h2⟩ := SP.run_bind_some hr
          have e1 : σ1 = σ := (chk_run h1).1
          have e2 := (chk_run h1).2
          subst e1
          obtain ⟨cells, σ2, h3, h4⟩ := SP.run_bind_some h2
          obtain ⟨q1, σ3, h5, h6⟩ := SP.run_bind_some h4
          simp only [SP.run, Option.some.injEq, Prod.mk.injEq] at h6
          obtain ⟨rfl, rfl⟩ := h6
          generalize hz : y = z at ht0
          cases ht0 with
          | ptr V0 h0 hv h =>
            obtain ⟨hr1, ad, t0, ha, rfl, _⟩ := h e2
            obtain ⟨k1, u, G1, hg1, k2, k3, k4⟩ := grabL_ok hI hr1 ha h3
            obtain ⟨us, G2, K, hg2, k5, k6⟩ := ih (as := as) hg1.1 (by simpa using hl) (hrest hg1) h5
            exact ⟨u ++ us, G2, (⟨i, p, vs, cells⟩, ad) :: K, by simpa [List.append_assoc] using hg1.trans hg2, by simp [k5], .ptr hr1 (addr_spot ha) (by omega) k3 k4 k6⟩
      · by_cases hw : ∃ p vs, (n, t) = (some 0, .pk p vs)
        · obtain ⟨p, vs, hw⟩ := hw
          injection hw with h1 h2
          subst h1; subst h2
          have hr' : (grabs (i + 1) l).run σ = some (q, σ') := hr
          obtain ⟨us, G', K, e1, e2, e3⟩ := ih (as := as) hI (by simpa using hl) (hrest (Goes.refl hI)) hr'
          exact ⟨us, G', K, e1, e2, .own e3⟩
        · exact other (fun p vs e => hp ⟨p, vs, e⟩) fun p vs e => hw ⟨p, vs, e⟩

theorem aset_same {α : Type} : ∀ {l : List (Nat × α)} {r : Nat} {x : α}, aget l r = some x → aset l r x = l := by
  intro l
  induction l with
  | nil => intro r x h; simp [aget] at h
  | cons y l ih =>
    intro r x h
    obtain ⟨k, v⟩ := y
    simp only [aget] at h
    simp only [aset]
    split
    · rename_i e
      rw [if_pos e] at h
      injection h with h
      rw [h, e]
    · rename_i e
      rw [if_neg e] at h
      rw [ih h]
theorem touch_ok {p : Place} (hr : (touch p).run σ = some ((), σ')) : σ' = σ ∧ ∃ l, aget σ.ce p.root = some l ∧ p.off < l.length := by
  simp only [touch, SP.run] at hr
  obtain ⟨l, hl, ho, h2⟩ := SP.run_wrC (σ := σ) (k := .ret ()) (t := σ.c p.root p.off) (by simpa only [SP.run] using hr)
  simp only [SP.run, Option.some.injEq, Prod.mk.injEq, true_and] at h2
  refine ⟨?_, l, hl, ho⟩
  rw [← h2]
  have e : l.set p.off (σ.c p.root p.off) = l := by
    have : σ.c p.root p.off = l[p.off] := by simp [St.c, hl, ho]
    rw [this]
    exact List.set_getElem_self ho
  rw [e, aset_same hl]

/-- Where the pointers lead. -/
theorem rechk_ok (hI : Inv M σ H xs ts w G) : ∀ {q : List GP} {σ' : St}, (rechk q).run σ = some ((), σ') → σ' = σ ∧ ∀ g ∈ q, ∀ x, TmR w (G.F M.A) σ.v (extC M σ H) G (.ptr g.p g.vs) x → g.p.root ≠ 1 ∧ ∃ ad, x = .pointer (some ad) ∧ G.addr w g.p = some ad ∧ g.vs = vers σ.v g.p.root g.p.off g.p.hops.length ∧ (∃ t, getT (extC M σ H g.p.root g.p.off) g.p.hops = some t) ∧ ((∃ o n, G.β g.p.root = some (ad.block, o, n)) ∨ G.φ g.p.root g.p.off ad.block) := by
  intro q
  induction q with
  | nil =>
    intro σ' hr
    simp only [rechk, SP.run, Option.some.injEq, Prod.mk.injEq, true_and] at hr
    exact ⟨hr.symm, fun g hg => by simp at hg⟩
  | cons g q ih =>
    intro σ' hr
    simp only [rechk] at hr
    obtain ⟨_, σ1, h1, h2⟩ := SP.run_bind_some hr
    have e1 : σ1 = σ := (chk_run h1).1
    have e2 := (chk_run h1).2
    subst e1
    obtain ⟨_, σ2, h3, h4⟩ := SP.run_bind_some h2
    obtain ⟨rfl, l, hl, ho⟩ := touch_ok h3
    obtain ⟨rfl, hq⟩ := ih h4
    refine ⟨rfl, fun g' hg' x hx => ?_⟩
    rcases List.mem_cons.1 hg' with rfl | hg'
    · cases hx with
      | ptr V0 h0 hv h =>
        obtain ⟨hr1, ad, t0, ha, hx, hget⟩ := h e2
        have hB : G.addrB w g'.p = some ad := by
          refine Gh.addr_to_B ha fun hp b o0 n hb => ?_
          have := hI.shape _ _ _ _ hb l hl
          omega
        refine ⟨hr1, ad, hx, ha, e2, ⟨t0, hget⟩, ?_⟩
        rcases hI.core.where_ g'.p hB hget with ⟨_, b, o0, n, h5, _, h6⟩ | ⟨_, h5⟩
        · left; exact ⟨o0, n, by rw [h5, h6]⟩
        · right; exact h5
    · exact hq g' hg' x hx
end
end Go.Proofs.Ytkmbahlpmoljpaa
/- A call on trees: the other function's beginning; no condition. -/
set_option linter.unusedVariables false
set_option linter.unusedSimpArgs false
namespace Go.Proofs.Ytkmbahlpmoljpaa
open Go.RowKit

def prK : List (GP × Addr) → Nat → Option (Nat × Nat × Nat)
  | [], _ => none
  | (g, ad) :: K, r => if 2 * g.i + 2 = r then some (ad.block, ad.off, g.cells.length) else prK K r
def bsK : List (GP × Addr) → Nat → Nat
  | [], _ => 0
  | (g, _) :: K, r => if 2 * g.i + 2 = r then 0 else g.cells.length + bsK K r
def ceK (K : List (GP × Addr)) : List (Nat × List TV) := K.map fun x => (2 * x.1.i + 2, x.1.cells)
def ceO (ow : List (Nat × TV)) : List (Nat × List TV) := ow.map fun x => (2 * x.1 + 3, [x.2])
def owK : List (Nat × TV) → Nat → Option Nat
  | [], _ => none
  | (i, _) :: q, r => if 2 * i + 3 = r then some 0 else (owK q r).map (· + 1)
def cellsK (K : List (GP × Addr)) : List TV := K.flatMap fun x => x.1.cells

section
theorem prK_some {K : List (GP × Addr)} {r b o n : Nat} (h : prK K r = some (b, o, n)) : ∃ x ∈ K, r = 2 * x.1.i + 2 ∧ b = x.2.block ∧ o = x.2.off ∧ n = x.1.cells.length ∧ aget (ceK K) r = some x.1.cells ∧ ∀ j (_ : j < x.1.cells.length), (cellsK K)[bsK K r + j]? = x.1.cells[j]? := by
  induction K with
  | nil => simp [prK] at h
  | cons y K ih =>
    obtain ⟨g, ad⟩ := y
    simp only [prK] at h
    split at h
    · rename_i e
      injection h with h
      injection h with h1 h
      injection h with h2 h3
      refine ⟨(g, ad), by simp, e.symm, h1.symm, h2.symm, h3.symm, by simp [ceK, aget, e], fun j hj => ?_⟩
      simp only [bsK, e, if_true, cellsK, List.flatMap_cons, Nat.zero_add]
      exact List.getElem?_append_left hj
    · rename_i e
      obtain ⟨x, h1, h2, h3, h4, h5, h6, h7⟩ := ih h
      refine ⟨x, by simp [h1], h2, h3, h4, h5, by simpa [ceK, aget, e] using h6, fun j hj => ?_⟩
      simp only [bsK, e, if_false, cellsK, List.flatMap_cons]
      rw [List.getElem?_append_right (by omega)]
      rw [show g.cells.length + bsK K r + j - g.cells.length = bsK K r + j by omega]
      exact h7 j hj
theorem ceK_some {K : List (GP × Addr)} {r : Nat} {l : List TV} (h : aget (ceK K) r = some l) : prK K r ≠ none := by
  induction K with
  | nil => simp [ceK, aget] at h
  | cons y K ih =>
    obtain ⟨g, ad⟩ := y
    simp only [ceK, List.map_cons, aget] at h
    simp only [prK]
    split
    · simp
    · rename_i e
      rw [if_neg e] at h
      exact ih h
theorem apartK {K : List (GP × Addr)} : ∀ r b o n r' b' o' n', prK K r = some (b, o, n) → prK K r' = some (b', o', n') → ∀ j j', j < n → j' < n' → bsK K r + j = bsK K r' + j' → r = r' := by
  induction K with
  | nil => intro r b o n r' b' o' n' h; simp [prK] at h
  | cons y K ih =>
    intro r b o n r' b' o' n' h h' j j' hj hj' e
    obtain ⟨g, ad⟩ := y
    simp only [prK, bsK] at h h' e
    by_cases e1 : 2 * g.i + 2 = r <;> by_cases e2 : 2 * g.i + 2 = r'
    · omega
    · rw [if_pos e1] at h e; rw [if_neg e2] at h' e
      have : n = g.cells.length := by injection h with h; injection h with _ h; injection h with _ h; exact h.symm
      omega
    · rw [if_neg e1] at h e; rw [if_pos e2] at h' e
      have : n' = g.cells.length := by injection h' with h; injection h with _ h; injection h with _ h; exact h.symm
      omega
    · simp only [e1, e2, if_false] at h h' e
      exact ih _ _ _ _ _ _ _ _ h h' j j' hj hj' (by omega)

theorem GRel.slot {w : World} {i : Nat} {ts : List TV} {as us : List Value} {K : List (GP × Addr)} (h : GRel w i ts as K us) : ∀ x ∈ K, i ≤ x.1.i ∧ ∃ p vs, ts[x.1.i - i]? = some (.ptr p vs) ∧ p = x.1.p ∧ vs = x.1.vs ∧ as[x.1.i - i]? = some (.pointer (some x.2)) ∧ x.2.spot = none := by
  induction h with
  | nil => intro x hx; simp at hx
  | @ptr i p vs cells ad u ts xs K us hr hs hu hc hok h ih =>
    intro x hx
    rcases List.mem_cons.1 hx with rfl | hx
    · exact ⟨Nat.le_refl _, p, vs, by simp, rfl, rfl, by simp, hs⟩
    · obtain ⟨h1, p, vs, h2, h3, h4, h5⟩ := ih x hx
      refine ⟨by omega, p, vs, ?_, h3, h4, ?_, h5.2⟩
      · rw [show x.1.i - i = (x.1.i - (i + 1)) + 1 by omega]; simpa using h2
      · rw [show x.1.i - i = (x.1.i - (i + 1)) + 1 by omega]; simpa using h5.1
  | @arg i t x0 ts xs K us ha h ih =>
    intro x hx
    obtain ⟨h1, p, vs, h2, h3, h4, h5⟩ := ih x hx
    refine ⟨by omega, p, vs, ?_, h3, h4, ?_, h5.2⟩
    · rw [show x.1.i - i = (x.1.i - (i + 1)) + 1 by omega]; simpa using h2
    · rw [show x.1.i - i = (x.1.i - (i + 1)) + 1 by omega]; simpa using h5.1
  | @own i p0 vs0 x0 ts xs K us h ih =>
    intro x hx
    obtain ⟨h1, p, vs, h2, h3, h4, h5⟩ := ih x hx
    refine ⟨by omega, p, vs, ?_, h3, h4, ?_, h5.2⟩
    · rw [show x.1.i - i = (x.1.i - (i + 1)) + 1 by omega]; simpa using h2
    · rw [show x.1.i - i = (x.1.i - (i + 1)) + 1 by omega]; simpa using h5.1
theorem GRel.len {w : World} {i : Nat} {ts : List TV} {as us : List Value} {K : List (GP × Addr)} (h : GRel w i ts as K us) : ts.length = as.length ∧ us.length = (cellsK K).length := by
  induction h with
  | nil => exact ⟨rfl, rfl⟩
  | ptr hr hs hu hc hok h ih => exact ⟨by simp [ih.1], by simp [cellsK, hu] at ih ⊢; exact ih.2⟩
  | arg ha h ih => exact ⟨by simp [ih.1], ih.2⟩
  | own h ih => exact ⟨by simp [ih.1], ih.2⟩
theorem GRel.ok {w : World} {i : Nat} {ts : List TV} {as us : List Value} {K : List (GP × Addr)} (h : GRel w i ts as K us) : ∀ x ∈ K, ∀ j (h : j < x.1.cells.length), okCell x.1.cells[j] = true ∨ isOw x.1.cells[j] = true := by
  induction h with
  | nil => intro x hx; simp at hx
  | ptr hr hs hu hc hok h ih =>
    intro x hx
    rcases List.mem_cons.1 hx with rfl | hx
    · exact hok
    · exact ih x hx
  | arg ha h ih => exact ih
  | own h ih => exact ih
theorem GRel.here {w : World} {i : Nat} {ts : List TV} {as us : List Value} {K : List (GP × Addr)} (h : GRel w i ts as K us) : ∀ r b o n, prK K r = some (b, o, n) → ∀ j, j < n → w.cell? ⟨b, o + j, none⟩ = some (us.getD (bsK K r + j) undef) ∧ w.frozen? ⟨b, o + j, none⟩ = false := by
  induction h with
  | nil => intro r b o n h; simp [prK] at h
  | @ptr i p vs cells ad u ts xs K us hr hs hu hc hok h ih =>
    intro r b o n hp j hj
    simp only [prK] at hp
    simp only [bsK]
    split at hp
    · rename_i e
      injection hp with hp
      injection hp with h1 hp
      injection hp with h2 h3
      subst h1; subst h2; subst h3
      rw [if_pos e, Nat.zero_add]
      have hju : j < u.length := by omega
      have := hc j hju
      refine ⟨?_, this.2⟩
      rw [this.1, List.getD_eq_getElem?_getD, List.getElem?_append_left hju, List.getElem?_eq_getElem hju]
      rfl
    · rename_i e
      rw [if_neg e]
      have := ih r b o n hp j hj
      refine ⟨?_, this.2⟩
      rw [this.1]
      simp only [List.getD_eq_getElem?_getD]
      rw [List.getElem?_append_right (by omega)]
      rw [show cells.length + bsK K r + j - u.length = bsK K r + j by omega]
  | arg ha h ih => exact ih
  | own h ih => exact ih
end

theorem nodupN_inj {α : Type} {f : α → Nat} : ∀ {l : List α}, nodupN (l.map f) = true → ∀ {x y : α}, x ∈ l → y ∈ l → f x = f y → x = y := by
  intro l
  induction l with
  | nil => intro _ x y hx; simp at hx
  | cons z l ih =>
    intro h x y hx hy e
    simp only [List.map_cons, nodupN, Bool.and_eq_true, Bool.not_eq_true', List.contains_eq_mem, decide_eq_false_iff_not] at h
    rcases List.mem_cons.1 hx with hx1 | hx1
    · rcases List.mem_cons.1 hy with hy1 | hy1
      · rw [hx1, hy1]
      · exact absurd (by rw [← hx1, e]; exact List.mem_map_of_mem hy1) h.1
    · rcases List.mem_cons.1 hy with hy1 | hy1
      · exact absurd (by rw [← hy1, ← e]; exact List.mem_map_of_mem hx1) h.1
      · exact ih h.2 hx1 hy1 e

section
variable {P : Program} {M : Fm} {σ σ' : St} {H : List TV} {xs : List Value} {ts : Array Value} {w : World} {G : Gh} {a : Act} {o : Oper}

theorem aget_append {α : Type} : ∀ {a b : List (Nat × α)} {r : Nat}, aget (a ++ b) r = match aget a r with | some x => some x | none => aget b r := by
  intro a
  induction a with
  | nil => intro b r; rfl
  | cons y a ih =>
    intro b r
    obtain ⟨k, v⟩ := y
    simp only [List.cons_append, aget]
    split
    · rfl
    · exact ih
theorem owK_some : ∀ {q : List (Nat × TV)} {r j : Nat}, owK q r = some j → ∃ h : j < q.length, r = 2 * q[j].1 + 3 ∧ aget (ceO q) r = some [q[j].2] := by
  intro q
  induction q with
  | nil => intro r j h; simp [owK] at h
  | cons y q ih =>
    intro r j h
    obtain ⟨i, t⟩ := y
    simp only [owK] at h
    split at h
    · rename_i e
      injection h with h
      subst h
      exact ⟨by simp, e.symm, by simp [ceO, aget, e]⟩
    · rename_i e
      cases hq : owK q r with
      | none => simp [hq] at h
      | some k =>
        simp only [hq, Option.map_some, Option.some.injEq] at h
        subst h
        obtain ⟨h1, h2, h3⟩ := ih hq
        refine ⟨by simp; omega, by simpa using h2, ?_⟩
        have : aget (ceO ((i, t) :: q)) r = aget (ceO q) r := by simp [ceO, aget, e]
        rw [this]; simpa using h3
theorem ceO_some : ∀ {q : List (Nat × TV)} {r : Nat} {l : List TV}, aget (ceO q) r = some l → owK q r ≠ none := by
  intro q
  induction q with
  | nil => intro r l h; simp [ceO, aget] at h
  | cons y q ih =>
    intro r l h
    obtain ⟨i, t⟩ := y
    simp only [owK]
    split
    · simp
    · rename_i e
      have : aget (ceO ((i, t) :: q)) r = aget (ceO q) r := by simp [ceO, aget, e]
      rw [this] at h
      have := ih h
      cases hq : owK q r with
      | none => exact absurd hq this
      | some k => simp
theorem ORel.facts {i : Nat} {l : List (Option Nat × TV)} {as : List Value} {ow : List (Nat × TV)} {zs : List Value} (h : ORel i l as ow zs) : zs.length = ow.length ∧ (∀ x ∈ ow, i ≤ x.1 ∧ ∃ c, x.2 = .ow c) ∧ ∀ x ∈ ow, ∃ k, owK ow (2 * x.1 + 3) = some k ∧ as[x.1 - i]? = zs[k]? := by
  induction h with
  | nil => exact ⟨rfl, fun x h => by simp at h, fun x h => by simp at h⟩
  | @own i p vs l x xs c ow zs h ih =>
    obtain ⟨h1, h2, h3⟩ := ih
    refine ⟨by simp [h1], fun y hy => ?_, fun y hy => ?_⟩
    · rcases List.mem_cons.1 hy with rfl | hy
      · exact ⟨Nat.le_refl _, c, rfl⟩
      · exact ⟨by have := (h2 y hy).1; omega, (h2 y hy).2⟩
    · rcases List.mem_cons.1 hy with rfl | hy
      · exact ⟨0, by simp [owK], by simp⟩
      · obtain ⟨k, h4, h5⟩ := h3 y hy
        have hle := (h2 y hy).1
        refine ⟨k + 1, by simp only [owK]; rw [if_neg (by omega), h4]; rfl, ?_⟩
        rw [show y.1 - i = (y.1 - (i + 1)) + 1 by omega]
        simpa using h5
  | @skip i y0 l x xs ow zs h ih =>
    obtain ⟨h1, h2, h3⟩ := ih
    refine ⟨h1, fun y hy => ⟨by have := (h2 y hy).1; omega, (h2 y hy).2⟩, fun y hy => ?_⟩
    obtain ⟨k, h4, h5⟩ := h3 y hy
    have hle := (h2 y hy).1
    refine ⟨k, h4, ?_⟩
    rw [show y.1 - i = (y.1 - (i + 1)) + 1 by omega]
    simpa using h5

theorem GRel.hands {vals : List TV} {as us : List Value} {K : List (GP × Addr)} {l : List (Option Nat × TV)} {ow : List (Nat × TV)} {zs : List Value} (hI : Inv M σ (ow.map (·.2) ++ cellsK K) (zs ++ us) ts w G) (h : GRel w 0 vals as K us) (ho : ORel 0 l as ow zs) (hnd : nodupN ((K.map (·.1)).map (·.p.root)) = true) (hpos : ∀ x ∈ K, 0 < x.1.cells.length)
    (hwh : ∀ x ∈ K, x.1.p.root ≠ 1 ∧ ((∃ o n, G.β x.1.p.root = some (x.2.block, o, n)) ∨ G.φ x.1.p.root x.1.p.off x.2.block)) : Hands (ow.map (·.2) ++ cellsK K) (zs ++ us) w G M.A (prK K) (fun r => ow.length + bsK K r) (ceK K ++ ceO ow) (owK ow) := by
  obtain ⟨hz, ho2, _⟩ := ho.facts
  have hodd : ∀ r, r % 2 = 1 → aget (ceK K) r = none := fun r hr => by
    cases hc : aget (ceK K) r with
    | none => rfl
    | some l =>
      cases hp : prK K r with
      | none => exact absurd hp (ceK_some hc)
      | some x => obtain ⟨b, o, n⟩ := x; obtain ⟨x, _, h2, _⟩ := prK_some hp; omega
  refine ⟨fun r b o n hp => ?_, fun r b o n hp => ?_, fun r l hl => ?_, fun r j hj => ?_, fun r j r' b o n hj hp j' hj' => by have := (owK_some hj).1; omega, fun r r' j hj hj' => ?_, fun r b o n r' b' o' n' h1 h2 j j' hj hj' e => apartK _ _ _ _ _ _ _ _ h1 h2 _ _ hj hj' (by omega), fun r b o n r' o' n' h1 h2 => ?_, fun r b o n hp hF => ?_, fun r b o n hp j hφ => ?_, fun r b o n hp j hj => ?_⟩
  · obtain ⟨x, h1, h2, _, _, h5, _⟩ := prK_some hp
    exact ⟨by omega, by rw [h5]; exact hpos x h1⟩
  · obtain ⟨x, h1, h2, _, _, h5, h6, h7⟩ := prK_some hp
    refine ⟨_, by rw [aget_append, h6], h5.symm, fun j hj => ?_⟩
    have := h7 j hj
    rw [List.getElem?_eq_getElem hj] at this
    obtain ⟨k1, k2⟩ := List.getElem?_eq_some_iff.1 this
    refine ⟨by simp; omega, ?_, cell_nd (h.ok x h1) j hj⟩
    rw [List.getElem_append_right (by simp; omega)]
    rw [← k2]
    congr 1
    simp; omega
  · rw [aget_append] at hl
    cases hc : aget (ceK K) r with
    | some l2 => exact .inl (ceK_some hc)
    | none => rw [hc] at hl; exact .inr (ceO_some hl)
  · obtain ⟨h1, h2, h3⟩ := owK_some hj
    obtain ⟨_, c, hc⟩ := ho2 ow[j] (List.getElem_mem h1)
    refine ⟨by omega, by omega, c, by simp; omega, ?_, ?_⟩
    · rw [aget_append, hodd r (by omega)]
      simp only
      rw [h3, hc]
    · rw [List.getElem_append_left (by simpa using h1)]
      simpa using hc
  · obtain ⟨_, h2, _⟩ := owK_some hj
    obtain ⟨_, h3, _⟩ := owK_some hj'
    omega
  · obtain ⟨x, x1, x2, x3, x4, x5, _⟩ := prK_some h1
    obtain ⟨y, y1, y2, y3, y4, y5, _⟩ := prK_some h2
    have hroot : x.1.p.root = y.1.p.root := by
      rcases (hwh x x1).2 with ⟨o1, n1, hb1⟩ | hb1
      · rcases (hwh y y1).2 with ⟨o2, n2, hb2⟩ | hb2
        · rw [← y3] at hb2
          rw [← x3] at hb1
          exact hI.core.boxd _ _ _ _ _ _ _ hb1 hb2
        · rw [← y3] at hb2
          rw [← x3] at hb1
          exact absurd hb2 (hI.core.boxf _ _ _ _ hb1 _ _)
      · rcases (hwh y y1).2 with ⟨o2, n2, hb2⟩ | hb2
        · rw [← y3] at hb2
          rw [← x3] at hb1
          exact absurd hb1 (hI.core.boxf _ _ _ _ hb2 _ _)
        · rw [← y3] at hb2
          rw [← x3] at hb1
          exact (hI.core.dis _ _ _ _ _ hb1 hb2).1
    have hxy : x.1 = y.1 := nodupN_inj hnd (List.mem_map_of_mem x1) (List.mem_map_of_mem y1) hroot
    rw [x2, y2, hxy]
  · obtain ⟨x, x1, x2, x3, x4, x5, _⟩ := prK_some hp
    subst x3
    rcases (hwh x x1).2 with ⟨o1, n1, hb1⟩ | hb1
    · exact hF.2.2 _ _ _ _ hb1 rfl
    · exact hF.2.1 _ _ hb1
  · obtain ⟨x, x1, x2, x3, x4, x5, _⟩ := prK_some hp
    subst x3
    rcases (hwh x x1).2 with ⟨o1, n1, hb1⟩ | hb1
    · exact hI.core.boxf _ _ _ _ hb1 _ _ hφ
    · exact (hwh x x1).1 (hI.core.dis _ _ _ _ _ hb1 hφ).1
  · have := h.here _ _ _ _ hp j hj
    refine ⟨?_, this.2⟩
    rw [this.1, List.getD_eq_getElem?_getD, List.getD_eq_getElem?_getD, List.getElem?_append_right (by omega)]
    rw [show ow.length + bsK K r + j - zs.length = bsK K r + j by omega]

theorem TmR.handed {F F' : Nat → Prop} {V V' : Vs} {C C' : Cs} {G G' : Gh} {t : TV} {x : Value} (h : TmR w F V C G t x) (ha : isArg t = true) (hF : ∀ k, F k → F' k) : TmR w F' V' C' G' t x := by
  cases h with
  | v h => exact .v h
  | sl h => exact .sl (h.frame (fun _ _ _ => rfl) fun k hk _ => hF k hk)
  | nil => exact .nil
  | ip u hc hr => exact .ip u (fun j hj => ⟨hF _ (hc j hj).1, (hc j hj).2⟩) fun j hj => (hr j hj).frame (fun _ _ _ => rfl) fun k hk _ => hF k hk
  | @agg l xs hl h =>
    refine .agg hl fun j hj => ?_
    simp only [isArg, List.all_eq_true] at ha
    have h1 := ha _ (List.getElem_mem hj)
    have h2 := h j hj
    generalize l[j] = e at h1 h2
    generalize xs.getD j undef = y at h2
    cases h2 with
    | v h => exact .v h
    | sl h => exact .sl (h.frame (fun _ _ _ => rfl) fun k hk _ => hF k hk)
    | _ => simp at h1
  | @fn f l xs hl h =>
    cases l with
    | nil => exact .fn hl fun j hj => by simp at hj
    | cons => simp [isArg] at ha
  | _ => simp [isArg] at ha

theorem aget_numbered {α : Type} : ∀ {l : List α} {i j : Nat}, aget (numbered i l) j = if i ≤ j then l[j - i]? else none := by
  intro l
  induction l with
  | nil => intro i j; simp [numbered, aget]
  | cons x l ih =>
    intro i j
    simp only [numbered, aget]
    by_cases e : i = j
    · subst e; simp
    · rw [if_neg e, ih]
      by_cases h : i + 1 ≤ j
      · rw [if_pos h, if_pos (by omega)]
        rw [show j - i = (j - (i + 1)) + 1 by omega]
        simp
      · rw [if_neg h, if_neg (by omega)]
theorem argTs_get : ∀ {l : List TV} {i j : Nat}, (argTs i l)[j]? = (l[j]?).map (argT (i + j)) := by
  intro l
  induction l with
  | nil => intro i j; simp [argTs]
  | cons t l ih =>
    intro i j
    cases j with
    | zero => simp [argTs]
    | succ j => simp only [argTs, List.getElem?_cons_succ, ih]; rw [show i + 1 + j = i + (j + 1) by omega]

theorem GRel.slotArg {w : World} {i : Nat} {vals : List TV} {as us : List Value} {K : List (GP × Addr)} (h : GRel w i vals as K us) : ∀ j t, vals[j]? = some t → isArg t = true ∨ (∃ p vs, t = .pk p vs) ∨ ∃ x ∈ K, x.1.i = i + j ∧ (∃ p vs, t = .ptr p vs) ∧ as[j]? = some (.pointer (some x.2)) ∧ prK K (2 * x.1.i + 2) = some (x.2.block, x.2.off, x.1.cells.length) ∧ x.2.spot = none := by
  induction h with
  | nil => intro j t h; simp at h
  | @ptr i p vs cells ad u ts xs K us hr hs hu hc hok h ih =>
    intro j t ht
    cases j with
    | zero =>
      right; right
      refine ⟨(⟨i, p, vs, cells⟩, ad), by simp, rfl, ⟨p, vs, ?_⟩, by simp, by simp [prK], hs⟩
      simpa using ht.symm
    | succ j =>
      rcases ih j t (by simpa using ht) with h1 | h1 | ⟨x, h1, h2, h3, h4, h5⟩
      · exact .inl h1
      · exact .inr (.inl h1)
      · right; right
        refine ⟨x, by simp [h1], by omega, h3, by simpa using h4, ?_, h5.2⟩
        simp only [prK]
        rw [if_neg (by omega)]
        exact h5.1
  | @arg i t0 x0 ts xs K us ha h ih =>
    intro j t ht
    cases j with
    | zero => left; have : t0 = t := by simpa using ht
              rw [← this]; exact ha
    | succ j =>
      rcases ih j t (by simpa using ht) with h1 | h1 | ⟨x, h1, h2, h3, h4, h5⟩
      · exact .inl h1
      · exact .inr (.inl h1)
      · exact .inr (.inr ⟨x, h1, by omega, h3, by simpa using h4, h5⟩)
  | @own i p0 vs0 x0 ts xs K us h ih =>
    intro j t ht
    cases j with
    | zero => right; left; have : TV.pk p0 vs0 = t := by simpa using ht
              exact ⟨p0, vs0, this.symm⟩
    | succ j =>
      rcases ih j t (by simpa using ht) with h1 | h1 | ⟨x, h1, h2, h3, h4, h5⟩
      · exact .inl h1
      · exact .inr (.inl h1)
      · exact .inr (.inr ⟨x, h1, by omega, h3, by simpa using h4, h5⟩)

/-- The other function begins. -/
theorem GRel.enter {vals : List TV} {as us : List Value} {K : List (GP × Addr)} {l : List (Option Nat × TV)} {ow : List (Nat × TV)} {zs : List Value} (hI : Inv M σ (ow.map (·.2) ++ cellsK K) (zs ++ us) ts w G) (h : GRel w 0 vals as K us) (ho : ORel 0 l as ow zs) (hpk : ∀ j p vs, vals[j]? = some (.pk p vs) → ∃ x ∈ ow, x.1 = j)
    (hh : Hands (ow.map (·.2) ++ cellsK K) (zs ++ us) w G M.A (prK K) (fun r => ow.length + bsK K r) (ceK K ++ ceO ow) (owK ow))
    (ht : ∀ j (h : j < vals.length) (h' : j < as.length), TmR w (G.F M.A) σ.v (extC M σ (ow.map (·.2) ++ cellsK K)) G vals[j] as[j]) {N : Nat} (hN : as.length ≤ N) :
    Inv (M.into w G (prK K) N) (mkSt (argTs 0 vals) (ceK K ++ ceO ow)) [] [] (as.toArray ++ Array.replicate (N - as.length) undef) w (G.into (prK K) (fun r => ow.length + bsK K r) (owK ow) (zs ++ us)) := by
  refine hI.enter hh (by simp; omega) fun i => ?_
  rw [aget_numbered]
  simp only [Nat.zero_le, if_true, Nat.sub_zero, argTs_get, Nat.zero_add]
  cases hv : vals[i]? with
  | none => exact .dead
  | some t =>
    obtain ⟨hi, hvi⟩ := List.getElem?_eq_some_iff.1 hv
    have hi' : i < as.length := by rw [← h.len.1]; exact hi
    have hx : (as.toArray ++ Array.replicate (N - as.length) undef).getD i undef = as[i] := by
      simp [Array.getD_eq_getD_getElem?, Array.getElem?_append, hi']
    rw [hx]
    have htm := ht i hi hi'
    rw [hvi] at htm
    simp only [Option.map_some, Option.getD_some]
    rcases h.slotArg i t hv with harg | ⟨p, vs, rfl⟩ | ⟨x, x1, x2, ⟨p, vs, rfl⟩, x4, x5, x6⟩
    · have e : argT i t = t := by cases t <;> first | rfl | simp [isArg] at harg
      rw [e]
      exact htm.handed harg fun k hk => hh.F hk
    · simp only [argT]
      obtain ⟨x, hx1, rfl⟩ := hpk i p vs hv
      obtain ⟨hz, h2, h3⟩ := ho.facts
      obtain ⟨k, h4, h5⟩ := h3 x hx1
      obtain ⟨hk, _, h6⟩ := owK_some h4
      obtain ⟨_, c, h7⟩ := h2 ow[k] (List.getElem_mem hk)
      have hodd := (hh.owc _ _ h4)
      obtain ⟨_, _, c', hj, h8, h9⟩ := hodd
      refine .pk (fun _ => 0) (fun _ => Nat.le_refl _) rfl fun _ => ⟨by simp, c', ?_, ?_⟩
      · have hpn : prK K (2 * x.1 + 3) = none := by
          cases hp : prK K (2 * x.1 + 3) with
          | none => rfl
          | some y => obtain ⟨b, o, n⟩ := y; have := (hh.even _ _ _ _ hp).1; omega
        simp only [Gh.hv, hvT]
        unfold Gh.val Gh.into
        simp only [hpn, h4]
        rw [Nat.sub_zero, List.getElem?_eq_getElem hi', List.getElem?_eq_getElem (by omega)] at h5
        injection h5 with h5
        rw [List.getD_eq_getElem?_getD, List.getElem?_append_left (by omega), List.getElem?_eq_getElem (by omega), h5]
        rfl
      · have : extC (M.into w G (prK K) N) ⟨numbered 0 (argTs 0 vals), ceK K ++ ceO ow, []⟩ [] (2 * x.1 + 3) 0 = .ow c' := by
          rw [extC_ne (by show 2 * x.1 + 3 ≠ 1; omega)]
          simp [St.c, h8]
        show getT (extC (M.into w G (prK K) N) ⟨numbered 0 (argTs 0 vals), ceK K ++ ceO ow, []⟩ [] (2 * x.1 + 3) 0) [] = _
        rw [this]
        rfl
    · simp only [argT]
      have e : as[i] = .pointer (some x.2) := by
        rw [List.getElem?_eq_getElem hi'] at x4
        injection x4
      rw [e]
      have hxi : x.1.i = i := by omega
      rw [hxi] at x5
      refine .ptr (fun _ => 0) (fun _ => Nat.le_refl _) rfl fun _ => ⟨by simp, x.2, (extC (M.into w G (prK K) N) ⟨numbered 0 (argTs 0 vals), ceK K ++ ceO ow, []⟩ [] (2 * i + 2) 0), ?_, rfl, rfl⟩
      have had : (⟨x.2.block, x.2.off + 0, none⟩ : Addr) = x.2 := by
        obtain ⟨g, ad⟩ := x
        obtain ⟨b, o, s⟩ := ad
        simp only at x6 ⊢
        subst x6; rfl
      unfold Gh.addr Gh.into
      simp only [x5]
      rw [had]
end
end Go.Proofs.Ytkmbahlpmoljpaa
/- A call on trees: what pointers lead to, put back; no condition. -/
set_option linter.unusedVariables false
set_option linter.unusedSimpArgs false
namespace Go.Proofs.Ytkmbahlpmoljpaa
open Go.RowKit

theorem flatK_get {α : Type} {f : GP × Addr → List α} {K : List (GP × Addr)} (hf : ∀ x ∈ K, (f x).length = x.1.cells.length) {r b o n : Nat} (h : prK K r = some (b, o, n)) : ∃ x ∈ K, r = 2 * x.1.i + 2 ∧ b = x.2.block ∧ o = x.2.off ∧ n = x.1.cells.length ∧ aget (K.map fun x => (2 * x.1.i + 2, f x)) r = some (f x) ∧ ∀ j, j < n → (K.flatMap f)[bsK K r + j]? = (f x)[j]? := by
  induction K with
  | nil => simp [prK] at h
  | cons y K ih =>
    obtain ⟨g, ad⟩ := y
    simp only [prK] at h
    split at h
    · rename_i e
      injection h with h
      injection h with h1 h
      injection h with h2 h3
      have hl := hf (g, ad) (by simp)
      simp only at hl
      refine ⟨(g, ad), by simp, e.symm, h1.symm, h2.symm, h3.symm, by simp [aget, e], fun j hj => ?_⟩
      simp only [bsK, e, if_true, List.flatMap_cons, Nat.zero_add]
      exact List.getElem?_append_left (by omega)
    · rename_i e
      obtain ⟨x, h1, h2, h3, h4, h5, h6, h7⟩ := ih (fun x hx => hf x (by simp [hx])) h
      have hl := hf (g, ad) (by simp)
      simp only at hl
      refine ⟨x, by simp [h1], h2, h3, h4, h5, by simpa [aget, e] using h6, fun j hj => ?_⟩
      simp only [bsK, e, if_false, List.flatMap_cons]
      rw [List.getElem?_append_right (by omega)]
      rw [show g.cells.length + bsK K r + j - (f (g, ad)).length = bsK K r + j by omega]
      exact h7 j hj
theorem coverK {K : List (GP × Addr)} (hnd : nodupN (K.map fun x => x.1.i) = true) {j : Nat} (h : j < (cellsK K).length) : ∃ r b o n t, prK K r = some (b, o, n) ∧ t < n ∧ j = bsK K r + t := by
  induction K generalizing j with
  | nil => simp [cellsK] at h
  | cons y K ih =>
    obtain ⟨g, ad⟩ := y
    simp only [List.map_cons, nodupN, Bool.and_eq_true, Bool.not_eq_true', List.contains_eq_mem, decide_eq_false_iff_not] at hnd
    simp only [cellsK, List.flatMap_cons, List.length_append] at h
    by_cases hj : j < g.cells.length
    · exact ⟨2 * g.i + 2, ad.block, ad.off, g.cells.length, j, by simp [prK], hj, by simp [bsK]⟩
    · obtain ⟨r, b, o, n, t, h1, h2, h3⟩ := ih hnd.2 (j := j - g.cells.length) (by simp only [cellsK]; omega)
      have hne : 2 * g.i + 2 ≠ r := fun e => by
        obtain ⟨x, x1, x2, _⟩ := prK_some h1
        exact hnd.1 (List.mem_map.2 ⟨x, x1, by omega⟩)
      exact ⟨r, b, o, n, t, by simp [prK, hne, h1], h2, by simp only [bsK, hne, if_false]; omega⟩

/-- The world before what the pointers lead to was changed. -/
def RWs (w : World) : List (GP × Addr) → World → World
  | [], W => W
  | x :: K, W => RWs w K (restore w W x.2.block)
theorem RWs_size {w : World} {K : List (GP × Addr)} : ∀ {W : World}, (RWs w K W).heap.size = W.heap.size := by
  induction K with
  | nil => intro W; rfl
  | cons x K ih => intro W; simp only [RWs]; rw [ih, restore_size]
theorem RWs_rest {w : World} {K : List (GP × Addr)} : ∀ {W : World}, (RWs w K W).os = W.os ∧ (RWs w K W).tape = W.tape ∧ (RWs w K W).output = W.output := by
  induction K with
  | nil => intro W; exact ⟨rfl, rfl, rfl⟩
  | cons x K ih =>
    intro W
    simp only [RWs]
    obtain ⟨a1, a2, a3⟩ := ih (W := restore w W x.2.block)
    obtain ⟨r1, r2, r3, _⟩ := restore_rest (w := w) (W := W) (b := x.2.block)
    exact ⟨a1.trans r1, a2.trans r2, a3.trans r3⟩
theorem RWs_ne {w : World} {K : List (GP × Addr)} {k : Nat} : ∀ {W : World}, (∀ x ∈ K, k ≠ x.2.block) → (RWs w K W).heap[k]? = W.heap[k]? := by
  induction K with
  | nil => intro W h; rfl
  | cons x K ih =>
    intro W h
    simp only [RWs]
    rw [ih fun y hy => h y (by simp [hy]), restore_ne (h x (by simp))]
theorem RWs_keep {w : World} {K : List (GP × Addr)} {k : Nat} (h2 : k < w.heap.size) : ∀ {W : World}, k < W.heap.size → W.heap[k]? = w.heap[k]? → (RWs w K W).heap[k]? = w.heap[k]? := by
  induction K with
  | nil => intro W h1 h; exact h
  | cons x K ih =>
    intro W h1 h
    simp only [RWs]
    refine ih (by rw [restore_size]; exact h1) ?_
    by_cases e : k = x.2.block
    · rw [← e]; exact restore_eq h1 h2
    · rw [restore_ne e]; exact h
theorem RWs_eq {w : World} {K : List (GP × Addr)} {k : Nat} (h2 : k < w.heap.size) : ∀ {W : World}, k < W.heap.size → (∃ x ∈ K, k = x.2.block) → (RWs w K W).heap[k]? = w.heap[k]? := by
  induction K with
  | nil => intro W h1 h; obtain ⟨x, hx, _⟩ := h; simp at hx
  | cons x K ih =>
    intro W h1 h
    simp only [RWs]
    obtain ⟨y, hy, e⟩ := h
    rcases List.mem_cons.1 hy with rfl | hy
    · exact RWs_keep h2 (by rw [restore_size]; exact h1) (by rw [e]; rw [e] at h1 h2; exact restore_eq h1 h2)
    · exact ih (by rw [restore_size]; exact h1) ⟨y, hy, e⟩

section
variable {P : Program} {M : Fm} {σ σ' : St} {H : List TV} {xs : List Value} {ts : Array Value} {w : World} {G : Gh} {a : Act} {o : Oper}

theorem putP_vers {p : Place} {t : TV} (h : (putP p t).run σ = some ((), σ')) {r : Nat} (hr : r ≠ p.root) (o n : Nat) : vers σ'.v r o n = vers σ.v r o n := by
  unfold putP at h
  simp only [SP.run] at h
  have bump : ∀ {vr : List (Key × Nat)}, σ'.vr = vr → (∀ q, vget vr q = vget σ.vr q + if (p.root, p.off, p.hops.length + 1) = q then 1 else 0) → vers σ'.v r o n = vers σ.v r o n := by
    intro vr e hv
    have hv' : ∀ q, σ'.v q = σ.v q + if (p.root, p.off, p.hops.length + 1) = q then 1 else 0 := fun q => by unfold St.v; rw [e]; exact hv q
    rw [vers_eq_iff]
    have hne : ∀ o' d, ((p.root, p.off, p.hops.length + 1) : Key) ≠ (r, o', d) := fun o' d e => by
      injection e with e _
      exact hr e.symm
    refine ⟨by rw [hv', if_neg (hne _ _)]; omega, fun d hd => by rw [hv', if_neg (hne _ _)]; omega⟩
  cases hg : getT (σ.c p.root p.off) p.hops with
  | none => simp [hg, SP.run] at h
  | some old =>
    simp only [hg] at h
    split at h
    · split at h
      · obtain ⟨l, hl, ho, h3⟩ := SP.run_wrC h
        simp only [SP.run, Option.some.injEq, Prod.mk.injEq, true_and] at h3
        exact bump (vr := vinc σ.vr (p.root, p.off, p.hops.length + 1)) (by rw [← h3]) fun q => vget_vinc _ _ _
      · simp [SP.run] at h
    · obtain ⟨l, hl, ho, h3⟩ := SP.run_wrC h
      simp only [SP.run, Option.some.injEq, Prod.mk.injEq, true_and] at h3
      have hv : σ'.v = σ.v := by rw [← h3]; rfl
      rw [hv]
theorem putL_vers : ∀ {l : List TV} {p : Place} {σ σ' : St}, (putL p l).run σ = some ((), σ') → ∀ {r : Nat}, r ≠ p.root → ∀ o n, vers σ'.v r o n = vers σ.v r o n := by
  intro l
  induction l with
  | nil =>
    intro p σ σ' h r hr o n
    simp only [putL, SP.run, Option.some.injEq, Prod.mk.injEq, true_and] at h
    rw [h]
  | cons t l ih =>
    intro p σ σ' h r hr o n
    simp only [putL] at h
    obtain ⟨_, σ1, h1, h2⟩ := SP.run_bind_some h
    rw [← putP_vers h1 hr o n]
    cases l with
    | nil =>
      simp only [SP.run, Option.some.injEq, Prod.mk.injEq, true_and] at h2
      rw [h2]
    | cons t2 l =>
      simp only at h2
      split at h2
      · exact ih h2 (by rw [Place.add_root]; exact hr) o n
      · simp [SP.run] at h2
theorem putBack_vers : ∀ {q : List (GP × List TV)} {σ σ' : St}, (putBack q).run σ = some ((), σ') → ∀ {r : Nat}, (∀ x ∈ q, r ≠ x.1.p.root) → ∀ o n, vers σ'.v r o n = vers σ.v r o n := by
  intro q
  induction q with
  | nil =>
    intro σ σ' h r hr o n
    simp only [putBack, SP.run, Option.some.injEq, Prod.mk.injEq, true_and] at h
    rw [h]
  | cons x q ih =>
    intro σ σ' h r hr o n
    obtain ⟨g, l⟩ := x
    simp only [putBack] at h
    obtain ⟨_, σ1, h1, h2⟩ := SP.run_bind_some h
    split at h2
    · rw [putL_vers h2 (hr (g, l) (by simp)) o n]
      exact ih h1 (fun x hx => hr x (by simp [hx])) o n
    · simp [SP.run] at h2

/-- What is known of a pointer's variable, before and after. -/
def Seg (w W : World) (x : GP × Addr) (vs : List Value) : Prop :=
  ∃ cur0 cur e fz, w.heap[x.2.block]? = some (.cells cur0 e fz) ∧ W.heap[x.2.block]? = some (.cells cur e fz) ∧ cur.size = cur0.size ∧ (∀ j, (j < x.2.off ∨ x.2.off + vs.length ≤ j) → cur[j]? = cur0[j]?) ∧ ∀ j (h : j < vs.length), cur[x.2.off + j]? = some vs[j]

theorem putBack_ok {f : GP × Addr → List TV} {v : GP × Addr → List Value} (hfv : ∀ x, (f x).length = (v x).length) : ∀ {K : List (GP × Addr)} {σ σ' : St} {H0 : List TV} {x0 : List Value} {W : World} {G : Gh}, H0.length = x0.length →
    Inv M σ (H0 ++ K.flatMap f) (x0 ++ K.flatMap v) ts (RWs w K W) G → (∀ x ∈ K, Seg w W x (v x)) → (∀ x ∈ K, f x ≠ []) → (∀ x ∈ K, ∀ y ∈ K, x.2.block = y.2.block → x = y) → nodupN (K.map fun x => x.1.p.root) = true →
    (∀ x ∈ K, x.1.p.root ≠ 1 ∧ G.addr (RWs w K W) x.1.p = some x.2 ∧ ∃ t, getT (extC M σ (H0 ++ K.flatMap f) x.1.p.root x.1.p.off) x.1.p.hops = some t) →
    (putBack (K.map fun x => (x.1, f x))).run σ = some ((), σ') → ∃ G', Inv M σ' H0 x0 ts W G' ∧ σ'.tm = σ.tm ∧ Moves M (RWs w K W) σ (H0 ++ K.flatMap f) G W σ' H0 G' := by
  intro K
  induction K with
  | nil =>
    intro σ σ' H0 x0 W G hl0 hI _ _ _ _ _ hr
    simp only [List.map_nil, putBack, SP.run, Option.some.injEq, Prod.mk.injEq, true_and] at hr
    subst hr
    have hI : Inv M σ (H0 ++ []) (x0 ++ []) ts W G := hI
    rw [List.append_nil, List.append_nil] at hI
    refine ⟨G, hI, rfl, ?_⟩
    show Moves M W σ (H0 ++ []) G W σ H0 G
    rw [List.append_nil]
    exact Moves.refl _ _ _ _ _
  | cons x K ih =>
    intro σ σ' H0 x0 W G hl0 hI hseg hne hinj hnd hadr hr
    simp only [List.map_cons, putBack] at hr
    obtain ⟨_, σ1, h1, h2⟩ := SP.run_bind_some hr
    split at h2
    case isFalse => simp [SP.run] at h2
    rename_i hck
    simp only [Bool.and_eq_true, decide_eq_true_eq, List.all_eq_true, Bool.not_eq_true'] at hck
    simp only [List.map_cons, nodupN, Bool.and_eq_true, Bool.not_eq_true', List.contains_eq_mem, decide_eq_false_iff_not] at hnd
    have hxK : ∀ y ∈ K, y.1.p.root ≠ x.1.p.root := fun y hy e => hnd.1 (by rw [← e]; exact List.mem_map.2 ⟨y, hy, rfl⟩)
    have hbK : ∀ y ∈ K, x.2.block ≠ y.2.block := fun y hy e => by
      have := hinj x (by simp) y (by simp [hy]) e
      exact hxK y hy (by rw [this])
    have hI' : Inv M σ ((H0 ++ f x) ++ K.flatMap f) ((x0 ++ v x) ++ K.flatMap v) ts (RWs w K (restore w W x.2.block)) G := by
      simpa [RWs, List.append_assoc] using hI
    obtain ⟨G1, hI1, htm1, hm1⟩ := ih (W := restore w W x.2.block) (by simp [hl0, hfv]) hI' (fun y hy => by
        obtain ⟨cur0, cur, e, fz, s1, s2, s3⟩ := hseg y (by simp [hy])
        exact ⟨cur0, cur, e, fz, s1, by rw [restore_ne (Ne.symm (hbK y hy))]; exact s2, s3⟩) (fun y hy => hne y (by simp [hy])) (fun y hy z hz => hinj y (by simp [hy]) z (by simp [hz])) hnd.2
      (fun y hy => by have := hadr y (by simp [hy]); simpa [RWs, List.append_assoc] using this) h1
    obtain ⟨hr1, ha, t0, hget⟩ := hadr x (by simp)
    have hvers := putBack_vers h1 (r := x.1.p.root) (fun y hy => by
      obtain ⟨z, hz, rfl⟩ := List.mem_map.1 hy
      exact Ne.symm (hxK z hz)) x.1.p.off x.1.p.hops.length
    obtain ⟨t1, ha1, hget1⟩ := hm1.keeps.ptr x.1.p x.2 t0 hr1 hvers (by simpa [RWs] using ha) (by simpa [List.append_assoc] using hget)
    have hdrop : (H0 ++ f x).drop H0.length = f x := by simp
    obtain ⟨_, G2, H2, hI2, e1, e2, e3, e4, e5, e6⟩ := putL_ok (k := H0.length) hI1 hr1 ha1 hdrop (hne x (by simp)) (fun j hj hk => by
        intro e
        have hj' : j - H0.length < (f x).length := by simp at hj; omega
        have : (H0 ++ f x)[j] = (f x)[j - H0.length] := by rw [List.getElem_append_right hk]
        rw [this] at e
        have := hck.2 _ (List.getElem_mem hj')
        rw [e] at this
        simp [isDead] at this) h2
    obtain ⟨cur0, cur, e, fz, s1, s2, s3, s4, s5⟩ := hseg x (by simp)
    have hxd : (x0 ++ v x).drop H0.length = v x := by rw [hl0]; simp
    rw [hxd, setCells_restore s1 s2 s3 s4 s5] at hI2 e5
    obtain ⟨hI3, e7⟩ := hI2.trunc (k := H0.length) e2
    have hT : H2.take H0.length = H0 := by
      apply List.ext_getElem
      · simp [e1]
      · intro j hj hj'
        rw [List.getElem_take]
        rw [e3 j (by rw [e1]; simp; omega) (by simp; omega) hj']
        rw [List.getElem_append_left hj']
    have hX : (x0 ++ v x).take H0.length = x0 := by rw [hl0]; simp
    rw [hT] at hI3 e7
    rw [hX] at hI3
    refine ⟨G2, hI3, e4.trans htm1, ?_⟩
    have hm2 : Moves M (restore w W x.2.block) σ1 (H0 ++ f x) G1 W σ' H0 G2 := ⟨e5.size, by rw [e7]; exact e5.keeps, e5.heap, e5.free⟩
    have := hm1.trans hm2
    simpa [RWs, List.append_assoc] using this
end
end Go.Proofs.Ytkmbahlpmoljpaa
/- A call on trees: what it is in the program; no condition. -/
set_option linter.unusedVariables false
set_option linter.unusedSimpArgs false
namespace Go.Proofs.Ytkmbahlpmoljpaa
open Go.RowKit

/-- The function is one of the program's own. -/
def Enters (P : Program) (f : FuncId) : Prop := ∀ args w, (callFunc f args).run P w = .ok (.enter f args) w
theorem enters_of {P : Program} {f : FuncId} {fn : Func} {c : Code} (hf : P.funcs[f]? = some fn) (hname : (fn.name == "runtime.NumGoroutine") = false) (hb : fn.body = some c) : Enters P f := by
  intro args w
  unfold callFunc
  simp only [Sem.run_bind, run_program, Result.andThen_ok, hf]
  rw [if_neg (by rw [hname]; simp), if_neg (by rw [hb]; simp)]
  rfl

/-- What a function's run on trees tells of the function. -/
def CalleeOk (P : Program) (F : Callee) : Prop :=
  ∀ f vals pts res pts', F f vals pts = some (res, pts') → Enters P f ∧ ∃ N, vals.length ≤ N ∧ ∀ (M : Fm) (as : List Value) (w : World) (G : Gh), as.length = vals.length → M.N = N → M.w0 = w → (∀ r, M.pr r ≠ none → ∃ i p vs, vals[i]? = some (.ptr p vs) ∧ r = 2 * i + 2) →
    Inv M (mkSt vals pts) [] [] (as.toArray ++ Array.replicate (N - as.length) undef) w G →
    Calls P f as.toArray w fun e w2 => ∃ ys ts2 σ2 G2, e = .returned (resVal res.sh ys) ∧ Inv M σ2 res.cells ys ts2 w2 G2 ∧ (∀ j (h : j < res.cells.length), okCell res.cells[j] = true ∨ isOw res.cells[j] = true) ∧ pts' = pts.map fun x => (x.1, (aget σ2.ce x.1).getD [])

/-- Functions that only make a variable. -/
def BoxOk (P : Program) (E : Env) : Prop :=
  ∀ f n tm, E.box f = some (n, tm) → Enters P f ∧ (∀ x, .val x ∈ tm → vflat x = true) ∧ ∃ ty, ∀ (as : List Value) (w : World), as.length = n → (∀ y ∈ tm.map (bxV as), y.oneCell' = true) →
    Calls P f as.toArray w fun e w' => e = .returned (.pointer (some ⟨w.heap.size, 0, none⟩)) ∧ w' = w.alloc (.cells (tm.map (bxV as)).toArray ty)

/-- A call of the program, and the same on trees. -/
def isCall1 : Op → TOp → Prop
  | .call ⟨.value f, args, _⟩, .call _ f' args' => compOpd f = some f' ∧ args'.length = args.size ∧ ∀ j (h : j < args'.length) (h' : j < args.size), compOpd args[j] = some args'[j].2
  | _, _ => False
/-- Stands for an operation that is not told on trees: it always fails. -/
def badOp : TOp := .call false (.c undef) []
def isCallOp (op : Op) (t : TOp) : Prop := t = badOp ∨ isCall1 op t

section
variable {P : Program} {M : Fm} {σ σ' : St} {H : List TV} {xs : List Value} {ts : Array Value} {w : World} {G : Gh} {a : Act} {o : Oper}

theorem argTs_len : ∀ {l : List TV} {i : Nat}, (argTs i l).length = l.length := by
  intro l
  induction l with
  | nil => intro i; rfl
  | cons t l ih => intro i; simp [argTs, ih]

theorem shapeR_ok {F : Nat → Prop} {V : Vs} {C : Cs} : ∀ {sh : List RSh} {l : List TV} {ys : List Value}, rshOk sh l.length = true → l.length = ys.length → (∀ j (h : j < l.length), TmR w F V C G l[j] (ys.getD j undef)) →
    (shapeR sh l).length = (resVals sh ys).length ∧ ∀ j (h : j < (shapeR sh l).length), TmR w F V C G (shapeR sh l)[j] ((resVals sh ys).getD j undef) := by
  intro sh
  induction sh with
  | nil => intro l ys _ _ _; exact ⟨rfl, fun j h => by simp [shapeR] at h⟩
  | cons s sh ih =>
    intro l ys hs hl ht
    cases s with
    | one =>
      simp only [rshOk, Bool.and_eq_true, decide_eq_true_eq] at hs
      cases l with
      | nil => simp at hs
      | cons t l =>
        cases ys with
        | nil => simp at hl
        | cons y ys =>
          obtain ⟨e, h2⟩ := ih (l := l) (ys := ys) (by simpa using hs.2) (by simpa using hl) fun j h => by have := ht (j + 1) (by simpa using h); simpa using this
          refine ⟨by simp [shapeR, resVals, e], fun j h => ?_⟩
          cases j with
          | zero => have := ht 0 (by simp); simpa [shapeR, resVals] using this
          | succ j => have := h2 j (by simpa [shapeR] using h); simpa [shapeR, resVals] using this
    | agg n =>
      simp only [rshOk, Bool.and_eq_true, decide_eq_true_eq] at hs
      obtain ⟨e, h2⟩ := ih (l := l.drop n) (ys := ys.drop n) (by simpa using hs.2) (by simp [hl]) fun j h => by
        have h' : n + j < l.length := by simp at h; omega
        have := ht (n + j) h'
        simpa [List.getD_eq_getElem?_getD, List.getElem?_drop] using this
      refine ⟨by simp [shapeR, resVals, e], fun j h => ?_⟩
      cases j with
      | zero =>
        simp only [shapeR, resVals, List.getElem_cons_zero, List.getD_cons_zero]
        refine .agg (by simp; omega) fun j hj => ?_
        have hj' : j < n ∧ j < l.length := by simp at hj; omega
        have := ht j hj'.2
        have e2 : (List.take n ys).toArray.getD j undef = ys.getD j undef := by simp [Array.getD_eq_getD_getElem?, List.getD_eq_getElem?_getD, List.getElem?_take, hj'.1]
        rw [e2]
        simpa using this
      | succ j => have := h2 j (by simpa [shapeR] using h); simpa [shapeR, resVals] using this
    | ptr p => simp [rshOk] at hs

theorem shapeT_ok {F : Nat → Prop} {V : Vs} {C : Cs} {sh : List RSh} {l : List TV} {ys : List Value} (hs : rshOk sh l.length = true) (hl : l.length = ys.length) (ht : ∀ j (h : j < l.length), TmR w F V C G l[j] (ys.getD j undef)) : TmR w F V C G (shapeT sh l) (resVal sh ys) := by
  obtain ⟨e, h2⟩ := shapeR_ok hs hl ht
  by_cases h1 : ∃ x, shapeR sh l = [x]
  · obtain ⟨x, hx⟩ := h1
    obtain ⟨y, hy⟩ : ∃ y, resVals sh ys = [y] := List.length_eq_one_iff.1 (by rw [← e, hx]; rfl)
    have := h2 0 (by rw [hx]; simp)
    have e1 : shapeT sh l = x := by unfold shapeT; rw [hx]
    have e2 : resVal sh ys = y := by unfold resVal; rw [hy]
    rw [e1, e2]
    simp only [hx, hy] at this
    simpa using this
  · have hne : ¬ ∃ y, resVals sh ys = [y] := fun ⟨y, hy⟩ => h1 (List.length_eq_one_iff.1 (by rw [e, hy]; rfl))
    have e1 : shapeT sh l = TV.tup (shapeR sh l) := by
      unfold shapeT
      split
      · rename_i x hx; exact absurd ⟨x, hx⟩ h1
      · rfl
    have e2 : resVal sh ys = Value.tuple (resVals sh ys).toArray := by
      unfold resVal
      split
      · rename_i x hx; exact absurd ⟨x, hx⟩ hne
      · rfl
    rw [e1, e2]
    refine .tup (by simp [e]) fun j hj => ?_
    have := h2 j hj
    have e3 : (resVals sh ys).toArray.getD j undef = (resVals sh ys).getD j undef := by simp [Array.getD_eq_getD_getElem?, List.getD_eq_getElem?_getD]
    rw [e3]
    exact this

theorem rsh_len : ∀ {sh : List RSh} {n : Nat}, rshOk sh n = true → True := fun _ => trivial

/-- What came back goes to its slot. -/
theorem land_ok {res : TRes} {ys : List Value} (hI : Inv M σ res.cells ys ts w G) (hok : ∀ j (h : j < res.cells.length), okCell res.cells[j] = true ∨ isOw res.cells[j] = true) (hs : rshOk res.sh res.cells.length = true)
    {dst : Option Nat} (hd : ∀ d, dst = some d → d < M.N) (hr : (landR dst res).run σ = some ((), σ')) : ∃ G', Inv M σ' [] [] (match dst with | some d => ts.setIfInBounds d (resVal res.sh ys) | none => ts) w G' := by
  cases dst with
  | none =>
    simp only [landR, SP.run, Option.some.injEq, Prod.mk.injEq, true_and] at hr
    subst hr
    obtain ⟨G', hg, _⟩ := hI.drop
    exact ⟨G', hg.1⟩
  | some d =>
    simp only [landR] at hr
    obtain ⟨l, σ1, h1, h2⟩ := SP.run_bind_some hr
    obtain ⟨G1, hI1, _, hl, ht⟩ := names_ok hI hok h1
    simp only [wr, SP.run, Option.some.injEq, Prod.mk.injEq, true_and] at h2
    subst h2
    exact ⟨G1, hI1.wrT (hd d rfl) (shapeT_ok (by rw [hl]; exact hs) (by rw [hl]; exact hI.hand) ht)⟩
end
end Go.Proofs.Ytkmbahlpmoljpaa
