/- Into another function; no condition. -/
import Derived.Test.YtjmfjjmdfikanaaQf
set_option linter.unusedVariables false
set_option linter.unusedSimpArgs false
namespace Go.Proofs.Ytjmfjjmdfikanaa
open Go.RowKit

/-- What is handed over lies in hand: variables pr, their cells ce, from bs on in hand. -/
structure Hands (H : List TV) (xs : List Value) (w : World) (G : Gh) (A : Nat → Prop) (pr : Nat → Option (Nat × Nat × Nat)) (bs : Nat → Nat) (ce : List (Nat × List TV)) : Prop where
  even : ∀ r b o n, pr r = some (b, o, n) → r % 2 = 0 ∧ 0 < n
  cells : ∀ r b o n, pr r = some (b, o, n) → ∃ l, aget ce r = some l ∧ l.length = n ∧ ∀ j (h : j < l.length), ∃ h' : bs r + j < H.length, l[j] = H[bs r + j] ∧ l[j] ≠ .dead
  only : ∀ r l, aget ce r = some l → pr r ≠ none
  apart : ∀ r b o n r' b' o' n', pr r = some (b, o, n) → pr r' = some (b', o', n') → ∀ j j', j < n → j' < n' → bs r + j = bs r' + j' → r = r'
  inj : ∀ r b o n r' o' n', pr r = some (b, o, n) → pr r' = some (b, o', n') → r = r'
  notF : ∀ r b o n, pr r = some (b, o, n) → ¬ G.F A b
  notH : ∀ r b o n, pr r = some (b, o, n) → ∀ j, ¬ G.φ 1 j b
  here : ∀ r b o n, pr r = some (b, o, n) → ∀ j, j < n → w.cell? ⟨b, o + j, none⟩ = some (xs.getD (bs r + j) undef) ∧ w.frozen? ⟨b, o + j, none⟩ = false

/-- What the other function begins with. -/
def Fm.into (M : Fm) (w : World) (G : Gh) (pr : Nat → Option (Nat × Nat × Nat)) (N : Nat) : Fm where
  w0 := w
  A := fun k => G.F M.A k ∨ (∃ j, G.φ 1 j k) ∨ w.heap.size ≤ k
  W0 := fun k => ∃ j, G.φ 1 j k
  pr := pr
  N := N
  hA := fun k h => .inr (.inr h)
def Gh.into (G : Gh) (pr : Nat → Option (Nat × Nat × Nat)) (bs : Nat → Nat) : Gh :=
  ⟨pr, fun _ _ => undef, fun r o k => ∃ b o0 n, pr r = some (b, o0, n) ∧ o < n ∧ G.φ 1 (bs r + o) k⟩

section
variable {P : Program} {M : Fm} {σ σ' : St} {H : List TV} {xs : List Value} {ts : Array Value} {w : World} {G : Gh}
variable {pr : Nat → Option (Nat × Nat × Nat)} {bs : Nat → Nat} {ce : List (Nat × List TV)}

theorem Hands.F (hh : Hands H xs w G M.A pr bs ce) {N k : Nat} (h : G.F M.A k) : (G.into pr bs).F (M.into w G pr N).A k :=
  ⟨.inl h, fun r o ⟨b, o0, n, h1, h2, h3⟩ => h.2.1 _ _ h3, fun r b o n hb e => hh.notF r b o n hb (e ▸ h)⟩
theorem cell_block {w : World} {b o : Nat} {v : Value} (h : w.cell? ⟨b, o, none⟩ = some v) : ∃ cur e fz, w.heap[b]? = some (.cells cur e fz) ∧ o < cur.size ∧ cur[o]? = some v := by
  unfold World.cell? at h
  simp only at h
  split at h
  · rename_i cur e fz hb
    simp at h
    refine ⟨cur, e, fz, hb, ?_, h⟩
    exact (Array.getElem?_eq_some_iff.1 h).1
  · simp at h

theorem Inv.enter (hI : Inv M σ H xs ts w G) (hh : Hands H xs w G M.A pr bs ce) {tm : List (Nat × TV)} {ts' : Array Value} {N : Nat} (hN : ts'.size = N)
    (ht : ∀ i, TmR w ((G.into pr bs).F (M.into w G pr N).A) (fun _ => 0) (extC (M.into w G pr N) ⟨tm, ce, []⟩ []) (G.into pr bs) ((aget tm i).getD .dead) (ts'.getD i undef)) :
    Inv (M.into w G pr N) ⟨tm, ce, []⟩ [] [] ts' w (G.into pr bs) := by
  have hev : ∀ r b o n, pr r = some (b, o, n) → r ≠ 1 := fun r b o n h e => by have := (hh.even r b o n h).1; omega
  have hcell : ∀ r o, extC (M.into w G pr N) ⟨tm, ce, []⟩ [] r o = match aget ce r with | some l => l.getD o .dead | none => .dead := by
    intro r o
    unfold extC
    split
    · rename_i e
      cases hc : aget ce r with
      | none => simp
      | some l =>
        exfalso
        cases hp : pr r with
        | none => exact hh.only r l hc hp
        | some x => exact hev r _ _ _ hp e
    · rfl
  refine ⟨⟨fun r o => ?_, fun r b o0 n hb => ?_, fun r b o0 n hb o ho => ?_, fun r r' b o n o' n' h1 h2 => hh.inj r b o n r' o' n' h1 h2, fun r b o n hb r' o' ⟨b1, o1, n1, h1, h2, h3⟩ => hh.notH r b o n hb _ h3, fun r1 o1 r2 o2 k ⟨b1, p1, n1, h1, h2, h3⟩ ⟨b2, p2, n2, k1, k2, k3⟩ => ?_, fun r o k ⟨b1, p1, n1, h1, h2, h3⟩ => .inr (.inl ⟨_, h3⟩)⟩, ht, ?_, fun r l h => ?_, hN, rfl, fun j hj => by simp at hj, fun r b o n hb l hl => ?_⟩
  · rw [hcell]
    cases hc : aget ce r with
    | none =>
      left
      refine ⟨rfl, fun k ⟨b1, p1, n1, h1, h2, h3⟩ => ?_⟩
      obtain ⟨l, h4, _⟩ := hh.cells r _ _ _ h1
      rw [hc] at h4; simp at h4
    | some l =>
      cases hp : pr r with
      | none => exact absurd hp (hh.only r l hc)
      | some x =>
        obtain ⟨b, o0, n⟩ := x
        obtain ⟨l', h4, h5, h6⟩ := hh.cells r _ _ _ hp
        rw [hc] at h4
        injection h4 with h4
        subst h4
        by_cases ho : o < l.length
        · right
          obtain ⟨h7, h8, h9⟩ := h6 o ho
          have hown := hI.hand_own h7 (by rw [← h8]; exact h9)
          have hval : (G.into pr bs).val w r o = xs.getD (bs r + o) undef := by
            unfold Gh.val Gh.into
            simp only [hp]
            rw [(hh.here r _ _ _ hp o (by omega)).1]
            rfl
          rw [hval]
          have e : l.getD o .dead = l[o] := by simp [ho]
          simp only [e]
          rw [h8]
          refine (hown.frame (fun _ _ => rfl) (fun _ _ _ => rfl) fun k hk _ => hh.F hk).refp fun k => ?_
          constructor
          · intro hk; exact ⟨b, o0, n, hp, by omega, hk⟩
          · rintro ⟨_, _, _, _, _, hk⟩; exact hk
        · left
          refine ⟨by simp only []; rw [List.getD_eq_getElem?_getD, List.getElem?_eq_none (by omega)]; rfl, fun k ⟨b1, p1, n1, h1, h2, h3⟩ => ?_⟩
          rw [hp] at h1
          injection h1 with h1
          injection h1 with _ h1
          injection h1 with _ h1
          omega
  · have hn := (hh.even r _ _ _ hb).2
    have hb' : pr r = some (b, o0, n) := hb
    obtain ⟨cur, e, fz, h1, h2, h3⟩ := cell_block (hh.here r _ _ _ hb' (n - 1) (by omega)).1
    exact ⟨cur, e, fz, h1, by omega, fun j hj => (hh.here r _ _ _ hb' j hj).2⟩
  · have hb' : pr r = some (b, o0, n) := hb
    rw [hcell]
    obtain ⟨l, h1, h2, _⟩ := hh.cells r _ _ _ hb'
    rw [h1]
    show l.getD o .dead = .dead
    rw [List.getD_eq_getElem?_getD, List.getElem?_eq_none (by omega)]; rfl
  · obtain ⟨_, h5⟩ := hI.core.dis _ _ _ _ k h3 k3
    have := hh.apart _ _ _ _ _ _ _ _ h1 k1 _ _ h2 k2 h5
    subst this
    exact ⟨rfl, by omega⟩
  · refine ⟨rfl, rfl, rfl, Nat.le_refl _, fun _ _ _ _ => rfl, fun r b o n hp => ⟨hp, ?_⟩, fun r o k ⟨b1, p1, n1, h1, h2, h3⟩ => .inl ⟨_, h3⟩, fun r b o n hb => .inl hb, fun r hb => ?_⟩
    · have hn := (hh.even r _ _ _ hp).2
      obtain ⟨cur, e, fz, h1, h2, h3⟩ := cell_block (hh.here r _ _ _ hp (n - 1) (by omega)).1
      exact ⟨cur, cur, e, fz, h1, h1, rfl, fun _ _ => rfl⟩
    · cases hp : pr r with
      | none => exact absurd hp hb
      | some x => exact (hh.even r _ _ _ hp).1
  · cases hp : pr r with
    | none => exact absurd hp (hh.only r l h)
    | some x => exact hev r _ _ _ hp
  · obtain ⟨l', h1, h2, _⟩ := hh.cells r _ _ _ hb
    have hl' : aget ce r = some l := hl
    rw [hl'] at h1
    injection h1 with h1
    rw [h1]; exact h2
end
end Go.Proofs.Ytjmfjjmdfikanaa
/- Back from another function; no condition. -/
set_option linter.unusedVariables false
set_option linter.unusedSimpArgs false
namespace Go.Proofs.Ytjmfjjmdfikanaa
open Go.RowKit

/-- What comes back, in hand: first what the function handed back, then what the variables hold. -/
structure Hands2 (H2 : List TV) (ys : List Value) (H' : List TV) (xs' : List Value) (C2 : Cs) (G2 : Gh) (w2 : World) (pr : Nat → Option (Nat × Nat × Nat)) (bs : Nat → Nat) : Prop where
  len : H'.length = xs'.length
  low : ∀ j (h : j < H2.length), ∃ h' : j < H'.length, H'[j] = H2[j] ∧ xs'.getD j undef = ys.getD j undef
  cells : ∀ r b o n, pr r = some (b, o, n) → ∀ t, t < n → ∃ h : bs r + t < H'.length, H2.length ≤ bs r + t ∧ H'[bs r + t] = C2 r t ∧ xs'.getD (bs r + t) undef = G2.val w2 r t
  cover : ∀ j, j < H'.length → j < H2.length ∨ ∃ r b o n t, pr r = some (b, o, n) ∧ t < n ∧ j = bs r + t
  apart : ∀ r b o n r' b' o' n', pr r = some (b, o, n) → pr r' = some (b', o', n') → ∀ j j', j < n → j' < n' → bs r + j = bs r' + j' → r = r'

section
variable {P : Program} {M : Fm} {σ σ2 : St} {H H2 H' : List TV} {xs ys xs' : List Value} {ts ts2 : Array Value} {w w2 w' : World} {G G2 : Gh}
variable {pr : Nat → Option (Nat × Nat × Nat)} {bs bs2 : Nat → Nat} {ce : List (Nat × List TV)} {N : Nat}

theorem Inv.leave (hI : Inv M σ H xs ts w G) (hh : Hands H xs w G M.A pr bs ce) (h2 : Inv (M.into w G pr N) σ2 H2 ys ts2 w2 G2) (hb2 : Hands2 H2 ys H' xs' (extC (M.into w G pr N) σ2 H2) G2 w2 pr bs2)
    (hs : w'.heap.size = w2.heap.size) (ho : w'.os = w2.os) (htp : w'.tape = w2.tape) (hu : w'.output = w2.output) (hsame : ∀ k, (∀ r b o n, pr r = some (b, o, n) → k ≠ b) → w'.heap[k]? = w2.heap[k]?)
    (hback : ∀ r b o n, pr r = some (b, o, n) → w'.heap[b]? = w.heap[b]?) : ∃ G', Inv M σ H' xs' ts w' G' ∧ Moves M w σ H G w' σ H' G' ∧ G'.β = G.β := by
  have hFr := h2.fram
  let f : Nat → Nat → Prop := fun j k => (j < H2.length ∧ G2.φ 1 j k) ∨ ∃ r b o n t, pr r = some (b, o, n) ∧ t < n ∧ j = bs2 r + t ∧ G2.φ r t k
  have hfφ : ∀ j k, f j k → ∃ r o, G2.φ r o k := by
    rintro j k (⟨_, h⟩ | ⟨r, b, o, n, t, _, _, _, h⟩)
    · exact ⟨_, _, h⟩
    · exact ⟨_, _, h⟩
  have hβ2 : ∀ r b o n, pr r = some (b, o, n) → G2.β r = some (b, o, n) := fun r b o n h => (hFr.par r b o n h).1
  have hr1 : ∀ r b o n, pr r = some (b, o, n) → r ≠ 1 := fun r b o n h e => by have := (hh.even r b o n h).1; omega
  have hφw : ∀ r o k, G2.φ r o k → w'.heap[k]? = w2.heap[k]? := fun r o k h => hsame k fun r' b o' n hp e => h2.core.boxf r' b o' n (hβ2 _ _ _ _ hp) _ _ (e ▸ h)
  have hFw : ∀ k, G2.F (M.into w G pr N).A k → w'.heap[k]? = w2.heap[k]? := fun k h => hsame k fun r' b o' n hp e => h.2.2 r' b o' n (hβ2 _ _ _ _ hp) e
  obtain ⟨G', a1, a2, a3, _⟩ := hI.rehandL (w' := w') (H' := H') (xs' := xs') (f := f) (Fx := G2.F (M.into w G pr N).A)
    (fun k hk hn => by
      by_cases hp : ∃ r b o n, pr r = some (b, o, n) ∧ k = b
      · obtain ⟨r, b, o, n, hp, rfl⟩ := hp
        exact hback r k o n hp
      · have hp' : ∀ r b o n, pr r = some (b, o, n) → k ≠ b := fun r b o n h e => hp ⟨r, b, o, n, h, e⟩
        rw [hsame k hp']
        exact hFr.old k hk (fun ⟨j, hj⟩ => hn j hj) hp')
    (by rw [hs]; exact hFr.size) (ho.trans hFr.os) (htp.trans hFr.tape) (hu.trans hFr.output) hb2.len
    (fun j k h => by
      refine ⟨?_, ?_⟩
      · rcases h with ⟨h, _⟩ | ⟨r, b, o, n, t, hp, ht, rfl, _⟩
        · exact (hb2.low j h).1
        · exact (hb2.cells r b o n hp t ht).1
      · obtain ⟨r, o, hφ⟩ := hfφ j k h
        exact hFr.own r o k hφ)
    (fun j j' k h h' => by
      rcases h with ⟨h1, h3⟩ | ⟨r, b, o, n, t, hp, ht, rfl, h3⟩
      · rcases h' with ⟨k1, k3⟩ | ⟨r', b', o', n', t', hp', ht', rfl, k3⟩
        · exact (h2.core.dis _ _ _ _ k h3 k3).2
        · exact absurd (h2.core.dis _ _ _ _ k h3 k3).1.symm (hr1 _ _ _ _ hp')
      · rcases h' with ⟨k1, k3⟩ | ⟨r', b', o', n', t', hp', ht', rfl, k3⟩
        · exact absurd (h2.core.dis _ _ _ _ k h3 k3).1 (hr1 _ _ _ _ hp)
        · obtain ⟨e1, e2⟩ := h2.core.dis _ _ _ _ k h3 k3
          rw [e1, e2])
    (fun k h => ⟨h.1, fun j hf => by obtain ⟨r, o, hφ⟩ := hfφ j k hf; exact h.2.1 r o hφ⟩)
    (fun j hj => by
      rcases hb2.cover j hj with h | ⟨r, b, o, n, t, hp, ht, rfl⟩
      · obtain ⟨_, e1, e2⟩ := hb2.low j h
        have hno : ∀ k, f j k ↔ G2.φ 1 j k := fun k => by
          constructor
          · rintro (⟨_, h⟩ | ⟨r, b, o, n, t, hp, ht, e, _⟩)
            · exact h
            · have := (hb2.cells r b o n hp t ht).2.1; omega
          · exact fun hk => .inl ⟨h, hk⟩
        by_cases hd : H2[j] = .dead
        · left
          refine ⟨e1.trans hd, fun k hk => ?_⟩
          refine h2.phi_dead (r := 1) (o := j) ?_ k ((hno k).1 hk)
          rw [show (1 : Nat) = (M.into w G pr N).hr from rfl, extC_hr]
          simp [h, hd]
        · right
          have := h2.hand_own h hd
          rw [e1, e2]
          exact (this.frame (fun k hk => hφw _ _ k hk) (fun k hk _ => hFw k hk) fun k hk _ => hk).refp fun k => (hno k).symm
      · obtain ⟨h1, h3, h4, h5⟩ := hb2.cells r b o n hp t ht
        have hno : ∀ k, f (bs2 r + t) k ↔ G2.φ r t k := fun k => by
          constructor
          · rintro (⟨h, _⟩ | ⟨r', b', o', n', t', hp', ht', e, hk⟩)
            · omega
            · have := hb2.apart _ _ _ _ _ _ _ _ hp hp' _ _ ht ht' e
              subst this
              have : t = t' := by omega
              subst this
              exact hk
          · exact fun hk => .inr ⟨r, b, o, n, t, hp, ht, rfl, hk⟩
        rw [h4, h5]
        rcases h2.core.cell r t with ⟨c1, c2⟩ | c1
        · left; exact ⟨c1, fun k hk => c2 k ((hno k).1 hk)⟩
        · right
          exact (c1.frame (fun k hk => hφw _ _ k hk) (fun k hk _ => hFw k hk) fun k hk _ => hk).refp fun k => (hno k).symm)
  exact ⟨G', a1, a2, a3⟩
end
end Go.Proofs.Ytjmfjjmdfikanaa
/- A call on trees: the arguments; no condition. -/
set_option linter.unusedVariables false
set_option linter.unusedSimpArgs false
namespace Go.Proofs.Ytjmfjjmdfikanaa
open Go.RowKit

/-- A value that can be handed over as it is. -/
def isArg : TV → Bool
  | .v _ => true
  | .sl _ => true
  | .ip _ => true
  | .fn _ [] => true
  | .agg l => l.all fun t => match t with | .v _ => true | .sl _ => true | _ => false
  | _ => false
def argV (x : Opd) : SP TV := (opd x).bind fun t => match t with
  | .ip cs => .ret (.ip cs)
  | .fn f cap => .ret (.fn f cap)
  | .ptr p vs => .ret (.ptr p vs)
  | t => (takeV false t).bind fun l => .ret (shaped l.2 (l.1.map TV.imm))
def argVs : List Opd → SP (List TV)
  | [] => .ret []
  | x :: r => (argV x).bind fun t => (argVs r).bind fun l => .ret (t :: l)

/-- A pointer that is handed over, with what it leads to. -/
structure GP where
  i : Nat
  p : Place
  vs : List Nat
  cells : List TV
def grabL (p : Place) : Nat → SP (List TV)
  | 0 => .ret []
  | n + 1 => (getPl p).bind fun t => (peek1 p t).bind fun t' => (take1 true t').bind fun t2 => match n with
    | 0 => .ret [t2]
    | _ => if p.fits 1 then (grabL (p.add 1) n).bind fun r => .ret (t2 :: r) else .fail
def grabs : Nat → List (Option Nat × TV) → SP (List GP)
  | _, [] => .ret []
  | i, (some n, .ptr p vs) :: r => (chk p p.hops.length vs).bind fun _ => (grabL p n).bind fun l => (grabs (i + 1) r).bind fun q => .ret (⟨i, p, vs, l⟩ :: q)
  | i, (_, t) :: r => if isArg t then grabs (i + 1) r else .fail
/-- The variable is there. -/
def touch (p : Place) : SP Unit := .rdC p.root p.off fun tv => .wrC p.root p.off tv (.ret ())
def rechk : List GP → SP Unit
  | [] => .ret ()
  | g :: r => (chk g.p g.p.hops.length g.vs).bind fun _ => (touch g.p).bind fun _ => rechk r
def nodupN : List Nat → Bool
  | [] => true
  | x :: r => !r.contains x && nodupN r

def argT (i : Nat) : TV → TV
  | .ptr _ _ => .ptr ⟨2 * i + 2, 0, []⟩ [0]
  | t => t
def argTs : Nat → List TV → List TV
  | _, [] => []
  | i, t :: r => argT i t :: argTs (i + 1) r
def numbered {α : Type} : Nat → List α → List (Nat × α)
  | _, [] => []
  | i, t :: r => (i, t) :: numbered (i + 1) r
/-- How a function begins. -/
def mkSt (vals : List TV) (pts : Pts) : St := ⟨numbered 0 vals, pts, []⟩
def isDead : TV → Bool
  | .dead => true
  | _ => false
/-- What the pointers lead to, put back, the last one first. -/
def putBack : List (GP × List TV) → SP Unit
  | [] => .ret ()
  | (g, l) :: r => (putBack r).bind fun _ => if l.length = g.cells.length && l.all fun t => !isDead t then putL g.p l else .fail

def shapeR : List RSh → List TV → List TV
  | [], _ => []
  | .one :: r, l => l.headD .dead :: shapeR r l.tail
  | .agg n :: r, l => .agg (l.take n) :: shapeR r (l.drop n)
  | .ptr _ :: r, l => .dead :: shapeR r l
def shapeT (sh : List RSh) (l : List TV) : TV :=
  match shapeR sh l with
  | [x] => x
  | l => .tup l
def rshOk : List RSh → Nat → Bool
  | [], n => n == 0
  | .one :: r, n => decide (0 < n) && rshOk r (n - 1)
  | .agg m :: r, n => decide (m ≤ n) && rshOk r (n - m)
  | .ptr _ :: _, _ => false
def landR (dst : Option Nat) (res : TRes) : SP Unit :=
  match dst with
  | some d => (names d res.cells).bind fun l => wr d (shapeT res.sh l)
  | none => .ret ()
def callV (F : Callee) (dst : Option Nat) (f : FuncId) (ns : List (Option Nat)) (vals : List TV) : SP Unit :=
  (grabs 0 (ns.zip vals)).bind fun q => (rechk q).bind fun _ =>
    if nodupN (q.map (·.p.root)) && q.all (fun g => decide (0 < g.cells.length)) then
      (spOpt (F f (argTs 0 vals) (q.map fun g => (2 * g.i + 2, g.cells)))).bind fun r =>
        if r.2.map (·.1) = q.map (fun g => 2 * g.i + 2) && rshOk r.1.sh r.1.cells.length then (putBack (q.zip (r.2.map (·.2)))).bind fun _ => landR dst r.1 else .fail
    else .fail
/-- What a function that only makes a variable puts into it. -/
inductive BxC where
  | arg (i : Nat)
  | val (x : Value)
/-- Functions that only make a variable; how many cells captured pointers lead to (a hint). -/
structure Env where
  box : FuncId → Option (Nat × List BxC)
  ps : FuncId → List (Option Nat)
def bxT (vals : List TV) : BxC → TV
  | .arg i => vals.getD i .dead
  | .val x => .v x
def bxV (as : List Value) : BxC → Value
  | .arg i => as.getD i undef
  | .val x => x
def evBox (dst : Option Nat) (tm : List BxC) (vals : List TV) : SP Unit :=
  match dst with
  | some d => (takeL false (tm.map (bxT vals))).bind fun l => .new (2 * d + 2) l (.rdV (2 * d + 2, 0, 0) fun g => wr d (.ptr ⟨2 * d + 2, 0, []⟩ [g]))
  | none => .fail
def capNs (E : Env) (f : FuncId) (n m : Nat) : List (Option Nat) := (List.range m).map fun k => (E.ps f).getD (n + k) none
def evCall (E : Env) (F : Callee) (dst : Option Nat) : TOp → SP Unit
  | .call _ (.f f) args => (argVs (args.map (·.2))).bind fun vals => match E.box f with
    | some x => if vals.length = x.1 then evBox dst x.2 vals else .fail
    | none => callV F dst f (args.map (·.1)) vals
  | .call _ (.t i) args => .rdT i fun t => match t with
    | .fn f caps => (argVs (args.map (·.2))).bind fun vals => callV F dst f (args.map (·.1) ++ capNs E f args.length caps.length) (vals ++ caps)
    | _ => .fail
  | _ => .fail

section
variable {P : Program} {M : Fm} {σ σ' : St} {H : List TV} {xs : List Value} {ts : Array Value} {w : World} {G : Gh} {a : Act} {o : Oper}

theorem ImmR.toTm {F : Nat → Prop} {V : Vs} {C : Cs} {t : TV} {x : Value} (h : ImmR w F t x) : TmR w F V C G t x := by
  cases t with
  | v y => cases h with | v hf => exact .v hf
  | sl c => exact .sl h
  | dead => exact .dead
  | _ => cases h

theorem argV_ok (hI : Inv M σ [] [] a.tmps w G) {x : Opd} {x' : Operand} (hx : compOpd x' = some x) {t : TV} (hr : (argV x).run σ = some (t, σ')) :
    ∃ G', Goes M w a.tmps σ [] G σ' [] [] G' ∧ TmR w (G'.F M.A) σ'.v (extC M σ' []) G' t (a.eval x') := by
  unfold argV at hr
  obtain ⟨t0, σ1, h1, h2⟩ := SP.run_bind_some hr
  obtain ⟨rfl, ht⟩ := opd_ok hI.tmr hx h1
  have gen : ∀ (l : List TV × Bool) (σ2 : St), (takeV false t0).run σ1 = some (l, σ2) → t = shaped l.2 (l.1.map TV.imm) → σ' = σ2 → ∃ G', Goes M w a.tmps σ1 [] G σ' [] [] G' ∧ TmR w (G'.F M.A) σ'.v (extC M σ' []) G' t (a.eval x') := by
    rintro l σ2 h3 rfl rfl
    obtain ⟨xs, G1, hg, hsh, hok, hone⟩ := takeV_ok hI ht h3
    obtain ⟨G2, hg2, himm⟩ := hg.1.dropImm (cell_nd hok)
    refine ⟨G2, hg.trans hg2, ?_⟩
    have hlen := hg.1.hand
    rcases hsh with ⟨e1, e2⟩ | ⟨e1, y, e2, e3⟩
    · rw [e1, e2]
      simp only [shaped, if_true]
      refine .agg (by simp [hlen]) fun j hj => ?_
      have hj' : j < l.1.length := by simpa using hj
      have := himm j hj'
      simp only [List.getElem_map]
      have e : xs.toArray.getD j undef = xs.getD j undef := by simp [Array.getD_eq_getD_getElem?, List.getD_eq_getElem?_getD]
      rw [e]
      exact this.toTm
    · rw [e1, e3]
      subst e2
      have hl1 : l.1.length = 1 := by simpa using hlen
      obtain ⟨t1, ht1⟩ : ∃ t1, l.1 = [t1] := List.length_eq_one_iff.1 hl1
      have := himm 0 (by omega)
      simp only [ht1, List.getElem_cons_zero, List.getD_cons_zero] at this
      simp only [ht1, shaped, List.map_cons, List.map_nil, List.headD_cons]
      exact this.toTm
  have keepit : t = t0 → σ' = σ1 → ∃ G', Goes M w a.tmps σ1 [] G σ' [] [] G' ∧ TmR w (G'.F M.A) σ'.v (extC M σ' []) G' t (a.eval x') := by
    rintro rfl rfl
    exact ⟨G, Goes.refl hI, ht⟩
  cases t0 with
  | ip cs =>
    simp only [SP.run, Option.some.injEq, Prod.mk.injEq] at h2
    exact keepit h2.1.symm h2.2.symm
  | fn f cap =>
    simp only [SP.run, Option.some.injEq, Prod.mk.injEq] at h2
    exact keepit h2.1.symm h2.2.symm
  | ptr p vs =>
    simp only [SP.run, Option.some.injEq, Prod.mk.injEq] at h2
    exact keepit h2.1.symm h2.2.symm
  | _ =>
    simp only at h2
    obtain ⟨l, σ2, h3, h4⟩ := SP.run_bind_some h2
    simp only [SP.run, Option.some.injEq, Prod.mk.injEq] at h4
    exact gen l σ2 h3 h4.1.symm h4.2.symm

theorem argVs_ok : ∀ {l : List Opd} {l' : List Operand} {ts' : List TV} {σ σ' : St} {G : Gh}, Inv M σ [] [] a.tmps w G → l'.length = l.length → (∀ j (h : j < l.length) (h' : j < l'.length), compOpd l'[j] = some l[j]) → (argVs l).run σ = some (ts', σ') →
    ∃ G', Goes M w a.tmps σ [] G σ' [] [] G' ∧ ts'.length = l.length ∧ ∀ j (h : j < ts'.length) (h' : j < l'.length), TmR w (G'.F M.A) σ'.v (extC M σ' []) G' ts'[j] (a.eval l'[j]) := by
  intro l
  induction l with
  | nil =>
    intro l' ts' σ σ' G hI hl hc hr
    simp only [argVs, SP.run, Option.some.injEq, Prod.mk.injEq] at hr
    obtain ⟨rfl, rfl⟩ := hr
    exact ⟨G, Goes.refl hI, rfl, fun j h => by simp at h⟩
  | cons x l ih =>
    intro l' ts' σ σ' G hI hl hc hr
    cases l' with
    | nil => simp at hl
    | cons x' l' =>
      simp only [argVs] at hr
      obtain ⟨t, σ1, h1, h2⟩ := SP.run_bind_some hr
      obtain ⟨r, σ2, h3, h4⟩ := SP.run_bind_some h2
      simp only [SP.run, Option.some.injEq, Prod.mk.injEq] at h4
      obtain ⟨rfl, rfl⟩ := h4
      obtain ⟨G1, hg1, ht1⟩ := argV_ok hI (by have := hc 0 (by simp) (by simp); simpa using this) h1
      obtain ⟨G2, hg2, e, hts⟩ := ih (l' := l') hg1.1 (by simpa using hl) (fun j h h' => by have := hc (j + 1) (by simpa using h) (by simpa using h'); simpa using this) h3
      refine ⟨G2, hg1.trans hg2, by simp [e], fun j h h' => ?_⟩
      cases j with
      | zero => exact hg2.tm ht1
      | succ j => exact hts j (by simpa using h) (by simpa using h')
end
end Go.Proofs.Ytjmfjjmdfikanaa
/- A call on trees: what pointers lead to, taken in hand; no condition. -/
set_option linter.unusedVariables false
set_option linter.unusedSimpArgs false
namespace Go.Proofs.Ytjmfjjmdfikanaa
open Go.RowKit

section
variable {P : Program} {M : Fm} {σ σ' : St} {H : List TV} {xs : List Value} {ts : Array Value} {w : World} {G : Gh} {a : Act} {o : Oper}

theorem take1_vers {t t' t2 : TV} {p : Place} {y : TV × St} (hp : (peek1 p t).run σ = some (t', σ')) (hr : (take1 true t').run σ = some y) : vers y.2.v p.root p.off p.hops.length = vers σ.v p.root p.off p.hops.length := by
  cases t with
  | v x =>
    simp only [peek1, SP.run, Option.some.injEq, Prod.mk.injEq] at hp
    obtain ⟨rfl, rfl⟩ := hp
    simp only [take1, SP.run, Option.some.injEq] at hr
    rw [← hr]
  | sl c =>
    simp only [peek1, SP.run, Option.some.injEq, Prod.mk.injEq] at hp
    obtain ⟨rfl, rfl⟩ := hp
    simp only [take1, SP.run, Option.some.injEq] at hr
    rw [← hr]
  | ow c =>
    simp only [peek1] at hp
    obtain ⟨vs, σ1, h1, h2⟩ := SP.run_bind_some hp
    simp only [SP.run, Option.some.injEq, Prod.mk.injEq] at h2
    obtain ⟨rfl, _⟩ := h2
    simp only [take1] at hr
    obtain ⟨_, σ2, h3, h4⟩ := SP.run_bind_some hr
    have e1 : σ2 = σ := (chk_run h3).1
    subst e1
    simp only [SP.run] at h4
    split at h4
    · simp only [if_true] at h4
      obtain ⟨l, hl, ho, h5⟩ := SP.run_wrC h4
      simp only [SP.run, Option.some.injEq] at h5
      rw [vers_eq_iff]
      have hv : ∀ q, y.2.v q = σ2.v q + if (p.root, p.off, p.hops.length + 1) = q then 1 else 0 := fun q => by rw [← h5]; exact vget_vinc σ2.vr _ q
      refine ⟨by rw [hv]; simp, fun d hd => ?_⟩
      rw [hv, if_neg]
      · omega
      · intro e
        injection e with _ e
        injection e with _ e
        omega
    · simp [SP.run] at h4
  | _ => simp [peek1, SP.run] at hp

theorem grabL_ok : ∀ {n : Nat} {p : Place} {ad : Addr} {l : List TV} {σ σ' : St} {H : List TV} {xs : List Value} {G : Gh}, Inv M σ H xs ts w G → p.root ≠ 1 → G.addr w p = some ad → (grabL p n).run σ = some (l, σ') →
    l.length = n ∧ ∃ us G', Goes M w ts σ H G σ' (H ++ l) (xs ++ us) G' ∧ us.length = n ∧ (∀ j (h : j < us.length), w.cell? ⟨ad.block, ad.off + j, none⟩ = some us[j] ∧ w.frozen? ⟨ad.block, ad.off + j, none⟩ = false) ∧ ∀ j (h : j < l.length), okCell l[j] = true ∨ isOw l[j] = true := by
  intro n
  induction n with
  | zero =>
    intro p ad l σ σ' H xs G hI h1 ha hr
    simp only [grabL, SP.run, Option.some.injEq, Prod.mk.injEq] at hr
    obtain ⟨rfl, rfl⟩ := hr
    exact ⟨rfl, [], G, by simpa using Goes.refl hI, rfl, fun j h => by simp at h, fun j h => by simp at h⟩
  | succ n ih =>
    intro p ad l σ σ' H xs G hI h1 ha hr
    simp only [grabL] at hr
    obtain ⟨t, σ1, h2, h3⟩ := SP.run_bind_some hr
    obtain ⟨e1, hg⟩ := getPl_run h2
    have e1 : σ1 = σ := e1
    subst e1
    obtain ⟨t', σ2, h4, h5⟩ := SP.run_bind_some h3
    have hd := peek1_dead h4
    obtain ⟨hB, u, fp, hcu, hown, hv⟩ := hI.named h1 ha hg hd
    obtain ⟨rfl, ht'⟩ := peek1_ok hI h1 hg hown hv h4
    obtain ⟨t2, σ3, h6, h7⟩ := SP.run_bind_some h5
    have hvers := take1_vers (t2 := t2) h4 h6
    obtain ⟨G1, hg1, hone⟩ := take1_ok hI ht' h6
    have hgE : getT (extC M σ2 H p.root p.off) p.hops = some t := by rw [extC_ne (by exact h1)]; exact hg
    obtain ⟨u0, fp1, hsp, hcu0, hfr, _⟩ := hI.core.set p hB hgE
    obtain ⟨_, ha1, _⟩ := hg1.2.2.1.ptr p ad t h1 hvers ha hgE
    have had : (⟨ad.block, ad.off + 0, none⟩ : Addr) = ad := by obtain ⟨b, o, s⟩ := ad; simp only at hsp; subst hsp; rfl
    have hcell := take1_cell h6
    cases n with
    | zero =>
      simp only [SP.run, Option.some.injEq, Prod.mk.injEq] at h7
      obtain ⟨rfl, rfl⟩ := h7
      refine ⟨rfl, [u], G1, hg1, rfl, fun j h => ?_, fun j h => ?_⟩
      · obtain rfl : j = 0 := by simp at h; omega
        rw [had]; exact ⟨hcu, hfr⟩
      · obtain rfl : j = 0 := by simp at h; omega
        exact hcell
    | succ n =>
      simp only at h7
      split at h7
      · obtain ⟨r, σ4, h8, h9⟩ := SP.run_bind_some h7
        simp only [SP.run, Option.some.injEq, Prod.mk.injEq] at h9
        obtain ⟨rfl, rfl⟩ := h9
        obtain ⟨e2, us, G2, hg2, e3, e4, e5⟩ := ih hg1.1 (by rw [Place.add_root]; exact h1) (addr_add 1 ha1) h8
        refine ⟨by simp [e2], u :: us, G2, by simpa using hg1.trans hg2, by simp [e3], fun j h => ?_, fun j h => ?_⟩
        · cases j with
          | zero => rw [had]; exact ⟨hcu, hfr⟩
          | succ j =>
            have := e4 j (by simpa using h)
            simp only [List.getElem_cons_succ]
            rw [show ad.off + (j + 1) = ad.off + 1 + j by omega]
            exact this
        · cases j with
          | zero => exact hcell
          | succ j => exact e5 j (by simpa using h)
      · simp [SP.run] at h7

/-- Arguments, what the pointers among them lead to, and their values. -/
inductive GRel (w : World) : Nat → List TV → List Value → List (GP × Addr) → List Value → Prop
  | nil (i : Nat) : GRel w i [] [] [] []
  | ptr {i : Nat} {p : Place} {vs : List Nat} {cells : List TV} {ad : Addr} {u : List Value} {ts : List TV} {xs : List Value} {K : List (GP × Addr)} {us : List Value} (hr : p.root ≠ 1) (hs : ad.spot = none) (hu : u.length = cells.length)
      (hc : ∀ j (h : j < u.length), w.cell? ⟨ad.block, ad.off + j, none⟩ = some u[j] ∧ w.frozen? ⟨ad.block, ad.off + j, none⟩ = false) (hok : ∀ j (h : j < cells.length), okCell cells[j] = true ∨ isOw cells[j] = true)
      (h : GRel w (i + 1) ts xs K us) : GRel w i (.ptr p vs :: ts) (.pointer (some ad) :: xs) ((⟨i, p, vs, cells⟩, ad) :: K) (u ++ us)
  | arg {i : Nat} {t : TV} {x : Value} {ts : List TV} {xs : List Value} {K : List (GP × Addr)} {us : List Value} (ha : isArg t = true) (h : GRel w (i + 1) ts xs K us) : GRel w i (t :: ts) (x :: xs) K us

theorem grabs_ok : ∀ {l : List (Option Nat × TV)} {as : List Value} {i : Nat} {q : List GP} {σ σ' : St} {H : List TV} {xs : List Value} {G : Gh}, Inv M σ H xs ts w G → as.length = l.length → (∀ j (h : j < l.length) (h' : j < as.length), TmR w (G.F M.A) σ.v (extC M σ H) G l[j].2 as[j]) → (grabs i l).run σ = some (q, σ') →
    ∃ us G' K, Goes M w ts σ H G σ' (H ++ q.flatMap (·.cells)) (xs ++ us) G' ∧ K.map (·.1) = q ∧ GRel w i (l.map (·.2)) as K us := by
  intro l
  induction l with
  | nil =>
    intro as i q σ σ' H xs G hI hl _ hr
    simp only [grabs, SP.run, Option.some.injEq, Prod.mk.injEq] at hr
    obtain ⟨rfl, rfl⟩ := hr
    have : as = [] := List.eq_nil_of_length_eq_zero (by simpa using hl)
    subst this
    exact ⟨[], G, [], by simpa using Goes.refl hI, rfl, .nil i⟩
  | cons x l ih =>
    intro as i q σ σ' H xs G hI hl ht hr
    cases as with
    | nil => simp at hl
    | cons y as =>
      obtain ⟨n, t⟩ := x
      have ht0 := ht 0 (by simp) (by simp)
      simp only [List.getElem_cons_zero] at ht0
      have hrest : ∀ {σ1 : St} {H1 : List TV} {xs1 : List Value} {G1 : Gh}, Goes M w ts σ H G σ1 H1 xs1 G1 → ∀ j (h : j < l.length) (h' : j < as.length), TmR w (G1.F M.A) σ1.v (extC M σ1 H1) G1 l[j].2 as[j] := fun hg j h h' =>
        hg.tm (by have := ht (j + 1) (by simpa using h) (by simpa using h'); simpa only [List.getElem_cons_succ] using this)
      have other : (∀ p vs, t ≠ .ptr p vs) → ∃ us G' K, Goes M w ts σ H G σ' (H ++ q.flatMap (·.cells)) (xs ++ us) G' ∧ K.map (·.1) = q ∧ GRel w i (((n, t) :: l).map (·.2)) (y :: as) K us := by
        intro hne
        have hr' : (if isArg t then grabs (i + 1) l else .fail : SP (List GP)).run σ = some (q, σ') := by
          cases t <;> first | exact absurd rfl (hne _ _) | (cases n <;> exact hr)
        split at hr'
        · rename_i harg
          obtain ⟨us, G', K, e1, e2, e3⟩ := ih (as := as) hI (by simpa using hl) (hrest (Goes.refl hI)) hr'
          exact ⟨us, G', K, e1, e2, .arg harg e3⟩
        · simp [SP.run] at hr'
      by_cases hp : ∃ p vs, t = .ptr p vs
      · obtain ⟨p, vs, rfl⟩ := hp
        cases n with
        | none => simp [grabs, isArg, SP.run] at hr
        | some n =>
          simp only [grabs] at hr
          obtain ⟨_, σ1, h1, h2⟩ := SP.run_bind_some hr
          have e1 : σ1 = σ := (chk_run h1).1
          have e2 := (chk_run h1).2
          subst e1
          obtain ⟨cells, σ2, h3, h4⟩ := SP.run_bind_some h2
          obtain ⟨q1, σ3, h5, h6⟩ := SP.run_bind_some h4
          simp only [SP.run, Option.some.injEq, Prod.mk.injEq] at h6
          obtain ⟨rfl, rfl⟩ := h6
          generalize hz : y = z at ht0
          cases ht0 with
          | ptr V0 h0 hv h =>
            obtain ⟨hr1, ad, t0, ha, rfl, _⟩ := h e2
            obtain ⟨k1, u, G1, hg1, k2, k3, k4⟩ := grabL_ok hI hr1 ha h3
            obtain ⟨us, G2, K, hg2, k5, k6⟩ := ih (as := as) hg1.1 (by simpa using hl) (hrest hg1) h5
            exact ⟨u ++ us, G2, (⟨i, p, vs, cells⟩, ad) :: K, by simpa [List.append_assoc] using hg1.trans hg2, by simp [k5], .ptr hr1 (addr_spot ha) (by omega) k3 k4 k6⟩
      · exact other fun p vs e => hp ⟨p, vs, e⟩

theorem aset_same {α : Type} : ∀ {l : List (Nat × α)} {r : Nat} {x : α}, aget l r = some x → aset l r x = l := by
  intro l
  induction l with
  | nil => intro r x h; simp [aget] at h
  | cons y l ih =>
    intro r x h
    obtain ⟨k, v⟩ := y
    simp only [aget] at h
    simp only [aset]
    split
    · rename_i e
      rw [if_pos e] at h
      injection h with h
      rw [h, e]
    · rename_i e
      rw [if_neg e] at h
      rw [ih h]
theorem touch_ok {p : Place} (hr : (touch p).run σ = some ((), σ')) : σ' = σ ∧ ∃ l, aget σ.ce p.root = some l ∧ p.off < l.length := by
  simp only [touch, SP.run] at hr
  obtain ⟨l, hl, ho, h2⟩ := SP.run_wrC (σ := σ) (k := .ret ()) (t := σ.c p.root p.off) (by simpa only [SP.run] using hr)
  simp only [SP.run, Option.some.injEq, Prod.mk.injEq, true_and] at h2
  refine ⟨?_, l, hl, ho⟩
  rw [← h2]
  have e : l.set p.off (σ.c p.root p.off) = l := by
    have : σ.c p.root p.off = l[p.off] := by simp [St.c, hl, ho]
    rw [this]
    exact List.set_getElem_self ho
  rw [e, aset_same hl]

/-- Where the pointers lead. -/
theorem rechk_ok (hI : Inv M σ H xs ts w G) : ∀ {q : List GP} {σ' : St}, (rechk q).run σ = some ((), σ') → σ' = σ ∧ ∀ g ∈ q, ∀ x, TmR w (G.F M.A) σ.v (extC M σ H) G (.ptr g.p g.vs) x → g.p.root ≠ 1 ∧ ∃ ad, x = .pointer (some ad) ∧ G.addr w g.p = some ad ∧ g.vs = vers σ.v g.p.root g.p.off g.p.hops.length ∧ (∃ t, getT (extC M σ H g.p.root g.p.off) g.p.hops = some t) ∧ ((∃ o n, G.β g.p.root = some (ad.block, o, n)) ∨ G.φ g.p.root g.p.off ad.block) := by
  intro q
  induction q with
  | nil =>
    intro σ' hr
    simp only [rechk, SP.run, Option.some.injEq, Prod.mk.injEq, true_and] at hr
    exact ⟨hr.symm, fun g hg => by simp at hg⟩
  | cons g q ih =>
    intro σ' hr
    simp only [rechk] at hr
    obtain ⟨_, σ1, h1, h2⟩ := SP.run_bind_some hr
    have e1 : σ1 = σ := (chk_run h1).1
    have e2 := (chk_run h1).2
    subst e1
    obtain ⟨_, σ2, h3, h4⟩ := SP.run_bind_some h2
    obtain ⟨rfl, l, hl, ho⟩ := touch_ok h3
    obtain ⟨rfl, hq⟩ := ih h4
    refine ⟨rfl, fun g' hg' x hx => ?_⟩
    rcases List.mem_cons.1 hg' with rfl | hg'
    · cases hx with
      | ptr V0 h0 hv h =>
        obtain ⟨hr1, ad, t0, ha, hx, hget⟩ := h e2
        have hB : G.addrB w g'.p = some ad := by
          refine Gh.addr_to_B ha fun hp b o0 n hb => ?_
          have := hI.shape _ _ _ _ hb l hl
          omega
        refine ⟨hr1, ad, hx, ha, e2, ⟨t0, hget⟩, ?_⟩
        rcases hI.core.where_ g'.p hB hget with ⟨_, b, o0, n, h5, _, h6⟩ | ⟨_, h5⟩
        · left; exact ⟨o0, n, by rw [h5, h6]⟩
        · right; exact h5
    · exact hq g' hg' x hx
end
end Go.Proofs.Ytjmfjjmdfikanaa
/- A call on trees: the other function's beginning; no condition. -/
set_option linter.unusedVariables false
set_option linter.unusedSimpArgs false
namespace Go.Proofs.Ytjmfjjmdfikanaa
open Go.RowKit

def prK : List (GP × Addr) → Nat → Option (Nat × Nat × Nat)
  | [], _ => none
  | (g, ad) :: K, r => if 2 * g.i + 2 = r then some (ad.block, ad.off, g.cells.length) else prK K r
def bsK : List (GP × Addr) → Nat → Nat
  | [], _ => 0
  | (g, _) :: K, r => if 2 * g.i + 2 = r then 0 else g.cells.length + bsK K r
def ceK (K : List (GP × Addr)) : List (Nat × List TV) := K.map fun x => (2 * x.1.i + 2, x.1.cells)
def cellsK (K : List (GP × Addr)) : List TV := K.flatMap fun x => x.1.cells

section
theorem prK_some {K : List (GP × Addr)} {r b o n : Nat} (h : prK K r = some (b, o, n)) : ∃ x ∈ K, r = 2 * x.1.i + 2 ∧ b = x.2.block ∧ o = x.2.off ∧ n = x.1.cells.length ∧ aget (ceK K) r = some x.1.cells ∧ ∀ j (_ : j < x.1.cells.length), (cellsK K)[bsK K r + j]? = x.1.cells[j]? := by
  induction K with
  | nil => simp [prK] at h
  | cons y K ih =>
    obtain ⟨g, ad⟩ := y
    simp only [prK] at h
    split at h
    · rename_i e
      injection h with h
      injection h with h1 h
      injection h with h2 h3
      refine ⟨(g, ad), by simp, e.symm, h1.symm, h2.symm, h3.symm, by simp [ceK, aget, e], fun j hj => ?_⟩
      simp only [bsK, e, if_true, cellsK, List.flatMap_cons, Nat.zero_add]
      exact List.getElem?_append_left hj
    · rename_i e
      obtain ⟨x, h1, h2, h3, h4, h5, h6, h7⟩ := ih h
      refine ⟨x, by simp [h1], h2, h3, h4, h5, by simpa [ceK, aget, e] using h6, fun j hj => ?_⟩
      simp only [bsK, e, if_false, cellsK, List.flatMap_cons]
      rw [List.getElem?_append_right (by omega)]
      rw [show g.cells.length + bsK K r + j - g.cells.length = bsK K r + j by omega]
      exact h7 j hj
theorem ceK_some {K : List (GP × Addr)} {r : Nat} {l : List TV} (h : aget (ceK K) r = some l) : prK K r ≠ none := by
  induction K with
  | nil => simp [ceK, aget] at h
  | cons y K ih =>
    obtain ⟨g, ad⟩ := y
    simp only [ceK, List.map_cons, aget] at h
    simp only [prK]
    split
    · simp
    · rename_i e
      rw [if_neg e] at h
      exact ih h
theorem apartK {K : List (GP × Addr)} : ∀ r b o n r' b' o' n', prK K r = some (b, o, n) → prK K r' = some (b', o', n') → ∀ j j', j < n → j' < n' → bsK K r + j = bsK K r' + j' → r = r' := by
  induction K with
  | nil => intro r b o n r' b' o' n' h; simp [prK] at h
  | cons y K ih =>
    intro r b o n r' b' o' n' h h' j j' hj hj' e
    obtain ⟨g, ad⟩ := y
    simp only [prK, bsK] at h h' e
    by_cases e1 : 2 * g.i + 2 = r <;> by_cases e2 : 2 * g.i + 2 = r'
    · omega
    · rw [if_pos e1] at h e; rw [if_neg e2] at h' e
      have : n = g.cells.length := by injection h with h; injection h with _ h; injection h with _ h; exact h.symm
      omega
    · rw [if_neg e1] at h e; rw [if_pos e2] at h' e
      have : n' = g.cells.length := by injection h' with h; injection h with _ h; injection h with _ h; exact h.symm
      omega
    · simp only [e1, e2, if_false] at h h' e
      exact ih _ _ _ _ _ _ _ _ h h' j j' hj hj' (by omega)

theorem GRel.slot {w : World} {i : Nat} {ts : List TV} {as us : List Value} {K : List (GP × Addr)} (h : GRel w i ts as K us) : ∀ x ∈ K, i ≤ x.1.i ∧ ∃ p vs, ts[x.1.i - i]? = some (.ptr p vs) ∧ p = x.1.p ∧ vs = x.1.vs ∧ as[x.1.i - i]? = some (.pointer (some x.2)) ∧ x.2.spot = none := by
  induction h with
  | nil => intro x hx; simp at hx
  | @ptr i p vs cells ad u ts xs K us hr hs hu hc hok h ih =>
    intro x hx
    rcases List.mem_cons.1 hx with rfl | hx
    · exact ⟨Nat.le_refl _, p, vs, by simp, rfl, rfl, by simp, hs⟩
    · obtain ⟨h1, p, vs, h2, h3, h4, h5⟩ := ih x hx
      refine ⟨by omega, p, vs, ?_, h3, h4, ?_, h5.2⟩
      · rw [show x.1.i - i = (x.1.i - (i + 1)) + 1 by omega]; simpa using h2
      · rw [show x.1.i - i = (x.1.i - (i + 1)) + 1 by omega]; simpa using h5.1
  | @arg i t x0 ts xs K us ha h ih =>
    intro x hx
    obtain ⟨h1, p, vs, h2, h3, h4, h5⟩ := ih x hx
    refine ⟨by omega, p, vs, ?_, h3, h4, ?_, h5.2⟩
    · rw [show x.1.i - i = (x.1.i - (i + 1)) + 1 by omega]; simpa using h2
    · rw [show x.1.i - i = (x.1.i - (i + 1)) + 1 by omega]; simpa using h5.1
theorem GRel.len {w : World} {i : Nat} {ts : List TV} {as us : List Value} {K : List (GP × Addr)} (h : GRel w i ts as K us) : ts.length = as.length ∧ us.length = (cellsK K).length := by
  induction h with
  | nil => exact ⟨rfl, rfl⟩
  | ptr hr hs hu hc hok h ih => exact ⟨by simp [ih.1], by simp [cellsK, hu] at ih ⊢; exact ih.2⟩
  | arg ha h ih => exact ⟨by simp [ih.1], ih.2⟩
theorem GRel.ok {w : World} {i : Nat} {ts : List TV} {as us : List Value} {K : List (GP × Addr)} (h : GRel w i ts as K us) : ∀ x ∈ K, ∀ j (h : j < x.1.cells.length), okCell x.1.cells[j] = true ∨ isOw x.1.cells[j] = true := by
  induction h with
  | nil => intro x hx; simp at hx
  | ptr hr hs hu hc hok h ih =>
    intro x hx
    rcases List.mem_cons.1 hx with rfl | hx
    · exact hok
    · exact ih x hx
  | arg ha h ih => exact ih
theorem GRel.here {w : World} {i : Nat} {ts : List TV} {as us : List Value} {K : List (GP × Addr)} (h : GRel w i ts as K us) : ∀ r b o n, prK K r = some (b, o, n) → ∀ j, j < n → w.cell? ⟨b, o + j, none⟩ = some (us.getD (bsK K r + j) undef) ∧ w.frozen? ⟨b, o + j, none⟩ = false := by
  induction h with
  | nil => intro r b o n h; simp [prK] at h
  | @ptr i p vs cells ad u ts xs K us hr hs hu hc hok h ih =>
    intro r b o n hp j hj
    simp only [prK] at hp
    simp only [bsK]
    split at hp
    · rename_i e
      injection hp with hp
      injection hp with h1 hp
      injection hp with h2 h3
      subst h1; subst h2; subst h3
      rw [if_pos e, Nat.zero_add]
      have hju : j < u.length := by omega
      have := hc j hju
      refine ⟨?_, this.2⟩
      rw [this.1, List.getD_eq_getElem?_getD, List.getElem?_append_left hju, List.getElem?_eq_getElem hju]
      rfl
    · rename_i e
      rw [if_neg e]
      have := ih r b o n hp j hj
      refine ⟨?_, this.2⟩
      rw [this.1]
      simp only [List.getD_eq_getElem?_getD]
      rw [List.getElem?_append_right (by omega)]
      rw [show cells.length + bsK K r + j - u.length = bsK K r + j by omega]
  | arg ha h ih => exact ih
end

theorem nodupN_inj {α : Type} {f : α → Nat} : ∀ {l : List α}, nodupN (l.map f) = true → ∀ {x y : α}, x ∈ l → y ∈ l → f x = f y → x = y := by
  intro l
  induction l with
  | nil => intro _ x y hx; simp at hx
  | cons z l ih =>
    intro h x y hx hy e
    simp only [List.map_cons, nodupN, Bool.and_eq_true, Bool.not_eq_true', List.contains_eq_mem, decide_eq_false_iff_not] at h
    rcases List.mem_cons.1 hx with hx1 | hx1
    · rcases List.mem_cons.1 hy with hy1 | hy1
      · rw [hx1, hy1]
      · exact absurd (by rw [← hx1, e]; exact List.mem_map_of_mem hy1) h.1
    · rcases List.mem_cons.1 hy with hy1 | hy1
      · exact absurd (by rw [← hy1, ← e]; exact List.mem_map_of_mem hx1) h.1
      · exact ih h.2 hx1 hy1 e

section
variable {P : Program} {M : Fm} {σ σ' : St} {H : List TV} {xs : List Value} {ts : Array Value} {w : World} {G : Gh} {a : Act} {o : Oper}

theorem GRel.hands {vals : List TV} {as us : List Value} {K : List (GP × Addr)} (hI : Inv M σ (cellsK K) us ts w G) (h : GRel w 0 vals as K us) (hnd : nodupN ((K.map (·.1)).map (·.p.root)) = true) (hpos : ∀ x ∈ K, 0 < x.1.cells.length)
    (hwh : ∀ x ∈ K, x.1.p.root ≠ 1 ∧ ((∃ o n, G.β x.1.p.root = some (x.2.block, o, n)) ∨ G.φ x.1.p.root x.1.p.off x.2.block)) : Hands (cellsK K) us w G M.A (prK K) (bsK K) (ceK K) := by
  refine ⟨fun r b o n hp => ?_, fun r b o n hp => ?_, fun r l hl => ceK_some hl, apartK, fun r b o n r' o' n' h1 h2 => ?_, fun r b o n hp hF => ?_, fun r b o n hp j hφ => ?_, h.here⟩
  · obtain ⟨x, h1, h2, _, _, h5, _⟩ := prK_some hp
    exact ⟨by omega, by rw [h5]; exact hpos x h1⟩
  · obtain ⟨x, h1, h2, _, _, h5, h6, h7⟩ := prK_some hp
    refine ⟨_, h6, h5.symm, fun j hj => ?_⟩
    have := h7 j hj
    rw [List.getElem?_eq_getElem hj] at this
    obtain ⟨k1, k2⟩ := List.getElem?_eq_some_iff.1 this
    exact ⟨k1, k2.symm, cell_nd (h.ok x h1) j hj⟩
  · obtain ⟨x, x1, x2, x3, x4, x5, _⟩ := prK_some h1
    obtain ⟨y, y1, y2, y3, y4, y5, _⟩ := prK_some h2
    have hroot : x.1.p.root = y.1.p.root := by
      rcases (hwh x x1).2 with ⟨o1, n1, hb1⟩ | hb1
      · rcases (hwh y y1).2 with ⟨o2, n2, hb2⟩ | hb2
        · rw [← y3] at hb2
          rw [← x3] at hb1
          exact hI.core.boxd _ _ _ _ _ _ _ hb1 hb2
        · rw [← y3] at hb2
          rw [← x3] at hb1
          exact absurd hb2 (hI.core.boxf _ _ _ _ hb1 _ _)
      · rcases (hwh y y1).2 with ⟨o2, n2, hb2⟩ | hb2
        · rw [← y3] at hb2
          rw [← x3] at hb1
          exact absurd hb1 (hI.core.boxf _ _ _ _ hb2 _ _)
        · rw [← y3] at hb2
          rw [← x3] at hb1
          exact (hI.core.dis _ _ _ _ _ hb1 hb2).1
    have hxy : x.1 = y.1 := nodupN_inj hnd (List.mem_map_of_mem x1) (List.mem_map_of_mem y1) hroot
    rw [x2, y2, hxy]
  · obtain ⟨x, x1, x2, x3, x4, x5, _⟩ := prK_some hp
    subst x3
    rcases (hwh x x1).2 with ⟨o1, n1, hb1⟩ | hb1
    · exact hF.2.2 _ _ _ _ hb1 rfl
    · exact hF.2.1 _ _ hb1
  · obtain ⟨x, x1, x2, x3, x4, x5, _⟩ := prK_some hp
    subst x3
    rcases (hwh x x1).2 with ⟨o1, n1, hb1⟩ | hb1
    · exact hI.core.boxf _ _ _ _ hb1 _ _ hφ
    · exact (hwh x x1).1 (hI.core.dis _ _ _ _ _ hb1 hφ).1

theorem TmR.handed {F F' : Nat → Prop} {V V' : Vs} {C C' : Cs} {G G' : Gh} {t : TV} {x : Value} (h : TmR w F V C G t x) (ha : isArg t = true) (hF : ∀ k, F k → F' k) : TmR w F' V' C' G' t x := by
  cases h with
  | v h => exact .v h
  | sl h => exact .sl (h.frame (fun _ _ _ => rfl) fun k hk _ => hF k hk)
  | ip u hc hr => exact .ip u (fun j hj => ⟨hF _ (hc j hj).1, (hc j hj).2⟩) fun j hj => (hr j hj).frame (fun _ _ _ => rfl) fun k hk _ => hF k hk
  | @agg l xs hl h =>
    refine .agg hl fun j hj => ?_
    simp only [isArg, List.all_eq_true] at ha
    have h1 := ha _ (List.getElem_mem hj)
    have h2 := h j hj
    generalize l[j] = e at h1 h2
    generalize xs.getD j undef = y at h2
    cases h2 with
    | v h => exact .v h
    | sl h => exact .sl (h.frame (fun _ _ _ => rfl) fun k hk _ => hF k hk)
    | _ => simp at h1
  | @fn f l xs hl h =>
    cases l with
    | nil => exact .fn hl fun j hj => by simp at hj
    | cons => simp [isArg] at ha
  | _ => simp [isArg] at ha

theorem aget_numbered {α : Type} : ∀ {l : List α} {i j : Nat}, aget (numbered i l) j = if i ≤ j then l[j - i]? else none := by
  intro l
  induction l with
  | nil => intro i j; simp [numbered, aget]
  | cons x l ih =>
    intro i j
    simp only [numbered, aget]
    by_cases e : i = j
    · subst e; simp
    · rw [if_neg e, ih]
      by_cases h : i + 1 ≤ j
      · rw [if_pos h, if_pos (by omega)]
        rw [show j - i = (j - (i + 1)) + 1 by omega]
        simp
      · rw [if_neg h, if_neg (by omega)]
theorem argTs_get : ∀ {l : List TV} {i j : Nat}, (argTs i l)[j]? = (l[j]?).map (argT (i + j)) := by
  intro l
  induction l with
  | nil => intro i j; simp [argTs]
  | cons t l ih =>
    intro i j
    cases j with
    | zero => simp [argTs]
    | succ j => simp only [argTs, List.getElem?_cons_succ, ih]; rw [show i + 1 + j = i + (j + 1) by omega]

theorem GRel.slotArg {w : World} {i : Nat} {vals : List TV} {as us : List Value} {K : List (GP × Addr)} (h : GRel w i vals as K us) : ∀ j t, vals[j]? = some t → isArg t = true ∨ ∃ x ∈ K, x.1.i = i + j ∧ (∃ p vs, t = .ptr p vs) ∧ as[j]? = some (.pointer (some x.2)) ∧ prK K (2 * x.1.i + 2) = some (x.2.block, x.2.off, x.1.cells.length) ∧ x.2.spot = none := by
  induction h with
  | nil => intro j t h; simp at h
  | @ptr i p vs cells ad u ts xs K us hr hs hu hc hok h ih =>
    intro j t ht
    cases j with
    | zero =>
      right
      refine ⟨(⟨i, p, vs, cells⟩, ad), by simp, rfl, ⟨p, vs, ?_⟩, by simp, by simp [prK], hs⟩
      simpa using ht.symm
    | succ j =>
      rcases ih j t (by simpa using ht) with h1 | ⟨x, h1, h2, h3, h4, h5⟩
      · exact .inl h1
      · right
        refine ⟨x, by simp [h1], by omega, h3, by simpa using h4, ?_, h5.2⟩
        simp only [prK]
        rw [if_neg (by omega)]
        exact h5.1
  | @arg i t0 x0 ts xs K us ha h ih =>
    intro j t ht
    cases j with
    | zero => left; have : t0 = t := by simpa using ht
              rw [← this]; exact ha
    | succ j =>
      rcases ih j t (by simpa using ht) with h1 | ⟨x, h1, h2, h3, h4, h5⟩
      · exact .inl h1
      · exact .inr ⟨x, h1, by omega, h3, by simpa using h4, h5⟩

/-- The other function begins. -/
theorem GRel.enter {vals : List TV} {as us : List Value} {K : List (GP × Addr)} (hI : Inv M σ (cellsK K) us ts w G) (h : GRel w 0 vals as K us) (hh : Hands (cellsK K) us w G M.A (prK K) (bsK K) (ceK K))
    (ht : ∀ j (h : j < vals.length) (h' : j < as.length), TmR w (G.F M.A) σ.v (extC M σ (cellsK K)) G vals[j] as[j]) {N : Nat} (hN : as.length ≤ N) :
    Inv (M.into w G (prK K) N) (mkSt (argTs 0 vals) (ceK K)) [] [] (as.toArray ++ Array.replicate (N - as.length) undef) w (G.into (prK K) (bsK K)) := by
  refine hI.enter hh (by simp; omega) fun i => ?_
  rw [aget_numbered]
  simp only [Nat.zero_le, if_true, Nat.sub_zero, argTs_get, Nat.zero_add]
  cases hv : vals[i]? with
  | none => exact .dead
  | some t =>
    obtain ⟨hi, hvi⟩ := List.getElem?_eq_some_iff.1 hv
    have hi' : i < as.length := by rw [← h.len.1]; exact hi
    have hx : (as.toArray ++ Array.replicate (N - as.length) undef).getD i undef = as[i] := by
      simp [Array.getD_eq_getD_getElem?, Array.getElem?_append, hi']
    rw [hx]
    have htm := ht i hi hi'
    rw [hvi] at htm
    simp only [Option.map_some, Option.getD_some]
    rcases h.slotArg i t hv with harg | ⟨x, x1, x2, ⟨p, vs, rfl⟩, x4, x5, x6⟩
    · have e : argT i t = t := by cases t <;> first | rfl | simp [isArg] at harg
      rw [e]
      exact htm.handed harg fun k hk => hh.F hk
    · simp only [argT]
      have e : as[i] = .pointer (some x.2) := by
        rw [List.getElem?_eq_getElem hi'] at x4
        injection x4
      rw [e]
      have hxi : x.1.i = i := by omega
      rw [hxi] at x5
      refine .ptr (fun _ => 0) (fun _ => Nat.le_refl _) rfl fun _ => ⟨by simp, x.2, (extC (M.into w G (prK K) N) ⟨numbered 0 (argTs 0 vals), ceK K, []⟩ [] (2 * i + 2) 0), ?_, rfl, rfl⟩
      have had : (⟨x.2.block, x.2.off + 0, none⟩ : Addr) = x.2 := by
        obtain ⟨g, ad⟩ := x
        obtain ⟨b, o, s⟩ := ad
        simp only at x6 ⊢
        subst x6; rfl
      unfold Gh.addr Gh.into
      simp only [x5]
      rw [had]
end
end Go.Proofs.Ytjmfjjmdfikanaa
/- A call on trees: what pointers lead to, put back; no condition. -/
set_option linter.unusedVariables false
set_option linter.unusedSimpArgs false
namespace Go.Proofs.Ytjmfjjmdfikanaa
open Go.RowKit

theorem flatK_get {α : Type} {f : GP × Addr → List α} {K : List (GP × Addr)} (hf : ∀ x ∈ K, (f x).length = x.1.cells.length) {r b o n : Nat} (h : prK K r = some (b, o, n)) : ∃ x ∈ K, r = 2 * x.1.i + 2 ∧ b = x.2.block ∧ o = x.2.off ∧ n = x.1.cells.length ∧ aget (K.map fun x => (2 * x.1.i + 2, f x)) r = some (f x) ∧ ∀ j, j < n → (K.flatMap f)[bsK K r + j]? = (f x)[j]? := by
  induction K with
  | nil => simp [prK] at h
  | cons y K ih =>
    obtain ⟨g, ad⟩ := y
    simp only [prK] at h
    split at h
    · rename_i e
      injection h with h
      injection h with h1 h
      injection h with h2 h3
      have hl := hf (g, ad) (by simp)
      simp only at hl
      refine ⟨(g, ad), by simp, e.symm, h1.symm, h2.symm, h3.symm, by simp [aget, e], fun j hj => ?_⟩
      simp only [bsK, e, if_true, List.flatMap_cons, Nat.zero_add]
      exact List.getElem?_append_left (by omega)
    · rename_i e
      obtain ⟨x, h1, h2, h3, h4, h5, h6, h7⟩ := ih (fun x hx => hf x (by simp [hx])) h
      have hl := hf (g, ad) (by simp)
      simp only at hl
      refine ⟨x, by simp [h1], h2, h3, h4, h5, by simpa [aget, e] using h6, fun j hj => ?_⟩
      simp only [bsK, e, if_false, List.flatMap_cons]
      rw [List.getElem?_append_right (by omega)]
      rw [show g.cells.length + bsK K r + j - (f (g, ad)).length = bsK K r + j by omega]
      exact h7 j hj
theorem coverK {K : List (GP × Addr)} (hnd : nodupN (K.map fun x => x.1.i) = true) {j : Nat} (h : j < (cellsK K).length) : ∃ r b o n t, prK K r = some (b, o, n) ∧ t < n ∧ j = bsK K r + t := by
  induction K generalizing j with
  | nil => simp [cellsK] at h
  | cons y K ih =>
    obtain ⟨g, ad⟩ := y
    simp only [List.map_cons, nodupN, Bool.and_eq_true, Bool.not_eq_true', List.contains_eq_mem, decide_eq_false_iff_not] at hnd
    simp only [cellsK, List.flatMap_cons, List.length_append] at h
    by_cases hj : j < g.cells.length
    · exact ⟨2 * g.i + 2, ad.block, ad.off, g.cells.length, j, by simp [prK], hj, by simp [bsK]⟩
    · obtain ⟨r, b, o, n, t, h1, h2, h3⟩ := ih hnd.2 (j := j - g.cells.length) (by simp only [cellsK]; omega)
      have hne : 2 * g.i + 2 ≠ r := fun e => by
        obtain ⟨x, x1, x2, _⟩ := prK_some h1
        exact hnd.1 (List.mem_map.2 ⟨x, x1, by omega⟩)
      exact ⟨r, b, o, n, t, by simp [prK, hne, h1], h2, by simp only [bsK, hne, if_false]; omega⟩

/-- The world before what the pointers lead to was changed. -/
def RWs (w : World) : List (GP × Addr) → World → World
  | [], W => W
  | x :: K, W => RWs w K (restore w W x.2.block)
theorem RWs_size {w : World} {K : List (GP × Addr)} : ∀ {W : World}, (RWs w K W).heap.size = W.heap.size := by
  induction K with
  | nil => intro W; rfl
  | cons x K ih => intro W; simp only [RWs]; rw [ih, restore_size]
theorem RWs_rest {w : World} {K : List (GP × Addr)} : ∀ {W : World}, (RWs w K W).os = W.os ∧ (RWs w K W).tape = W.tape ∧ (RWs w K W).output = W.output := by
  induction K with
  | nil => intro W; exact ⟨rfl, rfl, rfl⟩
  | cons x K ih =>
    intro W
    simp only [RWs]
    obtain ⟨a1, a2, a3⟩ := ih (W := restore w W x.2.block)
    obtain ⟨r1, r2, r3, _⟩ := restore_rest (w := w) (W := W) (b := x.2.block)
    exact ⟨a1.trans r1, a2.trans r2, a3.trans r3⟩
theorem RWs_ne {w : World} {K : List (GP × Addr)} {k : Nat} : ∀ {W : World}, (∀ x ∈ K, k ≠ x.2.block) → (RWs w K W).heap[k]? = W.heap[k]? := by
  induction K with
  | nil => intro W h; rfl
  | cons x K ih =>
    intro W h
    simp only [RWs]
    rw [ih fun y hy => h y (by simp [hy]), restore_ne (h x (by simp))]
theorem RWs_keep {w : World} {K : List (GP × Addr)} {k : Nat} (h2 : k < w.heap.size) : ∀ {W : World}, k < W.heap.size → W.heap[k]? = w.heap[k]? → (RWs w K W).heap[k]? = w.heap[k]? := by
  induction K with
  | nil => intro W h1 h; exact h
  | cons x K ih =>
    intro W h1 h
    simp only [RWs]
    refine ih (by rw [restore_size]; exact h1) ?_
    by_cases e : k = x.2.block
    · rw [← e]; exact restore_eq h1 h2
    · rw [restore_ne e]; exact h
theorem RWs_eq {w : World} {K : List (GP × Addr)} {k : Nat} (h2 : k < w.heap.size) : ∀ {W : World}, k < W.heap.size → (∃ x ∈ K, k = x.2.block) → (RWs w K W).heap[k]? = w.heap[k]? := by
  induction K with
  | nil => intro W h1 h; obtain ⟨x, hx, _⟩ := h; simp at hx
  | cons x K ih =>
    intro W h1 h
    simp only [RWs]
    obtain ⟨y, hy, e⟩ := h
    rcases List.mem_cons.1 hy with rfl | hy
    · exact RWs_keep h2 (by rw [restore_size]; exact h1) (by rw [e]; rw [e] at h1 h2; exact restore_eq h1 h2)
    · exact ih (by rw [restore_size]; exact h1) ⟨y, hy, e⟩

section
variable {P : Program} {M : Fm} {σ σ' : St} {H : List TV} {xs : List Value} {ts : Array Value} {w : World} {G : Gh} {a : Act} {o : Oper}

theorem putP_vers {p : Place} {t : TV} (h : (putP p t).run σ = some ((), σ')) {r : Nat} (hr : r ≠ p.root) (o n : Nat) : vers σ'.v r o n = vers σ.v r o n := by
  unfold putP at h
  simp only [SP.run] at h
  have bump : ∀ {vr : List (Key × Nat)}, σ'.vr = vr → (∀ q, vget vr q = vget σ.vr q + if (p.root, p.off, p.hops.length + 1) = q then 1 else 0) → vers σ'.v r o n = vers σ.v r o n := by
    intro vr e hv
    have hv' : ∀ q, σ'.v q = σ.v q + if (p.root, p.off, p.hops.length + 1) = q then 1 else 0 := fun q => by unfold St.v; rw [e]; exact hv q
    rw [vers_eq_iff]
    have hne : ∀ o' d, ((p.root, p.off, p.hops.length + 1) : Key) ≠ (r, o', d) := fun o' d e => by
      injection e with e _
      exact hr e.symm
    refine ⟨by rw [hv', if_neg (hne _ _)]; omega, fun d hd => by rw [hv', if_neg (hne _ _)]; omega⟩
  cases hg : getT (σ.c p.root p.off) p.hops with
  | none => simp [hg, SP.run] at h
  | some old =>
    simp only [hg] at h
    split at h
    · split at h
      · obtain ⟨l, hl, ho, h3⟩ := SP.run_wrC h
        simp only [SP.run, Option.some.injEq, Prod.mk.injEq, true_and] at h3
        exact bump (vr := vinc σ.vr (p.root, p.off, p.hops.length + 1)) (by rw [← h3]) fun q => vget_vinc _ _ _
      · simp [SP.run] at h
    · obtain ⟨l, hl, ho, h3⟩ := SP.run_wrC h
      simp only [SP.run, Option.some.injEq, Prod.mk.injEq, true_and] at h3
      have hv : σ'.v = σ.v := by rw [← h3]; rfl
      rw [hv]
theorem putL_vers : ∀ {l : List TV} {p : Place} {σ σ' : St}, (putL p l).run σ = some ((), σ') → ∀ {r : Nat}, r ≠ p.root → ∀ o n, vers σ'.v r o n = vers σ.v r o n := by
  intro l
  induction l with
  | nil =>
    intro p σ σ' h r hr o n
    simp only [putL, SP.run, Option.some.injEq, Prod.mk.injEq, true_and] at h
    rw [h]
  | cons t l ih =>
    intro p σ σ' h r hr o n
    simp only [putL] at h
    obtain ⟨_, σ1, h1, h2⟩ := SP.run_bind_some h
    rw [← putP_vers h1 hr o n]
    cases l with
    | nil =>
      simp only [SP.run, Option.some.injEq, Prod.mk.injEq, true_and] at h2
      rw [h2]
    | cons t2 l =>
      simp only at h2
      split at h2
      · exact ih h2 (by rw [Place.add_root]; exact hr) o n
      · simp [SP.run] at h2
theorem putBack_vers : ∀ {q : List (GP × List TV)} {σ σ' : St}, (putBack q).run σ = some ((), σ') → ∀ {r : Nat}, (∀ x ∈ q, r ≠ x.1.p.root) → ∀ o n, vers σ'.v r o n = vers σ.v r o n := by
  intro q
  induction q with
  | nil =>
    intro σ σ' h r hr o n
    simp only [putBack, SP.run, Option.some.injEq, Prod.mk.injEq, true_and] at h
    rw [h]
  | cons x q ih =>
    intro σ σ' h r hr o n
    obtain ⟨g, l⟩ := x
    simp only [putBack] at h
    obtain ⟨_, σ1, h1, h2⟩ := SP.run_bind_some h
    split at h2
    · rw [putL_vers h2 (hr (g, l) (by simp)) o n]
      exact ih h1 (fun x hx => hr x (by simp [hx])) o n
    · simp [SP.run] at h2

/-- What is known of a pointer's variable, before and after. -/
def Seg (w W : World) (x : GP × Addr) (vs : List Value) : Prop :=
  ∃ cur0 cur e fz, w.heap[x.2.block]? = some (.cells cur0 e fz) ∧ W.heap[x.2.block]? = some (.cells cur e fz) ∧ cur.size = cur0.size ∧ (∀ j, (j < x.2.off ∨ x.2.off + vs.length ≤ j) → cur[j]? = cur0[j]?) ∧ ∀ j (h : j < vs.length), cur[x.2.off + j]? = some vs[j]

theorem putBack_ok {f : GP × Addr → List TV} {v : GP × Addr → List Value} (hfv : ∀ x, (f x).length = (v x).length) : ∀ {K : List (GP × Addr)} {σ σ' : St} {H0 : List TV} {x0 : List Value} {W : World} {G : Gh}, H0.length = x0.length →
    Inv M σ (H0 ++ K.flatMap f) (x0 ++ K.flatMap v) ts (RWs w K W) G → (∀ x ∈ K, Seg w W x (v x)) → (∀ x ∈ K, f x ≠ []) → (∀ x ∈ K, ∀ y ∈ K, x.2.block = y.2.block → x = y) → nodupN (K.map fun x => x.1.p.root) = true →
    (∀ x ∈ K, x.1.p.root ≠ 1 ∧ G.addr (RWs w K W) x.1.p = some x.2 ∧ ∃ t, getT (extC M σ (H0 ++ K.flatMap f) x.1.p.root x.1.p.off) x.1.p.hops = some t) →
    (putBack (K.map fun x => (x.1, f x))).run σ = some ((), σ') → ∃ G', Inv M σ' H0 x0 ts W G' ∧ σ'.tm = σ.tm ∧ Moves M (RWs w K W) σ (H0 ++ K.flatMap f) G W σ' H0 G' := by
  intro K
  induction K with
  | nil =>
    intro σ σ' H0 x0 W G hl0 hI _ _ _ _ _ hr
    simp only [List.map_nil, putBack, SP.run, Option.some.injEq, Prod.mk.injEq, true_and] at hr
    subst hr
    have hI : Inv M σ (H0 ++ []) (x0 ++ []) ts W G := hI
    rw [List.append_nil, List.append_nil] at hI
    refine ⟨G, hI, rfl, ?_⟩
    show Moves M W σ (H0 ++ []) G W σ H0 G
    rw [List.append_nil]
    exact Moves.refl _ _ _ _ _
  | cons x K ih =>
    intro σ σ' H0 x0 W G hl0 hI hseg hne hinj hnd hadr hr
    simp only [List.map_cons, putBack] at hr
    obtain ⟨_, σ1, h1, h2⟩ := SP.run_bind_some hr
    split at h2
    case isFalse => simp [SP.run] at h2
    rename_i hck
    simp only [Bool.and_eq_true, decide_eq_true_eq, List.all_eq_true, Bool.not_eq_true'] at hck
    simp only [List.map_cons, nodupN, Bool.and_eq_true, Bool.not_eq_true', List.contains_eq_mem, decide_eq_false_iff_not] at hnd
    have hxK : ∀ y ∈ K, y.1.p.root ≠ x.1.p.root := fun y hy e => hnd.1 (by rw [← e]; exact List.mem_map.2 ⟨y, hy, rfl⟩)
    have hbK : ∀ y ∈ K, x.2.block ≠ y.2.block := fun y hy e => by
      have := hinj x (by simp) y (by simp [hy]) e
      exact hxK y hy (by rw [this])
    have hI' : Inv M σ ((H0 ++ f x) ++ K.flatMap f) ((x0 ++ v x) ++ K.flatMap v) ts (RWs w K (restore w W x.2.block)) G := by
      simpa [RWs, List.append_assoc] using hI
    obtain ⟨G1, hI1, htm1, hm1⟩ := ih (W := restore w W x.2.block) (by simp [hl0, hfv]) hI' (fun y hy => by
        obtain ⟨cur0, cur, e, fz, s1, s2, s3⟩ := hseg y (by simp [hy])
        exact ⟨cur0, cur, e, fz, s1, by rw [restore_ne (Ne.symm (hbK y hy))]; exact s2, s3⟩) (fun y hy => hne y (by simp [hy])) (fun y hy z hz => hinj y (by simp [hy]) z (by simp [hz])) hnd.2
      (fun y hy => by have := hadr y (by simp [hy]); simpa [RWs, List.append_assoc] using this) h1
    obtain ⟨hr1, ha, t0, hget⟩ := hadr x (by simp)
    have hvers := putBack_vers h1 (r := x.1.p.root) (fun y hy => by
      obtain ⟨z, hz, rfl⟩ := List.mem_map.1 hy
      exact Ne.symm (hxK z hz)) x.1.p.off x.1.p.hops.length
    obtain ⟨t1, ha1, hget1⟩ := hm1.keeps.ptr x.1.p x.2 t0 hr1 hvers (by simpa [RWs] using ha) (by simpa [List.append_assoc] using hget)
    have hdrop : (H0 ++ f x).drop H0.length = f x := by simp
    obtain ⟨_, G2, H2, hI2, e1, e2, e3, e4, e5, e6⟩ := putL_ok (k := H0.length) hI1 hr1 ha1 hdrop (hne x (by simp)) (fun j hj hk => by
        intro e
        have hj' : j - H0.length < (f x).length := by simp at hj; omega
        have : (H0 ++ f x)[j] = (f x)[j - H0.length] := by rw [List.getElem_append_right hk]
        rw [this] at e
        have := hck.2 _ (List.getElem_mem hj')
        rw [e] at this
        simp [isDead] at this) h2
    obtain ⟨cur0, cur, e, fz, s1, s2, s3, s4, s5⟩ := hseg x (by simp)
    have hxd : (x0 ++ v x).drop H0.length = v x := by rw [hl0]; simp
    rw [hxd, setCells_restore s1 s2 s3 s4 s5] at hI2 e5
    obtain ⟨hI3, e7⟩ := hI2.trunc (k := H0.length) e2
    have hT : H2.take H0.length = H0 := by
      apply List.ext_getElem
      · simp [e1]
      · intro j hj hj'
        rw [List.getElem_take]
        rw [e3 j (by rw [e1]; simp; omega) (by simp; omega) hj']
        rw [List.getElem_append_left hj']
    have hX : (x0 ++ v x).take H0.length = x0 := by rw [hl0]; simp
    rw [hT] at hI3 e7
    rw [hX] at hI3
    refine ⟨G2, hI3, e4.trans htm1, ?_⟩
    have hm2 : Moves M (restore w W x.2.block) σ1 (H0 ++ f x) G1 W σ' H0 G2 := ⟨e5.size, by rw [e7]; exact e5.keeps, e5.heap, e5.free⟩
    have := hm1.trans hm2
    simpa [RWs, List.append_assoc] using this
end
end Go.Proofs.Ytjmfjjmdfikanaa
/- A call on trees: what it is in the program; no condition. -/
set_option linter.unusedVariables false
set_option linter.unusedSimpArgs false
namespace Go.Proofs.Ytjmfjjmdfikanaa
open Go.RowKit

/-- The function is one of the program's own. -/
def Enters (P : Program) (f : FuncId) : Prop := ∀ args w, (callFunc f args).run P w = .ok (.enter f args) w
theorem enters_of {P : Program} {f : FuncId} {fn : Func} {c : Code} (hf : P.funcs[f]? = some fn) (hname : (fn.name == "runtime.NumGoroutine") = false) (hb : fn.body = some c) : Enters P f := by
  intro args w
  unfold callFunc
  simp only [Sem.run_bind, run_program, Result.andThen_ok, hf]
  rw [if_neg (by rw [hname]; simp), if_neg (by rw [hb]; simp)]
  rfl

/-- What a function's run on trees tells of the function. -/
def CalleeOk (P : Program) (F : Callee) : Prop :=
  ∀ f vals pts res pts', F f vals pts = some (res, pts') → Enters P f ∧ ∃ N, vals.length ≤ N ∧ ∀ (M : Fm) (as : List Value) (w : World) (G : Gh), as.length = vals.length → M.N = N → M.w0 = w → (∀ r, M.pr r ≠ none → ∃ i p vs, vals[i]? = some (.ptr p vs) ∧ r = 2 * i + 2) →
    Inv M (mkSt vals pts) [] [] (as.toArray ++ Array.replicate (N - as.length) undef) w G →
    Calls P f as.toArray w fun e w2 => ∃ ys ts2 σ2 G2, e = .returned (resVal res.sh ys) ∧ Inv M σ2 res.cells ys ts2 w2 G2 ∧ (∀ j (h : j < res.cells.length), okCell res.cells[j] = true ∨ isOw res.cells[j] = true) ∧ pts' = pts.map fun x => (x.1, (aget σ2.ce x.1).getD [])

/-- Functions that only make a variable. -/
def BoxOk (P : Program) (E : Env) : Prop :=
  ∀ f n tm, E.box f = some (n, tm) → Enters P f ∧ (∀ x, .val x ∈ tm → vflat x = true) ∧ ∃ ty, ∀ (as : List Value) (w : World), as.length = n → (∀ y ∈ tm.map (bxV as), y.oneCell' = true) →
    Calls P f as.toArray w fun e w' => e = .returned (.pointer (some ⟨w.heap.size, 0, none⟩)) ∧ w' = w.alloc (.cells (tm.map (bxV as)).toArray ty)

/-- A call of the program, and the same on trees. -/
def isCall1 : Op → TOp → Prop
  | .call ⟨.value f, args, _⟩, .call _ f' args' => compOpd f = some f' ∧ args'.length = args.size ∧ ∀ j (h : j < args'.length) (h' : j < args.size), compOpd args[j] = some args'[j].2
  | _, _ => False
/-- Stands for an operation that is not told on trees: it always fails. -/
def badOp : TOp := .call false (.c undef) []
def isCallOp (op : Op) (t : TOp) : Prop := t = badOp ∨ isCall1 op t

section
variable {P : Program} {M : Fm} {σ σ' : St} {H : List TV} {xs : List Value} {ts : Array Value} {w : World} {G : Gh} {a : Act} {o : Oper}

theorem argTs_len : ∀ {l : List TV} {i : Nat}, (argTs i l).length = l.length := by
  intro l
  induction l with
  | nil => intro i; rfl
  | cons t l ih => intro i; simp [argTs, ih]

theorem shapeR_ok {F : Nat → Prop} {V : Vs} {C : Cs} : ∀ {sh : List RSh} {l : List TV} {ys : List Value}, rshOk sh l.length = true → l.length = ys.length → (∀ j (h : j < l.length), TmR w F V C G l[j] (ys.getD j undef)) →
    (shapeR sh l).length = (resVals sh ys).length ∧ ∀ j (h : j < (shapeR sh l).length), TmR w F V C G (shapeR sh l)[j] ((resVals sh ys).getD j undef) := by
  intro sh
  induction sh with
  | nil => intro l ys _ _ _; exact ⟨rfl, fun j h => by simp [shapeR] at h⟩
  | cons s sh ih =>
    intro l ys hs hl ht
    cases s with
    | one =>
      simp only [rshOk, Bool.and_eq_true, decide_eq_true_eq] at hs
      cases l with
      | nil => simp at hs
      | cons t l =>
        cases ys with
        | nil => simp at hl
        | cons y ys =>
          obtain ⟨e, h2⟩ := ih (l := l) (ys := ys) (by simpa using hs.2) (by simpa using hl) fun j h => by have := ht (j + 1) (by simpa using h); simpa using this
          refine ⟨by simp [shapeR, resVals, e], fun j h => ?_⟩
          cases j with
          | zero => have := ht 0 (by simp); simpa [shapeR, resVals] using this
          | succ j => have := h2 j (by simpa [shapeR] using h); simpa [shapeR, resVals] using this
    | agg n =>
      simp only [rshOk, Bool.and_eq_true, decide_eq_true_eq] at hs
      obtain ⟨e, h2⟩ := ih (l := l.drop n) (ys := ys.drop n) (by simpa using hs.2) (by simp [hl]) fun j h => by
        have h' : n + j < l.length := by simp at h; omega
        have := ht (n + j) h'
        simpa [List.getD_eq_getElem?_getD, List.getElem?_drop] using this
      refine ⟨by simp [shapeR, resVals, e], fun j h => ?_⟩
      cases j with
      | zero =>
        simp only [shapeR, resVals, List.getElem_cons_zero, List.getD_cons_zero]
        refine .agg (by simp; omega) fun j hj => ?_
        have hj' : j < n ∧ j < l.length := by simp at hj; omega
        have := ht j hj'.2
        have e2 : (List.take n ys).toArray.getD j undef = ys.getD j undef := by simp [Array.getD_eq_getD_getElem?, List.getD_eq_getElem?_getD, List.getElem?_take, hj'.1]
        rw [e2]
        simpa using this
      | succ j => have := h2 j (by simpa [shapeR] using h); simpa [shapeR, resVals] using this
    | ptr p => simp [rshOk] at hs

theorem shapeT_ok {F : Nat → Prop} {V : Vs} {C : Cs} {sh : List RSh} {l : List TV} {ys : List Value} (hs : rshOk sh l.length = true) (hl : l.length = ys.length) (ht : ∀ j (h : j < l.length), TmR w F V C G l[j] (ys.getD j undef)) : TmR w F V C G (shapeT sh l) (resVal sh ys) := by
  obtain ⟨e, h2⟩ := shapeR_ok hs hl ht
  by_cases h1 : ∃ x, shapeR sh l = [x]
  · obtain ⟨x, hx⟩ := h1
    obtain ⟨y, hy⟩ : ∃ y, resVals sh ys = [y] := List.length_eq_one_iff.1 (by rw [← e, hx]; rfl)
    have := h2 0 (by rw [hx]; simp)
    have e1 : shapeT sh l = x := by unfold shapeT; rw [hx]
    have e2 : resVal sh ys = y := by unfold resVal; rw [hy]
    rw [e1, e2]
    simp only [hx, hy] at this
    simpa using this
  · have hne : ¬ ∃ y, resVals sh ys = [y] := fun ⟨y, hy⟩ => h1 (List.length_eq_one_iff.1 (by rw [e, hy]; rfl))
    have e1 : shapeT sh l = TV.tup (shapeR sh l) := by
      unfold shapeT
      split
      · rename_i x hx; exact absurd ⟨x, hx⟩ h1
      · rfl
    have e2 : resVal sh ys = Value.tuple (resVals sh ys).toArray := by
      unfold resVal
      split
      · rename_i x hx; exact absurd ⟨x, hx⟩ hne
      · rfl
    rw [e1, e2]
    refine .tup (by simp [e]) fun j hj => ?_
    have := h2 j hj
    have e3 : (resVals sh ys).toArray.getD j undef = (resVals sh ys).getD j undef := by simp [Array.getD_eq_getD_getElem?, List.getD_eq_getElem?_getD]
    rw [e3]
    exact this

theorem rsh_len : ∀ {sh : List RSh} {n : Nat}, rshOk sh n = true → True := fun _ => trivial

/-- What came back goes to its slot. -/
theorem land_ok {res : TRes} {ys : List Value} (hI : Inv M σ res.cells ys ts w G) (hok : ∀ j (h : j < res.cells.length), okCell res.cells[j] = true ∨ isOw res.cells[j] = true) (hs : rshOk res.sh res.cells.length = true)
    {dst : Option Nat} (hd : ∀ d, dst = some d → d < M.N) (hr : (landR dst res).run σ = some ((), σ')) : ∃ G', Inv M σ' [] [] (match dst with | some d => ts.setIfInBounds d (resVal res.sh ys) | none => ts) w G' := by
  cases dst with
  | none =>
    simp only [landR, SP.run, Option.some.injEq, Prod.mk.injEq, true_and] at hr
    subst hr
    obtain ⟨G', hg, _⟩ := hI.drop
    exact ⟨G', hg.1⟩
  | some d =>
    simp only [landR] at hr
    obtain ⟨l, σ1, h1, h2⟩ := SP.run_bind_some hr
    obtain ⟨G1, hI1, _, hl, ht⟩ := names_ok hI hok h1
    simp only [wr, SP.run, Option.some.injEq, Prod.mk.injEq, true_and] at h2
    subst h2
    exact ⟨G1, hI1.wrT (hd d rfl) (shapeT_ok (by rw [hl]; exact hs) (by rw [hl]; exact hI.hand) ht)⟩
end
end Go.Proofs.Ytjmfjjmdfikanaa
/- Calls are carried out; no condition. -/
set_option linter.unusedVariables false
set_option linter.unusedSimpArgs false
namespace Go.Proofs.Ytjmfjjmdfikanaa
open Go.RowKit

section
variable {P : Program} {M : Fm} {σ σ' : St} {H : List TV} {xs : List Value} {ts : Array Value} {w : World} {G : Gh} {a : Act} {o : Oper}

theorem putBack_len : ∀ {q : List (GP × List TV)} {σ σ' : St}, (putBack q).run σ = some ((), σ') → ∀ x ∈ q, x.2.length = x.1.cells.length := by
  intro q
  induction q with
  | nil => intro σ σ' _ x hx; simp at hx
  | cons y q ih =>
    intro σ σ' h x hx
    obtain ⟨g, l⟩ := y
    simp only [putBack] at h
    obtain ⟨_, σ1, h1, h2⟩ := SP.run_bind_some h
    split at h2
    · rename_i hck
      simp only [Bool.and_eq_true, decide_eq_true_eq] at hck
      rcases List.mem_cons.1 hx with rfl | hx
      · exact hck.1
      · exact ih h1 x hx
    · simp [SP.run] at h2
theorem GRel.nodup {i : Nat} {vals : List TV} {as us : List Value} {K : List (GP × Addr)} (h : GRel w i vals as K us) : nodupN (K.map fun x => x.1.i) = true ∧ ∀ x ∈ K, i ≤ x.1.i := by
  induction h with
  | nil => exact ⟨rfl, fun x hx => by simp at hx⟩
  | ptr hr hs hu hc hok h ih =>
    refine ⟨?_, fun x hx => ?_⟩
    · simp only [List.map_cons, nodupN, Bool.and_eq_true, Bool.not_eq_true', List.contains_eq_mem, decide_eq_false_iff_not]
      refine ⟨fun hm => ?_, ih.1⟩
      obtain ⟨y, hy, e⟩ := List.mem_map.1 hm
      have := ih.2 y hy
      omega
    · rcases List.mem_cons.1 hx with rfl | hx
      · exact Nat.le_refl _
      · have := ih.2 x hx; omega
  | arg ha h ih => exact ⟨ih.1, fun x hx => by have := ih.2 x hx; omega⟩
theorem prK_mem {K : List (GP × Addr)} (hnd : nodupN (K.map fun x => x.1.i) = true) : ∀ x ∈ K, prK K (2 * x.1.i + 2) = some (x.2.block, x.2.off, x.1.cells.length) := by
  induction K with
  | nil => intro x hx; simp at hx
  | cons y K ih =>
    intro x hx
    obtain ⟨g, ad⟩ := y
    simp only [List.map_cons, nodupN, Bool.and_eq_true, Bool.not_eq_true', List.contains_eq_mem, decide_eq_false_iff_not] at hnd
    simp only [prK]
    rcases List.mem_cons.1 hx with rfl | hx
    · simp
    · rw [if_neg]
      · exact ih hnd.2 x hx
      · intro e
        exact hnd.1 (List.mem_map.2 ⟨x, hx, by omega⟩)
theorem flat_len {α β : Type} {K : List (GP × Addr)} {f : GP × Addr → List α} {g : GP × Addr → List β} (h : ∀ x ∈ K, (f x).length = (g x).length) : (K.flatMap f).length = (K.flatMap g).length := by
  induction K with
  | nil => rfl
  | cons x K ih => simp only [List.flatMap_cons, List.length_append]; rw [h x (by simp), ih fun y hy => h y (by simp [hy])]

/-- Back from a function: its variables' cells. -/
def backC (σ : St) (x : GP × Addr) : List TV := (aget σ.ce (2 * x.1.i + 2)).getD []
def backV (σ : St) (G : Gh) (w : World) (x : GP × Addr) : List Value := (List.range (backC σ x).length).map (G.val w (2 * x.1.i + 2))

theorem GRel.hands2 {vals : List TV} {as us : List Value} {K : List (GP × Addr)} {N : Nat} {σ2 : St} {res ys : _} {ts2 : Array Value} {w2 : World} {G2 : Gh} (h : GRel w 0 vals as K us) (hpos : ∀ x ∈ K, 0 < x.1.cells.length)
    (h2 : Inv (M.into w G (prK K) N) σ2 res ys ts2 w2 G2) (hlen : ∀ x ∈ K, (backC σ2 x).length = x.1.cells.length) :
    Hands2 res ys (res ++ K.flatMap (backC σ2)) (ys ++ K.flatMap (backV σ2 G2 w2)) (extC (M.into w G (prK K) N) σ2 res) G2 w2 (prK K) (fun r => res.length + bsK K r) := by
  have hlv : ∀ x ∈ K, (backV σ2 G2 w2 x).length = x.1.cells.length := fun x hx => by simp [backV, hlen x hx]
  refine ⟨?_, fun j hj => ⟨by simp; omega, List.getElem_append_left hj, ?_⟩, fun r b o n hp t ht => ?_, fun j hj => ?_, fun r b o n r' b' o' n' hp hp' j j' hj hj' e => apartK _ _ _ _ _ _ _ _ hp hp' j j' hj hj' (by omega)⟩
  · rw [List.length_append, List.length_append, h2.hand, flat_len (f := backC σ2) (g := backV σ2 G2 w2) fun x hx => by rw [hlen x hx, hlv x hx]]
  · rw [List.getD_eq_getElem?_getD, List.getD_eq_getElem?_getD, List.getElem?_append_left (by rw [← h2.hand]; exact hj)]
  · obtain ⟨x, x1, x2, x3, x4, x5, x6, x7⟩ := flatK_get hlen hp
    obtain ⟨y, y1, y2, y3, y4, y5, y6, y7⟩ := flatK_get hlv hp
    have hxy : x = y := nodupN_inj h.nodup.1 x1 y1 (by omega)
    subst hxy
    have htl : t < (backC σ2 x).length := by rw [hlen x x1]; omega
    have e1 := x7 t ht
    rw [List.getElem?_eq_getElem htl] at e1
    obtain ⟨k1, k2⟩ := List.getElem?_eq_some_iff.1 e1
    refine ⟨by rw [List.length_append]; omega, by omega, ?_, ?_⟩
    · have e2 : (res ++ K.flatMap (backC σ2))[res.length + bsK K r + t]'(by rw [List.length_append]; omega) = (K.flatMap (backC σ2))[bsK K r + t] := by
        rw [List.getElem_append_right (by omega)]
        congr 1
        omega
      rw [e2, k2]
      rw [extC_ne (by have : r ≠ 1 := by omega
                      exact this)]
      unfold St.c
      have hb : backC σ2 x = (aget σ2.ce r).getD [] := by rw [x2]; rfl
      cases ha : aget σ2.ce r with
      | none => rw [hb, ha] at htl; simp at htl
      | some l =>
        simp only [hb, ha, Option.getD_some] at htl ⊢
        simp [htl]
    · have e3 := y7 t ht
      rw [List.getD_eq_getElem?_getD, List.getElem?_append_right (by rw [← h2.hand]; omega)]
      rw [show res.length + bsK K r + t - ys.length = bsK K r + t by rw [← h2.hand]; omega]
      rw [e3, x2]
      simp [backV, htl]
  · by_cases hj1 : j < res.length
    · exact .inl hj1
    · right
      have hc : (K.flatMap (backC σ2)).length = (cellsK K).length := flat_len hlen
      obtain ⟨r, b, o, n, t, c1, c2, c3⟩ := coverK h.nodup.1 (j := j - res.length) (by rw [List.length_append] at hj; omega)
      exact ⟨r, b, o, n, t, c1, c2, by omega⟩

/-- A function is entered with its arguments, and what it hands back is put where it belongs. -/
theorem callV_ok {F : Callee} (hF : CalleeOk P F) {as : List Value} {vals : List TV} {ns : List (Option Nat)} {fid : FuncId} {σ1 : St} {G1 : Gh} (hd : ∀ d, o.dst = some d → d < M.N ∧ M.pr (2 * d + 2) = none) (hI1 : Inv M σ1 [] [] a.tmps w G1) (hns : ns.length = vals.length) (hal : as.length = vals.length)
    (hvt : ∀ j (h : j < vals.length) (h' : j < as.length), TmR w (G1.F M.A) σ1.v (extC M σ1 []) G1 vals[j] as[j]) (h2 : (callV F o.dst fid ns vals).run σ1 = some ((), σ')) (hexec : Enters P fid → (execOp a.eval o).run P w = .ok (.enter fid as.toArray) w) : SimO P M σ' a o w := by
  intro K' Q hK
  unfold callV at h2
  obtain ⟨q, σ2, h3, h4⟩ := SP.run_bind_some h2
  have hzl : (ns.zip vals).length = vals.length := by simp [hns]
  have hz2 : (ns.zip vals).map (·.2) = vals := by
    rw [List.map_snd_zip]
    omega
  obtain ⟨us, G2, K, hg2, hKq, hrel⟩ := grabs_ok (as := as) hI1 (by omega) (fun j h h' => by
    have hj : j < vals.length := by rw [← hzl]; exact h
    have := hvt j hj (by omega)
    simpa using this) h3
  rw [hz2] at hrel
  obtain ⟨_, σ3, h5, h6⟩ := SP.run_bind_some h4
  have hHand : ([] : List TV) ++ q.flatMap (·.cells) = cellsK K := by rw [← hKq]; simp [cellsK, List.flatMap_map]
  rw [hHand, List.nil_append] at hg2
  obtain ⟨rfl, hre⟩ := rechk_ok hg2.1 h5
  split at h6
  case isFalse => simp [SP.run] at h6
  rename_i hck
  simp only [Bool.and_eq_true, List.all_eq_true, decide_eq_true_eq] at hck
  obtain ⟨hnd, hpos⟩ := hck
  have hposK : ∀ x ∈ K, 0 < x.1.cells.length := fun x hx => hpos x.1 (by rw [← hKq]; exact List.mem_map_of_mem hx)
  have hvals : ∀ j (h : j < vals.length) (h' : j < as.length), TmR w (G2.F M.A) σ3.v (extC M σ3 (cellsK K)) G2 vals[j] as[j] := fun j h h' => by
    have := hg2.tm (hvt j h (by omega))
    simpa using this
  have hfact : ∀ x ∈ K, x.1.p.root ≠ 1 ∧ G2.addr w x.1.p = some x.2 ∧ (∃ t, getT (extC M σ3 (cellsK K) x.1.p.root x.1.p.off) x.1.p.hops = some t) ∧ ((∃ o n, G2.β x.1.p.root = some (x.2.block, o, n)) ∨ G2.φ x.1.p.root x.1.p.off x.2.block) := fun x hx => by
    obtain ⟨_, p, vs, s1, rfl, rfl, s2, s3⟩ := hrel.slot x hx
    simp only [Nat.sub_zero] at s1 s2
    obtain ⟨k1, k2⟩ := List.getElem?_eq_some_iff.1 s1
    obtain ⟨k3, k4⟩ := List.getElem?_eq_some_iff.1 s2
    have htm := hvals _ k1 k3
    rw [k2, k4] at htm
    obtain ⟨r1, ad, r2, r3, _, r4, r5⟩ := hre x.1 (by rw [← hKq]; exact List.mem_map_of_mem hx) _ htm
    injection r2 with r2
    injection r2 with r2
    subst r2
    exact ⟨r1, r3, r4, r5⟩
  have hh := hrel.hands hg2.1 (by rw [hKq]; exact hnd) hposK fun x hx => ⟨(hfact x hx).1, (hfact x hx).2.2.2⟩
  obtain ⟨r, σ4, h7, h8⟩ := SP.run_bind_some h6
  have hFr : F fid (argTs 0 vals) (q.map fun g => (2 * g.i + 2, g.cells)) = some r ∧ σ4 = σ3 := by
    cases hq : F fid (argTs 0 vals) (q.map fun g => (2 * g.i + 2, g.cells)) with
    | none => rw [hq] at h7; simp [spOpt, SP.run] at h7
    | some r' =>
      rw [hq] at h7
      simp only [spOpt, SP.run, Option.some.injEq, Prod.mk.injEq] at h7
      exact ⟨by rw [h7.1], h7.2.symm⟩
  obtain ⟨hFr, rfl⟩ := hFr
  obtain ⟨res, pts'⟩ := r
  simp only at h8
  split at h8
  case isFalse => simp [SP.run] at h8
  rename_i hck2
  simp only [Bool.and_eq_true, decide_eq_true_eq] at hck2
  obtain ⟨_, σ5, h9, h10⟩ := SP.run_bind_some h8
  obtain ⟨hent, N, hN, hcal⟩ := hF fid _ _ _ _ hFr
  rw [argTs_len] at hN
  have hpts : (q.map fun g => (2 * g.i + 2, g.cells)) = ceK K := by rw [← hKq]; simp [ceK]
  have hin := hrel.enter hg2.1 hh hvals (N := N) (by omega)
  have hcalls := hcal (M.into w G2 (prK K) N) as w (G2.into (prK K) (bsK K)) (by rw [argTs_len]; exact hal) rfl rfl (fun r hr => by
    have hr : prK K r ≠ none := hr
    cases hp : prK K r with
    | none => exact absurd hp hr
    | some y =>
      obtain ⟨b, o, n⟩ := y
      obtain ⟨x, x1, x2, _⟩ := prK_some hp
      obtain ⟨_, p, vs, s1, _⟩ := hrel.slot x x1
      refine ⟨x.1.i, ⟨2 * x.1.i + 2, 0, []⟩, [0], ?_, x2⟩
      rw [argTs_get]
      have s1 : vals[x.1.i]? = some (.ptr p vs) := s1
      rw [s1]
      simp [argT]) (by rw [hpts]; exact hin)
  have hrun := hexec hent
  unfold Oper.wp
  rw [hrun, Oper.upon_enter]
  refine hcalls.mono fun e w2 ⟨ys, ts2, σc, Gc, he, hIc, hokc, hpts'⟩ => ?_
  subst he
  simp only
  -- back
  have hzip : q.zip (pts'.map (·.2)) = K.map fun x => (x.1, backC σc x) := by
    rw [hpts', hpts, ← hKq]
    simp only [ceK, List.map_map]
    rw [List.zip_map']
    rfl
  rw [hzip] at h9
  have hlenK : ∀ x ∈ K, (backC σc x).length = x.1.cells.length := fun x hx => putBack_len h9 _ (List.mem_map.2 ⟨x, hx, rfl⟩)
  have hH2 := hrel.hands2 (M := M) (G := G2) (N := N) hposK hIc hlenK
  have hmem := prK_mem hrel.nodup.1
  have hlt : ∀ x ∈ K, x.2.block < w.heap.size := fun x hx => by
    obtain ⟨cur, e, fz, hb, _⟩ := cell_block (hh.here _ _ _ _ (hmem x hx) 0 (hposK x hx)).1
    exact (Array.getElem?_eq_some_iff.1 hb).1
  have hsz : w.heap.size ≤ w2.heap.size := hIc.fram.size
  obtain ⟨G3, hI3, hm3, _⟩ := hg2.1.leave hh hIc hH2 (w' := RWs w K w2) RWs_size RWs_rest.1 RWs_rest.2.1 RWs_rest.2.2 (fun k hk => RWs_ne fun x hx => hk _ _ _ _ (hmem x hx)) (fun r b o n hp => by
    obtain ⟨x, x1, x2, x3, _⟩ := prK_some hp
    rw [x3]
    exact RWs_eq (hlt x x1) (Nat.lt_of_lt_of_le (hlt x x1) hsz) ⟨x, x1, rfl⟩)
  have hinj : ∀ x ∈ K, ∀ y ∈ K, x.2.block = y.2.block → x = y := fun x hx y hy e => by
    have h1 := hmem x hx
    have h2 := hmem y hy
    rw [← e] at h2
    have := hh.inj _ _ _ _ _ _ _ h1 h2
    exact nodupN_inj hrel.nodup.1 hx hy (by omega)
  obtain ⟨G4, hI4, htm4, hm4⟩ := putBack_ok (w := w) (f := backC σc) (v := backV σc Gc w2) (fun x => by simp [backV]) (K := K) (W := w2) hIc.hand hI3 (fun x hx => by
      have hp := hmem x hx
      obtain ⟨hβ, cur0, cur, e, fz, p1, p2, p3, p4⟩ := hIc.fram.par _ _ _ _ hp
      have hvl2 : (backV σc Gc w2 x).length = x.1.cells.length := by simp [backV, hlenK x hx]
      refine ⟨cur0, cur, e, fz, p1, p2, p3, fun j hj => p4 j (by rw [hvl2] at hj; exact hj), fun j hj => ?_⟩
      have hcb := hIc.core.boxcell hβ (o := j) (by omega)
      obtain ⟨cur', e', fz', c1, c2, c3⟩ := cell_block hcb
      rw [p2] at c1
      injection c1 with c1
      injection c1 with c1 _ _
      subst c1
      rw [c3]
      simp [backV]) (fun x hx e => by have h1 := hlenK x hx; have h2 := hposK x hx; rw [e, List.length_nil] at h1; omega) hinj (by rw [← hKq] at hnd; simpa [Function.comp_def] using hnd) (fun x hx => by
      obtain ⟨r1, r2, ⟨t, r3⟩, _⟩ := hfact x hx
      obtain ⟨t', k1, k2⟩ := hm3.keeps.ptr x.1.p x.2 t r1 rfl r2 r3
      exact ⟨r1, k1, t', k2⟩) h9
  obtain ⟨G5, hI5⟩ := land_ok hI4 hokc hck2.2 (dst := o.dst) (fun d hd' => (hd d hd').1) h10
  refine hK (a.put o.dst (resVal res.sh ys)) w2 G5 ?_ (put_defers _ _ _)
  cases hdst : o.dst with
  | none => rw [hdst] at hI5; exact hI5
  | some d => rw [hdst] at hI5; exact hI5

theorem run_enter_value {fid : FuncId} {args' : Array Operand} {caps : Array Value} {fo : Operand} {atys : Array TypeId} (ho : o.op = .call ⟨.value fo, args', atys⟩) (hv : a.eval fo = .func (.func fid) #[] caps) (hent : Enters P fid) :
    (execOp a.eval o).run P w = .ok (.enter fid (args'.map a.eval ++ caps)) w := by
  unfold execOp
  rw [ho]
  simp only [resolve, Sem.run_bind]
  rw [hv]
  simp only [Deferred.ofValue, Sem.run_pure, Result.andThen_ok, invoke]
  have := hent (args'.map a.eval ++ caps) w
  simpa using this

theorem evBox_ok {E : Env} (hB : BoxOk P E) {as : List Value} {vals : List TV} {fid : FuncId} {n : Nat} {tm : List BxC} (hbx : E.box fid = some (n, tm)) (hn : vals.length = n) {σ1 : St} {G1 : Gh} (hd : ∀ d, o.dst = some d → d < M.N ∧ M.pr (2 * d + 2) = none) (hI1 : Inv M σ1 [] [] a.tmps w G1) (hal : as.length = vals.length)
    (hvt : ∀ j (h : j < vals.length) (h' : j < as.length), TmR w (G1.F M.A) σ1.v (extC M σ1 []) G1 vals[j] as[j]) (h2 : (evBox o.dst tm vals).run σ1 = some ((), σ')) (hexec : Enters P fid → (execOp a.eval o).run P w = .ok (.enter fid as.toArray) w) : SimO P M σ' a o w := by
  intro K' Q hK
  obtain ⟨hent, hfl, ty, hcal⟩ := hB fid n tm hbx
  cases hdst : o.dst with
  | none => rw [hdst] at h2; simp [evBox, SP.run] at h2
  | some d =>
    rw [hdst] at h2
    obtain ⟨hdN, hpr⟩ := hd d hdst
    simp only [evBox] at h2
    obtain ⟨l, σ2, h3, h4⟩ := SP.run_bind_some h2
    obtain ⟨hll, hone, G2, hg2⟩ := takeL_ok (ys := tm.map (bxV as)) hI1 (by simp) (fun j h => by
      have hj : j < tm.length := by simpa using h
      simp only [List.getElem_map, List.getD_eq_getElem?_getD, List.getElem?_map, List.getElem?_eq_getElem hj, Option.map_some, Option.getD_some]
      cases hb : tm[j] with
      | val x => exact .v (hfl x (by rw [← hb]; exact List.getElem_mem hj))
      | arg i =>
        simp only [bxT, bxV]
        by_cases hi : i < vals.length
        · have := hvt i hi (by omega)
          simpa [hi, show i < as.length by omega] using this
        · have : vals.getD i .dead = .dead := by simp [List.getD_eq_getElem?_getD, List.getElem?_eq_none (by omega : vals.length ≤ i)]
          rw [this]; exact .dead) h3
    simp only [List.nil_append] at hg2
    obtain ⟨G3, hI3, _, hβ⟩ := hg2.1.newBox (2 * d + 2) ty (by omega) hpr (by omega)
    have hr' : (wr d (.ptr ⟨2 * d + 2, 0, []⟩ [(σ2.root (2 * d + 2) l).v (2 * d + 2, 0, 0)])).run (σ2.root (2 * d + 2) l) = some ((), σ') := h4
    simp only [wr, SP.run, Option.some.injEq, Prod.mk.injEq, true_and] at hr'
    subst hr'
    unfold Oper.wp
    rw [hexec hent, Oper.upon_enter]
    refine (hcal as w (by omega) hone).mono fun e w2 ⟨he, hw⟩ => ?_
    subst he
    subst hw
    simp only
    refine hK (a.put o.dst (.pointer (some ⟨w.heap.size, 0, none⟩))) _ G3 ?_ (put_defers _ _ _)
    rw [hdst]
    refine hI3.wrT hdN (.ptr (σ2.root (2 * d + 2) l).v (fun _ => Nat.le_refl _) (by simp [vers]) fun _ => ⟨by show (2 * d + 2 : Nat) ≠ 1; omega, ⟨w.heap.size, 0, none⟩, _, ?_, rfl, rfl⟩)
    unfold Gh.addr
    simp only [hβ]

theorem sim_call {E : Env} {F : Callee} (hB : BoxOk P E) (hF : CalleeOk P F) : CallOk P M isCallOp (evCall E F) := by
  intro o t σ σ' a w G hc hd hI hr
  rcases hc with rfl | hc
  · simp [evop, evCall, badOp, SP.run] at hr
  cases ho : o.op with
  | call c =>
    rw [ho] at hc
    obtain ⟨callee, args, atys⟩ := c
    cases callee with
    | value fo =>
      cases t with
      | call k f' args' =>
        simp only [isCall1] at hc
        obtain ⟨hf, hlen, hargs⟩ := hc
        simp only [evop] at hr
        cases f' with
        | f fid =>
          have hfo : fo = .func fid := by cases fo <;> simp [compOpd] at hf; rw [hf]
          simp only [evCall] at hr
          obtain ⟨vals, σ1, h1, h2⟩ := SP.run_bind_some hr
          obtain ⟨G1, hg1, hvl, hvt⟩ := argVs_ok (l' := args.toList) hI (by simp [hlen]) (fun j h h' => by have := hargs j (by simpa using h) (by simpa using h'); simpa using this) h1
          have hvl' : vals.length = args'.length := by rw [hvl]; simp
          have hex : Enters P fid → (execOp a.eval o).run P w = .ok (.enter fid (args.toList.map a.eval).toArray) w := fun hent => by
            have := run_enter_value (a := a) (w := w) ho (by rw [hfo]; rfl : a.eval fo = .func (.func fid) #[] #[]) hent
            have ea : (args.toList.map a.eval).toArray = args.map a.eval := by apply Array.ext'; rw [Array.toList_map]
            rw [ea]; simpa using this
          split at h2
          · rename_i x hbx
            split at h2
            case isFalse => simp [SP.run] at h2
            rename_i hn
            exact evBox_ok hB hbx hn hd hg1.1 (by simp; omega) (fun j h h' => by have := hvt j h (by simpa using h'); simpa using this) h2 hex
          · exact callV_ok hF hd hg1.1 (by simp; omega) (by simp; omega) (fun j h h' => by have := hvt j h (by simpa using h'); simpa using this) h2 hex
        | t i =>
          simp only [evCall, SP.run] at hr
          split at hr
          case h_2 => simp [SP.run] at hr
          rename_i fid caps htv
          obtain ⟨vals, σ1, h1, h2⟩ := SP.run_bind_some hr
          obtain ⟨G1, hg1, hvl, hvt⟩ := argVs_ok (l' := args.toList) hI (by simp [hlen]) (fun j h h' => by have := hargs j (by simpa using h) (by simpa using h'); simpa using this) h1
          have hvl' : vals.length = args'.length := by rw [hvl]; simp
          have hfo : fo = .tmp i := by cases fo <;> simp [compOpd] at hf; rw [hf]
          have htm := hI.tmr i
          rw [htv] at htm
          have hev : a.eval fo = a.tmps.getD i undef := by rw [hfo]; rfl
          generalize hz : a.tmps.getD i undef = z at htm hev
          cases htm with
          | @fn _ _ xs hcl hct =>
            have hex : Enters P fid → (execOp a.eval o).run P w = .ok (.enter fid (args.toList.map a.eval ++ xs.toList).toArray) w := fun hent => by
              have := run_enter_value (a := a) (w := w) ho hev hent
              have ea : (args.toList.map a.eval ++ xs.toList).toArray = args.map a.eval ++ xs := by apply Array.ext'; simp
              rw [ea]; exact this
            have hcl' : xs.toList.length = caps.length := by simpa using hcl
            exact callV_ok hF hd hg1.1 (by simp [capNs]; omega) (by simp; omega) (fun j h h' => by
              by_cases hj : j < vals.length
              · have := hvt j hj (by simp; omega)
                simpa [List.getElem_append_left, hj, List.getElem_append, show j < args.size by omega] using this
              · have hj2 : j - vals.length < caps.length := by simp at h; omega
                have := hg1.tm (hct (j - vals.length) hj2)
                have hj3 : ¬ j < args.size := by omega
                have e1 : args.size = vals.length := by omega
                simp only [List.getElem_append, hj, dite_false, List.length_map, Array.length_toList, hj3, Array.getElem_toList]
                simp only [e1]
                have e2 : xs.getD (j - vals.length) undef = xs[j - vals.length] := by simp [Array.getD_eq_getD_getElem?, show j - vals.length < xs.size by omega]
                rw [← e2]
                exact this) h2 hex
        | _ => simp [evCall, SP.run] at hr
      | _ => simp [isCall1] at hc
    | _ => cases t <;> simp [isCall1] at hc
  | _ => rw [ho] at hc; cases t <;> simp [isCall1] at hc
end
end Go.Proofs.Ytjmfjjmdfikanaa
/- Functions on trees, and what they are in the program; no condition. -/
set_option linter.unusedVariables false
set_option linter.unusedSimpArgs false
namespace Go.Proofs.Ytjmfjjmdfikanaa
open Go.RowKit

/-- Pointers stand only where they may. -/
def ptrsIn (pp : List Nat) : Nat → List TV → Bool
  | _, [] => true
  | i, .ptr _ _ :: r => pp.contains i && ptrsIn pp (i + 1) r
  | i, _ :: r => ptrsIn pp (i + 1) r
theorem ptrsIn_ok {pp : List Nat} : ∀ {l : List TV} {i : Nat}, ptrsIn pp i l = true → ∀ j p vs, l[j]? = some (.ptr p vs) → i + j ∈ pp := by
  intro l
  induction l with
  | nil => intro i _ j p vs h; simp at h
  | cons t l ih =>
    intro i h j p vs hj
    have hr : ptrsIn pp (i + 1) l = true := by
      cases t <;> simp only [ptrsIn, Bool.and_eq_true] at h <;> first | exact h | exact h.2
    cases j with
    | zero =>
      have : t = .ptr p vs := by simpa using hj
      subst this
      simp only [ptrsIn, Bool.and_eq_true, List.contains_eq_mem, decide_eq_true_eq] at h
      exact h.1
    | succ j =>
      have := ih hr j p vs (by simpa using hj)
      rw [show i + (j + 1) = i + 1 + j by omega]
      exact this
/-- One function's run on trees. -/
def runT (E : Env) (F : Callee) (n : Nat) (tf : TFn) (vals : List TV) (pts : Pts) : Option (TRes × Pts) :=
  if vals.length = tf.np ∧ ptrsIn tf.pp 0 vals = true then
      (runC (evCall E F) n tf.body (mkSt vals pts)).bind fun x => match x.1 with
        | .exit _ => none
        | _ => ((resL tf.np tf.res).run x.2).bind fun y => some (⟨y.1.1, y.1.2⟩, pts.map fun x => (x.1, (aget y.2.ce x.1).getD []))
  else none
def stepF (E : Env) (T : FuncId → Option TFn) (B F : Callee) (n : Nat) : Callee := fun f vals pts =>
  match T f with
  | none => B f vals pts
  | some tf => runT E F n tf vals pts
/-- The functions of a table, so deep. -/
def runF (E : Env) (T : FuncId → Option TFn) (B : Callee) : Nat → Callee
  | 0 => fun _ _ _ => none
  | n + 1 => stepF E T B (runF E T B n) n

/-- The program's functions are those of the table. -/
def TabOk (P : Program) (T : FuncId → Option TFn) : Prop :=
  ∀ f tf, T f = some tf → ∃ fn c, P.funcs[f]? = some fn ∧ (fn.name == "runtime.NumGoroutine") = false ∧ fn.body = some c ∧ fn.ntmps = tf.nt ∧ tf.np ≤ tf.nt ∧
    (∀ M : Fm, M.N = tf.nt → (∀ r, M.pr r ≠ none → ∃ i ∈ tf.pp, r = 2 * i + 2) → CodeOk P M isCallOp tf.body c) ∧ tf.res.length = fn.results.size ∧ ∀ k (h : k < tf.res.length) (h' : k < fn.results.size), ResOk P tf.res[k] fn.results[k]

section
variable {P : Program} {E : Env} {T : FuncId → Option TFn} {B F : Callee}

theorem stepF_ok (hT : TabOk P T) (hE : BoxOk P E) (hB : CalleeOk P B) (hF : CalleeOk P F) (n : Nat) : CalleeOk P (stepF E T B F n) := by
  intro f vals pts res pts' h
  unfold stepF at h
  cases ht : T f with
  | none => rw [ht] at h; exact hB f vals pts res pts' h
  | some tf =>
    rw [ht] at h
    simp only [runT] at h
    split at h
    case isFalse => simp at h
    rename_i hnp
    obtain ⟨hnp, hpp⟩ := hnp
    obtain ⟨⟨e, σ1⟩, h1, h2⟩ := obind h
    obtain ⟨fn, c, hf, hname, hb, hnt, hle, hcode, hrl, hres⟩ := hT f tf ht
    refine ⟨enters_of hf hname hb, tf.nt, by omega, fun M as w G hal hN hw0 hpr hI => ?_⟩
    refine calls_of_wp hf hb ?_
    have hN2 : fn.ntmps - as.toArray.size = tf.nt - as.length := by rw [hnt]; simp
    rw [hN2]
    refine sim_code (sim_call hE hF) n tf.body c _ e σ1 ⟨as.toArray ++ Array.replicate (tf.nt - as.length) undef, []⟩ w G _ (hcode M hN (fun r hr => by obtain ⟨i, p, vs, h3, h4⟩ := hpr r hr; exact ⟨i, by simpa using ptrsIn_ok hpp i p vs h3, h4⟩)) h1 hI fun a' w' G' hI' hd => ?_
    simp only at hd
    have key : ∀ y, (resL tf.np tf.res).run σ1 = some y → some ((⟨y.1.1, y.1.2⟩ : TRes), pts.map fun x => (x.1, (aget y.2.ce x.1).getD [])) = some (res, pts') → a'.defers = [] ∧ ∃ v, (results fn a'.tmps).run P w' = .ok v w' ∧
        ∃ ys ts2 σ2 G2, Ending.returned v = .returned (resVal res.sh ys) ∧ Inv M σ2 res.cells ys ts2 w' G2 ∧ (∀ j (h : j < res.cells.length), okCell res.cells[j] = true ∨ isOw res.cells[j] = true) ∧ pts' = pts.map fun x => (x.1, (aget σ2.ce x.1).getD []) := by
      rintro ⟨r, σ2⟩ hr he
      obtain ⟨vs, ys, G2, hrun, hg, hl, hok, hrv⟩ := resL_ok (qs' := fn.results.toList) hI' (by simpa using hrl) (fun k h h' => by have := hres k h (by simpa using h'); simpa using this) hr
      injection he with he
      injection he with he1 he2
      subst he1; subst he2
      refine ⟨hd, resVal r.2 ys, ?_, ys, a'.tmps, σ2, G2, rfl, by simpa using hg.1, hok, rfl⟩
      unfold results
      rw [Array.mapM_eq_mapM_toList]
      simp only [Sem.run_bind, Sem.run_map]
      erw [hrun]
      unfold resVal
      rw [hrv]
      cases vs with
      | nil => rfl
      | cons v vs =>
        cases vs with
        | nil => rfl
        | cons v2 vs => rfl
    cases e with
    | exit i => simp at h2
    | normal =>
      simp only at h2
      obtain ⟨y, h3, h4⟩ := obind h2
      exact key y h3 h4
    | ret =>
      simp only at h2
      obtain ⟨y, h3, h4⟩ := obind h2
      exact key y h3 h4

theorem runF_ok (hT : TabOk P T) (hE : BoxOk P E) (hB : CalleeOk P B) : ∀ n, CalleeOk P (runF E T B n) := by
  intro n
  induction n with
  | zero => intro f vals pts res pts' h; simp [runF] at h
  | succ n ih => exact stepF_ok hT hE hB ih n
end
end Go.Proofs.Ytjmfjjmdfikanaa
