/- Values as trees: data as they lie in memory, shared or owned; plain facts, no condition. -/
import Derived.Calls
import Derived.Below
import Derived.Laws.AppendOwnNone
import Derived.Laws.IdiomCopy
import Derived.Laws.MakeOwn
set_option linter.unusedVariables false
set_option linter.unusedSimpArgs false
namespace Go.Proofs.Ytkmbahlpmoljpaa
open Go.RowKit

/-- Index of an element, cells of an element, cells ahead within it. -/
abbrev Hop := Nat × Nat × Nat

structure Place where
  root : Nat
  off : Nat
  hops : List Hop

inductive TV where
  | v (x : Value)
  | sl (c : List (List TV))
  | ow (c : List (List TV))
  | dead
  | ptr (p : Place) (vs : List Nat)
  | ip (cs : List TV)
  | pk (p : Place) (vs : List Nat)
  | pw (p : Place) (vs : List Nat) (sz lo n : Nat)
  | agg (l : List TV)
  | tup (l : List TV)
  | fn (f : FuncId) (cap : List TV)
instance : Inhabited TV := ⟨.dead⟩

def vflat : Value → Bool
  | .bool _ | .int _ _ | .string _ | .pointer none | .nilFunc | .nilIface => true
  | _ => false

theorem vflat_one {x : Value} (h : vflat x = true) : x.oneCell' = true := by
  cases x <;> simp_all [vflat, Value.oneCell']

mutual
/-- What is owned becomes shared. -/
def TV.imm : TV → TV
  | .ow c => .sl (TV.immLL c)
  | .v x => .v x
  | .sl c => .sl c
  | .dead => .dead
  | .ptr p vs => .ptr p vs
  | .ip cs => .ip cs
  | .pk p vs => .pk p vs
  | .pw p vs sz lo n => .pw p vs sz lo n
  | .agg l => .agg (TV.immL l)
  | .tup l => .tup (TV.immL l)
  | .fn f cap => .fn f cap
def TV.immL : List TV → List TV
  | [] => []
  | x :: r => x.imm :: TV.immL r
def TV.immLL : List (List TV) → List (List TV)
  | [] => []
  | x :: r => TV.immL x :: TV.immLL r
end
theorem TV.immL_eq (l : List TV) : TV.immL l = l.map TV.imm := by
  induction l with
  | nil => rfl
  | cons x r ih => simp [TV.immL, ih]
theorem TV.immLL_eq (l : List (List TV)) : TV.immLL l = l.map (fun e => e.map TV.imm) := by
  induction l with
  | nil => rfl
  | cons x r ih => simp [TV.immLL, ih, TV.immL_eq]
theorem TV.imm_ow (c : List (List TV)) : (TV.ow c).imm = .sl (c.map (fun e => e.map TV.imm)) := by
  simp [TV.imm, TV.immLL_eq]

/-- Shared data, within blocks F. -/
inductive ImmR (w : World) (F : Nat → Prop) : TV → Value → Prop
  | v {x : Value} (h : vflat x = true) : ImmR w F (.v x) x
  | dead {x : Value} (h : x.oneCell' = true) : ImmR w F .dead x
  | sl {c : List (List TV)} {a : Option Addr} {cap : Nat} (sz : Nat) (u : Nat → Nat → Value)
      (hsz : ∀ i (h : i < c.length), c[i].length = sz) (hcap : c.length ≤ cap) (hmax : cap ≤ maxLen) (hnil : a = none → cap = 0)
      (hcell : ∀ i j, i < c.length → j < sz → ∃ b o, a = some ⟨b, o, none⟩ ∧ F b ∧ w.cell? ⟨b, o + (i * sz + j), none⟩ = some (u i j))
      (hrec : ∀ i j (h : i < c.length) (h' : j < c[i].length), ImmR w F (c[i][j]) (u i j)) :
      ImmR w F (.sl c) (.slice a c.length cap)

theorem ImmR.one {w : World} {F : Nat → Prop} {t : TV} {x : Value} (h : ImmR w F t x) : x.oneCell' = true := by
  cases h with
  | v h => exact vflat_one h
  | dead h => exact h
  | sl => rfl
theorem ImmR.frame {w w' : World} {F F' : Nat → Prop} {t : TV} {x : Value} (h : ImmR w F t x) (hw : ∀ k, F k → k < w.heap.size → w'.heap[k]? = w.heap[k]?) (hF : ∀ k, F k → k < w.heap.size → F' k) : ImmR w' F' t x := by
  induction h with
  | v h => exact .v h
  | dead h => exact .dead h
  | sl sz u hsz hcap hmax hnil hcell hrec ih =>
    refine .sl sz u hsz hcap hmax hnil (fun i j hi hj => ?_) ih
    obtain ⟨b, o, e, hb, hc⟩ := hcell i j hi hj
    have hlt := World.block_lt_of_cell? w _ hc
    exact ⟨b, o, e, hF b hb hlt, by rw [World.cell?_of_block (w := w) (hw b hb hlt)]; exact hc⟩

/-- Data that are owned: just the blocks fp; what is shared within them lies in F. -/
inductive OwnR (w : World) (F : Nat → Prop) : (Nat → Prop) → TV → Value → Prop
  | v {fp : Nat → Prop} {x : Value} (hfp : ∀ k, ¬ fp k) (h : vflat x = true) : OwnR w F fp (.v x) x
  | dead {fp : Nat → Prop} {x : Value} (hfp : ∀ k, ¬ fp k) (h : x.oneCell' = true) : OwnR w F fp .dead x
  | sl {fp : Nat → Prop} {c : List (List TV)} {x : Value} (hfp : ∀ k, ¬ fp k) (h : ImmR w F (.sl c) x) : OwnR w F fp (.sl c) x
  | nil {fp : Nat → Prop} (hfp : ∀ k, ¬ fp k) : OwnR w F fp (.ow []) (.slice none 0 0)
  | ow {fp : Nat → Prop} {c : List (List TV)} {b cap : Nat} {cur : Array Value} {e : TypeId} (sz : Nat) (u : Nat → Nat → Value) (f : Nat → Nat → Nat → Prop)
      (hfp : ∀ k, fp k ↔ k = b ∨ ∃ i j, i < c.length ∧ j < sz ∧ f i j k)
      (hb : w.heap[b]? = some (.cells cur e (0, 0)))
      (hsz : ∀ i (h : i < c.length), c[i].length = sz) (hcap : c.length ≤ cap) (hz0 : c.length = 0 → cap = 0) (hmax : cap ≤ maxLen) (hcur : cur.size = cap * sz)
      (hcell : ∀ i j, i < c.length → j < sz → cur[i * sz + j]? = some (u i j))
      (hrec : ∀ i j (h : i < c.length) (h' : j < c[i].length), OwnR w F (f i j) (c[i][j]) (u i j))
      (hnb : ∀ i j, ¬ f i j b)
      (hdis : ∀ i j i' j' k, f i j k → f i' j' k → i = i' ∧ j = j') :
      OwnR w F fp (.ow c) (.slice (some ⟨b, 0, none⟩) c.length cap)

theorem OwnR.one {w : World} {F fp : Nat → Prop} {t : TV} {x : Value} (h : OwnR w F fp t x) : x.oneCell' = true := by
  cases h with
  | v _ h => exact vflat_one h
  | dead _ h => exact h
  | sl _ h => exact h.one
  | nil => rfl
  | ow => rfl
theorem OwnR.live {w : World} {F fp : Nat → Prop} {t : TV} {x : Value} (h : OwnR w F fp t x) : ∀ k, fp k → k < w.heap.size := by
  induction h with
  | v hfp => exact fun k hk => (hfp k hk).elim
  | dead hfp => exact fun k hk => (hfp k hk).elim
  | sl hfp => exact fun k hk => (hfp k hk).elim
  | nil hfp => exact fun k hk => (hfp k hk).elim
  | ow sz u f hfp hb hsz hcap hz0 hmax hcur hcell hrec hnb hdis ih =>
    intro k hk
    rcases (hfp k).1 hk with rfl | ⟨i, j, hi, hj, hf⟩
    · rcases Nat.lt_or_ge k w.heap.size with h | h
      · exact h
      · simp [Array.getElem?_eq_none h] at hb
    · exact ih i j hi (by rw [hsz i hi]; exact hj) k hf
theorem OwnR.frame {w w' : World} {F F' fp : Nat → Prop} {t : TV} {x : Value} (h : OwnR w F fp t x) (hp : ∀ k, fp k → w'.heap[k]? = w.heap[k]?)
    (hw : ∀ k, F k → k < w.heap.size → w'.heap[k]? = w.heap[k]?) (hF : ∀ k, F k → k < w.heap.size → F' k) : OwnR w' F' fp t x := by
  induction h with
  | v hfp h => exact .v hfp h
  | dead hfp h => exact .dead hfp h
  | sl hfp h => exact .sl hfp (h.frame hw hF)
  | nil hfp => exact .nil hfp
  | ow sz u f hfp hb hsz hcap hz0 hmax hcur hcell hrec hnb hdis ih =>
    exact .ow sz u f hfp ((hp _ ((hfp _).2 (.inl rfl))).trans hb) hsz hcap hz0 hmax hcur hcell (fun i j hi hj => ih i j hi hj fun k hk => hp k ((hfp k).2 (.inr ⟨i, j, hi, by rw [← hsz i hi]; exact hj, hk⟩))) hnb hdis
/-- The footprint may be told in other words. -/
theorem OwnR.refp {w : World} {F fp fp' : Nat → Prop} {t : TV} {x : Value} (h : OwnR w F fp t x) (he : ∀ k, fp k ↔ fp' k) : OwnR w F fp' t x := by
  have e : fp = fp' := funext fun k => propext (he k)
  exact e ▸ h
/-- All that is owned becomes shared. -/
theorem OwnR.share {w : World} {F fp : Nat → Prop} {t : TV} {x : Value} (h : OwnR w F fp t x) : ImmR w (fun k => F k ∨ fp k) t.imm x ∨ ∃ l, t = .agg l := by
  induction h with
  | v hfp h => exact .inl (.v h)
  | dead hfp h => exact .inl (.dead h)
  | sl hfp h => exact .inl (h.frame (fun _ _ _ => rfl) fun k hk _ => .inl hk)
  | nil hfp => exact .inl (.sl (c := []) 0 (fun _ _ => .nilFunc) (by simp) (by simp) (by simp) (fun _ => rfl) (by simp) (by simp))
  | @ow fp c b cap cur e sz u f hfp hb hsz hcap hz0 hmax hcur hcell hrec hnb hdis ih =>
    refine .inl ?_
    rw [TV.imm_ow]
    have hl : c.length = (c.map fun e => e.map TV.imm).length := by simp
    rw [hl]
    refine .sl sz u (by simpa using hsz) (by simpa using hcap) hmax (by simp) (fun i j hi hj => ⟨b, 0, rfl, .inr ((hfp b).2 (.inl rfl)), ?_⟩) (fun i j hi hj => ?_)
    · have := hcell i j (by simpa using hi) hj
      rw [cell_of_row w b _ _ _ _ hb, Nat.zero_add]; exact this
    · have hi' : i < c.length := by simpa using hi
      have hj' : j < c[i].length := by simpa using hj
      rcases ih i j hi' hj' with h | ⟨l, hl⟩
      · have := h.frame (w' := w) (F' := fun k => F k ∨ fp k) (fun _ _ _ => rfl) (fun k hk _ => by
          rcases hk with hk | hk
          · exact .inl hk
          · exact .inr ((hfp k).2 (.inr ⟨i, j, hi', by rw [← hsz i hi']; exact hj', hk⟩)))
        simpa using this
      · have h3 := hrec i j hi' hj'
        rw [hl] at h3
        cases h3
theorem OwnR.share' {w : World} {F fp : Nat → Prop} {t : TV} {x : Value} (h : OwnR w F fp t x) : ImmR w (fun k => F k ∨ fp k) t.imm x := by
  rcases h.share with h1 | ⟨l, rfl⟩
  · exact h1
  · cases h
theorem ImmR.toOwn {w : World} {F : Nat → Prop} {t : TV} {x : Value} (h : ImmR w F t x) : OwnR w F (fun _ => False) t x := by
  cases h with
  | v h => exact .v (by simp) h
  | dead h => exact .dead (by simp) h
  | sl sz u hsz hcap hmax hnil hcell hrec => exact .sl (by simp) (.sl sz u hsz hcap hmax hnil hcell hrec)
end Go.Proofs.Ytkmbahlpmoljpaa
/- Places within owned data: found, read and written; no condition. -/
set_option linter.unusedVariables false
set_option linter.unusedSimpArgs false
namespace Go.Proofs.Ytkmbahlpmoljpaa
open Go.RowKit

/-- What stands at the end of a way. -/
def getT : TV → List Hop → Option TV
  | t, [] => some t
  | .ow c, (i, sz, o) :: hs =>
    match c[i]? with
    | some el => if el.length = sz then (match el[o]? with | some t => getT t hs | none => none) else none
    | none => none
  | _, _ :: _ => none
def setT : TV → List Hop → TV → TV
  | _, [], t => t
  | .ow c, (i, sz, o) :: hs, t => .ow (c.modify i fun el => el.modify o fun t1 => setT t1 hs t)
  | t0, _ :: _, _ => t0
/-- The element at the end of a way, from the place on. -/
def elemT : TV → List Hop → Option (List TV)
  | _, [] => none
  | .ow c, [(i, sz, o)] =>
    match c[i]? with
    | some el => if el.length = sz then some (el.drop o) else none
    | none => none
  | .ow c, (i, sz, o) :: hs =>
    match c[i]? with
    | some el => if el.length = sz then (match el[o]? with | some t => elemT t hs | none => none) else none
    | none => none
  | _, _ :: _ => none

/-- Where a way leads in memory, from a header on. -/
def addrT (w : World) : Value → List Hop → Option Addr
  | .slice (some a) n _, [(i, sz, o)] => if i < n then some ⟨a.block, a.off + (i * sz + o), none⟩ else none
  | .slice (some a) n _, (i, sz, o) :: h :: hs =>
    if i < n then (match w.cell? ⟨a.block, a.off + (i * sz + o), none⟩ with | some x => addrT w x (h :: hs) | none => none) else none
  | _, _ => none
def hvT (w : World) (x : Value) (hs : List Hop) : Option Value :=
  match hs with
  | [] => some x
  | _ => (addrT w x hs).bind w.cell?

theorem getT_cons {t : TV} {i sz o : Nat} {hs : List Hop} {t1 : TV} (h : getT t ((i, sz, o) :: hs) = some t1) :
    ∃ c el t2, t = .ow c ∧ c[i]? = some el ∧ el.length = sz ∧ el[o]? = some t2 ∧ getT t2 hs = some t1 := by
  cases t with
  | ow c =>
    simp only [getT] at h
    cases hc : c[i]? with
    | none => simp [hc] at h
    | some el =>
      simp only [hc] at h
      split at h
      · rename_i hz
        cases ho : el[o]? with
        | none => simp [ho] at h
        | some t2 => simp only [ho] at h; exact ⟨c, el, t2, rfl, hc, hz, ho, h⟩
      · simp at h
  | _ => simp [getT] at h

theorem hvT_of_addr {w : World} {x : Value} {hs : List Hop} {ad : Addr} {u : Value} (h : addrT w x hs = some ad) (hc : w.cell? ad = some u) : hvT w x hs = some u := by
  cases hs with
  | nil => cases x <;> simp [addrT] at h
  | cons a r => simp [hvT, h, hc]

theorem setCell_block_ne (w : World) (a : Addr) (x : Value) {k : Nat} (h : k ≠ a.block) : (w.setCell a x).heap[k]? = w.heap[k]? := Below.heap_setCell w a x k h
theorem setCell_block (w : World) (b o : Nat) (x : Value) {cur : Array Value} {e : TypeId} {fz : Nat × Nat} (hb : w.heap[b]? = some (.cells cur e fz)) :
    (w.setCell ⟨b, o, none⟩ x).heap[b]? = some (.cells (cur.setIfInBounds o x) e fz) := by
  simp only [World.setCell, Array.getElem?_modify, ↓reduceIte, hb, Option.map_some]
  rfl

theorem idx_inj {sz i j i' j' : Nat} (hj : j < sz) (hj' : j' < sz) (h : i * sz + j = i' * sz + j') : i = i' ∧ j = j' := by
  have h1 : (i * sz + j) / sz = i := by rw [Nat.mul_comm, Nat.mul_add_div (by omega)]; simp [Nat.div_eq_of_lt hj]
  have h2 : (i' * sz + j') / sz = i' := by rw [Nat.mul_comm, Nat.mul_add_div (by omega)]; simp [Nat.div_eq_of_lt hj']
  have h3 : i = i' := by rw [← h1, ← h2, h]
  subst h3
  exact ⟨rfl, by omega⟩

/-- The lens: a place within owned data, and the whole with something else there. -/
theorem lens {hops : List Hop} : ∀ {w : World} {F fp : Nat → Prop} {tv t : TV} {x : Value}, OwnR w F fp tv x → hops ≠ [] → getT tv hops = some t →
    ∃ ad u fp1, addrT w x hops = some ad ∧ ad.spot = none ∧ w.cell? ad = some u ∧ w.frozen? ad = false ∧ OwnR w F fp1 t u ∧ (∀ k, fp1 k → fp k) ∧ fp ad.block ∧ ¬ fp1 ad.block ∧
      ∀ (w' : World) (F' : Nat → Prop) (t' : TV) (u' : Value) (fp1' : Nat → Prop), (∀ k, fp k → ¬ fp1 k → w'.heap[k]? = (w.setCell ad u').heap[k]?) →
        (∀ k, F k → k < w.heap.size → w'.heap[k]? = w.heap[k]?) → (∀ k, F k → k < w.heap.size → F' k) → OwnR w' F' fp1' t' u' → (∀ k, fp1' k → ¬ (fp k ∧ ¬ fp1 k)) →
        OwnR w' F' (fun k => (fp k ∧ ¬ fp1 k) ∨ fp1' k) (setT tv hops t') x := by
  induction hops with
  | nil => intro _ _ _ _ _ _ _ h _; exact absurd rfl h
  | cons hop hs ih =>
    obtain ⟨i, sz', o⟩ := hop
    intro w F fp tv t x hown _ hget0
    obtain ⟨c, el, t2, rfl, hc, hz, ho, hget⟩ := getT_cons hget0
    subst hz
    cases hown with
    | nil hfp => simp at hc
    | @ow _ _ b cap cur e sz u f hfp hb hsz hcap hz0 hmax hcur hcell hrec hnb hdis =>
      obtain ⟨hi, hel⟩ := List.getElem?_eq_some_iff.1 hc
      obtain ⟨ho', ht2⟩ := List.getElem?_eq_some_iff.1 ho
      have hszi : el.length = sz := by rw [← hel]; exact hsz i hi
      have hosz : o < sz := by omega
      have hrio : OwnR w F (f i o) t2 (u i o) := by
        have := hrec i o hi (by rw [hel]; exact ho')
        simpa [hel, ht2] using this
      have hcellio := hcell i o hi hosz
      have hcl : w.cell? ⟨b, 0 + (i * el.length + o), none⟩ = some (u i o) := by rw [cell_of_row w b _ _ _ _ hb, Nat.zero_add, hszi]; exact hcellio
      have hlt : i * sz + o < cur.size := (Array.getElem?_eq_some_iff.1 hcellio).1
      have hfz : w.frozen? ⟨b, 0 + (i * el.length + o), none⟩ = false := frozen_of_row w b _ cur e hb
      have hsub : ∀ k, f i o k → fp k := fun k hk => (hfp k).2 (.inr ⟨i, o, hi, hosz, hk⟩)
      -- the whole with another element in place of (i, o)
      have build : ∀ (w' : World) (F' : Nat → Prop) (t2' : TV) (u2' : Value) (g : Nat → Prop), w'.heap[b]? = some (.cells (cur.setIfInBounds (i * sz + o) u2') e (0, 0)) →
          (∀ k, (∃ i' j', i' < c.length ∧ j' < sz ∧ ¬ (i' = i ∧ j' = o) ∧ f i' j' k) → w'.heap[k]? = w.heap[k]?) →
          (∀ k, F k → k < w.heap.size → w'.heap[k]? = w.heap[k]?) → (∀ k, F k → k < w.heap.size → F' k) → OwnR w' F' g t2' u2' → ¬ g b →
          (∀ k, g k → ∀ i' j', i' < c.length → j' < sz → ¬ (i' = i ∧ j' = o) → ¬ f i' j' k) →
          OwnR w' F' (fun k => (fp k ∧ ¬ f i o k) ∨ g k) (.ow (c.modify i fun el => el.modify o fun _ => t2')) (.slice (some ⟨b, 0, none⟩) c.length cap) := by
        intro w' F' t2' u2' g hb' hrest hF hFF hnew hgb hgd
        have hlen : c.length = (c.modify i fun el => el.modify o fun _ => t2').length := by simp
        have hmod : ∀ (i' j' : Nat) (h : i' < c.length) (h2 : j' < c[i'].length) (h3 : i' < (c.modify i fun el => el.modify o fun _ => t2').length) (h4 : j' < ((c.modify i fun el => el.modify o fun _ => t2')[i']).length),
            ((c.modify i fun el => el.modify o fun _ => t2')[i'])[j'] = if i' = i ∧ j' = o then t2' else c[i'][j'] := by
          intro i' j' h h2 h3 h4
          have e1 : (c.modify i fun el => el.modify o fun _ => t2')[i'] = if i = i' then (c[i']).modify o (fun _ => t2') else c[i'] := by
            rw [List.getElem_modify]
          by_cases hii : i = i'
          · subst hii
            have e2 : (c.modify i fun el => el.modify o fun _ => t2')[i] = (c[i]).modify o (fun _ => t2') := by rw [e1, if_pos rfl]
            simp only [e2, List.getElem_modify]
            by_cases hjj : o = j'
            · subst hjj; simp
            · rw [if_neg hjj, if_neg (by intro h; exact hjj h.2.symm)]
          · have e2 : (c.modify i fun el => el.modify o fun _ => t2')[i'] = c[i'] := by rw [e1, if_neg hii]
            simp only [e2]
            rw [if_neg (by intro h; exact hii h.1.symm)]
        rw [hlen]
        refine .ow sz (fun i' j' => if i' = i ∧ j' = o then u2' else u i' j') (fun i' j' k => if i' = i ∧ j' = o then g k else (i' < c.length ∧ j' < sz ∧ f i' j' k)) ?_ hb' ?_ (by simpa using hcap) (by simpa using hz0) hmax (by simpa using hcur) ?_ ?_ ?_ ?_
        · intro k
          constructor
          · rintro (⟨h1, h2⟩ | h1)
            · rcases (hfp k).1 h1 with rfl | ⟨i', j', h3, h4, h5⟩
              · exact .inl rfl
              · refine .inr ⟨i', j', by simpa using h3, h4, ?_⟩
                by_cases he : i' = i ∧ j' = o
                · obtain ⟨rfl, rfl⟩ := he; exact absurd h5 h2
                · rw [if_neg he]; exact ⟨h3, h4, h5⟩
            · exact .inr ⟨i, o, by simpa using hi, hosz, by rw [if_pos ⟨rfl, rfl⟩]; exact h1⟩
          · rintro (rfl | ⟨i', j', h3, h4, h5⟩)
            · exact .inl ⟨(hfp _).2 (.inl rfl), hnb _ _⟩
            · by_cases he : i' = i ∧ j' = o
              · rw [if_pos he] at h5; exact .inr h5
              · rw [if_neg he] at h5
                refine .inl ⟨(hfp k).2 (.inr ⟨i', j', h5.1, h5.2.1, h5.2.2⟩), fun h6 => he (hdis _ _ _ _ k h5.2.2 h6)⟩
        · intro i' h
          have h' : i' < c.length := by simpa using h
          rw [List.getElem_modify]
          split
          · rw [List.length_modify]; exact hsz i' h'
          · exact hsz i' h'
        · intro i' j' hi' hj'
          have hi'' : i' < c.length := by simpa using hi'
          rw [Array.getElem?_setIfInBounds]
          by_cases he : i' = i ∧ j' = o
          · obtain ⟨rfl, rfl⟩ := he
            simp [hlt]
          · rw [if_neg (fun h => he (by obtain ⟨h1, h2⟩ := idx_inj hosz hj' h; exact ⟨h1.symm, h2.symm⟩))]
            simp only [if_neg he]
            exact hcell i' j' hi'' hj'
        · intro i' j' h h'
          have hi'' : i' < c.length := by simpa using h
          have hj'' : j' < c[i'].length := by
            rw [List.getElem_modify] at h'
            split at h' <;> simpa using h'
          rw [hmod i' j' hi'' hj'' h h']
          by_cases he : i' = i ∧ j' = o
          · simp only [if_pos he]; exact hnew
          · simp only [if_neg he]
            have hj3 : j' < sz := by rw [← hsz i' hi'']; exact hj''
            refine ((hrec i' j' hi'' hj'').frame (fun k hk => hrest k ⟨i', j', hi'', hj3, he, hk⟩) hF hFF).refp fun k => ?_
            simp [hi'', hj3]
        · intro i' j'
          split
          · exact hgb
          · exact fun h => hnb i' j' h.2.2
        · intro i1 j1 i2 j2 k h1 h2
          by_cases e1 : i1 = i ∧ j1 = o
          · by_cases e2 : i2 = i ∧ j2 = o
            · exact ⟨e1.1.trans e2.1.symm, e1.2.trans e2.2.symm⟩
            · rw [if_pos e1] at h1; rw [if_neg e2] at h2
              exact absurd h2.2.2 (hgd k h1 i2 j2 h2.1 h2.2.1 e2)
          · by_cases e2 : i2 = i ∧ j2 = o
            · rw [if_neg e1] at h1; rw [if_pos e2] at h2
              exact absurd h1.2.2 (hgd k h2 i1 j1 h1.1 h1.2.1 e1)
            · rw [if_neg e1] at h1; rw [if_neg e2] at h2
              exact hdis _ _ _ _ k h1.2.2 h2.2.2
      cases hs with
      | nil =>
        simp only [getT, Option.some.injEq] at hget
        subst hget
        refine ⟨⟨b, 0 + (i * el.length + o), none⟩, u i o, f i o, by simp [addrT, hi], rfl, hcl, hfz, hrio, hsub, (hfp b).2 (.inl rfl), hnb i o, ?_⟩
        intro w' F' t' u' fp1' hw hF hFF hnew hd
        simp only [setT]
        have hbb : w'.heap[b]? = some (.cells (cur.setIfInBounds (i * sz + o) u') e (0, 0)) := by
          rw [hw b ((hfp b).2 (.inl rfl)) (hnb i o), Nat.zero_add, hszi]
          exact setCell_block w b _ u' hb
        refine build w' F' t' u' fp1' hbb (fun k ⟨i', j', h1, h2, h3, h4⟩ => ?_) hF hFF hnew (fun h => hd b h ⟨(hfp b).2 (.inl rfl), hnb i o⟩) (fun k hk i' j' h1 h2 h3 h4 => hd k hk ⟨(hfp k).2 (.inr ⟨i', j', h1, h2, h4⟩), fun h => h3 (hdis _ _ _ _ k h4 h)⟩)
        have hkb : k ≠ b := fun e => hnb i' j' (e ▸ h4)
        rw [hw k ((hfp k).2 (.inr ⟨i', j', h1, h2, h4⟩)) (fun h => h3 (hdis _ _ _ _ k h4 h))]
        exact setCell_block_ne w _ u' hkb
      | cons h2 hs2 =>
        obtain ⟨ad, u1, fp1, had, hsp, hcu, hfr, hown1, hsub1, hin, hnin, hrep⟩ := ih hrio (by simp) hget
        refine ⟨ad, u1, fp1, ?_, hsp, hcu, hfr, hown1, fun k hk => hsub k (hsub1 k hk), hsub _ hin, hnin, ?_⟩
        · simp only [addrT, hi, if_true, hcl]; exact had
        · intro w' F' t' u' fp1' hw hF hFF hnew hd
          have hadb : b ≠ ad.block := fun e => hnb i o (e ▸ hin)
          have h3 := hrep w' F' t' u' fp1' (fun k hk hk1 => hw k (hsub k hk) hk1) hF hFF hnew (fun k hk h => hd k hk ⟨hsub k h.1, h.2⟩)
          have hbb : w'.heap[b]? = some (.cells (cur.setIfInBounds (i * sz + o) (u i o)) e (0, 0)) := by
            rw [hw b ((hfp b).2 (.inl rfl)) (fun h => hnb i o (hsub1 b h)), setCell_block_ne w ad u' hadb, hb]
            congr 2
            apply Array.ext_getElem?
            intro j
            rw [Array.getElem?_setIfInBounds]
            by_cases hj : i * sz + o = j
            · subst hj; first | exact hcellio | (rw [if_pos rfl]; first | exact hcellio.symm | (rw [if_pos hlt]; exact hcellio.symm) | (rw [if_pos hlt]; exact hcellio) | simp [hlt, hcellio])
            · rw [if_neg hj]
          have h4 := build w' F' _ _ _ hbb (fun k ⟨i', j', h1, h2, h5, h6⟩ => by
              have hk1 : ¬ fp1 k := fun h => h5 (hdis _ _ _ _ k h6 (hsub1 k h))
              have hka : k ≠ ad.block := fun e => h5 (hdis _ _ _ _ ad.block (e ▸ h6) hin)
              rw [hw k ((hfp k).2 (.inr ⟨i', j', h1, h2, h6⟩)) hk1]
              exact setCell_block_ne w ad u' hka) hF hFF h3
            (fun h => by
              rcases h with h | h
              · exact hnb i o h.1
              · exact hd b h ⟨(hfp b).2 (.inl rfl), fun h => hnb i o (hsub1 b h)⟩)
            (fun k hk i' j' h1 h2 h5 h6 => by
              rcases hk with hk | hk
              · exact h5 (hdis _ _ _ _ k h6 hk.1)
              · exact hd k hk ⟨(hfp k).2 (.inr ⟨i', j', h1, h2, h6⟩), fun h => h5 (hdis _ _ _ _ k h6 (hsub1 k h))⟩)
          have hset : setT (.ow c) ((i, el.length, o) :: h2 :: hs2) t' = .ow (c.modify i fun el => el.modify o fun _ => setT t2 (h2 :: hs2) t') := by
            simp only [setT]
            congr 1
            apply List.ext_getElem?
            intro j
            simp only [List.getElem?_modify]
            by_cases hij : i = j
            · subst hij
              simp only [hc, if_true, Option.map_some]
              refine congrArg some ?_
              apply List.ext_getElem?
              intro l
              simp only [List.getElem?_modify]
              by_cases hol : o = l
              · subst hol; simp [ho]
              · simp [hol]
            · simp [hij]
          rw [hset]
          refine h4.refp fun k => ?_
          constructor
          · rintro (⟨h5, h6⟩ | (⟨h5, h6⟩ | h5))
            · exact .inl ⟨h5, fun h => h6 (hsub1 k h)⟩
            · exact .inl ⟨hsub k h5, h6⟩
            · exact .inr h5
          · rintro (⟨h5, h6⟩ | h5)
            · by_cases h7 : f i o k
              · exact .inr (.inl ⟨h7, h6⟩)
              · exact .inl ⟨h5, h7⟩
            · exact .inr (.inr h5)
end Go.Proofs.Ytkmbahlpmoljpaa
/- Ways through owned data stay what they are; no condition. -/
set_option linter.unusedVariables false
set_option linter.unusedSimpArgs false
namespace Go.Proofs.Ytkmbahlpmoljpaa
open Go.RowKit

theorem OwnR.hdr {w : World} {F fp : Nat → Prop} {c : List (List TV)} {x : Value} (h : OwnR w F fp (.ow c) x) : ∃ a cap, x = .slice a c.length cap ∧ c.length ≤ cap := by
  cases h with
  | nil => exact ⟨_, _, rfl, by simp⟩
  | ow sz u f hfp hb hsz hcap => exact ⟨_, _, rfl, hcap⟩
theorem ImmR.hdr {w : World} {F : Nat → Prop} {c : List (List TV)} {x : Value} (h : ImmR w F (.sl c) x) : ∃ a cap, x = .slice a c.length cap ∧ c.length ≤ cap := by
  cases h with
  | sl sz u hsz hcap => exact ⟨_, _, rfl, hcap⟩

/-- A way through owned data whose blocks are as they were. -/
theorem addrT_frame {hs : List Hop} : ∀ {w w' : World} {F fp : Nat → Prop} {tv t : TV} {x : Value}, OwnR w F fp tv x → getT tv hs = some t → (∀ k, fp k → w'.heap[k]? = w.heap[k]?) → addrT w' x hs = addrT w x hs := by
  induction hs with
  | nil => intro w w' F fp tv t x h _ _; cases x <;> simp [addrT]
  | cons hop hs ih =>
    obtain ⟨i, sz', o⟩ := hop
    intro w w' F fp tv t x hown hget0 hk
    obtain ⟨c, el, t2, rfl, hc, hz, ho, hget⟩ := getT_cons hget0
    subst hz
    cases hown with
    | nil hfp => simp at hc
    | @ow _ _ b cap cur e sz u f hfp hb hsz hcap hz0 hmax hcur hcell hrec hnb hdis =>
      obtain ⟨hi, hel⟩ := List.getElem?_eq_some_iff.1 hc
      obtain ⟨ho', ht2⟩ := List.getElem?_eq_some_iff.1 ho
      have hszi : el.length = sz := by rw [← hel]; exact hsz i hi
      have hosz : o < sz := by omega
      have hrio : OwnR w F (f i o) t2 (u i o) := by
        have := hrec i o hi (by rw [hel]; exact ho')
        simpa [hel, ht2] using this
      have hbw := hk b ((hfp b).2 (.inl rfl))
      have hcl : w.cell? ⟨b, 0 + (i * el.length + o), none⟩ = some (u i o) := by rw [cell_of_row w b _ _ _ _ hb, Nat.zero_add, hszi]; exact hcell i o hi hosz
      have hcl' : w'.cell? ⟨b, 0 + (i * el.length + o), none⟩ = some (u i o) := by rw [World.cell?_of_block (w := w) hbw]; exact hcl
      cases hs with
      | nil => simp [addrT]
      | cons h2 hs2 =>
        simp only [addrT, hi, if_true, hcl, hcl']
        exact ih hrio hget fun k hk' => hk k ((hfp k).2 (.inr ⟨i, o, hi, hosz, hk'⟩))
/-- .. or only a cell without a header has turned. -/
theorem addrT_flat {w : World} {ad : Addr} {u u' : Value} (hc : w.cell? ad = some u) (hu : vflat u = true) (hu' : vflat u' = true) {hs : List Hop} : ∀ {x : Value}, addrT (w.setCell ad u') x hs = addrT w x hs := by
  induction hs with
  | nil => intro x; cases x <;> simp [addrT]
  | cons hop hs ih =>
    obtain ⟨i, sz, o⟩ := hop
    intro x
    cases hs with
    | nil =>
      cases x with
      | slice a n c => cases a <;> simp [addrT]
      | _ => simp [addrT]
    | cons h2 hs2 =>
      cases x with
      | slice a n c =>
        cases a with
        | none => simp [addrT]
        | some a =>
          simp only [addrT]
          split
          · by_cases he : (⟨a.block, a.off + (i * sz + o), none⟩ : Addr) = ad
            · subst he
              rw [World.cell?_setCell_same w _ _ hc, hc]
              have n1 : ∀ y : Value, vflat y = true → ∀ w : World, addrT w y (h2 :: hs2) = none := by
                intro y hy w
                obtain ⟨_, _, _⟩ := h2
                cases y <;> simp [vflat] at hy <;> cases hs2 <;> simp [addrT]
              simp only [n1 u' hu', n1 u hu]
            · rw [World.cell?_setCell_other w ad ⟨a.block, a.off + (i * sz + o), none⟩ u' (fun e => he e.symm)]
              split <;> first | exact ih | rfl
          · rfl
      | _ => simp [addrT]
/-- What was allocated behind it does not matter. -/
theorem addrT_grow {w w' : World} (hk : ∀ k, k < w.heap.size → w'.heap[k]? = w.heap[k]?) {hs : List Hop} : ∀ {x : Value} {ad : Addr}, addrT w x hs = some ad → addrT w' x hs = some ad := by
  induction hs with
  | nil => intro x ad h; cases x <;> simp [addrT] at h
  | cons hop hs ih =>
    obtain ⟨i, sz, o⟩ := hop
    intro x ad h
    cases hs with
    | nil =>
      cases x with
      | slice a n c => cases a <;> first | (simp [addrT] at h; done) | simpa [addrT] using h
      | _ => simp [addrT] at h
    | cons h2 hs2 =>
      cases x with
      | slice a n c =>
        cases a with
        | none => simp [addrT] at h
        | some a =>
          simp only [addrT] at h ⊢
          split at h
          · rename_i hi
            rw [if_pos hi]
            cases hcc : w.cell? ⟨a.block, a.off + (i * sz + o), none⟩ with
            | none => simp [hcc] at h
            | some y =>
              simp only [hcc] at h
              rw [World.cell?_of_block (w := w) (hk _ (World.block_lt_of_cell? w _ hcc)), hcc]
              exact ih h
          · simp at h
      | _ => simp [addrT] at h

theorem map_len_modify (c : List (List TV)) (i o : Nat) (f : TV → TV) : (c.modify i fun el => el.modify o f).map List.length = c.map List.length := by
  apply List.ext_getElem?
  intro j
  simp only [List.getElem?_map, List.getElem?_modify]
  by_cases h : i = j
  · subst h; cases c[i]? <;> simp
  · simp [h]
theorem len_of_map {c c' : List (List TV)} (h : c'.map List.length = c.map List.length) : c'.length = c.length := by
  have := congrArg List.length h
  simpa using this

/-- A shorter way through data that were turned at the end of a longer way. -/
theorem getT_setT_short {qs hs : List Hop} : ∀ {tv t tq t' : TV}, getT tv qs = some tq → getT tv hs = some t → hs.length ≤ qs.length → ∃ t1, getT (setT tv qs t') hs = some t1 ∧ (hs.length < qs.length → ∀ c, t = .ow c → ∃ c', t1 = .ow c' ∧ c'.map List.length = c.map List.length) := by
  induction qs generalizing hs with
  | nil =>
    intro tv t tq t' _ h hl
    have : hs = [] := List.eq_nil_of_length_eq_zero (by simpa using hl)
    subst this
    exact ⟨t', rfl, fun h => absurd h (by simp)⟩
  | cons q qs ih =>
    obtain ⟨i, sz, o⟩ := q
    intro tv t tq t' hq h hl
    obtain ⟨c, el, t2, rfl, hc, hz, ho, hq2⟩ := getT_cons hq
    subst hz
    cases hs with
    | nil => exact ⟨_, rfl, fun _ c' hc' => ⟨_, rfl, by simp only [getT, Option.some.injEq] at h; subst h; injection hc' with hc'; subst hc'; exact map_len_modify _ _ _ _⟩⟩
    | cons p hs =>
      obtain ⟨i', sz', o'⟩ := p
      obtain ⟨c2, el2, t3, e, hc2, hz2, ho2, h2⟩ := getT_cons h
      injection e with e
      subst e
      subst hz2
      simp only [List.length_cons, Nat.add_le_add_iff_right] at hl
      by_cases hii : i = i'
      · subst hii
        rw [hc] at hc2
        obtain rfl := Option.some.inj hc2
        by_cases hoo : o = o'
        · subst hoo
          rw [ho] at ho2
          obtain rfl := Option.some.inj ho2
          obtain ⟨t1, g1, g2⟩ := ih (t' := t') hq2 h2 hl
          refine ⟨t1, ?_, fun hlt => g2 (by simpa using hlt)⟩
          simp [setT, getT, List.getElem?_modify, hc, ho, g1]
        · refine ⟨t, ?_, fun _ c hc => ⟨c, hc, rfl⟩⟩
          simp [setT, getT, List.getElem?_modify, hc, ho2, hoo, h2]
      · refine ⟨t, ?_, fun _ c hc => ⟨c, hc, rfl⟩⟩
        simp [setT, getT, List.getElem?_modify, hc2, hii, ho2, h2]
/-- Any way through data that were turned in a flat cell. -/
theorem getT_setT_flat {qs hs : List Hop} : ∀ {tv t : TV} {y y' : TV}, getT tv qs = some y → (∀ c, y ≠ .ow c) → getT tv hs = some t → ∃ t1, getT (setT tv qs y') hs = some t1 ∧ (∀ c, t = .ow c → ∃ c', t1 = .ow c' ∧ c'.map List.length = c.map List.length) := by
  induction qs generalizing hs with
  | nil =>
    intro tv t y y' h1 hy h
    simp only [getT, Option.some.injEq] at h1
    subst h1
    cases hs with
    | nil => simp only [getT, Option.some.injEq] at h; subst h; exact ⟨y', rfl, fun c hc => absurd hc (hy c)⟩
    | cons p hs =>
      obtain ⟨i, sz, o⟩ := p
      obtain ⟨c, _, _, e, _⟩ := getT_cons h
      exact absurd e (hy c)
  | cons q qs ih =>
    obtain ⟨i, sz, o⟩ := q
    intro tv t y y' hq hy h
    obtain ⟨c, el, t2, rfl, hc, hz, ho, hq2⟩ := getT_cons hq
    subst hz
    cases hs with
    | nil => exact ⟨_, rfl, fun c' hc' => ⟨_, rfl, by simp only [getT, Option.some.injEq] at h; subst h; injection hc' with hc'; subst hc'; exact map_len_modify _ _ _ _⟩⟩
    | cons p hs =>
      obtain ⟨i', sz', o'⟩ := p
      obtain ⟨c2, el2, t3, e, hc2, hz2, ho2, h2⟩ := getT_cons h
      injection e with e
      subst e
      subst hz2
      by_cases hii : i = i'
      · subst hii
        rw [hc] at hc2
        obtain rfl := Option.some.inj hc2
        by_cases hoo : o = o'
        · subst hoo
          rw [ho] at ho2
          obtain rfl := Option.some.inj ho2
          obtain ⟨t1, g1, g2⟩ := ih (y' := y') hq2 hy h2
          exact ⟨t1, by simp [setT, getT, List.getElem?_modify, hc, ho, g1], g2⟩
        · refine ⟨t, ?_, fun c hc => ⟨c, hc, rfl⟩⟩
          simp [setT, getT, List.getElem?_modify, hc, ho2, hoo, h2]
      · refine ⟨t, ?_, fun c hc => ⟨c, hc, rfl⟩⟩
        simp [setT, getT, List.getElem?_modify, hc2, hii, ho2, h2]
theorem getT_setT_same {qs : List Hop} : ∀ {tv t t' : TV}, getT tv qs = some t → getT (setT tv qs t') qs = some t' := by
  induction qs with
  | nil => intro tv t t' _; rfl
  | cons q qs ih =>
    obtain ⟨i, sz, o⟩ := q
    intro tv t t' hq
    obtain ⟨c, el, t2, rfl, hc, hz, ho, hq2⟩ := getT_cons hq
    subst hz
    simp [setT, getT, List.getElem?_modify, hc, ho, ih hq2]
end Go.Proofs.Ytkmbahlpmoljpaa
/- Variables, what they hold, and where it lies; no condition. -/
set_option linter.unusedVariables false
set_option linter.unusedSimpArgs false
namespace Go.Proofs.Ytkmbahlpmoljpaa
open Go.RowKit

abbrev Key := Nat × Nat × Nat
abbrev Cs := Nat → Nat → TV
abbrev Vs := Key → Nat

/-- Where the variables lie, the headers of what lies in no cell, the blocks that each owns. -/
structure Gh where
  β : Nat → Option (Nat × Nat × Nat)
  η : Nat → Nat → Value
  φ : Nat → Nat → Nat → Prop

def Gh.val (G : Gh) (w : World) (r o : Nat) : Value :=
  match G.β r with
  | some (b, o0, _) => (w.cell? ⟨b, o0 + o, none⟩).getD undef
  | none => G.η r o
def Gh.addrB (G : Gh) (w : World) (p : Place) : Option Addr :=
  match p.hops with
  | [] =>
    match G.β p.root with
    | some (b, o0, n) => if p.off < n then some ⟨b, o0 + p.off, none⟩ else none
    | none => none
  | h :: hs => addrT w (G.val w p.root p.off) (h :: hs)
def Gh.addr (G : Gh) (w : World) (p : Place) : Option Addr :=
  match p.hops with
  | [] =>
    match G.β p.root with
    | some (b, o0, _) => some ⟨b, o0 + p.off, none⟩
    | none => none
  | h :: hs => addrT w (G.val w p.root p.off) (h :: hs)
def Gh.hv (G : Gh) (w : World) (p : Place) : Option Value := hvT w (G.val w p.root p.off) p.hops
theorem Gh.addr_of_B {G : Gh} {w : World} {p : Place} {ad : Addr} (h : G.addrB w p = some ad) : G.addr w p = some ad := by
  unfold Gh.addrB at h
  unfold Gh.addr
  cases hp : p.hops with
  | cons a r => rw [hp] at h; exact h
  | nil =>
    rw [hp] at h
    simp only at h ⊢
    cases hb : G.β p.root with
    | none => simp [hb] at h
    | some x =>
      obtain ⟨b, o0, n⟩ := x
      simp only [hb] at h ⊢
      split at h
      · exact h
      · simp at h
theorem Gh.addr_to_B {G : Gh} {w : World} {p : Place} {ad : Addr} (h : G.addr w p = some ad) (hn : p.hops = [] → ∀ b o0 n, G.β p.root = some (b, o0, n) → p.off < n) : G.addrB w p = some ad := by
  unfold Gh.addr at h
  unfold Gh.addrB
  cases hp : p.hops with
  | cons a r => rw [hp] at h; exact h
  | nil =>
    rw [hp] at h
    simp only at h ⊢
    cases hb : G.β p.root with
    | none => simp [hb] at h
    | some x =>
      obtain ⟨b, o0, n⟩ := x
      simp only [hb] at h ⊢
      rw [if_pos (hn hp b o0 n hb)]
      exact h
/-- The blocks that shared data may lie in. -/
def Gh.F (A : Nat → Prop) (G : Gh) (k : Nat) : Prop := A k ∧ (∀ r o, ¬ G.φ r o k) ∧ (∀ r b o n, G.β r = some (b, o, n) → k ≠ b)

structure Core (A : Nat → Prop) (C : Cs) (w : World) (G : Gh) : Prop where
  cell : ∀ r o, (C r o = .dead ∧ ∀ k, ¬ G.φ r o k) ∨ OwnR w (G.F A) (G.φ r o) (C r o) (G.val w r o)
  box : ∀ r b o0 n, G.β r = some (b, o0, n) → ∃ cur e fz, w.heap[b]? = some (.cells cur e fz) ∧ o0 + n ≤ cur.size ∧ ∀ j, j < n → w.frozen? ⟨b, o0 + j, none⟩ = false
  boxc : ∀ r b o0 n, G.β r = some (b, o0, n) → ∀ o, n ≤ o → C r o = .dead
  boxd : ∀ r r' b o n o' n', G.β r = some (b, o, n) → G.β r' = some (b, o', n') → r = r'
  boxf : ∀ r b o n, G.β r = some (b, o, n) → ∀ r' o', ¬ G.φ r' o' b
  dis : ∀ r o r' o' k, G.φ r o k → G.φ r' o' k → r = r' ∧ o = o'
  allow : ∀ r o k, G.φ r o k → A k

theorem Core.own {A : Nat → Prop} {C : Cs} {w : World} {G : Gh} (h : Core A C w G) {r o : Nat} (hd : C r o ≠ .dead) : OwnR w (G.F A) (G.φ r o) (C r o) (G.val w r o) :=
  (h.cell r o).resolve_left fun h => hd h.1
theorem Core.live {A : Nat → Prop} {C : Cs} {w : World} {G : Gh} (h : Core A C w G) {r o k : Nat} (hk : G.φ r o k) : k < w.heap.size := by
  rcases h.cell r o with ⟨_, hn⟩ | h
  · exact absurd hk (hn k)
  · exact h.live k hk
theorem Core.boxlt {A : Nat → Prop} {C : Cs} {w : World} {G : Gh} (h : Core A C w G) {r b o n : Nat} (hb : G.β r = some (b, o, n)) : b < w.heap.size := by
  obtain ⟨cur, e, fz, h1, _⟩ := h.box r b o n hb
  rcases Nat.lt_or_ge b w.heap.size with h | h
  · exact h
  · simp [Array.getElem?_eq_none h] at h1
theorem Core.boxcell {A : Nat → Prop} {C : Cs} {w : World} {G : Gh} (h : Core A C w G) {r b o0 n o : Nat} (hb : G.β r = some (b, o0, n)) (ho : o < n) : w.cell? ⟨b, o0 + o, none⟩ = some (G.val w r o) := by
  obtain ⟨cur, e, fz, h1, h2, _⟩ := h.box r b o0 n hb
  have hlt : o0 + o < cur.size := by omega
  have hc := cell_of_row w b (o0 + o) cur e fz h1
  simp only [Gh.val, hb]
  rw [hc, Array.getElem?_eq_getElem hlt]
  rfl

/-- What a root's value is in a world in which the variable's block is as it was. -/
theorem val_same {G G' : Gh} {w w' : World} {r o : Nat} (hβ : G'.β r = G.β r) (hη : G'.η r o = G.η r o) (hb : ∀ b o n, G.β r = some (b, o, n) → w'.heap[b]? = w.heap[b]?) : G'.val w' r o = G.val w r o := by
  unfold Gh.val
  rw [hβ]
  cases h : G.β r with
  | none => exact hη
  | some x =>
    obtain ⟨b, o0, n⟩ := x
    simp only
    rw [World.cell?_of_block (w := w) (a := ⟨b, o0 + o, none⟩) (hb b o0 n h)]

/-- An address within variables or what they own, and something else put there. -/
theorem Core.set {A : Nat → Prop} {C : Cs} {w : World} {G : Gh} (hC : Core A C w G) (q : Place) {t : TV} {ad : Addr} (hadr : G.addrB w q = some ad) (ht : getT (C q.root q.off) q.hops = some t) :
    ∃ u fp1, ad.spot = none ∧ w.cell? ad = some u ∧ w.frozen? ad = false ∧ G.hv w q = some u ∧ (t = .dead ∨ OwnR w (G.F A) fp1 t u) ∧ (∀ k, fp1 k → G.φ q.root q.off k) ∧ ¬ fp1 ad.block ∧ ((∃ r b o n, G.β r = some (b, o, n) ∧ ad.block = b) ∨ G.φ q.root q.off ad.block) ∧
      ∀ (t' : TV) (u' : Value) (fp1' : Nat → Prop) (C' : Cs) (G' : Gh) (w' : World),
        (∀ k, k < w.heap.size → w'.heap[k]? = (w.setCell ad u').heap[k]?) →
        C' q.root q.off = setT (C q.root q.off) q.hops t' → G'.β = G.β → G'.η = G.η →
        (∀ k, G'.φ q.root q.off k ↔ (G.φ q.root q.off k ∧ ¬ fp1 k) ∨ fp1' k) →
        (∀ r o, ¬ (r = q.root ∧ o = q.off) → (C' r o = C r o ∧ ∀ k, G'.φ r o k ↔ G.φ r o k) ∨ (C' r o = .dead ∧ ∀ k, ¬ G'.φ r o k)) →
        (∀ k, fp1' k → (∃ r o, G.φ r o k) ∨ w.heap.size ≤ k) → (∀ k, fp1' k → A k ∧ (∀ r o, ¬ (r = q.root ∧ o = q.off) → ¬ G'.φ r o k) ∧ ¬ (G.φ q.root q.off k ∧ ¬ fp1 k)) →
        OwnR w' (G'.F A) fp1' t' u' → Core A C' w' G' := by
  obtain ⟨r, o, hs⟩ := q
  -- the address, and the value of the root when the world turns there
  have hcellup : ∀ {b : Nat} {cur : Array Value} {e : TypeId} {fz : Nat × Nat} (w' : World) (x : Value), w.heap[b]? = some (.cells cur e fz) → (∀ k, k < w.heap.size → w'.heap[k]? = (w.setCell ad x).heap[k]?) → ad.spot = none → ∃ cur' : Array Value, w'.heap[b]? = some (.cells cur' e fz) ∧ cur'.size = cur.size := by
    intro b cur e fz w' x hb hw hsp
    have hlt : b < w.heap.size := by
      rcases Nat.lt_or_ge b w.heap.size with h | h
      · exact h
      · simp [Array.getElem?_eq_none h] at hb
    rw [hw b hlt]
    by_cases he : b = ad.block
    · obtain ⟨ab, ao, as⟩ := ad
      simp only at he hsp
      subst he
      subst hsp
      exact ⟨_, setCell_block w b ao x hb, by simp⟩
    · exact ⟨cur, by rw [setCell_block_ne w ad x he, hb], rfl⟩
  have hfzup : ∀ (w' : World) (x : Value) (a : Addr), a.block < w.heap.size → (∀ k, k < w.heap.size → w'.heap[k]? = (w.setCell ad x).heap[k]?) → w'.frozen? a = w.frozen? a := by
    intro w' x a ha hw
    rw [World.frozen?_of_block (hw a.block ha), World.frozen?_setCell]
  have fin : ∀ (u : Value) (fp1 : Nat → Prop) (hsp : ad.spot = none) (hcu : w.cell? ad = some u) (hfp1 : ∀ k, fp1 k → G.φ r o k) (hnb : ¬ fp1 ad.block)
      (hwhere : (∃ r b o n, G.β r = some (b, o, n) ∧ ad.block = b) ∨ G.φ r o ad.block)
      (hroot : ∀ (t' : TV) (u' : Value) (fp1' : Nat → Prop) (G' : Gh) (w' : World), (∀ k, k < w.heap.size → w'.heap[k]? = (w.setCell ad u').heap[k]?) → G'.β = G.β → G'.η = G.η → (∀ k, G.F A k → k < w.heap.size → G'.F A k) →
        (∀ k, G.F A k → k < w.heap.size → w'.heap[k]? = w.heap[k]?) → OwnR w' (G'.F A) fp1' t' u' → (∀ k, fp1' k → ¬ (G.φ r o k ∧ ¬ fp1 k)) →
        (setT (C r o) hs t' = .dead ∧ ∀ k, ¬ ((G.φ r o k ∧ ¬ fp1 k) ∨ fp1' k)) ∨ OwnR w' (G'.F A) (fun k => (G.φ r o k ∧ ¬ fp1 k) ∨ fp1' k) (setT (C r o) hs t') (G'.val w' r o)),
      ∀ (t' : TV) (u' : Value) (fp1' : Nat → Prop) (C' : Cs) (G' : Gh) (w' : World),
        (∀ k, k < w.heap.size → w'.heap[k]? = (w.setCell ad u').heap[k]?) →
        C' r o = setT (C r o) hs t' → G'.β = G.β → G'.η = G.η →
        (∀ k, G'.φ r o k ↔ (G.φ r o k ∧ ¬ fp1 k) ∨ fp1' k) →
        (∀ r' o', ¬ (r' = r ∧ o' = o) → (C' r' o' = C r' o' ∧ ∀ k, G'.φ r' o' k ↔ G.φ r' o' k) ∨ (C' r' o' = .dead ∧ ∀ k, ¬ G'.φ r' o' k)) →
        (∀ k, fp1' k → (∃ r o, G.φ r o k) ∨ w.heap.size ≤ k) → (∀ k, fp1' k → A k ∧ (∀ r' o', ¬ (r' = r ∧ o' = o) → ¬ G'.φ r' o' k) ∧ ¬ (G.φ r o k ∧ ¬ fp1 k)) →
        OwnR w' (G'.F A) fp1' t' u' → Core A C' w' G' := by
    intro u fp1 hsp hcu hfp1 hnb hwhere hroot t' u' fp1' C' G' w' hw hCq hβ hη hφq hoth hnew hal hown
    have hFF : ∀ k, G.F A k → k < w.heap.size → G'.F A k := by
      intro k ⟨h1, h2, h3⟩ hlt
      refine ⟨h1, fun r' o' hk => ?_, fun r' b o' n' hb => h3 r' b o' n' (hβ ▸ hb)⟩
      by_cases he : r' = r ∧ o' = o
      · obtain ⟨rfl, rfl⟩ := he
        rcases (hφq k).1 hk with h | h
        · exact h2 _ _ h.1
        · rcases hnew k h with ⟨r2, o2, h4⟩ | h4
          · exact h2 _ _ h4
          · omega
      · rcases hoth r' o' he with ⟨_, h4⟩ | ⟨_, h4⟩
        · exact h2 _ _ ((h4 k).1 hk)
        · exact h4 k hk
    have hadF : ∀ k, G.F A k → k ≠ ad.block := by
      intro k ⟨_, h2, h3⟩ he
      rcases hwhere with ⟨r', b, o', n', hb, hb'⟩ | hφ
      · exact h3 r' b o' n' hb (he.trans hb')
      · exact h2 _ _ (he ▸ hφ)
    have hFw : ∀ k, G.F A k → k < w.heap.size → w'.heap[k]? = w.heap[k]? := fun k hk hlt => by rw [hw k hlt]; exact setCell_block_ne w ad u' (hadF k hk)
    have hφsame : ∀ r' o', ¬ (r' = r ∧ o' = o) → ∀ k, G.φ r' o' k → w'.heap[k]? = w.heap[k]? := by
      intro r' o' he k hk
      rw [hw k (hC.live hk)]
      refine setCell_block_ne w ad u' fun e => ?_
      rcases hwhere with ⟨r2, b, o2, n2, hb, hb'⟩ | hφ
      · exact hC.boxf r2 b o2 n2 hb r' o' (by rw [← hb', ← e]; exact hk)
      · exact he (hC.dis _ _ _ _ k hk (by rw [e]; exact hφ))
    constructor
    · intro r' o'
      by_cases he : r' = r ∧ o' = o
      · obtain ⟨rfl, rfl⟩ := he
        rw [hCq]
        rcases hroot t' u' fp1' G' w' hw hβ hη hFF hFw hown (fun k hk => (hal k hk).2.2) with ⟨h1, h2⟩ | h1
        · exact .inl ⟨h1, fun k hk => h2 k ((hφq k).1 hk)⟩
        · exact .inr (h1.refp fun k => (hφq k).symm)
      · rcases hoth r' o' he with ⟨h1, h2⟩ | h1
        · rw [h1]
          rcases hC.cell r' o' with ⟨h3, h4⟩ | h3
          · exact .inl ⟨h3, fun k hk => h4 k ((h2 k).1 hk)⟩
          · by_cases hdead : C r' o' = .dead
            · left
              rw [hdead] at h3
              refine ⟨hdead, fun k hk => ?_⟩
              cases h3 with
              | dead hfp _ => exact hfp k ((h2 k).1 hk)
            right
            have hv : G'.val w' r' o' = G.val w r' o' := by
              unfold Gh.val
              rw [hβ, hη]
              cases hbb : G.β r' with
              | none => rfl
              | some x =>
                obtain ⟨b, o0, n⟩ := x
                have hlt : o' < n := by
                  rcases Nat.lt_or_ge o' n with h | h
                  · exact h
                  · exact absurd (hC.boxc r' b o0 n hbb o' h) hdead
                have hne : (⟨b, o0 + o', none⟩ : Addr) ≠ ad := by
                  intro e
                  rcases hwhere with ⟨r2, b2, o2, n2, hb2, hb2'⟩ | hφ
                  · -- the address is a cell of the root r itself
                    exact absurd trivial (by
                      intro _
                      have hr : r2 = r' := hC.boxd r2 r' b o2 n2 o0 n (by rw [hb2, ← hb2', ← e]) hbb
                      subst hr
                      -- then q has no hops and is that cell
                      cases hs with
                      | nil =>
                        simp only [Gh.addrB] at hadr
                        cases hbr : G.β r with
                        | none => simp [hbr] at hadr
                        | some y =>
                          obtain ⟨b3, o3, n3⟩ := y
                          simp only [hbr] at hadr
                          split at hadr
                          · injection hadr with hadr
                            rw [← hadr] at e
                            injection e with e1 e2
                            have hr3 : r2 = r := hC.boxd r2 r b o0 n o3 n3 hbb (by rw [hbr, e1])
                            subst hr3
                            rw [hbb] at hbr
                            injection hbr with hbr
                            injection hbr with h5 h6
                            injection h6 with h6 h7
                            exact he ⟨rfl, by omega⟩
                          · simp at hadr
                      | cons h hs' =>
                        have hd : C r o ≠ .dead := by
                          intro hd
                          have := ht
                          simp only at this
                          rw [hd] at this
                          simp [getT] at this
                        obtain ⟨ad2, u2, fp2, ha2, _, _, _, _, _, hin2, _⟩ := lens (hC.own hd) (by simp) ht
                        have hadr2 : addrT w (G.val w r o) (h :: hs') = some ad := hadr
                        rw [hadr2] at ha2
                        injection ha2 with ha2
                        subst ha2
                        exact hC.boxf r2 b o0 n hbb r o (by rw [← e] at hin2; exact hin2))
                  · exact hC.boxf r' b o0 n hbb r o (by rw [← e] at hφ; exact hφ)
                have hblt : b < w.heap.size := hC.boxlt hbb
                show (w'.cell? ⟨b, o0 + o', none⟩).getD undef = (w.cell? ⟨b, o0 + o', none⟩).getD undef
                rw [show w'.cell? ⟨b, o0 + o', none⟩ = (w.setCell ad u').cell? ⟨b, o0 + o', none⟩ from World.cell?_of_block (w := w.setCell ad u') (hw b hblt)]
                rw [World.cell?_setCell_other w ad ⟨b, o0 + o', none⟩ u' (fun e => hne e.symm)]
            rw [hv]
            exact (h3.frame (hφsame r' o' he) hFw hFF).refp fun k => (h2 k).symm
        · exact .inl h1
    · intro r' b o0 n hb
      obtain ⟨cur, e, fz, h1, h2, h3⟩ := hC.box r' b o0 n (hβ ▸ hb)
      obtain ⟨cur', h4, h5⟩ := hcellup w' u' h1 hw hsp
      exact ⟨cur', e, fz, h4, by omega, fun j hj => by rw [hfzup w' u' _ (hC.boxlt (hβ ▸ hb)) hw]; exact h3 j hj⟩
    · intro r' b o0 n hb o' ho'
      by_cases he : r' = r ∧ o' = o
      · obtain ⟨rfl, rfl⟩ := he
        have hd := hC.boxc r' b o0 n (hβ ▸ hb) o' ho'
        exfalso
        cases hs with
        | nil =>
          simp only [Gh.addrB] at hadr
          rw [← hβ, hb] at hadr
          simp only at hadr
          split at hadr
          · omega
          · simp at hadr
        | cons h hs' =>
          have := ht
          simp only at this
          rw [hd] at this
          simp [getT] at this
      · rcases hoth r' o' he with ⟨h1, _⟩ | ⟨h1, _⟩
        · rw [h1]; exact hC.boxc r' b o0 n (hβ ▸ hb) o' ho'
        · exact h1
    · intro r1 r2 b o1 n1 o2 n2 h1 h2
      exact hC.boxd r1 r2 b o1 n1 o2 n2 (hβ ▸ h1) (hβ ▸ h2)
    · intro r' b o0 n hb r2 o2 hk
      have hb' : G.β r' = some (b, o0, n) := hβ ▸ hb
      by_cases he : r2 = r ∧ o2 = o
      · obtain ⟨rfl, rfl⟩ := he
        rcases (hφq b).1 hk with h | h
        · exact hC.boxf r' b o0 n hb' _ _ h.1
        · rcases hnew b h with ⟨r3, o3, h4⟩ | h4
          · exact hC.boxf r' b o0 n hb' _ _ h4
          · have := hC.boxlt hb'; omega
      · rcases hoth r2 o2 he with ⟨_, h4⟩ | ⟨_, h4⟩
        · exact hC.boxf r' b o0 n hb' _ _ ((h4 b).1 hk)
        · exact h4 b hk
    · intro r1 o1 r2 o2 k h1 h2
      by_cases e1 : r1 = r ∧ o1 = o
      · by_cases e2 : r2 = r ∧ o2 = o
        · exact ⟨e1.1.trans e2.1.symm, e1.2.trans e2.2.symm⟩
        · obtain ⟨rfl, rfl⟩ := e1
          rcases (hφq k).1 h1 with h | h
          · rcases hoth r2 o2 e2 with ⟨_, h4⟩ | ⟨_, h4⟩
            · exact hC.dis _ _ _ _ k h.1 ((h4 k).1 h2)
            · exact absurd h2 (h4 k)
          · exact absurd h2 ((hal k h).2.1 r2 o2 e2)
      · by_cases e2 : r2 = r ∧ o2 = o
        · obtain ⟨rfl, rfl⟩ := e2
          rcases (hφq k).1 h2 with h | h
          · rcases hoth r1 o1 e1 with ⟨_, h4⟩ | ⟨_, h4⟩
            · exact hC.dis _ _ _ _ k ((h4 k).1 h1) h.1
            · exact absurd h1 (h4 k)
          · exact absurd h1 ((hal k h).2.1 r1 o1 e1)
        · rcases hoth r1 o1 e1 with ⟨_, h4⟩ | ⟨_, h4⟩
          · rcases hoth r2 o2 e2 with ⟨_, h5⟩ | ⟨_, h5⟩
            · exact hC.dis _ _ _ _ k ((h4 k).1 h1) ((h5 k).1 h2)
            · exact absurd h2 (h5 k)
          · exact absurd h1 (h4 k)
    · intro r' o' k hk
      by_cases he : r' = r ∧ o' = o
      · obtain ⟨rfl, rfl⟩ := he
        rcases (hφq k).1 hk with h | h
        · exact hC.allow _ _ k h.1
        · exact (hal k h).1
      · rcases hoth r' o' he with ⟨_, h4⟩ | ⟨_, h4⟩
        · exact hC.allow _ _ k ((h4 k).1 hk)
        · exact absurd hk (h4 k)
  cases hs with
  | nil =>
    simp only [Gh.addrB] at hadr
    cases hbr : G.β r with
    | none => simp [hbr] at hadr
    | some y =>
      obtain ⟨b, o0, n⟩ := y
      simp only [hbr] at hadr
      split at hadr
      · rename_i hlt
        injection hadr with hadr
        subst hadr
        have hcu := hC.boxcell hbr hlt
        obtain ⟨cur, e, fz, hb1, hb2, hb3⟩ := hC.box r b o0 n hbr
        simp only [getT, Option.some.injEq] at ht
        subst ht
        refine ⟨G.val w r o, G.φ r o, rfl, hcu, hb3 o hlt, rfl, ?_, fun k h => h, hC.boxf r b o0 n hbr r o, .inl ⟨r, b, o0, n, hbr, rfl⟩, ?_⟩
        · rcases hC.cell r o with ⟨h, _⟩ | h
          · exact .inl h
          · exact .inr h
        · refine fin (G.val w r o) (G.φ r o) rfl hcu (fun k h => h) (hC.boxf r b o0 n hbr r o) (.inl ⟨r, b, o0, n, hbr, rfl⟩) ?_
          intro t' u' fp1' G' w' hw hβ hη hFF hFw hown hd
          have hv : G'.val w' r o = u' := by
            unfold Gh.val
            rw [hβ, hbr]
            simp only
            rw [show w'.cell? ⟨b, o0 + o, none⟩ = (w.setCell ⟨b, o0 + o, none⟩ u').cell? ⟨b, o0 + o, none⟩ from World.cell?_of_block (w := w.setCell ⟨b, o0 + o, none⟩ u') (hw b (hC.boxlt hbr))]
            rw [World.cell?_setCell_same w _ _ hcu]
            rfl
          refine .inr ?_
          rw [hv]
          exact hown.refp fun k => ⟨fun h => .inr h, fun h => h.elim (fun h => absurd h.1 h.2) id⟩
      · simp at hadr
  | cons h hs' =>
    have hd : C r o ≠ .dead := by
      intro hd
      have := ht
      simp only at this
      rw [hd] at this
      simp [getT] at this
    obtain ⟨ad2, u, fp1, ha2, hsp, hcu, hfr, hown1, hsub, hin, hnin, hrep⟩ := lens (hC.own hd) (by simp) ht
    have hadr2 : addrT w (G.val w r o) (h :: hs') = some ad := hadr
    rw [hadr2] at ha2
    injection ha2 with ha2
    subst ha2
    refine ⟨u, fp1, hsp, hcu, hfr, hvT_of_addr hadr2 hcu, .inr hown1, hsub, hnin, .inr hin, ?_⟩
    refine fin u fp1 hsp hcu hsub hnin (.inr hin) ?_
    intro t' u' fp1' G' w' hw hβ hη hFF hFw hown hdd
    have hv : G'.val w' r o = G.val w r o := by
      refine val_same (by rw [hβ]) (by rw [hη]) fun b o0 n hb => ?_
      rw [hw b (hC.boxlt hb)]
      exact setCell_block_ne w ad u' fun e => hC.boxf r b o0 n hb r o (e ▸ hin)
    right
    rw [hv]
    exact hrep w' (G'.F A) t' u' fp1' (fun k hk _ => hw k (hC.live hk)) hFw hFF hown hdd
end Go.Proofs.Ytkmbahlpmoljpaa
/- What is owned is shared, moved, made; no condition. -/
set_option linter.unusedVariables false
set_option linter.unusedSimpArgs false
namespace Go.Proofs.Ytkmbahlpmoljpaa
open Go.RowKit

/-- What lies on a way in all elements becomes shared. -/
def shareT : TV → List Nat → TV
  | t, [] => t.imm
  | .ow c, o :: os => .ow (c.map fun el => el.modify o fun t => shareT t os)
  | t, _ :: _ => t
def hopOffs (hs : List Hop) : List Nat := hs.map fun h => h.2.2

theorem getT_shareT {hs : List Hop} : ∀ {tv t : TV}, getT tv hs = some t → getT (shareT tv (hopOffs hs)) hs = some t.imm := by
  induction hs with
  | nil => intro tv t h; simp only [getT, Option.some.injEq] at h; subst h; rfl
  | cons h hs ih =>
    obtain ⟨i, sz, o⟩ := h
    intro tv t hg
    obtain ⟨c, el, t2, rfl, hc, hz, ho, hg2⟩ := getT_cons hg
    subst hz
    have := ih hg2
    simp only [hopOffs, List.map_cons, shareT, getT, List.getElem?_map, hc, Option.map_some, List.length_modify, if_true, List.getElem?_modify, ho] at this ⊢
    exact this

theorem OwnR.shareAt {os : List Nat} : ∀ {w : World} {F fp : Nat → Prop} {tv : TV} {x : Value}, OwnR w F fp tv x → ∃ fp', (∀ k, fp' k → fp k) ∧ OwnR w (fun k => F k ∨ (fp k ∧ ¬ fp' k)) fp' (shareT tv os) x := by
  induction os with
  | nil =>
    intro w F fp tv x h
    refine ⟨fun _ => False, fun _ h => h.elim, ?_⟩
    have h1 := h.share'.toOwn
    have e : shareT tv [] = tv.imm := by cases tv <;> rfl
    rw [e]
    exact h1.frame (fun _ _ => rfl) (fun _ _ _ => rfl) fun k hk _ => by
      rcases hk with hk | hk
      · exact .inl hk
      · exact .inr ⟨hk, id⟩
  | cons o os ih =>
    intro w F fp tv x h
    cases h with
    | v hfp h => exact ⟨fp, fun _ h => h, by simp only [shareT]; exact .v hfp h⟩
    | dead hfp h => exact ⟨fp, fun _ h => h, by simp only [shareT]; exact .dead hfp h⟩
    | sl hfp h => exact ⟨fp, fun _ h => h, by simp only [shareT]; exact .sl hfp (h.frame (fun _ _ _ => rfl) fun k hk _ => .inl hk)⟩
    | nil hfp => exact ⟨fp, fun _ h => h, by simp only [shareT, List.map_nil]; exact .nil hfp⟩
    | @ow _ c b cap cur e sz u f hfp hb hsz hcap hz0 hmax hcur hcell hrec hnb hdis =>
      have hch : ∀ i, ∃ g : Nat → Prop, (∀ k, g k → f i o k) ∧ ∀ (h : i < c.length) (h' : o < c[i].length), OwnR w (fun k => F k ∨ (f i o k ∧ ¬ g k)) g (shareT c[i][o] os) (u i o) := by
        intro i
        by_cases hi : i < c.length
        · by_cases ho : o < c[i].length
          · obtain ⟨g, h1, h2⟩ := ih (hrec i o hi ho)
            exact ⟨g, h1, fun _ _ => h2⟩
          · exact ⟨f i o, fun _ h => h, fun _ h => absurd h ho⟩
        · exact ⟨f i o, fun _ h => h, fun h => absurd h hi⟩
      let g : Nat → Nat → Prop := fun i => Classical.choose (hch i)
      have hg1 : ∀ i k, g i k → f i o k := fun i => (Classical.choose_spec (hch i)).1
      have hg2 : ∀ i (h : i < c.length) (h' : o < c[i].length), OwnR w (fun k => F k ∨ (f i o k ∧ ¬ g i k)) (g i) (shareT c[i][o] os) (u i o) := fun i => (Classical.choose_spec (hch i)).2
      refine ⟨fun k => k = b ∨ ∃ i j, i < c.length ∧ j < sz ∧ (if j = o then g i k else f i j k), ?_, ?_⟩
      · rintro k (rfl | ⟨i, j, hi, hj, hk⟩)
        · exact (hfp _).2 (.inl rfl)
        · refine (hfp k).2 (.inr ⟨i, j, hi, hj, ?_⟩)
          split at hk
          · rename_i e; subst e; exact hg1 i k hk
          · exact hk
      · simp only [shareT]
        have hlen : c.length = (c.map fun el => el.modify o fun t => shareT t os).length := by simp
        rw [hlen]
        refine .ow sz u (fun i j k => if j = o then g i k else f i j k) (fun k => by simp) hb ?_ (by simpa using hcap) (by simpa using hz0) hmax hcur (fun i j hi hj => hcell i j (by simpa using hi) hj) ?_ ?_ ?_
        · intro i h
          simp only [List.getElem_map, List.length_modify]
          exact hsz i (by simpa using h)
        · intro i j h h'
          have hi : i < c.length := by simpa using h
          have hj : j < c[i].length := by simpa using h'
          have hjs : j < sz := by rw [← hsz i hi]; exact hj
          simp only [List.getElem_map, List.getElem_modify]
          by_cases hjo : o = j
          · subst hjo
            simp only [if_true]
            refine (hg2 i hi hj).frame (fun _ _ => rfl) (fun _ _ _ => rfl) fun k hk _ => ?_
            rcases hk with hk | ⟨hk1, hk2⟩
            · exact .inl hk
            · refine .inr ⟨(hfp k).2 (.inr ⟨i, o, hi, hjs, hk1⟩), ?_⟩
              rintro (rfl | ⟨i', j', hi', hj', hk'⟩)
              · exact hnb _ _ hk1
              · split at hk'
                · rename_i e; subst e
                  have := hdis _ _ _ _ k hk1 (hg1 i' k hk')
                  rw [← this.1] at hk'
                  exact hk2 hk'
                · rename_i e
                  exact e (hdis _ _ _ _ k hk' hk1).2
          · rw [if_neg hjo]
            simp only [if_neg (fun e : j = o => hjo e.symm)]
            exact (hrec i j hi hj).frame (fun _ _ => rfl) (fun _ _ _ => rfl) fun k hk _ => .inl hk
        · intro i j hk
          split at hk
          · exact hnb i o (hg1 i b hk)
          · exact hnb i j hk
        · intro i j i' j' k h1 h2
          have e1 : f i j k := by
            split at h1
            · rename_i e; subst e; exact hg1 i k h1
            · exact h1
          have e2 : f i' j' k := by
            split at h2
            · rename_i e; subst e; exact hg1 i' k h2
            · exact h2
          exact hdis _ _ _ _ k e1 e2

/-- The world grows, no block turns. -/
theorem Core.grow {A : Nat → Prop} {C : Cs} {w w' : World} {G : Gh} (hC : Core A C w G) (hw : ∀ k, k < w.heap.size → w'.heap[k]? = w.heap[k]?) : Core A C w' G ∧ ∀ r o, G.val w' r o = G.val w r o := by
  have hv : ∀ r o, G.val w' r o = G.val w r o := fun r o => val_same rfl rfl fun b o n hb => hw b (hC.boxlt hb)
  refine ⟨⟨fun r o => ?_, fun r b o0 n hb => ?_, hC.boxc, hC.boxd, hC.boxf, hC.dis, hC.allow⟩, hv⟩
  · rcases hC.cell r o with h | h
    · exact .inl h
    · right; rw [hv]
      exact h.frame (fun k hk => hw k (h.live k hk)) (fun k _ hlt => hw k hlt) (fun _ h _ => h)
  · obtain ⟨cur, e, fz, h1, h2, h3⟩ := hC.box r b o0 n hb
    exact ⟨cur, e, fz, by rw [hw b (hC.boxlt hb)]; exact h1, h2, fun j hj => by rw [World.frozen?_of_block (w := w) (hw b (hC.boxlt hb))]; exact h3 j hj⟩

/-- Other words about the same memory: some cells hold something else, in fewer blocks. -/
theorem Core.ghost {A : Nat → Prop} {C C' : Cs} {w : World} {G G' : Gh} (hC : Core A C w G) (hβ : G'.β = G.β)
    (hO : ∀ k, (∃ r o, G'.φ r o k) → ∃ r o, G.φ r o k)
    (hdis : ∀ r o r' o' k, G'.φ r o k → G'.φ r' o' k → r = r' ∧ o = o')
    (hbox : ∀ r b o0 n, G.β r = some (b, o0, n) → ∀ o, n ≤ o → C' r o = .dead)
    (hcell : ∀ r o, (C' r o = C r o ∧ (∀ k, G'.φ r o k ↔ G.φ r o k) ∧ G'.η r o = G.η r o) ∨ (C' r o = .dead ∧ ∀ k, ¬ G'.φ r o k) ∨ OwnR w (G'.F A) (G'.φ r o) (C' r o) (G'.val w r o)) :
    Core A C' w G' ∧ (∀ k, G.F A k → G'.F A k) := by
  have hF : ∀ k, G.F A k → G'.F A k := by
    rintro k ⟨h1, h2, h3⟩
    refine ⟨h1, fun r o h => ?_, fun r b o n hb => h3 r b o n (hβ ▸ hb)⟩
    obtain ⟨r', o', h'⟩ := hO k ⟨r, o, h⟩
    exact h2 r' o' h'
  refine ⟨⟨fun r o => ?_, fun r b o0 n hb => hC.box r b o0 n (hβ ▸ hb), fun r b o0 n hb => hbox r b o0 n (hβ ▸ hb), fun r r' b o n o' n' h h' => hC.boxd r r' b o n o' n' (hβ ▸ h) (hβ ▸ h'),
    fun r b o n hb r' o' hk => ?_, hdis, fun r o k hk => ?_⟩, hF⟩
  · rcases hcell r o with ⟨h1, h2, h3⟩ | h | h
    · rcases hC.cell r o with ⟨h4, h5⟩ | h4
      · exact .inl ⟨h1.trans h4, fun k hk => h5 k ((h2 k).1 hk)⟩
      · right
        rw [h1, val_same (G := G) (w := w) (by rw [hβ]) h3 (fun _ _ _ _ => rfl)]
        exact (h4.frame (fun _ _ => rfl) (fun _ _ _ => rfl) (fun k h _ => hF k h)).refp fun k => (h2 k).symm
    · exact .inl h
    · exact .inr h
  · obtain ⟨r2, o2, h2⟩ := hO b ⟨r', o', hk⟩
    exact hC.boxf r b o n (hβ ▸ hb) r2 o2 h2
  · obtain ⟨r2, o2, h2⟩ := hO k ⟨r, o, hk⟩
    exact hC.allow r2 o2 k h2

def updC (C : Cs) (r o : Nat) (t : TV) : Cs := fun r' o' => if r' = r ∧ o' = o then t else C r' o'

theorem Core.share {A : Nat → Prop} {C : Cs} {w : World} {G : Gh} (hC : Core A C w G) (r o : Nat) (os : List Nat) (hd : C r o ≠ .dead) :
    ∃ G', G'.β = G.β ∧ G'.η = G.η ∧ Core A (updC C r o (shareT (C r o) os)) w G' ∧ (∀ k, G.F A k → G'.F A k) ∧ ∀ r o k, G'.φ r o k → G.φ r o k := by
  obtain ⟨fp', h1, h2⟩ := (hC.own hd).shareAt (os := os)
  let G' : Gh := ⟨G.β, G.η, fun r' o' k => if r' = r ∧ o' = o then fp' k else G.φ r' o' k⟩
  have hsub : ∀ r' o' k, G'.φ r' o' k → G.φ r' o' k := by
    intro r' o' k hk
    dsimp only [G'] at hk
    split at hk
    · rename_i e; rw [e.1, e.2]; exact h1 k hk
    · exact hk
  have hgh := Core.ghost (C' := updC C r o (shareT (C r o) os)) (G' := G') hC rfl (fun k ⟨r', o', h⟩ => ⟨r', o', hsub r' o' k h⟩)
    (fun _ _ _ _ k h h' => hC.dis _ _ _ _ k (hsub _ _ k h) (hsub _ _ k h'))
    (fun r' b o0 n hb o' ho' => by
      unfold updC
      split
      · rename_i e; rw [← e.1, ← e.2] at hd; exact absurd (hC.boxc r' b o0 n hb o' ho') hd
      · exact hC.boxc r' b o0 n hb o' ho')
    (fun r' o' => by
      by_cases e : r' = r ∧ o' = o
      · obtain ⟨rfl, rfl⟩ := e
        refine .inr (.inr ?_)
        simp only [updC, and_self, if_true]
        have hv : G'.val w r' o' = G.val w r' o' := rfl
        rw [hv]
        refine (h2.frame (fun _ _ => rfl) (fun _ _ _ => rfl) ?_).refp fun k => by simp [G']
        rintro k (⟨h3, h4, h5⟩ | ⟨h3, h4⟩) _
        · exact ⟨h3, fun r2 o2 h => h4 r2 o2 (hsub r2 o2 k h), h5⟩
        · refine ⟨hC.allow _ _ k h3, fun r2 o2 h => ?_, fun r2 b o2 n hb hkb => hC.boxf r2 b o2 n hb _ _ (hkb ▸ h3)⟩
          have := hC.dis _ _ _ _ k h3 (hsub r2 o2 k h)
          obtain ⟨rfl, rfl⟩ := this
          exact h4 (by simpa [G'] using h)
      · exact .inl ⟨by simp [updC, e], fun k => by simp [G', e], rfl⟩)
  exact ⟨G', rfl, rfl, hgh.1, hgh.2, hsub⟩

/-- The value at a place that is shared. -/
theorem Core.shareV {A : Nat → Prop} {C : Cs} {w : World} {G : Gh} (hC : Core A C w G) (q : Place) {c : List (List TV)} (ht : getT (C q.root q.off) q.hops = some (.ow c)) :
    ∃ G' u, G'.β = G.β ∧ G'.η = G.η ∧ Core A (updC C q.root q.off (shareT (C q.root q.off) (hopOffs q.hops))) w G' ∧ (∀ k, G.F A k → G'.F A k) ∧ (∀ r o k, G'.φ r o k → G.φ r o k) ∧
      G.hv w q = some u ∧ ImmR w (G'.F A) (TV.ow c).imm u := by
  obtain ⟨r, o, hs⟩ := q
  have hd : C r o ≠ .dead := by
    intro hd
    have := ht
    simp only at this
    rw [hd] at this
    cases hs <;> simp [getT] at this
  obtain ⟨G', hβ, hη, hC', hF, hφ⟩ := hC.share r o (hopOffs hs) hd
  have hg := getT_shareT ht
  have hcs : updC C r o (shareT (C r o) (hopOffs hs)) r o = shareT (C r o) (hopOffs hs) := by simp [updC]
  have hnd : updC C r o (shareT (C r o) (hopOffs hs)) r o ≠ .dead := by
    rw [hcs]
    intro hd2
    have h2 := hg
    simp only at h2
    rw [hd2] at h2
    cases hs <;> simp [getT, TV.imm] at h2
  have hown := hC'.own hnd
  rw [hcs] at hown
  have hv : G'.val w r o = G.val w r o := val_same (by rw [hβ]) (by rw [hη]) fun _ _ _ _ => rfl
  rw [hv] at hown
  have fin : ∀ u fp, OwnR w (G'.F A) fp (TV.ow c).imm u → ImmR w (G'.F A) (TV.ow c).imm u := by
    intro u fp h
    rw [TV.imm_ow] at h ⊢
    cases h with
    | sl _ h => exact h
  cases hs with
  | nil =>
    refine ⟨G', G.val w r o, hβ, hη, hC', hF, hφ, rfl, fin _ (G'.φ r o) ?_⟩
    simp only [getT, Option.some.injEq] at ht
    have e : shareT (C r o) (hopOffs []) = (TV.ow c).imm := by rw [ht]; rfl
    rw [e] at hown
    exact hown
  | cons h hs =>
    obtain ⟨ad, u, fp1, h1, _, h3, _, h5, _⟩ := lens hown (by simp) hg
    exact ⟨G', u, hβ, hη, hC', hF, hφ, hvT_of_addr h1 h3, fin _ _ h5⟩

/-- What is owned at a place moves to a root without cells. -/
theorem Core.move {A : Nat → Prop} {C : Cs} {w : World} {G : Gh} (hC : Core A C w G) (q : Place) {c : List (List TV)} (ht : getT (C q.root q.off) q.hops = some (.ow c)) (h ho : Nat) (hβ : G.β h = none) (hd : C h ho = .dead) :
    ∃ G' u, G'.β = G.β ∧ (∀ r o, ¬ (r = h ∧ o = ho) → G'.η r o = G.η r o) ∧ G'.η h ho = u ∧ G.hv w q = some u ∧
      Core A (updC (updC C q.root q.off (setT (C q.root q.off) q.hops .dead)) h ho (.ow c)) w G' ∧ (∀ k, G.F A k → G'.F A k) := by
  obtain ⟨r, o, hs⟩ := q
  have hne : ¬ (h = r ∧ ho = o) := by
    rintro ⟨rfl, rfl⟩
    have := ht
    simp only at this
    rw [hd] at this
    cases hs <;> simp [getT] at this
  have hdr : C r o ≠ .dead := by
    intro hdr
    have := ht
    simp only at this
    rw [hdr] at this
    cases hs <;> simp [getT] at this
  have hφh : ∀ k, ¬ G.φ h ho k := by
    rcases hC.cell h ho with ⟨_, h2⟩ | h2
    · exact h2
    · rw [hd] at h2
      cases h2 with
      | dead hfp _ => exact hfp
  have main : ∃ u fp1, G.hv w ⟨r, o, hs⟩ = some u ∧ OwnR w (G.F A) fp1 (.ow c) u ∧ (∀ k, fp1 k → G.φ r o k) ∧
      ∀ F', (∀ k, G.F A k → F' k) → ((setT (C r o) hs .dead = .dead ∧ ∀ k, ¬ (G.φ r o k ∧ ¬ fp1 k)) ∨ OwnR w F' (fun k => G.φ r o k ∧ ¬ fp1 k) (setT (C r o) hs .dead) (G.val w r o)) := by
    cases hs with
    | nil =>
      simp only [getT, Option.some.injEq] at ht
      have hown := hC.own hdr
      refine ⟨G.val w r o, G.φ r o, rfl, by rw [ht] at hown; exact hown, fun _ h => h, fun F' _ => .inl ⟨rfl, fun k h => h.2 h.1⟩⟩
    | cons hp hs =>
      obtain ⟨ad, u, fp1, h1, hsp, h3, h4, h5, h6, h7, h8, hrep⟩ := lens (hC.own hdr) (by simp) ht
      refine ⟨u, fp1, hvT_of_addr h1 h3, h5, h6, fun F' hF' => .inr ?_⟩
      have := hrep w F' .dead u (fun _ => False) (fun k _ _ => by
        by_cases hk : k = ad.block
        · obtain ⟨ab, ao, as⟩ := ad
          simp only at hk hsp
          subst hk
          subst hsp
          unfold World.cell? at h3
          cases hb : w.heap[k]? with
          | none => simp [hb] at h3
          | some ob =>
            cases ob with
            | cells cur e fz =>
              simp only [hb] at h3
              rw [setCell_block w k ao u hb]
              congr 2
              apply Array.ext_getElem?
              intro j
              rw [Array.getElem?_setIfInBounds]
              by_cases hj : ao = j
              · subst hj
                rw [if_pos rfl]
                have h3' : cur[ao]? = some u := by simpa using h3
                rw [h3', if_pos (Array.getElem?_eq_some_iff.1 h3').1]
              · rw [if_neg hj]
            | _ => simp [hb] at h3
        · exact (setCell_block_ne w ad u hk).symm) (fun _ _ _ => rfl) (fun k hk _ => hF' k hk) (.dead (fun _ h => h) h5.one) (fun _ h => h.elim)
      exact this.refp fun k => ⟨fun h => h.elim id False.elim, .inl⟩
  obtain ⟨u, fp1, hhv, hown1, hsub, hrest⟩ := main
  let G' : Gh := ⟨G.β, fun r' o' => if r' = h ∧ o' = ho then u else G.η r' o', fun r' o' k => if r' = h ∧ o' = ho then fp1 k else if r' = r ∧ o' = o then G.φ r o k ∧ ¬ fp1 k else G.φ r' o' k⟩
  have hsubG : ∀ r' o' k, G'.φ r' o' k → (r' = h ∧ o' = ho ∧ fp1 k) ∨ (¬ (r' = h ∧ o' = ho) ∧ G.φ r' o' k ∧ (r' = r ∧ o' = o → ¬ fp1 k)) := by
    intro r' o' k hk
    dsimp only [G'] at hk
    split at hk
    · rename_i e; exact .inl ⟨e.1, e.2, hk⟩
    · rename_i e
      split at hk
      · rename_i e2; exact .inr ⟨e, by rw [e2.1, e2.2]; exact hk.1, fun _ => hk.2⟩
      · rename_i e2; exact .inr ⟨e, hk, fun h => absurd h e2⟩
  have hFF : ∀ k, G.F A k → G'.F A k := by
    rintro k ⟨h1, h2, h3⟩
    refine ⟨h1, fun r' o' hk => ?_, h3⟩
    rcases hsubG r' o' k hk with ⟨_, _, h4⟩ | ⟨_, h4, _⟩
    · exact h2 r o (hsub k h4)
    · exact h2 r' o' h4
  have hgh := Core.ghost (C' := updC (updC C r o (setT (C r o) hs .dead)) h ho (.ow c)) (G' := G') hC rfl
    (fun k ⟨r', o', hk⟩ => by
      rcases hsubG r' o' k hk with ⟨_, _, h4⟩ | ⟨_, h4, _⟩
      · exact ⟨r, o, hsub k h4⟩
      · exact ⟨r', o', h4⟩)
    (fun r1 o1 r2 o2 k h1 h2 => by
      rcases hsubG r1 o1 k h1 with ⟨e1, e2, h3⟩ | ⟨e1, h3, h3'⟩
      · rcases hsubG r2 o2 k h2 with ⟨e3, e4, h4⟩ | ⟨e3, h4, h4'⟩
        · exact ⟨e1.trans e3.symm, e2.trans e4.symm⟩
        · have := hC.dis _ _ _ _ k h4 (hsub k h3)
          exact absurd h3 (h4' this)
      · rcases hsubG r2 o2 k h2 with ⟨e3, e4, h4⟩ | ⟨e3, h4, h4'⟩
        · have := hC.dis _ _ _ _ k h3 (hsub k h4)
          exact absurd h4 (h3' this)
        · exact hC.dis _ _ _ _ k h3 h4)
    (fun r' b o0 n hb o' ho' => by
      unfold updC
      split
      · rename_i e; rw [e.1, hβ] at hb; simp at hb
      · split
        · rename_i e; rw [← e.1, ← e.2] at hdr; exact absurd (hC.boxc r' b o0 n hb o' ho') hdr
        · exact hC.boxc r' b o0 n hb o' ho')
    (fun r' o' => by
      by_cases e : r' = h ∧ o' = ho
      · obtain ⟨rfl, rfl⟩ := e
        refine .inr (.inr ?_)
        have hv : G'.val w r' o' = u := by simp [Gh.val, G', hβ]
        rw [hv]
        simp only [updC, and_self, if_true]
        exact (hown1.frame (fun _ _ => rfl) (fun _ _ _ => rfl) fun k hk _ => hFF k hk).refp fun k => by simp [G']
      · by_cases e2 : r' = r ∧ o' = o
        · obtain ⟨rfl, rfl⟩ := e2
          have hc' : updC (updC C r' o' (setT (C r' o') hs .dead)) h ho (.ow c) r' o' = setT (C r' o') hs .dead := by simp [updC, e]
          rw [hc']
          have hphi : ∀ k, G'.φ r' o' k ↔ (G.φ r' o' k ∧ ¬ fp1 k) := fun k => by simp [G', e]
          have hv : G'.val w r' o' = G.val w r' o' := val_same rfl (by simp [G', e]) fun _ _ _ _ => rfl
          rcases hrest (G'.F A) hFF with ⟨h1, h2⟩ | h1
          · exact .inr (.inl ⟨h1, fun k hk => h2 k ((hphi k).1 hk)⟩)
          · exact .inr (.inr (by rw [hv]; exact h1.refp fun k => (hphi k).symm))
        · exact .inl ⟨by simp [updC, e, e2], fun k => by simp [G', e, e2], by simp [G', e]⟩)
  exact ⟨G', u, rfl, fun r' o' e => by simp [G', e], by simp [G'], hhv, hgh.1, hgh.2⟩
end Go.Proofs.Ytkmbahlpmoljpaa
/- Names for places keep their meaning; no condition. -/
set_option linter.unusedVariables false
set_option linter.unusedSimpArgs false
namespace Go.Proofs.Ytkmbahlpmoljpaa
open Go.RowKit

/-- How often what a way passes was made anew. -/
def vers (V : Vs) (r o n : Nat) : List Nat := V (r, 0, 0) :: (List.range n).map fun d => V (r, o, d + 1)

theorem vers_eq_iff {V V' : Vs} {r o n : Nat} : vers V r o n = vers V' r o n ↔ V (r, 0, 0) = V' (r, 0, 0) ∧ ∀ d, d < n → V (r, o, d + 1) = V' (r, o, d + 1) := by
  unfold vers
  simp only [List.cons.injEq, List.map_inj_left, List.mem_range]
theorem vers_squeeze {V0 V V' : Vs} {r o n : Nat} (h0 : ∀ q, V0 q ≤ V q) (h1 : ∀ q, V q ≤ V' q) (h : vers V0 r o n = vers V' r o n) : vers V0 r o n = vers V r o n ∧ vers V' r o n = vers V r o n := by
  rw [vers_eq_iff] at h ⊢
  rw [vers_eq_iff]
  obtain ⟨h2, h3⟩ := h
  refine ⟨⟨?_, fun d hd => ?_⟩, ?_, fun d hd => ?_⟩
  · have := h0 (r, 0, 0); have := h1 (r, 0, 0); omega
  · have := h0 (r, o, d + 1); have := h1 (r, o, d + 1); have := h3 d hd; omega
  · have := h0 (r, 0, 0); have := h1 (r, 0, 0); omega
  · have := h0 (r, o, d + 1); have := h1 (r, o, d + 1); have := h3 d hd; omega
theorem vers_of_le {V V' : Vs} {r o n : Nat} {q : Key} (hq : V q < V' q) (h : vers V' r o n = vers V r o n) : q ≠ (r, 0, 0) ∧ ∀ d, d < n → q ≠ (r, o, d + 1) := by
  rw [vers_eq_iff] at h
  refine ⟨fun e => ?_, fun d hd e => ?_⟩
  · subst e; have := h.1; omega
  · subst e; have := h.2 d hd; omega

def PtrOk (w : World) (C : Cs) (G : Gh) (p : Place) (x : Value) : Prop := p.root ≠ 1 ∧ ∃ ad t, G.addr w p = some ad ∧ x = .pointer (some ad) ∧ getT (C p.root p.off) p.hops = some t
def PkOk (w : World) (C : Cs) (G : Gh) (p : Place) (x : Value) : Prop := p.root ≠ 1 ∧ ∃ c, G.hv w p = some x ∧ getT (C p.root p.off) p.hops = some (.ow c)
def PwOk (w : World) (C : Cs) (G : Gh) (p : Place) (sz lo n : Nat) (x : Value) : Prop :=
  p.root ≠ 1 ∧ ∃ c h, G.hv w p = some h ∧ getT (C p.root p.off) p.hops = some (.ow c) ∧ lo + n ≤ c.length ∧
    ∃ a cap, x = .slice a n cap ∧ n ≤ cap ∧ cap ≤ maxLen ∧ (a = none → cap = 0) ∧ (∀ i (h : i < c.length), c[i].length = sz) ∧ (0 < n → ∃ b len cap', h = .slice (some ⟨b, 0, none⟩) len cap' ∧ a = some ⟨b, lo * sz, none⟩)

/-- What a slot holds. -/
inductive TmR (w : World) (F : Nat → Prop) (V : Vs) (C : Cs) (G : Gh) : TV → Value → Prop
  | v {x : Value} (h : vflat x = true) : TmR w F V C G (.v x) x
  | nil : TmR w F V C G (.ow []) (.slice none 0 0)
  | sl {c : List (List TV)} {x : Value} (h : ImmR w F (.sl c) x) : TmR w F V C G (.sl c) x
  | dead {x : Value} : TmR w F V C G .dead x
  | ptr {p : Place} {vs : List Nat} {x : Value} (V0 : Vs) (h0 : ∀ q, V0 q ≤ V q) (hv : vs = vers V0 p.root p.off p.hops.length)
      (h : vs = vers V p.root p.off p.hops.length → PtrOk w C G p x) : TmR w F V C G (.ptr p vs) x
  | ip {cs : List TV} {b o : Nat} (u : Nat → Value) (hc : ∀ j, j < cs.length → F b ∧ w.cell? ⟨b, o + j, none⟩ = some (u j)) (hr : ∀ j (h : j < cs.length), ImmR w F cs[j] (u j)) :
      TmR w F V C G (.ip cs) (.pointer (some ⟨b, o, none⟩))
  | pk {p : Place} {vs : List Nat} {x : Value} (V0 : Vs) (h0 : ∀ q, V0 q ≤ V q) (hv : vs = vers V0 p.root p.off (p.hops.length + 1))
      (h : vs = vers V p.root p.off (p.hops.length + 1) → PkOk w C G p x) : TmR w F V C G (.pk p vs) x
  | pw {p : Place} {vs : List Nat} {sz lo n : Nat} {x : Value} (V0 : Vs) (h0 : ∀ q, V0 q ≤ V q) (hv : vs = vers V0 p.root p.off (p.hops.length + 1))
      (h : vs = vers V p.root p.off (p.hops.length + 1) → PwOk w C G p sz lo n x) : TmR w F V C G (.pw p vs sz lo n) x
  | agg {l : List TV} {xs : Array Value} (hl : xs.size = l.length) (h : ∀ j (hj : j < l.length), TmR w F V C G l[j] (xs.getD j undef)) : TmR w F V C G (.agg l) (.agg xs)
  | tup {l : List TV} {xs : Array Value} (hl : xs.size = l.length) (h : ∀ j (hj : j < l.length), TmR w F V C G l[j] (xs.getD j undef)) : TmR w F V C G (.tup l) (.tuple xs)
  | fn {f : FuncId} {l : List TV} {xs : Array Value} (hl : xs.size = l.length) (h : ∀ j (hj : j < l.length), TmR w F V C G l[j] (xs.getD j undef)) : TmR w F V C G (.fn f l) (.func (.func f) #[] xs)

/-- Names stay what they are. -/
structure Keeps (w w' : World) (V V' : Vs) (C C' : Cs) (G G' : Gh) : Prop where
  ver : ∀ q, V q ≤ V' q
  ptr : ∀ p ad t, p.root ≠ 1 → vers V' p.root p.off p.hops.length = vers V p.root p.off p.hops.length → G.addr w p = some ad → getT (C p.root p.off) p.hops = some t →
    ∃ t', G'.addr w' p = some ad ∧ getT (C' p.root p.off) p.hops = some t'
  hdr : ∀ p h c, p.root ≠ 1 → vers V' p.root p.off (p.hops.length + 1) = vers V p.root p.off (p.hops.length + 1) → G.hv w p = some h → getT (C p.root p.off) p.hops = some (.ow c) →
    ∃ c', G'.hv w' p = some h ∧ getT (C' p.root p.off) p.hops = some (.ow c') ∧ c'.map List.length = c.map List.length

theorem Keeps.refl (w : World) (V : Vs) (C : Cs) (G : Gh) : Keeps w w V V C C G G := ⟨fun _ => Nat.le_refl _, fun _ _ t _ _ h h' => ⟨t, h, h'⟩, fun _ _ c _ _ h h' => ⟨c, h, h', rfl⟩⟩
theorem Keeps.trans {w w' w'' : World} {V V' V'' : Vs} {C C' C'' : Cs} {G G' G'' : Gh} (a : Keeps w w' V V' C C' G G') (b : Keeps w' w'' V' V'' C' C'' G' G'') : Keeps w w'' V V'' C C'' G G'' := by
  refine ⟨fun q => Nat.le_trans (a.ver q) (b.ver q), fun p ad t hr1 hv h1 h2 => ?_, fun p h c hr1 hv h1 h2 => ?_⟩
  · obtain ⟨e1, e2⟩ := vers_squeeze a.ver b.ver hv.symm
    obtain ⟨t', h3, h4⟩ := a.ptr p ad t hr1 e1.symm h1 h2
    exact b.ptr p ad t' hr1 e2 h3 h4
  · obtain ⟨e1, e2⟩ := vers_squeeze a.ver b.ver hv.symm
    obtain ⟨c', h3, h4, h5⟩ := a.hdr p h c hr1 e1.symm h1 h2
    obtain ⟨c2, h6, h7, h8⟩ := b.hdr p h c' hr1 e2 h3 h4
    exact ⟨c2, h6, h7, h8.trans h5⟩

theorem TmR.keep {w w' : World} {F F' : Nat → Prop} {V V' : Vs} {C C' : Cs} {G G' : Gh} {t : TV} {x : Value} (h : TmR w F V C G t x) (k : Keeps w w' V V' C C' G G')
    (hw : ∀ k, F k → k < w.heap.size → w'.heap[k]? = w.heap[k]?) (hF : ∀ k, F k → k < w.heap.size → F' k) : TmR w' F' V' C' G' t x := by
  induction h with
  | v h => exact .v h
  | nil => exact .nil
  | sl h => exact .sl (h.frame hw hF)
  | dead => exact .dead
  | ptr V0 h0 hv h =>
    refine .ptr V0 (fun q => Nat.le_trans (h0 q) (k.ver q)) hv fun e => ?_
    obtain ⟨e1, e2⟩ := vers_squeeze h0 k.ver (hv.symm.trans e)
    obtain ⟨hr1, ad, t, h1, h2, h3⟩ := h (hv.trans e1)
    obtain ⟨t', h4, h5⟩ := k.ptr _ ad t hr1 e2 h1 h3
    exact ⟨hr1, ad, t', h4, h2, h5⟩
  | ip u hc hr =>
    refine .ip u (fun j hj => ?_) fun j hj => (hr j hj).frame hw hF
    obtain ⟨h1, h2⟩ := hc j hj
    have hlt := World.block_lt_of_cell? w _ h2
    exact ⟨hF _ h1 hlt, by rw [World.cell?_of_block (w := w) (hw _ h1 hlt)]; exact h2⟩
  | pk V0 h0 hv h =>
    refine .pk V0 (fun q => Nat.le_trans (h0 q) (k.ver q)) hv fun e => ?_
    obtain ⟨e1, e2⟩ := vers_squeeze h0 k.ver (hv.symm.trans e)
    obtain ⟨hr1, c, h1, h2⟩ := h (hv.trans e1)
    obtain ⟨c', h4, h5, _⟩ := k.hdr _ _ c hr1 e2 h1 h2
    exact ⟨hr1, c', h4, h5⟩
  | pw V0 h0 hv h =>
    refine .pw V0 (fun q => Nat.le_trans (h0 q) (k.ver q)) hv fun e => ?_
    obtain ⟨e1, e2⟩ := vers_squeeze h0 k.ver (hv.symm.trans e)
    obtain ⟨hr1, c, h, h1, h2, h3, h6⟩ := h (hv.trans e1)
    obtain ⟨c', h4, h5, h7⟩ := k.hdr _ _ c hr1 e2 h1 h2
    obtain ⟨a, cap, q1, q2, q3, q4, q5, q6⟩ := h6
    have hl := len_of_map h7
    refine ⟨hr1, c', h, h4, h5, by omega, a, cap, q1, q2, q3, q4, fun i hi => ?_, q6⟩
    have e3 : (c'.map List.length)[i]? = (c.map List.length)[i]? := by rw [h7]
    have hi' : i < c.length := by omega
    simp only [List.getElem?_map, List.getElem?_eq_getElem hi, List.getElem?_eq_getElem hi', Option.map_some, Option.some.injEq] at e3
    rw [e3]
    exact q5 i hi'
  | agg hl _ ih => exact .agg hl ih
  | tup hl _ ih => exact .tup hl ih
  | fn hl _ ih => exact .fn hl ih

theorem hv_grow {G : Gh} {w w' : World} {p : Place} {h : Value} (hw : ∀ k, k < w.heap.size → w'.heap[k]? = w.heap[k]?) (hval : G.val w' p.root p.off = G.val w p.root p.off) (hh : G.hv w p = some h) : G.hv w' p = some h := by
  unfold Gh.hv at *
  rw [hval]
  cases hp : p.hops with
  | nil => rw [hp] at hh; exact hh
  | cons a r =>
    rw [hp] at hh
    simp only [hvT] at hh ⊢
    cases ha : addrT w (G.val w p.root p.off) (a :: r) with
    | none => simp [ha] at hh
    | some ad =>
      rw [addrT_grow hw ha]
      simp only [ha, Option.bind_some] at hh ⊢
      rw [World.cell?_of_block (w := w) (hw _ (World.block_lt_of_cell? w _ hh))]
      exact hh
theorem addr_grow {G G' : Gh} {w w' : World} {p : Place} {ad : Addr} (hw : ∀ k, k < w.heap.size → w'.heap[k]? = w.heap[k]?) (hβ : G'.β p.root = G.β p.root) (hval : G'.val w' p.root p.off = G.val w p.root p.off) (hh : G.addr w p = some ad) : G'.addr w' p = some ad := by
  unfold Gh.addr at *
  cases hp : p.hops with
  | nil => rw [hp] at hh; simp only at hh ⊢; rw [hβ]; exact hh
  | cons a r =>
    rw [hp] at hh
    simp only at hh ⊢
    rw [hval]
    exact addrT_grow hw hh
theorem hv_grow' {G G' : Gh} {w w' : World} {p : Place} {h : Value} (hw : ∀ k, k < w.heap.size → w'.heap[k]? = w.heap[k]?) (hval : G'.val w' p.root p.off = G.val w p.root p.off) (hh : G.hv w p = some h) : G'.hv w' p = some h := by
  unfold Gh.hv at *
  rw [hval]
  cases hp : p.hops with
  | nil => rw [hp] at hh; exact hh
  | cons a r =>
    rw [hp] at hh
    simp only [hvT] at hh ⊢
    cases ha : addrT w (G.val w p.root p.off) (a :: r) with
    | none => simp [ha] at hh
    | some ad =>
      rw [addrT_grow hw ha]
      simp only [ha, Option.bind_some] at hh ⊢
      rw [World.cell?_of_block (w := w) (hw _ (World.block_lt_of_cell? w _ hh))]
      exact hh

/-- The world grows; one root is made anew. -/
theorem Keeps.root {w w' : World} {V V' : Vs} {C C' : Cs} {G G' : Gh} {A : Nat → Prop} (hC : Core A C w G) (r : Nat) (hw : ∀ k, k < w.heap.size → w'.heap[k]? = w.heap[k]?)
    (hV : ∀ q, V q ≤ V' q) (hr : V (r, 0, 0) < V' (r, 0, 0)) (hCs : ∀ r' o, r' ≠ r → r' ≠ 1 → C' r' o = C r' o) (hβ : ∀ r', r' ≠ r → r' ≠ 1 → G'.β r' = G.β r') (hη : ∀ r' o, r' ≠ r → r' ≠ 1 → G'.η r' o = G.η r' o) : Keeps w w' V V' C C' G G' := by
  have hval : ∀ r' o, r' ≠ r → r' ≠ 1 → G'.val w' r' o = G.val w r' o := fun r' o hne h1 => val_same (hβ r' hne h1) (hη r' o hne h1) fun b o n hb => hw b (hC.boxlt hb)
  refine ⟨hV, fun p ad t hr1 hv h1 h2 => ?_, fun p h c hr1 hv h1 h2 => ?_⟩
  · have hne : p.root ≠ r := fun e => (vers_of_le hr hv).1 (by rw [e])
    exact ⟨t, addr_grow hw (hβ _ hne hr1) (hval _ _ hne hr1) h1, by rw [hCs _ _ hne hr1]; exact h2⟩
  · have hne : p.root ≠ r := fun e => (vers_of_le hr hv).1 (by rw [e])
    exact ⟨c, hv_grow' hw (hval _ _ hne hr1) h1, by rw [hCs _ _ hne hr1]; exact h2, rfl⟩
/-- The world grows. -/
theorem Keeps.grow {w w' : World} {V : Vs} {C : Cs} {G : Gh} {A : Nat → Prop} (hC : Core A C w G) (hw : ∀ k, k < w.heap.size → w'.heap[k]? = w.heap[k]?) : Keeps w w' V V C C G G := by
  have hval := (hC.grow hw).2
  exact ⟨fun _ => Nat.le_refl _, fun p ad t _ _ h1 h2 => ⟨t, addr_grow hw rfl (hval _ _) h1, h2⟩, fun p h c _ _ h1 h2 => ⟨c, hv_grow' hw (hval _ _) h1, h2, rfl⟩⟩

theorem getT_shareT_short {os : List Nat} : ∀ {hs : List Hop} {tv t : TV}, getT tv hs = some t → hs.length ≤ os.length → ∃ t1, getT (shareT tv os) hs = some t1 ∧ (hs.length < os.length → ∀ c, t = .ow c → ∃ c', t1 = .ow c' ∧ c'.map List.length = c.map List.length) := by
  induction os with
  | nil =>
    intro hs tv t _ hl
    have : hs = [] := List.eq_nil_of_length_eq_zero (by simpa using hl)
    subst this
    exact ⟨_, rfl, fun h => absurd h (by simp)⟩
  | cons o os ih =>
    intro hs tv t h hl
    cases hs with
    | nil =>
      simp only [getT, Option.some.injEq] at h
      subst h
      exact ⟨_, rfl, fun _ c hc => by subst hc; exact ⟨_, rfl, by simp [Function.comp_def]⟩⟩
    | cons p hs =>
      obtain ⟨i, sz, o'⟩ := p
      obtain ⟨c, el, t2, rfl, hc, hz, ho, hq2⟩ := getT_cons h
      subst hz
      simp only [List.length_cons, Nat.add_le_add_iff_right] at hl
      by_cases hoo : o = o'
      · subst hoo
        obtain ⟨t1, h1, h2⟩ := ih hq2 hl
        refine ⟨t1, ?_, fun hlt => h2 (by simpa using hlt)⟩
        simp [shareT, getT, List.getElem?_modify, hc, ho, h1]
      · refine ⟨t, ?_, fun _ c hc => ⟨c, hc, rfl⟩⟩
        simp [shareT, getT, List.getElem?_modify, hc, ho, hoo, hq2]

/-- Other words about one root's cell, from a depth on. -/
theorem Keeps.ghost {w : World} {V V' : Vs} {C C' : Cs} {G G' : Gh} (r o d : Nat) (hV : ∀ q, V q ≤ V' q) (hr : V (r, o, d + 1) < V' (r, o, d + 1)) (hβ : G'.β = G.β)
    (hη : ∀ r' o', r' ≠ 1 → C r' o' ≠ .dead → G'.η r' o' = G.η r' o')
    (hCs : ∀ r' o', ¬ (r' = r ∧ o' = o) → r' ≠ 1 → C' r' o' = C r' o')
    (hq : ∀ hs t, getT (C r o) hs = some t → hs.length ≤ d → ∃ t1, getT (C' r o) hs = some t1 ∧ (hs.length < d → ∀ c, t = .ow c → ∃ c', t1 = .ow c' ∧ c'.map List.length = c.map List.length)) : Keeps w w V V' C C' G G' := by
  have hval : ∀ r' o', r' ≠ 1 → C r' o' ≠ .dead → G'.val w r' o' = G.val w r' o' := fun r' o' h1 hd => val_same (by rw [hβ]) (hη r' o' h1 hd) fun _ _ _ _ => rfl
  refine ⟨hV, fun p ad t hr1 hv h1 h2 => ?_, fun p h c hr1 hv h1 h2 => ?_⟩
  · have hno := (vers_of_le hr hv).2
    have ha : G'.addr w p = some ad := by
      cases hp : p.hops with
      | nil => unfold Gh.addr at h1 ⊢; rw [hp] at h1 ⊢; rw [hβ]; exact h1
      | cons a l =>
        have hd : C p.root p.off ≠ .dead := fun hd => by rw [hd, hp] at h2; simp [getT] at h2
        exact addr_grow (fun _ _ => rfl) (by rw [hβ]) (hval _ _ hr1 hd) h1
    by_cases he : p.root = r ∧ p.off = o
    · have hl : p.hops.length ≤ d := by
        rcases Nat.lt_or_ge d p.hops.length with h | h
        · exact absurd (show ((r, o, d + 1) : Key) = (p.root, p.off, d + 1) by rw [he.1, he.2]) (hno d h)
        · exact h
      rw [he.1, he.2] at h2
      obtain ⟨t1, h3, _⟩ := hq _ _ h2 hl
      exact ⟨t1, ha, by rw [he.1, he.2]; exact h3⟩
    · exact ⟨t, ha, by rw [hCs _ _ he hr1]; exact h2⟩
  · have hno := (vers_of_le hr hv).2
    have hd : C p.root p.off ≠ .dead := fun hd => by rw [hd] at h2; cases hp : p.hops <;> rw [hp] at h2 <;> simp [getT] at h2
    have hh := hv_grow' (G' := G') (fun _ _ => rfl) (hval _ _ hr1 hd) h1
    by_cases he : p.root = r ∧ p.off = o
    · have hl : p.hops.length < d := by
        rcases Nat.lt_or_ge d (p.hops.length + 1) with h | h
        · exact absurd (show ((r, o, d + 1) : Key) = (p.root, p.off, d + 1) by rw [he.1, he.2]) (hno d h)
        · exact h
      rw [he.1, he.2] at h2
      obtain ⟨t1, h3, h4⟩ := hq _ _ h2 (Nat.le_of_lt hl)
      obtain ⟨c', rfl, h6⟩ := h4 hl c rfl
      exact ⟨c', hh, by rw [he.1, he.2]; exact h3, h6⟩
    · exact ⟨c, hh, by rw [hCs _ _ he hr1]; exact h2, rfl⟩
end Go.Proofs.Ytkmbahlpmoljpaa
