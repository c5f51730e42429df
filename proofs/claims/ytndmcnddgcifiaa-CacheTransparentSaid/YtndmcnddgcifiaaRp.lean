/- How plain data lie in memory: as they can be read in a set of blocks, and as a call owns what it has made; no condition. -/
import Derived.Test.YtndmcnddgcifiaaVals
import Derived.Laws.AppendOwnNone
set_option linter.unusedVariables false
set_option linter.unusedSimpArgs false
namespace Go.Proofs.Ytndmcnddgcifiaa
open Go.RowKit

/-- A way in which data of a type lie in cells: read within blocks F; owned with just the blocks fp. -/
structure Rp (α : Type) where
  size : Nat
  rep : World → (Nat → Prop) → α → List Value → Prop
  own : World → List Nat → α → List Value → Prop
  pos : 0 < size
  len : ∀ {w F a cs}, rep w F a cs → cs.length = size
  one : ∀ {w F a cs}, rep w F a cs → ∀ v ∈ cs, v.oneCell' = true
  keep : ∀ {w w' F a cs}, rep w F a cs → Agree F w w' → rep w' F a cs
  sub : ∀ {w F G a cs}, rep w F a cs → (∀ k, F k → G k) → rep w G a cs
  live : ∀ {w F a cs}, rep w F a cs → rep w (fun k => F k ∧ k < w.heap.size) a cs
  okeep : ∀ {w w' fp a cs}, own w fp a cs → (∀ k, k ∈ fp → w'.heap[k]? = w.heap[k]?) → own w' fp a cs
  olive : ∀ {w fp a cs}, own w fp a cs → ∀ k, k ∈ fp → k < w.heap.size
  reads : ∀ {w fp a cs}, own w fp a cs → rep w (fun k => k ∈ fp) a cs

def rInt (k : IntKind) : Rp Int where
  size := 1
  rep _ _ a cs := cs = [.int k a] ∧ (Lit.int k a).wf = true
  own _ fp a cs := fp = [] ∧ cs = [.int k a] ∧ (Lit.int k a).wf = true
  pos := by decide
  len := fun h => by rw [h.1]; rfl
  one := fun h => by rw [h.1]; simp [Value.oneCell']
  keep := fun h _ => h
  sub := fun h _ => h
  live := fun h => h
  okeep := fun h _ => h
  olive := fun h k hk => by rw [h.1] at hk; simp at hk
  reads := fun h => h.2
def rBool : Rp Bool where
  size := 1
  rep _ _ a cs := cs = [.bool a]
  own _ fp a cs := fp = [] ∧ cs = [.bool a]
  pos := by decide
  len := fun h => by rw [h]; rfl
  one := fun h => by rw [h]; simp [Value.oneCell']
  keep := fun h _ => h
  sub := fun h _ => h
  live := fun h => h
  okeep := fun h _ => h
  olive := fun h k hk => by rw [h.1] at hk; simp at hk
  reads := fun h => h.2
def rPair {α β : Type} (R : Rp α) (S : Rp β) : Rp (α × β) where
  size := R.size + S.size
  rep w F p cs := ∃ c d, cs = c ++ d ∧ R.rep w F p.1 c ∧ S.rep w F p.2 d
  own w fp p cs := ∃ c d f g, cs = c ++ d ∧ fp = f ++ g ∧ R.own w f p.1 c ∧ S.own w g p.2 d
  pos := by have := R.pos; omega
  len := fun ⟨c, d, e, h1, h2⟩ => by rw [e, List.length_append, R.len h1, S.len h2]
  one := fun ⟨c, d, e, h1, h2⟩ v hv => by
    rw [e, List.mem_append] at hv
    rcases hv with hv | hv
    · exact R.one h1 v hv
    · exact S.one h2 v hv
  keep := fun ⟨c, d, e, h1, h2⟩ ha => ⟨c, d, e, R.keep h1 ha, S.keep h2 ha⟩
  sub := fun ⟨c, d, e, h1, h2⟩ hs => ⟨c, d, e, R.sub h1 hs, S.sub h2 hs⟩
  live := fun ⟨c, d, e, h1, h2⟩ => ⟨c, d, e, R.live h1, S.live h2⟩
  okeep := fun ⟨c, d, f, g, e, e', h1, h2⟩ hk => ⟨c, d, f, g, e, e', R.okeep h1 fun k h => hk k (by rw [e']; exact List.mem_append_left _ h), S.okeep h2 fun k h => hk k (by rw [e']; exact List.mem_append_right _ h)⟩
  olive := fun ⟨c, d, f, g, e, e', h1, h2⟩ k hk => by
    rw [e', List.mem_append] at hk
    rcases hk with hk | hk
    · exact R.olive h1 k hk
    · exact S.olive h2 k hk
  reads := fun ⟨c, d, f, g, e, e', h1, h2⟩ => ⟨c, d, e, R.sub (R.reads h1) fun k h => by rw [e']; exact List.mem_append_left _ h, S.sub (S.reads h2) fun k h => by rw [e']; exact List.mem_append_right _ h⟩
def rMap {α β : Type} (f : β → α) (R : Rp α) : Rp β where
  size := R.size
  rep w F b cs := R.rep w F (f b) cs
  own w fp b cs := R.own w fp (f b) cs
  pos := R.pos
  len := R.len
  one := R.one
  keep := R.keep
  sub := R.sub
  live := R.live
  okeep := R.okeep
  olive := R.olive
  reads := R.reads

section
variable {α : Type} (R : Rp α)
/-- Data one behind the other. -/
def Reps (w : World) (F : Nat → Prop) : List α → List Value → Prop
  | [], cs => cs = []
  | x :: r, cs => ∃ c d, cs = c ++ d ∧ R.rep w F x c ∧ Reps w F r d
def Owns (w : World) : List Nat → List α → List Value → Prop
  | fp, [], cs => cs = [] ∧ fp = []
  | fp, x :: r, cs => ∃ c d f g, cs = c ++ d ∧ fp = f ++ g ∧ R.own w f x c ∧ Owns w g r d
variable {R}
theorem Reps.len {w : World} {F : Nat → Prop} : ∀ {xs : List α} {cs : List Value}, Reps R w F xs cs → cs.length = xs.length * R.size
  | [], _, h => by rw [show _ = [] from h]; simp
  | x :: r, _, ⟨c, d, e, h1, h2⟩ => by rw [e, List.length_append, R.len h1, Reps.len h2, List.length_cons, Nat.succ_mul, Nat.add_comm]
theorem Reps.one {w : World} {F : Nat → Prop} : ∀ {xs : List α} {cs : List Value}, Reps R w F xs cs → ∀ v ∈ cs, v.oneCell' = true
  | [], _, h, v, hv => by rw [show _ = [] from h] at hv; simp at hv
  | x :: r, _, ⟨c, d, e, h1, h2⟩, v, hv => by
    rw [e, List.mem_append] at hv
    rcases hv with hv | hv
    · exact R.one h1 v hv
    · exact Reps.one h2 v hv
theorem Reps.keep {w w' : World} {F : Nat → Prop} (ha : Agree F w w') : ∀ {xs : List α} {cs : List Value}, Reps R w F xs cs → Reps R w' F xs cs
  | [], _, h => h
  | x :: r, _, ⟨c, d, e, h1, h2⟩ => ⟨c, d, e, R.keep h1 ha, Reps.keep ha h2⟩
theorem Reps.sub {w : World} {F G : Nat → Prop} (hs : ∀ k, F k → G k) : ∀ {xs : List α} {cs : List Value}, Reps R w F xs cs → Reps R w G xs cs
  | [], _, h => h
  | x :: r, _, ⟨c, d, e, h1, h2⟩ => ⟨c, d, e, R.sub h1 hs, Reps.sub hs h2⟩
theorem Reps.live {w : World} {F : Nat → Prop} : ∀ {xs : List α} {cs : List Value}, Reps R w F xs cs → Reps R w (fun k => F k ∧ k < w.heap.size) xs cs
  | [], _, h => h
  | x :: r, _, ⟨c, d, e, h1, h2⟩ => ⟨c, d, e, R.live h1, Reps.live h2⟩
theorem Reps.append {w : World} {F : Nat → Prop} : ∀ {xs ys : List α} {cs ds : List Value}, Reps R w F xs cs → Reps R w F ys ds → Reps R w F (xs ++ ys) (cs ++ ds)
  | [], _, _, _, h, h' => by rw [show _ = [] from h]; simpa using h'
  | x :: r, _, _, ds, ⟨c, d, e, h1, h2⟩, h' => ⟨c, d ++ ds, by rw [e, List.append_assoc], h1, Reps.append h2 h'⟩
theorem Reps.single {w : World} {F : Nat → Prop} {x : α} {c : List Value} (h : R.rep w F x c) : Reps R w F [x] c := ⟨c, [], by simp, h, rfl⟩
theorem Reps.at_ {w : World} {F : Nat → Prop} : ∀ {xs : List α} {cs : List Value}, Reps R w F xs cs → ∀ {k : Nat} (hk : k < xs.length), ∃ c, R.rep w F xs[k] c ∧ ∀ (j : Nat) u, c[j]? = some u → cs[k * R.size + j]? = some u
  | x :: r, _, ⟨c, d, e, h1, h2⟩, 0, _ => ⟨c, h1, fun j u hj => by
      have hlt : j < c.length := (List.getElem?_eq_some_iff.1 hj).1
      rw [e, Nat.zero_mul, Nat.zero_add, List.getElem?_append_left hlt]; exact hj⟩
  | x :: r, _, ⟨c, d, e, h1, h2⟩, k + 1, hk => by
    obtain ⟨c', h3, h4⟩ := Reps.at_ h2 (k := k) (by simpa using hk)
    refine ⟨c', h3, fun j u hj => ?_⟩
    rw [e, List.getElem?_append_right (by rw [R.len h1, Nat.succ_mul]; omega), R.len h1, show (k + 1) * R.size + j - R.size = k * R.size + j by rw [Nat.succ_mul]; omega]
    exact h4 j u hj
theorem Reps.take {w : World} {F : Nat → Prop} : ∀ {xs : List α} {cs : List Value}, Reps R w F xs cs → ∀ (n : Nat), Reps R w F (xs.take n) (cs.take (n * R.size))
  | [], _, h, n => by rw [show _ = [] from h]; simp [Reps]
  | x :: r, _, _, 0 => by simp [Reps]
  | x :: r, _, ⟨c, d, e, h1, h2⟩, n + 1 => by
    refine ⟨c, d.take (n * R.size), ?_, h1, Reps.take h2 n⟩
    rw [e, List.take_append, List.take_of_length_le (by rw [R.len h1, Nat.succ_mul]; omega), R.len h1, show (n + 1) * R.size - R.size = n * R.size by rw [Nat.succ_mul]; omega]
theorem Reps.drop {w : World} {F : Nat → Prop} : ∀ {xs : List α} {cs : List Value}, Reps R w F xs cs → ∀ (n : Nat), Reps R w F (xs.drop n) (cs.drop (n * R.size))
  | [], _, h, n => by rw [show _ = [] from h]; simp [Reps]
  | x :: r, _, h, 0 => by simpa using h
  | x :: r, _, ⟨c, d, e, h1, h2⟩, n + 1 => by
    have e0 : c.drop ((n + 1) * R.size) = [] := List.drop_of_length_le (by rw [R.len h1, Nat.succ_mul]; omega)
    rw [e, List.drop_append, e0, R.len h1, show (n + 1) * R.size - R.size = n * R.size by rw [Nat.succ_mul]; omega]
    simpa using Reps.drop h2 n
theorem Owns.keep {w w' : World} : ∀ {xs : List α} {fp : List Nat} {cs : List Value}, Owns R w fp xs cs → (∀ k, k ∈ fp → w'.heap[k]? = w.heap[k]?) → Owns R w' fp xs cs
  | [], _, _, h, _ => h
  | x :: r, _, _, ⟨c, d, f, g, e, e', h1, h2⟩, hk => ⟨c, d, f, g, e, e', R.okeep h1 fun k h => hk k (by rw [e']; exact List.mem_append_left _ h), Owns.keep h2 fun k h => hk k (by rw [e']; exact List.mem_append_right _ h)⟩
theorem Owns.live {w : World} : ∀ {xs : List α} {fp : List Nat} {cs : List Value}, Owns R w fp xs cs → ∀ k, k ∈ fp → k < w.heap.size
  | [], _, _, h, k, hk => by rw [h.2] at hk; simp at hk
  | x :: r, _, _, ⟨c, d, f, g, e, e', h1, h2⟩, k, hk => by
    rw [e', List.mem_append] at hk
    rcases hk with hk | hk
    · exact R.olive h1 k hk
    · exact Owns.live h2 k hk
theorem Owns.reads {w : World} : ∀ {xs : List α} {fp : List Nat} {cs : List Value}, Owns R w fp xs cs → Reps R w (fun k => k ∈ fp) xs cs
  | [], _, _, h => h.1
  | x :: r, _, _, ⟨c, d, f, g, e, e', h1, h2⟩ => ⟨c, d, e, R.sub (R.reads h1) fun k h => by rw [e']; exact List.mem_append_left _ h, Reps.sub (fun k h => by rw [e']; exact List.mem_append_right _ h) (Owns.reads h2)⟩
theorem Owns.append {w : World} : ∀ {xs ys : List α} {fp gp : List Nat} {cs ds : List Value}, Owns R w fp xs cs → Owns R w gp ys ds → Owns R w (fp ++ gp) (xs ++ ys) (cs ++ ds)
  | [], _, _, _, _, _, h, h' => by obtain ⟨rfl, rfl⟩ := h; simpa using h'
  | x :: r, _, _, gp, _, ds, ⟨c, d, f, g, e, e', h1, h2⟩, h' => ⟨c, d ++ ds, f, g ++ gp, by rw [e, List.append_assoc], by rw [e', List.append_assoc], h1, Owns.append h2 h'⟩
theorem Owns.single {w : World} {fp : List Nat} {x : α} {c : List Value} (h : R.own w fp x c) : Owns R w fp [x] c := ⟨c, [], fp, [], by simp, by simp, h, rfl, rfl⟩
theorem Owns.len {w : World} {xs : List α} {fp : List Nat} {cs : List Value} (h : Owns R w fp xs cs) : cs.length = xs.length * R.size := (Owns.reads h).len
/-- One of owned data, for itself. -/
theorem Owns.split {w : World} : ∀ {xs : List α} {fp : List Nat} {cs : List Value}, Owns R w fp xs cs → ∀ {k : Nat} (hk : k < xs.length),
    ∃ f1 f f2 c1 c c2, fp = f1 ++ f ++ f2 ∧ cs = c1 ++ c ++ c2 ∧ c1.length = k * R.size ∧ Owns R w f1 (xs.take k) c1 ∧ R.own w f xs[k] c ∧ Owns R w f2 (xs.drop (k + 1)) c2
  | x :: r, _, _, ⟨c, d, f, g, e, e', h1, h2⟩, 0, _ => ⟨[], f, g, [], c, d, by simpa using e', by simpa using e, by simp, ⟨rfl, rfl⟩, h1, h2⟩
  | x :: r, _, _, ⟨c, d, f, g, e, e', h1, h2⟩, k + 1, hk => by
    obtain ⟨f1, f', f2, c1, c', c2, e1, e2, e3, h3, h4, h5⟩ := Owns.split h2 (k := k) (by simpa using hk)
    exact ⟨f ++ f1, f', f2, c ++ c1, c', c2, by rw [e', e1]; simp, by rw [e, e2]; simp, by rw [List.length_append, e3, R.len (R.reads h1), Nat.succ_mul, Nat.add_comm], ⟨c, c1, f, f1, rfl, rfl, h1, h3⟩, h4, h5⟩
theorem Owns.join {w : World} {xs : List α} {k : Nat} (hk : k < xs.length) {f1 f f2 : List Nat} {c1 c c2 : List Value} {y : α} (h1 : Owns R w f1 (xs.take k) c1) (h : R.own w f y c) (h2 : Owns R w f2 (xs.drop (k + 1)) c2) :
    Owns R w (f1 ++ f ++ f2) (xs.set k y) (c1 ++ c ++ c2) := by
  rw [List.set_eq_take_append_cons_drop, if_pos hk, List.append_assoc, List.append_assoc]
  exact Owns.append h1 ⟨c, c2, f, f2, rfl, rfl, h, h2⟩

variable (R)
/-- A list that can be read. -/
def RSl (w : World) (F : Nat → Prop) (xs : List α) (v : Value) : Prop :=
  ∃ A c cs, v = .slice A xs.length c ∧ xs.length ≤ c ∧ c ≤ 9223372036854775807 ∧ xs.length ≤ 1099511627776 ∧ (A = none → c = 0) ∧ Row w F A cs ∧ Reps R w F xs cs
/-- A list in a block of its own (nil where it is empty and was never made), with all that it has. -/
def OSl (e : TypeId) (w : World) (fp : List Nat) (xs : List α) (v : Value) : Prop :=
  xs.length ≤ 1099511627776 ∧ ((v = .slice none 0 0 ∧ xs = [] ∧ fp = []) ∨
   ∃ q c cs g, v = .slice (some ⟨q, 0, none⟩) xs.length c ∧ fp = q :: g ∧ xs.length ≤ c ∧ c ≤ 9223372036854775807 ∧ VBuf e w q (c * R.size) cs ∧ Owns R w g xs cs)
variable {R}
theorem RSl.keep {w w' : World} {F : Nat → Prop} {xs : List α} {v : Value} (h : RSl R w F xs v) (ha : Agree F w w') : RSl R w' F xs v :=
  let ⟨A, c, cs, e, h1, h2, h3, h4, h5, h6⟩ := h; ⟨A, c, cs, e, h1, h2, h3, h4, h5.keep ha, h6.keep ha⟩
theorem RSl.sub {w : World} {F G : Nat → Prop} {xs : List α} {v : Value} (h : RSl R w F xs v) (hs : ∀ k, F k → G k) : RSl R w G xs v :=
  let ⟨A, c, cs, e, h1, h2, h3, h4, h5, h6⟩ := h; ⟨A, c, cs, e, h1, h2, h3, h4, h5.sub hs, h6.sub hs⟩
theorem RSl.live {w : World} {F : Nat → Prop} {xs : List α} {v : Value} (h : RSl R w F xs v) : RSl R w (fun k => F k ∧ k < w.heap.size) xs v :=
  let ⟨A, c, cs, e, h1, h2, h3, h4, h5, h6⟩ := h; ⟨A, c, cs, e, h1, h2, h3, h4, fun i hi => by
    obtain ⟨b, off, e, hF, hc⟩ := h5 i hi
    exact ⟨b, off, e, ⟨hF, World.block_lt_of_cell? w _ hc⟩, hc⟩, h6.live⟩
theorem VBuf.row' {e : TypeId} {w : World} {q n : Nat} {vs : List Value} (h : VBuf e w q n vs) : Row w (fun k => k = q) (some ⟨q, 0, none⟩) vs := by
  intro i hi
  exact ⟨q, 0, rfl, rfl, by rw [Nat.zero_add, h.cell hi]⟩
theorem OSl.keep {e : TypeId} {w w' : World} {fp : List Nat} {xs : List α} {v : Value} (h : OSl R e w fp xs v) (hk : ∀ k, k ∈ fp → w'.heap[k]? = w.heap[k]?) : OSl R e w' fp xs v := by
  obtain ⟨hb, h | ⟨q, c, cs, g, e1, e2, h1, h2, h3, h4⟩⟩ := h
  · exact ⟨hb, .inl h⟩
  · exact ⟨hb, .inr ⟨q, c, cs, g, e1, e2, h1, h2, h3.keep (hk q (by rw [e2]; simp)), h4.keep fun k h => hk k (by rw [e2]; simp [h])⟩⟩
theorem OSl.live {e : TypeId} {w : World} {fp : List Nat} {xs : List α} {v : Value} (h : OSl R e w fp xs v) : ∀ k, k ∈ fp → k < w.heap.size := by
  obtain ⟨hb, ⟨_, _, rfl⟩ | ⟨q, c, cs, g, e1, rfl, h1, h2, h3, h4⟩⟩ := h
  · simp
  · intro k hk
    rcases List.mem_cons.1 hk with rfl | hk
    · exact h3.hi
    · exact h4.live k hk
theorem OSl.reads {e : TypeId} {w : World} {fp : List Nat} {xs : List α} {v : Value} (h : OSl R e w fp xs v) : RSl R w (fun k => k ∈ fp) xs v := by
  obtain ⟨hb, ⟨rfl, rfl, rfl⟩ | ⟨q, c, cs, g, rfl, rfl, h1, h2, h3, h4⟩⟩ := h
  · exact ⟨none, 0, [], rfl, Nat.le_refl _, by omega, hb, fun _ => rfl, Row.nil _ _ _, rfl⟩
  · exact ⟨_, c, cs, rfl, h1, h2, hb, fun h => by simp at h, h3.row'.sub fun k hk => by simp [hk], h4.reads.sub fun k hk => by simp [hk]⟩
end
def rList {α : Type} (e : TypeId) (R : Rp α) : Rp (List α) where
  size := 1
  rep w F xs cs := ∃ v, cs = [v] ∧ RSl R w F xs v
  own w fp xs cs := ∃ v, cs = [v] ∧ OSl R e w fp xs v
  pos := by decide
  len := fun ⟨v, e, _⟩ => by rw [e]; rfl
  one := fun ⟨v, e, A, c, cs, e2, _⟩ => by rw [e, e2]; simp [Value.oneCell']
  keep := fun ⟨v, e, h⟩ ha => ⟨v, e, h.keep ha⟩
  sub := fun ⟨v, e, h⟩ hs => ⟨v, e, h.sub hs⟩
  live := fun ⟨v, e, h⟩ => ⟨v, e, h.live⟩
  okeep := fun ⟨v, e, h⟩ hk => ⟨v, e, h.keep hk⟩
  olive := fun ⟨v, e, h⟩ => h.live
  reads := fun ⟨v, e, h⟩ => ⟨v, e, h.reads⟩

section
variable {α : Type} {R : Rp α}
/-- Blocks that are read by whoever reads blocks F in worlds that grow: old ones of F, and all that are new. -/
def Opens (F : Nat → Prop) (w : World) : Prop := ∀ k, w.heap.size ≤ k → F k
theorem Opens.grow {F : Nat → Prop} {w w' : World} (h : Opens F w) (hg : w.heap.size ≤ w'.heap.size) : Opens F w' := fun k hk => h k (Nat.le_trans hg hk)
theorem RSl.grow {w w' : World} {F : Nat → Prop} {xs : List α} {v : Value} (h : RSl R w F xs v) (hg : w.grownBy w' none) : RSl R w' F xs v :=
  (h.live.keep (w' := w') fun k hk => hg.block k hk.2 (by simp)).sub fun k hk => hk.1
theorem Rp.grow (R : Rp α) {w w' : World} {F : Nat → Prop} {x : α} {cs : List Value} (h : R.rep w F x cs) (hg : w.grownBy w' none) : R.rep w' F x cs :=
  R.sub (R.keep (R.live h) (w' := w') fun k hk => hg.block k hk.2 (by simp)) fun k hk => hk.1
theorem Rp.growx (R : Rp α) {w w' : World} {F : Nat → Prop} {x : α} {cs : List Value} {g : Nat} (h : R.rep w F x cs) (hF : ¬ F g) (hg : w.grownBy w' (some g)) : R.rep w' F x cs :=
  R.sub (R.keep (R.live h) (w' := w') fun k hk => hg.block k hk.2 (by intro e; injection e with e; exact hF (e ▸ hk.1))) fun k hk => hk.1
theorem Owns.grow {w w' : World} {fp : List Nat} {xs : List α} {cs : List Value} (h : Owns R w fp xs cs) (hg : w.grownBy w' none) : Owns R w' fp xs cs := h.keep fun k hk => hg.block k (h.live k hk) (by simp)
theorem Reps.grow {w w' : World} {F : Nat → Prop} {xs : List α} {cs : List Value} (h : Reps R w F xs cs) (hg : w.grownBy w' none) : Reps R w' F xs cs :=
  (Reps.keep (w' := w') (fun k hk => hg.block k hk.2 (by simp)) h.live).sub fun k hk => hk.1
theorem OSl.grow {e : TypeId} {w w' : World} {fp : List Nat} {xs : List α} {v : Value} (h : OSl R e w fp xs v) (hg : w.grownBy w' none) : OSl R e w' fp xs v := h.keep fun k hk => hg.block k (h.live k hk) (by simp)
theorem RSl.nil (w : World) (F : Nat → Prop) : RSl R w F [] (.slice none 0 0) := ⟨none, 0, [], rfl, Nat.le_refl _, by omega, by simp, fun _ => rfl, Row.nil _ _ _, rfl⟩
/-- The cells of element k. -/
theorem RSl.at_ {w : World} {F : Nat → Prop} {xs : List α} {v : Value} (h : RSl R w F xs v) {k : Nat} (hk : k < xs.length) :
    ∃ b off c cs, v = .slice (some ⟨b, off, none⟩) xs.length c ∧ xs.length ≤ c ∧ c ≤ 9223372036854775807 ∧ F b ∧ R.rep w F xs[k] cs ∧ ∀ (j : Nat) u, cs[j]? = some u → w.cell? ⟨b, off + (k * R.size + j), none⟩ = some u := by
  obtain ⟨A, c, cs, rfl, h1, h2, h3, h4, h5, h6⟩ := h
  obtain ⟨d, hd, hj⟩ := h6.at_ hk
  have hdl := R.len hd
  have hp := R.pos
  have h0 : d[0]? = some d[0] := List.getElem?_eq_getElem (by omega)
  have h7 := hj 0 _ h0
  obtain ⟨h8, _⟩ := List.getElem?_eq_some_iff.1 h7
  obtain ⟨b, off, rfl, hF, _⟩ := h5 _ h8
  refine ⟨b, off, c, d, rfl, h1, h2, hF, hd, fun j u hu => ?_⟩
  obtain ⟨h9, h10⟩ := List.getElem?_eq_some_iff.1 (hj j u hu)
  obtain ⟨b', off', e, _, hc⟩ := h5 _ h9
  injection e with e; injection e with e1 e2; subst e1; subst e2
  rw [hc, h10]
theorem RSl.size_eq {w : World} {F : Nat → Prop} {xs : List α} {v : Value} (h : RSl R w F xs v) :
    ∃ A c, v = .slice A xs.length c ∧ xs.length ≤ c ∧ c ≤ 9223372036854775807 ∧ xs.length ≤ 1099511627776 :=
  let ⟨A, c, _, e, h1, h2, h3, _⟩ := h; ⟨A, c, e, h1, h2, h3⟩
/-- The cells of a list that is not empty, as the append law wants them. -/
theorem RSl.cells {w : World} {F : Nat → Prop} {xs : List α} {v : Value} (h : RSl R w F xs v) :
    (xs = [] ∧ ∃ A c, v = .slice A 0 c ∧ (A = none → c = 0)) ∨ ∃ ad c cs, v = .slice (some ad) xs.length c ∧ cs.length = xs.length * R.size ∧ (∀ (j : Nat) u, cs[j]? = some u → w.cell? (ad.add j) = some u) ∧ Reps R w F xs cs := by
  obtain ⟨A, c, cs, rfl, h1, h2, h3, h4, h5, h6⟩ := h
  by_cases hx : xs = []
  · subst hx; exact .inl ⟨rfl, A, c, rfl, h4⟩
  · refine .inr ?_
    have hl := h6.len
    have hp : 0 < xs.length * R.size := Nat.mul_pos (List.length_pos_iff.2 hx) R.pos
    obtain ⟨b, off, rfl, _, _⟩ := h5 0 (by omega)
    refine ⟨_, c, cs, rfl, hl, fun j u hu => ?_, h6⟩
    obtain ⟨h9, h10⟩ := List.getElem?_eq_some_iff.1 hu
    obtain ⟨b', off', e, _, hc⟩ := h5 _ h9
    injection e with e; injection e with e1 e2; subst e1; subst e2
    rw [show (⟨b, off, none⟩ : Addr).add j = ⟨b, off + j, none⟩ by simp [Addr.add], hc, h10]

/-- A list under the call's hands: its row is in one block, what it has lies in others. -/
def Mk (R : Rp α) (e : TypeId) (base : Nat) (w : World) (G : Nat → Prop) (v : Value) (xs : List α) : Prop :=
  ∃ cs, w.ownsRow base e R.size v xs.length cs ∧ xs.length ≤ 1099511627776 ∧ Reps R w (fun k => G k ∧ some k ≠ v.ownBlock) xs cs
def MkO (R : Rp α) (e : TypeId) (base : Nat) (w : World) (fp : List Nat) (v : Value) (xs : List α) : Prop :=
  ∃ cs, w.ownsRow base e R.size v xs.length cs ∧ xs.length ≤ 1099511627776 ∧ Owns R w fp xs cs ∧ fp.Nodup ∧ ∀ k, k ∈ fp → base ≤ k ∧ some k ≠ v.ownBlock
theorem Mk.nil (R : Rp α) (e : TypeId) (base : Nat) (w : World) (G : Nat → Prop) : Mk R e base w G (.slice none 0 0) [] := ⟨[], World.ownsRow_nil _ _ _ _, by simp, rfl⟩
theorem MkO.nil (R : Rp α) (e : TypeId) (base : Nat) (w : World) : MkO R e base w [] (.slice none 0 0) [] := ⟨[], World.ownsRow_nil _ _ _ _, by simp, ⟨rfl, rfl⟩, List.nodup_nil, by simp⟩
theorem Mk.grow {e : TypeId} {base : Nat} {w w' : World} {G : Nat → Prop} {v : Value} {xs : List α} (h : Mk R e base w G v xs) (hg : w.grownBy w' none) : Mk R e base w' G v xs := by
  obtain ⟨cs, h1, h2, h3⟩ := h
  refine ⟨cs, h1.kept hg ?_, h2, (Reps.keep (w' := w') (fun k hk => hg.block k hk.2 (by simp)) h3.live).sub fun k hk => hk.1⟩
  cases hv : v.ownBlock
  · exact .inl rfl
  · exact .inr (by simp)
theorem MkO.grow {e : TypeId} {base : Nat} {w w' : World} {fp : List Nat} {v : Value} {xs : List α} (h : MkO R e base w fp v xs) (hg : w.grownBy w' none) : MkO R e base w' fp v xs := by
  obtain ⟨cs, h1, h2, h3, h4, h5⟩ := h
  refine ⟨cs, h1.kept hg ?_, h2, h3.keep fun k hk => hg.block k (h3.live k hk) (by simp), h4, h5⟩
  cases hv : v.ownBlock
  · exact .inl rfl
  · exact .inr (by simp)
/-- The list as it is handed back. -/
theorem Mk.done {e : TypeId} {base : Nat} {w : World} {F G : Nat → Prop} {v : Value} {xs : List α} (h : Mk R e base w G v xs) (hF : ∀ k, base ≤ k → F k) (hG : ∀ k, G k → F k) : RSl R w F xs v := by
  obtain ⟨cs, h1, h2, h3⟩ := h
  have hlt := h1.lt
  have hc := @World.ownsRow.cells w base e R.size v xs.length cs h1
  rcases h1.2 with ⟨rfl, hn⟩ | ⟨g, cap, cur, rfl, hb, hgg, hcap, hmax, hsz, htake⟩
  · have hx : xs = [] := List.eq_nil_of_length_eq_zero hn
    subst hx
    exact RSl.nil _ _
  · refine ⟨_, cap, cs, rfl, hcap, by simpa [maxLen] using hmax, h2, by simp, fun i hi => ⟨g, 0, rfl, hF g hb, ?_⟩, h3.sub fun k hk => hG k hk.1⟩
    have := hc rfl i _ (List.getElem?_eq_getElem hi)
    rw [show (⟨g, 0 + i, none⟩ : Addr) = (⟨g, 0, none⟩ : Addr).add i from by unfold Addr.add; split <;> simp_all]
    exact this
theorem MkO.done {e : TypeId} {base : Nat} {w : World} {fp : List Nat} {v : Value} {xs : List α} (h : MkO R e base w fp v xs) :
    ∃ gp, OSl R e w gp xs v ∧ gp.Nodup ∧ ∀ k, k ∈ gp → base ≤ k := by
  obtain ⟨cs, h1, h2, h3, h4, h5⟩ := h
  rcases h1.2 with ⟨rfl, hn⟩ | ⟨g, cap, cur, rfl, hb, hgg, hcap, hmax, hsz, htake⟩
  · have hx : xs = [] := List.eq_nil_of_length_eq_zero hn
    subst hx
    exact ⟨[], ⟨h2, .inl ⟨rfl, rfl, rfl⟩⟩, List.nodup_nil, by simp⟩
  · refine ⟨g :: fp, ⟨h2, .inr ⟨g, cap, cs, fp, rfl, rfl, hcap, by simpa [maxLen] using hmax, ⟨cur, hgg, hsz, by rw [h1.1]; exact htake⟩, h3⟩⟩, ?_, ?_⟩
    · refine List.nodup_cons.2 ⟨fun hm => (h5 g hm).2 rfl, h4⟩
    · intro k hk
      rcases List.mem_cons.1 hk with rfl | hk
      · exact hb
      · exact (h5 k hk).1
/-- .. and which blocks these are. -/
theorem MkO.done' {e : TypeId} {base : Nat} {w : World} {fp : List Nat} {v : Value} {xs : List α} (h : MkO R e base w fp v xs) :
    ∃ gp, OSl R e w gp xs v ∧ gp.Nodup ∧ ∀ k, k ∈ gp → base ≤ k ∧ (k ∈ fp ∨ ∃ cur, w.heap[k]? = some (.cells cur e (0, 0))) := by
  obtain ⟨cs, h1, h2, h3, h4, h5⟩ := h
  rcases h1.2 with ⟨rfl, hn⟩ | ⟨g, cap, cur, rfl, hb, hgg, hcap, hmax, hsz, htake⟩
  · have hx : xs = [] := List.eq_nil_of_length_eq_zero hn
    subst hx
    exact ⟨[], ⟨h2, .inl ⟨rfl, rfl, rfl⟩⟩, List.nodup_nil, by simp⟩
  · refine ⟨g :: fp, ⟨h2, .inr ⟨g, cap, cs, fp, rfl, rfl, hcap, by simpa [maxLen] using hmax, ⟨cur, hgg, hsz, by rw [h1.1]; exact htake⟩, h3⟩⟩, ?_, ?_⟩
    · refine List.nodup_cons.2 ⟨fun hm => (h5 g hm).2 rfl, h4⟩
    · intro k hk
      rcases List.mem_cons.1 hk with rfl | hk
      · exact ⟨hb, .inr ⟨cur, hgg⟩⟩
      · exact ⟨(h5 k hk).1, .inl hk⟩
theorem Mk.shape {e : TypeId} {base : Nat} {w : World} {G : Nat → Prop} {v : Value} {xs : List α} (h : Mk R e base w G v xs) : ∃ A c, v = .slice A xs.length c := by
  obtain ⟨cs, h1, h2, h3⟩ := h
  rcases h1.2 with ⟨rfl, hn⟩ | ⟨g, cap, cur, rfl, _⟩
  · rw [hn]; exact ⟨_, _, rfl⟩
  · exact ⟨_, _, rfl⟩
theorem MkO.shape {e : TypeId} {base : Nat} {w : World} {fp : List Nat} {v : Value} {xs : List α} (h : MkO R e base w fp v xs) : ∃ A c, v = .slice A xs.length c := by
  obtain ⟨cs, h1, h2, h3⟩ := h
  rcases h1.2 with ⟨rfl, hn⟩ | ⟨g, cap, cur, rfl, _⟩
  · rw [hn]; exact ⟨_, _, rfl⟩
  · exact ⟨_, _, rfl⟩
theorem OSl.shape {e : TypeId} {w : World} {fp : List Nat} {v : Value} {xs : List α} (h : OSl R e w fp xs v) : ∃ A c, v = .slice A xs.length c := by
  obtain ⟨hb, ⟨rfl, rfl, rfl⟩ | ⟨q, c, cs, g, rfl, rfl, h1, h2, h3, h4⟩⟩ := h
  · exact ⟨_, _, rfl⟩
  · exact ⟨_, _, rfl⟩
end

end Go.Proofs.Ytndmcnddgcifiaa
