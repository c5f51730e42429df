/- Appending to lists under the call's hands; no condition. -/
import Derived.Test.YtndmcnddgcifiaaRp
import Derived.Deep.DeepAppendRoom
import Derived.ArgAppend
set_option linter.unusedVariables false
set_option linter.unusedSimpArgs false
namespace Go.Proofs.Ytndmcnddgcifiaa
open Go.RowKit

/-- t is the slice type of e, whose elements have size cells and bytes bytes. -/
structure SlT (P : Program) (t e : TypeId) (size bytes : Nat) : Prop where
  under : P.underlying t = some (.slice e)
  info : ∃ i z, P.info? e = some i ∧ i.zero = some z ∧ i.size = size ∧ i.bytes = bytes ∧ z.cells.size = size
  pos : 0 < size

section
variable {P : Program} {w : World} {t e : TypeId} {size bytes : Nat}
theorem run_append_two (T : SlT P t e size bytes) (ty : TypeId) (base : Nat) (v : Value) (n : Nat) (xs : List Value) (hown : w.ownsRow base e size v n xs)
    (ad : Addr) (m c : Nat) (news : List Value) (hl : news.length = m * size) (hnews : ∀ (j : Nat) u, news[j]? = some u → w.cell? (ad.add j) = some u) (h1 : ∀ u ∈ news, u.oneCell' = true)
    (h63 : n + m ≤ maxLen) (hbytes : (n + m) * bytes ≤ 140737488355328) (hbase : base ≤ w.heap.size) :
    ∃ v' w', (Builtin.append_ #[t, t] ty #[v, .slice (some ad) m c]).run P w = .ok v' w' ∧ w'.ownsRow base e size v' (n + m) (xs ++ news) ∧ w.grownBy w' v.ownBlock ∧
      (v'.ownBlock = v.ownBlock ∨ ∀ k, v'.ownBlock = some k → w.heap.size ≤ k) := by
  obtain ⟨i, z, hi, hz, hsize, hby, hzs⟩ := T.info
  rcases hown.2 with ⟨rfl, hn⟩ | ⟨g, cap, cur, rfl, hb, hgg, hcap, hmax, hsz, htake⟩
  · subst hn
    have hx : xs = [] := List.eq_nil_of_length_eq_zero (by simpa using hown.1)
    subst hx
    obtain ⟨v', w', hr, hown', hg, _⟩ := run_append_own (P := P) w w.heap.size t ty e i z size bytes T.under hi hz hsize hby hzs T.pos (.slice none 0 0) 0 [] ⟨by simp, .inl ⟨rfl, rfl⟩⟩ ad m c news hl hnews h1 h63 hbytes (Nat.le_refl _)
    refine ⟨v', w', hr, ?_, hg, .inr fun k hk => (hown'.lt k hk).1⟩
    refine ⟨hown'.1, ?_⟩
    rcases hown'.2 with h | ⟨g, cap, cur, e1, e2, e3⟩
    · exact .inl h
    · exact .inr ⟨g, cap, cur, e1, Nat.le_trans hbase e2, e3⟩
  · rcases Nat.lt_or_ge cap (n + m) with hlt | hge
    · have hc := @World.ownsRow.cells w base e size _ n xs hown
      obtain ⟨v', w', hr, hown', hg⟩ := run_append_arg_grows (P := P) w t ty e i z size bytes T.under hi hz hsize hby hzs T.pos ⟨g, 0, none⟩ n cap xs hown.1 (hc rfl) ad m c news hl hnews hlt h63 hbytes
      refine ⟨v', w', hr, ⟨hown'.1, ?_⟩, grown_any hg, .inr fun k hk => (hown'.lt k hk).1⟩
      rcases hown'.2 with h | ⟨g, cap, cur, e1, e2, e3⟩
      · exact .inl h
      · exact .inr ⟨g, cap, cur, e1, Nat.le_trans hbase e2, e3⟩
    · obtain ⟨w', hr, hown', hg⟩ := run_append_own_spare (P := P) w base t ty e i size T.under hi hsize g n cap xs hown ad m c news hl hnews h1 hge
      exact ⟨_, w', hr, hown', hg, .inl rfl⟩
end

section
variable {P : Program} {ops : Array Oper} {rest : List Oper} {o : Oper} {a : Act} {Q : Exit → Act → World → Prop} {w : World} {t e : TypeId} {size bytes : Nat} {α : Type} {R : Rp α}
theorem wpList_append_two (hgd : o.guard = none) (s x : Operand) (T : SlT P t e size bytes) (ho : o.op = .call { callee := .builtin .append, args := #[s, x], argTypes := #[t, t] })
    (base : Nat) (v : Value) (n : Nat) (xs : List Value) (hs : a.eval s = v) (hown : w.ownsRow base e size v n xs)
    (ad : Addr) (m c : Nat) (news : List Value) (hx : a.eval x = .slice (some ad) m c) (hl : news.length = m * size) (hnews : ∀ (j : Nat) u, news[j]? = some u → w.cell? (ad.add j) = some u) (h1 : ∀ u ∈ news, u.oneCell' = true)
    (h63 : n + m ≤ maxLen) (hbytes : (n + m) * bytes ≤ 140737488355328) (hbase : base ≤ w.heap.size)
    (h : ∀ v' w', w'.ownsRow base e size v' (n + m) (xs ++ news) → w.grownBy w' v.ownBlock → (v'.ownBlock = v.ownBlock ∨ ∀ k, v'.ownBlock = some k → w.heap.size ≤ k) → wpList P ops Q rest (a.put o.dst v') w') : wpList P ops Q (o :: rest) a w := by
  refine wpList_plain hgd fun K hK => ?_
  obtain ⟨v', w', hrun, h2, h3, h4⟩ := run_append_two (P := P) (w := w) T o.type base v n xs hown ad m c news hl hnews h1 h63 hbytes hbase
  unfold Oper.wp
  simp [execOp, ho, resolve, invoke, builtin, hs, hx, hrun, Result.andThen]
  exact hK _ _ (h v' w' h2 h3 h4)

theorem maxLen_of {n : Nat} (h : n ≤ 2199023255552) : n ≤ maxLen := by simp only [maxLen]; omega
theorem bytes_of {n b : Nat} (h : n ≤ 1099511627776) (hb : b ≤ 128) : n * b ≤ 140737488355328 := Nat.le_trans (Nat.mul_le_mul h hb) (by decide)
/-- append(v, src...), v under the call's hands. -/
theorem wpList_rcat (hgd : o.guard = none) (s x : Operand) (T : SlT P t e R.size bytes) (hby : bytes ≤ 128) (ho : o.op = .call { callee := .builtin .append, args := #[s, x], argTypes := #[t, t] })
    (base : Nat) (G : Nat → Prop) (v : Value) (xs : List α) (hs : a.eval s = v) (hown : Mk R e base w G v xs) (hbase : base ≤ w.heap.size)
    (u : Value) (ys : List α) (hx : a.eval x = u) (hsrc : RSl R w (fun k => G k ∧ some k ≠ v.ownBlock) ys u) (hnil : ∀ c, u = .slice none 0 c → c = 0) (hlen : xs.length + ys.length ≤ 1099511627776)
    (h : ∀ v' w', Mk R e base w' G v' (xs ++ ys) → w.grownBy w' v.ownBlock → wpList P ops Q rest (a.put o.dst v') w') : wpList P ops Q (o :: rest) a w := by
  obtain ⟨cs, h1, h2, h3⟩ := hown
  obtain ⟨i, z, hi, hz, hsize, hb, hzs⟩ := T.info
  obtain ⟨A, c, ds, rfl, g1, g2, g3, g4, g5, g6⟩ := hsrc
  cases A with
  | none =>
    have hy : ys = [] := by
      have hl := g6.len
      by_cases hy : ys = []
      · exact hy
      · have hp : 0 < ys.length * R.size := Nat.mul_pos (List.length_pos_iff.2 hy) R.pos
        obtain ⟨_, _, e, _⟩ := g5 0 (by omega)
        simp at e
    subst hy
    have hc := g4 rfl
    subst hc
    refine wpList_append_own_none hgd s x t ho base e i R.size T.under hi v xs.length cs hs h1 hx ?_
    refine h v w ⟨cs, by simpa using h1, by simpa using h2, by simpa using h3⟩ (grown_refl _ _)
  | some ad =>
    have hcell : ∀ (j : Nat) u, ds[j]? = some u → w.cell? (ad.add j) = some u := fun j u hu => by
      obtain ⟨h9, h10⟩ := List.getElem?_eq_some_iff.1 hu
      obtain ⟨b', off', e, _, hc⟩ := g5 _ h9
      injection e with e; subst e
      rw [show (⟨b', off', none⟩ : Addr).add j = ⟨b', off' + j, none⟩ by simp [Addr.add], hc, h10]
    refine wpList_append_two hgd s x T ho base v xs.length cs hs h1 ad ys.length c ds hx g6.len hcell g6.one (maxLen_of (by omega)) (bytes_of hlen hby) hbase ?_
    intro v' w' hown' hg hmv
    refine h v' w' ⟨cs ++ ds, by rw [List.length_append]; exact hown', by simpa using hlen, ?_⟩ hg
    have hall := (Reps.append h3 g6).live
    refine (Reps.keep (w' := w') (fun k hk => hg.block k hk.2 hk.1.2) hall).sub fun k hk => ⟨hk.1.1, ?_⟩
    rcases hmv with e | hmv
    · rw [e]; exact hk.1.2
    · intro e; have := hmv k e.symm; omega
/-- append([]T(nil), src...). -/
theorem wpList_rcopied (hgd : o.guard = none) (s x : Operand) (T : SlT P t e R.size bytes) (hby : bytes ≤ 128) (ho : o.op = .call { callee := .builtin .append, args := #[s, x], argTypes := #[t, t] })
    (F : Nat → Prop) (hs : a.eval s = .slice none 0 0) (u : Value) (ys : List α) (hx : a.eval x = u) (hsrc : RSl R w F ys u)
    (h : ∀ v' w', Mk R e w.heap.size w' F v' ys → w.grownBy w' none → wpList P ops Q rest (a.put o.dst v') w') : wpList P ops Q (o :: rest) a w := by
  have hl : ys.length ≤ 1099511627776 := by obtain ⟨A, c, _, rfl, _, _, h3, _⟩ := hsrc; exact h3
  have hn : ∀ c, u = .slice none 0 c → c = 0 := by
    obtain ⟨A, c, _, rfl, _, _, _, h4, _⟩ := hsrc
    intro c' e; injection e with e1 e2 e3; subst e3; exact h4 e1
  refine wpList_rcat hgd s x T hby ho w.heap.size F (.slice none 0 0) [] hs (Mk.nil _ _ _ _ _) (Nat.le_refl _) u ys hx (hsrc.sub fun k hk => ⟨hk, by simp [Value.ownBlock]⟩) hn (by simpa using hl) ?_
  intro v' w' h1 h2
  exact h v' w' h1 h2
/-- append(v, x): x lies in a block by itself. -/
theorem RSl.one {w : World} {F : Nat → Prop} {x : α} {cs : List Value} {b : Nat} (h : R.rep w F x cs) (hF : F b) (hc : ∀ (j : Nat) u, cs[j]? = some u → w.cell? ⟨b, j, none⟩ = some u) : RSl R w F [x] (.slice (some ⟨b, 0, none⟩) 1 1) :=
  ⟨some ⟨b, 0, none⟩, 1, cs, rfl, Nat.le_refl _, by omega, by simp, by simp, fun i hi => ⟨b, 0, rfl, hF, by rw [Nat.zero_add]; exact hc i _ (List.getElem?_eq_getElem hi)⟩, Reps.single h⟩
theorem wpList_rpush (hgd : o.guard = none) (s x : Operand) (T : SlT P t e R.size bytes) (hby : bytes ≤ 128) (ho : o.op = .call { callee := .builtin .append, args := #[s, x], argTypes := #[t, t] })
    (base : Nat) (G : Nat → Prop) (v : Value) (xs : List α) (hs : a.eval s = v) (hown : Mk R e base w G v xs) (hbase : base ≤ w.heap.size)
    (b : Nat) (y : α) (cs : List Value) (hx : a.eval x = .slice (some ⟨b, 0, none⟩) 1 1) (hy : R.rep w (fun k => G k ∧ some k ≠ v.ownBlock) y cs) (hc : ∀ (j : Nat) u, cs[j]? = some u → w.cell? ⟨b, j, none⟩ = some u)
    (hlen : xs.length + 1 ≤ 1099511627776)
    (h : ∀ v' w', Mk R e base w' G v' (xs ++ [y]) → w.grownBy w' v.ownBlock → wpList P ops Q rest (a.put o.dst v') w') : wpList P ops Q (o :: rest) a w := by
  obtain ⟨ds, h1, h2, h3⟩ := hown
  have hcell : ∀ (j : Nat) u, cs[j]? = some u → w.cell? ((⟨b, 0, none⟩ : Addr).add j) = some u := fun j u hu => by
    rw [show (⟨b, 0, none⟩ : Addr).add j = ⟨b, j, none⟩ by unfold Addr.add; split <;> simp_all]
    exact hc j u hu
  refine wpList_append_two hgd s x T ho base v xs.length ds hs h1 ⟨b, 0, none⟩ 1 1 cs hx (by rw [R.len hy]; simp) hcell (R.one hy) (maxLen_of (by omega)) (bytes_of hlen hby) hbase ?_
  intro v' w' hown' hg hmv
  refine h v' w' ⟨ds ++ cs, by rw [List.length_append]; exact hown', by simpa using hlen, ?_⟩ hg
  have hall := (Reps.append h3 (Reps.single hy)).live
  refine (Reps.keep (w' := w') (fun k hk => hg.block k hk.2 hk.1.2) hall).sub fun k hk => ⟨hk.1.1, ?_⟩
  rcases hmv with e | hmv
  · rw [e]; exact hk.1.2
  · intro e; have := hmv k e.symm; omega
/-- append(v, x), all owned. -/
theorem wpList_rpushO (hgd : o.guard = none) (s x : Operand) (T : SlT P t e R.size bytes) (hby : bytes ≤ 128) (ho : o.op = .call { callee := .builtin .append, args := #[s, x], argTypes := #[t, t] })
    (base : Nat) (v : Value) (xs : List α) (fp gp : List Nat) (hs : a.eval s = v) (hown : MkO R e base w fp v xs) (hbase : base ≤ w.heap.size)
    (b : Nat) (y : α) (cs : List Value) (hx : a.eval x = .slice (some ⟨b, 0, none⟩) 1 1) (hy : R.own w gp y cs) (hc : ∀ (j : Nat) u, cs[j]? = some u → w.cell? ⟨b, j, none⟩ = some u)
    (hlen : xs.length + 1 ≤ 1099511627776) (hnd : gp.Nodup) (hgp : ∀ k, k ∈ gp → base ≤ k ∧ some k ≠ v.ownBlock ∧ ¬ k ∈ fp)
    (h : ∀ v' w', MkO R e base w' (fp ++ gp) v' (xs ++ [y]) → w.grownBy w' v.ownBlock → wpList P ops Q rest (a.put o.dst v') w') : wpList P ops Q (o :: rest) a w := by
  obtain ⟨ds, h1, h2, h3, h4, h5⟩ := hown
  have hcell : ∀ (j : Nat) u, cs[j]? = some u → w.cell? ((⟨b, 0, none⟩ : Addr).add j) = some u := fun j u hu => by
    rw [show (⟨b, 0, none⟩ : Addr).add j = ⟨b, j, none⟩ by unfold Addr.add; split <;> simp_all]
    exact hc j u hu
  refine wpList_append_two hgd s x T ho base v xs.length ds hs h1 ⟨b, 0, none⟩ 1 1 cs hx (by rw [R.len (R.reads hy)]; simp) hcell (R.one (R.reads hy)) (maxLen_of (by omega)) (bytes_of hlen hby) hbase ?_
  intro v' w' hown' hg hmv
  have hk5 : ∀ k, k ∈ fp ++ gp → base ≤ k ∧ some k ≠ v.ownBlock := fun k hk => by
    rcases List.mem_append.1 hk with hk | hk
    · exact h5 k hk
    · exact ⟨(hgp k hk).1, (hgp k hk).2.1⟩
  have hall := Owns.append h3 (Owns.single hy)
  have hlt := hall.live
  refine h v' w' ⟨ds ++ cs, by rw [List.length_append]; exact hown', by simpa using hlen, hall.keep fun k hk => hg.block k (hlt k hk) (hk5 k hk).2, ?_, fun k hk => ⟨(hk5 k hk).1, ?_⟩⟩ hg
  · rw [List.nodup_append]
    exact ⟨h4, hnd, fun x hx y hy e => (hgp y hy).2.2 (e ▸ hx)⟩
  · rcases hmv with e | hmv
    · rw [e]; exact (hk5 k hk).2
    · intro e; have := hmv k e.symm; have := hlt k hk; omega
end

theorem grown_own {a b c : World} {row : Option Nat} (h : a.grownBy b none) (h' : b.grownBy c row) (hr : ∀ k, row = some k → a.heap.size ≤ k) : a.grownBy c none :=
  ⟨h'.os.trans h.os, h'.tape.trans h.tape, h'.output.trans h.output, Nat.le_trans h.size h'.size, fun k hk _ => (h'.block k (Nat.lt_of_lt_of_le hk h.size) (fun e => by have := hr k e.symm; omega)).trans (h.block k hk (by simp))⟩
theorem MkO.row {α : Type} {R : Rp α} {e : TypeId} {base : Nat} {w : World} {fp : List Nat} {v : Value} {xs : List α} (h : MkO R e base w fp v xs) : ∀ k, v.ownBlock = some k → base ≤ k ∧ k < w.heap.size :=
  let ⟨_, h1, _⟩ := h; h1.lt
theorem Mk.row {α : Type} {R : Rp α} {e : TypeId} {base : Nat} {w : World} {G : Nat → Prop} {v : Value} {xs : List α} (h : Mk R e base w G v xs) : ∀ k, v.ownBlock = some k → base ≤ k ∧ k < w.heap.size :=
  let ⟨_, h1, _⟩ := h; h1.lt
theorem MkO.live {α : Type} {R : Rp α} {e : TypeId} {base : Nat} {w : World} {fp : List Nat} {v : Value} {xs : List α} (h : MkO R e base w fp v xs) : ∀ k, k ∈ fp → k < w.heap.size :=
  let ⟨_, _, _, h3, _⟩ := h; h3.live
/-- Nothing from base on has turned. -/
theorem MkO.above {α : Type} {R : Rp α} {e : TypeId} {base : Nat} {w w' : World} {fp : List Nat} {v : Value} {xs : List α} (h : MkO R e base w fp v xs) (hk : ∀ k, base ≤ k → k < w.heap.size → w'.heap[k]? = w.heap[k]?) : MkO R e base w' fp v xs := by
  obtain ⟨cs, h1, h2, h3, h4, h5⟩ := h
  refine ⟨cs, ⟨h1.1, ?_⟩, h2, h3.keep fun k hk' => hk k (h5 k hk').1 (h3.live k hk'), h4, h5⟩
  rcases h1.2 with h | ⟨g, cap, cur, e1, hb, hgg, h⟩
  · exact .inl h
  · exact .inr ⟨g, cap, cur, e1, hb, by rw [hk g hb (Array.getElem?_eq_some_iff.1 hgg).1]; exact hgg, h⟩
theorem MkO.setBelow {α : Type} {R : Rp α} {e : TypeId} {base : Nat} {w : World} {fp : List Nat} {v : Value} {xs : List α} (h : MkO R e base w fp v xs) {p : Addr} (hp : p.block < base) (u : Value) : MkO R e base (w.setCell p u) fp v xs :=
  h.above fun k hk _ => Below.heap_setCell w p u k (by omega)
theorem Mk.setBelow {α : Type} {R : Rp α} {e : TypeId} {base : Nat} {w : World} {G : Nat → Prop} {v : Value} {xs : List α} (h : Mk R e base w G v xs) {p : Addr} (hp : p.block < base) (hG : ¬ G p.block) (u : Value) : Mk R e base (w.setCell p u) G v xs := by
  obtain ⟨cs, h1, h2, h3⟩ := h
  refine ⟨cs, ⟨h1.1, ?_⟩, h2, Reps.keep (fun k hk => Below.heap_setCell w p u k (by rintro rfl; exact hG hk.1)) h3⟩
  rcases h1.2 with h | ⟨g, cap, cur, e1, hb, hgg, h⟩
  · exact .inl h
  · exact .inr ⟨g, cap, cur, e1, hb, by rw [Below.heap_setCell w p u g (by omega)]; exact hgg, h⟩
theorem VBuf.setmid {e : TypeId} {w : World} {q n : Nat} {c1 d : List Value} (h : VBuf e w q n (c1 ++ d)) {j : Nat} (hj : j < d.length) (v : Value) : VBuf e (w.setCell ⟨q, c1.length + j, none⟩ v) q n (c1 ++ d.set j v) := by
  have := h.set (j := c1.length + j) v (by rw [List.length_append]; omega)
  rwa [List.set_append_right _ _ (by omega), show c1.length + j - c1.length = j by omega] at this
theorem cell_new {w : World} {cs : Array Value} {t : TypeId} {q j : Nat} {u : Value} (hq : q = w.heap.size) (h : cs.toList[j]? = some u) : (w.alloc (.cells cs t)).cell? ⟨q, j, none⟩ = some u := by
  subst hq; rw [World.cell?_alloc_new]; simpa using h
theorem set_size (w : World) (p : Addr) (v : Value) : (w.setCell p v).heap.size = w.heap.size := by simp [World.setCell]
theorem row_new (w : World) (cur : Array Value) (cap : Nat) (xs : List Value) {base e size : Nat} (hb : base ≤ w.heap.size) (hx : cur.toList = xs) (hs : cur.size = cap * size) (hm : cap ≤ maxLen) :
    (w.alloc (.cells cur e)).ownsRow base e size (.slice (some ⟨w.heap.size, 0, none⟩) cap cap) cap xs := by
  subst hx
  exact ⟨by simpa using hs, .inr ⟨w.heap.size, cap, cur, rfl, hb, heap_alloc_new w _, Nat.le_refl _, hm, hs, by rw [← hs, ← Array.length_toList, List.take_length]⟩⟩
section
variable {P : Program} {w : World} {t e : TypeId} {bytes : Nat} {α : Type} {R : Rp α}
/-- append(v, src...), as a run. -/
theorem run_rcat (T : SlT P t e R.size bytes) (hby : bytes ≤ 128) (ty : TypeId) (base : Nat) (G : Nat → Prop) (v : Value) (xs : List α) (hown : Mk R e base w G v xs) (hbase : base ≤ w.heap.size)
    (u : Value) (ys : List α) (hsrc : RSl R w (fun k => G k ∧ some k ≠ v.ownBlock) ys u) (hlen : xs.length + ys.length ≤ 1099511627776) :
    ∃ v' w', (Builtin.append_ #[t, t] ty #[v, u]).run P w = .ok v' w' ∧ Mk R e base w' G v' (xs ++ ys) ∧ w.grownBy w' v.ownBlock := by
  obtain ⟨cs, h1, h2, h3⟩ := hown
  obtain ⟨i, z, hi, hz, hsize, hb, hzs⟩ := T.info
  obtain ⟨A, c, ds, rfl, g1, g2, g3, g4, g5, g6⟩ := hsrc
  cases A with
  | none =>
    have hy : ys = [] := by
      have hl := g6.len
      by_cases hy : ys = []
      · exact hy
      · have hp : 0 < ys.length * R.size := Nat.mul_pos (List.length_pos_iff.2 hy) R.pos
        obtain ⟨_, _, e, _⟩ := g5 0 (by omega)
        simp at e
    subst hy
    have hc := g4 rfl
    subst hc
    exact ⟨v, w, run_append_owned_none (P := P) (w := w) base t ty e i R.size T.under hi v xs.length cs h1, ⟨cs, by simpa using h1, by simpa using h2, by simpa using h3⟩, grown_refl _ _⟩
  | some ad =>
    have hcell : ∀ (j : Nat) u, ds[j]? = some u → w.cell? (ad.add j) = some u := fun j u hu => by
      obtain ⟨h9, h10⟩ := List.getElem?_eq_some_iff.1 hu
      obtain ⟨b', off', e, _, hc⟩ := g5 _ h9
      injection e with e; subst e
      rw [show (⟨b', off', none⟩ : Addr).add j = ⟨b', off' + j, none⟩ by simp [Addr.add], hc, h10]
    obtain ⟨v', w', hr, hown', hg, hmv⟩ := run_append_two (P := P) (w := w) T ty base v xs.length cs h1 ad ys.length c ds g6.len hcell g6.one (maxLen_of (by omega)) (bytes_of hlen hby) hbase
    refine ⟨v', w', hr, ⟨cs ++ ds, by rw [List.length_append]; exact hown', by simpa using hlen, ?_⟩, hg⟩
    have hall := (Reps.append h3 g6).live
    refine (Reps.keep (w' := w') (fun k hk => hg.block k hk.2 hk.1.2) hall).sub fun k hk => ⟨hk.1.1, ?_⟩
    rcases hmv with e | hmv
    · rw [e]; exact hk.1.2
    · intro e; have := hmv k e.symm; omega
theorem run_rcopied (T : SlT P t e R.size bytes) (hby : bytes ≤ 128) (ty : TypeId) (F : Nat → Prop) (u : Value) (ys : List α) (hsrc : RSl R w F ys u) :
    ∃ v' w', (Builtin.append_ #[t, t] ty #[.slice none 0 0, u]).run P w = .ok v' w' ∧ Mk R e w.heap.size w' F v' ys ∧ w.grownBy w' none := by
  have hl : ys.length ≤ 1099511627776 := by obtain ⟨A, c, _, rfl, _, _, h3, _⟩ := hsrc; exact h3
  obtain ⟨v', w', h1, h2, h3⟩ := run_rcat (P := P) (w := w) T hby ty w.heap.size F (.slice none 0 0) [] (Mk.nil _ _ _ _ _) (Nat.le_refl _) u ys (hsrc.sub fun k hk => ⟨hk, by simp [Value.ownBlock]⟩) (by simpa using hl)
  exact ⟨v', w', h1, h2, h3⟩
end

/-- Data without blocks of their own. -/
def Rp.flat {α : Type} (R : Rp α) : Prop := ∀ {w F a cs}, R.rep w F a cs → ∀ w', R.own w' [] a cs
theorem flat_int (k : IntKind) : (rInt k).flat := fun h _ => ⟨rfl, h⟩
theorem flat_bool : rBool.flat := fun h _ => ⟨rfl, h⟩
theorem flat_pair {α β : Type} {R : Rp α} {S : Rp β} (h : R.flat) (h' : S.flat) : (rPair R S).flat := fun ⟨c, d, e, h1, h2⟩ w' => ⟨c, d, [], [], e, rfl, h h1 w', h' h2 w'⟩
theorem flat_map {α β : Type} {R : Rp α} (f : β → α) (h : R.flat) : (rMap f R).flat := fun h1 w' => h h1 w'
theorem Reps.flat {α : Type} {R : Rp α} (hR : R.flat) {w : World} {F : Nat → Prop} (w' : World) : ∀ {xs : List α} {cs : List Value}, Reps R w F xs cs → Owns R w' [] xs cs
  | [], _, h => ⟨h, rfl⟩
  | x :: r, _, ⟨c, d, e, h1, h2⟩ => ⟨c, d, [], [], e, rfl, hR h1 w', Reps.flat hR w' h2⟩
theorem Mk.own {α : Type} {R : Rp α} (hR : R.flat) {e : TypeId} {base : Nat} {w : World} {G : Nat → Prop} {v : Value} {xs : List α} (h : Mk R e base w G v xs) : MkO R e base w [] v xs :=
  let ⟨cs, h1, h2, h3⟩ := h; ⟨cs, h1, h2, h3.flat hR w, List.nodup_nil, by simp⟩

end Go.Proofs.Ytndmcnddgcifiaa
