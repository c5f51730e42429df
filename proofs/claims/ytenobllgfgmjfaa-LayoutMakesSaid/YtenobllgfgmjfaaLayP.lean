/- Plain facts: the layout of every seed is valid, and how many addresses belong to regions; no condition. -/
import Derived.Test.YtenobllgfgmjfaaLayF
namespace Go.Proofs.Ytenobllgfgmjfaa

theorem len_cases {ss : List Int} (h0 : 1 ≤ ss.length) (h1 : ss.length ≤ 4) : (∃ a, ss = [a]) ∨ (∃ a b, ss = [a, b]) ∨ (∃ a b c, ss = [a, b, c]) ∨ (∃ a b c d, ss = [a, b, c, d]) := by
  match ss, h0, h1 with
  | [a], _, _ => exact .inl ⟨a, rfl⟩
  | [a, b], _, _ => exact .inr (.inl ⟨a, b, rfl⟩)
  | [a, b, c], _, _ => exact .inr (.inr (.inl ⟨a, b, c, rfl⟩))
  | [a, b, c, d], _, _ => exact .inr (.inr (.inr ⟨a, b, c, d, rfl⟩))

theorem reg_all1 {P : Nat → Prop} (h0 : P 0) : ∀ i, i < 1 → P i := fun i hi => by
  match i, hi with
  | 0, _ => exact h0
theorem reg_all2 {P : Nat → Prop} (h0 : P 0) (h1 : P 1) : ∀ i, i < 2 → P i := fun i hi => by
  match i, hi with
  | 0, _ => exact h0
  | 1, _ => exact h1
theorem reg_all3 {P : Nat → Prop} (h0 : P 0) (h1 : P 1) (h2 : P 2) : ∀ i, i < 3 → P i := fun i hi => by
  match i, hi with
  | 0, _ => exact h0
  | 1, _ => exact h1
  | 2, _ => exact h2
theorem reg_all4 {P : Nat → Prop} (h0 : P 0) (h1 : P 1) (h2 : P 2) (h3 : P 3) : ∀ i, i < 4 → P i := fun i hi => by
  match i, hi with
  | 0, _ => exact h0
  | 1, _ => exact h1
  | 2, _ => exact h2
  | 3, _ => exact h3

def RegB (b s : Int) : Prop := 0 ≤ b ∧ b + s ≤ 512
def Clear (b s b' s' : Int) : Prop := ¬ (b ≤ b' + s' ∧ b' ≤ b + s)

theorem LV1 {a x : Int} (hv : VS [a]) (h : RegB x a) : LV [x] [a] :=
  ⟨hv, rfl, reg_all1 ⟨h.1, h.2, fun k hk => by omega⟩⟩
theorem LV2 {a b x y : Int} (hv : VS [a, b]) (h : RegB x a) (h' : RegB y b) (h1 : Clear y b x a) : LV [x, y] [a, b] :=
  ⟨hv, rfl, reg_all2 ⟨h.1, h.2, fun k hk => by omega⟩ ⟨h'.1, h'.2, reg_all1 h1⟩⟩
theorem LV3 {a b c x y z : Int} (hv : VS [a, b, c]) (h : RegB x a) (h' : RegB y b) (h'' : RegB z c) (h1 : Clear y b x a) (h2 : Clear z c x a) (h3 : Clear z c y b) : LV [x, y, z] [a, b, c] :=
  ⟨hv, rfl, reg_all3 ⟨h.1, h.2, fun k hk => by omega⟩ ⟨h'.1, h'.2, reg_all1 h1⟩ ⟨h''.1, h''.2, reg_all2 h2 h3⟩⟩
theorem LV4 {a b c d x y z u : Int} (hv : VS [a, b, c, d]) (h : RegB x a) (h' : RegB y b) (h'' : RegB z c) (h''' : RegB u d) (h1 : Clear y b x a) (h2 : Clear z c x a) (h3 : Clear z c y b) (h4 : Clear u d x a) (h5 : Clear u d y b) (h6 : Clear u d z c) : LV [x, y, z, u] [a, b, c, d] :=
  ⟨hv, rfl, reg_all4 ⟨h.1, h.2, fun k hk => by omega⟩ ⟨h'.1, h'.2, reg_all1 h1⟩ ⟨h''.1, h''.2, reg_all2 h2 h3⟩ ⟨h'''.1, h'''.2, reg_all3 h4 h5 h6⟩⟩

theorem LV_mkB {ss : List Int} (hv : VS ss) {seed : Int} (hs : 0 ≤ seed) : LV (mkB ss seed) ss := by
  have hv0 := hv
  rcases len_cases hv.1 hv.2.1 with ⟨a, rfl⟩ | ⟨a, b, rfl⟩ | ⟨a, b, c, rfl⟩ | ⟨a, b, c, d, rfl⟩
  · obtain ⟨_, _, hx⟩ := hv
    have ha := hx a (by simp)
    have e0 : (((0 : Nat) : Int) + seed) % 1 = 0 := by omega
    have hB : mkB [a] seed = [1 + seed / 1 % 50] := by simp [mkB, mkTo, List.replicate]
    rw [hB]
    exact LV1 hv0 ⟨by omega, by omega⟩
  · obtain ⟨_, _, hx⟩ := hv
    have ha := hx a (by simp)
    have hb := hx b (by simp)
    rcases (show seed % 2 = 0 ∨ seed % 2 = 1 by omega) with ht | ht
    · have e1 : (1 + seed) % 2 = 1 := by omega
      simp only [mkB, mkTo, List.length_cons, List.length_nil, List.replicate]
      simp [ht, e1]
      exact LV2 hv0 ⟨by omega, by omega⟩ ⟨by omega, by omega⟩ (by unfold Clear; omega)
    · have e1 : (1 + seed) % 2 = 0 := by omega
      simp only [mkB, mkTo, List.length_cons, List.length_nil, List.replicate]
      simp [ht, e1]
      exact LV2 hv0 ⟨by omega, by omega⟩ ⟨by omega, by omega⟩ (by unfold Clear; omega)
  · obtain ⟨_, _, hx⟩ := hv
    have ha := hx a (by simp)
    have hb := hx b (by simp)
    have hc := hx c (by simp)
    rcases (show seed % 3 = 0 ∨ seed % 3 = 1 ∨ seed % 3 = 2 by omega) with ht | ht | ht
    · have e1 : (1 + seed) % 3 = 1 := by omega
      have e2 : (2 + seed) % 3 = 2 := by omega
      simp only [mkB, mkTo, List.length_cons, List.length_nil, List.replicate]
      simp [ht, e1, e2]
      exact LV3 hv0 ⟨by omega, by omega⟩ ⟨by omega, by omega⟩ ⟨by omega, by omega⟩ (by unfold Clear; omega) (by unfold Clear; omega) (by unfold Clear; omega)
    · have e1 : (1 + seed) % 3 = 2 := by omega
      have e2 : (2 + seed) % 3 = 0 := by omega
      simp only [mkB, mkTo, List.length_cons, List.length_nil, List.replicate]
      simp [ht, e1, e2]
      exact LV3 hv0 ⟨by omega, by omega⟩ ⟨by omega, by omega⟩ ⟨by omega, by omega⟩ (by unfold Clear; omega) (by unfold Clear; omega) (by unfold Clear; omega)
    · have e1 : (1 + seed) % 3 = 0 := by omega
      have e2 : (2 + seed) % 3 = 1 := by omega
      simp only [mkB, mkTo, List.length_cons, List.length_nil, List.replicate]
      simp [ht, e1, e2]
      exact LV3 hv0 ⟨by omega, by omega⟩ ⟨by omega, by omega⟩ ⟨by omega, by omega⟩ (by unfold Clear; omega) (by unfold Clear; omega) (by unfold Clear; omega)
  · obtain ⟨_, _, hx⟩ := hv
    have ha := hx a (by simp)
    have hb := hx b (by simp)
    have hc := hx c (by simp)
    have hd := hx d (by simp)
    have hq : ∀ q g : Int, q = 1 + seed / 4 % 50 → g = seed / (50 * 4) % 40 → 1 ≤ q ∧ q ≤ 50 ∧ 0 ≤ g ∧ g < 40 := fun q g e e' => by subst e; subst e'; omega
    rcases (show seed % 4 = 0 ∨ seed % 4 = 1 ∨ seed % 4 = 2 ∨ seed % 4 = 3 by omega) with ht | ht | ht | ht
    · have e1 : (1 + seed) % 4 = 1 := by omega
      have e2 : (2 + seed) % 4 = 2 := by omega
      have e3 : (3 + seed) % 4 = 3 := by omega
      simp only [mkB, mkTo, List.length_cons, List.length_nil, List.replicate]
      simp [ht, e1, e2, e3]
      exact LV4 hv0 ⟨by omega, by omega⟩ ⟨by omega, by omega⟩ ⟨by omega, by omega⟩ ⟨by omega, by omega⟩ (by unfold Clear; omega) (by unfold Clear; omega) (by unfold Clear; omega) (by unfold Clear; omega) (by unfold Clear; omega) (by unfold Clear; omega)
    · have e1 : (1 + seed) % 4 = 2 := by omega
      have e2 : (2 + seed) % 4 = 3 := by omega
      have e3 : (3 + seed) % 4 = 0 := by omega
      simp only [mkB, mkTo, List.length_cons, List.length_nil, List.replicate]
      simp [ht, e1, e2, e3]
      exact LV4 hv0 ⟨by omega, by omega⟩ ⟨by omega, by omega⟩ ⟨by omega, by omega⟩ ⟨by omega, by omega⟩ (by unfold Clear; omega) (by unfold Clear; omega) (by unfold Clear; omega) (by unfold Clear; omega) (by unfold Clear; omega) (by unfold Clear; omega)
    · have e1 : (1 + seed) % 4 = 3 := by omega
      have e2 : (2 + seed) % 4 = 0 := by omega
      have e3 : (3 + seed) % 4 = 1 := by omega
      simp only [mkB, mkTo, List.length_cons, List.length_nil, List.replicate]
      simp [ht, e1, e2, e3]
      exact LV4 hv0 ⟨by omega, by omega⟩ ⟨by omega, by omega⟩ ⟨by omega, by omega⟩ ⟨by omega, by omega⟩ (by unfold Clear; omega) (by unfold Clear; omega) (by unfold Clear; omega) (by unfold Clear; omega) (by unfold Clear; omega) (by unfold Clear; omega)
    · have e1 : (1 + seed) % 4 = 0 := by omega
      have e2 : (2 + seed) % 4 = 1 := by omega
      have e3 : (3 + seed) % 4 = 2 := by omega
      simp only [mkB, mkTo, List.length_cons, List.length_nil, List.replicate]
      simp [ht, e1, e2, e3]
      exact LV4 hv0 ⟨by omega, by omega⟩ ⟨by omega, by omega⟩ ⟨by omega, by omega⟩ ⟨by omega, by omega⟩ (by unfold Clear; omega) (by unfold Clear; omega) (by unfold Clear; omega) (by unfold Clear; omega) (by unfold Clear; omega) (by unfold Clear; omega)

/-- Of region r, how many addresses lie below a. -/
def below1 (b s a : Int) : Int := max 0 (min (a - b) s)
def cntTo (bs ss : List Int) (a : Int) : Nat → Int
  | 0 => 0
  | k + 1 => cntTo bs ss a k + below1 (bs.getD k 0) (ss.getD k 0) a
theorem cnt_same {bs ss : List Int} {a : Int} (k : Nat) (h : ∀ r, r < k → ¬ Hit bs ss a r) (hs : ∀ r, r < k → 0 ≤ ss.getD r 0) : cntTo bs ss (a + 1) k = cntTo bs ss a k := by
  induction k with
  | zero => rfl
  | succ k ih =>
    simp only [cntTo]
    rw [ih (fun r hr => h r (by omega)) (fun r hr => hs r (by omega))]
    have hk := h k (by omega)
    have := hs k (by omega)
    unfold Hit at hk
    unfold below1
    omega
theorem cnt_more {bs ss : List Int} {a : Int} {r : Nat} (hr : Hit bs ss a r) (k : Nat) (hk : r < k) (h : ∀ j, j < k → j ≠ r → ¬ Hit bs ss a j) (hs : ∀ r, r < k → 0 ≤ ss.getD r 0) : cntTo bs ss (a + 1) k = cntTo bs ss a k + 1 := by
  induction k with
  | zero => omega
  | succ k ih =>
    simp only [cntTo]
    by_cases e : r = k
    · subst e
      rw [cnt_same r (fun j hj => h j (by omega) (by omega)) (fun j hj => hs j (by omega))]
      unfold Hit at hr
      unfold below1
      omega
    · rw [ih (by omega) (fun j hj hne => h j (by omega) hne) (fun j hj => hs j (by omega))]
      have hk := h k (by omega) (by omega)
      have := hs k (by omega)
      unfold Hit at hk
      unfold below1
      omega
theorem cnt_bd {bs ss : List Int} (a : Int) (hv : VS ss) (k : Nat) (hk : k ≤ ss.length) : 0 ≤ cntTo bs ss a k ∧ cntTo bs ss a k ≤ 32 * k := by
  induction k with
  | zero => simp [cntTo]
  | succ k ih =>
    have := ih (by omega)
    have hs := hv.at_ (i := k) (by omega)
    simp only [cntTo]
    rw [getD_at (by omega : k < ss.length)]
    unfold below1; omega
theorem cnt_start {bs ss : List Int} (h : LV bs ss) (k : Nat) (hk : k ≤ bs.length) : cntTo bs ss (-1) k = 0 := by
  induction k with
  | zero => rfl
  | succ k ih =>
    have hr := h.2.2 k (by omega)
    simp only [cntTo]
    rw [ih (by omega)]
    have := hr.1
    unfold below1; omega
theorem cnt_end {bs ss : List Int} (h : LV bs ss) (k : Nat) (hk : k ≤ bs.length) : cntTo bs ss 513 k = tot (ss.take k) := by
  induction k with
  | zero => rfl
  | succ k ih =>
    have hr := h.2.2 k (by omega)
    have hl : k < ss.length := by have := h.2.1; omega
    have hs := h.1.at_ hl
    simp only [cntTo]
    rw [ih (by omega), tot_take hl]
    have h2 := hr.2.1
    rw [getD_at hl] at *
    unfold below1; omega
theorem hit_one {bs ss : List Int} (h : LV bs ss) {a : Int} {r j : Nat} (hr : r < bs.length) (hj : j < bs.length) (h1 : Hit bs ss a r) (h2 : Hit bs ss a j) : j = r := by
  rcases Nat.lt_trichotomy j r with h' | h' | h'
  · exact absurd ⟨by have := h1.1; have := h2.2; omega, by have := h2.1; have := h1.2; omega⟩ ((h.2.2 r hr).2.2 j h')
  · exact h'
  · exact absurd ⟨by have := h1.2; have := h2.1; omega, by have := h2.2; have := h1.1; omega⟩ ((h.2.2 j hj).2.2 r h')
theorem hit_next {bs ss : List Int} (h : LV bs ss) {a : Int} {r j : Nat} (hr : r < bs.length) (hj : j < bs.length) (h1 : Hit bs ss a r) (h2 : Hit bs ss (a + 1) j) : j = r := by
  rcases Nat.lt_trichotomy j r with h' | h' | h'
  · exact absurd ⟨by have := h1.1; have := h2.2; omega, by have := h2.1; have := h1.2; omega⟩ ((h.2.2 r hr).2.2 j h')
  · exact h'
  · exact absurd ⟨by have := h1.2; have := h2.1; omega, by have := h2.2; have := h1.1; omega⟩ ((h.2.2 j hj).2.2 r h')

end Go.Proofs.Ytenobllgfgmjfaa
