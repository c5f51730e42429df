/- The deck of numbers: what its functions answer; no condition. -/
import Derived.Test.YtndmcnddgcifiaaMem
set_option linter.unusedVariables false
set_option linter.unusedSimpArgs false
namespace Go.Proofs.Ytndmcnddgcifiaa
open Go.RowKit

theorem modI_tmod_neg {v n : Int} (hn : 1 ≤ n) (h : v.tmod n < 0) : v.tmod n + n = v % n := by
  have h1 := Int.tmod_add_mul_tdiv v n
  have h2 := Int.emod_add_mul_ediv v n
  have hv : v < 0 := by
    rcases Int.lt_or_le v 0 with h' | h'
    · exact h'
    · have := Int.tmod_nonneg n h'; omega
  have h3 : v.tmod n = v % n - n := by
    rw [Int.tmod_eq_emod]
    split
    · rename_i hc
      rcases hc with hc | hc
      · omega
      · exfalso
        have := Int.tmod_eq_zero_of_dvd hc
        omega
    · rw [Int.natAbs_of_nonneg (by omega)]
  omega
theorem modI_tmod_pos {v n : Int} (hn : 1 ≤ n) (h : 0 ≤ v.tmod n) : v.tmod n = v % n := by
  rw [Int.tmod_eq_emod] at *
  split
  · omega
  · rename_i hc
    rw [if_neg hc] at h
    rw [Int.natAbs_of_nonneg (by omega)] at h
    have := Int.emod_lt_of_pos v (show 0 < n by omega)
    omega

set_option maxHeartbeats 400000 in
theorem mod1_any (v n : Int) (w : World) (hv0 : -9223372036854775808 ≤ v) (hv1 : v ≤ 9223372036854775807) (hn : 1 ≤ n) (hn1 : n ≤ 9223372036854775807) :
    Calls Try.prog 28 #[.int .i64 v, .int .i64 n] w fun e w' => e = .returned (.int .i64 (v % n)) ∧ w = w' := by
  have hz : ¬ n = 0 := by omega
  have hl : v.tmod n < n := by
    have := Int.tmod_lt_of_pos v (show 0 < n by omega); exact this
  have ha : ∀ h : v.tmod n < 0, v.tmod n + n = v % n := modI_tmod_neg hn
  have hb : ∀ h : 0 ≤ v.tmod n, v.tmod n = v % n := modI_tmod_pos hn
  have Ha := Lib.hid ha; clear ha
  have Hb := Lib.hid hb; clear hb
  have hlo : -n < v.tmod n := by
    rcases Int.lt_or_le (v.tmod n) 0 with h | h
    · have e := modI_tmod_neg hn h
      have h0 := Int.emod_nonneg v (show n ≠ 0 by omega)
      have h1 : v % n ≠ 0 := fun h1 => by
        have := Int.tmod_eq_zero_of_dvd (Int.dvd_of_emod_eq_zero h1)
        omega
      omega
    · omega
  have hmn : 0 ≤ v % n ∧ v % n < n := ⟨Int.emod_nonneg v (by omega), Int.emod_lt_of_pos v (by omega)⟩
  go_enter Try.func28, Try.ntmps28
  go_wp2
  · rename_i h
    go_ret; exact ⟨ret_int (Ha.out h), rfl⟩
  · go_ret; exact ⟨ret_int (Hb.out ‹_›), rfl⟩

set_option maxHeartbeats 400000 in
theorem mod_any (v n : Int) (w : World) (hv0 : -9223372036854775808 ≤ v) (hv1 : v ≤ 9223372036854775807) (hn : 1 ≤ n) (hn1 : n ≤ 9223372036854775807) :
    Calls Try.prog 8 #[.int .i64 v, .int .i64 n] w fun e w' => e = .returned (.int .i64 (v % n)) ∧ w = w' := by
  go_enter Try.func8, Try.ntmps8
  go_wp2_with (go_at_call 28; refine (mod1_any v n _ hv0 hv1 hn hn1).mono ?_; rintro e w' ⟨rfl, rfl⟩)
  go_ret; exact ⟨rfl, rfl⟩

theorem mod_any' (v n : Int) (w : World) (hv0 : -9223372036854775808 ≤ v) (hv1 : v ≤ 9223372036854775807) (hn : 1 ≤ n) (hn1 : n ≤ 9223372036854775807) :
    Calls Try.prog 8 #[.int .i64 v, .int .i64 n] w fun e w' => e = .returned (.int .i64 (v % n)) ∧ w' = w :=
  (mod_any v n w hv0 hv1 hn hn1).mono fun _ _ ⟨h, h'⟩ => ⟨h, h'.symm⟩

/-- Block g is a deck; its numbers lie in blocks of F. -/
structure DeckAt (w : World) (F : Nat → Prop) (g : Nat) (L : List Int) (i : Nat) : Prop where
  not_in : ¬ F g
  lt : g < w.heap.size
  list : ∃ A c, w.cell? ⟨g, 0, none⟩ = some (.slice A L.length c) ∧ Ints .i64 w F A L
  at_ : w.cell? ⟨g, 1, none⟩ = some (.int .i64 i)
  le : i ≤ L.length
  len : L.length ≤ 9223372036854775807
  wf : ∀ x ∈ L, -9223372036854775808 ≤ x ∧ x ≤ 9223372036854775807
  free : ∀ j, w.frozen? ⟨g, j, none⟩ = false


theorem DeckAt.drewN {w : World} {F : Nat → Prop} {g : Nat} {L : List Int} {i : Nat} (h : DeckAt w F g L i) (n : Nat) : DeckAt (w.drewN n) F g L i :=
  ⟨h.not_in, h.lt, h.list, h.at_, h.le, h.len, h.wf, h.free⟩
theorem DeckAt.drew {w : World} {F : Nat → Prop} {g : Nat} {L : List Int} {i : Nat} (h : DeckAt w F g L i) : DeckAt w.drew F g L i :=
  ⟨h.not_in, h.lt, h.list, h.at_, h.le, h.len, h.wf, h.free⟩
theorem DeckAt.agree {w w' : World} {F : Nat → Prop} {g : Nat} {L : List Int} {i : Nat} (h : DeckAt w F g L i) (hs : w.heap.size ≤ w'.heap.size)
    (ha : ∀ k, F k ∨ k = g → w'.heap[k]? = w.heap[k]?) : DeckAt w' F g L i := by
  have hg : Agree (fun k => k = g) w w' := fun k hk => ha k (.inr hk)
  obtain ⟨A, c, h0, hL⟩ := h.list
  exact ⟨h.not_in, Nat.lt_of_lt_of_le h.lt hs, ⟨A, c, by rw [hg.cell (p := ⟨g, 0, none⟩) rfl]; exact h0, hL.keep fun k hk => ha k (.inl hk)⟩, by rw [hg.cell (p := ⟨g, 1, none⟩) rfl]; exact h.at_, h.le, h.len, h.wf,
    fun j => by rw [hg.frozen (p := ⟨g, j, none⟩) rfl]; exact h.free j⟩
theorem DeckAt.stepped {w : World} {F : Nat → Prop} {g : Nat} {L : List Int} {i : Nat} (h : DeckAt w F g L i) (n m : Nat) (hi : i < L.length) :
    DeckAt (((w.drewN n).setCell ⟨g, 1, none⟩ (.int .i64 ((i : Int) + 1))).drewN m) F g L (i + 1) := by
  obtain ⟨A, c, h0, hL⟩ := h.list
  refine ⟨h.not_in, by simpa [World.setCell] using h.lt, ⟨A, c, ?_, hL.keep ?_⟩, ?_, hi, h.len, h.wf, fun j => ?_⟩
  · have := World.cell?_setCell_other (w.drewN n) ⟨g, 1, none⟩ ⟨g, 0, none⟩ (.int .i64 ((i : Int) + 1)) (by simp)
    exact this.trans h0
  · exact (Agree.setCell (Agree.drewN (Agree.refl _ _) n) (p := ⟨g, 1, none⟩) h.not_in _).drewN m
  · exact World.cell?_setCell_same (w.drewN n) _ _ h.at_
  · show ((w.drewN n).setCell _ _).frozen? _ = false
    rw [World.frozen?_setCell]
    exact h.free j

/-- What a step of a deck does: the deck stays one; of what was there, nothing else turns. -/
def Deals (F : Nat → Prop) (g : Nat) (L : List Int) (w w' : World) : Prop := (∃ j, DeckAt w' F g L j) ∧ w.grownBy w' (some g)

def NextPost (F : Nat → Prop) (g : Nat) (L : List Int) (n : Int) (w : World) (e : Ending) (w' : World) : Prop :=
  ∃ v : Int, 0 ≤ v ∧ v < n ∧ e = .returned (.int .i64 v) ∧ Deals F g L w w'

set_option maxHeartbeats 400000 in
theorem next_any (F : Nat → Prop) (g : Nat) (L : List Int) (i : Nat) (n : Int) (w : World) (h : DeckAt w F g L i) (hn : 1 ≤ n) (hn1 : n ≤ 9223372036854775807) :
    Calls Try.prog 18 #[.pointer (some ⟨g, 0, none⟩), .int .i64 n] w (NextPost F g L n w) := by
  obtain ⟨A, c, hc0, hL⟩ := h.list
  have hc1 := h.at_
  have hfz := h.free 1
  have hle := h.le
  have hlen := h.len
  have hwf := Lib.hid h.wf
  have HL := Lib.hid hL
  have HD := Lib.hid h
  clear h hL
  by_cases hlt : i < L.length
  · obtain ⟨b, off, rfl, hF, hcell⟩ := HL.out.at_ hlt
    have hb := hwf.out _ (List.getElem_mem hlt)
    have hne : ¬ g = b := fun e => HD.out.not_in (e ▸ hF)
    go_enter Try.func18, Try.ntmps18
    go_wp2
    go_quiet (fail)
    go_wp2
    have e1 : IntKind.i64.wrap ((i : Int) + 1 - 1) = i := by rw [IntWalk.i64_in _ (by omega)]; omega
    have e5 : IntKind.i64.wrap (i : Int) = i := by rw [IntWalk.i64_in _ (by omega)]
    have e2 : (0 : Int) ≤ i := by omega
    have e3 : (i : Int) < L.length := by omega
    have e4 : (i : Int).toNat = i := by omega
    go_quiet ((go_at_call 8; exact Calls.quiet_of_same (mod_any' L[i] n _ hb.1 hb.2 hn hn1)))
    go_wp2
    go_ret
    exact ⟨_, Int.emod_nonneg _ (by omega), Int.emod_lt_of_pos _ (by omega), rfl, ⟨i + 1, HD.out.stepped _ _ hlt⟩, grown_drewN (grown_set (grown_drewN (grown_refl _ _) _) (.inl rfl) _) _⟩
  · have hi : i = L.length := by omega
    go_enter Try.func18, Try.ntmps18
    go_wp2
    go_quiet (fail)
    go_wp2
    go_ret
    exact ⟨0, by omega, by omega, rfl, ⟨i, HD.out.drewN _⟩, grown_drewN (grown_refl _ _) _⟩

theorem Deals.refl {F : Nat → Prop} {g : Nat} {L : List Int} {w : World} {i : Nat} (h : DeckAt w F g L i) : Deals F g L w w := ⟨⟨i, h⟩, grown_refl _ _⟩
theorem Deals.trans {F : Nat → Prop} {g : Nat} {L : List Int} {a b c : World} (h : Deals F g L a b) (h' : Deals F g L b c) : Deals F g L a c := ⟨h'.1, grown_trans h.2 h'.2⟩
theorem Deals.alloc {F : Nat → Prop} {g : Nat} {L : List Int} {a b : World} (h : Deals F g L a b) (hF : ∀ k, F k → k < b.heap.size) (o : Obj) : Deals F g L a (b.alloc o) := by
  obtain ⟨⟨j, hj⟩, hg⟩ := h
  exact ⟨⟨j, hj.agree (by simp) fun k hk => heap_alloc_old b o (by rcases hk with hk | rfl; exact hF k hk; exact hj.lt)⟩, grown_alloc hg o⟩
theorem Deals.grown {F : Nat → Prop} {g : Nat} {L : List Int} {a b c : World} {row : Option Nat} (h : Deals F g L a b) (hF : ∀ k, F k → k < b.heap.size ∧ row ≠ some k) (hr : row ≠ some g) (hg : b.grownBy c row)
    (hrow : ∀ k, row = some k → a.heap.size ≤ k) : Deals F g L a c := by
  obtain ⟨⟨j, hj⟩, h2⟩ := h
  refine ⟨⟨j, hj.agree hg.size fun k hk => hg.block k (by rcases hk with hk | rfl; exact (hF k hk).1; exact hj.lt) (by rcases hk with hk | rfl; exact (hF k hk).2.symm; exact hr.symm)⟩, ?_⟩
  exact ⟨hg.os.trans h2.os, hg.tape.trans h2.tape, hg.output.trans h2.output, Nat.le_trans h2.size hg.size, fun k hk hne =>
    (hg.block k (Nat.lt_of_lt_of_le hk h2.size) (fun e => by have := hrow k e.symm; omega)).trans (h2.block k hk hne)⟩

theorem Deals.from_ {F : Nat → Prop} {g : Nat} {L : List Int} {a b c : World} (h : Deals F g L b c) (hg : a.grownBy b (some g)) : Deals F g L a c := ⟨h.1, grown_trans hg h.2⟩
theorem own_new (w : World) (cur : Array Value) (cap : Nat) (xs : List Value) {base e size : Nat} (hb : base ≤ w.heap.size) (hx : cur.toList = xs) (hs : cur.size = cap * size) (hm : cap ≤ maxLen) :
    (w.alloc (.cells cur e)).ownsRow base e size (.slice (some ⟨w.heap.size, 0, none⟩) cap cap) cap xs := by
  subst hx
  exact ⟨by simpa using hs, .inr ⟨w.heap.size, cap, cur, rfl, hb, heap_alloc_new w _, Nat.le_refl _, hm, hs, by rw [← hs, ← Array.length_toList, List.take_length]⟩⟩

theorem push_deals {F : Nat → Prop} {g : Nat} {L : List Int} {w w5 w6 : World} {o : Obj} {e size n : Nat} {v : Value} {xs : List Value} (h : Deals F g L w w5) (hF : ∀ k, F k → k < w.heap.size)
    (hown : (w5.alloc o).ownsRow w.heap.size e size v n xs) (hg : (w5.alloc o).grownBy w6 v.ownBlock) (hgw : g < w.heap.size) : Deals F g L w w6 := by
  have hs := h.2.size
  refine (h.alloc (fun k hk => Nat.lt_of_lt_of_le (hF k hk) hs) o).grown (fun k hk => ⟨?_, fun e => ?_⟩) (fun e => ?_) hg (fun k hk => (hown.lt k hk).1)
  · have := hF k hk; simp; omega
  · have := (hown.lt k e).1; have := hF k hk; omega
  · have := (hown.lt g e).1; omega
theorem own_snoc {w : World} {base e n : Nat} {v : Value} {xs : List Int} {x : Int} {k : IntKind} (h : w.ownsRow base e 1 v (n + 1) (xs.map (.int k) ++ [.int k x])) (hn : n = xs.length := by rfl) :
    w.ownsRow base e 1 v (xs ++ [x]).length ((xs ++ [x]).map (.int k)) := by
  subst hn
  simpa using h
theorem own_ints {w : World} {W : World} {e : Nat} {v : Value} {xs : List Int} {k : IntKind} (h : w.ownsRow W.heap.size e 1 v xs.length (xs.map (.int k))) :
    ∃ A c, v = .slice A xs.length c ∧ Ints k w (New W w) A xs := by
  have hc := @World.ownsRow.cells w W.heap.size e 1 v xs.length (xs.map (.int k)) h
  rcases h.2 with ⟨rfl, hn⟩ | ⟨g, cap, cur, rfl, hb, hgg, hcap, hmax, hsz, htake⟩
  · have : xs = [] := List.eq_nil_of_length_eq_zero hn
    subst this
    exact ⟨none, 0, rfl, Row.nil _ _ _⟩
  · refine ⟨_, _, rfl, fun i hi => ⟨g, 0, rfl, ⟨hb, (Array.getElem?_eq_some_iff.1 hgg).1⟩, ?_⟩⟩
    have := hc rfl i _ (List.getElem?_eq_getElem hi)
    rw [show (⟨g, 0 + i, none⟩ : Addr) = (⟨g, 0, none⟩ : Addr).add i from by unfold Addr.add; split <;> simp_all]
    exact this
theorem Deals.set {F : Nat → Prop} {g : Nat} {L : List Int} {a b : World} (h : Deals F g L a b) (hF : ∀ k, F k → k < a.heap.size) (hg : g < a.heap.size) {p : Addr} (hp : a.heap.size ≤ p.block) (u : Value) : Deals F g L a (b.setCell p u) := by
  obtain ⟨⟨j, hj⟩, h2⟩ := h
  refine ⟨⟨j, hj.agree (by simp [World.setCell]) fun k hk => Below.heap_setCell b p u k (fun e => ?_)⟩, grown_set h2 (.inr hp) u⟩
  rcases hk with hk | rfl
  · have := hF k hk; omega
  · omega
theorem Deals.none {F : Nat → Prop} {g : Nat} {L : List Int} {a b c : World} (h : Deals F g L a b) (hF : ∀ k, F k → k < a.heap.size) (hg : b.grownBy c none) : Deals F g L a c :=
  h.grown (fun k hk => ⟨Nat.lt_of_lt_of_le (hF k hk) h.2.size, by simp⟩) (by simp) hg (by simp)

theorem Try.infoInt : (Try.prog.info? 3).map (fun i => (i.zero, i.size, i.bytes)) = some (some (.int .i64 0), 1, 8) := by kernel_rfl

end Go.Proofs.Ytndmcnddgcifiaa
