/- The deck's cells, canonical cells and layouts; proper cells; no condition. -/
import Derived.Test.YtenobllgfgmjfaaLayH
namespace Go.Proofs.Ytenobllgfgmjfaa
open Go.RowKit

theorem Deals.set {F : Nat → Prop} {g : Nat} {L : List Int} {a b : World} (h : Deals F g L a b) (hF : ∀ k, F k → k < a.heap.size) (hg : g < a.heap.size) {p : Addr} (hp : a.heap.size ≤ p.block) (u : Value) : Deals F g L a (b.setCell p u) := by
  obtain ⟨⟨j, hj⟩, h2⟩ := h
  refine ⟨⟨j, hj.agree (by simp [World.setCell]) fun k hk => Below.heap_setCell b p u k (fun e => ?_)⟩, grown_set h2 (.inr hp) u⟩
  rcases hk with hk | rfl
  · have := hF k hk; omega
  · omega
theorem Deals.none {F : Nat → Prop} {g : Nat} {L : List Int} {a b c : World} (h : Deals F g L a b) (hF : ∀ k, F k → k < a.heap.size) (hg : b.grownBy c none) : Deals F g L a c :=
  h.grown (fun k hk => ⟨Nat.lt_of_lt_of_le (hF k hk) h.2.size, by simp⟩) (by simp) hg (by simp)

theorem agree_new2 {w1 w2 : World} {q i j : Nat} (o : Obj) (hq : q < w1.heap.size) (u v : Value) : Agree (New w1 w2) w2 (((w2.setCell ⟨q, i, none⟩ u).setCell ⟨q, j, none⟩ v).alloc o) :=
  Agree.alloc (Agree.setCell (Agree.setCell (Agree.refl (New w1 w2) w2) (p := ⟨q, i, none⟩) (fun hk => by have := hk.1; simp at this; omega) u) (p := ⟨q, j, none⟩) (fun hk => by have := hk.1; simp at this; omega) v) (fun _ hk => by have := hk.2; simpa [World.setCell] using this) o
theorem sum_nonneg {r : List Int} (hr : ∀ x ∈ r, (0 : Int) ≤ x) : 0 ≤ r.sum := by
  induction r with
  | nil => simp
  | cons b r ih => have := ih (fun x hm => hr x (by simp [hm])); have := hr b (by simp); simp; omega

def LayoutPost (F : Nat → Prop) (g : Nat) (L : List Int) (ss : List Int) (w : World) (e : Ending) (w' : World) : Prop :=
  ∃ m A c, 0 ≤ m ∧ m < 1048576 ∧ e = .returned (.agg #[.slice A (mkB ss m).length c, .int .u16 (mkK m)]) ∧ (mkB ss m).length ≤ c ∧ c ≤ maxLen ∧ Ints .i64 w' (New w w') A (mkB ss m) ∧ Deals F g L w w'

set_option maxHeartbeats 1000000 in
theorem deckLayout_any (F G : Nat → Prop) (g : Nat) (L : List Int) (i : Nat) (B : Option Addr) (ss : List Int) (d : Nat) (w : World) (hF : ∀ k, F k → k < w.heap.size) (hG : ∀ k, G k → k < w.heap.size ∧ ¬ k = g)
    (h : DeckAt w F g L i) (hv : VS ss) (hS : Ints .i64 w G B ss) :
    Calls Try.prog 18 #[.pointer (some ⟨g, 0, none⟩), .slice B ss.length d] w (LayoutPost F g L ss w) := by
  have hgw := h.lt
  have hl4 := hv.2.1
  obtain ⟨⟨j1, h1⟩, hg1⟩ := (Deals.refl h).alloc hF (.cells #[.slice none 0 0, .int .u16 0] 25)
  have H1 := Lib.hid h1
  have HG1 := Lib.hid hg1
  have HS1 := Lib.hid (hS.keep ((Agree.refl G w).alloc (fun k hk => (hG k hk).1) (.cells #[.slice none 0 0, .int .u16 0] 25)))
  have HV := Lib.hid hv
  clear h1 hg1 hS hv h
  go_enter Try.func18, Try.ntmps18
  go_wp2_with fail
  refine (next_any F g L j1 1048576 _ H1.out (by omega) (by omega)).mono ?_
  rintro e w1 ⟨m, hm0, hm1, rfl, hd1⟩
  have HS2 := Lib.hid (HS1.out.grownx hd1.2 fun k hk => ⟨by have := (hG k hk).1; simp; omega, (hG k hk).2⟩)
  have hz1 : w.heap.size < w1.heap.size := by have := hd1.2.size; simp at this; omega
  have hr0 : w1.cell? ⟨w.heap.size, 0, none⟩ = some (.slice none 0 0) := by rw [(gcellx hd1.2).1 _ _ (by simp) (by omega), World.cell?_alloc_new]; rfl
  have hr1 : w1.cell? ⟨w.heap.size, 1, none⟩ = some (.int .u16 0) := by rw [(gcellx hd1.2).1 _ _ (by simp) (by omega), World.cell?_alloc_new]; rfl
  have hf0 : ∀ o, w1.frozen? ⟨w.heap.size, o, none⟩ = false := fun o => by rw [(gcellx hd1.2).2 _ _ (by simp) (by omega)]; exact World.frozen?_alloc_at _ _ _ _ rfl
  have HD1 := Lib.hid (hd1.from_ HG1.out)
  clear hd1
  go_wp2_with fail
  refine (ref03_Make_yes G B ss d m _ (by omega) (fun k hk => by have := (hG k hk).1; omega) HS2.out HV.out hm0 (by omega)).mono ?_
  rintro e w2 ⟨A, c, rfl, hbc, hbm, hB, hg2⟩
  have hz2 : w.heap.size < w2.heap.size := by have := hg2.size; omega
  have hs0 : w2.cell? ⟨w.heap.size, 0, none⟩ = some (.slice none 0 0) := by rw [(gcell hg2).1 _ _ hz1]; exact hr0
  have hs1 : w2.cell? ⟨w.heap.size, 1, none⟩ = some (.int .u16 0) := by rw [(gcell hg2).1 _ _ hz1]; exact hr1
  have hf2 : w2.frozen? ⟨w.heap.size, 0, none⟩ = false := by rw [(gcell hg2).2 _ _ hz1]; exact hf0 _
  have hf3 : w2.frozen? ⟨w.heap.size, 1, none⟩ = false := by rw [(gcell hg2).2 _ _ hz1]; exact hf0 _
  have HD2 := Lib.hid (HD1.out.none hF hg2)
  have HB := Lib.hid hB
  generalize hbs : mkB ss m = bs at *
  generalize hky : mkK m = key at *
  have Hbs := Lib.hid hbs
  have Hky := Lib.hid hky
  clear hB hg2 hr0 hr1 hf0 hbs hky
  go_wp2
  refine bodyPost_ret (v := .agg #[.slice A bs.length c, .int .u16 key]) (by simp [results, Try.results18, go_sem, hs0, hs1, hz2]) rfl ?_
  refine ⟨m, A, c, hm0, hm1, by rw [Hbs.out, Hky.out], by rw [Hbs.out]; exact hbc, hbm, ?_, ?_⟩
  · rw [Hbs.out]
    refine Row.sub (Row.keep HB.out ?_) (F := New w1 w2) ?_
    · exact agree_new2 _ hz1 _ _
    · intro k hk; exact ⟨by have := hk.1; omega, by have := hk.2; simp [World.setCell]; omega⟩
  · exact (((HD2.out.set hF hgw (Nat.le_refl _) _).set hF hgw (Nat.le_refl _) _).alloc (fun k hk => by have := hF k hk; simp [World.setCell]; omega) _)

/-- A proper canonical cell. -/
def ProperC (ss : List Int) (tag val r o : Int) : Prop := 0 ≤ val ∧ val ≤ 65535 ∧ ((tag = 0 ∨ tag = 2) ∧ r = 0 ∧ o = 0 ∨ tag = 1 ∧ val = 0 ∧ InsP ss r o)
def canonV (tag val r o : Int) : Value := .agg #[.int .u8 tag, .int .u16 val, .int .i64 r, .int .i64 o]
def CanonPost (F : Nat → Prop) (g : Nat) (L : List Int) (ss : List Int) (w : World) (e : Ending) (w' : World) : Prop :=
  ∃ tag val r o, e = .returned (.agg #[.int .u8 tag, .int .u16 val, .int .i64 r, .int .i64 o]) ∧ ProperC ss tag val r o ∧ Deals F g L w w'

theorem tot_pos {ss : List Int} (h : VS ss) : 1 ≤ tot ss := by
  obtain ⟨h0, _, hx⟩ := h
  match ss, h0 with
  | a :: r, _ =>
    have ha := hx a (by simp)
    have := sum_nonneg (r := r) fun x hm => by have := hx x (by simp [hm]); omega
    simp [tot]; omega

set_option maxHeartbeats 1000000 in
theorem deckCanon_any (F G : Nat → Prop) (g : Nat) (L : List Int) (i : Nat) (B : Option Addr) (ss : List Int) (d : Nat) (w : World) (hF : ∀ k, F k → k < w.heap.size) (hG : ∀ k, G k → k < w.heap.size ∧ ¬ k = g)
    (h : DeckAt w F g L i) (hv : VS ss) (hS : Ints .i64 w G B ss) :
    Calls Try.prog 19 #[.pointer (some ⟨g, 0, none⟩), .slice B ss.length d] w (CanonPost F g L ss w) := by
  have hgw := h.lt
  have ht := tot_bd hv ss.length (Nat.le_refl _)
  rw [List.take_length] at ht
  have hl4 := hv.2.1
  have ht1 : 1 ≤ tot ss := tot_pos hv
  have ht2 : tot ss ≤ 128 := by omega
  clear ht
  obtain ⟨⟨j1, h1⟩, hg1⟩ := (Deals.refl h).alloc hF (.cells #[.int .u8 0, .int .u16 0, .int .i64 0, .int .i64 0] 48)
  have H1 := Lib.hid h1
  have HG1 := Lib.hid hg1
  have HS1 := Lib.hid (hS.keep ((Agree.refl G w).alloc (fun k hk => (hG k hk).1) (.cells #[.int .u8 0, .int .u16 0, .int .i64 0, .int .i64 0] 48)))
  have HV := Lib.hid hv
  clear h1 hg1 hS hv h
  go_enter Try.func19, Try.ntmps19
  go_wp2_with fail
  refine (next_any F g L j1 6 _ H1.out (by omega) (by omega)).mono ?_
  rintro e w1 ⟨t, ht0, ht6, rfl, hd1⟩
  have HS2 := Lib.hid (HS1.out.grownx hd1.2 fun k hk => ⟨by have := (hG k hk).1; simp; omega, (hG k hk).2⟩)
  have hz1 : w.heap.size < w1.heap.size := by have := hd1.2.size; simp at this; omega
  have hr : ∀ o, w1.cell? ⟨w.heap.size, o, none⟩ = (#[Value.int .u8 0, .int .u16 0, .int .i64 0, .int .i64 0] : Array Value)[o]? := fun o => by rw [(gcellx hd1.2).1 _ _ (by simp) (by omega), World.cell?_alloc_new]
  have hf : ∀ o, w1.frozen? ⟨w.heap.size, o, none⟩ = false := fun o => by rw [(gcellx hd1.2).2 _ _ (by simp) (by omega)]; exact World.frozen?_alloc_at _ _ _ _ rfl
  obtain ⟨⟨j2, h2⟩, hg2⟩ := hd1.from_ HG1.out
  have H2 := Lib.hid h2
  have HG2 := Lib.hid hg2
  have HR := Lib.hid hr
  have HFz := Lib.hid hf
  clear hd1 hr hf h2 hg2 H1 HG1 HS1
  have hF1 : ∀ k, F k → k < w1.heap.size := fun k hk => by have := hF k hk; omega
  have hG1 : ∀ k, G k → k < w1.heap.size := fun k hk => by have := (hG k hk).1; omega
  by_cases e4 : t = 4
  · subst e4
    go_wp2_with (go_at_call 17; refine (total_any _ B ss d _ HV.out HS2.out).mono ?_; rintro e w' ⟨rfl, rfl⟩)
    refine (next_any F g L j2 (tot ss) _ H2.out ht1 (by omega)).mono ?_
    rintro e w3 ⟨u, hu0, hu1, rfl, hd3⟩
    have HS3 := Lib.hid (HS2.out.grownx hd3.2 fun k hk => ⟨hG1 k hk, (hG k hk).2⟩)
    have hz3 : w1.heap.size ≤ w3.heap.size := hd3.2.size
    have HD3 := Lib.hid hd3
    clear hd3
    go_wp2_with fail
    refine (at_any G B ss d u _ (fun k hk => by have := hG1 k hk; omega) HV.out HS3.out hu0 hu1).mono ?_
    rintro e w5 ⟨r, o, hins, rfl, hg5⟩
    have hr : ∀ j, w5.cell? ⟨w.heap.size, j, none⟩ = (#[Value.int .u8 0, .int .u16 0, .int .i64 0, .int .i64 0] : Array Value)[j]? := fun j => by rw [(gcell hg5).1 _ _ (by omega), (gcellx HD3.out.2).1 _ _ (by omega) (by omega)]; exact HR.out j
    have hf : ∀ j, w5.frozen? ⟨w.heap.size, j, none⟩ = false := fun j => by rw [(gcell hg5).2 _ _ (by omega), (gcellx HD3.out.2).2 _ _ (by omega) (by omega)]; exact HFz.out j
    have hr0 := hr 0
    have hr1 := hr 1
    have hr2 := hr 2
    have hr3 := hr 3
    have hf0 := hf 0
    have hf1 := hf 1
    have hf2 := hf 2
    have hf3 := hf 3
    have hz5 : w.heap.size < w5.heap.size := by have := hg5.size; omega
    have Hins := Lib.hid hins
    have HD5 := Lib.hid ((HD3.out.from_ HG2.out).none hF hg5)
    clear hr hf hg5 hins HD3 HS2 HS3 H2 HG2
    go_wp2
    refine bodyPost_ret (v := .agg #[.int .u8 1, .int .u16 0, .int .i64 r, .int .i64 o]) (by simp [results, Try.results19, go_sem, hr0, hr1, hr2, hr3, hz5]) rfl ?_
    exact ⟨1, 0, r, o, rfl, ⟨by omega, by omega, .inr ⟨rfl, rfl, Hins.out⟩⟩, (((((HD5.out.set hF hgw (Nat.le_refl _) _).set hF hgw (Nat.le_refl _) _).set hF hgw (Nat.le_refl _) _).set hF hgw (Nat.le_refl _) _).alloc (fun k hk => by have := hF k hk; simp [World.setCell]; omega) _)⟩
  · by_cases e5 : t = 5
    · subst e5
      go_wp2_with fail
      refine (next_any F g L j2 10 _ H2.out (by omega) (by omega)).mono ?_
      rintro e w3 ⟨u, hu0, hu1, rfl, hd3⟩
      have hr : ∀ j, w3.cell? ⟨w.heap.size, j, none⟩ = (#[Value.int .u8 0, .int .u16 0, .int .i64 0, .int .i64 0] : Array Value)[j]? := fun j => by rw [(gcellx hd3.2).1 _ _ (by omega) (by omega)]; exact HR.out j
      have hf : ∀ j, w3.frozen? ⟨w.heap.size, j, none⟩ = false := fun j => by rw [(gcellx hd3.2).2 _ _ (by omega) (by omega)]; exact HFz.out j
      have hr0 := hr 0
      have hr1 := hr 1
      have hr2 := hr 2
      have hr3 := hr 3
      have hf0 := hf 0
      have hf1 := hf 1
      have hf2 := hf 2
      have hf3 := hf 3
      have hz3 : w.heap.size < w3.heap.size := by have := hd3.2.size; omega
      have HD5 := Lib.hid (hd3.from_ HG2.out)
      clear hr hf hd3 HS2 H2 HG2
      go_wp2
      refine bodyPost_ret (v := .agg #[.int .u8 2, .int .u16 u, .int .i64 0, .int .i64 0]) (by simp [results, Try.results19, go_sem, hr0, hr1, hr2, hr3]) rfl ?_
      exact ⟨2, u, 0, 0, rfl, ⟨by omega, by omega, .inl ⟨.inr rfl, rfl, rfl⟩⟩, ((((HD5.out.set hF hgw (Nat.le_refl _) _).set hF hgw (Nat.le_refl _) _).set hF hgw (Nat.le_refl _) _).set hF hgw (Nat.le_refl _) _)⟩
    · have d4 : (t == 4) = false := by simp [e4]
      have d5 : (t == 5) = false := by simp [e5]
      clear e4 e5
      go_wp2_with fail
      refine (word_any F g L j2 _ H2.out).mono ?_
      rintro e w3 ⟨u, hu0, hu1, rfl, hd3⟩
      have hr : ∀ j, w3.cell? ⟨w.heap.size, j, none⟩ = (#[Value.int .u8 0, .int .u16 0, .int .i64 0, .int .i64 0] : Array Value)[j]? := fun j => by rw [(gcellx hd3.2).1 _ _ (by omega) (by omega)]; exact HR.out j
      have hf : ∀ j, w3.frozen? ⟨w.heap.size, j, none⟩ = false := fun j => by rw [(gcellx hd3.2).2 _ _ (by omega) (by omega)]; exact HFz.out j
      have hr0 := hr 0
      have hr1 := hr 1
      have hr2 := hr 2
      have hr3 := hr 3
      have hf0 := hf 0
      have hf1 := hf 1
      have hf2 := hf 2
      have hf3 := hf 3
      have hz3 : w.heap.size < w3.heap.size := by have := hd3.2.size; omega
      have HD5 := Lib.hid (hd3.from_ HG2.out)
      clear hr hf hd3 HS2 H2 HG2
      go_wp2
      refine bodyPost_ret (v := .agg #[.int .u8 0, .int .u16 u, .int .i64 0, .int .i64 0]) (by simp [results, Try.results19, go_sem, hr0, hr1, hr2, hr3]) rfl ?_
      exact ⟨0, u, 0, 0, rfl, ⟨by omega, by omega, .inl ⟨.inl rfl, rfl, rfl⟩⟩, ((((HD5.out.set hF hgw (Nat.le_refl _) _).set hF hgw (Nat.le_refl _) _).set hF hgw (Nat.le_refl _) _).set hF hgw (Nat.le_refl _) _)⟩

end Go.Proofs.Ytenobllgfgmjfaa
