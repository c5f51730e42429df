/- The deck's cells; no condition. -/
import Derived.Test.YtndmcnddgcifiaaWord
import Derived.Test.YtndmcnddgcifiaaRely
set_option linter.unusedVariables false
set_option linter.unusedSimpArgs false
namespace Go.Proofs.Ytndmcnddgcifiaa
open Go.RowKit

/-- A slice of five tags, in a block that nothing else writes. -/
def SLit (X : Nat → Prop) (v : Value) (w : World) : Prop := ∃ b, v = .slice (some ⟨b, 0, none⟩) 5 5 ∧ b < w.heap.size ∧ ¬ X b ∧ ∀ n : Int, 0 ≤ n → n < 5 → ∃ y : Int, 0 ≤ y ∧ y ≤ 2 ∧ w.cell? ⟨b, n.toNat, none⟩ = some (.int .i64 y)
def SAddr (X : Nat → Prop) (v : Value) (w : World) : Prop := ∃ b o : Nat, ∃ y : Int, v = .pointer (some ⟨b, o, none⟩) ∧ b < w.heap.size ∧ ¬ X b ∧ 0 ≤ y ∧ y ≤ 2 ∧ w.cell? ⟨b, o, none⟩ = some (.int .i64 y)
def SCell (v : Value) (_ : World) : Prop := ∃ y u : Int, 0 ≤ y ∧ y ≤ 2 ∧ 0 ≤ u ∧ u ≤ 65535 ∧ v = .agg #[.int .u8 y, .int .u16 u]
def SRes (q : Nat) (_ : Value) (w : World) : Prop := ∃ y u : Int, 0 ≤ y ∧ y ≤ 2 ∧ 0 ≤ u ∧ u ≤ 65535 ∧ w.cell? ⟨q, 0, none⟩ = some (.int .u8 y) ∧ w.cell? ⟨q, 1, none⟩ = some (.int .u16 u)
theorem SLit.kept {X : Nat → Prop} (w w' : World) (u : Value) (h : RK X w w') : SLit X u w → SLit X u w' := fun ⟨b, e, hb, hx, hc⟩ =>
  ⟨b, e, Nat.lt_of_lt_of_le hb h.1, hx, fun n h0 h5 => let ⟨y, h1, h2, h3⟩ := hc n h0 h5; ⟨y, h1, h2, (h.cell hb hx).trans h3⟩⟩
theorem SAddr.kept {X : Nat → Prop} (w w' : World) (u : Value) (h : RK X w w') : SAddr X u w → SAddr X u w' := fun ⟨b, o, y, e, hb, hx, h1, h2, h3⟩ =>
  ⟨b, o, y, e, Nat.lt_of_lt_of_le hb h.1, hx, h1, h2, (h.cell hb hx).trans h3⟩
theorem SRes.alloc {q : Nat} {v : Value} {w : World} (h : SRes q v w) (hq : q < w.heap.size) (o : Obj) : SRes q v (w.alloc o) := by
  obtain ⟨y, u, a, b, c, d, e, f⟩ := h
  exact ⟨y, u, a, b, c, d, by rw [World.cell?_alloc_lt _ _ _ hq]; exact e, by rw [World.cell?_alloc_lt _ _ _ hq]; exact f⟩
theorem SRes.grown {q g : Nat} {v : Value} {w w' : World} (h : SRes q v w) (hq : q < w.heap.size) (hg : w.grownBy w' (some g)) (hne : ¬ q = g) : SRes q v w' := by
  obtain ⟨y, u, a, b, c, d, e, f⟩ := h
  exact ⟨y, u, a, b, c, d, by rw [(gcellx hg).1 _ _ hq hne]; exact e, by rw [(gcellx hg).1 _ _ hq hne]; exact f⟩
theorem SCell.kept {R : World → World → Prop} (w w' : World) (u : Value) (_ : R w w') (h : SCell u w) : SCell u w' := h
/-- What holds of the world all along. -/
structure CellW (F : Nat → Prop) (g : Nat) (L : List Int) (w0 : World) (w : World) : Prop where
  deals : Deals F g L w0 w
  lt : w0.heap.size < w.heap.size
  c0 : ∃ x, w.cell? ⟨w0.heap.size, 0, none⟩ = some x
  c1 : ∃ x, w.cell? ⟨w0.heap.size, 1, none⟩ = some x
  f0 : ∀ j, w.frozen? ⟨w0.heap.size, j, none⟩ = false

theorem CellW.alloc {F : Nat → Prop} {g : Nat} {L : List Int} {w0 w : World} (h : CellW F g L w0 w) (hF : ∀ k, F k → k < w0.heap.size) (hgw : g < w0.heap.size) (o : Obj) : CellW F g L w0 (w.alloc o) := by
  have hz := h.lt
  obtain ⟨x0, h0⟩ := h.c0
  obtain ⟨x1, h1⟩ := h.c1
  exact ⟨h.deals.alloc (fun k hk => by have := hF k hk; omega) o, by simp; omega, ⟨x0, by rw [World.cell?_alloc_lt _ _ _ hz]; exact h0⟩, ⟨x1, by rw [World.cell?_alloc_lt _ _ _ hz]; exact h1⟩, fun j => by rw [World.frozen?_alloc_past _ _ _ hz]; exact h.f0 j⟩
theorem CellW.dealt {F : Nat → Prop} {g : Nat} {L : List Int} {w0 w w' : World} (h : CellW F g L w0 w) (hgw : g < w0.heap.size) (hd : Deals F g L w w') : CellW F g L w0 w' := by
  have hz := h.lt
  obtain ⟨x0, h0⟩ := h.c0
  obtain ⟨x1, h1⟩ := h.c1
  exact ⟨h.deals.trans hd, Nat.lt_of_lt_of_le hz hd.2.size, ⟨x0, by rw [(gcellx hd.2).1 _ _ hz (by omega)]; exact h0⟩, ⟨x1, by rw [(gcellx hd.2).1 _ _ hz (by omega)]; exact h1⟩, fun j => by rw [(gcellx hd.2).2 _ _ hz (by omega)]; exact h.f0 j⟩
theorem cell_lit {v : Int} (h0 : 0 ≤ v) (h5 : v < 5) : ∃ y : Int, 0 ≤ y ∧ y ≤ 2 ∧ (#[Value.int .i64 0, .int .i64 0, .int .i64 0, .int .i64 1, .int .i64 2] : Array Value)[v.toNat]? = some (.int .i64 y) := by
  rcases (show v = 0 ∨ v = 1 ∨ v = 2 ∨ v = 3 ∨ v = 4 by omega) with rfl | rfl | rfl | rfl | rfl
  · exact ⟨0, by omega, by omega, rfl⟩
  · exact ⟨0, by omega, by omega, rfl⟩
  · exact ⟨0, by omega, by omega, rfl⟩
  · exact ⟨1, by omega, by omega, rfl⟩
  · exact ⟨2, by omega, by omega, rfl⟩
theorem cell_done {F : Nat → Prop} {g : Nat} {L : List Int} {w0 w : World} {y u : Int} (h : CellW F g L w0 w) (hF : ∀ k, F k → k < w0.heap.size) (hgw : g < w0.heap.size) (hy0 : 0 ≤ y) (hy1 : y ≤ 2) (hu0 : 0 ≤ u) (hu1 : u ≤ 65535) :
    PostP (CellW F g L w0) (RD (fun b => b = g ∨ b = w0.heap.size) (SRes w0.heap.size undef)) (SRes w0.heap.size) w undef ((w.setCell ⟨w0.heap.size, 0, none⟩ (.int .u8 y)).setCell ⟨w0.heap.size, 1, none⟩ (.int .u16 u)) := by
  obtain ⟨x0, h0⟩ := h.c0
  obtain ⟨x1, h1⟩ := h.c1
  have k0 : ((w.setCell ⟨w0.heap.size, 0, none⟩ (.int .u8 y)).setCell ⟨w0.heap.size, 1, none⟩ (.int .u16 u)).cell? ⟨w0.heap.size, 0, none⟩ = some (.int .u8 y) := by
    rw [World.cell?_setCell_other _ _ _ _ (by simp)]; exact World.cell?_setCell_same _ _ _ h0
  have k1 : ((w.setCell ⟨w0.heap.size, 0, none⟩ (.int .u8 y)).setCell ⟨w0.heap.size, 1, none⟩ (.int .u16 u)).cell? ⟨w0.heap.size, 1, none⟩ = some (.int .u16 u) :=
    World.cell?_setCell_same _ _ _ (by rw [World.cell?_setCell_other _ _ _ _ (by simp)]; exact h1)
  exact ⟨⟨(h.deals.set hF hgw (Nat.le_refl _) _).set hF hgw (Nat.le_refl _) _, by simpa [World.setCell] using h.lt, ⟨_, k0⟩, ⟨_, k1⟩, fun j => by rw [World.frozen?_setCell, World.frozen?_setCell]; exact h.f0 j⟩,
    ⟨((RK.refl _ _).set (.inr rfl) _).set (.inr rfl) _, fun _ => ⟨y, u, hy0, hy1, hu0, hu1, k0, k1⟩⟩, y, u, hy0, hy1, hu0, hu1, k0, k1⟩

def CellPost (F : Nat → Prop) (g : Nat) (L : List Int) (w : World) (e : Ending) (w' : World) : Prop :=
  ∃ tag val : Int, 0 ≤ tag ∧ tag ≤ 2 ∧ 0 ≤ val ∧ val ≤ 65535 ∧ e = .returned (.agg #[.int .u8 tag, .int .u16 val]) ∧ Deals F g L w w'

set_option maxHeartbeats 2000000 in
theorem deckCell_any (F : Nat → Prop) (g : Nat) (L : List Int) (i : Nat) (w : World) (hF : ∀ k, F k → k < w.heap.size) (h : DeckAt w F g L i) :
    Calls Try.prog 14 #[.pointer (some ⟨g, 0, none⟩)] w (CellPost F g L w) := by
  have hgw := h.lt
  have hw0 : CellW F g L w (w.alloc (.cells #[.int .u8 0, .int .u16 0] 30)).drew := by
    obtain ⟨⟨j, hj⟩, hgr⟩ := (Deals.refl h).alloc hF (.cells #[.int .u8 0, .int .u16 0] 30)
    refine ⟨⟨⟨j, hj.drew⟩, grown_drew hgr⟩, by simp, ⟨.int .u8 0, ?_⟩, ⟨.int .u16 0, ?_⟩, fun j => World.frozen?_alloc_at _ _ _ _ rfl⟩
    · exact World.cell?_alloc_new _ _ _ _
    · exact World.cell?_alloc_new _ _ _ _
  clear h
  go_enter Try.func14, Try.ntmps14
  go_wp2
  refine wp_region_rely (CellW F g L w) (RD (fun b => b = g ∨ b = w.heap.size) (SRes w.heap.size undef))
    [SLit (fun b => b = g ∨ b = w.heap.size), SVal (.pointer (some ⟨g, 0, none⟩)), SInt .i64 0 4, SAddr (fun b => b = g ∨ b = w.heap.size), SInt .i64 0 2, SInt .u8 0 2, SVal (.pointer (some ⟨g, 0, none⟩)), SInt .u16 0 65535, SCell, SRes w.heap.size]
    12 (by kernel_rfl) rfl (by kernel_rfl) hw0 (RD.refl _ _) ?_ ?_ ?_
  · exact ⟨fun w w' u h => SLit.kept w w' u h.1, SVal.kept, SInt.kept, fun w w' u h => SAddr.kept w w' u h.1, SInt.kept, SInt.kept, SVal.kept, SInt.kept, SCell.kept, fun _ _ _ h => h.2, trivial⟩
  · refine duties_cons ?_ (duties_cons ?_ (duties_cons ?_ (duties_cons ?_ (duties_cons ?_ (duties_cons ?_ (duties_cons ?_ (duties_cons ?_ (duties_cons ?_ (duties_cons ?_ duties_nil)))))))))
    · refine duty_plain rfl fun f w1 hb H => ?_
      clear H
      go_simp
      refine ⟨hb.alloc hF hgw _, ⟨RK.alloc _ _ _, fun hd => hd.alloc hb.lt _⟩, w1.heap.size, rfl, by simp, ?_, fun n h0 h5 => ?_⟩
      · have := hb.lt; omega
      · obtain ⟨y, h1, h2, h3⟩ := cell_lit h0 h5
        exact ⟨y, h1, h2, (World.cell?_alloc_new _ _ _ _).trans h3⟩
    · refine duty_plain rfl fun f w1 hb H => ?_
      have e0 : f 0 = .pointer (some ⟨g, 0, none⟩) := H 0 (by decide)
      clear H
      go_simp
      exact ⟨hb, RD.refl _ _ _, rfl⟩
    · refine duty_plain rfl fun f w1 hb H => ?_
      have e0 : SVal (.pointer (some ⟨g, 0, none⟩)) (f 4) w1 := H 4 (by decide)
      clear H
      unfold SVal at e0
      go_simp
      obtain ⟨⟨j, hj⟩, hg⟩ := hb.deals
      refine (next_any F g L j 5 _ hj (by omega) (by omega)).mono ?_
      rintro e w2 ⟨v, hv0, hv1, rfl, hd⟩
      exact ⟨_, rfl, hb.dealt hgw hd, ⟨RK.grown hd.2 (.inl rfl), fun hr => hr.grown hb.lt hd.2 (by omega)⟩, v, hv0, by omega, rfl⟩
    · refine duty_plain rfl fun f w1 hb H => ?_
      obtain ⟨b, e3, hlt, hx, hc⟩ : SLit _ (f 3) w1 := H 3 (by decide)
      obtain ⟨n, hn0, hn1, e5⟩ : SInt .i64 0 4 (f 5) w1 := H 5 (by decide)
      clear H
      obtain ⟨y, hy0, hy1, hy⟩ := hc n hn0 (by omega)
      have x1 : n < 5 := by omega
      have HH := Lib.hid hy
      clear hc hy
      go_simp
      exact ⟨hb, RD.refl _ _ _, b, n.toNat, y, rfl, hlt, hx, hy0, hy1, HH.out⟩
    · refine duty_plain rfl fun f w1 hb H => ?_
      obtain ⟨b, o, y, e6, hlt, hx, hy0, hy1, hc⟩ : SAddr _ (f 6) w1 := H 6 (by decide)
      clear H
      go_simp
      exact ⟨hb, RD.refl _ _ _, y, hy0, hy1, rfl⟩
    · refine duty_plain rfl fun f w1 hb H => ?_
      obtain ⟨n, hn0, hn1, e5⟩ : SInt .i64 0 2 (f 7) w1 := H 7 (by decide)
      clear H
      go_simp
      exact ⟨hb, RD.refl _ _ _, _, by rw [IntWalk.u8_in _ (by omega)]; exact hn0, by rw [IntWalk.u8_in _ (by omega)]; exact hn1, rfl⟩
    · refine duty_plain rfl fun f w1 hb H => ?_
      have e0 : f 0 = .pointer (some ⟨g, 0, none⟩) := H 0 (by decide)
      clear H
      go_simp
      exact ⟨hb, RD.refl _ _ _, rfl⟩
    · refine duty_plain rfl fun f w1 hb H => ?_
      have e0 : SVal (.pointer (some ⟨g, 0, none⟩)) (f 9) w1 := H 9 (by decide)
      clear H
      unfold SVal at e0
      go_simp
      obtain ⟨⟨j, hj⟩, hg⟩ := hb.deals
      refine (word_any F g L j _ hj).mono ?_
      rintro e w2 ⟨v, hv0, hv1, rfl, hd⟩
      exact ⟨_, rfl, hb.dealt hgw hd, ⟨RK.grown hd.2 (.inl rfl), fun hr => hr.grown hb.lt hd.2 (by omega)⟩, v, hv0, by omega, rfl⟩
    · refine duty_plain rfl fun f w1 hb H => ?_
      obtain ⟨n, hn0, hn1, e8⟩ : SInt .u8 0 2 (f 8) w1 := H 8 (by decide)
      obtain ⟨m, hm0, hm1, e10⟩ : SInt .u16 0 65535 (f 10) w1 := H 10 (by decide)
      clear H
      go_simp
      exact ⟨hb, RD.refl _ _ _, n, m, hn0, hn1, hm0, hm1, rfl⟩
    · refine duty_plain rfl fun f w1 hb H => ?_
      obtain ⟨y, u, hy0, hy1, hu0, hu1, e11⟩ : SCell (f 11) w1 := H 11 (by decide)
      have e2 : f 2 = .pointer (some ⟨w.heap.size, 0, none⟩) := H 2 (by decide)
      clear H
      obtain ⟨x0, hx0⟩ := hb.c0
      obtain ⟨x1, hx1⟩ := hb.c1
      have hf0 := hb.f0 0
      have hf1 := hb.f0 1
      have HB := Lib.hid hb
      clear hb
      go_simp
      exact cell_done HB.out hF hgw hy0 hy1 hu0 hu1
  · intro f w1 hb hE
    obtain ⟨-, -, -, -, -, -, -, -, -, ⟨y, u, hy0, hy1, hu0, hu1, hc0, hc1⟩, -⟩ := hE
    simp only [putAll, Act.put, slotV, List.setIfInBounds_toArray, List.set_cons_succ, List.set_cons_zero]
    go_wp2
    exact bodyPost_ret (v := .agg #[.int .u8 y, .int .u16 u]) (by simp [results, Try.results14, go_sem, hc0, hc1]) rfl ⟨y, u, hy0, hy1, hu0, hu1, rfl, hb.deals⟩

end Go.Proofs.Ytndmcnddgcifiaa
