/- The deck's sizes are valid; no condition. -/
import Derived.Test.YtenobllgfgmjfaaDeck
namespace Go.Proofs.Ytenobllgfgmjfaa
open Go.RowKit

/-- Valid sizes. -/
def VS (xs : List Int) : Prop := 1 ≤ xs.length ∧ xs.length ≤ 4 ∧ ∀ x ∈ xs, 1 ≤ x ∧ x ≤ 32

def SizesPost (F : Nat → Prop) (g : Nat) (L : List Int) (w : World) (e : Ending) (w' : World) : Prop :=
  ∃ xs A c, e = .returned (.slice A xs.length c) ∧ VS xs ∧ Ints .i64 w' (New w w') A xs ∧ Deals F g L w w'

set_option maxHeartbeats 1000000 in
theorem sizes_any (F : Nat → Prop) (g : Nat) (L : List Int) (i : Nat) (w : World) (hF : ∀ k, F k → k < w.heap.size) (h : DeckAt w F g L i) :
    Calls Try.prog 8 #[.pointer (some ⟨g, 0, none⟩)] w (SizesPost F g L w) := by
  obtain ⟨i0, hi, hz0, hz1, hz2⟩ := info_parts Try.infoInt
  go_enter Try.func8, Try.ntmps8
  go_wp2_with fail
  refine (next_any F g L i 9 _ h (by omega) (by omega)).mono ?_
  rintro e w1 ⟨v, hv0, hv1, rfl, hd⟩
  go_wp2_with fail
  obtain ⟨⟨j1, h1⟩, hg1⟩ := hd
  have hsz1 := hg1.size
  have hF1 : ∀ k, F k → k < w1.heap.size := fun k hk => Nat.lt_of_lt_of_le (hF k hk) hsz1
  have hgw := h.lt
  have d1 : Deals F g L w1 (w1.alloc (.cells #[.int .i64 (4 + v)] 3)) := (Deals.refl h1).alloc hF1 _
  obtain ⟨⟨j2, h2⟩, hg2⟩ := d1
  refine (next_any F g L j2 4 _ h2 (by omega) (by omega)).mono ?_
  rintro e w2 ⟨n, hn0, hn1, rfl, hd2⟩
  have hown : w2.ownsRow w.heap.size 3 1 (.slice (some ⟨w1.heap.size, 0, none⟩) 1 1) 1 ([4 + v].map (.int .i64)) := by
    refine (World.ownsRow.kept ?_ hd2.2 (.inr ?_))
    · exact own_new w1 _ 1 _ hsz1 rfl (by simp) (by decide)
    · simp only [Value.ownBlock]; intro e; injection e; omega
  have hd2' : Deals F g L w w2 := (Deals.trans ⟨⟨_, h2⟩, hg2⟩ hd2).from_ hg1
  have HD := Lib.hid hd2'
  have HO := Lib.hid hown
  clear hd2 hd2' hown h2 hg2 h1 hg1
  go_wp2_with fail
  go_loopw [3, 4] (fun v4 k4 wr => ∃ (xs : List Int) (m : Nat) (v3 : Value), v4 = v3 ∧ k4 = .int .i64 m ∧ 1 ≤ xs.length ∧ xs.length + m ≤ 4 ∧ (∀ x ∈ xs, 1 ≤ x ∧ x ≤ 32) ∧ wr.ownsRow w.heap.size 3 1 v3 xs.length (xs.map (.int .i64)) ∧ Deals F g L w wr) (fun _ k _ => (intOf k).toNat)
  case atStart =>
    exact ⟨[4 + v], n.toNat, _, rfl, by rw [Int.toNat_of_nonneg hn0], by simp, by simp; omega, by simp; omega, HO.out, HD.out⟩
  case round =>
    obtain ⟨xs, m, v3, rfl, rfl, hx1, hx2, hx3, hown, hdl⟩ := hrel
    obtain ⟨⟨jr, hr⟩, hgr⟩ := hdl
    have hszr := hgr.size
    have hFr : ∀ k, F k → k < wr.heap.size := fun k hk => Nat.lt_of_lt_of_le (hF k hk) hszr
    have HX := Lib.hid hx3; clear hx3
    by_cases hm : 0 < m
    · go_wp2_with fail
      obtain ⟨⟨j3, h3⟩, hg3⟩ := (Deals.refl hr).alloc hFr (.cells #[.int .i64 6, .int .i64 12, .int .i64 32] 3)
      refine (next_any F g L j3 3 _ h3 (by omega) (by omega)).mono ?_
      rintro e w3 ⟨q, hq0, hq1, rfl, hd3⟩
      have hcell : ∃ y : Int, 1 ≤ y ∧ y ≤ 32 ∧ w3.cell? ⟨wr.heap.size, q.toNat, none⟩ = some (.int .i64 y) := by
        have hk : ∀ o, w3.cell? ⟨wr.heap.size, o, none⟩ = (#[Value.int .i64 6, .int .i64 12, .int .i64 32] : Array Value)[o]? := fun o => by
          rw [World.cell?_of_block (hd3.2.block wr.heap.size (by simp) (by simp; omega))]
          exact World.cell?_alloc_new _ _ _ _
        have : q = 0 ∨ q = 1 ∨ q = 2 := by omega
        rcases this with rfl | rfl | rfl
        · exact ⟨6, by omega, by omega, by rw [hk]; rfl⟩
        · exact ⟨12, by omega, by omega, by rw [hk]; rfl⟩
        · exact ⟨32, by omega, by omega, by rw [hk]; rfl⟩
      obtain ⟨y, hy0, hy1, hcell⟩ := hcell
      have hsz3 := hd3.2.size
      simp only [World.size_alloc] at hsz3
      have hF3 : ∀ k, F k → k < w3.heap.size := fun k hk => by have := hFr k hk; omega
      have hown3 : w3.ownsRow w.heap.size 3 1 u3 xs.length (xs.map (.int .i64)) :=
        (hown.alloc _).kept hd3.2 (.inr fun e => by have := (hown.lt g e).1; omega)
      have HO3 := Lib.hid hown3
      have hd3' : Deals F g L w w3 := (hd3.from_ hg3).from_ hgr
      obtain ⟨⟨j4, h4⟩, hg4⟩ := hd3'
      have Hg4 := Lib.hid hg4
      clear hown3 hown hd3 h3 hg3 hr hgr hg4
      go_wp2_with fail
      refine (next_any F g L j4 y _ h4 (by omega) (by omega)).mono ?_
      rintro e w5 ⟨u, hu0, hu1, rfl, hd5⟩
      have hown5 : w5.ownsRow w.heap.size 3 1 u3 xs.length (xs.map (.int .i64)) := HO3.out.kept hd5.2 (.inr fun e => by have := (HO3.out.lt g e).1; omega)
      have HD5 := Lib.hid (hd5.from_ Hg4.out)
      have hsz5 := hd5.2.size
      clear hcell h4 hd5
      go_wp2_with (at_builtin; refine wpList_append_own _ rfl _ _ 22 rfl w.heap.size 3 i0 (.int .i64 0) 1 8 Try.underlying22 hi hz0 hz1 hz2 rfl (by decide) _ _ _ rfl (hown5.alloc _) ⟨w5.heap.size, 0, none⟩ 1 1 [.int .i64 (1 + u)] rfl rfl ?c1 ?c2 ?c3 ?c4 ?c5 ?_)
      case c1 => exact cell_one_new _ _ _
      case c2 => simp [Value.oneCell']
      case c3 => simp [maxLen]; omega
      case c4 => omega
      case c5 => simp; omega
      intro v' w6 hown6 hgrow6 _
      have HD6 := Lib.hid (push_deals HD5.out hF (hown5.alloc (.cells #[.int .i64 (1 + u)] 3)) hgrow6 (by omega))
      have HO6 := Lib.hid (own_snoc hown6)
      clear hown5 hown6 hgrow6 HD5 HO3 Hg4
      go_wp2
      go_roundw
      case rel =>
        refine ⟨xs ++ [1 + u], m - 1, v', rfl, by go_num, by simp, by simp; omega, ?_, HO6.out, HD6.out⟩
        intro x hx
        rcases List.mem_append.1 hx with hx | hx
        · exact HX.out x hx
        · simp at hx; omega
      case measure => simp [intOf]; omega
    · have hm0 : m = 0 := by omega
      subst hm0
      have HO := Lib.hid hown; clear hown
      have HDr := Lib.hid (Deals.from_ (Deals.refl hr) hgr)
      clear hr hgr
      go_wp2
      obtain ⟨A, c, hv, hI⟩ := own_ints HO.out
      rw [hv]
      go_ret
      exact ⟨xs, A, c, rfl, ⟨hx1, by omega, HX.out⟩, hI, HDr.out⟩

end Go.Proofs.Ytenobllgfgmjfaa
