/- What may follow an instruction: the program's own answer; no condition. -/
import Derived.Test.YtenlhaondbmhnaaTargs
namespace Go.Proofs.Ytenlhaondbmhnaa
open Go.RowKit

theorem targ_end {w w1 w3 w4 : World} {q c : Nat} {xs : List Int} (h1 : w.grownBy w1 none) (hq : w.heap.size ≤ q) (h2 : w1.grownBy w3 (some q)) (hq3 : q < w3.heap.size) (h3 : w3.grownBy w4 (some q)) (hI : Ints .i64 w4 (fun k => k = q) (some ⟨q, 0, none⟩) xs) :
    TgtPost xs w (.returned (.slice (some ⟨q, 0, none⟩) xs.length c)) w4 :=
  ⟨_, c, rfl, Row.sub hI fun k hk => by rw [hk]; exact ⟨hq, Nat.lt_of_lt_of_le hq3 h3.size⟩, grown_fresh h1 (grown_trans h2 h3) hq⟩

set_option maxRecDepth 100000 in
set_option maxHeartbeats 4000000 in
theorem instr_Targets_any (op a b c i pc : Int) (w : World) (h0 : 0 ≤ pc) (h1 : pc < 64) :
    Calls Try.prog 22 #[.agg #[.int .i64 op, .int .i64 a, .int .i64 b, .int .i64 c, .int .i64 i], .int .i64 pc] w (TgtPost (tgt op i pc) w) := by
  obtain ⟨xs, hxs⟩ : ∃ xs, xs = tgt op i pc := ⟨_, rfl⟩
  rw [← hxs]
  unfold tgt at hxs
  have Hxs := Lib.hid hxs
  clear hxs
  cases j1 : (op == 18)
  · cases j2 : (op == 21)
    · cases r1 : (op == 22)
      · cases r2 : (op == 24)
        · cases z1 : (op == 19)
          · cases z2 : (op == 20)
            · have He := Lib.hid (show xs = [pc + 1] by rw [Hxs.out]; simp [*])
              go_enter Try.func22, Try.ntmps22
              go_wp2_with fail
              have hh := holds_new (w := (w.alloc (.cells #[.int .i64 op, .int .i64 a, .int .i64 b, .int .i64 c, .int .i64 i] 29))) (t := 3) [pc + 1]
              simp only [World.size_alloc, List.map_cons, List.map_nil] at hh
              refine (sort_any (w.heap.size + 1) 1 [pc + 1] _ hh (by simp) (by simp)).mono ?_
              rintro e w3 ⟨rfl, hH, hg, hq⟩
              rw [msort1] at hH
              have HH := Lib.hid hH
              have HG := Lib.hid hg
              clear hh hH hg
              go_wp2_with fail
              refine (compact_any (w.heap.size + 1) 1 [pc + 1] w3 HH.out (by simp) (by simp) (by rw [compact1]; simp)).mono ?_
              rintro e w4 ⟨rfl, hI, hg2⟩
              rw [compact1] at hI
              have HI := Lib.hid hI
              have HG2 := Lib.hid hg2
              clear hI hg2
              simp only [compact1]
              go_wp2_with fail
              go_ret
              rw [He.out]
              exact targ_end (grown_alloc (grown_alloc (grown_refl _ _) _) _) (by omega) HG.out hq HG2.out HI.out
            · obtain ⟨u, v, huv⟩ : ∃ u v, msort [i, pc + 1] = [u, v] := by rw [msort2]; split; exact ⟨_, _, rfl⟩; exact ⟨_, _, rfl⟩
              have Hc := Lib.hid (show xs = Lib.compact [u, v] by rw [← huv, targ2, Hxs.out]; simp [*])
              have Hl := Lib.hid (show (Lib.compact [u, v]).length ≤ 2 by rw [compact2]; split <;> simp)
              have Huv := Lib.hid huv
              clear huv
              go_enter Try.func22, Try.ntmps22
              go_wp2_with fail
              have hh := holds_new (w := (w.alloc (.cells #[.int .i64 op, .int .i64 a, .int .i64 b, .int .i64 c, .int .i64 i] 29))) (t := 3) [i, pc + 1]
              simp only [World.size_alloc, List.map_cons, List.map_nil] at hh
              refine (sort_any (w.heap.size + 1) 2 [i, pc + 1] _ hh (by simp) (by simp)).mono ?_
              rintro e w3 ⟨rfl, hH, hg, hq⟩
              rw [Huv.out] at hH
              have HH := Lib.hid hH
              have HG := Lib.hid hg
              clear hh hH hg
              go_wp2_with fail
              refine (compact_any (w.heap.size + 1) 2 [u, v] w3 HH.out (by simp) (by simp) Hl.out).mono ?_
              rintro e w4 ⟨rfl, hI, hg2⟩
              rw [← Hc.out] at hI ⊢
              have HI := Lib.hid hI
              have HG2 := Lib.hid hg2
              clear hI hg2
              go_wp2_with fail
              go_ret
              exact targ_end (grown_alloc (grown_alloc (grown_refl _ _) _) _) (by omega) HG.out hq HG2.out HI.out
          · obtain ⟨u, v, huv⟩ : ∃ u v, msort [i, pc + 1] = [u, v] := by rw [msort2]; split; exact ⟨_, _, rfl⟩; exact ⟨_, _, rfl⟩
            have Hc := Lib.hid (show xs = Lib.compact [u, v] by rw [← huv, targ2, Hxs.out]; simp [*])
            have Hl := Lib.hid (show (Lib.compact [u, v]).length ≤ 2 by rw [compact2]; split <;> simp)
            have Huv := Lib.hid huv
            clear huv
            go_enter Try.func22, Try.ntmps22
            go_wp2_with fail
            have hh := holds_new (w := (w.alloc (.cells #[.int .i64 op, .int .i64 a, .int .i64 b, .int .i64 c, .int .i64 i] 29))) (t := 3) [i, pc + 1]
            simp only [World.size_alloc, List.map_cons, List.map_nil] at hh
            refine (sort_any (w.heap.size + 1) 2 [i, pc + 1] _ hh (by simp) (by simp)).mono ?_
            rintro e w3 ⟨rfl, hH, hg, hq⟩
            rw [Huv.out] at hH
            have HH := Lib.hid hH
            have HG := Lib.hid hg
            clear hh hH hg
            go_wp2_with fail
            refine (compact_any (w.heap.size + 1) 2 [u, v] w3 HH.out (by simp) (by simp) Hl.out).mono ?_
            rintro e w4 ⟨rfl, hI, hg2⟩
            rw [← Hc.out] at hI ⊢
            have HI := Lib.hid hI
            have HG2 := Lib.hid hg2
            clear hI hg2
            go_wp2_with fail
            go_ret
            exact targ_end (grown_alloc (grown_alloc (grown_refl _ _) _) _) (by omega) HG.out hq HG2.out HI.out
        · have e : xs = [] := by rw [Hxs.out]; simp [*]
          subst e
          go_enter Try.func22, Try.ntmps22
          go_wp2_with fail
          go_ret
          exact ⟨none, 0, rfl, Row.nil _ _ _, grown_alloc (grown_refl _ _) _⟩
      · have e : xs = [] := by rw [Hxs.out]; simp [*]
        subst e
        go_enter Try.func22, Try.ntmps22
        go_wp2_with fail
        go_ret
        exact ⟨none, 0, rfl, Row.nil _ _ _, grown_alloc (grown_refl _ _) _⟩
    · have He := Lib.hid (show xs = [i] by rw [Hxs.out]; simp [*])
      go_enter Try.func22, Try.ntmps22
      go_wp2_with fail
      have hh := holds_new (w := (w.alloc (.cells #[.int .i64 op, .int .i64 a, .int .i64 b, .int .i64 c, .int .i64 i] 29))) (t := 3) [i]
      simp only [World.size_alloc, List.map_cons, List.map_nil] at hh
      refine (sort_any (w.heap.size + 1) 1 [i] _ hh (by simp) (by simp)).mono ?_
      rintro e w3 ⟨rfl, hH, hg, hq⟩
      rw [msort1] at hH
      have HH := Lib.hid hH
      have HG := Lib.hid hg
      clear hh hH hg
      go_wp2_with fail
      refine (compact_any (w.heap.size + 1) 1 [i] w3 HH.out (by simp) (by simp) (by rw [compact1]; simp)).mono ?_
      rintro e w4 ⟨rfl, hI, hg2⟩
      rw [compact1] at hI
      have HI := Lib.hid hI
      have HG2 := Lib.hid hg2
      clear hI hg2
      simp only [compact1]
      go_wp2_with fail
      go_ret
      rw [He.out]
      exact targ_end (grown_alloc (grown_alloc (grown_refl _ _) _) _) (by omega) HG.out hq HG2.out HI.out
  · have He := Lib.hid (show xs = [i] by rw [Hxs.out]; simp [*])
    go_enter Try.func22, Try.ntmps22
    go_wp2_with fail
    have hh := holds_new (w := (w.alloc (.cells #[.int .i64 op, .int .i64 a, .int .i64 b, .int .i64 c, .int .i64 i] 29))) (t := 3) [i]
    simp only [World.size_alloc, List.map_cons, List.map_nil] at hh
    refine (sort_any (w.heap.size + 1) 1 [i] _ hh (by simp) (by simp)).mono ?_
    rintro e w3 ⟨rfl, hH, hg, hq⟩
    rw [msort1] at hH
    have HH := Lib.hid hH
    have HG := Lib.hid hg
    clear hh hH hg
    go_wp2_with fail
    refine (compact_any (w.heap.size + 1) 1 [i] w3 HH.out (by simp) (by simp) (by rw [compact1]; simp)).mono ?_
    rintro e w4 ⟨rfl, hI, hg2⟩
    rw [compact1] at hI
    have HI := Lib.hid hI
    have HG2 := Lib.hid hg2
    clear hI hg2
    simp only [compact1]
    go_wp2_with fail
    go_ret
    rw [He.out]
    exact targ_end (grown_alloc (grown_alloc (grown_refl _ _) _) _) (by omega) HG.out hq HG2.out HI.out

end Go.Proofs.Ytenlhaondbmhnaa
