/- The deck's words; no condition. -/
import Derived.Test.YtndmcnddgcifiaaDeck
set_option linter.unusedVariables false
set_option linter.unusedSimpArgs false
namespace Go.Proofs.Ytndmcnddgcifiaa
open Go.RowKit

def WordPost (F : Nat → Prop) (g : Nat) (L : List Int) (w : World) (e : Ending) (w' : World) : Prop :=
  ∃ v : Int, 0 ≤ v ∧ v ≤ 65535 ∧ e = .returned (.int .u16 v) ∧ Deals F g L w w'

set_option maxHeartbeats 1000000 in
theorem word_any (F : Nat → Prop) (g : Nat) (L : List Int) (i : Nat) (w : World) (h : DeckAt w F g L i) :
    Calls Try.prog 32 #[.pointer (some ⟨g, 0, none⟩)] w (WordPost F g L w) := by
  go_enter Try.func32, Try.ntmps32
  go_wp2_with fail
  refine (next_any F g L i 5 _ h (by omega) (by omega)).mono ?_
  rintro e w1 ⟨v, hv0, hv1, rfl, hd⟩
  obtain ⟨⟨j1, h1⟩, hg1⟩ := hd
  have HG := Lib.hid hg1
  clear hg1
  rcases (show v = 0 ∨ v = 1 ∨ v = 2 ∨ v = 3 ∨ v = 4 by omega) with rfl | rfl | rfl | rfl | rfl
  · go_wp2_with (go_at_call 18; refine (next_any F g L j1 8 _ h1 (by omega) (by omega)).mono ?_; rintro e w2 ⟨u, hu0, hu1, rfl, hd2⟩; have HD := Lib.hid (hd2.from_ HG.out); clear hd2)
    go_ret
    exact ⟨_, by omega, by omega, rfl, HD.out⟩
  · go_wp2_with (go_at_call 18; refine (next_any F g L j1 8 _ h1 (by omega) (by omega)).mono ?_; rintro e w2 ⟨u, hu0, hu1, rfl, hd2⟩; have HD := Lib.hid (hd2.from_ HG.out); clear hd2)
    go_ret
    exact ⟨_, by omega, by omega, rfl, HD.out⟩
  · go_wp2_with (go_at_call 18; refine (next_any F g L j1 8 _ h1 (by omega) (by omega)).mono ?_; rintro e w2 ⟨u, hu0, hu1, rfl, hd2⟩; have HD := Lib.hid (hd2.from_ HG.out); clear hd2)
    go_ret
    exact ⟨_, by omega, by omega, rfl, HD.out⟩
  · go_wp2_with (go_at_call 18; refine (next_any F g L j1 3 _ h1 (by omega) (by omega)).mono ?_; rintro e w2 ⟨u, hu0, hu1, rfl, hd2⟩; have HD := Lib.hid (hd2.from_ HG.out); clear hd2)
    go_ret
    exact ⟨_, by omega, by omega, rfl, HD.out⟩
  · go_wp2_with (go_at_call 18; refine (next_any F g L j1 65536 _ h1 (by omega) (by omega)).mono ?_; rintro e w2 ⟨u, hu0, hu1, rfl, hd2⟩; have HD := Lib.hid (hd2.from_ HG.out); clear hd2)
    go_ret
    exact ⟨_, by omega, by omega, rfl, HD.out⟩

end Go.Proofs.Ytndmcnddgcifiaa
