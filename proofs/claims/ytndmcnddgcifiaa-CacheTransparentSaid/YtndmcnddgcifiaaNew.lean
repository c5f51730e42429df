/- A new deck; no condition. -/
import Derived.Test.YtndmcnddgcifiaaDeck
set_option linter.unusedVariables false
set_option linter.unusedSimpArgs false
namespace Go.Proofs.Ytndmcnddgcifiaa
open Go.RowKit

def NewPost (L : List Int) (A : Option Addr) (c : Nat) (w : World) (e : Ending) (w' : World) : Prop :=
  e = .returned (.pointer (some ⟨w.heap.size, 0, none⟩)) ∧ w.alloc (.cells #[.slice A L.length c, .int .i64 0] 60) = w'

set_option maxHeartbeats 400000 in
theorem mkNew_any (A : Option Addr) (L : List Int) (c : Nat) (w : World) :
    Calls Try.prog 11 #[.slice A L.length c] w (NewPost L A c w) := by
  go_enter Try.func11, Try.ntmps11
  go_wp2
  go_ret
  exact ⟨rfl, rfl⟩

theorem deck_new {F : Nat → Prop} {A : Option Addr} {L : List Int} {c : Nat} {w : World} (h : Ints .i64 w F A L) (hF : ∀ k, F k → k < w.heap.size) (hl : L.length ≤ 9223372036854775807) (hw : I64s L) :
    DeckAt (w.alloc (.cells #[.slice A L.length c, .int .i64 0] 60)) F w.heap.size L 0 :=
  ⟨fun h => by have := hF _ h; omega, by simp, ⟨A, c, by rw [World.cell?_alloc_new]; rfl, h.keep ((Agree.refl F w).alloc hF _)⟩, by rw [World.cell?_alloc_new]; rfl, Nat.zero_le _, hl, hw,
    fun j => World.frozen?_alloc_at _ _ _ _ rfl⟩

end Go.Proofs.Ytndmcnddgcifiaa
