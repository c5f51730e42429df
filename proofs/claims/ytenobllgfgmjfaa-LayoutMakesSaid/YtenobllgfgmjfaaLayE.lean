/- Places, addresses, canonical and raw cells; no condition. -/
import Derived.Test.YtenobllgfgmjfaaLayD
import Derived.Test.YtenobllgfgmjfaaNew
namespace Go.Proofs.Ytenobllgfgmjfaa
open Go.RowKit

/-- A place is one. -/
def InsP (ss : List Int) (r o : Int) : Prop := 0 ≤ r ∧ r < ss.length ∧ 0 ≤ o ∧ o < ss.getD r.toNat 0
instance (ss : List Int) (r o : Int) : Decidable (InsP ss r o) := by unfold InsP; infer_instance
def insB (ss : List Int) (r o : Int) : Bool := decide (InsP ss r o)

def BoxedBool (b : Bool) (o : Obj) (w : World) (e : Ending) (w' : World) : Prop := e = .returned (.bool b) ∧ ∃ n, (w.alloc o).drewN n = w'

set_option maxHeartbeats 1000000 in
theorem inside_any (F : Nat → Prop) (A : Option Addr) (ss : List Int) (c : Nat) (r o : Int) (w : World) (hs : ss.length ≤ 9223372036854775807) (hF : ∀ k, F k → k < w.heap.size) (h : Ints .i64 w F A ss) :
    Calls Try.prog 27 #[.slice A ss.length c, .agg #[.int .i64 r, .int .i64 o]] w (BoxedBool (insB ss r o) (.cells #[.int .i64 r, .int .i64 o] 39) w) := by
  have H := Lib.hid (h.keep ((Agree.refl F w).alloc hF (.cells #[.int .i64 r, .int .i64 o] 39))); clear h hF
  by_cases h0 : 0 ≤ r
  · have d0 : decide (0 ≤ r) = true := by simpa using h0
    by_cases h1 : r < ss.length
    · have d1 : decide (r < (ss.length : Int)) = true := by simpa using h1
      by_cases h2 : 0 ≤ o
      · have d2 : decide (0 ≤ o) = true := by simpa using h2
        obtain ⟨q, rfl⟩ := Int.eq_ofNat_of_zero_le h0
        have hq : q < ss.length := by omega
        obtain ⟨b, off, rfl, hFb, hc⟩ := H.out.at_ hq
        have e4 : (q : Int).toNat = q := by omega
        have Hx := Lib.hid (show decide (o < ss[q]) = insB ss q o by
          unfold insB InsP; simp only [Int.toNat_natCast, getD_at hq]; rw [decide_eq_decide]; exact ⟨fun h => ⟨h0, h1, h2, h⟩, fun h => h.2.2.2⟩)
        go_enter Try.func27, Try.ntmps27
        go_wp2
        go_quiet (fail)
        go_wp2
        go_ret
        exact ⟨ret_bool Hx.out, _, rfl⟩
      · have d2 : decide (0 ≤ o) = false := by simpa using h2
        have Hx := Lib.hid (show false = insB ss r o by unfold insB; rw [eq_comm, decide_eq_false_iff_not]; exact fun h => h2 h.2.2.1)
        go_enter Try.func27, Try.ntmps27
        go_wp2
        go_quiet (fail)
        go_wp2
        go_ret
        exact ⟨ret_bool Hx.out, _, rfl⟩
    · have d1 : decide (r < (ss.length : Int)) = false := by simpa using h1
      have Hx := Lib.hid (show false = insB ss r o by unfold insB; rw [eq_comm, decide_eq_false_iff_not]; exact fun h => h1 h.2.1)
      go_enter Try.func27, Try.ntmps27
      go_wp2
      go_quiet (fail)
      go_wp2
      go_ret
      exact ⟨ret_bool Hx.out, _, rfl⟩
  · have d0 : decide (0 ≤ r) = false := by simpa using h0
    have Hx := Lib.hid (show false = insB ss r o by unfold insB; rw [eq_comm, decide_eq_false_iff_not]; exact fun h => h0 h.1)
    go_enter Try.func27, Try.ntmps27
    go_wp2
    go_quiet (fail)
    go_wp2
    go_ret
    exact ⟨ret_bool Hx.out, _, rfl⟩

def TwoInts (a b : Int) (w : World) (e : Ending) (w' : World) : Prop := e = .returned (.tuple #[.int .i64 a, .int .i64 b]) ∧ w.grownBy w' none

set_option maxHeartbeats 1000000 in
theorem address_yes (F : Nat → Prop) (A B : Option Addr) (bs ss : List Int) (c d : Nat) (key : Int) (r : Nat) (o : Int) (w : World) (hs : ss.length ≤ 9223372036854775807) (hbs : bs.length ≤ 9223372036854775807) (hF : ∀ k, F k → k < w.heap.size)
    (hB : Ints .i64 w F A bs) (hS : Ints .i64 w F B ss) (hr : r < bs.length) (hi : InsP ss r o) (h0 : 0 ≤ bs[r]) (h1 : bs[r] ≤ 512) (ho : o ≤ 32) :
    Calls Try.prog 16 #[.agg #[.slice A bs.length c, .int .u16 key], .slice B ss.length d, .agg #[.int .i64 r, .int .i64 o]] w (TwoInts (bs[r] + o) 0 w) := by
  have ag := ((Agree.refl F w).alloc hF (.cells #[.slice A bs.length c, .int .u16 key] 25)).alloc (fun k hk => by have := hF k hk; simp; omega) (.cells #[.int .i64 r, .int .i64 o] 39)
  have HS := Lib.hid (hS.keep ag)
  have HB := Lib.hid (hB.keep (ag.alloc (fun k hk => by have := hF k hk; simp; omega) (.cells #[.int .i64 r, .int .i64 o] 39)))
  have HF := Lib.hid (show ∀ k, F k → k < ((w.alloc (.cells #[.slice A bs.length c, .int .u16 key] 25)).alloc (.cells #[.int .i64 r, .int .i64 o] 39)).heap.size from fun k hk => by have := hF k hk; simp; omega)
  clear hS hB ag hF
  have Hi := Lib.hid (show insB ss r o = true by simpa [insB] using hi)
  have hi0 := hi.2.2.1
  clear hi
  obtain ⟨b, off, rfl, hFb, hc⟩ := HB.out.at_ hr
  have e4 : (r : Int).toNat = r := by omega
  have e5 : (0 : Int) ≤ r := by omega
  have e6 : (r : Int) < bs.length := by omega
  go_enter Try.func16, Try.ntmps16
  go_wp2_with (go_at_call 27; refine (inside_any F _ _ _ _ _ _ hs HF.out HS.out).mono ?_; rintro e w' ⟨rfl, n, rfl⟩; rw [Hi.out])
  have x1 : IntKind.i64.wrap (bs[r] + o) = bs[r] + o := IntWalk.i64_in _ (by omega)
  go_quiet (fail)
  clear x1
  go_wp2
  go_ret2
  exact ⟨rfl, grown_drewN (grown_alloc (grown_drewN (grown_alloc (grown_alloc (grown_refl _ _) _) _) _) _) _⟩

end Go.Proofs.Ytenobllgfgmjfaa
