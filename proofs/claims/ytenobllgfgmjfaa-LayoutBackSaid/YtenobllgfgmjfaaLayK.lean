/- The canonical cell of a raw one; the deck's cells; no condition. -/
import Derived.Test.YtenobllgfgmjfaaLayJ
namespace Go.Proofs.Ytenobllgfgmjfaa
open Go.RowKit

def CanonRel (bs ss : List Int) (key tag val tag' val' r o : Int) : Prop :=
  tag = 2 ∧ tag' = 2 ∧ val' = (val - key) % 65536 ∧ r = 0 ∧ o = 0 ∨
  tag = 1 ∧ tag' = 1 ∧ val' = 0 ∧ ((∃ k : Nat, k < bs.length ∧ Hit bs ss val k ∧ r = k ∧ o = val - bs.getD k 0) ∨ (∀ k, k < bs.length → ¬ Hit bs ss val k) ∧ r = -1 ∧ o = val) ∨
  tag ≠ 1 ∧ tag ≠ 2 ∧ tag' = tag ∧ val' = val ∧ r = 0 ∧ o = 0
def CanonOut (bs ss : List Int) (key tag val : Int) (w : World) (e : Ending) (w' : World) : Prop :=
  ∃ tag' val' r o, CanonRel bs ss key tag val tag' val' r o ∧ e = .returned (.agg #[.int .u8 tag', .int .u16 val', .int .i64 r, .int .i64 o]) ∧ w.grownBy w' none

set_option maxHeartbeats 2000000 in
theorem canon_any (A B : Option Addr) (bs ss : List Int) (c d : Nat) (key tag val : Int) (w : World) (hlv : LV bs ss) (hk0 : 0 ≤ key) (hk1 : key ≤ 65535) (hv0 : 0 ≤ val) (hv1 : val ≤ 65535)
    (hB : Ints .i64 w (fun k => k < w.heap.size) A bs) (hS : Ints .i64 w (fun k => k < w.heap.size) B ss) :
    Calls Try.prog 21 #[.agg #[.slice A bs.length c, .int .u16 key], .slice B ss.length d, .agg #[.int .u8 tag, .int .u16 val]] w (CanonOut bs ss key tag val w) := by
  have hl4 := hlv.1.2.1
  have hl5 : bs.length ≤ 4 := by have := hlv.2.1; omega
  have HB := Lib.hid (hB.low (w3_low (A := A) (n := bs.length) (c := c) (key := key) (x := #[.int .u8 tag, .int .u16 val]) (tx := 51) (y := #[.int .u8 0, .int .u16 0, .int .i64 0, .int .i64 0]) (ty := 48)))
  have HS := Lib.hid (hS.low (w3_low (A := A) (n := bs.length) (c := c) (key := key) (x := #[.int .u8 tag, .int .u16 val]) (tx := 51) (y := #[.int .u8 0, .int .u16 0, .int .i64 0, .int .i64 0]) (ty := 48)))
  have HLV := Lib.hid hlv
  clear hB hS hlv
  unfold w3 at HB HS
  by_cases h2 : tag = 2
  · subst h2
    have hwr : IntKind.u16.wrap (val - key) = (val - key) % 65536 := IntKind.wrap_u16 _
    go_enter Try.func21, Try.ntmps21
    go_wp2
    refine bodyPost_ret (v := .agg #[.int .u8 2, .int .u16 ((val - key) % 65536), .int .i64 0, .int .i64 0]) (by simp [results, Try.results21, go_sem, *]) rfl ⟨_, _, _, _, .inl ⟨rfl, rfl, rfl, rfl, rfl⟩, rfl, ?_⟩
    repeat (first | exact grown_refl _ _ | refine grown_alloc ?_ _ | refine grown_set ?_ (.inr (by dsimp only; omega)) _)
  · by_cases h1 : tag = 1
    · subst h1
      clear h2
      go_enter Try.func21, Try.ntmps21
      go_wp2_with fail
      refine resolve_walk _ A B bs ss c d key val _ (fun k hk => hk) HLV.out (by omega) (by omega) HB.out HS.out _ ?hyes ?hno
      case hyes =>
        intro k w5 hk hhit _ hg5
        have Hh := Lib.hid hhit
        obtain ⟨o, ho⟩ : ∃ o, o = val - bs.getD k 0 := ⟨_, rfl⟩
        rw [← ho]
        have Ho := Lib.hid ho
        obtain ⟨hgc5, hgf5⟩ := gcell hg5
        have Hg5 := Lib.hid (grown_trans w3_low hg5)
        have hsz5 := hg5.size
        simp only [World.size_alloc] at hsz5
        have hy0 : w.heap.size < w5.heap.size := by omega
        have hy1 : w.heap.size + 1 < w5.heap.size := by omega
        have hy2 : w.heap.size + 1 + 1 < w5.heap.size := by omega
        clear hg5 hhit ho
        go_wp2
        refine bodyPost_ret (v := .agg #[.int .u8 1, .int .u16 0, .int .i64 k, .int .i64 o]) (by simp [results, Try.results21, go_sem, *]) rfl ⟨_, _, _, _, .inr (.inl ⟨rfl, rfl, rfl, .inl ⟨k, hk, Hh.out, rfl, Ho.out⟩⟩), rfl, ?_⟩
        repeat (first | exact Hg5.out | refine grown_alloc ?_ _ | refine grown_set ?_ (.inr (by dsimp only; omega)) _)
      case hno =>
        intro w5 hnone hg5
        have Hh := Lib.hid hnone
        obtain ⟨hgc5, hgf5⟩ := gcell hg5
        have Hg5 := Lib.hid (grown_trans w3_low hg5)
        have hsz5 := hg5.size
        simp only [World.size_alloc] at hsz5
        have hy0 : w.heap.size < w5.heap.size := by omega
        have hy1 : w.heap.size + 1 < w5.heap.size := by omega
        have hy2 : w.heap.size + 1 + 1 < w5.heap.size := by omega
        clear hg5 hnone
        go_wp2
        refine bodyPost_ret (v := .agg #[.int .u8 1, .int .u16 0, .int .i64 (-1), .int .i64 val]) (by simp [results, Try.results21, go_sem, *]) rfl ⟨_, _, _, _, .inr (.inl ⟨rfl, rfl, rfl, .inr ⟨Hh.out, rfl, rfl⟩⟩), rfl, ?_⟩
        repeat (first | exact Hg5.out | refine grown_alloc ?_ _ | refine grown_set ?_ (.inr (by dsimp only; omega)) _)
    · have d1 : (tag == 1) = false := by simp [h1]
      have d2 : (tag == 2) = false := by simp [h2]
      have Hr := Lib.hid (show CanonRel bs ss key tag val tag val 0 0 from .inr (.inr ⟨h1, h2, rfl, rfl, rfl, rfl⟩))
      clear h1 h2
      go_enter Try.func21, Try.ntmps21
      go_wp2
      refine bodyPost_ret (v := .agg #[.int .u8 tag, .int .u16 val, .int .i64 0, .int .i64 0]) (by simp [results, Try.results21, go_sem, *]) rfl ⟨_, _, _, _, Hr.out, rfl, ?_⟩
      repeat (first | exact grown_refl _ _ | refine grown_alloc ?_ _ | refine grown_set ?_ (.inr (by dsimp only; omega)) _)

end Go.Proofs.Ytenobllgfgmjfaa
