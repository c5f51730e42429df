/- A string made of a row of bytes; no condition. -/
import Derived.Test.YtenlhaondbmhnaaMem
import Derived.Laws.BytesArg
namespace Go.Proofs.Ytenlhaondbmhnaa
open Go.RowKit

theorem str_run {F : Nat → Prop} {A : Option Addr} {xs : List Int} (cp : Nat) {w : World} (h : Ints .u8 w F A xs) :
    (convert 22 9 (.slice A xs.length cp)).run Try.prog w = .ok (.string (strOfNums xs)) w := by
  cases A with
  | none =>
    cases xs with
    | nil => exact run_convert_bytes_nil w 22 5 Try.underlying22 Try.underlying5 _ _ 9 Try.underlying9
    | cons x xs => obtain ⟨b, off, e, _⟩ := h.at_ (i := 0) (by simp); cases e
  | some a =>
    cases xs with
    | nil =>
      have hl : (loadCells a 0).run Try.prog w = .ok (([] : List Int).map (Value.int .u8)).toArray w := by
        have := run_loadCells_list (P := Try.prog) w a [] (fun j v hj => by simp at hj)
        simpa using this
      rw [run_convert_bytes_string w 22 9 5 _ _ _ Try.underlying22 Try.underlying5 Try.underlying9]
      exact run_bytesToString w a 0 cp [] hl
    | cons x xs =>
      obtain ⟨b, off, e, _, _⟩ := h.at_ (i := 0) (by simp)
      injection e with e; subst e
      exact run_convert_bytes_arg w 22 5 Try.underlying22 Try.underlying5 b off _ cp (x :: xs) rfl (fun i hi => by
        obtain ⟨b', off', e', _, hc⟩ := h.at_ hi
        injection e' with e'; injection e' with e1 e2; subst e1; subst e2
        rw [hc, List.getD_eq_getElem?_getD, List.getElem?_eq_getElem hi]; rfl) 9 Try.underlying9

def Bytes (xs : List Int) : Prop := ∀ x ∈ xs, 0 ≤ x ∧ x < 256
theorem str_inj : ∀ {xs ys : List Int}, Bytes xs → Bytes ys → (strOfNums xs = strOfNums ys ↔ xs = ys) := by
  intro xs ys hx hy
  refine ⟨fun h => ?_, fun h => by rw [h]⟩
  have h1 : xs.map (fun n => UInt8.ofNat n.toNat) = ys.map (fun n => UInt8.ofNat n.toNat) := by
    rw [← strOfNums_data, ← strOfNums_data, h]
  clear h
  induction xs generalizing ys with
  | nil => cases ys with
    | nil => rfl
    | cons y ys => simp at h1
  | cons x xs ih =>
    cases ys with
    | nil => simp at h1
    | cons y ys =>
      simp only [List.map_cons, List.cons.injEq] at h1
      have e := ih (fun z hz => hx z (List.mem_cons_of_mem _ hz)) (fun z hz => hy z (List.mem_cons_of_mem _ hz)) h1.2
      have a := hx x (List.mem_cons_self ..)
      have b := hy y (List.mem_cons_self ..)
      have e0 : x.toNat = y.toNat := by
        have := congrArg UInt8.toNat h1.1
        simpa [UInt8.toNat_ofNat', Nat.mod_eq_of_lt (show x.toNat < 256 by omega), Nat.mod_eq_of_lt (show y.toNat < 256 by omega)] using this
      rw [e, show x = y by omega]

end Go.Proofs.Ytenlhaondbmhnaa
