/- Rows of numbers made by append, as a drawn region holds them; no condition. -/
import Derived.Test.YtenlhaondbmhnaaCopy
import Derived.Test.YtenlhaondbmhnaaBk
import Derived.Test.YtenlhaondbmhnaaRely
import Derived.Deep.DeepAppendRoom
import Derived.ArgAppend
namespace Go.Proofs.Ytenlhaondbmhnaa
open Go.RowKit

section
variable {P : Program} {w : World}
theorem run_copied (k : IntKind) (t ty e : TypeId) (i : TypeInfo) (bytes : Nat) (ht : P.underlying t = some (.slice e)) (hi : P.info? e = some i) (hz : i.zero = some (.int k 0)) (hsize : i.size = 1) (hby : i.bytes = bytes)
    (A : Option Addr) (xs : List Int) (cp : Nat) (F : Nat → Prop) (hI : Ints k w F A xs) (hne : xs ≠ []) (hm : xs.length ≤ maxLen) (hb : xs.length * bytes ≤ 140737488355328) :
    ∃ g c w', (Builtin.append_ #[t, t] ty #[.slice none 0 0, .slice A xs.length cp]).run P w = .ok (.slice (some ⟨g, 0, none⟩) xs.length c) w' ∧ Buf k e w' g c xs ∧ w.heap.size ≤ g ∧ w.grownBy w' none := by
  obtain ⟨ad, rfl, hc⟩ := hI.cells hne
  obtain ⟨v', w', hr, hown, hg, _⟩ := run_append_own (P := P) w w.heap.size t ty e i (.int k 0) 1 bytes ht hi hz hsize hby rfl (by decide) (.slice none 0 0) 0 [] ⟨rfl, .inl ⟨rfl, rfl⟩⟩ ad xs.length cp (xs.map (.int k)) (by simp) hc (by simp [Value.oneCell']) (by omega) (by simpa using hb) (Nat.le_refl _)
  simp only [List.nil_append] at hown
  obtain ⟨g, c, _, rfl, hb, hB⟩ := Buf.of_own hown hne
  exact ⟨g, c, w', hr, hB, hb, hg⟩
theorem run_joined (k : IntKind) (t ty e : TypeId) (i : TypeInfo) (bytes : Nat) (ht : P.underlying t = some (.slice e)) (hi : P.info? e = some i) (hz : i.zero = some (.int k 0)) (hsize : i.size = 1) (hby : i.bytes = bytes)
    (g0 c0 : Nat) (zs : List Int) (hB : Buf k e w g0 c0 zs) (A : Option Addr) (xs : List Int) (cp : Nat) (F : Nat → Prop) (hI : Ints k w F A xs) (hne : xs ≠ []) (hm : zs.length + xs.length ≤ maxLen) (hb : (zs.length + xs.length) * bytes ≤ 140737488355328) :
    ∃ g c w', (Builtin.append_ #[t, t] ty #[.slice (some ⟨g0, 0, none⟩) zs.length c0, .slice A xs.length cp]).run P w = .ok (.slice (some ⟨g, 0, none⟩) (zs ++ xs).length c) w' ∧ Buf k e w' g c (zs ++ xs) ∧
      (g = g0 ∧ c = c0 ∧ w.grownBy w' (some g0) ∨ w.heap.size ≤ g ∧ w.grownBy w' none) := by
  obtain ⟨ad, rfl, hc⟩ := hI.cells hne
  have hown0 := hB.own (Nat.zero_le g0)
  have hne' : zs ++ xs ≠ [] := by simp [hne]
  rcases Nat.lt_or_ge c0 (zs.length + xs.length) with hl | hl
  · obtain ⟨v', w', hr, hown, hg⟩ := run_append_arg_grows (P := P) w t ty e i (.int k 0) 1 bytes ht hi hz hsize hby rfl (by decide) ⟨g0, 0, none⟩ zs.length c0 (zs.map (.int k)) (by simp) (fun j u hj => by
        have hj' : j < zs.length := by
          rcases Nat.lt_or_ge j zs.length with h' | h'
          · exact h'
          · simp [h'] at hj
        rw [show (⟨g0, 0, none⟩ : Addr).add j = ⟨g0, j, none⟩ from (by unfold Addr.add; split; (rename_i h0; subst h0; rfl); simp), hB.cell hj']
        simpa [hj'] using hj) ad xs.length cp (xs.map (.int k)) (by simp) hc hl hm hb
    rw [← List.map_append] at hown
    obtain ⟨g, c, _, rfl, hb, hB'⟩ := Buf.of_own hown hne'
    exact ⟨g, c, w', hr, hB', .inr ⟨hb, hg⟩⟩
  · obtain ⟨w', hr, hown, hg⟩ := run_append_own_spare (P := P) w 0 t ty e i 1 ht hi hsize g0 zs.length c0 (zs.map (.int k)) hown0 ad xs.length cp (xs.map (.int k)) (by simp) hc (by simp [Value.oneCell']) hl
    rw [← List.map_append] at hown
    obtain ⟨g, c, _, e, _, hB'⟩ := Buf.of_own hown hne'
    injection e with e1 e2 e3
    injection e1 with e1; injection e1 with e1
    subst e1; subst e3
    exact ⟨g0, c0, w', by rw [hr, List.length_append], hB', .inl ⟨rfl, rfl, hg⟩⟩
end

end Go.Proofs.Ytenlhaondbmhnaa
