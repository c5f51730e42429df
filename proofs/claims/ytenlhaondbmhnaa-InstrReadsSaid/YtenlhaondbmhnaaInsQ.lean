/- What bytes are read as, whatever they are; rows of bytes in a drawn region; no condition. -/
import Derived.Test.YtenlhaondbmhnaaInsD
import Derived.Test.YtenlhaondbmhnaaJoin
namespace Go.Proofs.Ytenlhaondbmhnaa
open Go.RowKit

def dec (zs : List Int) (j : Nat) : Int := if decOk zs = true then [zs.getD 0 0, zs.getD 1 0, zs.getD 2 0, zs.getD 3 0, zs.getD 4 0 * 256 + zs.getD 5 0].getD j 0 else 0
def decE (zs : List Int) : Int := if zs.length < 6 then 4 else if decOk zs = true then 0 else 5

theorem instr_Decode_any (F : Nat → Prop) (A : Option Addr) (zs : List Int) (cp : Nat) (w : World) (hl : zs.length ≤ 9223372036854775807) (hF : ∀ k, F k → k < w.heap.size) (hx : Ints .u8 w F A zs) (hw : ∀ x ∈ zs, 0 ≤ x ∧ x ≤ 255) :
    Calls Try.prog 13 #[.slice A zs.length cp] w (DecPost (dec zs 0) (dec zs 1) (dec zs 2) (dec zs 3) (dec zs 4) (decE zs) w) := by
  by_cases h6 : zs.length < 6
  · have hd : decOk zs = false := by simp only [decOk, Bool.and_eq_false_iff, decide_eq_false_iff_not]; left; omega
    have h := instr_Decode_short A zs cp w h6
    simp only [dec, decE, hd, if_pos h6, Bool.false_eq_true, if_false]
    exact h
  · have hg : ∀ (j : Nat) (hj : j < zs.length), zs.getD j 0 = zs[j] := fun j hj => by simp [List.getD, hj]
    refine instr_Decode_long F A zs cp zs[0] zs[1] zs[2] zs[3] zs[4] zs[5] w hl hF hx hw (by omega) rfl rfl rfl rfl rfl rfl _ ?_ ?_
    · intro he hv w' hg'
      have hd : decOk zs = true := by
        simp only [decOk, Bool.and_eq_true, decide_eq_true_eq]
        exact ⟨he, by rw [hg 0 (by omega), hg 1 (by omega), hg 2 (by omega), hg 3 (by omega), hg 4 (by omega), hg 5 (by omega)]; exact hv⟩
      refine ⟨?_, hg'⟩
      simp only [dec, decE, hd, if_neg h6, if_true, List.getD_cons_zero, List.getD_cons_succ, hg 0 (by omega), hg 1 (by omega), hg 2 (by omega), hg 3 (by omega), hg 4 (by omega), hg 5 (by omega)]
    · intro hor w' hg'
      have hd : decOk zs = false := by
        simp only [decOk, Bool.and_eq_false_iff, decide_eq_false_iff_not]
        rcases hor with h | h
        · exact .inl h
        · exact .inr (by rw [hg 0 (by omega), hg 1 (by omega), hg 2 (by omega), hg 3 (by omega), hg 4 (by omega), hg 5 (by omega)]; exact h)
      refine ⟨?_, hg'⟩
      simp only [dec, decE, hd, if_neg h6, Bool.false_eq_true, if_false]
theorem ref06_Decode_any (F : Nat → Prop) (A : Option Addr) (zs : List Int) (cp : Nat) (w : World) (hl : zs.length ≤ 9223372036854775807) (hF : ∀ k, F k → k < w.heap.size) (hx : Ints .u8 w F A zs) (hw : ∀ x ∈ zs, 0 ≤ x ∧ x ≤ 255) :
    Calls Try.prog 14 #[.slice A zs.length cp] w (DecPost (dec zs 0) (dec zs 1) (dec zs 2) (dec zs 3) (dec zs 4) (decE zs) w) := by
  by_cases h6 : zs.length < 6
  · have hd : decOk zs = false := by simp only [decOk, Bool.and_eq_false_iff, decide_eq_false_iff_not]; left; omega
    have h := ref06_Decode_short A zs cp w h6
    simp only [dec, decE, hd, if_pos h6, Bool.false_eq_true, if_false]
    exact h
  · have hg : ∀ (j : Nat) (hj : j < zs.length), zs.getD j 0 = zs[j] := fun j hj => by simp [List.getD, hj]
    refine ref06_Decode_long F A zs cp zs[0] zs[1] zs[2] zs[3] zs[4] zs[5] w hl hF hx hw (by omega) rfl rfl rfl rfl rfl rfl _ ?_ ?_
    · intro he hv w' hg'
      have hd : decOk zs = true := by
        simp only [decOk, Bool.and_eq_true, decide_eq_true_eq]
        exact ⟨he, by rw [hg 0 (by omega), hg 1 (by omega), hg 2 (by omega), hg 3 (by omega), hg 4 (by omega), hg 5 (by omega)]; exact hv⟩
      refine ⟨?_, hg'⟩
      simp only [dec, decE, hd, if_neg h6, if_true, List.getD_cons_zero, List.getD_cons_succ, hg 0 (by omega), hg 1 (by omega), hg 2 (by omega), hg 3 (by omega), hg 4 (by omega), hg 5 (by omega)]
    · intro hor w' hg'
      have hd : decOk zs = false := by
        simp only [decOk, Bool.and_eq_false_iff, decide_eq_false_iff_not]
        rcases hor with h | h
        · exact .inl h
        · exact .inr (by rw [hg 0 (by omega), hg 1 (by omega), hg 2 (by omega), hg 3 (by omega), hg 4 (by omega), hg 5 (by omega)]; exact h)
      refine ⟨?_, hg'⟩
      simp only [dec, decE, hd, if_neg h6, Bool.false_eq_true, if_false]

theorem Buf.part {k : IntKind} {e : TypeId} {w : World} {g c : Nat} {xs ys : List Int} (h : Buf k e w g c (xs ++ ys)) : Buf k e w g c xs := by
  obtain ⟨cur, h1, h2, h3⟩ := h.eq
  have hl := h.len
  simp only [List.length_append] at hl h3
  refine ⟨by omega, h.cap, cur, h1, h2, ?_⟩
  have := congrArg (List.take xs.length) h3
  rw [List.take_take, Nat.min_eq_left (by omega), List.map_append, List.take_left' (by simp)] at this
  exact this
theorem Buf.same {k : IntKind} {e : TypeId} {w : World} {g c c' : Nat} {xs ys : List Int} (h : Buf k e w g c xs) (h' : Buf k e w g c' ys) : c = c' := by
  obtain ⟨cur, h1, h2, _⟩ := h.eq
  obtain ⟨cur', h1', h2', _⟩ := h'.eq
  rw [h1] at h1'
  injection h1' with h1'; injection h1' with h1'
  subst h1'
  omega

/-- What the rows that a drawn region makes are kept by. -/
structure RR (N : Nat) (xs : List Int) (b : Int) (w w' : World) : Prop where
  b6 : ∀ g c, Buf .u8 5 w g c xs → Buf .u8 5 w' g c xs
  b7 : ∀ g c, Buf .u8 5 w g c (xs ++ [b]) → Buf .u8 5 w' g c (xs ++ [b])
  one : ∀ q, Bk w q 5 [.int .u8 b] → Bk w' q 5 [.int .u8 b]
  rows : ∀ q vs, Bk w q 22 vs → Bk w' q 22 vs
theorem RR.refl {N : Nat} {xs : List Int} {b : Int} {w : World} : RR N xs b w w := ⟨fun _ _ h => h, fun _ _ h => h, fun _ h => h, fun _ _ h => h⟩
theorem RR.none {N : Nat} {xs : List Int} {b : Int} {w w' : World} (hg : w.grownBy w' none) : RR N xs b w w' :=
  ⟨fun _ _ h => h.grow hg, fun _ _ h => h.grow hg, fun _ h => h.grow hg, fun _ _ h => h.grow hg⟩
theorem RR.joined {N : Nat} {xs : List Int} {b : Int} {w w' : World} {g c : Nat} (hx : 2 ≤ xs.length) (h : Buf .u8 5 w g c xs) (h' : Buf .u8 5 w' g c (xs ++ [b])) (hg : w.grownBy w' (some g)) : RR N xs b w w' := by
  obtain ⟨cur, k1, k2, _⟩ := h.eq
  have hlen := h.len
  refine ⟨fun q d hq => ?_, fun q d hq => ?_, fun q hq => ?_, fun q vs hq => ?_⟩
  · by_cases e : q = g
    · subst e; rw [hq.same h]; exact h'.part
    · exact hq.keep (hg.block q hq.hi (by simp; exact e))
  · by_cases e : q = g
    · subst e; rw [hq.same h]; exact h'
    · exact hq.keep (hg.block q hq.hi (by simp; exact e))
  · by_cases e : q = g
    · subst e
      unfold Bk at hq
      rw [k1] at hq
      injection hq with hq; injection hq with hq
      rw [hq] at k2
      simp at k2
      omega
    · exact hq.keep (hg.block q hq.hi (by simp; exact e))
  · by_cases e : q = g
    · subst e
      unfold Bk at hq
      rw [k1] at hq
      injection hq with hq; injection hq with _ hq
      cases hq
    · exact hq.keep (hg.block q hq.hi (by simp; exact e))

def S6 (N : Nat) (xs : List Int) (v : Value) (w : World) : Prop := ∃ g c, v = .slice (some ⟨g, 0, none⟩) xs.length c ∧ N ≤ g ∧ Buf .u8 5 w g c xs
def S1 (N : Nat) (b : Int) (v : Value) (w : World) : Prop := ∃ q, v = .slice (some ⟨q, 0, none⟩) 1 1 ∧ N ≤ q ∧ Bk w q 5 [.int .u8 b]
def S5 (N : Nat) (v0 v1 v2 v3 : Value) (ys : List Int) (v : Value) (w : World) : Prop :=
  ∃ q g c, v = .slice (some ⟨q, 0, none⟩) 5 5 ∧ N ≤ q ∧ Bk w q 22 [v0, v1, v2, v3, .slice (some ⟨g, 0, none⟩) ys.length c] ∧ Buf .u8 5 w g c ys
theorem S6.kept6 {N : Nat} {xs : List Int} {b : Int} (w w' : World) (v : Value) (hr : RR N xs b w w') (h : S6 N xs v w) : S6 N xs v w' :=
  let ⟨g, c, e, hN, hB⟩ := h; ⟨g, c, e, hN, hr.b6 _ _ hB⟩
theorem S6.kept7 {N : Nat} {xs : List Int} {b : Int} (w w' : World) (v : Value) (hr : RR N xs b w w') (h : S6 N (xs ++ [b]) v w) : S6 N (xs ++ [b]) v w' :=
  let ⟨g, c, e, hN, hB⟩ := h; ⟨g, c, e, hN, hr.b7 _ _ hB⟩
theorem S1.kept {N : Nat} {xs : List Int} {b : Int} (w w' : World) (v : Value) (hr : RR N xs b w w') (h : S1 N b v w) : S1 N b v w' :=
  let ⟨q, e, hN, hB⟩ := h; ⟨q, e, hN, hr.one _ hB⟩
theorem S5.kept {N : Nat} {xs : List Int} {b : Int} {v0 v1 v2 v3 : Value} (w w' : World) (v : Value) (hr : RR N xs b w w') (h : S5 N v0 v1 v2 v3 (xs ++ [b]) v w) : S5 N v0 v1 v2 v3 (xs ++ [b]) v w' :=
  let ⟨q, g, c, e, hN, hK, hB⟩ := h; ⟨q, g, c, e, hN, hr.rows _ _ hK, hr.b7 _ _ hB⟩

end Go.Proofs.Ytenlhaondbmhnaa
