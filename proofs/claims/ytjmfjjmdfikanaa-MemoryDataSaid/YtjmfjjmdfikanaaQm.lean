/- Places of addresses; whether a memory is valid, on trees. -/
import Derived.Test.YtjmfjjmdfikanaaQl
set_option linter.unusedVariables false
set_option linter.unusedSimpArgs false
namespace Go.Proofs.Ytjmfjjmdfikanaa
open Go.RowKit

section
variable (box : FuncId → Option (Nat × List BxC)) (ps : FuncId → List (Option Nat)) (F : Callee) (N : Nat)
def tfRes : TFn := { np := 3, pp := [], nt := 38, body := .seq (.reg 0 none [{ dst := some 3, guard := none, op := .box 2 true (.t 0) }, { dst := some 6, guard := none, op := .alloc [.int (.i64) 0, .int (.i64) 0] }, { dst := some 7, guard := none, op := .asn true (.c (.bool false)) }] ([1, 2, 3, 6], [4, 5, 6, 7, 8, 9, 14, 15])) (.seq (.seq (.reg 1 none [{ dst := some 10, guard := none, op := .fld 0 (.t 3) }, { dst := some 11, guard := none, op := .load none (.t 10) }, { dst := some 12, guard := none, op := .len (.t 11) }, { dst := some 13, guard := none, op := .mov (.c (.int (.i64) 0)) }] ([1, 2, 6, 11, 12, 13], [4, 5, 6, 7, 8, 9, 14, 15, 22, 23, 24, 25, 26, 27, 28, 29, 74, 75])) (.block 0 (.loop (.seq (.reg 2 none [{ dst := some 14, guard := none, op := .bin (.lss) (.t 13) (.t 12) }] ([1, 2, 6, 11, 12, 13, 14], [4, 5, 6, 7, 8, 9, 14, 15, 22, 23, 24, 25, 26, 27, 28, 29, 30, 31, 74, 75])) (.seq (.cond (.t 14) (.skip) (.exit 0)) (.seq (.block 1 (.seq (.reg 3 none [{ dst := some 15, guard := none, op := .mov (.t 13) }, { dst := some 16, guard := none, op := .idx 1 (.t 11) (.t 13) }, { dst := some 17, guard := none, op := .load none (.t 16) }, { dst := some 8, guard := none, op := .asn false (.t 15) }, { dst := some 9, guard := none, op := .asn false (.t 17) }] ([1, 2, 6, 8, 9, 11, 12, 13], [4, 5, 6, 7, 8, 9, 14, 15, 18, 19, 20, 21, 22, 23, 24, 25, 26, 27, 28, 29, 74, 75])) (.seq (.reg 4 none [{ dst := some 18, guard := none, op := .mov (.t 2) }, { dst := some 19, guard := none, op := .mov (.t 9) }, { dst := some 20, guard := none, op := .bin (.geq) (.t 18) (.t 19) }, { dst := some 21, guard := none, op := .mov (.t 20) }, { dst := some 22, guard := some (21, true), op := .mov (.t 2) }, { dst := some 23, guard := some (21, true), op := .mov (.t 9) }, { dst := some 24, guard := some (21, true), op := .mov (.t 1) }, { dst := some 25, guard := some (21, true), op := .mov (.t 8) }, { dst := some 26, guard := some (21, true), op := .idx 1 (.t 24) (.t 25) }, { dst := some 27, guard := some (21, true), op := .load none (.t 26) }, { dst := some 28, guard := some (21, true), op := .bin (.add) (.t 23) (.t 27) }, { dst := some 29, guard := some (21, true), op := .bin (.lss) (.t 22) (.t 28) }, { dst := some 30, guard := none, op := .pick (.t 21) (.t 29) (.c (.bool false)) }] ([1, 2, 6, 8, 9, 11, 12, 13, 30], [4, 5, 6, 7, 8, 9, 14, 15, 18, 19, 20, 21, 22, 23, 24, 25, 26, 27, 28, 29, 42, 43, 44, 45, 60, 61, 62, 63, 74, 75])) (.cond (.t 30) (.seq (.reg 5 none [{ dst := some 31, guard := none, op := .mov (.t 8) }, { dst := some 32, guard := none, op := .mov (.t 2) }, { dst := some 33, guard := none, op := .mov (.t 9) }, { dst := some 34, guard := none, op := .bin (.sub) (.t 32) (.t 33) }, { dst := some 35, guard := none, op := .bld [.int (.i64) 0, .int (.i64) 0] true [(0, 1, .t 31), (1, 1, .t 34)] }, { dst := none, guard := none, op := .store 2 true (.t 6) (.t 35) }, { dst := some 7, guard := none, op := .asn true (.c (.bool true)) }] ([6, 7], [14, 15, 16, 17])) (.ret)) (.skip))))) (.reg 6 none [{ dst := some 36, guard := none, op := .bin (.add) (.t 13) (.c (.int (.i64) 1)) }, { dst := some 13, guard := none, op := .mov (.t 36) }] ([1, 2, 6, 11, 12, 13], [4, 5, 6, 7, 8, 9, 14, 15, 22, 23, 24, 25, 26, 27, 28, 29, 74, 75])))))))) (.seq (.reg 7 none [{ dst := some 37, guard := none, op := .bld [.int (.i64) 0, .int (.i64) 0] true [] }, { dst := none, guard := none, op := .store 2 true (.t 6) (.t 37) }, { dst := some 7, guard := none, op := .asn true (.c (.bool false)) }] ([6, 7], [14, 15, 16, 17])) (.ret))), res := [.cell 6 (some 2), .tmp 7] }
def InReg (sizes B : List Int) (a : Int) (r : Nat) : Prop := ∃ (h : r < B.length) (h' : r < sizes.length), B[r] ≤ a ∧ a < B[r] + sizes[r]
def ResIs (sizes B : List Int) (a rg off : Int) (ok : Bool) : Prop :=
  ok = true ∧ (∃ (r : Nat) (h : r < B.length), rg = r ∧ InReg sizes B a r ∧ off = a - B[r]) ∨ ok = false ∧ ∀ r, ¬ InReg sizes B a r
def ResC (F : Callee) : Prop := ∀ sizes B key a, SizesOk sizes → LayOk sizes B → 0 ≤ a → a < 512 → ∃ rg off ok, F 9 [.agg [.sl (B.map encI), .v (.int .u16 key)], .sl (sizes.map encI), .v (.int .i64 a)] [] = some (⟨[.v (.int .i64 rg), .v (.int .i64 off), .v (.bool ok)], [.agg 2, .one]⟩, []) ∧ ResIs sizes B a rg off ok
def stR (Z Bm : List (List TV)) (key a n i : Int) : St := ⟨[(1, .sl Z), (2, .v (.int .i64 a)), (6, .ptr ⟨14, 0, []⟩ [0]), (11, .sl Bm), (12, .v (.int .i64 n)), (13, .v (.int .i64 i))], [(8, [.sl Bm, .v (.int .u16 key)]), (14, [.v (.int .i64 0), .v (.int .i64 0)])], []⟩
def stR' (Z Bm : List (List TV)) (key a n : Int) : St := ⟨[(1, .sl Z), (2, .v (.int .i64 a)), (6, .ptr ⟨14, 0, []⟩ [0]), (11, .sl Bm), (12, .v (.int .i64 n)), (13, .v (.int .i64 n)), (14, .v (.bool false))], [(8, [.sl Bm, .v (.int .u16 key)]), (14, [.v (.int .i64 0), .v (.int .i64 0)])], []⟩
def stR1 (r off : Int) : St := ⟨[(6, .ptr ⟨14, 0, []⟩ [0]), (7, .v (.bool true))], [(14, [.v (.int .i64 r), .v (.int .i64 off)])], []⟩
set_option maxRecDepth 100000 in
set_option maxHeartbeats 8000000 in
theorem res_loop (E : Env) (key : Int) (sizes B : List Int) (h : SizesOk sizes) (hB : LayOk sizes B) (a : Int) (ha : 0 ≤ a) (ha2 : a < 512) : ∀ j m σ, (∃ i : Nat, σ = stR (sizes.map encI) (B.map encI) key a B.length i ∧ i + j = B.length ∧ ∀ r, r < i → ¬ InReg sizes B a r) → j < m →
    ∃ e σ', realP.it (S.runC realP (S.evCall realP E F) N (.seq (.reg 2 none [{ dst := some 14, guard := none, op := .bin (.lss) (.t 13) (.t 12) }] ([1, 2, 6, 11, 12, 13, 14], [4, 5, 6, 7, 8, 9, 14, 15, 22, 23, 24, 25, 26, 27, 28, 29, 30, 31, 74, 75])) (.seq (.cond (.t 14) (.skip) (.exit 0)) (.seq (.block 1 (.seq (.reg 3 none [{ dst := some 15, guard := none, op := .mov (.t 13) }, { dst := some 16, guard := none, op := .idx 1 (.t 11) (.t 13) }, { dst := some 17, guard := none, op := .load none (.t 16) }, { dst := some 8, guard := none, op := .asn false (.t 15) }, { dst := some 9, guard := none, op := .asn false (.t 17) }] ([1, 2, 6, 8, 9, 11, 12, 13], [4, 5, 6, 7, 8, 9, 14, 15, 18, 19, 20, 21, 22, 23, 24, 25, 26, 27, 28, 29, 74, 75])) (.seq (.reg 4 none [{ dst := some 18, guard := none, op := .mov (.t 2) }, { dst := some 19, guard := none, op := .mov (.t 9) }, { dst := some 20, guard := none, op := .bin (.geq) (.t 18) (.t 19) }, { dst := some 21, guard := none, op := .mov (.t 20) }, { dst := some 22, guard := some (21, true), op := .mov (.t 2) }, { dst := some 23, guard := some (21, true), op := .mov (.t 9) }, { dst := some 24, guard := some (21, true), op := .mov (.t 1) }, { dst := some 25, guard := some (21, true), op := .mov (.t 8) }, { dst := some 26, guard := some (21, true), op := .idx 1 (.t 24) (.t 25) }, { dst := some 27, guard := some (21, true), op := .load none (.t 26) }, { dst := some 28, guard := some (21, true), op := .bin (.add) (.t 23) (.t 27) }, { dst := some 29, guard := some (21, true), op := .bin (.lss) (.t 22) (.t 28) }, { dst := some 30, guard := none, op := .pick (.t 21) (.t 29) (.c (.bool false)) }] ([1, 2, 6, 8, 9, 11, 12, 13, 30], [4, 5, 6, 7, 8, 9, 14, 15, 18, 19, 20, 21, 22, 23, 24, 25, 26, 27, 28, 29, 42, 43, 44, 45, 60, 61, 62, 63, 74, 75])) (.cond (.t 30) (.seq (.reg 5 none [{ dst := some 31, guard := none, op := .mov (.t 8) }, { dst := some 32, guard := none, op := .mov (.t 2) }, { dst := some 33, guard := none, op := .mov (.t 9) }, { dst := some 34, guard := none, op := .bin (.sub) (.t 32) (.t 33) }, { dst := some 35, guard := none, op := .bld [.int (.i64) 0, .int (.i64) 0] true [(0, 1, .t 31), (1, 1, .t 34)] }, { dst := none, guard := none, op := .store 2 true (.t 6) (.t 35) }, { dst := some 7, guard := none, op := .asn true (.c (.bool true)) }] ([6, 7], [14, 15, 16, 17])) (.ret)) (.skip))))) (.reg 6 none [{ dst := some 36, guard := none, op := .bin (.add) (.t 13) (.c (.int (.i64) 1)) }, { dst := some 13, guard := none, op := .mov (.t 36) }] ([1, 2, 6, 11, 12, 13], [4, 5, 6, 7, 8, 9, 14, 15, 22, 23, 24, 25, 26, 27, 28, 29, 74, 75])))))) m σ = some (e, σ') ∧ (e = .exit 0 ∧ σ' = stR' (sizes.map encI) (B.map encI) key a B.length ∧ (∀ r, ¬ InReg sizes B a r) ∨ ∃ (r : Nat) (h : r < B.length), e = .ret ∧ σ' = stR1 r (a - B[r]) ∧ InReg sizes B a r) := by
  refine it_some _ _ ?_
  rintro j σ ⟨i, rfl, hij, hno⟩
  have hl := h.l1
  have hBl := hB.len
  cases j with
  | zero =>
    obtain rfl : i = B.length := by omega
    refine ⟨.exit 0, stR' (sizes.map encI) (B.map encI) key a B.length, ?_, .inr ⟨by simp, .inl ⟨rfl, rfl, ?_⟩⟩⟩
    · have hlt : realP.cm .lss (B.length : Int) (B.length : Int) = false := lss_f (by omega)
      simp only [stR, stR']
      generalize sizes.map encI = Z at *
      generalize B.map encI = W at *
      generalize (B.length : Int) = n at *
      (generalize realP = Pr at *; obtain ⟨ar, cm, sh, sb, un, cv, natI, lenN, inb, inw, elt, addN, subN, slOk, win, immC, immW, allLen, appOk, cat, mkOk, rep, getC, setC, shC, eqf, eqB, notB, fmm, strAt, strLen, strB, strOk, bstr, cpy, it⟩ := Pr; try dsimp only at *)
      ((repeat (cbv; first | done | rw [hlt])); try cbv)
    · rintro r hr
      exact hno r hr.1 hr
  | succ j =>
    have hi : i < B.length := by omega
    have hi2 : i < sizes.length := by omega
    have hx := h.sz _ (List.getElem_mem hi2)
    have hx1 := hx.1
    have hx2 := hx.2
    have q1 := hB.lo i hi
    have q2 := hB.hi i hi hi2
    have hlt : realP.cm .lss (i : Int) (B.length : Int) = true := lss_t (by omega)
    have hp : realP.ar .add .i64 (i : Int) 1 = ((i + 1 : Nat) : Int) := by rw [add64 (by omega) (by omega)]; simp
    have hin1 : realP.inb (sizes.map encI) i 1 = true := inb_map hi2 rfl (by decide)
    have hin2 : realP.inb (B.map encI) i 1 = true := inb_map hi rfl (by decide)
    have hel1 : realP.elt (sizes.map encI) i = [.v (.int .i64 sizes[i])] := elt_map hi2
    have hel2 : realP.elt (B.map encI) i = [.v (.int .i64 B[i])] := elt_map hi
    have hA1 : realP.ar .add .i64 B[i] sizes[i] = B[i] + sizes[i] := add64 (by omega) (by omega)
    have hA2 : realP.ar .sub .i64 a B[i] = a - B[i] := sub64 (by omega) (by omega)
    by_cases c1 : B[i] ≤ a
    · have c1' : realP.cm .geq a B[i] = true := geq_t c1
      by_cases c2 : a < B[i] + sizes[i]
      · have c2' : realP.cm .lss a (B[i] + sizes[i]) = true := lss_t c2
        refine ⟨.ret, stR1 i (a - B[i]), ?_, .inr ⟨by simp, .inr ⟨i, hi, rfl, rfl, hi, hi2, c1, c2⟩⟩⟩
        clear hno
        simp only [stR, stR1]
        generalize a - B[i] = u2 at *
        generalize B[i] + sizes[i] = u1 at *
        generalize sizes[i] = s1 at *
        generalize B[i] = b1 at *
        generalize sizes.map encI = Z at *
        generalize B.map encI = W at *
        generalize (B.length : Int) = n at *
        generalize ((i + 1 : Nat) : Int) = i1 at *
        simp only [← Int.ofNat_eq_natCast] at hlt hp
        (generalize realP = Pr at *; obtain ⟨ar, cm, sh, sb, un, cv, natI, lenN, inb, inw, elt, addN, subN, slOk, win, immC, immW, allLen, appOk, cat, mkOk, rep, getC, setC, shC, eqf, eqB, notB, fmm, strAt, strLen, strB, strOk, bstr, cpy, it⟩ := Pr; try dsimp only at *)
        ((repeat (cbv; first | done | rw [hlt] | rw [if_pos hin1] | rw [if_pos hin2] | rw [hel1] | rw [hel2] | rw [hA1] | rw [hA2] | rw [c1'] | rw [c2'])); try cbv)
      · have c2' : realP.cm .lss a (B[i] + sizes[i]) = false := lss_f c2
        refine ⟨.normal, stR (sizes.map encI) (B.map encI) key a B.length (i + 1 : Nat), ?_, .inl ⟨rfl, j, by omega, i + 1, rfl, by omega, ?_⟩⟩
        · clear hno
          simp only [stR]
          generalize a - B[i] = u2 at *
          generalize B[i] + sizes[i] = u1 at *
          generalize sizes[i] = s1 at *
          generalize B[i] = b1 at *
          generalize sizes.map encI = Z at *
          generalize B.map encI = W at *
          generalize (B.length : Int) = n at *
          generalize ((i + 1 : Nat) : Int) = i1 at *
          simp only [← Int.ofNat_eq_natCast] at hlt hp
          (generalize realP = Pr at *; obtain ⟨ar, cm, sh, sb, un, cv, natI, lenN, inb, inw, elt, addN, subN, slOk, win, immC, immW, allLen, appOk, cat, mkOk, rep, getC, setC, shC, eqf, eqB, notB, fmm, strAt, strLen, strB, strOk, bstr, cpy, it⟩ := Pr; try dsimp only at *)
          ((repeat (cbv; first | done | rw [hlt] | rw [if_pos hin1] | rw [if_pos hin2] | rw [hel1] | rw [hel2] | rw [hA1] | rw [c1'] | rw [c2'] | rw [hp])); try cbv)
        · intro r hr
          by_cases e : r = i
          · subst e; rintro ⟨_, _, _, q⟩; exact c2 q
          · exact hno r (by omega)
    · have c1' : realP.cm .geq a B[i] = false := geq_f c1
      refine ⟨.normal, stR (sizes.map encI) (B.map encI) key a B.length (i + 1 : Nat), ?_, .inl ⟨rfl, j, by omega, i + 1, rfl, by omega, ?_⟩⟩
      · clear hno
        simp only [stR]
        generalize a - B[i] = u2 at *
        generalize B[i] + sizes[i] = u1 at *
        generalize sizes[i] = s1 at *
        generalize B[i] = b1 at *
        generalize sizes.map encI = Z at *
        generalize B.map encI = W at *
        generalize (B.length : Int) = n at *
        generalize ((i + 1 : Nat) : Int) = i1 at *
        simp only [← Int.ofNat_eq_natCast] at hlt hp
        (generalize realP = Pr at *; obtain ⟨ar, cm, sh, sb, un, cv, natI, lenN, inb, inw, elt, addN, subN, slOk, win, immC, immW, allLen, appOk, cat, mkOk, rep, getC, setC, shC, eqf, eqB, notB, fmm, strAt, strLen, strB, strOk, bstr, cpy, it⟩ := Pr; try dsimp only at *)
        ((repeat (cbv; first | done | rw [hlt] | rw [if_pos hin1] | rw [if_pos hin2] | rw [hel1] | rw [hel2] | rw [c1'] | rw [hp])); try cbv)
      · intro r hr
        by_cases e : r = i
        · subst e; rintro ⟨_, _, q, _⟩; exact c1 q
        · exact hno r (by omega)
set_option maxRecDepth 100000 in
set_option maxHeartbeats 8000000 in
theorem res_run (E : Env) (hN : 200 ≤ N) (sizes B : List Int) (key a : Int) (h : SizesOk sizes) (hB : LayOk sizes B) (ha : 0 ≤ a) (ha2 : a < 512) :
    ∃ rg off ok, runT E F N tfRes [.agg [.sl (B.map encI), .v (.int .u16 key)], .sl (sizes.map encI), .v (.int .i64 a)] [] = some (⟨[.v (.int .i64 rg), .v (.int .i64 off), .v (.bool ok)], [.agg 2, .one]⟩, []) ∧ ResIs sizes B a rg off ok := by
  rw [← S.runT_real]
  have hl := h.l1
  have hlen : realP.natI (realP.lenN (B.map encI)) = B.length := lenI_map encI B
  obtain ⟨e, σ', hL, ⟨rfl, rfl, hn⟩ | ⟨r, hr, rfl, rfl, hn⟩⟩ := res_loop F N E key sizes B h hB a ha ha2 B.length N _ ⟨0, rfl, by omega, fun r hr => by omega⟩ (by have := hB.len; omega)
  · refine ⟨0, 0, false, ?_, .inr ⟨rfl, hn⟩⟩
    simp only [stR, stR', Int.natCast_zero] at hL
    generalize sizes.map encI = Z at *
    generalize B.map encI = W at *
    generalize (B.length : Int) = n at *
    (generalize realP = Pr at *; obtain ⟨ar, cm, sh, sb, un, cv, natI, lenN, inb, inw, elt, addN, subN, slOk, win, immC, immW, allLen, appOk, cat, mkOk, rep, getC, setC, shC, eqf, eqB, notB, fmm, strAt, strLen, strB, strOk, bstr, cpy, it⟩ := Pr; try dsimp only at *)
    ((repeat (cbv; first | done | rw [hlen] | rw [hL])); try cbv)
  · refine ⟨r, a - B[r], true, ?_, .inl ⟨rfl, r, hr, rfl, hn, rfl⟩⟩
    simp only [stR, stR1, Int.natCast_zero] at hL
    generalize a - B[r] = u2 at *
    generalize sizes.map encI = Z at *
    generalize B.map encI = W at *
    generalize (B.length : Int) = n at *
    generalize (r : Int) = r0 at *
    (generalize realP = Pr at *; obtain ⟨ar, cm, sh, sb, un, cv, natI, lenN, inb, inw, elt, addN, subN, slOk, win, immC, immW, allLen, appOk, cat, mkOk, rep, getC, setC, shC, eqf, eqB, notB, fmm, strAt, strLen, strB, strOk, bstr, cpy, it⟩ := Pr; try dsimp only at *)
    ((repeat (cbv; first | done | rw [hlen] | rw [hL])); try cbv)

/-! ## Valid cells -/
def tfWVal : TFn := { np := 1, pp := [], nt := 6, body := .seq (.reg 0 none [{ dst := some 1, guard := none, op := .box 2 true (.t 0) }, { dst := some 2, guard := none, op := .asn true (.c (.bool false)) }] ([1], [4, 5])) (.seq (.reg 1 none [{ dst := some 3, guard := none, op := .fld 0 (.t 1) }, { dst := some 4, guard := none, op := .load none (.t 3) }, { dst := some 5, guard := none, op := .bin (.leq) (.t 4) (.c (.int (.u8) 2)) }, { dst := some 2, guard := none, op := .asn true (.t 5) }] ([2], [6, 7])) (.ret)), res := [.tmp 2] }
def tfC1 : TFn := { np := 1, pp := [], nt := 6, body := .seq (.reg 0 none [{ dst := some 1, guard := none, op := .box 2 true (.t 0) }, { dst := some 2, guard := none, op := .asn true (.c (.bool false)) }] ([1], [4, 5])) (.seq (.reg 1 none [{ dst := some 3, guard := none, op := .load (some 2) (.t 1) }, { dst := some 4, guard := none, op := .call true (.f 33) [(none, .t 3)] }, { dst := some 5, guard := none, op := .un (.not) (.t 4) }, { dst := some 2, guard := none, op := .asn true (.t 5) }] ([2], [6, 7])) (.ret)), res := [.tmp 2] }
def tfIdx : TFn := { np := 2, pp := [], nt := 19, body := .seq (.reg 0 none [{ dst := some 4, guard := none, op := .asn true (.c (.int (.i64) 0)) }] ([0, 1], [2, 3, 4, 5])) (.seq (.seq (.reg 1 none [{ dst := some 6, guard := none, op := .mov (.t 0) }, { dst := some 7, guard := none, op := .len (.t 6) }, { dst := some 8, guard := none, op := .mov (.c (.int (.i64) 0)) }] ([0, 1, 7, 8], [2, 3, 4, 5, 16, 17, 18, 19, 38, 39])) (.block 0 (.loop (.seq (.reg 2 none [{ dst := some 9, guard := none, op := .bin (.lss) (.t 8) (.t 7) }] ([0, 1, 7, 8, 9], [2, 3, 4, 5, 16, 17, 18, 19, 20, 21, 38, 39])) (.seq (.cond (.t 9) (.skip) (.exit 0)) (.seq (.block 1 (.seq (.reg 3 none [{ dst := some 10, guard := none, op := .mov (.t 8) }, { dst := some 5, guard := none, op := .asn false (.t 10) }] ([0, 1, 5, 7, 8], [2, 3, 4, 5, 12, 13, 16, 17, 18, 19, 38, 39])) (.seq (.reg 4 none [{ dst := some 11, guard := none, op := .mov (.t 1) }, { dst := some 12, guard := none, op := .mov (.t 0) }, { dst := some 13, guard := none, op := .mov (.t 5) }, { dst := some 14, guard := none, op := .idx 2 (.t 12) (.t 13) }, { dst := some 15, guard := none, op := .load (some 2) (.t 14) }, { dst := some 16, guard := none, op := .call true (.t 11) [(none, .t 15)] }] ([0, 1, 5, 7, 8, 16], [2, 3, 4, 5, 12, 13, 16, 17, 18, 19, 34, 35, 38, 39])) (.cond (.t 16) (.seq (.reg 5 none [{ dst := some 17, guard := none, op := .mov (.t 5) }, { dst := some 4, guard := none, op := .asn true (.t 17) }] ([4], [10, 11])) (.ret)) (.skip))))) (.reg 6 none [{ dst := some 18, guard := none, op := .bin (.add) (.t 8) (.c (.int (.i64) 1)) }, { dst := some 8, guard := none, op := .mov (.t 18) }] ([0, 1, 7, 8], [2, 3, 4, 5, 16, 17, 18, 19, 38, 39])))))))) (.seq (.reg 7 none [{ dst := some 4, guard := none, op := .asn true (.c (.int (.i64) (-1))) }] ([4], [10, 11])) (.ret))), res := [.tmp 4] }
def tfCon : TFn := { np := 2, pp := [], nt := 9, body := .seq (.reg 0 none [{ dst := some 4, guard := none, op := .asn true (.c (.bool false)) }] ([0, 1], [2, 3, 4, 5])) (.seq (.reg 1 none [{ dst := some 5, guard := none, op := .mov (.t 0) }, { dst := some 6, guard := none, op := .mov (.t 1) }, { dst := some 7, guard := none, op := .call true (.f 36) [(none, .t 5), (none, .t 6)] }, { dst := some 8, guard := none, op := .bin (.geq) (.t 7) (.c (.int (.i64) 0)) }, { dst := some 4, guard := none, op := .asn true (.t 8) }] ([4], [10, 11])) (.ret)), res := [.tmp 4] }
def tfCells : TFn := { np := 2, pp := [], nt := 14, body := .seq (.reg 0 none [{ dst := some 4, guard := none, op := .asn true (.c (.bool false)) }] ([0, 1], [2, 3, 4, 5])) (.seq (.reg 1 none [{ dst := some 5, guard := none, op := .mov (.t 0) }, { dst := some 6, guard := none, op := .len (.t 5) }, { dst := some 7, guard := none, op := .mov (.t 1) }, { dst := some 8, guard := none, op := .bin (.eql) (.t 6) (.t 7) }, { dst := some 9, guard := none, op := .mov (.t 8) }, { dst := some 10, guard := some (9, true), op := .mov (.t 0) }, { dst := some 11, guard := some (9, true), op := .call true (.f 31) [(none, .t 10), (none, .f 32)] }, { dst := some 12, guard := some (9, true), op := .un (.not) (.t 11) }, { dst := some 13, guard := none, op := .pick (.t 9) (.t 12) (.c (.bool false)) }, { dst := some 4, guard := none, op := .asn true (.t 13) }] ([4], [10, 11])) (.ret)), res := [.tmp 4] }
def tfLine : TFn := { np := 2, pp := [], nt := 37, body := .seq (.reg 0 none [{ dst := some 3, guard := none, op := .box 3 true (.t 1) }, { dst := some 4, guard := none, op := .asn true (.c (.bool false)) }] ([0, 3], [2, 3, 8, 9])) (.seq (.seq (.reg 1 none [{ dst := some 5, guard := none, op := .fld 0 (.t 3) }, { dst := some 6, guard := none, op := .load none (.t 5) }, { dst := some 7, guard := none, op := .bin (.eql) (.t 6) (.c (.int (.i64) (-1))) }] ([0, 3, 7], [2, 3, 8, 9, 16, 17])) (.cond (.t 7) (.seq (.reg 2 none [{ dst := some 8, guard := none, op := .fld 1 (.t 3) }, { dst := some 9, guard := none, op := .load none (.t 8) }, { dst := some 10, guard := none, op := .un (.not) (.t 9) }, { dst := some 11, guard := none, op := .mov (.t 10) }, { dst := some 12, guard := some (11, true), op := .fld 2 (.t 3) }, { dst := some 13, guard := some (11, true), op := .load none (.t 12) }, { dst := some 14, guard := some (11, true), op := .len (.t 13) }, { dst := some 15, guard := some (11, true), op := .bin (.eql) (.t 14) (.c (.int (.i64) 0)) }, { dst := some 16, guard := none, op := .pick (.t 11) (.t 15) (.c (.bool false)) }, { dst := some 4, guard := none, op := .asn true (.t 16) }] ([4], [10, 11])) (.ret)) (.skip))) (.seq (.reg 3 none [{ dst := some 17, guard := none, op := .fld 0 (.t 3) }, { dst := some 18, guard := none, op := .load none (.t 17) }, { dst := some 19, guard := none, op := .bin (.geq) (.t 18) (.c (.int (.i64) 0)) }, { dst := some 20, guard := none, op := .mov (.t 19) }, { dst := some 21, guard := some (20, true), op := .fld 0 (.t 3) }, { dst := some 22, guard := some (20, true), op := .load none (.t 21) }, { dst := some 23, guard := some (20, true), op := .bin (.lss) (.t 22) (.c (.int (.i64) 128)) }, { dst := some 24, guard := none, op := .pick (.t 20) (.t 23) (.c (.bool false)) }, { dst := some 25, guard := none, op := .mov (.t 24) }, { dst := some 26, guard := some (25, true), op := .fld 0 (.t 3) }, { dst := some 27, guard := some (25, true), op := .load none (.t 26) }, { dst := some 28, guard := some (25, true), op := .bin (.rem) (.t 27) (.c (.int (.i64) 4)) }, { dst := some 29, guard := some (25, true), op := .mov (.t 0) }, { dst := some 30, guard := some (25, true), op := .bin (.eql) (.t 28) (.t 29) }, { dst := some 31, guard := none, op := .pick (.t 25) (.t 30) (.c (.bool false)) }, { dst := some 32, guard := none, op := .mov (.t 31) }, { dst := some 33, guard := some (32, true), op := .fld 2 (.t 3) }, { dst := some 34, guard := some (32, true), op := .load none (.t 33) }, { dst := some 35, guard := some (32, true), op := .call true (.f 24) [(none, .t 34), (none, .c (.int (.i64) 4))] }, { dst := some 36, guard := none, op := .pick (.t 32) (.t 35) (.c (.bool false)) }, { dst := some 4, guard := none, op := .asn true (.t 36) }] ([4], [10, 11])) (.ret))), res := [.tmp 4] }
def tfMVal : TFn := { np := 1, pp := [], nt := 28, body := .seq (.reg 0 none [{ dst := some 1, guard := none, op := .box 2 true (.t 0) }, { dst := some 2, guard := none, op := .asn true (.c (.bool false)) }] ([1], [4, 5])) (.seq (.seq (.reg 1 none [{ dst := some 5, guard := none, op := .fld 0 (.t 1) }, { dst := some 6, guard := none, op := .load none (.t 5) }, { dst := some 7, guard := none, op := .call true (.f 24) [(none, .t 6), (none, .c (.int (.i64) 512))] }, { dst := some 8, guard := none, op := .un (.not) (.t 7) }, { dst := some 9, guard := none, op := .mov (.t 8) }, { dst := some 10, guard := some (9, false), op := .fld 1 (.t 1) }, { dst := some 11, guard := some (9, false), op := .load none (.t 10) }, { dst := some 12, guard := some (9, false), op := .len (.t 11) }, { dst := some 13, guard := some (9, false), op := .bin (.neq) (.t 12) (.c (.int (.i64) 4)) }, { dst := some 14, guard := none, op := .pick (.t 9) (.c (.bool true)) (.t 13) }] ([1, 14], [4, 5, 18, 19, 20, 21, 28, 29, 30, 31])) (.cond (.t 14) (.seq (.reg 2 none [{ dst := some 2, guard := none, op := .asn true (.c (.bool false)) }] ([2], [6, 7])) (.ret)) (.skip))) (.seq (.seq (.reg 3 none [{ dst := some 15, guard := none, op := .fld 1 (.t 1) }, { dst := some 16, guard := none, op := .load none (.t 15) }, { dst := some 17, guard := none, op := .len (.t 16) }, { dst := some 18, guard := none, op := .mov (.c (.int (.i64) 0)) }] ([16, 17, 18], [4, 5, 32, 33, 34, 35, 36, 37, 38, 39, 56, 57])) (.block 0 (.loop (.seq (.reg 4 none [{ dst := some 19, guard := none, op := .bin (.lss) (.t 18) (.t 17) }] ([16, 17, 18, 19], [4, 5, 32, 33, 34, 35, 36, 37, 38, 39, 40, 41, 56, 57])) (.seq (.cond (.t 19) (.skip) (.exit 0)) (.seq (.block 1 (.seq (.reg 5 none [{ dst := some 20, guard := none, op := .mov (.t 18) }, { dst := some 21, guard := none, op := .idx 3 (.t 16) (.t 18) }, { dst := some 22, guard := none, op := .load (some 3) (.t 21) }, { dst := some 4, guard := none, op := .alloc [.int (.i64) 0, .bool false, .slice none 0 0] }, { dst := some 3, guard := none, op := .asn false (.t 20) }, { dst := none, guard := none, op := .store 3 false (.t 4) (.t 22) }] ([3, 4, 16, 17, 18], [4, 5, 8, 9, 10, 11, 32, 33, 34, 35, 36, 37, 38, 39, 56, 57])) (.seq (.reg 6 none [{ dst := some 23, guard := none, op := .mov (.t 3) }, { dst := some 24, guard := none, op := .load (some 3) (.t 4) }, { dst := some 25, guard := none, op := .call true (.f 25) [(none, .t 23), (none, .t 24)] }, { dst := some 26, guard := none, op := .un (.not) (.t 25) }] ([16, 17, 18, 26], [4, 5, 32, 33, 34, 35, 36, 37, 38, 39, 54, 55, 56, 57])) (.cond (.t 26) (.seq (.reg 7 none [{ dst := some 2, guard := none, op := .asn true (.c (.bool false)) }] ([2], [6, 7])) (.ret)) (.skip))))) (.reg 8 none [{ dst := some 27, guard := none, op := .bin (.add) (.t 18) (.c (.int (.i64) 1)) }, { dst := some 18, guard := none, op := .mov (.t 27) }] ([16, 17, 18], [4, 5, 32, 33, 34, 35, 36, 37, 38, 39, 56, 57])))))))) (.seq (.reg 9 none [{ dst := some 2, guard := none, op := .asn true (.c (.bool true)) }] ([2], [6, 7])) (.ret)))), res := [.tmp 2] }
def WValC (F : Callee) : Prop := ∀ x, F 33 [.agg (encN x)] [] = some (⟨[.v (.bool true)], [.one]⟩, [])
def C1C (F : Callee) : Prop := ∀ x, F 32 [.agg (encN x)] [] = some (⟨[.v (.bool false)], [.one]⟩, [])
def IdxC (F : Callee) : Prop := ∀ l : List Int, l.length ≤ 512 → F 36 [.sl (l.map encN), .fn 32 []] [] = some (⟨[.v (.int .i64 (-1))], [.one]⟩, [])
def ConC (F : Callee) : Prop := ∀ l : List Int, l.length ≤ 512 → F 31 [.sl (l.map encN), .fn 32 []] [] = some (⟨[.v (.bool false)], [.one]⟩, [])
def CellsC (F : Callee) : Prop := ∀ l : List Int, l.length = 512 → F 24 [.sl (l.map encN), .v (.int .i64 512)] [] = some (⟨[.v (.bool true)], [.one]⟩, [])
def LineC (F : Callee) : Prop := ∀ i : Int, F 25 [.v (.int .i64 i), .agg encLs] [] = some (⟨[.v (.bool true)], [.one]⟩, [])
def MValC (F : Callee) : Prop := ∀ l : List Int, l.length = 512 → F 10 [.agg [.sl (l.map encN), .sl ((List.replicate 4 ()).map fun _ => encLs)]] [] = some (⟨[.v (.bool true)], [.one]⟩, [])
theorem wval_run (E : Env) (x : Int) : runT E F N tfWVal [.agg (encN x)] [] = some (⟨[.v (.bool true)], [.one]⟩, []) := by
  rw [← S.runT_real]
  have c1 : realP.cm .leq 0 2 = true := rfl
  simp only [encN]
  (generalize realP = Pr at *; obtain ⟨ar, cm, sh, sb, un, cv, natI, lenN, inb, inw, elt, addN, subN, slOk, win, immC, immW, allLen, appOk, cat, mkOk, rep, getC, setC, shC, eqf, eqB, notB, fmm, strAt, strLen, strB, strOk, bstr, cpy, it⟩ := Pr; try dsimp only at *)
  ((repeat (cbv; first | done | rw [c1])); try cbv)
theorem c1_run (hb : box 33 = none) (hW : WValC F) (x : Int) : runT ⟨box, ps⟩ F N tfC1 [.agg (encN x)] [] = some (⟨[.v (.bool false)], [.one]⟩, []) := by
  rw [← S.runT_real]
  have hW := hW x
  simp only [encN] at *
  have nb0 : realP.notB true = false := rfl; have nb1 : realP.notB false = true := rfl; have nb2 : realP.eqB true true = true := rfl; have nb3 : realP.eqB false false = true := rfl; have nb4 : realP.eqB true false = false := rfl; have nb5 : realP.eqB false true = false := rfl
  (generalize realP = Pr at *; obtain ⟨ar, cm, sh, sb, un, cv, natI, lenN, inb, inw, elt, addN, subN, slOk, win, immC, immW, allLen, appOk, cat, mkOk, rep, getC, setC, shC, eqf, eqB, notB, fmm, strAt, strLen, strB, strOk, bstr, cpy, it⟩ := Pr; try dsimp only at *)
  ((repeat (cbv; first | done | rw [nb0] | rw [nb1] | rw [hb] | rw [hW])); try cbv)
def stIx (Y : List (List TV)) (n i : Int) : St := ⟨[(0, .sl Y), (1, .fn 32 []), (7, .v (.int .i64 n)), (8, .v (.int .i64 i))], [], []⟩
def stIx' (Y : List (List TV)) (n : Int) : St := ⟨[(0, .sl Y), (1, .fn 32 []), (7, .v (.int .i64 n)), (8, .v (.int .i64 n)), (9, .v (.bool false))], [], []⟩
set_option maxRecDepth 100000 in
set_option maxHeartbeats 8000000 in
theorem idx_loop (hb : box 32 = none) (hC : C1C F) (l : List Int) (h : l.length ≤ 512) : ∀ j m σ, (∃ i : Nat, σ = stIx (l.map encN) l.length i ∧ i + j = l.length) → j < m →
    ∃ e σ', realP.it (S.runC realP (S.evCall realP ⟨box, ps⟩ F) N (.seq (.reg 2 none [{ dst := some 9, guard := none, op := .bin (.lss) (.t 8) (.t 7) }] ([0, 1, 7, 8, 9], [2, 3, 4, 5, 16, 17, 18, 19, 20, 21, 38, 39])) (.seq (.cond (.t 9) (.skip) (.exit 0)) (.seq (.block 1 (.seq (.reg 3 none [{ dst := some 10, guard := none, op := .mov (.t 8) }, { dst := some 5, guard := none, op := .asn false (.t 10) }] ([0, 1, 5, 7, 8], [2, 3, 4, 5, 12, 13, 16, 17, 18, 19, 38, 39])) (.seq (.reg 4 none [{ dst := some 11, guard := none, op := .mov (.t 1) }, { dst := some 12, guard := none, op := .mov (.t 0) }, { dst := some 13, guard := none, op := .mov (.t 5) }, { dst := some 14, guard := none, op := .idx 2 (.t 12) (.t 13) }, { dst := some 15, guard := none, op := .load (some 2) (.t 14) }, { dst := some 16, guard := none, op := .call true (.t 11) [(none, .t 15)] }] ([0, 1, 5, 7, 8, 16], [2, 3, 4, 5, 12, 13, 16, 17, 18, 19, 34, 35, 38, 39])) (.cond (.t 16) (.seq (.reg 5 none [{ dst := some 17, guard := none, op := .mov (.t 5) }, { dst := some 4, guard := none, op := .asn true (.t 17) }] ([4], [10, 11])) (.ret)) (.skip))))) (.reg 6 none [{ dst := some 18, guard := none, op := .bin (.add) (.t 8) (.c (.int (.i64) 1)) }, { dst := some 8, guard := none, op := .mov (.t 18) }] ([0, 1, 7, 8], [2, 3, 4, 5, 16, 17, 18, 19, 38, 39])))))) m σ = some (e, σ') ∧ e = .exit 0 ∧ σ' = stIx' (l.map encN) l.length := by
  refine it_some _ _ ?_
  rintro j σ ⟨i, rfl, hij⟩
  cases j with
  | zero =>
    obtain rfl : i = l.length := by omega
    refine ⟨.exit 0, stIx' (l.map encN) l.length, ?_, .inr ⟨by simp, rfl, rfl⟩⟩
    have hlt : realP.cm .lss (l.length : Int) (l.length : Int) = false := lss_f (by omega)
    simp only [stIx, stIx']
    generalize l.map encN = Z at *
    generalize (l.length : Int) = n at *
    (generalize realP = Pr at *; obtain ⟨ar, cm, sh, sb, un, cv, natI, lenN, inb, inw, elt, addN, subN, slOk, win, immC, immW, allLen, appOk, cat, mkOk, rep, getC, setC, shC, eqf, eqB, notB, fmm, strAt, strLen, strB, strOk, bstr, cpy, it⟩ := Pr; try dsimp only at *)
    ((repeat (cbv; first | done | rw [hlt])); try cbv)
  | succ j =>
    have hi : i < l.length := by omega
    refine ⟨.normal, stIx (l.map encN) l.length (i + 1 : Nat), ?_, .inl ⟨rfl, j, by omega, i + 1, rfl, by omega⟩⟩
    have hlt : realP.cm .lss (i : Int) (l.length : Int) = true := lss_t (by omega)
    have hp : realP.ar .add .i64 (i : Int) 1 = ((i + 1 : Nat) : Int) := by rw [add64 (by omega) (by omega)]; simp
    have hin : realP.inb (l.map encN) i 2 = true := inb_map hi rfl (by decide)
    have hel : realP.elt (l.map encN) i = [.v (.int .u8 0), .v (.int .u16 l[i])] := elt_map hi
    have hF := hC l[i]
    have hif : ∀ d (inst : Decidable (realP.inb (l.map encN) i 2 = true)), @ite _ (realP.inb (l.map encN) i 2 = true) inst (wr d (.ip (realP.elt (l.map encN) i))) SP.fail = wr d (.ip [.v (.int .u8 0), .v (.int .u16 l[i])]) := fun d inst => by rw [if_pos hin, hel]
    clear hin hel
    generalize l[i] = s at *
    generalize l.map encN = Z at *
    simp only [stIx, stIx', encN] at *
    generalize (l.length : Int) = n at *
    generalize ((i + 1 : Nat) : Int) = i1 at *
    simp only [← Int.ofNat_eq_natCast] at hlt hp
    (generalize realP = Pr at *; obtain ⟨ar, cm, sh, sb, un, cv, natI, lenN, inb, inw, elt, addN, subN, slOk, win, immC, immW, allLen, appOk, cat, mkOk, rep, getC, setC, shC, eqf, eqB, notB, fmm, strAt, strLen, strB, strOk, bstr, cpy, it⟩ := Pr; try dsimp only at *)
    ((repeat (cbv; first | done | rw [hlt] | rw [hif] | rw [hb] | rw [hF] | rw [hp])); try cbv)
set_option maxRecDepth 100000 in
set_option maxHeartbeats 8000000 in
theorem idx_run (hb : box 32 = none) (hC : C1C F) (hN : 600 ≤ N) (l : List Int) (h : l.length ≤ 512) : runT ⟨box, ps⟩ F N tfIdx [.sl (l.map encN), .fn 32 []] [] = some (⟨[.v (.int .i64 (-1))], [.one]⟩, []) := by
  rw [← S.runT_real]
  obtain ⟨e, σ', hL, rfl, rfl⟩ := idx_loop box ps F N hb hC l h l.length N _ ⟨0, rfl, by omega⟩ (by omega)
  have hlen : realP.natI (realP.lenN (l.map encN)) = l.length := lenI_map encN l
  simp only [stIx, stIx', Int.natCast_zero] at hL
  generalize l.map encN = Z at *
  generalize (l.length : Int) = n at *
  (generalize realP = Pr at *; obtain ⟨ar, cm, sh, sb, un, cv, natI, lenN, inb, inw, elt, addN, subN, slOk, win, immC, immW, allLen, appOk, cat, mkOk, rep, getC, setC, shC, eqf, eqB, notB, fmm, strAt, strLen, strB, strOk, bstr, cpy, it⟩ := Pr; try dsimp only at *)
  ((repeat (cbv; first | done | rw [hlen] | rw [hL])); try cbv)
theorem con_run (hb : box 36 = none) (hI : IdxC F) (l : List Int) (h : l.length ≤ 512) : runT ⟨box, ps⟩ F N tfCon [.sl (l.map encN), .fn 32 []] [] = some (⟨[.v (.bool false)], [.one]⟩, []) := by
  rw [← S.runT_real]
  have hI := hI l h
  have c1 : realP.cm .geq (-1) 0 = false := rfl
  generalize l.map encN = Z at *
  (generalize realP = Pr at *; obtain ⟨ar, cm, sh, sb, un, cv, natI, lenN, inb, inw, elt, addN, subN, slOk, win, immC, immW, allLen, appOk, cat, mkOk, rep, getC, setC, shC, eqf, eqB, notB, fmm, strAt, strLen, strB, strOk, bstr, cpy, it⟩ := Pr; try dsimp only at *)
  ((repeat (cbv; first | done | rw [hb] | rw [hI] | rw [c1])); try cbv)
theorem cells_run (hb : box 31 = none) (hI : ConC F) (l : List Int) (h : l.length = 512) : runT ⟨box, ps⟩ F N tfCells [.sl (l.map encN), .v (.int .i64 512)] [] = some (⟨[.v (.bool true)], [.one]⟩, []) := by
  rw [← S.runT_real]
  have hI := hI l (by omega)
  have hlen : realP.natI (realP.lenN (l.map encN)) = 512 := by rw [lenI_map encN l, h]; rfl
  have c1 : realP.cm .eql 512 512 = true := rfl
  have nb0 : realP.notB true = false := rfl; have nb1 : realP.notB false = true := rfl; have nb2 : realP.eqB true true = true := rfl; have nb3 : realP.eqB false false = true := rfl; have nb4 : realP.eqB true false = false := rfl; have nb5 : realP.eqB false true = false := rfl
  generalize l.map encN = Z at *
  (generalize realP = Pr at *; obtain ⟨ar, cm, sh, sb, un, cv, natI, lenN, inb, inw, elt, addN, subN, slOk, win, immC, immW, allLen, appOk, cat, mkOk, rep, getC, setC, shC, eqf, eqB, notB, fmm, strAt, strLen, strB, strOk, bstr, cpy, it⟩ := Pr; try dsimp only at *)
  ((repeat (cbv; first | done | rw [nb0] | rw [nb1] | rw [hb] | rw [hI] | rw [hlen] | rw [c1])); try cbv)
theorem line_run (E : Env) (i : Int) : runT E F N tfLine [.v (.int .i64 i), .agg encLs] [] = some (⟨[.v (.bool true)], [.one]⟩, []) := by
  rw [← S.runT_real]
  have c1 : realP.cm .eql (-1) (-1) = true := rfl
  have c2 : realP.cm .eql 0 0 = true := rfl
  have hlen : realP.natI (realP.lenN []) = 0 := rfl
  have nb0 : realP.notB true = false := rfl; have nb1 : realP.notB false = true := rfl; have nb2 : realP.eqB true true = true := rfl; have nb3 : realP.eqB false false = true := rfl; have nb4 : realP.eqB true false = false := rfl; have nb5 : realP.eqB false true = false := rfl
  simp only [encLs] at *
  (generalize realP = Pr at *; obtain ⟨ar, cm, sh, sb, un, cv, natI, lenN, inb, inw, elt, addN, subN, slOk, win, immC, immW, allLen, appOk, cat, mkOk, rep, getC, setC, shC, eqf, eqB, notB, fmm, strAt, strLen, strB, strOk, bstr, cpy, it⟩ := Pr; try dsimp only at *)
  ((repeat (cbv; first | done | rw [nb0] | rw [nb1] | rw [hlen] | rw [c1] | rw [c2])); try cbv)
def stS (Y L : List (List TV)) (i : Int) : St := ⟨[(16, .sl L), (17, .v (.int .i64 4)), (18, .v (.int .i64 i))], [(4, [.sl Y, .sl L])], []⟩
def stS' (Y L : List (List TV)) : St := ⟨[(16, .sl L), (17, .v (.int .i64 4)), (18, .v (.int .i64 4)), (19, .v (.bool false))], [(4, [.sl Y, .sl L])], []⟩
set_option maxRecDepth 100000 in
set_option maxHeartbeats 8000000 in
theorem mval_loop (Y : List (List TV)) (hb : box 25 = none) (hC : LineC F) : ∀ j m σ, (∃ i : Nat, σ = stS Y ((List.replicate 4 ()).map fun _ => encLs) i ∧ i + j = 4) → j < m →
    ∃ e σ', realP.it (S.runC realP (S.evCall realP ⟨box, ps⟩ F) N (.seq (.reg 4 none [{ dst := some 19, guard := none, op := .bin (.lss) (.t 18) (.t 17) }] ([16, 17, 18, 19], [4, 5, 32, 33, 34, 35, 36, 37, 38, 39, 40, 41, 56, 57])) (.seq (.cond (.t 19) (.skip) (.exit 0)) (.seq (.block 1 (.seq (.reg 5 none [{ dst := some 20, guard := none, op := .mov (.t 18) }, { dst := some 21, guard := none, op := .idx 3 (.t 16) (.t 18) }, { dst := some 22, guard := none, op := .load (some 3) (.t 21) }, { dst := some 4, guard := none, op := .alloc [.int (.i64) 0, .bool false, .slice none 0 0] }, { dst := some 3, guard := none, op := .asn false (.t 20) }, { dst := none, guard := none, op := .store 3 false (.t 4) (.t 22) }] ([3, 4, 16, 17, 18], [4, 5, 8, 9, 10, 11, 32, 33, 34, 35, 36, 37, 38, 39, 56, 57])) (.seq (.reg 6 none [{ dst := some 23, guard := none, op := .mov (.t 3) }, { dst := some 24, guard := none, op := .load (some 3) (.t 4) }, { dst := some 25, guard := none, op := .call true (.f 25) [(none, .t 23), (none, .t 24)] }, { dst := some 26, guard := none, op := .un (.not) (.t 25) }] ([16, 17, 18, 26], [4, 5, 32, 33, 34, 35, 36, 37, 38, 39, 54, 55, 56, 57])) (.cond (.t 26) (.seq (.reg 7 none [{ dst := some 2, guard := none, op := .asn true (.c (.bool false)) }] ([2], [6, 7])) (.ret)) (.skip))))) (.reg 8 none [{ dst := some 27, guard := none, op := .bin (.add) (.t 18) (.c (.int (.i64) 1)) }, { dst := some 18, guard := none, op := .mov (.t 27) }] ([16, 17, 18], [4, 5, 32, 33, 34, 35, 36, 37, 38, 39, 56, 57])))))) m σ = some (e, σ') ∧ e = .exit 0 ∧ σ' = stS' Y ((List.replicate 4 ()).map fun _ => encLs) := by
  refine it_some _ _ ?_
  rintro j σ ⟨i, rfl, hij⟩
  cases j with
  | zero =>
    obtain rfl : i = 4 := by omega
    refine ⟨.exit 0, stS' Y ((List.replicate 4 ()).map fun _ => encLs), ?_, .inr ⟨by simp, rfl, rfl⟩⟩
    have hlt : realP.cm .lss 4 4 = false := rfl
    simp only [stS, stS', show ((4 : Nat) : Int) = 4 from rfl]
    generalize (List.replicate 4 ()).map (fun _ => encLs) = Z at *
    (generalize realP = Pr at *; obtain ⟨ar, cm, sh, sb, un, cv, natI, lenN, inb, inw, elt, addN, subN, slOk, win, immC, immW, allLen, appOk, cat, mkOk, rep, getC, setC, shC, eqf, eqB, notB, fmm, strAt, strLen, strB, strOk, bstr, cpy, it⟩ := Pr; try dsimp only at *)
    ((repeat (cbv; first | done | rw [hlt])); try cbv)
  | succ j =>
    have hi : i < (List.replicate 4 ()).length := by simp; omega
    refine ⟨.normal, stS Y ((List.replicate 4 ()).map fun _ => encLs) (i + 1 : Nat), ?_, .inl ⟨rfl, j, by omega, i + 1, rfl, by omega⟩⟩
    have hlt : realP.cm .lss (i : Int) 4 = true := lss_t (by omega)
    have hp : realP.ar .add .i64 (i : Int) 1 = ((i + 1 : Nat) : Int) := by rw [add64 (by omega) (by omega)]; simp
    have hin : realP.inb ((List.replicate 4 ()).map fun _ => encLs) i 3 = true := inb_map hi rfl (by decide)
    have hel : realP.elt ((List.replicate 4 ()).map fun _ => encLs) i = encLs := elt_map (f := fun _ => encLs) hi
    have hF := hC i
    have hif : ∀ d (inst : Decidable (realP.inb ((List.replicate 4 ()).map fun _ => encLs) i 3 = true)), @ite _ (realP.inb ((List.replicate 4 ()).map fun _ => encLs) i 3 = true) inst (wr d (.ip (realP.elt ((List.replicate 4 ()).map fun _ => encLs) i))) SP.fail = wr d (.ip encLs) := fun d inst => by rw [if_pos hin, hel]
    clear hi hin hel
    have nb0 : realP.notB true = false := rfl; have nb1 : realP.notB false = true := rfl; have nb2 : realP.eqB true true = true := rfl; have nb3 : realP.eqB false false = true := rfl; have nb4 : realP.eqB true false = false := rfl; have nb5 : realP.eqB false true = false := rfl
    generalize hZ : (List.replicate 4 ()).map (fun _ => encLs) = Z at *
    simp only [stS, stS', encLs] at *
    generalize ((i + 1 : Nat) : Int) = i1 at *
    simp only [← Int.ofNat_eq_natCast] at hlt hp hF
    clear hZ
    (generalize realP = Pr at *; obtain ⟨ar, cm, sh, sb, un, cv, natI, lenN, inb, inw, elt, addN, subN, slOk, win, immC, immW, allLen, appOk, cat, mkOk, rep, getC, setC, shC, eqf, eqB, notB, fmm, strAt, strLen, strB, strOk, bstr, cpy, it⟩ := Pr; try dsimp only at *)
    ((repeat (cbv; first | done | rw [nb0] | rw [nb1] | rw [hlt] | rw [hif] | rw [hb] | rw [hF] | rw [hp])); try cbv)
set_option maxRecDepth 100000 in
set_option maxHeartbeats 8000000 in
theorem mval_run (hb : box 25 = none) (hb2 : box 24 = none) (hC : LineC F) (hK : CellsC F) (hN : 200 ≤ N) (l : List Int) (h : l.length = 512) : runT ⟨box, ps⟩ F N tfMVal [.agg [.sl (l.map encN), .sl ((List.replicate 4 ()).map fun _ => encLs)]] [] = some (⟨[.v (.bool true)], [.one]⟩, []) := by
  rw [← S.runT_real]
  obtain ⟨e, σ', hL, rfl, rfl⟩ := mval_loop box ps F N (l.map encN) hb hC 4 N _ ⟨0, rfl, by omega⟩ (by omega)
  have hK := hK l h
  have hlen : realP.natI (realP.lenN ((List.replicate 4 ()).map fun _ => encLs)) = 4 := rfl
  have c1 : realP.cm .neq 4 4 = false := rfl
  have nb0 : realP.notB true = false := rfl; have nb1 : realP.notB false = true := rfl; have nb2 : realP.eqB true true = true := rfl; have nb3 : realP.eqB false false = true := rfl; have nb4 : realP.eqB true false = false := rfl; have nb5 : realP.eqB false true = false := rfl
  simp only [stS, stS', Int.natCast_zero] at hL
  generalize l.map encN = Y at *
  generalize (List.replicate 4 ()).map (fun _ => encLs) = Z at *
  (generalize realP = Pr at *; obtain ⟨ar, cm, sh, sb, un, cv, natI, lenN, inb, inw, elt, addN, subN, slOk, win, immC, immW, allLen, appOk, cat, mkOk, rep, getC, setC, shC, eqf, eqB, notB, fmm, strAt, strLen, strB, strOk, bstr, cpy, it⟩ := Pr; try dsimp only at *)
  ((repeat (cbv; first | done | rw [nb0] | rw [nb1] | rw [hb2] | rw [hK] | rw [hlen] | rw [c1] | rw [hL])); try cbv)
end
end Go.Proofs.Ytjmfjjmdfikanaa
/- What the statement computes: all cells, on trees. -/
set_option linter.unusedVariables false
set_option linter.unusedSimpArgs false
namespace Go.Proofs.Ytjmfjjmdfikanaa
open Go.RowKit

section
variable (box : FuncId → Option (Nat × List BxC)) (ps : FuncId → List (Option Nat)) (F : Callee) (N : Nat)
def tfMain : TFn := { np := 2, pp := [], nt := 90, body := .seq (.reg 0 none [{ dst := some 4, guard := none, op := .asn true (.c (.bool false)) }] ([0, 1], [2, 3, 4, 5])) (.seq (.reg 1 none [{ dst := some 15, guard := none, op := .mov (.t 0) }, { dst := some 16, guard := none, op := .call true (.f 4) [(none, .t 15)] }, { dst := some 17, guard := none, op := .call true (.f 5) [(some 2, .t 16)] }, { dst := some 5, guard := none, op := .alloc [.slice none 0 0, .slice none 0 0, .slice none 0 0] }, { dst := none, guard := none, op := .store 3 true (.t 5) (.t 17) }] ([1, 5], [4, 5, 12, 13])) (.seq (.reg 2 (some [[], [0], [], [2], [1, 0, 3, 2], [4, 1, 0, 3, 2], [5, 4, 1, 0, 3, 2], [5, 4, 1, 0, 3, 2], [], [8, 6, 5, 4, 1, 0, 3, 2], [7, 5, 4, 1, 0, 3, 2, 9, 8, 6]]) [{ dst := some 19, guard := none, op := .fld 1 (.t 5) }, { dst := some 20, guard := none, op := .load none (.t 19) }, { dst := some 21, guard := none, op := .mov (.t 1) }, { dst := some 22, guard := none, op := .call true (.f 7) [(none, .t 21), (none, .c (.int (.i64) 1048576))] }, { dst := some 23, guard := none, op := .call true (.f 6) [(none, .t 20), (none, .t 22)] }, { dst := some 18, guard := none, op := .mov (.t 23) }, { dst := some 24, guard := none, op := .ext (.t 18) 0 }, { dst := some 25, guard := none, op := .ext (.t 18) 1 }, { dst := some 6, guard := none, op := .alloc [.slice none 0 0, .int (.u16) 0] }, { dst := none, guard := none, op := .store 2 false (.t 6) (.t 24) }, { dst := some 7, guard := none, op := .asn false (.t 25) }] ([5, 6], [12, 13, 14, 15])) (.seq (.reg 3 none [{ dst := some 27, guard := none, op := .load (some 3) (.t 5) }, { dst := some 28, guard := none, op := .load (some 2) (.t 6) }, { dst := some 29, guard := none, op := .call true (.f 8) [(none, .t 27), (none, .t 28)] }, { dst := some 26, guard := none, op := .mov (.t 29) }, { dst := some 30, guard := none, op := .ext (.t 26) 0 }, { dst := some 31, guard := none, op := .ext (.t 26) 1 }, { dst := some 8, guard := none, op := .alloc [.slice none 0 0, .slice none 0 0] }, { dst := none, guard := none, op := .store 2 false (.t 8) (.t 30) }, { dst := some 9, guard := none, op := .asn true (.t 31) }] ([5, 6, 8, 9], [12, 13, 14, 15, 18, 19, 20, 21])) (.seq (.seq (.reg 4 none [{ dst := some 32, guard := none, op := .mov (.t 9) }, { dst := some 33, guard := none, op := .bin (.neq) (.t 32) (.c (.int (.i64) 0)) }, { dst := some 34, guard := none, op := .mov (.t 33) }, { dst := some 35, guard := some (34, false), op := .fld 0 (.t 8) }, { dst := some 36, guard := some (34, false), op := .load none (.t 35) }, { dst := some 37, guard := some (34, false), op := .len (.t 36) }, { dst := some 38, guard := some (34, false), op := .bin (.neq) (.t 37) (.c (.int (.i64) 512)) }, { dst := some 39, guard := none, op := .pick (.t 34) (.c (.bool true)) (.t 38) }] ([5, 6, 8, 39], [12, 13, 14, 15, 18, 19, 68, 69, 70, 71, 78, 79, 80, 81])) (.cond (.t 39) (.seq (.reg 5 none [{ dst := some 4, guard := none, op := .asn true (.c (.bool false)) }] ([4], [10, 11])) (.ret)) (.skip))) (.seq (.seq (.reg 6 none [{ dst := some 40, guard := none, op := .fld 0 (.t 8) }, { dst := some 41, guard := none, op := .load none (.t 40) }, { dst := some 42, guard := none, op := .len (.t 41) }, { dst := some 43, guard := none, op := .mov (.c (.int (.i64) 0)) }] ([5, 6, 8, 41, 42, 43], [12, 13, 14, 15, 18, 19, 82, 83, 84, 85, 86, 87, 88, 89, 170, 171])) (.block 0 (.loop (.seq (.reg 7 none [{ dst := some 44, guard := none, op := .bin (.lss) (.t 43) (.t 42) }] ([5, 6, 8, 41, 42, 43, 44], [12, 13, 14, 15, 18, 19, 82, 83, 84, 85, 86, 87, 88, 89, 90, 91, 170, 171])) (.seq (.cond (.t 44) (.skip) (.exit 0)) (.seq (.block 1 (.seq (.reg 8 none [{ dst := some 45, guard := none, op := .mov (.t 43) }, { dst := some 46, guard := none, op := .idx 2 (.t 41) (.t 43) }, { dst := some 47, guard := none, op := .load (some 2) (.t 46) }, { dst := some 11, guard := none, op := .alloc [.int (.u8) 0, .int (.u16) 0] }, { dst := some 10, guard := none, op := .asn false (.t 45) }, { dst := none, guard := none, op := .store 2 false (.t 11) (.t 47) }] ([5, 6, 8, 10, 11, 41, 42, 43], [12, 13, 14, 15, 18, 19, 22, 23, 24, 25, 82, 83, 84, 85, 86, 87, 88, 89, 170, 171])) (.seq (.reg 9 none [{ dst := some 48, guard := none, op := .bld [.int (.u8) 0, .int (.u16) 0] true [] }, { dst := some 12, guard := none, op := .alloc [.int (.u8) 0, .int (.u16) 0] }, { dst := none, guard := none, op := .store 2 true (.t 12) (.t 48) }] ([5, 6, 8, 10, 11, 12, 41, 42, 43], [12, 13, 14, 15, 18, 19, 22, 23, 24, 25, 26, 27, 82, 83, 84, 85, 86, 87, 88, 89, 170, 171])) (.seq (.seq (.reg 10 none [{ dst := some 50, guard := none, op := .load (some 2) (.t 6) }, { dst := some 51, guard := none, op := .fld 1 (.t 5) }, { dst := some 52, guard := none, op := .load none (.t 51) }, { dst := some 53, guard := none, op := .mov (.t 10) }, { dst := some 54, guard := none, op := .call true (.f 9) [(none, .t 50), (none, .t 52), (none, .t 53)] }, { dst := some 49, guard := none, op := .mov (.t 54) }, { dst := some 55, guard := none, op := .ext (.t 49) 0 }, { dst := some 56, guard := none, op := .ext (.t 49) 1 }, { dst := some 13, guard := none, op := .alloc [.int (.i64) 0, .int (.i64) 0] }, { dst := none, guard := none, op := .store 2 false (.t 13) (.t 55) }, { dst := some 14, guard := none, op := .asn true (.t 56) }] ([5, 6, 8, 11, 12, 13, 14, 41, 42, 43], [12, 13, 14, 15, 18, 19, 24, 25, 26, 27, 28, 29, 30, 31, 82, 83, 84, 85, 86, 87, 88, 89, 170, 171])) (.seq (.reg 11 none [{ dst := some 57, guard := none, op := .mov (.t 14) }, { dst := some 58, guard := none, op := .mov (.t 57) }, { dst := some 59, guard := some (58, true), op := .fld 1 (.t 13) }, { dst := some 60, guard := some (58, true), op := .load none (.t 59) }, { dst := some 61, guard := some (58, true), op := .fld 2 (.t 5) }, { dst := some 62, guard := some (58, true), op := .load none (.t 61) }, { dst := some 63, guard := some (58, true), op := .fld 0 (.t 13) }, { dst := some 64, guard := some (58, true), op := .load none (.t 63) }, { dst := some 65, guard := some (58, true), op := .idx 1 (.t 62) (.t 64) }, { dst := some 66, guard := some (58, true), op := .load none (.t 65) }, { dst := some 67, guard := some (58, true), op := .len (.t 66) }, { dst := some 68, guard := some (58, true), op := .bin (.lss) (.t 60) (.t 67) }, { dst := some 69, guard := none, op := .pick (.t 58) (.t 68) (.c (.bool false)) }] ([5, 6, 8, 11, 12, 13, 41, 42, 43, 69], [12, 13, 14, 15, 18, 19, 24, 25, 26, 27, 28, 29, 30, 31, 82, 83, 84, 85, 86, 87, 88, 89, 116, 117, 118, 119, 138, 139, 140, 141, 170, 171])) (.cond (.t 69) (.reg 12 none [{ dst := some 70, guard := none, op := .fld 2 (.t 5) }, { dst := some 71, guard := none, op := .load none (.t 70) }, { dst := some 72, guard := none, op := .fld 0 (.t 13) }, { dst := some 73, guard := none, op := .load none (.t 72) }, { dst := some 74, guard := none, op := .idx 1 (.t 71) (.t 73) }, { dst := some 75, guard := none, op := .load none (.t 74) }, { dst := some 76, guard := none, op := .fld 1 (.t 13) }, { dst := some 77, guard := none, op := .load none (.t 76) }, { dst := some 78, guard := none, op := .idx 1 (.t 75) (.t 77) }, { dst := some 79, guard := none, op := .load none (.t 78) }, { dst := some 80, guard := none, op := .fld 1 (.t 12) }, { dst := none, guard := none, op := .store 1 false (.t 80) (.t 79) }] ([5, 6, 8, 11, 12, 41, 42, 43], [12, 13, 14, 15, 18, 19, 24, 25, 26, 27, 82, 83, 84, 85, 86, 87, 88, 89, 170, 171])) (.nrm ([5, 6, 8, 11, 12, 41, 42, 43], [12, 13, 14, 15, 18, 19, 24, 25, 26, 27, 82, 83, 84, 85, 86, 87, 88, 89, 170, 171]))))) (.seq (.reg 13 none [{ dst := some 81, guard := none, op := .load (some 2) (.t 11) }, { dst := some 82, guard := none, op := .load (some 2) (.t 12) }, { dst := some 83, guard := none, op := .eqa [.i, .i] true (.t 81) (.t 82) }] ([5, 6, 8, 41, 42, 43, 83], [12, 13, 14, 15, 18, 19, 82, 83, 84, 85, 86, 87, 88, 89, 168, 169, 170, 171])) (.cond (.t 83) (.seq (.reg 14 none [{ dst := some 4, guard := none, op := .asn true (.c (.bool false)) }] ([4], [10, 11])) (.ret)) (.skip))))))) (.reg 15 none [{ dst := some 84, guard := none, op := .bin (.add) (.t 43) (.c (.int (.i64) 1)) }, { dst := some 43, guard := none, op := .mov (.t 84) }] ([5, 6, 8, 41, 42, 43], [12, 13, 14, 15, 18, 19, 82, 83, 84, 85, 86, 87, 88, 89, 170, 171])))))))) (.seq (.reg 16 none [{ dst := some 85, guard := none, op := .load (some 2) (.t 8) }, { dst := some 86, guard := none, op := .call true (.f 10) [(none, .t 85)] }, { dst := some 87, guard := none, op := .mov (.t 86) }, { dst := some 88, guard := some (87, true), op := .call true (.f 11) [] }, { dst := some 89, guard := none, op := .pick (.t 87) (.t 88) (.c (.bool false)) }, { dst := some 4, guard := none, op := .asn true (.t 89) }] ([4], [10, 11])) (.ret))))))), res := [.tmp 4] }
def stA (C Z Bm D Y L : List (List TV)) (key i : Int) : St := ⟨[(5, .ptr ⟨12, 0, []⟩ [0]), (6, .ptr ⟨14, 0, []⟩ [0]), (8, .ptr ⟨18, 0, []⟩ [0]), (41, .sl Y), (42, .v (.int .i64 512)), (43, .v (.int .i64 i))], [(12, [.sl C, .sl Z, .sl D]), (14, [.sl Bm, .v (.int .u16 key)]), (18, [.sl Y, .sl L])], []⟩
def stA' (C Z Bm D Y L : List (List TV)) (key : Int) : St := ⟨[(5, .ptr ⟨12, 0, []⟩ [0]), (6, .ptr ⟨14, 0, []⟩ [0]), (8, .ptr ⟨18, 0, []⟩ [0]), (41, .sl Y), (42, .v (.int .i64 512)), (43, .v (.int .i64 512)), (44, .v (.bool false))], [(12, [.sl C, .sl Z, .sl D]), (14, [.sl Bm, .v (.int .u16 key)]), (18, [.sl Y, .sl L])], []⟩
set_option maxRecDepth 100000 in
set_option maxHeartbeats 16000000 in
theorem main_A (hb : box 9 = none) (C Z Bm D Y L R : List (List TV)) (key : Int) (i : Nat) (i1 w : Int) (r off : Nat) (m : Int)
    (hlt : realP.cm .lss i 512 = true) (hp : realP.ar .add .i64 i 1 = i1)
    (hif : ∀ d (inst : Decidable (realP.inb Y i 2 = true)), @ite _ (realP.inb Y i 2 = true) inst (wr d (.ip (realP.elt Y i))) SP.fail = wr d (.ip [.v (.int .u8 0), .v (.int .u16 w)]))
    (hR : F 9 [.agg [.sl Bm, .v (.int .u16 key)], .sl Z, .v (.int .i64 i)] [] = some (⟨[.v (.int .i64 r), .v (.int .i64 off), .v (.bool true)], [.agg 2, .one]⟩, []))
    (hiC : realP.immC Bm = Bm)
    (hinD : realP.inb D r 1 = true) (helD : realP.elt D r = [.sl R]) (hln : realP.natI (realP.lenN R) = m) (hc : realP.cm .lss off m = true)
    (hinR : realP.inb R off 1 = true) (helR : realP.elt R off = [.v (.int .u16 w)])
    (hq : realP.eqf [.i, .i] [.int .u8 0, .int .u16 w] [.int .u8 0, .int .u16 w] = some true) :
    S.runC realP (S.evCall realP ⟨box, ps⟩ F) N (.seq (.reg 7 none [{ dst := some 44, guard := none, op := .bin (.lss) (.t 43) (.t 42) }] ([5, 6, 8, 41, 42, 43, 44], [12, 13, 14, 15, 18, 19, 82, 83, 84, 85, 86, 87, 88, 89, 90, 91, 170, 171])) (.seq (.cond (.t 44) (.skip) (.exit 0)) (.seq (.block 1 (.seq (.reg 8 none [{ dst := some 45, guard := none, op := .mov (.t 43) }, { dst := some 46, guard := none, op := .idx 2 (.t 41) (.t 43) }, { dst := some 47, guard := none, op := .load (some 2) (.t 46) }, { dst := some 11, guard := none, op := .alloc [.int (.u8) 0, .int (.u16) 0] }, { dst := some 10, guard := none, op := .asn false (.t 45) }, { dst := none, guard := none, op := .store 2 false (.t 11) (.t 47) }] ([5, 6, 8, 10, 11, 41, 42, 43], [12, 13, 14, 15, 18, 19, 22, 23, 24, 25, 82, 83, 84, 85, 86, 87, 88, 89, 170, 171])) (.seq (.reg 9 none [{ dst := some 48, guard := none, op := .bld [.int (.u8) 0, .int (.u16) 0] true [] }, { dst := some 12, guard := none, op := .alloc [.int (.u8) 0, .int (.u16) 0] }, { dst := none, guard := none, op := .store 2 true (.t 12) (.t 48) }] ([5, 6, 8, 10, 11, 12, 41, 42, 43], [12, 13, 14, 15, 18, 19, 22, 23, 24, 25, 26, 27, 82, 83, 84, 85, 86, 87, 88, 89, 170, 171])) (.seq (.seq (.reg 10 none [{ dst := some 50, guard := none, op := .load (some 2) (.t 6) }, { dst := some 51, guard := none, op := .fld 1 (.t 5) }, { dst := some 52, guard := none, op := .load none (.t 51) }, { dst := some 53, guard := none, op := .mov (.t 10) }, { dst := some 54, guard := none, op := .call true (.f 9) [(none, .t 50), (none, .t 52), (none, .t 53)] }, { dst := some 49, guard := none, op := .mov (.t 54) }, { dst := some 55, guard := none, op := .ext (.t 49) 0 }, { dst := some 56, guard := none, op := .ext (.t 49) 1 }, { dst := some 13, guard := none, op := .alloc [.int (.i64) 0, .int (.i64) 0] }, { dst := none, guard := none, op := .store 2 false (.t 13) (.t 55) }, { dst := some 14, guard := none, op := .asn true (.t 56) }] ([5, 6, 8, 11, 12, 13, 14, 41, 42, 43], [12, 13, 14, 15, 18, 19, 24, 25, 26, 27, 28, 29, 30, 31, 82, 83, 84, 85, 86, 87, 88, 89, 170, 171])) (.seq (.reg 11 none [{ dst := some 57, guard := none, op := .mov (.t 14) }, { dst := some 58, guard := none, op := .mov (.t 57) }, { dst := some 59, guard := some (58, true), op := .fld 1 (.t 13) }, { dst := some 60, guard := some (58, true), op := .load none (.t 59) }, { dst := some 61, guard := some (58, true), op := .fld 2 (.t 5) }, { dst := some 62, guard := some (58, true), op := .load none (.t 61) }, { dst := some 63, guard := some (58, true), op := .fld 0 (.t 13) }, { dst := some 64, guard := some (58, true), op := .load none (.t 63) }, { dst := some 65, guard := some (58, true), op := .idx 1 (.t 62) (.t 64) }, { dst := some 66, guard := some (58, true), op := .load none (.t 65) }, { dst := some 67, guard := some (58, true), op := .len (.t 66) }, { dst := some 68, guard := some (58, true), op := .bin (.lss) (.t 60) (.t 67) }, { dst := some 69, guard := none, op := .pick (.t 58) (.t 68) (.c (.bool false)) }] ([5, 6, 8, 11, 12, 13, 41, 42, 43, 69], [12, 13, 14, 15, 18, 19, 24, 25, 26, 27, 28, 29, 30, 31, 82, 83, 84, 85, 86, 87, 88, 89, 116, 117, 118, 119, 138, 139, 140, 141, 170, 171])) (.cond (.t 69) (.reg 12 none [{ dst := some 70, guard := none, op := .fld 2 (.t 5) }, { dst := some 71, guard := none, op := .load none (.t 70) }, { dst := some 72, guard := none, op := .fld 0 (.t 13) }, { dst := some 73, guard := none, op := .load none (.t 72) }, { dst := some 74, guard := none, op := .idx 1 (.t 71) (.t 73) }, { dst := some 75, guard := none, op := .load none (.t 74) }, { dst := some 76, guard := none, op := .fld 1 (.t 13) }, { dst := some 77, guard := none, op := .load none (.t 76) }, { dst := some 78, guard := none, op := .idx 1 (.t 75) (.t 77) }, { dst := some 79, guard := none, op := .load none (.t 78) }, { dst := some 80, guard := none, op := .fld 1 (.t 12) }, { dst := none, guard := none, op := .store 1 false (.t 80) (.t 79) }] ([5, 6, 8, 11, 12, 41, 42, 43], [12, 13, 14, 15, 18, 19, 24, 25, 26, 27, 82, 83, 84, 85, 86, 87, 88, 89, 170, 171])) (.nrm ([5, 6, 8, 11, 12, 41, 42, 43], [12, 13, 14, 15, 18, 19, 24, 25, 26, 27, 82, 83, 84, 85, 86, 87, 88, 89, 170, 171]))))) (.seq (.reg 13 none [{ dst := some 81, guard := none, op := .load (some 2) (.t 11) }, { dst := some 82, guard := none, op := .load (some 2) (.t 12) }, { dst := some 83, guard := none, op := .eqa [.i, .i] true (.t 81) (.t 82) }] ([5, 6, 8, 41, 42, 43, 83], [12, 13, 14, 15, 18, 19, 82, 83, 84, 85, 86, 87, 88, 89, 168, 169, 170, 171])) (.cond (.t 83) (.seq (.reg 14 none [{ dst := some 4, guard := none, op := .asn true (.c (.bool false)) }] ([4], [10, 11])) (.ret)) (.skip))))))) (.reg 15 none [{ dst := some 84, guard := none, op := .bin (.add) (.t 43) (.c (.int (.i64) 1)) }, { dst := some 43, guard := none, op := .mov (.t 84) }] ([5, 6, 8, 41, 42, 43], [12, 13, 14, 15, 18, 19, 82, 83, 84, 85, 86, 87, 88, 89, 170, 171]))))) (stA C Z Bm D Y L key i) = some (.normal, stA C Z Bm D Y L key i1) := by
  have nb0 : realP.notB true = false := rfl; have nb1 : realP.notB false = true := rfl; have nb2 : realP.eqB true true = true := rfl; have nb3 : realP.eqB false false = true := rfl; have nb4 : realP.eqB true false = false := rfl; have nb5 : realP.eqB false true = false := rfl
  simp only [stA]
  simp only [← Int.ofNat_eq_natCast] at *
  (generalize realP = Pr at *; obtain ⟨ar, cm, sh, sb, un, cv, natI, lenN, inb, inw, elt, addN, subN, slOk, win, immC, immW, allLen, appOk, cat, mkOk, rep, getC, setC, shC, eqf, eqB, notB, fmm, strAt, strLen, strB, strOk, bstr, cpy, it⟩ := Pr; try dsimp only at *)
  ((repeat (cbv; first | done | rw [nb0] | rw [nb1] | rw [hlt] | rw [hif] | rw [hb] | rw [hR] | rw [if_pos hinD] | rw [helD] | rw [hln] | rw [hc] | rw [if_pos hinR] | rw [helR] | rw [hq] | rw [hp])); try cbv)
set_option maxRecDepth 100000 in
set_option maxHeartbeats 16000000 in
theorem main_B (hb : box 9 = none) (C Z Bm D Y L R : List (List TV)) (key : Int) (i : Nat) (i1 w : Int) (r off : Nat) (m : Int)
    (hlt : realP.cm .lss i 512 = true) (hp : realP.ar .add .i64 i 1 = i1)
    (hif : ∀ d (inst : Decidable (realP.inb Y i 2 = true)), @ite _ (realP.inb Y i 2 = true) inst (wr d (.ip (realP.elt Y i))) SP.fail = wr d (.ip [.v (.int .u8 0), .v (.int .u16 w)]))
    (hR : F 9 [.agg [.sl Bm, .v (.int .u16 key)], .sl Z, .v (.int .i64 i)] [] = some (⟨[.v (.int .i64 r), .v (.int .i64 off), .v (.bool true)], [.agg 2, .one]⟩, []))
    (hinD : realP.inb D r 1 = true) (helD : realP.elt D r = [.sl R]) (hln : realP.natI (realP.lenN R) = m) (hc : realP.cm .lss off m = false)
    (hq : realP.eqf [.i, .i] [.int .u8 0, .int .u16 w] [.int .u8 0, .int .u16 0] = some true) :
    S.runC realP (S.evCall realP ⟨box, ps⟩ F) N (.seq (.reg 7 none [{ dst := some 44, guard := none, op := .bin (.lss) (.t 43) (.t 42) }] ([5, 6, 8, 41, 42, 43, 44], [12, 13, 14, 15, 18, 19, 82, 83, 84, 85, 86, 87, 88, 89, 90, 91, 170, 171])) (.seq (.cond (.t 44) (.skip) (.exit 0)) (.seq (.block 1 (.seq (.reg 8 none [{ dst := some 45, guard := none, op := .mov (.t 43) }, { dst := some 46, guard := none, op := .idx 2 (.t 41) (.t 43) }, { dst := some 47, guard := none, op := .load (some 2) (.t 46) }, { dst := some 11, guard := none, op := .alloc [.int (.u8) 0, .int (.u16) 0] }, { dst := some 10, guard := none, op := .asn false (.t 45) }, { dst := none, guard := none, op := .store 2 false (.t 11) (.t 47) }] ([5, 6, 8, 10, 11, 41, 42, 43], [12, 13, 14, 15, 18, 19, 22, 23, 24, 25, 82, 83, 84, 85, 86, 87, 88, 89, 170, 171])) (.seq (.reg 9 none [{ dst := some 48, guard := none, op := .bld [.int (.u8) 0, .int (.u16) 0] true [] }, { dst := some 12, guard := none, op := .alloc [.int (.u8) 0, .int (.u16) 0] }, { dst := none, guard := none, op := .store 2 true (.t 12) (.t 48) }] ([5, 6, 8, 10, 11, 12, 41, 42, 43], [12, 13, 14, 15, 18, 19, 22, 23, 24, 25, 26, 27, 82, 83, 84, 85, 86, 87, 88, 89, 170, 171])) (.seq (.seq (.reg 10 none [{ dst := some 50, guard := none, op := .load (some 2) (.t 6) }, { dst := some 51, guard := none, op := .fld 1 (.t 5) }, { dst := some 52, guard := none, op := .load none (.t 51) }, { dst := some 53, guard := none, op := .mov (.t 10) }, { dst := some 54, guard := none, op := .call true (.f 9) [(none, .t 50), (none, .t 52), (none, .t 53)] }, { dst := some 49, guard := none, op := .mov (.t 54) }, { dst := some 55, guard := none, op := .ext (.t 49) 0 }, { dst := some 56, guard := none, op := .ext (.t 49) 1 }, { dst := some 13, guard := none, op := .alloc [.int (.i64) 0, .int (.i64) 0] }, { dst := none, guard := none, op := .store 2 false (.t 13) (.t 55) }, { dst := some 14, guard := none, op := .asn true (.t 56) }] ([5, 6, 8, 11, 12, 13, 14, 41, 42, 43], [12, 13, 14, 15, 18, 19, 24, 25, 26, 27, 28, 29, 30, 31, 82, 83, 84, 85, 86, 87, 88, 89, 170, 171])) (.seq (.reg 11 none [{ dst := some 57, guard := none, op := .mov (.t 14) }, { dst := some 58, guard := none, op := .mov (.t 57) }, { dst := some 59, guard := some (58, true), op := .fld 1 (.t 13) }, { dst := some 60, guard := some (58, true), op := .load none (.t 59) }, { dst := some 61, guard := some (58, true), op := .fld 2 (.t 5) }, { dst := some 62, guard := some (58, true), op := .load none (.t 61) }, { dst := some 63, guard := some (58, true), op := .fld 0 (.t 13) }, { dst := some 64, guard := some (58, true), op := .load none (.t 63) }, { dst := some 65, guard := some (58, true), op := .idx 1 (.t 62) (.t 64) }, { dst := some 66, guard := some (58, true), op := .load none (.t 65) }, { dst := some 67, guard := some (58, true), op := .len (.t 66) }, { dst := some 68, guard := some (58, true), op := .bin (.lss) (.t 60) (.t 67) }, { dst := some 69, guard := none, op := .pick (.t 58) (.t 68) (.c (.bool false)) }] ([5, 6, 8, 11, 12, 13, 41, 42, 43, 69], [12, 13, 14, 15, 18, 19, 24, 25, 26, 27, 28, 29, 30, 31, 82, 83, 84, 85, 86, 87, 88, 89, 116, 117, 118, 119, 138, 139, 140, 141, 170, 171])) (.cond (.t 69) (.reg 12 none [{ dst := some 70, guard := none, op := .fld 2 (.t 5) }, { dst := some 71, guard := none, op := .load none (.t 70) }, { dst := some 72, guard := none, op := .fld 0 (.t 13) }, { dst := some 73, guard := none, op := .load none (.t 72) }, { dst := some 74, guard := none, op := .idx 1 (.t 71) (.t 73) }, { dst := some 75, guard := none, op := .load none (.t 74) }, { dst := some 76, guard := none, op := .fld 1 (.t 13) }, { dst := some 77, guard := none, op := .load none (.t 76) }, { dst := some 78, guard := none, op := .idx 1 (.t 75) (.t 77) }, { dst := some 79, guard := none, op := .load none (.t 78) }, { dst := some 80, guard := none, op := .fld 1 (.t 12) }, { dst := none, guard := none, op := .store 1 false (.t 80) (.t 79) }] ([5, 6, 8, 11, 12, 41, 42, 43], [12, 13, 14, 15, 18, 19, 24, 25, 26, 27, 82, 83, 84, 85, 86, 87, 88, 89, 170, 171])) (.nrm ([5, 6, 8, 11, 12, 41, 42, 43], [12, 13, 14, 15, 18, 19, 24, 25, 26, 27, 82, 83, 84, 85, 86, 87, 88, 89, 170, 171]))))) (.seq (.reg 13 none [{ dst := some 81, guard := none, op := .load (some 2) (.t 11) }, { dst := some 82, guard := none, op := .load (some 2) (.t 12) }, { dst := some 83, guard := none, op := .eqa [.i, .i] true (.t 81) (.t 82) }] ([5, 6, 8, 41, 42, 43, 83], [12, 13, 14, 15, 18, 19, 82, 83, 84, 85, 86, 87, 88, 89, 168, 169, 170, 171])) (.cond (.t 83) (.seq (.reg 14 none [{ dst := some 4, guard := none, op := .asn true (.c (.bool false)) }] ([4], [10, 11])) (.ret)) (.skip))))))) (.reg 15 none [{ dst := some 84, guard := none, op := .bin (.add) (.t 43) (.c (.int (.i64) 1)) }, { dst := some 43, guard := none, op := .mov (.t 84) }] ([5, 6, 8, 41, 42, 43], [12, 13, 14, 15, 18, 19, 82, 83, 84, 85, 86, 87, 88, 89, 170, 171]))))) (stA C Z Bm D Y L key i) = some (.normal, stA C Z Bm D Y L key i1) := by
  have nb0 : realP.notB true = false := rfl; have nb1 : realP.notB false = true := rfl; have nb2 : realP.eqB true true = true := rfl; have nb3 : realP.eqB false false = true := rfl; have nb4 : realP.eqB true false = false := rfl; have nb5 : realP.eqB false true = false := rfl
  simp only [stA]
  simp only [← Int.ofNat_eq_natCast] at *
  (generalize realP = Pr at *; obtain ⟨ar, cm, sh, sb, un, cv, natI, lenN, inb, inw, elt, addN, subN, slOk, win, immC, immW, allLen, appOk, cat, mkOk, rep, getC, setC, shC, eqf, eqB, notB, fmm, strAt, strLen, strB, strOk, bstr, cpy, it⟩ := Pr; try dsimp only at *)
  ((repeat (cbv; first | done | rw [nb0] | rw [nb1] | rw [hlt] | rw [hif] | rw [hb] | rw [hR] | rw [if_pos hinD] | rw [helD] | rw [hln] | rw [hc] | rw [hq] | rw [hp])); try cbv)
set_option maxRecDepth 100000 in
set_option maxHeartbeats 16000000 in
theorem main_C (hb : box 9 = none) (C Z Bm D Y L : List (List TV)) (key : Int) (i : Nat) (i1 w : Int) (r off : Int)
    (hlt : realP.cm .lss i 512 = true) (hp : realP.ar .add .i64 i 1 = i1)
    (hif : ∀ d (inst : Decidable (realP.inb Y i 2 = true)), @ite _ (realP.inb Y i 2 = true) inst (wr d (.ip (realP.elt Y i))) SP.fail = wr d (.ip [.v (.int .u8 0), .v (.int .u16 w)]))
    (hR : F 9 [.agg [.sl Bm, .v (.int .u16 key)], .sl Z, .v (.int .i64 i)] [] = some (⟨[.v (.int .i64 r), .v (.int .i64 off), .v (.bool false)], [.agg 2, .one]⟩, []))
    (hq : realP.eqf [.i, .i] [.int .u8 0, .int .u16 w] [.int .u8 0, .int .u16 0] = some true) :
    S.runC realP (S.evCall realP ⟨box, ps⟩ F) N (.seq (.reg 7 none [{ dst := some 44, guard := none, op := .bin (.lss) (.t 43) (.t 42) }] ([5, 6, 8, 41, 42, 43, 44], [12, 13, 14, 15, 18, 19, 82, 83, 84, 85, 86, 87, 88, 89, 90, 91, 170, 171])) (.seq (.cond (.t 44) (.skip) (.exit 0)) (.seq (.block 1 (.seq (.reg 8 none [{ dst := some 45, guard := none, op := .mov (.t 43) }, { dst := some 46, guard := none, op := .idx 2 (.t 41) (.t 43) }, { dst := some 47, guard := none, op := .load (some 2) (.t 46) }, { dst := some 11, guard := none, op := .alloc [.int (.u8) 0, .int (.u16) 0] }, { dst := some 10, guard := none, op := .asn false (.t 45) }, { dst := none, guard := none, op := .store 2 false (.t 11) (.t 47) }] ([5, 6, 8, 10, 11, 41, 42, 43], [12, 13, 14, 15, 18, 19, 22, 23, 24, 25, 82, 83, 84, 85, 86, 87, 88, 89, 170, 171])) (.seq (.reg 9 none [{ dst := some 48, guard := none, op := .bld [.int (.u8) 0, .int (.u16) 0] true [] }, { dst := some 12, guard := none, op := .alloc [.int (.u8) 0, .int (.u16) 0] }, { dst := none, guard := none, op := .store 2 true (.t 12) (.t 48) }] ([5, 6, 8, 10, 11, 12, 41, 42, 43], [12, 13, 14, 15, 18, 19, 22, 23, 24, 25, 26, 27, 82, 83, 84, 85, 86, 87, 88, 89, 170, 171])) (.seq (.seq (.reg 10 none [{ dst := some 50, guard := none, op := .load (some 2) (.t 6) }, { dst := some 51, guard := none, op := .fld 1 (.t 5) }, { dst := some 52, guard := none, op := .load none (.t 51) }, { dst := some 53, guard := none, op := .mov (.t 10) }, { dst := some 54, guard := none, op := .call true (.f 9) [(none, .t 50), (none, .t 52), (none, .t 53)] }, { dst := some 49, guard := none, op := .mov (.t 54) }, { dst := some 55, guard := none, op := .ext (.t 49) 0 }, { dst := some 56, guard := none, op := .ext (.t 49) 1 }, { dst := some 13, guard := none, op := .alloc [.int (.i64) 0, .int (.i64) 0] }, { dst := none, guard := none, op := .store 2 false (.t 13) (.t 55) }, { dst := some 14, guard := none, op := .asn true (.t 56) }] ([5, 6, 8, 11, 12, 13, 14, 41, 42, 43], [12, 13, 14, 15, 18, 19, 24, 25, 26, 27, 28, 29, 30, 31, 82, 83, 84, 85, 86, 87, 88, 89, 170, 171])) (.seq (.reg 11 none [{ dst := some 57, guard := none, op := .mov (.t 14) }, { dst := some 58, guard := none, op := .mov (.t 57) }, { dst := some 59, guard := some (58, true), op := .fld 1 (.t 13) }, { dst := some 60, guard := some (58, true), op := .load none (.t 59) }, { dst := some 61, guard := some (58, true), op := .fld 2 (.t 5) }, { dst := some 62, guard := some (58, true), op := .load none (.t 61) }, { dst := some 63, guard := some (58, true), op := .fld 0 (.t 13) }, { dst := some 64, guard := some (58, true), op := .load none (.t 63) }, { dst := some 65, guard := some (58, true), op := .idx 1 (.t 62) (.t 64) }, { dst := some 66, guard := some (58, true), op := .load none (.t 65) }, { dst := some 67, guard := some (58, true), op := .len (.t 66) }, { dst := some 68, guard := some (58, true), op := .bin (.lss) (.t 60) (.t 67) }, { dst := some 69, guard := none, op := .pick (.t 58) (.t 68) (.c (.bool false)) }] ([5, 6, 8, 11, 12, 13, 41, 42, 43, 69], [12, 13, 14, 15, 18, 19, 24, 25, 26, 27, 28, 29, 30, 31, 82, 83, 84, 85, 86, 87, 88, 89, 116, 117, 118, 119, 138, 139, 140, 141, 170, 171])) (.cond (.t 69) (.reg 12 none [{ dst := some 70, guard := none, op := .fld 2 (.t 5) }, { dst := some 71, guard := none, op := .load none (.t 70) }, { dst := some 72, guard := none, op := .fld 0 (.t 13) }, { dst := some 73, guard := none, op := .load none (.t 72) }, { dst := some 74, guard := none, op := .idx 1 (.t 71) (.t 73) }, { dst := some 75, guard := none, op := .load none (.t 74) }, { dst := some 76, guard := none, op := .fld 1 (.t 13) }, { dst := some 77, guard := none, op := .load none (.t 76) }, { dst := some 78, guard := none, op := .idx 1 (.t 75) (.t 77) }, { dst := some 79, guard := none, op := .load none (.t 78) }, { dst := some 80, guard := none, op := .fld 1 (.t 12) }, { dst := none, guard := none, op := .store 1 false (.t 80) (.t 79) }] ([5, 6, 8, 11, 12, 41, 42, 43], [12, 13, 14, 15, 18, 19, 24, 25, 26, 27, 82, 83, 84, 85, 86, 87, 88, 89, 170, 171])) (.nrm ([5, 6, 8, 11, 12, 41, 42, 43], [12, 13, 14, 15, 18, 19, 24, 25, 26, 27, 82, 83, 84, 85, 86, 87, 88, 89, 170, 171]))))) (.seq (.reg 13 none [{ dst := some 81, guard := none, op := .load (some 2) (.t 11) }, { dst := some 82, guard := none, op := .load (some 2) (.t 12) }, { dst := some 83, guard := none, op := .eqa [.i, .i] true (.t 81) (.t 82) }] ([5, 6, 8, 41, 42, 43, 83], [12, 13, 14, 15, 18, 19, 82, 83, 84, 85, 86, 87, 88, 89, 168, 169, 170, 171])) (.cond (.t 83) (.seq (.reg 14 none [{ dst := some 4, guard := none, op := .asn true (.c (.bool false)) }] ([4], [10, 11])) (.ret)) (.skip))))))) (.reg 15 none [{ dst := some 84, guard := none, op := .bin (.add) (.t 43) (.c (.int (.i64) 1)) }, { dst := some 43, guard := none, op := .mov (.t 84) }] ([5, 6, 8, 41, 42, 43], [12, 13, 14, 15, 18, 19, 82, 83, 84, 85, 86, 87, 88, 89, 170, 171]))))) (stA C Z Bm D Y L key i) = some (.normal, stA C Z Bm D Y L key i1) := by
  have nb0 : realP.notB true = false := rfl; have nb1 : realP.notB false = true := rfl; have nb2 : realP.eqB true true = true := rfl; have nb3 : realP.eqB false false = true := rfl; have nb4 : realP.eqB true false = false := rfl; have nb5 : realP.eqB false true = false := rfl
  simp only [stA]
  simp only [← Int.ofNat_eq_natCast] at *
  (generalize realP = Pr at *; obtain ⟨ar, cm, sh, sb, un, cv, natI, lenN, inb, inw, elt, addN, subN, slOk, win, immC, immW, allLen, appOk, cat, mkOk, rep, getC, setC, shC, eqf, eqB, notB, fmm, strAt, strLen, strB, strOk, bstr, cpy, it⟩ := Pr; try dsimp only at *)
  ((repeat (cbv; first | done | rw [nb0] | rw [nb1] | rw [hlt] | rw [hif] | rw [hb] | rw [hR] | rw [hq] | rw [hp])); try cbv)
set_option maxRecDepth 100000 in
set_option maxHeartbeats 16000000 in
theorem main_Z (E : Env) (C Z Bm D Y L : List (List TV)) (key : Int) (hlt : realP.cm .lss 512 512 = false) :
    S.runC realP (S.evCall realP E F) N (.seq (.reg 7 none [{ dst := some 44, guard := none, op := .bin (.lss) (.t 43) (.t 42) }] ([5, 6, 8, 41, 42, 43, 44], [12, 13, 14, 15, 18, 19, 82, 83, 84, 85, 86, 87, 88, 89, 90, 91, 170, 171])) (.seq (.cond (.t 44) (.skip) (.exit 0)) (.seq (.block 1 (.seq (.reg 8 none [{ dst := some 45, guard := none, op := .mov (.t 43) }, { dst := some 46, guard := none, op := .idx 2 (.t 41) (.t 43) }, { dst := some 47, guard := none, op := .load (some 2) (.t 46) }, { dst := some 11, guard := none, op := .alloc [.int (.u8) 0, .int (.u16) 0] }, { dst := some 10, guard := none, op := .asn false (.t 45) }, { dst := none, guard := none, op := .store 2 false (.t 11) (.t 47) }] ([5, 6, 8, 10, 11, 41, 42, 43], [12, 13, 14, 15, 18, 19, 22, 23, 24, 25, 82, 83, 84, 85, 86, 87, 88, 89, 170, 171])) (.seq (.reg 9 none [{ dst := some 48, guard := none, op := .bld [.int (.u8) 0, .int (.u16) 0] true [] }, { dst := some 12, guard := none, op := .alloc [.int (.u8) 0, .int (.u16) 0] }, { dst := none, guard := none, op := .store 2 true (.t 12) (.t 48) }] ([5, 6, 8, 10, 11, 12, 41, 42, 43], [12, 13, 14, 15, 18, 19, 22, 23, 24, 25, 26, 27, 82, 83, 84, 85, 86, 87, 88, 89, 170, 171])) (.seq (.seq (.reg 10 none [{ dst := some 50, guard := none, op := .load (some 2) (.t 6) }, { dst := some 51, guard := none, op := .fld 1 (.t 5) }, { dst := some 52, guard := none, op := .load none (.t 51) }, { dst := some 53, guard := none, op := .mov (.t 10) }, { dst := some 54, guard := none, op := .call true (.f 9) [(none, .t 50), (none, .t 52), (none, .t 53)] }, { dst := some 49, guard := none, op := .mov (.t 54) }, { dst := some 55, guard := none, op := .ext (.t 49) 0 }, { dst := some 56, guard := none, op := .ext (.t 49) 1 }, { dst := some 13, guard := none, op := .alloc [.int (.i64) 0, .int (.i64) 0] }, { dst := none, guard := none, op := .store 2 false (.t 13) (.t 55) }, { dst := some 14, guard := none, op := .asn true (.t 56) }] ([5, 6, 8, 11, 12, 13, 14, 41, 42, 43], [12, 13, 14, 15, 18, 19, 24, 25, 26, 27, 28, 29, 30, 31, 82, 83, 84, 85, 86, 87, 88, 89, 170, 171])) (.seq (.reg 11 none [{ dst := some 57, guard := none, op := .mov (.t 14) }, { dst := some 58, guard := none, op := .mov (.t 57) }, { dst := some 59, guard := some (58, true), op := .fld 1 (.t 13) }, { dst := some 60, guard := some (58, true), op := .load none (.t 59) }, { dst := some 61, guard := some (58, true), op := .fld 2 (.t 5) }, { dst := some 62, guard := some (58, true), op := .load none (.t 61) }, { dst := some 63, guard := some (58, true), op := .fld 0 (.t 13) }, { dst := some 64, guard := some (58, true), op := .load none (.t 63) }, { dst := some 65, guard := some (58, true), op := .idx 1 (.t 62) (.t 64) }, { dst := some 66, guard := some (58, true), op := .load none (.t 65) }, { dst := some 67, guard := some (58, true), op := .len (.t 66) }, { dst := some 68, guard := some (58, true), op := .bin (.lss) (.t 60) (.t 67) }, { dst := some 69, guard := none, op := .pick (.t 58) (.t 68) (.c (.bool false)) }] ([5, 6, 8, 11, 12, 13, 41, 42, 43, 69], [12, 13, 14, 15, 18, 19, 24, 25, 26, 27, 28, 29, 30, 31, 82, 83, 84, 85, 86, 87, 88, 89, 116, 117, 118, 119, 138, 139, 140, 141, 170, 171])) (.cond (.t 69) (.reg 12 none [{ dst := some 70, guard := none, op := .fld 2 (.t 5) }, { dst := some 71, guard := none, op := .load none (.t 70) }, { dst := some 72, guard := none, op := .fld 0 (.t 13) }, { dst := some 73, guard := none, op := .load none (.t 72) }, { dst := some 74, guard := none, op := .idx 1 (.t 71) (.t 73) }, { dst := some 75, guard := none, op := .load none (.t 74) }, { dst := some 76, guard := none, op := .fld 1 (.t 13) }, { dst := some 77, guard := none, op := .load none (.t 76) }, { dst := some 78, guard := none, op := .idx 1 (.t 75) (.t 77) }, { dst := some 79, guard := none, op := .load none (.t 78) }, { dst := some 80, guard := none, op := .fld 1 (.t 12) }, { dst := none, guard := none, op := .store 1 false (.t 80) (.t 79) }] ([5, 6, 8, 11, 12, 41, 42, 43], [12, 13, 14, 15, 18, 19, 24, 25, 26, 27, 82, 83, 84, 85, 86, 87, 88, 89, 170, 171])) (.nrm ([5, 6, 8, 11, 12, 41, 42, 43], [12, 13, 14, 15, 18, 19, 24, 25, 26, 27, 82, 83, 84, 85, 86, 87, 88, 89, 170, 171]))))) (.seq (.reg 13 none [{ dst := some 81, guard := none, op := .load (some 2) (.t 11) }, { dst := some 82, guard := none, op := .load (some 2) (.t 12) }, { dst := some 83, guard := none, op := .eqa [.i, .i] true (.t 81) (.t 82) }] ([5, 6, 8, 41, 42, 43, 83], [12, 13, 14, 15, 18, 19, 82, 83, 84, 85, 86, 87, 88, 89, 168, 169, 170, 171])) (.cond (.t 83) (.seq (.reg 14 none [{ dst := some 4, guard := none, op := .asn true (.c (.bool false)) }] ([4], [10, 11])) (.ret)) (.skip))))))) (.reg 15 none [{ dst := some 84, guard := none, op := .bin (.add) (.t 43) (.c (.int (.i64) 1)) }, { dst := some 43, guard := none, op := .mov (.t 84) }] ([5, 6, 8, 41, 42, 43], [12, 13, 14, 15, 18, 19, 82, 83, 84, 85, 86, 87, 88, 89, 170, 171]))))) (stA C Z Bm D Y L key 512) = some (.exit 0, stA' C Z Bm D Y L key) := by
  have nb0 : realP.notB true = false := rfl; have nb1 : realP.notB false = true := rfl; have nb2 : realP.eqB true true = true := rfl; have nb3 : realP.eqB false false = true := rfl; have nb4 : realP.eqB true false = false := rfl; have nb5 : realP.eqB false true = false := rfl
  simp only [stA, stA']
  (generalize realP = Pr at *; obtain ⟨ar, cm, sh, sb, un, cv, natI, lenN, inb, inw, elt, addN, subN, slOk, win, immC, immW, allLen, appOk, cat, mkOk, rep, getC, setC, shC, eqf, eqB, notB, fmm, strAt, strLen, strB, strOk, bstr, cpy, it⟩ := Pr; try dsimp only at *)
  ((repeat (cbv; first | done | rw [nb0] | rw [nb1] | rw [hlt])); try cbv)
theorem eqf_cell (w : Int) : realP.eqf [.i, .i] [.int .u8 0, .int .u16 w] [.int .u8 0, .int .u16 w] = some true := by
  show eqFlats _ _ _ = _
  simp [eqFlats, flatAt]
set_option maxRecDepth 100000 in
theorem main_loop (hb : box 9 = none) (hRes : ResC F) (C L : List (List TV)) (key : Int) (sizes B : List Int) (data : List (List Int)) (cells : List Int) (h : SizesOk sizes) (hB : LayOk sizes B) (hD : DataOk sizes data) (hdl : data.length = sizes.length) (hm : MemL B data data.length cells) : ∀ j m σ, (∃ i : Nat, σ = stA C (sizes.map encI) (B.map encI) (data.map encDs) (cells.map encN) L key i ∧ i + j = 512) → j < m →
    ∃ e σ', realP.it (S.runC realP (S.evCall realP ⟨box, ps⟩ F) N (.seq (.reg 7 none [{ dst := some 44, guard := none, op := .bin (.lss) (.t 43) (.t 42) }] ([5, 6, 8, 41, 42, 43, 44], [12, 13, 14, 15, 18, 19, 82, 83, 84, 85, 86, 87, 88, 89, 90, 91, 170, 171])) (.seq (.cond (.t 44) (.skip) (.exit 0)) (.seq (.block 1 (.seq (.reg 8 none [{ dst := some 45, guard := none, op := .mov (.t 43) }, { dst := some 46, guard := none, op := .idx 2 (.t 41) (.t 43) }, { dst := some 47, guard := none, op := .load (some 2) (.t 46) }, { dst := some 11, guard := none, op := .alloc [.int (.u8) 0, .int (.u16) 0] }, { dst := some 10, guard := none, op := .asn false (.t 45) }, { dst := none, guard := none, op := .store 2 false (.t 11) (.t 47) }] ([5, 6, 8, 10, 11, 41, 42, 43], [12, 13, 14, 15, 18, 19, 22, 23, 24, 25, 82, 83, 84, 85, 86, 87, 88, 89, 170, 171])) (.seq (.reg 9 none [{ dst := some 48, guard := none, op := .bld [.int (.u8) 0, .int (.u16) 0] true [] }, { dst := some 12, guard := none, op := .alloc [.int (.u8) 0, .int (.u16) 0] }, { dst := none, guard := none, op := .store 2 true (.t 12) (.t 48) }] ([5, 6, 8, 10, 11, 12, 41, 42, 43], [12, 13, 14, 15, 18, 19, 22, 23, 24, 25, 26, 27, 82, 83, 84, 85, 86, 87, 88, 89, 170, 171])) (.seq (.seq (.reg 10 none [{ dst := some 50, guard := none, op := .load (some 2) (.t 6) }, { dst := some 51, guard := none, op := .fld 1 (.t 5) }, { dst := some 52, guard := none, op := .load none (.t 51) }, { dst := some 53, guard := none, op := .mov (.t 10) }, { dst := some 54, guard := none, op := .call true (.f 9) [(none, .t 50), (none, .t 52), (none, .t 53)] }, { dst := some 49, guard := none, op := .mov (.t 54) }, { dst := some 55, guard := none, op := .ext (.t 49) 0 }, { dst := some 56, guard := none, op := .ext (.t 49) 1 }, { dst := some 13, guard := none, op := .alloc [.int (.i64) 0, .int (.i64) 0] }, { dst := none, guard := none, op := .store 2 false (.t 13) (.t 55) }, { dst := some 14, guard := none, op := .asn true (.t 56) }] ([5, 6, 8, 11, 12, 13, 14, 41, 42, 43], [12, 13, 14, 15, 18, 19, 24, 25, 26, 27, 28, 29, 30, 31, 82, 83, 84, 85, 86, 87, 88, 89, 170, 171])) (.seq (.reg 11 none [{ dst := some 57, guard := none, op := .mov (.t 14) }, { dst := some 58, guard := none, op := .mov (.t 57) }, { dst := some 59, guard := some (58, true), op := .fld 1 (.t 13) }, { dst := some 60, guard := some (58, true), op := .load none (.t 59) }, { dst := some 61, guard := some (58, true), op := .fld 2 (.t 5) }, { dst := some 62, guard := some (58, true), op := .load none (.t 61) }, { dst := some 63, guard := some (58, true), op := .fld 0 (.t 13) }, { dst := some 64, guard := some (58, true), op := .load none (.t 63) }, { dst := some 65, guard := some (58, true), op := .idx 1 (.t 62) (.t 64) }, { dst := some 66, guard := some (58, true), op := .load none (.t 65) }, { dst := some 67, guard := some (58, true), op := .len (.t 66) }, { dst := some 68, guard := some (58, true), op := .bin (.lss) (.t 60) (.t 67) }, { dst := some 69, guard := none, op := .pick (.t 58) (.t 68) (.c (.bool false)) }] ([5, 6, 8, 11, 12, 13, 41, 42, 43, 69], [12, 13, 14, 15, 18, 19, 24, 25, 26, 27, 28, 29, 30, 31, 82, 83, 84, 85, 86, 87, 88, 89, 116, 117, 118, 119, 138, 139, 140, 141, 170, 171])) (.cond (.t 69) (.reg 12 none [{ dst := some 70, guard := none, op := .fld 2 (.t 5) }, { dst := some 71, guard := none, op := .load none (.t 70) }, { dst := some 72, guard := none, op := .fld 0 (.t 13) }, { dst := some 73, guard := none, op := .load none (.t 72) }, { dst := some 74, guard := none, op := .idx 1 (.t 71) (.t 73) }, { dst := some 75, guard := none, op := .load none (.t 74) }, { dst := some 76, guard := none, op := .fld 1 (.t 13) }, { dst := some 77, guard := none, op := .load none (.t 76) }, { dst := some 78, guard := none, op := .idx 1 (.t 75) (.t 77) }, { dst := some 79, guard := none, op := .load none (.t 78) }, { dst := some 80, guard := none, op := .fld 1 (.t 12) }, { dst := none, guard := none, op := .store 1 false (.t 80) (.t 79) }] ([5, 6, 8, 11, 12, 41, 42, 43], [12, 13, 14, 15, 18, 19, 24, 25, 26, 27, 82, 83, 84, 85, 86, 87, 88, 89, 170, 171])) (.nrm ([5, 6, 8, 11, 12, 41, 42, 43], [12, 13, 14, 15, 18, 19, 24, 25, 26, 27, 82, 83, 84, 85, 86, 87, 88, 89, 170, 171]))))) (.seq (.reg 13 none [{ dst := some 81, guard := none, op := .load (some 2) (.t 11) }, { dst := some 82, guard := none, op := .load (some 2) (.t 12) }, { dst := some 83, guard := none, op := .eqa [.i, .i] true (.t 81) (.t 82) }] ([5, 6, 8, 41, 42, 43, 83], [12, 13, 14, 15, 18, 19, 82, 83, 84, 85, 86, 87, 88, 89, 168, 169, 170, 171])) (.cond (.t 83) (.seq (.reg 14 none [{ dst := some 4, guard := none, op := .asn true (.c (.bool false)) }] ([4], [10, 11])) (.ret)) (.skip))))))) (.reg 15 none [{ dst := some 84, guard := none, op := .bin (.add) (.t 43) (.c (.int (.i64) 1)) }, { dst := some 43, guard := none, op := .mov (.t 84) }] ([5, 6, 8, 41, 42, 43], [12, 13, 14, 15, 18, 19, 82, 83, 84, 85, 86, 87, 88, 89, 170, 171])))))) m σ = some (e, σ') ∧ e = .exit 0 ∧ σ' = stA' C (sizes.map encI) (B.map encI) (data.map encDs) (cells.map encN) L key := by
  refine it_some _ _ ?_
  rintro j σ ⟨i, rfl, hij⟩
  have hl := hm.len
  have hBl := hB.len
  cases j with
  | zero =>
    obtain rfl : i = 512 := by omega
    exact ⟨.exit 0, _, main_Z F N ⟨box, ps⟩ C _ _ _ _ L key rfl, .inr ⟨by simp, rfl, rfl⟩⟩
  | succ j =>
    have hi : i < cells.length := by omega
    refine ⟨.normal, stA C (sizes.map encI) (B.map encI) (data.map encDs) (cells.map encN) L key (i + 1 : Nat), ?_, .inl ⟨rfl, j, by omega, i + 1, rfl, by omega⟩⟩
    have hlt : realP.cm .lss (i : Int) 512 = true := lss_t (by omega)
    have hp : realP.ar .add .i64 (i : Int) 1 = ((i + 1 : Nat) : Int) := by rw [add64 (by omega) (by omega)]; simp
    have hif : ∀ d (inst : Decidable (realP.inb (cells.map encN) i 2 = true)), @ite _ (realP.inb (cells.map encN) i 2 = true) inst (wr d (.ip (realP.elt (cells.map encN) i))) SP.fail = wr d (.ip [.v (.int .u8 0), .v (.int .u16 cells[i])]) := fun d inst => by rw [if_pos (inb_map (f := encN) (sz := 2) hi rfl (by decide)), elt_map hi]; rfl
    have hge : cells[i]? = some cells[i] := List.getElem?_eq_getElem hi
    obtain ⟨rg, off, ok, hR, ⟨rfl, r, hr, rfl, ⟨_, hr2, q1, q2⟩, rfl⟩ | ⟨rfl, hno⟩⟩ := hRes sizes B key i h hB (by omega) (by omega)
    · have hr3 : r < data.length := by omega
      obtain ⟨o, ho⟩ : ∃ o : Nat, (i : Int) - B[r] = o := ⟨((i : Int) - B[r]).toNat, by omega⟩
      rw [ho] at hR
      have hinD : realP.inb (data.map encDs) r 1 = true := inb_map hr3 rfl (by decide)
      have helD : realP.elt (data.map encDs) r = [.sl (data[r].map encW)] := elt_map hr3
      have hln : realP.natI (realP.lenN (data[r].map encW)) = data[r].length := lenI_map encW _
      have q3 := hB.lo r hr
      by_cases hc : o < data[r].length
      · have hcell := hm.in_ r hr hr3 hr3 o hc
        rw [show B[r].toNat + o = i by omega, hge] at hcell
        injection hcell with hcell
        refine main_A box ps F N hb C _ _ _ _ L (data[r].map encW) key i _ cells[i] r o _ hlt hp hif hR (immC_map B fun _ => rfl) hinD helD hln (lss_t (by omega)) (inb_map hc rfl (by decide)) ?_ (eqf_cell _)
        rw [hcell]; exact elt_map hc
      · have hcell := hm.out i (by omega) (by
          intro r' h1 h2 _ hin'
          by_cases e : r' = r
          · subst e; omega
          · have hr4 : r' < sizes.length := by omega
            have q4 := hB.dis r r' hr h1 hr2 hr4 (Ne.symm e)
            have q5 := hD.row r' h2 hr4
            omega)
        rw [hge] at hcell
        injection hcell with hcell
        refine main_B box ps F N hb C _ _ _ _ L (data[r].map encW) key i _ cells[i] r o _ hlt hp hif hR hinD helD hln (lss_f (by omega)) ?_
        rw [hcell]; exact eqf_cell 0
    · have hcell := hm.out i (by omega) (by
        intro r' h1 h2 _ hin'
        have hr4 : r' < sizes.length := by omega
        have q5 := hD.row r' h2 hr4
        exact hno r' ⟨h1, hr4, hin'.1, by omega⟩)
      rw [hge] at hcell
      injection hcell with hcell
      refine main_C box ps F N hb C _ _ _ _ L key i _ cells[i] rg off hlt hp hif hR ?_
      rw [hcell]; exact eqf_cell 0
def AwakeC (F : Callee) : Prop := F 11 [] [] = some (⟨[.v (.bool true)], [.one]⟩, [])
def MakeC (F : Callee) : Prop := ∀ sizes, SizesOk sizes → ∀ s : Nat, s ≤ 1073741823 → ∃ B key, F 6 [.sl (sizes.map encI), .v (.int .i64 (s : Int))] [] = some (⟨[.ow (B.map encI), .v (.int .u16 key), .v (.int .i64 0)], [.agg 2, .one]⟩, []) ∧ LayOk sizes B
theorem immC_dat (data : List (List Int)) : realP.immC (data.map encDat) = data.map encDs := by
  show TV.immLL (data.map encDat) = _
  induction data with
  | nil => rfl
  | cons x l ih =>
    simp only [List.map_cons, TV.immLL, ih]
    congr 1
    show [TV.sl (TV.immLL (x.map encW))] = _
    have := immC_map (f := encW) x fun _ => rfl
    rw [show TV.immLL (x.map encW) = x.map encW from this]
    rfl
structure MainF (F : Callee) : Prop where
  f1 : ProgC F
  f2 : ModC F
  f3 : MakeC F
  f4 : LoadC F
  f5 : ResC F
  f6 : MValC F
  f7 : AwakeC F
structure MainBox (box : FuncId → Option (Nat × List BxC)) : Prop where
  b0 : box 4 = some (1, [.arg 0, .val (.int .i64 0)])
  b1 : box 5 = none
  b2 : box 7 = none
  b3 : box 6 = none
  b4 : box 8 = none
  b5 : box 9 = none
  b6 : box 10 = none
  b7 : box 11 = none
set_option maxRecDepth 100000 in
set_option maxHeartbeats 16000000 in
theorem main_run (hb : MainBox box) (hF : MainF F) (hN : 600 ≤ N) (l : List Int) (hl : ∀ x ∈ l, Is64 x) (hll : l.length ≤ 9223372036854775807) (s : Int) (hs : Is64 s) :
    runT ⟨box, ps⟩ F N tfMain [.sl (l.map encI), .v (.int .i64 s)] [] = some (⟨[.v (.bool true)], [.one]⟩, []) := by
  rw [← S.runT_real]
  obtain ⟨CT, code, sizes, data, k1, h1, hd1, hP⟩ := hF.f1 l 0 ⟨Nat.zero_le _, hll, hl⟩
  have hz : SizesOk sizes := ⟨hP.sz, hP.sl0, hP.sl1⟩
  obtain ⟨s0, hs0⟩ : ∃ s0 : Nat, s % 1048576 = (s0 : Int) := ⟨(s % 1048576).toNat, by omega⟩
  have h2 := hF.f2 s 1048576 hs (by decide) (by decide)
  rw [hs0] at h2
  obtain ⟨B, key, h3, hB⟩ := hF.f3 sizes hz s0 (by omega)
  obtain ⟨cells, h4, hm⟩ := hF.f4 (code.map encIn) key sizes B data hz hB hP.dt hP.dl
  have h6 := hF.f6 cells hm.len
  have h7 := hF.f7
  unfold AwakeC at h7
  obtain ⟨e, σ', hL, rfl, rfl⟩ := main_loop box ps F N hb.b5 hF.f5 (code.map encIn) ((List.replicate 4 ()).map fun _ => encLs) key sizes B data cells hz hB hP.dt hP.dl hm 512 N _ ⟨0, rfl, by omega⟩ (by omega)
  have hcn : realP.natI (realP.lenN (cells.map encN)) = 512 := by rw [lenI_map encN cells, hm.len]; rfl
  have i1 : realP.immC (code.map encIn) = code.map encIn := immC_map code fun _ => rfl
  have i2 : realP.immC (sizes.map encI) = sizes.map encI := immC_map sizes fun _ => rfl
  have i3 : realP.immC (data.map encDat) = data.map encDs := immC_dat data
  have i4 : realP.immC (B.map encI) = B.map encI := immC_map B fun _ => rfl
  have i5 : realP.immC (cells.map encN) = cells.map encN := immC_map cells fun _ => rfl
  have i6 : realP.immC [encLn, encLn, encLn, encLn] = (List.replicate 4 ()).map fun _ => encLs := rfl
  have c1 : realP.cm .neq 0 0 = false := rfl
  have c2 : realP.cm .neq 512 512 = false := rfl
  obtain ⟨b0, b1, b2, b3, b4, b5, b6, b7⟩ := hb
  have nb0 : realP.notB true = false := rfl; have nb1 : realP.notB false = true := rfl; have nb2 : realP.eqB true true = true := rfl; have nb3 : realP.eqB false false = true := rfl; have nb4 : realP.eqB true false = false := rfl; have nb5 : realP.eqB false true = false := rfl
  have hct := hP.ct
  clear hP hm hF hs0 hB hz hd1
  simp only [stA, stA', encD, Int.natCast_zero] at *
  generalize (List.replicate 4 ()).map (fun _ => encLs) = L2 at *
  generalize [encLn, encLn, encLn, encLn] = L1 at *
  rcases hct with rfl | rfl
  all_goals
    generalize code.map encIn = C at *
    generalize sizes.map encI = Z at *
    generalize data.map encDat = D1 at *
    generalize data.map encDs = D at *
    generalize B.map encI = W at *
    generalize cells.map encN = Y at *
    generalize l.map encI = X at *
    generalize (s0 : Int) = s1 at *
    generalize (k1 : Int) = k2 at *
    (generalize realP = Pr at *; obtain ⟨ar, cm, sh, sb, un, cv, natI, lenN, inb, inw, elt, addN, subN, slOk, win, immC, immW, allLen, appOk, cat, mkOk, rep, getC, setC, shC, eqf, eqB, notB, fmm, strAt, strLen, strB, strOk, bstr, cpy, it⟩ := Pr; try dsimp only at *)
    ((repeat (cbv; first | done | rw [nb0] | rw [nb1] | rw [b0] | rw [b1] | rw [h1] | rw [b2] | rw [h2] | rw [b3] | rw [h3] | rw [b4] | rw [i1] | rw [i2] | rw [i3] | rw [i4] | rw [i5] | rw [i6] | rw [h4] | rw [c1] | rw [hcn] | rw [c2] | rw [hL] | rw [b6] | rw [h6] | rw [b7] | rw [h7])); try cbv)
end
end Go.Proofs.Ytjmfjjmdfikanaa
