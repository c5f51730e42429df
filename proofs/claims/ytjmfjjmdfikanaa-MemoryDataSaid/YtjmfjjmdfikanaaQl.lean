/- Whether a layout is valid, cells of words, empty lines, on trees. -/
import Derived.Test.YtjmfjjmdfikanaaQk
set_option linter.unusedVariables false
set_option linter.unusedSimpArgs false
namespace Go.Proofs.Ytjmfjjmdfikanaa
open Go.RowKit

section
variable (box : FuncId → Option (Nat × List BxC)) (ps : FuncId → List (Option Nat)) (F : Callee) (N : Nat)

def tfValR : TFn := { np := 1, pp := [], nt := 26, body := .seq (.reg 0 none [{ dst := some 2, guard := none, op := .asn true (.c (.bool false)) }] ([0], [2, 3])) (.seq (.seq (.reg 1 none [{ dst := some 5, guard := none, op := .mov (.t 0) }, { dst := some 6, guard := none, op := .len (.t 5) }, { dst := some 7, guard := none, op := .mov (.c (.int (.i64) 0)) }] ([0, 5, 6, 7], [2, 3, 12, 13, 14, 15, 16, 17, 36, 37])) (.block 0 (.loop (.seq (.reg 2 none [{ dst := some 8, guard := none, op := .bin (.lss) (.t 7) (.t 6) }] ([0, 5, 6, 7, 8], [2, 3, 12, 13, 14, 15, 16, 17, 18, 19, 36, 37])) (.seq (.cond (.t 8) (.skip) (.exit 0)) (.seq (.block 1 (.seq (.reg 3 none [{ dst := some 9, guard := none, op := .idx 1 (.t 5) (.t 7) }, { dst := some 10, guard := none, op := .load none (.t 9) }, { dst := some 4, guard := none, op := .asn false (.t 10) }] ([0, 4, 5, 6, 7], [2, 3, 10, 11, 12, 13, 14, 15, 16, 17, 36, 37])) (.seq (.reg 4 none [{ dst := some 11, guard := none, op := .mov (.t 4) }, { dst := some 12, guard := none, op := .bin (.lss) (.t 11) (.c (.int (.i64) 1)) }, { dst := some 13, guard := none, op := .mov (.t 12) }, { dst := some 14, guard := some (13, false), op := .mov (.t 4) }, { dst := some 15, guard := some (13, false), op := .bin (.gtr) (.t 14) (.c (.int (.i64) 32)) }, { dst := some 16, guard := none, op := .pick (.t 13) (.c (.bool true)) (.t 15) }] ([0, 5, 6, 7, 16], [2, 3, 12, 13, 14, 15, 16, 17, 26, 27, 28, 29, 32, 33, 34, 35, 36, 37])) (.cond (.t 16) (.seq (.reg 5 none [{ dst := some 2, guard := none, op := .asn true (.c (.bool false)) }] ([2], [6, 7])) (.ret)) (.skip))))) (.reg 6 none [{ dst := some 17, guard := none, op := .bin (.add) (.t 7) (.c (.int (.i64) 1)) }, { dst := some 7, guard := none, op := .mov (.t 17) }] ([0, 5, 6, 7], [2, 3, 12, 13, 14, 15, 16, 17, 36, 37])))))))) (.seq (.reg 7 none [{ dst := some 18, guard := none, op := .mov (.t 0) }, { dst := some 19, guard := none, op := .len (.t 18) }, { dst := some 20, guard := none, op := .bin (.geq) (.t 19) (.c (.int (.i64) 1)) }, { dst := some 21, guard := none, op := .mov (.t 20) }, { dst := some 22, guard := some (21, true), op := .mov (.t 0) }, { dst := some 23, guard := some (21, true), op := .len (.t 22) }, { dst := some 24, guard := some (21, true), op := .bin (.leq) (.t 23) (.c (.int (.i64) 4)) }, { dst := some 25, guard := none, op := .pick (.t 21) (.t 24) (.c (.bool false)) }, { dst := some 2, guard := none, op := .asn true (.t 25) }] ([2], [6, 7])) (.ret))), res := [.tmp 2] }
def ValRC (F : Callee) : Prop := ∀ sizes, SizesOk sizes → F 30 [.sl (sizes.map encI)] [] = some (⟨[.v (.bool true)], [.one]⟩, [])
set_option maxRecDepth 100000 in
set_option maxHeartbeats 8000000 in
theorem valR_loop (E : Env) (sizes : List Int) (h : SizesOk sizes) : ∀ j m σ, (∃ i : Nat, σ = stV (sizes.map encI) sizes.length i ∧ i + j = sizes.length) → j < m →
    ∃ e σ', realP.it (S.runC realP (S.evCall realP E F) N (.seq (.reg 2 none [{ dst := some 8, guard := none, op := .bin (.lss) (.t 7) (.t 6) }] ([0, 5, 6, 7, 8], [2, 3, 12, 13, 14, 15, 16, 17, 18, 19, 36, 37])) (.seq (.cond (.t 8) (.skip) (.exit 0)) (.seq (.block 1 (.seq (.reg 3 none [{ dst := some 9, guard := none, op := .idx 1 (.t 5) (.t 7) }, { dst := some 10, guard := none, op := .load none (.t 9) }, { dst := some 4, guard := none, op := .asn false (.t 10) }] ([0, 4, 5, 6, 7], [2, 3, 10, 11, 12, 13, 14, 15, 16, 17, 36, 37])) (.seq (.reg 4 none [{ dst := some 11, guard := none, op := .mov (.t 4) }, { dst := some 12, guard := none, op := .bin (.lss) (.t 11) (.c (.int (.i64) 1)) }, { dst := some 13, guard := none, op := .mov (.t 12) }, { dst := some 14, guard := some (13, false), op := .mov (.t 4) }, { dst := some 15, guard := some (13, false), op := .bin (.gtr) (.t 14) (.c (.int (.i64) 32)) }, { dst := some 16, guard := none, op := .pick (.t 13) (.c (.bool true)) (.t 15) }] ([0, 5, 6, 7, 16], [2, 3, 12, 13, 14, 15, 16, 17, 26, 27, 28, 29, 32, 33, 34, 35, 36, 37])) (.cond (.t 16) (.seq (.reg 5 none [{ dst := some 2, guard := none, op := .asn true (.c (.bool false)) }] ([2], [6, 7])) (.ret)) (.skip))))) (.reg 6 none [{ dst := some 17, guard := none, op := .bin (.add) (.t 7) (.c (.int (.i64) 1)) }, { dst := some 7, guard := none, op := .mov (.t 17) }] ([0, 5, 6, 7], [2, 3, 12, 13, 14, 15, 16, 17, 36, 37])))))) m σ = some (e, σ') ∧ e = .exit 0 ∧ σ' = stV' (sizes.map encI) sizes.length := by
  refine it_some _ _ ?_
  rintro j σ ⟨i, rfl, hij⟩
  have hl := h.l1
  cases j with
  | zero =>
    obtain rfl : i = sizes.length := by omega
    refine ⟨.exit 0, stV' (sizes.map encI) sizes.length, ?_, .inr ⟨by simp, rfl, rfl⟩⟩
    have hlt : realP.cm .lss (sizes.length : Int) (sizes.length : Int) = false := lss_f (by omega)
    simp only [stV, stV']
    generalize sizes.map encI = Z at *
    generalize (sizes.length : Int) = n at *
    (generalize realP = Pr at *; obtain ⟨ar, cm, sh, sb, un, cv, natI, lenN, inb, inw, elt, addN, subN, slOk, win, immC, immW, allLen, appOk, cat, mkOk, rep, getC, setC, shC, eqf, eqB, notB, fmm, strAt, strLen, strB, strOk, bstr, cpy, it⟩ := Pr; try dsimp only at *)
    ((repeat (cbv; first | done | rw [hlt])); try cbv)
  | succ j =>
    have hi : i < sizes.length := by omega
    have hx := h.sz _ (List.getElem_mem hi)
    refine ⟨.normal, stV (sizes.map encI) sizes.length (i + 1 : Nat), ?_, .inl ⟨rfl, j, by omega, i + 1, rfl, by omega⟩⟩
    have hlt : realP.cm .lss (i : Int) (sizes.length : Int) = true := lss_t (by omega)
    have hp : realP.ar .add .i64 (i : Int) 1 = ((i + 1 : Nat) : Int) := by rw [add64 (by omega) (by omega)]; simp
    have hin : realP.inb (sizes.map encI) i 1 = true := inb_map hi rfl (by decide)
    have hel : realP.elt (sizes.map encI) i = [.v (.int .i64 sizes[i])] := elt_map hi
    have c1 : realP.cm .lss sizes[i] 1 = false := lss_f (by have := hx.1; omega)
    have c2 : realP.cm .gtr sizes[i] 32 = false := gtr_f (by have := hx.2; omega)
    simp only [stV, stV']
    generalize sizes[i] = s at *
    generalize sizes.map encI = Z at *
    generalize (sizes.length : Int) = n at *
    generalize ((i + 1 : Nat) : Int) = i1 at *
    simp only [← Int.ofNat_eq_natCast] at hlt hp
    (generalize realP = Pr at *; obtain ⟨ar, cm, sh, sb, un, cv, natI, lenN, inb, inw, elt, addN, subN, slOk, win, immC, immW, allLen, appOk, cat, mkOk, rep, getC, setC, shC, eqf, eqB, notB, fmm, strAt, strLen, strB, strOk, bstr, cpy, it⟩ := Pr; try dsimp only at *)
    ((repeat (cbv; first | done | rw [hlt] | rw [if_pos hin] | rw [hel] | rw [c1] | rw [c2] | rw [hp])); try cbv)
set_option maxRecDepth 100000 in
set_option maxHeartbeats 8000000 in
theorem valR_run (E : Env) (hN : 200 ≤ N) (sizes : List Int) (h : SizesOk sizes) : runT E F N tfValR [.sl (sizes.map encI)] [] = some (⟨[.v (.bool true)], [.one]⟩, []) := by
  rw [← S.runT_real]
  obtain ⟨e, σ', hL, rfl, rfl⟩ := valR_loop F N E sizes h sizes.length N _ ⟨0, rfl, by omega⟩ (by have := h.l1; omega)
  have hlen : realP.natI (realP.lenN (sizes.map encI)) = sizes.length := lenI_map encI sizes
  have c1 : realP.cm .geq (realP.natI (realP.lenN (sizes.map encI))) 1 = true := by rw [hlen]; exact geq_t (by have := h.l0; omega)
  have c2 : realP.cm .leq (realP.natI (realP.lenN (sizes.map encI))) 4 = true := by rw [hlen]; exact leq_t (by have := h.l1; omega)
  rw [← hlen] at hL
  simp only [stV, stV', Int.natCast_zero] at hL
  clear hlen
  generalize sizes.map encI = Z at *
  (generalize realP = Pr at *; obtain ⟨ar, cm, sh, sb, un, cv, natI, lenN, inb, inw, elt, addN, subN, slOk, win, immC, immW, allLen, appOk, cat, mkOk, rep, getC, setC, shC, eqf, eqB, notB, fmm, strAt, strLen, strB, strOk, bstr, cpy, it⟩ := Pr; try dsimp only at *)
  ((repeat (cbv; first | done | rw [hL] | rw [c1] | rw [c2])); try cbv)

/-! ## layout.Valid -/
def tfLayV : TFn := { np := 2, pp := [], nt := 74, body := .seq (.reg 0 none [{ dst := some 2, guard := none, op := .box 2 true (.t 0) }, { dst := some 4, guard := none, op := .asn true (.c (.bool false)) }] ([1, 2], [4, 5, 6, 7])) (.seq (.seq (.reg 1 none [{ dst := some 8, guard := none, op := .mov (.t 1) }, { dst := some 9, guard := none, op := .call true (.f 30) [(none, .t 8)] }, { dst := some 10, guard := none, op := .un (.not) (.t 9) }, { dst := some 11, guard := none, op := .mov (.t 10) }, { dst := some 12, guard := some (11, false), op := .fld 0 (.t 2) }, { dst := some 13, guard := some (11, false), op := .load none (.t 12) }, { dst := some 14, guard := some (11, false), op := .len (.t 13) }, { dst := some 15, guard := some (11, false), op := .mov (.t 1) }, { dst := some 16, guard := some (11, false), op := .len (.t 15) }, { dst := some 17, guard := some (11, false), op := .bin (.neq) (.t 14) (.t 16) }, { dst := some 18, guard := none, op := .pick (.t 11) (.c (.bool true)) (.t 17) }] ([1, 2, 18], [4, 5, 6, 7, 22, 23, 24, 25, 36, 37, 38, 39])) (.cond (.t 18) (.seq (.reg 2 none [{ dst := some 4, guard := none, op := .asn true (.c (.bool false)) }] ([4], [10, 11])) (.ret)) (.skip))) (.seq (.seq (.reg 3 none [{ dst := some 19, guard := none, op := .fld 0 (.t 2) }, { dst := some 20, guard := none, op := .load none (.t 19) }, { dst := some 21, guard := none, op := .len (.t 20) }, { dst := some 22, guard := none, op := .mov (.c (.int (.i64) 0)) }] ([1, 2, 20, 21, 22], [4, 5, 6, 7, 40, 41, 42, 43, 44, 45, 46, 47, 148, 149])) (.block 0 (.loop (.seq (.reg 4 none [{ dst := some 23, guard := none, op := .bin (.lss) (.t 22) (.t 21) }] ([1, 2, 20, 21, 22, 23], [4, 5, 6, 7, 40, 41, 42, 43, 44, 45, 46, 47, 48, 49, 148, 149])) (.seq (.cond (.t 23) (.skip) (.exit 0)) (.seq (.block 1 (.seq (.reg 5 none [{ dst := some 24, guard := none, op := .mov (.t 22) }, { dst := some 25, guard := none, op := .idx 1 (.t 20) (.t 22) }, { dst := some 26, guard := none, op := .load none (.t 25) }, { dst := some 5, guard := none, op := .asn false (.t 24) }, { dst := some 6, guard := none, op := .asn false (.t 26) }] ([1, 2, 5, 6, 20, 21, 22], [4, 5, 6, 7, 12, 13, 14, 15, 40, 41, 42, 43, 44, 45, 46, 47, 148, 149])) (.seq (.seq (.reg 6 none [{ dst := some 27, guard := none, op := .mov (.t 6) }, { dst := some 28, guard := none, op := .bin (.lss) (.t 27) (.c (.int (.i64) 0)) }, { dst := some 29, guard := none, op := .mov (.t 28) }, { dst := some 30, guard := some (29, false), op := .mov (.t 6) }, { dst := some 31, guard := some (29, false), op := .bin (.geq) (.t 30) (.c (.int (.i64) 512)) }, { dst := some 32, guard := none, op := .pick (.t 29) (.c (.bool true)) (.t 31) }, { dst := some 33, guard := none, op := .mov (.t 32) }, { dst := some 34, guard := some (33, false), op := .mov (.t 6) }, { dst := some 35, guard := some (33, false), op := .mov (.t 1) }, { dst := some 36, guard := some (33, false), op := .mov (.t 5) }, { dst := some 37, guard := some (33, false), op := .idx 1 (.t 35) (.t 36) }, { dst := some 38, guard := some (33, false), op := .load none (.t 37) }, { dst := some 39, guard := some (33, false), op := .bin (.add) (.t 34) (.t 38) }, { dst := some 40, guard := some (33, false), op := .bin (.gtr) (.t 39) (.c (.int (.i64) 512)) }, { dst := some 41, guard := none, op := .pick (.t 33) (.c (.bool true)) (.t 40) }] ([1, 2, 5, 6, 20, 21, 22, 41], [4, 5, 6, 7, 12, 13, 14, 15, 40, 41, 42, 43, 44, 45, 46, 47, 58, 59, 60, 61, 64, 65, 66, 67, 68, 69, 82, 83, 84, 85, 148, 149])) (.cond (.t 41) (.seq (.reg 7 none [{ dst := some 4, guard := none, op := .asn true (.c (.bool false)) }] ([4], [10, 11])) (.ret)) (.skip))) (.seq (.reg 8 none [{ dst := some 42, guard := none, op := .mov (.t 5) }, { dst := some 43, guard := none, op := .mov (.c (.int (.i64) 0)) }] ([1, 2, 5, 6, 20, 21, 22, 42, 43], [4, 5, 6, 7, 12, 13, 14, 15, 40, 41, 42, 43, 44, 45, 46, 47, 86, 87, 88, 89, 146, 147, 148, 149])) (.block 2 (.loop (.seq (.reg 9 none [{ dst := some 44, guard := none, op := .bin (.lss) (.t 43) (.t 42) }] ([1, 2, 5, 6, 20, 21, 22, 42, 43, 44], [4, 5, 6, 7, 12, 13, 14, 15, 40, 41, 42, 43, 44, 45, 46, 47, 86, 87, 88, 89, 90, 91, 146, 147, 148, 149])) (.seq (.cond (.t 44) (.skip) (.exit 2)) (.seq (.block 3 (.seq (.reg 10 none [{ dst := some 45, guard := none, op := .mov (.t 43) }, { dst := some 7, guard := none, op := .asn false (.t 45) }] ([1, 2, 5, 6, 7, 20, 21, 22, 42, 43], [4, 5, 6, 7, 12, 13, 14, 15, 16, 17, 40, 41, 42, 43, 44, 45, 46, 47, 86, 87, 88, 89, 146, 147, 148, 149])) (.seq (.reg 11 none [{ dst := some 46, guard := none, op := .mov (.t 6) }, { dst := some 47, guard := none, op := .fld 0 (.t 2) }, { dst := some 48, guard := none, op := .load none (.t 47) }, { dst := some 49, guard := none, op := .mov (.t 7) }, { dst := some 50, guard := none, op := .idx 1 (.t 48) (.t 49) }, { dst := some 51, guard := none, op := .load none (.t 50) }, { dst := some 52, guard := none, op := .mov (.t 1) }, { dst := some 53, guard := none, op := .mov (.t 7) }, { dst := some 54, guard := none, op := .idx 1 (.t 52) (.t 53) }, { dst := some 55, guard := none, op := .load none (.t 54) }, { dst := some 56, guard := none, op := .bin (.add) (.t 51) (.t 55) }, { dst := some 57, guard := none, op := .bin (.leq) (.t 46) (.t 56) }, { dst := some 58, guard := none, op := .mov (.t 57) }, { dst := some 59, guard := some (58, true), op := .fld 0 (.t 2) }, { dst := some 60, guard := some (58, true), op := .load none (.t 59) }, { dst := some 61, guard := some (58, true), op := .mov (.t 7) }, { dst := some 62, guard := some (58, true), op := .idx 1 (.t 60) (.t 61) }, { dst := some 63, guard := some (58, true), op := .load none (.t 62) }, { dst := some 64, guard := some (58, true), op := .mov (.t 6) }, { dst := some 65, guard := some (58, true), op := .mov (.t 1) }, { dst := some 66, guard := some (58, true), op := .mov (.t 5) }, { dst := some 67, guard := some (58, true), op := .idx 1 (.t 65) (.t 66) }, { dst := some 68, guard := some (58, true), op := .load none (.t 67) }, { dst := some 69, guard := some (58, true), op := .bin (.add) (.t 64) (.t 68) }, { dst := some 70, guard := some (58, true), op := .bin (.leq) (.t 63) (.t 69) }, { dst := some 71, guard := none, op := .pick (.t 58) (.t 70) (.c (.bool false)) }] ([1, 2, 5, 6, 20, 21, 22, 42, 43, 71], [4, 5, 6, 7, 12, 13, 14, 15, 40, 41, 42, 43, 44, 45, 46, 47, 86, 87, 88, 89, 116, 117, 118, 119, 142, 143, 144, 145, 146, 147, 148, 149])) (.cond (.t 71) (.seq (.reg 12 none [{ dst := some 4, guard := none, op := .asn true (.c (.bool false)) }] ([4], [10, 11])) (.ret)) (.skip))))) (.reg 13 none [{ dst := some 72, guard := none, op := .bin (.add) (.t 43) (.c (.int (.i64) 1)) }, { dst := some 43, guard := none, op := .mov (.t 72) }] ([1, 2, 5, 6, 20, 21, 22, 42, 43], [4, 5, 6, 7, 12, 13, 14, 15, 40, 41, 42, 43, 44, 45, 46, 47, 86, 87, 88, 89, 146, 147, 148, 149]))))))))))) (.reg 14 none [{ dst := some 73, guard := none, op := .bin (.add) (.t 22) (.c (.int (.i64) 1)) }, { dst := some 22, guard := none, op := .mov (.t 73) }] ([1, 2, 20, 21, 22], [4, 5, 6, 7, 40, 41, 42, 43, 44, 45, 46, 47, 148, 149])))))))) (.seq (.reg 15 none [{ dst := some 4, guard := none, op := .asn true (.c (.bool true)) }] ([4], [10, 11])) (.ret)))), res := [.tmp 4] }
def LayVC (F : Callee) : Prop := ∀ sizes B key, SizesOk sizes → LayOk sizes B → F 21 [.agg [.sl (B.map encI), .v (.int .u16 key)], .sl (sizes.map encI)] [] = some (⟨[.v (.bool true)], [.one]⟩, [])
def stY (Z Bm : List (List TV)) (n i b k key : Int) : St := ⟨[(1, .sl Z), (2, .ptr ⟨6, 0, []⟩ [0]), (5, .v (.int .i64 i)), (6, .v (.int .i64 b)), (20, .sl Bm), (21, .v (.int .i64 n)), (22, .v (.int .i64 i)), (42, .v (.int .i64 i)), (43, .v (.int .i64 k))], [(6, [.sl Bm, .v (.int .u16 key)])], []⟩
def stY' (Z Bm : List (List TV)) (n i b key : Int) : St := ⟨[(1, .sl Z), (2, .ptr ⟨6, 0, []⟩ [0]), (5, .v (.int .i64 i)), (6, .v (.int .i64 b)), (20, .sl Bm), (21, .v (.int .i64 n)), (22, .v (.int .i64 i)), (42, .v (.int .i64 i)), (43, .v (.int .i64 i)), (44, .v (.bool false))], [(6, [.sl Bm, .v (.int .u16 key)])], []⟩
set_option maxRecDepth 100000 in
set_option maxHeartbeats 16000000 in
theorem layV_inner (E : Env) (sizes B : List Int) (h : SizesOk sizes) (hB : LayOk sizes B) (key : Int) (i : Nat) (hi : i < sizes.length) (hi' : i < B.length) : ∀ j m σ, (∃ k : Nat, σ = stY (sizes.map encI) (B.map encI) B.length i B[i] k key ∧ k + j = i) → j < m →
    ∃ e σ', realP.it (S.runC realP (S.evCall realP E F) N (.seq (.reg 9 none [{ dst := some 44, guard := none, op := .bin (.lss) (.t 43) (.t 42) }] ([1, 2, 5, 6, 20, 21, 22, 42, 43, 44], [4, 5, 6, 7, 12, 13, 14, 15, 40, 41, 42, 43, 44, 45, 46, 47, 86, 87, 88, 89, 90, 91, 146, 147, 148, 149])) (.seq (.cond (.t 44) (.skip) (.exit 2)) (.seq (.block 3 (.seq (.reg 10 none [{ dst := some 45, guard := none, op := .mov (.t 43) }, { dst := some 7, guard := none, op := .asn false (.t 45) }] ([1, 2, 5, 6, 7, 20, 21, 22, 42, 43], [4, 5, 6, 7, 12, 13, 14, 15, 16, 17, 40, 41, 42, 43, 44, 45, 46, 47, 86, 87, 88, 89, 146, 147, 148, 149])) (.seq (.reg 11 none [{ dst := some 46, guard := none, op := .mov (.t 6) }, { dst := some 47, guard := none, op := .fld 0 (.t 2) }, { dst := some 48, guard := none, op := .load none (.t 47) }, { dst := some 49, guard := none, op := .mov (.t 7) }, { dst := some 50, guard := none, op := .idx 1 (.t 48) (.t 49) }, { dst := some 51, guard := none, op := .load none (.t 50) }, { dst := some 52, guard := none, op := .mov (.t 1) }, { dst := some 53, guard := none, op := .mov (.t 7) }, { dst := some 54, guard := none, op := .idx 1 (.t 52) (.t 53) }, { dst := some 55, guard := none, op := .load none (.t 54) }, { dst := some 56, guard := none, op := .bin (.add) (.t 51) (.t 55) }, { dst := some 57, guard := none, op := .bin (.leq) (.t 46) (.t 56) }, { dst := some 58, guard := none, op := .mov (.t 57) }, { dst := some 59, guard := some (58, true), op := .fld 0 (.t 2) }, { dst := some 60, guard := some (58, true), op := .load none (.t 59) }, { dst := some 61, guard := some (58, true), op := .mov (.t 7) }, { dst := some 62, guard := some (58, true), op := .idx 1 (.t 60) (.t 61) }, { dst := some 63, guard := some (58, true), op := .load none (.t 62) }, { dst := some 64, guard := some (58, true), op := .mov (.t 6) }, { dst := some 65, guard := some (58, true), op := .mov (.t 1) }, { dst := some 66, guard := some (58, true), op := .mov (.t 5) }, { dst := some 67, guard := some (58, true), op := .idx 1 (.t 65) (.t 66) }, { dst := some 68, guard := some (58, true), op := .load none (.t 67) }, { dst := some 69, guard := some (58, true), op := .bin (.add) (.t 64) (.t 68) }, { dst := some 70, guard := some (58, true), op := .bin (.leq) (.t 63) (.t 69) }, { dst := some 71, guard := none, op := .pick (.t 58) (.t 70) (.c (.bool false)) }] ([1, 2, 5, 6, 20, 21, 22, 42, 43, 71], [4, 5, 6, 7, 12, 13, 14, 15, 40, 41, 42, 43, 44, 45, 46, 47, 86, 87, 88, 89, 116, 117, 118, 119, 142, 143, 144, 145, 146, 147, 148, 149])) (.cond (.t 71) (.seq (.reg 12 none [{ dst := some 4, guard := none, op := .asn true (.c (.bool false)) }] ([4], [10, 11])) (.ret)) (.skip))))) (.reg 13 none [{ dst := some 72, guard := none, op := .bin (.add) (.t 43) (.c (.int (.i64) 1)) }, { dst := some 43, guard := none, op := .mov (.t 72) }] ([1, 2, 5, 6, 20, 21, 22, 42, 43], [4, 5, 6, 7, 12, 13, 14, 15, 40, 41, 42, 43, 44, 45, 46, 47, 86, 87, 88, 89, 146, 147, 148, 149])))))) m σ = some (e, σ') ∧ e = .exit 2 ∧ σ' = stY' (sizes.map encI) (B.map encI) B.length i B[i] key := by
  refine it_some _ _ ?_
  rintro j σ ⟨k, rfl, hij⟩
  have hl := h.l1
  cases j with
  | zero =>
    obtain rfl : k = i := by omega
    refine ⟨.exit 2, stY' (sizes.map encI) (B.map encI) B.length k B[k] key, ?_, .inr ⟨by simp, rfl, rfl⟩⟩
    have hlt : realP.cm .lss (k : Int) (k : Int) = false := lss_f (by omega)
    simp only [stY, stY']
    generalize B[k] = b at *
    generalize sizes.map encI = Z at *
    generalize B.map encI = W at *
    generalize (B.length : Int) = n at *
    generalize (k : Int) = k0 at *
    (generalize realP = Pr at *; obtain ⟨ar, cm, sh, sb, un, cv, natI, lenN, inb, inw, elt, addN, subN, slOk, win, immC, immW, allLen, appOk, cat, mkOk, rep, getC, setC, shC, eqf, eqB, notB, fmm, strAt, strLen, strB, strOk, bstr, cpy, it⟩ := Pr; try dsimp only at *)
    ((repeat (cbv; first | done | rw [hlt])); try cbv)
  | succ j =>
    have hk : k < sizes.length := by omega
    have hk' : k < B.length := by have := hB.len; omega
    have hx := h.sz _ (List.getElem_mem hk)
    have hy := h.sz _ (List.getElem_mem hi)
    have hx1 := hx.1
    have hx2 := hx.2
    have hy1 := hy.1
    have hy2 := hy.2
    have q1 := hB.lo k hk'
    have q2 := hB.hi k hk' hk
    have q3 := hB.lo i hi'
    have q4 := hB.hi i hi' hi
    refine ⟨.normal, stY (sizes.map encI) (B.map encI) B.length i B[i] (k + 1 : Nat) key, ?_, .inl ⟨rfl, j, by omega, k + 1, rfl, by omega⟩⟩
    have hlt : realP.cm .lss (k : Int) (i : Int) = true := lss_t (by omega)
    have hp : realP.ar .add .i64 (k : Int) 1 = ((k + 1 : Nat) : Int) := by rw [add64 (by omega) (by omega)]; simp
    have hin1 : realP.inb (sizes.map encI) k 1 = true := inb_map hk rfl (by decide)
    have hin2 : realP.inb (B.map encI) k 1 = true := inb_map hk' rfl (by decide)
    have hin3 : realP.inb (sizes.map encI) i 1 = true := inb_map hi rfl (by decide)
    have hel1 : realP.elt (sizes.map encI) k = [.v (.int .i64 sizes[k])] := elt_map hk
    have hel2 : realP.elt (B.map encI) k = [.v (.int .i64 B[k])] := elt_map hk'
    have hel3 : realP.elt (sizes.map encI) i = [.v (.int .i64 sizes[i])] := elt_map hi
    have hA1 : realP.ar .add .i64 B[k] sizes[k] = B[k] + sizes[k] := add64 (by omega) (by omega)
    have hA2 : realP.ar .add .i64 B[i] sizes[i] = B[i] + sizes[i] := add64 (by omega) (by omega)
    by_cases hc : B[i] ≤ B[k] + sizes[k]
    · have c1 : realP.cm .leq B[i] (B[k] + sizes[k]) = true := leq_t hc
      have c2 : realP.cm .leq B[k] (B[i] + sizes[i]) = false := leq_f (by
        have := hB.dis i k hi' hk' hi hk (by omega)
        omega)
      simp only [stY, stY']
      generalize B[k] + sizes[k] = u1 at *
      generalize B[i] + sizes[i] = u2 at *
      generalize sizes[k] = s1 at *
      generalize sizes[i] = s2 at *
      generalize B[k] = b1 at *
      generalize B[i] = b2 at *
      generalize sizes.map encI = Z at *
      generalize B.map encI = W at *
      generalize (B.length : Int) = n at *
      generalize ((k + 1 : Nat) : Int) = k1 at *
      simp only [← Int.ofNat_eq_natCast] at hlt hp
      (generalize realP = Pr at *; obtain ⟨ar, cm, sh, sb, un, cv, natI, lenN, inb, inw, elt, addN, subN, slOk, win, immC, immW, allLen, appOk, cat, mkOk, rep, getC, setC, shC, eqf, eqB, notB, fmm, strAt, strLen, strB, strOk, bstr, cpy, it⟩ := Pr; try dsimp only at *)
      ((repeat (cbv; first | done | rw [hlt] | rw [if_pos hin1] | rw [if_pos hin2] | rw [if_pos hin3] | rw [hel1] | rw [hel2] | rw [hel3] | rw [hA1] | rw [hA2] | rw [c1] | rw [c2] | rw [hp])); try cbv)
    · have c1 : realP.cm .leq B[i] (B[k] + sizes[k]) = false := leq_f hc
      simp only [stY, stY']
      generalize B[k] + sizes[k] = u1 at *
      generalize B[i] + sizes[i] = u2 at *
      generalize sizes[k] = s1 at *
      generalize sizes[i] = s2 at *
      generalize B[k] = b1 at *
      generalize B[i] = b2 at *
      generalize sizes.map encI = Z at *
      generalize B.map encI = W at *
      generalize (B.length : Int) = n at *
      generalize ((k + 1 : Nat) : Int) = k1 at *
      simp only [← Int.ofNat_eq_natCast] at hlt hp
      (generalize realP = Pr at *; obtain ⟨ar, cm, sh, sb, un, cv, natI, lenN, inb, inw, elt, addN, subN, slOk, win, immC, immW, allLen, appOk, cat, mkOk, rep, getC, setC, shC, eqf, eqB, notB, fmm, strAt, strLen, strB, strOk, bstr, cpy, it⟩ := Pr; try dsimp only at *)
      ((repeat (cbv; first | done | rw [hlt] | rw [if_pos hin1] | rw [if_pos hin2] | rw [if_pos hin3] | rw [hel1] | rw [hel2] | rw [hel3] | rw [hA1] | rw [hA2] | rw [c1] | rw [hp])); try cbv)

def stX (Z Bm : List (List TV)) (n i key : Int) : St := ⟨[(1, .sl Z), (2, .ptr ⟨6, 0, []⟩ [0]), (20, .sl Bm), (21, .v (.int .i64 n)), (22, .v (.int .i64 i))], [(6, [.sl Bm, .v (.int .u16 key)])], []⟩
def stX' (Z Bm : List (List TV)) (n key : Int) : St := ⟨[(1, .sl Z), (2, .ptr ⟨6, 0, []⟩ [0]), (20, .sl Bm), (21, .v (.int .i64 n)), (22, .v (.int .i64 n)), (23, .v (.bool false))], [(6, [.sl Bm, .v (.int .u16 key)])], []⟩
set_option maxRecDepth 100000 in
set_option maxHeartbeats 16000000 in
theorem layV_loop (E : Env) (hN : 200 ≤ N) (sizes B : List Int) (h : SizesOk sizes) (hB : LayOk sizes B) (key : Int) : ∀ j m σ, (∃ i : Nat, σ = stX (sizes.map encI) (B.map encI) B.length i key ∧ i + j = B.length) → j < m →
    ∃ e σ', realP.it (S.runC realP (S.evCall realP E F) N (.seq (.reg 4 none [{ dst := some 23, guard := none, op := .bin (.lss) (.t 22) (.t 21) }] ([1, 2, 20, 21, 22, 23], [4, 5, 6, 7, 40, 41, 42, 43, 44, 45, 46, 47, 48, 49, 148, 149])) (.seq (.cond (.t 23) (.skip) (.exit 0)) (.seq (.block 1 (.seq (.reg 5 none [{ dst := some 24, guard := none, op := .mov (.t 22) }, { dst := some 25, guard := none, op := .idx 1 (.t 20) (.t 22) }, { dst := some 26, guard := none, op := .load none (.t 25) }, { dst := some 5, guard := none, op := .asn false (.t 24) }, { dst := some 6, guard := none, op := .asn false (.t 26) }] ([1, 2, 5, 6, 20, 21, 22], [4, 5, 6, 7, 12, 13, 14, 15, 40, 41, 42, 43, 44, 45, 46, 47, 148, 149])) (.seq (.seq (.reg 6 none [{ dst := some 27, guard := none, op := .mov (.t 6) }, { dst := some 28, guard := none, op := .bin (.lss) (.t 27) (.c (.int (.i64) 0)) }, { dst := some 29, guard := none, op := .mov (.t 28) }, { dst := some 30, guard := some (29, false), op := .mov (.t 6) }, { dst := some 31, guard := some (29, false), op := .bin (.geq) (.t 30) (.c (.int (.i64) 512)) }, { dst := some 32, guard := none, op := .pick (.t 29) (.c (.bool true)) (.t 31) }, { dst := some 33, guard := none, op := .mov (.t 32) }, { dst := some 34, guard := some (33, false), op := .mov (.t 6) }, { dst := some 35, guard := some (33, false), op := .mov (.t 1) }, { dst := some 36, guard := some (33, false), op := .mov (.t 5) }, { dst := some 37, guard := some (33, false), op := .idx 1 (.t 35) (.t 36) }, { dst := some 38, guard := some (33, false), op := .load none (.t 37) }, { dst := some 39, guard := some (33, false), op := .bin (.add) (.t 34) (.t 38) }, { dst := some 40, guard := some (33, false), op := .bin (.gtr) (.t 39) (.c (.int (.i64) 512)) }, { dst := some 41, guard := none, op := .pick (.t 33) (.c (.bool true)) (.t 40) }] ([1, 2, 5, 6, 20, 21, 22, 41], [4, 5, 6, 7, 12, 13, 14, 15, 40, 41, 42, 43, 44, 45, 46, 47, 58, 59, 60, 61, 64, 65, 66, 67, 68, 69, 82, 83, 84, 85, 148, 149])) (.cond (.t 41) (.seq (.reg 7 none [{ dst := some 4, guard := none, op := .asn true (.c (.bool false)) }] ([4], [10, 11])) (.ret)) (.skip))) (.seq (.reg 8 none [{ dst := some 42, guard := none, op := .mov (.t 5) }, { dst := some 43, guard := none, op := .mov (.c (.int (.i64) 0)) }] ([1, 2, 5, 6, 20, 21, 22, 42, 43], [4, 5, 6, 7, 12, 13, 14, 15, 40, 41, 42, 43, 44, 45, 46, 47, 86, 87, 88, 89, 146, 147, 148, 149])) (.block 2 (.loop (.seq (.reg 9 none [{ dst := some 44, guard := none, op := .bin (.lss) (.t 43) (.t 42) }] ([1, 2, 5, 6, 20, 21, 22, 42, 43, 44], [4, 5, 6, 7, 12, 13, 14, 15, 40, 41, 42, 43, 44, 45, 46, 47, 86, 87, 88, 89, 90, 91, 146, 147, 148, 149])) (.seq (.cond (.t 44) (.skip) (.exit 2)) (.seq (.block 3 (.seq (.reg 10 none [{ dst := some 45, guard := none, op := .mov (.t 43) }, { dst := some 7, guard := none, op := .asn false (.t 45) }] ([1, 2, 5, 6, 7, 20, 21, 22, 42, 43], [4, 5, 6, 7, 12, 13, 14, 15, 16, 17, 40, 41, 42, 43, 44, 45, 46, 47, 86, 87, 88, 89, 146, 147, 148, 149])) (.seq (.reg 11 none [{ dst := some 46, guard := none, op := .mov (.t 6) }, { dst := some 47, guard := none, op := .fld 0 (.t 2) }, { dst := some 48, guard := none, op := .load none (.t 47) }, { dst := some 49, guard := none, op := .mov (.t 7) }, { dst := some 50, guard := none, op := .idx 1 (.t 48) (.t 49) }, { dst := some 51, guard := none, op := .load none (.t 50) }, { dst := some 52, guard := none, op := .mov (.t 1) }, { dst := some 53, guard := none, op := .mov (.t 7) }, { dst := some 54, guard := none, op := .idx 1 (.t 52) (.t 53) }, { dst := some 55, guard := none, op := .load none (.t 54) }, { dst := some 56, guard := none, op := .bin (.add) (.t 51) (.t 55) }, { dst := some 57, guard := none, op := .bin (.leq) (.t 46) (.t 56) }, { dst := some 58, guard := none, op := .mov (.t 57) }, { dst := some 59, guard := some (58, true), op := .fld 0 (.t 2) }, { dst := some 60, guard := some (58, true), op := .load none (.t 59) }, { dst := some 61, guard := some (58, true), op := .mov (.t 7) }, { dst := some 62, guard := some (58, true), op := .idx 1 (.t 60) (.t 61) }, { dst := some 63, guard := some (58, true), op := .load none (.t 62) }, { dst := some 64, guard := some (58, true), op := .mov (.t 6) }, { dst := some 65, guard := some (58, true), op := .mov (.t 1) }, { dst := some 66, guard := some (58, true), op := .mov (.t 5) }, { dst := some 67, guard := some (58, true), op := .idx 1 (.t 65) (.t 66) }, { dst := some 68, guard := some (58, true), op := .load none (.t 67) }, { dst := some 69, guard := some (58, true), op := .bin (.add) (.t 64) (.t 68) }, { dst := some 70, guard := some (58, true), op := .bin (.leq) (.t 63) (.t 69) }, { dst := some 71, guard := none, op := .pick (.t 58) (.t 70) (.c (.bool false)) }] ([1, 2, 5, 6, 20, 21, 22, 42, 43, 71], [4, 5, 6, 7, 12, 13, 14, 15, 40, 41, 42, 43, 44, 45, 46, 47, 86, 87, 88, 89, 116, 117, 118, 119, 142, 143, 144, 145, 146, 147, 148, 149])) (.cond (.t 71) (.seq (.reg 12 none [{ dst := some 4, guard := none, op := .asn true (.c (.bool false)) }] ([4], [10, 11])) (.ret)) (.skip))))) (.reg 13 none [{ dst := some 72, guard := none, op := .bin (.add) (.t 43) (.c (.int (.i64) 1)) }, { dst := some 43, guard := none, op := .mov (.t 72) }] ([1, 2, 5, 6, 20, 21, 22, 42, 43], [4, 5, 6, 7, 12, 13, 14, 15, 40, 41, 42, 43, 44, 45, 46, 47, 86, 87, 88, 89, 146, 147, 148, 149]))))))))))) (.reg 14 none [{ dst := some 73, guard := none, op := .bin (.add) (.t 22) (.c (.int (.i64) 1)) }, { dst := some 22, guard := none, op := .mov (.t 73) }] ([1, 2, 20, 21, 22], [4, 5, 6, 7, 40, 41, 42, 43, 44, 45, 46, 47, 148, 149])))))) m σ = some (e, σ') ∧ e = .exit 0 ∧ σ' = stX' (sizes.map encI) (B.map encI) B.length key := by
  refine it_some _ _ ?_
  rintro j σ ⟨i, rfl, hij⟩
  have hl := h.l1
  have hBl := hB.len
  cases j with
  | zero =>
    obtain rfl : i = B.length := by omega
    refine ⟨.exit 0, stX' (sizes.map encI) (B.map encI) B.length key, ?_, .inr ⟨by simp, rfl, rfl⟩⟩
    have hlt : realP.cm .lss (B.length : Int) (B.length : Int) = false := lss_f (by omega)
    simp only [stX, stX']
    generalize sizes.map encI = Z at *
    generalize B.map encI = W at *
    generalize (B.length : Int) = n at *
    (generalize realP = Pr at *; obtain ⟨ar, cm, sh, sb, un, cv, natI, lenN, inb, inw, elt, addN, subN, slOk, win, immC, immW, allLen, appOk, cat, mkOk, rep, getC, setC, shC, eqf, eqB, notB, fmm, strAt, strLen, strB, strOk, bstr, cpy, it⟩ := Pr; try dsimp only at *)
    ((repeat (cbv; first | done | rw [hlt])); try cbv)
  | succ j =>
    have hi' : i < B.length := by omega
    have hi : i < sizes.length := by omega
    have hy := h.sz _ (List.getElem_mem hi)
    have hy1 := hy.1
    have hy2 := hy.2
    have q3 := hB.lo i hi'
    have q4 := hB.hi i hi' hi
    refine ⟨.normal, stX (sizes.map encI) (B.map encI) B.length (i + 1 : Nat) key, ?_, .inl ⟨rfl, j, by omega, i + 1, rfl, by omega⟩⟩
    obtain ⟨e, σ', hL, rfl, rfl⟩ := layV_inner F N E sizes B h hB key i hi hi' i N _ ⟨0, rfl, by omega⟩ (by omega)
    have hlt : realP.cm .lss (i : Int) (B.length : Int) = true := lss_t (by omega)
    have hp : realP.ar .add .i64 (i : Int) 1 = ((i + 1 : Nat) : Int) := by rw [add64 (by omega) (by omega)]; simp
    have hin3 : realP.inb (sizes.map encI) i 1 = true := inb_map hi rfl (by decide)
    have hin2 : realP.inb (B.map encI) i 1 = true := inb_map hi' rfl (by decide)
    have hel2 : realP.elt (B.map encI) i = [.v (.int .i64 B[i])] := elt_map hi'
    have hel3 : realP.elt (sizes.map encI) i = [.v (.int .i64 sizes[i])] := elt_map hi
    have hA2 : realP.ar .add .i64 B[i] sizes[i] = B[i] + sizes[i] := add64 (by omega) (by omega)
    have c1 : realP.cm .lss B[i] 0 = false := lss_f (by omega)
    have c2 : realP.cm .geq B[i] 512 = false := geq_f (by omega)
    have c3 : realP.cm .gtr (B[i] + sizes[i]) 512 = false := gtr_f (by omega)
    simp only [stX, stX', stY, stY', Int.natCast_zero] at *
    generalize B[i] + sizes[i] = u2 at *
    generalize sizes[i] = s2 at *
    generalize B[i] = b2 at *
    generalize sizes.map encI = Z at *
    generalize B.map encI = W at *
    generalize (B.length : Int) = n at *
    generalize ((i + 1 : Nat) : Int) = k1 at *
    simp only [← Int.ofNat_eq_natCast] at hlt hp hL
    (generalize realP = Pr at *; obtain ⟨ar, cm, sh, sb, un, cv, natI, lenN, inb, inw, elt, addN, subN, slOk, win, immC, immW, allLen, appOk, cat, mkOk, rep, getC, setC, shC, eqf, eqB, notB, fmm, strAt, strLen, strB, strOk, bstr, cpy, it⟩ := Pr; try dsimp only at *)
    ((repeat (cbv; first | done | rw [hlt] | rw [if_pos hin2] | rw [if_pos hin3] | rw [hel2] | rw [hel3] | rw [hA2] | rw [c1] | rw [c2] | rw [c3] | rw [hL] | rw [hp])); try cbv)
set_option maxRecDepth 100000 in
set_option maxHeartbeats 16000000 in
theorem layV_run (hb : box 30 = none) (hV : ValRC F) (hN : 200 ≤ N) (sizes B : List Int) (h : SizesOk sizes) (hB : LayOk sizes B) (key : Int) :
    runT ⟨box, ps⟩ F N tfLayV [.agg [.sl (B.map encI), .v (.int .u16 key)], .sl (sizes.map encI)] [] = some (⟨[.v (.bool true)], [.one]⟩, []) := by
  rw [← S.runT_real]
  have hl := h.l1
  have hV := hV sizes h
  obtain ⟨e, σ', hL, rfl, rfl⟩ := layV_loop F N ⟨box, ps⟩ hN sizes B h hB key B.length N _ ⟨0, rfl, by omega⟩ (by have := hB.len; omega)
  have hl1 : realP.natI (realP.lenN (sizes.map encI)) = sizes.length := lenI_map encI sizes
  have hl2 : realP.natI (realP.lenN (B.map encI)) = sizes.length := by rw [lenI_map encI B, hB.len]
  have c1 : realP.cm .neq (sizes.length : Int) (sizes.length : Int) = false := neq_f rfl
  rw [hB.len] at hL
  simp only [stX, stX', Int.natCast_zero] at hL
  have nb0 : realP.notB true = false := rfl; have nb1 : realP.notB false = true := rfl; have nb2 : realP.eqB true true = true := rfl; have nb3 : realP.eqB false false = true := rfl; have nb4 : realP.eqB true false = false := rfl; have nb5 : realP.eqB false true = false := rfl
  generalize sizes.map encI = Z at *
  generalize B.map encI = W at *
  generalize (sizes.length : Int) = n at *
  (generalize realP = Pr at *; obtain ⟨ar, cm, sh, sb, un, cv, natI, lenN, inb, inw, elt, addN, subN, slOk, win, immC, immW, allLen, appOk, cat, mkOk, rep, getC, setC, shC, eqf, eqB, notB, fmm, strAt, strLen, strB, strOk, bstr, cpy, it⟩ := Pr; try dsimp only at *)
  ((repeat (cbv; first | done | rw [nb0] | rw [nb1] | rw [hb] | rw [hV] | rw [hl1] | rw [hl2] | rw [c1] | rw [hL])); try cbv)
end
end Go.Proofs.Ytjmfjjmdfikanaa
/- Cells of words, empty lines, on trees. -/
set_option linter.unusedVariables false
set_option linter.unusedSimpArgs false
namespace Go.Proofs.Ytjmfjjmdfikanaa
open Go.RowKit

section
variable (box : FuncId → Option (Nat × List BxC)) (ps : FuncId → List (Option Nat)) (F : Callee) (N : Nat)
def encN (x : Int) : List TV := [.v (.int .u8 0), .v (.int .u16 x)]
def tfNum : TFn := { np := 1, pp := [], nt := 19, body := .seq (.reg 0 none [{ dst := some 2, guard := none, op := .asn true (.c (.slice none 0 0)) }] ([0], [2, 3])) (.seq (.reg 1 none [{ dst := some 3, guard := none, op := .asn true (.c (.slice none 0 0)) }] ([0, 3], [2, 3, 8, 9])) (.seq (.seq (.reg 2 none [{ dst := some 6, guard := none, op := .mov (.t 0) }, { dst := some 7, guard := none, op := .len (.t 6) }, { dst := some 8, guard := none, op := .mov (.c (.int (.i64) 0)) }] ([3, 6, 7, 8], [2, 3, 8, 9, 14, 15, 16, 17, 18, 19, 36, 37])) (.block 0 (.loop (.seq (.reg 3 none [{ dst := some 9, guard := none, op := .bin (.lss) (.t 8) (.t 7) }] ([3, 6, 7, 8, 9], [2, 3, 8, 9, 14, 15, 16, 17, 18, 19, 20, 21, 36, 37])) (.seq (.cond (.t 9) (.skip) (.exit 0)) (.seq (.block 1 (.seq (.reg 4 none [{ dst := some 10, guard := none, op := .idx 1 (.t 6) (.t 8) }, { dst := some 11, guard := none, op := .load none (.t 10) }, { dst := some 5, guard := none, op := .asn false (.t 11) }] ([3, 5, 6, 7, 8], [2, 3, 8, 9, 12, 13, 14, 15, 16, 17, 18, 19, 36, 37])) (.reg 5 none [{ dst := some 12, guard := none, op := .mov (.t 3) }, { dst := some 13, guard := none, op := .mov (.t 5) }, { dst := some 14, guard := none, op := .bld [.int (.u8) 0, .int (.u16) 0] true [(0, 1, .c (.int (.u8) 0)), (1, 1, .t 13)] }, { dst := some 15, guard := none, op := .bsl 2 true 1 [.t 14] }, { dst := some 16, guard := none, op := .app 2 4 true (.t 12) (.t 15) }, { dst := some 3, guard := none, op := .asn true (.t 16) }] ([3, 6, 7, 8], [2, 3, 8, 9, 14, 15, 16, 17, 18, 19, 36, 37])))) (.reg 6 none [{ dst := some 17, guard := none, op := .bin (.add) (.t 8) (.c (.int (.i64) 1)) }, { dst := some 8, guard := none, op := .mov (.t 17) }] ([3, 6, 7, 8], [2, 3, 8, 9, 14, 15, 16, 17, 18, 19, 36, 37])))))))) (.seq (.reg 7 none [{ dst := some 18, guard := none, op := .mov (.t 3) }, { dst := some 2, guard := none, op := .asn true (.t 18) }] ([2], [6, 7])) (.ret)))), res := [.tmp 2] }
def NumC (F : Callee) : Prop := ∀ xs : List Int, xs.length ≤ 100 → F 23 [.sl (xs.map encW)] [] = some (⟨[.ow (xs.map encN)], [.one]⟩, [])
def stU (W : List (List TV)) (xs : List Int) (n i : Int) : St := ⟨[(3, .pk ⟨9, 0, []⟩ [0, 0]), (6, .sl W), (7, .v (.int .i64 n)), (8, .v (.int .i64 i))], [(9, [.ow (xs.map encN)])], []⟩
def stU' (W : List (List TV)) (xs : List Int) (n : Int) : St := ⟨[(3, .pk ⟨9, 0, []⟩ [0, 0]), (6, .sl W), (7, .v (.int .i64 n)), (8, .v (.int .i64 n)), (9, .v (.bool false))], [(9, [.ow (xs.map encN)])], []⟩
set_option maxRecDepth 100000 in
set_option maxHeartbeats 8000000 in
theorem num_loop (E : Env) (xs : List Int) (h : xs.length ≤ 100) : ∀ j m σ, (∃ i : Nat, σ = stU (xs.map encW) (xs.take i) xs.length i ∧ i + j = xs.length) → j < m →
    ∃ e σ', realP.it (S.runC realP (S.evCall realP E F) N (.seq (.reg 3 none [{ dst := some 9, guard := none, op := .bin (.lss) (.t 8) (.t 7) }] ([3, 6, 7, 8, 9], [2, 3, 8, 9, 14, 15, 16, 17, 18, 19, 20, 21, 36, 37])) (.seq (.cond (.t 9) (.skip) (.exit 0)) (.seq (.block 1 (.seq (.reg 4 none [{ dst := some 10, guard := none, op := .idx 1 (.t 6) (.t 8) }, { dst := some 11, guard := none, op := .load none (.t 10) }, { dst := some 5, guard := none, op := .asn false (.t 11) }] ([3, 5, 6, 7, 8], [2, 3, 8, 9, 12, 13, 14, 15, 16, 17, 18, 19, 36, 37])) (.reg 5 none [{ dst := some 12, guard := none, op := .mov (.t 3) }, { dst := some 13, guard := none, op := .mov (.t 5) }, { dst := some 14, guard := none, op := .bld [.int (.u8) 0, .int (.u16) 0] true [(0, 1, .c (.int (.u8) 0)), (1, 1, .t 13)] }, { dst := some 15, guard := none, op := .bsl 2 true 1 [.t 14] }, { dst := some 16, guard := none, op := .app 2 4 true (.t 12) (.t 15) }, { dst := some 3, guard := none, op := .asn true (.t 16) }] ([3, 6, 7, 8], [2, 3, 8, 9, 14, 15, 16, 17, 18, 19, 36, 37])))) (.reg 6 none [{ dst := some 17, guard := none, op := .bin (.add) (.t 8) (.c (.int (.i64) 1)) }, { dst := some 8, guard := none, op := .mov (.t 17) }] ([3, 6, 7, 8], [2, 3, 8, 9, 14, 15, 16, 17, 18, 19, 36, 37])))))) m σ = some (e, σ') ∧ e = .exit 0 ∧ σ' = stU' (xs.map encW) xs xs.length := by
  refine it_some _ _ ?_
  rintro j σ ⟨i, rfl, hij⟩
  cases j with
  | zero =>
    obtain rfl : i = xs.length := by omega
    refine ⟨.exit 0, stU' (xs.map encW) xs xs.length, ?_, .inr ⟨by simp, rfl, rfl⟩⟩
    have hlt : realP.cm .lss (xs.length : Int) (xs.length : Int) = false := lss_f (by omega)
    simp only [stU, stU', List.take_length]
    generalize xs.map encW = Z at *
    generalize xs.map encN = Y at *
    generalize (xs.length : Int) = n at *
    (generalize realP = Pr at *; obtain ⟨ar, cm, sh, sb, un, cv, natI, lenN, inb, inw, elt, addN, subN, slOk, win, immC, immW, allLen, appOk, cat, mkOk, rep, getC, setC, shC, eqf, eqB, notB, fmm, strAt, strLen, strB, strOk, bstr, cpy, it⟩ := Pr; try dsimp only at *)
    ((repeat (cbv; first | done | rw [hlt])); try cbv)
  | succ j =>
    have hi : i < xs.length := by omega
    refine ⟨.normal, stU (xs.map encW) (xs.take (i + 1)) xs.length (i + 1 : Nat), ?_, .inl ⟨rfl, j, by omega, i + 1, rfl, by omega⟩⟩
    have hlt : realP.cm .lss (i : Int) (xs.length : Int) = true := lss_t (by omega)
    have hp : realP.ar .add .i64 (i : Int) 1 = ((i + 1 : Nat) : Int) := by rw [add64 (by omega) (by omega)]; simp
    have hin : realP.inb (xs.map encW) i 1 = true := inb_map hi rfl (by decide)
    have hel : realP.elt (xs.map encW) i = [.v (.int .u16 xs[i])] := elt_map hi
    have ha : realP.appOk 2 4 ((xs.take i).map encN) [[.v (.int .u8 0), .v (.int .u16 xs[i])]] = true := appOk_map (f := encN) (l' := [xs[i]]) (fun _ => rfl) (by simp; omega) (by simp; omega)
    have hcat : realP.cat ((xs.take i).map encN) [[.v (.int .u8 0), .v (.int .u16 xs[i])]] = (xs.take (i + 1)).map encN := by
      rw [List.take_add_one, List.getElem?_eq_getElem hi]
      exact cat_map (f := encN) (xs.take i) [xs[i]]
    simp only [stU, stU']
    generalize xs[i] = s at *
    generalize xs.map encW = Z at *
    generalize (xs.take (i + 1)).map encN = Y2 at *
    generalize (xs.take i).map encN = Y at *
    generalize (xs.length : Int) = n at *
    generalize ((i + 1 : Nat) : Int) = i1 at *
    simp only [← Int.ofNat_eq_natCast] at hlt hp
    (generalize realP = Pr at *; obtain ⟨ar, cm, sh, sb, un, cv, natI, lenN, inb, inw, elt, addN, subN, slOk, win, immC, immW, allLen, appOk, cat, mkOk, rep, getC, setC, shC, eqf, eqB, notB, fmm, strAt, strLen, strB, strOk, bstr, cpy, it⟩ := Pr; try dsimp only at *)
    ((repeat (cbv; first | done | rw [hlt] | rw [if_pos hin] | rw [hel] | rw [if_pos ha] | rw [hcat] | rw [hp])); try cbv)
set_option maxRecDepth 100000 in
set_option maxHeartbeats 8000000 in
theorem num_run (E : Env) (hN : 200 ≤ N) (xs : List Int) (h : xs.length ≤ 100) : runT E F N tfNum [.sl (xs.map encW)] [] = some (⟨[.ow (xs.map encN)], [.one]⟩, []) := by
  rw [← S.runT_real]
  obtain ⟨e, σ', hL, rfl, rfl⟩ := num_loop F N E xs h xs.length N _ ⟨0, rfl, by omega⟩ (by omega)
  have hlen : realP.natI (realP.lenN (xs.map encW)) = xs.length := lenI_map encW xs
  simp only [stU, stU', Int.natCast_zero, List.take_zero, List.map_nil] at hL
  generalize xs.map encW = Z at *
  generalize xs.map encN = Y at *
  generalize (xs.length : Int) = n at *
  (generalize realP = Pr at *; obtain ⟨ar, cm, sh, sb, un, cv, natI, lenN, inb, inw, elt, addN, subN, slOk, win, immC, immW, allLen, appOk, cat, mkOk, rep, getC, setC, shC, eqf, eqB, notB, fmm, strAt, strLen, strB, strOk, bstr, cpy, it⟩ := Pr; try dsimp only at *)
  ((repeat (cbv; first | done | rw [hlen] | rw [hL])); try cbv)

/-! ## Empty -/
def tfEmp : TFn := { np := 0, pp := [], nt := 15, body := .seq (.reg 0 none [{ dst := some 0, guard := none, op := .asn true (.c (.slice none 0 0)) }] ([], [])) (.seq (.reg 1 none [{ dst := some 3, guard := none, op := .mks 3 [.int (.i64) 0, .bool false, .slice none 0 0] (.c (.int (.i64) 4)) (.c (.int (.i64) 4)) }, { dst := some 1, guard := none, op := .asn true (.t 3) }] ([1], [4, 5])) (.seq (.seq (.reg 2 none [{ dst := some 4, guard := none, op := .mov (.t 1) }, { dst := some 5, guard := none, op := .len (.t 4) }, { dst := some 6, guard := none, op := .mov (.c (.int (.i64) 0)) }] ([1, 5, 6], [4, 5, 12, 13, 14, 15, 28, 29])) (.block 0 (.loop (.seq (.reg 3 none [{ dst := some 7, guard := none, op := .bin (.lss) (.t 6) (.t 5) }] ([1, 5, 6, 7], [4, 5, 12, 13, 14, 15, 16, 17, 28, 29])) (.seq (.cond (.t 7) (.skip) (.exit 0)) (.seq (.block 1 (.seq (.reg 4 none [{ dst := some 8, guard := none, op := .mov (.t 6) }, { dst := some 2, guard := none, op := .asn false (.t 8) }] ([1, 2, 5, 6], [4, 5, 6, 7, 12, 13, 14, 15, 28, 29])) (.reg 5 none [{ dst := some 9, guard := none, op := .mov (.t 1) }, { dst := some 10, guard := none, op := .mov (.t 2) }, { dst := some 11, guard := none, op := .idx 3 (.t 9) (.t 10) }, { dst := some 12, guard := none, op := .fld 0 (.t 11) }, { dst := none, guard := none, op := .store 1 true (.t 12) (.c (.int (.i64) (-1))) }] ([1, 5, 6], [4, 5, 12, 13, 14, 15, 28, 29])))) (.reg 6 none [{ dst := some 13, guard := none, op := .bin (.add) (.t 6) (.c (.int (.i64) 1)) }, { dst := some 6, guard := none, op := .mov (.t 13) }] ([1, 5, 6], [4, 5, 12, 13, 14, 15, 28, 29])))))))) (.seq (.reg 7 none [{ dst := some 14, guard := none, op := .mov (.t 1) }, { dst := some 0, guard := none, op := .asn true (.t 14) }] ([0], [2, 3])) (.ret)))), res := [.tmp 0] }
def encLn : List TV := [.v (.int .i64 (-1)), .v (.bool false), .ow []]
def EmpC (F : Callee) : Prop := F 22 [] [] = some (⟨[.ow [encLn, encLn, encLn, encLn]], [.one]⟩, [])
theorem emp_run (E : Env) (hN : 200 ≤ N) : runT E F N tfEmp [] [] = some (⟨[.ow [encLn, encLn, encLn, encLn]], [.one]⟩, []) := by
  obtain ⟨n, rfl⟩ : ∃ n, N = n + 1 + 1 + 1 + 1 + 1 + 1 := ⟨N - 6, by omega⟩
  kernel_rfl
end
end Go.Proofs.Ytjmfjjmdfikanaa
/- A memory at the beginning, on trees. -/
set_option linter.unusedVariables false
set_option linter.unusedSimpArgs false
namespace Go.Proofs.Ytjmfjjmdfikanaa
open Go.RowKit

/-! ## Rows put into a list -/
def putW : List Int → Nat → List Int → List Int
  | cs, _, [] => cs
  | cs, lo, x :: xs => putW (cs.set lo x) (lo + 1) xs
theorem putW_len (xs : List Int) : ∀ cs lo, (putW cs lo xs).length = cs.length := by
  induction xs with
  | nil => intros; rfl
  | cons x xs ih => intro cs lo; simp [putW, ih]
theorem putW_get (xs : List Int) : ∀ cs lo a, lo + xs.length ≤ cs.length → (putW cs lo xs)[a]? = if lo ≤ a ∧ a < lo + xs.length then xs[a - lo]? else cs[a]? := by
  induction xs with
  | nil => intro cs lo a h; rw [if_neg (by intro h2; have h3 := h2.2; simp only [List.length_nil] at h3; omega)]; rfl
  | cons x xs ih =>
    intro cs lo a h
    simp only [List.length_cons] at h
    simp only [putW]
    rw [ih _ _ _ (by rw [List.length_set]; omega)]
    by_cases e : lo = a
    · subst e
      rw [if_neg (by omega), if_pos (by simp), List.getElem?_set_self (by omega), Nat.sub_self]; rfl
    · rw [List.getElem?_set_ne e]
      by_cases e2 : lo + 1 ≤ a ∧ a < lo + 1 + xs.length
      · rw [if_pos e2, if_pos (by simp; omega)]
        have : a - lo = (a - (lo + 1)) + 1 := by omega
        rw [this]; rfl
      · rw [if_neg e2, if_neg (by simp; omega)]
def flatN (xs : List Int) : List Value := xs.flatMap fun x => [.int .u8 0, .int .u16 x]
theorem flatsOf_encN (xs : List Int) : flatsOf (xs.map encN).flatten = some (flatN xs) := by
  induction xs with
  | nil => rfl
  | cons x xs ih => simp [flatN, encN, flatsOf] at *; rw [ih]
theorem patchF_encN (xs : List Int) : ∀ (cs : List Int) lo, lo + xs.length ≤ cs.length → patchF 2 (cs.map encN) (lo * 2) (flatN xs) = (putW cs lo xs).map encN := by
  induction xs with
  | nil => intros; rfl
  | cons x xs ih =>
    intro cs lo h
    simp only [List.length_cons] at h
    show patchF 2 (((cs.map encN).modify (lo * 2 / 2) fun el => el.modify (lo * 2 % 2) fun _ => .v (.int .u8 0)).modify ((lo * 2 + 1) / 2) fun el => el.modify ((lo * 2 + 1) % 2) fun _ => .v (.int .u16 x)) (lo * 2 + 1 + 1) (flatN xs) = _
    have e : ((cs.map encN).modify (lo * 2 / 2) fun el => el.modify (lo * 2 % 2) fun _ => .v (.int .u8 0)).modify ((lo * 2 + 1) / 2) (fun el => el.modify ((lo * 2 + 1) % 2) fun _ => .v (.int .u16 x)) = (cs.set lo x).map encN := by
      rw [show lo * 2 / 2 = lo by omega, show lo * 2 % 2 = 0 by omega, show (lo * 2 + 1) / 2 = lo by omega, show (lo * 2 + 1) % 2 = 1 by omega]
      apply List.ext_getElem
      · simp
      · intro i h1 h2
        simp only [List.getElem_modify, List.getElem_map, List.getElem_set]
        by_cases e : lo = i
        · subst e; simp [encN]
        · rw [if_neg e, if_neg e, if_neg e]
    rw [e, show lo * 2 + 1 + 1 = (lo + 1) * 2 by omega, ih _ _ (by rw [List.length_set]; omega)]
    rfl
theorem cpy_encN (cs xs : List Int) (lo n : Nat) (h : lo + xs.length ≤ cs.length) (hn : xs.length ≤ n) (x0 : xs ≠ []) : realP.cpy 2 (cs.map encN) (xs.map encN) lo n = some (xs.length, some ((putW cs lo xs).map encN)) := by
  show cpyC 2 (cs.map encN) (xs.map encN) lo n = _
  have hm : min (xs.map encN).length n = xs.length := by rw [List.length_map]; omega
  unfold cpyC
  rw [hm, List.take_of_length_le (by simp), flatsOf_encN]
  obtain ⟨x, r, rfl⟩ : ∃ x r, xs = x :: r := by
    cases xs with
    | nil => exact absurd rfl x0
    | cons x r => exact ⟨x, r, rfl⟩
  have e : flatN (x :: r) = .int .u8 0 :: .int .u16 x :: flatN r := rfl
  have hv : (flatN (x :: r)).all vflat = true := by
    rw [List.all_eq_true]
    intro v hv
    simp only [flatN, List.mem_flatMap, List.mem_cons, List.not_mem_nil, or_false] at hv
    obtain ⟨_, _, rfl | rfl⟩ := hv <;> rfl
  have hp := patchF_encN (x :: r) cs lo h
  rw [e] at hv hp ⊢
  dsimp only
  rw [if_pos ?_, hp]
  simp only [Bool.and_eq_true, decide_eq_true_eq, List.length_map]
  refine ⟨⟨⟨⟨⟨by decide, ?_⟩, ?_⟩, h⟩, ?_⟩, hv⟩
  · simp [encN]
  · simp [encN]
  · rw [List.all_eq_true]
    intro el hel
    have := List.mem_of_mem_drop (List.mem_of_mem_take hel)
    rw [List.mem_map] at this
    obtain ⟨y, _, rfl⟩ := this
    rfl
theorem cpy_encN0 (cs : List Int) (lo n : Nat) : realP.cpy 2 (cs.map encN) [] lo n = some (0, none) := by
  show cpyC 2 (cs.map encN) [] lo n = _
  simp [cpyC, flatsOf]

/-! ## The memory as it comes to be -/
structure MemL (B : List Int) (data : List (List Int)) (k : Nat) (cells : List Int) : Prop where
  len : cells.length = 512
  in_ : ∀ r (h : r < B.length) (h' : r < data.length), r < k → ∀ j (hj : j < data[r].length), cells[B[r].toNat + j]? = some data[r][j]
  out : ∀ a : Nat, a < 512 → (∀ r (h : r < B.length) (h' : r < data.length), r < k → ¬ (B[r] ≤ a ∧ (a : Int) < B[r] + data[r].length)) → cells[a]? = some 0
theorem MemL.zero (B : List Int) (data : List (List Int)) : MemL B data 0 (List.replicate 512 0) :=
  ⟨List.length_replicate, fun _ _ _ h => by omega, fun a h _ => by rw [List.getElem?_replicate, if_pos h]⟩
theorem MemL.step {B sizes : List Int} {data : List (List Int)} {i : Nat} {cells : List Int} (h : MemL B data i cells) (hB : LayOk sizes B) (hD : DataOk sizes data) (hi : i < B.length) (hi' : i < data.length) (hi2 : i < sizes.length) : MemL B data (i + 1) (putW cells B[i].toNat data[i]) := by
  have q1 := hB.lo i hi
  have q2 := hB.hi i hi hi2
  have q3 := hD.row i hi' hi2
  have hfit : B[i].toNat + data[i].length ≤ cells.length := by rw [h.len]; omega
  refine ⟨by rw [putW_len, h.len], fun r hr hr' hlt j hj => ?_, fun a ha hno => ?_⟩
  · rw [putW_get _ _ _ _ hfit]
    by_cases e : r = i
    · subst e
      rw [if_pos (by omega), show B[r].toNat + j - B[r].toNat = j by omega, List.getElem?_eq_getElem hj]
    · have hr2 : r < sizes.length := by rw [← hB.len]; exact hr
      have q4 := hB.lo r hr
      have q5 := hD.row r hr' hr2
      have q6 := hB.dis i r hi hr hi2 hr2 (Ne.symm e)
      rw [if_neg (by omega)]
      exact h.in_ r hr hr' (by omega) j hj
  · rw [putW_get _ _ _ _ hfit]
    have := hno i hi hi' (by omega)
    rw [if_neg (by omega)]
    exact h.out a ha fun r hr hr' hlt => hno r hr hr' (by omega)

section
variable (box : FuncId → Option (Nat × List BxC)) (ps : FuncId → List (Option Nat)) (F : Callee) (N : Nat)
def tfLoad : TFn := { np := 2, pp := [], nt := 57, body := .seq (.reg 0 none [{ dst := some 2, guard := none, op := .box 3 true (.t 0) }, { dst := some 3, guard := none, op := .box 2 true (.t 1) }, { dst := some 4, guard := none, op := .alloc [.slice none 0 0, .slice none 0 0] }, { dst := some 5, guard := none, op := .asn true (.c (.int (.i64) 0)) }] ([2, 3, 4], [6, 7, 8, 9, 10, 11])) (.seq (.seq (.reg 1 none [{ dst := some 9, guard := none, op := .load (some 2) (.t 3) }, { dst := some 10, guard := none, op := .fld 1 (.t 2) }, { dst := some 11, guard := none, op := .load none (.t 10) }, { dst := some 12, guard := none, op := .call true (.f 21) [(none, .t 9), (none, .t 11)] }, { dst := some 13, guard := none, op := .un (.not) (.t 12) }, { dst := some 14, guard := none, op := .mov (.t 13) }, { dst := some 15, guard := some (14, false), op := .fld 2 (.t 2) }, { dst := some 16, guard := some (14, false), op := .load none (.t 15) }, { dst := some 17, guard := some (14, false), op := .len (.t 16) }, { dst := some 18, guard := some (14, false), op := .fld 1 (.t 2) }, { dst := some 19, guard := some (14, false), op := .load none (.t 18) }, { dst := some 20, guard := some (14, false), op := .len (.t 19) }, { dst := some 21, guard := some (14, false), op := .bin (.neq) (.t 17) (.t 20) }, { dst := some 22, guard := none, op := .pick (.t 14) (.c (.bool true)) (.t 21) }] ([2, 3, 4, 22], [6, 7, 8, 9, 10, 11, 28, 29, 30, 31, 44, 45, 46, 47])) (.cond (.t 22) (.seq (.reg 2 none [{ dst := some 23, guard := none, op := .bld [.slice none 0 0, .slice none 0 0] true [] }, { dst := none, guard := none, op := .store 2 true (.t 4) (.t 23) }, { dst := some 5, guard := none, op := .asn true (.c (.int (.i64) 1)) }] ([4, 5], [10, 11, 12, 13])) (.ret)) (.skip))) (.seq (.reg 3 (some [[], [], [0, 1], [], [3, 2, 0, 1]]) [{ dst := some 24, guard := none, op := .mks 2 [.int (.u8) 0, .int (.u16) 0] (.c (.int (.i64) 512)) (.c (.int (.i64) 512)) }, { dst := some 25, guard := none, op := .call true (.f 22) [] }, { dst := some 26, guard := none, op := .bld [.slice none 0 0, .slice none 0 0] true [(0, 1, .t 24), (1, 1, .t 25)] }, { dst := some 6, guard := none, op := .alloc [.slice none 0 0, .slice none 0 0] }, { dst := none, guard := none, op := .store 2 true (.t 6) (.t 26) }] ([2, 3, 4, 6], [6, 7, 8, 9, 10, 11, 14, 15])) (.seq (.seq (.reg 4 none [{ dst := some 27, guard := none, op := .fld 2 (.t 2) }, { dst := some 28, guard := none, op := .load none (.t 27) }, { dst := some 29, guard := none, op := .len (.t 28) }, { dst := some 30, guard := none, op := .mov (.c (.int (.i64) 0)) }] ([2, 3, 4, 6, 28, 29, 30], [6, 7, 8, 9, 10, 11, 14, 15, 56, 57, 58, 59, 60, 61, 62, 63, 112, 113])) (.block 0 (.loop (.seq (.reg 5 none [{ dst := some 31, guard := none, op := .bin (.lss) (.t 30) (.t 29) }] ([2, 3, 4, 6, 28, 29, 30, 31], [6, 7, 8, 9, 10, 11, 14, 15, 56, 57, 58, 59, 60, 61, 62, 63, 64, 65, 112, 113])) (.seq (.cond (.t 31) (.skip) (.exit 0)) (.seq (.block 1 (.seq (.reg 6 none [{ dst := some 32, guard := none, op := .mov (.t 30) }, { dst := some 33, guard := none, op := .idx 1 (.t 28) (.t 30) }, { dst := some 34, guard := none, op := .load none (.t 33) }, { dst := some 7, guard := none, op := .asn false (.t 32) }, { dst := some 8, guard := none, op := .asn false (.t 34) }] ([2, 3, 4, 6, 7, 8, 28, 29, 30], [6, 7, 8, 9, 10, 11, 14, 15, 16, 17, 18, 19, 56, 57, 58, 59, 60, 61, 62, 63, 112, 113])) (.seq (.seq (.reg 7 none [{ dst := some 35, guard := none, op := .mov (.t 8) }, { dst := some 36, guard := none, op := .len (.t 35) }, { dst := some 37, guard := none, op := .fld 1 (.t 2) }, { dst := some 38, guard := none, op := .load none (.t 37) }, { dst := some 39, guard := none, op := .mov (.t 7) }, { dst := some 40, guard := none, op := .idx 1 (.t 38) (.t 39) }, { dst := some 41, guard := none, op := .load none (.t 40) }, { dst := some 42, guard := none, op := .bin (.gtr) (.t 36) (.t 41) }] ([2, 3, 4, 6, 7, 8, 28, 29, 30, 42], [6, 7, 8, 9, 10, 11, 14, 15, 16, 17, 18, 19, 56, 57, 58, 59, 60, 61, 62, 63, 86, 87, 112, 113])) (.cond (.t 42) (.seq (.reg 8 none [{ dst := some 43, guard := none, op := .bld [.slice none 0 0, .slice none 0 0] true [] }, { dst := none, guard := none, op := .store 2 true (.t 4) (.t 43) }, { dst := some 5, guard := none, op := .asn true (.c (.int (.i64) 1)) }] ([4, 5], [10, 11, 12, 13])) (.ret)) (.skip))) (.reg 9 (some [[], [0], [], [2], [], [3, 2, 4], [5, 3, 2, 4], [1, 0, 6, 5, 3, 2, 4], [], [8], [7, 1, 0, 6, 5, 3, 2, 4, 9, 8]]) [{ dst := some 44, guard := none, op := .fld 0 (.t 6) }, { dst := some 45, guard := none, op := .load none (.t 44) }, { dst := some 46, guard := none, op := .fld 0 (.t 3) }, { dst := some 47, guard := none, op := .load none (.t 46) }, { dst := some 48, guard := none, op := .mov (.t 7) }, { dst := some 49, guard := none, op := .idx 1 (.t 47) (.t 48) }, { dst := some 50, guard := none, op := .load none (.t 49) }, { dst := some 51, guard := none, op := .slc 2 (.t 45) (some (.t 50)) none }, { dst := some 52, guard := none, op := .mov (.t 8) }, { dst := some 53, guard := none, op := .call true (.f 23) [(none, .t 52)] }, { dst := some 54, guard := none, op := .cpy 2 (.t 51) (.t 53) }] ([2, 3, 4, 6, 28, 29, 30], [6, 7, 8, 9, 10, 11, 14, 15, 56, 57, 58, 59, 60, 61, 62, 63, 112, 113]))))) (.reg 10 none [{ dst := some 55, guard := none, op := .bin (.add) (.t 30) (.c (.int (.i64) 1)) }, { dst := some 30, guard := none, op := .mov (.t 55) }] ([2, 3, 4, 6, 28, 29, 30], [6, 7, 8, 9, 10, 11, 14, 15, 56, 57, 58, 59, 60, 61, 62, 63, 112, 113])))))))) (.seq (.reg 11 none [{ dst := some 56, guard := none, op := .load (some 2) (.t 6) }, { dst := none, guard := none, op := .store 2 true (.t 4) (.t 56) }, { dst := some 5, guard := none, op := .asn true (.c (.int (.i64) 0)) }] ([4, 5], [10, 11, 12, 13])) (.ret))))), res := [.cell 4 (some 2), .tmp 5] }
def encDs (xs : List Int) : List TV := [.sl (xs.map encW)]
def stO (C Z Bm D : List (List TV)) (key n i : Int) (cells : List Int) : St := ⟨[(2, .ptr ⟨6, 0, []⟩ [0]), (3, .ptr ⟨8, 0, []⟩ [0]), (4, .ptr ⟨10, 0, []⟩ [0]), (6, .ptr ⟨14, 0, []⟩ [0]), (28, .sl D), (29, .v (.int .i64 n)), (30, .v (.int .i64 i))], [(6, [.sl C, .sl Z, .sl D]), (8, [.sl Bm, .v (.int .u16 key)]), (10, [.ow [], .ow []]), (14, [.ow (cells.map encN), .ow [encLn, encLn, encLn, encLn]])], []⟩
def stO' (C Z Bm D : List (List TV)) (key n : Int) (cells : List Int) : St := ⟨[(2, .ptr ⟨6, 0, []⟩ [0]), (3, .ptr ⟨8, 0, []⟩ [0]), (4, .ptr ⟨10, 0, []⟩ [0]), (6, .ptr ⟨14, 0, []⟩ [0]), (28, .sl D), (29, .v (.int .i64 n)), (30, .v (.int .i64 n)), (31, .v (.bool false))], [(6, [.sl C, .sl Z, .sl D]), (8, [.sl Bm, .v (.int .u16 key)]), (10, [.ow [], .ow []]), (14, [.ow (cells.map encN), .ow [encLn, encLn, encLn, encLn]])], []⟩
set_option maxRecDepth 100000 in
set_option maxHeartbeats 16000000 in
theorem load_loop (hb : box 23 = none) (hNum : NumC F) (C : List (List TV)) (key : Int) (sizes B : List Int) (data : List (List Int)) (h : SizesOk sizes) (hB : LayOk sizes B) (hD : DataOk sizes data) (hdl : data.length = sizes.length) : ∀ j m σ, (∃ (i : Nat) (cells : List Int), σ = stO C (sizes.map encI) (B.map encI) (data.map encDs) key data.length i cells ∧ MemL B data i cells ∧ i + j = data.length) → j < m →
    ∃ e σ', realP.it (S.runC realP (S.evCall realP ⟨box, ps⟩ F) N (.seq (.reg 5 none [{ dst := some 31, guard := none, op := .bin (.lss) (.t 30) (.t 29) }] ([2, 3, 4, 6, 28, 29, 30, 31], [6, 7, 8, 9, 10, 11, 14, 15, 56, 57, 58, 59, 60, 61, 62, 63, 64, 65, 112, 113])) (.seq (.cond (.t 31) (.skip) (.exit 0)) (.seq (.block 1 (.seq (.reg 6 none [{ dst := some 32, guard := none, op := .mov (.t 30) }, { dst := some 33, guard := none, op := .idx 1 (.t 28) (.t 30) }, { dst := some 34, guard := none, op := .load none (.t 33) }, { dst := some 7, guard := none, op := .asn false (.t 32) }, { dst := some 8, guard := none, op := .asn false (.t 34) }] ([2, 3, 4, 6, 7, 8, 28, 29, 30], [6, 7, 8, 9, 10, 11, 14, 15, 16, 17, 18, 19, 56, 57, 58, 59, 60, 61, 62, 63, 112, 113])) (.seq (.seq (.reg 7 none [{ dst := some 35, guard := none, op := .mov (.t 8) }, { dst := some 36, guard := none, op := .len (.t 35) }, { dst := some 37, guard := none, op := .fld 1 (.t 2) }, { dst := some 38, guard := none, op := .load none (.t 37) }, { dst := some 39, guard := none, op := .mov (.t 7) }, { dst := some 40, guard := none, op := .idx 1 (.t 38) (.t 39) }, { dst := some 41, guard := none, op := .load none (.t 40) }, { dst := some 42, guard := none, op := .bin (.gtr) (.t 36) (.t 41) }] ([2, 3, 4, 6, 7, 8, 28, 29, 30, 42], [6, 7, 8, 9, 10, 11, 14, 15, 16, 17, 18, 19, 56, 57, 58, 59, 60, 61, 62, 63, 86, 87, 112, 113])) (.cond (.t 42) (.seq (.reg 8 none [{ dst := some 43, guard := none, op := .bld [.slice none 0 0, .slice none 0 0] true [] }, { dst := none, guard := none, op := .store 2 true (.t 4) (.t 43) }, { dst := some 5, guard := none, op := .asn true (.c (.int (.i64) 1)) }] ([4, 5], [10, 11, 12, 13])) (.ret)) (.skip))) (.reg 9 (some [[], [0], [], [2], [], [3, 2, 4], [5, 3, 2, 4], [1, 0, 6, 5, 3, 2, 4], [], [8], [7, 1, 0, 6, 5, 3, 2, 4, 9, 8]]) [{ dst := some 44, guard := none, op := .fld 0 (.t 6) }, { dst := some 45, guard := none, op := .load none (.t 44) }, { dst := some 46, guard := none, op := .fld 0 (.t 3) }, { dst := some 47, guard := none, op := .load none (.t 46) }, { dst := some 48, guard := none, op := .mov (.t 7) }, { dst := some 49, guard := none, op := .idx 1 (.t 47) (.t 48) }, { dst := some 50, guard := none, op := .load none (.t 49) }, { dst := some 51, guard := none, op := .slc 2 (.t 45) (some (.t 50)) none }, { dst := some 52, guard := none, op := .mov (.t 8) }, { dst := some 53, guard := none, op := .call true (.f 23) [(none, .t 52)] }, { dst := some 54, guard := none, op := .cpy 2 (.t 51) (.t 53) }] ([2, 3, 4, 6, 28, 29, 30], [6, 7, 8, 9, 10, 11, 14, 15, 56, 57, 58, 59, 60, 61, 62, 63, 112, 113]))))) (.reg 10 none [{ dst := some 55, guard := none, op := .bin (.add) (.t 30) (.c (.int (.i64) 1)) }, { dst := some 30, guard := none, op := .mov (.t 55) }] ([2, 3, 4, 6, 28, 29, 30], [6, 7, 8, 9, 10, 11, 14, 15, 56, 57, 58, 59, 60, 61, 62, 63, 112, 113])))))) m σ = some (e, σ') ∧ ∃ cells, e = .exit 0 ∧ σ' = stO' C (sizes.map encI) (B.map encI) (data.map encDs) key data.length cells ∧ MemL B data data.length cells := by
  refine it_some _ _ ?_
  rintro j σ ⟨i, cells, rfl, hok, hij⟩
  have hl := h.l1
  have hBl := hB.len
  cases j with
  | zero =>
    obtain rfl : i = data.length := by omega
    refine ⟨.exit 0, stO' C (sizes.map encI) (B.map encI) (data.map encDs) key data.length cells, ?_, .inr ⟨by simp, cells, rfl, rfl, hok⟩⟩
    have hlt : realP.cm .lss (data.length : Int) (data.length : Int) = false := lss_f (by omega)
    simp only [stO, stO', encLn]
    generalize sizes.map encI = Z at *
    generalize B.map encI = W at *
    generalize data.map encDs = D at *
    generalize cells.map encN = Y at *
    generalize (data.length : Int) = n at *
    (generalize realP = Pr at *; obtain ⟨ar, cm, sh, sb, un, cv, natI, lenN, inb, inw, elt, addN, subN, slOk, win, immC, immW, allLen, appOk, cat, mkOk, rep, getC, setC, shC, eqf, eqB, notB, fmm, strAt, strLen, strB, strOk, bstr, cpy, it⟩ := Pr; try dsimp only at *)
    ((repeat (cbv; first | done | rw [hlt])); try cbv)
  | succ j =>
    have hi' : i < data.length := by omega
    have hi2 : i < sizes.length := by omega
    have hi : i < B.length := by omega
    have q1 := hB.lo i hi
    have q2 := hB.hi i hi hi2
    have q3 := hD.row i hi' hi2
    have hx := (h.sz _ (List.getElem_mem hi2)).2
    have hcl := hok.len
    refine ⟨.normal, stO C (sizes.map encI) (B.map encI) (data.map encDs) key data.length (i + 1 : Nat) (putW cells B[i].toNat data[i]), ?_, .inl ⟨rfl, j, by omega, i + 1, _, rfl, hok.step hB hD hi hi' hi2, by omega⟩⟩
    have hlt : realP.cm .lss (i : Int) (data.length : Int) = true := lss_t (by omega)
    have hp : realP.ar .add .i64 (i : Int) 1 = ((i + 1 : Nat) : Int) := by rw [add64 (by omega) (by omega)]; simp
    have hin1 : realP.inb (sizes.map encI) i 1 = true := inb_map hi2 rfl (by decide)
    have hin2 : realP.inb (B.map encI) i 1 = true := inb_map hi rfl (by decide)
    have hin3 : realP.inb (data.map encDs) i 1 = true := inb_map hi' rfl (by decide)
    have hel1 : realP.elt (sizes.map encI) i = [.v (.int .i64 sizes[i])] := elt_map hi2
    have hel2 : realP.elt (B.map encI) i = [.v (.int .i64 B[i])] := elt_map hi
    have hel3 : realP.elt (data.map encDs) i = [.sl (data[i].map encW)] := elt_map hi'
    have hln : realP.natI (realP.lenN (data[i].map encW)) = data[i].length := lenI_map encW data[i]
    have hgt : realP.cm .gtr (data[i].length : Int) sizes[i] = false := gtr_f (by omega)
    have hcn : realP.lenN (cells.map encN) = 512 := by rw [lenN_map, hcl]
    have hso : realP.slOk B[i].toNat 512 512 = true := by simp [realP]; omega
    have hal : realP.allLen (cells.map encN) 2 = true := allLen_map cells fun _ => rfl
    have hF := hNum data[i] (by omega)
    have hcp : data[i] = [] ∨ realP.cpy 2 (cells.map encN) (data[i].map encN) B[i].toNat (realP.subN 512 B[i].toNat) = some (data[i].length, some ((putW cells B[i].toNat data[i]).map encN)) := by
      by_cases e : data[i] = []
      · exact .inl e
      · refine .inr (cpy_encN cells data[i] B[i].toNat (512 - B[i].toNat) (by omega) (by omega) e)
    have hcp0 : data[i] = [] → realP.cpy 2 (cells.map encN) (data[i].map encN) B[i].toNat (realP.subN 512 B[i].toNat) = some (0, none) := by
      intro e; rw [e]; exact cpy_encN0 _ _ _
    have hput : data[i] = [] → putW cells B[i].toNat data[i] = cells := by intro e; rw [e]; rfl
    obtain ⟨b, hb2⟩ : ∃ b : Nat, B[i] = Int.ofNat b := ⟨B[i].toNat, by simp only [Int.ofNat_eq_natCast]; omega⟩
    rw [hb2] at hel2 hso hcp hcp0 hput ⊢
    simp only [Int.ofNat_eq_natCast, Int.toNat_natCast] at hel2 hso hcp hcp0 hput ⊢
    rcases hcp with h0 | hcp
    · have hcp0 := hcp0 h0
      rw [hput h0]
      clear hput hok hD
      simp only [stO, stO', encLn]
      generalize data[i].map encN = Y1 at *
      generalize data[i].map encW = Y2 at *
      generalize (data[i].length : Int) = y at *
      generalize sizes[i] = s at *
      generalize sizes.map encI = Z at *
      generalize B.map encI = W at *
      generalize data.map encDs = D at *
      generalize cells.map encN = Y at *
      generalize (data.length : Int) = n at *
      generalize ((i + 1 : Nat) : Int) = i1 at *
      simp only [← Int.ofNat_eq_natCast] at hlt hp hel2 ⊢
      (generalize realP = Pr at *; obtain ⟨ar, cm, sh, sb, un, cv, natI, lenN, inb, inw, elt, addN, subN, slOk, win, immC, immW, allLen, appOk, cat, mkOk, rep, getC, setC, shC, eqf, eqB, notB, fmm, strAt, strLen, strB, strOk, bstr, cpy, it⟩ := Pr; try dsimp only at *)
      ((repeat (cbv; first | done | rw [hlt] | rw [if_pos hin1] | rw [if_pos hin2] | rw [if_pos hin3] | rw [hel1] | rw [hel2] | rw [hel3] | rw [hln] | rw [hgt] | rw [hcn] | rw [if_pos hso] | rw [if_pos hal] | rw [hb] | rw [hF] | rw [hcp0] | rw [hp])); try cbv)
    · clear hcp0 hput hok hD
      simp only [stO, stO', encLn]
      generalize (putW cells b data[i]).map encN = Y3 at *
      generalize hm : data[i].length = m1 at *
      generalize data[i].map encN = Y1 at *
      generalize data[i].map encW = Y2 at *
      generalize sizes[i] = s at *
      generalize sizes.map encI = Z at *
      generalize B.map encI = W at *
      generalize data.map encDs = D at *
      generalize cells.map encN = Y at *
      generalize (data.length : Int) = n at *
      generalize ((i + 1 : Nat) : Int) = i1 at *
      simp only [← Int.ofNat_eq_natCast] at hlt hp hel2 hln hgt ⊢
      (generalize realP = Pr at *; obtain ⟨ar, cm, sh, sb, un, cv, natI, lenN, inb, inw, elt, addN, subN, slOk, win, immC, immW, allLen, appOk, cat, mkOk, rep, getC, setC, shC, eqf, eqB, notB, fmm, strAt, strLen, strB, strOk, bstr, cpy, it⟩ := Pr; try dsimp only at *)
      ((repeat (cbv; first | done | rw [hlt] | rw [if_pos hin1] | rw [if_pos hin2] | rw [if_pos hin3] | rw [hel1] | rw [hel2] | rw [hel3] | rw [hln] | rw [hgt] | rw [hcn] | rw [if_pos hso] | rw [if_pos hal] | rw [hb] | rw [hF] | rw [hcp] | rw [hp])); try cbv)
theorem immL_encN (x : Int) : TV.immL (encN x) = encN x := rfl
def encLs : List TV := [.v (.int .i64 (-1)), .v (.bool false), .sl []]
def LoadC (F : Callee) : Prop := ∀ C key sizes B data, SizesOk sizes → LayOk sizes B → DataOk sizes data → data.length = sizes.length → ∃ cells, F 8 [.agg [.sl C, .sl (sizes.map encI), .sl (data.map encDs)], .agg [.sl (B.map encI), .v (.int .u16 key)]] [] = some (⟨[.ow (cells.map encN), .ow [encLn, encLn, encLn, encLn], .v (.int .i64 0)], [.agg 2, .one]⟩, []) ∧ MemL B data data.length cells
set_option maxRecDepth 100000 in
set_option maxHeartbeats 16000000 in
theorem load_run (hb : box 23 = none) (hb2 : box 21 = none) (hb3 : box 22 = none) (hNum : NumC F) (hV : LayVC F) (hE : EmpC F) (hN : 200 ≤ N) (C : List (List TV)) (key : Int) (sizes B : List Int) (data : List (List Int)) (h : SizesOk sizes) (hB : LayOk sizes B) (hD : DataOk sizes data) (hdl : data.length = sizes.length) :
    ∃ cells, runT ⟨box, ps⟩ F N tfLoad [.agg [.sl C, .sl (sizes.map encI), .sl (data.map encDs)], .agg [.sl (B.map encI), .v (.int .u16 key)]] [] = some (⟨[.ow (cells.map encN), .ow [encLn, encLn, encLn, encLn], .v (.int .i64 0)], [.agg 2, .one]⟩, []) ∧ MemL B data data.length cells := by
  rw [← S.runT_real]
  have hl := h.l1
  have hV := hV sizes B key h hB
  unfold EmpC at hE
  obtain ⟨e, σ', hL, cells, rfl, rfl, hok⟩ := load_loop box ps F N hb hNum C key sizes B data h hB hD hdl data.length N _ ⟨0, _, rfl, MemL.zero B data, by omega⟩ (by omega)
  refine ⟨cells, ?_, hok⟩
  have hl1 : realP.natI (realP.lenN (sizes.map encI)) = sizes.length := lenI_map encI sizes
  have hl2 : realP.natI (realP.lenN (data.map encDs)) = sizes.length := by rw [lenI_map encDs data, hdl]
  have c1 : realP.cm .neq (sizes.length : Int) (sizes.length : Int) = false := neq_f rfl
  have hmk : realP.mkOk 512 512 2 = true := rfl
  have hrep : realP.rep 512 [.v (.int .u8 0), .v (.int .u16 0)] = (List.replicate 512 (0 : Int)).map encN := by rw [List.map_replicate]; rfl
  rw [hdl] at hL
  simp only [stO, stO', encLn, Int.natCast_zero] at *
  have nb0 : realP.notB true = false := rfl; have nb1 : realP.notB false = true := rfl; have nb2 : realP.eqB true true = true := rfl; have nb3 : realP.eqB false false = true := rfl; have nb4 : realP.eqB true false = false := rfl; have nb5 : realP.eqB false true = false := rfl
  clear hok
  generalize (List.replicate 512 (0 : Int)).map encN = R at *
  generalize cells.map encN = Y at *
  generalize sizes.map encI = Z at *
  generalize B.map encI = W at *
  generalize data.map encDs = D at *
  generalize (sizes.length : Int) = n at *
  (generalize realP = Pr at *; obtain ⟨ar, cm, sh, sb, un, cv, natI, lenN, inb, inw, elt, addN, subN, slOk, win, immC, immW, allLen, appOk, cat, mkOk, rep, getC, setC, shC, eqf, eqB, notB, fmm, strAt, strLen, strB, strOk, bstr, cpy, it⟩ := Pr; try dsimp only at *)
  ((repeat (cbv; first | done | rw [nb0] | rw [nb1] | rw [hb2] | rw [hV] | rw [hl1] | rw [hl2] | rw [c1] | rw [if_pos hmk] | rw [hrep] | rw [hb3] | rw [hE] | rw [hL])); try cbv)
end
end Go.Proofs.Ytjmfjjmdfikanaa
