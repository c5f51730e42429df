/- Programs that a deck makes, on trees. -/
import Derived.Test.YtjmfjjmdfikanaaQj
set_option linter.unusedVariables false
set_option linter.unusedSimpArgs false
namespace Go.Proofs.Ytjmfjjmdfikanaa
open Go.RowKit

def encDat (xs : List Int) : List TV := [.ow (xs.map encW)]
def nil3 : List TV := [.ow [], .ow [], .ow []]
theorem getC_map {α : Type} {f : α → List TV} {l : List α} {k sz o : Nat} {t : TV} (h : k < l.length) (hs : (f l[k]).length = sz) (ho : (f l[k])[o]? = some t) : realP.getC (l.map f) (k, sz, o) [] = some t := by
  show getT (.ow (l.map f)) [(k, sz, o)] = _
  simp [getT, h, hs, ho]

section
variable (box : FuncId → Option (Nat × List BxC)) (ps : FuncId → List (Option Nat)) (F : Callee) (N : Nat)

/-! ## Data -/
structure DataOk (sizes : List Int) (data : List (List Int)) : Prop where
  le : data.length ≤ sizes.length
  row : ∀ i (h : i < data.length) (h' : i < sizes.length), (data[i].length : Int) ≤ sizes[i]
  word : ∀ xs ∈ data, ∀ x ∈ xs, IsU16 x
def stD (D : List TV) (sizes : List Int) (data : List (List Int)) (n i : Int) : St := ⟨[(0, .ptr ⟨2, 0, []⟩ [0]), (2, .ptr ⟨6, 0, []⟩ [0]), (3, .ptr ⟨8, 0, []⟩ [0]), (13, .pk ⟨8, 1, []⟩ [0, 0]), (14, .v (.int .i64 n)), (15, .v (.int .i64 i))], [(2, D), (6, nil3), (8, [.ow [], .ow (sizes.map encI), .ow (data.map encDat)])], []⟩
def stD' (D : List TV) (sizes : List Int) (data : List (List Int)) (n : Int) : St := ⟨[(0, .ptr ⟨2, 0, []⟩ [0]), (2, .ptr ⟨6, 0, []⟩ [0]), (3, .ptr ⟨8, 0, []⟩ [0]), (13, .pk ⟨8, 1, []⟩ [0, 0]), (14, .v (.int .i64 n)), (15, .v (.int .i64 n)), (16, .v (.bool false))], [(2, D), (6, nil3), (8, [.ow [], .ow (sizes.map encI), .ow (data.map encDat)])], []⟩
set_option maxRecDepth 100000 in
set_option maxHeartbeats 8000000 in
theorem data_loop (hbox : box 13 = none) (hW : WordsC F) (l : List Int) (sizes : List Int) (hs : ∀ x ∈ sizes, IsSize x) (hsl : sizes.length ≤ 4) : ∀ j m σ, (∃ k data, σ = stD (encD l k) sizes data sizes.length (data.length : Nat) ∧ DeckOk l k ∧ DataOk sizes data ∧ data.length + j = sizes.length) → j < m →
    ∃ e σ', realP.it (S.runC realP (S.evCall realP ⟨box, ps⟩ F) N (.seq (.reg 3 none [{ dst := some 16, guard := none, op := .bin (.lss) (.t 15) (.t 14) }] ([0, 2, 3, 13, 14, 15, 16], [2, 3, 6, 7, 8, 9, 26, 27, 28, 29, 30, 31, 32, 33, 34, 35, 56, 57])) (.seq (.cond (.t 16) (.skip) (.exit 0)) (.seq (.block 1 (.seq (.reg 4 none [{ dst := some 17, guard := none, op := .idx 1 (.t 13) (.t 15) }, { dst := some 18, guard := none, op := .load none (.t 17) }, { dst := some 5, guard := none, op := .asn false (.t 18) }] ([0, 2, 3, 5, 13, 14, 15], [2, 3, 6, 7, 8, 9, 12, 13, 26, 27, 28, 29, 30, 31, 32, 33, 56, 57])) (.reg 5 (some [[], [0], [], [], [2, 3], [4, 2, 3], [1, 0, 5, 4, 2, 3], [0, 1, 2, 3, 4, 5, 6], [7, 0, 1, 2, 3, 4, 5, 6]]) [{ dst := some 19, guard := none, op := .fld 2 (.t 3) }, { dst := some 20, guard := none, op := .load none (.t 19) }, { dst := some 21, guard := none, op := .mov (.t 0) }, { dst := some 22, guard := none, op := .mov (.t 5) }, { dst := some 23, guard := none, op := .call true (.f 13) [(some 2, .t 21), (none, .t 22)] }, { dst := some 24, guard := none, op := .bsl 1 true 1 [.t 23] }, { dst := some 25, guard := none, op := .app 1 24 true (.t 20) (.t 24) }, { dst := some 26, guard := none, op := .fld 2 (.t 3) }, { dst := none, guard := none, op := .store 1 true (.t 26) (.t 25) }] ([0, 2, 3, 13, 14, 15], [2, 3, 6, 7, 8, 9, 26, 27, 28, 29, 30, 31, 32, 33, 56, 57])))) (.reg 6 none [{ dst := some 27, guard := none, op := .bin (.add) (.t 15) (.c (.int (.i64) 1)) }, { dst := some 15, guard := none, op := .mov (.t 27) }] ([0, 2, 3, 13, 14, 15], [2, 3, 6, 7, 8, 9, 26, 27, 28, 29, 30, 31, 32, 33, 56, 57])))))) m σ = some (e, σ') ∧ ∃ k data, e = .exit 0 ∧ σ' = stD' (encD l k) sizes data sizes.length ∧ DeckOk l k ∧ DataOk sizes data ∧ data.length = sizes.length := by
  refine it_some _ _ ?_
  rintro j σ ⟨k, data, rfl, hd, hx, hl⟩
  cases j with
  | zero =>
    have hl : data.length = sizes.length := by omega
    refine ⟨.exit 0, stD' (encD l k) sizes data sizes.length, ?_, .inr ⟨by simp, k, data, rfl, rfl, hd, hx, hl⟩⟩
    have hc : realP.cm .lss (sizes.length : Int) (sizes.length : Int) = false := lss_f (by omega)
    rw [hl]
    simp only [stD, stD', encD, nil3]
    generalize l.map encI = D at *
    generalize sizes.map encI = Z at *
    generalize data.map encDat = W at *
    generalize (k : Int) = i0 at *
    generalize (sizes.length : Int) = n at *
    (generalize realP = Pr at *; obtain ⟨ar, cm, sh, sb, un, cv, natI, lenN, inb, inw, elt, addN, subN, slOk, win, immC, immW, allLen, appOk, cat, mkOk, rep, getC, setC, shC, eqf, eqB, notB, fmm, strAt, strLen, strB, strOk, bstr, cpy, it⟩ := Pr; try dsimp only at *)
    ((repeat (cbv; first | done | rw [hc])); try cbv)
  | succ j =>
    have hi : data.length < sizes.length := by omega
    have hsz := hs _ (List.getElem_mem hi)
    obtain ⟨xs, k1, h1, hd1, g1, g2⟩ := hW l k sizes[data.length] hd (by have := hsz.1; omega) (by have := hsz.2; omega)
    refine ⟨.normal, stD (encD l k1) sizes (data ++ [xs]) sizes.length ((data ++ [xs]).length : Nat), ?_, .inl ⟨rfl, j, by omega, k1, data ++ [xs], rfl, hd1, ?_, by simp; omega⟩⟩
    · have hc : realP.cm .lss (data.length : Int) (sizes.length : Int) = true := lss_t (by omega)
      have hin : realP.inb (sizes.map encI) data.length 1 = true := inb_map hi rfl (by decide)
      have hg : realP.getC (sizes.map encI) (data.length, 1, 0) [] = some (.v (.int .i64 sizes[data.length])) := getC_map hi rfl rfl
      have ha : realP.appOk 1 24 (data.map encDat) [[.ow (xs.map encW)]] = true := appOk_map (f := encDat) (l' := [xs]) (fun _ => rfl) (by simp; omega) (by simp; omega)
      have hcat : realP.cat (data.map encDat) [[.ow (xs.map encW)]] = (data ++ [xs]).map encDat := cat_map (f := encDat) data [xs]
      have hp : realP.ar .add .i64 (data.length : Int) 1 = ((data ++ [xs]).length : Nat) := by rw [add64 (by omega) (by omega)]; simp
      simp only [stD, encD, nil3] at *
      generalize l.map encI = D at *
      generalize sizes.map encI = Z at *
      generalize (data ++ [xs]).map encDat = W2 at *
      generalize data.map encDat = W at *
      generalize xs.map encW = b at *
      generalize (k : Int) = i0 at *
      generalize (k1 : Int) = i1 at *
      generalize (sizes.length : Int) = n at *
      generalize sizes[data.length] = s at *
      generalize (((data ++ [xs]).length : Nat) : Int) = q1 at *
      generalize data.length = q at *
      simp only [← Int.ofNat_eq_natCast] at hc hp
      (generalize realP = Pr at *; obtain ⟨ar, cm, sh, sb, un, cv, natI, lenN, inb, inw, elt, addN, subN, slOk, win, immC, immW, allLen, appOk, cat, mkOk, rep, getC, setC, shC, eqf, eqB, notB, fmm, strAt, strLen, strB, strOk, bstr, cpy, it⟩ := Pr; try dsimp only at *)
      ((repeat (cbv; first | done | rw [hc] | rw [if_pos hin] | rw [hg] | rw [hbox] | rw [h1] | rw [if_pos ha] | rw [hcat] | rw [hp])); try cbv)
    · refine ⟨by simp; omega, fun i h h' => ?_, fun ys hy => ?_⟩
      · by_cases hi2 : i < data.length
        · rw [List.getElem_append_left hi2]; exact hx.row i hi2 h'
        · obtain rfl : i = data.length := by simp at h; omega
          simp
          exact g2
      · rcases List.mem_append.1 hy with hy | hy
        · exact hx.word ys hy
        · rw [List.mem_singleton.1 hy]; exact g1

/-! ## Code -/
def CodeFine (code : List In) : Prop := ∀ x ∈ code, OkIn x ∧ (jumpB x.op = true → x.imm < code.length)
theorem CodeFine.app {code xs : List In} (h : CodeFine code) (h' : ∀ x ∈ xs, OkIn x ∧ (jumpB x.op = true → x.imm < code.length + xs.length)) : CodeFine (code ++ xs) := by
  intro x hx
  rcases List.mem_append.1 hx with hx | hx
  · exact ⟨(h x hx).1, fun hj => by have := (h x hx).2 hj; simp; omega⟩
  · exact ⟨(h' x hx).1, fun hj => by have := (h' x hx).2 hj; simp; omega⟩
def stQ (D : List TV) (SZ : TV) (code : List In) (data : List (List Int)) (j : Int) : St := ⟨[(0, .ptr ⟨2, 0, []⟩ [0]), (2, .ptr ⟨6, 0, []⟩ [0]), (3, .ptr ⟨8, 0, []⟩ [0]), (6, .v (.int .i64 j))], [(2, D), (6, nil3), (8, [.ow (code.map encIn), SZ, .ow (data.map encDat)])], []⟩
def stQ' (D : List TV) (SZ : TV) (code : List In) (data : List (List Int)) : St := ⟨[(0, .ptr ⟨2, 0, []⟩ [0]), (2, .ptr ⟨6, 0, []⟩ [0]), (3, .ptr ⟨8, 0, []⟩ [0]), (6, .v (.int .i64 0)), (32, .v (.bool false))], [(2, D), (6, nil3), (8, [.ow (code.map encIn), SZ, .ow (data.map encDat)])], []⟩
set_option maxRecDepth 100000 in
set_option maxHeartbeats 8000000 in
theorem code_loop (hbox : box 15 = none) (hP : PartC F) (l : List Int) (sizes : List Int) (hs : ∀ x ∈ sizes, IsSize x) (hsl0 : 1 ≤ sizes.length) (hsl : sizes.length ≤ 4) (data : List (List Int)) : ∀ j m σ, (∃ k code SZ, σ = stQ (encD l k) SZ code data (j : Nat) ∧ DeckOk l k ∧ (SZ = .sl (sizes.map encI) ∨ SZ = .ow (sizes.map encI) ∧ 0 < j) ∧ CodeFine code ∧ code.length ≤ 62 ∧ j ≤ 100) → j < m →
    ∃ e σ', realP.it (S.runC realP (S.evCall realP ⟨box, ps⟩ F) N (.seq (.seq (.reg 8 none [{ dst := some 31, guard := none, op := .mov (.t 6) }, { dst := some 32, guard := none, op := .bin (.gtr) (.t 31) (.c (.int (.i64) 0)) }] ([0, 2, 3, 6, 32], [2, 3, 6, 7, 8, 9, 14, 15, 66, 67])) (.cond (.t 32) (.skip) (.exit 2))) (.seq (.block 3 (.seq (.reg 10 none [{ dst := some 35, guard := none, op := .mov (.t 0) }, { dst := some 36, guard := none, op := .fld 1 (.t 3) }, { dst := some 37, guard := none, op := .load none (.t 36) }, { dst := some 38, guard := none, op := .fld 0 (.t 3) }, { dst := some 39, guard := none, op := .load none (.t 38) }, { dst := some 40, guard := none, op := .len (.t 39) }, { dst := some 41, guard := none, op := .bin (.add) (.t 40) (.c (.int (.i64) 1)) }, { dst := some 42, guard := none, op := .fld 0 (.t 3) }, { dst := some 43, guard := none, op := .load none (.t 42) }, { dst := some 44, guard := none, op := .len (.t 43) }, { dst := some 45, guard := none, op := .call true (.f 15) [(some 2, .t 35), (none, .t 37), (none, .t 41), (none, .t 44)] }, { dst := some 7, guard := none, op := .asn true (.t 45) }] ([0, 2, 3, 6, 7], [2, 3, 6, 7, 8, 9, 14, 15, 16, 17])) (.seq (.reg 11 none [{ dst := some 46, guard := none, op := .fld 0 (.t 3) }, { dst := some 47, guard := none, op := .load none (.t 46) }, { dst := some 48, guard := none, op := .len (.t 47) }, { dst := some 49, guard := none, op := .mov (.t 7) }, { dst := some 50, guard := none, op := .len (.t 49) }, { dst := some 51, guard := none, op := .bin (.add) (.t 48) (.t 50) }, { dst := some 52, guard := none, op := .bin (.leq) (.t 51) (.c (.int (.i64) 62)) }] ([0, 2, 3, 6, 7, 52], [2, 3, 6, 7, 8, 9, 14, 15, 16, 17, 106, 107])) (.cond (.t 52) (.reg 12 none [{ dst := some 53, guard := none, op := .fld 0 (.t 3) }, { dst := some 54, guard := none, op := .load none (.t 53) }, { dst := some 55, guard := none, op := .mov (.t 7) }, { dst := some 56, guard := none, op := .app 5 40 true (.t 54) (.t 55) }, { dst := some 57, guard := none, op := .fld 0 (.t 3) }, { dst := none, guard := none, op := .store 1 true (.t 57) (.t 56) }] ([0, 2, 3, 6], [2, 3, 6, 7, 8, 9, 14, 15])) (.nrm ([0, 2, 3, 6], [2, 3, 6, 7, 8, 9, 14, 15])))))) (.reg 9 none [{ dst := some 33, guard := none, op := .mov (.t 6) }, { dst := some 34, guard := none, op := .bin (.sub) (.t 33) (.c (.int (.i64) 1)) }, { dst := some 6, guard := none, op := .asn true (.t 34) }] ([0, 2, 3, 6], [2, 3, 6, 7, 8, 9, 14, 15]))))) m σ = some (e, σ') ∧ ∃ k code, e = .exit 2 ∧ σ' = stQ' (encD l k) (.sl (sizes.map encI)) code data ∧ DeckOk l k ∧ CodeFine code ∧ code.length ≤ 62 := by
  refine it_some _ _ ?_
  rintro j σ ⟨k, code, SZ, rfl, hd, hSZ, hc, hl, hj100⟩
  cases j with
  | zero =>
    obtain rfl : SZ = .sl (sizes.map encI) := by
      rcases hSZ with h | ⟨_, h⟩
      · exact h
      · omega
    refine ⟨.exit 2, stQ' (encD l k) (.sl (sizes.map encI)) code data, ?_, .inr ⟨by simp, k, code, rfl, rfl, hd, hc, hl⟩⟩
    have hc : realP.cm .gtr 0 0 = false := rfl
    simp only [stQ, stQ', encD, nil3, Int.natCast_zero]
    generalize l.map encI = D at *
    generalize sizes.map encI = Z at *
    generalize data.map encDat = W at *
    generalize code.map encIn = C at *
    generalize (k : Int) = i0 at *
    (generalize realP = Pr at *; obtain ⟨ar, cm, sh, sb, un, cv, natI, lenN, inb, inw, elt, addN, subN, slOk, win, immC, immW, allLen, appOk, cat, mkOk, rep, getC, setC, shC, eqf, eqB, notB, fmm, strAt, strLen, strB, strOk, bstr, cpy, it⟩ := Pr; try dsimp only at *)
    ((repeat (cbv; first | done | rw [hc])); try cbv)
  | succ j =>
    have hlen : realP.natI (realP.lenN (code.map encIn)) = code.length := lenI_map encIn code
    have hadd : realP.ar .add .i64 (realP.natI (realP.lenN (code.map encIn))) 1 = (code.length : Int) + 1 := by rw [hlen]; exact add64 (by omega) (by omega)
    obtain ⟨xs, k1, h1, hd1, hx, hxl⟩ := hP l k sizes (realP.ar .add .i64 (realP.natI (realP.lenN (code.map encIn))) 1) (realP.natI (realP.lenN (code.map encIn))) hd (by rw [hadd, hlen]) hs hsl0 hsl (by rw [hadd]; omega) (by rw [hadd]; omega) (by rw [hlen]; omega) (by rw [hlen]; omega)
    rw [hlen] at hx
    have hlx : realP.natI (realP.lenN (xs.map encIn)) = xs.length := lenI_map encIn xs
    have hsum : realP.ar .add .i64 (realP.natI (realP.lenN (code.map encIn))) (realP.natI (realP.lenN (xs.map encIn))) = (code.length : Int) + xs.length := by rw [hlen, hlx]; exact add64 (by omega) (by omega)
    have hgt : realP.cm .gtr ((j + 1 : Nat) : Int) 0 = true := gtr_t (by omega)
    have hsb : realP.ar .sub .i64 ((j + 1 : Nat) : Int) 1 = j := by rw [sub64 (by omega) (by omega)]; omega
    have him : realP.immC (sizes.map encI) = sizes.map encI := immC_map sizes fun _ => rfl
    clear hadd hlen hlx
    by_cases hle : code.length + xs.length ≤ 62
    · have hcm : realP.cm .leq (realP.ar .add .i64 (realP.natI (realP.lenN (code.map encIn))) (realP.natI (realP.lenN (xs.map encIn)))) 62 = true := by rw [hsum]; exact leq_t (by omega)
      have ha : realP.appOk 5 40 (code.map encIn) (xs.map encIn) = true := appOk_map (fun _ => rfl) (by omega) (by omega)
      have hcat : realP.cat (code.map encIn) (xs.map encIn) = (code ++ xs).map encIn := cat_map code xs
      refine ⟨.normal, stQ (encD l k1) (.sl (sizes.map encI)) (code ++ xs) data j, ?_, .inl ⟨rfl, j, by omega, k1, code ++ xs, _, rfl, hd1, .inl rfl, hc.app hx, by simp; omega, by omega⟩⟩
      clear hsum hx hs hd hd1 hc
      rcases hSZ with rfl | ⟨rfl, _⟩
      · clear hP
        simp only [stQ, encD, nil3] at *
        generalize l.map encI = D at *
        generalize (code ++ xs).map encIn = C2 at *
        generalize code.map encIn = C at *
        generalize xs.map encIn = X at *
        generalize sizes.map encI = Z at *
        generalize data.map encDat = W at *
        generalize (k : Int) = i0 at *
        generalize (k1 : Int) = i1 at *
        generalize ((j + 1 : Nat) : Int) = j1 at *
        generalize (j : Int) = j0 at *
        (generalize realP = Pr at *; obtain ⟨ar, cm, sh, sb, un, cv, natI, lenN, inb, inw, elt, addN, subN, slOk, win, immC, immW, allLen, appOk, cat, mkOk, rep, getC, setC, shC, eqf, eqB, notB, fmm, strAt, strLen, strB, strOk, bstr, cpy, it⟩ := Pr; try dsimp only at *)
        ((repeat (cbv; first | done | rw [hgt] | rw [hbox] | rw [h1] | rw [hcm] | rw [if_pos ha] | rw [hcat] | rw [hsb])); try cbv)
      · clear hP
        simp only [stQ, encD, nil3] at *
        generalize l.map encI = D at *
        generalize (code ++ xs).map encIn = C2 at *
        generalize code.map encIn = C at *
        generalize xs.map encIn = X at *
        generalize sizes.map encI = Z at *
        generalize data.map encDat = W at *
        generalize (k : Int) = i0 at *
        generalize (k1 : Int) = i1 at *
        generalize ((j + 1 : Nat) : Int) = j1 at *
        generalize (j : Int) = j0 at *
        (generalize realP = Pr at *; obtain ⟨ar, cm, sh, sb, un, cv, natI, lenN, inb, inw, elt, addN, subN, slOk, win, immC, immW, allLen, appOk, cat, mkOk, rep, getC, setC, shC, eqf, eqB, notB, fmm, strAt, strLen, strB, strOk, bstr, cpy, it⟩ := Pr; try dsimp only at *)
        ((repeat (cbv; first | done | rw [hgt] | rw [hbox] | rw [him] | rw [h1] | rw [hcm] | rw [if_pos ha] | rw [hcat] | rw [hsb])); try cbv)
    · have hcm : realP.cm .leq (realP.ar .add .i64 (realP.natI (realP.lenN (code.map encIn))) (realP.natI (realP.lenN (xs.map encIn)))) 62 = false := by rw [hsum]; exact leq_f (by omega)
      refine ⟨.normal, stQ (encD l k1) (.sl (sizes.map encI)) code data j, ?_, .inl ⟨rfl, j, by omega, k1, code, _, rfl, hd1, .inl rfl, hc, hl, by omega⟩⟩
      clear hsum hx hs hd hd1 hc
      rcases hSZ with rfl | ⟨rfl, _⟩
      · clear hP
        simp only [stQ, encD, nil3] at *
        generalize l.map encI = D at *
        generalize code.map encIn = C at *
        generalize xs.map encIn = X at *
        generalize sizes.map encI = Z at *
        generalize data.map encDat = W at *
        generalize (k : Int) = i0 at *
        generalize (k1 : Int) = i1 at *
        generalize ((j + 1 : Nat) : Int) = j1 at *
        generalize (j : Int) = j0 at *
        (generalize realP = Pr at *; obtain ⟨ar, cm, sh, sb, un, cv, natI, lenN, inb, inw, elt, addN, subN, slOk, win, immC, immW, allLen, appOk, cat, mkOk, rep, getC, setC, shC, eqf, eqB, notB, fmm, strAt, strLen, strB, strOk, bstr, cpy, it⟩ := Pr; try dsimp only at *)
        ((repeat (cbv; first | done | rw [hgt] | rw [hbox] | rw [h1] | rw [hcm] | rw [hsb])); try cbv)
      · clear hP
        simp only [stQ, encD, nil3] at *
        generalize l.map encI = D at *
        generalize code.map encIn = C at *
        generalize xs.map encIn = X at *
        generalize sizes.map encI = Z at *
        generalize data.map encDat = W at *
        generalize (k : Int) = i0 at *
        generalize (k1 : Int) = i1 at *
        generalize ((j + 1 : Nat) : Int) = j1 at *
        generalize (j : Int) = j0 at *
        (generalize realP = Pr at *; obtain ⟨ar, cm, sh, sb, un, cv, natI, lenN, inb, inw, elt, addN, subN, slOk, win, immC, immW, allLen, appOk, cat, mkOk, rep, getC, setC, shC, eqf, eqB, notB, fmm, strAt, strLen, strB, strOk, bstr, cpy, it⟩ := Pr; try dsimp only at *)
        ((repeat (cbv; first | done | rw [hgt] | rw [hbox] | rw [him] | rw [h1] | rw [hcm] | rw [hsb])); try cbv)
end
end Go.Proofs.Ytjmfjjmdfikanaa
/- Programs that a deck makes, on trees: the end. -/
set_option linter.unusedVariables false
set_option linter.unusedSimpArgs false
namespace Go.Proofs.Ytjmfjjmdfikanaa
open Go.RowKit

section
variable (box : FuncId → Option (Nat × List BxC)) (ps : FuncId → List (Option Nat)) (F : Callee) (N : Nat)
def IsCode (CT : TV) (code : List In) : Prop := CT = .ow (code.map encIn) ∨ CT = .sl (code.map encIn)
def stJ (D : List TV) (CT : TV) (sizes : List Int) (data : List (List Int)) (n i : Int) : St := ⟨[(0, .ptr ⟨2, 0, []⟩ [0]), (2, .ptr ⟨6, 0, []⟩ [0]), (3, .ptr ⟨8, 0, []⟩ [0]), (101, .v (.int .i64 n)), (102, .v (.int .i64 i))], [(2, D), (6, nil3), (8, [CT, .sl (sizes.map encI), .ow (data.map encDat)])], []⟩
def stJ' (D : List TV) (CT : TV) (sizes : List Int) (data : List (List Int)) (n : Int) : St := ⟨[(0, .ptr ⟨2, 0, []⟩ [0]), (2, .ptr ⟨6, 0, []⟩ [0]), (3, .ptr ⟨8, 0, []⟩ [0]), (101, .v (.int .i64 n)), (102, .v (.int .i64 n)), (103, .v (.bool false))], [(2, D), (6, nil3), (8, [CT, .sl (sizes.map encI), .ow (data.map encDat)])], []⟩
set_option maxRecDepth 100000 in
set_option maxHeartbeats 8000000 in
theorem jump_loop (hbox : box 18 = none) (hJ : JumpC F) (D : List (List TV)) (d0 : Int) (sizes : List Int) (data : List (List Int)) (CT : TV) (code : List In) (hCT : IsCode CT code) (hc : CodeFine code) (hcl : code.length ≤ 65) : ∀ j m σ, (∃ i : Nat, σ = stJ [.sl D, .v (.int .i64 d0)] CT sizes data code.length i ∧ i + j = code.length) → j < m →
    ∃ e σ', realP.it (S.runC realP (S.evCall realP ⟨box, ps⟩ F) N (.seq (.reg 22 none [{ dst := some 103, guard := none, op := .bin (.lss) (.t 102) (.t 101) }] ([0, 2, 3, 101, 102, 103], [2, 3, 6, 7, 8, 9, 204, 205, 206, 207, 208, 209, 260, 261])) (.seq (.cond (.t 103) (.skip) (.exit 5)) (.seq (.block 6 (.seq (.reg 23 none [{ dst := some 104, guard := none, op := .mov (.t 102) }, { dst := some 8, guard := none, op := .asn false (.t 104) }] ([0, 2, 3, 8, 101, 102], [2, 3, 6, 7, 8, 9, 18, 19, 204, 205, 206, 207, 260, 261])) (.seq (.reg 24 none [{ dst := some 105, guard := none, op := .fld 0 (.t 3) }, { dst := some 106, guard := none, op := .load none (.t 105) }, { dst := some 107, guard := none, op := .mov (.t 8) }, { dst := some 108, guard := none, op := .idx 5 (.t 106) (.t 107) }, { dst := some 109, guard := none, op := .fld 0 (.t 108) }, { dst := some 110, guard := none, op := .load none (.t 109) }, { dst := some 111, guard := none, op := .call true (.f 18) [(none, .t 110)] }, { dst := some 112, guard := none, op := .mov (.t 111) }, { dst := some 113, guard := some (112, true), op := .fld 0 (.t 3) }, { dst := some 114, guard := some (112, true), op := .load none (.t 113) }, { dst := some 115, guard := some (112, true), op := .mov (.t 8) }, { dst := some 116, guard := some (112, true), op := .idx 5 (.t 114) (.t 115) }, { dst := some 117, guard := some (112, true), op := .fld 4 (.t 116) }, { dst := some 118, guard := some (112, true), op := .load none (.t 117) }, { dst := some 119, guard := some (112, true), op := .fld 0 (.t 3) }, { dst := some 120, guard := some (112, true), op := .load none (.t 119) }, { dst := some 121, guard := some (112, true), op := .len (.t 120) }, { dst := some 122, guard := some (112, true), op := .bin (.geq) (.t 118) (.t 121) }, { dst := some 123, guard := none, op := .pick (.t 112) (.t 122) (.c (.bool false)) }] ([0, 2, 3, 8, 101, 102, 123], [2, 3, 6, 7, 8, 9, 18, 19, 204, 205, 206, 207, 224, 225, 226, 227, 246, 247, 248, 249, 260, 261])) (.cond (.t 123) (.reg 25 none [{ dst := some 124, guard := none, op := .fld 0 (.t 3) }, { dst := some 125, guard := none, op := .load none (.t 124) }, { dst := some 126, guard := none, op := .mov (.t 8) }, { dst := some 127, guard := none, op := .idx 5 (.t 125) (.t 126) }, { dst := some 128, guard := none, op := .fld 4 (.t 127) }, { dst := none, guard := none, op := .store 1 true (.t 128) (.c (.int (.i64) 0)) }] ([0, 2, 3, 101, 102], [2, 3, 6, 7, 8, 9, 204, 205, 206, 207, 260, 261])) (.nrm ([0, 2, 3, 101, 102], [2, 3, 6, 7, 8, 9, 204, 205, 206, 207, 260, 261])))))) (.reg 26 none [{ dst := some 129, guard := none, op := .bin (.add) (.t 102) (.c (.int (.i64) 1)) }, { dst := some 102, guard := none, op := .mov (.t 129) }] ([0, 2, 3, 101, 102], [2, 3, 6, 7, 8, 9, 204, 205, 206, 207, 260, 261])))))) m σ = some (e, σ') ∧ e = .exit 5 ∧ σ' = stJ' [.sl D, .v (.int .i64 d0)] CT sizes data code.length := by
  refine it_some _ _ ?_
  rintro j σ ⟨i, rfl, hij⟩
  cases j with
  | zero =>
    obtain rfl : i = code.length := by omega
    refine ⟨.exit 5, stJ' [.sl D, .v (.int .i64 d0)] CT sizes data code.length, ?_, .inr ⟨by simp, rfl, rfl⟩⟩
    have hlt : realP.cm .lss (code.length : Int) (code.length : Int) = false := lss_f (by omega)
    simp only [stJ, stJ', nil3]
    generalize sizes.map encI = Z at *
    generalize data.map encDat = W at *
    generalize (code.length : Int) = n at *
    (generalize realP = Pr at *; obtain ⟨ar, cm, sh, sb, un, cv, natI, lenN, inb, inw, elt, addN, subN, slOk, win, immC, immW, allLen, appOk, cat, mkOk, rep, getC, setC, shC, eqf, eqB, notB, fmm, strAt, strLen, strB, strOk, bstr, cpy, it⟩ := Pr; try dsimp only at *)
    ((repeat (cbv; first | done | rw [hlt])); try cbv)
  | succ j =>
    have hi : i < code.length := by omega
    have hx := hc _ (List.getElem_mem hi)
    refine ⟨.normal, stJ [.sl D, .v (.int .i64 d0)] CT sizes data code.length (i + 1 : Nat), ?_, .inl ⟨rfl, j, by omega, i + 1, rfl, by omega⟩⟩
    have hlt : realP.cm .lss (i : Int) (code.length : Int) = true := lss_t (by omega)
    have hp : realP.ar .add .i64 (i : Int) 1 = ((i + 1 : Nat) : Int) := by rw [add64 (by omega) (by omega)]; simp
    have hin : realP.inb (code.map encIn) i 5 = true := inb_map hi rfl (by decide)
    have hlen : realP.natI (realP.lenN (code.map encIn)) = code.length := lenI_map encIn code
    have hj := hJ code[i].op hx.1.op0 hx.1.op1
    have hge : jumpB code[i].op = true → realP.cm .geq code[i].imm (realP.natI (realP.lenN (code.map encIn))) = false := fun h => by rw [hlen]; exact geq_f (by have := hx.2 h; omega)
    clear hlen
    rcases hCT with rfl | rfl
    · have g0 : realP.getC (code.map encIn) (i, 5, 0) [] = some (.v (.int .i64 code[i].op)) := getC_map hi rfl rfl
      have g4 : realP.getC (code.map encIn) (i, 5, 4) [] = some (.v (.int .i64 code[i].imm)) := getC_map hi rfl rfl
      simp only [stJ, nil3]
      generalize code[i].imm = im at *
      generalize code[i].op = op at *
      generalize jumpB op = b at *
      generalize sizes.map encI = Z at *
      generalize data.map encDat = W at *
      generalize code.map encIn = C at *
      generalize (code.length : Int) = n at *
      generalize ((i + 1 : Nat) : Int) = i1 at *
      simp only [← Int.ofNat_eq_natCast] at hlt hp
      cases b with
      | true =>
        replace hge := hge rfl
        (generalize realP = Pr at *; obtain ⟨ar, cm, sh, sb, un, cv, natI, lenN, inb, inw, elt, addN, subN, slOk, win, immC, immW, allLen, appOk, cat, mkOk, rep, getC, setC, shC, eqf, eqB, notB, fmm, strAt, strLen, strB, strOk, bstr, cpy, it⟩ := Pr; try dsimp only at *)
        ((repeat (cbv; first | done | rw [hlt] | rw [if_pos hin] | rw [g0] | rw [hbox] | rw [hj] | rw [g4] | rw [hge] | rw [hp])); try cbv)
      | false =>
        clear hge
        (generalize realP = Pr at *; obtain ⟨ar, cm, sh, sb, un, cv, natI, lenN, inb, inw, elt, addN, subN, slOk, win, immC, immW, allLen, appOk, cat, mkOk, rep, getC, setC, shC, eqf, eqB, notB, fmm, strAt, strLen, strB, strOk, bstr, cpy, it⟩ := Pr; try dsimp only at *)
        ((repeat (cbv; first | done | rw [hlt] | rw [if_pos hin] | rw [g0] | rw [hbox] | rw [hj] | rw [hp])); try cbv)
    · have hel : realP.elt (code.map encIn) i = [.v (.int .i64 code[i].op), .v (.int .i64 code[i].a), .v (.int .i64 code[i].b), .v (.int .i64 code[i].c), .v (.int .i64 code[i].imm)] := elt_map hi
      simp only [stJ, nil3]
      generalize code[i].imm = im at *
      generalize code[i].op = op at *
      generalize jumpB op = b at *
      generalize sizes.map encI = Z at *
      generalize data.map encDat = W at *
      generalize code.map encIn = C at *
      generalize (code.length : Int) = n at *
      generalize ((i + 1 : Nat) : Int) = i1 at *
      simp only [← Int.ofNat_eq_natCast] at hlt hp
      cases b with
      | true =>
        replace hge := hge rfl
        (generalize realP = Pr at *; obtain ⟨ar, cm, sh, sb, un, cv, natI, lenN, inb, inw, elt, addN, subN, slOk, win, immC, immW, allLen, appOk, cat, mkOk, rep, getC, setC, shC, eqf, eqB, notB, fmm, strAt, strLen, strB, strOk, bstr, cpy, it⟩ := Pr; try dsimp only at *)
        ((repeat (cbv; first | done | rw [hlt] | rw [if_pos hin] | simp only [hel] | rw [hbox] | rw [hj] | rw [hge] | rw [hp])); try cbv)
      | false =>
        clear hge
        (generalize realP = Pr at *; obtain ⟨ar, cm, sh, sb, un, cv, natI, lenN, inb, inw, elt, addN, subN, slOk, win, immC, immW, allLen, appOk, cat, mkOk, rep, getC, setC, shC, eqf, eqB, notB, fmm, strAt, strLen, strB, strOk, bstr, cpy, it⟩ := Pr; try dsimp only at *)
        ((repeat (cbv; first | done | rw [hlt] | rw [if_pos hin] | simp only [hel] | rw [hbox] | rw [hj] | rw [hp])); try cbv)

def tfProgram (c4 c5 : TCode) : TFn := { np := 1, pp := [0], nt := 131, body := .seq (.reg 0 none [{ dst := some 2, guard := none, op := .alloc [.slice none 0 0, .slice none 0 0, .slice none 0 0] }] ([0, 2], [2, 3, 6, 7])) (.seq (.reg 1 none [{ dst := some 9, guard := none, op := .mov (.t 0) }, { dst := some 10, guard := none, op := .call true (.f 12) [(some 2, .t 9)] }, { dst := some 11, guard := none, op := .bld [.slice none 0 0, .slice none 0 0, .slice none 0 0] true [(1, 1, .t 10)] }, { dst := some 3, guard := none, op := .alloc [.slice none 0 0, .slice none 0 0, .slice none 0 0] }, { dst := none, guard := none, op := .store 3 true (.t 3) (.t 11) }] ([0, 2, 3], [2, 3, 6, 7, 8, 9])) (.seq (.seq (.reg 2 none [{ dst := some 12, guard := none, op := .fld 1 (.t 3) }, { dst := some 13, guard := none, op := .load none (.t 12) }, { dst := some 14, guard := none, op := .len (.t 13) }, { dst := some 15, guard := none, op := .mov (.c (.int (.i64) 0)) }] ([0, 2, 3, 13, 14, 15], [2, 3, 6, 7, 8, 9, 26, 27, 28, 29, 30, 31, 32, 33, 56, 57])) (.block 0 (.loop (.seq (.reg 3 none [{ dst := some 16, guard := none, op := .bin (.lss) (.t 15) (.t 14) }] ([0, 2, 3, 13, 14, 15, 16], [2, 3, 6, 7, 8, 9, 26, 27, 28, 29, 30, 31, 32, 33, 34, 35, 56, 57])) (.seq (.cond (.t 16) (.skip) (.exit 0)) (.seq (.block 1 (.seq (.reg 4 none [{ dst := some 17, guard := none, op := .idx 1 (.t 13) (.t 15) }, { dst := some 18, guard := none, op := .load none (.t 17) }, { dst := some 5, guard := none, op := .asn false (.t 18) }] ([0, 2, 3, 5, 13, 14, 15], [2, 3, 6, 7, 8, 9, 12, 13, 26, 27, 28, 29, 30, 31, 32, 33, 56, 57])) (.reg 5 (some [[], [0], [], [], [2, 3], [4, 2, 3], [1, 0, 5, 4, 2, 3], [0, 1, 2, 3, 4, 5, 6], [7, 0, 1, 2, 3, 4, 5, 6]]) [{ dst := some 19, guard := none, op := .fld 2 (.t 3) }, { dst := some 20, guard := none, op := .load none (.t 19) }, { dst := some 21, guard := none, op := .mov (.t 0) }, { dst := some 22, guard := none, op := .mov (.t 5) }, { dst := some 23, guard := none, op := .call true (.f 13) [(some 2, .t 21), (none, .t 22)] }, { dst := some 24, guard := none, op := .bsl 1 true 1 [.t 23] }, { dst := some 25, guard := none, op := .app 1 24 true (.t 20) (.t 24) }, { dst := some 26, guard := none, op := .fld 2 (.t 3) }, { dst := none, guard := none, op := .store 1 true (.t 26) (.t 25) }] ([0, 2, 3, 13, 14, 15], [2, 3, 6, 7, 8, 9, 26, 27, 28, 29, 30, 31, 32, 33, 56, 57])))) (.reg 6 none [{ dst := some 27, guard := none, op := .bin (.add) (.t 15) (.c (.int (.i64) 1)) }, { dst := some 15, guard := none, op := .mov (.t 27) }] ([0, 2, 3, 13, 14, 15], [2, 3, 6, 7, 8, 9, 26, 27, 28, 29, 30, 31, 32, 33, 56, 57])))))))) (.seq (.seq (.reg 7 none [{ dst := some 28, guard := none, op := .mov (.t 0) }, { dst := some 29, guard := none, op := .call true (.f 14) [(some 2, .t 28), (none, .c (.int (.i64) 12))] }, { dst := some 30, guard := none, op := .bin (.add) (.c (.int (.i64) 1)) (.t 29) }, { dst := some 6, guard := none, op := .asn true (.t 30) }] ([0, 2, 3, 6], [2, 3, 6, 7, 8, 9, 14, 15])) (.block 2 (.loop (.seq (.seq (.reg 8 none [{ dst := some 31, guard := none, op := .mov (.t 6) }, { dst := some 32, guard := none, op := .bin (.gtr) (.t 31) (.c (.int (.i64) 0)) }] ([0, 2, 3, 6, 32], [2, 3, 6, 7, 8, 9, 14, 15, 66, 67])) (.cond (.t 32) (.skip) (.exit 2))) (.seq (.block 3 (.seq (.reg 10 none [{ dst := some 35, guard := none, op := .mov (.t 0) }, { dst := some 36, guard := none, op := .fld 1 (.t 3) }, { dst := some 37, guard := none, op := .load none (.t 36) }, { dst := some 38, guard := none, op := .fld 0 (.t 3) }, { dst := some 39, guard := none, op := .load none (.t 38) }, { dst := some 40, guard := none, op := .len (.t 39) }, { dst := some 41, guard := none, op := .bin (.add) (.t 40) (.c (.int (.i64) 1)) }, { dst := some 42, guard := none, op := .fld 0 (.t 3) }, { dst := some 43, guard := none, op := .load none (.t 42) }, { dst := some 44, guard := none, op := .len (.t 43) }, { dst := some 45, guard := none, op := .call true (.f 15) [(some 2, .t 35), (none, .t 37), (none, .t 41), (none, .t 44)] }, { dst := some 7, guard := none, op := .asn true (.t 45) }] ([0, 2, 3, 6, 7], [2, 3, 6, 7, 8, 9, 14, 15, 16, 17])) (.seq (.reg 11 none [{ dst := some 46, guard := none, op := .fld 0 (.t 3) }, { dst := some 47, guard := none, op := .load none (.t 46) }, { dst := some 48, guard := none, op := .len (.t 47) }, { dst := some 49, guard := none, op := .mov (.t 7) }, { dst := some 50, guard := none, op := .len (.t 49) }, { dst := some 51, guard := none, op := .bin (.add) (.t 48) (.t 50) }, { dst := some 52, guard := none, op := .bin (.leq) (.t 51) (.c (.int (.i64) 62)) }] ([0, 2, 3, 6, 7, 52], [2, 3, 6, 7, 8, 9, 14, 15, 16, 17, 106, 107])) (.cond (.t 52) (.reg 12 none [{ dst := some 53, guard := none, op := .fld 0 (.t 3) }, { dst := some 54, guard := none, op := .load none (.t 53) }, { dst := some 55, guard := none, op := .mov (.t 7) }, { dst := some 56, guard := none, op := .app 5 40 true (.t 54) (.t 55) }, { dst := some 57, guard := none, op := .fld 0 (.t 3) }, { dst := none, guard := none, op := .store 1 true (.t 57) (.t 56) }] ([0, 2, 3, 6], [2, 3, 6, 7, 8, 9, 14, 15])) (.nrm ([0, 2, 3, 6], [2, 3, 6, 7, 8, 9, 14, 15])))))) (.reg 9 none [{ dst := some 33, guard := none, op := .mov (.t 6) }, { dst := some 34, guard := none, op := .bin (.sub) (.t 33) (.c (.int (.i64) 1)) }, { dst := some 6, guard := none, op := .asn true (.t 34) }] ([0, 2, 3, 6], [2, 3, 6, 7, 8, 9, 14, 15]))))))) (.seq (.seq (.reg 13 none [{ dst := some 58, guard := none, op := .mov (.t 0) }, { dst := some 59, guard := none, op := .call true (.f 14) [(some 2, .t 58), (none, .c (.int (.i64) 4))] }] ([0, 2, 3, 59], [2, 3, 6, 7, 8, 9, 120, 121])) c4) (.seq (.reg 18 (some [[], [0], [], [2], [3, 2], [4, 3, 2], [4, 3, 2, 5], [1, 0, 6, 4, 3, 2, 5], [0, 1, 2, 3, 4, 5, 6, 7], [8, 0, 1, 2, 3, 4, 5, 6, 7]]) [{ dst := some 82, guard := none, op := .fld 0 (.t 3) }, { dst := some 83, guard := none, op := .load none (.t 82) }, { dst := some 84, guard := none, op := .mov (.t 0) }, { dst := some 85, guard := none, op := .call true (.f 14) [(some 2, .t 84), (none, .c (.int (.i64) 9))] }, { dst := some 86, guard := none, op := .call true (.f 16) [(none, .c (.int (.i64) 0)), (none, .t 85)] }, { dst := some 87, guard := none, op := .call true (.f 17) [(none, .c (.int (.i64) 0))] }, { dst := some 88, guard := none, op := .bsl 5 true 2 [.t 86, .t 87] }, { dst := some 89, guard := none, op := .app 5 40 true (.t 83) (.t 88) }, { dst := some 90, guard := none, op := .fld 0 (.t 3) }, { dst := none, guard := none, op := .store 1 true (.t 90) (.t 89) }] ([0, 2, 3], [2, 3, 6, 7, 8, 9])) (.seq (.seq (.reg 19 none [{ dst := some 91, guard := none, op := .fld 0 (.t 3) }, { dst := some 92, guard := none, op := .load none (.t 91) }, { dst := some 93, guard := none, op := .len (.t 92) }, { dst := some 94, guard := none, op := .bin (.gtr) (.t 93) (.c (.int (.i64) 64)) }] ([0, 2, 3, 94], [2, 3, 6, 7, 8, 9, 190, 191])) c5) (.seq (.seq (.reg 21 none [{ dst := some 99, guard := none, op := .fld 0 (.t 3) }, { dst := some 100, guard := none, op := .load none (.t 99) }, { dst := some 101, guard := none, op := .len (.t 100) }, { dst := some 102, guard := none, op := .mov (.c (.int (.i64) 0)) }] ([0, 2, 3, 101, 102], [2, 3, 6, 7, 8, 9, 204, 205, 206, 207, 260, 261])) (.block 5 (.loop (.seq (.reg 22 none [{ dst := some 103, guard := none, op := .bin (.lss) (.t 102) (.t 101) }] ([0, 2, 3, 101, 102, 103], [2, 3, 6, 7, 8, 9, 204, 205, 206, 207, 208, 209, 260, 261])) (.seq (.cond (.t 103) (.skip) (.exit 5)) (.seq (.block 6 (.seq (.reg 23 none [{ dst := some 104, guard := none, op := .mov (.t 102) }, { dst := some 8, guard := none, op := .asn false (.t 104) }] ([0, 2, 3, 8, 101, 102], [2, 3, 6, 7, 8, 9, 18, 19, 204, 205, 206, 207, 260, 261])) (.seq (.reg 24 none [{ dst := some 105, guard := none, op := .fld 0 (.t 3) }, { dst := some 106, guard := none, op := .load none (.t 105) }, { dst := some 107, guard := none, op := .mov (.t 8) }, { dst := some 108, guard := none, op := .idx 5 (.t 106) (.t 107) }, { dst := some 109, guard := none, op := .fld 0 (.t 108) }, { dst := some 110, guard := none, op := .load none (.t 109) }, { dst := some 111, guard := none, op := .call true (.f 18) [(none, .t 110)] }, { dst := some 112, guard := none, op := .mov (.t 111) }, { dst := some 113, guard := some (112, true), op := .fld 0 (.t 3) }, { dst := some 114, guard := some (112, true), op := .load none (.t 113) }, { dst := some 115, guard := some (112, true), op := .mov (.t 8) }, { dst := some 116, guard := some (112, true), op := .idx 5 (.t 114) (.t 115) }, { dst := some 117, guard := some (112, true), op := .fld 4 (.t 116) }, { dst := some 118, guard := some (112, true), op := .load none (.t 117) }, { dst := some 119, guard := some (112, true), op := .fld 0 (.t 3) }, { dst := some 120, guard := some (112, true), op := .load none (.t 119) }, { dst := some 121, guard := some (112, true), op := .len (.t 120) }, { dst := some 122, guard := some (112, true), op := .bin (.geq) (.t 118) (.t 121) }, { dst := some 123, guard := none, op := .pick (.t 112) (.t 122) (.c (.bool false)) }] ([0, 2, 3, 8, 101, 102, 123], [2, 3, 6, 7, 8, 9, 18, 19, 204, 205, 206, 207, 224, 225, 226, 227, 246, 247, 248, 249, 260, 261])) (.cond (.t 123) (.reg 25 none [{ dst := some 124, guard := none, op := .fld 0 (.t 3) }, { dst := some 125, guard := none, op := .load none (.t 124) }, { dst := some 126, guard := none, op := .mov (.t 8) }, { dst := some 127, guard := none, op := .idx 5 (.t 125) (.t 126) }, { dst := some 128, guard := none, op := .fld 4 (.t 127) }, { dst := none, guard := none, op := .store 1 true (.t 128) (.c (.int (.i64) 0)) }] ([0, 2, 3, 101, 102], [2, 3, 6, 7, 8, 9, 204, 205, 206, 207, 260, 261])) (.nrm ([0, 2, 3, 101, 102], [2, 3, 6, 7, 8, 9, 204, 205, 206, 207, 260, 261])))))) (.reg 26 none [{ dst := some 129, guard := none, op := .bin (.add) (.t 102) (.c (.int (.i64) 1)) }, { dst := some 102, guard := none, op := .mov (.t 129) }] ([0, 2, 3, 101, 102], [2, 3, 6, 7, 8, 9, 204, 205, 206, 207, 260, 261])))))))) (.seq (.reg 27 none [{ dst := some 130, guard := none, op := .load (some 3) (.t 3) }, { dst := none, guard := none, op := .store 3 true (.t 2) (.t 130) }] ([0, 2], [2, 3, 6, 7])) (.ret))))))))), res := [.cell 2 (some 3)] }
def progB : TCode := (.block 4 (.seq (.reg 14 none [{ dst := some 61, guard := none, op := .bin (.eql) (.t 59) (.c (.int (.i64) 0)) }, { dst := some 60, guard := none, op := .asn true (.t 61) }] ([0, 2, 3, 59, 60], [2, 3, 6, 7, 8, 9, 120, 121, 122, 123])) (.cond (.t 60) (.reg 15 (some [[], [0], [], [], [3], [4, 3], [5, 4, 3], [2, 6, 5, 4, 3], [7, 2, 6, 5, 4, 3], [8, 7, 2, 6, 5, 4, 3], [1, 0, 9, 8, 7, 2, 6, 5, 4, 3], [0, 1, 2, 3, 4, 5, 6, 7, 8, 9, 10], [11, 0, 1, 2, 3, 4, 5, 6, 7, 8, 9, 10]]) [{ dst := some 62, guard := none, op := .fld 0 (.t 3) }, { dst := some 63, guard := none, op := .load none (.t 62) }, { dst := some 64, guard := none, op := .mov (.t 0) }, { dst := some 65, guard := none, op := .fld 0 (.t 3) }, { dst := some 66, guard := none, op := .load none (.t 65) }, { dst := some 67, guard := none, op := .len (.t 66) }, { dst := some 68, guard := none, op := .bin (.add) (.t 67) (.c (.int (.i64) 1)) }, { dst := some 69, guard := none, op := .call true (.f 14) [(some 2, .t 64), (none, .t 68)] }, { dst := some 70, guard := none, op := .bld [.int (.i64) 0, .int (.i64) 0, .int (.i64) 0, .int (.i64) 0, .int (.i64) 0] true [(0, 1, .c (.int (.i64) 18)), (4, 1, .t 69)] }, { dst := some 71, guard := none, op := .bsl 5 true 1 [.t 70] }, { dst := some 72, guard := none, op := .app 5 40 true (.t 63) (.t 71) }, { dst := some 73, guard := none, op := .fld 0 (.t 3) }, { dst := none, guard := none, op := .store 1 true (.t 73) (.t 72) }] ([0, 2, 3], [2, 3, 6, 7, 8, 9])) (.seq (.reg 16 none [{ dst := some 75, guard := none, op := .bin (.eql) (.t 59) (.c (.int (.i64) 1)) }, { dst := some 74, guard := none, op := .asn true (.t 75) }] ([0, 2, 3, 74], [2, 3, 6, 7, 8, 9, 150, 151])) (.cond (.t 74) (.reg 17 none [{ dst := some 76, guard := none, op := .fld 0 (.t 3) }, { dst := some 77, guard := none, op := .load none (.t 76) }, { dst := some 78, guard := none, op := .bld [.int (.i64) 0, .int (.i64) 0, .int (.i64) 0, .int (.i64) 0, .int (.i64) 0] true [(0, 1, .c (.int (.i64) 24))] }, { dst := some 79, guard := none, op := .bsl 5 true 1 [.t 78] }, { dst := some 80, guard := none, op := .app 5 40 true (.t 77) (.t 79) }, { dst := some 81, guard := none, op := .fld 0 (.t 3) }, { dst := none, guard := none, op := .store 1 true (.t 81) (.t 80) }] ([0, 2, 3], [2, 3, 6, 7, 8, 9])) (.nrm ([0, 2, 3], [2, 3, 6, 7, 8, 9])))))))
def progC : TCode := (.cond (.t 94) (.reg 20 none [{ dst := some 95, guard := none, op := .fld 0 (.t 3) }, { dst := some 96, guard := none, op := .load none (.t 95) }, { dst := some 97, guard := none, op := .slc 5 (.t 96) none (some (.c (.int (.i64) 64))) }, { dst := some 98, guard := none, op := .fld 0 (.t 3) }, { dst := none, guard := none, op := .store 1 false (.t 98) (.t 97) }] ([0, 2, 3], [2, 3, 6, 7, 8, 9])) (.nrm ([0, 2, 3], [2, 3, 6, 7, 8, 9])))
def stB (D : List TV) (code : List In) (sizes : List Int) (data : List (List Int)) (v : Int) : St := ⟨[(0, .ptr ⟨2, 0, []⟩ [0]), (2, .ptr ⟨6, 0, []⟩ [0]), (3, .ptr ⟨8, 0, []⟩ [0]), (59, .v (.int .i64 v))], [(2, D), (6, nil3), (8, [.ow (code.map encIn), .sl (sizes.map encI), .ow (data.map encDat)])], []⟩
def stG (D : List TV) (CT : TV) (sizes : List Int) (data : List (List Int)) : St := ⟨[(0, .ptr ⟨2, 0, []⟩ [0]), (2, .ptr ⟨6, 0, []⟩ [0]), (3, .ptr ⟨8, 0, []⟩ [0])], [(2, D), (6, nil3), (8, [CT, .sl (sizes.map encI), .ow (data.map encDat)])], []⟩
def stC (D : List TV) (code : List In) (sizes : List Int) (data : List (List Int)) (v : Bool) : St := ⟨[(0, .ptr ⟨2, 0, []⟩ [0]), (2, .ptr ⟨6, 0, []⟩ [0]), (3, .ptr ⟨8, 0, []⟩ [0]), (94, .v (.bool v))], [(2, D), (6, nil3), (8, [.ow (code.map encIn), .sl (sizes.map encI), .ow (data.map encDat)])], []⟩
set_option maxRecDepth 100000 in
set_option maxHeartbeats 8000000 in
theorem prog_B (hbox : box 14 = none) (hN : NextC F) (l : List Int) (k : Nat) (hd : DeckOk l k) (sizes : List Int) (data : List (List Int)) (code : List In) (hc : CodeFine code) (hcl : code.length ≤ 62) (v : Int) (hv : 0 ≤ v) : ∃ k' code', DeckOk l k' ∧ CodeFine code' ∧ code'.length ≤ 63 ∧
    S.runC realP (S.evCall realP ⟨box, ps⟩ F) N progB (stB (encD l k) code sizes data v) = some (.normal, stG (encD l k') (.ow (code'.map encIn)) sizes data) := by
  have hlen : realP.natI (realP.lenN (code.map encIn)) = code.length := lenI_map encIn code
  have hadd : realP.ar .add .i64 (realP.natI (realP.lenN (code.map encIn))) 1 = (code.length : Int) + 1 := by rw [hlen]; exact add64 (by omega) (by omega)
  have happ : ∀ x : In, realP.appOk 5 40 (code.map encIn) [encIn x] = true := fun x => appOk_map (f := encIn) (l' := [x]) (fun _ => rfl) (by simp; omega) (by simp; omega)
  have hcat : ∀ x : In, realP.cat (code.map encIn) [encIn x] = (code ++ [x]).map encIn := fun x => cat_map code [x]
  by_cases h0 : v = 0
  · obtain ⟨u, k1, h1, hd1, u0, u1⟩ := hN l k (realP.ar .add .i64 (realP.natI (realP.lenN (code.map encIn))) 1) hd (by rw [hadd]; omega) (by rw [hadd]; omega)
    rw [hadd] at u1
    refine ⟨k1, code ++ [⟨18, 0, 0, 0, u⟩], hd1, hc.app fun x hx => ?_, by simp; omega, ?_⟩
    · rw [List.mem_singleton.1 hx]
      exact ⟨⟨by dsimp only; omega, by dsimp only; omega, by dsimp only; omega, by dsimp only; omega⟩, fun _ => by dsimp only; simp; omega⟩
    · have ha := happ ⟨18, 0, 0, 0, u⟩
      have hk := hcat ⟨18, 0, 0, 0, u⟩
      have hq : realP.cm .eql v 0 = true := eql_t h0
      clear happ hcat hadd hlen hc
      simp only [stB, stG, encD, nil3] at *
      generalize (code ++ [(⟨18, 0, 0, 0, u⟩ : In)]).map encIn = C2 at *
      simp only [encIn] at ha hk
      generalize l.map encI = D at *
      generalize List.map encIn code = C at *
      generalize sizes.map encI = Z at *
      generalize data.map encDat = W at *
      generalize (k : Int) = i0 at *
      generalize (k1 : Int) = i1 at *
      (generalize realP = Pr at *; obtain ⟨ar, cm, sh, sb, un, cv, natI, lenN, inb, inw, elt, addN, subN, slOk, win, immC, immW, allLen, appOk, cat, mkOk, rep, getC, setC, shC, eqf, eqB, notB, fmm, strAt, strLen, strB, strOk, bstr, cpy, it⟩ := Pr; try dsimp only at *)
      ((repeat (cbv; first | done | rw [hq] | rw [hbox] | rw [h1] | rw [if_pos ha] | rw [hk])); try cbv)
  · have hq : realP.cm .eql v 0 = false := eql_f h0
    by_cases h1 : v = 1
    · refine ⟨k, code ++ [⟨24, 0, 0, 0, 0⟩], hd, hc.app fun x hx => ?_, by simp; omega, ?_⟩
      · rw [List.mem_singleton.1 hx]
        exact ⟨⟨by decide, by decide, by decide, by decide⟩, fun _ => by dsimp only; simp only [List.length_cons, List.length_nil]; omega⟩
      · have ha := happ ⟨24, 0, 0, 0, 0⟩
        have hk := hcat ⟨24, 0, 0, 0, 0⟩
        have hq1 : realP.cm .eql v 1 = true := eql_t h1
        clear happ hcat hadd hlen hc
        simp only [stB, stG, encD, nil3] at *
        generalize (code ++ [(⟨24, 0, 0, 0, 0⟩ : In)]).map encIn = C2 at *
        simp only [encIn] at ha hk
        generalize l.map encI = D at *
        generalize List.map encIn code = C at *
        generalize sizes.map encI = Z at *
        generalize data.map encDat = W at *
        generalize (k : Int) = i0 at *
        (generalize realP = Pr at *; obtain ⟨ar, cm, sh, sb, un, cv, natI, lenN, inb, inw, elt, addN, subN, slOk, win, immC, immW, allLen, appOk, cat, mkOk, rep, getC, setC, shC, eqf, eqB, notB, fmm, strAt, strLen, strB, strOk, bstr, cpy, it⟩ := Pr; try dsimp only at *)
        ((repeat (cbv; first | done | rw [hq] | rw [hq1] | rw [if_pos ha] | rw [hk])); try cbv)
    · refine ⟨k, code, hd, hc, by omega, ?_⟩
      have hq1 : realP.cm .eql v 1 = false := eql_f h1
      clear happ hcat hadd hlen hc
      simp only [stB, stG, encD, nil3] at *
      generalize l.map encI = D at *
      generalize List.map encIn code = C at *
      generalize sizes.map encI = Z at *
      generalize data.map encDat = W at *
      generalize (k : Int) = i0 at *
      (generalize realP = Pr at *; obtain ⟨ar, cm, sh, sb, un, cv, natI, lenN, inb, inw, elt, addN, subN, slOk, win, immC, immW, allLen, appOk, cat, mkOk, rep, getC, setC, shC, eqf, eqB, notB, fmm, strAt, strLen, strB, strOk, bstr, cpy, it⟩ := Pr; try dsimp only at *)
      ((repeat (cbv; first | done | rw [hq] | rw [hq1])); try cbv)
set_option maxRecDepth 100000 in
set_option maxHeartbeats 8000000 in
theorem prog_C (D : List (List TV)) (d0 : Int) (sizes : List Int) (data : List (List Int)) (code : List In) (hl : 64 ≤ code.length) (b : Bool) : ∃ CT code', IsCode CT code' ∧ (b = true → code' = code.take 64) ∧ (b = false → code' = code) ∧
    S.runC realP (S.evCall realP ⟨box, ps⟩ F) N progC (stC [.sl D, .v (.int .i64 d0)] code sizes data b) = some (.normal, stG [.sl D, .v (.int .i64 d0)] CT sizes data) := by
  cases b with
  | false =>
    refine ⟨.ow (code.map encIn), code, .inl rfl, fun h => by simp at h, fun _ => rfl, ?_⟩
    simp only [stC, stG, nil3] at *
    generalize List.map encIn code = C at *
    generalize sizes.map encI = Z at *
    generalize data.map encDat = W at *
    (generalize realP = Pr at *; obtain ⟨ar, cm, sh, sb, un, cv, natI, lenN, inb, inw, elt, addN, subN, slOk, win, immC, immW, allLen, appOk, cat, mkOk, rep, getC, setC, shC, eqf, eqB, notB, fmm, strAt, strLen, strB, strOk, bstr, cpy, it⟩ := Pr; try dsimp only at *)
    cbv
  | true =>
    refine ⟨.sl ((code.take 64).map encIn), code.take 64, .inr rfl, fun _ => rfl, fun h => by simp at h, ?_⟩
    have hs : realP.slOk 0 64 (realP.lenN (code.map encIn)) = true := by simp [realP]; omega
    have ha : realP.allLen (code.map encIn) 5 = true := allLen_map code fun _ => rfl
    have hw : realP.immW (code.map encIn) 0 (realP.subN 64 0) = (code.take 64).map encIn := by
      show ((List.drop 0 (code.map encIn)).take 64).map (fun e => e.map TV.imm) = _
      rw [List.drop_zero, ← List.map_take, List.map_map]
      rfl
    simp only [stC, stG, nil3] at *
    generalize List.map encIn (code.take 64) = C2 at *
    generalize List.map encIn code = C at *
    generalize sizes.map encI = Z at *
    generalize data.map encDat = W at *
    (generalize realP = Pr at *; obtain ⟨ar, cm, sh, sb, un, cv, natI, lenN, inb, inw, elt, addN, subN, slOk, win, immC, immW, allLen, appOk, cat, mkOk, rep, getC, setC, shC, eqf, eqB, notB, fmm, strAt, strLen, strB, strOk, bstr, cpy, it⟩ := Pr; try dsimp only at *)
    ((repeat (cbv; first | done | rw [if_pos hs] | rw [if_pos ha] | rw [hw])); try cbv)
set_option maxRecDepth 100000 in
set_option maxHeartbeats 8000000 in
theorem prog_C0 (D : List (List TV)) (d0 : Int) (sizes : List Int) (data : List (List Int)) (code : List In) : ∃ CT code', IsCode CT code' ∧ True ∧ code' = code ∧
    S.runC realP (S.evCall realP ⟨box, ps⟩ F) N progC (stC [.sl D, .v (.int .i64 d0)] code sizes data false) = some (.normal, stG [.sl D, .v (.int .i64 d0)] CT sizes data) := by
  refine ⟨.ow (code.map encIn), code, .inl rfl, trivial, rfl, ?_⟩
  simp only [stC, stG, nil3] at *
  generalize List.map encIn code = C at *
  generalize sizes.map encI = Z at *
  generalize data.map encDat = W at *
  (generalize realP = Pr at *; obtain ⟨ar, cm, sh, sb, un, cv, natI, lenN, inb, inw, elt, addN, subN, slOk, win, immC, immW, allLen, appOk, cat, mkOk, rep, getC, setC, shC, eqf, eqB, notB, fmm, strAt, strLen, strB, strOk, bstr, cpy, it⟩ := Pr; try dsimp only at *)
  cbv
end
end Go.Proofs.Ytjmfjjmdfikanaa
/- Programs that a deck makes, on trees: the whole. -/
set_option linter.unusedVariables false
set_option linter.unusedSimpArgs false
namespace Go.Proofs.Ytjmfjjmdfikanaa
open Go.RowKit

section
variable (box : FuncId → Option (Nat × List BxC)) (ps : FuncId → List (Option Nat)) (F : Callee) (N : Nat)
structure ProgBox (box : FuncId → Option (Nat × List BxC)) : Prop where
  b1 : box 14 = none
  b2 : box 12 = none
  b3 : box 13 = none
  b4 : box 15 = none
  b5 : box 16 = none
  b6 : box 17 = none
  b7 : box 18 = none
set_option maxRecDepth 100000 in
set_option maxHeartbeats 16000000 in
theorem prog_cut (hb : ProgBox box) (hLi : LiC F) (hSys : SysC F) (c4 c5 : TCode) (sizes : List Int) (data : List (List Int)) (code code2 : List In) (CT : TV) (code3 : List In) (hCT : IsCode CT code3) (D : List (List TV)) (i0 i1 i2 i3 i4 i5 i6 i7 v12 j2 v4 w : Int) (C1 : List (List TV)) (bb : Bool)
    (h1 : F 12 [.ptr ⟨2, 0, []⟩ [0]] [(2, [.sl D, .v (.int .i64 i0)])] = some (⟨[.ow (sizes.map encI)], [.one]⟩, [(2, [.sl D, .v (.int .i64 i1)])]))
    (hL1 : realP.it (S.runC realP (S.evCall realP ⟨box, ps⟩ F) N (.seq (.reg 3 none [{ dst := some 16, guard := none, op := .bin (.lss) (.t 15) (.t 14) }] ([0, 2, 3, 13, 14, 15, 16], [2, 3, 6, 7, 8, 9, 26, 27, 28, 29, 30, 31, 32, 33, 34, 35, 56, 57])) (.seq (.cond (.t 16) (.skip) (.exit 0)) (.seq (.block 1 (.seq (.reg 4 none [{ dst := some 17, guard := none, op := .idx 1 (.t 13) (.t 15) }, { dst := some 18, guard := none, op := .load none (.t 17) }, { dst := some 5, guard := none, op := .asn false (.t 18) }] ([0, 2, 3, 5, 13, 14, 15], [2, 3, 6, 7, 8, 9, 12, 13, 26, 27, 28, 29, 30, 31, 32, 33, 56, 57])) (.reg 5 (some [[], [0], [], [], [2, 3], [4, 2, 3], [1, 0, 5, 4, 2, 3], [0, 1, 2, 3, 4, 5, 6], [7, 0, 1, 2, 3, 4, 5, 6]]) [{ dst := some 19, guard := none, op := .fld 2 (.t 3) }, { dst := some 20, guard := none, op := .load none (.t 19) }, { dst := some 21, guard := none, op := .mov (.t 0) }, { dst := some 22, guard := none, op := .mov (.t 5) }, { dst := some 23, guard := none, op := .call true (.f 13) [(some 2, .t 21), (none, .t 22)] }, { dst := some 24, guard := none, op := .bsl 1 true 1 [.t 23] }, { dst := some 25, guard := none, op := .app 1 24 true (.t 20) (.t 24) }, { dst := some 26, guard := none, op := .fld 2 (.t 3) }, { dst := none, guard := none, op := .store 1 true (.t 26) (.t 25) }] ([0, 2, 3, 13, 14, 15], [2, 3, 6, 7, 8, 9, 26, 27, 28, 29, 30, 31, 32, 33, 56, 57])))) (.reg 6 none [{ dst := some 27, guard := none, op := .bin (.add) (.t 15) (.c (.int (.i64) 1)) }, { dst := some 15, guard := none, op := .mov (.t 27) }] ([0, 2, 3, 13, 14, 15], [2, 3, 6, 7, 8, 9, 26, 27, 28, 29, 30, 31, 32, 33, 56, 57])))))) N (stD [.sl D, .v (.int .i64 i1)] sizes [] (realP.natI (realP.lenN (sizes.map encI))) 0) = some (.exit 0, stD' [.sl D, .v (.int .i64 i2)] sizes data (realP.natI (realP.lenN (sizes.map encI)))))
    (h2 : F 14 [.ptr ⟨2, 0, []⟩ [0], .v (.int .i64 12)] [(2, [.sl D, .v (.int .i64 i2)])] = some (⟨[.v (.int .i64 v12)], [.one]⟩, [(2, [.sl D, .v (.int .i64 i3)])]))
    (hA : realP.ar .add .i64 1 v12 = j2)
    (hL2 : realP.it (S.runC realP (S.evCall realP ⟨box, ps⟩ F) N (.seq (.seq (.reg 8 none [{ dst := some 31, guard := none, op := .mov (.t 6) }, { dst := some 32, guard := none, op := .bin (.gtr) (.t 31) (.c (.int (.i64) 0)) }] ([0, 2, 3, 6, 32], [2, 3, 6, 7, 8, 9, 14, 15, 66, 67])) (.cond (.t 32) (.skip) (.exit 2))) (.seq (.block 3 (.seq (.reg 10 none [{ dst := some 35, guard := none, op := .mov (.t 0) }, { dst := some 36, guard := none, op := .fld 1 (.t 3) }, { dst := some 37, guard := none, op := .load none (.t 36) }, { dst := some 38, guard := none, op := .fld 0 (.t 3) }, { dst := some 39, guard := none, op := .load none (.t 38) }, { dst := some 40, guard := none, op := .len (.t 39) }, { dst := some 41, guard := none, op := .bin (.add) (.t 40) (.c (.int (.i64) 1)) }, { dst := some 42, guard := none, op := .fld 0 (.t 3) }, { dst := some 43, guard := none, op := .load none (.t 42) }, { dst := some 44, guard := none, op := .len (.t 43) }, { dst := some 45, guard := none, op := .call true (.f 15) [(some 2, .t 35), (none, .t 37), (none, .t 41), (none, .t 44)] }, { dst := some 7, guard := none, op := .asn true (.t 45) }] ([0, 2, 3, 6, 7], [2, 3, 6, 7, 8, 9, 14, 15, 16, 17])) (.seq (.reg 11 none [{ dst := some 46, guard := none, op := .fld 0 (.t 3) }, { dst := some 47, guard := none, op := .load none (.t 46) }, { dst := some 48, guard := none, op := .len (.t 47) }, { dst := some 49, guard := none, op := .mov (.t 7) }, { dst := some 50, guard := none, op := .len (.t 49) }, { dst := some 51, guard := none, op := .bin (.add) (.t 48) (.t 50) }, { dst := some 52, guard := none, op := .bin (.leq) (.t 51) (.c (.int (.i64) 62)) }] ([0, 2, 3, 6, 7, 52], [2, 3, 6, 7, 8, 9, 14, 15, 16, 17, 106, 107])) (.cond (.t 52) (.reg 12 none [{ dst := some 53, guard := none, op := .fld 0 (.t 3) }, { dst := some 54, guard := none, op := .load none (.t 53) }, { dst := some 55, guard := none, op := .mov (.t 7) }, { dst := some 56, guard := none, op := .app 5 40 true (.t 54) (.t 55) }, { dst := some 57, guard := none, op := .fld 0 (.t 3) }, { dst := none, guard := none, op := .store 1 true (.t 57) (.t 56) }] ([0, 2, 3, 6], [2, 3, 6, 7, 8, 9, 14, 15])) (.nrm ([0, 2, 3, 6], [2, 3, 6, 7, 8, 9, 14, 15])))))) (.reg 9 none [{ dst := some 33, guard := none, op := .mov (.t 6) }, { dst := some 34, guard := none, op := .bin (.sub) (.t 33) (.c (.int (.i64) 1)) }, { dst := some 6, guard := none, op := .asn true (.t 34) }] ([0, 2, 3, 6], [2, 3, 6, 7, 8, 9, 14, 15]))))) N (stQ [.sl D, .v (.int .i64 i3)] (.ow (sizes.map encI)) [] data j2) = some (.exit 2, stQ' [.sl D, .v (.int .i64 i4)] (.sl (sizes.map encI)) code data))
    (h3 : F 14 [.ptr ⟨2, 0, []⟩ [0], .v (.int .i64 4)] [(2, [.sl D, .v (.int .i64 i4)])] = some (⟨[.v (.int .i64 v4)], [.one]⟩, [(2, [.sl D, .v (.int .i64 i5)])]))
    (e4 : S.runC realP (S.evCall realP ⟨box, ps⟩ F) N c4 (stB [.sl D, .v (.int .i64 i5)] code sizes data v4) = some (.normal, stG [.sl D, .v (.int .i64 i6)] (.ow C1) sizes data))
    (h5 : F 14 [.ptr ⟨2, 0, []⟩ [0], .v (.int .i64 9)] [(2, [.sl D, .v (.int .i64 i6)])] = some (⟨[.v (.int .i64 w)], [.one]⟩, [(2, [.sl D, .v (.int .i64 i7)])]))
    (ha : realP.appOk 5 40 C1 [encIn ⟨1, 0, 0, 0, w⟩, encIn ⟨23, 0, 0, 0, 0⟩] = true) (hcat : realP.cat C1 [encIn ⟨1, 0, 0, 0, w⟩, encIn ⟨23, 0, 0, 0, 0⟩] = code2.map encIn)
    (hbb : realP.cm .gtr (realP.natI (realP.lenN (code2.map encIn))) 64 = bb)
    (e5 : S.runC realP (S.evCall realP ⟨box, ps⟩ F) N c5 (stC [.sl D, .v (.int .i64 i7)] code2 sizes data bb) = some (.normal, stG [.sl D, .v (.int .i64 i7)] CT sizes data))
    (hL3 : realP.it (S.runC realP (S.evCall realP ⟨box, ps⟩ F) N (.seq (.reg 22 none [{ dst := some 103, guard := none, op := .bin (.lss) (.t 102) (.t 101) }] ([0, 2, 3, 101, 102, 103], [2, 3, 6, 7, 8, 9, 204, 205, 206, 207, 208, 209, 260, 261])) (.seq (.cond (.t 103) (.skip) (.exit 5)) (.seq (.block 6 (.seq (.reg 23 none [{ dst := some 104, guard := none, op := .mov (.t 102) }, { dst := some 8, guard := none, op := .asn false (.t 104) }] ([0, 2, 3, 8, 101, 102], [2, 3, 6, 7, 8, 9, 18, 19, 204, 205, 206, 207, 260, 261])) (.seq (.reg 24 none [{ dst := some 105, guard := none, op := .fld 0 (.t 3) }, { dst := some 106, guard := none, op := .load none (.t 105) }, { dst := some 107, guard := none, op := .mov (.t 8) }, { dst := some 108, guard := none, op := .idx 5 (.t 106) (.t 107) }, { dst := some 109, guard := none, op := .fld 0 (.t 108) }, { dst := some 110, guard := none, op := .load none (.t 109) }, { dst := some 111, guard := none, op := .call true (.f 18) [(none, .t 110)] }, { dst := some 112, guard := none, op := .mov (.t 111) }, { dst := some 113, guard := some (112, true), op := .fld 0 (.t 3) }, { dst := some 114, guard := some (112, true), op := .load none (.t 113) }, { dst := some 115, guard := some (112, true), op := .mov (.t 8) }, { dst := some 116, guard := some (112, true), op := .idx 5 (.t 114) (.t 115) }, { dst := some 117, guard := some (112, true), op := .fld 4 (.t 116) }, { dst := some 118, guard := some (112, true), op := .load none (.t 117) }, { dst := some 119, guard := some (112, true), op := .fld 0 (.t 3) }, { dst := some 120, guard := some (112, true), op := .load none (.t 119) }, { dst := some 121, guard := some (112, true), op := .len (.t 120) }, { dst := some 122, guard := some (112, true), op := .bin (.geq) (.t 118) (.t 121) }, { dst := some 123, guard := none, op := .pick (.t 112) (.t 122) (.c (.bool false)) }] ([0, 2, 3, 8, 101, 102, 123], [2, 3, 6, 7, 8, 9, 18, 19, 204, 205, 206, 207, 224, 225, 226, 227, 246, 247, 248, 249, 260, 261])) (.cond (.t 123) (.reg 25 none [{ dst := some 124, guard := none, op := .fld 0 (.t 3) }, { dst := some 125, guard := none, op := .load none (.t 124) }, { dst := some 126, guard := none, op := .mov (.t 8) }, { dst := some 127, guard := none, op := .idx 5 (.t 125) (.t 126) }, { dst := some 128, guard := none, op := .fld 4 (.t 127) }, { dst := none, guard := none, op := .store 1 true (.t 128) (.c (.int (.i64) 0)) }] ([0, 2, 3, 101, 102], [2, 3, 6, 7, 8, 9, 204, 205, 206, 207, 260, 261])) (.nrm ([0, 2, 3, 101, 102], [2, 3, 6, 7, 8, 9, 204, 205, 206, 207, 260, 261])))))) (.reg 26 none [{ dst := some 129, guard := none, op := .bin (.add) (.t 102) (.c (.int (.i64) 1)) }, { dst := some 102, guard := none, op := .mov (.t 129) }] ([0, 2, 3, 101, 102], [2, 3, 6, 7, 8, 9, 204, 205, 206, 207, 260, 261])))))) N (stJ [.sl D, .v (.int .i64 i7)] CT sizes data (realP.natI (realP.lenN (code3.map encIn))) 0) = some (.exit 5, stJ' [.sl D, .v (.int .i64 i7)] CT sizes data (realP.natI (realP.lenN (code3.map encIn))))) :
    S.runT realP ⟨box, ps⟩ F N (tfProgram c4 c5) [.ptr ⟨2, 0, []⟩ [0]] [(2, [.sl D, .v (.int .i64 i0)])] = some (⟨[CT, .sl (sizes.map encI), .ow (data.map encDat)], [.agg 3]⟩, [(2, [.sl D, .v (.int .i64 i7)])]) := by
  obtain ⟨hb1, hb2, hb3, hb4, hb5, hb6, hb7⟩ := hb
  unfold LiC at hLi
  unfold SysC at hSys
  simp only [stD, stD', stQ, stQ', stB, stG, stC, stJ, stJ', nil3, List.map_nil] at *
  rcases hCT with rfl | rfl
  all_goals
    generalize code3.map encIn = C3 at *
    generalize code2.map encIn = C2 at *
    generalize code.map encIn = C at *
    simp only [encIn] at *
    generalize sizes.map encI = Z at *
    generalize data.map encDat = W at *
    (generalize realP = Pr at *; obtain ⟨ar, cm, sh, sb, un, cv, natI, lenN, inb, inw, elt, addN, subN, slOk, win, immC, immW, allLen, appOk, cat, mkOk, rep, getC, setC, shC, eqf, eqB, notB, fmm, strAt, strLen, strB, strOk, bstr, cpy, it⟩ := Pr; try dsimp only at *)
    cbv at e4 e5
    ((repeat (cbv; first | done | rw [hb2] | rw [h1] | rw [hL1] | rw [hb1] | rw [h2] | rw [hA] | rw [hL2] | rw [h3] | rw [e4] | rw [h5] | rw [hb5] | rw [hLi] | rw [hb6] | rw [hSys] | rw [if_pos ha] | rw [hcat] | rw [hbb] | rw [e5] | rw [hL3])); try cbv)

structure ProgOk (CT : TV) (code : List In) (sizes : List Int) (data : List (List Int)) : Prop where
  ct : IsCode CT code
  fine : ∀ x ∈ code, OkIn x ∧ (jumpB x.op = true → x.imm < code.length)
  len0 : 2 ≤ code.length
  len1 : code.length ≤ 64
  sz : ∀ x ∈ sizes, IsSize x
  sl0 : 1 ≤ sizes.length
  sl1 : sizes.length ≤ 4
  dt : DataOk sizes data
  dl : data.length = sizes.length
structure ProgF (F : Callee) : Prop where
  f1 : NextC F
  f2 : SizesC F
  f3 : WordsC F
  f4 : PartC F
  f5 : LiC F
  f6 : SysC F
  f7 : JumpC F
def ProgC (F : Callee) : Prop := ∀ l k, DeckOk l k → ∃ CT code sizes data k', F 5 [.ptr ⟨2, 0, []⟩ [0]] [(2, encD l k)] = some (⟨[CT, .sl (sizes.map encI), .ow (data.map encDat)], [.agg 3]⟩, [(2, encD l k')]) ∧ DeckOk l k' ∧ ProgOk CT code sizes data
theorem program_run (hb : ProgBox box) (hF : ProgF F) (hN : 200 ≤ N) (l k) (hd : DeckOk l k) : ∃ CT code sizes data k', runT ⟨box, ps⟩ F N (tfProgram progB progC) [.ptr ⟨2, 0, []⟩ [0]] [(2, encD l k)] = some (⟨[CT, .sl (sizes.map encI), .ow (data.map encDat)], [.agg 3]⟩, [(2, encD l k')]) ∧ DeckOk l k' ∧ ProgOk CT code sizes data := by
  simp only [← S.runT_real]
  obtain ⟨sizes, k1, h1, hd1, hsz, hl0, hl1⟩ := hF.f2 l k hd
  obtain ⟨e, σ', hL1, k2, data, rfl, rfl, hd2, hdt, hdl⟩ := data_loop box ps F N hb.b3 hF.f3 l sizes hsz hl1 sizes.length N _ ⟨k1, [], rfl, hd1, ⟨by simp, fun i h => by simp at h, fun xs h => by simp at h⟩, by simp⟩ (by omega)
  have hlz : realP.natI (realP.lenN (sizes.map encI)) = sizes.length := lenI_map encI sizes
  obtain ⟨v12, k3, h2, hd3, g1, g2⟩ := hF.f1 l k2 12 hd2 (by decide) (by decide)
  have hA : realP.ar .add .i64 1 v12 = 1 + v12 := add64 (by omega) (by omega)
  obtain ⟨j2, hj2⟩ : ∃ j2 : Nat, 1 + v12 = (j2 : Int) := ⟨(1 + v12).toNat, by omega⟩
  obtain ⟨e, σ', hL2, k4, code, rfl, rfl, hd4, hfine, hcl⟩ := code_loop box ps F N hb.b4 hF.f4 l sizes hsz hl0 hl1 data j2 N _ ⟨k3, [], _, rfl, hd3, .inr ⟨rfl, by omega⟩, fun x h => by simp at h, by simp, by omega⟩ (by omega)
  obtain ⟨v4, k5, h3, hd5, g3, g4⟩ := hF.f1 l k4 4 hd4 (by decide) (by decide)
  obtain ⟨k6, code1, hd6, hfine1, hcl1, e4⟩ := prog_B box ps F N hb.b1 hF.f1 l k5 hd5 sizes data code hfine hcl v4 g3
  obtain ⟨w, k7, h5, hd7, g5, g6⟩ := hF.f1 l k6 9 hd6 (by decide) (by decide)
  obtain ⟨code2, hc2⟩ : ∃ code2, code2 = code1 ++ [⟨1, 0, 0, 0, w⟩, ⟨23, 0, 0, 0, 0⟩] := ⟨_, rfl⟩
  have hcl2 : code2.length = code1.length + 2 := by rw [hc2]; simp
  have hfine2 : ∀ x ∈ code2, OkIn x ∧ (jumpB x.op = true → x.imm < code1.length) := by
    intro x hx
    rw [hc2] at hx
    rcases List.mem_append.1 hx with hx | hx
    · exact hfine1 x hx
    · simp only [List.mem_cons, List.not_mem_nil, or_false] at hx
      rcases hx with rfl | rfl
      · exact ⟨⟨by dsimp only; omega, by dsimp only; omega, by dsimp only; omega, by dsimp only; omega⟩, fun h => absurd h (by dsimp only; rw [nojump (by decide)]; decide)⟩
      · exact ⟨⟨by decide, by decide, by decide, by decide⟩, fun h => absurd h (by dsimp only; rw [nojump (by decide)]; decide)⟩
  have ha : realP.appOk 5 40 (code1.map encIn) [encIn ⟨1, 0, 0, 0, w⟩, encIn ⟨23, 0, 0, 0, 0⟩] = true := appOk_map (f := encIn) (l' := [⟨1, 0, 0, 0, w⟩, ⟨23, 0, 0, 0, 0⟩]) (fun _ => rfl) (by simp; omega) (by simp; omega)
  have hcat : realP.cat (code1.map encIn) [encIn ⟨1, 0, 0, 0, w⟩, encIn ⟨23, 0, 0, 0, 0⟩] = code2.map encIn := by rw [hc2]; exact cat_map code1 [⟨1, 0, 0, 0, w⟩, ⟨23, 0, 0, 0, 0⟩]
  have hbb : realP.cm .gtr (realP.natI (realP.lenN (code2.map encIn))) 64 = decide (64 < code2.length) := by
    rw [lenI_map]
    simp [realP, cmR]
    omega
  obtain ⟨CT, code3, hCT, hc3, e5⟩ : ∃ CT code3, IsCode CT code3 ∧ (code3 = code2 ∧ code2.length ≤ 64 ∨ code3 = code2.take 64 ∧ 64 < code2.length) ∧ S.runC realP (S.evCall realP ⟨box, ps⟩ F) N progC (stC [.sl (l.map encI), .v (.int .i64 (k7 : Int))] code2 sizes data (decide (64 < code2.length))) = some (.normal, stG [.sl (l.map encI), .v (.int .i64 (k7 : Int))] CT sizes data) := by
    by_cases h64 : 64 < code2.length
    · obtain ⟨CT, code3, q1, q2, _, q3⟩ := prog_C box ps F N (l.map encI) k7 sizes data code2 (by omega) true
      exact ⟨CT, code3, q1, .inr ⟨q2 rfl, h64⟩, by rw [decide_eq_true h64]; exact q3⟩
    · obtain ⟨CT, code3, q1, _, q2, q3⟩ := prog_C0 box ps F N (l.map encI) k7 sizes data code2
      exact ⟨CT, code3, q1, .inl ⟨q2, by omega⟩, by rw [decide_eq_false h64]; exact q3⟩
  have hcl3 : code1.length < code3.length ∧ 2 ≤ code3.length ∧ code3.length ≤ 64 := by
    rcases hc3 with ⟨h, h'⟩ | ⟨h, h'⟩
    · rw [h]; omega
    · rw [h, List.length_take]; omega
  have hfine3 : CodeFine code3 := by
    intro x hx
    have hx2 : x ∈ code2 := by
      rcases hc3 with ⟨h, _⟩ | ⟨h, _⟩
      · rw [← h]; exact hx
      · rw [h] at hx; exact List.mem_of_mem_take hx
    exact ⟨(hfine2 x hx2).1, fun hj => by have := (hfine2 x hx2).2 hj; omega⟩
  obtain ⟨e, σ', hL3, rfl, rfl⟩ := jump_loop box ps F N hb.b7 hF.f7 (l.map encI) k7 sizes data CT code3 hCT hfine3 (by omega) code3.length N _ ⟨0, rfl, by omega⟩ (by omega)
  have hlc : realP.natI (realP.lenN (code3.map encIn)) = code3.length := lenI_map encIn code3
  refine ⟨CT, code3, sizes, data, k7, prog_cut box ps F N hb hF.f5 hF.f6 progB progC sizes data code code2 CT code3 hCT (l.map encI) k k1 k2 k3 k4 k5 k6 k7 v12 j2 v4 w (code1.map encIn) _ h1 (by rw [hlz]; exact hL1) h2 (by rw [hA]; exact hj2) hL2 h3 e4 h5 ha hcat hbb e5 (by rw [hlc]; exact hL3), hd7, ⟨hCT, hfine3, hcl3.2.1, hcl3.2.2, hsz, hl0, hl1, hdt, hdl⟩⟩
end
end Go.Proofs.Ytjmfjjmdfikanaa
/- Layouts that are made, on trees. -/
set_option linter.unusedVariables false
set_option linter.unusedSimpArgs false
namespace Go.Proofs.Ytjmfjjmdfikanaa
open Go.RowKit

section
variable (box : FuncId → Option (Nat × List BxC)) (ps : FuncId → List (Option Nat)) (F : Callee) (N : Nat)

def tfVal02 : TFn := { np := 1, pp := [], nt := 26, body := .seq (.reg 0 none [{ dst := some 2, guard := none, op := .asn true (.c (.bool false)) }] ([0], [2, 3])) (.seq (.seq (.reg 1 none [{ dst := some 5, guard := none, op := .mov (.t 0) }, { dst := some 6, guard := none, op := .len (.t 5) }, { dst := some 7, guard := none, op := .mov (.c (.int (.i64) 0)) }] ([0, 5, 6, 7], [2, 3, 12, 13, 14, 15, 16, 17, 36, 37])) (.block 0 (.loop (.seq (.reg 2 none [{ dst := some 8, guard := none, op := .bin (.lss) (.t 7) (.t 6) }] ([0, 5, 6, 7, 8], [2, 3, 12, 13, 14, 15, 16, 17, 18, 19, 36, 37])) (.seq (.cond (.t 8) (.skip) (.exit 0)) (.seq (.block 1 (.seq (.reg 3 none [{ dst := some 9, guard := none, op := .idx 1 (.t 5) (.t 7) }, { dst := some 10, guard := none, op := .load none (.t 9) }, { dst := some 4, guard := none, op := .asn false (.t 10) }] ([0, 4, 5, 6, 7], [2, 3, 10, 11, 12, 13, 14, 15, 16, 17, 36, 37])) (.seq (.reg 4 none [{ dst := some 11, guard := none, op := .mov (.t 4) }, { dst := some 12, guard := none, op := .bin (.lss) (.t 11) (.c (.int (.i64) 1)) }, { dst := some 13, guard := none, op := .mov (.t 12) }, { dst := some 14, guard := some (13, false), op := .mov (.t 4) }, { dst := some 15, guard := some (13, false), op := .bin (.gtr) (.t 14) (.c (.int (.i64) 32)) }, { dst := some 16, guard := none, op := .pick (.t 13) (.c (.bool true)) (.t 15) }] ([0, 5, 6, 7, 16], [2, 3, 12, 13, 14, 15, 16, 17, 26, 27, 28, 29, 32, 33, 34, 35, 36, 37])) (.cond (.t 16) (.seq (.reg 5 none [{ dst := some 2, guard := none, op := .asn true (.c (.bool false)) }] ([2], [6, 7])) (.ret)) (.skip))))) (.reg 6 none [{ dst := some 17, guard := none, op := .bin (.add) (.t 7) (.c (.int (.i64) 1)) }, { dst := some 7, guard := none, op := .mov (.t 17) }] ([0, 5, 6, 7], [2, 3, 12, 13, 14, 15, 16, 17, 36, 37])))))))) (.seq (.reg 7 none [{ dst := some 18, guard := none, op := .mov (.t 0) }, { dst := some 19, guard := none, op := .len (.t 18) }, { dst := some 20, guard := none, op := .bin (.geq) (.t 19) (.c (.int (.i64) 1)) }, { dst := some 21, guard := none, op := .mov (.t 20) }, { dst := some 22, guard := some (21, true), op := .mov (.t 0) }, { dst := some 23, guard := some (21, true), op := .len (.t 22) }, { dst := some 24, guard := some (21, true), op := .bin (.leq) (.t 23) (.c (.int (.i64) 4)) }, { dst := some 25, guard := none, op := .pick (.t 21) (.t 24) (.c (.bool false)) }, { dst := some 2, guard := none, op := .asn true (.t 25) }] ([2], [6, 7])) (.ret))), res := [.tmp 2] }
def stV (Z : List (List TV)) (n i : Int) : St := ⟨[(0, .sl Z), (5, .sl Z), (6, .v (.int .i64 n)), (7, .v (.int .i64 i))], [], []⟩
def stV' (Z : List (List TV)) (n : Int) : St := ⟨[(0, .sl Z), (5, .sl Z), (6, .v (.int .i64 n)), (7, .v (.int .i64 n)), (8, .v (.bool false))], [], []⟩
structure SizesOk (sizes : List Int) : Prop where
  sz : ∀ x ∈ sizes, IsSize x
  l0 : 1 ≤ sizes.length
  l1 : sizes.length ≤ 4
def Val02C (F : Callee) : Prop := ∀ sizes, SizesOk sizes → F 19 [.sl (sizes.map encI)] [] = some (⟨[.v (.bool true)], [.one]⟩, [])
set_option maxRecDepth 100000 in
set_option maxHeartbeats 8000000 in
theorem val02_loop (E : Env) (sizes : List Int) (h : SizesOk sizes) : ∀ j m σ, (∃ i : Nat, σ = stV (sizes.map encI) sizes.length i ∧ i + j = sizes.length) → j < m →
    ∃ e σ', realP.it (S.runC realP (S.evCall realP E F) N (.seq (.reg 2 none [{ dst := some 8, guard := none, op := .bin (.lss) (.t 7) (.t 6) }] ([0, 5, 6, 7, 8], [2, 3, 12, 13, 14, 15, 16, 17, 18, 19, 36, 37])) (.seq (.cond (.t 8) (.skip) (.exit 0)) (.seq (.block 1 (.seq (.reg 3 none [{ dst := some 9, guard := none, op := .idx 1 (.t 5) (.t 7) }, { dst := some 10, guard := none, op := .load none (.t 9) }, { dst := some 4, guard := none, op := .asn false (.t 10) }] ([0, 4, 5, 6, 7], [2, 3, 10, 11, 12, 13, 14, 15, 16, 17, 36, 37])) (.seq (.reg 4 none [{ dst := some 11, guard := none, op := .mov (.t 4) }, { dst := some 12, guard := none, op := .bin (.lss) (.t 11) (.c (.int (.i64) 1)) }, { dst := some 13, guard := none, op := .mov (.t 12) }, { dst := some 14, guard := some (13, false), op := .mov (.t 4) }, { dst := some 15, guard := some (13, false), op := .bin (.gtr) (.t 14) (.c (.int (.i64) 32)) }, { dst := some 16, guard := none, op := .pick (.t 13) (.c (.bool true)) (.t 15) }] ([0, 5, 6, 7, 16], [2, 3, 12, 13, 14, 15, 16, 17, 26, 27, 28, 29, 32, 33, 34, 35, 36, 37])) (.cond (.t 16) (.seq (.reg 5 none [{ dst := some 2, guard := none, op := .asn true (.c (.bool false)) }] ([2], [6, 7])) (.ret)) (.skip))))) (.reg 6 none [{ dst := some 17, guard := none, op := .bin (.add) (.t 7) (.c (.int (.i64) 1)) }, { dst := some 7, guard := none, op := .mov (.t 17) }] ([0, 5, 6, 7], [2, 3, 12, 13, 14, 15, 16, 17, 36, 37])))))) m σ = some (e, σ') ∧ e = .exit 0 ∧ σ' = stV' (sizes.map encI) sizes.length := by
  refine it_some _ _ ?_
  rintro j σ ⟨i, rfl, hij⟩
  have hl := h.l1
  cases j with
  | zero =>
    obtain rfl : i = sizes.length := by omega
    refine ⟨.exit 0, stV' (sizes.map encI) sizes.length, ?_, .inr ⟨by simp, rfl, rfl⟩⟩
    have hlt : realP.cm .lss (sizes.length : Int) (sizes.length : Int) = false := lss_f (by omega)
    simp only [stV, stV']
    generalize sizes.map encI = Z at *
    generalize (sizes.length : Int) = n at *
    (generalize realP = Pr at *; obtain ⟨ar, cm, sh, sb, un, cv, natI, lenN, inb, inw, elt, addN, subN, slOk, win, immC, immW, allLen, appOk, cat, mkOk, rep, getC, setC, shC, eqf, eqB, notB, fmm, strAt, strLen, strB, strOk, bstr, cpy, it⟩ := Pr; try dsimp only at *)
    ((repeat (cbv; first | done | rw [hlt])); try cbv)
  | succ j =>
    have hi : i < sizes.length := by omega
    have hx := h.sz _ (List.getElem_mem hi)
    refine ⟨.normal, stV (sizes.map encI) sizes.length (i + 1 : Nat), ?_, .inl ⟨rfl, j, by omega, i + 1, rfl, by omega⟩⟩
    have hlt : realP.cm .lss (i : Int) (sizes.length : Int) = true := lss_t (by omega)
    have hp : realP.ar .add .i64 (i : Int) 1 = ((i + 1 : Nat) : Int) := by rw [add64 (by omega) (by omega)]; simp
    have hin : realP.inb (sizes.map encI) i 1 = true := inb_map hi rfl (by decide)
    have hel : realP.elt (sizes.map encI) i = [.v (.int .i64 sizes[i])] := elt_map hi
    have c1 : realP.cm .lss sizes[i] 1 = false := lss_f (by have := hx.1; omega)
    have c2 : realP.cm .gtr sizes[i] 32 = false := gtr_f (by have := hx.2; omega)
    simp only [stV, stV']
    generalize sizes[i] = s at *
    generalize sizes.map encI = Z at *
    generalize (sizes.length : Int) = n at *
    generalize ((i + 1 : Nat) : Int) = i1 at *
    simp only [← Int.ofNat_eq_natCast] at hlt hp
    (generalize realP = Pr at *; obtain ⟨ar, cm, sh, sb, un, cv, natI, lenN, inb, inw, elt, addN, subN, slOk, win, immC, immW, allLen, appOk, cat, mkOk, rep, getC, setC, shC, eqf, eqB, notB, fmm, strAt, strLen, strB, strOk, bstr, cpy, it⟩ := Pr; try dsimp only at *)
    ((repeat (cbv; first | done | rw [hlt] | rw [if_pos hin] | rw [hel] | rw [c1] | rw [c2] | rw [hp])); try cbv)
set_option maxRecDepth 100000 in
set_option maxHeartbeats 8000000 in
theorem val02_run (E : Env) (hN : 200 ≤ N) (sizes : List Int) (h : SizesOk sizes) : runT E F N tfVal02 [.sl (sizes.map encI)] [] = some (⟨[.v (.bool true)], [.one]⟩, []) := by
  rw [← S.runT_real]
  obtain ⟨e, σ', hL, rfl, rfl⟩ := val02_loop F N E sizes h sizes.length N _ ⟨0, rfl, by omega⟩ (by have := h.l1; omega)
  have hlen : realP.natI (realP.lenN (sizes.map encI)) = sizes.length := lenI_map encI sizes
  have c1 : realP.cm .geq (realP.natI (realP.lenN (sizes.map encI))) 1 = true := by rw [hlen]; exact geq_t (by have := h.l0; omega)
  have c2 : realP.cm .leq (realP.natI (realP.lenN (sizes.map encI))) 4 = true := by rw [hlen]; exact leq_t (by have := h.l1; omega)
  rw [← hlen] at hL
  simp only [stV, stV', Int.natCast_zero] at hL
  clear hlen
  generalize sizes.map encI = Z at *
  (generalize realP = Pr at *; obtain ⟨ar, cm, sh, sb, un, cv, natI, lenN, inb, inw, elt, addN, subN, slOk, win, immC, immW, allLen, appOk, cat, mkOk, rep, getC, setC, shC, eqf, eqB, notB, fmm, strAt, strLen, strB, strOk, bstr, cpy, it⟩ := Pr; try dsimp only at *)
  ((repeat (cbv; first | done | rw [hL] | rw [c1] | rw [c2])); try cbv)

/-! ## Make -/
structure LayOk (sizes B : List Int) : Prop where
  len : B.length = sizes.length
  lo : ∀ i (h : i < B.length), 1 ≤ B[i]
  hi : ∀ i (h : i < B.length) (h' : i < sizes.length), B[i] + sizes[i] < 512
  dis : ∀ i j (h : i < B.length) (h' : j < B.length) (hs : i < sizes.length) (hs' : j < sizes.length), i ≠ j → B[i] + sizes[i] < B[j] ∨ B[j] + sizes[j] < B[i]
def Done (n s i r : Nat) : Prop := ∃ j, j < i ∧ (j + s) % n = r
structure MkOk (sizes B : List Int) (s i : Nat) (at_ : Int) : Prop where
  len : B.length = sizes.length
  a0 : 1 ≤ at_
  a1 : at_ ≤ 50 + 72 * i
  lo : ∀ r (h : r < B.length) (h' : r < sizes.length), Done sizes.length s i r → 1 ≤ B[r] ∧ B[r] + sizes[r] < at_
  dis : ∀ r q (h : r < B.length) (h' : q < B.length) (hs : r < sizes.length) (hs' : q < sizes.length), Done sizes.length s i r → Done sizes.length s i q → r ≠ q → B[r] + sizes[r] < B[q] ∨ B[q] + sizes[q] < B[r]
theorem MkOk.step {sizes B : List Int} {s i : Nat} {at_ g : Int} (h : MkOk sizes B s i at_) (hs : ∀ x ∈ sizes, IsSize x) (hi : i < sizes.length) (hr : (i + s) % sizes.length < sizes.length) (hg0 : 1 ≤ g) (hg1 : g ≤ 40) :
    MkOk sizes (B.set ((i + s) % sizes.length) at_) s (i + 1) (at_ + sizes[(i + s) % sizes.length] + g) := by
  have hsz := hs _ (List.getElem_mem hr)
  have hb1 := hsz.1
  have hb2 := hsz.2
  have hnew : ¬ Done sizes.length s i ((i + s) % sizes.length) := by
    rintro ⟨j, hj, e⟩
    have h1 : (j + s) % sizes.length = (i + s) % sizes.length := e
    have d1 := Nat.div_add_mod (j + s) sizes.length
    have d2 := Nat.div_add_mod (i + s) sizes.length
    rw [h1] at d1
    rcases Nat.lt_or_ge ((j + s) / sizes.length) ((i + s) / sizes.length) with hq | hq
    · have := Nat.mul_le_mul_left sizes.length hq
      rw [Nat.succ_eq_add_one, Nat.mul_add] at this
      omega
    · have := Nat.mul_le_mul_left sizes.length hq
      omega
  have hsplit : ∀ r, Done sizes.length s (i + 1) r → r = (i + s) % sizes.length ∨ r ≠ (i + s) % sizes.length ∧ Done sizes.length s i r := by
    rintro r ⟨j, hj, rfl⟩
    by_cases e : (j + s) % sizes.length = (i + s) % sizes.length
    · exact .inl e
    · refine .inr ⟨e, j, ?_, rfl⟩
      rcases Nat.lt_or_ge j i with h | h
      · exact h
      · obtain rfl : j = i := by omega
        exact absurd rfl e
  refine ⟨by simpa using h.len, by have := h.a0; omega, by have := h.a1; push_cast; omega, fun r h1 h2 hd => ?_, fun r q h1 h2 h3 h4 hd hd' hne => ?_⟩
  · rw [List.getElem_set]
    rcases hsplit r hd with rfl | ⟨e, hd⟩
    · rw [if_pos rfl]; have := h.a0; omega
    · rw [if_neg (Ne.symm e)]
      have := h.lo r (by simpa using h1) h2 hd
      omega
  · rw [List.getElem_set, List.getElem_set]
    rcases hsplit r hd with rfl | ⟨e, hd⟩
    · rcases hsplit q hd' with rfl | ⟨e', hd'⟩
      · exact absurd rfl hne
      · rw [if_pos rfl, if_neg (Ne.symm e')]
        exact .inr (h.lo q (by simpa using h2) h4 hd').2
    · rcases hsplit q hd' with rfl | ⟨e', hd'⟩
      · rw [if_neg (Ne.symm e), if_pos rfl]
        exact .inl (h.lo r (by simpa using h1) h3 hd).2
      · rw [if_neg (Ne.symm e), if_neg (Ne.symm e')]
        exact h.dis r q (by simpa using h1) (by simpa using h2) h3 h4 hd hd' hne
theorem MkOk.done {sizes B : List Int} {s : Nat} {at_ : Int} (h : MkOk sizes B s sizes.length at_) (h0 : 1 ≤ sizes.length) (h1 : sizes.length ≤ 4) : LayOk sizes B := by
  have hall : ∀ r, r < sizes.length → Done sizes.length s sizes.length r := by
    intro r hr
    refine ⟨(r + sizes.length - s % sizes.length) % sizes.length, Nat.mod_lt _ (by omega), ?_⟩
    have hs := Nat.mod_lt s (by omega : 0 < sizes.length)
    rw [Nat.mod_add_mod]
    have : (r + sizes.length - s % sizes.length + s) % sizes.length = (r + sizes.length - s % sizes.length + s % sizes.length) % sizes.length := by rw [Nat.add_mod_mod]
    rw [this, show r + sizes.length - s % sizes.length + s % sizes.length = r + sizes.length by omega, Nat.add_mod_right, Nat.mod_eq_of_lt hr]
  have ha := h.a1
  refine ⟨h.len, fun i hi => (h.lo i hi (by rw [← h.len]; exact hi) (hall i (by rw [← h.len]; exact hi))).1, fun i hi hi' => ?_, fun i j hi hj hs hs' hne => h.dis i j hi hj hs hs' (hall i hs) (hall j hs') hne⟩
  have := (h.lo i hi hi' (hall i hi')).2
  omega
end
end Go.Proofs.Ytjmfjjmdfikanaa
/- Layouts that are made, on trees: the loop. -/
set_option linter.unusedVariables false
set_option linter.unusedSimpArgs false
namespace Go.Proofs.Ytjmfjjmdfikanaa
open Go.RowKit

theorem setC_map {α : Type} {f : α → List TV} {l : List α} {k o : Nat} {t : TV} {y : α} (h : k < l.length) (hy : (f l[k]).modify o (fun _ => t) = f y) : realP.setC (l.map f) (k, (f l[k]).length, o) [] t = (l.set k y).map f := by
  show (l.map f).modify k (fun el => el.modify o fun t1 => setT t1 [] t) = _
  apply List.ext_getElem
  · simp
  · intro i h1 h2
    simp only [List.getElem_modify, List.getElem_map, List.getElem_set]
    simp only [List.length_modify, List.length_map] at h1
    by_cases e : k = i
    · subst e; simp only [if_true]; rw [← hy]; rfl
    · rw [if_neg e, if_neg e]
section
variable (box : FuncId → Option (Nat × List BxC)) (ps : FuncId → List (Option Nat)) (F : Callee) (N : Nat)

def tfMake : TFn := { np := 2, pp := [], nt := 65, body := .seq (.reg 0 none [{ dst := some 4, guard := none, op := .alloc [.slice none 0 0, .int (.u16) 0] }, { dst := some 5, guard := none, op := .asn true (.c (.int (.i64) 0)) }] ([0, 1, 4], [2, 3, 4, 5, 10, 11])) (.seq (.seq (.reg 1 none [{ dst := some 11, guard := none, op := .mov (.t 0) }, { dst := some 12, guard := none, op := .call true (.f 19) [(none, .t 11)] }, { dst := some 13, guard := none, op := .un (.not) (.t 12) }, { dst := some 14, guard := none, op := .mov (.t 13) }, { dst := some 15, guard := some (14, false), op := .mov (.t 1) }, { dst := some 16, guard := some (14, false), op := .bin (.lss) (.t 15) (.c (.int (.i64) 0)) }, { dst := some 17, guard := none, op := .pick (.t 14) (.c (.bool true)) (.t 16) }, { dst := some 18, guard := none, op := .mov (.t 17) }, { dst := some 19, guard := some (18, false), op := .mov (.t 1) }, { dst := some 20, guard := some (18, false), op := .bin (.gtr) (.t 19) (.c (.int (.i64) 1073741824)) }, { dst := some 21, guard := none, op := .pick (.t 18) (.c (.bool true)) (.t 20) }] ([0, 1, 4, 21], [2, 3, 4, 5, 10, 11, 28, 29, 30, 31, 34, 35, 36, 37, 38, 39, 42, 43, 44, 45])) (.cond (.t 21) (.seq (.reg 2 none [{ dst := some 22, guard := none, op := .bld [.slice none 0 0, .int (.u16) 0] true [] }, { dst := none, guard := none, op := .store 2 true (.t 4) (.t 22) }, { dst := some 5, guard := none, op := .asn true (.c (.int (.i64) 1)) }] ([4, 5], [10, 11, 12, 13])) (.ret)) (.skip))) (.seq (.reg 3 none [{ dst := some 23, guard := none, op := .mov (.t 0) }, { dst := some 24, guard := none, op := .len (.t 23) }, { dst := some 6, guard := none, op := .asn true (.t 24) }] ([0, 1, 4, 6], [2, 3, 4, 5, 10, 11, 14, 15])) (.seq (.reg 4 none [{ dst := some 25, guard := none, op := .mov (.t 6) }, { dst := some 26, guard := none, op := .mks 1 [.int (.i64) 0] (.t 25) (.t 25) }, { dst := some 27, guard := none, op := .mov (.t 1) }, { dst := some 28, guard := none, op := .bin (.mul) (.c (.int (.i64) 40503)) (.t 27) }, { dst := some 29, guard := none, op := .conv (.u16) (.t 28) }, { dst := some 30, guard := none, op := .bld [.slice none 0 0, .int (.u16) 0] true [(0, 1, .t 26), (1, 1, .t 29)] }, { dst := some 7, guard := none, op := .alloc [.slice none 0 0, .int (.u16) 0] }, { dst := none, guard := none, op := .store 2 true (.t 7) (.t 30) }] ([0, 1, 4, 6, 7], [2, 3, 4, 5, 10, 11, 14, 15, 16, 17])) (.seq (.reg 5 none [{ dst := some 31, guard := none, op := .mov (.t 1) }, { dst := some 32, guard := none, op := .mov (.t 6) }, { dst := some 33, guard := none, op := .bin (.quo) (.t 31) (.t 32) }, { dst := some 34, guard := none, op := .bin (.rem) (.t 33) (.c (.int (.i64) 50)) }, { dst := some 35, guard := none, op := .bin (.add) (.c (.int (.i64) 1)) (.t 34) }, { dst := some 8, guard := none, op := .asn true (.t 35) }] ([0, 1, 4, 6, 7, 8], [2, 3, 4, 5, 10, 11, 14, 15, 16, 17, 18, 19])) (.seq (.seq (.reg 6 none [{ dst := some 36, guard := none, op := .mov (.t 6) }, { dst := some 37, guard := none, op := .mov (.c (.int (.i64) 0)) }] ([0, 1, 4, 6, 7, 8, 36, 37], [2, 3, 4, 5, 10, 11, 14, 15, 16, 17, 18, 19, 74, 75, 76, 77, 128, 129])) (.block 0 (.loop (.seq (.reg 7 none [{ dst := some 38, guard := none, op := .bin (.lss) (.t 37) (.t 36) }] ([0, 1, 4, 6, 7, 8, 36, 37, 38], [2, 3, 4, 5, 10, 11, 14, 15, 16, 17, 18, 19, 74, 75, 76, 77, 78, 79, 128, 129])) (.seq (.cond (.t 38) (.skip) (.exit 0)) (.seq (.block 1 (.seq (.reg 8 none [{ dst := some 39, guard := none, op := .mov (.t 37) }, { dst := some 9, guard := none, op := .asn false (.t 39) }] ([0, 1, 4, 6, 7, 8, 9, 36, 37], [2, 3, 4, 5, 10, 11, 14, 15, 16, 17, 18, 19, 20, 21, 74, 75, 76, 77, 128, 129])) (.seq (.reg 9 none [{ dst := some 40, guard := none, op := .mov (.t 9) }, { dst := some 41, guard := none, op := .mov (.t 1) }, { dst := some 42, guard := none, op := .bin (.add) (.t 40) (.t 41) }, { dst := some 43, guard := none, op := .mov (.t 6) }, { dst := some 44, guard := none, op := .bin (.rem) (.t 42) (.t 43) }, { dst := some 10, guard := none, op := .asn true (.t 44) }] ([0, 1, 4, 6, 7, 8, 10, 36, 37], [2, 3, 4, 5, 10, 11, 14, 15, 16, 17, 18, 19, 22, 23, 74, 75, 76, 77, 128, 129])) (.seq (.reg 10 none [{ dst := some 45, guard := none, op := .fld 0 (.t 7) }, { dst := some 46, guard := none, op := .load none (.t 45) }, { dst := some 47, guard := none, op := .mov (.t 10) }, { dst := some 48, guard := none, op := .mov (.t 8) }, { dst := some 49, guard := none, op := .idx 1 (.t 46) (.t 47) }, { dst := none, guard := none, op := .store 1 false (.t 49) (.t 48) }] ([0, 1, 4, 6, 7, 8, 10, 36, 37], [2, 3, 4, 5, 10, 11, 14, 15, 16, 17, 18, 19, 22, 23, 74, 75, 76, 77, 128, 129])) (.reg 11 none [{ dst := some 50, guard := none, op := .mov (.t 8) }, { dst := some 51, guard := none, op := .mov (.t 0) }, { dst := some 52, guard := none, op := .mov (.t 10) }, { dst := some 53, guard := none, op := .idx 1 (.t 51) (.t 52) }, { dst := some 54, guard := none, op := .load none (.t 53) }, { dst := some 55, guard := none, op := .bin (.add) (.t 54) (.c (.int (.i64) 1)) }, { dst := some 56, guard := none, op := .mov (.t 1) }, { dst := some 57, guard := none, op := .mov (.t 6) }, { dst := some 58, guard := none, op := .bin (.mul) (.c (.int (.i64) 50)) (.t 57) }, { dst := some 59, guard := none, op := .bin (.quo) (.t 56) (.t 58) }, { dst := some 60, guard := none, op := .bin (.rem) (.t 59) (.c (.int (.i64) 40)) }, { dst := some 61, guard := none, op := .bin (.add) (.t 55) (.t 60) }, { dst := some 62, guard := none, op := .bin (.add) (.t 50) (.t 61) }, { dst := some 8, guard := none, op := .asn true (.t 62) }] ([0, 1, 4, 6, 7, 8, 36, 37], [2, 3, 4, 5, 10, 11, 14, 15, 16, 17, 18, 19, 74, 75, 76, 77, 128, 129])))))) (.reg 12 none [{ dst := some 63, guard := none, op := .bin (.add) (.t 37) (.c (.int (.i64) 1)) }, { dst := some 37, guard := none, op := .mov (.t 63) }] ([0, 1, 4, 6, 7, 8, 36, 37], [2, 3, 4, 5, 10, 11, 14, 15, 16, 17, 18, 19, 74, 75, 76, 77, 128, 129])))))))) (.seq (.reg 13 none [{ dst := some 64, guard := none, op := .load (some 2) (.t 7) }, { dst := none, guard := none, op := .store 2 true (.t 4) (.t 64) }, { dst := some 5, guard := none, op := .asn true (.c (.int (.i64) 0)) }] ([4, 5], [10, 11, 12, 13])) (.ret))))))), res := [.cell 4 (some 2), .tmp 5] }
def stM (Z : List (List TV)) (s n a i key : Int) (B : List Int) : St := ⟨[(0, .sl Z), (1, .v (.int .i64 s)), (4, .ptr ⟨10, 0, []⟩ [0]), (6, .v (.int .i64 n)), (7, .ptr ⟨16, 0, []⟩ [0]), (8, .v (.int .i64 a)), (36, .v (.int .i64 n)), (37, .v (.int .i64 i))], [(10, [.ow [], .v (.int .u16 0)]), (16, [.ow (B.map encI), .v (.int .u16 key)])], []⟩
def stM' (Z : List (List TV)) (s n a key : Int) (B : List Int) : St := ⟨[(0, .sl Z), (1, .v (.int .i64 s)), (4, .ptr ⟨10, 0, []⟩ [0]), (6, .v (.int .i64 n)), (7, .ptr ⟨16, 0, []⟩ [0]), (8, .v (.int .i64 a)), (36, .v (.int .i64 n)), (37, .v (.int .i64 n)), (38, .v (.bool false))], [(10, [.ow [], .v (.int .u16 0)]), (16, [.ow (B.map encI), .v (.int .u16 key)])], []⟩
theorem tmod_ofNat (a b : Nat) : (Int.ofNat a).tmod (Int.ofNat b) = Int.ofNat (a % b) := rfl
theorem tdiv_ofNat (a b : Nat) : (Int.ofNat a).tdiv (Int.ofNat b) = Int.ofNat (a / b) := rfl
set_option maxRecDepth 100000 in
set_option maxHeartbeats 16000000 in
theorem make_loop (E : Env) (sizes : List Int) (h : SizesOk sizes) (s : Nat) (hs : s ≤ 1073741824) (key : Int) : ∀ j m σ, (∃ (i : Nat) (a : Int) (B : List Int), σ = stM (sizes.map encI) s sizes.length a i key B ∧ MkOk sizes B s i a ∧ i + j = sizes.length) → j < m →
    ∃ e σ', realP.it (S.runC realP (S.evCall realP E F) N (.seq (.reg 7 none [{ dst := some 38, guard := none, op := .bin (.lss) (.t 37) (.t 36) }] ([0, 1, 4, 6, 7, 8, 36, 37, 38], [2, 3, 4, 5, 10, 11, 14, 15, 16, 17, 18, 19, 74, 75, 76, 77, 78, 79, 128, 129])) (.seq (.cond (.t 38) (.skip) (.exit 0)) (.seq (.block 1 (.seq (.reg 8 none [{ dst := some 39, guard := none, op := .mov (.t 37) }, { dst := some 9, guard := none, op := .asn false (.t 39) }] ([0, 1, 4, 6, 7, 8, 9, 36, 37], [2, 3, 4, 5, 10, 11, 14, 15, 16, 17, 18, 19, 20, 21, 74, 75, 76, 77, 128, 129])) (.seq (.reg 9 none [{ dst := some 40, guard := none, op := .mov (.t 9) }, { dst := some 41, guard := none, op := .mov (.t 1) }, { dst := some 42, guard := none, op := .bin (.add) (.t 40) (.t 41) }, { dst := some 43, guard := none, op := .mov (.t 6) }, { dst := some 44, guard := none, op := .bin (.rem) (.t 42) (.t 43) }, { dst := some 10, guard := none, op := .asn true (.t 44) }] ([0, 1, 4, 6, 7, 8, 10, 36, 37], [2, 3, 4, 5, 10, 11, 14, 15, 16, 17, 18, 19, 22, 23, 74, 75, 76, 77, 128, 129])) (.seq (.reg 10 none [{ dst := some 45, guard := none, op := .fld 0 (.t 7) }, { dst := some 46, guard := none, op := .load none (.t 45) }, { dst := some 47, guard := none, op := .mov (.t 10) }, { dst := some 48, guard := none, op := .mov (.t 8) }, { dst := some 49, guard := none, op := .idx 1 (.t 46) (.t 47) }, { dst := none, guard := none, op := .store 1 false (.t 49) (.t 48) }] ([0, 1, 4, 6, 7, 8, 10, 36, 37], [2, 3, 4, 5, 10, 11, 14, 15, 16, 17, 18, 19, 22, 23, 74, 75, 76, 77, 128, 129])) (.reg 11 none [{ dst := some 50, guard := none, op := .mov (.t 8) }, { dst := some 51, guard := none, op := .mov (.t 0) }, { dst := some 52, guard := none, op := .mov (.t 10) }, { dst := some 53, guard := none, op := .idx 1 (.t 51) (.t 52) }, { dst := some 54, guard := none, op := .load none (.t 53) }, { dst := some 55, guard := none, op := .bin (.add) (.t 54) (.c (.int (.i64) 1)) }, { dst := some 56, guard := none, op := .mov (.t 1) }, { dst := some 57, guard := none, op := .mov (.t 6) }, { dst := some 58, guard := none, op := .bin (.mul) (.c (.int (.i64) 50)) (.t 57) }, { dst := some 59, guard := none, op := .bin (.quo) (.t 56) (.t 58) }, { dst := some 60, guard := none, op := .bin (.rem) (.t 59) (.c (.int (.i64) 40)) }, { dst := some 61, guard := none, op := .bin (.add) (.t 55) (.t 60) }, { dst := some 62, guard := none, op := .bin (.add) (.t 50) (.t 61) }, { dst := some 8, guard := none, op := .asn true (.t 62) }] ([0, 1, 4, 6, 7, 8, 36, 37], [2, 3, 4, 5, 10, 11, 14, 15, 16, 17, 18, 19, 74, 75, 76, 77, 128, 129])))))) (.reg 12 none [{ dst := some 63, guard := none, op := .bin (.add) (.t 37) (.c (.int (.i64) 1)) }, { dst := some 37, guard := none, op := .mov (.t 63) }] ([0, 1, 4, 6, 7, 8, 36, 37], [2, 3, 4, 5, 10, 11, 14, 15, 16, 17, 18, 19, 74, 75, 76, 77, 128, 129])))))) m σ = some (e, σ') ∧ ∃ a B, e = .exit 0 ∧ σ' = stM' (sizes.map encI) s sizes.length a key B ∧ LayOk sizes B := by
  refine it_some _ _ ?_
  have hl := h.l1
  have hl0 := h.l0
  rintro j σ ⟨i, a, B, rfl, hok, hij⟩
  cases j with
  | zero =>
    obtain rfl : i = sizes.length := by omega
    refine ⟨.exit 0, stM' (sizes.map encI) s sizes.length a key B, ?_, .inr ⟨by simp, a, B, rfl, rfl, hok.done hl0 hl⟩⟩
    have hlt : realP.cm .lss (sizes.length : Int) (sizes.length : Int) = false := lss_f (by omega)
    simp only [stM, stM']
    generalize sizes.map encI = Z at *
    generalize B.map encI = W at *
    generalize (sizes.length : Int) = n at *
    generalize (s : Int) = s0 at *
    (generalize realP = Pr at *; obtain ⟨ar, cm, sh, sb, un, cv, natI, lenN, inb, inw, elt, addN, subN, slOk, win, immC, immW, allLen, appOk, cat, mkOk, rep, getC, setC, shC, eqf, eqB, notB, fmm, strAt, strLen, strB, strOk, bstr, cpy, it⟩ := Pr; try dsimp only at *)
    ((repeat (cbv; first | done | rw [hlt])); try cbv)
  | succ j =>
    have hi : i < sizes.length := by omega
    have hr : (i + s) % sizes.length < sizes.length := Nat.mod_lt _ (by omega)
    have hrB : (i + s) % sizes.length < B.length := by rw [hok.len]; exact hr
    have hx := h.sz _ (List.getElem_mem hr)
    have hg : s / (50 * sizes.length) % 40 < 40 := Nat.mod_lt _ (by omega)
    have hstep := hok.step (g := 1 + ((s / (50 * sizes.length) % 40 : Nat) : Int)) h.sz hi hr (by omega) (by omega)
    have ha1 := hok.a1
    have ha0 := hok.a0
    refine ⟨.normal, stM (sizes.map encI) s sizes.length _ (i + 1 : Nat) key _, ?_, .inl ⟨rfl, j, by omega, i + 1, _, _, rfl, hstep, by omega⟩⟩
    have hlt : realP.cm .lss (i : Int) (sizes.length : Int) = true := lss_t (by omega)
    have hp : realP.ar .add .i64 (i : Int) 1 = ((i + 1 : Nat) : Int) := by rw [add64 (by omega) (by omega)]; simp
    have hadd : realP.ar .add .i64 (i : Int) (s : Int) = ((i + s : Nat) : Int) := by rw [add64 (by omega) (by omega)]; simp
    have hrem : realP.ar .rem .i64 ((i + s : Nat) : Int) (sizes.length : Int) = Int.ofNat ((i + s) % sizes.length) := by rw [rem64]; exact tmod_ofNat _ _
    have hmul : realP.ar .mul .i64 50 (sizes.length : Int) = Int.ofNat (50 * sizes.length - 1 + 1) := by rw [mul64 (by omega) (by omega)]; simp only [Int.ofNat_eq_natCast]; omega
    have hquo : realP.ar .quo .i64 (s : Int) (Int.ofNat (50 * sizes.length - 1 + 1)) = Int.ofNat (s / (50 * sizes.length)) := by
      have e : 50 * sizes.length - 1 + 1 = 50 * sizes.length := by omega
      rw [e]
      have hq : s / (50 * sizes.length) ≤ s := Nat.div_le_self _ _
      have ht : (s : Int).tdiv (Int.ofNat (50 * sizes.length)) = Int.ofNat (s / (50 * sizes.length)) := rfl
      generalize s / (50 * sizes.length) = q at *
      rw [quo64 (by rw [ht]; simp only [Int.ofNat_eq_natCast]; omega) (by rw [ht]; simp only [Int.ofNat_eq_natCast]; omega)]; exact ht
    have hrem2 : realP.ar .rem .i64 (Int.ofNat (s / (50 * sizes.length))) (Int.ofNat 40) = Int.ofNat (s / (50 * sizes.length) % 40) := by rw [rem64]; rfl
    have hinZ : realP.inb (sizes.map encI) ((i + s) % sizes.length) 1 = true := inb_map hr rfl (by decide)
    have hinB : realP.inb (B.map encI) ((i + s) % sizes.length) 1 = true := inb_map hrB rfl (by decide)
    have hel : realP.elt (sizes.map encI) ((i + s) % sizes.length) = [.v (.int .i64 sizes[(i + s) % sizes.length])] := elt_map hr
    have hset : realP.setC (B.map encI) ((i + s) % sizes.length, 1, 0) [] (.v (.int .i64 a)) = (B.set ((i + s) % sizes.length) a).map encI := setC_map (f := encI) hrB rfl
    have hget : realP.getC (B.map encI) ((i + s) % sizes.length, 1, 0) [] = some (.v (.int .i64 B[(i + s) % sizes.length])) := getC_map hrB rfl rfl
    have hA1 : realP.ar .add .i64 sizes[(i + s) % sizes.length] 1 = sizes[(i + s) % sizes.length] + 1 := add64 (by have := hx.1; omega) (by have := hx.2; omega)
    have hA2 : realP.ar .add .i64 (sizes[(i + s) % sizes.length] + 1) (Int.ofNat (s / (50 * sizes.length) % 40)) = sizes[(i + s) % sizes.length] + 1 + ((s / (50 * sizes.length) % 40 : Nat) : Int) := add64 (by have := hx.1; simp only [Int.ofNat_eq_natCast]; omega) (by have := hx.2; simp only [Int.ofNat_eq_natCast]; omega)
    have hA3 : realP.ar .add .i64 a (sizes[(i + s) % sizes.length] + 1 + ((s / (50 * sizes.length) % 40 : Nat) : Int)) = a + sizes[(i + s) % sizes.length] + (1 + ((s / (50 * sizes.length) % 40 : Nat) : Int)) := by
      rw [add64 (by have := hx.1; omega) (by have := hx.2; omega)]; omega
    obtain ⟨n1, hn1⟩ : ∃ n1, sizes.length = n1 + 1 := ⟨sizes.length - 1, by omega⟩
    simp only [stM, stM']
    clear hstep
    generalize hR : (i + s) % sizes.length = r at *
    generalize hS : sizes[r] = sz at *
    generalize B[r] = old at *
    generalize s / (50 * sizes.length) = q at *
    generalize 50 * sizes.length - 1 = n50 at *
    simp only [Int.ofNat_eq_natCast] at *
    generalize sz + 1 + ((q % 40 : Nat) : Int) = u2 at *
    generalize a + sz + (1 + ((q % 40 : Nat) : Int)) = a2 at *
    generalize ((q % 40 : Nat) : Int) = u1 at *
    generalize sz + 1 = s1 at *
    generalize ((q : Nat) : Int) = q0 at *
    generalize (B.set r a).map encI = W2 at *
    generalize B.map encI = W at *
    generalize sizes.map encI = Z at *
    generalize ((i + 1 : Nat) : Int) = i1 at *
    generalize ((i + s : Nat) : Int) = is at *
    generalize (i : Int) = i0 at *
    generalize (s : Int) = s0 at *
    rw [hn1] at *
    simp only [← Int.ofNat_eq_natCast] at *
    (generalize realP = Pr at *; obtain ⟨ar, cm, sh, sb, un, cv, natI, lenN, inb, inw, elt, addN, subN, slOk, win, immC, immW, allLen, appOk, cat, mkOk, rep, getC, setC, shC, eqf, eqB, notB, fmm, strAt, strLen, strB, strOk, bstr, cpy, it⟩ := Pr; try dsimp only at *)
    ((repeat (cbv; first | done | rw [hlt] | rw [hadd] | rw [hrem] | rw [if_pos hinB] | rw [if_pos hinZ] | rw [hget] | rw [hset] | rw [hel] | rw [hmul] | rw [hquo] | rw [hrem2] | rw [hA1] | rw [hA2] | rw [hA3] | rw [hp])); try cbv)
set_option maxRecDepth 100000 in
set_option maxHeartbeats 16000000 in
theorem make_run (hb : box 19 = none) (hV : Val02C F) (hN : 200 ≤ N) (sizes : List Int) (h : SizesOk sizes) (s : Nat) (hs : s ≤ 1073741823) :
    ∃ B key, runT ⟨box, ps⟩ F N tfMake [.sl (sizes.map encI), .v (.int .i64 (s : Int))] [] = some (⟨[.ow (B.map encI), .v (.int .u16 key), .v (.int .i64 0)], [.agg 2, .one]⟩, []) ∧ LayOk sizes B := by
  rw [← S.runT_real]
  have hl := h.l1
  have hl0 := h.l0
  obtain ⟨key, hkey⟩ : ∃ key, realP.cv .u16 (realP.ar .mul .i64 40503 (s : Int)) = key := ⟨_, rfl⟩
  have hV := hV sizes h
  have hlen : realP.natI (realP.lenN (sizes.map encI)) = sizes.length := lenI_map encI sizes
  have n1 : realP.notB true = false := rfl
  have n2 : realP.eqB false false = true := rfl
  have c1 : realP.cm .lss (s : Int) 0 = false := lss_f (by omega)
  have c2 : realP.cm .gtr (s : Int) 1073741824 = false := gtr_f (by omega)
  have hok : MkOk sizes (List.replicate sizes.length 0) s 0 (1 + ((s / sizes.length % 50 : Nat) : Int)) := by
    refine ⟨by simp, by omega, by omega, ?_, ?_⟩
    · rintro r _ _ ⟨j, hj, _⟩; omega
    · rintro r q _ _ _ _ ⟨j, hj, _⟩; omega
  obtain ⟨e, σ', hL, a, B, rfl, rfl, hB⟩ := make_loop F N ⟨box, ps⟩ sizes h s (by omega) key sizes.length N _ ⟨0, _, _, rfl, hok, by omega⟩ (by omega)
  refine ⟨B, key, ?_, hB⟩
  have hquo : realP.ar .quo .i64 (s : Int) (sizes.length : Int) = ((s / sizes.length : Nat) : Int) := by
    have hq : s / sizes.length ≤ s := Nat.div_le_self _ _
    have ht : (s : Int).tdiv (sizes.length : Int) = ((s / sizes.length : Nat) : Int) := rfl
    generalize s / sizes.length = q at *
    rw [quo64 (by rw [ht]; omega) (by rw [ht]; omega)]; exact ht
  have hrem : realP.ar .rem .i64 ((s / sizes.length : Nat) : Int) (Int.ofNat 50) = ((s / sizes.length % 50 : Nat) : Int) := by rw [rem64]; rfl
  have hA : realP.ar .add .i64 1 ((s / sizes.length % 50 : Nat) : Int) = 1 + ((s / sizes.length % 50 : Nat) : Int) := by
    have := Nat.mod_lt (s / sizes.length) (by decide : 0 < 50)
    rw [add64 (by omega) (by omega)]
  obtain ⟨n1, hn1⟩ : ∃ n1, sizes.length = n1 + 1 := ⟨sizes.length - 1, by omega⟩
  have hmk : realP.mkOk (n1 + 1) (n1 + 1) 1 = true := by simp [realP]; omega
  have hrep : realP.rep (n1 + 1) [.v (.int .i64 0)] = (List.replicate sizes.length 0).map encI := by rw [hn1]; simp [realP, encI]
  simp only [stM, stM', Int.natCast_zero] at *
  generalize (List.replicate sizes.length 0).map encI = R at *
  generalize B.map encI = W at *
  generalize 1 + ((s / sizes.length % 50 : Nat) : Int) = u1 at *
  generalize ((s / sizes.length % 50 : Nat) : Int) = u2 at *
  generalize ((s / sizes.length : Nat) : Int) = u3 at *
  generalize sizes.map encI = Z at *
  generalize (s : Int) = s0 at *
  rw [hn1] at *
  simp only [← Int.ofNat_eq_natCast] at *
  (generalize realP = Pr at *; obtain ⟨ar, cm, sh, sb, un, cv, natI, lenN, inb, inw, elt, addN, subN, slOk, win, immC, immW, allLen, appOk, cat, mkOk, rep, getC, setC, shC, eqf, eqB, notB, fmm, strAt, strLen, strB, strOk, bstr, cpy, it⟩ := Pr; try dsimp only at *)
  ((repeat (cbv; first | done | rw [hb] | rw [hV] | rw [n1] | rw [n2] | rw [c1] | rw [c2] | rw [hlen] | rw [if_pos hmk] | rw [hrep] | rw [hkey] | rw [hquo] | rw [hrem] | rw [hA] | rw [hL])); try cbv)
end
end Go.Proofs.Ytjmfjjmdfikanaa
