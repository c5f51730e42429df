/- What a deck makes: rows of words, sizes, on trees. -/
import Derived.Test.YtjmfjjmdfikanaaQh
set_option linter.unusedVariables false
set_option linter.unusedSimpArgs false
namespace Go.Proofs.Ytjmfjjmdfikanaa
open Go.RowKit

def encW (x : Int) : List TV := [.v (.int .u16 x)]
def IsU16 (x : Int) : Prop := 0 ≤ x ∧ x < 65536
def WordsC (F : Callee) : Prop := ∀ l k n, DeckOk l k → 0 ≤ n → n ≤ 4294967296 → ∃ (xs : List Int) (k' : Nat), F 13 [.ptr ⟨2, 0, []⟩ [0], .v (.int .i64 n)] [(2, encD l k)] = some (⟨[.ow (xs.map encW)], [.one]⟩, [(2, encD l k')]) ∧ DeckOk l k' ∧ (∀ x ∈ xs, IsU16 x) ∧ xs.length ≤ n

def stW (l : List Int) (k : Nat) (xs : List Int) (j : Int) : St := ⟨[(0, .ptr ⟨2, 0, []⟩ [0]), (5, .pk ⟨13, 0, []⟩ [0, 0]), (6, .v (.int .i64 j))], [(2, encD l k), (13, [.ow (xs.map encW)])], []⟩
def stW' (l : List Int) (k : Nat) (xs : List Int) : St := ⟨[(0, .ptr ⟨2, 0, []⟩ [0]), (5, .pk ⟨13, 0, []⟩ [0, 0]), (6, .v (.int .i64 0)), (12, .v (.bool false))], [(2, encD l k), (13, [.ow (xs.map encW)])], []⟩
set_option maxRecDepth 100000 in
set_option maxHeartbeats 4000000 in
theorem words_loop (box ps) (F : Callee) (N : Nat) (hbox : box 27 = none) (hW : WordC F) (l : List Int) (n : Nat) (hn : n ≤ 4294967296) : ∀ j m σ, (∃ k xs, σ = stW l k xs (j : Nat) ∧ DeckOk l k ∧ (∀ x ∈ xs, IsU16 x) ∧ xs.length + j ≤ n) → j < m →
    ∃ e σ', realP.it (S.runC realP (S.evCall realP ⟨box, ps⟩ F) N (.seq (.seq (.reg 3 none [{ dst := some 11, guard := none, op := .mov (.t 6) }, { dst := some 12, guard := none, op := .bin (.gtr) (.t 11) (.c (.int (.i64) 0)) }] ([0, 5, 6, 12], [2, 3, 12, 13, 14, 15, 26, 27])) (.cond (.t 12) (.skip) (.exit 0))) (.seq (.block 1 (.reg 5 none [{ dst := some 15, guard := none, op := .mov (.t 5) }, { dst := some 16, guard := none, op := .mov (.t 0) }, { dst := some 17, guard := none, op := .call true (.f 27) [(some 2, .t 16)] }, { dst := some 18, guard := none, op := .bsl 1 true 1 [.t 17] }, { dst := some 19, guard := none, op := .app 1 2 true (.t 15) (.t 18) }, { dst := some 5, guard := none, op := .asn true (.t 19) }] ([0, 5, 6], [2, 3, 12, 13, 14, 15]))) (.reg 4 none [{ dst := some 13, guard := none, op := .mov (.t 6) }, { dst := some 14, guard := none, op := .bin (.sub) (.t 13) (.c (.int (.i64) 1)) }, { dst := some 6, guard := none, op := .asn true (.t 14) }] ([0, 5, 6], [2, 3, 12, 13, 14, 15]))))) m σ = some (e, σ') ∧ ∃ k xs, e = .exit 0 ∧ σ' = stW' l k xs ∧ DeckOk l k ∧ (∀ x ∈ xs, IsU16 x) ∧ xs.length ≤ n := by
  refine it_some _ _ ?_
  rintro j σ ⟨k, xs, rfl, hd, hx, hl⟩
  cases j with
  | zero =>
    refine ⟨.exit 0, stW' l k xs, ?_, .inr ⟨by simp, k, xs, rfl, rfl, hd, hx, by omega⟩⟩
    have hc : realP.cm .gtr 0 0 = false := rfl
    simp only [stW, stW', encD, Int.natCast_zero]
    generalize l.map encI = c at *
    generalize xs.map encW = b at *
    generalize (k : Int) = i0 at *
    (generalize realP = Pr at *; obtain ⟨ar, cm, sh, sb, un, cv, natI, lenN, inb, inw, elt, addN, subN, slOk, win, immC, immW, allLen, appOk, cat, mkOk, rep, getC, setC, shC, eqf, eqB, notB, fmm, strAt, strLen, strB, strOk, bstr, cpy, it⟩ := Pr; try dsimp only at *)
    ((repeat (cbv; first | done | rw [hc])); try cbv)
  | succ j =>
    obtain ⟨v, k1, h1, hd1, g1, g2⟩ := hW l k hd
    refine ⟨.normal, stW l k1 (xs ++ [v]) j, ?_, .inl ⟨rfl, j, by omega, k1, xs ++ [v], rfl, hd1, ?_, by simp; omega⟩⟩
    · have hc : realP.cm .gtr ((j + 1 : Nat) : Int) 0 = true := gtr_t (by omega)
      have hs : realP.ar .sub .i64 ((j + 1 : Nat) : Int) 1 = j := by rw [sub64 (by omega) (by omega)]; omega
      have ha : realP.appOk 1 2 (xs.map encW) [[.v (.int .u16 v)]] = true := appOk_map (l' := [v]) (fun _ => rfl) (by simp; omega) (by simp; omega)
      have hcat : realP.cat (xs.map encW) [[.v (.int .u16 v)]] = (xs ++ [v]).map encW := cat_map xs [v]
      simp only [stW, encD] at *
      generalize l.map encI = c at *
      generalize (xs ++ [v]).map encW = b2 at *
      generalize xs.map encW = b at *
      generalize (k : Int) = i0 at *
      generalize (k1 : Int) = i1 at *
      generalize ((j + 1 : Nat) : Int) = j1 at *
      generalize (j : Int) = j0 at *
      (generalize realP = Pr at *; obtain ⟨ar, cm, sh, sb, un, cv, natI, lenN, inb, inw, elt, addN, subN, slOk, win, immC, immW, allLen, appOk, cat, mkOk, rep, getC, setC, shC, eqf, eqB, notB, fmm, strAt, strLen, strB, strOk, bstr, cpy, it⟩ := Pr; try dsimp only at *)
      ((repeat (cbv; first | done | rw [hc] | rw [hbox] | rw [h1] | rw [if_pos ha] | rw [hcat] | rw [hs])); try cbv)
    · intro x hx'
      rcases List.mem_append.1 hx' with h | h
      · exact hx x h
      · rw [List.mem_singleton.1 h]; exact ⟨g1, g2⟩

set_option maxRecDepth 100000 in
set_option maxHeartbeats 4000000 in
theorem words_run (box ps) (F : Callee) (N : Nat) (hbox : box 27 = none) (hbox2 : box 14 = none) (hW : WordC F) (hN : NextC F) (l k) (n : Nat) (hn : n ≤ 4294967296) (hNn : n < N) (hd : DeckOk l k) :
    ∃ (xs : List Int) (k' : Nat), runT ⟨box, ps⟩ F N tfWords [.ptr ⟨2, 0, []⟩ [0], .v (.int .i64 n)] [(2, encD l k)] = some (⟨[.ow (xs.map encW)], [.one]⟩, [(2, encD l k')]) ∧ DeckOk l k' ∧ (∀ x ∈ xs, IsU16 x) ∧ xs.length ≤ n := by
  rw [← S.runT_real]
  obtain ⟨v, k1, h1, hd1, g1, g2⟩ := hN l k ((n : Int) + 1) hd (by omega) (by omega)
  obtain ⟨j, rfl⟩ : ∃ j : Nat, v = j := ⟨v.toNat, by omega⟩
  obtain ⟨e, σ', hi, k2, xs, rfl, rfl, hd2, hx, hl⟩ := words_loop box ps F N hbox hW l n hn j N _ ⟨k1, [], rfl, hd1, fun x hx => by simp at hx, by simp; omega⟩ (by omega)
  refine ⟨xs, k2, ?_, hd2, hx, hl⟩
  have ha : realP.ar .add .i64 (n : Int) 1 = (n : Int) + 1 := add64 (by omega) (by omega)
  simp only [stW, stW', encD, List.map_nil] at *
  generalize l.map encI = c at *
  generalize xs.map encW = b at *
  generalize (k : Int) = i0 at *
  generalize (k1 : Int) = i1 at *
  generalize (k2 : Int) = i2 at *
  generalize (j : Int) = j0 at *
  generalize (n : Int) + 1 = n1 at *
  generalize (n : Int) = n0 at *
  (generalize realP = Pr at *; obtain ⟨ar, cm, sh, sb, un, cv, natI, lenN, inb, inw, elt, addN, subN, slOk, win, immC, immW, allLen, appOk, cat, mkOk, rep, getC, setC, shC, eqf, eqB, notB, fmm, strAt, strLen, strB, strOk, bstr, cpy, it⟩ := Pr; try dsimp only at *)
  ((repeat (cbv; first | done | rw [ha] | rw [hbox2] | rw [h1] | rw [hi])); try cbv)

/-! ## Sizes -/
def IsSize (x : Int) : Prop := 1 ≤ x ∧ x ≤ 32
def SizesC (F : Callee) : Prop := ∀ l k, DeckOk l k → ∃ (xs : List Int) (k' : Nat), F 12 [.ptr ⟨2, 0, []⟩ [0]] [(2, encD l k)] = some (⟨[.ow (xs.map encI)], [.one]⟩, [(2, encD l k')]) ∧ DeckOk l k' ∧ (∀ x ∈ xs, IsSize x) ∧ 1 ≤ xs.length ∧ xs.length ≤ 4
def stZ (l : List Int) (k : Nat) (xs : List Int) (j : Int) : St := ⟨[(0, .ptr ⟨2, 0, []⟩ [0]), (3, .pk ⟨9, 0, []⟩ [0, 0]), (4, .v (.int .i64 j))], [(2, encD l k), (9, [.ow (xs.map encI)])], []⟩
def stZ' (l : List Int) (k : Nat) (xs : List Int) : St := ⟨[(0, .ptr ⟨2, 0, []⟩ [0]), (3, .pk ⟨9, 0, []⟩ [0, 0]), (4, .v (.int .i64 0)), (12, .v (.bool false))], [(2, encD l k), (9, [.ow (xs.map encI)])], []⟩
set_option maxRecDepth 100000 in
set_option maxHeartbeats 4000000 in
theorem sizes_loop (box ps) (F : Callee) (N : Nat) (hbox : box 14 = none) (hN : NextC F) (l : List Int) (n : Nat) (hn : n ≤ 4) : ∀ j m σ, (∃ k xs, σ = stZ l k xs (j : Nat) ∧ DeckOk l k ∧ (∀ x ∈ xs, IsSize x) ∧ 1 ≤ xs.length ∧ xs.length + j ≤ n) → j < m →
    ∃ e σ', realP.it (S.runC realP (S.evCall realP ⟨box, ps⟩ F) N (.seq (.seq (.reg 3 none [{ dst := some 11, guard := none, op := .mov (.t 4) }, { dst := some 12, guard := none, op := .bin (.gtr) (.t 11) (.c (.int (.i64) 0)) }] ([0, 3, 4, 12], [2, 3, 8, 9, 10, 11, 26, 27])) (.cond (.t 12) (.skip) (.exit 0))) (.seq (.block 1 (.reg 5 none [{ dst := some 15, guard := none, op := .mov (.t 3) }, { dst := some 16, guard := none, op := .mov (.t 0) }, { dst := some 17, guard := none, op := .bsl 1 true 3 [.c (.int (.i64) 6), .c (.int (.i64) 12), .c (.int (.i64) 32)] }, { dst := some 18, guard := none, op := .mov (.t 0) }, { dst := some 19, guard := none, op := .call true (.f 14) [(some 2, .t 18), (none, .c (.int (.i64) 3))] }, { dst := some 20, guard := none, op := .idx 1 (.t 17) (.t 19) }, { dst := some 21, guard := none, op := .load none (.t 20) }, { dst := some 22, guard := none, op := .call true (.f 14) [(some 2, .t 16), (none, .t 21)] }, { dst := some 23, guard := none, op := .bin (.add) (.c (.int (.i64) 1)) (.t 22) }, { dst := some 24, guard := none, op := .bsl 1 true 1 [.t 23] }, { dst := some 25, guard := none, op := .app 1 8 true (.t 15) (.t 24) }, { dst := some 3, guard := none, op := .asn true (.t 25) }] ([0, 3, 4], [2, 3, 8, 9, 10, 11]))) (.reg 4 none [{ dst := some 13, guard := none, op := .mov (.t 4) }, { dst := some 14, guard := none, op := .bin (.sub) (.t 13) (.c (.int (.i64) 1)) }, { dst := some 4, guard := none, op := .asn true (.t 14) }] ([0, 3, 4], [2, 3, 8, 9, 10, 11]))))) m σ = some (e, σ') ∧ ∃ k xs, e = .exit 0 ∧ σ' = stZ' l k xs ∧ DeckOk l k ∧ (∀ x ∈ xs, IsSize x) ∧ 1 ≤ xs.length ∧ xs.length ≤ n := by
  refine it_some _ _ ?_
  rintro j σ ⟨k, xs, rfl, hd, hx, hl1, hl⟩
  cases j with
  | zero =>
    refine ⟨.exit 0, stZ' l k xs, ?_, .inr ⟨by simp, k, xs, rfl, rfl, hd, hx, hl1, by omega⟩⟩
    have hc : realP.cm .gtr 0 0 = false := rfl
    simp only [stZ, stZ', encD, Int.natCast_zero]
    generalize l.map encI = c at *
    generalize xs.map encI = b at *
    generalize (k : Int) = i0 at *
    (generalize realP = Pr at *; obtain ⟨ar, cm, sh, sb, un, cv, natI, lenN, inb, inw, elt, addN, subN, slOk, win, immC, immW, allLen, appOk, cat, mkOk, rep, getC, setC, shC, eqf, eqB, notB, fmm, strAt, strLen, strB, strOk, bstr, cpy, it⟩ := Pr; try dsimp only at *)
    ((repeat (cbv; first | done | rw [hc])); try cbv)
  | succ j =>
    obtain ⟨u, k1, h1, hd1, g1, g2⟩ := hN l k 3 hd (by decide) (by decide)
    obtain ⟨m, hm, hm1, hm2⟩ : ∃ m : Int, realP.elt [[.v (.int .i64 6)], [.v (.int .i64 12)], [.v (.int .i64 32)]] u.toNat = [.v (.int .i64 m)] ∧ 0 < m ∧ m ≤ 32 := by
      obtain rfl | rfl | rfl : u = 0 ∨ u = 1 ∨ u = 2 := by omega
      · exact ⟨6, rfl, by omega, by omega⟩
      · exact ⟨12, rfl, by omega, by omega⟩
      · exact ⟨32, rfl, by omega, by omega⟩
    have hin : realP.inb [[.v (.int .i64 6)], [.v (.int .i64 12)], [.v (.int .i64 32)]] u.toNat 1 = true := by
      obtain rfl | rfl | rfl : u = 0 ∨ u = 1 ∨ u = 2 := by omega
      all_goals rfl
    have hg : realP.getC [[.v (.int .i64 6)], [.v (.int .i64 12)], [.v (.int .i64 32)]] (u.toNat, 1, 0) [] = some (.v (.int .i64 m)) := by
      obtain rfl | rfl | rfl : u = 0 ∨ u = 1 ∨ u = 2 := by omega
      all_goals (injection hm with hm; injection hm with hm; injection hm with _ hm; rw [← hm]; rfl)
    obtain ⟨u, rfl⟩ : ∃ u' : Nat, u = .ofNat u' := ⟨u.toNat, by simp only [Int.ofNat_eq_natCast]; omega⟩
    simp only [Int.ofNat_eq_natCast, Int.toNat_natCast] at hm hg hin h1
    obtain ⟨v, k2, h2, hd2, g3, g4⟩ := hN l k1 m hd1 hm1 (by omega)
    have hv : realP.ar .add .i64 1 v = 1 + v := add64 (by omega) (by omega)
    refine ⟨.normal, stZ l k2 (xs ++ [1 + v]) j, ?_, .inl ⟨rfl, j, by omega, k2, xs ++ [1 + v], rfl, hd2, ?_, by simp, by simp; omega⟩⟩
    · have hc : realP.cm .gtr ((j + 1 : Nat) : Int) 0 = true := gtr_t (by omega)
      have hs : realP.ar .sub .i64 ((j + 1 : Nat) : Int) 1 = j := by rw [sub64 (by omega) (by omega)]; omega
      have ha : realP.appOk 1 8 (xs.map encI) [[.v (.int .i64 (1 + v))]] = true := appOk_map (l' := [1 + v]) (fun _ => rfl) (by simp; omega) (by simp; omega)
      have hcat : realP.cat (xs.map encI) [[.v (.int .i64 (1 + v))]] = (xs ++ [1 + v]).map encI := cat_map xs [1 + v]
      simp only [stZ, encD] at *
      generalize l.map encI = c at *
      generalize (xs ++ [1 + v]).map encI = b2 at *
      generalize xs.map encI = b at *
      generalize (k : Int) = i0 at *
      generalize (k1 : Int) = i1 at *
      generalize (k2 : Int) = i2 at *
      generalize ((j + 1 : Nat) : Int) = j1 at *
      generalize (j : Int) = j0 at *
      generalize 1 + v = v1 at *
      (generalize realP = Pr at *; obtain ⟨ar, cm, sh, sb, un, cv, natI, lenN, inb, inw, elt, addN, subN, slOk, win, immC, immW, allLen, appOk, cat, mkOk, rep, getC, setC, shC, eqf, eqB, notB, fmm, strAt, strLen, strB, strOk, bstr, cpy, it⟩ := Pr; try dsimp only at *)
      ((repeat (cbv; first | done | rw [hc] | rw [hbox] | rw [h1] | rw [if_pos hin] | rw [hg] | rw [h2] | rw [hv] | rw [if_pos ha] | rw [hcat] | rw [hs])); try cbv)
    · intro x hx'
      rcases List.mem_append.1 hx' with h | h
      · exact hx x h
      · rw [List.mem_singleton.1 h]; exact ⟨by omega, by omega⟩
end Go.Proofs.Ytjmfjjmdfikanaa
/- Instructions that a deck makes, on trees. -/
set_option linter.unusedVariables false
set_option linter.unusedSimpArgs false
namespace Go.Proofs.Ytjmfjjmdfikanaa
open Go.RowKit

/-- An instruction: its code, three registers, a number. -/
structure In where
  op : Int
  a : Int
  b : Int
  c : Int
  imm : Int
def encIn (x : In) : List TV := [.v (.int .i64 x.op), .v (.int .i64 x.a), .v (.int .i64 x.b), .v (.int .i64 x.c), .v (.int .i64 x.imm)]
structure OkIn (x : In) : Prop where
  op0 : 0 ≤ x.op
  op1 : x.op ≤ 24
  imm0 : 0 ≤ x.imm
  imm1 : x.imm < 65536

def tfLi : TFn := { np := 2, pp := [], nt := 8, body := .seq (.reg 0 none [{ dst := some 4, guard := none, op := .alloc [.int (.i64) 0, .int (.i64) 0, .int (.i64) 0, .int (.i64) 0, .int (.i64) 0] }] ([0, 1, 4], [2, 3, 4, 5, 10, 11])) (.seq (.reg 1 none [{ dst := some 5, guard := none, op := .mov (.t 0) }, { dst := some 6, guard := none, op := .mov (.t 1) }, { dst := some 7, guard := none, op := .bld [.int (.i64) 0, .int (.i64) 0, .int (.i64) 0, .int (.i64) 0, .int (.i64) 0] true [(0, 1, .c (.int (.i64) 1)), (1, 1, .t 5), (4, 1, .t 6)] }, { dst := none, guard := none, op := .store 5 true (.t 4) (.t 7) }] ([4], [10, 11])) (.ret)), res := [.cell 4 (some 5)] }
def tfSys : TFn := { np := 1, pp := [], nt := 5, body := .seq (.reg 0 none [{ dst := some 2, guard := none, op := .alloc [.int (.i64) 0, .int (.i64) 0, .int (.i64) 0, .int (.i64) 0, .int (.i64) 0] }] ([0, 2], [2, 3, 6, 7])) (.seq (.reg 1 none [{ dst := some 3, guard := none, op := .mov (.t 0) }, { dst := some 4, guard := none, op := .bld [.int (.i64) 0, .int (.i64) 0, .int (.i64) 0, .int (.i64) 0, .int (.i64) 0] true [(0, 1, .c (.int (.i64) 23)), (4, 1, .t 3)] }, { dst := none, guard := none, op := .store 5 true (.t 2) (.t 4) }] ([2], [6, 7])) (.ret)), res := [.cell 2 (some 5)] }
def tfMov : TFn := { np := 2, pp := [], nt := 8, body := .seq (.reg 0 none [{ dst := some 4, guard := none, op := .alloc [.int (.i64) 0, .int (.i64) 0, .int (.i64) 0, .int (.i64) 0, .int (.i64) 0] }] ([0, 1, 4], [2, 3, 4, 5, 10, 11])) (.seq (.reg 1 none [{ dst := some 5, guard := none, op := .mov (.t 0) }, { dst := some 6, guard := none, op := .mov (.t 1) }, { dst := some 7, guard := none, op := .bld [.int (.i64) 0, .int (.i64) 0, .int (.i64) 0, .int (.i64) 0, .int (.i64) 0] true [(0, 1, .c (.int (.i64) 2)), (1, 1, .t 5), (2, 1, .t 6)] }, { dst := none, guard := none, op := .store 5 true (.t 4) (.t 7) }] ([4], [10, 11])) (.ret)), res := [.cell 4 (some 5)] }
def tfUses : TFn := { np := 1, pp := [], nt := 30, body := .seq (.reg 0 none [{ dst := some 2, guard := none, op := .alloc [.bool false, .bool false, .bool false, .bool false] }] ([0, 2], [2, 3, 6, 7])) (.seq (.seq (.reg 1 none [{ dst := some 3, guard := none, op := .mov (.t 0) }] ([2, 3], [2, 3, 6, 7, 8, 9])) (.block 0 (.seq (.seq (.reg 2 none [{ dst := some 5, guard := none, op := .bin (.eql) (.t 3) (.c (.int (.i64) 1)) }, { dst := some 4, guard := none, op := .asn true (.t 5) }] ([2, 3, 4], [2, 3, 6, 7, 8, 9, 10, 11])) (.cond (.t 4) (.nrm ([2, 3, 4], [2, 3, 6, 7, 8, 9, 10, 11])) (.seq (.reg 3 none [{ dst := some 6, guard := none, op := .bin (.eql) (.t 3) (.c (.int (.i64) 15)) }, { dst := some 4, guard := none, op := .asn true (.t 6) }] ([2, 3, 4], [2, 3, 6, 7, 8, 9, 10, 11])) (.cond (.t 4) (.nrm ([2, 3, 4], [2, 3, 6, 7, 8, 9, 10, 11])) (.seq (.reg 4 none [{ dst := some 7, guard := none, op := .bin (.eql) (.t 3) (.c (.int (.i64) 19)) }, { dst := some 4, guard := none, op := .asn true (.t 7) }] ([2, 3, 4], [2, 3, 6, 7, 8, 9, 10, 11])) (.cond (.t 4) (.nrm ([2, 3, 4], [2, 3, 6, 7, 8, 9, 10, 11])) (.seq (.reg 5 none [{ dst := some 8, guard := none, op := .bin (.eql) (.t 3) (.c (.int (.i64) 20)) }, { dst := some 4, guard := none, op := .asn true (.t 8) }] ([2, 3, 4], [2, 3, 6, 7, 8, 9, 10, 11])) (.cond (.t 4) (.nrm ([2, 3, 4], [2, 3, 6, 7, 8, 9, 10, 11])) (.reg 6 none [{ dst := some 9, guard := none, op := .bin (.eql) (.t 3) (.c (.int (.i64) 21)) }, { dst := some 4, guard := none, op := .asn true (.t 9) }] ([2, 3, 4], [2, 3, 6, 7, 8, 9, 10, 11])))))))))) (.cond (.t 4) (.seq (.reg 7 none [{ dst := some 10, guard := none, op := .bld [.bool false, .bool false, .bool false, .bool false] true [(0, 1, .c (.bool true)), (1, 1, .c (.bool false)), (2, 1, .c (.bool false)), (3, 1, .c (.bool true))] }, { dst := none, guard := none, op := .store 4 true (.t 2) (.t 10) }] ([2], [6, 7])) (.ret)) (.seq (.reg 8 none [{ dst := some 12, guard := none, op := .bin (.eql) (.t 3) (.c (.int (.i64) 2)) }, { dst := some 11, guard := none, op := .asn true (.t 12) }] ([2, 3, 11], [2, 3, 6, 7, 8, 9, 24, 25])) (.cond (.t 11) (.seq (.reg 9 none [{ dst := some 13, guard := none, op := .bld [.bool false, .bool false, .bool false, .bool false] true [(0, 1, .c (.bool true)), (1, 1, .c (.bool true)), (2, 1, .c (.bool false)), (3, 1, .c (.bool false))] }, { dst := none, guard := none, op := .store 4 true (.t 2) (.t 13) }] ([2], [6, 7])) (.ret)) (.seq (.seq (.reg 10 none [{ dst := some 15, guard := none, op := .bin (.eql) (.t 3) (.c (.int (.i64) 16)) }, { dst := some 14, guard := none, op := .asn true (.t 15) }] ([2, 3, 14], [2, 3, 6, 7, 8, 9, 30, 31])) (.cond (.t 14) (.nrm ([2, 3, 14], [2, 3, 6, 7, 8, 9, 30, 31])) (.reg 11 none [{ dst := some 16, guard := none, op := .bin (.eql) (.t 3) (.c (.int (.i64) 17)) }, { dst := some 14, guard := none, op := .asn true (.t 16) }] ([2, 3, 14], [2, 3, 6, 7, 8, 9, 30, 31])))) (.cond (.t 14) (.seq (.reg 12 none [{ dst := some 17, guard := none, op := .bld [.bool false, .bool false, .bool false, .bool false] true [(0, 1, .c (.bool true)), (1, 1, .c (.bool true)), (2, 1, .c (.bool false)), (3, 1, .c (.bool true))] }, { dst := none, guard := none, op := .store 4 true (.t 2) (.t 17) }] ([2], [6, 7])) (.ret)) (.seq (.seq (.reg 13 none [{ dst := some 19, guard := none, op := .bin (.eql) (.t 3) (.c (.int (.i64) 18)) }, { dst := some 18, guard := none, op := .asn true (.t 19) }] ([2, 3, 18], [2, 3, 6, 7, 8, 9, 38, 39])) (.cond (.t 18) (.nrm ([2, 3, 18], [2, 3, 6, 7, 8, 9, 38, 39])) (.reg 14 none [{ dst := some 20, guard := none, op := .bin (.eql) (.t 3) (.c (.int (.i64) 23)) }, { dst := some 18, guard := none, op := .asn true (.t 20) }] ([2, 3, 18], [2, 3, 6, 7, 8, 9, 38, 39])))) (.cond (.t 18) (.seq (.reg 15 none [{ dst := some 21, guard := none, op := .bld [.bool false, .bool false, .bool false, .bool false] true [(0, 1, .c (.bool false)), (1, 1, .c (.bool false)), (2, 1, .c (.bool false)), (3, 1, .c (.bool true))] }, { dst := none, guard := none, op := .store 4 true (.t 2) (.t 21) }] ([2], [6, 7])) (.ret)) (.seq (.reg 16 none [{ dst := some 23, guard := none, op := .bin (.eql) (.t 3) (.c (.int (.i64) 22)) }, { dst := some 22, guard := none, op := .asn true (.t 23) }] ([2, 3, 22], [2, 3, 6, 7, 8, 9, 46, 47])) (.cond (.t 22) (.seq (.reg 17 none [{ dst := some 24, guard := none, op := .bld [.bool false, .bool false, .bool false, .bool false] true [(0, 1, .c (.bool true)), (1, 1, .c (.bool false)), (2, 1, .c (.bool false)), (3, 1, .c (.bool false))] }, { dst := none, guard := none, op := .store 4 true (.t 2) (.t 24) }] ([2], [6, 7])) (.ret)) (.seq (.seq (.reg 18 none [{ dst := some 26, guard := none, op := .bin (.eql) (.t 3) (.c (.int (.i64) 0)) }, { dst := some 25, guard := none, op := .asn true (.t 26) }] ([2, 3, 25], [2, 3, 6, 7, 8, 9, 52, 53])) (.cond (.t 25) (.nrm ([2, 25], [6, 7, 52, 53])) (.reg 19 none [{ dst := some 27, guard := none, op := .bin (.eql) (.t 3) (.c (.int (.i64) 24)) }, { dst := some 25, guard := none, op := .asn true (.t 27) }] ([2, 25], [6, 7, 52, 53])))) (.cond (.t 25) (.seq (.reg 20 none [{ dst := some 28, guard := none, op := .bld [.bool false, .bool false, .bool false, .bool false] true [] }, { dst := none, guard := none, op := .store 4 true (.t 2) (.t 28) }] ([2], [6, 7])) (.ret)) (.skip))))))))))))))) (.seq (.reg 21 none [{ dst := some 29, guard := none, op := .bld [.bool false, .bool false, .bool false, .bool false] true [(0, 1, .c (.bool true)), (1, 1, .c (.bool true)), (2, 1, .c (.bool true)), (3, 1, .c (.bool false))] }, { dst := none, guard := none, op := .store 4 true (.t 2) (.t 29) }] ([2], [6, 7])) (.ret))), res := [.cell 2 (some 4)] }
def tfJump : TFn := { np := 1, pp := [], nt := 17, body := .seq (.reg 0 none [{ dst := some 2, guard := none, op := .asn true (.c (.bool false)) }] ([0], [2, 3])) (.seq (.reg 1 none [{ dst := some 3, guard := none, op := .mov (.t 0) }, { dst := some 4, guard := none, op := .bin (.eql) (.t 3) (.c (.int (.i64) 18)) }, { dst := some 5, guard := none, op := .mov (.t 4) }, { dst := some 6, guard := some (5, false), op := .mov (.t 0) }, { dst := some 7, guard := some (5, false), op := .bin (.eql) (.t 6) (.c (.int (.i64) 19)) }, { dst := some 8, guard := none, op := .pick (.t 5) (.c (.bool true)) (.t 7) }, { dst := some 9, guard := none, op := .mov (.t 8) }, { dst := some 10, guard := some (9, false), op := .mov (.t 0) }, { dst := some 11, guard := some (9, false), op := .bin (.eql) (.t 10) (.c (.int (.i64) 20)) }, { dst := some 12, guard := none, op := .pick (.t 9) (.c (.bool true)) (.t 11) }, { dst := some 13, guard := none, op := .mov (.t 12) }, { dst := some 14, guard := some (13, false), op := .mov (.t 0) }, { dst := some 15, guard := some (13, false), op := .bin (.eql) (.t 14) (.c (.int (.i64) 21)) }, { dst := some 16, guard := none, op := .pick (.t 13) (.c (.bool true)) (.t 15) }, { dst := some 2, guard := none, op := .asn true (.t 16) }] ([2], [6, 7])) (.ret)), res := [.tmp 2] }
def LiC (F : Callee) : Prop := ∀ r n : Int, F 16 [.v (.int .i64 r), .v (.int .i64 n)] [] = some (⟨encIn ⟨1, r, 0, 0, n⟩, [.agg 5]⟩, [])
def SysC (F : Callee) : Prop := ∀ n : Int, F 17 [.v (.int .i64 n)] [] = some (⟨encIn ⟨23, 0, 0, 0, n⟩, [.agg 5]⟩, [])
def MovC (F : Callee) : Prop := ∀ a b : Int, F 28 [.v (.int .i64 a), .v (.int .i64 b)] [] = some (⟨encIn ⟨2, a, b, 0, 0⟩, [.agg 5]⟩, [])
theorem li_run (E : Env) (F : Callee) (N : Nat) (r n : Int) : runT E F N tfLi [.v (.int .i64 r), .v (.int .i64 n)] [] = some (⟨encIn ⟨1, r, 0, 0, n⟩, [.agg 5]⟩, []) := by kernel_rfl
theorem sys_run (E : Env) (F : Callee) (N : Nat) (n : Int) : runT E F N tfSys [.v (.int .i64 n)] [] = some (⟨encIn ⟨23, 0, 0, 0, n⟩, [.agg 5]⟩, []) := by kernel_rfl
theorem mov_run (E : Env) (F : Callee) (N : Nat) (a b : Int) : runT E F N tfMov [.v (.int .i64 a), .v (.int .i64 b)] [] = some (⟨encIn ⟨2, a, b, 0, 0⟩, [.agg 5]⟩, []) := by kernel_rfl

def boolAt (r : Option (TRes × Pts)) (k : Nat) : Bool :=
  match r with
  | some x => match x.1.cells[k]? with | some (.v (.bool b)) => b | _ => false
  | none => false
def usesB (op : Int) (k : Nat) : Bool := boolAt (runT ⟨fun _ => none, fun _ => []⟩ (fun _ _ _ => none) 0 tfUses [.v (.int .i64 op)] []) k
def jumpB (op : Int) : Bool := boolAt (runT ⟨fun _ => none, fun _ => []⟩ (fun _ _ _ => none) 0 tfJump [.v (.int .i64 op)] []) 0
def UsesC (F : Callee) : Prop := ∀ op : Int, 0 ≤ op → op ≤ 24 → F 35 [.v (.int .i64 op)] [] = some (⟨[.v (.bool (usesB op 0)), .v (.bool (usesB op 1)), .v (.bool (usesB op 2)), .v (.bool (usesB op 3))], [.agg 4]⟩, [])
def JumpC (F : Callee) : Prop := ∀ op : Int, 0 ≤ op → op ≤ 24 → F 18 [.v (.int .i64 op)] [] = some (⟨[.v (.bool (jumpB op))], [.one]⟩, [])
theorem ops_cases {op : Int} (h0 : 0 ≤ op) (h1 : op ≤ 24) : op = 0 ∨ op = 1 ∨ op = 2 ∨ op = 3 ∨ op = 4 ∨ op = 5 ∨ op = 6 ∨ op = 7 ∨ op = 8 ∨ op = 9 ∨ op = 10 ∨ op = 11 ∨ op = 12 ∨ op = 13 ∨ op = 14 ∨ op = 15 ∨ op = 16 ∨ op = 17 ∨ op = 18 ∨ op = 19 ∨ op = 20 ∨ op = 21 ∨ op = 22 ∨ op = 23 ∨ op = 24 := by omega
theorem uses_run (E : Env) (F : Callee) (N : Nat) (op : Int) (h0 : 0 ≤ op) (h1 : op ≤ 24) : runT E F N tfUses [.v (.int .i64 op)] [] = some (⟨[.v (.bool (usesB op 0)), .v (.bool (usesB op 1)), .v (.bool (usesB op 2)), .v (.bool (usesB op 3))], [.agg 4]⟩, []) := by
  obtain rfl | rfl | rfl | rfl | rfl | rfl | rfl | rfl | rfl | rfl | rfl | rfl | rfl | rfl | rfl | rfl | rfl | rfl | rfl | rfl | rfl | rfl | rfl | rfl | rfl := ops_cases h0 h1
  all_goals kernel_rfl
theorem jump_run (E : Env) (F : Callee) (N : Nat) (op : Int) (h0 : 0 ≤ op) (h1 : op ≤ 24) : runT E F N tfJump [.v (.int .i64 op)] [] = some (⟨[.v (.bool (jumpB op))], [.one]⟩, []) := by
  obtain rfl | rfl | rfl | rfl | rfl | rfl | rfl | rfl | rfl | rfl | rfl | rfl | rfl | rfl | rfl | rfl | rfl | rfl | rfl | rfl | rfl | rfl | rfl | rfl | rfl := ops_cases h0 h1
  all_goals kernel_rfl

/-! ## Instr -/
def tfInstr (c1 c2 c3 c4 : TCode) : TFn := { np := 3, pp := [0], nt := 61, body := .seq (.reg 0 none [{ dst := some 6, guard := none, op := .alloc [.int (.i64) 0, .int (.i64) 0, .int (.i64) 0, .int (.i64) 0, .int (.i64) 0] }] ([0, 1, 2, 6], [2, 3, 4, 5, 6, 7, 14, 15])) (.seq (.reg 1 none [{ dst := some 9, guard := none, op := .mov (.t 0) }, { dst := some 10, guard := none, op := .call true (.f 14) [(some 2, .t 9), (none, .c (.int (.i64) 25))] }, { dst := some 11, guard := none, op := .bld [.int (.i64) 0, .int (.i64) 0, .int (.i64) 0, .int (.i64) 0, .int (.i64) 0] true [(0, 1, .t 10)] }, { dst := some 7, guard := none, op := .alloc [.int (.i64) 0, .int (.i64) 0, .int (.i64) 0, .int (.i64) 0, .int (.i64) 0] }, { dst := none, guard := none, op := .store 5 true (.t 7) (.t 11) }] ([0, 1, 2, 6, 7], [2, 3, 4, 5, 6, 7, 14, 15, 16, 17])) (.seq (.reg 2 none [{ dst := some 12, guard := none, op := .fld 0 (.t 7) }, { dst := some 13, guard := none, op := .load none (.t 12) }, { dst := some 14, guard := none, op := .call true (.f 35) [(none, .t 13)] }, { dst := some 8, guard := none, op := .alloc [.bool false, .bool false, .bool false, .bool false] }, { dst := none, guard := none, op := .store 4 true (.t 8) (.t 14) }] ([0, 1, 2, 6, 7, 8], [2, 3, 4, 5, 6, 7, 14, 15, 16, 17, 18, 19])) (.seq c1 (.seq c2 (.seq c3 (.seq (.block 0 c4) (.seq (.reg 17 none [{ dst := some 60, guard := none, op := .load (some 5) (.t 7) }, { dst := none, guard := none, op := .store 5 true (.t 6) (.t 60) }] ([0, 6], [2, 3, 14, 15])) (.ret)))))))), res := [.cell 6 (some 5)] }
def in1 : TCode := (.seq (.reg 3 none [{ dst := some 15, guard := none, op := .idxa 4 1 (.t 8) (.c (.int (.i64) 0)) }, { dst := some 16, guard := none, op := .load none (.t 15) }] ([0, 1, 2, 6, 7, 8, 16], [2, 3, 4, 5, 6, 7, 14, 15, 16, 17, 18, 19, 32, 33, 34, 35])) (.cond (.t 16) (.reg 4 none [{ dst := some 17, guard := none, op := .mov (.t 0) }, { dst := some 18, guard := none, op := .call true (.f 14) [(some 2, .t 17), (none, .c (.int (.i64) 8))] }, { dst := some 19, guard := none, op := .fld 1 (.t 7) }, { dst := none, guard := none, op := .store 1 true (.t 19) (.t 18) }] ([0, 1, 2, 6, 7, 8], [2, 3, 4, 5, 6, 7, 14, 15, 16, 17, 18, 19])) (.nrm ([0, 1, 2, 6, 7, 8], [2, 3, 4, 5, 6, 7, 14, 15, 16, 17, 18, 19]))))
def in2 : TCode := (.seq (.reg 5 none [{ dst := some 20, guard := none, op := .idxa 4 1 (.t 8) (.c (.int (.i64) 1)) }, { dst := some 21, guard := none, op := .load none (.t 20) }] ([0, 1, 2, 6, 7, 8, 21], [2, 3, 4, 5, 6, 7, 14, 15, 16, 17, 18, 19, 42, 43, 44, 45])) (.cond (.t 21) (.reg 6 none [{ dst := some 22, guard := none, op := .mov (.t 0) }, { dst := some 23, guard := none, op := .call true (.f 14) [(some 2, .t 22), (none, .c (.int (.i64) 8))] }, { dst := some 24, guard := none, op := .fld 2 (.t 7) }, { dst := none, guard := none, op := .store 1 true (.t 24) (.t 23) }] ([0, 1, 2, 6, 7, 8], [2, 3, 4, 5, 6, 7, 14, 15, 16, 17, 18, 19])) (.nrm ([0, 1, 2, 6, 7, 8], [2, 3, 4, 5, 6, 7, 14, 15, 16, 17, 18, 19]))))
def in3 : TCode := (.seq (.reg 7 none [{ dst := some 25, guard := none, op := .idxa 4 1 (.t 8) (.c (.int (.i64) 2)) }, { dst := some 26, guard := none, op := .load none (.t 25) }] ([0, 1, 2, 6, 7, 8, 26], [2, 3, 4, 5, 6, 7, 14, 15, 16, 17, 18, 19, 52, 53, 54, 55])) (.cond (.t 26) (.reg 8 none [{ dst := some 27, guard := none, op := .mov (.t 0) }, { dst := some 28, guard := none, op := .call true (.f 14) [(some 2, .t 27), (none, .c (.int (.i64) 8))] }, { dst := some 29, guard := none, op := .fld 3 (.t 7) }, { dst := none, guard := none, op := .store 1 true (.t 29) (.t 28) }] ([0, 1, 2, 6, 7, 8], [2, 3, 4, 5, 6, 7, 14, 15, 16, 17, 18, 19])) (.nrm ([0, 1, 2, 6, 7, 8], [2, 3, 4, 5, 6, 7, 14, 15, 16, 17, 18, 19]))))
def in4 : TCode := (.seq (.reg 9 none [{ dst := some 31, guard := none, op := .fld 0 (.t 7) }, { dst := some 32, guard := none, op := .load none (.t 31) }, { dst := some 33, guard := none, op := .call true (.f 18) [(none, .t 32)] }, { dst := some 30, guard := none, op := .asn true (.t 33) }] ([0, 1, 2, 6, 7, 8, 30], [2, 3, 4, 5, 6, 7, 14, 15, 16, 17, 18, 19, 62, 63])) (.cond (.t 30) (.reg 10 none [{ dst := some 34, guard := none, op := .mov (.t 0) }, { dst := some 35, guard := none, op := .mov (.t 2) }, { dst := some 36, guard := none, op := .call true (.f 14) [(some 2, .t 34), (none, .t 35)] }, { dst := some 37, guard := none, op := .fld 4 (.t 7) }, { dst := none, guard := none, op := .store 1 true (.t 37) (.t 36) }] ([0, 6, 7], [2, 3, 14, 15, 16, 17])) (.seq (.reg 11 none [{ dst := some 39, guard := none, op := .fld 0 (.t 7) }, { dst := some 40, guard := none, op := .load none (.t 39) }, { dst := some 41, guard := none, op := .bin (.eql) (.t 40) (.c (.int (.i64) 15)) }, { dst := some 38, guard := none, op := .asn true (.t 41) }] ([0, 1, 6, 7, 8, 38], [2, 3, 4, 5, 14, 15, 16, 17, 18, 19, 78, 79])) (.cond (.t 38) (.reg 12 none [{ dst := some 42, guard := none, op := .mov (.t 0) }, { dst := some 43, guard := none, op := .mov (.t 1) }, { dst := some 44, guard := none, op := .call true (.f 14) [(some 2, .t 42), (none, .t 43)] }, { dst := some 45, guard := none, op := .fld 4 (.t 7) }, { dst := none, guard := none, op := .store 1 true (.t 45) (.t 44) }] ([0, 6, 7], [2, 3, 14, 15, 16, 17])) (.seq (.reg 13 none [{ dst := some 47, guard := none, op := .fld 0 (.t 7) }, { dst := some 48, guard := none, op := .load none (.t 47) }, { dst := some 49, guard := none, op := .bin (.eql) (.t 48) (.c (.int (.i64) 23)) }, { dst := some 46, guard := none, op := .asn true (.t 49) }] ([0, 6, 7, 8, 46], [2, 3, 14, 15, 16, 17, 18, 19, 94, 95])) (.cond (.t 46) (.reg 14 none [{ dst := some 50, guard := none, op := .mov (.t 0) }, { dst := some 51, guard := none, op := .call true (.f 14) [(some 2, .t 50), (none, .c (.int (.i64) 16))] }, { dst := some 52, guard := none, op := .fld 4 (.t 7) }, { dst := none, guard := none, op := .store 1 true (.t 52) (.t 51) }] ([0, 6, 7], [2, 3, 14, 15, 16, 17])) (.seq (.reg 15 none [{ dst := some 54, guard := none, op := .idxa 4 1 (.t 8) (.c (.int (.i64) 3)) }, { dst := some 55, guard := none, op := .load none (.t 54) }, { dst := some 53, guard := none, op := .asn true (.t 55) }] ([0, 6, 7, 53], [2, 3, 14, 15, 16, 17, 108, 109])) (.cond (.t 53) (.reg 16 none [{ dst := some 56, guard := none, op := .mov (.t 0) }, { dst := some 57, guard := none, op := .call true (.f 27) [(some 2, .t 56)] }, { dst := some 58, guard := none, op := .conv (.i64) (.t 57) }, { dst := some 59, guard := none, op := .fld 4 (.t 7) }, { dst := none, guard := none, op := .store 1 true (.t 59) (.t 58) }] ([0, 6, 7], [2, 3, 14, 15, 16, 17])) (.nrm ([0, 6, 7], [2, 3, 14, 15, 16, 17]))))))))))
def stI (D : List TV) (n most : Int) (x : In) (u0 u1 u2 u3 : Bool) : St := ⟨[(0, .ptr ⟨2, 0, []⟩ [0]), (1, .v (.int .i64 n)), (2, .v (.int .i64 most)), (6, .ptr ⟨14, 0, []⟩ [0]), (7, .ptr ⟨16, 0, []⟩ [0]), (8, .ptr ⟨18, 0, []⟩ [0])],
  [(2, D), (14, encIn ⟨0, 0, 0, 0, 0⟩), (16, encIn x), (18, [.v (.bool u0), .v (.bool u1), .v (.bool u2), .v (.bool u3)])], []⟩
def stI' (D : List TV) (x : In) : St := ⟨[(0, .ptr ⟨2, 0, []⟩ [0]), (6, .ptr ⟨14, 0, []⟩ [0]), (7, .ptr ⟨16, 0, []⟩ [0])], [(2, D), (14, encIn ⟨0, 0, 0, 0, 0⟩), (16, encIn x)], []⟩

section
variable (box : FuncId → Option (Nat × List BxC)) (ps : FuncId → List (Option Nat)) (F : Callee) (N : Nat)
set_option maxRecDepth 100000 in
set_option maxHeartbeats 4000000 in
theorem instr_1 (hbox : box 14 = none) (hN : NextC F) (l k) (hd : DeckOk l k) (n most : Int) (op a b c imm : Int) (u0 u1 u2 u3 : Bool) : ∃ v k', DeckOk l k' ∧
    S.runC realP (S.evCall realP ⟨box, ps⟩ F) N in1 (stI (encD l k) n most ⟨op, a, b, c, imm⟩ u0 u1 u2 u3) = some (.normal, stI (encD l k') n most ⟨op, v, b, c, imm⟩ u0 u1 u2 u3) := by
  cases u0 with
  | false =>
    refine ⟨a, k, hd, ?_⟩
    simp only [stI, encD, encIn]
    generalize l.map encI = D
    generalize (k : Int) = i0
    (generalize realP = Pr at *; obtain ⟨ar, cm, sh, sb, un, cv, natI, lenN, inb, inw, elt, addN, subN, slOk, win, immC, immW, allLen, appOk, cat, mkOk, rep, getC, setC, shC, eqf, eqB, notB, fmm, strAt, strLen, strB, strOk, bstr, cpy, it⟩ := Pr; try dsimp only at *)
    cbv
  | true =>
    obtain ⟨v, k1, h1, hd1, _⟩ := hN l k 8 hd (by decide) (by decide)
    refine ⟨v, k1, hd1, ?_⟩
    simp only [stI, encD, encIn] at *
    generalize l.map encI = D at *
    generalize (k : Int) = i0 at *
    generalize (k1 : Int) = i1 at *
    (generalize realP = Pr at *; obtain ⟨ar, cm, sh, sb, un, cv, natI, lenN, inb, inw, elt, addN, subN, slOk, win, immC, immW, allLen, appOk, cat, mkOk, rep, getC, setC, shC, eqf, eqB, notB, fmm, strAt, strLen, strB, strOk, bstr, cpy, it⟩ := Pr; try dsimp only at *)
    ((repeat (cbv; first | done | rw [hbox] | rw [h1])); try cbv)
set_option maxRecDepth 100000 in
set_option maxHeartbeats 4000000 in
theorem instr_2 (hbox : box 14 = none) (hN : NextC F) (l k) (hd : DeckOk l k) (n most : Int) (op a b c imm : Int) (u0 u1 u2 u3 : Bool) : ∃ v k', DeckOk l k' ∧
    S.runC realP (S.evCall realP ⟨box, ps⟩ F) N in2 (stI (encD l k) n most ⟨op, a, b, c, imm⟩ u0 u1 u2 u3) = some (.normal, stI (encD l k') n most ⟨op, a, v, c, imm⟩ u0 u1 u2 u3) := by
  cases u1 with
  | false =>
    refine ⟨b, k, hd, ?_⟩
    simp only [stI, encD, encIn]
    generalize l.map encI = D
    generalize (k : Int) = i0
    (generalize realP = Pr at *; obtain ⟨ar, cm, sh, sb, un, cv, natI, lenN, inb, inw, elt, addN, subN, slOk, win, immC, immW, allLen, appOk, cat, mkOk, rep, getC, setC, shC, eqf, eqB, notB, fmm, strAt, strLen, strB, strOk, bstr, cpy, it⟩ := Pr; try dsimp only at *)
    cbv
  | true =>
    obtain ⟨v, k1, h1, hd1, _⟩ := hN l k 8 hd (by decide) (by decide)
    refine ⟨v, k1, hd1, ?_⟩
    simp only [stI, encD, encIn] at *
    generalize l.map encI = D at *
    generalize (k : Int) = i0 at *
    generalize (k1 : Int) = i1 at *
    (generalize realP = Pr at *; obtain ⟨ar, cm, sh, sb, un, cv, natI, lenN, inb, inw, elt, addN, subN, slOk, win, immC, immW, allLen, appOk, cat, mkOk, rep, getC, setC, shC, eqf, eqB, notB, fmm, strAt, strLen, strB, strOk, bstr, cpy, it⟩ := Pr; try dsimp only at *)
    ((repeat (cbv; first | done | rw [hbox] | rw [h1])); try cbv)
set_option maxRecDepth 100000 in
set_option maxHeartbeats 4000000 in
theorem instr_3 (hbox : box 14 = none) (hN : NextC F) (l k) (hd : DeckOk l k) (n most : Int) (op a b c imm : Int) (u0 u1 u2 u3 : Bool) : ∃ v k', DeckOk l k' ∧
    S.runC realP (S.evCall realP ⟨box, ps⟩ F) N in3 (stI (encD l k) n most ⟨op, a, b, c, imm⟩ u0 u1 u2 u3) = some (.normal, stI (encD l k') n most ⟨op, a, b, v, imm⟩ u0 u1 u2 u3) := by
  cases u2 with
  | false =>
    refine ⟨c, k, hd, ?_⟩
    simp only [stI, encD, encIn]
    generalize l.map encI = D
    generalize (k : Int) = i0
    (generalize realP = Pr at *; obtain ⟨ar, cm, sh, sb, un, cv, natI, lenN, inb, inw, elt, addN, subN, slOk, win, immC, immW, allLen, appOk, cat, mkOk, rep, getC, setC, shC, eqf, eqB, notB, fmm, strAt, strLen, strB, strOk, bstr, cpy, it⟩ := Pr; try dsimp only at *)
    cbv
  | true =>
    obtain ⟨v, k1, h1, hd1, _⟩ := hN l k 8 hd (by decide) (by decide)
    refine ⟨v, k1, hd1, ?_⟩
    simp only [stI, encD, encIn] at *
    generalize l.map encI = D at *
    generalize (k : Int) = i0 at *
    generalize (k1 : Int) = i1 at *
    (generalize realP = Pr at *; obtain ⟨ar, cm, sh, sb, un, cv, natI, lenN, inb, inw, elt, addN, subN, slOk, win, immC, immW, allLen, appOk, cat, mkOk, rep, getC, setC, shC, eqf, eqB, notB, fmm, strAt, strLen, strB, strOk, bstr, cpy, it⟩ := Pr; try dsimp only at *)
    ((repeat (cbv; first | done | rw [hbox] | rw [h1])); try cbv)
set_option maxRecDepth 100000 in
set_option maxHeartbeats 4000000 in
theorem instr_4 (hbox : box 14 = none) (hbox2 : box 18 = none) (hbox3 : box 27 = none) (hN : NextC F) (hJ : JumpC F) (hW : WordC F) (l k) (hd : DeckOk l k) (n most : Int) (hn : 0 < n) (hn2 : n ≤ 65536) (hm : 0 < most) (hm2 : most ≤ 65536) (op a b c : Int) (ho : 0 ≤ op) (ho2 : op ≤ 24) (u0 u1 u2 u3 : Bool) : ∃ v k', DeckOk l k' ∧ 0 ≤ v ∧ v < 65536 ∧ (jumpB op = true → v < most) ∧
    S.runC realP (S.evCall realP ⟨box, ps⟩ F) N in4 (stI (encD l k) n most ⟨op, a, b, c, 0⟩ u0 u1 u2 u3) = some (.normal, stI' (encD l k') ⟨op, a, b, c, v⟩) := by
  have hj := hJ op ho ho2
  generalize jumpB op = j at *
  cases j with
  | true =>
    obtain ⟨v, k1, h1, hd1, g1, g2⟩ := hN l k most hd hm (by omega)
    refine ⟨v, k1, hd1, g1, by omega, fun _ => g2, ?_⟩
    simp only [stI, stI', encD, encIn] at *
    generalize l.map encI = D at *
    generalize (k : Int) = i0 at *
    generalize (k1 : Int) = i1 at *
    (generalize realP = Pr at *; obtain ⟨ar, cm, sh, sb, un, cv, natI, lenN, inb, inw, elt, addN, subN, slOk, win, immC, immW, allLen, appOk, cat, mkOk, rep, getC, setC, shC, eqf, eqB, notB, fmm, strAt, strLen, strB, strOk, bstr, cpy, it⟩ := Pr; try dsimp only at *)
    ((repeat (cbv; first | done | rw [hbox2] | rw [hj] | rw [hbox] | rw [h1])); try cbv)
  | false =>
    by_cases h15 : op = 15
    · obtain ⟨v, k1, h1, hd1, g1, g2⟩ := hN l k n hd hn (by omega)
      refine ⟨v, k1, hd1, g1, by omega, fun h => by simp at h, ?_⟩
      have c1 := eql_t h15
      simp only [stI, stI', encD, encIn] at *
      generalize l.map encI = D at *
      generalize (k : Int) = i0 at *
      generalize (k1 : Int) = i1 at *
      (generalize realP = Pr at *; obtain ⟨ar, cm, sh, sb, un, cv, natI, lenN, inb, inw, elt, addN, subN, slOk, win, immC, immW, allLen, appOk, cat, mkOk, rep, getC, setC, shC, eqf, eqB, notB, fmm, strAt, strLen, strB, strOk, bstr, cpy, it⟩ := Pr; try dsimp only at *)
      ((repeat (cbv; first | done | rw [hbox2] | rw [hj] | rw [hbox] | rw [h1] | rw [c1])); try cbv)
    · have c1 := eql_f h15
      by_cases h23 : op = 23
      · obtain ⟨v, k1, h1, hd1, g1, g2⟩ := hN l k 16 hd (by decide) (by decide)
        refine ⟨v, k1, hd1, g1, by omega, fun h => by simp at h, ?_⟩
        have c2 := eql_t h23
        simp only [stI, stI', encD, encIn] at *
        generalize l.map encI = D at *
        generalize (k : Int) = i0 at *
        generalize (k1 : Int) = i1 at *
        (generalize realP = Pr at *; obtain ⟨ar, cm, sh, sb, un, cv, natI, lenN, inb, inw, elt, addN, subN, slOk, win, immC, immW, allLen, appOk, cat, mkOk, rep, getC, setC, shC, eqf, eqB, notB, fmm, strAt, strLen, strB, strOk, bstr, cpy, it⟩ := Pr; try dsimp only at *)
        ((repeat (cbv; first | done | rw [hbox2] | rw [hj] | rw [hbox] | rw [h1] | rw [c1] | rw [c2])); try cbv)
      · have c2 := eql_f h23
        cases u3 with
        | true =>
          obtain ⟨v, k1, h1, hd1, g1, g2⟩ := hW l k hd
          have hcv : realP.cv .i64 v = v := wrap_i64 (by omega) (by omega)
          refine ⟨v, k1, hd1, g1, g2, fun h => by simp at h, ?_⟩
          simp only [stI, stI', encD, encIn] at *
          generalize l.map encI = D at *
          generalize (k : Int) = i0 at *
          generalize (k1 : Int) = i1 at *
          (generalize realP = Pr at *; obtain ⟨ar, cm, sh, sb, un, cv, natI, lenN, inb, inw, elt, addN, subN, slOk, win, immC, immW, allLen, appOk, cat, mkOk, rep, getC, setC, shC, eqf, eqB, notB, fmm, strAt, strLen, strB, strOk, bstr, cpy, it⟩ := Pr; try dsimp only at *)
          ((repeat (cbv; first | done | rw [hbox2] | rw [hj] | rw [hbox3] | rw [h1] | rw [c1] | rw [c2] | rw [hcv])); try cbv)
        | false =>
          refine ⟨0, k, hd, by omega, by omega, fun h => by simp at h, ?_⟩
          simp only [stI, stI', encD, encIn] at *
          generalize l.map encI = D at *
          generalize (k : Int) = i0 at *
          (generalize realP = Pr at *; obtain ⟨ar, cm, sh, sb, un, cv, natI, lenN, inb, inw, elt, addN, subN, slOk, win, immC, immW, allLen, appOk, cat, mkOk, rep, getC, setC, shC, eqf, eqB, notB, fmm, strAt, strLen, strB, strOk, bstr, cpy, it⟩ := Pr; try dsimp only at *)
          ((repeat (cbv; first | done | rw [hbox2] | rw [hj] | rw [c1] | rw [c2])); try cbv)
def InstrC (F : Callee) : Prop := ∀ l k (n most : Int), DeckOk l k → 0 < n → n ≤ 65536 → 0 < most → most ≤ 65536 → ∃ x k', F 29 [.ptr ⟨2, 0, []⟩ [0], .v (.int .i64 n), .v (.int .i64 most)] [(2, encD l k)] = some (⟨encIn x, [.agg 5]⟩, [(2, encD l k')]) ∧ DeckOk l k' ∧ OkIn x ∧ (jumpB x.op = true → x.imm < most)
set_option maxRecDepth 100000 in
set_option maxHeartbeats 4000000 in
theorem instr_cut (hbox : box 14 = none) (hbox2 : box 35 = none) (c1 c2 c3 c4 : TCode) (D1 D2 D3 D4 D5 D6 : List (List TV) × Int) (n most op a b c v : Int) (u0 u1 u2 u3 : Bool)
    (h1 : F 14 [.ptr ⟨2, 0, []⟩ [0], .v (.int .i64 25)] [(2, [.sl D1.1, .v (.int .i64 D1.2)])] = some (⟨[.v (.int .i64 op)], [.one]⟩, [(2, [.sl D2.1, .v (.int .i64 D2.2)])]))
    (h2 : F 35 [.v (.int .i64 op)] [] = some (⟨[.v (.bool u0), .v (.bool u1), .v (.bool u2), .v (.bool u3)], [.agg 4]⟩, []))
    (e1 : S.runC realP (S.evCall realP ⟨box, ps⟩ F) N c1 (stI [.sl D2.1, .v (.int .i64 D2.2)] n most ⟨op, 0, 0, 0, 0⟩ u0 u1 u2 u3) = some (.normal, stI [.sl D3.1, .v (.int .i64 D3.2)] n most ⟨op, a, 0, 0, 0⟩ u0 u1 u2 u3))
    (e2 : S.runC realP (S.evCall realP ⟨box, ps⟩ F) N c2 (stI [.sl D3.1, .v (.int .i64 D3.2)] n most ⟨op, a, 0, 0, 0⟩ u0 u1 u2 u3) = some (.normal, stI [.sl D4.1, .v (.int .i64 D4.2)] n most ⟨op, a, b, 0, 0⟩ u0 u1 u2 u3))
    (e3 : S.runC realP (S.evCall realP ⟨box, ps⟩ F) N c3 (stI [.sl D4.1, .v (.int .i64 D4.2)] n most ⟨op, a, b, 0, 0⟩ u0 u1 u2 u3) = some (.normal, stI [.sl D5.1, .v (.int .i64 D5.2)] n most ⟨op, a, b, c, 0⟩ u0 u1 u2 u3))
    (e4 : S.runC realP (S.evCall realP ⟨box, ps⟩ F) N c4 (stI [.sl D5.1, .v (.int .i64 D5.2)] n most ⟨op, a, b, c, 0⟩ u0 u1 u2 u3) = some (.normal, stI' [.sl D6.1, .v (.int .i64 D6.2)] ⟨op, a, b, c, v⟩)) :
    runT ⟨box, ps⟩ F N (tfInstr c1 c2 c3 c4) [.ptr ⟨2, 0, []⟩ [0], .v (.int .i64 n), .v (.int .i64 most)] [(2, [.sl D1.1, .v (.int .i64 D1.2)])] = some (⟨encIn ⟨op, a, b, c, v⟩, [.agg 5]⟩, [(2, [.sl D6.1, .v (.int .i64 D6.2)])]) := by
  rw [← S.runT_real]
  obtain ⟨D1, i1⟩ := D1
  obtain ⟨D2, i2⟩ := D2
  obtain ⟨D3, i3⟩ := D3
  obtain ⟨D4, i4⟩ := D4
  obtain ⟨D5, i5⟩ := D5
  obtain ⟨D6, i6⟩ := D6
  simp only [stI, stI', encIn] at *
  (generalize realP = Pr at *; obtain ⟨ar, cm, sh, sb, un, cv, natI, lenN, inb, inw, elt, addN, subN, slOk, win, immC, immW, allLen, appOk, cat, mkOk, rep, getC, setC, shC, eqf, eqB, notB, fmm, strAt, strLen, strB, strOk, bstr, cpy, it⟩ := Pr; try dsimp only at *)
  cbv at e1 e2 e3 e4
  ((repeat (cbv; first | done | rw [hbox] | rw [h1] | rw [hbox2] | rw [h2] | rw [e1] | rw [e2] | rw [e3] | rw [e4])); try cbv)
theorem instr_run (hbox : box 14 = none) (hbox2 : box 35 = none) (hbox3 : box 18 = none) (hbox4 : box 27 = none) (hN : NextC F) (hU : UsesC F) (hJ : JumpC F) (hW : WordC F) (l k) (n most : Int) (hd : DeckOk l k) (hn : 0 < n) (hn2 : n ≤ 65536) (hm : 0 < most) (hm2 : most ≤ 65536) :
    ∃ x k', runT ⟨box, ps⟩ F N (tfInstr in1 in2 in3 in4) [.ptr ⟨2, 0, []⟩ [0], .v (.int .i64 n), .v (.int .i64 most)] [(2, encD l k)] = some (⟨encIn x, [.agg 5]⟩, [(2, encD l k')]) ∧ DeckOk l k' ∧ OkIn x ∧ (jumpB x.op = true → x.imm < most) := by
  obtain ⟨op, k1, h1, hd1, g1, g2⟩ := hN l k 25 hd (by decide) (by decide)
  have h2 := hU op g1 (by omega)
  obtain ⟨a, k2, hd2, e1⟩ := instr_1 box ps F N hbox hN l k1 hd1 n most op 0 0 0 0 (usesB op 0) (usesB op 1) (usesB op 2) (usesB op 3)
  obtain ⟨b, k3, hd3, e2⟩ := instr_2 box ps F N hbox hN l k2 hd2 n most op a 0 0 0 (usesB op 0) (usesB op 1) (usesB op 2) (usesB op 3)
  obtain ⟨c, k4, hd4, e3⟩ := instr_3 box ps F N hbox hN l k3 hd3 n most op a b 0 0 (usesB op 0) (usesB op 1) (usesB op 2) (usesB op 3)
  obtain ⟨v, k5, hd5, g3, g4, g5, e4⟩ := instr_4 box ps F N hbox hbox3 hbox4 hN hJ hW l k4 hd4 n most hn hn2 hm hm2 op a b c g1 (by omega) (usesB op 0) (usesB op 1) (usesB op 2) (usesB op 3)
  exact ⟨⟨op, a, b, c, v⟩, k5, instr_cut box ps F N hbox hbox2 in1 in2 in3 in4 (_, _) (_, _) (_, _) (_, _) (_, _) (_, _) n most op a b c v _ _ _ _ h1 h2 e1 e2 e3 e4, hd5, ⟨g1, by show op ≤ 24; omega, g3, g4⟩, g5⟩
end
end Go.Proofs.Ytjmfjjmdfikanaa
