/- The layout of a seed; no condition. -/
import Derived.Test.YtenobllgfgmjfaaLayB
import Derived.Deep.OwnRows
namespace Go.Proofs.Ytenobllgfgmjfaa
open Go.RowKit

/-- The bases and the next address behind k rounds. -/
def mkTo (ss : List Int) (seed : Int) : Nat → List Int × Int
  | 0 => (List.replicate ss.length 0, 1 + seed / ss.length % 50)
  | k + 1 => ((mkTo ss seed k).1.set (((k + seed) % ss.length).toNat) (mkTo ss seed k).2, (mkTo ss seed k).2 + (ss.getD ((k + seed) % ss.length).toNat 0 + 1 + seed / (50 * ss.length) % 40))
def mkB (ss : List Int) (seed : Int) : List Int := (mkTo ss seed ss.length).1
def mkK (seed : Int) : Int := 40503 * seed % 65536

theorem mkTo_len (ss : List Int) (seed : Int) (k : Nat) : (mkTo ss seed k).1.length = ss.length := by
  induction k with
  | zero => simp [mkTo]
  | succ k ih => simp [mkTo, ih]

theorem VS.getD {ss : List Int} (h : VS ss) {i : Nat} (hi : i < ss.length) : 1 ≤ ss.getD i 0 ∧ ss.getD i 0 ≤ 32 := by rw [getD_at hi]; exact h.at_ hi
theorem rot_lt {n k : Nat} {seed : Int} (hn : 1 ≤ n) : 0 ≤ ((k : Int) + seed) % n ∧ ((k : Int) + seed) % n < n :=
  ⟨Int.emod_nonneg _ (by omega), Int.emod_lt_of_pos _ (by omega)⟩
theorem mkTo_bd {ss : List Int} {seed : Int} (h : VS ss) (hs : 0 ≤ seed) (k : Nat) : 1 ≤ (mkTo ss seed k).2 ∧ (mkTo ss seed k).2 ≤ 50 + 72 * k := by
  induction k with
  | zero => simp only [mkTo]; have := Int.emod_nonneg (seed / (ss.length : Int)) (show (50 : Int) ≠ 0 by decide); have := Int.emod_lt_of_pos (seed / (ss.length : Int)) (show (0 : Int) < 50 by decide); omega
  | succ k ih =>
    simp only [mkTo]
    have hr := rot_lt (k := k) (seed := seed) h.1
    have := h.getD (i := (((k : Int) + seed) % ss.length).toNat) (by omega)
    have := Int.emod_nonneg (seed / (50 * (ss.length : Int))) (show (40 : Int) ≠ 0 by decide); have := Int.emod_lt_of_pos (seed / (50 * (ss.length : Int))) (show (0 : Int) < 40 by decide)
    omega

/-- The world in the middle of a Make: the result's cell, the bases, the local layout. -/
structure MkW (w wr : World) (n : Nat) (key : Int) (bs : List Int) : Prop where
  grown : w.grownBy wr none
  size : w.heap.size + 1 + 1 < wr.heap.size
  res : wr.heap[w.heap.size]? = some (.cells #[.slice none 0 0, .int .u16 0] 25 (0, 0))
  row : wr.heap[w.heap.size + 1]? = some (.cells (bs.map (.int .i64)).toArray 3 (0, 0))
  loc : wr.heap[w.heap.size + 1 + 1]? = some (.cells #[.slice (some ⟨w.heap.size + 1, 0, none⟩) n n, .int .u16 key] 25 (0, 0))
theorem MkW.drewN {w wr : World} {n : Nat} {key : Int} {bs : List Int} (h : MkW w wr n key bs) (m : Nat) : MkW w (wr.drewN m) n key bs := ⟨grown_drewN h.grown m, h.size, h.res, h.row, h.loc⟩
theorem MkW.start (w : World) (n : Nat) (key : Int) : MkW w (((w.alloc (.cells #[.slice none 0 0, .int .u16 0] 25)).alloc (.cells (madeCells #[.int .i64 0] n) 3)).alloc (.cells #[.slice (some ⟨w.heap.size + 1, 0, none⟩) n n, .int .u16 key] 25)) n key (List.replicate n 0) := by
  have e : (madeCells #[.int .i64 0] n : Array Value) = ((List.replicate n (0 : Int)).map (Value.int .i64)).toArray := by
    apply Array.ext'
    rw [toList_madeCells_one]; simp
  rw [e]
  refine ⟨grown_alloc (grown_alloc (grown_alloc (grown_refl _ _) _) _) _, by simp, ?_, ?_, ?_⟩
  · rw [heap_alloc_old _ _ (by simp; omega), heap_alloc_old _ _ (by simp)]; exact heap_alloc_new w _
  · rw [heap_alloc_old _ _ (by simp)]
    have := heap_alloc_new (w.alloc (.cells #[.slice none 0 0, .int .u16 0] 25)) (.cells ((List.replicate n (0 : Int)).map (Value.int .i64)).toArray 3)
    simpa using this
  · have := heap_alloc_new ((w.alloc (.cells #[.slice none 0 0, .int .u16 0] 25)).alloc (.cells ((List.replicate n (0 : Int)).map (Value.int .i64)).toArray 3)) (.cells #[.slice (some ⟨w.heap.size + 1, 0, none⟩) n n, .int .u16 key] 25)
    simpa using this
theorem MkW.store {w wr : World} {n : Nat} {key : Int} {bs : List Int} (h : MkW w wr n key bs) (r : Nat) (x : Int) : MkW w (wr.setCell ⟨w.heap.size + 1, r, none⟩ (.int .i64 x)) n key (bs.set r x) := by
  refine ⟨grown_set h.grown (.inr (by simp)) _, by simpa [World.setCell] using h.size, ?_, ?_, ?_⟩
  · rw [heap_setCell_other _ _ _ _ (by simp)]; exact h.res
  · rw [heap_setCell_same _ _ _ _ _ _ h.row]
    simp [List.map_set]
  · rw [heap_setCell_other _ _ _ _ (by simp)]; exact h.loc

theorem MkW.loc0 {w wr : World} {n : Nat} {key : Int} {bs : List Int} (h : MkW w wr n key bs) : wr.cell? ⟨w.heap.size + 1 + 1, 0, none⟩ = some (.slice (some ⟨w.heap.size + 1, 0, none⟩) n n) := by rw [cell_of_row _ _ _ _ _ _ h.loc]; rfl
theorem MkW.loc1 {w wr : World} {n : Nat} {key : Int} {bs : List Int} (h : MkW w wr n key bs) : wr.cell? ⟨w.heap.size + 1 + 1, 1, none⟩ = some (.int .u16 key) := by rw [cell_of_row _ _ _ _ _ _ h.loc]; rfl
theorem MkW.cell {w wr : World} {n : Nat} {key : Int} {bs : List Int} (h : MkW w wr n key bs) {r : Nat} (hr : r < bs.length) : wr.cell? ⟨w.heap.size + 1, r, none⟩ = some (.int .i64 bs[r]) := by rw [cell_of_row _ _ _ _ _ _ h.row]; simp [hr]
theorem MkW.free {w wr : World} {n : Nat} {key : Int} {bs : List Int} (h : MkW w wr n key bs) (r : Nat) : wr.frozen? ⟨w.heap.size + 1, r, none⟩ = false := frozen_of_row _ _ _ _ _ h.row

def MadeLayout (bs : List Int) (key : Int) (err : Int) (w : World) (e : Ending) (w' : World) : Prop :=
  ∃ A c, e = .returned (.tuple #[.agg #[.slice A bs.length c, .int .u16 key], .int .i64 err]) ∧ bs.length ≤ c ∧ c ≤ maxLen ∧ Ints .i64 w' (New w w') A bs ∧ w.grownBy w' none

theorem mkTo_next {ss : List Int} {seed : Int} {k r : Nat} (hr : ((k : Int) + seed) % (ss.length : Int) = r) (hl : r < ss.length) :
    mkTo ss seed (k + 1) = ((mkTo ss seed k).1.set r (mkTo ss seed k).2, (mkTo ss seed k).2 + (ss[r] + 1 + seed / (50 * (ss.length : Int)) % 40)) := by
  simp only [mkTo, hr, Int.toNat_natCast, getD_at hl]
theorem made_of {w wr : World} {ss : List Int} {seed : Int} {k : Nat} {u v : Value} (hk : k = ss.length) (h : MkW w wr ss.length (mkK seed) (mkTo ss seed k).1) (hv : VS ss) :
    MadeLayout (mkB ss seed) (mkK seed) 0 w (.returned (.tuple #[.agg #[.slice (some ⟨w.heap.size + 1, 0, none⟩) ss.length ss.length, .int .u16 (mkK seed)], .int .i64 0])) ((wr.setCell ⟨w.heap.size, 0, none⟩ u).setCell ⟨w.heap.size, 1, none⟩ v) := by
  subst hk
  have hl : (mkB ss seed).length = ss.length := mkTo_len ss seed ss.length
  refine ⟨_, ss.length, by rw [hl], by omega, by have := hv.2.1; simp [maxLen]; omega, ?_, grown_set (grown_set h.grown (.inr (by simp)) _) (.inr (by simp)) _⟩
  intro i hi
  refine ⟨w.heap.size + 1, 0, rfl, ⟨by omega, by have := h.size; simp [World.setCell]; omega⟩, ?_⟩
  rw [World.cell?_of_block (w := wr)]
  · rw [cell_of_row _ _ _ _ _ _ h.row]
    simp only [Nat.zero_add, List.getElem?_toArray]
    exact List.getElem?_eq_getElem hi
  · rw [heap_setCell_other _ _ _ _ (by simp), heap_setCell_other _ _ _ _ (by simp)]

set_option maxHeartbeats 1000000 in
theorem layout_Make_no (F : Nat → Prop) (B : Option Addr) (ss : List Int) (d : Nat) (seed : Int) (w : World) (hs : ss.length ≤ 9223372036854775807)
    (hF : ∀ k, F k → k < w.heap.size) (hS : Ints .i64 w F B ss) (hno : vsB ss = false ∨ seed < 0 ∨ 1073741824 < seed) :
    Calls Try.prog 13 #[.slice B ss.length d, .int .i64 seed] w (MadeLayout [] 0 1 w) := by
  have hS1 := Lib.hid (hS.keep ((Agree.refl F w).alloc hF (.cells #[.slice none 0 0, .int .u16 0] 25)))
  clear hS
  by_cases hvs : vsB ss = true
  · have Hvb := Lib.hid hvs
    have hno' : seed < 0 ∨ 1073741824 < seed := by rcases hno with h | h; rw [h] at hvs; cases hvs; exact h
    clear hno hvs
    rcases hno' with h | h
    · go_enter Try.func13, Try.ntmps13
      go_wp2_with (go_at_call 26; refine (region_Valid_any F _ _ _ _ hs hS1.out).mono ?_; rintro e w' ⟨rfl, rfl⟩; rw [Hvb.out])
      exact bodyPost_ret (v := .tuple #[.agg #[.slice none 0 0, .int .u16 0], .int .i64 1]) (by simp [results, Try.results13, go_sem]) rfl ⟨none, 0, rfl, by simp, by decide, Row.nil _ _ _, grown_alloc (grown_refl _ _) _⟩
    · go_enter Try.func13, Try.ntmps13
      go_wp2_with (go_at_call 26; refine (region_Valid_any F _ _ _ _ hs hS1.out).mono ?_; rintro e w' ⟨rfl, rfl⟩; rw [Hvb.out])
      exact bodyPost_ret (v := .tuple #[.agg #[.slice none 0 0, .int .u16 0], .int .i64 1]) (by simp [results, Try.results13, go_sem]) rfl ⟨none, 0, rfl, by simp, by decide, Row.nil _ _ _, grown_alloc (grown_refl _ _) _⟩
  · have hvs' : vsB ss = false := by simpa using hvs
    have Hvb := Lib.hid hvs'; clear hvs hvs' hno
    go_enter Try.func13, Try.ntmps13
    go_wp2_with (go_at_call 26; refine (region_Valid_any F _ _ _ _ hs hS1.out).mono ?_; rintro e w' ⟨rfl, rfl⟩; rw [Hvb.out])
    exact bodyPost_ret (v := .tuple #[.agg #[.slice none 0 0, .int .u16 0], .int .i64 1]) (by simp [results, Try.results13, go_sem]) rfl ⟨none, 0, rfl, by simp, by decide, Row.nil _ _ _, grown_alloc (grown_refl _ _) _⟩

set_option maxHeartbeats 1000000 in
theorem layout_Make_yes (F : Nat → Prop) (B : Option Addr) (ss : List Int) (d : Nat) (seed : Int) (w : World) (hs : ss.length ≤ 9223372036854775807)
    (hF : ∀ k, F k → k < w.heap.size) (hS : Ints .i64 w F B ss) (hv : VS ss) (h0 : 0 ≤ seed) (h1 : seed ≤ 1073741824) :
    Calls Try.prog 13 #[.slice B ss.length d, .int .i64 seed] w (MadeLayout (mkB ss seed) (mkK seed) 0 w) := by
  have hS1 := Lib.hid (hS.keep ((Agree.refl F w).alloc hF (.cells #[.slice none 0 0, .int .u16 0] 25)))
  have hvs := (vsB_iff ss).2 hv
  have Hvb := Lib.hid hvs; clear hvs
  have hl0 := hv.1
  have hl1 := hv.2.1
  have Hv := Lib.hid hv; clear hv
  clear hS
  have hmks := fun w => run_make_row' (P := Try.prog) 22 3 (.int .i64 0) 8 Try.underlying22 Try.infoInt rfl .i64 .i64 ss.length (by omega) (by omega) w
  have hq0 : 0 ≤ seed / (ss.length : Int) := Int.ediv_nonneg h0 (by omega)
  have hq1 : seed / (ss.length : Int) ≤ 1073741824 := Int.le_trans (Int.ediv_le_self _ h0) h1
  have hq2 : 0 ≤ seed / (50 * (ss.length : Int)) := Int.ediv_nonneg h0 (by omega)
  have hq3 : seed / (50 * (ss.length : Int)) ≤ 1073741824 := Int.le_trans (Int.ediv_le_self _ h0) h1
  go_enter Try.func13, Try.ntmps13
  go_wp2_with (go_at_call 26; refine (region_Valid_any F _ _ _ _ hs hS1.out).mono ?_; rintro e w' ⟨rfl, rfl⟩; rw [Hvb.out])
  go_loopw [8, 37] (fun a i wr => ∃ k : Nat, k ≤ ss.length ∧ i = .int .i64 k ∧ a = .int .i64 (mkTo ss seed k).2 ∧ MkW w wr ss.length (mkK seed) (mkTo ss seed k).1) (fun _ i _ => ss.length - (intOf i).toNat)
  case atStart =>
    refine ⟨0, Nat.zero_le _, rfl, rfl, ?_⟩
    have hk : IntKind.u16.wrap (40503 * seed) = mkK seed := by rw [IntKind.wrap_u16]; rfl
    rw [hk]
    exact MkW.start w ss.length (mkK seed)
  case round =>
    clear hmks
    obtain ⟨k, hk, rfl, rfl, hmk⟩ := hrel
    by_cases hlt : k < ss.length
    · have hb := mkTo_bd Hv.out h0 k
      have hr := rot_lt (k := k) (seed := seed) hl0
      obtain ⟨r, her⟩ : ∃ r : Nat, ((k : Int) + seed) % (ss.length : Int) = r := ⟨(((k : Int) + seed) % (ss.length : Int)).toNat, by omega⟩
      have hrl : r < ss.length := by omega
      have hlen := mkTo_len ss seed k
      obtain ⟨b2, o2, rfl, hF2, hc2⟩ := hS1.out.at_ hrl
      have hc7 := hmk.loc0
      obtain ⟨x0, hcr⟩ : ∃ x0, wr.cell? ⟨w.heap.size + 1, r, none⟩ = some (.int .i64 x0) := ⟨_, hmk.cell (r := r) (by omega)⟩
      have hfr := hmk.free r
      have hc2' : wr.cell? ⟨b2, o2 + r, none⟩ = some (.int .i64 ss[r]) := by
        rw [World.cell?_of_block (hmk.grown.block b2 (hF b2 hF2) (by simp))]
        rwa [World.cell?_alloc_lt _ _ _ (hF b2 hF2)] at hc2
      have hne : ¬ w.heap.size + 1 = b2 := by have := hF b2 hF2; omega
      have hne' : ¬ b2 = w.heap.size + 1 := by omega
      have HM := Lib.hid hmk
      have Hlen := Lib.hid hlen
      clear hc2 hmk hlen
      go_wp2
      have hv2 := Hv.out.at_ hrl
      have hm1 := Int.emod_nonneg (seed / (50 * (ss.length : Int))) (show (40 : Int) ≠ 0 by decide)
      have hm2 := Int.emod_lt_of_pos (seed / (50 * (ss.length : Int))) (show (0 : Int) < 40 by decide)
      have x1 : IntKind.i64.wrap (50 * (ss.length : Int)) = 50 * (ss.length : Int) := IntWalk.i64_in _ (by omega)
      have x2 : seed.tdiv (50 * (ss.length : Int)) = seed / (50 * (ss.length : Int)) := Int.tdiv_eq_ediv_of_nonneg h0
      have x3 : IntKind.i64.wrap (seed / (50 * (ss.length : Int))) = seed / (50 * (ss.length : Int)) := IntWalk.i64_in _ (by omega)
      have x4 : (seed / (50 * (ss.length : Int))).tmod 40 = seed / (50 * (ss.length : Int)) % 40 := Int.tmod_eq_emod_of_nonneg hq2
      have x5 : IntKind.i64.wrap (ss[r] + 1) = ss[r] + 1 := IntWalk.i64_in _ (by omega)
      have x6 : IntKind.i64.wrap (ss[r] + 1 + seed / (50 * (ss.length : Int)) % 40) = ss[r] + 1 + seed / (50 * (ss.length : Int)) % 40 := IntWalk.i64_in _ (by omega)
      have x7 : IntKind.i64.wrap ((mkTo ss seed k).2 + (ss[r] + 1 + seed / (50 * (ss.length : Int)) % 40)) = (mkTo ss seed k).2 + (ss[r] + 1 + seed / (50 * (ss.length : Int)) % 40) := IntWalk.i64_in _ (by omega)
      have x8 : (r : Int).toNat = r := by omega
      have x9 : ¬ 50 * (ss.length : Int) = 0 := by omega
      go_quiet (fail)
      have Hn := Lib.hid (mkTo_next (ss := ss) (seed := seed) (k := k) (r := r) (by omega) hrl)
      have Her := Lib.hid her
      clear x1 x2 x3 x4 x5 x6 x7 x8 x9 her
      go_wp2
      go_roundw
      case rel => exact ⟨k + 1, by omega, by go_num, by rw [Hn.out], by rw [Hn.out]; exact (HM.out.store r _).drewN _⟩
      case measure => simp [intOf]; omega
    · have hkn : k = ss.length := by omega
      have hc7 := hmk.loc0
      have hc8 := hmk.loc1
      have hr0 : wr.cell? ⟨w.heap.size, 0, none⟩ = some (.slice none 0 0) := by rw [cell_of_row _ _ _ _ _ _ hmk.res]; rfl
      have hr1 : wr.cell? ⟨w.heap.size, 1, none⟩ = some (.int .u16 0) := by rw [cell_of_row _ _ _ _ _ _ hmk.res]; rfl
      have hf0 : wr.frozen? ⟨w.heap.size, 0, none⟩ = false := frozen_of_row _ _ _ _ _ hmk.res
      have hf1 : wr.frozen? ⟨w.heap.size, 1, none⟩ = false := frozen_of_row _ _ _ _ _ hmk.res
      have HM := Lib.hid hmk
      have Hk := Lib.hid hkn
      clear hmk hkn
      go_wp2
      refine bodyPost_ret (v := .tuple #[.agg #[.slice (some ⟨w.heap.size + 1, 0, none⟩) ss.length ss.length, .int .u16 (mkK seed)], .int .i64 0]) (by simp [results, Try.results13, go_sem, hr0, hr1]) rfl ?_
      exact made_of Hk.out HM.out Hv.out
set_option maxHeartbeats 1000000 in
theorem ref03_Make_no (F : Nat → Prop) (B : Option Addr) (ss : List Int) (d : Nat) (seed : Int) (w : World) (hs : ss.length ≤ 9223372036854775807)
    (hF : ∀ k, F k → k < w.heap.size) (hS : Ints .i64 w F B ss) (hno : vsB ss = false ∨ seed < 0 ∨ 1073741824 < seed) :
    Calls Try.prog 9 #[.slice B ss.length d, .int .i64 seed] w (MadeLayout [] 0 1 w) := by
  have hS1 := Lib.hid (hS.keep ((Agree.refl F w).alloc hF (.cells #[.slice none 0 0, .int .u16 0] 25)))
  clear hS
  by_cases hvs : vsB ss = true
  · have Hvb := Lib.hid hvs
    have hno' : seed < 0 ∨ 1073741824 < seed := by rcases hno with h | h; rw [h] at hvs; cases hvs; exact h
    clear hno hvs
    rcases hno' with h | h
    · go_enter Try.func9, Try.ntmps9
      go_wp2_with (go_at_call 24; refine (ref02_Valid_any F _ _ _ _ hs hS1.out).mono ?_; rintro e w' ⟨rfl, rfl⟩; rw [Hvb.out])
      exact bodyPost_ret (v := .tuple #[.agg #[.slice none 0 0, .int .u16 0], .int .i64 1]) (by simp [results, Try.results9, go_sem]) rfl ⟨none, 0, rfl, by simp, by decide, Row.nil _ _ _, grown_alloc (grown_refl _ _) _⟩
    · go_enter Try.func9, Try.ntmps9
      go_wp2_with (go_at_call 24; refine (ref02_Valid_any F _ _ _ _ hs hS1.out).mono ?_; rintro e w' ⟨rfl, rfl⟩; rw [Hvb.out])
      exact bodyPost_ret (v := .tuple #[.agg #[.slice none 0 0, .int .u16 0], .int .i64 1]) (by simp [results, Try.results9, go_sem]) rfl ⟨none, 0, rfl, by simp, by decide, Row.nil _ _ _, grown_alloc (grown_refl _ _) _⟩
  · have hvs' : vsB ss = false := by simpa using hvs
    have Hvb := Lib.hid hvs'; clear hvs hvs' hno
    go_enter Try.func9, Try.ntmps9
    go_wp2_with (go_at_call 24; refine (ref02_Valid_any F _ _ _ _ hs hS1.out).mono ?_; rintro e w' ⟨rfl, rfl⟩; rw [Hvb.out])
    exact bodyPost_ret (v := .tuple #[.agg #[.slice none 0 0, .int .u16 0], .int .i64 1]) (by simp [results, Try.results9, go_sem]) rfl ⟨none, 0, rfl, by simp, by decide, Row.nil _ _ _, grown_alloc (grown_refl _ _) _⟩

set_option maxHeartbeats 1000000 in
theorem ref03_Make_yes (F : Nat → Prop) (B : Option Addr) (ss : List Int) (d : Nat) (seed : Int) (w : World) (hs : ss.length ≤ 9223372036854775807)
    (hF : ∀ k, F k → k < w.heap.size) (hS : Ints .i64 w F B ss) (hv : VS ss) (h0 : 0 ≤ seed) (h1 : seed ≤ 1073741824) :
    Calls Try.prog 9 #[.slice B ss.length d, .int .i64 seed] w (MadeLayout (mkB ss seed) (mkK seed) 0 w) := by
  have hS1 := Lib.hid (hS.keep ((Agree.refl F w).alloc hF (.cells #[.slice none 0 0, .int .u16 0] 25)))
  have hvs := (vsB_iff ss).2 hv
  have Hvb := Lib.hid hvs; clear hvs
  have hl0 := hv.1
  have hl1 := hv.2.1
  have Hv := Lib.hid hv; clear hv
  clear hS
  have hmks := fun w => run_make_row' (P := Try.prog) 22 3 (.int .i64 0) 8 Try.underlying22 Try.infoInt rfl .i64 .i64 ss.length (by omega) (by omega) w
  have hq0 : 0 ≤ seed / (ss.length : Int) := Int.ediv_nonneg h0 (by omega)
  have hq1 : seed / (ss.length : Int) ≤ 1073741824 := Int.le_trans (Int.ediv_le_self _ h0) h1
  have hq2 : 0 ≤ seed / (50 * (ss.length : Int)) := Int.ediv_nonneg h0 (by omega)
  have hq3 : seed / (50 * (ss.length : Int)) ≤ 1073741824 := Int.le_trans (Int.ediv_le_self _ h0) h1
  go_enter Try.func9, Try.ntmps9
  go_wp2_with (go_at_call 24; refine (ref02_Valid_any F _ _ _ _ hs hS1.out).mono ?_; rintro e w' ⟨rfl, rfl⟩; rw [Hvb.out])
  go_loopw [8, 37] (fun a i wr => ∃ k : Nat, k ≤ ss.length ∧ i = .int .i64 k ∧ a = .int .i64 (mkTo ss seed k).2 ∧ MkW w wr ss.length (mkK seed) (mkTo ss seed k).1) (fun _ i _ => ss.length - (intOf i).toNat)
  case atStart =>
    refine ⟨0, Nat.zero_le _, rfl, rfl, ?_⟩
    have hk : IntKind.u16.wrap (40503 * seed) = mkK seed := by rw [IntKind.wrap_u16]; rfl
    rw [hk]
    exact MkW.start w ss.length (mkK seed)
  case round =>
    clear hmks
    obtain ⟨k, hk, rfl, rfl, hmk⟩ := hrel
    by_cases hlt : k < ss.length
    · have hb := mkTo_bd Hv.out h0 k
      have hr := rot_lt (k := k) (seed := seed) hl0
      obtain ⟨r, her⟩ : ∃ r : Nat, ((k : Int) + seed) % (ss.length : Int) = r := ⟨(((k : Int) + seed) % (ss.length : Int)).toNat, by omega⟩
      have hrl : r < ss.length := by omega
      have hlen := mkTo_len ss seed k
      obtain ⟨b2, o2, rfl, hF2, hc2⟩ := hS1.out.at_ hrl
      have hc7 := hmk.loc0
      obtain ⟨x0, hcr⟩ : ∃ x0, wr.cell? ⟨w.heap.size + 1, r, none⟩ = some (.int .i64 x0) := ⟨_, hmk.cell (r := r) (by omega)⟩
      have hfr := hmk.free r
      have hc2' : wr.cell? ⟨b2, o2 + r, none⟩ = some (.int .i64 ss[r]) := by
        rw [World.cell?_of_block (hmk.grown.block b2 (hF b2 hF2) (by simp))]
        rwa [World.cell?_alloc_lt _ _ _ (hF b2 hF2)] at hc2
      have hne : ¬ w.heap.size + 1 = b2 := by have := hF b2 hF2; omega
      have hne' : ¬ b2 = w.heap.size + 1 := by omega
      have HM := Lib.hid hmk
      have Hlen := Lib.hid hlen
      clear hc2 hmk hlen
      go_wp2
      have hv2 := Hv.out.at_ hrl
      have hm1 := Int.emod_nonneg (seed / (50 * (ss.length : Int))) (show (40 : Int) ≠ 0 by decide)
      have hm2 := Int.emod_lt_of_pos (seed / (50 * (ss.length : Int))) (show (0 : Int) < 40 by decide)
      have x1 : IntKind.i64.wrap (50 * (ss.length : Int)) = 50 * (ss.length : Int) := IntWalk.i64_in _ (by omega)
      have x2 : seed.tdiv (50 * (ss.length : Int)) = seed / (50 * (ss.length : Int)) := Int.tdiv_eq_ediv_of_nonneg h0
      have x3 : IntKind.i64.wrap (seed / (50 * (ss.length : Int))) = seed / (50 * (ss.length : Int)) := IntWalk.i64_in _ (by omega)
      have x4 : (seed / (50 * (ss.length : Int))).tmod 40 = seed / (50 * (ss.length : Int)) % 40 := Int.tmod_eq_emod_of_nonneg hq2
      have x5 : IntKind.i64.wrap (ss[r] + 1) = ss[r] + 1 := IntWalk.i64_in _ (by omega)
      have x6 : IntKind.i64.wrap (ss[r] + 1 + seed / (50 * (ss.length : Int)) % 40) = ss[r] + 1 + seed / (50 * (ss.length : Int)) % 40 := IntWalk.i64_in _ (by omega)
      have x7 : IntKind.i64.wrap ((mkTo ss seed k).2 + (ss[r] + 1 + seed / (50 * (ss.length : Int)) % 40)) = (mkTo ss seed k).2 + (ss[r] + 1 + seed / (50 * (ss.length : Int)) % 40) := IntWalk.i64_in _ (by omega)
      have x8 : (r : Int).toNat = r := by omega
      have x9 : ¬ 50 * (ss.length : Int) = 0 := by omega
      go_quiet (fail)
      have Hn := Lib.hid (mkTo_next (ss := ss) (seed := seed) (k := k) (r := r) (by omega) hrl)
      have Her := Lib.hid her
      clear x1 x2 x3 x4 x5 x6 x7 x8 x9 her
      go_wp2
      go_roundw
      case rel => exact ⟨k + 1, by omega, by go_num, by rw [Hn.out], by rw [Hn.out]; exact (HM.out.store r _).drewN _⟩
      case measure => simp [intOf]; omega
    · have hkn : k = ss.length := by omega
      have hc7 := hmk.loc0
      have hc8 := hmk.loc1
      have hr0 : wr.cell? ⟨w.heap.size, 0, none⟩ = some (.slice none 0 0) := by rw [cell_of_row _ _ _ _ _ _ hmk.res]; rfl
      have hr1 : wr.cell? ⟨w.heap.size, 1, none⟩ = some (.int .u16 0) := by rw [cell_of_row _ _ _ _ _ _ hmk.res]; rfl
      have hf0 : wr.frozen? ⟨w.heap.size, 0, none⟩ = false := frozen_of_row _ _ _ _ _ hmk.res
      have hf1 : wr.frozen? ⟨w.heap.size, 1, none⟩ = false := frozen_of_row _ _ _ _ _ hmk.res
      have HM := Lib.hid hmk
      have Hk := Lib.hid hkn
      clear hmk hkn
      go_wp2
      refine bodyPost_ret (v := .tuple #[.agg #[.slice (some ⟨w.heap.size + 1, 0, none⟩) ss.length ss.length, .int .u16 (mkK seed)], .int .i64 0]) (by simp [results, Try.results9, go_sem, hr0, hr1]) rfl ?_
      exact made_of Hk.out HM.out Hv.out

end Go.Proofs.Ytenobllgfgmjfaa
