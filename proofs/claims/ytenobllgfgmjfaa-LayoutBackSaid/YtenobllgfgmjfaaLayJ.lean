/- Proper cells, canonical and raw cells; no condition. -/
import Derived.Test.YtenobllgfgmjfaaLayI
namespace Go.Proofs.Ytenobllgfgmjfaa
open Go.RowKit

def PrP (ss : List Int) (tag val r o : Int) : Prop := (tag = 0 ∨ tag = 2) ∧ r = 0 ∧ o = 0 ∨ tag = 1 ∧ val = 0 ∧ InsP ss r o
open Classical in
noncomputable def prB (ss : List Int) (tag val r o : Int) : Bool := decide (PrP ss tag val r o)
theorem prB_true {ss : List Int} {tag val r o : Int} (h : PrP ss tag val r o) : true = prB ss tag val r o := by unfold prB; simp [h]
theorem prB_false {ss : List Int} {tag val r o : Int} (h : ¬ PrP ss tag val r o) : false = prB ss tag val r o := by unfold prB; simp [h]

set_option maxHeartbeats 1000000 in
theorem proper_any (G : Nat → Prop) (B : Option Addr) (ss : List Int) (d : Nat) (tag val r o : Int) (w : World) (hs : ss.length ≤ 9223372036854775807) (hG : ∀ k, G k → k < w.heap.size) (hS : Ints .i64 w G B ss) :
    Calls Try.prog 30 #[.slice B ss.length d, .agg #[.int .u8 tag, .int .u16 val, .int .i64 r, .int .i64 o]] w (BoolGrown (prB ss tag val r o) w) := by
  have HS := Lib.hid (hS.keep ((Agree.refl G w).alloc hG (.cells #[.int .u8 tag, .int .u16 val, .int .i64 r, .int .i64 o] 48)))
  have HG := Lib.hid (show ∀ k, G k → k < (w.alloc (.cells #[.int .u8 tag, .int .u16 val, .int .i64 r, .int .i64 o] 48)).heap.size from fun k hk => by have := hG k hk; simp; omega)
  clear hS hG
  by_cases h1 : tag = 1
  · subst h1
    by_cases hv : val = 0
    · subst hv
      have Hi := Lib.hid (show insB ss r o = prB ss 1 0 r o by unfold insB prB PrP; simp)
      go_enter Try.func30, Try.ntmps30
      go_wp2_with (go_at_call 27; refine (inside_any G _ _ _ _ _ _ hs HG.out HS.out).mono ?_; rintro e w' ⟨rfl, n, rfl⟩)
      go_ret
      exact ⟨ret_bool Hi.out, grown_drewN (grown_alloc (grown_alloc (grown_refl _ _) _) _) _⟩
    · have hv1 : (val == 0) = false := by simp [hv]
      have Hf := Lib.hid (prB_false (ss := ss) (tag := 1) (val := val) (r := r) (o := o) (by unfold PrP; simp [hv]))
      clear hv
      go_enter Try.func30, Try.ntmps30
      go_wp2
      go_ret
      exact ⟨ret_bool Hf.out, grown_alloc (grown_refl _ _) _⟩
  · have d1 : (tag == 1) = false := by simp [h1]
    by_cases h02 : tag = 0 ∨ tag = 2
    · by_cases hr : r = 0
      · by_cases ho : o = 0
        · have Hf := Lib.hid (prB_true (ss := ss) (tag := tag) (val := val) (r := r) (o := o) (.inl ⟨h02, hr, ho⟩))
          subst hr
          subst ho
          clear h1 d1
          rcases h02 with rfl | rfl
          · go_enter Try.func30, Try.ntmps30
            go_wp2
            go_ret
            exact ⟨ret_bool Hf.out, grown_alloc (grown_refl _ _) _⟩
          · go_enter Try.func30, Try.ntmps30
            go_wp2
            go_ret
            exact ⟨ret_bool Hf.out, grown_alloc (grown_refl _ _) _⟩
        · have Hf := Lib.hid (prB_false (ss := ss) (tag := tag) (val := val) (r := r) (o := o) (by unfold PrP; simp [ho, h1]))
          have ho1 : (o == 0) = false := by simp [ho]
          subst hr
          clear ho h1 d1
          rcases h02 with rfl | rfl
          · go_enter Try.func30, Try.ntmps30
            go_wp2
            go_ret
            exact ⟨ret_bool Hf.out, grown_alloc (grown_refl _ _) _⟩
          · go_enter Try.func30, Try.ntmps30
            go_wp2
            go_ret
            exact ⟨ret_bool Hf.out, grown_alloc (grown_refl _ _) _⟩
      · have Hf := Lib.hid (prB_false (ss := ss) (tag := tag) (val := val) (r := r) (o := o) (by unfold PrP; simp [hr, h1]))
        have hr1 : (r == 0) = false := by simp [hr]
        clear hr h1 d1
        rcases h02 with rfl | rfl
        · go_enter Try.func30, Try.ntmps30
          go_wp2
          go_ret
          exact ⟨ret_bool Hf.out, grown_alloc (grown_refl _ _) _⟩
        · go_enter Try.func30, Try.ntmps30
          go_wp2
          go_ret
          exact ⟨ret_bool Hf.out, grown_alloc (grown_refl _ _) _⟩
    · have Hf := Lib.hid (prB_false (ss := ss) (tag := tag) (val := val) (r := r) (o := o) (by unfold PrP; simp only [h1, false_and, or_false]; exact fun h => h02 h.1))
      have d0 : (tag == 0) = false := by simp; exact fun h => h02 (.inl h)
      have d2 : (tag == 2) = false := by simp; exact fun h => h02 (.inr h)
      clear h1 h02
      go_enter Try.func30, Try.ntmps30
      go_wp2
      go_ret
      exact ⟨ret_bool Hf.out, grown_alloc (grown_refl _ _) _⟩

def CellErr (tag val err : Int) (w : World) (e : Ending) (w' : World) : Prop := e = .returned (.tuple #[.agg #[.int .u8 tag, .int .u16 val], .int .i64 err]) ∧ w.grownBy w' none

/-- The three blocks of a call of Raw or Canon. -/
def w3 (A : Option Addr) (n c : Nat) (key : Int) (x : Array Value) (tx : Nat) (y : Array Value) (ty : Nat) (w : World) : World :=
  ((w.alloc (.cells #[.slice A n c, .int .u16 key] 25)).alloc (.cells x tx)).alloc (.cells y ty)
theorem w3_low {A : Option Addr} {n c : Nat} {key : Int} {x : Array Value} {tx : Nat} {y : Array Value} {ty : Nat} {w : World} : w.grownBy (w3 A n c key x tx y ty w) none :=
  grown_alloc (grown_alloc (grown_alloc (grown_refl _ _) _) _) _

set_option maxHeartbeats 2000000 in
theorem raw_any (A B : Option Addr) (bs ss : List Int) (c d : Nat) (key tag val r o : Int) (w : World) (hlv : LV bs ss) (hk0 : 0 ≤ key) (hk1 : key ≤ 65535) (hv0 : 0 ≤ val) (hv1 : val ≤ 65535)
    (hB : Ints .i64 w (fun k => k < w.heap.size) A bs) (hS : Ints .i64 w (fun k => k < w.heap.size) B ss) (Q : Ending → World → Prop)
    (hno : ¬ PrP ss tag val r o → ∀ w', w.grownBy w' none → Q (.returned (.tuple #[.agg #[.int .u8 0, .int .u16 0], .int .i64 1])) w')
    (hnum : PrP ss tag val r o → tag = 0 → ∀ w', w.grownBy w' none → Q (.returned (.tuple #[.agg #[.int .u8 0, .int .u16 val], .int .i64 0])) w')
    (hhan : PrP ss tag val r o → tag = 2 → ∀ w', w.grownBy w' none → Q (.returned (.tuple #[.agg #[.int .u8 2, .int .u16 ((val + key) % 65536)], .int .i64 0])) w')
    (hptr : PrP ss tag val r o → tag = 1 → ∀ w', w.grownBy w' none → Q (.returned (.tuple #[.agg #[.int .u8 1, .int .u16 (bs.getD r.toNat 0 + o)], .int .i64 0])) w') :
    Calls Try.prog 20 #[.agg #[.slice A bs.length c, .int .u16 key], .slice B ss.length d, .agg #[.int .u8 tag, .int .u16 val, .int .i64 r, .int .i64 o]] w Q := by
  have hl4 := hlv.1.2.1
  have hl5 : bs.length ≤ 4 := by have := hlv.2.1; omega
  have HB := Lib.hid (hB.low (w3_low (A := A) (n := bs.length) (c := c) (key := key) (x := #[.int .u8 tag, .int .u16 val, .int .i64 r, .int .i64 o]) (tx := 48) (y := #[.int .u8 0, .int .u16 0]) (ty := 51)))
  have HS := Lib.hid (hS.low (w3_low (A := A) (n := bs.length) (c := c) (key := key) (x := #[.int .u8 tag, .int .u16 val, .int .i64 r, .int .i64 o]) (tx := 48) (y := #[.int .u8 0, .int .u16 0]) (ty := 51)))
  have Hno := Lib.hid hno
  have Hnum := Lib.hid hnum
  have Hhan := Lib.hid hhan
  have Hptr := Lib.hid hptr
  have HLV := Lib.hid hlv
  clear hB hS hno hnum hhan hptr hlv
  unfold w3 at HB HS
  by_cases hp : PrP ss tag val r o
  · have Hp := Lib.hid hp
    have Hpb := Lib.hid (prB_true hp)
    have hp' := hp
    clear hp
    rcases hp' with ⟨h02, rfl, rfl⟩ | ⟨rfl, rfl, hins⟩
    · rcases h02 with rfl | rfl
      · have Hq := Lib.hid (Hnum.out Hp.out rfl)
        clear Hno Hnum Hhan Hptr
        go_enter Try.func20, Try.ntmps20
        go_wp2_with fail
        refine (proper_any _ B ss d _ _ _ _ _ (by omega) (fun k hk => hk) HS.out).mono ?_
        rintro e w' ⟨rfl, hg⟩
        rw [← Hpb.out]
        obtain ⟨hgc, hgf⟩ := gcell hg
        have Hg := Lib.hid (grown_trans w3_low hg)
        have hsz := hg.size
        simp only [World.size_alloc] at hsz
        have hz0 : w.heap.size < w'.heap.size := by omega
        have hz1 : w.heap.size + 1 < w'.heap.size := by omega
        have hz2 : w.heap.size + 1 + 1 < w'.heap.size := by omega
        clear hg
        go_wp2
        refine bodyPost_ret (v := .tuple #[.agg #[.int .u8 0, .int .u16 val], .int .i64 0]) (by simp [results, Try.results20, go_sem, *]) rfl (Hq.out _ ?_)
        repeat (first | exact Hg.out | refine grown_alloc ?_ _ | refine grown_set ?_ (.inr (by dsimp only; omega)) _)
      · have Hq := Lib.hid (Hhan.out Hp.out rfl)
        clear Hno Hnum Hhan Hptr
        have hwr : IntKind.u16.wrap (val + key) = (val + key) % 65536 := IntKind.wrap_u16 _
        go_enter Try.func20, Try.ntmps20
        go_wp2_with fail
        refine (proper_any _ B ss d _ _ _ _ _ (by omega) (fun k hk => hk) HS.out).mono ?_
        rintro e w' ⟨rfl, hg⟩
        rw [← Hpb.out]
        obtain ⟨hgc, hgf⟩ := gcell hg
        have Hg := Lib.hid (grown_trans w3_low hg)
        have hsz := hg.size
        simp only [World.size_alloc] at hsz
        have hz0 : w.heap.size < w'.heap.size := by omega
        have hz1 : w.heap.size + 1 < w'.heap.size := by omega
        have hz2 : w.heap.size + 1 + 1 < w'.heap.size := by omega
        clear hg
        go_wp2
        refine bodyPost_ret (v := .tuple #[.agg #[.int .u8 2, .int .u16 ((val + key) % 65536)], .int .i64 0]) (by simp [results, Try.results20, go_sem, *]) rfl (Hq.out _ ?_)
        repeat (first | exact Hg.out | refine grown_alloc ?_ _ | refine grown_set ?_ (.inr (by dsimp only; omega)) _)
    · have hr0 := hins.1
      obtain ⟨q, rfl⟩ := Int.eq_ofNat_of_zero_le hr0
      have hqs : q < ss.length := by have := hins.2.1; omega
      have hqb : q < bs.length := by have := HLV.out.2.1; omega
      have hreg := (HLV.out.2.2 q hqb).lo hqb hqs
      have hvs := HLV.out.1.at_ hqs
      have ho0 := hins.2.2.1
      have ho1 : o < ss[q] := by have := hins.2.2.2; rwa [Int.toNat_natCast, getD_at hqs] at this
      have Hins := Lib.hid hins
      have hq := Hptr.out Hp.out rfl
      rw [Int.toNat_natCast, getD_at hqb] at hq
      have Hq := Lib.hid hq
      clear Hno Hnum Hhan Hptr hins hq hr0
      go_enter Try.func20, Try.ntmps20
      go_wp2_with fail
      refine (proper_any _ B ss d _ _ _ _ _ (by omega) (fun k hk => hk) HS.out).mono ?_
      rintro e w' ⟨rfl, hg⟩
      rw [← Hpb.out]
      obtain ⟨hgc, hgf⟩ := gcell hg
      have Hg := Lib.hid (grown_trans w3_low hg)
      have hsz := hg.size
      simp only [World.size_alloc] at hsz
      have hz0 : w.heap.size < w'.heap.size := by omega
      have hz1 : w.heap.size + 1 < w'.heap.size := by omega
      have hz2 : w.heap.size + 1 + 1 < w'.heap.size := by omega
      have h4 := (HB.out.low hg).low (grown_alloc (grown_refl _ none) (.cells #[.int .u8 1, .int .u16 0] 51))
      have h5 := (HS.out.low hg).low (grown_alloc (grown_refl _ none) (.cells #[.int .u8 1, .int .u16 0] 51))
      have H4 := Lib.hid h4
      have H5 := Lib.hid h5
      clear hg h4 h5
      go_wp2_with fail
      refine (address_yes _ A B bs ss c d key q o _ (by omega) (by omega) (fun k hk => hk) H4.out H5.out hqb Hins.out hreg.1 (by omega) (by omega)).mono ?_
      rintro e w5 ⟨rfl, hg5⟩
      obtain ⟨hgc5, hgf5⟩ := gcell hg5
      have Hg5 := Lib.hid hg5
      have hsz5 := hg5.size
      simp only [World.size_alloc] at hsz5
      have hy0 : w.heap.size < w5.heap.size := by omega
      have hy1 : w.heap.size + 1 < w5.heap.size := by omega
      have hy2 : w.heap.size + 1 + 1 < w5.heap.size := by omega
      have hy3 : w'.heap.size < w5.heap.size := by omega
      clear hg5
      go_wp2
      refine bodyPost_ret (v := .tuple #[.agg #[.int .u8 1, .int .u16 (bs[q] + o)], .int .i64 0]) (by simp [results, Try.results20, go_sem, *]) rfl (Hq.out _ ?_)
      have Hg6 := Lib.hid (grown_trans (grown_alloc Hg.out _) Hg5.out)
      repeat (first | exact Hg6.out | refine grown_alloc ?_ _ | refine grown_set ?_ (.inr (by dsimp only; omega)) _)
  · have Hq := Lib.hid (Hno.out hp)
    have Hpb := Lib.hid (prB_false hp)
    clear Hno Hnum Hhan Hptr hp
    go_enter Try.func20, Try.ntmps20
    go_wp2_with fail
    refine (proper_any _ B ss d _ _ _ _ _ (by omega) (fun k hk => hk) HS.out).mono ?_
    rintro e w' ⟨rfl, hg⟩
    rw [← Hpb.out]
    obtain ⟨hgc, hgf⟩ := gcell hg
    have Hg := Lib.hid (grown_trans w3_low hg)
    have hsz := hg.size
    simp only [World.size_alloc] at hsz
    have hz0 : w.heap.size < w'.heap.size := by omega
    have hz1 : w.heap.size + 1 < w'.heap.size := by omega
    have hz2 : w.heap.size + 1 + 1 < w'.heap.size := by omega
    clear hg
    go_wp2
    refine bodyPost_ret (v := .tuple #[.agg #[.int .u8 0, .int .u16 0], .int .i64 1]) (by simp [results, Try.results20, go_sem, *]) rfl (Hq.out _ ?_)
    repeat (first | exact Hg.out | refine grown_alloc ?_ _ | refine grown_set ?_ (.inr (by dsimp only; omega)) _)

end Go.Proofs.Ytenobllgfgmjfaa
