/- The law LayoutValid, walked; no condition. -/
import Derived.Test.YtenobllgfgmjfaaLayP
import Derived.Test.YtenobllgfgmjfaaLayH
namespace Go.Proofs.Ytenobllgfgmjfaa
open Go.RowKit

theorem grown_fresh {a b c : World} {g : Nat} (h : a.grownBy b none) (h' : b.grownBy c (some g)) (hg : a.heap.size ≤ g) : a.grownBy c none :=
  ⟨h'.os.trans h.os, h'.tape.trans h.tape, h'.output.trans h.output, Nat.le_trans h.size h'.size, fun k hk hr => (h'.block k (Nat.lt_of_lt_of_le hk h.size) (fun e => by injection e; omega)).trans (h.block k hk hr)⟩

/-- The world in the middle of the law's loop. -/
structure LvW (w wr : World) (q : Nat) (A B : Option Addr) (c d : Nat) (key : Int) (bs ss : List Int) : Prop where
  grown : w.grownBy wr none
  lt : q < wr.heap.size
  c0 : wr.cell? ⟨q, 0, none⟩ = some (.slice A bs.length c)
  c1 : wr.cell? ⟨q, 1, none⟩ = some (.int .u16 key)
  b : Ints .i64 wr (fun k => k < wr.heap.size) A bs
  s : Ints .i64 wr (fun k => k < wr.heap.size) B ss
theorem Ints.low {k : IntKind} {w w' : World} {A : Option Addr} {xs : List Int} (h : Ints k w (fun k => k < w.heap.size) A xs) (hg : w.grownBy w' none) : Ints k w' (fun k => k < w'.heap.size) A xs :=
  Row.sub (Row.grown h hg fun _ h => h) fun k hk => Nat.lt_of_lt_of_le hk hg.size
theorem LvW.grow {w wr w' : World} {q : Nat} {A B : Option Addr} {c d : Nat} {key : Int} {bs ss : List Int} (h : LvW w wr q A B c d key bs ss) (hg : wr.grownBy w' none) : LvW w w' q A B c d key bs ss :=
  ⟨grown_trans h.grown hg, Nat.lt_of_lt_of_le h.lt hg.size, by rw [(gcell hg).1 _ _ h.lt]; exact h.c0, by rw [(gcell hg).1 _ _ h.lt]; exact h.c1, h.b.low hg, h.s.low hg⟩

set_option maxRecDepth 100000 in
set_option maxHeartbeats 2000000 in
theorem lawValid_any (A : Option Addr) (L : List Int) (c : Nat) (seed : Int) (w : World) (hl : L.length ≤ 9223372036854775807) (hw : I64s L) (hs0 : -9223372036854775808 ≤ seed) (hs1 : seed ≤ 9223372036854775807)
    (h : Ints .i64 w (fun k => k < w.heap.size) A L) :
    Calls Try.prog 4 #[.slice A L.length c, .int .i64 seed] w (BoolGrown true w) := by
  have HD0 := Lib.hid (deck_new (c := c) h (fun k hk => hk) hl hw)
  clear h
  go_enter Try.func4, Try.ntmps4
  go_wp2_with fail
  refine (mkNew_any A L c w).mono ?_
  rintro e W1 ⟨rfl, rfl⟩
  go_wp2_with fail
  refine (sizes_any (fun k => k < w.heap.size) w.heap.size L 0 _ (fun k hk => by simp; omega) HD0.out).mono ?_
  rintro e w1 ⟨ss, B, d, rfl, hv, hS, hd⟩
  have hg1 := grown_fresh (grown_alloc (grown_refl w none) _) hd.2 (Nat.le_refl _)
  have hS1 : Ints .i64 w1 (fun k => k < w1.heap.size) B ss := Row.sub hS fun k hk => hk.2
  have hl4 := hv.2.1
  have HV := Lib.hid hv
  clear hS hd hv
  have HS1 := Lib.hid hS1
  have HG1 := Lib.hid hg1
  clear hS1 hg1
  go_wp2_with (go_at_call 10; refine (mod_any seed 1073741824 _ hs0 hs1 (by omega) (by omega)).mono ?_; rintro e w' ⟨rfl, rfl⟩)
  have hm0 : 0 ≤ seed % 1073741824 := Int.emod_nonneg _ (by decide)
  have hm1 : seed % 1073741824 < 1073741824 := Int.emod_lt_of_pos _ (by decide)
  refine (layout_Make_yes _ B ss d (seed % 1073741824) _ (by omega) (fun k hk => hk) HS1.out HV.out hm0 (by omega)).mono ?_
  rintro e w2 ⟨A2, c2, rfl, hbc, hbm, hB, hg2⟩
  have hLV := LV_mkB HV.out hm0
  have hB2 : Ints .i64 w2 (fun k => k < w2.heap.size) A2 (mkB ss (seed % 1073741824)) := Row.sub hB fun k hk => hk.2
  generalize mkB ss (seed % 1073741824) = bs at *
  generalize mkK (seed % 1073741824) = key at *
  have hl5 : bs.length ≤ 4 := by have := hLV.2.1; omega
  have HG2 := Lib.hid (grown_trans HG1.out hg2)
  have HB2 := Lib.hid hB2
  have HS2 := Lib.hid (HS1.out.low hg2)
  have HLV := Lib.hid hLV
  clear hB hg2 hB2 hLV HS1 HG1 HD0 hw hl hm0 hm1 hs0 hs1
  have hgA : w2.grownBy (w2.alloc (.cells #[.slice A2 bs.length c2, .int .u16 key] 25)) none := grown_alloc (grown_refl _ _) _
  have H3 := Lib.hid (show LvW w (w2.alloc (.cells #[.slice A2 bs.length c2, .int .u16 key] 25)) w2.heap.size A2 B c2 d key bs ss from
    ⟨grown_trans HG2.out hgA, by simp, by rw [World.cell?_alloc_new]; rfl, by rw [World.cell?_alloc_new]; rfl, HB2.out.low hgA, HS2.out.low hgA⟩)
  have Hwb := Lib.hid (show I64s bs from fun x hx => by
    obtain ⟨j, hj, rfl⟩ := List.getElem_of_mem hx
    have h1 := HLV.out.2.2 j hj
    have hjs : j < ss.length := by have := HLV.out.2.1; omega
    have := h1.lo hj hjs
    have := HLV.out.1.at_ hjs
    omega)
  clear hgA HB2 HS2
  go_wp2_with (go_at_call 11; refine (layout_Valid_any _ A2 B bs ss c2 d key _ (by omega) (by omega) (fun k hk => hk) Hwb.out H3.out.b H3.out.s).mono ?_; rintro e w4 ⟨rfl, hg4⟩; rw [(lvB_iff _ _).2 HLV.out]; have H4 := Lib.hid (H3.out.grow hg4); clear H3 hg4)
  go_loopw [8, 9] (fun sn av wr => ∃ a : Int, -1 ≤ a ∧ a ≤ 513 ∧ av = .int .i64 a ∧ sn = .int .i64 (cntTo bs ss a bs.length) ∧ LvW w wr w2.heap.size A2 B c2 d key bs ss) (fun _ av _ => (513 - intOf av).toNat)
  case atStart => exact ⟨-1, by omega, by omega, rfl, by rw [cnt_start HLV.out _ (Nat.le_refl _)], H4.out⟩
  case round =>
    obtain ⟨a, ha0, ha1, rfl, rfl, hr⟩ := hrel
    have HR := Lib.hid hr
    have hc0 := hr.c0
    have hc1 := hr.c1
    have hlt := hr.lt
    have hcb := cnt_bd (bs := bs) a HLV.out.1 bs.length (by have := HLV.out.2.1; omega)
    clear hr H4
    by_cases hle : a ≤ 512
    · go_wp2_with fail
      refine resolve_walk _ A2 B bs ss c2 d key a _ (fun k hk => hk) HLV.out (by omega) (by omega) HR.out.b HR.out.s _ ?hyes ?hno
      case hno =>
        intro w5 hnone hg5
        have Hc := Lib.hid (cnt_same (bs := bs) (ss := ss) (a := a) bs.length hnone (fun r hr => by
          have hrs : r < ss.length := by have := HLV.out.2.1; omega
          rw [getD_at hrs]; have := HLV.out.1.at_ hrs; omega))
        have H5 := Lib.hid (HR.out.grow hg5)
        clear hnone hg5
        go_wp2
        go_roundw
        case rel => exact ⟨a + 1, by omega, by omega, by go_num, by rw [Hc.out], H5.out.grow (grown_alloc (grown_refl _ _) _)⟩
        case measure => simp [intOf]; omega
      case hyes =>
        intro r w5 hrb hhit hmin hg5
        have hrs : r < ss.length := by have := HLV.out.2.1; omega
        have Hc := Lib.hid (cnt_more hhit bs.length hrb (fun j hj hne h => hne (hit_one HLV.out hrb hj hhit h)) (fun r hr => by
          have hrs : r < ss.length := by have := HLV.out.2.1; omega
          rw [getD_at hrs]; have := HLV.out.1.at_ hrs; omega))
        have Hx := Lib.hid (fun j (hj : j < bs.length) (h : Hit bs ss (a + 1) j) => hit_next HLV.out hrb hj hhit h)
        have hreg := (HLV.out.2.2 r hrb).lo hrb hrs
        have hvr := HLV.out.1.at_ hrs
        obtain ⟨o, ho⟩ : ∃ o, o = a - bs.getD r 0 := ⟨_, rfl⟩
        rw [← ho]
        have ho0 : 0 ≤ o ∧ o < ss[r] := by
          have h1 := hhit.1; have h2 := hhit.2
          rw [getD_at hrs] at h2
          omega
        have Hsum := Lib.hid (show bs[r] + o = a by rw [ho, getD_at hrb]; omega)
        have Hins := Lib.hid (show InsP ss r o from ⟨by omega, by omega, ho0.1, by rw [Int.toNat_natCast, getD_at hrs]; exact ho0.2⟩)
        have h5 := HR.out.grow hg5
        have h6 := h5.grow (grown_alloc (grown_refl _ none) (.cells #[.int .i64 r, .int .i64 o] 39))
        have hd0 := h5.c0
        have hd1 := h5.c1
        have hlt5 := h5.lt
        have H6 := Lib.hid h6
        clear hhit hmin hg5 ho h5 h6 hc0 hc1 hlt HR
        go_wp2_with fail
        refine (address_yes _ A2 B bs ss c2 d key r o _ (by omega) (by omega) (fun k hk => hk) H6.out.b H6.out.s hrb Hins.out hreg.1 (by omega) (by omega)).mono ?_
        rintro e w7 ⟨rfl, hg7⟩
        rw [Hsum.out]
        have h7 := H6.out.grow hg7
        have hf0 := h7.c0
        have hf1 := h7.c1
        have hlt7 := h7.lt
        have hp := (gcell hg7).1 w5.heap.size 0 (by simp)
        rw [World.cell?_alloc_new] at hp
        have hp0 : w7.cell? ⟨w5.heap.size, 0, none⟩ = some (.int .i64 r) := hp
        have hlt57 : w5.heap.size < w7.heap.size := by have := hg7.size; simp at this; omega
        have H7 := Lib.hid h7
        clear hg7 h7 hp hd0 hd1 H6
        go_wp2_with fail
        refine resolve_walk _ A2 B bs ss c2 d key (a + 1) _ (fun k hk => hk) HLV.out (by omega) (by omega) H7.out.b H7.out.s _ ?hyes2 ?hno2
        case hno2 =>
          intro w8 hnone hg8
          have H8 := Lib.hid (H7.out.grow hg8)
          clear hnone hg8 hf0 hf1 hp0
          go_wp2
          go_roundw
          case rel => exact ⟨a + 1, by omega, by omega, by go_num, by rw [Hc.out], H8.out.grow (grown_alloc (grown_refl _ _) _)⟩
          case measure => simp [intOf]; omega
        case hyes2 =>
          intro j w8 hjb hhit2 _ hg8
          have hjr := Hx.out j hjb hhit2
          subst hjr
          have hq0 : w8.cell? ⟨w5.heap.size, 0, none⟩ = some (.int .i64 j) := by rw [(gcell hg8).1 _ _ hlt57]; exact hp0
          have hlt58 : w5.heap.size < w8.heap.size := by have := hg8.size; omega
          have H8 := Lib.hid (H7.out.grow hg8)
          clear hhit2 hg8 hf0 hf1 hp0
          go_wp2
          go_roundw
          case rel => exact ⟨a + 1, by omega, by omega, by go_num, by rw [Hc.out], H8.out.grow (grown_alloc (grown_refl _ _) _)⟩
          case measure => simp [intOf]; omega
    · have ha : a = 513 := by omega
      subst ha
      have Hc := Lib.hid (show cntTo bs ss 513 bs.length = tot ss by rw [cnt_end HLV.out _ (Nat.le_refl _), List.take_of_length_le (by have := HLV.out.2.1; omega)])
      rw [Hc.out]
      clear hc0 hc1 hlt
      go_wp2_with (first | (go_at_call 17; refine (total_any _ B ss d _ HLV.out.1 HR.out.s).mono ?_; rintro e w' ⟨rfl, rfl⟩) | (go_at_call 6; refine (awake_any _).mono ?_; rintro e w' ⟨rfl, hg9⟩; have HG9 := Lib.hid hg9; clear hg9))
      go_ret
      exact ⟨rfl, grown_trans HR.out.grown HG9.out⟩

end Go.Proofs.Ytenobllgfgmjfaa
