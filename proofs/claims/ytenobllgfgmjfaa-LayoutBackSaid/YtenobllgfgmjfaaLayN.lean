/- The law LayoutBack, walked; no condition. -/
import Derived.Test.YtenobllgfgmjfaaLayM
import Derived.Test.YtenobllgfgmjfaaLaw
namespace Go.Proofs.Ytenobllgfgmjfaa
open Go.RowKit

theorem canon_back (A B : Option Addr) (bs ss : List Int) (c d : Nat) (key tag val r o : Int) (w : World) (hlv : LV bs ss) (hk0 : 0 ≤ key) (hk1 : key ≤ 65535) (hp : ProperC ss tag val r o) (hr0 : 0 ≤ rawV bs key tag val r o) (hr1 : rawV bs key tag val r o ≤ 65535)
    (hB : Ints .i64 w (fun k => k < w.heap.size) A bs) (hS : Ints .i64 w (fun k => k < w.heap.size) B ss) :
    Calls Try.prog 21 #[.agg #[.slice A bs.length c, .int .u16 key], .slice B ss.length d, .agg #[.int .u8 tag, .int .u16 (rawV bs key tag val r o)]] w fun e w' =>
      e = .returned (.agg #[.int .u8 tag, .int .u16 val, .int .i64 r, .int .i64 o]) ∧ w.grownBy w' none :=
  (canon_any A B bs ss c d key tag _ w hlv hk0 hk1 hr0 hr1 hB hS).mono fun e w' ⟨t', v', r', o', hrel, he, hg⟩ => by
    obtain ⟨rfl, rfl, rfl, rfl⟩ := canon_raw hlv hp hrel
    exact ⟨he, hg⟩
theorem rawV_bd {bs ss : List Int} {key tag val r o : Int} (hlv : LV bs ss) (hp : ProperC ss tag val r o) : 0 ≤ rawV bs key tag val r o ∧ rawV bs key tag val r o ≤ 65535 := by
  obtain ⟨h0, h1, h2⟩ := hp
  rcases h2 with ⟨ht, rfl, rfl⟩ | ⟨rfl, rfl, hi⟩
  · rcases ht with rfl | rfl
    · simp only [rawV, if_pos]; exact ⟨h0, h1⟩
    · simp only [rawV]; simp; omega
  · obtain ⟨q, rfl⟩ := Int.eq_ofNat_of_zero_le hi.1
    have hqs : q < ss.length := by have := hi.2.1; omega
    have hqb : q < bs.length := by have := hlv.2.1; omega
    have := hi.2.2
    rw [Int.toNat_natCast, getD_at hqs] at this
    have hreg := (hlv.2.2 q hqb).lo hqb hqs
    have : rawV bs key 1 0 q o = bs[q] + o := by simp [rawV, hqb]
    rw [this]
    omega

set_option maxRecDepth 100000 in
set_option maxHeartbeats 4000000 in
theorem lawBack_any (A : Option Addr) (L : List Int) (c : Nat) (seed : Int) (w : World) (hl : L.length ≤ 9223372036854775807) (hw : I64s L) (hs0 : -9223372036854775808 ≤ seed) (hs1 : seed ≤ 9223372036854775807)
    (h : Ints .i64 w (fun k => k < w.heap.size) A L) :
    Calls Try.prog 5 #[.slice A L.length c, .int .i64 seed] w (BoolGrown true w) := by
  have HD0 := Lib.hid (deck_new (c := c) h (fun k hk => hk) hl hw)
  clear h hw
  go_enter Try.func5, Try.ntmps5
  go_wp2_with fail
  refine (mkNew_any A L c w).mono ?_
  rintro e W1 ⟨rfl, rfl⟩
  have HW0 := Lib.hid (show LawW w L (w.alloc (.cells #[.slice A L.length c, .int .i64 0] 57)) from ⟨grown_alloc (grown_refl _ _) _, 0, HD0.out⟩)
  go_wp2_with fail
  refine (sizes_any (fun k => k < w.heap.size) w.heap.size L 0 _ HW0.out.low HD0.out).mono ?_
  rintro e w1 ⟨ss, B, d, rfl, hv, hS, hd⟩
  have HS1 := Lib.hid (IntsU.new (g := w.heap.size) hS HW0.out.lt)
  have HW1 := Lib.hid (HW0.out.deal hd)
  have hl4 := hv.2.1
  have HV := Lib.hid hv
  clear hS hd hv HW0
  obtain ⟨j1, hj1⟩ := HW1.out.deck
  have HJ1 := Lib.hid hj1; clear hj1
  go_wp2_with fail
  refine (deckLayout_any (fun k => k < w.heap.size) (fun k => w.heap.size < k ∧ k < w1.heap.size) w.heap.size L j1 B ss d w1 HW1.out.low (fun k hk => ⟨hk.2, by omega⟩) HJ1.out HV.out HS1.out).mono ?_
  rintro e w2 ⟨m, A2, c2, hm0, hm1, rfl, hbc, hbm, hB2, hd2⟩
  have hLV := LV_mkB HV.out hm0
  have hkm : 0 ≤ mkK m ∧ mkK m ≤ 65535 := by unfold mkK; omega
  generalize mkB ss m = bs at *
  generalize mkK m = key at *
  have HB2 := Lib.hid (IntsU.new (g := w.heap.size) hB2 HW1.out.lt)
  have HS2 := Lib.hid (HS1.out.up (Up.of_deck hd2.2))
  have HW2 := Lib.hid (HW1.out.deal hd2)
  have HLV := Lib.hid hLV
  have hl5 : bs.length ≤ 4 := by have := hLV.2.1; omega
  clear hB2 hd2 hLV hm0 hm1 HW1 HS1
  go_wp2_with (go_at_call 10; refine (mod_any seed 1048576 _ hs0 hs1 (by omega) (by omega)).mono ?_; rintro e w' ⟨rfl, rfl⟩)
  have hn0 : 0 ≤ seed % 1048576 := Int.emod_nonneg _ (by decide)
  have hn1 : seed % 1048576 < 1048576 := Int.emod_lt_of_pos _ (by decide)
  have U2 := Lib.hid (Up.alloc w.heap.size w2 (.cells #[.slice A2 bs.length c2, .int .u16 key] 25))
  refine (ref03_Make_yes _ B ss d (seed % 1048576) _ (by omega) (fun k hk => hk) (HS2.out.up U2.out).low HV.out hn0 (by omega)).mono ?_
  rintro e w3 ⟨A3, c3, rfl, hbc3, hbm3, hB3, hg3⟩
  have hLV3 := LV_mkB HV.out hn0
  have hkm3 : 0 ≤ mkK (seed % 1048576) ∧ mkK (seed % 1048576) ≤ 65535 := by unfold mkK; omega
  generalize mkB ss (seed % 1048576) = bs3 at *
  generalize mkK (seed % 1048576) = key3 at *
  have HLV3 := Lib.hid hLV3
  have hl6 : bs3.length ≤ 4 := by have := hLV3.2.1; omega
  have HB3 := Lib.hid (IntsU.new (g := w.heap.size) hB3 (HW2.out.alloc _).lt)
  have u23 := U2.out.trans (Up.of_none hg3)
  have HS3 := Lib.hid (HS2.out.up u23)
  have HB23 := Lib.hid (HB2.out.up u23)
  have HW3 := Lib.hid ((HW2.out.alloc _).none hg3)
  obtain ⟨q7, hq7⟩ : ∃ q, q = w2.heap.size := ⟨_, rfl⟩
  have HC70 := Lib.hid (show Cl w.heap.size w3 q7 0 (.slice A2 bs.length c2) by rw [hq7]; exact (Cl.new HW2.out.lt rfl).up (Up.of_none hg3))
  have HC71 := Lib.hid (show Cl w.heap.size w3 q7 1 (.int .u16 key) by rw [hq7]; exact (Cl.new HW2.out.lt rfl).up (Up.of_none hg3))
  rw [← hq7]
  clear hg3 hB3 hLV3 u23 U2 HS2 HB2 HW2 hq7
  go_wp2_with fail
  have U3 := Lib.hid (Up.alloc w.heap.size w3 (.cells #[.slice A3 bs3.length c3, .int .u16 key3] 25))
  obtain ⟨j3, hj3⟩ := (HW3.out.alloc (.cells #[.slice A3 bs3.length c3, .int .u16 key3] 25)).deck
  have HJ3 := Lib.hid hj3; clear hj3
  refine (deckCanon_any (fun k => k < w.heap.size) (fun k => w.heap.size < k ∧ k < (w3.alloc (.cells #[.slice A3 bs3.length c3, .int .u16 key3] 25)).heap.size) w.heap.size L j3 B ss d _ (HW3.out.alloc _).low (fun k hk => ⟨hk.2, by omega⟩) HJ3.out HV.out (HS3.out.up U3.out)).mono ?_
  rintro e w4 ⟨tag, val, r, o, rfl, hp, hd4⟩
  have u34 := U3.out.trans (Up.of_deck hd4.2)
  have HS4 := Lib.hid (HS3.out.up u34)
  have HB24 := Lib.hid (HB23.out.up u34)
  have HB34 := Lib.hid (HB3.out.up u34)
  have HW4 := Lib.hid ((HW3.out.alloc _).deal hd4)
  have HC70' := Lib.hid (HC70.out.up u34)
  have HC71' := Lib.hid (HC71.out.up u34)
  obtain ⟨q8, hq8⟩ : ∃ q, q = w3.heap.size := ⟨_, rfl⟩
  have HC80 := Lib.hid (show Cl w.heap.size w4 q8 0 (.slice A3 bs3.length c3) by rw [hq8]; exact (Cl.new HW3.out.lt rfl).up (Up.of_deck hd4.2))
  have HC81 := Lib.hid (show Cl w.heap.size w4 q8 1 (.int .u16 key3) by rw [hq8]; exact (Cl.new HW3.out.lt rfl).up (Up.of_deck hd4.2))
  rw [← hq8]
  have HP := Lib.hid hp
  clear hd4 u34 hp hq8 HC70 HC71 HW3 HJ3 U3 HS3 HB23 HB3
  -- the two raw cells
  have U5 := Lib.hid (Up.alloc w.heap.size w4 (.cells #[.int .u8 tag, .int .u16 val, .int .i64 r, .int .i64 o] 48))
  have k70 := HC70'.out.eq
  have k71 := HC71'.out.eq
  have l7 := HC70'.out.hi
  go_wp2_with fail
  refine (raw_yes A2 B bs ss c2 d key tag val r o _ HLV.out hkm.1 hkm.2 HP.out (HB24.out.up U5.out).low (HS4.out.up U5.out).low).mono ?_
  rintro e w5 ⟨rfl, hg5⟩
  have hra := rawV_bd (key := key) HLV.out HP.out
  have HRA := Lib.hid (canon_back A2 B bs ss c2 d key tag val r o · HLV.out hkm.1 hkm.2 HP.out hra.1 hra.2)
  generalize rawV bs key tag val r o = ra at *
  have u45 := U5.out.trans (Up.of_none hg5)
  have HS5 := Lib.hid (HS4.out.up u45)
  have HB25 := Lib.hid (HB24.out.up u45)
  have HB35 := Lib.hid (HB34.out.up u45)
  have HW5 := Lib.hid ((HW4.out.alloc _).none hg5)
  have HC70 := Lib.hid (HC70'.out.up u45)
  have HC71 := Lib.hid (HC71'.out.up u45)
  have HC80' := Lib.hid (HC80.out.up u45)
  have HC81' := Lib.hid (HC81.out.up u45)
  obtain ⟨q10, hq10⟩ : ∃ q, q = w4.heap.size := ⟨_, rfl⟩
  have HD0 := Lib.hid (show Cl w.heap.size w5 q10 0 (.int .u8 tag) by rw [hq10]; exact (Cl.new HW4.out.lt rfl).up (Up.of_none hg5))
  have HD1 := Lib.hid (show Cl w.heap.size w5 q10 1 (.int .u16 val) by rw [hq10]; exact (Cl.new HW4.out.lt rfl).up (Up.of_none hg5))
  have HD2 := Lib.hid (show Cl w.heap.size w5 q10 2 (.int .i64 r) by rw [hq10]; exact (Cl.new HW4.out.lt rfl).up (Up.of_none hg5))
  have HD3 := Lib.hid (show Cl w.heap.size w5 q10 3 (.int .i64 o) by rw [hq10]; exact (Cl.new HW4.out.lt rfl).up (Up.of_none hg5))
  rw [← hq10]
  clear hg5 u45 hq10 HC70' HC71' HC80 HC81 U5 HS4 HB24 HB34 HW4 k70 k71 l7
  have U6 := Lib.hid (Up.alloc w.heap.size w5 (.cells #[.int .u8 tag, .int .u16 ra] 51))
  have k80 := HC80'.out.eq
  have k81 := HC81'.out.eq
  have l8 := HC80'.out.hi
  have k0 := HD0.out.eq
  have k1 := HD1.out.eq
  have k2 := HD2.out.eq
  have k3 := HD3.out.eq
  have l10 := HD0.out.hi
  go_wp2_with fail
  refine (raw_yes A3 B bs3 ss c3 d key3 tag val r o _ HLV3.out hkm3.1 hkm3.2 HP.out (HB35.out.up U6.out).low (HS5.out.up U6.out).low).mono ?_
  rintro e w6 ⟨rfl, hg6⟩
  have hrb := rawV_bd (key := key3) HLV3.out HP.out
  have HRB := Lib.hid (canon_back A3 B bs3 ss c3 d key3 tag val r o · HLV3.out hkm3.1 hkm3.2 HP.out hrb.1 hrb.2)
  generalize rawV bs3 key3 tag val r o = rb at *
  have u56 := U6.out.trans (Up.of_none hg6)
  have HS6 := Lib.hid (HS5.out.up u56)
  have HB26 := Lib.hid (HB25.out.up u56)
  have HB36 := Lib.hid (HB35.out.up u56)
  have HW6 := Lib.hid ((HW5.out.alloc _).none hg6)
  have HC70' := Lib.hid (HC70.out.up u56)
  have HC71' := Lib.hid (HC71.out.up u56)
  have HC80 := Lib.hid (HC80'.out.up u56)
  have HC81 := Lib.hid (HC81'.out.up u56)
  have HE0 := Lib.hid (HD0.out.up u56)
  have HE1 := Lib.hid (HD1.out.up u56)
  have HE2 := Lib.hid (HD2.out.up u56)
  have HE3 := Lib.hid (HD3.out.up u56)
  obtain ⟨q11, hq11⟩ : ∃ q, q = w5.heap.size := ⟨_, rfl⟩
  have HA0 := Lib.hid (show Cl w.heap.size w6 q11 0 (.int .u8 tag) by rw [hq11]; exact (Cl.new HW5.out.lt rfl).up (Up.of_none hg6))
  have HA1 := Lib.hid (show Cl w.heap.size w6 q11 1 (.int .u16 ra) by rw [hq11]; exact (Cl.new HW5.out.lt rfl).up (Up.of_none hg6))
  rw [← hq11]
  clear hg6 u56 hq11 HC70 HC71 HC80' HC81' U6 HS5 HB25 HB35 HW5 k80 k81 l8 k0 k1 k2 k3 l10 HD0 HD1 HD2 HD3
  go_wp2_with fail
  -- the comparison
  have U7 := Up.alloc w.heap.size w6 (.cells #[.int .u8 tag, .int .u16 rb] 51)
  have HS8 := HS6.out.up U7
  have HB28 := HB26.out.up U7
  have HB38 := HB36.out.up U7
  have HW8 := HW6.out.alloc (.cells #[.int .u8 tag, .int .u16 rb] 51)
  have c70 := HC70'.out.up U7
  have c71 := HC71'.out.up U7
  have c80 := HC80.out.up U7
  have c81 := HC81.out.up U7
  have e0 := HE0.out.up U7
  have e1 := HE1.out.up U7
  have e2 := HE2.out.up U7
  have e3 := HE3.out.up U7
  have a0 := HA0.out.up U7
  have a1 := HA1.out.up U7
  obtain ⟨q13, hq13⟩ : ∃ q, q = w6.heap.size := ⟨_, rfl⟩
  have b0 : Cl w.heap.size (w6.alloc (.cells #[.int .u8 tag, .int .u16 rb] 51)) q13 0 (.int .u8 tag) := by rw [hq13]; exact Cl.new HW6.out.lt rfl
  have b1 : Cl w.heap.size (w6.alloc (.cells #[.int .u8 tag, .int .u16 rb] 51)) q13 1 (.int .u16 rb) := by rw [hq13]; exact Cl.new HW6.out.lt rfl
  rw [← hq13]
  clear hq13 U7 HS6 HB26 HB36 HW6 HC70' HC71' HC80 HC81 HE0 HE1 HE2 HE3 HA0 HA1
  generalize w6.alloc (.cells #[.int .u8 tag, .int .u16 rb] 51) = w8 at *
  have HCa := Lib.hid (fun w' (hg : w8.grownBy w' none) => HRA.out w' (HB28.up (Up.of_none hg)).low (HS8.up (Up.of_none hg)).low)
  have HCb := Lib.hid (fun w' (hg : w8.grownBy w' none) => HRB.out w' (HB38.up (Up.of_none hg)).low (HS8.up (Up.of_none hg)).low)
  have HS8 := Lib.hid HS8
  have HB28 := Lib.hid HB28
  have HW8 := Lib.hid HW8
  have C70 := Lib.hid c70
  have C71 := Lib.hid c71
  have k70 := c70.eq
  have k71 := c71.eq
  have l7 := c70.hi
  have k80 := c80.eq
  have k81 := c81.eq
  have l8 := c80.hi
  have k0 := e0.eq
  have k1 := e1.eq
  have k2 := e2.eq
  have k3 := e3.eq
  have l10 := e0.hi
  have ka0 := a0.eq
  have ka1 := a1.eq
  have l11 := a0.hi
  have kb0 := b0.eq
  have kb1 := b1.eq
  have l13 := b0.hi
  clear c70 c71 c80 c81 e0 e1 e2 e3 a0 a1 b0 b1 HRA HRB
  refine wp_region_rely (fun w' => w8.grownBy w' none) (fun _ _ => True)
    [SVal (.int .i64 0), SVal (.bool false), SVal (.bool false), SVal (.int .i64 0), SVal (.bool false), SVal (.bool false), SVal (.bool false), SVal (.agg #[.slice A2 bs.length c2, .int .u16 key]), SVal (.slice B ss.length d), SVal (.agg #[.int .u8 tag, .int .u16 ra]), SVal (.agg #[.int .u8 tag, .int .u16 val, .int .i64 r, .int .i64 o]), SVal (.agg #[.int .u8 tag, .int .u16 val, .int .i64 r, .int .i64 o]), SVal (.bool false), SVal (.bool false), SVal (.bool false), SVal (.agg #[.slice A3 bs3.length c3, .int .u16 key3]), SVal (.slice B ss.length d), SVal (.agg #[.int .u8 tag, .int .u16 rb]), SVal (.agg #[.int .u8 tag, .int .u16 val, .int .i64 r, .int .i64 o]), SVal (.agg #[.int .u8 tag, .int .u16 val, .int .i64 r, .int .i64 o]), SVal (.bool false), SVal (.bool false), SVal (.bool false), SVal (.pointer (some ⟨q11, 0, none⟩)), SVal (.int .u8 tag), SVal (.pointer (some ⟨q10, 0, none⟩)), SVal (.int .u8 tag), SVal (.bool false), SVal (.bool false)]
    110 (by kernel_rfl) rfl (by kernel_rfl) (grown_drew (grown_refl _ _)) (fun _ => trivial) ?_ ?_ ?_
  · exact ⟨SVal.kept, SVal.kept, SVal.kept, SVal.kept, SVal.kept, SVal.kept, SVal.kept, SVal.kept, SVal.kept, SVal.kept, SVal.kept, SVal.kept, SVal.kept, SVal.kept, SVal.kept, SVal.kept, SVal.kept, SVal.kept, SVal.kept, SVal.kept, SVal.kept, SVal.kept, SVal.kept, SVal.kept, SVal.kept, SVal.kept, SVal.kept, SVal.kept, SVal.kept, trivial⟩
  · refine duties_cons ?_ (duties_cons ?_ (duties_cons ?_ (duties_cons ?_ (duties_cons ?_ (duties_cons ?_ (duties_cons ?_ (duties_cons ?_ (duties_cons ?_ (duties_cons ?_ (duties_cons ?_ (duties_cons ?_ (duties_cons ?_ (duties_cons ?_ (duties_cons ?_ (duties_cons ?_ (duties_cons ?_ (duties_cons ?_ (duties_cons ?_ (duties_cons ?_ (duties_cons ?_ (duties_cons ?_ (duties_cons ?_ (duties_cons ?_ (duties_cons ?_ (duties_cons ?_ (duties_cons ?_ (duties_cons ?_ (duties_cons ?_ duties_nil))))))))))))))))))))))))))))
    · refine duty_plain rfl fun f w1 hb H => ?_
      have e12 : f 12 = _ := H 12 (by decide)
      clear H
      have hgc := (gcell hb).1
      go_simp
      exact ⟨hb, trivial, rfl⟩
    · refine duty_plain rfl fun f w1 hb H => ?_
      have e50 : f 50 = _ := H 50 (by decide)
      clear H
      have hgc := (gcell hb).1
      go_simp
      exact ⟨hb, trivial, rfl⟩
    · refine duty_plain rfl fun f w1 hb H => ?_
      have e51 : f 51 = _ := H 51 (by decide)
      clear H
      have hgc := (gcell hb).1
      go_simp
      exact ⟨hb, trivial, rfl⟩
    · refine duty_guard _ _ _ rfl rfl fun f w1 hb H => ⟨H 52 (by decide), ?_⟩
      have e14 : f 14 = _ := H 14 (by decide)
      clear H
      have hgc := (gcell hb).1
      go_simp
      exact ⟨hb, trivial, rfl⟩
    · refine duty_guard _ _ _ rfl rfl fun f w1 hb H => ⟨H 52 (by decide), ?_⟩
      have e53 : f 53 = _ := H 53 (by decide)
      clear H
      have hgc := (gcell hb).1
      go_simp
      exact ⟨hb, trivial, rfl⟩
    · refine duty_plain rfl fun f w1 hb H => ?_
      have e52 : f 52 = _ := H 52 (by decide)
      have e54 : f 54 = _ := H 54 (by decide)
      clear H
      have hgc := (gcell hb).1
      go_simp
      exact ⟨hb, trivial, rfl⟩
    · refine duty_plain rfl fun f w1 hb H => ?_
      have e55 : f 55 = _ := H 55 (by decide)
      clear H
      have hgc := (gcell hb).1
      go_simp
      exact ⟨hb, trivial, rfl⟩
    · refine duty_guard _ _ _ rfl rfl fun f w1 hb H => ⟨H 56 (by decide), ?_⟩
      have e7 : f 7 = _ := H 7 (by decide)
      clear H
      have hgc := (gcell hb).1
      go_simp
      exact ⟨hb, trivial, rfl⟩
    · refine duty_guard _ _ _ rfl rfl fun f w1 hb H => ⟨H 56 (by decide), ?_⟩
      have e6 : f 6 = _ := H 6 (by decide)
      clear H
      have hgc := (gcell hb).1
      go_simp
      exact ⟨hb, trivial, rfl⟩
    · refine duty_guard _ _ _ rfl rfl fun f w1 hb H => ⟨H 56 (by decide), ?_⟩
      have e11 : f 11 = _ := H 11 (by decide)
      clear H
      have hgc := (gcell hb).1
      go_simp
      exact ⟨hb, trivial, rfl⟩
    · refine duty_guard _ _ _ rfl rfl fun f w1 hb H => ⟨H 56 (by decide), ?_⟩
      have e57 : f 57 = _ := H 57 (by decide)
      have e58 : f 58 = _ := H 58 (by decide)
      have e59 : f 59 = _ := H 59 (by decide)
      clear H
      go_simp
      exact (HCa.out w1 hb).mono fun e w2 h => ⟨_, h.1, grown_trans hb h.2, trivial, rfl⟩
    · refine duty_guard _ _ _ rfl rfl fun f w1 hb H => ⟨H 56 (by decide), ?_⟩
      have e10 : f 10 = _ := H 10 (by decide)
      clear H
      have hgc := (gcell hb).1
      go_simp
      exact ⟨hb, trivial, rfl⟩
    · refine duty_guard _ _ _ rfl rfl fun f w1 hb H => ⟨H 56 (by decide), ?_⟩
      have e60 : f 60 = _ := H 60 (by decide)
      have e61 : f 61 = _ := H 61 (by decide)
      clear H
      have hgc := (gcell hb).1
      go_simp
      exact ⟨hb, trivial, rfl⟩
    · refine duty_plain rfl fun f w1 hb H => ?_
      have e56 : f 56 = _ := H 56 (by decide)
      have e62 : f 62 = _ := H 62 (by decide)
      clear H
      have hgc := (gcell hb).1
      go_simp
      exact ⟨hb, trivial, rfl⟩
    · refine duty_plain rfl fun f w1 hb H => ?_
      have e63 : f 63 = _ := H 63 (by decide)
      clear H
      have hgc := (gcell hb).1
      go_simp
      exact ⟨hb, trivial, rfl⟩
    · refine duty_guard _ _ _ rfl rfl fun f w1 hb H => ⟨H 64 (by decide), ?_⟩
      have e8 : f 8 = _ := H 8 (by decide)
      clear H
      have hgc := (gcell hb).1
      go_simp
      exact ⟨hb, trivial, rfl⟩
    · refine duty_guard _ _ _ rfl rfl fun f w1 hb H => ⟨H 64 (by decide), ?_⟩
      have e6 : f 6 = _ := H 6 (by decide)
      clear H
      have hgc := (gcell hb).1
      go_simp
      exact ⟨hb, trivial, rfl⟩
    · refine duty_guard _ _ _ rfl rfl fun f w1 hb H => ⟨H 64 (by decide), ?_⟩
      have e13 : f 13 = _ := H 13 (by decide)
      clear H
      have hgc := (gcell hb).1
      go_simp
      exact ⟨hb, trivial, rfl⟩
    · refine duty_guard _ _ _ rfl rfl fun f w1 hb H => ⟨H 64 (by decide), ?_⟩
      have e65 : f 65 = _ := H 65 (by decide)
      have e66 : f 66 = _ := H 66 (by decide)
      have e67 : f 67 = _ := H 67 (by decide)
      clear H
      go_simp
      exact (HCb.out w1 hb).mono fun e w2 h => ⟨_, h.1, grown_trans hb h.2, trivial, rfl⟩
    · refine duty_guard _ _ _ rfl rfl fun f w1 hb H => ⟨H 64 (by decide), ?_⟩
      have e10 : f 10 = _ := H 10 (by decide)
      clear H
      have hgc := (gcell hb).1
      go_simp
      exact ⟨hb, trivial, rfl⟩
    · refine duty_guard _ _ _ rfl rfl fun f w1 hb H => ⟨H 64 (by decide), ?_⟩
      have e68 : f 68 = _ := H 68 (by decide)
      have e69 : f 69 = _ := H 69 (by decide)
      clear H
      have hgc := (gcell hb).1
      go_simp
      exact ⟨hb, trivial, rfl⟩
    · refine duty_plain rfl fun f w1 hb H => ?_
      have e64 : f 64 = _ := H 64 (by decide)
      have e70 : f 70 = _ := H 70 (by decide)
      clear H
      have hgc := (gcell hb).1
      go_simp
      exact ⟨hb, trivial, rfl⟩
    · refine duty_plain rfl fun f w1 hb H => ?_
      have e71 : f 71 = _ := H 71 (by decide)
      clear H
      have hgc := (gcell hb).1
      go_simp
      exact ⟨hb, trivial, rfl⟩
    · refine duty_guard _ _ _ rfl rfl fun f w1 hb H => ⟨H 72 (by decide), ?_⟩
      have e11 : f 11 = _ := H 11 (by decide)
      clear H
      have hgc := (gcell hb).1
      go_simp
      exact ⟨hb, trivial, rfl⟩
    · refine duty_guard _ _ _ rfl rfl fun f w1 hb H => ⟨H 72 (by decide), ?_⟩
      have e73 : f 73 = _ := H 73 (by decide)
      clear H
      have hgc := (gcell hb).1
      go_simp
      exact ⟨hb, trivial, rfl⟩
    · refine duty_guard _ _ _ rfl rfl fun f w1 hb H => ⟨H 72 (by decide), ?_⟩
      have e10 : f 10 = _ := H 10 (by decide)
      clear H
      have hgc := (gcell hb).1
      go_simp
      exact ⟨hb, trivial, rfl⟩
    · refine duty_guard _ _ _ rfl rfl fun f w1 hb H => ⟨H 72 (by decide), ?_⟩
      have e75 : f 75 = _ := H 75 (by decide)
      clear H
      have hgc := (gcell hb).1
      go_simp
      exact ⟨hb, trivial, rfl⟩
    · refine duty_guard _ _ _ rfl rfl fun f w1 hb H => ⟨H 72 (by decide), ?_⟩
      have e74 : f 74 = _ := H 74 (by decide)
      have e76 : f 76 = _ := H 76 (by decide)
      clear H
      have hgc := (gcell hb).1
      go_simp
      exact ⟨hb, trivial, rfl⟩
    · refine duty_plain rfl fun f w1 hb H => ?_
      have e72 : f 72 = _ := H 72 (by decide)
      have e77 : f 77 = _ := H 77 (by decide)
      clear H
      have hgc := (gcell hb).1
      go_simp
      exact ⟨hb, trivial, rfl⟩
  · intro f w9 hb hE
    simp only [putAll, Act.put, slotV, List.setIfInBounds_toArray, List.set_cons_succ, List.set_cons_zero]
    have e78 : f 78 = .bool false := by
      simp only [Ends, slotV, SVal] at hE
      simp [hE]
    rw [e78]
    have u89 := Up.of_none (g := w.heap.size) hb
    have HS9 := Lib.hid (HS8.out.up u89)
    have HB29 := Lib.hid (HB28.out.up u89)
    have HW9 := Lib.hid (HW8.out.none hb)
    have C70' := Lib.hid (C70.out.up u89)
    have C71' := Lib.hid (C71.out.up u89)
    clear hE hb u89 e78 HCa HCb HS8 HB28 HW8 C70 C71 k70 k71 l7 k80 k81 l8 k0 k1 k2 k3 l10 ka0 ka1 l11 kb0 kb1 l13 hra hrb
    obtain ⟨j9, hj9⟩ := HW9.out.deck
    have HJ9 := Lib.hid hj9; clear hj9
    go_wp2_with fail
    refine (deckCell_any (fun k => k < w.heap.size) w.heap.size L j9 w9 HW9.out.low HJ9.out).mono ?_
    rintro e wa ⟨tg, vl, ht0, ht1, hv0, hv1, rfl, hda⟩
    have ua := Up.of_deck hda.2
    have HSa := Lib.hid (HS9.out.up ua)
    have HB2a := Lib.hid (HB29.out.up ua)
    have HWa := Lib.hid (HW9.out.deal hda)
    have D70 := Lib.hid (C70'.out.up ua)
    have D71 := Lib.hid (C71'.out.up ua)
    clear hda ua HS9 HB29 HW9 C70' C71' HJ9
    have k70 := D70.out.eq
    have k71 := D71.out.eq
    have l7 := D70.out.hi
    have Ub := Lib.hid (Up.alloc w.heap.size wa (.cells #[.int .u8 tg, .int .u16 vl] 51))
    go_wp2_with fail
    refine (canon_any A2 B bs ss c2 d key tg vl _ HLV.out hkm.1 hkm.2 hv0 hv1 (HB2a.out.up Ub.out).low (HSa.out.up Ub.out).low).mono ?_
    rintro e wb ⟨t', v', r', o', hrel, rfl, hgb⟩
    obtain ⟨hv0', hv1', hyes, hno⟩ := raw_canon HLV.out hkm.1 hkm.2 ht0 ht1 hv0 hv1 hrel
    have Hyes := Lib.hid hyes
    have Hno := Lib.hid hno
    have ub := Ub.out.trans (Up.of_none hgb)
    have HSb := Lib.hid (HSa.out.up ub)
    have HB2b := Lib.hid (HB2a.out.up ub)
    have HWb := Lib.hid ((HWa.out.alloc _).none hgb)
    have C70 := Lib.hid (D70.out.up ub)
    have C71 := Lib.hid (D71.out.up ub)
    obtain ⟨q15, hq15⟩ : ∃ q, q = wa.heap.size := ⟨_, rfl⟩
    have G0 := Lib.hid (show Cl w.heap.size wb q15 0 (.int .u8 tg) by rw [hq15]; exact (Cl.new HWa.out.lt rfl).up (Up.of_none hgb))
    have G1 := Lib.hid (show Cl w.heap.size wb q15 1 (.int .u16 vl) by rw [hq15]; exact (Cl.new HWa.out.lt rfl).up (Up.of_none hgb))
    rw [← hq15]
    clear hgb ub hq15 hrel hyes hno D70 D71 k70 k71 l7 Ub HSa HB2a HWa
    have k70 := C70.out.eq
    have k71 := C71.out.eq
    have l7 := C70.out.hi
    have Uc := Lib.hid (Up.alloc w.heap.size wb (.cells #[.int .u8 t', .int .u16 v', .int .i64 r', .int .i64 o'] 48))
    by_cases hr' : 0 ≤ r'
    · obtain ⟨hpc, rfl, hrv⟩ := Hyes.out hr'
      have Hpc := Lib.hid hpc
      have Hrv := Lib.hid hrv
      clear hpc hrv
      go_wp2_with fail
      refine (raw_yes A2 B bs ss c2 d key t' v' r' o' _ HLV.out hkm.1 hkm.2 Hpc.out (HB2b.out.up Uc.out).low (HSb.out.up Uc.out).low).mono ?_
      rintro e wc ⟨rfl, hgc⟩
      rw [Hrv.out]
      have uc := Uc.out.trans (Up.of_none hgc)
      have m0 := (G0.out.up uc).eq
      have m1 := (G1.out.up uc).eq
      have lm := (G0.out.up uc).hi
      obtain ⟨q16, hq16⟩ : ∃ q, q = wb.heap.size := ⟨_, rfl⟩
      have N2 := (show Cl w.heap.size wc q16 2 (.int .i64 r') by rw [hq16]; exact (Cl.new HWb.out.lt rfl).up (Up.of_none hgc))
      have n2 := N2.eq
      have ln := N2.hi
      have HWc := Lib.hid ((HWb.out.alloc (.cells #[.int .u8 t', .int .u16 v', .int .i64 r', .int .i64 o'] 48)).none hgc)
      rw [← hq16]
      clear hgc uc hq16 N2 k70 k71 l7
      go_wp2_with (go_at_call 6; refine (awake_any _).mono ?_; rintro e w' ⟨rfl, hg9⟩; have HG9 := Lib.hid hg9; clear hg9)
      go_ret
      exact ⟨rfl, grown_trans (grown_alloc HWc.out.grown _) HG9.out⟩
    · have hd : decide (0 ≤ r') = false := by simpa using hr'
      have Hn := Lib.hid (Hno.out hr')
      clear hr'
      go_wp2_with fail
      refine raw_any A2 B bs ss c2 d key t' v' r' o' _ HLV.out hkm.1 hkm.2 hv0' hv1' (HB2b.out.up Uc.out).low (HSb.out.up Uc.out).low _ ?_ ?_ ?_ ?_
      · intro _ wc hgc
        obtain ⟨q16, hq16⟩ : ∃ q, q = wb.heap.size := ⟨_, rfl⟩
        have N2 := (show Cl w.heap.size wc q16 2 (.int .i64 r') by rw [hq16]; exact (Cl.new HWb.out.lt rfl).up (Up.of_none hgc))
        have n2 := N2.eq
        have ln := N2.hi
        have HWc := Lib.hid ((HWb.out.alloc (.cells #[.int .u8 t', .int .u16 v', .int .i64 r', .int .i64 o'] 48)).none hgc)
        rw [← hq16]
        clear hgc hq16 N2 k70 k71 l7
        go_wp2_with (go_at_call 6; refine (awake_any _).mono ?_; rintro e w' ⟨rfl, hg9⟩; have HG9 := Lib.hid hg9; clear hg9)
        go_ret
        exact ⟨rfl, grown_trans (grown_alloc HWc.out.grown _) HG9.out⟩
      · exact fun h => absurd h Hn.out
      · exact fun h => absurd h Hn.out
      · exact fun h => absurd h Hn.out

end Go.Proofs.Ytenobllgfgmjfaa
