/- The law LayoutBack, its plain part; no condition. -/
import Derived.Test.YtenobllgfgmjfaaLayP
import Derived.Test.YtenobllgfgmjfaaLayK
import Derived.Test.YtenobllgfgmjfaaLayL
namespace Go.Proofs.Ytenobllgfgmjfaa
open Go.RowKit

/-- The raw cell of a proper canonical one: its tag and its word. -/
def rawV (bs : List Int) (key tag val r o : Int) : Int := if tag = 0 then val else if tag = 2 then (val + key) % 65536 else bs.getD r.toNat 0 + o

def RawYes (bs : List Int) (key tag val r o : Int) (w : World) (e : Ending) (w' : World) : Prop :=
  e = .returned (.tuple #[.agg #[.int .u8 tag, .int .u16 (rawV bs key tag val r o)], .int .i64 0]) ∧ w.grownBy w' none
theorem raw_yes (A B : Option Addr) (bs ss : List Int) (c d : Nat) (key tag val r o : Int) (w : World) (hlv : LV bs ss) (hk0 : 0 ≤ key) (hk1 : key ≤ 65535) (hp : ProperC ss tag val r o)
    (hB : Ints .i64 w (fun k => k < w.heap.size) A bs) (hS : Ints .i64 w (fun k => k < w.heap.size) B ss) :
    Calls Try.prog 20 #[.agg #[.slice A bs.length c, .int .u16 key], .slice B ss.length d, .agg #[.int .u8 tag, .int .u16 val, .int .i64 r, .int .i64 o]] w (RawYes bs key tag val r o w) := by
  have hpp : PrP ss tag val r o := by
    obtain ⟨_, _, h⟩ := hp; exact h
  refine raw_any A B bs ss c d key tag val r o w hlv hk0 hk1 hp.1 hp.2.1 hB hS _ ?_ ?_ ?_ ?_
  · exact fun h => absurd hpp h
  · rintro _ rfl w' hg; exact ⟨rfl, hg⟩
  · rintro _ rfl w' hg; exact ⟨rfl, hg⟩
  · rintro _ rfl w' hg; exact ⟨rfl, hg⟩

/-- What Raw makes of a canonical cell, Canon gives back. -/
theorem canon_raw {bs ss : List Int} {key tag val r o t' v' r' o' : Int} (hlv : LV bs ss) (hp : ProperC ss tag val r o) (h : CanonRel bs ss key tag (rawV bs key tag val r o) t' v' r' o') : t' = tag ∧ v' = val ∧ r' = r ∧ o' = o := by
  obtain ⟨h0, h1, h2⟩ := hp
  rcases h2 with ⟨ht, rfl, rfl⟩ | ⟨rfl, rfl, hi⟩
  · rcases ht with rfl | rfl
    · rcases h with ⟨h, _⟩ | ⟨h, _⟩ | ⟨_, _, rfl, rfl, rfl, rfl⟩
      · omega
      · omega
      · exact ⟨rfl, by simp [rawV], rfl, rfl⟩
    · rcases h with ⟨_, rfl, rfl, rfl, rfl⟩ | ⟨h, _⟩ | ⟨_, h, _⟩
      · exact ⟨rfl, by simp only [rawV]; simp; omega, rfl, rfl⟩
      · omega
      · omega
  · have hr0 := hi.1
    obtain ⟨q, rfl⟩ := Int.eq_ofNat_of_zero_le hr0
    have hqs : q < ss.length := by have := hi.2.1; omega
    have hqb : q < bs.length := by have := hlv.2.1; omega
    have ho := hi.2.2
    rw [Int.toNat_natCast] at ho
    have hv : rawV bs key 1 0 q o = bs.getD q 0 + o := by simp [rawV]
    rw [hv] at h
    have hhit : Hit bs ss (bs.getD q 0 + o) q := ⟨by omega, by omega⟩
    rcases h with ⟨h, _⟩ | ⟨_, rfl, rfl, h⟩ | ⟨h, _⟩
    · omega
    · rcases h with ⟨k, hk, hh, rfl, rfl⟩ | ⟨hn, _⟩
      · have := hit_one hlv hqb hk hhit hh
        subst this
        exact ⟨rfl, rfl, rfl, by omega⟩
      · exact absurd hhit (hn q hqb)
    · omega

/-- Of a raw cell: its canonical cell is proper just if it lies in no wild place, and comes back. -/
theorem raw_canon {bs ss : List Int} {key tag val t' v' r' o' : Int} (hlv : LV bs ss) (hk0 : 0 ≤ key) (hk1 : key ≤ 65535) (ht0 : 0 ≤ tag) (ht1 : tag ≤ 2) (hv0 : 0 ≤ val) (hv1 : val ≤ 65535) (h : CanonRel bs ss key tag val t' v' r' o') :
    0 ≤ v' ∧ v' ≤ 65535 ∧ (0 ≤ r' → ProperC ss t' v' r' o' ∧ t' = tag ∧ rawV bs key t' v' r' o' = val) ∧ (¬ 0 ≤ r' → ¬ PrP ss t' v' r' o') := by
  rcases h with ⟨rfl, rfl, rfl, rfl, rfl⟩ | ⟨rfl, rfl, rfl, h⟩ | ⟨h1, h2, rfl, rfl, rfl, rfl⟩
  · refine ⟨by omega, by omega, fun _ => ⟨⟨by omega, by omega, .inl ⟨.inr rfl, rfl, rfl⟩⟩, rfl, by simp [rawV]; omega⟩, fun h => absurd (Int.le_refl 0) h⟩
  · rcases h with ⟨k, hk, hh, rfl, rfl⟩ | ⟨_, rfl, rfl⟩
    · refine ⟨by omega, by omega, fun _ => ⟨⟨by omega, by omega, .inr ⟨rfl, rfl, ?_⟩⟩, rfl, by simp [rawV]; omega⟩, fun h => absurd (by omega) h⟩
      have hks : (k : Int) < ss.length := by have := hlv.2.1; omega
      exact ⟨by omega, hks, by have := hh.1; omega, by rw [Int.toNat_natCast]; exact hh.2⟩
    · refine ⟨by omega, by omega, fun h => absurd h (by omega), fun _ hp => ?_⟩
      rcases hp with ⟨h, _⟩ | ⟨_, _, h⟩
      · omega
      · have := h.1; omega
  · have : t' = 0 := by omega
    subst this
    exact ⟨hv0, hv1, fun _ => ⟨⟨hv0, hv1, .inl ⟨.inl rfl, rfl, rfl⟩⟩, rfl, by simp [rawV]⟩, fun h => absurd (Int.le_refl 0) h⟩

end Go.Proofs.Ytenobllgfgmjfaa
