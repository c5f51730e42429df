/- Plain laws: requests out of a deck; no condition. -/
import Derived.Test.YtkmbahlpmoljpaaQl
import Derived.WalkKit
import Derived.WalkSpells
import Derived.Handy
import Derived.OpenShut
set_option linter.unusedVariables false
set_option linter.unusedSimpArgs false
namespace Go.Proofs.Ytkmbahlpmoljpaa
open Go.RowKit

theorem req_loop {l ys : List Int} {k : Int} (h : DOk l k) (hy : ys.length ≤ 3) (v5 v6 v7 v8 v9 v10 : Int) (v11 v12 : Unit) (v13 v14 v15 v16 v17 v18 : Int) (v20 : Unit) :
    ∃ xs k' i, loopN t_Deck_Request_L2 NN (ys, (ys.length : Int), 0, l, k, v5, v6, v7, v8, v9, v10, v11, v12, v13, v14, v15, v16, v17, v18, [], v20, ()) = some (ys, (ys.length : Int), i, false, l, k', v5, v6, v7, v8, v9, v10, v11, v12, v13, v14, v15, v16, v17, v18, xs, v20, ()) ∧
      (∀ c ∈ xs, CellOk c) ∧ xs.length ≤ 3 ∧ DOk l k' := by
  obtain ⟨t, e, xs, k', i, rfl, g1, g2, g3⟩ := loopN_of (f := t_Deck_Request_L2)
    (fun s => ∃ (i : Nat) (k : Int) (xs : List (Int × Int × Int × Int)), s = (ys, (ys.length : Int), (i : Int), l, k, v5, v6, v7, v8, v9, v10, v11, v12, v13, v14, v15, v16, v17, v18, xs, v20, ()) ∧ i ≤ ys.length ∧ xs.length ≤ i ∧ DOk l k ∧ ∀ c ∈ xs, CellOk c)
    (fun t => ∃ (xs : List (Int × Int × Int × Int)) (k' i : Int), t = (ys, (ys.length : Int), i, false, l, k', v5, v6, v7, v8, v9, v10, v11, v12, v13, v14, v15, v16, v17, v18, xs, v20, ()) ∧ (∀ c ∈ xs, CellOk c) ∧ xs.length ≤ 3 ∧ DOk l k')
    (fun s => (s.2.1 - s.2.2.1).toNat) (by
      rintro _ ⟨i, k, xs, rfl, hi, hxl, hd, hx⟩
      unfold t_Deck_Request_L2
      by_cases hn : (i : Int) < ys.length
      · left
        have hi2 : i < ys.length := by omega
        have more : ∀ {c : Int × Int × Int × Int}, CellOk c → ∀ c' ∈ xs.append [c], CellOk c' := by
          intro c hc c' hc'
          rcases List.mem_append.1 hc' with h1 | h1
          · exact hx c' h1
          · rw [List.mem_singleton.1 h1]; exact hc
        have fin : ∀ (k2 : Int) (c : Int × Int × Int × Int), DOk l k2 → CellOk c → ∃ s', some (.inl (ys, (ys.length : Int), w64 ((i : Int) + 1), l, k2, v5, v6, v7, v8, v9, v10, v11, v12, v13, v14, v15, v16, v17, v18, xs.append [c], v20, ())) = some (.inl s' : (_ ⊕ (List Int × Int × Int × Bool × List Int × Int × Int × Int × Int × Int × Int × Int × Unit × Unit × Int × Int × Int × Int × Int × Int × List (Int × Int × Int × Int) × Unit × Unit))) ∧ (∃ (i : Nat) (k : Int) (xs : List (Int × Int × Int × Int)), s' = (ys, (ys.length : Int), (i : Int), l, k, v5, v6, v7, v8, v9, v10, v11, v12, v13, v14, v15, v16, v17, v18, xs, v20, ()) ∧ i ≤ ys.length ∧ xs.length ≤ i ∧ DOk l k ∧ ∀ c ∈ xs, CellOk c) ∧ (s'.2.1 - s'.2.2.1).toNat < ((ys.length : Int) - (i : Int)).toNat := by
          intro k2 c d2 hc
          rw [w64_id (x := (i : Int) + 1) (by omega) (by omega)]
          refine ⟨_, rfl, ⟨i + 1, k2, _, rfl, by omega, ?_, d2, more hc⟩, by simp only; omega⟩
          show (xs ++ [c]).length ≤ i + 1
          simp; omega
        have app1 : ∀ c : Int × Int × Int × Int, appOk? 24 xs.length [c].length = true := fun c => appOk_small (by decide) (by simp; omega)
        simp only [hn, decide_true, cond_true, nat?_of, Option.bind_some, get?, List.getElem?_eq_getElem hi2]
        generalize ys[i] = y
        by_cases hN : y = 78
        · subst hN
          obtain ⟨z, k2, e2, z0, z1, d2⟩ := next_ok hd (n := 5) (by decide) (by decide)
          simp only [beq_self_eq_true, cond_true, e2, Option.bind_some, wk_u16 z0 (by omega : z ≤ 65535), app1]
          exact fin k2 _ d2 (.inl ⟨.inl rfl, rfl, rfl, z0, by show z ≤ 65535; omega⟩)
        · have hNb : (y == 78) = false := by simpa using hN
          simp only [hNb, cond_false]
          by_cases hH : y = 72
          · subst hH
            obtain ⟨z, k2, e2, z0, z1, d2⟩ := next_ok hd (n := 4) (by decide) (by decide)
            simp only [beq_self_eq_true, cond_true, e2, Option.bind_some, wk_u16 z0 (by omega : z ≤ 65535), app1]
            exact fin k2 _ d2 (.inl ⟨.inr rfl, rfl, rfl, z0, by show z ≤ 65535; omega⟩)
          · have hHb : (y == 72) = false := by simpa using hH
            simp only [hHb, cond_false]
            by_cases hP : y = 80
            · subst hP
              obtain ⟨z, k2, e2, z0, z1, d2⟩ := next_ok hd (n := 2) (by decide) (by decide)
              obtain ⟨u, k3, e3, u0, u1, d3⟩ := next_ok d2 (n := 4) (by decide) (by decide)
              simp only [beq_self_eq_true, cond_true, e2, e3, Option.bind_some, app1]
              exact fin k3 _ d3 (.inr ⟨rfl, rfl, .inr ⟨z0, by show z < 4; omega, u0, by show u < 32; omega⟩⟩)
            · have hPb : (y == 80) = false := by simpa using hP
              simp only [hPb, cond_false]
              obtain ⟨c1, c2, c3, c4, k2, e2, q2, d2⟩ := canon_ok hd
              simp only [e2, Option.bind_some, app1, cond_true]
              exact fin k2 _ d2 q2
      · right
        simp only [hn, decide_false, cond_false]
        exact ⟨_, rfl, xs, k, i, rfl, hx, by omega, hd⟩) NN _ ⟨0, k, [], rfl, by omega, by simp, h, fun c hc => by simp at hc⟩ (by show ((ys.length : Int) - 0).toNat < NN; unfold NN; omega)
  exact ⟨xs, k', i, e, g1, g2, g3⟩
end Go.Proofs.Ytkmbahlpmoljpaa
/- Plain laws: a deck's request is valid; no condition. -/
set_option linter.unusedVariables false
set_option linter.unusedSimpArgs false
namespace Go.Proofs.Ytkmbahlpmoljpaa
open Go.RowKit

structure ReqOk (a0 a1 a2 a3 a4 a5 : Int) (a6 a7 : List (Int × Int × Int × Int)) : Prop where
  thread : 0 ≤ a0 ∧ a0 ≤ 3
  stop : 0 ≤ a1 ∧ a1 ≤ 3
  trap : 0 ≤ a2 ∧ a2 ≤ 6
  count : 0 ≤ a3 ∧ a3 ≤ 1099511627776
  pc : 0 ≤ a4 ∧ a4 ≤ 255
  call : 0 ≤ a5 ∧ a5 ≤ 15
  args : (∀ c ∈ a6, CellOk c) ∧ a6.length ≤ 3
  data : (∀ c ∈ a7, CellOk c) ∧ a7.length ≤ 16
def kindsL : List ByteArray := [(bytes [78]), (bytes [72, 80, 78]), (bytes [72, 80, 78]), (bytes [78, 78]), (bytes [72]), (bytes [72, 78]), (bytes []), (bytes []), (bytes [78]), (bytes [78]), (bytes [78, 88]), (bytes [78]), (bytes [78]), (bytes [78, 80, 78]), (bytes [78, 80, 78]), (bytes [])]
theorem kinds_ok {j : Nat} (h : j < 16) : ∃ s ys, get? kindsL j = some s ∧ strOk? s = true ∧ strB? s = ys ∧ ys.length ≤ 3 := by
  match j, h with
  | 0, _ => exact ⟨_, [78], rfl, by kernel_rfl, by kernel_rfl, by decide⟩
  | 1, _ => exact ⟨_, [72, 80, 78], rfl, by kernel_rfl, by kernel_rfl, by decide⟩
  | 2, _ => exact ⟨_, [72, 80, 78], rfl, by kernel_rfl, by kernel_rfl, by decide⟩
  | 3, _ => exact ⟨_, [78, 78], rfl, by kernel_rfl, by kernel_rfl, by decide⟩
  | 4, _ => exact ⟨_, [72], rfl, by kernel_rfl, by kernel_rfl, by decide⟩
  | 5, _ => exact ⟨_, [72, 78], rfl, by kernel_rfl, by kernel_rfl, by decide⟩
  | 6, _ => exact ⟨_, [], rfl, by kernel_rfl, by kernel_rfl, by decide⟩
  | 7, _ => exact ⟨_, [], rfl, by kernel_rfl, by kernel_rfl, by decide⟩
  | 8, _ => exact ⟨_, [78], rfl, by kernel_rfl, by kernel_rfl, by decide⟩
  | 9, _ => exact ⟨_, [78], rfl, by kernel_rfl, by kernel_rfl, by decide⟩
  | 10, _ => exact ⟨_, [78, 88], rfl, by kernel_rfl, by kernel_rfl, by decide⟩
  | 11, _ => exact ⟨_, [78], rfl, by kernel_rfl, by kernel_rfl, by decide⟩
  | 12, _ => exact ⟨_, [78], rfl, by kernel_rfl, by kernel_rfl, by decide⟩
  | 13, _ => exact ⟨_, [78, 80, 78], rfl, by kernel_rfl, by kernel_rfl, by decide⟩
  | 14, _ => exact ⟨_, [78, 80, 78], rfl, by kernel_rfl, by kernel_rfl, by decide⟩
  | 15, _ => exact ⟨_, [], rfl, by kernel_rfl, by kernel_rfl, by decide⟩
  | n + 16, h => exact absurd h (by omega)
theorem stops_ok {j : Nat} (h : j < 6) : ∃ s : Int, get? [1, 1, 1, 0, 2, 3] j = some s ∧ 0 ≤ s ∧ s ≤ 3 := by
  match j, h with
  | 0, _ => exact ⟨_, rfl, by decide⟩
  | 1, _ => exact ⟨_, rfl, by decide⟩
  | 2, _ => exact ⟨_, rfl, by decide⟩
  | 3, _ => exact ⟨_, rfl, by decide⟩
  | 4, _ => exact ⟨_, rfl, by decide⟩
  | 5, _ => exact ⟨_, rfl, by decide⟩
theorem request_ok {l : List Int} {k : Int} (h : DOk l k) : ∃ a0 a1 a2 a3 a4 a5 a6 a7 k', t_Deck_Request l k = some (a0, a1, a2, a3, a4, a5, a6, a7, l, k', ()) ∧ ReqOk a0 a1 a2 a3 a4 a5 a6 a7 ∧ DOk l k' := by
  obtain ⟨t, k1, e1, t0, t1, d1⟩ := next_ok h (n := 4) (by decide) (by decide)
  obtain ⟨s, k2, e2, s0, s1, d2⟩ := next_ok d1 (n := 6) (by decide) (by decide)
  obtain ⟨c, k3, e3, c0, c1, d3⟩ := next_ok d2 (n := 50) (by decide) (by decide)
  obtain ⟨p, k4, e4, p0, p1, d4⟩ := next_ok d3 (n := 64) (by decide) (by decide)
  obtain ⟨j, rfl⟩ : ∃ j : Nat, s = j := ⟨s.toNat, by omega⟩
  obtain ⟨st, e5, st0, st1⟩ := stops_ok (j := j) (by omega)
  unfold t_Deck_Request
  simp only [e1, e2, e3, e4, e5, nat?_of, Option.bind_some]
  have htr : ∃ tr k5, (bif (st == 2) then ((t_Deck_Next 6 l k4).bind fun (x16, x17, x18, _) =>
      let x19 : Int := (w64 (1 + x16));
      some (x17, x18, 0, 0, 0, 0, 0, 0, (), (), t, st, x19, c, p, 0, (), (), ())) else
      some (l, k4, 0, 0, 0, 0, 0, 0, (), (), t, st, 0, c, p, 0, (), (), ()) : Option ((List (Int)) × Int × Int × Int × Int × Int × Int × Int × Unit × Unit × Int × Int × Int × Int × Int × Int × Unit × Unit × Unit)) = some (l, k5, 0, 0, 0, 0, 0, 0, (), (), t, st, tr, c, p, 0, (), (), ()) ∧ 0 ≤ tr ∧ tr ≤ 6 ∧ DOk l k5 := by
    by_cases h2 : st = 2
    · subst h2
      obtain ⟨v, k5, e6, v0, v1, d5⟩ := next_ok d4 (n := 6) (by decide) (by decide)
      refine ⟨1 + v, k5, ?_, by omega, by omega, d5⟩
      simp only [beq_self_eq_true, cond_true, e6, Option.bind_some]
      rw [w64_id (by omega) (by omega)]
    · have h2b : (st == 2) = false := by simpa using h2
      exact ⟨0, k4, by simp only [h2b, cond_false], by decide, by decide, d4⟩
  obtain ⟨tr, k5, e6, tr0, tr1, d5⟩ := htr
  simp only [e6, Option.bind_some]
  by_cases h1 : st = 1
  · subst h1
    obtain ⟨ca, k6, e7, ca0, ca1, d6⟩ := next_ok d5 (n := 16) (by decide) (by decide)
    obtain ⟨q, rfl⟩ : ∃ q : Nat, ca = q := ⟨ca.toNat, by omega⟩
    obtain ⟨str, ys, e8, e9, e10, hys⟩ := kinds_ok (j := q) (by omega)
    obtain ⟨xs, k7, i, e11, hx, hxl, d7⟩ := req_loop d6 hys 0 0 0 0 0 0 () () t 1 tr c p q ()
    have e8' : get? [(bytes [78]), (bytes [72, 80, 78]), (bytes [72, 80, 78]), (bytes [78, 78]), (bytes [72]), (bytes [72, 78]), (bytes []), (bytes []), (bytes [78]), (bytes [78]), (bytes [78, 88]), (bytes [78]), (bytes [78]), (bytes [78, 80, 78]), (bytes [78, 80, 78]), (bytes [])] q = some str := e8
    simp only [bne_self_eq_false, cond_false, e7, Option.bind_some, nat?_of, e8', e9, e10, cond_true, natI?_eq, e11]
    have hda : ∃ da k8, (bif ((q : Int) == 1) then ((t_Deck_Canons 6 l k7).bind fun (x65, x66, x67, _) =>
        some (x66, x67, (0 : Int), (0 : Int), (0 : Int), (0 : Int), (0 : Int), (0 : Int), (), (), t, (1 : Int), tr, c, p, (q : Int), xs, x65, ())) else
        bif ((q : Int) == 13) then ((t_Deck_Canons 6 l k7).bind fun (x65, x66, x67, _) =>
        some (x66, x67, 0, 0, 0, 0, 0, 0, (), (), t, 1, tr, c, p, (q : Int), xs, x65, ())) else
        some (l, k7, 0, 0, 0, 0, 0, 0, (), (), t, 1, tr, c, p, (q : Int), xs, [], ()) : Option ((List (Int)) × Int × Int × Int × Int × Int × Int × Int × Unit × Unit × Int × Int × Int × Int × Int × Int × (List (Int × Int × Int × Int)) × (List (Int × Int × Int × Int)) × Unit)) = some (l, k8, 0, 0, 0, 0, 0, 0, (), (), t, 1, tr, c, p, (q : Int), xs, da, ()) ∧ (∀ c ∈ da, CellOk c) ∧ da.length ≤ 16 ∧ DOk l k8 := by
      obtain ⟨da, k8, e12, g1, g2, d8⟩ := canons_ok d7 (a := 6) (by decide) (by decide)
      by_cases hb1 : (q : Int) = 1
      · refine ⟨da, k8, ?_, g1, by omega, d8⟩
        rw [hb1]
        simp only [beq_self_eq_true, cond_true, e12, Option.bind_some]
      · have hb1' : ((q : Int) == 1) = false := by simpa using hb1
        by_cases hb2 : (q : Int) = 13
        · refine ⟨da, k8, ?_, g1, by omega, d8⟩
          simp only [hb1', cond_false]
          rw [hb2]
          simp only [beq_self_eq_true, cond_true, e12, Option.bind_some]
        · have hb2' : ((q : Int) == 13) = false := by simpa using hb2
          exact ⟨[], k7, by simp only [hb1', hb2', cond_false], fun c hc => by simp at hc, by decide, d7⟩
    obtain ⟨da, k8, e12, da1, da2, d8⟩ := hda
    simp only [e12, Option.bind_some]
    obtain ⟨z, k9, e13, z0, z1, d9⟩ := next_ok d8 (n := 10) (by decide) (by decide)
    simp only [e13, Option.bind_some]
    by_cases hz : z = 0
    · subst hz
      obtain ⟨ar, k10, e14, g1, g2, d10⟩ := canons_ok d9 (a := 3) (by decide) (by decide)
      refine ⟨t, 1, tr, c, p, q, ar, da, k10, ?_, ⟨⟨t0, by omega⟩, by decide, ⟨tr0, tr1⟩, ⟨c0, by omega⟩, ⟨p0, by omega⟩, ⟨ca0, by omega⟩, ⟨g1, by omega⟩, da1, da2⟩, d10⟩
      simp only [beq_self_eq_true, cond_true, e14, Option.bind_some]
    · have hz' : (z == 0) = false := by simpa using hz
      refine ⟨t, 1, tr, c, p, q, xs, da, k9, ?_, ⟨⟨t0, by omega⟩, by decide, ⟨tr0, tr1⟩, ⟨c0, by omega⟩, ⟨p0, by omega⟩, ⟨ca0, by omega⟩, ⟨hx, hxl⟩, da1, da2⟩, d9⟩
      simp only [hz', cond_false, Option.bind_some]
  · have h1b : (st != 1) = true := by simpa using h1
    simp only [h1b, cond_true]
    exact ⟨t, st, tr, c, p, 0, [], [], k5, rfl, ⟨⟨t0, by omega⟩, ⟨st0, st1⟩, ⟨tr0, tr1⟩, ⟨c0, by omega⟩, ⟨p0, by omega⟩, by decide, ⟨fun c hc => by simp at hc, by decide⟩, ⟨fun c hc => by simp at hc, by decide⟩⟩, d5⟩
end Go.Proofs.Ytkmbahlpmoljpaa
/- Plain laws: numbers and cells written; no condition. -/
set_option linter.unusedVariables false
set_option linter.unusedSimpArgs false
namespace Go.Proofs.Ytkmbahlpmoljpaa
open Go.RowKit

/-- The last n bytes of a number, the most significant one first. -/
def be : Nat → Int → List Int
  | 0, _ => []
  | n + 1, v => (v / 256 ^ n) % 256 :: be n v
theorem be_len : ∀ (n : Nat) (v : Int), (be n v).length = n := by
  intro n
  induction n with
  | zero => intro v; rfl
  | succ n ih => intro v; simp [be, ih]
theorem wk_u8 (x : Int) : wk .u8 x = x % 256 := wrap_u8 x
theorem shr_be (v : Int) {n : Nat} (h : n ≤ 7) : shR .shr .i64 v (8 * n) = v / 256 ^ n := by
  have e : min (8 * n) (IntKind.bits .i64) = 8 * n := by simp [IntKind.bits]; omega
  have e2 : (2 : Int) ^ (8 * n) = 256 ^ n := by rw [Int.pow_mul]; rfl
  show v.fdiv (2 ^ (min (8 * n) (IntKind.bits .i64))) = _
  rw [e, e2]
  exact Int.fdiv_eq_ediv_of_nonneg _ (Int.le_of_lt (Int.pow_pos (by decide)))
theorem put_loop (v : Int) : ∀ (n : Nat), n ≤ 7 → ∀ (m : Nat) (b : List Int), n < m → b.length + n ≤ 100000 → loopN t_codes_Put_L0 m ((n : Int) - 1, v, b, ()) = some (-1, v, false, b ++ be n v, ()) := by
  intro n
  induction n with
  | zero =>
    intro _ m b hm _
    obtain ⟨m, rfl⟩ : ∃ m', m = m' + 1 := ⟨m - 1, by omega⟩
    simp [loopN, t_codes_Put_L0, be]
  | succ n ih =>
    intro hn m b hm hb
    obtain ⟨m, rfl⟩ : ∃ m', m = m' + 1 := ⟨m - 1, by omega⟩
    have e1 : ((n + 1 : Nat) : Int) - 1 = n := by omega
    have e2 : w64 (8 * (n : Int)) = ((8 * n : Nat) : Int) := by rw [w64_id (by omega) (by omega)]; omega
    have e3 : w64 ((n : Int) - 1) = (n : Int) - 1 := w64_id (by omega) (by omega)
    have hstep : t_codes_Put_L0 (((n + 1 : Nat) : Int) - 1, v, b, ()) = some (.inl ((n : Int) - 1, v, b ++ [(v / 256 ^ n) % 256], ())) := by
      unfold t_codes_Put_L0
      rw [e1]
      have h0 : decide ((n : Int) ≥ 0) = true := by simp
      simp only [h0, cond_true, e2, nat?_of, Option.bind_some, shr_be v (by omega : n ≤ 7), wk_u8, e3]
      rw [appOk_small (by decide) (by simp; omega)]
      rfl
    simp only [loopN, hstep, Option.bind_some]
    rw [ih (by omega) m _ (by omega) (by simp; omega)]
    simp [be]
theorem put_ok {n : Nat} {v : Int} {b : List Int} (hn : n ≤ 7) (hb : b.length ≤ 90000) : t_codes_Put n v b = some (b ++ be n v, ()) := by
  unfold t_codes_Put
  rw [w64_id (x := (n : Int) - 1) (by omega) (by omega)]
  simp only [put_loop v n hn NN b (by unfold NN; omega) (by omega), Option.bind_some]
/-- The code of a cell. -/
def cb (c : Int × Int × Int × Int) : List Int := if c.1 = 1 then [1, c.2.2.1 + 1] ++ be 2 c.2.2.2 else [c.1, 0] ++ be 2 c.2.1
theorem cb_len (c : Int × Int × Int × Int) : (cb c).length = 4 := by
  unfold cb
  split <;> simp [be_len]
theorem cell_ok {c : Int × Int × Int × Int} {b : List Int} (h : CellOk c) (hb : b.length ≤ 80000) : t_codes_Cell c.1 c.2.1 c.2.2.1 c.2.2.2 b = some (b ++ cb c, ()) := by
  obtain ⟨t, v, r, o⟩ := c
  unfold t_codes_Cell cb
  rcases h with ⟨h1, h2, h3, h4, h5⟩ | ⟨h1, h2, h3⟩
  · simp only at h1 h2 h3 h4 h5
    have ht : (t == 1) = false := by simp; omega
    have ht2 : ¬ t = 1 := by omega
    simp only [ht, cond_false]
    rw [appOk_small (by decide) (by simp; omega)]
    have e : wk .i64 v = v := wrap_i64 (by omega) (by omega)
    simp only [cond_true, e]
    have hp := put_ok (n := 2) (v := v) (b := b.append [t, 0]) (by decide) (by show (b ++ [t, 0]).length ≤ 90000; simp; omega)
    rw [show ((2 : Nat) : Int) = 2 from rfl] at hp
    rw [hp]
    simp only [Option.bind_some, if_neg ht2]
    show some ((b ++ [t, 0]) ++ be 2 v, ()) = _
    rw [List.append_assoc]
  · simp only at h1 h2 h3
    subst h1
    have hr : -1 ≤ r ∧ r < 4 := by omega
    simp only [beq_self_eq_true, cond_true]
    rw [w64_id (x := r + 1) (by omega) (by omega), wk_u8, Int.emod_eq_of_lt (by omega) (by omega)]
    rw [appOk_small (by decide) (by simp; omega)]
    simp only [cond_true]
    have hp := put_ok (n := 2) (v := o) (b := b.append [1, r + 1]) (by decide) (by show (b ++ [1, r + 1]).length ≤ 90000; simp; omega)
    rw [show ((2 : Nat) : Int) = 2 from rfl] at hp
    rw [hp]
    simp only [Option.bind_some, if_true]
    show some ((b ++ [1, r + 1]) ++ be 2 o, ()) = _
    rw [List.append_assoc]
theorem flat_cb_len : ∀ l : List (Int × Int × Int × Int), (l.flatMap cb).length = 4 * l.length := by
  intro l
  induction l with
  | nil => rfl
  | cons x l ih => rw [List.flatMap_cons, List.length_append, ih, cb_len, List.length_cons]; omega
/-- The code of a row of cells. -/
def lb (xs : List (Int × Int × Int × Int)) : List Int := (xs.length : Int) :: xs.flatMap cb
theorem list_ok {xs : List (Int × Int × Int × Int)} {b : List Int} (h : ∀ c ∈ xs, CellOk c) (hl : xs.length ≤ 255) (hb : b.length ≤ 70000) : t_codes_List xs b = some (b ++ lb xs, ()) := by
  unfold t_codes_List
  simp only [natI?_eq, wk_u8]
  rw [Int.emod_eq_of_lt (by omega) (by omega), appOk_small (by decide) (by simp; omega)]
  simp only [cond_true]
  obtain ⟨t, e, x6, x7, rfl⟩ := loopN_of (f := t_codes_List_L0)
    (fun s => ∃ i : Nat, i ≤ xs.length ∧ s = (xs, (xs.length : Int), (i : Int), b ++ (xs.length : Int) :: (xs.take i).flatMap cb, ()))
    (fun t => ∃ x6 x7, t = (xs, (xs.length : Int), x6, x7, b ++ lb xs, ()))
    (fun s => (s.2.1 - s.2.2.1).toNat) (by
      rintro _ ⟨i, hi, rfl⟩
      unfold t_codes_List_L0
      by_cases hn : (i : Int) < xs.length
      · left
        have hi2 : i < xs.length := by omega
        have hfl : ((xs.take i).flatMap cb).length ≤ 4 * i := by
          rw [flat_cb_len, List.length_take]; omega
        have htk : (xs.take (i + 1)).flatMap cb = (xs.take i).flatMap cb ++ cb xs[i] := by
          rw [List.take_succ_eq_append_getElem hi2, List.flatMap_append]
          simp
        simp only [hn, decide_true, cond_true, nat?_of, Option.bind_some, get?, List.getElem?_eq_getElem hi2]
        rw [cell_ok (h _ (List.getElem_mem hi2)) (by rw [List.length_append, List.length_cons]; omega)]
        rw [w64_id (x := (i : Int) + 1) (by omega) (by omega)]
        refine ⟨_, rfl, ⟨i + 1, by omega, ?_⟩, by simp only; omega⟩
        rw [htk]
        simp
      · right
        simp only [hn, decide_false, cond_false]
        have : i = xs.length := by omega
        subst this
        exact ⟨_, rfl, _, _, by rw [List.take_length]; rfl⟩) NN (xs, (xs.length : Int), 0, b.append [(xs.length : Int)], ()) ⟨0, by omega, by simp⟩ (by show ((xs.length : Int) - 0).toNat < NN; unfold NN; omega)
  rw [e]
  rfl
end Go.Proofs.Ytkmbahlpmoljpaa
/- Plain laws: a request's bytes; no condition. -/
set_option linter.unusedVariables false
set_option linter.unusedSimpArgs false
namespace Go.Proofs.Ytkmbahlpmoljpaa
open Go.RowKit

theorem reqcell_ok {c : Int × Int × Int × Int} (h : CellOk c) : t_request_Cell c.1 c.2.1 c.2.2.1 c.2.2.2 = some (true, ()) := by
  obtain ⟨t, v, r, o⟩ := c
  unfold t_request_Cell
  rcases h with ⟨h1, h2, h3, h4, h5⟩ | ⟨h1, h2, h3⟩
  · simp only at h1 h2 h3 h4 h5
    subst h2; subst h3
    rcases h1 with rfl | rfl <;> rfl
  · simp only at h1 h2 h3
    subst h1; subst h2
    rcases h3 with ⟨rfl, h4, h5⟩ | ⟨h4, h5, h6, h7⟩
    · simp [h4, h5]
    · have hr : (r == -1) = false := by simp; omega
      simp [hr, h4, h5, h6, h7]
theorem reqcells_ok {xs : List (Int × Int × Int × Int)} {n : Int} (h : ∀ c ∈ xs, CellOk c) (hl : (xs.length : Int) ≤ n) (hn : n ≤ 1000) : t_request_Cells xs n = some (true, ()) := by
  have hidx : t_slices_IndexFunc_Canon xs = some (-1, ()) := by
    unfold t_slices_IndexFunc_Canon
    obtain ⟨t, e, x1, x2, x3, x4, rfl⟩ := loopN_of (f := t_slices_IndexFunc_Canon_L0)
      (fun s => ∃ i : Nat, i ≤ xs.length ∧ s = (xs, (xs.length : Int), (i : Int), ()))
      (fun t => ∃ x1 x2 x3 x4, t = .inr (x1, x2, x3, x4, ()))
      (fun s => (s.2.1 - s.2.2.1).toNat) (by
        rintro _ ⟨i, hi, rfl⟩
        unfold t_slices_IndexFunc_Canon_L0
        by_cases hn2 : (i : Int) < xs.length
        · left
          have hi2 : i < xs.length := by omega
          simp only [hn2, decide_true, cond_true, nat?_of, Option.bind_some, get?, List.getElem?_eq_getElem hi2, t_request_Cells_1, reqcell_ok (h _ (List.getElem_mem hi2)), Bool.not_true, cond_false]
          rw [w64_id (x := (i : Int) + 1) (by omega) (by omega)]
          exact ⟨_, rfl, ⟨i + 1, by omega, rfl⟩, by simp only; omega⟩
        · right
          simp only [hn2, decide_false, cond_false]
          exact ⟨_, rfl, _, _, _, _, rfl⟩) NN (xs, (xs.length : Int), 0, ()) ⟨0, by omega, rfl⟩ (by show ((xs.length : Int) - 0).toNat < NN; unfold NN; omega)
    simp only [natI?_eq, e]
  unfold t_request_Cells t_slices_ContainsFunc_Canon
  simp only [natI?_eq, hl, decide_true, cond_true, hidx, Option.bind_some]
  rfl
section
variable {a0 a1 a2 a3 a4 a5 : Int} {a6 a7 : List (Int × Int × Int × Int)}
theorem valid_ok (h : ReqOk a0 a1 a2 a3 a4 a5 a6 a7) : t_request_Valid a0 a1 a2 a3 a4 a5 a6 a7 = some (true, ()) := by
  have hv : ∀ {x lo hi : Int}, lo ≤ x ∧ x ≤ hi → t_request_Valid_1 x lo hi = some (true, ()) := by
    intro x lo hi hx
    unfold t_request_Valid_1
    simp [hx.1, hx.2]
  unfold t_request_Valid
  simp only [hv h.thread, hv h.stop, hv h.trap, hv h.count, hv h.pc, hv h.call, Option.bind_some, cond_true]
  rw [reqcells_ok h.args.1 (by have := h.args.2; omega) (by decide)]
  simp only [Option.bind_some, cond_true]
  rw [reqcells_ok h.data.1 (by have := h.data.2; omega) (by decide)]
  rfl
/-- A request's bytes. -/
def rb (a0 a1 a2 a3 a4 a5 : Int) (a6 a7 : List (Int × Int × Int × Int)) : List Int := a0 :: a1 :: a2 :: (be 6 a3 ++ a4 :: a5 :: (lb a6 ++ lb a7))
theorem lb_len (xs : List (Int × Int × Int × Int)) : (lb xs).length = 4 * xs.length + 1 := by unfold lb; rw [List.length_cons, flat_cb_len]
theorem bytes_ok (h : ReqOk a0 a1 a2 a3 a4 a5 a6 a7) : t_canonical_Bytes a0 a1 a2 a3 a4 a5 a6 a7 = some (rb a0 a1 a2 a3 a4 a5 a6 a7, 0, ()) := by
  have hu : ∀ {x : Int}, 0 ≤ x → x ≤ 255 → wk .u8 x = x := fun h0 h1 => by rw [wk_u8]; exact Int.emod_eq_of_lt h0 (by omega)
  obtain ⟨⟨t0, t1⟩, ⟨s0, s1⟩, ⟨r0, r1⟩, ⟨c0, c1⟩, ⟨p0, p1⟩, ⟨q0, q1⟩, ⟨g1, g2⟩, g3, g4⟩ := h
  unfold t_canonical_Bytes
  rw [valid_ok ⟨⟨t0, t1⟩, ⟨s0, s1⟩, ⟨r0, r1⟩, ⟨c0, c1⟩, ⟨p0, p1⟩, ⟨q0, q1⟩, ⟨g1, g2⟩, g3, g4⟩]
  simp only [Option.bind_some, Bool.not_true, cond_false, hu t0 (by omega), hu s0 (by omega), hu r0 (by omega), hu p0 p1, hu q0 (by omega)]
  have hp := put_ok (n := 6) (v := a3) (b := [a0, a1, a2]) (by decide) (by simp)
  rw [show ((6 : Nat) : Int) = 6 from rfl] at hp
  rw [hp]
  simp only [Option.bind_some]
  rw [appOk_small (by decide) (by simp [be_len])]
  simp only [cond_true]
  rw [list_ok g1 (by omega) (by show (([a0, a1, a2] ++ be 6 a3) ++ [a4, a5]).length ≤ 70000; simp [be_len])]
  simp only [Option.bind_some]
  rw [list_ok g3 (by omega) (by show ((([a0, a1, a2] ++ be 6 a3) ++ [a4, a5]) ++ lb a6).length ≤ 70000; simp [be_len, lb_len]; omega)]
  simp only [Option.bind_some]
  show some (((([a0, a1, a2] ++ be 6 a3) ++ [a4, a5]) ++ lb a6) ++ lb a7, 0, ()) = _
  unfold rb
  simp
end
end Go.Proofs.Ytkmbahlpmoljpaa
/- Plain laws: numbers read; no condition. -/
set_option linter.unusedVariables false
set_option linter.unusedSimpArgs false
namespace Go.Proofs.Ytkmbahlpmoljpaa
open Go.RowKit

theorem or_bytes {v x : Int} (h0 : 0 ≤ v) (h1 : v < 281474976710656) (x0 : 0 ≤ x) (x1 : x ≤ 255) : arR .or .i64 (shR .shl .i64 v 8) (wk .i64 x) = v * 256 + x := by
  have e1 : shR .shl .i64 v 8 = v * 256 := by
    show IntKind.wrap .i64 (v * 2 ^ (min 8 (IntKind.bits .i64))) = _
    have : (2 : Int) ^ (min 8 (IntKind.bits .i64)) = 256 := by rfl
    rw [this]
    exact wrap_i64 (by omega) (by omega)
  have e2 : wk .i64 x = x := wrap_i64 (by omega) (by omega)
  rw [e1, e2]
  obtain ⟨n, rfl⟩ : ∃ n : Nat, v = n := ⟨v.toNat, by omega⟩
  obtain ⟨m, rfl⟩ : ∃ m : Nat, x = m := ⟨x.toNat, by omega⟩
  show IntKind.wrap .i64 ((BitVec.ofInt 64 ((n : Int) * 256) ||| BitVec.ofInt 64 (m : Int)).toNat : Int) = _
  have e3 : BitVec.ofInt 64 ((n : Int) * 256) = BitVec.ofNat 64 (n * 256) := by
    rw [show (n : Int) * 256 = ((n * 256 : Nat) : Int) by omega]; exact BitVec.ofInt_natCast _ _
  have e4 : BitVec.ofInt 64 (m : Int) = BitVec.ofNat 64 m := BitVec.ofInt_natCast _ _
  have e5 : (n * 256 ||| m) = n * 256 + m := by
    have := Nat.shiftLeft_add_eq_or_of_lt (i := 8) (b := m) (by omega) n
    rw [Nat.shiftLeft_eq] at this
    exact this.symm
  rw [e3, e4, BitVec.toNat_or, BitVec.toNat_ofNat, BitVec.toNat_ofNat, Nat.mod_eq_of_lt (by omega), Nat.mod_eq_of_lt (by omega), e5]
  rw [wrap_i64 (by omega) (by omega)]
  omega
/-- The number that bytes make. -/
def val (v : Int) : List Int → Int
  | [] => v
  | x :: r => val (v * 256 + x) r
theorem val_be_mod : ∀ (n : Nat) (u v : Int), 0 ≤ v → val u (be n v) = u * 256 ^ n + v % 256 ^ n := by
  intro n
  induction n with
  | zero => intro u v h0; simp [be, val]
  | succ n ih =>
    intro u v h0
    simp only [be, val]
    rw [ih _ v h0]
    obtain ⟨k, rfl⟩ : ∃ k : Nat, v = k := ⟨v.toNat, by omega⟩
    have h := Nat.mod_mul (a := 256 ^ n) (b := 256) (x := k)
    have h2 : ((k % (256 ^ n * 256) : Nat) : Int) = ((k % 256 ^ n + 256 ^ n * (k / 256 ^ n % 256) : Nat) : Int) := congrArg _ h
    simp only [Int.natCast_add, Int.natCast_mul, Int.natCast_emod, Int.natCast_ediv, Int.natCast_pow] at h2
    rw [Int.pow_succ]
    rw [show ((256 : Nat) : Int) = 256 from rfl] at h2
    rw [h2, Int.add_mul, Int.mul_assoc, Int.mul_comm 256 (256 ^ n), Int.mul_comm ((k : Int) / 256 ^ n % 256) (256 ^ n)]
    omega
theorem val_be {n : Nat} {v : Int} (h0 : 0 ≤ v) (h1 : v < 256 ^ n) : val 0 (be n v) = v := by
  rw [val_be_mod n 0 v h0, Int.emod_eq_of_lt h0 h1]; omega
end Go.Proofs.Ytkmbahlpmoljpaa
/- Plain laws: the reader's numbers; no condition. -/
set_option linter.unusedVariables false
set_option linter.unusedSimpArgs false
namespace Go.Proofs.Ytkmbahlpmoljpaa
open Go.RowKit

def Byt (l : List Int) : Prop := ∀ x ∈ l, 0 ≤ x ∧ x ≤ 255
theorem val_append : ∀ (a b : List Int) (u : Int), val u (a ++ b) = val (val u a) b := by
  intro a
  induction a with
  | nil => intro b u; rfl
  | cons x a ih => intro b u; exact ih b _
theorem val_lt : ∀ (l : List Int) (u : Int), Byt l → 0 ≤ u → 0 ≤ val u l ∧ val u l < (u + 1) * 256 ^ l.length := by
  intro l
  induction l with
  | nil => intro u _ h; simp [val]; omega
  | cons x l ih =>
    intro u hb h
    have hx := hb x (by simp)
    obtain ⟨h1, h2⟩ := ih (u * 256 + x) (fun y hy => hb y (by simp [hy])) (by omega)
    refine ⟨h1, Int.lt_of_lt_of_le h2 ?_⟩
    rw [List.length_cons, Int.pow_succ, Int.mul_comm (256 ^ l.length) 256, ← Int.mul_assoc]
    exact Int.mul_le_mul_of_nonneg_right (by omega) (Int.le_of_lt (Int.pow_pos (by decide)))
theorem number_ok {ys rest : List Int} {n : Nat} (hb : Byt ys) (hn : ys.length = n) (h6 : n ≤ 6) : t___codes_Reader__Number n (ys ++ rest) false = some (val 0 ys, rest, false, ()) := by
  have hpart : t___codes_Reader__Part n (ys ++ rest) false = some (ys, rest, false, ()) := by
    unfold t___codes_Reader__Part
    have h1 : ¬ ((n : Int) > ((ys ++ rest).length : Int)) := by rw [List.length_append]; omega
    have h2 : slOk? 0 n (ys ++ rest).length = true := by simp [slOk?]; omega
    have h3 : slOk? n (ys ++ rest).length (ys ++ rest).length = true := by simp [slOk?]; omega
    have h4 : win? (ys ++ rest) 0 (Nat.sub n 0) = ys := by
      show ((ys ++ rest).drop 0).take (n - 0) = ys
      rw [List.drop_zero, Nat.sub_zero, ← hn, List.take_left]
    have h5 : win? (ys ++ rest) n (Nat.sub (ys ++ rest).length n) = rest := by
      show ((ys ++ rest).drop n).take ((ys ++ rest).length - n) = rest
      rw [← hn, List.drop_left, List.length_append, Nat.add_sub_cancel_left, List.take_length]
    simp only [cond_false, natI?_eq, h1, decide_false, nat?_of, Option.bind_some, h2, cond_true, h3, h4, h5]
  unfold t___codes_Reader__Number
  simp only [hpart, Option.bind_some, natI?_eq]
  obtain ⟨t, e, x6, x7, x8, x9, rfl⟩ := loopN_of (f := t___codes_Reader__Number_L0)
    (fun s => ∃ i : Nat, i ≤ ys.length ∧ s = (val 0 (ys.take i), ys, (ys.length : Int), (i : Int), rest, false, ()))
    (fun t => ∃ x6 x7 x8 x9, t = (val 0 ys, x6, x7, x8, x9, rest, false, ()))
    (fun s => (s.2.2.1 - s.2.2.2.1).toNat) (by
      rintro _ ⟨i, hi, rfl⟩
      unfold t___codes_Reader__Number_L0
      by_cases hlt : (i : Int) < ys.length
      · left
        have hi2 : i < ys.length := by omega
        have hx := hb _ (List.getElem_mem hi2)
        have hv := val_lt (ys.take i) 0 (fun x hx => hb x (List.mem_of_mem_take hx)) (by omega)
        rw [List.length_take, Nat.min_eq_left hi] at hv
        have hp : (256 : Int) ^ i ≤ 256 ^ 5 := by
          have := Nat.pow_le_pow_right (n := 256) (by decide) (show i ≤ 5 by omega)
          have h2 : ((256 ^ i : Nat) : Int) ≤ ((256 ^ 5 : Nat) : Int) := by exact_mod_cast this
          simpa using h2
        have hp5 : (256 : Int) ^ 5 = 1099511627776 := by decide
        simp only [hlt, decide_true, cond_true, nat?_of, Option.bind_some, get?, List.getElem?_eq_getElem hi2]
        rw [or_bytes hv.1 (by omega) hx.1 hx.2, w64_id (x := (i : Int) + 1) (by omega) (by omega)]
        refine ⟨_, rfl, ⟨i + 1, by omega, ?_⟩, by simp only; omega⟩
        rw [List.take_succ_eq_append_getElem hi2, val_append]
        rfl
      · right
        simp only [hlt, decide_false, cond_false]
        have : i = ys.length := by omega
        subst this
        exact ⟨_, rfl, _, _, _, _, by rw [List.take_length]⟩) NN (0, ys, (ys.length : Int), 0, rest, false, ()) ⟨0, by omega, by simp [val]⟩ (by show ((ys.length : Int) - 0).toNat < NN; unfold NN; omega)
  simp only [e, Option.bind_some]
end Go.Proofs.Ytkmbahlpmoljpaa
/- Plain laws: cells read; no condition. -/
set_option linter.unusedVariables false
set_option linter.unusedSimpArgs false
namespace Go.Proofs.Ytkmbahlpmoljpaa
open Go.RowKit

theorem byt_be : ∀ (n : Nat) (v : Int), Byt (be n v) := by
  intro n
  induction n with
  | zero => intro v x h; simp [be] at h
  | succ n ih =>
    intro v x h
    rcases List.mem_cons.1 h with rfl | h
    · exact ⟨Int.emod_nonneg _ (by decide), by have := Int.emod_lt_of_pos (v / 256 ^ n) (show (0 : Int) < 256 by decide); omega⟩
    · exact ih v x h
theorem number1 {x : Int} {rest : List Int} (h0 : 0 ≤ x) (h1 : x ≤ 255) : t___codes_Reader__Number 1 (x :: rest) false = some (x, rest, false, ()) := by
  have h := number_ok (ys := [x]) (rest := rest) (n := 1) (fun y hy => by rw [List.mem_singleton.1 hy]; exact ⟨h0, h1⟩) rfl (by decide)
  have e : val 0 [x] = x := by simp [val]
  rw [e] at h
  exact h
theorem number_be {n : Nat} {v : Int} {rest : List Int} (hn : n ≤ 6) (h0 : 0 ≤ v) (h1 : v < 256 ^ n) : t___codes_Reader__Number n (be n v ++ rest) false = some (v, rest, false, ()) := by
  have h := number_ok (ys := be n v) (rest := rest) (n := n) (byt_be n v) (be_len n v) hn
  rw [val_be h0 h1] at h
  exact h
theorem readcell_ok {c : Int × Int × Int × Int} {rest : List Int} (h : CellOk c) : t___codes_Reader__Cell (cb c ++ rest) false = some (c.1, c.2.1, c.2.2.1, c.2.2.2, rest, false, ()) := by
  obtain ⟨t, v, r, o⟩ := c
  unfold t___codes_Reader__Cell cb
  rcases h with ⟨h1, h2, h3, h4, h5⟩ | ⟨h1, h2, h3⟩
  · simp only at h1 h2 h3 h4 h5
    subst h2; subst h3
    have ht2 : ¬ t = 1 := by omega
    simp only [if_neg ht2, List.cons_append, List.nil_append]
    rw [number1 (by omega) (by omega)]
    simp only [Option.bind_some]
    rw [number1 (by decide) (by decide)]
    simp only [Option.bind_some]
    have h2 := number_be (n := 2) (v := v) (rest := rest) (by decide) h4 (by show v < 65536; omega)
    rw [show ((2 : Nat) : Int) = 2 from rfl] at h2
    rw [h2]
    have et : wk .u8 t = t := by rw [wk_u8]; exact Int.emod_eq_of_lt (by omega) (by omega)
    have hb : (t == 1) = false := by simpa using ht2
    simp only [Option.bind_some, et, hb, cond_false, wk_u16 h4 h5]
  · simp only at h1 h2 h3
    subst h1; subst h2
    have hr : -1 ≤ r ∧ r < 4 ∧ 0 ≤ o ∧ o ≤ 65535 := by omega
    simp only [if_true, List.cons_append, List.nil_append]
    rw [number1 (by decide) (by decide)]
    simp only [Option.bind_some]
    rw [number1 (by omega) (by omega)]
    simp only [Option.bind_some]
    have h2 := number_be (n := 2) (v := o) (rest := rest) (by decide) hr.2.2.1 (by show o < 65536; omega)
    rw [show ((2 : Nat) : Int) = 2 from rfl] at h2
    rw [h2]
    have et : wk .u8 1 = 1 := by rw [wk_u8]; rfl
    simp only [Option.bind_some, et, beq_self_eq_true, cond_true]
    rw [w64_id (by omega) (by omega), show r + 1 - 1 = r by omega]
end Go.Proofs.Ytkmbahlpmoljpaa
/- Plain laws: rows of cells read; no condition. -/
set_option linter.unusedVariables false
set_option linter.unusedSimpArgs false
namespace Go.Proofs.Ytkmbahlpmoljpaa
open Go.RowKit

theorem readlist_ok {xs : List (Int × Int × Int × Int)} {rest : List Int} (h : ∀ c ∈ xs, CellOk c) (hl : xs.length ≤ 255) : t___codes_Reader__List (lb xs ++ rest) false = some (xs, rest, false, ()) := by
  unfold t___codes_Reader__List lb
  rw [List.cons_append, number1 (by omega) (by omega)]
  simp only [Option.bind_some]
  obtain ⟨t, e, x4, x5, rfl⟩ := loopN_of (f := t___codes_Reader__List_L0)
    (fun s => ∃ i : Nat, i ≤ xs.length ∧ s = ((xs.length : Int) - i, (xs.drop i).flatMap cb ++ rest, false, xs.take i, ()))
    (fun t => ∃ x4 x5, t = (x4, x5, rest, false, xs, ()))
    (fun s => s.1.toNat) (by
      rintro _ ⟨i, hi, rfl⟩
      unfold t___codes_Reader__List_L0
      by_cases hlt : i < xs.length
      · left
        have h0 : (xs.length : Int) - i > 0 := by omega
        rw [List.drop_eq_getElem_cons hlt, List.flatMap_cons, List.append_assoc]
        simp only [h0, decide_true, cond_true, Bool.not_false]
        rw [readcell_ok (h _ (List.getElem_mem hlt))]
        simp only [Option.bind_some]
        rw [appOk_small (by decide) (by simp; omega), w64_id (x := (xs.length : Int) - i - 1) (by omega) (by omega)]
        refine ⟨_, rfl, ⟨i + 1, by omega, ?_⟩, by simp only; omega⟩
        rw [List.take_succ_eq_append_getElem hlt, show (xs.length : Int) - ((i + 1 : Nat) : Int) = xs.length - i - 1 by omega]
        rfl
      · right
        have : i = xs.length := by omega
        subst this
        have h0 : ¬ ((xs.length : Int) - xs.length > 0) := by omega
        simp only [h0, decide_false, cond_false, List.drop_length, List.take_length, List.flatMap_nil, List.nil_append]
        exact ⟨_, rfl, _, _, rfl⟩) NN ((xs.length : Int), xs.flatMap cb ++ rest, false, [], ()) ⟨0, by omega, by simp⟩ (by show ((xs.length : Int)).toNat < NN; unfold NN; omega)
  simp only [e, Option.bind_some]
end Go.Proofs.Ytkmbahlpmoljpaa
/- Plain laws: a request is read from its bytes; no condition. -/
set_option linter.unusedVariables false
set_option linter.unusedSimpArgs false
namespace Go.Proofs.Ytkmbahlpmoljpaa
open Go.RowKit

theorem bytesEq_self (b : List Int) : t_bytes_Equal b b = some (true, ()) := by
  unfold t_bytes_Equal eqT?
  simp
section
variable {a0 a1 a2 a3 a4 a5 : Int} {a6 a7 : List (Int × Int × Int × Int)}
theorem read_ok (h : ReqOk a0 a1 a2 a3 a4 a5 a6 a7) : t_canonical_Read (rb a0 a1 a2 a3 a4 a5 a6 a7) = some (a0, a1, a2, a3, a4, a5, a6, a7, 0, ()) := by
  have hbytes := bytes_ok h
  obtain ⟨⟨t0, t1⟩, ⟨s0, s1⟩, ⟨r0, r1⟩, ⟨c0, c1⟩, ⟨p0, p1⟩, ⟨q0, q1⟩, ⟨g1, g2⟩, g3, g4⟩ := h
  have h6 := number_be (n := 6) (v := a3) (rest := a4 :: a5 :: (lb a6 ++ lb a7)) (by decide) c0 (by show a3 < 281474976710656; omega)
  rw [show ((6 : Nat) : Int) = 6 from rfl] at h6
  have h7 := readlist_ok (rest := []) g3 (by omega)
  rw [List.append_nil] at h7
  unfold t_canonical_Read
  have e0 : t___codes_Reader__Number 1 (rb a0 a1 a2 a3 a4 a5 a6 a7) false = some (a0, a1 :: a2 :: (be 6 a3 ++ a4 :: a5 :: (lb a6 ++ lb a7)), false, ()) := number1 t0 (by omega)
  simp only [e0, Option.bind_some, number1 s0 (show a1 ≤ 255 by omega), number1 r0 (show a2 ≤ 255 by omega), h6, number1 p0 p1, number1 q0 (show a5 ≤ 255 by omega), readlist_ok g1 (show a6.length ≤ 255 by omega), h7, cond_false, hbytes, natI?_eq, List.length_nil, bytesEq_self]
  rfl
end
end Go.Proofs.Ytkmbahlpmoljpaa
/- Plain laws: rows of cells and requests are compared; no condition. -/
set_option linter.unusedVariables false
set_option linter.unusedSimpArgs false
namespace Go.Proofs.Ytkmbahlpmoljpaa
open Go.RowKit

theorem awake_ok : t_law13_awake = some (true, ()) := by kernel_rfl
theorem sameCanon_ok {a b : List (Int × Int × Int × Int)} (ha : a.length ≤ 1000) : ∃ r, t_ref03_SameCanon a b = some (r, ()) ∧ (r = true ↔ a = b) := by
  unfold t_ref03_SameCanon
  simp only [natI?_eq]
  by_cases hl : a.length = b.length
  · have hb : ((a.length : Int) != (b.length : Int)) = false := by simp [hl]
    simp only [hb, cond_false]
    obtain ⟨t, e, ht⟩ := loopN_of (f := t_ref03_SameCanon_L0)
      (fun s => ∃ i : Nat, i ≤ a.length ∧ s = (a, b, (a.length : Int), (i : Int), ()) ∧ a.take i = b.take i)
      (fun t => (t = .inl (false, ()) ∧ a ≠ b) ∨ ((∃ x3 x4 x5 x6 x7, t = .inr (x3, x4, x5, x6, x7, ())) ∧ a = b))
      (fun s => (s.2.2.1 - s.2.2.2.1).toNat) (by
        rintro _ ⟨i, hi, rfl, htk⟩
        unfold t_ref03_SameCanon_L0
        by_cases hlt : (i : Int) < a.length
        · have hi2 : i < a.length := by omega
          have hi3 : i < b.length := by omega
          simp only [hlt, decide_true, cond_true, nat?_of, Option.bind_some, get?, List.getElem?_eq_getElem hi2, List.getElem?_eq_getElem hi3]
          by_cases he : a[i] = b[i]
          · left
            simp only [he, beq_self_eq_true, Bool.and_self, Bool.not_true, cond_false]
            rw [w64_id (x := (i : Int) + 1) (by omega) (by omega)]
            refine ⟨_, rfl, ⟨i + 1, by omega, rfl, ?_⟩, by simp only; omega⟩
            rw [List.take_succ_eq_append_getElem hi2, List.take_succ_eq_append_getElem hi3, htk, he]
          · right
            have hf : ((a[i].1 == b[i].1) && ((a[i].2.1 == b[i].2.1) && ((a[i].2.2.1 == b[i].2.2.1) && ((a[i].2.2.2 == b[i].2.2.2) && true)))) = false := by
              cases hq : ((a[i].1 == b[i].1) && ((a[i].2.1 == b[i].2.1) && ((a[i].2.2.1 == b[i].2.2.1) && ((a[i].2.2.2 == b[i].2.2.2) && true)))) with
              | false => rfl
              | true =>
                simp only [Bool.and_eq_true, beq_iff_eq, and_true] at hq
                exact absurd (Prod.ext hq.1 (Prod.ext hq.2.1 (Prod.ext hq.2.2.1 hq.2.2.2))) he
            simp only [hf, Bool.not_false, cond_true]
            exact ⟨_, rfl, .inl ⟨rfl, fun h => he (by subst h; rfl)⟩⟩
        · right
          simp only [hlt, decide_false, cond_false]
          have : i = a.length := by omega
          subst this
          refine ⟨_, rfl, .inr ⟨⟨_, _, _, _, _, rfl⟩, ?_⟩⟩
          rw [List.take_length] at htk
          rw [htk, hl, List.take_length]) NN (a, b, (a.length : Int), 0, ()) ⟨0, by omega, rfl, by simp⟩ (by show ((a.length : Int) - 0).toNat < NN; unfold NN; omega)
    rcases ht with ⟨rfl, hne⟩ | ⟨⟨x3, x4, x5, x6, x7, rfl⟩, heq⟩
    · exact ⟨false, by simp only [e], by simp [hne]⟩
    · exact ⟨true, by simp only [e], by simp [heq]⟩
  · have hb : ((a.length : Int) != (b.length : Int)) = true := by simp; omega
    simp only [hb, cond_true]
    exact ⟨false, rfl, by simp; intro h; exact hl (by rw [h])⟩
end Go.Proofs.Ytkmbahlpmoljpaa
/- Plain laws: requests are compared; bytes as strings; no condition. -/
set_option linter.unusedVariables false
set_option linter.unusedSimpArgs false
namespace Go.Proofs.Ytkmbahlpmoljpaa
open Go.RowKit

theorem same_ok {a0 a1 a2 a3 a4 a5 : Int} {a6 a7 : List (Int × Int × Int × Int)} {b0 b1 b2 b3 b4 b5 : Int} {b6 b7 : List (Int × Int × Int × Int)} (h6 : a6.length ≤ 1000) (h7 : a7.length ≤ 1000) :
    ∃ r, t_ref12_Same a0 a1 a2 a3 a4 a5 a6 a7 b0 b1 b2 b3 b4 b5 b6 b7 = some (r, ()) ∧ (r = true ↔ a0 = b0 ∧ a1 = b1 ∧ a2 = b2 ∧ a3 = b3 ∧ a4 = b4 ∧ a5 = b5 ∧ a6 = b6 ∧ a7 = b7) := by
  obtain ⟨r, e1, g1⟩ := sameCanon_ok (b := b6) h6
  obtain ⟨s, e2, g2⟩ := sameCanon_ok (b := b7) h7
  unfold t_ref12_Same
  by_cases k0 : a0 = b0
  · by_cases k1 : a1 = b1
    · by_cases k2 : a2 = b2
      · by_cases k3 : a3 = b3
        · by_cases k4 : a4 = b4
          · by_cases k5 : a5 = b5
            · subst k0 k1 k2 k3 k4 k5
              cases r with
              | true =>
                refine ⟨s, by simp [e1, e2], ?_⟩
                rw [g2]
                have := g1.1 rfl
                simp [this]
              | false =>
                refine ⟨false, by simp [e1], ?_⟩
                have : a6 ≠ b6 := fun h => by simpa using g1.2 h
                simp [this]
            · exact ⟨false, by have kb := beq_eq_false_iff_ne.2 k5; simp [k0, k1, k2, k3, k4, kb], by simp [k5]⟩
          · exact ⟨false, by have kb := beq_eq_false_iff_ne.2 k4; simp [k0, k1, k2, k3, kb], by simp [k4]⟩
        · exact ⟨false, by have kb := beq_eq_false_iff_ne.2 k3; simp [k0, k1, k2, kb], by simp [k3]⟩
      · exact ⟨false, by have kb := beq_eq_false_iff_ne.2 k2; simp [k0, k1, kb], by simp [k2]⟩
    · exact ⟨false, by have kb := beq_eq_false_iff_ne.2 k1; simp [k0, kb], by simp [k1]⟩
  · exact ⟨false, by have kb := beq_eq_false_iff_ne.2 k0; simp [kb], by simp [k0]⟩
end Go.Proofs.Ytkmbahlpmoljpaa
/- Plain laws: requests come back from their bytes; no condition. -/
set_option linter.unusedVariables false
set_option linter.unusedSimpArgs false
namespace Go.Proofs.Ytkmbahlpmoljpaa
open Go.RowKit

theorem bstr?_data (l : List Int) : (bstr? l).data.toList = l.map fun n => UInt8.ofNat n.toNat := by
  have key : ∀ (l : List Int) (r : ByteArray), (l.foldl (fun r n => r.push (UInt8.ofNat n.toNat)) r).data.toList = r.data.toList ++ l.map fun n => UInt8.ofNat n.toNat := by
    intro l
    induction l with
    | nil => intro r; simp
    | cons x l ih => intro r; rw [List.foldl_cons, ih]; simp [ByteArray.push]
  unfold bstr?
  rw [key]; rfl
theorem eqT?_iff {a b : List Int} (ha : Byt a) (hb : Byt b) : eqT? (bstr? a) (bstr? b) = true ↔ a = b := by
  unfold eqT?
  rw [ByteArray.toList_eq, ByteArray.toList_eq, bstr?_data, bstr?_data, beq_iff_eq]
  refine ⟨fun h => ?_, fun h => by rw [h]⟩
  induction a generalizing b with
  | nil => cases b with
    | nil => rfl
    | cons y b => simp at h
  | cons x a ih =>
    cases b with
    | nil => simp at h
    | cons y b =>
      simp only [List.map_cons, List.cons.injEq] at h
      have e := ih (fun z hz => ha z (List.mem_cons_of_mem _ hz)) (fun z hz => hb z (List.mem_cons_of_mem _ hz)) h.2
      have p := ha x List.mem_cons_self
      have q := hb y List.mem_cons_self
      have e0 : x.toNat = y.toNat := by
        have := congrArg UInt8.toNat h.1
        simpa [UInt8.toNat_ofNat', Nat.mod_eq_of_lt (show x.toNat < 256 by omega), Nat.mod_eq_of_lt (show y.toNat < 256 by omega)] using this
      rw [e, show x = y by omega]
end Go.Proofs.Ytkmbahlpmoljpaa
/- Plain laws: CanonicalBack returns true; no condition. -/
set_option linter.unusedVariables false
set_option linter.unusedSimpArgs false
namespace Go.Proofs.Ytkmbahlpmoljpaa
open Go.RowKit

theorem byt_append {a b : List Int} (ha : Byt a) (hb : Byt b) : Byt (a ++ b) := fun x hx => (List.mem_append.1 hx).elim (ha x) (hb x)
theorem byt_cons {x : Int} {l : List Int} (h : 0 ≤ x ∧ x ≤ 255) (hl : Byt l) : Byt (x :: l) := fun y hy => (List.mem_cons.1 hy).elim (fun e => e ▸ h) (hl y)
theorem byt_cb {c : Int × Int × Int × Int} (h : CellOk c) : Byt (cb c) := by
  obtain ⟨t, v, r, o⟩ := c
  unfold cb
  rcases h with ⟨h1, h2, h3, h4, h5⟩ | ⟨h1, h2, h3⟩
  · simp only at h1 h2 h3 h4 h5
    rw [if_neg (by show ¬ t = 1; omega)]
    exact byt_cons (by show 0 ≤ t ∧ t ≤ 255; omega) (byt_cons (by decide) (byt_be _ _))
  · simp only at h1 h2 h3
    rw [if_pos h1]
    exact byt_cons (by decide) (byt_cons (by show 0 ≤ r + 1 ∧ r + 1 ≤ 255; omega) (byt_be _ _))
theorem byt_lb {xs : List (Int × Int × Int × Int)} (h : ∀ c ∈ xs, CellOk c) (hl : xs.length ≤ 255) : Byt (lb xs) := by
  refine byt_cons (by omega) fun x hx => ?_
  obtain ⟨c, hc, hx⟩ := List.mem_flatMap.1 hx
  exact byt_cb (h c hc) x hx
theorem byt_rb {a0 a1 a2 a3 a4 a5 : Int} {a6 a7 : List (Int × Int × Int × Int)} (h : ReqOk a0 a1 a2 a3 a4 a5 a6 a7) : Byt (rb a0 a1 a2 a3 a4 a5 a6 a7) := by
  obtain ⟨⟨t0, t1⟩, ⟨s0, s1⟩, ⟨r0, r1⟩, ⟨c0, c1⟩, ⟨p0, p1⟩, ⟨q0, q1⟩, ⟨g1, g2⟩, g3, g4⟩ := h
  exact byt_cons (by omega) (byt_cons (by omega) (byt_cons (by omega) (byt_append (byt_be _ _) (byt_cons (by omega) (byt_cons (by omega) (byt_append (byt_lb g1 (by omega)) (byt_lb g3 (by omega))))))))
theorem back_law {l m : List Int} (hl : ∀ x ∈ l, Is64 x) (hll : l.length ≤ maxLen) (hm : ∀ x ∈ m, Is64 x) (hml : m.length ≤ maxLen) : t_law13_CanonicalBack l m = some (true, ()) := by
  obtain ⟨a0, a1, a2, a3, a4, a5, a6, a7, k1, e1, r1, _⟩ := request_ok (DOk.start hl hll)
  obtain ⟨b0, b1, b2, b3, b4, b5, b6, b7, k2, e2, r2, _⟩ := request_ok (DOk.start hm hml)
  obtain ⟨x, s1, g1⟩ := same_ok (a0 := a0) (a1 := a1) (a2 := a2) (a3 := a3) (a4 := a4) (a5 := a5) (a6 := a6) (a7 := a7) (b0 := a0) (b1 := a1) (b2 := a2) (b3 := a3) (b4 := a4) (b5 := a5) (b6 := a6) (b7 := a7) (by have := r1.args.2; omega) (by have := r1.data.2; omega)
  obtain ⟨y, s2, g2⟩ := same_ok (a0 := a0) (a1 := a1) (a2 := a2) (a3 := a3) (a4 := a4) (a5 := a5) (a6 := a6) (a7 := a7) (b0 := b0) (b1 := b1) (b2 := b2) (b3 := b3) (b4 := b4) (b5 := b5) (b6 := b6) (b7 := b7) (by have := r1.args.2; omega) (by have := r1.data.2; omega)
  have hx : x = true := g1.2 ⟨rfl, rfl, rfl, rfl, rfl, rfl, rfl, rfl⟩
  subst hx
  have hy : eqT? (bstr? (rb a0 a1 a2 a3 a4 a5 a6 a7)) (bstr? (rb b0 b1 b2 b3 b4 b5 b6 b7)) = y := by
    rw [Bool.eq_iff_iff, eqT?_iff (byt_rb r1) (byt_rb r2), g2]
    refine ⟨fun h => ?_, fun ⟨h0, h1, h2, h3, h4, h5, h6, h7⟩ => by rw [h0, h1, h2, h3, h4, h5, h6, h7]⟩
    have q1 := read_ok r1
    rw [h, read_ok r2] at q1
    simp only [Option.some.injEq, Prod.mk.injEq, and_true] at q1
    obtain ⟨h0, h1, h2, h3, h4, h5, h6, h7⟩ := q1
    exact ⟨h0.symm, h1.symm, h2.symm, h3.symm, h4.symm, h5.symm, h6.symm, h7.symm⟩
  unfold t_law13_CanonicalBack
  simp only [e1, e2, bytes_ok r1, bytes_ok r2, read_ok r1, Option.bind_some, s1, s2, awake_ok, hy, beq_self_eq_true, cond_true]
end Go.Proofs.Ytkmbahlpmoljpaa
/- The maker of decks, and numbers that come in; no condition. -/
set_option linter.unusedVariables false
set_option linter.unusedSimpArgs false
namespace Go.Proofs.Ytkmbahlpmoljpaa
open Go.RowKit

theorem no_ng : (Try.prog.funcs.all fun fn => !(fn.name == "runtime.NumGoroutine")) = true := by kernel_rfl
theorem new_enters : Enters Try.prog 6 := by
  obtain ⟨fn, hf, hb⟩ : ∃ fn, Try.prog.funcs[6]? = some fn ∧ fn.body.isSome = true := ⟨_, rfl, rfl⟩
  obtain ⟨c, hc⟩ := Option.isSome_iff_exists.1 hb
  refine enters_of hf ?_ hc
  obtain ⟨hlt, he⟩ := Array.getElem?_eq_some_iff.1 hf
  have := Array.all_eq_true.1 no_ng 6 hlt
  rw [he] at this
  simpa using this
def NewPost (x : Value) (w : World) (e : Ending) (w' : World) : Prop := e = .returned (.pointer (some ⟨w.heap.size, 0, none⟩)) ∧ w' = w.alloc (.cells #[x, .int .i64 0] 46)
theorem new_any (x : Value) (hx : x.oneCell' = true) (w : World) :
    Calls Try.prog 6 #[x] w (NewPost x w) := by
  cases x
  all_goals first
    | (go_enter Try.func6, Try.ntmps6
       go_wp2
       go_ret
       exact ⟨rfl, rfl⟩)
    | simp [Value.oneCell'] at hx
theorem e0_ok : BoxOk Try.prog E0 := by
  intro f n tm h
  simp only [E0] at h
  split at h
  · rename_i e
    subst e
    injection h with h
    injection h with h1 h2
    subst h1 h2
    refine ⟨new_enters, fun x hx => ?_, 46, fun l2 w hl hone => ?_⟩
    · simp only [List.mem_cons, List.not_mem_nil, or_false] at hx
      rcases hx with hx | hx
      · injection hx
      · injection hx with hx; rw [hx]; rfl
    · match l2, hl with
      | [x], _ => exact new_any x (hone x (by simp [bxV])) w
  · simp at h

/-- A slice of integers that came in, as shared data. -/
theorem immR_row {w : World} {a : Option Addr} {len cap : Nat} {zs : List Int}
    (h : (a = none ∧ len = 0 ∧ cap = 0 ∧ zs = []) ∨ ∃ x, a = some x ∧ len ≤ cap ∧ cap ≤ maxLen ∧ zs.length = cap ∧ (∀ i, i < zs.length → w.cell? (x.add i) = some (.int .i64 (zs.getD i 0))) ∧ ∀ n ∈ zs, (Lit.int .i64 n).wf = true) :
    ImmR w (fun _ => True) (.sl ((zs.take len).map fun z => [.v (.int .i64 z)])) (.slice a len cap) ∧ (∀ x ∈ zs.take len, Is64 x) ∧ (zs.take len).length ≤ maxLen := by
  rcases h with ⟨rfl, rfl, rfl, rfl⟩ | ⟨x, rfl, hl, hm, hz, hc, hw⟩
  · exact ⟨.sl (c := []) 1 (fun _ _ => undef) (fun i h => by simp at h) (Nat.le_refl _) (Nat.zero_le _) (fun _ => rfl) (fun i j h => by simp at h) (fun i j h => by simp at h), fun x hx => by simp at hx, by simp⟩
  · have hlen : (zs.take len).length = len := by rw [List.length_take]; omega
    refine ⟨?_, fun n hn => ?_, by omega⟩
    · have key : ImmR w (fun _ => True) (.sl ((zs.take len).map fun z => [.v (.int .i64 z)])) (.slice (some x) ((zs.take len).map fun z => [TV.v (.int .i64 z)]).length cap) := by
        refine .sl 1 (fun i _ => .int .i64 (zs.getD i 0)) (fun i h => by simp) (by rw [List.length_map, hlen]; exact hl) hm (fun h => by simp at h) (fun i j hi hj => ?_) (fun i j hi hj => ?_)
        · rw [List.length_map, hlen] at hi
          obtain ⟨b, off, rfl, hc'⟩ := ints_at hc (by omega)
          refine ⟨b, off, rfl, trivial, ?_⟩
          have := hc' i (by omega)
          rw [show off + (i * 1 + j) = off + i by omega]
          exact this
        · rw [List.length_map, hlen] at hi
          simp only [List.getElem_map, List.length_singleton] at hj
          obtain rfl : j = 0 := by omega
          have : (((zs.take len).map fun z => [TV.v (.int .i64 z)])[i]'(by rw [List.length_map, hlen]; exact hi))[0]'(by simp) = .v (.int .i64 (zs.getD i 0)) := by
            have hi2 : i < zs.length := by omega
            simp [hi2]
          rw [this]
          exact .v rfl
      rw [List.length_map, hlen] at key
      exact key
    · exact bounds_i64 (hw n (List.mem_of_mem_take hn))
end Go.Proofs.Ytkmbahlpmoljpaa
/- CanonicalBack returns true, in the program; no condition. -/
set_option linter.unusedVariables false
set_option linter.unusedSimpArgs false
namespace Go.Proofs.Ytkmbahlpmoljpaa
open Go.RowKit

theorem back_run {l m : List Int} (hl : ∀ x ∈ l, Is64 x) (hll : l.length ≤ maxLen) (hm : ∀ x ∈ m, Is64 x) (hml : m.length ≤ maxLen) :
    runF E0 TT noB (NN + 10) 4 [.sl (l.map fun z => [.v (.int .i64 z)]), .sl (m.map fun z => [.v (.int .i64 z)])] [] = some (⟨[.v (.bool true)], [.one]⟩, []) :=
  k_law13_CanonicalBack 10 (Nat.le_refl _) (l, m, ()) (true, ()) ([.d .bool true], [.one], []) (back_law hl hll hm hml) rfl
theorem back_calls {w : World} {a : Option Addr} {len cap : Nat} {zs : List Int} {a' : Option Addr} {len' cap' : Nat} {zs' : List Int}
    (h : (a = none ∧ len = 0 ∧ cap = 0 ∧ zs = []) ∨ ∃ x, a = some x ∧ len ≤ cap ∧ cap ≤ maxLen ∧ zs.length = cap ∧ (∀ i, i < zs.length → w.cell? (x.add i) = some (.int .i64 (zs.getD i 0))) ∧ ∀ n ∈ zs, (Lit.int .i64 n).wf = true)
    (h' : (a' = none ∧ len' = 0 ∧ cap' = 0 ∧ zs' = []) ∨ ∃ x, a' = some x ∧ len' ≤ cap' ∧ cap' ≤ maxLen ∧ zs'.length = cap' ∧ (∀ i, i < zs'.length → w.cell? (x.add i) = some (.int .i64 (zs'.getD i 0))) ∧ ∀ n ∈ zs', (Lit.int .i64 n).wf = true) :
    Calls Try.prog 4 #[.slice a len cap, .slice a' len' cap'] w fun e w' => e = .returned (.bool true) ∧ Below w.heap.size w w' := by
  obtain ⟨h1, h2, h3⟩ := immR_row h
  obtain ⟨k1, k2, k3⟩ := immR_row h'
  exact (calls_flat (avs := [.slice a len cap, .slice a' len' cap']) (runF_ok tt_ok e0_ok noB_ok (NN + 10)) (back_run h2 h3 k2 k3) rfl rfl fun j hj hj' => by
    match j, hj with
    | 0, _ => exact h1.plain
    | 1, _ => exact k1.plain).2
end Go.Proofs.Ytkmbahlpmoljpaa
