/- Plain laws: requests out of a deck; no condition. -/
import Derived.Test.YtkmbahlpmoljpaaQl
import Derived.WalkKit
import Derived.WalkSpells
import Derived.Handy
import Derived.OpenShut
set_option linter.unusedVariables false
set_option linter.unusedSimpArgs false
namespace Go.Proofs.Ytkmbahlpmoljpaa
open Go.RowKit

theorem req_loop {l ys : List Int} {k : Int} (h : DOk l k) (hy : ys.length ≤ 3) (v5 v6 v7 v8 v9 v10 : Int) (v11 v12 : Unit) (v13 v14 v15 v16 v17 v18 : Int) (v20 : Unit) :
    ∃ xs k' i, loopN t_Deck_Request_L2 NN (ys, (ys.length : Int), 0, l, k, v5, v6, v7, v8, v9, v10, v11, v12, v13, v14, v15, v16, v17, v18, [], v20, ()) = some (ys, (ys.length : Int), i, false, l, k', v5, v6, v7, v8, v9, v10, v11, v12, v13, v14, v15, v16, v17, v18, xs, v20, ()) ∧
      (∀ c ∈ xs, CellOk c) ∧ xs.length ≤ 3 ∧ DOk l k' := by
  obtain ⟨t, e, xs, k', i, rfl, g1, g2, g3⟩ := loopN_of (f := t_Deck_Request_L2)
    (fun s => ∃ (i : Nat) (k : Int) (xs : List (Int × Int × Int × Int)), s = (ys, (ys.length : Int), (i : Int), l, k, v5, v6, v7, v8, v9, v10, v11, v12, v13, v14, v15, v16, v17, v18, xs, v20, ()) ∧ i ≤ ys.length ∧ xs.length ≤ i ∧ DOk l k ∧ ∀ c ∈ xs, CellOk c)
    (fun t => ∃ (xs : List (Int × Int × Int × Int)) (k' i : Int), t = (ys, (ys.length : Int), i, false, l, k', v5, v6, v7, v8, v9, v10, v11, v12, v13, v14, v15, v16, v17, v18, xs, v20, ()) ∧ (∀ c ∈ xs, CellOk c) ∧ xs.length ≤ 3 ∧ DOk l k')
    (fun s => (s.2.1 - s.2.2.1).toNat) (by
      rintro _ ⟨i, k, xs, rfl, hi, hxl, hd, hx⟩
      unfold t_Deck_Request_L2
      by_cases hn : (i : Int) < ys.length
      · left
        have hi2 : i < ys.length := by omega
        have more : ∀ {c : Int × Int × Int × Int}, CellOk c → ∀ c' ∈ xs.append [c], CellOk c' := by
          intro c hc c' hc'
          rcases List.mem_append.1 hc' with h1 | h1
          · exact hx c' h1
          · rw [List.mem_singleton.1 h1]; exact hc
        have fin : ∀ (k2 : Int) (c : Int × Int × Int × Int), DOk l k2 → CellOk c → ∃ s', some (.inl (ys, (ys.length : Int), w64 ((i : Int) + 1), l, k2, v5, v6, v7, v8, v9, v10, v11, v12, v13, v14, v15, v16, v17, v18, xs.append [c], v20, ())) = some (.inl s' : (_ ⊕ (List Int × Int × Int × Bool × List Int × Int × Int × Int × Int × Int × Int × Int × Unit × Unit × Int × Int × Int × Int × Int × Int × List (Int × Int × Int × Int) × Unit × Unit))) ∧ (∃ (i : Nat) (k : Int) (xs : List (Int × Int × Int × Int)), s' = (ys, (ys.length : Int), (i : Int), l, k, v5, v6, v7, v8, v9, v10, v11, v12, v13, v14, v15, v16, v17, v18, xs, v20, ()) ∧ i ≤ ys.length ∧ xs.length ≤ i ∧ DOk l k ∧ ∀ c ∈ xs, CellOk c) ∧ (s'.2.1 - s'.2.2.1).toNat < ((ys.length : Int) - (i : Int)).toNat := by
          intro k2 c d2 hc
          rw [w64_id (x := (i : Int) + 1) (by omega) (by omega)]
          refine ⟨_, rfl, ⟨i + 1, k2, _, rfl, by omega, ?_, d2, more hc⟩, by simp only; omega⟩
          show (xs ++ [c]).length ≤ i + 1
          simp; omega
        have app1 : ∀ c : Int × Int × Int × Int, appOk? 24 xs.length [c].length = true := fun c => appOk_small (by decide) (by simp; omega)
        simp only [hn, decide_true, cond_true, nat?_of, Option.bind_some, get?, List.getElem?_eq_getElem hi2]
        generalize ys[i] = y
        by_cases hN : y = 78
        · subst hN
          obtain ⟨z, k2, e2, z0, z1, d2⟩ := next_ok hd (n := 5) (by decide) (by decide)
          simp only [beq_self_eq_true, cond_true, e2, Option.bind_some, wk_u16 z0 (by omega : z ≤ 65535), app1]
          exact fin k2 _ d2 (.inl ⟨.inl rfl, rfl, rfl, z0, by show z ≤ 65535; omega⟩)
        · have hNb : (y == 78) = false := by simpa using hN
          simp only [hNb, cond_false]
          by_cases hH : y = 72
          · subst hH
            obtain ⟨z, k2, e2, z0, z1, d2⟩ := next_ok hd (n := 4) (by decide) (by decide)
            simp only [beq_self_eq_true, cond_true, e2, Option.bind_some, wk_u16 z0 (by omega : z ≤ 65535), app1]
            exact fin k2 _ d2 (.inl ⟨.inr rfl, rfl, rfl, z0, by show z ≤ 65535; omega⟩)
          · have hHb : (y == 72) = false := by simpa using hH
            simp only [hHb, cond_false]
            by_cases hP : y = 80
            · subst hP
              obtain ⟨z, k2, e2, z0, z1, d2⟩ := next_ok hd (n := 2) (by decide) (by decide)
              obtain ⟨u, k3, e3, u0, u1, d3⟩ := next_ok d2 (n := 4) (by decide) (by decide)
              simp only [beq_self_eq_true, cond_true, e2, e3, Option.bind_some, app1]
              exact fin k3 _ d3 (.inr ⟨rfl, rfl, .inr ⟨z0, by show z < 4; omega, u0, by show u < 32; omega⟩⟩)
            · have hPb : (y == 80) = false := by simpa using hP
              simp only [hPb, cond_false]
              obtain ⟨c1, c2, c3, c4, k2, e2, q2, d2⟩ := canon_ok hd
              simp only [e2, Option.bind_some, app1, cond_true]
              exact fin k2 _ d2 q2
      · right
        simp only [hn, decide_false, cond_false]
        exact ⟨_, rfl, xs, k, i, rfl, hx, by omega, hd⟩) NN _ ⟨0, k, [], rfl, by omega, by simp, h, fun c hc => by simp at hc⟩ (by show ((ys.length : Int) - 0).toNat < NN; unfold NN; omega)
  exact ⟨xs, k', i, e, g1, g2, g3⟩
end Go.Proofs.Ytkmbahlpmoljpaa
/- Plain laws: a deck's request is valid; no condition. -/
set_option linter.unusedVariables false
set_option linter.unusedSimpArgs false
namespace Go.Proofs.Ytkmbahlpmoljpaa
open Go.RowKit

structure ReqOk (a0 a1 a2 a3 a4 a5 : Int) (a6 a7 : List (Int × Int × Int × Int)) : Prop where
  thread : 0 ≤ a0 ∧ a0 ≤ 3
  stop : 0 ≤ a1 ∧ a1 ≤ 3
  trap : 0 ≤ a2 ∧ a2 ≤ 6
  count : 0 ≤ a3 ∧ a3 ≤ 1099511627776
  pc : 0 ≤ a4 ∧ a4 ≤ 255
  call : 0 ≤ a5 ∧ a5 ≤ 15
  args : (∀ c ∈ a6, CellOk c) ∧ a6.length ≤ 3
  data : (∀ c ∈ a7, CellOk c) ∧ a7.length ≤ 16
def kindsL : List ByteArray := [(bytes [78]), (bytes [72, 80, 78]), (bytes [72, 80, 78]), (bytes [78, 78]), (bytes [72]), (bytes [72, 78]), (bytes []), (bytes []), (bytes [78]), (bytes [78]), (bytes [78, 88]), (bytes [78]), (bytes [78]), (bytes [78, 80, 78]), (bytes [78, 80, 78]), (bytes [])]
theorem kinds_ok {j : Nat} (h : j < 16) : ∃ s ys, get? kindsL j = some s ∧ strOk? s = true ∧ strB? s = ys ∧ ys.length ≤ 3 := by
  match j, h with
  | 0, _ => exact ⟨_, [78], rfl, by kernel_rfl, by kernel_rfl, by decide⟩
  | 1, _ => exact ⟨_, [72, 80, 78], rfl, by kernel_rfl, by kernel_rfl, by decide⟩
  | 2, _ => exact ⟨_, [72, 80, 78], rfl, by kernel_rfl, by kernel_rfl, by decide⟩
  | 3, _ => exact ⟨_, [78, 78], rfl, by kernel_rfl, by kernel_rfl, by decide⟩
  | 4, _ => exact ⟨_, [72], rfl, by kernel_rfl, by kernel_rfl, by decide⟩
  | 5, _ => exact ⟨_, [72, 78], rfl, by kernel_rfl, by kernel_rfl, by decide⟩
  | 6, _ => exact ⟨_, [], rfl, by kernel_rfl, by kernel_rfl, by decide⟩
  | 7, _ => exact ⟨_, [], rfl, by kernel_rfl, by kernel_rfl, by decide⟩
  | 8, _ => exact ⟨_, [78], rfl, by kernel_rfl, by kernel_rfl, by decide⟩
  | 9, _ => exact ⟨_, [78], rfl, by kernel_rfl, by kernel_rfl, by decide⟩
  | 10, _ => exact ⟨_, [78, 88], rfl, by kernel_rfl, by kernel_rfl, by decide⟩
  | 11, _ => exact ⟨_, [78], rfl, by kernel_rfl, by kernel_rfl, by decide⟩
  | 12, _ => exact ⟨_, [78], rfl, by kernel_rfl, by kernel_rfl, by decide⟩
  | 13, _ => exact ⟨_, [78, 80, 78], rfl, by kernel_rfl, by kernel_rfl, by decide⟩
  | 14, _ => exact ⟨_, [78, 80, 78], rfl, by kernel_rfl, by kernel_rfl, by decide⟩
  | 15, _ => exact ⟨_, [], rfl, by kernel_rfl, by kernel_rfl, by decide⟩
  | n + 16, h => exact absurd h (by omega)
theorem stops_ok {j : Nat} (h : j < 6) : ∃ s : Int, get? [1, 1, 1, 0, 2, 3] j = some s ∧ 0 ≤ s ∧ s ≤ 3 := by
  match j, h with
  | 0, _ => exact ⟨_, rfl, by decide⟩
  | 1, _ => exact ⟨_, rfl, by decide⟩
  | 2, _ => exact ⟨_, rfl, by decide⟩
  | 3, _ => exact ⟨_, rfl, by decide⟩
  | 4, _ => exact ⟨_, rfl, by decide⟩
  | 5, _ => exact ⟨_, rfl, by decide⟩
theorem request_ok {l : List Int} {k : Int} (h : DOk l k) : ∃ a0 a1 a2 a3 a4 a5 a6 a7 k', t_Deck_Request l k = some (a0, a1, a2, a3, a4, a5, a6, a7, l, k', ()) ∧ ReqOk a0 a1 a2 a3 a4 a5 a6 a7 ∧ DOk l k' := by
  obtain ⟨t, k1, e1, t0, t1, d1⟩ := next_ok h (n := 4) (by decide) (by decide)
  obtain ⟨s, k2, e2, s0, s1, d2⟩ := next_ok d1 (n := 6) (by decide) (by decide)
  obtain ⟨c, k3, e3, c0, c1, d3⟩ := next_ok d2 (n := 50) (by decide) (by decide)
  obtain ⟨p, k4, e4, p0, p1, d4⟩ := next_ok d3 (n := 64) (by decide) (by decide)
  obtain ⟨j, rfl⟩ : ∃ j : Nat, s = j := ⟨s.toNat, by omega⟩
  obtain ⟨st, e5, st0, st1⟩ := stops_ok (j := j) (by omega)
  unfold t_Deck_Request
  simp only [e1, e2, e3, e4, e5, nat?_of, Option.bind_some]
  have htr : ∃ tr k5, (bif (st == 2) then ((t_Deck_Next 6 l k4).bind fun (x16, x17, x18, _) =>
      let x19 : Int := (w64 (1 + x16));
      some (x17, x18, 0, 0, 0, 0, 0, 0, (), (), t, st, x19, c, p, 0, (), (), ())) else
      some (l, k4, 0, 0, 0, 0, 0, 0, (), (), t, st, 0, c, p, 0, (), (), ()) : Option ((List (Int)) × Int × Int × Int × Int × Int × Int × Int × Unit × Unit × Int × Int × Int × Int × Int × Int × Unit × Unit × Unit)) = some (l, k5, 0, 0, 0, 0, 0, 0, (), (), t, st, tr, c, p, 0, (), (), ()) ∧ 0 ≤ tr ∧ tr ≤ 6 ∧ DOk l k5 := by
    by_cases h2 : st = 2
    · subst h2
      obtain ⟨v, k5, e6, v0, v1, d5⟩ := next_ok d4 (n := 6) (by decide) (by decide)
      refine ⟨1 + v, k5, ?_, by omega, by omega, d5⟩
      simp only [beq_self_eq_true, cond_true, e6, Option.bind_some]
      rw [w64_id (by omega) (by omega)]
    · have h2b : (st == 2) = false := by simpa using h2
      exact ⟨0, k4, by simp only [h2b, cond_false], by decide, by decide, d4⟩
  obtain ⟨tr, k5, e6, tr0, tr1, d5⟩ := htr
  simp only [e6, Option.bind_some]
  by_cases h1 : st = 1
  · subst h1
    obtain ⟨ca, k6, e7, ca0, ca1, d6⟩ := next_ok d5 (n := 16) (by decide) (by decide)
    obtain ⟨q, rfl⟩ : ∃ q : Nat, ca = q := ⟨ca.toNat, by omega⟩
    obtain ⟨str, ys, e8, e9, e10, hys⟩ := kinds_ok (j := q) (by omega)
    obtain ⟨xs, k7, i, e11, hx, hxl, d7⟩ := req_loop d6 hys 0 0 0 0 0 0 () () t 1 tr c p q ()
    have e8' : get? [(bytes [78]), (bytes [72, 80, 78]), (bytes [72, 80, 78]), (bytes [78, 78]), (bytes [72]), (bytes [72, 78]), (bytes []), (bytes []), (bytes [78]), (bytes [78]), (bytes [78, 88]), (bytes [78]), (bytes [78]), (bytes [78, 80, 78]), (bytes [78, 80, 78]), (bytes [])] q = some str := e8
    simp only [bne_self_eq_false, cond_false, e7, Option.bind_some, nat?_of, e8', e9, e10, cond_true, natI?_eq, e11]
    have hda : ∃ da k8, (bif ((q : Int) == 1) then ((t_Deck_Canons 6 l k7).bind fun (x65, x66, x67, _) =>
        some (x66, x67, (0 : Int), (0 : Int), (0 : Int), (0 : Int), (0 : Int), (0 : Int), (), (), t, (1 : Int), tr, c, p, (q : Int), xs, x65, ())) else
        bif ((q : Int) == 13) then ((t_Deck_Canons 6 l k7).bind fun (x65, x66, x67, _) =>
        some (x66, x67, 0, 0, 0, 0, 0, 0, (), (), t, 1, tr, c, p, (q : Int), xs, x65, ())) else
        some (l, k7, 0, 0, 0, 0, 0, 0, (), (), t, 1, tr, c, p, (q : Int), xs, [], ()) : Option ((List (Int)) × Int × Int × Int × Int × Int × Int × Int × Unit × Unit × Int × Int × Int × Int × Int × Int × (List (Int × Int × Int × Int)) × (List (Int × Int × Int × Int)) × Unit)) = some (l, k8, 0, 0, 0, 0, 0, 0, (), (), t, 1, tr, c, p, (q : Int), xs, da, ()) ∧ (∀ c ∈ da, CellOk c) ∧ da.length ≤ 16 ∧ DOk l k8 := by
      obtain ⟨da, k8, e12, g1, g2, d8⟩ := canons_ok d7 (a := 6) (by decide) (by decide)
      by_cases hb1 : (q : Int) = 1
      · refine ⟨da, k8, ?_, g1, by omega, d8⟩
        rw [hb1]
        simp only [beq_self_eq_true, cond_true, e12, Option.bind_some]
      · have hb1' : ((q : Int) == 1) = false := by simpa using hb1
        by_cases hb2 : (q : Int) = 13
        · refine ⟨da, k8, ?_, g1, by omega, d8⟩
          simp only [hb1', cond_false]
          rw [hb2]
          simp only [beq_self_eq_true, cond_true, e12, Option.bind_some]
        · have hb2' : ((q : Int) == 13) = false := by simpa using hb2
          exact ⟨[], k7, by simp only [hb1', hb2', cond_false], fun c hc => by simp at hc, by decide, d7⟩
    obtain ⟨da, k8, e12, da1, da2, d8⟩ := hda
    simp only [e12, Option.bind_some]
    obtain ⟨z, k9, e13, z0, z1, d9⟩ := next_ok d8 (n := 10) (by decide) (by decide)
    simp only [e13, Option.bind_some]
    by_cases hz : z = 0
    · subst hz
      obtain ⟨ar, k10, e14, g1, g2, d10⟩ := canons_ok d9 (a := 3) (by decide) (by decide)
      refine ⟨t, 1, tr, c, p, q, ar, da, k10, ?_, ⟨⟨t0, by omega⟩, by decide, ⟨tr0, tr1⟩, ⟨c0, by omega⟩, ⟨p0, by omega⟩, ⟨ca0, by omega⟩, ⟨g1, by omega⟩, da1, da2⟩, d10⟩
      simp only [beq_self_eq_true, cond_true, e14, Option.bind_some]
    · have hz' : (z == 0) = false := by simpa using hz
      refine ⟨t, 1, tr, c, p, q, xs, da, k9, ?_, ⟨⟨t0, by omega⟩, by decide, ⟨tr0, tr1⟩, ⟨c0, by omega⟩, ⟨p0, by omega⟩, ⟨ca0, by omega⟩, ⟨hx, hxl⟩, da1, da2⟩, d9⟩
      simp only [hz', cond_false, Option.bind_some]
  · have h1b : (st != 1) = true := by simpa using h1
    simp only [h1b, cond_true]
    exact ⟨t, st, tr, c, p, 0, [], [], k5, rfl, ⟨⟨t0, by omega⟩, ⟨st0, st1⟩, ⟨tr0, tr1⟩, ⟨c0, by omega⟩, ⟨p0, by omega⟩, by decide, ⟨fun c hc => by simp at hc, by decide⟩, ⟨fun c hc => by simp at hc, by decide⟩⟩, d5⟩
end Go.Proofs.Ytkmbahlpmoljpaa
/- Plain laws: numbers and cells written; no condition. -/
set_option linter.unusedVariables false
set_option linter.unusedSimpArgs false
namespace Go.Proofs.Ytkmbahlpmoljpaa
open Go.RowKit

/-- The last n bytes of a number, the most significant one first. -/
def be : Nat → Int → List Int
  | 0, _ => []
  | n + 1, v => (v / 256 ^ n) % 256 :: be n v
theorem be_len : ∀ (n : Nat) (v : Int), (be n v).length = n := by
  intro n
  induction n with
  | zero => intro v; rfl
  | succ n ih => intro v; simp [be, ih]
theorem wk_u8 (x : Int) : wk .u8 x = x % 256 := wrap_u8 x
theorem shr_be (v : Int) {n : Nat} (h : n ≤ 7) : shR .shr .i64 v (8 * n) = v / 256 ^ n := by
  have e : min (8 * n) (IntKind.bits .i64) = 8 * n := by simp [IntKind.bits]; omega
  have e2 : (2 : Int) ^ (8 * n) = 256 ^ n := by rw [Int.pow_mul]; rfl
  show v.fdiv (2 ^ (min (8 * n) (IntKind.bits .i64))) = _
  rw [e, e2]
  exact Int.fdiv_eq_ediv_of_nonneg _ (Int.le_of_lt (Int.pow_pos (by decide)))
theorem put_loop (v : Int) : ∀ (n : Nat), n ≤ 7 → ∀ (m : Nat) (b : List Int), n < m → b.length + n ≤ 100000 → loopN t_codes_Put_L0 m ((n : Int) - 1, v, b, ()) = some (-1, v, false, b ++ be n v, ()) := by
  intro n
  induction n with
  | zero =>
    intro _ m b hm _
    obtain ⟨m, rfl⟩ : ∃ m', m = m' + 1 := ⟨m - 1, by omega⟩
    simp [loopN, t_codes_Put_L0, be]
  | succ n ih =>
    intro hn m b hm hb
    obtain ⟨m, rfl⟩ : ∃ m', m = m' + 1 := ⟨m - 1, by omega⟩
    have e1 : ((n + 1 : Nat) : Int) - 1 = n := by omega
    have e2 : w64 (8 * (n : Int)) = ((8 * n : Nat) : Int) := by rw [w64_id (by omega) (by omega)]; omega
    have e3 : w64 ((n : Int) - 1) = (n : Int) - 1 := w64_id (by omega) (by omega)
    have hstep : t_codes_Put_L0 (((n + 1 : Nat) : Int) - 1, v, b, ()) = some (.inl ((n : Int) - 1, v, b ++ [(v / 256 ^ n) % 256], ())) := by
      unfold t_codes_Put_L0
      rw [e1]
      have h0 : decide ((n : Int) ≥ 0) = true := by simp
      simp only [h0, cond_true, e2, nat?_of, Option.bind_some, shr_be v (by omega : n ≤ 7), wk_u8, e3]
      rw [appOk_small (by decide) (by simp; omega)]
      rfl
    simp only [loopN, hstep, Option.bind_some]
    rw [ih (by omega) m _ (by omega) (by simp; omega)]
    simp [be]
theorem put_ok {n : Nat} {v : Int} {b : List Int} (hn : n ≤ 7) (hb : b.length ≤ 90000) : t_codes_Put n v b = some (b ++ be n v, ()) := by
  unfold t_codes_Put
  rw [w64_id (x := (n : Int) - 1) (by omega) (by omega)]
  simp only [put_loop v n hn NN b (by unfold NN; omega) (by omega), Option.bind_some]
/-- The code of a cell. -/
def cb (c : Int × Int × Int × Int) : List Int := if c.1 = 1 then [1, c.2.2.1 + 1] ++ be 2 c.2.2.2 else [c.1, 0] ++ be 2 c.2.1
theorem cb_len (c : Int × Int × Int × Int) : (cb c).length = 4 := by
  unfold cb
  split <;> simp [be_len]
theorem cell_ok {c : Int × Int × Int × Int} {b : List Int} (h : CellOk c) (hb : b.length ≤ 80000) : t_codes_Cell c.1 c.2.1 c.2.2.1 c.2.2.2 b = some (b ++ cb c, ()) := by
  obtain ⟨t, v, r, o⟩ := c
  unfold t_codes_Cell cb
  rcases h with ⟨h1, h2, h3, h4, h5⟩ | ⟨h1, h2, h3⟩
  · simp only at h1 h2 h3 h4 h5
    have ht : (t == 1) = false := by simp; omega
    have ht2 : ¬ t = 1 := by omega
    simp only [ht, cond_false]
    rw [appOk_small (by decide) (by simp; omega)]
    have e : wk .i64 v = v := wrap_i64 (by omega) (by omega)
    simp only [cond_true, e]
    have hp := put_ok (n := 2) (v := v) (b := b.append [t, 0]) (by decide) (by show (b ++ [t, 0]).length ≤ 90000; simp; omega)
    rw [show ((2 : Nat) : Int) = 2 from rfl] at hp
    rw [hp]
    simp only [Option.bind_some, if_neg ht2]
    show some ((b ++ [t, 0]) ++ be 2 v, ()) = _
    rw [List.append_assoc]
  · simp only at h1 h2 h3
    subst h1
    have hr : -1 ≤ r ∧ r < 4 := by omega
    simp only [beq_self_eq_true, cond_true]
    rw [w64_id (x := r + 1) (by omega) (by omega), wk_u8, Int.emod_eq_of_lt (by omega) (by omega)]
    rw [appOk_small (by decide) (by simp; omega)]
    simp only [cond_true]
    have hp := put_ok (n := 2) (v := o) (b := b.append [1, r + 1]) (by decide) (by show (b ++ [1, r + 1]).length ≤ 90000; simp; omega)
    rw [show ((2 : Nat) : Int) = 2 from rfl] at hp
    rw [hp]
    simp only [Option.bind_some, if_true]
    show some ((b ++ [1, r + 1]) ++ be 2 o, ()) = _
    rw [List.append_assoc]
theorem flat_cb_len : ∀ l : List (Int × Int × Int × Int), (l.flatMap cb).length = 4 * l.length := by
  intro l
  induction l with
  | nil => rfl
  | cons x l ih => rw [List.flatMap_cons, List.length_append, ih, cb_len, List.length_cons]; omega
/-- The code of a row of cells. -/
def lb (xs : List (Int × Int × Int × Int)) : List Int := (xs.length : Int) :: xs.flatMap cb
theorem list_ok {xs : List (Int × Int × Int × Int)} {b : List Int} (h : ∀ c ∈ xs, CellOk c) (hl : xs.length ≤ 255) (hb : b.length ≤ 70000) : t_codes_List xs b = some (b ++ lb xs, ()) := by
  unfold t_codes_List
  simp only [natI?_eq, wk_u8]
  rw [Int.emod_eq_of_lt (by omega) (by omega), appOk_small (by decide) (by simp; omega)]
  simp only [cond_true]
  obtain ⟨t, e, x6, x7, rfl⟩ := loopN_of (f := t_codes_List_L0)
    (fun s => ∃ i : Nat, i ≤ xs.length ∧ s = (xs, (xs.length : Int), (i : Int), b ++ (xs.length : Int) :: (xs.take i).flatMap cb, ()))
    (fun t => ∃ x6 x7, t = (xs, (xs.length : Int), x6, x7, b ++ lb xs, ()))
    (fun s => (s.2.1 - s.2.2.1).toNat) (by
      rintro _ ⟨i, hi, rfl⟩
      unfold t_codes_List_L0
      by_cases hn : (i : Int) < xs.length
      · left
        have hi2 : i < xs.length := by omega
        have hfl : ((xs.take i).flatMap cb).length ≤ 4 * i := by
          rw [flat_cb_len, List.length_take]; omega
        have htk : (xs.take (i + 1)).flatMap cb = (xs.take i).flatMap cb ++ cb xs[i] := by
          rw [List.take_succ_eq_append_getElem hi2, List.flatMap_append]
          simp
        simp only [hn, decide_true, cond_true, nat?_of, Option.bind_some, get?, List.getElem?_eq_getElem hi2]
        rw [cell_ok (h _ (List.getElem_mem hi2)) (by rw [List.length_append, List.length_cons]; omega)]
        rw [w64_id (x := (i : Int) + 1) (by omega) (by omega)]
        refine ⟨_, rfl, ⟨i + 1, by omega, ?_⟩, by simp only; omega⟩
        rw [htk]
        simp
      · right
        simp only [hn, decide_false, cond_false]
        have : i = xs.length := by omega
        subst this
        exact ⟨_, rfl, _, _, by rw [List.take_length]; rfl⟩) NN (xs, (xs.length : Int), 0, b.append [(xs.length : Int)], ()) ⟨0, by omega, by simp⟩ (by show ((xs.length : Int) - 0).toNat < NN; unfold NN; omega)
  rw [e]
  rfl
end Go.Proofs.Ytkmbahlpmoljpaa
/- Plain laws: a request's bytes; no condition. -/
set_option linter.unusedVariables false
set_option linter.unusedSimpArgs false
namespace Go.Proofs.Ytkmbahlpmoljpaa
open Go.RowKit

theorem reqcell_ok {c : Int × Int × Int × Int} (h : CellOk c) : t_request_Cell c.1 c.2.1 c.2.2.1 c.2.2.2 = some (true, ()) := by
  obtain ⟨t, v, r, o⟩ := c
  unfold t_request_Cell
  rcases h with ⟨h1, h2, h3, h4, h5⟩ | ⟨h1, h2, h3⟩
  · simp only at h1 h2 h3 h4 h5
    subst h2; subst h3
    rcases h1 with rfl | rfl <;> rfl
  · simp only at h1 h2 h3
    subst h1; subst h2
    rcases h3 with ⟨rfl, h4, h5⟩ | ⟨h4, h5, h6, h7⟩
    · simp [h4, h5]
    · have hr : (r == -1) = false := by simp; omega
      simp [hr, h4, h5, h6, h7]
theorem reqcells_ok {xs : List (Int × Int × Int × Int)} {n : Int} (h : ∀ c ∈ xs, CellOk c) (hl : (xs.length : Int) ≤ n) (hn : n ≤ 1000) : t_request_Cells xs n = some (true, ()) := by
  have hidx : t_slices_IndexFunc_Canon xs = some (-1, ()) := by
    unfold t_slices_IndexFunc_Canon
    obtain ⟨t, e, x1, x2, x3, x4, rfl⟩ := loopN_of (f := t_slices_IndexFunc_Canon_L0)
      (fun s => ∃ i : Nat, i ≤ xs.length ∧ s = (xs, (xs.length : Int), (i : Int), ()))
      (fun t => ∃ x1 x2 x3 x4, t = .inr (x1, x2, x3, x4, ()))
      (fun s => (s.2.1 - s.2.2.1).toNat) (by
        rintro _ ⟨i, hi, rfl⟩
        unfold t_slices_IndexFunc_Canon_L0
        by_cases hn2 : (i : Int) < xs.length
        · left
          have hi2 : i < xs.length := by omega
          simp only [hn2, decide_true, cond_true, nat?_of, Option.bind_some, get?, List.getElem?_eq_getElem hi2, t_request_Cells_1, reqcell_ok (h _ (List.getElem_mem hi2)), Bool.not_true, cond_false]
          rw [w64_id (x := (i : Int) + 1) (by omega) (by omega)]
          exact ⟨_, rfl, ⟨i + 1, by omega, rfl⟩, by simp only; omega⟩
        · right
          simp only [hn2, decide_false, cond_false]
          exact ⟨_, rfl, _, _, _, _, rfl⟩) NN (xs, (xs.length : Int), 0, ()) ⟨0, by omega, rfl⟩ (by show ((xs.length : Int) - 0).toNat < NN; unfold NN; omega)
    simp only [natI?_eq, e]
  unfold t_request_Cells t_slices_ContainsFunc_Canon
  simp only [natI?_eq, hl, decide_true, cond_true, hidx, Option.bind_some]
  rfl
section
variable {a0 a1 a2 a3 a4 a5 : Int} {a6 a7 : List (Int × Int × Int × Int)}
theorem valid_ok (h : ReqOk a0 a1 a2 a3 a4 a5 a6 a7) : t_request_Valid a0 a1 a2 a3 a4 a5 a6 a7 = some (true, ()) := by
  have hv : ∀ {x lo hi : Int}, lo ≤ x ∧ x ≤ hi → t_request_Valid_1 x lo hi = some (true, ()) := by
    intro x lo hi hx
    unfold t_request_Valid_1
    simp [hx.1, hx.2]
  unfold t_request_Valid
  simp only [hv h.thread, hv h.stop, hv h.trap, hv h.count, hv h.pc, hv h.call, Option.bind_some, cond_true]
  rw [reqcells_ok h.args.1 (by have := h.args.2; omega) (by decide)]
  simp only [Option.bind_some, cond_true]
  rw [reqcells_ok h.data.1 (by have := h.data.2; omega) (by decide)]
  rfl
/-- A request's bytes. -/
def rb (a0 a1 a2 a3 a4 a5 : Int) (a6 a7 : List (Int × Int × Int × Int)) : List Int := a0 :: a1 :: a2 :: (be 6 a3 ++ a4 :: a5 :: (lb a6 ++ lb a7))
theorem lb_len (xs : List (Int × Int × Int × Int)) : (lb xs).length = 4 * xs.length + 1 := by unfold lb; rw [List.length_cons, flat_cb_len]
theorem bytes_ok (h : ReqOk a0 a1 a2 a3 a4 a5 a6 a7) : t_canonical_Bytes a0 a1 a2 a3 a4 a5 a6 a7 = some (rb a0 a1 a2 a3 a4 a5 a6 a7, 0, ()) := by
  have hu : ∀ {x : Int}, 0 ≤ x → x ≤ 255 → wk .u8 x = x := fun h0 h1 => by rw [wk_u8]; exact Int.emod_eq_of_lt h0 (by omega)
  obtain ⟨⟨t0, t1⟩, ⟨s0, s1⟩, ⟨r0, r1⟩, ⟨c0, c1⟩, ⟨p0, p1⟩, ⟨q0, q1⟩, ⟨g1, g2⟩, g3, g4⟩ := h
  unfold t_canonical_Bytes
  rw [valid_ok ⟨⟨t0, t1⟩, ⟨s0, s1⟩, ⟨r0, r1⟩, ⟨c0, c1⟩, ⟨p0, p1⟩, ⟨q0, q1⟩, ⟨g1, g2⟩, g3, g4⟩]
  simp only [Option.bind_some, Bool.not_true, cond_false, hu t0 (by omega), hu s0 (by omega), hu r0 (by omega), hu p0 p1, hu q0 (by omega)]
  have hp := put_ok (n := 6) (v := a3) (b := [a0, a1, a2]) (by decide) (by simp)
  rw [show ((6 : Nat) : Int) = 6 from rfl] at hp
  rw [hp]
  simp only [Option.bind_some]
  rw [appOk_small (by decide) (by simp [be_len])]
  simp only [cond_true]
  rw [list_ok g1 (by omega) (by show (([a0, a1, a2] ++ be 6 a3) ++ [a4, a5]).length ≤ 70000; simp [be_len])]
  simp only [Option.bind_some]
  rw [list_ok g3 (by omega) (by show ((([a0, a1, a2] ++ be 6 a3) ++ [a4, a5]) ++ lb a6).length ≤ 70000; simp [be_len, lb_len]; omega)]
  simp only [Option.bind_some]
  show some (((([a0, a1, a2] ++ be 6 a3) ++ [a4, a5]) ++ lb a6) ++ lb a7, 0, ()) = _
  unfold rb
  simp
end
end Go.Proofs.Ytkmbahlpmoljpaa
/- Plain laws: numbers read; no condition. -/
set_option linter.unusedVariables false
set_option linter.unusedSimpArgs false
namespace Go.Proofs.Ytkmbahlpmoljpaa
open Go.RowKit

theorem or_bytes {v x : Int} (h0 : 0 ≤ v) (h1 : v < 281474976710656) (x0 : 0 ≤ x) (x1 : x ≤ 255) : arR .or .i64 (shR .shl .i64 v 8) (wk .i64 x) = v * 256 + x := by
  have e1 : shR .shl .i64 v 8 = v * 256 := by
    show IntKind.wrap .i64 (v * 2 ^ (min 8 (IntKind.bits .i64))) = _
    have : (2 : Int) ^ (min 8 (IntKind.bits .i64)) = 256 := by rfl
    rw [this]
    exact wrap_i64 (by omega) (by omega)
  have e2 : wk .i64 x = x := wrap_i64 (by omega) (by omega)
  rw [e1, e2]
  obtain ⟨n, rfl⟩ : ∃ n : Nat, v = n := ⟨v.toNat, by omega⟩
  obtain ⟨m, rfl⟩ : ∃ m : Nat, x = m := ⟨x.toNat, by omega⟩
  show IntKind.wrap .i64 ((BitVec.ofInt 64 ((n : Int) * 256) ||| BitVec.ofInt 64 (m : Int)).toNat : Int) = _
  have e3 : BitVec.ofInt 64 ((n : Int) * 256) = BitVec.ofNat 64 (n * 256) := by
    rw [show (n : Int) * 256 = ((n * 256 : Nat) : Int) by omega]; exact BitVec.ofInt_natCast _ _
  have e4 : BitVec.ofInt 64 (m : Int) = BitVec.ofNat 64 m := BitVec.ofInt_natCast _ _
  have e5 : (n * 256 ||| m) = n * 256 + m := by
    have := Nat.shiftLeft_add_eq_or_of_lt (i := 8) (b := m) (by omega) n
    rw [Nat.shiftLeft_eq] at this
    exact this.symm
  rw [e3, e4, BitVec.toNat_or, BitVec.toNat_ofNat, BitVec.toNat_ofNat, Nat.mod_eq_of_lt (by omega), Nat.mod_eq_of_lt (by omega), e5]
  rw [wrap_i64 (by omega) (by omega)]
  omega
/-- The number that bytes make. -/
def val (v : Int) : List Int → Int
  | [] => v
  | x :: r => val (v * 256 + x) r
theorem val_be_mod : ∀ (n : Nat) (u v : Int), 0 ≤ v → val u (be n v) = u * 256 ^ n + v % 256 ^ n := by
  intro n
  induction n with
  | zero => intro u v h0; simp [be, val]
  | succ n ih =>
    intro u v h0
    simp only [be, val]
    rw [ih _ v h0]
    obtain ⟨k, rfl⟩ : ∃ k : Nat, v = k := ⟨v.toNat, by omega⟩
    have h := Nat.mod_mul (a := 256 ^ n) (b := 256) (x := k)
    have h2 : ((k % (256 ^ n * 256) : Nat) : Int) = ((k % 256 ^ n + 256 ^ n * (k / 256 ^ n % 256) : Nat) : Int) := congrArg _ h
    simp only [Int.natCast_add, Int.natCast_mul, Int.natCast_emod, Int.natCast_ediv, Int.natCast_pow] at h2
    rw [Int.pow_succ]
    rw [show ((256 : Nat) : Int) = 256 from rfl] at h2
    rw [h2, Int.add_mul, Int.mul_assoc, Int.mul_comm 256 (256 ^ n), Int.mul_comm ((k : Int) / 256 ^ n % 256) (256 ^ n)]
    omega
theorem val_be {n : Nat} {v : Int} (h0 : 0 ≤ v) (h1 : v < 256 ^ n) : val 0 (be n v) = v := by
  rw [val_be_mod n 0 v h0, Int.emod_eq_of_lt h0 h1]; omega
end Go.Proofs.Ytkmbahlpmoljpaa
/- Plain laws: the reader's numbers; no condition. -/
set_option linter.unusedVariables false
set_option linter.unusedSimpArgs false
namespace Go.Proofs.Ytkmbahlpmoljpaa
open Go.RowKit

def Byt (l : List Int) : Prop := ∀ x ∈ l, 0 ≤ x ∧ x ≤ 255
theorem val_append : ∀ (a b : List Int) (u : Int), val u (a ++ b) = val (val u a) b := by
  intro a
  induction a with
  | nil => intro b u; rfl
  | cons x a ih => intro b u; exact ih b _
theorem val_lt : ∀ (l : List Int) (u : Int), Byt l → 0 ≤ u → 0 ≤ val u l ∧ val u l < (u + 1) * 256 ^ l.length := by
  intro l
  induction l with
  | nil => intro u _ h; simp [val]; omega
  | cons x l ih =>
    intro u hb h
    have hx := hb x (by simp)
    obtain ⟨h1, h2⟩ := ih (u * 256 + x) (fun y hy => hb y (by simp [hy])) (by omega)
    refine ⟨h1, Int.lt_of_lt_of_le h2 ?_⟩
    rw [List.length_cons, Int.pow_succ, Int.mul_comm (256 ^ l.length) 256, ← Int.mul_assoc]
    exact Int.mul_le_mul_of_nonneg_right (by omega) (Int.le_of_lt (Int.pow_pos (by decide)))
theorem number_ok {ys rest : List Int} {n : Nat} (hb : Byt ys) (hn : ys.length = n) (h6 : n ≤ 6) : t___codes_Reader__Number n (ys ++ rest) false = some (val 0 ys, rest, false, ()) := by
  have hpart : t___codes_Reader__Part n (ys ++ rest) false = some (ys, rest, false, ()) := by
    unfold t___codes_Reader__Part
    have h1 : ¬ ((n : Int) > ((ys ++ rest).length : Int)) := by rw [List.length_append]; omega
    have h2 : slOk? 0 n (ys ++ rest).length = true := by simp [slOk?]; omega
    have h3 : slOk? n (ys ++ rest).length (ys ++ rest).length = true := by simp [slOk?]; omega
    have h4 : win? (ys ++ rest) 0 (Nat.sub n 0) = ys := by
      show ((ys ++ rest).drop 0).take (n - 0) = ys
      rw [List.drop_zero, Nat.sub_zero, ← hn, List.take_left]
    have h5 : win? (ys ++ rest) n (Nat.sub (ys ++ rest).length n) = rest := by
      show ((ys ++ rest).drop n).take ((ys ++ rest).length - n) = rest
      rw [← hn, List.drop_left, List.length_append, Nat.add_sub_cancel_left, List.take_length]
    simp only [cond_false, natI?_eq, h1, decide_false, nat?_of, Option.bind_some, h2, cond_true, h3, h4, h5]
  unfold t___codes_Reader__Number
  simp only [hpart, Option.bind_some, natI?_eq]
  obtain ⟨t, e, x6, x7, x8, x9, rfl⟩ := loopN_of (f := t___codes_Reader__Number_L0)
    (fun s => ∃ i : Nat, i ≤ ys.length ∧ s = (val 0 (ys.take i), ys, (ys.length : Int), (i : Int), rest, false, ()))
    (fun t => ∃ x6 x7 x8 x9, t = (val 0 ys, x6, x7, x8, x9, rest, false, ()))
    (fun s => (s.2.2.1 - s.2.2.2.1).toNat) (by
      rintro _ ⟨i, hi, rfl⟩
      unfold t___codes_Reader__Number_L0
      by_cases hlt : (i : Int) < ys.length
      · left
        have hi2 : i < ys.length := by omega
        have hx := hb _ (List.getElem_mem hi2)
        have hv := val_lt (ys.take i) 0 (fun x hx => hb x (List.mem_of_mem_take hx)) (by omega)
        rw [List.length_take, Nat.min_eq_left hi] at hv
        have hp : (256 : Int) ^ i ≤ 256 ^ 5 := by
          have := Nat.pow_le_pow_right (n := 256) (by decide) (show i ≤ 5 by omega)
          have h2 : ((256 ^ i : Nat) : Int) ≤ ((256 ^ 5 : Nat) : Int) := by exact_mod_cast this
          simpa using h2
        have hp5 : (256 : Int) ^ 5 = 1099511627776 := by decide
        simp only [hlt, decide_true, cond_true, nat?_of, Option.bind_some, get?, List.getElem?_eq_getElem hi2]
        rw [or_bytes hv.1 (by omega) hx.1 hx.2, w64_id (x := (i : Int) + 1) (by omega) (by omega)]
        refine ⟨_, rfl, ⟨i + 1, by omega, ?_⟩, by simp only; omega⟩
        rw [List.take_succ_eq_append_getElem hi2, val_append]
        rfl
      · right
        simp only [hlt, decide_false, cond_false]
        have : i = ys.length := by omega
        subst this
        exact ⟨_, rfl, _, _, _, _, by rw [List.take_length]⟩) NN (0, ys, (ys.length : Int), 0, rest, false, ()) ⟨0, by omega, by simp [val]⟩ (by show ((ys.length : Int) - 0).toNat < NN; unfold NN; omega)
  simp only [e, Option.bind_some]
end Go.Proofs.Ytkmbahlpmoljpaa
/- Plain laws: cells read; no condition. -/
set_option linter.unusedVariables false
set_option linter.unusedSimpArgs false
namespace Go.Proofs.Ytkmbahlpmoljpaa
open Go.RowKit

theorem byt_be : ∀ (n : Nat) (v : Int), Byt (be n v) := by
  intro n
  induction n with
  | zero => intro v x h; simp [be] at h
  | succ n ih =>
    intro v x h
    rcases List.mem_cons.1 h with rfl | h
    · exact ⟨Int.emod_nonneg _ (by decide), by have := Int.emod_lt_of_pos (v / 256 ^ n) (show (0 : Int) < 256 by decide); omega⟩
    · exact ih v x h
theorem number1 {x : Int} {rest : List Int} (h0 : 0 ≤ x) (h1 : x ≤ 255) : t___codes_Reader__Number 1 (x :: rest) false = some (x, rest, false, ()) := by
  have h := number_ok (ys := [x]) (rest := rest) (n := 1) (fun y hy => by rw [List.mem_singleton.1 hy]; exact ⟨h0, h1⟩) rfl (by decide)
  have e : val 0 [x] = x := by simp [val]
  rw [e] at h
  exact h
theorem number_be {n : Nat} {v : Int} {rest : List Int} (hn : n ≤ 6) (h0 : 0 ≤ v) (h1 : v < 256 ^ n) : t___codes_Reader__Number n (be n v ++ rest) false = some (v, rest, false, ()) := by
  have h := number_ok (ys := be n v) (rest := rest) (n := n) (byt_be n v) (be_len n v) hn
  rw [val_be h0 h1] at h
  exact h
theorem readcell_ok {c : Int × Int × Int × Int} {rest : List Int} (h : CellOk c) : t___codes_Reader__Cell (cb c ++ rest) false = some (c.1, c.2.1, c.2.2.1, c.2.2.2, rest, false, ()) := by
  obtain ⟨t, v, r, o⟩ := c
  unfold t___codes_Reader__Cell cb
  rcases h with ⟨h1, h2, h3, h4, h5⟩ | ⟨h1, h2, h3⟩
  · simp only at h1 h2 h3 h4 h5
    subst h2; subst h3
    have ht2 : ¬ t = 1 := by omega
    simp only [if_neg ht2, List.cons_append, List.nil_append]
    rw [number1 (by omega) (by omega)]
    simp only [Option.bind_some]
    rw [number1 (by decide) (by decide)]
    simp only [Option.bind_some]
    have h2 := number_be (n := 2) (v := v) (rest := rest) (by decide) h4 (by show v < 65536; omega)
    rw [show ((2 : Nat) : Int) = 2 from rfl] at h2
    rw [h2]
    have et : wk .u8 t = t := by rw [wk_u8]; exact Int.emod_eq_of_lt (by omega) (by omega)
    have hb : (t == 1) = false := by simpa using ht2
    simp only [Option.bind_some, et, hb, cond_false, wk_u16 h4 h5]
  · simp only at h1 h2 h3
    subst h1; subst h2
    have hr : -1 ≤ r ∧ r < 4 ∧ 0 ≤ o ∧ o ≤ 65535 := by omega
    simp only [if_true, List.cons_append, List.nil_append]
    rw [number1 (by decide) (by decide)]
    simp only [Option.bind_some]
    rw [number1 (by omega) (by omega)]
    simp only [Option.bind_some]
    have h2 := number_be (n := 2) (v := o) (rest := rest) (by decide) hr.2.2.1 (by show o < 65536; omega)
    rw [show ((2 : Nat) : Int) = 2 from rfl] at h2
    rw [h2]
    have et : wk .u8 1 = 1 := by rw [wk_u8]; rfl
    simp only [Option.bind_some, et, beq_self_eq_true, cond_true]
    rw [w64_id (by omega) (by omega), show r + 1 - 1 = r by omega]
end Go.Proofs.Ytkmbahlpmoljpaa
/- Plain laws: rows of cells read; no condition. -/
set_option linter.unusedVariables false
set_option linter.unusedSimpArgs false
namespace Go.Proofs.Ytkmbahlpmoljpaa
open Go.RowKit

theorem readlist_ok {xs : List (Int × Int × Int × Int)} {rest : List Int} (h : ∀ c ∈ xs, CellOk c) (hl : xs.length ≤ 255) : t___codes_Reader__List (lb xs ++ rest) false = some (xs, rest, false, ()) := by
  unfold t___codes_Reader__List lb
  rw [List.cons_append, number1 (by omega) (by omega)]
  simp only [Option.bind_some]
  obtain ⟨t, e, x4, x5, rfl⟩ := loopN_of (f := t___codes_Reader__List_L0)
    (fun s => ∃ i : Nat, i ≤ xs.length ∧ s = ((xs.length : Int) - i, (xs.drop i).flatMap cb ++ rest, false, xs.take i, ()))
    (fun t => ∃ x4 x5, t = (x4, x5, rest, false, xs, ()))
    (fun s => s.1.toNat) (by
      rintro _ ⟨i, hi, rfl⟩
      unfold t___codes_Reader__List_L0
      by_cases hlt : i < xs.length
      · left
        have h0 : (xs.length : Int) - i > 0 := by omega
        rw [List.drop_eq_getElem_cons hlt, List.flatMap_cons, List.append_assoc]
        simp only [h0, decide_true, cond_true, Bool.not_false]
        rw [readcell_ok (h _ (List.getElem_mem hlt))]
        simp only [Option.bind_some]
        rw [appOk_small (by decide) (by simp; omega), w64_id (x := (xs.length : Int) - i - 1) (by omega) (by omega)]
        refine ⟨_, rfl, ⟨i + 1, by omega, ?_⟩, by simp only; omega⟩
        rw [List.take_succ_eq_append_getElem hlt, show (xs.length : Int) - ((i + 1 : Nat) : Int) = xs.length - i - 1 by omega]
        rfl
      · right
        have : i = xs.length := by omega
        subst this
        have h0 : ¬ ((xs.length : Int) - xs.length > 0) := by omega
        simp only [h0, decide_false, cond_false, List.drop_length, List.take_length, List.flatMap_nil, List.nil_append]
        exact ⟨_, rfl, _, _, rfl⟩) NN ((xs.length : Int), xs.flatMap cb ++ rest, false, [], ()) ⟨0, by omega, by simp⟩ (by show ((xs.length : Int)).toNat < NN; unfold NN; omega)
  simp only [e, Option.bind_some]
end Go.Proofs.Ytkmbahlpmoljpaa
/- Plain laws: a request is read from its bytes; no condition. -/
set_option linter.unusedVariables false
set_option linter.unusedSimpArgs false
namespace Go.Proofs.Ytkmbahlpmoljpaa
open Go.RowKit

theorem bytesEq_self (b : List Int) : t_bytes_Equal b b = some (true, ()) := by
  unfold t_bytes_Equal eqT?
  simp
section
variable {a0 a1 a2 a3 a4 a5 : Int} {a6 a7 : List (Int × Int × Int × Int)}
theorem read_ok (h : ReqOk a0 a1 a2 a3 a4 a5 a6 a7) : t_canonical_Read (rb a0 a1 a2 a3 a4 a5 a6 a7) = some (a0, a1, a2, a3, a4, a5, a6, a7, 0, ()) := by
  have hbytes := bytes_ok h
  obtain ⟨⟨t0, t1⟩, ⟨s0, s1⟩, ⟨r0, r1⟩, ⟨c0, c1⟩, ⟨p0, p1⟩, ⟨q0, q1⟩, ⟨g1, g2⟩, g3, g4⟩ := h
  have h6 := number_be (n := 6) (v := a3) (rest := a4 :: a5 :: (lb a6 ++ lb a7)) (by decide) c0 (by show a3 < 281474976710656; omega)
  rw [show ((6 : Nat) : Int) = 6 from rfl] at h6
  have h7 := readlist_ok (rest := []) g3 (by omega)
  rw [List.append_nil] at h7
  unfold t_canonical_Read
  have e0 : t___codes_Reader__Number 1 (rb a0 a1 a2 a3 a4 a5 a6 a7) false = some (a0, a1 :: a2 :: (be 6 a3 ++ a4 :: a5 :: (lb a6 ++ lb a7)), false, ()) := number1 t0 (by omega)
  simp only [e0, Option.bind_some, number1 s0 (show a1 ≤ 255 by omega), number1 r0 (show a2 ≤ 255 by omega), h6, number1 p0 p1, number1 q0 (show a5 ≤ 255 by omega), readlist_ok g1 (show a6.length ≤ 255 by omega), h7, cond_false, hbytes, natI?_eq, List.length_nil, bytesEq_self]
  rfl
end
end Go.Proofs.Ytkmbahlpmoljpaa
/- Plain laws: rows of cells and requests are compared; no condition. -/
set_option linter.unusedVariables false
set_option linter.unusedSimpArgs false
namespace Go.Proofs.Ytkmbahlpmoljpaa
open Go.RowKit

theorem awake_ok : t_law13_awake = some (true, ()) := by kernel_rfl
theorem sameCanon_ok {a b : List (Int × Int × Int × Int)} (ha : a.length ≤ 1000) : ∃ r, t_ref03_SameCanon a b = some (r, ()) ∧ (r = true ↔ a = b) := by
  unfold t_ref03_SameCanon
  simp only [natI?_eq]
  by_cases hl : a.length = b.length
  · have hb : ((a.length : Int) != (b.length : Int)) = false := by simp [hl]
    simp only [hb, cond_false]
    obtain ⟨t, e, ht⟩ := loopN_of (f := t_ref03_SameCanon_L0)
      (fun s => ∃ i : Nat, i ≤ a.length ∧ s = (a, b, (a.length : Int), (i : Int), ()) ∧ a.take i = b.take i)
      (fun t => (t = .inl (false, ()) ∧ a ≠ b) ∨ ((∃ x3 x4 x5 x6 x7, t = .inr (x3, x4, x5, x6, x7, ())) ∧ a = b))
      (fun s => (s.2.2.1 - s.2.2.2.1).toNat) (by
        rintro _ ⟨i, hi, rfl, htk⟩
        unfold t_ref03_SameCanon_L0
        by_cases hlt : (i : Int) < a.length
        · have hi2 : i < a.length := by omega
          have hi3 : i < b.length := by omega
          simp only [hlt, decide_true, cond_true, nat?_of, Option.bind_some, get?, List.getElem?_eq_getElem hi2, List.getElem?_eq_getElem hi3]
          by_cases he : a[i] = b[i]
          · left
            simp only [he, beq_self_eq_true, Bool.and_self, Bool.not_true, cond_false]
            rw [w64_id (x := (i : Int) + 1) (by omega) (by omega)]
            refine ⟨_, rfl, ⟨i + 1, by omega, rfl, ?_⟩, by simp only; omega⟩
            rw [List.take_succ_eq_append_getElem hi2, List.take_succ_eq_append_getElem hi3, htk, he]
          · right
            have hf : ((a[i].1 == b[i].1) && ((a[i].2.1 == b[i].2.1) && ((a[i].2.2.1 == b[i].2.2.1) && ((a[i].2.2.2 == b[i].2.2.2) && true)))) = false := by
              cases hq : ((a[i].1 == b[i].1) && ((a[i].2.1 == b[i].2.1) && ((a[i].2.2.1 == b[i].2.2.1) && ((a[i].2.2.2 == b[i].2.2.2) && true)))) with
              | false => rfl
              | true =>
                simp only [Bool.and_eq_true, beq_iff_eq, and_true] at hq
                exact absurd (Prod.ext hq.1 (Prod.ext hq.2.1 (Prod.ext hq.2.2.1 hq.2.2.2))) he
            simp only [hf, Bool.not_false, cond_true]
            exact ⟨_, rfl, .inl ⟨rfl, fun h => he (by subst h; rfl)⟩⟩
        · right
          simp only [hlt, decide_false, cond_false]
          have : i = a.length := by omega
          subst this
          refine ⟨_, rfl, .inr ⟨⟨_, _, _, _, _, rfl⟩, ?_⟩⟩
          rw [List.take_length] at htk
          rw [htk, hl, List.take_length]) NN (a, b, (a.length : Int), 0, ()) ⟨0, by omega, rfl, by simp⟩ (by show ((a.length : Int) - 0).toNat < NN; unfold NN; omega)
    rcases ht with ⟨rfl, hne⟩ | ⟨⟨x3, x4, x5, x6, x7, rfl⟩, heq⟩
    · exact ⟨false, by simp only [e], by simp [hne]⟩
    · exact ⟨true, by simp only [e], by simp [heq]⟩
  · have hb : ((a.length : Int) != (b.length : Int)) = true := by simp; omega
    simp only [hb, cond_true]
    exact ⟨false, rfl, by simp; intro h; exact hl (by rw [h])⟩
end Go.Proofs.Ytkmbahlpmoljpaa
/- Plain laws: requests are compared; bytes as strings; no condition. -/
set_option linter.unusedVariables false
set_option linter.unusedSimpArgs false
namespace Go.Proofs.Ytkmbahlpmoljpaa
open Go.RowKit

theorem same_ok {a0 a1 a2 a3 a4 a5 : Int} {a6 a7 : List (Int × Int × Int × Int)} {b0 b1 b2 b3 b4 b5 : Int} {b6 b7 : List (Int × Int × Int × Int)} (h6 : a6.length ≤ 1000) (h7 : a7.length ≤ 1000) :
    ∃ r, t_ref12_Same a0 a1 a2 a3 a4 a5 a6 a7 b0 b1 b2 b3 b4 b5 b6 b7 = some (r, ()) ∧ (r = true ↔ a0 = b0 ∧ a1 = b1 ∧ a2 = b2 ∧ a3 = b3 ∧ a4 = b4 ∧ a5 = b5 ∧ a6 = b6 ∧ a7 = b7) := by
  obtain ⟨r, e1, g1⟩ := sameCanon_ok (b := b6) h6
  obtain ⟨s, e2, g2⟩ := sameCanon_ok (b := b7) h7
  unfold t_ref12_Same
  by_cases k0 : a0 = b0
  · by_cases k1 : a1 = b1
    · by_cases k2 : a2 = b2
      · by_cases k3 : a3 = b3
        · by_cases k4 : a4 = b4
          · by_cases k5 : a5 = b5
            · subst k0 k1 k2 k3 k4 k5
              cases r with
              | true =>
                refine ⟨s, by simp [e1, e2], ?_⟩
                rw [g2]
                have := g1.1 rfl
                simp [this]
              | false =>
                refine ⟨false, by simp [e1], ?_⟩
                have : a6 ≠ b6 := fun h => by simpa using g1.2 h
                simp [this]
            · exact ⟨false, by have kb := beq_eq_false_iff_ne.2 k5; simp [k0, k1, k2, k3, k4, kb], by simp [k5]⟩
          · exact ⟨false, by have kb := beq_eq_false_iff_ne.2 k4; simp [k0, k1, k2, k3, kb], by simp [k4]⟩
        · exact ⟨false, by have kb := beq_eq_false_iff_ne.2 k3; simp [k0, k1, k2, kb], by simp [k3]⟩
      · exact ⟨false, by have kb := beq_eq_false_iff_ne.2 k2; simp [k0, k1, kb], by simp [k2]⟩
    · exact ⟨false, by have kb := beq_eq_false_iff_ne.2 k1; simp [k0, kb], by simp [k1]⟩
  · exact ⟨false, by have kb := beq_eq_false_iff_ne.2 k0; simp [kb], by simp [k0]⟩
end Go.Proofs.Ytkmbahlpmoljpaa
/- Plain laws: requests come back from their bytes; no condition. -/
set_option linter.unusedVariables false
set_option linter.unusedSimpArgs false
namespace Go.Proofs.Ytkmbahlpmoljpaa
open Go.RowKit

theorem bstr?_data (l : List Int) : (bstr? l).data.toList = l.map fun n => UInt8.ofNat n.toNat := by
  have key : ∀ (l : List Int) (r : ByteArray), (l.foldl (fun r n => r.push (UInt8.ofNat n.toNat)) r).data.toList = r.data.toList ++ l.map fun n => UInt8.ofNat n.toNat := by
    intro l
    induction l with
    | nil => intro r; simp
    | cons x l ih => intro r; rw [List.foldl_cons, ih]; simp [ByteArray.push]
  unfold bstr?
  rw [key]; rfl
theorem eqT?_iff {a b : List Int} (ha : Byt a) (hb : Byt b) : eqT? (bstr? a) (bstr? b) = true ↔ a = b := by
  unfold eqT?
  rw [ByteArray.toList_eq, ByteArray.toList_eq, bstr?_data, bstr?_data, beq_iff_eq]
  refine ⟨fun h => ?_, fun h => by rw [h]⟩
  induction a generalizing b with
  | nil => cases b with
    | nil => rfl
    | cons y b => simp at h
  | cons x a ih =>
    cases b with
    | nil => simp at h
    | cons y b =>
      simp only [List.map_cons, List.cons.injEq] at h
      have e := ih (fun z hz => ha z (List.mem_cons_of_mem _ hz)) (fun z hz => hb z (List.mem_cons_of_mem _ hz)) h.2
      have p := ha x List.mem_cons_self
      have q := hb y List.mem_cons_self
      have e0 : x.toNat = y.toNat := by
        have := congrArg UInt8.toNat h.1
        simpa [UInt8.toNat_ofNat', Nat.mod_eq_of_lt (show x.toNat < 256 by omega), Nat.mod_eq_of_lt (show y.toNat < 256 by omega)] using this
      rw [e, show x = y by omega]
end Go.Proofs.Ytkmbahlpmoljpaa
/- Plain laws: CanonicalBack returns true; no condition. -/
set_option linter.unusedVariables false
set_option linter.unusedSimpArgs false
namespace Go.Proofs.Ytkmbahlpmoljpaa
open Go.RowKit

theorem byt_append {a b : List Int} (ha : Byt a) (hb : Byt b) : Byt (a ++ b) := fun x hx => (List.mem_append.1 hx).elim (ha x) (hb x)
theorem byt_cons {x : Int} {l : List Int} (h : 0 ≤ x ∧ x ≤ 255) (hl : Byt l) : Byt (x :: l) := fun y hy => (List.mem_cons.1 hy).elim (fun e => e ▸ h) (hl y)
theorem byt_cb {c : Int × Int × Int × Int} (h : CellOk c) : Byt (cb c) := by
  obtain ⟨t, v, r, o⟩ := c
  unfold cb
  rcases h with ⟨h1, h2, h3, h4, h5⟩ | ⟨h1, h2, h3⟩
  · simp only at h1 h2 h3 h4 h5
    rw [if_neg (by show ¬ t = 1; omega)]
    exact byt_cons (by show 0 ≤ t ∧ t ≤ 255; omega) (byt_cons (by decide) (byt_be _ _))
  · simp only at h1 h2 h3
    rw [if_pos h1]
    exact byt_cons (by decide) (byt_cons (by show 0 ≤ r + 1 ∧ r + 1 ≤ 255; omega) (byt_be _ _))
theorem byt_lb {xs : List (Int × Int × Int × Int)} (h : ∀ c ∈ xs, CellOk c) (hl : xs.length ≤ 255) : Byt (lb xs) := by
  refine byt_cons (by omega) fun x hx => ?_
  obtain ⟨c, hc, hx⟩ := List.mem_flatMap.1 hx
  exact byt_cb (h c hc) x hx
theorem byt_rb {a0 a1 a2 a3 a4 a5 : Int} {a6 a7 : List (Int × Int × Int × Int)} (h : ReqOk a0 a1 a2 a3 a4 a5 a6 a7) : Byt (rb a0 a1 a2 a3 a4 a5 a6 a7) := by
  obtain ⟨⟨t0, t1⟩, ⟨s0, s1⟩, ⟨r0, r1⟩, ⟨c0, c1⟩, ⟨p0, p1⟩, ⟨q0, q1⟩, ⟨g1, g2⟩, g3, g4⟩ := h
  exact byt_cons (by omega) (byt_cons (by omega) (byt_cons (by omega) (byt_append (byt_be _ _) (byt_cons (by omega) (byt_cons (by omega) (byt_append (byt_lb g1 (by omega)) (byt_lb g3 (by omega))))))))
theorem back_law {l m : List Int} (hl : ∀ x ∈ l, Is64 x) (hll : l.length ≤ maxLen) (hm : ∀ x ∈ m, Is64 x) (hml : m.length ≤ maxLen) : t_law13_CanonicalBack l m = some (true, ()) := by
  obtain ⟨a0, a1, a2, a3, a4, a5, a6, a7, k1, e1, r1, _⟩ := request_ok (DOk.start hl hll)
  obtain ⟨b0, b1, b2, b3, b4, b5, b6, b7, k2, e2, r2, _⟩ := request_ok (DOk.start hm hml)
  obtain ⟨x, s1, g1⟩ := same_ok (a0 := a0) (a1 := a1) (a2 := a2) (a3 := a3) (a4 := a4) (a5 := a5) (a6 := a6) (a7 := a7) (b0 := a0) (b1 := a1) (b2 := a2) (b3 := a3) (b4 := a4) (b5 := a5) (b6 := a6) (b7 := a7) (by have := r1.args.2; omega) (by have := r1.data.2; omega)
  obtain ⟨y, s2, g2⟩ := same_ok (a0 := a0) (a1 := a1) (a2 := a2) (a3 := a3) (a4 := a4) (a5 := a5) (a6 := a6) (a7 := a7) (b0 := b0) (b1 := b1) (b2 := b2) (b3 := b3) (b4 := b4) (b5 := b5) (b6 := b6) (b7 := b7) (by have := r1.args.2; omega) (by have := r1.data.2; omega)
  have hx : x = true := g1.2 ⟨rfl, rfl, rfl, rfl, rfl, rfl, rfl, rfl⟩
  subst hx
  have hy : eqT? (bstr? (rb a0 a1 a2 a3 a4 a5 a6 a7)) (bstr? (rb b0 b1 b2 b3 b4 b5 b6 b7)) = y := by
    rw [Bool.eq_iff_iff, eqT?_iff (byt_rb r1) (byt_rb r2), g2]
    refine ⟨fun h => ?_, fun ⟨h0, h1, h2, h3, h4, h5, h6, h7⟩ => by rw [h0, h1, h2, h3, h4, h5, h6, h7]⟩
    have q1 := read_ok r1
    rw [h, read_ok r2] at q1
    simp only [Option.some.injEq, Prod.mk.injEq, and_true] at q1
    obtain ⟨h0, h1, h2, h3, h4, h5, h6, h7⟩ := q1
    exact ⟨h0.symm, h1.symm, h2.symm, h3.symm, h4.symm, h5.symm, h6.symm, h7.symm⟩
  unfold t_law13_CanonicalBack
  simp only [e1, e2, bytes_ok r1, bytes_ok r2, read_ok r1, Option.bind_some, s1, s2, awake_ok, hy, beq_self_eq_true, cond_true]
end Go.Proofs.Ytkmbahlpmoljpaa
/- The maker of decks, and numbers that come in; no condition. -/
set_option linter.unusedVariables false
set_option linter.unusedSimpArgs false
namespace Go.Proofs.Ytkmbahlpmoljpaa
open Go.RowKit

theorem no_ng : (Try.prog.funcs.all fun fn => !(fn.name == "runtime.NumGoroutine")) = true := by kernel_rfl
theorem new_enters : Enters Try.prog 6 := by
  obtain ⟨fn, hf, hb⟩ : ∃ fn, Try.prog.funcs[6]? = some fn ∧ fn.body.isSome = true := ⟨_, rfl, rfl⟩
  obtain ⟨c, hc⟩ := Option.isSome_iff_exists.1 hb
  refine enters_of hf ?_ hc
  obtain ⟨hlt, he⟩ := Array.getElem?_eq_some_iff.1 hf
  have := Array.all_eq_true.1 no_ng 6 hlt
  rw [he] at this
  simpa using this
def NewPost (x : Value) (w : World) (e : Ending) (w' : World) : Prop := e = .returned (.pointer (some ⟨w.heap.size, 0, none⟩)) ∧ w' = w.alloc (.cells #[x, .int .i64 0] 46)
theorem new_any (x : Value) (hx : x.oneCell' = true) (w : World) :
    Calls Try.prog 6 #[x] w (NewPost x w) := by
  cases x
  all_goals first
    | (go_enter Try.func6, Try.ntmps6
       go_wp2
       go_ret
       exact ⟨rfl, rfl⟩)
    | simp [Value.oneCell'] at hx
theorem e0_ok : BoxOk Try.prog E0 := by
  intro f n tm h
  simp only [E0] at h
  split at h
  · rename_i e
    subst e
    injection h with h
    injection h with h1 h2
    subst h1 h2
    refine ⟨new_enters, fun x hx => ?_, 46, fun l2 w hl hone => ?_⟩
    · simp only [List.mem_cons, List.not_mem_nil, or_false] at hx
      rcases hx with hx | hx
      · injection hx
      · injection hx with hx; rw [hx]; rfl
    · match l2, hl with
      | [x], _ => exact new_any x (hone x (by simp [bxV])) w
  · simp at h

/-- A slice of integers that came in, as shared data. -/
theorem immR_row {w : World} {a : Option Addr} {len cap : Nat} {zs : List Int}
    (h : (a = none ∧ len = 0 ∧ cap = 0 ∧ zs = []) ∨ ∃ x, a = some x ∧ len ≤ cap ∧ cap ≤ maxLen ∧ zs.length = cap ∧ (∀ i, i < zs.length → w.cell? (x.add i) = some (.int .i64 (zs.getD i 0))) ∧ ∀ n ∈ zs, (Lit.int .i64 n).wf = true) :
    ImmR w (fun _ => True) (.sl ((zs.take len).map fun z => [.v (.int .i64 z)])) (.slice a len cap) ∧ (∀ x ∈ zs.take len, Is64 x) ∧ (zs.take len).length ≤ maxLen := by
  rcases h with ⟨rfl, rfl, rfl, rfl⟩ | ⟨x, rfl, hl, hm, hz, hc, hw⟩
  · exact ⟨.sl (c := []) 1 (fun _ _ => undef) (fun i h => by simp at h) (Nat.le_refl _) (Nat.zero_le _) (fun _ => rfl) (fun i j h => by simp at h) (fun i j h => by simp at h), fun x hx => by simp at hx, by simp⟩
  · have hlen : (zs.take len).length = len := by rw [List.length_take]; omega
    refine ⟨?_, fun n hn => ?_, by omega⟩
    · have key : ImmR w (fun _ => True) (.sl ((zs.take len).map fun z => [.v (.int .i64 z)])) (.slice (some x) ((zs.take len).map fun z => [TV.v (.int .i64 z)]).length cap) := by
        refine .sl 1 (fun i _ => .int .i64 (zs.getD i 0)) (fun i h => by simp) (by rw [List.length_map, hlen]; exact hl) hm (fun h => by simp at h) (fun i j hi hj => ?_) (fun i j hi hj => ?_)
        · rw [List.length_map, hlen] at hi
          obtain ⟨b, off, rfl, hc'⟩ := ints_at hc (by omega)
          refine ⟨b, off, rfl, trivial, ?_⟩
          have := hc' i (by omega)
          rw [show off + (i * 1 + j) = off + i by omega]
          exact this
        · rw [List.length_map, hlen] at hi
          simp only [List.getElem_map, List.length_singleton] at hj
          obtain rfl : j = 0 := by omega
          have : (((zs.take len).map fun z => [TV.v (.int .i64 z)])[i]'(by rw [List.length_map, hlen]; exact hi))[0]'(by simp) = .v (.int .i64 (zs.getD i 0)) := by
            have hi2 : i < zs.length := by omega
            simp [hi2]
          rw [this]
          exact .v rfl
      rw [List.length_map, hlen] at key
      exact key
    · exact bounds_i64 (hw n (List.mem_of_mem_take hn))
end Go.Proofs.Ytkmbahlpmoljpaa
/- CanonicalBack returns true, in the program; no condition. -/
set_option linter.unusedVariables false
set_option linter.unusedSimpArgs false
namespace Go.Proofs.Ytkmbahlpmoljpaa
open Go.RowKit

theorem back_run {l m : List Int} (hl : ∀ x ∈ l, Is64 x) (hll : l.length ≤ maxLen) (hm : ∀ x ∈ m, Is64 x) (hml : m.length ≤ maxLen) :
    runF E0 TT noB (NN + 10) 4 [.sl (l.map fun z => [.v (.int .i64 z)]), .sl (m.map fun z => [.v (.int .i64 z)])] [] = some (⟨[.v (.bool true)], [.one]⟩, []) :=
  k_law13_CanonicalBack 10 (Nat.le_refl _) (l, m, ()) (true, ()) ([.d .bool true], [.one], []) (back_law hl hll hm hml) rfl
theorem back_calls {w : World} {a : Option Addr} {len cap : Nat} {zs : List Int} {a' : Option Addr} {len' cap' : Nat} {zs' : List Int}
    (h : (a = none ∧ len = 0 ∧ cap = 0 ∧ zs = []) ∨ ∃ x, a = some x ∧ len ≤ cap ∧ cap ≤ maxLen ∧ zs.length = cap ∧ (∀ i, i < zs.length → w.cell? (x.add i) = some (.int .i64 (zs.getD i 0))) ∧ ∀ n ∈ zs, (Lit.int .i64 n).wf = true)
    (h' : (a' = none ∧ len' = 0 ∧ cap' = 0 ∧ zs' = []) ∨ ∃ x, a' = some x ∧ len' ≤ cap' ∧ cap' ≤ maxLen ∧ zs'.length = cap' ∧ (∀ i, i < zs'.length → w.cell? (x.add i) = some (.int .i64 (zs'.getD i 0))) ∧ ∀ n ∈ zs', (Lit.int .i64 n).wf = true) :
    Calls Try.prog 4 #[.slice a len cap, .slice a' len' cap'] w fun e w' => e = .returned (.bool true) ∧ Below w.heap.size w w' := by
  obtain ⟨h1, h2, h3⟩ := immR_row h
  obtain ⟨k1, k2, k3⟩ := immR_row h'
  exact (calls_flat (avs := [.slice a len cap, .slice a' len' cap']) (runF_ok tt_ok e0_ok noB_ok (NN + 10)) (back_run h2 h3 k2 k3) rfl rfl fun j hj hj' => by
    match j, hj with
    | 0, _ => exact h1.plain
    | 1, _ => exact k1.plain).2
end Go.Proofs.Ytkmbahlpmoljpaa
/- Plain laws: which cells and requests are valid, told by both texts; no condition. -/
set_option linter.unusedVariables false
set_option linter.unusedSimpArgs false
namespace Go.Proofs.Ytkmbahlpmoljpaa
open Go.RowKit

/-- What both texts call a valid cell. -/
def CellV (c : Int × Int × Int × Int) : Prop :=
  ((c.1 = 0 ∨ c.1 = 2) ∧ c.2.2.1 = 0 ∧ c.2.2.2 = 0) ∨
  (c.1 = 1 ∧ c.2.1 = 0 ∧ ((c.2.2.1 = -1 ∧ 0 ≤ c.2.2.2 ∧ c.2.2.2 ≤ 65535) ∨ (0 ≤ c.2.2.1 ∧ c.2.2.1 < 4 ∧ 0 ≤ c.2.2.2 ∧ c.2.2.2 < 32)))
instance (c : Int × Int × Int × Int) : Decidable (CellV c) := by unfold CellV; exact inferInstance
/-- What a cell's type allows. -/
def CellT (c : Int × Int × Int × Int) : Prop := 0 ≤ c.2.1 ∧ c.2.1 ≤ 65535
theorem CellV.ok {c : Int × Int × Int × Int} (h : CellV c) (t : CellT c) : CellOk c := by
  rcases h with ⟨h1, h2, h3⟩ | h
  · exact .inl ⟨h1, h2, h3, t.1, t.2⟩
  · exact .inr h
theorem CellOk.v {c : Int × Int × Int × Int} (h : CellOk c) : CellV c := by
  rcases h with ⟨h1, h2, h3, _⟩ | h
  · exact .inl ⟨h1, h2, h3⟩
  · exact .inr h
theorem some_dec {P : Prop} [Decidable P] {b : Bool} (h : b = true ↔ P) : some (b, ()) = some (decide P, ()) := by
  rw [show b = decide P by rw [Bool.eq_iff_iff, decide_eq_true_iff]; exact h]
theorem reqcell_v (c : Int × Int × Int × Int) : t_request_Cell c.1 c.2.1 c.2.2.1 c.2.2.2 = some (decide (CellV c), ()) := by
  obtain ⟨t, v, r, o⟩ := c
  unfold t_request_Cell CellV
  simp only
  by_cases h0 : t = 0
  · by_cases hr : r = 0 <;> by_cases ho : o = 0 <;> simp [Bool.cond_eq_ite, h0, hr, ho]
  by_cases h2 : t = 2
  · by_cases hr : r = 0 <;> by_cases ho : o = 0 <;> simp [Bool.cond_eq_ite, h2, hr, ho]
  by_cases h1 : t = 1
  · subst h1
    by_cases hv : v = 0
    · by_cases hr : r = -1
      · subst hr
        by_cases ho : 0 ≤ o <;> by_cases hp : o ≤ 65535 <;> simp [Bool.cond_eq_ite, hv, ho, hp]
      · by_cases r0 : 0 ≤ r <;> by_cases r1 : r < 4 <;> by_cases o0 : 0 ≤ o <;> by_cases o1 : o < 32 <;> simp [Bool.cond_eq_ite, hv, hr, r0, r1, o0, o1]
    · by_cases hr : r = -1
      · subst hr
        by_cases ho : 0 ≤ o <;> simp [Bool.cond_eq_ite, hv, ho]
      · simp [Bool.cond_eq_ite, hv, hr]
  · simp [Bool.cond_eq_ite, h0, h1, h2]
theorem refcell_v (c : Int × Int × Int × Int) : t_ref12_Cell c.1 c.2.1 c.2.2.1 c.2.2.2 = some (decide (CellV c), ()) := by
  obtain ⟨t, v, r, o⟩ := c
  unfold t_ref12_Cell CellV
  simp only
  by_cases h0 : t = 0
  · by_cases hr : r = 0 <;> by_cases ho : o = 0 <;> simp [Bool.cond_eq_ite, h0, hr, ho]
  by_cases h2 : t = 2
  · by_cases hr : r = 0 <;> by_cases ho : o = 0 <;> simp [Bool.cond_eq_ite, h2, hr, ho]
  by_cases h1 : t = 1
  · subst h1
    by_cases hv : v = 0
    · by_cases hr : r = -1
      · subst hr
        by_cases ho : 0 ≤ o <;> by_cases hp : o ≤ 65535 <;> simp [Bool.cond_eq_ite, hv, ho, hp]
      · by_cases r0 : 0 ≤ r <;> by_cases r1 : r < 4 <;> by_cases o0 : 0 ≤ o <;> by_cases o1 : o < 32 <;> simp [Bool.cond_eq_ite, hv, hr, r0, r1, o0, o1]
    · by_cases hr : r = -1
      · subst hr
        by_cases ho : 0 ≤ o <;> simp [Bool.cond_eq_ite, hv, ho]
      · simp [Bool.cond_eq_ite, hv, hr]
  · simp [Bool.cond_eq_ite, h0, h1, h2]
theorem get_of {α : Type} {xs : List α} {i : Nat} (h : i < xs.length) : get? xs i = some xs[i] := List.getElem?_eq_getElem h
theorem all_take {α : Type} {P : α → Prop} {xs : List α} {i : Nat} (h : i < xs.length) (ha : ∀ x ∈ xs.take i, P x) (hx : P xs[i]) : ∀ x ∈ xs.take (i + 1), P x := by
  intro x hm
  rw [List.take_succ_eq_append_getElem h] at hm
  rcases List.mem_append.1 hm with h1 | h1
  · exact ha x h1
  · rw [List.mem_singleton.1 h1]; exact hx
theorem refcells_v {xs : List (Int × Int × Int × Int)} {n : Int} (hl : xs.length ≤ 100000) : t_ref12_Cells xs n = some (decide ((∀ c ∈ xs, CellV c) ∧ (xs.length : Int) ≤ n), ()) := by
  unfold t_ref12_Cells
  obtain ⟨t, e, ht⟩ := loopN_of (f := t_ref12_Cells_L0)
    (fun s => ∃ i : Nat, i ≤ xs.length ∧ s = (xs, n, xs, (xs.length : Int), (i : Int), ()) ∧ ∀ c ∈ xs.take i, CellV c)
    (fun t => (t = .inl (false, ()) ∧ ¬ ∀ c ∈ xs, CellV c) ∨ ((∃ x3 x4 x5 x6, t = .inr (xs, n, x3, x4, x5, x6, ())) ∧ ∀ c ∈ xs, CellV c))
    (fun s => (s.2.2.2.1 - s.2.2.2.2.1).toNat) (by
      rintro _ ⟨i, hi, rfl, hv⟩
      unfold t_ref12_Cells_L0
      by_cases hn : (i : Int) < xs.length
      · have hi2 : i < xs.length := by omega
        simp only [hn, decide_true, cond_true, nat?_of, Option.bind_some, get_of hi2, refcell_v]
        by_cases hc : CellV xs[i]
        · left
          simp only [hc, decide_true, Bool.not_true, cond_false]
          rw [w64_id (x := (i : Int) + 1) (by omega) (by omega)]
          exact ⟨_, rfl, ⟨i + 1, by omega, rfl, all_take hi2 hv hc⟩, by simp only; omega⟩
        · right
          simp only [hc, decide_false, Bool.not_false, cond_true]
          exact ⟨_, rfl, .inl ⟨rfl, fun h => hc (h _ (List.getElem_mem hi2))⟩⟩
      · right
        simp only [hn, decide_false, cond_false]
        have : i = xs.length := by omega
        subst this
        exact ⟨_, rfl, .inr ⟨⟨_, _, _, _, rfl⟩, by rw [List.take_length] at hv; exact hv⟩⟩) NN (xs, n, xs, (xs.length : Int), 0, ()) ⟨0, by omega, rfl, by simp⟩ (by show ((xs.length : Int) - 0).toNat < NN; unfold NN; omega)
  simp only [natI?_eq, e]
  rcases ht with ⟨rfl, h⟩ | ⟨⟨x3, x4, x5, x6, rfl⟩, h⟩
  · simp only
    exact some_dec ⟨fun q => absurd q (by decide), fun q => absurd q.1 h⟩
  · simp only
    exact some_dec ⟨fun q => ⟨h, of_decide_eq_true q⟩, fun q => decide_eq_true q.2⟩
theorem reqcells_v {xs : List (Int × Int × Int × Int)} {n : Int} (hl : xs.length ≤ 100000) : t_request_Cells xs n = some (decide ((∀ c ∈ xs, CellV c) ∧ (xs.length : Int) ≤ n), ()) := by
  have hidx : ∃ v, t_slices_IndexFunc_Canon xs = some (v, ()) ∧ (v < 0 ↔ ∀ c ∈ xs, CellV c) := by
    unfold t_slices_IndexFunc_Canon
    obtain ⟨t, e, ht⟩ := loopN_of (f := t_slices_IndexFunc_Canon_L0)
      (fun s => ∃ i : Nat, i ≤ xs.length ∧ s = (xs, (xs.length : Int), (i : Int), ()) ∧ ∀ c ∈ xs.take i, CellV c)
      (fun t => (∃ v, 0 ≤ v ∧ t = .inl (v, ()) ∧ ¬ ∀ c ∈ xs, CellV c) ∨ ((∃ x1 x2 x3 x4, t = .inr (x1, x2, x3, x4, ())) ∧ ∀ c ∈ xs, CellV c))
      (fun s => (s.2.1 - s.2.2.1).toNat) (by
        rintro _ ⟨i, hi, rfl, hv⟩
        unfold t_slices_IndexFunc_Canon_L0
        by_cases hn2 : (i : Int) < xs.length
        · have hi2 : i < xs.length := by omega
          simp only [hn2, decide_true, cond_true, nat?_of, Option.bind_some, get_of hi2, t_request_Cells_1, reqcell_v]
          by_cases hc : CellV xs[i]
          · left
            simp only [hc, decide_true, Bool.not_true, cond_false]
            rw [w64_id (x := (i : Int) + 1) (by omega) (by omega)]
            exact ⟨_, rfl, ⟨i + 1, by omega, rfl, all_take hi2 hv hc⟩, by simp only; omega⟩
          · right
            simp only [hc, decide_false, Bool.not_false, cond_true]
            exact ⟨_, rfl, .inl ⟨_, by omega, rfl, fun h => hc (h _ (List.getElem_mem hi2))⟩⟩
        · right
          simp only [hn2, decide_false, cond_false]
          have : i = xs.length := by omega
          subst this
          exact ⟨_, rfl, .inr ⟨⟨_, _, _, _, rfl⟩, by rw [List.take_length] at hv; exact hv⟩⟩) NN (xs, (xs.length : Int), 0, ()) ⟨0, by omega, rfl, by simp⟩ (by show ((xs.length : Int) - 0).toNat < NN; unfold NN; omega)
    simp only [natI?_eq, e]
    rcases ht with ⟨v, hv, rfl, h⟩ | ⟨⟨x1, x2, x3, x4, rfl⟩, h⟩
    · exact ⟨v, rfl, by constructor <;> intro h2 <;> first | omega | exact absurd h2 h⟩
    · exact ⟨-1, rfl, by simpa using h⟩
  obtain ⟨v, e, hv⟩ := hidx
  unfold t_request_Cells t_slices_ContainsFunc_Canon
  simp only [natI?_eq]
  by_cases hln : (xs.length : Int) ≤ n
  · simp only [hln, decide_true, cond_true, e, Option.bind_some]
    exact some_dec (by rw [← hv]; simp)
  · simp only [hln, decide_false, cond_false]
    exact some_dec (by simp)
/-- What both texts call a valid request. -/
def ReqV (a0 a1 a2 a3 a4 a5 : Int) (a6 a7 : List (Int × Int × Int × Int)) : Prop :=
  (0 ≤ a0 ∧ a0 ≤ 3) ∧ (0 ≤ a1 ∧ a1 ≤ 3) ∧ (0 ≤ a2 ∧ a2 ≤ 6) ∧ (0 ≤ a3 ∧ a3 ≤ 1099511627776) ∧ (0 ≤ a4 ∧ a4 ≤ 255) ∧ (0 ≤ a5 ∧ a5 ≤ 15) ∧ ((∀ c ∈ a6, CellV c) ∧ (a6.length : Int) ≤ 3) ∧ ((∀ c ∈ a7, CellV c) ∧ (a7.length : Int) ≤ 16)
instance (a0 a1 a2 a3 a4 a5 : Int) (a6 a7 : List (Int × Int × Int × Int)) : Decidable (ReqV a0 a1 a2 a3 a4 a5 a6 a7) := by unfold ReqV; exact inferInstance
section
variable {a0 a1 a2 a3 a4 a5 : Int} {a6 a7 : List (Int × Int × Int × Int)}
theorem ReqV.ok (h : ReqV a0 a1 a2 a3 a4 a5 a6 a7) (t6 : ∀ c ∈ a6, CellT c) (t7 : ∀ c ∈ a7, CellT c) : ReqOk a0 a1 a2 a3 a4 a5 a6 a7 := by
  obtain ⟨h0, h1, h2, h3, h4, h5, ⟨h6, l6⟩, h7, l7⟩ := h
  exact ⟨h0, h1, h2, h3, h4, h5, ⟨fun c hc => (h6 c hc).ok (t6 c hc), by omega⟩, fun c hc => (h7 c hc).ok (t7 c hc), by omega⟩
theorem ReqOk.v (h : ReqOk a0 a1 a2 a3 a4 a5 a6 a7) : ReqV a0 a1 a2 a3 a4 a5 a6 a7 := by
  obtain ⟨h0, h1, h2, h3, h4, h5, ⟨h6, l6⟩, h7, l7⟩ := h
  exact ⟨h0, h1, h2, h3, h4, h5, ⟨fun c hc => (h6 c hc).v, by omega⟩, fun c hc => (h7 c hc).v, by omega⟩
theorem bt_ite {P Q : Prop} [Decidable P] [Decidable Q] {o : Option (Bool × Unit)} (h : P → o = some (decide Q, ())) : (bif decide P then o else some (false, ())) = some (decide (P ∧ Q), ()) := by
  by_cases hp : P
  · simp only [hp, decide_true, cond_true, true_and]; exact h hp
  · simp only [hp, decide_false, cond_false, false_and]
theorem bt_eq {P Q : Prop} [Decidable P] [Decidable Q] {o : Option (Bool × Unit)} (e : P ↔ Q) (h : o = some (decide P, ())) : o = some (decide Q, ()) := by
  rw [h]; exact some_dec (by rw [decide_eq_true_iff]; exact e)
theorem refvalid_v (l6 : a6.length ≤ 100000) (l7 : a7.length ≤ 100000) : t_ref12_Valid a0 a1 a2 a3 a4 a5 a6 a7 = some (decide (ReqV a0 a1 a2 a3 a4 a5 a6 a7), ()) := by
  have key : t_ref12_Valid a0 a1 a2 a3 a4 a5 a6 a7 = some (decide (a0 ≥ 0 ∧ a0 < 4 ∧ a1 ≥ 0 ∧ a1 ≤ 3 ∧ a2 ≥ 0 ∧ a2 ≤ 6 ∧ a3 ≥ 0 ∧ a3 ≤ 1099511627776 ∧ a4 ≥ 0 ∧ a4 ≤ 255 ∧ a5 ≥ 0 ∧ a5 ≤ 15 ∧ ((∀ c ∈ a6, CellV c) ∧ (a6.length : Int) ≤ 3) ∧ ((∀ c ∈ a7, CellV c) ∧ (a7.length : Int) ≤ 16)), ()) := by
    unfold t_ref12_Valid
    iterate 12 refine bt_ite fun _ => ?_
    rw [refcells_v l6]
    simp only [Option.bind_some]
    refine bt_ite fun _ => ?_
    rw [refcells_v l7]
    rfl
  refine bt_eq ?_ key
  unfold ReqV
  constructor
  · rintro ⟨_, _, _, _, _, _, _, _, _, _, _, _, h6, h7⟩
    exact ⟨by omega, by omega, by omega, by omega, by omega, by omega, h6, h7⟩
  · rintro ⟨_, _, _, _, _, _, h6, h7⟩
    exact ⟨by omega, by omega, by omega, by omega, by omega, by omega, by omega, by omega, by omega, by omega, by omega, by omega, h6, h7⟩
theorem reqvalid1_v (x lo hi : Int) : t_request_Valid_1 x lo hi = some (decide (lo ≤ x ∧ x ≤ hi), ()) := by
  unfold t_request_Valid_1
  exact bt_ite fun _ => rfl
theorem reqvalid_v (l6 : a6.length ≤ 100000) (l7 : a7.length ≤ 100000) : t_request_Valid a0 a1 a2 a3 a4 a5 a6 a7 = some (decide (ReqV a0 a1 a2 a3 a4 a5 a6 a7), ()) := by
  unfold t_request_Valid ReqV
  iterate 6
    rw [reqvalid1_v]
    simp only [Option.bind_some]
    refine bt_ite fun _ => ?_
  rw [reqcells_v l6]
  simp only [Option.bind_some]
  refine bt_ite fun _ => ?_
  rw [reqcells_v l7]
  rfl
end
end Go.Proofs.Ytkmbahlpmoljpaa
/- Plain laws: a request's bytes by the reference; no condition. -/
set_option linter.unusedVariables false
set_option linter.unusedSimpArgs false
namespace Go.Proofs.Ytkmbahlpmoljpaa
open Go.RowKit

theorem refnum_loop (v : Int) : ∀ (n : Nat), n ≤ 7 → ∀ (m : Nat) (b : List Int), n < m → b.length + n ≤ 100000 → loopN t_ref13_number_L0 m (v, (n : Int), b, ()) = some (v, 0, false, b ++ be n v, ()) := by
  intro n
  induction n with
  | zero =>
    intro _ m b hm _
    obtain ⟨m, rfl⟩ : ∃ m', m = m' + 1 := ⟨m - 1, by omega⟩
    simp [loopN, t_ref13_number_L0, be]
  | succ n ih =>
    intro hn m b hm hb
    obtain ⟨m, rfl⟩ : ∃ m', m = m' + 1 := ⟨m - 1, by omega⟩
    have e1 : w64 (((n + 1 : Nat) : Int) - 1) = n := by rw [w64_id (by omega) (by omega)]; omega
    have e2 : w64 (8 * (n : Int)) = ((8 * n : Nat) : Int) := by rw [w64_id (by omega) (by omega)]; omega
    have e3 : wk .u64 ((8 * n : Nat) : Int) = ((8 * n : Nat) : Int) := by
      unfold wk
      rw [wrap_u64]; omega
    have hstep : t_ref13_number_L0 (v, ((n + 1 : Nat) : Int), b, ()) = some (.inl (v, (n : Int), b ++ [(v / 256 ^ n) % 256], ())) := by
      unfold t_ref13_number_L0
      have h0 : decide (((n + 1 : Nat) : Int) > 0) = true := decide_eq_true (by omega)
      simp only [h0, cond_true, e1, e2, e3, nat?_of, Option.bind_some, shr_be v (by omega : n ≤ 7), wk_u8]
      rw [appOk_small (by decide) (by simp; omega)]
      rfl
    simp only [loopN, hstep, Option.bind_some]
    rw [ih (by omega) m _ (by omega) (by simp; omega)]
    simp [be]
theorem refnum_ok {n : Nat} {v : Int} (hn : n ≤ 7) : t_ref13_number v n = some (be n v, ()) := by
  unfold t_ref13_number
  simp only [refnum_loop v n hn NN [] (by unfold NN; omega) (by simp; omega), Option.bind_some, List.nil_append]
theorem refnum2 (v : Int) : t_ref13_number v 2 = some (be 2 v, ()) := refnum_ok (n := 2) (by decide)
theorem refnum6 (v : Int) : t_ref13_number v 6 = some (be 6 v, ()) := refnum_ok (n := 6) (by decide)
theorem u8_id {x : Int} (h0 : 0 ≤ x) (h1 : x ≤ 255) : wk .u8 x = x := by rw [wk_u8]; exact Int.emod_eq_of_lt h0 (by omega)
theorem lapp {α : Type} (a b : List α) : List.append a b = a ++ b := rfl
theorem refcode_ok {xs : List (Int × Int × Int × Int)} (h : ∀ c ∈ xs, CellOk c) (hl : xs.length ≤ 255) : t_ref13_Code xs = some (lb xs, ()) := by
  unfold t_ref13_Code
  simp only [natI?_eq, u8_id (x := (xs.length : Int)) (by omega) (by omega)]
  obtain ⟨t, e, x3, x4, x5, x6, rfl⟩ := loopN_of (f := t_ref13_Code_L1)
    (fun s => ∃ i : Nat, i ≤ xs.length ∧ s = (xs, (xs.length : Int), (i : Int), (xs.length : Int) :: (xs.take i).flatMap cb, ()))
    (fun t => ∃ x3 x4 x5 x6, t = (x3, x4, x5, x6, lb xs, ()))
    (fun s => (s.2.1 - s.2.2.1).toNat) (by
      rintro _ ⟨i, hi, rfl⟩
      unfold t_ref13_Code_L1
      by_cases hn : (i : Int) < xs.length
      · left
        have hi2 : i < xs.length := by omega
        have hfl : ((xs.take i).flatMap cb).length ≤ 4 * i := by
          rw [flat_cb_len, List.length_take]; omega
        have htk : (xs.take (i + 1)).flatMap cb = (xs.take i).flatMap cb ++ cb xs[i] := by
          rw [List.take_succ_eq_append_getElem hi2, List.flatMap_append]
          simp
        have hc := h _ (List.getElem_mem hi2)
        refine ⟨(xs, (xs.length : Int), ((i + 1 : Nat) : Int), (xs.length : Int) :: (xs.take (i + 1)).flatMap cb, ()), ?_, ⟨i + 1, by omega, rfl⟩, by simp only; omega⟩
        simp only [hn, decide_true, cond_true, nat?_of, Option.bind_some, get_of hi2, refnum2]
        rw [htk]
        clear htk
        generalize xs[i] = c at hc
        generalize (xs.take i).flatMap cb = fl at hfl
        obtain ⟨t, v, r, o⟩ := c
        have a1 : ∀ (b : List Int), b.length ≤ 3 → appOk? 1 (List.length ((xs.length : Int) :: fl)) b.length = true := fun b hb => appOk_small (by decide) (by simp only [List.length_cons]; omega)
        have a2 : ∀ (b : List Int), b.length ≤ 3 → ∀ u, appOk? 1 (List.length (((xs.length : Int) :: fl) ++ b)) (be 2 u).length = true := fun b hb u => appOk_small (by decide) (by simp only [List.length_append, List.length_cons, be_len]; omega)
        have ei : w64 ((i : Int) + 1) = ((i + 1 : Nat) : Int) := by rw [w64_id (by omega) (by omega)]; omega
        unfold cb
        rcases hc with ⟨h1, h2, h3, h4, h5⟩ | ⟨h1, h2, h3⟩
        · simp only at h1 h2 h3 h4 h5
          have ht : (t == 1) = false := by simp; omega
          have ht2 : ¬ t = 1 := by omega
          have e : wk .i64 v = v := wrap_i64 (by omega) (by omega)
          simp only [ht, cond_false, a1 [t, 0] (by simp), cond_true, lapp, a2 [t, 0] (by simp), Option.bind_some, if_neg ht2, e, ei]
          simp
        · simp only at h1 h2 h3
          subst h1
          have hr : -1 ≤ r ∧ r < 4 := by omega
          simp only [beq_self_eq_true, cond_true, w64_id (x := r + 1) (by omega) (by omega), u8_id (x := r + 1) (by omega) (by omega), a1 [1, r + 1] (by simp), lapp, a2 [1, r + 1] (by simp), Option.bind_some, if_true, ei]
          simp
      · right
        simp only [hn, decide_false, cond_false]
        have : i = xs.length := by omega
        subst this
        exact ⟨_, rfl, _, _, _, _, by rw [List.take_length]; rfl⟩) NN (xs, (xs.length : Int), 0, [(xs.length : Int)], ()) ⟨0, by omega, by simp⟩ (by show ((xs.length : Int) - 0).toNat < NN; unfold NN; omega)
  rw [e]
  rfl
section
variable {a0 a1 a2 a3 a4 a5 : Int} {a6 a7 : List (Int × Int × Int × Int)}
theorem refbytes_ok (h : ReqOk a0 a1 a2 a3 a4 a5 a6 a7) : t_ref13_Bytes a0 a1 a2 a3 a4 a5 a6 a7 = some (rb a0 a1 a2 a3 a4 a5 a6 a7, 0, ()) := by
  have hv := h.v
  have l6 := h.args.2
  have l7 := h.data.2
  unfold t_ref13_Bytes
  rw [refvalid_v (by omega) (by omega)]
  have f2 : ∀ {b c : List Int}, b.length ≤ 1000 → c.length ≤ 1000 → appOk? 1 b.length c.length = true := fun hb hc => appOk_small (by decide) (by omega)
  simp only [hv, decide_true, Option.bind_some, Bool.not_true, cond_false, u8_id h.thread.1 (by have := h.thread; omega), u8_id h.stop.1 (by have := h.stop; omega), u8_id h.trap.1 (by have := h.trap; omega), u8_id h.pc.1 h.pc.2, u8_id h.call.1 (by have := h.call; omega), refnum6, refcode_ok h.args.1 (by omega), refcode_ok h.data.1 (by omega), lapp]
  rw [f2 (by simp) (by simp [be_len])]
  simp only [cond_true]
  rw [f2 (by simp [be_len]) (by simp)]
  simp only [cond_true]
  rw [f2 (by simp [be_len]) (by rw [lb_len]; omega)]
  simp only [cond_true]
  rw [f2 (by simp [be_len, lb_len]; omega) (by rw [lb_len]; omega)]
  simp only [cond_true]
  unfold rb
  simp
/-- Both texts write the same. -/
theorem bytes_same (l6 : a6.length ≤ 1000) (l7 : a7.length ≤ 1000) (t6 : ∀ c ∈ a6, CellT c) (t7 : ∀ c ∈ a7, CellT c) :
    (ReqOk a0 a1 a2 a3 a4 a5 a6 a7 ∧ t_canonical_Bytes a0 a1 a2 a3 a4 a5 a6 a7 = some (rb a0 a1 a2 a3 a4 a5 a6 a7, 0, ()) ∧ t_ref13_Bytes a0 a1 a2 a3 a4 a5 a6 a7 = some (rb a0 a1 a2 a3 a4 a5 a6 a7, 0, ())) ∨
    (¬ ReqV a0 a1 a2 a3 a4 a5 a6 a7 ∧ t_canonical_Bytes a0 a1 a2 a3 a4 a5 a6 a7 = some ([], 1, ()) ∧ t_ref13_Bytes a0 a1 a2 a3 a4 a5 a6 a7 = some ([], 1, ())) := by
  by_cases hv : ReqV a0 a1 a2 a3 a4 a5 a6 a7
  · have h := hv.ok t6 t7
    exact .inl ⟨h, bytes_ok h, refbytes_ok h⟩
  · refine .inr ⟨hv, ?_, ?_⟩
    · unfold t_canonical_Bytes
      rw [reqvalid_v (by omega) (by omega)]
      simp [hv]
    · unfold t_ref13_Bytes
      rw [refvalid_v (by omega) (by omega)]
      simp [hv]
end
end Go.Proofs.Ytkmbahlpmoljpaa
/- Plain laws: both readers side by side, any bytes; no condition. -/
set_option linter.unusedVariables false
set_option linter.unusedSimpArgs false
namespace Go.Proofs.Ytkmbahlpmoljpaa
open Go.RowKit

theorem loopN_step {S T : Type} {f : S → Option (S ⊕ T)} {s s' : S} (h : f s = some (.inl s')) (n : Nat) : loopN f (n + 1) s = loopN f n s' := by
  rw [loopN, h]; rfl
theorem loopN_done {S T : Type} {f : S → Option (S ⊕ T)} {s : S} {t : T} (h : f s = some (.inr t)) (n : Nat) : loopN f (n + 1) s = some t := by
  rw [loopN, h]; rfl
theorem Byt.left {a b : List Int} (h : Byt (a ++ b)) : Byt a := fun x hx => h x (List.mem_append_left _ hx)
theorem Byt.right {a b : List Int} (h : Byt (a ++ b)) : Byt b := fun x hx => h x (List.mem_append_right _ hx)
theorem num_short (n : Int) (b : List Int) : t___codes_Reader__Number n b true = some (0, b, true, ()) := by
  unfold t___codes_Reader__Number t___codes_Reader__Part
  rfl
theorem num_fail {n : Nat} {b : List Int} (h : b.length < n) : t___codes_Reader__Number n b false = some (0, b, true, ()) := by
  unfold t___codes_Reader__Number t___codes_Reader__Part
  have h1 : (n : Int) > (b.length : Int) := by omega
  simp only [cond_false, natI?_eq, h1, decide_true, cond_true, Option.bind_some]
  rfl
theorem refnum_fail {n : Nat} {b : List Int} (s : Bool) (h : b.length < n) : t___ref13_Reader__Number n b s = some (0, [], true, ()) := by
  unfold t___ref13_Reader__Number
  have h1 : (b.length : Int) < (n : Int) := by omega
  simp only [natI?_eq, h1, decide_true, cond_true]
theorem refnumber_ok {ys rest : List Int} {n : Nat} (hb : Byt ys) (hn : ys.length = n) (h6 : n ≤ 6) : t___ref13_Reader__Number n (ys ++ rest) false = some (val 0 ys, rest, false, ()) := by
  unfold t___ref13_Reader__Number
  have h1 : ¬ (((ys ++ rest).length : Int) < (n : Int)) := by rw [List.length_append]; omega
  have h2 : slOk? 0 n (ys ++ rest).length = true := by simp [slOk?]; omega
  have h3 : slOk? n (ys ++ rest).length (ys ++ rest).length = true := by simp [slOk?]; omega
  have h4 : win? (ys ++ rest) 0 (Nat.sub n 0) = ys := by
    show ((ys ++ rest).drop 0).take (n - 0) = ys
    rw [List.drop_zero, Nat.sub_zero, ← hn, List.take_left]
  have h5 : win? (ys ++ rest) n (Nat.sub (ys ++ rest).length n) = rest := by
    show ((ys ++ rest).drop n).take ((ys ++ rest).length - n) = rest
    rw [← hn, List.drop_left, List.length_append, Nat.add_sub_cancel_left, List.take_length]
  simp only [natI?_eq, h1, decide_false, cond_false, nat?_of, Option.bind_some, h2, cond_true, h4]
  obtain ⟨t, e, x6, x7, x8, x9, rfl⟩ := loopN_of (f := t___ref13_Reader__Number_L0)
    (fun s => ∃ i : Nat, i ≤ ys.length ∧ s = ((n : Int), val 0 (ys.take i), ys, (ys.length : Int), (i : Int), ys ++ rest, false, ()))
    (fun t => ∃ x6 x7 x8 x9, t = ((n : Int), val 0 ys, x6, x7, x8, x9, ys ++ rest, false, ()))
    (fun s => (s.2.2.2.1 - s.2.2.2.2.1).toNat) (by
      rintro _ ⟨i, hi, rfl⟩
      unfold t___ref13_Reader__Number_L0
      by_cases hlt : (i : Int) < ys.length
      · left
        have hi2 : i < ys.length := by omega
        have hx := hb _ (List.getElem_mem hi2)
        have hv := val_lt (ys.take i) 0 (fun x hx => hb x (List.mem_of_mem_take hx)) (by omega)
        rw [List.length_take, Nat.min_eq_left hi] at hv
        have hp : (256 : Int) ^ i ≤ 256 ^ 5 := by
          have := Nat.pow_le_pow_right (n := 256) (by decide) (show i ≤ 5 by omega)
          have h2 : ((256 ^ i : Nat) : Int) ≤ ((256 ^ 5 : Nat) : Int) := by exact_mod_cast this
          simpa using h2
        have hp5 : (256 : Int) ^ 5 = 1099511627776 := by decide
        simp only [hlt, decide_true, cond_true, nat?_of, Option.bind_some, get?, List.getElem?_eq_getElem hi2]
        rw [or_bytes hv.1 (by omega) hx.1 hx.2, w64_id (x := (i : Int) + 1) (by omega) (by omega)]
        refine ⟨_, rfl, ⟨i + 1, by omega, ?_⟩, by simp only; omega⟩
        rw [List.take_succ_eq_append_getElem hi2, val_append]
        rfl
      · right
        simp only [hlt, decide_false, cond_false]
        have : i = ys.length := by omega
        subst this
        exact ⟨_, rfl, _, _, _, _, by rw [List.take_length]⟩) NN ((n : Int), 0, ys, (ys.length : Int), 0, ys ++ rest, false, ()) ⟨0, by omega, by simp [val]⟩ (by show ((ys.length : Int) - 0).toNat < NN; unfold NN; omega)
  simp only [e, Option.bind_some, nat?_of, h3, cond_true, h5]
theorem num_both {n : Nat} {b : List Int} (hb : Byt b) (h6 : n ≤ 6) :
    (∃ ys rest, b = ys ++ rest ∧ ys.length = n ∧ Byt ys ∧ Byt rest ∧ t___codes_Reader__Number n b false = some (val 0 ys, rest, false, ()) ∧ t___ref13_Reader__Number n b false = some (val 0 ys, rest, false, ())) ∨
    (t___codes_Reader__Number n b false = some (0, b, true, ()) ∧ t___ref13_Reader__Number n b false = some (0, [], true, ())) := by
  by_cases h : b.length < n
  · exact .inr ⟨num_fail h, refnum_fail _ h⟩
  · have e : b = b.take n ++ b.drop n := (List.take_append_drop n b).symm
    have hl : (b.take n).length = n := by rw [List.length_take]; omega
    have h1 : Byt (b.take n) := fun x hx => hb x (List.mem_of_mem_take hx)
    have h2 : Byt (b.drop n) := fun x hx => hb x (List.mem_of_mem_drop hx)
    refine .inl ⟨_, _, e, hl, h1, h2, ?_, ?_⟩
    · have := number_ok (rest := b.drop n) h1 hl h6
      rw [← e] at this; exact this
    · have := refnumber_ok (rest := b.drop n) h1 hl h6
      rw [← e] at this; exact this
theorem num1_both {b : List Int} (hb : Byt b) :
    (∃ x rest, b = x :: rest ∧ (0 ≤ x ∧ x ≤ 255) ∧ Byt rest ∧ t___codes_Reader__Number 1 b false = some (x, rest, false, ()) ∧ t___ref13_Reader__Number 1 b false = some (x, rest, false, ())) ∨
    (t___codes_Reader__Number 1 b false = some (0, b, true, ()) ∧ t___ref13_Reader__Number 1 b false = some (0, [], true, ())) := by
  rcases num_both (n := 1) hb (by decide) with ⟨ys, rest, e, hl, h1, h2, e1, e2⟩ | h
  · obtain ⟨x, rfl⟩ : ∃ x, ys = [x] := List.length_eq_one_iff.1 hl
    have ev : val 0 [x] = x := by simp [val]
    rw [ev] at e1 e2
    exact .inl ⟨x, rest, e, h1 x (by simp), h2, e1, e2⟩
  · exact .inr h
/-- A cell's four bytes, and the cell that each text makes of them. -/
abbrev Q4 := Int × Int × Int × Int
def mkc (q : Q4) : Int × Int × Int × Int := if q.1 = 1 then (1, 0, q.2.1 - 1, val 0 [q.2.2.1, q.2.2.2]) else (q.1, val 0 [q.2.2.1, q.2.2.2], q.2.1, 0)
def mkr (q : Q4) : Int × Int × Int × Int := if q.1 = 1 then (1, 0, q.2.1 - 1, val 0 [q.2.2.1, q.2.2.2]) else (q.1, val 0 [q.2.2.1, q.2.2.2], 0, 0)
def okc (q : Q4) : Bool := q.1 == 1 || q.2.1 == 0
def flat4 (q : Q4) : List Int := [q.1, q.2.1, q.2.2.1, q.2.2.2]
def ByQ (q : Q4) : Prop := (0 ≤ q.1 ∧ q.1 ≤ 255) ∧ (0 ≤ q.2.1 ∧ q.2.1 ≤ 255) ∧ (0 ≤ q.2.2.1 ∧ q.2.2.1 ≤ 255) ∧ (0 ≤ q.2.2.2 ∧ q.2.2.2 ≤ 255)
theorem refnum_nil (s : Bool) : t___ref13_Reader__Number 1 [] s = some (0, [], true, ()) := refnum_fail (n := 1) s (by decide)
theorem refnum_nil2 (s : Bool) : t___ref13_Reader__Number 2 [] s = some (0, [], true, ()) := refnum_fail (n := 2) s (by decide)
theorem u16_id {x : Int} (h0 : 0 ≤ x) (h1 : x ≤ 65535) : wk .u16 x = x := wk_u16 h0 h1
theorem num2_both {b : List Int} (hb : Byt b) :
    (∃ x y rest, b = x :: y :: rest ∧ (0 ≤ x ∧ x ≤ 255) ∧ (0 ≤ y ∧ y ≤ 255) ∧ Byt rest ∧ t___codes_Reader__Number 2 b false = some (val 0 [x, y], rest, false, ()) ∧ t___ref13_Reader__Number 2 b false = some (val 0 [x, y], rest, false, ())) ∨
    (t___codes_Reader__Number 2 b false = some (0, b, true, ()) ∧ t___ref13_Reader__Number 2 b false = some (0, [], true, ())) := by
  rcases num_both (n := 2) hb (by decide) with ⟨ys, rest, e, hl, h1, h2, e1, e2⟩ | h
  · obtain ⟨x, y, rfl⟩ : ∃ x y, ys = [x, y] := by
      match ys, hl with
      | [x, y], _ => exact ⟨x, y, rfl⟩
    exact .inl ⟨x, y, rest, e, h1 x (by simp), h1 y (by simp), h2, e1, e2⟩
  · exact .inr h
theorem loops_both : ∀ (k : Nat) (b : List Int) (aC aR : List (Int × Int × Int × Int)) (ok : Bool) (m : Nat), k < m → aC.length + k ≤ 1000 → aR.length + k ≤ 1000 → Byt b →
    (∃ (q : List Q4) (rest : List Int), q.length = k ∧ b = q.flatMap flat4 ++ rest ∧ (∀ x ∈ q, ByQ x) ∧ Byt rest ∧ loopN t___codes_Reader__List_L0 m ((k : Int), b, false, aC, ()) = some (0, false, rest, false, aC ++ q.map mkc, ()) ∧ loopN t___ref13_Reader__Cells_L1 m (ok, (k : Int), b, false, aR, ()) = some (ok && q.all okc, 0, false, rest, false, aR ++ q.map mkr, ())) ∨
    ((∃ x y z, loopN t___codes_Reader__List_L0 m ((k : Int), b, false, aC, ()) = some (x, false, y, true, z, ())) ∧ ∃ o x z, z.length ≤ 1000 ∧ loopN t___ref13_Reader__Cells_L1 m (ok, (k : Int), b, false, aR, ()) = some (o, x, false, [], true, z, ())) := by
  intro k
  induction k with
  | zero =>
    intro b aC aR ok m hm _ _ hb
    obtain ⟨m, rfl⟩ : ∃ m', m = m' + 1 := ⟨m - 1, by omega⟩
    refine .inl ⟨[], b, rfl, rfl, by simp, hb, ?_, ?_⟩
    · simp [loopN, t___codes_Reader__List_L0]
    · simp [loopN, t___ref13_Reader__Cells_L1]
  | succ k ih =>
    intro b aC aR ok m hm hlC hlR hb
    obtain ⟨m, rfl⟩ : ∃ m', m = m' + 1 := ⟨m - 1, by omega⟩
    have h0 : decide (((k + 1 : Nat) : Int) > 0) = true := decide_eq_true (by omega)
    have hk : w64 (((k + 1 : Nat) : Int) - 1) = (k : Int) := by rw [w64_id (by omega) (by omega)]; omega
    have apC : ∀ c : Int × Int × Int × Int, appOk? 24 aC.length [c].length = true := fun c => appOk_small (by decide) (by simp; omega)
    have apR : ∀ c : Int × Int × Int × Int, appOk? 24 aR.length [c].length = true := fun c => appOk_small (by decide) (by simp; omega)
    -- one step of each loop
    obtain ⟨m, rfl⟩ : ∃ m', m = m' + 1 := ⟨m - 1, by omega⟩
    have endC : ∀ x b' a, loopN t___codes_Reader__List_L0 (m + 1) (x, b', true, a, ()) = some (x, false, b', true, a, ()) := by
      intro x b' a
      simp only [loopN, t___codes_Reader__List_L0, Bool.not_true, cond_false]
      cases decide (x > 0) <;> rfl
    have endR : ∀ o x b' a, loopN t___ref13_Reader__Cells_L1 (m + 1) (o, x, b', true, a, ()) = some (o, x, false, b', true, a, ()) := by
      intro o x b' a
      simp only [loopN, t___ref13_Reader__Cells_L1, Bool.not_true, cond_false]
      cases decide (x > 0) <;> rfl
    have bad : (∃ a0 a1 a2 a3 b', t___codes_Reader__Cell b false = some (a0, a1, a2, a3, b', true, ())) → (∃ t a v, t___ref13_Reader__Cells_L1 (ok, ((k + 1 : Nat) : Int), b, false, aR, ()) = some (.inl (t, a, [], true, v, ())) ∧ v.length ≤ 1000) → ((∃ x y z, loopN t___codes_Reader__List_L0 (m + 1 + 1) (((k + 1 : Nat) : Int), b, false, aC, ()) = some (x, false, y, true, z, ())) ∧ ∃ o x z, z.length ≤ 1000 ∧ loopN t___ref13_Reader__Cells_L1 (m + 1 + 1) (ok, ((k + 1 : Nat) : Int), b, false, aR, ()) = some (o, x, false, [], true, z, ())) := by
      rintro ⟨a0, a1, a2, a3, b', e1⟩ ⟨t, a, v, e2, hv⟩
      constructor
      · have : t___codes_Reader__List_L0 (((k + 1 : Nat) : Int), b, false, aC, ()) = some (.inl ((k : Int), b', true, aC ++ [(a0, a1, a2, a3)], ())) := by
          simp only [t___codes_Reader__List_L0, h0, cond_true, Bool.not_false, e1, Option.bind_some, apC, hk, lapp]
        rw [loopN_step this]
        simp only [endC]
        exact ⟨_, _, _, rfl⟩
      · rw [loopN_step e2]
        simp only [endR]
        exact ⟨_, _, _, hv, rfl⟩
    rcases num1_both hb with ⟨t, b1, rfl, ht, hb1, c1, r1⟩ | ⟨c1, r1⟩
    · rcases num1_both hb1 with ⟨a, b2, rfl, ha, hb2, c2, r2⟩ | ⟨c2, r2⟩
      · rcases num2_both hb2 with ⟨h, l, b3, rfl, hh, hl, hb3, c3, r3⟩ | ⟨c3, r3⟩
        · have hv : 0 ≤ val 0 [h, l] ∧ val 0 [h, l] ≤ 65535 := by simp only [val]; omega
          have e1 : t___codes_Reader__List_L0 (((k + 1 : Nat) : Int), t :: a :: h :: l :: b3, false, aC, ()) = some (.inl ((k : Int), b3, false, aC ++ [mkc (t, a, h, l)], ())) := by
            have hcell : t___codes_Reader__Cell (t :: a :: h :: l :: b3) false = some ((mkc (t, a, h, l)).1, (mkc (t, a, h, l)).2.1, (mkc (t, a, h, l)).2.2.1, (mkc (t, a, h, l)).2.2.2, b3, false, ()) := by
              unfold t___codes_Reader__Cell mkc
              simp only [c1, c2, c3, Option.bind_some, u8_id ht.1 ht.2]
              by_cases h1 : t = 1
              · subst h1
                simp only [beq_self_eq_true, cond_true, if_true, w64_id (x := a - 1) (by omega) (by omega)]
              · have h1b : (t == 1) = false := by simpa using h1
                simp only [h1b, cond_false, if_neg h1, u16_id hv.1 hv.2]
            simp only [t___codes_Reader__List_L0, h0, cond_true, Bool.not_false, hcell, Option.bind_some, apC, hk, lapp]
          have e2 : t___ref13_Reader__Cells_L1 (ok, ((k + 1 : Nat) : Int), t :: a :: h :: l :: b3, false, aR, ()) = some (.inl (ok && okc (t, a, h, l), (k : Int), b3, false, aR ++ [mkr (t, a, h, l)], ())) := by
            unfold t___ref13_Reader__Cells_L1 mkr okc
            simp only [h0, cond_true, Bool.not_false, r1, r2, r3, Option.bind_some, u8_id ht.1 ht.2]
            by_cases h1 : t = 1
            · subst h1
              simp only [beq_self_eq_true, cond_true, if_true, w64_id (x := a - 1) (by omega) (by omega), Option.bind_some, apR, hk, lapp, Bool.true_or, Bool.and_true]
            · have h1b : (t == 1) = false := by simpa using h1
              simp only [h1b, cond_false, if_neg h1, u16_id hv.1 hv.2, Bool.false_or]
              cases ok
              · simp only [cond_false, Option.bind_some, apR, hk, lapp, cond_true, Bool.false_and]
              · simp only [Option.bind_some, apR, hk, lapp, cond_true, Bool.true_and]
          rcases ih b3 (aC ++ [mkc (t, a, h, l)]) (aR ++ [mkr (t, a, h, l)]) (ok && okc (t, a, h, l)) (m + 1) (by omega) (by simp; omega) (by simp; omega) hb3 with ⟨q, rest, hq, rfl, hbq, hbr, f1, f2⟩ | ⟨⟨x, y, z, f1⟩, o, x', z', hz, f2⟩
          · refine .inl ⟨(t, a, h, l) :: q, rest, by simp [hq], by simp [flat4], ?_, hbr, ?_, ?_⟩
            · intro x hx
              rcases List.mem_cons.1 hx with rfl | hx
              · exact ⟨ht, ha, hh, hl⟩
              · exact hbq x hx
            · rw [loopN_step e1]
              simp only [f1]
              simp
            · rw [loopN_step e2]
              simp only [f2]
              simp [Bool.and_assoc]
          · right
            refine ⟨⟨x, y, z, ?_⟩, o, x', z', hz, ?_⟩
            · rw [loopN_step e1]; exact f1
            · rw [loopN_step e2]; exact f2
        · refine .inr (bad ?_ ?_)
          · unfold t___codes_Reader__Cell
            simp only [c1, c2, c3, Option.bind_some]
            cases (wk .u8 t == 1) <;> exact ⟨_, _, _, _, _, rfl⟩
          · unfold t___ref13_Reader__Cells_L1
            simp only [h0, cond_true, Bool.not_false, r1, r2, r3, Option.bind_some]
            cases (wk .u8 t == 1) <;> cases ok <;> simp only [cond_true, cond_false, Option.bind_some, apR] <;> exact ⟨_, _, _, rfl, by simp only [lapp, List.length_append, List.length_cons, List.length_nil]; omega⟩
      · refine .inr (bad ?_ ?_)
        · unfold t___codes_Reader__Cell
          simp only [c1, c2, num_short, Option.bind_some]
          cases (wk .u8 t == 1) <;> exact ⟨_, _, _, _, _, rfl⟩
        · unfold t___ref13_Reader__Cells_L1
          simp only [h0, cond_true, Bool.not_false, r1, r2, refnum_nil2, Option.bind_some]
          cases (wk .u8 t == 1) <;> cases ok <;> simp only [cond_true, cond_false, Option.bind_some, apR] <;> exact ⟨_, _, _, rfl, by simp only [lapp, List.length_append, List.length_cons, List.length_nil]; omega⟩
    · refine .inr (bad ?_ ?_)
      · unfold t___codes_Reader__Cell
        simp only [c1, num_short, Option.bind_some]
        cases (wk .u8 0 == 1) <;> exact ⟨_, _, _, _, _, rfl⟩
      · unfold t___ref13_Reader__Cells_L1
        simp only [h0, cond_true, Bool.not_false, r1, refnum_nil, refnum_nil2, Option.bind_some]
        cases (wk .u8 0 == 1) <;> cases ok <;> simp only [cond_true, cond_false, Option.bind_some, apR] <;> exact ⟨_, _, _, rfl, by simp only [lapp, List.length_append, List.length_cons, List.length_nil]; omega⟩
theorem list_short (b : List Int) : t___codes_Reader__List b true = some ([], b, true, ()) := by
  unfold t___codes_Reader__List
  simp only [num_short, Option.bind_some]
  rfl
theorem refcells_nil : t___ref13_Reader__Cells [] true = some ([], true, [], true, ()) := by
  unfold t___ref13_Reader__Cells
  simp only [refnum_nil, Option.bind_some]
  rfl
theorem lists_both {b : List Int} (hb : Byt b) :
    (∃ (q : List Q4) (rest : List Int), q.length ≤ 255 ∧ b = (q.length : Int) :: (q.flatMap flat4 ++ rest) ∧ (∀ x ∈ q, ByQ x) ∧ Byt rest ∧ t___codes_Reader__List b false = some (q.map mkc, rest, false, ()) ∧ t___ref13_Reader__Cells b false = some (q.map mkr, q.all okc, rest, false, ())) ∨
    ((∃ y z, t___codes_Reader__List b false = some (z, y, true, ())) ∧ ∃ o z, z.length ≤ 1000 ∧ t___ref13_Reader__Cells b false = some (z, o, [], true, ())) := by
  rcases num1_both hb with ⟨k, b1, rfl, hk, hb1, c1, r1⟩ | ⟨c1, r1⟩
  · obtain ⟨j, rfl⟩ : ∃ j : Nat, k = j := ⟨k.toNat, by omega⟩
    rcases loops_both j b1 [] [] true NN (by unfold NN; omega) (by simp; omega) (by simp; omega) hb1 with ⟨q, rest, hq, rfl, hbq, hbr, f1, f2⟩ | ⟨⟨x, y, z, f1⟩, o, x', z', hz, f2⟩
    · refine .inl ⟨q, rest, by omega, by rw [hq], hbq, hbr, ?_, ?_⟩
      · unfold t___codes_Reader__List
        simp only [c1, Option.bind_some, f1, List.nil_append]
      · unfold t___ref13_Reader__Cells
        simp only [r1, Option.bind_some, f2, List.nil_append, Bool.true_and]
    · right
      refine ⟨⟨y, z, ?_⟩, o, z', hz, ?_⟩
      · unfold t___codes_Reader__List
        simp only [c1, Option.bind_some, f1]
      · unfold t___ref13_Reader__Cells
        simp only [r1, Option.bind_some, f2]
  · right
    refine ⟨⟨b, [], ?_⟩, true, [], by simp, ?_⟩
    · unfold t___codes_Reader__List
      simp only [c1, Option.bind_some]
      rfl
    · unfold t___ref13_Reader__Cells
      simp only [r1, Option.bind_some]
      rfl
end Go.Proofs.Ytkmbahlpmoljpaa
