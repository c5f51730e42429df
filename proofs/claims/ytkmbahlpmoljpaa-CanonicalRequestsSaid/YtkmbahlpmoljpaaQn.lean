/- Plain laws: both texts read the same, any bytes; no condition. -/
import Derived.Test.YtkmbahlpmoljpaaQm
import Derived.Deep.Slices
set_option linter.unusedVariables false
set_option linter.unusedSimpArgs false
namespace Go.Proofs.Ytkmbahlpmoljpaa
open Go.RowKit

theorem val_ge : ∀ (l : List Int) (u : Int), Byt l → 0 ≤ u → u * 256 ^ l.length ≤ val u l := by
  intro l
  induction l with
  | nil => intro u _ h; simp [val]
  | cons x l ih =>
    intro u hb h
    have hx := hb x (by simp)
    have h1 := ih (u * 256 + x) (fun y hy => hb y (by simp [hy])) (by omega)
    refine Int.le_trans ?_ h1
    rw [List.length_cons, Int.pow_succ, Int.mul_comm (256 ^ l.length) 256, ← Int.mul_assoc]
    exact Int.mul_le_mul_of_nonneg_right (by omega) (Int.le_of_lt (Int.pow_pos (by decide)))
theorem be_val : ∀ (l : List Int) (u : Int), Byt l → 0 ≤ u → be l.length (val u l) = l := by
  intro l
  induction l with
  | nil => intro u _ _; rfl
  | cons x l ih =>
    intro u hb h
    have hx := hb x (by simp)
    have hb' : Byt l := fun y hy => hb y (by simp [hy])
    have h1 := val_ge l (u * 256 + x) hb' (by omega)
    have h2 := (val_lt l (u * 256 + x) hb' (by omega)).2
    have hp : (0 : Int) < 256 ^ l.length := Int.pow_pos (by decide)
    have e : val (u * 256 + x) l / 256 ^ l.length = u * 256 + x := by
      have a := Int.le_ediv_of_mul_le hp h1
      have b := Int.ediv_lt_of_lt_mul hp h2
      omega
    show (val (u * 256 + x) l / 256 ^ l.length) % 256 :: be l.length (val (u * 256 + x) l) = x :: l
    rw [e, ih _ hb' (by omega)]
    congr 1
    omega
theorem be2_val {h l : Int} (hh : 0 ≤ h ∧ h ≤ 255) (hl : 0 ≤ l ∧ l ≤ 255) : be 2 (val 0 [h, l]) = [h, l] := be_val [h, l] 0 (byt_cons hh (byt_cons hl (fun x hx => by simp at hx))) (by decide)
theorem mkc_t {q : Q4} (h : ByQ q) : CellT (mkc q) := by
  obtain ⟨h1, h2, h3, h4⟩ := h
  unfold mkc CellT
  split
  · exact ⟨Int.le_refl 0, by show (0 : Int) ≤ 65535; decide⟩
  · simp only [val]; omega
theorem mkc_ok {q : Q4} (h : okc q = true) : mkc q = mkr q := by
  unfold okc at h
  unfold mkc mkr
  by_cases h1 : q.1 = 1
  · rw [if_pos h1, if_pos h1]
  · rw [if_neg h1, if_neg h1]
    have : q.2.1 = 0 := by simpa [h1] using h
    rw [this]
theorem mkc_v {q : Q4} (h : CellV (mkc q)) : okc q = true := by
  unfold okc
  unfold mkc at h
  by_cases h1 : q.1 = 1
  · simp [h1]
  · rw [if_neg h1] at h
    rcases h with ⟨_, h2, _⟩ | ⟨h2, _⟩
    · simp only at h2; simp [h2]
    · exact absurd h2 h1
theorem mkc_cb {q : Q4} (b : ByQ q) (h : CellV (mkc q)) : cb (mkc q) = flat4 q := by
  have ho := mkc_v h
  unfold okc at ho
  unfold mkc cb flat4
  by_cases h1 : q.1 = 1
  · simp only [if_pos h1, if_true]
    rw [be2_val b.2.2.1 b.2.2.2, h1, show q.2.1 - 1 + 1 = q.2.1 by omega]
    rfl
  · have : q.2.1 = 0 := by simpa [h1] using ho
    simp only [if_neg h1]
    rw [be2_val b.2.2.1 b.2.2.2, this]
    rfl
theorem map_mkc {q : List Q4} (h : q.all okc = true) : q.map mkc = q.map mkr := by
  refine List.map_congr_left fun x hx => mkc_ok ?_
  exact List.all_eq_true.1 h x hx
theorem flat_mkc : ∀ {q : List Q4}, (∀ x ∈ q, ByQ x) → (∀ c ∈ q.map mkc, CellV c) → (q.map mkc).flatMap cb = q.flatMap flat4 := by
  intro q
  induction q with
  | nil => intro _ _; rfl
  | cons x q ih =>
    intro h1 h2
    rw [List.map_cons, List.flatMap_cons, List.flatMap_cons, mkc_cb (h1 x (by simp)) (h2 _ (by simp)), ih (fun y hy => h1 y (by simp [hy])) (fun c hc => h2 c (by rw [List.map_cons]; exact List.mem_cons_of_mem _ hc))]
theorem lb_mkc {q : List Q4} (h1 : ∀ x ∈ q, ByQ x) (h2 : ∀ c ∈ q.map mkc, CellV c) : lb (q.map mkc) = (q.length : Int) :: q.flatMap flat4 := by
  unfold lb
  rw [flat_mkc h1 h2, List.length_map]
theorem all_okc {q : List Q4} (h : ∀ c ∈ q.map mkc, CellV c) : q.all okc = true :=
  List.all_eq_true.2 fun x hx => mkc_v (h _ (List.mem_map_of_mem hx))
theorem bytesEq (a b : List Int) (h : a = b) : t_bytes_Equal a b = some (true, ()) := by rw [h]; exact bytesEq_self b
theorem refnum_nil6 (s : Bool) : t___ref13_Reader__Number 6 [] s = some (0, [], true, ()) := refnum_fail (n := 6) s (by decide)
/-- What both texts answer. -/
def Both (b : List Int) : Prop := ∃ a0 a1 a2 a3 a4 a5 a6 a7 e, t_canonical_Read b = some (a0, a1, a2, a3, a4, a5, a6, a7, e, ()) ∧ t_ref13_Read b = some (a0, a1, a2, a3, a4, a5, a6, a7, e, ()) ∧ a6.length ≤ 1000 ∧ a7.length ≤ 1000
theorem read_both {b : List Int} (hb : Byt b) : Both b := by
  have four : t_canonical_Read b = some (0, 0, 0, 0, 0, 0, [], [], 4, ()) → t_ref13_Read b = some (0, 0, 0, 0, 0, 0, [], [], 4, ()) → Both b := fun h1 h2 => ⟨_, _, _, _, _, _, _, _, _, h1, h2, by simp, by simp⟩
  have V : ∀ (a0 a1 a2 a3 a4 a5 : Int), t_ref12_Valid a0 a1 a2 a3 a4 a5 [] [] = some (decide (ReqV a0 a1 a2 a3 a4 a5 [] []), ()) := fun _ _ _ _ _ _ => refvalid_v (by simp) (by simp)
  rcases num1_both hb with ⟨x0, b1, e0, h0, hb1, c0, r0⟩ | ⟨c0, r0⟩
  rotate_left
  · refine four ?_ ?_
    · simp only [t_canonical_Read, c0, num_short, list_short, Option.bind_some, cond_true]
    · simp only [t_ref13_Read, t___ref13_Reader__Request, r0, refnum_nil, refnum_nil6, refcells_nil, Option.bind_some, cond_true, V]
  rcases num1_both hb1 with ⟨x1, b2, e1, h1, hb2, c1, r1⟩ | ⟨c1, r1⟩
  rotate_left
  · refine four ?_ ?_
    · simp only [t_canonical_Read, c0, c1, num_short, list_short, Option.bind_some, cond_true]
    · simp only [t_ref13_Read, t___ref13_Reader__Request, r0, r1, refnum_nil, refnum_nil6, refcells_nil, Option.bind_some, cond_true, V]
  rcases num1_both hb2 with ⟨x2, b3, e2, h2, hb3, c2, r2⟩ | ⟨c2, r2⟩
  rotate_left
  · refine four ?_ ?_
    · simp only [t_canonical_Read, c0, c1, c2, num_short, list_short, Option.bind_some, cond_true]
    · simp only [t_ref13_Read, t___ref13_Reader__Request, r0, r1, r2, refnum_nil, refnum_nil6, refcells_nil, Option.bind_some, cond_true, V]
  rcases num_both (n := 6) hb3 (by decide) with ⟨ys, b4, e3, hy, h3, hb4, c3, r3⟩ | ⟨c3, r3⟩
  rotate_left
  · rw [show ((6 : Nat) : Int) = 6 from rfl] at c3 r3
    refine four ?_ ?_
    · simp only [t_canonical_Read, c0, c1, c2, c3, num_short, list_short, Option.bind_some, cond_true]
    · simp only [t_ref13_Read, t___ref13_Reader__Request, r0, r1, r2, r3, refnum_nil, refnum_nil6, refcells_nil, Option.bind_some, cond_true, V]
  rw [show ((6 : Nat) : Int) = 6 from rfl] at c3 r3
  rcases num1_both hb4 with ⟨x4, b5, e4, h4, hb5, c4, r4⟩ | ⟨c4, r4⟩
  rotate_left
  · refine four ?_ ?_
    · simp only [t_canonical_Read, c0, c1, c2, c3, c4, num_short, list_short, Option.bind_some, cond_true]
    · simp only [t_ref13_Read, t___ref13_Reader__Request, r0, r1, r2, r3, r4, refnum_nil, refnum_nil6, refcells_nil, Option.bind_some, cond_true, V]
  rcases num1_both hb5 with ⟨x5, b6, e5, h5, hb6, c5, r5⟩ | ⟨c5, r5⟩
  rotate_left
  · refine four ?_ ?_
    · simp only [t_canonical_Read, c0, c1, c2, c3, c4, c5, num_short, list_short, Option.bind_some, cond_true]
    · simp only [t_ref13_Read, t___ref13_Reader__Request, r0, r1, r2, r3, r4, r5, refnum_nil, refnum_nil6, refcells_nil, Option.bind_some, cond_true, V]
  rcases lists_both hb6 with ⟨qa, b7, la, e6, hqa, hb7, c6, r6⟩ | ⟨⟨y, z, c6⟩, o, z', hz', r6⟩
  rotate_left
  · refine four ?_ ?_
    · simp only [t_canonical_Read, c0, c1, c2, c3, c4, c5, c6, num_short, list_short, Option.bind_some, cond_true]
    · have V' := fun (a0 a1 a2 a3 a4 a5 : Int) => refvalid_v (a0 := a0) (a1 := a1) (a2 := a2) (a3 := a3) (a4 := a4) (a5 := a5) (a6 := z') (a7 := []) (by omega) (by simp)
      simp only [t_ref13_Read, t___ref13_Reader__Request, r0, r1, r2, r3, r4, r5, r6, refnum_nil, refnum_nil6, refcells_nil, Option.bind_some, cond_true, V']
      cases o <;> simp only [cond_true, cond_false, Option.bind_some]
  rcases lists_both hb7 with ⟨qd, b8, ld, e7, hqd, hb8, c7, r7⟩ | ⟨⟨y, z, c7⟩, o, z', hz', r7⟩
  rotate_left
  · refine four ?_ ?_
    · simp only [t_canonical_Read, c0, c1, c2, c3, c4, c5, c6, c7, num_short, list_short, Option.bind_some, cond_true]
    · have V' := fun (a0 a1 a2 a3 a4 a5 : Int) => refvalid_v (a0 := a0) (a1 := a1) (a2 := a2) (a3 := a3) (a4 := a4) (a5 := a5) (a6 := qa.map mkr) (a7 := z') (by simp; omega) (by omega)
      simp only [t_ref13_Read, t___ref13_Reader__Request, r0, r1, r2, r3, r4, r5, r6, r7, refnum_nil, refnum_nil6, refcells_nil, Option.bind_some, V']
      cases qa.all okc <;> cases o <;> simp only [cond_true, cond_false, Option.bind_some]
  -- all is read
  have V' := fun (a0 a1 a2 a3 a4 a5 : Int) => refvalid_v (a0 := a0) (a1 := a1) (a2 := a2) (a3 := a3) (a4 := a4) (a5 := a5) (a6 := qa.map mkr) (a7 := qd.map mkr) (by simp; omega) (by simp; omega)
  have five : t_canonical_Read b = some (0, 0, 0, 0, 0, 0, [], [], 5, ()) → t_ref13_Read b = some (0, 0, 0, 0, 0, 0, [], [], 5, ()) → Both b := fun h1 h2 => ⟨_, _, _, _, _, _, _, _, _, h1, h2, by simp, by simp⟩
  have ll : (qa.map mkc).length ≤ 1000 ∧ (qd.map mkc).length ≤ 1000 := by simp only [List.length_map]; omega
  rcases bytes_same (a0 := x0) (a1 := x1) (a2 := x2) (a3 := val 0 ys) (a4 := x4) (a5 := x5) (a6 := qa.map mkc) (a7 := qd.map mkc) ll.1 ll.2
      (fun c hc => by obtain ⟨q, hq, rfl⟩ := List.mem_map.1 hc; exact mkc_t (hqa q hq)) (fun c hc => by obtain ⟨q, hq, rfl⟩ := List.mem_map.1 hc; exact mkc_t (hqd q hq)) with ⟨hok, cb', _⟩ | ⟨hnv, cb', _⟩
  · have hv := hok.v
    have va : ∀ c ∈ qa.map mkc, CellV c := fun c hc => (hok.args.1 c hc).v
    have vd : ∀ c ∈ qd.map mkc, CellV c := fun c hc => (hok.data.1 c hc).v
    have oa := all_okc va
    have od := all_okc vd
    have hvr : ReqV x0 x1 x2 (val 0 ys) x4 x5 (qa.map mkr) (qd.map mkr) := by rw [← map_mkc oa, ← map_mkc od]; exact hv
    by_cases hr : b8 = []
    · subst hr
      have hbeq : rb x0 x1 x2 (val 0 ys) x4 x5 (qa.map mkc) (qd.map mkc) = b := by
        unfold rb
        rw [lb_mkc hqa va, lb_mkc hqd vd, ← hy, be_val ys 0 h3 (by decide), e0, e1, e2, e3, e4, e5, e6, e7]
        simp
      refine ⟨x0, x1, x2, val 0 ys, x4, x5, qa.map mkc, qd.map mkc, 0, ?_, ?_, ll.1, ll.2⟩
      · simp only [t_canonical_Read, c0, c1, c2, c3, c4, c5, c6, c7, Option.bind_some, cond_false, cb', bytesEq _ _ hbeq, natI?_eq]
        rfl
      · simp only [t_ref13_Read, t___ref13_Reader__Request, r0, r1, r2, r3, r4, r5, r6, r7, Option.bind_some, oa, od, cond_true, V', hvr, map_mkc oa, map_mkc od]
        rfl
    · have hlen : 0 < b8.length := List.length_pos_iff.2 hr
      have hd : (b8.length : Int) > 0 := by omega
      refine five ?_ ?_
      · simp only [t_canonical_Read, c0, c1, c2, c3, c4, c5, c6, c7, Option.bind_some, cond_false, cb', natI?_eq, hd, decide_true, cond_true]
      · simp only [t_ref13_Read, t___ref13_Reader__Request, r0, r1, r2, r3, r4, r5, r6, r7, Option.bind_some, oa, od, cond_true, V', hvr, natI?_eq, hd, decide_true, Bool.not_true, cond_false]
  · refine five ?_ ?_
    · by_cases hd : (b8.length : Int) > 0 <;> simp only [t_canonical_Read, c0, c1, c2, c3, c4, c5, c6, c7, Option.bind_some, cond_false, cb', natI?_eq, hd, decide_true, decide_false, cond_true] <;> rfl
    · simp only [t_ref13_Read, t___ref13_Reader__Request, r0, r1, r2, r3, r4, r5, r6, r7, Option.bind_some, V', cond_true, cond_false, natI?_eq]
      cases oa : qa.all okc <;> cases od : qd.all okc <;> try rfl
      have hvr : ¬ ReqV x0 x1 x2 (val 0 ys) x4 x5 (qa.map mkr) (qd.map mkr) := by rw [← map_mkc oa, ← map_mkc od]; exact hnv
      simp only [hvr, decide_false]
      rfl
end Go.Proofs.Ytkmbahlpmoljpaa
/- Plain laws: CanonicalRequests returns true; no condition. -/
set_option linter.unusedVariables false
set_option linter.unusedSimpArgs false
namespace Go.Proofs.Ytkmbahlpmoljpaa
open Go.RowKit

theorem eqT?_self (a : ByteArray) : eqT? a a = true := by simp [eqT?]
abbrev RQ := Int × Int × Int × Int × Int × Int × List Q4 × List Q4
theorem requests_L1 {v0 : List Int} {v1 v2 v5 v6 v7 v8 v9 v10 : Int} {v11 v12 : List Q4} {xs : List RQ}
    (h : ∀ x ∈ xs, x.2.2.2.2.2.2.1.length ≤ 1000 ∧ x.2.2.2.2.2.2.2.length ≤ 1000 ∧ (∀ c ∈ x.2.2.2.2.2.2.1, CellT c) ∧ ∀ c ∈ x.2.2.2.2.2.2.2, CellT c) (hl : xs.length ≤ 100) :
    ∃ i b, loopN t_law13_CanonicalRequests_L1 NN (v0, v1, v2, (xs.length : Int), 0, v5, v6, v7, v8, v9, v10, v11, v12, xs, ()) = some (.inr (v0, v1, v2, (xs.length : Int), i, b, v5, v6, v7, v8, v9, v10, v11, v12, xs, ())) := by
  obtain ⟨t, e, i, b, rfl⟩ := loopN_of (f := t_law13_CanonicalRequests_L1)
    (fun s => ∃ i : Nat, i ≤ xs.length ∧ s = (v0, v1, v2, (xs.length : Int), (i : Int), v5, v6, v7, v8, v9, v10, v11, v12, xs, ()))
    (fun t => ∃ i b, t = .inr (v0, v1, v2, (xs.length : Int), i, b, v5, v6, v7, v8, v9, v10, v11, v12, xs, ()))
    (fun s => (s.2.2.2.1 - s.2.2.2.2.1).toNat) (by
      rintro _ ⟨i, hi, rfl⟩
      unfold t_law13_CanonicalRequests_L1
      by_cases hn : (i : Int) < xs.length
      · left
        have hi2 : i < xs.length := by omega
        obtain ⟨h1, h2, h3, h4⟩ := h _ (List.getElem_mem hi2)
        simp only [hn, decide_true, cond_true, nat?_of, Option.bind_some, get_of hi2]
        rcases bytes_same (a0 := xs[i].1) (a1 := xs[i].2.1) (a2 := xs[i].2.2.1) (a3 := xs[i].2.2.2.1) (a4 := xs[i].2.2.2.2.1) (a5 := xs[i].2.2.2.2.2.1) h1 h2 h3 h4 with ⟨_, e1, e2⟩ | ⟨_, e1, e2⟩
        all_goals
          simp only [e1, e2, Option.bind_some, eqT?_self, Bool.not_true, cond_false, bne_self_eq_false]
          rw [w64_id (x := (i : Int) + 1) (by omega) (by omega)]
          exact ⟨_, rfl, ⟨i + 1, by omega, rfl⟩, by simp only; omega⟩
      · right
        simp only [hn, decide_false, cond_false]
        exact ⟨_, rfl, _, _, rfl⟩) NN (v0, v1, v2, (xs.length : Int), 0, v5, v6, v7, v8, v9, v10, v11, v12, xs, ()) ⟨0, by omega, rfl⟩ (by show ((xs.length : Int) - 0).toNat < NN; unfold NN; omega)
  exact ⟨i, b, e⟩
theorem requests_L2 {xs : List (List Int)} (h : ∀ x ∈ xs, Byt x) (hl : xs.length ≤ 100) :
    ∃ i b, loopN t_law13_CanonicalRequests_L2 NN ((xs.length : Int), 0, xs, ()) = some (.inr ((xs.length : Int), i, b, xs, ())) := by
  obtain ⟨t, e, i, b, rfl⟩ := loopN_of (f := t_law13_CanonicalRequests_L2)
    (fun s => ∃ i : Nat, i ≤ xs.length ∧ s = ((xs.length : Int), (i : Int), xs, ()))
    (fun t => ∃ i b, t = .inr ((xs.length : Int), i, b, xs, ()))
    (fun s => (s.1 - s.2.1).toNat) (by
      rintro _ ⟨i, hi, rfl⟩
      unfold t_law13_CanonicalRequests_L2
      by_cases hn : (i : Int) < xs.length
      · left
        have hi2 : i < xs.length := by omega
        obtain ⟨a0, a1, a2, a3, a4, a5, a6, a7, er, e1, e2, l6, l7⟩ := read_both (h _ (List.getElem_mem hi2))
        obtain ⟨r, e3, g⟩ := same_ok (a0 := a0) (a1 := a1) (a2 := a2) (a3 := a3) (a4 := a4) (a5 := a5) (b0 := a0) (b1 := a1) (b2 := a2) (b3 := a3) (b4 := a4) (b5 := a5) (b6 := a6) (b7 := a7) l6 l7
        have hr : r = true := g.2 ⟨rfl, rfl, rfl, rfl, rfl, rfl, rfl, rfl⟩
        subst hr
        simp only [hn, decide_true, cond_true, nat?_of, Option.bind_some, get_of hi2, e1, e2, e3, bne_self_eq_false, cond_false, Bool.not_true]
        rw [w64_id (x := (i : Int) + 1) (by omega) (by omega)]
        exact ⟨_, rfl, ⟨i + 1, by omega, rfl⟩, by simp only; omega⟩
      · right
        simp only [hn, decide_false, cond_false]
        exact ⟨_, rfl, _, _, rfl⟩) NN ((xs.length : Int), 0, xs, ()) ⟨0, by omega, rfl⟩ (by show ((xs.length : Int) - 0).toNat < NN; unfold NN; omega)
  exact ⟨i, b, e⟩
theorem rb_len {a0 a1 a2 a3 a4 a5 : Int} {a6 a7 : List Q4} : (rb a0 a1 a2 a3 a4 a5 a6 a7).length = 13 + 4 * a6.length + 4 * a7.length := by
  unfold rb
  simp [be_len, lb_len]
  omega
theorem mkmod_ok {a b : Int} (ha : Is64 a) (hb : 0 < b) (hb2 : b ≤ 9223372036854775807) : ∃ v : Nat, t_mk_Mod a b = some ((v : Int), ()) ∧ (v : Int) < b := by
  obtain ⟨v, e, h0, h1⟩ := mod_ok ha hb hb2
  obtain ⟨j, rfl⟩ : ∃ j : Nat, v = j := ⟨v.toNat, by omega⟩
  exact ⟨j, by simp only [t_mk_Mod, e, Option.bind_some], h1⟩
theorem byt_u8 (x : Int) : 0 ≤ wk .u8 x ∧ wk .u8 x ≤ 255 := by rw [wk_u8]; omega
theorem byt_modify {l : List Int} {i : Nat} {y : Int} (h : Byt l) (hy : 0 ≤ y ∧ y ≤ 255) : Byt (l.modify i fun _ => y) := by
  intro x hx
  obtain ⟨j, hj, rfl⟩ := List.mem_iff_getElem.1 hx
  rw [List.getElem_modify]
  split
  · exact hy
  · exact h _ (List.getElem_mem _)
theorem requests_law {a0 a1 a2 a3 a4 a5 : Int} {a6 a7 : List Q4} {a8 a9 : List Int} {a10 a11 : Int} (t6 : ∀ c ∈ a6, CellT c) (t7 : ∀ c ∈ a7, CellT c) (hb : Byt a8) (hl : ∀ x ∈ a9, Is64 x) (hll : a9.length ≤ maxLen) (h10 : Is64 a10) :
    t_law13_CanonicalRequests a0 a1 a2 a3 a4 a5 a6 a7 a8 a9 a10 a11 = some (true, ()) := by
  unfold t_law13_CanonicalRequests
  simp only [natI?_eq]
  by_cases h6 : (a6.length : Int) > 60
  · simp only [h6, decide_true, cond_true, Option.bind_some, awake_ok]
  by_cases h7 : (a7.length : Int) > 60
  · simp only [h6, h7, decide_true, decide_false, cond_true, cond_false, Option.bind_some, awake_ok]
  by_cases h8 : (a8.length : Int) > 400
  · simp only [h6, h7, h8, decide_true, decide_false, cond_true, cond_false, Option.bind_some, awake_ok]
  obtain ⟨b0, b1, b2, b3, b4, b5, b6, b7, k', e1, hr, _⟩ := request_ok (DOk.start hl hll)
  have l6 := hr.args.2
  have l7 := hr.data.2
  have hbr := byt_rb hr
  have hlen : (rb b0 b1 b2 b3 b4 b5 b6 b7).length = 13 + 4 * b6.length + 4 * b7.length := rb_len
  obtain ⟨i, b, e2⟩ := requests_L1 (v0 := a8) (v1 := a10) (v2 := a11) (v5 := b0) (v6 := b1) (v7 := b2) (v8 := b3) (v9 := b4) (v10 := b5) (v11 := b6) (v12 := b7) (xs := [(a0, (a1, (a2, (a3, (a4, (a5, (a6, a7))))))), (b0, (b1, (b2, (b3, (b4, (b5, (b6, b7)))))))]) (by
    intro x hx
    rcases List.mem_cons.1 hx with rfl | hx
    · exact ⟨by show a6.length ≤ 1000; omega, by show a7.length ≤ 1000; omega, t6, t7⟩
    · rw [List.mem_singleton.1 hx]
      refine ⟨by show b6.length ≤ 1000; omega, by show b7.length ≤ 1000; omega, fun c hc => ?_, fun c hc => ?_⟩
      · rcases hr.args.1 c hc with ⟨_, _, _, h⟩ | ⟨_, h, _⟩
        · exact h
        · exact ⟨by omega, by omega⟩
      · rcases hr.data.1 c hc with ⟨_, _, _, h⟩ | ⟨_, h, _⟩
        · exact h
        · exact ⟨by omega, by omega⟩) (by simp)
  have e3 := refbytes_ok hr
  simp only [h6, h7, h8, decide_false, cond_false, Option.bind_some, e1, e2, e3, lapp, List.nil_append]
  generalize rb b0 b1 b2 b3 b4 b5 b6 b7 = B at hbr hlen
  have ap : ∀ {n m : Nat}, n + m ≤ 1000 → appOk? 1 n m = true := fun h => appOk_small (by decide) (by omega)
  obtain ⟨v, e4, hv⟩ := mkmod_ok (a := a10) (b := (B.length : Int)) h10 (by omega) (by omega)
  have hv2 : v < B.length := by omega
  have hsl : slOk? 0 v B.length = true := by simp [slOk?]; omega
  obtain ⟨i2, b2', e5⟩ := requests_L2 (xs := [a8, B, B.modify v fun _ => wk .u8 a11, win? B 0 (Nat.sub v 0), B ++ [wk .u8 a11]]) (by
    intro x hx
    simp only [List.mem_cons, List.not_mem_nil, or_false] at hx
    rcases hx with rfl | rfl | rfl | rfl | rfl
    · exact hb
    · exact hbr
    · exact byt_modify hbr (byt_u8 _)
    · exact fun y hy => hbr y (List.mem_of_mem_drop (List.mem_of_mem_take hy))
    · exact byt_append hbr (byt_cons (byt_u8 _) (fun x hx => by simp at hx))) (by simp)
  rw [ap (by omega)]
  simp only [cond_true, e4, Option.bind_some, nat?_of, get_of hv2, hsl, ap (show B.length + [wk .u8 a11].length ≤ 1000 by simp; omega), e5, awake_ok]
end Go.Proofs.Ytkmbahlpmoljpaa
/- Arguments of any type of data, as typed data; no condition. -/
set_option linter.unusedVariables false
set_option linter.unusedSimpArgs false
namespace Go.Proofs.Ytkmbahlpmoljpaa
open Go.RowKit

/-- Cells one behind the other, as one datum. -/
def nest : List CT → CT
  | [] => .nat
  | [t] => t
  | t :: u :: r => .pair t (nest (u :: r))
def toNest : (l : List CT) → HL den l → den (nest l)
  | [], _ => (0 : Nat)
  | [_], h => h.1
  | _ :: u :: r, h => (h.1, toNest (u :: r) h.2)
def encL : (l : List CT) → HL den l → List TV
  | [], _ => []
  | t :: r, h => enc t h.1 ++ encL r h.2
theorem enc_nest : ∀ (l : List CT) (h : HL den l), enc (nest l) (toNest l h) = encL l h
  | [], _ => rfl
  | [_], h => (List.append_nil _).symm
  | _ :: u :: r, h => by
    show enc _ h.1 ++ enc (nest (u :: r)) (toNest (u :: r) h.2) = _
    rw [enc_nest (u :: r) h.2]
    rfl
/-- What a type allows. -/
def GoodD : (c : CT) → den c → Prop
  | .int k, n => (Lit.int k n).wf = true
  | .str, s => ByteArray.size s ≤ maxLen
  | .row _ t, xs => List.length xs ≤ maxLen ∧ ∀ x ∈ xs, GoodD t x
  | .pair a b, x => GoodD a x.1 ∧ GoodD b x.2
  | _, _ => True
def GoodL : (l : List CT) → HL den l → Prop
  | [], _ => True
  | t :: r, h => GoodD t h.1 ∧ GoodL r h.2
theorem good_nest : ∀ (l : List CT) (h : HL den l), GoodL l h → GoodD (nest l) (toNest l h)
  | [], _, _ => trivial
  | [_], _, g => g.1
  | _ :: u :: r, h, g => ⟨g.1, good_nest (u :: r) h.2 g.2⟩
def appL : (l m : List CT) → HL den l → HL den m → HL den (l ++ m)
  | [], _, _, k => k
  | _ :: r, m, h, k => (h.1, appL r m h.2 k)
theorem encL_app : ∀ (l m : List CT) (h : HL den l) (k : HL den m), encL (l ++ m) (appL l m h k) = encL l h ++ encL m k
  | [], _, _, _ => rfl
  | t :: r, m, h, k => by
    show enc t h.1 ++ encL (r ++ m) (appL r m h.2 k) = (enc t h.1 ++ encL r h.2) ++ _
    rw [encL_app r m h.2 k, List.append_assoc]
theorem good_app : ∀ (l m : List CT) (h : HL den l) (k : HL den m), GoodL l h → GoodL m k → GoodL (l ++ m) (appL l m h k)
  | [], _, _, _, _, g => g
  | _ :: r, m, h, k, g, g' => ⟨g.1, good_app r m h.2 k g.2 g'⟩
/-- Cells that stand for values. -/
def RelL (w : World) : List TV → List Value → Prop
  | [], [] => True
  | t :: ts, v :: vs => ImmR w (fun _ => True) t v ∧ RelL w ts vs
  | _, _ => False
theorem RelL.app {w : World} : ∀ {a : List TV} {x : List Value} {b : List TV} {y : List Value}, RelL w a x → RelL w b y → RelL w (a ++ b) (x ++ y)
  | [], [], _, _, _, h => h
  | _ :: a, _ :: x, _, _, g, h => ⟨g.1, RelL.app (a := a) (x := x) g.2 h⟩
  | [], _ :: _, _, _, g, _ => g.elim
  | _ :: _, [], _, _, g, _ => g.elim
theorem RelL.len {w : World} : ∀ {a : List TV} {x : List Value}, RelL w a x → a.length = x.length
  | [], [], _ => rfl
  | _ :: a, _ :: x, g => by rw [List.length_cons, List.length_cons, RelL.len (a := a) (x := x) g.2]
  | [], _ :: _, g => g.elim
  | _ :: _, [], g => g.elim
theorem RelL.get {w : World} : ∀ {a : List TV} {x : List Value}, RelL w a x → ∀ j (h : j < a.length) (h' : j < x.length), ImmR w (fun _ => True) a[j] x[j]
  | _ :: _, _ :: _, g, 0, _, _ => g.1
  | _ :: a, _ :: x, g, j + 1, h, h' => RelL.get (a := a) (x := x) g.2 j (by simpa using h) (by simpa using h')
  | [], _, _, _, h, _ => by simp at h
  | _ :: _, [], g, _, _, _ => g.elim
/-- A struct's fields, one behind the other. -/
def shFs (P : Program) (g : TypeId → Option (List CT)) : Nat → List Field → Option (List CT)
  | _, [] => some []
  | off, f :: fs => match g f.type with
    | some l => if f.offset = off ∧ l.length = P.cellsOf f.type then (shFs P g (off + l.length) fs).map (l ++ ·) else none
    | none => none
/-- What the cells of a type hold. -/
def shapeOf (P : Program) : Nat → TypeId → Option (List CT)
  | 0, _ => none
  | n + 1, t => match P.underlying t with
    | some .bool => some [.bool]
    | some (.int k) => some [.int k]
    | some .string => some [.str]
    | some (.slice e) => match shapeOf P n e with
      | some l => if l.length = P.cellsOf e then some [.row false (nest l)] else none
      | none => none
    | some (.struct fs) => match shFs P (shapeOf P n) 0 fs.toList with
      | some l => if l.length = P.cellsOf t then some l else none
      | none => none
    | _ => none
section
variable {H : Type} {ec : TypeId × Value → H} {P : Program} {w : World} {base : Nat} {spare : Nat → Bool} {held : Bool}
theorem intake_fs {g : TypeId → Option (List CT)} {m : Nat} {cs : List Value}
    (ih : ∀ t L, g t = some L → ∀ cs x, DataW.trod ec P w base spare held m t cs = some x → ∃ h : HL den L, GoodL L h ∧ RelL w (encL L h) cs) :
    ∀ (fs : List Field) (off : Nat) (L : List CT), shFs P g off fs = some L → (∀ f ∈ fs, ∃ x, DataW.trod ec P w base spare held m f.type ((cs.drop f.offset).take (P.cellsOf f.type)) = some x) →
      ∃ h : HL den L, GoodL L h ∧ RelL w (encL L h) ((cs.drop off).take L.length) := by
  intro fs
  induction fs with
  | nil =>
    intro off L hL _
    injection hL with hL
    subst hL
    exact ⟨(), trivial, trivial⟩
  | cons f fs ihf =>
    intro off L hL hx
    unfold shFs at hL
    split at hL
    · rename_i l hg
      split at hL
      · rename_i ho
        obtain ⟨rfl, hlen⟩ := ho
        cases hr : shFs P g (f.offset + l.length) fs with
        | none => rw [hr] at hL; cases hL
        | some L2 =>
          rw [hr] at hL
          injection hL with hL
          subst hL
          obtain ⟨x, h1⟩ := hx f List.mem_cons_self
          obtain ⟨h, g1, r1⟩ := ih _ _ hg _ _ h1
          obtain ⟨k, g2, r2⟩ := ihf _ _ hr fun f' hf' => hx f' (List.mem_cons_of_mem _ hf')
          refine ⟨appL l L2 h k, good_app _ _ _ _ g1 g2, ?_⟩
          rw [encL_app, List.length_append, List.take_add, List.drop_drop]
          rw [hlen]
          rw [hlen] at r2
          exact r1.app r2
      · cases hL
    · cases hL
theorem intake : ∀ (n : Nat) (t : TypeId) (L : List CT), shapeOf P n t = some L → ∀ (fuel : Nat) (cs : List Value) (x : DataW H × List MemPlace), DataW.trod ec P w base spare held fuel t cs = some x →
    ∃ h : HL den L, GoodL L h ∧ RelL w (encL L h) cs := by
  intro n
  induction n with
  | zero => intro t L h; cases h
  | succ n ih =>
    intro t L hL fuel cs x hx
    unfold shapeOf at hL
    split at hL
    · rename_i ht
      injection hL with hL
      subst hL
      obtain ⟨b, rfl, _⟩ := DataW.trod_bool ht hx
      exact ⟨(b, ()), ⟨trivial, trivial⟩, .v rfl, trivial⟩
    · rename_i k ht
      injection hL with hL
      subst hL
      obtain ⟨z, rfl, _, hw⟩ := DataW.trod_int ht hx
      exact ⟨(z, ()), ⟨hw, trivial⟩, .v rfl, trivial⟩
    · rename_i ht
      injection hL with hL
      subst hL
      obtain ⟨s, rfl, _, hs⟩ := DataW.trod_string ht hx
      exact ⟨(s, ()), ⟨hs, trivial⟩, .v rfl, trivial⟩
    · rename_i e ht
      split at hL
      · rename_i l hl
        split at hL
        · rename_i hsz
          injection hL with hL
          subst hL
          rcases DataW.trod_slice ht hx with ⟨rfl, _⟩ | ⟨a, len, cap, elems, rest, m, _, rfl, _, _, hle, hmax, hel, hget, _, _⟩
          · exact ⟨([], ()), ⟨⟨Nat.zero_le _, fun x hx => by cases hx⟩, trivial⟩, .sl (c := []) 1 (fun _ _ => undef) (fun i h => by simp at h) (Nat.le_refl _) (Nat.zero_le _) (fun _ => rfl) (fun i j h => by simp at h) (fun i j h => by simp at h), trivial⟩
          · have each : ∀ i : Fin len, ∃ p : HL den l × List Value, GoodL l p.1 ∧ RelL w (encL l p.1) p.2 ∧ w.cells? base (a.add (i.1 * P.cellsOf e)) (P.cellsOf e) = some p.2 := by
              intro i
              have h1 := hget i.1 i.2
              rw [List.getElem?_eq_getElem (by omega)] at h1
              obtain ⟨cs', h2, h3⟩ := Option.bind_eq_some_iff.1 h1
              obtain ⟨h, g, r⟩ := ih _ _ hl _ _ _ h3
              exact ⟨(h, cs'), g, r, h2⟩
            obtain ⟨f, hf⟩ := Classical.axiomOfChoice each
            have clen : ∀ i, (encL l (f i).1).length = l.length := fun i => by
              rw [(hf i).2.1.len, (World.cells?_some (hf i).2.2).2.1, hsz]
            have key : ImmR w (fun _ => True) (.sl ((List.ofFn fun i : Fin len => toNest l (f i).1).map (enc (nest l)))) (.slice (some a) ((List.ofFn fun i : Fin len => toNest l (f i).1).map (enc (nest l))).length cap) := by
              have el : ((List.ofFn fun i : Fin len => toNest l (f i).1).map (enc (nest l))).length = len := by simp
              have eg : ∀ i (hi : i < ((List.ofFn fun i : Fin len => toNest l (f i).1).map (enc (nest l))).length), ((List.ofFn fun i : Fin len => toNest l (f i).1).map (enc (nest l)))[i] = encL l (f ⟨i, by omega⟩).1 := by
                intro i hi
                simp [enc_nest]
              refine .sl l.length (fun i j => if h : i < len then (f ⟨i, h⟩).2.getD j undef else undef) (fun i hi => by rw [eg i hi, clen]) (by rw [el]; exact hle) hmax (fun h => by cases h) (fun i j hi hj => ?_) (fun i j hi hj => ?_)
              · rw [el] at hi
                have cell : ∀ i' (hi' : i' < len) j', j' < l.length → w.cell? ((a.add (i' * l.length)).add j') = some ((f ⟨i', hi'⟩).2.getD j' undef) := by
                  intro i' hi' j' hj'
                  have h1 := World.cells?_some (hf ⟨i', hi'⟩).2.2
                  have h2 := h1.2.2 j' (by omega)
                  rw [hsz]
                  rw [h2]
                  have : j' < (f ⟨i', hi'⟩).2.length := by rw [h1.2.1]; omega
                  simp [this]
                have h0 := World.cell?_spot (cell 0 (by omega) 0 (by omega))
                obtain ⟨b, o, spot⟩ := a
                have hspot : spot = none := by simpa [Addr.add] using h0
                subst hspot
                refine ⟨b, o, rfl, trivial, ?_⟩
                have h2 := cell i hi j hj
                rw [Go.WideShapes.add_plain, Go.WideShapes.add_plain] at h2
                rw [dif_pos hi, ← h2, Nat.add_assoc]
              · rw [el] at hi
                have hr := (hf ⟨i, hi⟩).2.1
                have hj2 : j < (encL l (f ⟨i, hi⟩).1).length := by rw [eg i (by omega)] at hj; exact hj
                have hj3 : j < (f ⟨i, hi⟩).2.length := by rw [← hr.len]; exact hj2
                have h3 := hr.get j hj2 hj3
                have e1 : (if h : i < len then (f ⟨i, h⟩).2.getD j undef else undef) = (f ⟨i, hi⟩).2[j] := by
                  rw [dif_pos hi]
                  simp [hj3]
                simp only [e1]
                have e2 : ((List.ofFn fun i : Fin len => toNest l (f i).1).map (enc (nest l)))[i]'(by omega) = encL l (f ⟨i, hi⟩).1 := eg i (by omega)
                simp only [e2]
                exact h3
            rw [List.length_map, List.length_ofFn] at key
            refine ⟨(List.ofFn fun i : Fin len => toNest l (f i).1, ()), ⟨⟨by rw [List.length_ofFn]; omega, fun x hx => ?_⟩, trivial⟩, key, trivial⟩
            obtain ⟨i, rfl⟩ := List.mem_ofFn.1 hx
            exact good_nest _ _ (hf i).1
        · cases hL
      · cases hL
    · rename_i fs ht
      split at hL
      · rename_i l hl
        split at hL
        · rename_i hsz
          injection hL with hL
          subst hL
          obtain ⟨xs, m, _, _, hlen, hxl, hf⟩ := DataW.trod_struct ht hx
          obtain ⟨h, g, r⟩ := intake_fs (cs := cs) (m := m) (fun t L hL cs x hx => ih t L hL m cs x hx) fs.toList 0 l hl (by
            intro f hfm
            obtain ⟨i, hi, rfl⟩ := List.mem_iff_getElem.1 hfm
            have hi2 : i < fs.size := by simpa using hi
            have h1 := hf i fs[i] (by simp [hi2])
            rw [List.getElem?_eq_getElem (by omega)] at h1
            exact ⟨_, by simpa using h1⟩)
          refine ⟨h, g, ?_⟩
          rw [List.drop_zero, hsz, ← hlen, List.take_length] at r
          exact r
        · cases hL
      · cases hL
    · cases hL
theorem intake_arg (n : Nat) {t : TypeId} {L : List CT} {v : Value} {d : DataW H} {p : List MemPlace} (hL : shapeOf P n t = some L) (h : DataW.Trod ec P w base spare held t v d p) :
    ∃ h : HL den L, GoodL L h ∧ RelL w (encL L h) v.cells.toList := by
  obtain ⟨fuel, hf⟩ := h
  exact intake n t L hL fuel _ _ hf
end
theorem plain_one {w : World} {t : TV} {v : Value} (r : RelL w [t] [v]) : Plain w t v := r.1.plain
theorem plain_agg {w : World} {l : List TV} {cs : Array Value} (r : RelL w l cs.toList) : Plain w (.agg l) (.agg cs) := by
  intro F V C G hF
  have hl : cs.size = l.length := by rw [r.len]; simp
  refine .agg hl fun j hj => ?_
  have hj2 : j < cs.toList.length := by rw [← r.len]; exact hj
  have h1 := (r.get j hj hj2).plain F V C G hF
  have e : cs.getD j undef = cs.toList[j] := by
    have : j < cs.size := by omega
    simp [Array.getD, this]
  rw [e]
  exact h1
end Go.Proofs.Ytkmbahlpmoljpaa
/- CanonicalRequests returns true, whatever comes in; no condition. -/
set_option linter.unusedVariables false
set_option linter.unusedSimpArgs false
namespace Go.Proofs.Ytkmbahlpmoljpaa
open Go.RowKit

abbrev cnT : CT := .row false (.pair (.int .u8) (.pair (.int .u16) (.pair I64 I64)))
theorem wf_u16 {x : Int} (h : (Lit.int .u16 x).wf = true) : 0 ≤ x ∧ x ≤ 65535 := by
  simp [Lit.wf, IntKind.min, IntKind.max, IntKind.signed, IntKind.bits] at h
  omega
theorem wf_u8 {x : Int} (h : (Lit.int .u8 x).wf = true) : 0 ≤ x ∧ x ≤ 255 := by
  simp [Lit.wf, IntKind.min, IntKind.max, IntKind.signed, IntKind.bits] at h
  omega
theorem law_CanonicalRequests {h0 : HL den [I64, I64, I64, I64, I64, I64, cnT, cnT]} {h1 : HL den [.row false (.int .u8)]} {h2 : HL den [.row false I64]} {h3 : HL den [I64]} {h4 : HL den [I64]}
    (g0 : GoodL _ h0) (g1 : GoodL _ h1) (g2 : GoodL _ h2) (g3 : GoodL _ h3) (g4 : GoodL _ h4) :
    c_law13_CanonicalRequests.g (appL _ _ h0 (appL _ _ h1 (appL _ _ h2 (appL _ _ h3 (appL _ _ h4 ()))))) = some (true, ()) := by
  obtain ⟨a0, a1, a2, a3, a4, a5, a6, a7, u0⟩ := h0
  obtain ⟨b, u1⟩ := h1
  obtain ⟨l, u2⟩ := h2
  obtain ⟨x, u3⟩ := h3
  obtain ⟨y, u4⟩ := h4
  obtain ⟨_, _, _, _, _, _, k6, k7, _⟩ := g0
  exact requests_law (a6 := a6) (a7 := a7) (fun c hc => wf_u16 (k6.2 c hc).2.1) (fun c hc => wf_u16 (k7.2 c hc).2.1) (fun z hz => wf_u8 (g1.1.2 z hz)) (fun z hz => bounds_i64 (g2.1.2 z hz)) g2.1.1 (bounds_i64 g3.1)
end Go.Proofs.Ytkmbahlpmoljpaa
