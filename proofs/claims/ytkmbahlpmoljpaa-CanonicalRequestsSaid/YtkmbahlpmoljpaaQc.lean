/- Appending to what is owned; no condition. -/
import Derived.Test.YtkmbahlpmoljpaaQb
set_option linter.unusedVariables false
set_option linter.unusedSimpArgs false
namespace Go.Proofs.Ytkmbahlpmoljpaa
open Go.RowKit

section
variable {w : World} {F : Nat → Prop}

/-- The cells of a slice, owned or shared. -/
theorem OwnR.rows {fp : Nat → Prop} {t : TV} {v : Value} {c : List (List TV)} {sz : Nat} (h : OwnR w F fp t v) (ht : t = .ow c ∨ t = .sl c) (hs : ∀ i (h : i < c.length), c[i].length = sz) :
    ∃ (a : Option Addr) (cap : Nat) (vals : List Value) (f : Nat → Nat → Nat → Prop), v = .slice a c.length cap ∧ vals.length = c.length * sz ∧ (∀ j u, vals[j]? = some u → ∃ b o, a = some ⟨b, o, none⟩ ∧ w.cell? ⟨b, o + j, none⟩ = some u) ∧
      (∀ i j (hi : i < c.length) (hj : j < c[i].length), OwnR w F (f i j) c[i][j] (vals.getD (i * sz + j) undef)) ∧ (∀ i j k, f i j k → i < c.length ∧ j < sz ∧ fp k) ∧
      (∀ i j i' j' k, f i j k → f i' j' k → i = i' ∧ j = j') ∧ (∀ u ∈ vals, u.oneCell' = true) ∧ (∀ i j b o, a = some ⟨b, o, none⟩ → t = .ow c → ¬ f i j b) := by
  have mk : ∀ (u : Nat → Nat → Value) (f : Nat → Nat → Nat → Prop), (∀ i j (hi : i < c.length) (hj : j < c[i].length), OwnR w F (f i j) c[i][j] (u i j)) →
      ∃ vals : List Value, vals.length = c.length * sz ∧ (∀ i j, i < c.length → j < sz → vals[i * sz + j]? = some (u i j)) ∧ (∀ k x, vals[k]? = some x → ∃ i j, i < c.length ∧ j < sz ∧ k = i * sz + j ∧ x = u i j) ∧ (∀ x ∈ vals, x.oneCell' = true) := by
    intro u f hr
    have h0 : ∀ k, k < c.length * sz → 0 < sz := fun k hk => by
      rcases Nat.eq_zero_or_pos sz with h | h
      · rw [h] at hk; simp at hk
      · exact h
    have hdiv : ∀ k, k < c.length * sz → k / sz < c.length := fun k hk => Nat.div_lt_of_lt_mul (by rw [Nat.mul_comm]; exact hk)
    have hmod : ∀ k, k < c.length * sz → k % sz < sz := fun k hk => Nat.mod_lt _ (h0 k hk)
    refine ⟨(List.range (c.length * sz)).map fun k => u (k / sz) (k % sz), by simp, fun i j hi hj => ?_, fun k x hk => ?_, fun x hx => ?_⟩
    · have hlt : i * sz + j < c.length * sz := by
        calc i * sz + j < i * sz + sz := by omega
          _ = (i + 1) * sz := by rw [Nat.succ_mul]
          _ ≤ c.length * sz := Nat.mul_le_mul_right _ hi
      have e1 : (i * sz + j) / sz = i := by rw [Nat.mul_comm, Nat.mul_add_div (by omega)]; simp [Nat.div_eq_of_lt hj]
      have e2 : (i * sz + j) % sz = j := by rw [Nat.mul_comm, Nat.mul_add_mod]; exact Nat.mod_eq_of_lt hj
      simp [List.getElem?_map, List.getElem?_range hlt, e1, e2]
    · rw [List.getElem?_map] at hk
      rcases Nat.lt_or_ge k (c.length * sz) with h | h
      · rw [List.getElem?_range h] at hk
        simp only [Option.map_some, Option.some.injEq] at hk
        exact ⟨k / sz, k % sz, hdiv k h, hmod k h, by rw [Nat.mul_comm]; exact (Nat.div_add_mod k sz).symm, hk.symm⟩
      · rw [List.getElem?_eq_none (by simpa using h)] at hk; simp at hk
    · obtain ⟨k, hk, rfl⟩ := List.mem_map.1 hx
      have hk := List.mem_range.1 hk
      exact (hr _ _ (hdiv k hk) (by rw [hs _ (hdiv k hk)]; exact hmod k hk)).one
  rcases ht with rfl | rfl
  · cases h with
    | nil hfp => exact ⟨none, 0, [], fun _ _ _ => False, rfl, by simp, by simp, by simp, by simp, by simp, by simp, by simp⟩
    | @ow _ _ b cap cur e sz' u f hfp hb hsz hcap hz0 hmax hcur hcell hrec hnb hdis =>
      obtain ⟨vals, v1, v2, v3, v4⟩ := mk u f hrec
      refine ⟨some ⟨b, 0, none⟩, cap, vals, fun i j k => i < c.length ∧ j < sz ∧ f i j k, rfl, v1, fun k x hk => ?_, fun i j hi hj => ?_, fun i j k hk => ?_, fun i j i' j' k h h' => hdis _ _ _ _ k h.2.2 h'.2.2, v4, fun i j b' o e _ h => by injection e with e; injection e with e; subst e; exact hnb i j h.2.2⟩
      · obtain ⟨i, j, hi, hj, rfl, rfl⟩ := v3 k x hk
        have e1 : sz' = sz := by rw [← hsz i hi, hs i hi]
        subst e1
        refine ⟨b, 0, rfl, ?_⟩
        rw [cell_of_row w b _ _ _ _ hb, Nat.zero_add]
        exact hcell i j hi hj
      · have hj' : j < sz := by rw [← hs i hi]; exact hj
        have : vals.getD (i * sz + j) undef = u i j := by rw [List.getD_eq_getElem?_getD, v2 i j hi hj']; rfl
        rw [this]
        exact (hrec i j hi hj).refp fun k => ⟨fun h => ⟨hi, hj', h⟩, fun h => h.2.2⟩
      · refine ⟨hk.1, hk.2.1, (hfp k).2 (.inr ⟨i, j, hk.1, ?_, hk.2.2⟩)⟩
        rw [← hsz i hk.1, hs i hk.1]; exact hk.2.1
  · cases h with
    | sl hfp h =>
      cases h with
      | @sl _ a cap sz' u hsz hcap hmax hnil hcell hrec =>
        obtain ⟨vals, v1, v2, v3, v4⟩ := mk u (fun _ _ _ => False) (fun i j hi hj => (hrec i j hi hj).toOwn)
        refine ⟨a, cap, vals, fun _ _ _ => False, rfl, v1, fun k x hk => ?_, fun i j hi hj => ?_, fun i j k hk => hk.elim, fun i j i' j' k h _ => h.elim, v4, fun i j b o _ _ h => h.elim⟩
        · obtain ⟨i, j, hi, hj, rfl, rfl⟩ := v3 k x hk
          have e1 : sz' = sz := by rw [← hsz i hi, hs i hi]
          subst e1
          obtain ⟨b, o, e, _, hc⟩ := hcell i j hi hj
          exact ⟨b, o, e, hc⟩
        · have hj' : j < sz := by rw [← hs i hi]; exact hj
          have : vals.getD (i * sz + j) undef = u i j := by rw [List.getD_eq_getElem?_getD, v2 i j hi hj']; rfl
          rw [this]
          exact (hrec i j hi hj).toOwn

theorem OwnR.build {c : List (List TV)} {b cap : Nat} {cur : Array Value} {e : TypeId} {sz : Nat} {vals : List Value} {f : Nat → Nat → Nat → Prop} (hb : w.heap[b]? = some (.cells cur e (0, 0)))
    (hs : ∀ i (h : i < c.length), c[i].length = sz) (hcap : c.length ≤ cap) (hz0 : c.length = 0 → cap = 0) (hmax : cap ≤ maxLen) (hcur : cur.size = cap * sz) (hv : vals.length = c.length * sz) (htake : cur.toList.take (c.length * sz) = vals)
    (hrec : ∀ i j (hi : i < c.length) (hj : j < c[i].length), OwnR w F (f i j) c[i][j] (vals.getD (i * sz + j) undef)) (hnb : ∀ i j, ¬ f i j b) (hdis : ∀ i j i' j' k, f i j k → f i' j' k → i = i' ∧ j = j') :
    OwnR w F (fun k => k = b ∨ ∃ i j, i < c.length ∧ j < sz ∧ f i j k) (.ow c) (.slice (some ⟨b, 0, none⟩) c.length cap) := by
  refine .ow sz (fun i j => vals.getD (i * sz + j) undef) f (fun k => Iff.rfl) hb hs hcap hz0 hmax hcur (fun i j hi hj => ?_) hrec hnb hdis
  have hlt : i * sz + j < c.length * sz := by
    calc i * sz + j < i * sz + sz := by omega
      _ = (i + 1) * sz := by rw [Nat.succ_mul]
      _ ≤ c.length * sz := Nat.mul_le_mul_right _ hi
  have e1 : vals[i * sz + j]? = cur.toList[i * sz + j]? := by rw [← htake, List.getElem?_take_of_lt hlt]
  have hlt2 : i * sz + j < vals.length := by rw [hv]; exact hlt
  rw [List.getD_eq_getElem?_getD, List.getElem?_eq_getElem hlt2, Option.getD_some, ← List.getElem?_eq_getElem hlt2, e1]
  simp
end

theorem run_append_room' {P : Program} (w : World) (t ty e e' : TypeId) (i : TypeInfo) (ht : P.underlying t = some (.slice e)) (hi : P.info? e = some i)
    (g sLen sCap : Nat) (cur : Array Value) (hg : w.heap[g]? = some (.cells cur e' (0, 0)))
    (a : Addr) (m c : Nat) (news : List Value) (hl : news.length = m * i.size) (hnews : ∀ j u, news[j]? = some u → w.cell? (a.add j) = some u) (h1 : ∀ u ∈ news, u.oneCell' = true)
    (hroom : sLen + m ≤ sCap) (hfit : sLen * i.size + news.length ≤ cur.size) :
    (Builtin.append_ #[t, t] ty #[.slice (some ⟨g, 0, none⟩) sLen sCap, .slice (some a) m c]).run P w =
      .ok (.slice (some ⟨g, 0, none⟩) (sLen + m) sCap) (w.setRow g (cur.toList.take (sLen * i.size) ++ news ++ cur.toList.drop (sLen * i.size + news.length)).toArray) := by
  have hf := run_firstCells_some (P := P) w i.size m a m c news hl hnews
  have hst := run_storeCells_at P g (sLen * i.size) e' news 0 cur w hg (by simpa using hfit) h1
  simp only [Nat.add_zero] at hst
  simp [Builtin.append_, run_underlying ht, sizeOf, typeInfo, hi, Builtin.lenOf, hroom, hf, Addr.add_lit, hst]
theorem run_append_zero {P : Program} (w : World) (t ty e : TypeId) (i : TypeInfo) (ht : P.underlying t = some (.slice e)) (hi : P.info? e = some i)
    (s : Option Addr) (n cap : Nat) (hn : n ≤ cap) (a : Option Addr) (c : Nat) :
    (Builtin.append_ #[t, t] ty #[.slice s n cap, .slice a 0 c]).run P w = .ok (.slice s n cap) w := by
  cases s <;> cases a <;> simp [Builtin.append_, run_underlying ht, sizeOf, typeInfo, hi, Builtin.lenOf, hn, Builtin.firstCells, loadCells, loadCellsFrom, storeCells]

section
variable {M : Fm} {σ σ' : St} {H : List TV} {xs : List Value} {ts : Array Value} {w : World} {G : Gh}
theorem addr_add0 (b o j : Nat) : (⟨b, o, none⟩ : Addr).add j = ⟨b, o + j, none⟩ := by
  unfold Addr.add; split
  · rename_i h; rw [h]; rfl
  · rfl
theorem get_app {c c2 : List (List TV)} {i j : Nat} (hi : i < (c ++ c2).length) (hj : j < (c ++ c2)[i].length) : (∃ (h : i < c.length) (h' : j < c[i].length), (c ++ c2)[i][j] = c[i][j]) ∨ (¬ i < c.length ∧ ∃ (h : i - c.length < c2.length) (h' : j < c2[i - c.length].length), (c ++ c2)[i][j] = c2[i - c.length][j]) := by
  by_cases h : i < c.length
  · left
    have e : (c ++ c2)[i] = c[i] := List.getElem_append_left h
    refine ⟨h, by rw [← e]; exact hj, ?_⟩
    simp only [e]
  · right
    have hlt : i - c.length < c2.length := by rw [List.length_append] at hi; omega
    have e : (c ++ c2)[i] = c2[i - c.length] := List.getElem_append_right (by omega)
    refine ⟨h, hlt, by rw [← e]; exact hj, ?_⟩
    simp only [e]

theorem Inv.append {P : Program} (hI : Inv M σ H xs ts w G) {c c2 : List (List TV)} {X : TV} {vS vX : Value} (hH : H = [.ow c, X]) (hxs : xs = [vS, vX]) (hX : X = .ow c2 ∨ X = .sl c2) (t ty e : TypeId) (i : TypeInfo) (z : Value)
    (ht : P.underlying t = some (.slice e)) (hi : P.info? e = some i) (hz : i.zero = some z) (hzs : z.cells.size = i.size) (hpos : 0 < i.size)
    (hs1 : ∀ k (h : k < c.length), c[k].length = i.size) (hs2 : ∀ k (h : k < c2.length), c2[k].length = i.size) (hb1 : c.length + c2.length ≤ 1099511627776) (hb2 : (c.length + c2.length) * i.bytes ≤ 140737488355328) :
    ∃ v' w' G', (Builtin.append_ #[t, t] ty #[vS, vX]).run P w = .ok v' w' ∧ Inv M σ [.ow (c ++ c2)] [v'] ts w' G' ∧ Moves M w σ H G w' σ [.ow (c ++ c2)] G' ∧ G'.β = G.β := by
  have hownS := hI.hand_own (j := 0) (by rw [hH]; simp) (by simp [hH])
  have hownX := hI.hand_own (j := 1) (by rw [hH]; simp) (by rcases hX with h | h <;> simp [hH, h])
  simp only [hH, hxs, List.getElem_cons_zero, List.getElem_cons_succ, List.getD_cons_zero, List.getD_cons_succ] at hownS hownX
  obtain ⟨aX, capX, news, g, rfl, hnl, hnr, hnrec, hnfp, hndis, hn1, _⟩ := hownX.rows hX hs2
  have hmx : c.length + c2.length ≤ maxLen := by unfold maxLen; omega
  -- f and g do not meet
  have h01 : ∀ k, G.φ M.hr 0 k → ¬ G.φ M.hr 1 k := fun k h h' => by have := (hI.core.dis _ _ _ _ k h h').2; omega
  by_cases hm : c2.length = 0
  · have hc2 : c2 = [] := List.eq_nil_of_length_eq_zero hm
    subst hc2
    obtain ⟨a, cap, rfl, hn⟩ := hownS.hdr
    obtain ⟨G', h1, h2, h3⟩ := hI.rehand (w' := w) (t' := .ow c) (v' := .slice a c.length cap) (fp' := G.φ M.hr 0) (fun _ _ _ => rfl) (Nat.le_refl _) rfl rfl rfl (fun k hk => .inl ⟨0, hk⟩)
      (hownS.frame (fun _ _ => rfl) (fun _ _ _ => rfl) fun k h hk => ⟨h, hk⟩)
    exact ⟨_, w, G', run_append_zero w t ty e i ht hi a c.length cap hn aX capX, by simpa using h1, by simpa using h2, h3⟩
  · -- the source lies somewhere
    have hnpos : 0 < news.length := by rw [hnl]; exact Nat.mul_pos (by omega) hpos
    obtain ⟨bX, oX, rfl, _⟩ := hnr 0 _ (List.getElem?_eq_getElem hnpos)
    have hnr' : ∀ j u, news[j]? = some u → w.cell? ((⟨bX, oX, none⟩ : Addr).add j) = some u := fun j u hj => by
      obtain ⟨b', o', e1, e2⟩ := hnr j u hj
      injection e1 with e1; injection e1 with e1 e3; subst e1; subst e3
      rw [addr_add0]; exact e2
    have hszall : ∀ k (h : k < (c ++ c2).length), (c ++ c2)[k].length = i.size := by
      intro k h
      by_cases hk : k < c.length
      · rw [List.getElem_append_left hk]; exact hs1 k hk
      · rw [List.getElem_append_right (by omega)]; exact hs2 _ _
    have hla : (c ++ c2).length = c.length + c2.length := List.length_append
    -- a new row that holds all
    have newRow : ∀ (vals : List Value) (f : Nat → Nat → Nat → Prop) (cap' : Nat) (rest : Array Value), vals.length = c.length * i.size → c.length + c2.length ≤ cap' → cap' ≤ maxLen → rest.size = (cap' - (c.length + c2.length)) * i.size →
        (∀ k j (hk : k < c.length) (hj : j < c[k].length), OwnR w (G.F M.A) (f k j) c[k][j] (vals.getD (k * i.size + j) undef)) → (∀ k j q, f k j q → k < c.length ∧ j < i.size ∧ G.φ M.hr 0 q) → (∀ a b a' b' k, f a b k → f a' b' k → a = a' ∧ b = b') →
        ∃ G', Inv M σ [.ow (c ++ c2)] [.slice (some ⟨w.heap.size, 0, none⟩) (c.length + c2.length) cap'] ts (w.drew.alloc (.cells (vals.toArray ++ news.toArray ++ rest) e)) G' ∧
          Moves M w σ H G (w.drew.alloc (.cells (vals.toArray ++ news.toArray ++ rest) e)) σ [.ow (c ++ c2)] G' ∧ G'.β = G.β := by
      intro vals f cap' rest hvl hcap' hmax' hrest hfrec hffp hfdis
      have hw : ∀ k, k < w.heap.size → (w.drew.alloc (.cells (vals.toArray ++ news.toArray ++ rest) e)).heap[k]? = w.heap[k]? := fun k hk => Below.heap_alloc w.drew _ k hk
      have hnew : (w.drew.alloc (.cells (vals.toArray ++ news.toArray ++ rest) e)).heap[w.heap.size]? = some (.cells (vals.toArray ++ news.toArray ++ rest) e (0, 0)) := by
        show (w.heap.push _)[w.heap.size]? = _
        simp
      have hvn : (vals ++ news).length = (c ++ c2).length * i.size := by rw [List.length_append, hvl, hnl, hla, Nat.add_mul]
      refine hI.rehand (fun k hk _ => hw k hk) (by simp) rfl rfl rfl (fun k hk => ?_) (hla ▸ OwnR.build (vals := vals ++ news) (f := fun a b k => if a < c.length then f a b k else g (a - c.length) b k) hnew hszall (by rw [hla]; exact hcap') (by rw [hla]; omega) hmax' ?_ hvn ?_ ?_ ?_ ?_)
      · rcases hk with rfl | ⟨a, b, _, _, hk⟩
        · exact .inr (Nat.le_refl _)
        · left
          split at hk
          · exact ⟨0, (hffp _ _ k hk).2.2⟩
          · exact ⟨1, (hnfp _ _ k hk).2.2⟩
      · simp only [Array.size_append, List.size_toArray, hvl, hnl, hrest, ← Nat.add_mul]
        congr 1; omega
      · rw [← hvn]
        simp only [Array.toList_append, List.append_assoc]
        rw [← List.append_assoc]
        exact List.take_left
      · intro a b ha hb
        rcases get_app ha hb with ⟨h, h', e1⟩ | ⟨h, h2, h', e1⟩
        · rw [e1]
          simp only [if_pos h]
          have e2 : (vals ++ news).getD (a * i.size + b) undef = vals.getD (a * i.size + b) undef := by
            have hlt : a * i.size + b < vals.length := by
              rw [hvl]
              have := hs1 a h
              calc a * i.size + b < a * i.size + i.size := by omega
                _ = (a + 1) * i.size := by rw [Nat.succ_mul]
                _ ≤ c.length * i.size := Nat.mul_le_mul_right _ h
            simp only [List.getD_eq_getElem?_getD, List.getElem?_append_left hlt]
          rw [e2]
          exact (hfrec a b h h').frame (fun k hk => hw k (hI.core.live (hffp _ _ k hk).2.2)) (fun k _ hk => hw k hk) (fun k hF hk => ⟨hF, hk⟩)
        · rw [e1]
          simp only [if_neg h]
          have e2 : (vals ++ news).getD (a * i.size + b) undef = news.getD ((a - c.length) * i.size + b) undef := by
            have e3 : (a - c.length) * i.size + b = a * i.size + b - c.length * i.size := by
              rw [Nat.sub_mul]
              have : c.length * i.size ≤ a * i.size := Nat.mul_le_mul_right _ (by omega)
              omega
            have hge : vals.length ≤ a * i.size + b := by
              rw [hvl]
              have : c.length * i.size ≤ a * i.size := Nat.mul_le_mul_right _ (by omega)
              omega
            simp only [List.getD_eq_getElem?_getD, List.getElem?_append_right hge, hvl, e3]
          rw [e2]
          exact (hnrec _ b h2 h').frame (fun k hk => hw k (hI.core.live (hnfp _ _ k hk).2.2)) (fun k _ hk => hw k hk) (fun k hF hk => ⟨hF, hk⟩)
      · intro a b hk
        split at hk
        · have := hI.core.live (hffp _ _ _ hk).2.2; omega
        · have := hI.core.live (hnfp _ _ _ hk).2.2; omega
      · intro a b a' b' k h h'
        split at h <;> split at h'
        · exact hfdis _ _ _ _ k h h'
        · exact absurd (hnfp _ _ k h').2.2 (h01 k (hffp _ _ k h).2.2)
        · exact absurd (hnfp _ _ k h).2.2 (h01 k (hffp _ _ k h').2.2)
        · have := hndis _ _ _ _ k h h'; omega
    cases hownS with
    | nil hfp =>
      have hr := run_append_nil (P := P) w t ty e i z ht hi hz ⟨bX, oX, none⟩ c2.length capX news hnl hnr' (by omega) (by unfold maxLen at hmx; omega) (by simp at hb2; omega)
      have hge := grownCap_ge w c2.length 0 e
      have hcm := grownCap_le_maxLen w c2.length 0 e (by simpa using hmx)
      obtain ⟨G', h1, h2, h3⟩ := newRow [] (fun _ _ _ => False) (grownCap w c2.length 0 e) (Builtin.zeroCells z.cells (grownCap w c2.length 0 e - c2.length)) (by simp) (by simpa using hge) hcm (by simp [size_zeroCells, hzs]) (by simp) (by simp) (by simp)
      simp only [List.length_nil, Nat.zero_add, Array.empty_append] at h1 h2
      exact ⟨_, _, G', hr, by simpa using h1, by simpa using h2, h3⟩
    | @ow _ _ b cap cur e' sz u f hfp hb hsz hcap hz0 hmax hcur hcell hrec hnb hdis =>
      -- its rows again, with the block at hand
      have hOW : OwnR w (G.F M.A) (G.φ M.hr 0) (.ow c) (.slice (some ⟨b, 0, none⟩) c.length cap) := .ow sz u f hfp hb hsz hcap hz0 hmax hcur hcell hrec hnb hdis
      by_cases hroom : c.length + c2.length ≤ cap
      · -- there is room
        have hlc : c.length ≠ 0 := fun h => by have := hz0 h; omega
        have hsz' : sz = i.size := by rw [← hsz 0 (by omega), hs1 0 (by omega)]
        subst hsz'
        obtain ⟨a', cap2, vals, f', e1, hvl, hvr, hvrec, hvfp, hvdis, hv1, hvnb0⟩ := hOW.rows (.inl rfl) hs1
        injection e1 with e1 _ e2
        subst e1; subst e2
        have hvnb : ∀ i j, ¬ f' i j b := fun i j => hvnb0 i j b 0 rfl rfl
        have hfit : c.length * i.size + news.length ≤ cur.size := by rw [hnl, hcur, ← Nat.add_mul]; exact Nat.mul_le_mul_right _ hroom
        have hr := run_append_room' (P := P) w t ty e e' i ht hi b c.length cap cur hb ⟨bX, oX, none⟩ c2.length capX news hnl hnr' hn1 hroom hfit
        have hvals : cur.toList.take (c.length * i.size) = vals := by
          apply List.ext_getElem?
          intro k
          by_cases hk : k < c.length * i.size
          · rw [List.getElem?_take_of_lt hk]
            have hk2 : k < vals.length := by omega
            obtain ⟨b', o', e3, e4⟩ := hvr k _ (List.getElem?_eq_getElem hk2)
            injection e3 with e3; injection e3 with e3 e5; subst e3; subst e5
            rw [cell_of_row w b _ _ _ _ hb, Nat.zero_add] at e4
            rw [List.getElem?_eq_getElem hk2, ← e4]
            simp
          · rw [List.getElem?_eq_none (by simp; omega), List.getElem?_eq_none (by omega)]
        have hw : ∀ k, k ≠ b → (w.setRow b (cur.toList.take (c.length * i.size) ++ news ++ cur.toList.drop (c.length * i.size + news.length)).toArray).heap[k]? = w.heap[k]? := fun k hk => setRow_other w b k _ hk
        have hbφ : G.φ M.hr 0 b := (hfp b).2 (.inl rfl)
        have hnew := setRow_heap w b cur (cur.toList.take (c.length * i.size) ++ news ++ cur.toList.drop (c.length * i.size + news.length)).toArray e' (0, 0) hb
        have hvn : (vals ++ news).length = (c ++ c2).length * i.size := by rw [List.length_append, hvl, hnl, hla, Nat.add_mul]
        refine Exists.elim (?_ : ∃ G', Inv M σ [.ow (c ++ c2)] [.slice (some ⟨b, 0, none⟩) (c ++ c2).length cap] ts (w.setRow b (cur.toList.take (c.length * i.size) ++ news ++ cur.toList.drop (c.length * i.size + news.length)).toArray) G' ∧
          Moves M w σ H G (w.setRow b (cur.toList.take (c.length * i.size) ++ news ++ cur.toList.drop (c.length * i.size + news.length)).toArray) σ [.ow (c ++ c2)] G' ∧ G'.β = G.β) fun G' ⟨h1, h2, h3⟩ => ⟨_, _, G', by rw [hla] at h1; rw [show (Value.slice (some ⟨b, 0, none⟩) (c.length + c2.length) cap) = _ from rfl] at h1; exact hr, by simpa [hla] using h1, h2, h3⟩
        refine hI.rehand (t' := .ow (c ++ c2)) (v' := .slice (some ⟨b, 0, none⟩) (c ++ c2).length cap) (w' := w.setRow b (cur.toList.take (c.length * i.size) ++ news ++ cur.toList.drop (c.length * i.size + news.length)).toArray)
          (fun k _ hk => hw k fun e => hk 0 (e ▸ hbφ)) (by simp) rfl rfl rfl (fun k hk => ?_) (OwnR.build (vals := vals ++ news) (f := fun a b k => if a < c.length then f' a b k else g (a - c.length) b k) hnew hszall (by rw [hla]; exact hroom) (by rw [hla]; omega) hmax ?_ hvn ?_ ?_ ?_ ?_)
        · rcases hk with rfl | ⟨a, d, _, _, hk⟩
          · exact .inl ⟨0, hbφ⟩
          · left
            split at hk
            · exact ⟨0, (hvfp _ _ k hk).2.2⟩
            · exact ⟨1, (hnfp _ _ k hk).2.2⟩
        · simp only [List.size_toArray, List.length_append, List.length_take, List.length_drop, Array.length_toList]
          omega
        · rw [← hvn, hvals]
          exact List.take_left
        · intro a d ha hd
          rcases get_app ha hd with ⟨h, h', e1⟩ | ⟨h, h2, h', e1⟩
          · rw [e1]
            simp only [if_pos h]
            have e2 : (vals ++ news).getD (a * i.size + d) undef = vals.getD (a * i.size + d) undef := by
              have hlt : a * i.size + d < vals.length := by
                rw [hvl]
                have := hs1 a h
                calc a * i.size + d < a * i.size + i.size := by omega
                  _ = (a + 1) * i.size := by rw [Nat.succ_mul]
                  _ ≤ c.length * i.size := Nat.mul_le_mul_right _ h
              simp only [List.getD_eq_getElem?_getD, List.getElem?_append_left hlt]
            rw [e2]
            refine (hvrec a d h h').frame (fun k hk => hw k fun e => ?_) (fun k hF _ => hw k fun e => hF.2.1 _ _ (e ▸ hbφ)) (fun k hF hk => ⟨hF, hk⟩)
            exact hvnb _ _ (e ▸ hk)
          · rw [e1]
            simp only [if_neg h]
            have e2 : (vals ++ news).getD (a * i.size + d) undef = news.getD ((a - c.length) * i.size + d) undef := by
              have e3 : (a - c.length) * i.size + d = a * i.size + d - c.length * i.size := by
                rw [Nat.sub_mul]
                have : c.length * i.size ≤ a * i.size := Nat.mul_le_mul_right _ (by omega)
                omega
              have hge : vals.length ≤ a * i.size + d := by
                rw [hvl]
                have : c.length * i.size ≤ a * i.size := Nat.mul_le_mul_right _ (by omega)
                omega
              simp only [List.getD_eq_getElem?_getD, List.getElem?_append_right hge, hvl, e3]
            rw [e2]
            refine (hnrec _ d h2 h').frame (fun k hk => hw k fun e => ?_) (fun k hF _ => hw k fun e => hF.2.1 _ _ (e ▸ hbφ)) (fun k hF hk => ⟨hF, hk⟩)
            exact h01 b hbφ (e ▸ (hnfp _ _ k hk).2.2)
        · intro a d hk
          split at hk
          · exact hvnb _ _ hk
          · exact h01 b hbφ (hnfp _ _ _ hk).2.2
        · intro a d a' d' k h h'
          split at h <;> split at h'
          · exact hvdis _ _ _ _ k h h'
          · exact absurd (hnfp _ _ k h').2.2 (h01 k (hvfp _ _ k h).2.2)
          · exact absurd (hnfp _ _ k h).2.2 (h01 k (hvfp _ _ k h').2.2)
          · have := hndis _ _ _ _ k h h'; omega
      · obtain ⟨a', cap2, vals, f', e1, hvl, hvr, hvrec, hvfp, hvdis, hv1, _⟩ := hOW.rows (.inl rfl) hs1
        injection e1 with e1 _ e2
        subst e1; subst e2
        have holds : ∀ j u, vals[j]? = some u → w.cell? ((⟨b, 0, none⟩ : Addr).add j) = some u := fun j u hj => by
          obtain ⟨b', o', e1, e2⟩ := hvr j u hj
          injection e1 with e1; injection e1 with e1 e3; subst e1; subst e3
          rw [addr_add0]; exact e2
        have hr := run_append_grow (P := P) w t ty e i z ht hi hz ⟨b, 0, none⟩ c.length cap vals hvl holds ⟨bX, oX, none⟩ c2.length capX news hnl hnr' (by omega) (by unfold maxLen at hmx; omega) (growslice_fits (by omega) hb2)
        have hge := grownCap_ge w (c.length + c2.length) cap e
        have hcm := grownCap_le_maxLen w (c.length + c2.length) cap e hmx
        obtain ⟨G', h1, h2, h3⟩ := newRow vals f' (grownCap w (c.length + c2.length) cap e) (Builtin.zeroCells z.cells (grownCap w (c.length + c2.length) cap e - (c.length + c2.length))) hvl hge hcm (by simp [size_zeroCells, hzs]) hvrec hvfp hvdis
        exact ⟨_, _, G', hr, h1, h2, h3⟩
end
end Go.Proofs.Ytkmbahlpmoljpaa
/- What each operation does with values as trees; definitions. -/
set_option linter.unusedVariables false
set_option linter.unusedSimpArgs false
namespace Go.Proofs.Ytkmbahlpmoljpaa
open Go.RowKit

def takeV (mv : Bool) : TV → SP (List TV × Bool)
  | .agg l => (takeL mv l).bind fun l' => .ret (l', true)
  | t => (take1 mv t).bind fun t' => .ret ([t'], false)
def wr (d : Nat) (t : TV) : SP Unit := .wrT d t (.ret ())
def shaped (agg : Bool) (l : List TV) : TV := if agg then .agg l else l.headD .dead
/-- Cells in hand go to a slot. -/
def inst (d : Nat) (agg : Bool) (l : List TV) : SP Unit := (names d l).bind fun l' => wr d (shaped agg l')

def loadIp (n : Option Nat) (cs : List TV) : Option TV :=
  match n with
  | none => match cs with
    | .v x :: _ => some (.v x)
    | .sl c :: _ => some (.sl c)
    | _ => none
  | some n => if n ≤ cs.length && (cs.take n).all (fun t => match t with | .v _ => true | .sl _ => true | _ => false) then some (.agg (cs.take n)) else none
def okCell : TV → Bool
  | .v _ => true
  | .sl _ => true
  | .ow [] => true
  | _ => false
def takeParts (mv : Bool) : List (Nat × Nat × Opd) → SP (List TV)
  | [] => .ret []
  | (_, n, x) :: r => (opd x).bind fun t => (takeL mv (cellsT t)).bind fun l => if l.length = n then (takeParts mv r).bind fun l' => .ret (l ++ l') else .fail
def placeCells (cells : List TV) (off : Nat) : List TV → List TV
  | [] => cells
  | t :: r => placeCells (cells.set off t) (off + 1) r
/-- The cells of a struct, out of its parts' cells one behind the other. -/
def assemble (cells : List TV) : List (Nat × Nat × Opd) → List TV → List TV
  | [], _ => cells
  | (off, n, _) :: r, l => assemble (placeCells cells off (l.take n)) r (l.drop n)
def chunks (sz : Nat) : Nat → List TV → List (List TV)
  | 0, _ => []
  | n + 1, l => l.take sz :: chunks sz n (l.drop sz)
def isV : TV → Bool
  | .v _ => true
  | _ => false
def contentOf : TV → SP (List (List TV))
  | .sl c => .ret c
  | .ow [] => .ret []
  | .pk p vs => (chk p (p.hops.length + 1) vs).bind fun _ => (getPl p).bind fun t => match t with | .ow c => .ret c | _ => .fail
  | .pw p vs _ lo n => (chk p (p.hops.length + 1) vs).bind fun _ => (getPl p).bind fun t => match t with | .ow c => .ret ((c.drop lo).take n) | _ => .fail
  | _ => .fail
def mapO {α β : Type} (f : α → SP β) : List α → SP (List β)
  | [] => .ret []
  | x :: r => (f x).bind fun y => (mapO f r).bind fun l => .ret (y :: l)
def foldMM (mx : Bool) (k : IntKind) : Int → List Value → Option Int
  | a, [] => some a
  | a, .int k' b :: r => if k' = k then foldMM mx k (if mx then (if a < b then b else a) else (if b < a then b else a)) r else none
  | _, _ => none
/-- An argument, ready to be handed over: shared data, or a pointer with what it leads to. -/
def argOf (i : Nat) : Option Nat × Opd → SP (TV × Option (Place × List TV))
  | (none, x) => (opd x).bind fun t => match t with
    | .fn f cap => .ret (.fn f cap, none)
    | t => (takeV false t).bind fun l => .ret (shaped l.2 l.1, none)
  | (some n, x) => (opd x).bind fun t => match t with
    | .ptr p vs => (chk p p.hops.length vs).bind fun _ => .ret (.ptr ⟨2 * i + 2, 0, []⟩ [0], some (p, List.replicate n .dead))
    | _ => .fail

def bytesC (s : ByteArray) : List (List TV) := s.data.toList.map fun b => [.v (.int .u8 b.toNat)]
def bnums : List (List TV) → Option (List Int)
  | [] => some []
  | [.v (.int .u8 n)] :: r => (bnums r).map (n :: ·)
  | _ => none
def bstr (c : List (List TV)) : Option ByteArray := (bnums c).map fun ns => ns.foldl (fun r n => r.push (UInt8.ofNat n.toNat)) ByteArray.empty
/-- Cells written one behind the other into rows. -/
def patchF (sz : Nat) : List (List TV) → Nat → List Value → List (List TV)
  | c, _, [] => c
  | c, o, v :: r => patchF sz (c.modify (o / sz) fun el => el.modify (o % sz) fun _ => .v v) (o + 1) r
def cpyC (sz : Nat) (c c2 : List (List TV)) (lo n : Nat) : Option (Nat × Option (List (List TV))) :=
  match flatsOf (c2.take (min c2.length n)).flatten with
  | some [] => if decide (0 < sz) && c2.all (fun e => e.length == sz) then some (min c2.length n, none) else none
  | some (v :: vs) => if decide (0 < sz) && c.all (fun e => e.length == sz) && c2.all (fun e => e.length == sz) && decide (lo + min c2.length n ≤ c.length) && ((c.drop lo).take (min c2.length n)).all (fun e => e.all isV) && (v :: vs).all vflat
    then some (min c2.length n, some (patchF sz c (lo * sz) (v :: vs))) else none
  | none => none
def cpyTo (d : Nat) (p : Place) (tv : TV) : Option (Nat × Option (List (List TV))) → SP Unit
  | some (m, some c') => .wrC p.root p.off (setT tv p.hops (.ow c')) (wr d (.v (.int .i64 m)))
  | some (m, none) => wr d (.v (.int .i64 m))
  | none => .fail
def ev1 (d : Nat) : TOp → SP Unit
  | .mov x => (opd x).bind fun t => match t with
    | .ow c => (match x with | .c _ => inst d false [.ow c] | _ => .fail)
    | .agg l => if l.any isOw then .fail else wr d (.agg l)
    | t => wr d t
  | .asn mv x => (opd x).bind fun t => match t with
    | .ptr p vs => wr d (.ptr p vs)
    | .ip cs => wr d (.ip cs)
    | .fn f cap => wr d (.fn f cap)
    | t => (takeV mv t).bind fun l => inst d l.2 l.1
  | .pick c a b => (opd c).bind fun tc => match tc with
    | .v (.bool c) => (opd (if c then a else b)).bind fun t => match t with | .v x => wr d (.v x) | _ => .fail
    | _ => .fail
  | .alloc z => if (z.map ofCell).all okCell then .new (2 * d + 2) (z.map ofCell) (.rdV (2 * d + 2, 0, 0) fun g => wr d (.ptr ⟨2 * d + 2, 0, []⟩ [g])) else .fail
  | .box n mv x => (opd x).bind fun t => (takeL mv (cellsT t)).bind fun l => if l.length = n then .new (2 * d + 2) l (.rdV (2 * d + 2, 0, 0) fun g => wr d (.ptr ⟨2 * d + 2, 0, []⟩ [g])) else .fail
  | .load n a => (opd a).bind fun t => match t with
    | .ptr p vs => (chk p p.hops.length vs).bind fun _ => match n with
      | none => (getPl p).bind fun t => (peek1 p t).bind fun t' => wr d t'
      | some n => (peekL p n).bind fun l => wr d (.agg l)
    | .ip cs => match loadIp n cs with | some t => wr d t | none => .fail
    | _ => .fail
  | .store n mv a x => (opd a).bind fun ta => match ta with
    | .ptr p vs => (opd x).bind fun tx => (takeL mv (cellsT tx)).bind fun l => if l.length = n then (chk p p.hops.length vs).bind fun _ => putL p l else .fail
    | _ => .fail
  | .nilc x => (opd x).bind fun t => match t with
    | .ptr p vs => (chk p p.hops.length vs).bind fun _ => wr d (.ptr p vs)
    | .ip cs => wr d (.ip cs)
    | .fn f cap => wr d (.fn f cap)
    | _ => .fail
  | .fld off a => (opd a).bind fun t => match t with
    | .ptr p vs => (chk p p.hops.length vs).bind fun _ => if p.fits off then wr d (.ptr (p.add off) vs) else .fail
    | .ip cs => if off < cs.length then wr d (.ip (cs.drop off)) else .fail
    | _ => .fail
  | .fldv off n x => (opd x).bind fun t => match t with
    | .agg l => match n with
      | none => if off < l.length then wr d (l.getD off .dead) else .fail
      | some n => if off + n ≤ l.length then wr d (.agg ((l.drop off).take n)) else .fail
    | _ => .fail
  | .idx sz x i => (opd x).bind fun t => (opd i).bind fun ti => (natOf ti).bind fun k => match t with
    | .pk p vs => (chk p (p.hops.length + 1) vs).bind fun _ => (getPl p).bind fun t => match t with
      | .ow c => if k < c.length && (c.getD k []).length == sz && decide (0 < sz) then wr d (.ptr (p.at_ k sz) vs) else .fail
      | _ => .fail
    | .pw p vs sz' lo n => (chk p (p.hops.length + 1) vs).bind fun _ => (getPl p).bind fun t => match t with
      | .ow c => if k < n && (c.getD (lo + k) []).length == sz && sz' == sz && decide (0 < sz) then wr d (.ptr (p.at_ (lo + k) sz) vs) else .fail
      | _ => .fail
    | .sl c => if k < c.length && (c.getD k []).length == sz && decide (0 < sz) then wr d (.ip (c.getD k [])) else .fail
    | _ => .fail
  | .ext x i => (opd x).bind fun t => match t with
    | .tup l => if i < l.length then wr d (l.getD i .dead) else .fail
    | _ => .fail
  | .bin op x y => (opd x).bind fun a => (opd y).bind fun b => (valOf a).bind fun a => (valOf b).bind fun b => (spOpt (evalBin op a b)).bind fun r => if vflat r then wr d (.v r) else .fail
  | .bnb neg x y => (opd x).bind fun a => (opd y).bind fun b => (valOf a).bind fun a => (valOf b).bind fun b => match a, b with
    | .bool a, .bool b => wr d (.v (.bool (if neg then !(a == b) else a == b)))
    | _, _ => .fail
  | .eqa ks neg x y => (opd x).bind fun a => (opd y).bind fun b => match a, b with
    | .agg a, .agg b => (spOpt (flatsOf a)).bind fun xs => (spOpt (flatsOf b)).bind fun ys => (spOpt (eqFlats ks xs ys)).bind fun r => wr d (.v (.bool (if neg then !r else r)))
    | _, _ => .fail
  | .un op x => (opd x).bind fun a => (valOf a).bind fun a => (spOpt (evalUn op a)).bind fun r => if vflat r then wr d (.v r) else .fail
  | .conv k x => (opd x).bind fun a => (valOf a).bind fun a => match a with | .int _ n => wr d (.v (.int k (k.wrap n))) | _ => .fail
  | .bld z mv parts => if (z.map ofCell).all okCell then (takeParts mv parts).bind fun l => (names d l).bind fun l' => wr d (.agg (assemble (z.map ofCell) parts l')) else .fail
  | .bsl sz mv len parts => (takeParts mv (parts.map fun p => (0, sz, p))).bind fun l => if parts.length = len then inst d false [.ow (chunks sz len l)] else .fail
  | .mks sz z l c => if (z.map ofCell).all okCell && z.length == sz then (opd l).bind fun tl => (opd c).bind fun tc => (natOf tl).bind fun n => (natOf tc).bind fun m =>
      if n = m && decide (n * sz ≤ 16777216) then inst d false [.ow (List.replicate n (z.map ofCell))] else .fail else .fail
  | .slc sz x lo hi => (opd x).bind fun t => (lenOfT t).bind fun n => (optNat lo 0).bind fun l => (optNat hi n).bind fun h => if l ≤ h && decide (h ≤ n) then
      match t with
      | .sl c => if c.all (fun e => e.length == sz) then wr d (.sl ((c.drop l).take (h - l))) else .fail
      | .pk p vs => (getPl p).bind fun t => match t with | .ow c => if c.all (fun e => e.length == sz) then wr d (.pw p vs sz l (h - l)) else .fail | _ => .fail
      | .pw p vs sz' lo' _ => if sz' = sz then wr d (.pw p vs sz (lo' + l) (h - l)) else .fail
      | .ow [] => inst d false [.ow []]
      | _ => .fail
      else .fail
  | .app sz bytes mv s x => (opd s).bind fun ts => (opd x).bind fun tx => (take1 true ts).bind fun s => (take1 mv tx).bind fun x =>
    match s, x with
    | .ow c, .ow c2 => if (c ++ c2).all (fun e => e.length == sz) && decide (c.length + c2.length ≤ 1099511627776) && decide ((c.length + c2.length) * bytes ≤ 140737488355328) then inst d false [.ow (c ++ c2)] else .fail
    | .ow c, .sl c2 => if (c ++ c2).all (fun e => e.length == sz) && decide (c.length + c2.length ≤ 1099511627776) && decide ((c.length + c2.length) * bytes ≤ 140737488355328) then inst d false [.ow (c ++ c2)] else .fail
    | _, _ => .fail
  | .len x => (opd x).bind fun t => (lenOfT t).bind fun n => wr d (.v (.int .i64 n))
  | .lens x => (opd x).bind fun t => match t with
    | .v (.string s) => wr d (.v (.int .i64 s.size))
    | _ => .fail
  | .ixs x i => (opd x).bind fun t => (opd i).bind fun ti => (natOf ti).bind fun k => match t with
    | .v (.string s) => match s[k]? with | some b => wr d (.v (.int .u8 b.toNat)) | none => .fail
    | _ => .fail
  | .mm mx xs => (mapO (fun x => (opd x).bind valOf) xs).bind fun l => match l with
    | .int k a :: r => (spOpt (foldMM mx k a r)).bind fun m => wr d (.v (.int k m))
    | _ => .fail
  | .mkf f caps => (mapO (fun x => (opd x).bind fun t => match t with | .ptr p vs => .ret (.ptr p vs) | .v x => .ret (.v x) | .sl c => .ret (.sl c) | _ => .fail) caps).bind fun l => wr d (.fn f l)
  | .idxa n sz x i => (opd x).bind fun t => (opd i).bind fun ti => (natOf ti).bind fun k => match t with
    | .ptr p vs => (chk p p.hops.length vs).bind fun _ => if k < n && p.fits (k * sz) then wr d (.ptr (p.add (k * sz)) vs) else .fail
    | _ => .fail
  | .s2b x => (opd x).bind fun t => match t with
    | .v (.string s) => if s.size < 4294967296 then wr d (.sl (bytesC s)) else .fail
    | _ => .fail
  | .b2s x => (opd x).bind fun t => (take1 false t).bind fun t' => match t' with
    | .sl c => (spOpt (bstr c)).bind fun s => wr d (.v (.string s))
    | .ow [] => wr d (.v (.string .empty))
    | _ => .fail
  | .cpy sz x y => (opd x).bind fun t => (opd y).bind fun u => (contentOf u).bind fun c2 => match t with
    | .pk p vs => (chk p (p.hops.length + 1) vs).bind fun _ => .rdC p.root p.off fun tv => match getT tv p.hops with
      | some (.ow c) => cpyTo d p tv (cpyC sz c c2 0 c.length)
      | _ => .fail
    | .pw p vs sz' lo n => (chk p (p.hops.length + 1) vs).bind fun _ => .rdC p.root p.off fun tv => match getT tv p.hops with
      | some (.ow c) => if sz' = sz then cpyTo d p tv (cpyC sz c c2 lo n) else .fail
      | _ => .fail
    | _ => .fail
  | .call _ _ _ => .fail
end Go.Proofs.Ytkmbahlpmoljpaa
/- Operations of the program, and the same with values as trees: the first ones; no condition. -/
set_option linter.unusedVariables false
set_option linter.unusedSimpArgs false
namespace Go.Proofs.Ytkmbahlpmoljpaa
open Go.RowKit

def compOpd : Operand → Option Opd
  | .tmp t => some (.t t)
  | .const v => some (.c v)
  | .func f => some (.f f)
  | .global _ => none
theorem compOpd_t {x' : Operand} {i : Nat} (h : compOpd x' = some (.t i)) : x' = .tmp i := by
  cases x' <;> simp [compOpd] at h; rw [h]

section
variable {P : Program} {M : Fm} {σ σ' : St} {ts : Array Value} {w : World} {G : Gh} {a : Act} {o : Oper}

theorem ofCell_ok {F : Nat → Prop} {V : Vs} {C : Cs} (x : Value) : TmR w F V C G (ofCell x) x := by
  unfold ofCell
  split
  · exact .nil
  · split
    · rename_i h; exact .v h
    · exact .dead
theorem ofConst_ok {F : Nat → Prop} {V : Vs} {C : Cs} (x : Value) : TmR w F V C G (ofConst x) x := by
  unfold ofConst
  split
  · rename_i cs
    refine .agg (by simp) fun j hj => ?_
    have hj' : j < cs.size := by simpa using hj
    have e : cs.getD j undef = cs[j] := by simp [hj']
    rw [e]
    simp only [List.getElem_map, Array.getElem_toList]
    exact ofCell_ok _
  · exact ofCell_ok _
theorem opd_ok {F : Nat → Prop} (hI : ∀ i, TmR w F σ.v (extC M σ []) G (σ.t i) (a.tmps.getD i undef)) {x : Opd} {x' : Operand} (hx : compOpd x' = some x) {t : TV} (hr : (opd x).run σ = some (t, σ')) : σ' = σ ∧ TmR w F σ.v (extC M σ []) G t (a.eval x') := by
  cases x' with
  | tmp i =>
    simp only [compOpd, Option.some.injEq] at hx
    subst hx
    simp only [opd, SP.run, Option.some.injEq, Prod.mk.injEq] at hr
    obtain ⟨rfl, rfl⟩ := hr
    exact ⟨rfl, hI i⟩
  | const v =>
    simp only [compOpd, Option.some.injEq] at hx
    subst hx
    simp only [opd, SP.run, Option.some.injEq, Prod.mk.injEq] at hr
    obtain ⟨rfl, rfl⟩ := hr
    exact ⟨rfl, ofConst_ok v⟩
  | func f =>
    simp only [compOpd, Option.some.injEq] at hx
    subst hx
    simp only [opd, SP.run, Option.some.injEq, Prod.mk.injEq] at hr
    obtain ⟨rfl, rfl⟩ := hr
    exact ⟨rfl, .fn (by simp) (by simp)⟩
  | global g => simp [compOpd] at hx

/-- What an operation comes to. -/
def Sim1 (P : Program) (M : Fm) (σ' : St) (a : Act) (o : Oper) (w : World) : Prop :=
  ∃ nx x w' G', (execOp a.eval o).run P w = .ok nx w' ∧ (nx = .value x ∨ nx = .skip ∧ x = undef) ∧ Inv M σ' [] [] (a.put o.dst x).tmps w' G'

theorem wr_ok (hI : Inv M σ [] [] a.tmps w G) {d : Nat} (hd : o.dst = some d) (hN : d < M.N) {t : TV} {x : Value} (ht : TmR w (G.F M.A) σ.v (extC M σ []) G t x) (hr : (wr d t).run σ = some ((), σ')) (hrun : (execOp a.eval o).run P w = .ok (.value x) w) : Sim1 P M σ' a o w := by
  simp only [wr, SP.run, Option.some.injEq, Prod.mk.injEq, true_and] at hr
  subst hr
  exact ⟨_, x, w, G, hrun, .inl rfl, by rw [hd]; exact hI.wrT hN ht⟩

theorem names_ok {H : List TV} {xs : List Value} {d : Nat} (hI : Inv M σ H xs ts w G) {l' : List TV} (hnd : ∀ j (h : j < H.length), okCell H[j] = true ∨ isOw H[j] = true) (hr : (names d H).run σ = some (l', σ')) :
    ∃ G', Inv M σ' [] [] ts w G' ∧ Moves M w σ H G w σ' [] G' ∧ l'.length = H.length ∧ ∀ j (h : j < l'.length), TmR w (G'.F M.A) σ'.v (extC M σ' []) G' l'[j] (xs.getD j undef) := by
  have hcell : ∀ {G' : Gh}, (∀ k, G.F M.A k → G'.F M.A k) → ∀ {V : Vs} {C : Cs} j (h : j < H.length), isOw H[j] = false → TmR w (G'.F M.A) V C G' H[j] (xs.getD j undef) := by
    intro G' hF V C j h ho
    have hok : okCell H[j] = true := (hnd j h).resolve_right (by rw [ho]; simp)
    have hown := hI.hand_own h (by intro e; rw [e] at hok; simp [okCell] at hok)
    cases hh : H[j] with
    | v x => rw [hh] at hown; cases hown with | v _ hf => exact .v hf
    | sl c => rw [hh] at hown; cases hown with | sl _ hs => exact .sl (hs.frame (fun _ _ _ => rfl) fun k hk _ => hF k hk)
    | ow c => rw [hh] at ho; simp [isOw] at ho
    | _ => rw [hh] at hok; simp [okCell] at hok
  unfold names at hr
  by_cases hany : H.any isOw = true
  · rw [if_pos hany] at hr
    have hr' : (nameL (2 * d + 3) 0 H).run (σ.root (2 * d + 3) H) = some (l', σ') := hr
    obtain ⟨G', hg, hβ, hη⟩ := hI.reroot (2 * d + 3) (by omega) (hI.odd_none d)
    have key : ∀ (l : List TV) (i : Nat) (l2 : List TV) (σ2 : St), (nameL (2 * d + 3) i l).run (σ.root (2 * d + 3) H) = some (l2, σ2) → σ2 = σ.root (2 * d + 3) H ∧ l2.length = l.length ∧ ∀ j (h : j < l.length) (h2 : j < l2.length), (isOw l[j] = true ∧ l2[j] = .pk ⟨2 * d + 3, i + j, []⟩ [(σ.root (2 * d + 3) H).v (2 * d + 3, 0, 0), (σ.root (2 * d + 3) H).v (2 * d + 3, i + j, 1)]) ∨ (isOw l[j] = false ∧ l2[j] = l[j]) := by
      intro l
      induction l with
      | nil =>
        intro i l2 σ2 h
        simp only [nameL, SP.run, Option.some.injEq, Prod.mk.injEq] at h
        obtain ⟨rfl, rfl⟩ := h
        exact ⟨rfl, rfl, fun j h => by simp at h⟩
      | cons t l ih =>
        intro i l2 σ2 h
        by_cases ho : isOw t = true
        · obtain ⟨c, rfl⟩ : ∃ c, t = .ow c := by cases t <;> simp [isOw] at ho; exact ⟨_, rfl⟩
          simp only [nameL, SP.run] at h
          obtain ⟨l3, σ3, h1, h2⟩ := SP.run_bind_some h
          simp only [SP.run, Option.some.injEq, Prod.mk.injEq] at h2
          obtain ⟨rfl, rfl⟩ := h2
          obtain ⟨rfl, e2, e3⟩ := ih _ _ _ h1
          refine ⟨rfl, by simp [e2], fun j hj hj2 => ?_⟩
          cases j with
          | zero => exact .inl ⟨rfl, rfl⟩
          | succ j =>
            have := e3 j (by simpa using hj) (by simpa using hj2)
            simpa [Nat.add_assoc, Nat.add_comm 1 j] using this
        · have e : nameL (2 * d + 3) i (t :: l) = (nameL (2 * d + 3) (i + 1) l).bind fun l' => .ret (t :: l') := by cases t <;> simp [isOw] at ho <;> rfl
          rw [e] at h
          obtain ⟨l3, σ3, h1, h2⟩ := SP.run_bind_some h
          simp only [SP.run, Option.some.injEq, Prod.mk.injEq] at h2
          obtain ⟨rfl, rfl⟩ := h2
          obtain ⟨rfl, e2, e3⟩ := ih _ _ _ h1
          refine ⟨rfl, by simp [e2], fun j hj hj2 => ?_⟩
          cases j with
          | zero => exact .inr ⟨by simpa using ho, rfl⟩
          | succ j =>
            have := e3 j (by simpa using hj) (by simpa using hj2)
            simpa [Nat.add_assoc, Nat.add_comm 1 j] using this
    obtain ⟨rfl, e2, e3⟩ := key H 0 l' σ' hr'
    refine ⟨G', hg.1, hg.moves, e2, fun j hj => ?_⟩
    have hjH : j < H.length := by omega
    rcases e3 j hjH hj with ⟨ho, e4⟩ | ⟨ho, e4⟩
    · rw [e4]
      obtain ⟨c, hc⟩ : ∃ c, H[j] = .ow c := by cases hh : H[j] <;> rw [hh] at ho <;> simp [isOw] at ho; exact ⟨_, rfl⟩
      refine .pk (σ.root (2 * d + 3) H).v (fun _ => Nat.le_refl _) (by simp [vers, List.range_succ]) fun _ => ⟨by show (2 * d + 3 : Nat) ≠ 1; omega, c, ?_, ?_⟩
      · unfold Gh.hv
        simp only [hvT, Nat.zero_add]
        unfold Gh.val
        rw [hβ, hI.odd_none d]
        simp only
        rw [hη j (by rw [← hI.hand]; exact hjH)]
      · simp only [getT, Nat.zero_add]
        rw [extC_ne (by show (2 * d + 3 : Nat) ≠ 1; omega), St.root_c]
        simp [hjH, hc]
    · rw [e4]
      exact hcell hg.2.1 j hjH ho
  · rw [if_neg hany] at hr
    simp only [SP.run, Option.some.injEq, Prod.mk.injEq] at hr
    obtain ⟨rfl, rfl⟩ := hr
    obtain ⟨G', hg, hβ⟩ := hI.drop
    refine ⟨G', hg.1, hg.moves, rfl, fun j hj => hcell hg.2.1 j hj ?_⟩
    simp only [List.any_eq_true, not_exists, not_and] at hany
    have := hany _ (List.getElem_mem hj)
    simpa using this

theorem take1_cell {mv : Bool} {t t' : TV} (hr : (take1 mv t).run σ = some (t', σ')) : okCell t' = true ∨ isOw t' = true := by
  cases t with
  | v x => simp only [take1, SP.run, Option.some.injEq, Prod.mk.injEq] at hr; obtain ⟨rfl, _⟩ := hr; exact .inl rfl
  | sl c => simp only [take1, SP.run, Option.some.injEq, Prod.mk.injEq] at hr; obtain ⟨rfl, _⟩ := hr; exact .inl rfl
  | ow c =>
    cases c with
    | nil => simp only [take1, SP.run, Option.some.injEq, Prod.mk.injEq] at hr; obtain ⟨rfl, _⟩ := hr; cases mv <;> exact .inl rfl
    | cons => simp [take1, SP.run] at hr
  | pk p vs =>
    simp only [take1] at hr
    obtain ⟨_, σ1, h1, h2⟩ := SP.run_bind_some hr
    simp only [SP.run] at h2
    cases hg : getT (σ1.c p.root p.off) p.hops with
    | none => simp [hg, SP.run] at h2
    | some t2 =>
      cases t2 with
      | ow c =>
        simp only [hg] at h2
        split at h2
        · obtain ⟨l, _, _, h3⟩ := SP.run_wrC h2
          simp only [SP.run, Option.some.injEq, Prod.mk.injEq] at h3
          obtain ⟨rfl, _⟩ := h3; exact .inr rfl
        · obtain ⟨l, _, _, h3⟩ := SP.run_wrC h2
          simp only [SP.run, Option.some.injEq, Prod.mk.injEq] at h3
          obtain ⟨rfl, _⟩ := h3; rw [TV.imm_ow]; exact .inl rfl
      | _ => simp [hg, SP.run] at h2
  | pw p vs sz lo n =>
    simp only [take1] at hr
    obtain ⟨_, σ1, h1, h2⟩ := SP.run_bind_some hr
    simp only [SP.run] at h2
    cases hg : getT (σ1.c p.root p.off) p.hops with
    | none => simp [hg, SP.run] at h2
    | some t2 =>
      cases t2 with
      | ow c =>
        simp only [hg] at h2
        obtain ⟨l, _, _, h3⟩ := SP.run_wrC h2
        simp only [SP.run, Option.some.injEq, Prod.mk.injEq] at h3
        obtain ⟨rfl, _⟩ := h3; exact .inl rfl
      | _ => simp [hg, SP.run] at h2
  | _ => simp [take1, SP.run] at hr
theorem takeL_cell {mv : Bool} : ∀ {l l' : List TV} {σ σ' : St}, (takeL mv l).run σ = some (l', σ') → ∀ j (h : j < l'.length), okCell l'[j] = true ∨ isOw l'[j] = true := by
  intro l
  induction l with
  | nil =>
    intro l' σ σ' h j hj
    simp only [takeL, SP.run, Option.some.injEq, Prod.mk.injEq] at h
    obtain ⟨rfl, _⟩ := h
    simp at hj
  | cons t l ih =>
    intro l' σ σ' h j hj
    simp only [takeL] at h
    obtain ⟨t', σ1, h1, h2⟩ := SP.run_bind_some h
    obtain ⟨r', σ2, h3, h4⟩ := SP.run_bind_some h2
    simp only [SP.run, Option.some.injEq, Prod.mk.injEq] at h4
    obtain ⟨rfl, rfl⟩ := h4
    cases j with
    | zero => exact take1_cell h1
    | succ j => exact ih h3 j (by simpa using hj)

theorem inst_ok {H : List TV} {xs : List Value} {d : Nat} {agg : Bool} (hI : Inv M σ H xs a.tmps w G) (hd : o.dst = some d) (hN : d < M.N) (hnd : ∀ j (h : j < H.length), okCell H[j] = true ∨ isOw H[j] = true) (hr : (inst d agg H).run σ = some ((), σ'))
    {x : Value} (hx : (agg = true ∧ x = .agg xs.toArray) ∨ (agg = false ∧ ∃ y, xs = [y] ∧ x = y)) {w0 : World} (hrun : (execOp a.eval o).run P w0 = .ok (.value x) w) : Sim1 P M σ' a o w0 := by
  unfold inst at hr
  obtain ⟨l', σ1, h1, h2⟩ := SP.run_bind_some hr
  obtain ⟨G', hI', hm, hl, ht⟩ := names_ok hI hnd h1
  simp only [wr, SP.run, Option.some.injEq, Prod.mk.injEq, true_and] at h2
  subst h2
  have key : TmR w (G'.F M.A) σ1.v (extC M σ1 []) G' (shaped agg l') x → Sim1 P M { σ1 with tm := aset σ1.tm d (shaped agg l') } a o w0 := fun h => ⟨_, x, w, G', hrun, .inl rfl, by rw [hd]; exact hI'.wrT hN h⟩
  apply key
  rcases hx with ⟨rfl, rfl⟩ | ⟨rfl, y, rfl, rfl⟩
  · simp only [shaped, if_true]
    refine .agg (by simp [hl, hI.hand]) fun j hj => ?_
    have := ht j hj
    simpa using this
  · simp only [shaped]
    have hlen : l'.length = 1 := by rw [hl, hI.hand]; rfl
    obtain ⟨t, rfl⟩ : ∃ t, l' = [t] := by
      cases l' with
      | nil => simp at hlen
      | cons t r => cases r with | nil => exact ⟨t, rfl⟩ | cons => simp at hlen
    simpa using ht 0 (by simp)
end
end Go.Proofs.Ytkmbahlpmoljpaa
/- Operations of the program, and the same with values as trees: those that make no memory; no condition. -/
set_option linter.unusedVariables false
set_option linter.unusedSimpArgs false
namespace Go.Proofs.Ytkmbahlpmoljpaa
open Go.RowKit

section
variable {P : Program} {M : Fm} {σ σ' : St} {ts : Array Value} {w : World} {G : Gh} {a : Act} {o : Oper}

theorem TmR.ow_inv {F : Nat → Prop} {V : Vs} {C : Cs} {c : List (List TV)} {x : Value} (h : TmR w F V C G (.ow c) x) : c = [] ∧ x = .slice none 0 0 := by
  cases h with
  | nil => exact ⟨rfl, rfl⟩
theorem aggXs {F : Nat → Prop} {V : Vs} {C : Cs} {l : List TV} {x : Value} (h : TmR w F V C G (.agg l) x) : ∃ xs : Array Value, x = .agg xs ∧ xs.size = l.length ∧ ∀ j (hj : j < l.length), TmR w F V C G l[j] (xs.getD j undef) := by
  cases h with
  | agg hl h => exact ⟨_, rfl, hl, h⟩

/-- Values of a slot are taken in hand. -/
theorem takeV_ok {mv : Bool} {t : TV} {x : Value} {l : List TV × Bool} (hI : Inv M σ [] [] ts w G) (hx : TmR w (G.F M.A) σ.v (extC M σ []) G t x) (hr : (takeV mv t).run σ = some (l, σ')) :
    ∃ (xs : List Value) (G' : Gh), Goes M w ts σ [] G σ' l.1 xs G' ∧ ((l.2 = true ∧ x = .agg xs.toArray) ∨ (l.2 = false ∧ ∃ y, xs = [y] ∧ x = y)) ∧ (∀ j (h : j < l.1.length), okCell l.1[j] = true ∨ isOw l.1[j] = true) ∧ (∀ y ∈ xs, y.oneCell' = true) := by
  have one : ∀ t', (∀ q, t ≠ .agg q) → (take1 mv t).run σ = some (t', σ') → l = ([t'], false) → ∃ (xs : List Value) (G' : Gh), Goes M w ts σ [] G σ' l.1 xs G' ∧ ((l.2 = true ∧ x = .agg xs.toArray) ∨ (l.2 = false ∧ ∃ y, xs = [y] ∧ x = y)) ∧ (∀ j (h : j < l.1.length), okCell l.1[j] = true ∨ isOw l.1[j] = true) ∧ (∀ y ∈ xs, y.oneCell' = true) := by
    rintro t' _ h rfl
    obtain ⟨G', hg, ho⟩ := take1_ok hI hx h
    refine ⟨[x], G', by simpa using hg, .inr ⟨rfl, x, rfl, rfl⟩, fun j hj => ?_, by simpa using ho⟩
    obtain rfl : j = 0 := by simp at hj; omega
    exact take1_cell h
  by_cases ht : ∃ q, t = .agg q
  · obtain ⟨q, rfl⟩ := ht
    simp only [takeV] at hr
    obtain ⟨l', σ1, h1, h2⟩ := SP.run_bind_some hr
    simp only [SP.run, Option.some.injEq, Prod.mk.injEq] at h2
    obtain ⟨rfl, rfl⟩ := h2
    obtain ⟨xs, rfl, hl, hj⟩ := aggXs hx
    obtain ⟨e1, e2, G', hg⟩ := takeL_ok (ys := xs.toList) hI (by simp [hl]) (fun j h => by simpa using hj j h) h1
    exact ⟨xs.toList, G', by simpa using hg, .inl ⟨rfl, by simp⟩, takeL_cell h1, e2⟩
  · have e : takeV mv t = (take1 mv t).bind fun t' => .ret ([t'], false) := by
      cases t <;> first | rfl | exact absurd ⟨_, rfl⟩ ht
    rw [e] at hr
    obtain ⟨t', σ1, h1, h2⟩ := SP.run_bind_some hr
    simp only [SP.run, Option.some.injEq, Prod.mk.injEq] at h2
    obtain ⟨rfl, rfl⟩ := h2
    exact one t' (fun q h => ht ⟨q, h⟩) h1 rfl

theorem inst_nil (hI : Inv M σ [] [] a.tmps w G) {d : Nat} (hd : o.dst = some d) (hN : d < M.N) (hr : (inst d false [.ow []]).run σ = some ((), σ')) (hrun : (execOp a.eval o).run P w = .ok (.value (.slice none 0 0)) w) : Sim1 P M σ' a o w := by
  obtain ⟨G1, hg⟩ := hI.addHand (t := .ow []) (x := .slice none 0 0) (.nil (by simp))
  exact inst_ok (H := [.ow []]) (xs := [.slice none 0 0]) (by simpa using hg.1) hd hN (fun j hj => by
    obtain rfl : j = 0 := by simp at hj; omega
    exact .inl rfl) hr (.inr ⟨rfl, _, rfl, rfl⟩) hrun

theorem noOw {F : Nat → Prop} {V : Vs} {C : Cs} {l : List TV} {x : Value} (h : TmR w F V C G (.agg l) x) : ∀ j (hj : j < l.length), isOw l[j] = true → l[j] = .ow [] := by
  intro j hj ho
  obtain ⟨xs, _, _, h2⟩ := aggXs h
  have := h2 j hj
  cases hh : l[j] with
  | ow c => rw [hh] at this; rw [this.ow_inv.1]
  | _ => rw [hh] at ho; simp [isOw] at ho

/-- What of an aggregate of constants and names is put in hand, so that the nil slices get names. -/
theorem sim_mov (hI : Inv M σ [] [] a.tmps w G) {d : Nat} (hd : o.dst = some d) (hN : d < M.N) {x : Opd} {x' : Operand} (hx : compOpd x' = some x) (ho : o.op = .move x') (hr : (ev1 d (.mov x)).run σ = some ((), σ')) : Sim1 P M σ' a o w := by
  simp only [ev1] at hr
  obtain ⟨t, σ1, h1, h2⟩ := SP.run_bind_some hr
  obtain ⟨rfl, ht⟩ := opd_ok hI.tmr hx h1
  have hrun : (execOp a.eval o).run P w = .ok (.value (a.eval x')) w := by simp [execOp, ho]
  cases t with
  | ow c =>
    obtain ⟨rfl, e⟩ := ht.ow_inv
    rw [e] at hrun
    cases x with
    | c v => exact inst_nil hI hd hN h2 hrun
    | _ => simp [SP.run] at h2
  | agg l =>
    simp only at h2
    split at h2
    · simp [SP.run] at h2
    · exact wr_ok hI hd hN ht h2 hrun
  | _ => exact wr_ok hI hd hN ht h2 hrun

theorem sim_asn (hI : Inv M σ [] [] a.tmps w G) {d : Nat} {mv : Bool} (hd : o.dst = some d) (hN : d < M.N) {x : Opd} {x' : Operand} (hx : compOpd x' = some x) (ho : o.op = .assign x' ∨ o.op = .move x') (hr : (ev1 d (.asn mv x)).run σ = some ((), σ')) : Sim1 P M σ' a o w := by
  simp only [ev1] at hr
  obtain ⟨t, σ1, h1, h2⟩ := SP.run_bind_some hr
  obtain ⟨rfl, ht⟩ := opd_ok hI.tmr hx h1
  have hrun : (execOp a.eval o).run P w = .ok (.value (a.eval x')) w := by rcases ho with ho | ho <;> simp [execOp, ho]
  have gen : ∀ σ2, ((takeV mv t).bind fun l => inst d l.2 l.1).run σ1 = some ((), σ2) → Sim1 P M σ2 a o w := by
    intro σ2 h
    obtain ⟨l, σ3, h3, h4⟩ := SP.run_bind_some h
    obtain ⟨xs, G', hg, hsh, hok, _⟩ := takeV_ok hI ht h3
    exact inst_ok hg.1 hd hN hok h4 hsh hrun
  cases t with
  | ptr p vs => exact wr_ok hI hd hN ht h2 hrun
  | ip cs => exact wr_ok hI hd hN ht h2 hrun
  | fn f cap => exact wr_ok hI hd hN ht h2 hrun
  | _ => exact gen _ h2

theorem sim_pick (hI : Inv M σ [] [] a.tmps w G) {d : Nat} (hd : o.dst = some d) (hN : d < M.N) {c x y : Opd} {c' x' y' : Operand} (hc : compOpd c' = some c) (hx : compOpd x' = some x) (hy : compOpd y' = some y) (ho : o.op = .pick c' x' y')
    (hr : (ev1 d (.pick c x y)).run σ = some ((), σ')) : Sim1 P M σ' a o w := by
  simp only [ev1] at hr
  obtain ⟨t, σ1, h1, h2⟩ := SP.run_bind_some hr
  obtain ⟨rfl, ht⟩ := opd_ok hI.tmr hc h1
  cases t with
  | v xc =>
    cases xc with
    | bool b =>
      simp only at h2
      obtain ⟨t2, σ2, h3, h4⟩ := SP.run_bind_some h2
      have hcv : a.eval c' = .bool b := by generalize a.eval c' = z at ht; cases ht; rfl
      have hz : compOpd (if b then x' else y') = some (if b then x else y) := by cases b <;> simp [hx, hy]
      obtain ⟨rfl, ht2⟩ := opd_ok hI.tmr hz h3
      have hrun : (execOp a.eval o).run P w = .ok (.value (a.eval (if b then x' else y'))) w := by cases b <;> simp [execOp, ho, hcv, asBool]
      cases t2 with
      | v z => exact wr_ok hI hd hN ht2 h4 hrun
      | _ => simp [SP.run] at h4
    | _ => simp [SP.run] at h2
  | _ => simp [SP.run] at h2

theorem valOf_ok {t : TV} {x : Value} (h : (valOf t).run σ = some (x, σ')) : t = .v x ∧ σ' = σ := by
  cases t <;> simp [valOf, SP.run] at h
  exact ⟨by rw [h.1], h.2.symm⟩
theorem spOpt_ok {α : Type} {q : Option α} {x : α} (h : (spOpt q).run σ = some (x, σ')) : q = some x ∧ σ' = σ := by
  cases q <;> simp [spOpt, SP.run] at h
  exact ⟨by rw [h.1], h.2.symm⟩
theorem natOf_ok {t : TV} {n : Nat} (h : (natOf t).run σ = some (n, σ')) : ∃ k i, t = .v (.int k i) ∧ 0 ≤ i ∧ n = i.toNat ∧ σ' = σ := by
  cases t with
  | v x =>
    cases x with
    | int k i =>
      simp only [natOf] at h
      split at h
      · rename_i m
        simp only [SP.run, Option.some.injEq, Prod.mk.injEq] at h
        exact ⟨k, _, rfl, Int.natCast_nonneg m, h.1.symm, h.2.symm⟩
      · simp [SP.run] at h
    | _ => simp [natOf, SP.run] at h
  | _ => simp [natOf, SP.run] at h
theorem TmR.v_inv {F : Nat → Prop} {V : Vs} {C : Cs} {y x : Value} (h : TmR w F V C G (.v y) x) : x = y ∧ vflat y = true := by
  cases h with
  | v h => exact ⟨rfl, h⟩
theorem pureV_run {s : Sem Value} {v : Value} (h : pureV s = some v) (w : World) : s.run P w = .ok v w := by
  unfold pureV at h
  split at h
  · injection h with h; rw [h]; rfl
  · simp at h
theorem pureV_eq {s : Sem Value} {v : Value} (h : pureV s = some v) : s = .pure v := by
  unfold pureV at h
  split at h
  · injection h with h; rw [h]
  · simp at h


theorem binOp_int (op : BinOp) (t : TypeId) (k k' : IntKind) (x y : Int) : Go.binOp op t (.int k x) (.int k' y) = Go.binOp op 0 (.int k x) (.int k' y) := by
  cases op <;> rfl
theorem binOp_str (op : BinOp) (t : TypeId) (x y : ByteArray) : Go.binOp op t (.string x) (.string y) = Go.binOp op 0 (.string x) (.string y) := by
  cases op <;> rfl
theorem sim_bin (hI : Inv M σ [] [] a.tmps w G) {d : Nat} (hd : o.dst = some d) (hN : d < M.N) {x y : Opd} {x' y' : Operand} {op : BinOp} {t yt : TypeId} (hx : compOpd x' = some x) (hy : compOpd y' = some y) (ho : o.op = .binOp op t x' y' yt)
    (hr : (ev1 d (.bin op x y)).run σ = some ((), σ')) : Sim1 P M σ' a o w := by
  simp only [ev1] at hr
  obtain ⟨t1, σ1, h1, h2⟩ := SP.run_bind_some hr
  obtain ⟨rfl, hx1⟩ := opd_ok hI.tmr hx h1
  obtain ⟨t2, σ2, h3, h4⟩ := SP.run_bind_some h2
  obtain ⟨rfl, hy1⟩ := opd_ok hI.tmr hy h3
  obtain ⟨u1, σ3, h5, h6⟩ := SP.run_bind_some h4
  obtain ⟨rfl, rfl⟩ := valOf_ok h5
  obtain ⟨u2, σ4, h7, h8⟩ := SP.run_bind_some h6
  obtain ⟨rfl, rfl⟩ := valOf_ok h7
  obtain ⟨r, σ5, h9, h10⟩ := SP.run_bind_some h8
  obtain ⟨hev, rfl⟩ := spOpt_ok h9
  obtain ⟨ex, fx⟩ := hx1.v_inv
  obtain ⟨ey, fy⟩ := hy1.v_inv
  split at h10
  case isFalse => simp [SP.run] at h10
  rename_i hfl
  refine wr_ok hI hd hN (.v hfl) h10 ?_
  cases u1 with
  | int k i =>
    cases u2 with
    | int k' i' =>
      simp only [evalBin] at hev
      have hb : (Go.binOp op t (.int k i) (.int k' i')).run P w = .ok r w := by rw [binOp_int]; exact pureV_run hev w
      have hg : (eqGuard op t x' y' (.int k i) (.int k' i')).run P w = .ok () w := by unfold eqGuard; split <;> rfl
      simp [execOp, ho, ex, ey, hb, hg]
    | _ => simp [evalBin] at hev
  | string i =>
    cases u2 with
    | string i' =>
      simp only [evalBin] at hev
      have hb : (Go.binOp op t (.string i) (.string i')).run P w = .ok r w := by rw [binOp_str]; exact pureV_run hev w
      have hg : (eqGuard op t x' y' (.string i) (.string i')).run P w = .ok () w := by unfold eqGuard; split <;> rfl
      simp [execOp, ho, ex, ey, hb, hg]
    | _ => simp [evalBin] at hev
  | _ => simp [evalBin] at hev

theorem sim_bnb (hI : Inv M σ [] [] a.tmps w G) {d : Nat} (hd : o.dst = some d) (hN : d < M.N) {x y : Opd} {x' y' : Operand} {op : BinOp} {neg : Bool} {t yt : TypeId} (hx : compOpd x' = some x) (hy : compOpd y' = some y) (ho : o.op = .binOp op t x' y' yt) (hop : (op = .eql ∧ neg = false) ∨ (op = .neq ∧ neg = true)) (ht : P.underlying t = some .bool)
    (hr : (ev1 d (.bnb neg x y)).run σ = some ((), σ')) : Sim1 P M σ' a o w := by
  simp only [ev1] at hr
  obtain ⟨t1, σ1, h1, h2⟩ := SP.run_bind_some hr
  obtain ⟨rfl, hx1⟩ := opd_ok hI.tmr hx h1
  obtain ⟨t2, σ2, h3, h4⟩ := SP.run_bind_some h2
  obtain ⟨rfl, hy1⟩ := opd_ok hI.tmr hy h3
  obtain ⟨u1, σ3, h5, h6⟩ := SP.run_bind_some h4
  obtain ⟨rfl, rfl⟩ := valOf_ok h5
  obtain ⟨u2, σ4, h7, h8⟩ := SP.run_bind_some h6
  obtain ⟨rfl, rfl⟩ := valOf_ok h7
  obtain ⟨ex, fx⟩ := hx1.v_inv
  obtain ⟨ey, fy⟩ := hy1.v_inv
  cases u1 with
  | bool i =>
    cases u2 with
    | bool i' =>
      simp only at h8
      have hg : (eqGuard op t x' y' (.bool i) (.bool i')).run P w = .ok () w := by unfold eqGuard; split <;> rfl
      have hq : (Op.equal t (.bool i) (.bool i')).run P w = .ok (i == i') w := by
        obtain ⟨n, hn⟩ : ∃ n, Op.maxDepth = n + 1 := ⟨9999, rfl⟩
        unfold Op.equal
        rw [hn]
        simp [Op.equalIn, run_underlying ht]
      refine wr_ok hI hd hN (.v rfl) h8 ?_
      rcases hop with ⟨rfl, rfl⟩ | ⟨rfl, rfl⟩
      · simp [execOp, ho, ex, ey, hg, Go.binOp, hq]
      · simp [execOp, ho, ex, ey, hg, Go.binOp, hq]
    | _ => simp [SP.run] at h8
  | _ => simp [SP.run] at h8

theorem sim_un (hI : Inv M σ [] [] a.tmps w G) {d : Nat} (hd : o.dst = some d) (hN : d < M.N) {x : Opd} {x' : Operand} {op : UnOp} {t : TypeId} (hx : compOpd x' = some x) (ho : o.op = .unOp op t x') (hr : (ev1 d (.un op x)).run σ = some ((), σ')) : Sim1 P M σ' a o w := by
  simp only [ev1] at hr
  obtain ⟨t1, σ1, h1, h2⟩ := SP.run_bind_some hr
  obtain ⟨rfl, hx1⟩ := opd_ok hI.tmr hx h1
  obtain ⟨u1, σ3, h5, h6⟩ := SP.run_bind_some h2
  obtain ⟨rfl, rfl⟩ := valOf_ok h5
  obtain ⟨r, σ5, h9, h10⟩ := SP.run_bind_some h6
  obtain ⟨hev, rfl⟩ := spOpt_ok h9
  obtain ⟨ex, fx⟩ := hx1.v_inv
  split at h10
  case isFalse => simp [SP.run] at h10
  rename_i hfl
  exact wr_ok hI hd hN (.v hfl) h10 (by simp [execOp, ho, ex, pureV_run hev w])

theorem sim_conv (hI : Inv M σ [] [] a.tmps w G) {d : Nat} (hd : o.dst = some d) (hN : d < M.N) {x : Opd} {x' : Operand} {k ks : IntKind} {s t : TypeId} (hx : compOpd x' = some x) (ho : o.op = .convert s t x') (hs : P.underlying s = some (.int ks)) (ht : P.underlying t = some (.int k))
    (hr : (ev1 d (.conv k x)).run σ = some ((), σ')) : Sim1 P M σ' a o w := by
  simp only [ev1] at hr
  obtain ⟨t1, σ1, h1, h2⟩ := SP.run_bind_some hr
  obtain ⟨rfl, hx1⟩ := opd_ok hI.tmr hx h1
  obtain ⟨u1, σ3, h5, h6⟩ := SP.run_bind_some h2
  obtain ⟨rfl, rfl⟩ := valOf_ok h5
  obtain ⟨ex, fx⟩ := hx1.v_inv
  cases u1 with
  | int k2 n => exact wr_ok hI hd hN (.v rfl) h6 (by simp [execOp, ho, ex, convert, run_underlying hs, run_underlying ht, Conv.intToInt])
  | _ => simp [SP.run] at h6

theorem sim_nilc (hI : Inv M σ [] [] a.tmps w G) {d : Nat} (hd : o.dst = some d) (hN : d < M.N) {x : Opd} {x' : Operand} (hx : compOpd x' = some x) (ho : o.op = .nilCheck x') (hr : (ev1 d (.nilc x)).run σ = some ((), σ')) : Sim1 P M σ' a o w := by
  simp only [ev1] at hr
  obtain ⟨t1, σ1, h1, h2⟩ := SP.run_bind_some hr
  obtain ⟨rfl, hx1⟩ := opd_ok hI.tmr hx h1
  cases t1 with
  | ptr p vs =>
    simp only at h2
    obtain ⟨_, σ2, h3, h4⟩ := SP.run_bind_some h2
    have e1 : σ2 = σ1 := (chk_run h3).1
    have e2 := (chk_run h3).2
    subst e1
    have ht := hx1
    cases hx1 with
    | ptr V0 h0 hv h =>
      obtain ⟨_, ad, t, ha, hxx, _⟩ := h e2
      exact wr_ok hI hd hN ht h4 (by simp [execOp, ho, hxx])
  | ip cs =>
    have ht := hx1
    generalize hz : a.eval x' = z at hx1 ht
    cases hx1 with
    | ip u hc hr' => exact wr_ok hI hd hN ht h2 (by simp [execOp, ho, hz])
  | fn f cap =>
    have ht := hx1
    generalize hz : a.eval x' = z at hx1 ht
    cases hx1 with
    | fn hl hh => exact wr_ok hI hd hN ht h2 (by simp [execOp, ho, hz])
  | _ => simp [SP.run] at h2
end
end Go.Proofs.Ytkmbahlpmoljpaa
/- Reading through names; no condition. -/
set_option linter.unusedVariables false
set_option linter.unusedSimpArgs false
namespace Go.Proofs.Ytkmbahlpmoljpaa
open Go.RowKit

theorem Place.add_cases (p : Place) (n : Nat) : (p.hops = [] ∧ p.add n = ⟨p.root, p.off + n, []⟩) ∨ (∃ hs i sz o, p.hops = hs ++ [(i, sz, o)] ∧ p.add n = ⟨p.root, p.off, hs ++ [(i, sz, o + n)]⟩) := by
  unfold Place.add
  cases h : p.hops.reverse with
  | nil => left; exact ⟨by simpa using h, rfl⟩
  | cons a r =>
    right
    obtain ⟨i, sz, o⟩ := a
    have e : p.hops = r.reverse ++ [(i, sz, o)] := by rw [← List.reverse_reverse p.hops, h]; simp
    exact ⟨r.reverse, i, sz, o, e, by simp⟩
theorem addrT_last {w : World} {hs : List Hop} {i sz o : Nat} (n : Nat) : ∀ {x : Value} {ad : Addr}, addrT w x (hs ++ [(i, sz, o)]) = some ad → addrT w x (hs ++ [(i, sz, o + n)]) = some ⟨ad.block, ad.off + n, none⟩ := by
  induction hs with
  | nil =>
    intro x ad h
    cases x with
    | slice a l c =>
      cases a with
      | none => simp [addrT] at h
      | some a =>
        simp only [List.nil_append, addrT] at h ⊢
        split at h
        · rename_i hi
          rw [if_pos hi]
          injection h with h
          rw [← h]
          simp [Nat.add_assoc]
        · simp at h
    | _ => simp [addrT] at h
  | cons hp hs ih =>
    obtain ⟨i', sz', o'⟩ := hp
    intro x ad h
    obtain ⟨hd, tl, hht⟩ : ∃ hd tl, hs ++ [(i, sz, o)] = hd :: tl := by cases hs <;> exact ⟨_, _, rfl⟩
    obtain ⟨hd2, tl2, hht2⟩ : ∃ hd tl, hs ++ [(i, sz, o + n)] = hd :: tl := by cases hs <;> exact ⟨_, _, rfl⟩
    rw [List.cons_append, hht] at h
    rw [List.cons_append, hht2]
    cases x with
    | slice a l c =>
      cases a with
      | none => simp [addrT] at h
      | some a =>
        simp only [addrT] at h ⊢
        split at h
        · rename_i hi
          rw [if_pos hi]
          cases hc : w.cell? ⟨a.block, a.off + (i' * sz' + o'), none⟩ with
          | none => simp [hc] at h
          | some y =>
            simp only [hc] at h ⊢
            rw [← hht] at h
            rw [← hht2]
            exact ih h
        · simp at h
    | _ => simp [addrT] at h
theorem addr_add {G : Gh} {w : World} {p : Place} {ad : Addr} (n : Nat) (h : G.addr w p = some ad) : G.addr w (p.add n) = some ⟨ad.block, ad.off + n, none⟩ := by
  rcases p.add_cases n with ⟨h1, h2⟩ | ⟨hs, i, sz, o, h1, h2⟩
  · rw [h2]
    unfold Gh.addr at h ⊢
    rw [h1] at h
    simp only at h ⊢
    cases hb : G.β p.root with
    | none => simp [hb] at h
    | some x =>
      obtain ⟨b, o0, n'⟩ := x
      simp only [hb, Option.some.injEq] at h ⊢
      rw [← h]
      simp [Nat.add_assoc]
  · rw [h2]
    unfold Gh.addr at h ⊢
    rw [h1] at h
    obtain ⟨hd, tl, hht⟩ : ∃ hd tl, hs ++ [(i, sz, o)] = hd :: tl := by cases hs <;> exact ⟨_, _, rfl⟩
    obtain ⟨hd2, tl2, hht2⟩ : ∃ hd tl, hs ++ [(i, sz, o + n)] = hd :: tl := by cases hs <;> exact ⟨_, _, rfl⟩
    rw [hht] at h
    simp only at h
    rw [← hht] at h
    simp only [hht2]
    rw [← hht2]
    exact addrT_last n h
theorem Place.add_root (p : Place) (n : Nat) : (p.add n).root = p.root := by
  rcases p.add_cases n with ⟨_, h2⟩ | ⟨hs, i, sz, o, _, h2⟩ <;> rw [h2]
theorem Place.add_len (p : Place) (n : Nat) : (p.add n).hops.length = p.hops.length := by
  rcases p.add_cases n with ⟨h1, h2⟩ | ⟨hs, i, sz, o, h1, h2⟩ <;> rw [h2, h1] <;> simp
theorem vers_add (V : Vs) (p : Place) (n : Nat) : vers V (p.add n).root (p.add n).off (p.add n).hops.length = vers V p.root p.off p.hops.length := by
  rcases p.add_cases n with ⟨h1, h2⟩ | ⟨hs, i, sz, o, h1, h2⟩ <;> rw [h2, h1]
  · rfl
  · simp
theorem addr_spot {G : Gh} {w : World} {p : Place} {ad : Addr} (h : G.addr w p = some ad) : ad.spot = none := by
  have key : ∀ (hs : List Hop) (x : Value), addrT w x hs = some ad → ad.spot = none := by
    intro hs
    induction hs with
    | nil => intro x h; cases x <;> simp [addrT] at h
    | cons a r ih =>
      obtain ⟨i, sz, o⟩ := a
      intro x h
      cases x with
      | slice a l c =>
        cases a with
        | none => cases r <;> simp [addrT] at h
        | some a =>
          cases r with
          | nil =>
            simp only [addrT] at h
            split at h
            · injection h with h; rw [← h]
            · simp at h
          | cons b r =>
            simp only [addrT] at h
            split at h
            · split at h
              · exact ih _ h
              · simp at h
            · simp at h
      | _ => cases r <;> simp [addrT] at h
  unfold Gh.addr at h
  cases hp : p.hops with
  | nil =>
    rw [hp] at h
    simp only at h
    split at h
    · injection h with h; rw [← h]
    · simp at h
  | cons a r => rw [hp] at h; exact key _ _ h

section
variable {P : Program} {M : Fm} {σ σ' : St} {H : List TV} {xs : List Value} {ts : Array Value} {w : World} {G : Gh} {a : Act} {o : Oper}

/-- A cell that is named. -/
theorem Inv.named (hI : Inv M σ H xs ts w G) {p : Place} (h1 : p.root ≠ 1) {ad : Addr} (ha : G.addr w p = some ad) {t : TV} (ht : getT (σ.c p.root p.off) p.hops = some t) (hd : t ≠ .dead) :
    G.addrB w p = some ad ∧ ∃ u fp, w.cell? ad = some u ∧ OwnR w (G.F M.A) fp t u ∧ G.hv w p = some u := by
  have htE : getT (extC M σ H p.root p.off) p.hops = some t := by rw [extC_ne (by exact h1)]; exact ht
  obtain ⟨u, fp, hv, hown, _, hadf⟩ := hI.core.hv_own p htE hd
  have hB : G.addrB w p = some ad := by
    refine Gh.addr_to_B ha fun hp b o0 n hb => ?_
    rcases Nat.lt_or_ge p.off n with h | h
    · exact h
    · have := hI.core.boxc p.root b o0 n hb p.off h
      rw [extC_ne (by exact h1)] at this
      rw [hp, this] at ht
      simp only [getT, Option.some.injEq] at ht
      exact absurd ht.symm hd
  refine ⟨hB, u, fp, ?_, hown, hv⟩
  cases hp : p.hops with
  | nil =>
    rcases hI.core.where_ p hB htE with ⟨_, b, o0, n, hb, hlt, had⟩ | ⟨hne, _⟩
    · rw [had, hI.core.boxcell hb hlt]
      unfold Gh.hv at hv
      rw [hp] at hv
      exact hv
    · exact absurd hp hne
  | cons x r =>
    obtain ⟨ad2, h3, h4, _⟩ := hadf (by rw [hp]; simp)
    have : addrT w (G.val w p.root p.off) p.hops = some ad := by unfold Gh.addr at ha; rw [hp] at ha ⊢; exact ha
    rw [this] at h3
    injection h3 with h3
    rw [h3]; exact h4

theorem getPl_run {p : Place} {y : TV × St} (h : (getPl p).run σ = some y) : y.2 = σ ∧ getT (σ.c p.root p.off) p.hops = some y.1 := by
  simp only [getPl, SP.run] at h
  cases hg : getT (σ.c p.root p.off) p.hops with
  | none => simp [hg, SP.run] at h
  | some t =>
    simp only [hg, SP.run, Option.some.injEq] at h
    rw [← h]; exact ⟨rfl, rfl⟩
theorem peek1_ok (hI : Inv M σ H xs ts w G) {p : Place} (h1 : p.root ≠ 1) {t t' : TV} {u : Value} {fp : Nat → Prop} (ht : getT (σ.c p.root p.off) p.hops = some t) (hown : OwnR w (G.F M.A) fp t u) (hv : G.hv w p = some u)
    (hr : (peek1 p t).run σ = some (t', σ')) : σ' = σ ∧ TmR w (G.F M.A) σ.v (extC M σ H) G t' u := by
  cases t with
  | v x =>
    simp only [peek1, SP.run, Option.some.injEq, Prod.mk.injEq] at hr
    obtain ⟨rfl, rfl⟩ := hr
    cases hown with
    | v _ h => exact ⟨rfl, .v h⟩
  | sl c =>
    simp only [peek1, SP.run, Option.some.injEq, Prod.mk.injEq] at hr
    obtain ⟨rfl, rfl⟩ := hr
    cases hown with
    | sl _ h => exact ⟨rfl, .sl h⟩
  | ow c =>
    simp only [peek1] at hr
    rw [SP.run_bind, rdVs_run, keysOf_vers] at hr
    simp only [Option.bind_some, SP.run, Option.some.injEq, Prod.mk.injEq] at hr
    obtain ⟨rfl, rfl⟩ := hr
    exact ⟨rfl, .pk σ.v (fun _ => Nat.le_refl _) rfl fun _ => ⟨h1, c, hv, by rw [extC_ne (by exact h1)]; exact ht⟩⟩
  | _ => simp [peek1, SP.run] at hr
theorem peek1_dead {p : Place} {y : TV × St} {t : TV} (hr : (peek1 p t).run σ = some y) : t ≠ .dead := by
  rintro rfl; simp [peek1, SP.run] at hr

theorem peekL_ok (hI : Inv M σ H xs ts w G) : ∀ {n : Nat} {p : Place} {ad : Addr} {l : List TV} {σ' : St}, p.root ≠ 1 → G.addr w p = some ad → (peekL p n).run σ = some (l, σ') →
    σ' = σ ∧ l.length = n ∧ ∃ us : List Value, us.length = n ∧ ∀ j (h : j < l.length) (h' : j < us.length), w.cell? ⟨ad.block, ad.off + j, none⟩ = some us[j] ∧ TmR w (G.F M.A) σ.v (extC M σ H) G l[j] us[j] := by
  intro n
  induction n with
  | zero =>
    intro p ad l σ' h1 ha hr
    simp only [peekL, SP.run, Option.some.injEq, Prod.mk.injEq] at hr
    obtain ⟨rfl, rfl⟩ := hr
    exact ⟨rfl, rfl, [], rfl, fun j h => by simp at h⟩
  | succ n ih =>
    intro p ad l σ' h1 ha hr
    simp only [peekL] at hr
    obtain ⟨t, σ1, h2, h3⟩ := SP.run_bind_some hr
    obtain ⟨e1, hg⟩ := getPl_run h2
    have e1 : σ1 = σ := e1
    subst e1
    obtain ⟨t', σ2, h4, h5⟩ := SP.run_bind_some h3
    have hd := peek1_dead h4
    obtain ⟨hB, u, fp, hcu, hown, hv⟩ := hI.named h1 ha hg hd
    obtain ⟨rfl, ht'⟩ := peek1_ok hI h1 hg hown hv h4
    have hsp := addr_spot ha
    have hc0 : w.cell? ⟨ad.block, ad.off + 0, none⟩ = some u := by
      rw [Nat.add_zero]
      obtain ⟨b, o, s⟩ := ad
      simp only at hsp ⊢
      subst hsp
      exact hcu
    cases n with
    | zero =>
      simp only [SP.run, Option.some.injEq, Prod.mk.injEq] at h5
      obtain ⟨rfl, rfl⟩ := h5
      refine ⟨rfl, rfl, [u], rfl, fun j h h' => ?_⟩
      obtain rfl : j = 0 := by simp at h; omega
      exact ⟨hc0, ht'⟩
    | succ n =>
      simp only at h5
      split at h5
      · obtain ⟨r, σ3, h6, h7⟩ := SP.run_bind_some h5
        simp only [SP.run, Option.some.injEq, Prod.mk.injEq] at h7
        obtain ⟨rfl, rfl⟩ := h7
        obtain ⟨rfl, e2, us, e3, e4⟩ := ih (by rw [Place.add_root]; exact h1) (addr_add 1 ha) h6
        refine ⟨rfl, by simp [e2], u :: us, by simp [e3], fun j h h' => ?_⟩
        cases j with
        | zero => exact ⟨hc0, ht'⟩
        | succ j =>
          have := e4 j (by simpa using h) (by simpa using h')
          simp only [List.getElem_cons_succ]
          rw [show ad.off + (j + 1) = ad.off + 1 + j by omega]
          exact this
      · simp [SP.run] at h5

theorem run_isAgg {t : TypeId} {d : TypeDesc} (h : P.underlying t = some d) (hd : ∀ f, d ≠ .struct f) (hd2 : ∀ n e, d ≠ .array n e) : (isAgg t).run P w = .ok false w := by
  unfold isAgg
  simp only [Sem.run_bind, run_underlying h, Result.andThen_ok]
  cases d <;> first | rfl | exact absurd rfl (hd _) | exact absurd rfl (hd2 _ _)
theorem run_isAgg_t {t : TypeId} {d : TypeDesc} (h : P.underlying t = some d) (hd : (∃ f, d = .struct f) ∨ ∃ n e, d = .array n e) : (isAgg t).run P w = .ok true w := by
  unfold isAgg
  simp only [Sem.run_bind, run_underlying h, Result.andThen_ok]
  rcases hd with ⟨f, rfl⟩ | ⟨n, e, rfl⟩ <;> rfl

/-- How a type is loaded: None: one cell; some n: n cells together. -/
def LoadOk (P : Program) (t : TypeId) : Option Nat → Prop
  | none => ∃ d, P.underlying t = some d ∧ (∀ f, d ≠ .struct f) ∧ ∀ n e, d ≠ .array n e
  | some n => (∃ d, P.underlying t = some d ∧ ((∃ f, d = .struct f) ∨ ∃ n e, d = .array n e)) ∧ (P.info? t).map (·.size) = some n

theorem sim_load (hI : Inv M σ [] [] a.tmps w G) {d : Nat} (hd : o.dst = some d) (hN : d < M.N) {x : Opd} {x' : Operand} {t : TypeId} {n : Option Nat} (hx : compOpd x' = some x) (ho : o.op = .load t x') (hn : LoadOk P t n) (hr : (ev1 d (.load n x)).run σ = some ((), σ')) : Sim1 P M σ' a o w := by
  simp only [ev1] at hr
  obtain ⟨tx, σ1, h1, h2⟩ := SP.run_bind_some hr
  obtain ⟨rfl, hx1⟩ := opd_ok hI.tmr hx h1
  cases tx with
  | ptr p vs =>
    simp only at h2
    obtain ⟨_, σ2, h3, h4⟩ := SP.run_bind_some h2
    have e1 : σ2 = σ1 := (chk_run h3).1
    have e2 := (chk_run h3).2
    subst e1
    generalize hz : a.eval x' = z at hx1
    cases hx1 with
    | ptr V0 h0 hv h =>
      obtain ⟨hr1, ad, t0, ha, rfl, _⟩ := h e2
      cases n with
      | none =>
        obtain ⟨dd, hu, hd1, hd2⟩ := hn
        simp only at h4
        obtain ⟨t1, σ3, h5, h6⟩ := SP.run_bind_some h4
        obtain ⟨e3, hg⟩ := getPl_run h5
        have e3 : σ3 = σ2 := e3
        subst e3
        obtain ⟨t', σ4, h7, h8⟩ := SP.run_bind_some h6
        obtain ⟨hB, u, fp, hcu, hown, hhv⟩ := hI.named hr1 ha hg (peek1_dead h7)
        obtain ⟨rfl, ht'⟩ := peek1_ok hI hr1 hg hown hhv h7
        refine wr_ok hI hd hN ht' h8 ?_
        simp [execOp, ho, hz, Instr.loadAt, Instr.sureAddr, loadVar, run_isAgg hu hd1 hd2, hcu]
      | some n =>
        obtain ⟨⟨dd, hu, hd1⟩, hsz⟩ := hn
        simp only at h4
        obtain ⟨l, σ3, h5, h6⟩ := SP.run_bind_some h4
        obtain ⟨rfl, e3, us, e4, e5⟩ := peekL_ok hI hr1 ha h5
        refine wr_ok hI hd hN (x := .agg us.toArray) (.agg (by simp [e3, e4]) fun j hj => by have := (e5 j hj (by omega)).2; simpa [show j < us.length by omega] using this) h6 ?_
        have hsp := addr_spot ha
        have hcells := run_loadCells_list (P := P) w ad us fun j v hj => by
          obtain ⟨hlt, rfl⟩ := List.getElem?_eq_some_iff.1 hj
          have := (e5 j (by omega) hlt).1
          obtain ⟨b, o, s⟩ := ad
          simp only at hsp
          subst hsp
          rw [addr_add0]; exact this
        have hso : (sizeOf t).run P w = .ok n w := by
          unfold sizeOf typeInfo
          cases hi : P.info? t with
          | none => simp [hi] at hsz
          | some i => simp [hi] at hsz; simp [hi, hsz]
        rw [e4] at hcells
        simp [execOp, ho, hz, Instr.loadAt, Instr.sureAddr, loadVar, run_isAgg_t hu hd1, hso, hcells]
  | ip cs =>
    simp only at h2
    generalize hz : a.eval x' = z at hx1
    cases hx1 with
    | @ip _ b ob u hc hrr =>
      cases hl : loadIp n cs with
      | none => simp [hl, SP.run] at h2
      | some t' =>
        simp only [hl] at h2
        cases n with
        | none =>
          obtain ⟨dd, hu, hd1, hd2⟩ := hn
          unfold loadIp at hl
          simp only at hl
          have hlen : 0 < cs.length := by cases cs <;> simp at hl ⊢
          obtain ⟨_, hcu⟩ := hc 0 hlen
          have himm := hrr 0 hlen
          have ht' : TmR w (G.F M.A) σ1.v (extC M σ1 []) G t' (u 0) := by
            cases cs with
            | nil => simp at hlen
            | cons c0 cs =>
              simp only [List.getElem_cons_zero] at himm
              cases c0 with
              | v x => simp only [Option.some.injEq] at hl; subst hl; cases himm with | v h => exact .v h
              | sl c => simp only [Option.some.injEq] at hl; subst hl; exact .sl himm
              | _ => simp at hl
          refine wr_ok hI hd hN ht' h2 ?_
          rw [Nat.add_zero] at hcu
          simp [execOp, ho, hz, Instr.loadAt, Instr.sureAddr, loadVar, run_isAgg hu hd1 hd2, hcu]
        | some n =>
          obtain ⟨⟨dd, hu, hd1⟩, hsz⟩ := hn
          unfold loadIp at hl
          simp only at hl
          split at hl
          · rename_i hcond
            simp only [Bool.and_eq_true, decide_eq_true_eq] at hcond
            injection hl with hl
            subst hl
            have hlen : (cs.take n).length = n := by simp; omega
            refine wr_ok hI hd hN (x := .agg ((List.range n).map u).toArray) (.agg (by simp; omega) fun j hj => ?_) h2 ?_
            · have hjn : j < n := by omega
              have hjc : j < cs.length := by omega
              have himm := hrr j hjc
              have hal := List.all_eq_true.1 hcond.2 _ (List.getElem_mem hj)
              have e : (cs.take n)[j] = cs[j] := List.getElem_take
              rw [e] at hal ⊢
              have e2 : ((List.range n).map u).toArray.getD j undef = u j := by simp [hjn]
              rw [e2]
              cases hcj : cs[j] with
              | v x => rw [hcj] at himm; cases himm with | v h => exact .v h
              | sl c => rw [hcj] at himm; exact .sl himm
              | _ => rw [hcj] at hal; simp at hal
            · have hcells := run_loadCells_list (P := P) w ⟨b, ob, none⟩ ((List.range n).map u) fun j v hj => by
                rw [List.getElem?_map] at hj
                rcases Nat.lt_or_ge j n with h | h
                · rw [List.getElem?_range h] at hj
                  simp only [Option.map_some, Option.some.injEq] at hj
                  rw [addr_add0, ← hj]
                  exact (hc j (by omega)).2
                · rw [List.getElem?_eq_none (by simpa using h)] at hj; simp at hj
              have hso : (sizeOf t).run P w = .ok n w := by
                unfold sizeOf typeInfo
                cases hi : P.info? t with
                | none => simp [hi] at hsz
                | some i => simp [hi] at hsz; simp [hi, hsz]
              rw [List.length_map, List.length_range] at hcells
              simp [execOp, ho, hz, Instr.loadAt, Instr.sureAddr, loadVar, run_isAgg_t hu hd1, hso, hcells]
          · simp at hl
  | _ => simp [SP.run] at h2
end
end Go.Proofs.Ytkmbahlpmoljpaa
/- Storing through names, new variables; no condition. -/
set_option linter.unusedVariables false
set_option linter.unusedSimpArgs false
namespace Go.Proofs.Ytkmbahlpmoljpaa
open Go.RowKit

section
variable {P : Program} {M : Fm} {σ σ' : St} {H : List TV} {xs : List Value} {ts : Array Value} {w : World} {G : Gh} {a : Act} {o : Oper}

theorem putP_run {p : Place} {t : TV} (h : (putP p t).run σ = some ((), σ')) :
    ∃ old l vr, getT (σ.c p.root p.off) p.hops = some old ∧ aget σ.ce p.root = some l ∧ p.off < l.length ∧ σ' = ⟨σ.tm, aset σ.ce p.root (l.set p.off (setT (σ.c p.root p.off) p.hops t)), vr⟩ ∧ vers σ'.v p.root p.off p.hops.length = vers σ.v p.root p.off p.hops.length := by
  unfold putP at h
  simp only [SP.run] at h
  cases hg : getT (σ.c p.root p.off) p.hops with
  | none => simp [hg, SP.run] at h
  | some old =>
    simp only [hg] at h
    split at h
    · split at h
      · obtain ⟨l, hl, ho, h3⟩ := SP.run_wrC h
        simp only [SP.run, Option.some.injEq, Prod.mk.injEq, true_and] at h3
        refine ⟨old, l, _, rfl, hl, ho, h3.symm, ?_⟩
        rw [vers_eq_iff]
        have hv : ∀ q, σ'.v q = σ.v q + if (p.root, p.off, p.hops.length + 1) = q then 1 else 0 := fun q => by rw [← h3]; exact vget_vinc σ.vr _ q
        refine ⟨by rw [hv]; simp, fun d hd => ?_⟩
        rw [hv, if_neg]
        · omega
        · intro e
          injection e with _ e
          injection e with _ e
          omega
      · simp [SP.run] at h
    · obtain ⟨l, hl, ho, h3⟩ := SP.run_wrC h
      simp only [SP.run, Option.some.injEq, Prod.mk.injEq, true_and] at h3
      refine ⟨old, l, _, rfl, hl, ho, h3.symm, ?_⟩
      have hv : σ'.v = σ.v := by rw [← h3]; rfl
      rw [hv]

theorem putL_ok : ∀ {rest : List TV} {k : Nat} {σ σ' : St} {H : List TV} {w : World} {G : Gh} {p : Place} {ad : Addr}, Inv M σ H xs ts w G → p.root ≠ 1 → G.addr w p = some ad → H.drop k = rest → rest ≠ [] → (∀ j (h : j < H.length), k ≤ j → H[j] ≠ .dead) →
    (putL p rest).run σ = some ((), σ') → (∀ j, j < rest.length → (w.cell? ⟨ad.block, ad.off + j, none⟩).isSome = true ∧ w.frozen? ⟨ad.block, ad.off + j, none⟩ = false) ∧
      ∃ G' H', Inv M σ' H' xs ts (w.setCells ad.block ad.off (xs.drop k)) G' ∧ H'.length = H.length ∧ (∀ j (h : j < H'.length), k ≤ j → H'[j] = .dead) ∧ (∀ j (h : j < H'.length) (h' : j < H.length), j < k → H'[j] = H[j]) ∧ σ'.tm = σ.tm ∧ Moves M w σ H G (w.setCells ad.block ad.off (xs.drop k)) σ' H' G' ∧ G'.β = G.β := by
  intro rest
  induction rest with
  | nil => intro k σ σ' H w G p ad _ _ _ _ h; exact absurd rfl h
  | cons t rest ih =>
    intro k σ σ' H w G p ad hI h1 ha hdrop _ hnd hr
    have hk : k < H.length := by
      rcases Nat.lt_or_ge k H.length with h | h
      · exact h
      · rw [List.drop_of_length_le h] at hdrop; simp at hdrop
    have hH : H[k] = t ∧ H.drop (k + 1) = rest := by
      rw [List.drop_eq_getElem_cons hk] at hdrop
      injection hdrop with e1 e2
      exact ⟨e1, e2⟩
    obtain ⟨rfl, hrest⟩ := hH
    simp only [putL] at hr
    obtain ⟨_, σ1, h2, h3⟩ := SP.run_bind_some hr
    obtain ⟨old, l, vr, hg, hl, ho, hσ1, hvers⟩ := putP_run h2
    have hB : G.addrB w p = some ad := by
      refine Gh.addr_to_B ha fun hp b o0 n hb => ?_
      have := hI.shape _ _ _ _ hb l hl
      omega
    have hgE : getT (extC M σ H p.root p.off) p.hops = some old := by rw [extC_ne (by exact h1)]; exact hg
    obtain ⟨⟨u, hcu⟩, hfr, G1, hI1, hm, htm, hβ⟩ := hI.put h1 hB hgE hk (hnd k hk (Nat.le_refl _)) h2
    obtain ⟨t', ha1, _⟩ := hm.keeps.ptr p ad old h1 hvers ha hgE
    have hsp := addr_spot ha
    have hxk : k < xs.length := by rw [← hI.hand]; exact hk
    have hxd : xs.drop k = xs[k] :: xs.drop (k + 1) := List.drop_eq_getElem_cons hxk
    have had : (⟨ad.block, ad.off, none⟩ : Addr) = ad := by obtain ⟨b, o, s⟩ := ad; simp only at hsp; subst hsp; rfl
    have hget : xs.getD k undef = xs[k] := by simp [hxk]
    rw [hget] at hI1 hm ha1
    cases rest with
    | nil =>
      simp only [SP.run, Option.some.injEq, Prod.mk.injEq, true_and] at h3
      subst h3
      have hlen : xs.drop (k + 1) = [] := by
        apply List.drop_of_length_le
        have : H.length ≤ k + 1 := by
          rcases Nat.lt_or_ge (k + 1) H.length with h | h
          · have := congrArg List.length hrest; simp at this; omega
          · exact h
        rw [← hI.hand]; exact this
      refine ⟨fun j hj => ?_, G1, H.set k .dead, ?_, by simp, fun j hj hkj => ?_, fun j hj hj' hjk => by rw [List.getElem_set]; rw [if_neg (by omega)], htm, ?_, hβ⟩
      · obtain rfl : j = 0 := by simp at hj; omega
        rw [Nat.add_zero, had]; exact ⟨by rw [hcu]; rfl, hfr⟩
      · rw [hxd, hlen]
        simp only [World.setCells, had]
        exact hI1
      · have hj2 : j < H.length := by simpa using hj
        have : H.length ≤ k + 1 := by
          rcases Nat.lt_or_ge (k + 1) H.length with h | h
          · have := congrArg List.length hrest; simp at this; omega
          · exact h
        obtain rfl : j = k := by omega
        simp
      · rw [hxd, hlen]
        simp only [World.setCells, had]
        exact hm
    | cons t2 rest =>
      simp only at h3
      split at h3
      · obtain ⟨hc2, G2, H2, hI2, e1, e2, e3, e4, e5, e6⟩ := ih (k := k + 1) hI1 (by rw [Place.add_root]; exact h1) (addr_add 1 ha1) (by rw [← hrest]; apply List.ext_getElem?; intro i; simp only [List.getElem?_drop, List.getElem?_set]; rw [if_neg (by omega)]) (by simp)
          (fun j hj hkj => by rw [List.getElem_set, if_neg (by omega)]; exact hnd j (by simpa using hj) (by omega)) h3
        refine ⟨fun j hj => ?_, G2, H2, ?_, by simpa using e1, fun j hj hkj => ?_, fun j hj hj' hjk => ?_, e4.trans htm, ?_, e6.trans hβ⟩
        · cases j with
          | zero => rw [Nat.add_zero, had]; exact ⟨by rw [hcu]; rfl, hfr⟩
          | succ j =>
            have := hc2 j (by simpa using hj)
            simp only at this
            rw [show ad.off + 1 + j = ad.off + (j + 1) by omega] at this
            rw [World.frozen?_setCell] at this
            refine ⟨?_, this.2⟩
            have hne : ad ≠ ⟨ad.block, ad.off + (j + 1), none⟩ := fun e => by have := congrArg Addr.off e; simp at this
            rw [World.cell?_setCell_other w ad _ _ hne] at this
            exact this.1
        · rw [hxd]
          simp only [World.setCells, had]
          exact hI2
        · by_cases hjk : j = k
          · subst hjk
            rw [e3 j hj (by rw [e1] at hj; exact hj) (by omega)]
            simp
          · exact e2 j hj (by omega)
        · have := e3 j hj (by rw [List.length_set]; exact hj') (by omega)
          rw [this, List.getElem_set, if_neg (by omega)]
        · rw [hxd]
          simp only [World.setCells, had]
          exact hm.trans e5
      · simp [SP.run] at h3

theorem takeCells_ok {mv : Bool} {t : TV} {x : Value} {l : List TV} (hI : Inv M σ [] [] ts w G) (hx : TmR w (G.F M.A) σ.v (extC M σ []) G t x) (hr : (takeL mv (cellsT t)).run σ = some (l, σ')) :
    ∃ G', Goes M w ts σ [] G σ' l x.cells.toList G' ∧ (∀ y ∈ x.cells.toList, y.oneCell' = true) ∧ (∀ j (h : j < l.length), okCell l[j] = true ∨ isOw l[j] = true) ∧ l.length = x.cells.size := by
  by_cases ht : ∃ q, t = .agg q
  · obtain ⟨q, rfl⟩ := ht
    obtain ⟨xs, rfl, hl, hj⟩ := aggXs hx
    obtain ⟨e1, e2, G', hg⟩ := takeL_ok (ys := xs.toList) hI (by simp [hl, cellsT]) (fun j h => by have h' : j < q.length := h; have := hj j h'; simpa [cellsT] using this) hr
    exact ⟨G', by simpa [Value.cells] using hg, by simpa [Value.cells] using e2, takeL_cell hr, by rw [e1]; simp [cellsT, Value.cells, hl]⟩
  · have e : cellsT t = [t] := by cases t <;> first | rfl | exact absurd ⟨_, rfl⟩ ht
    rw [e] at hr
    have hnx : x.cells = #[x] := by
      simp only [takeL] at hr
      obtain ⟨t', σ1, h1, h2⟩ := SP.run_bind_some hr
      obtain ⟨G', hg, ho⟩ := take1_ok hI hx h1
      cases x <;> first | rfl | simp [Value.oneCell'] at ho
    obtain ⟨e1, e2, G', hg⟩ := takeL_ok (l := [t]) (ys := [x]) hI (by simp) (fun j h => by
      obtain rfl : j = 0 := by simp at h; omega
      simpa using hx) hr
    rw [hnx]
    exact ⟨G', by simpa using hg, by simpa using e2, takeL_cell hr, by rw [e1]; rfl⟩

theorem cell_nd {l : List TV} (h : ∀ j (h : j < l.length), okCell l[j] = true ∨ isOw l[j] = true) : ∀ j (h : j < l.length), l[j] ≠ .dead := by
  intro j hj e
  have := h j hj
  rw [e] at this
  simp [okCell, isOw] at this

theorem sim_store (hI : Inv M σ [] [] a.tmps w G) {d n : Nat} {mv : Bool} (hd : o.dst = none) {x y : Opd} {x' y' : Operand} {t : TypeId} (hx : compOpd x' = some x) (hy : compOpd y' = some y) (ho : o.op = .store t x' y') (hn : (P.info? t).map (·.size) = some n) (hn0 : 0 < n)
    (hr : (ev1 d (.store n mv x y)).run σ = some ((), σ')) : Sim1 P M σ' a o w := by
  simp only [ev1] at hr
  obtain ⟨tx, σ1, h1, h2⟩ := SP.run_bind_some hr
  obtain ⟨rfl, hx1⟩ := opd_ok hI.tmr hx h1
  cases tx with
  | ptr p vs =>
    simp only at h2
    obtain ⟨ty, σ2, h3, h4⟩ := SP.run_bind_some h2
    obtain ⟨rfl, hy1⟩ := opd_ok hI.tmr hy h3
    obtain ⟨l, σ3, h5, h6⟩ := SP.run_bind_some h4
    obtain ⟨G1, hg, hone, hok, hlen⟩ := takeCells_ok hI hy1 h5
    split at h6
    case isFalse => simp [SP.run] at h6
    rename_i hln
    obtain ⟨_, σ4, h7, h8⟩ := SP.run_bind_some h6
    have e1 : σ4 = σ3 := (chk_run h7).1
    have e2 := (chk_run h7).2
    subst e1
    have hx2 := hg.tm hx1
    generalize hz : a.eval x' = z at hx2
    cases hx2 with
    | ptr V0 h0 hv h =>
      obtain ⟨hr1, ad, t0, ha, rfl, _⟩ := h e2
      have hne : l ≠ [] := fun e => by rw [e] at hln; simp at hln; omega
      obtain ⟨hc, G2, H2, hI2, e3, e4, _, e5, _⟩ := putL_ok (k := 0) hg.1 hr1 ha (by simp) hne (fun j hj _ => cell_nd hok j hj) h8
      have hsp := addr_spot ha
      have had : ad = ⟨ad.block, ad.off, none⟩ := by obtain ⟨b, o, s⟩ := ad; simp only at hsp; subst hsp; rfl
      have hst := run_storeCells_cells (P := P) ad.block ad.off (a.eval y').cells.toList 0 w (fun j hj => by
          have := (hc j (by rw [Array.length_toList] at hj; omega)).1; simpa using this) (fun j hj => by
          have := (hc j (by rw [Array.length_toList] at hj; omega)).2; simpa using this) hone
      rw [← had] at hst
      have hso : (sizeOf t).run P w = .ok n w := by
        unfold sizeOf typeInfo
        cases hi : P.info? t with
        | none => simp [hi] at hn
        | some i => simp [hi] at hn; simp [hi, hn]
      refine ⟨.skip, undef, w.setCells ad.block ad.off (a.eval y').cells.toList, G2, ?_, .inr ⟨rfl, rfl⟩, ?_⟩
      · have hcs : (a.eval y').cells.size = n := by rw [← hlen, hln]
        simp [execOp, ho, hz, Instr.storeAt, Instr.sureAddr, storeVar, hso, hcs]
        rw [show (storeCells ad (a.eval y').cells.toList).run P w = .ok () (w.setCells ad.block (ad.off + 0) (a.eval y').cells.toList) from hst]
        rfl
      · have hclr := hI2.clear (fun j hj => e4 j hj (Nat.zero_le _))
        have : (a.put o.dst undef).tmps = a.tmps := by rw [hd]; rfl
        rw [this]
        simpa using hclr
  | _ => simp [SP.run] at h2
end
end Go.Proofs.Ytkmbahlpmoljpaa
