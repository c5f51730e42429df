/- A region that draws its order, each operation shown alone: what it leaves is kept by all that comes behind it; no condition. -/
import Derived.Test.YtndmcnddgcifiaaMem
import Derived.Orders
set_option linter.unusedVariables false
set_option linter.unusedSimpArgs false
namespace Go.Proofs.Ytndmcnddgcifiaa
open Go.RowKit

def evalW (f : Nat → Value) : Operand → Value
  | .tmp t => f t
  | .const v => v
  | .global g => .pointer (some ⟨g, 0, none⟩)
  | .func f => .func (.func f) #[] #[]
def slotV (f : Nat → Value) : Option Tmp → Value
  | some t => f t
  | none => undef
/-- What is spoken of behind an operation: its slot; of a store the address. -/
def tagV (f : Nat → Value) (o : Oper) : Value :=
  match o.dst with
  | some t => f t
  | none => match o.op with
    | .store _ (.tmp t) _ => f t
    | _ => undef
def keepV (f : Nat → Value) (o : Oper) (v : Value) : Value :=
  match o.dst with
  | some _ => v
  | none => tagV f o
def waitsOn (o : Oper) (j : Nat) : Bool := o.after.toList.any fun e => e.on == j && Region.binds .any e
/-- The operation that writes slot t. -/
def writer (l : List Oper) (t : Tmp) : Option Nat := l.findIdx? fun o => o.dst == some t
/-- What operation o may take of slot t: what it held before the region, or what is said of the operation that wrote it. -/
def TakesP (l : List Oper) (old : Nat → Value) (Ss : List (Value → World → Prop)) (o : Oper) (f : Nat → Value) (w : World) (t : Tmp) : Prop :=
  match writer l t with
  | none => f t = old t
  | some j => if waitsOn o j then (Ss.getD j fun _ _ => False) (f t) w else f t = old t
def wantF (l : List Oper) (f : Nat → Value) (o : Oper) : Bool :=
  match o.guard with
  | none => true
  | some (j, b) => match (l[j]?).bind (·.dst) with
    | some d => (match f d with | .bool c => c == b | _ => false)
    | none => false
def relyUpon (P : Program) (Post : Value → World → Prop) : Result Next → Prop
  | .ok (.value v) w' => Post v w'
  | .ok .skip w' => Post undef w'
  | .ok (.enter f args) w' => Calls P f args w' fun e w'' => ∃ v, e = .returned v ∧ Post v w''
  | _ => False
def PostP (base : World → Prop) (R : World → World → Prop) (s : Value → World → Prop) (w : World) (v : Value) (w' : World) : Prop := base w' ∧ R w w' ∧ s v w'
/-- What is to be shown of one operation. -/
def Duty (P : Program) (l : List Oper) (old : Nat → Value) (base : World → Prop) (R : World → World → Prop) (Ss : List (Value → World → Prop)) (o : Oper) (s : Value → World → Prop) : Prop :=
  ∀ (f : Nat → Value) (w : World), base w → (∀ t ∈ o.looksAt l.toArray, TakesP l old Ss o f w t) →
    if wantF l f o = true then relyUpon P (fun v w' => PostP base R s w (keepV f o v) w') ((execOp (evalW f) o).run P w) else s (keepV f o undef) w
def Duties (P : Program) (l : List Oper) (old : Nat → Value) (base : World → Prop) (R : World → World → Prop) (Ss : List (Value → World → Prop)) : List Oper → List (Value → World → Prop) → Prop
  | [], [] => True
  | o :: r, s :: rs => Duty P l old base R Ss o s ∧ Duties P l old base R Ss r rs
  | _, _ => False
def Kept (R : World → World → Prop) : List (Value → World → Prop) → Prop
  | [] => True
  | s :: r => (∀ w w' u, R w w' → s u w → s u w') ∧ Kept R r
/-- The frame behind the region. -/
def putAll (f : Nat → Value) : List Oper → Act → Act
  | [], a => a
  | o :: r, a => putAll f r (a.put o.dst (slotV f o.dst))
def Ends (f : Nat → Value) (w : World) : List Oper → List (Value → World → Prop) → Prop
  | o :: r, s :: rs => s (tagV f o) w ∧ Ends f w r rs
  | _, _ => True
def relyB (l : List Oper) (n : Nat) : Bool :=
  (l.zipIdx.all fun (o, k) =>
    (match o.dst with | some d => writer l d == some k && decide (d < n) | none => true) &&
    (o.after.all fun e => !Region.binds .any e || decide (e.on < k)) &&
    (o.looksAt l.toArray).all fun t => match writer l t with
      | none => true
      | some j => waitsOn o j || waitsOn (l.getD j default) k) &&
  (l.all fun o => match o.dst, o.op with
    | none, .store _ (.tmp t) _ => (match writer l t with | none => true | some j => waitsOn o j)
    | _, _ => true) &&
  l.all fun o => match o.guard with
    | none => true
    | some (j, _) => match (l[j]?).bind (·.dst) with | some d => (o.looksAt l.toArray).contains d | none => false

section
variable {P : Program} {l : List Oper} {a0 : Act} {base : World → Prop} {R : World → World → Prop} {Ss : List (Value → World → Prop)}

structure JJ (l : List Oper) (a0 : Act) (base : World → Prop) (Ss : List (Value → World → Prop)) (listed : Array Bool) (a : Act) (w : World) : Prop where
  base_ : base w
  defers : a.defers = a0.defers
  lsize : listed.size = l.length
  asize : a.tmps.size = a0.tmps.size
  old : ∀ t, (∀ (j : Nat) o, l[j]? = some o → o.dst = some t → listed.getD j true = false) → a.tmps.getD t undef = a0.tmps.getD t undef
  says : ∀ (j : Nat) o s, l[j]? = some o → Ss[j]? = some s → listed.getD j false = true → s (tagV (fun t => a.tmps.getD t undef) o) w
  down : ∀ (j : Nat) o, l[j]? = some o → listed.getD j false = true → ∀ e ∈ o.after, Region.binds .any e = true → listed.getD e.on false = true

theorem act_eval (a : Act) : a.eval = evalW fun t => a.tmps.getD t undef := by funext x; cases x <;> rfl
theorem Duties.at_ {lo : List Oper} {ls : List (Value → World → Prop)} : ∀ {o : Oper} {k : Nat}, Duties P l (fun t => a0.tmps.getD t undef) base R Ss lo ls → lo[k]? = some o → ∃ s, ls[k]? = some s ∧ Duty P l (fun t => a0.tmps.getD t undef) base R Ss o s := by
  induction lo generalizing ls with
  | nil => intro o k _ h; simp at h
  | cons x r ih =>
    intro o k hd h
    match ls, hd with
    | s :: rs, hd =>
      cases k with
      | zero => simp at h; subst h; exact ⟨s, rfl, hd.1⟩
      | succ k => simpa using ih hd.2 (by simpa using h)
theorem Kept.at_ : ∀ {ls : List (Value → World → Prop)} {k : Nat} {s : Value → World → Prop}, Kept R ls → ls[k]? = some s → ∀ w w' u, R w w' → s u w → s u w'
  | [], _, _, _, h => by simp at h
  | x :: r, 0, s, hk, h => by simp at h; subst h; exact hk.1
  | x :: r, k + 1, s, hk, h => Kept.at_ hk.2 (by simpa using h)

theorem writer_some {t : Tmp} {j : Nat} (h : writer l t = some j) : ∃ o, l[j]? = some o ∧ o.dst = some t := by
  unfold writer at h
  rw [List.findIdx?_eq_some_iff_getElem] at h
  obtain ⟨hj, h1, _⟩ := h
  exact ⟨l[j], List.getElem?_eq_getElem hj, by simpa using h1⟩
theorem writer_none {t : Tmp} (h : writer l t = none) : ∀ (j : Nat) o, l[j]? = some o → o.dst ≠ some t := by
  unfold writer at h
  rw [List.findIdx?_eq_none_iff] at h
  intro j o hj e
  have := h o (List.mem_of_getElem? hj)
  simp [e] at this

theorem relyB_at {n : Nat} (h : relyB l n = true) {k : Nat} {o : Oper} (hk : l[k]? = some o) :
    (∀ d, o.dst = some d → writer l d = some k ∧ d < n) ∧ (∀ e ∈ o.after, Region.binds .any e = true → e.on < k) ∧
    (∀ t ∈ o.looksAt l.toArray, ∀ j, writer l t = some j → waitsOn o j = true ∨ waitsOn (l.getD j default) k = true) ∧
    (∀ y t x, o.dst = none → o.op = .store y (.tmp t) x → ∀ j, writer l t = some j → waitsOn o j = true) ∧
    (∀ j b, o.guard = some (j, b) → ∃ d, (l[j]?).bind (·.dst) = some d ∧ d ∈ o.looksAt l.toArray) := by
  simp only [relyB, Bool.and_eq_true, List.all_eq_true] at h
  obtain ⟨⟨h1, hst⟩, h2⟩ := h
  have hm : (o, k) ∈ l.zipIdx := by rw [List.mem_zipIdx_iff_getElem?]; simpa using hk
  have h3 := h1 _ hm
  simp only [Bool.and_eq_true, List.all_eq_true] at h3
  obtain ⟨⟨h4, h5⟩, h6⟩ := h3
  refine ⟨fun d hd => ?_, fun e he hb => ?_, fun t ht j hj => ?_, fun y t x hd hop j hw => ?_, fun j b hg => ?_⟩
  · rw [hd] at h4
    simpa using h4
  · have := (Array.all_eq_true_iff_forall_mem.1 h5) e he
    simpa [hb] using this
  · have := h6 t ht
    rw [hj] at this
    simpa using this
  · have := hst o (List.mem_of_getElem? hk)
    rw [hd, hop] at this
    simp only [hw] at this
    exact this
  · have := h2 o (List.mem_of_getElem? hk)
    rw [hg] at this
    simp only at this
    cases hd : (l[j]?).bind (·.dst) with
    | none => rw [hd] at this; simp at this
    | some d => rw [hd] at this; exact ⟨d, rfl, by simpa using this⟩

theorem mem_waits {o : Oper} {j : Nat} (h : waitsOn o j = true) : ∃ e ∈ o.after, e.on = j ∧ Region.binds .any e = true := by
  unfold waitsOn at h
  rw [List.any_eq_true] at h
  obtain ⟨e, he, hx⟩ := h
  simp only [Bool.and_eq_true, beq_iff_eq] at hx
  exact ⟨e, by simpa using he, hx.1, hx.2⟩

theorem getD_set {listed : Array Bool} {i j : Nat} {b : Bool} (hi : i < listed.size) : (listed.setIfInBounds i true).getD j b = if i = j then true else listed.getD j b := by
  by_cases e : i = j
  · subst e; simp [Array.getD, hi]
  · simp only [if_neg e]
    simp only [Array.getD, Array.size_setIfInBounds]
    split
    · exact Array.getElem_setIfInBounds_ne _ e
    · rfl
theorem getD_put {a : Act} {d t : Nat} {v : Value} (hd : d < a.tmps.size) : (a.put (some d) v).tmps.getD t undef = if d = t then v else a.tmps.getD t undef := by
  unfold Act.put
  by_cases e : d = t
  · subst e; simp [Array.getD, hd]
  · simp only [if_neg e]
    simp only [Array.getD, Array.size_setIfInBounds]
    split
    · exact Array.getElem_setIfInBounds_ne _ e
    · rfl

theorem JJ.step (hR0 : ∀ w, R w w) (hB : relyB l a0.tmps.size = true) (hD : Duties P l (fun t => a0.tmps.getD t undef) base R Ss l Ss) (hK : Kept R Ss) {listed : Array Bool} {a : Act} {w : World} {Q : Exit → Act → World → Prop} (h : JJ l a0 base Ss listed a w) {i : Nat} (hi : i ∈ Region.ready .any l.toArray listed) :
    wpOp P l.toArray Q i (fun a' w' => JJ l a0 base Ss (listed.setIfInBounds i true) a' w') a w := by
  obtain ⟨hun, o, ho, hdeps⟩ := mem_ready.1 hi
  have ho' : l[i]? = some o := by simpa using ho
  have hil : i < listed.size := by rw [h.lsize]; exact (List.getElem?_eq_some_iff.1 ho').1
  obtain ⟨hb1, hb2, hb3, hbs, hb4⟩ := relyB_at hB ho'
  obtain ⟨s, hs, hduty⟩ := hD.at_ ho'
  -- what it takes
  have htake : ∀ t ∈ o.looksAt l.toArray, TakesP l (fun t => a0.tmps.getD t undef) Ss o (fun t => a.tmps.getD t undef) w t := by
    intro t ht
    unfold TakesP
    cases hw : writer l t with
    | none => exact h.old t fun j o' hj hd => absurd hd (writer_none hw j o' hj)
    | some j =>
      obtain ⟨oj, hoj, hdj⟩ := writer_some hw
      by_cases hwt : waitsOn o j = true
      · simp only [hwt, if_true]
        obtain ⟨e, he, hon, hbd⟩ := mem_waits hwt
        have hlj : listed.getD j false = true := by rw [← hon]; exact hdeps e he hbd
        obtain ⟨sj, hsj, _⟩ := hD.at_ hoj
        have := h.says j oj sj hoj hsj hlj
        simpa [List.getD, hsj, tagV, hdj] using this
      · simp only [hwt]
        refine h.old t fun j' o' hj' hd' => ?_
        have hjj : j' = j := by
          have := ((relyB_at hB hj').1 t hd').1
          rw [hw] at this; injection this with this; exact this.symm
        subst hjj
        rcases hb3 t ht j' hw with h' | h'
        · exact absurd h' hwt
        · have e : l.getD j' default = oj := by simp [List.getD, hoj]
          rw [e] at h'
          obtain ⟨ed, hed, hon, hbd⟩ := mem_waits h'
          cases hl : listed.getD j' true with
          | false => rfl
          | true =>
            exfalso
            have hjl : j' < listed.size := by rw [h.lsize]; exact (List.getElem?_eq_some_iff.1 hoj).1
            have hl' : listed.getD j' false = true := by simpa [Array.getD, hjl] using hl
            have := h.down j' oj hoj hl' ed hed hbd
            rw [hon] at this
            simp [Array.getD, hil] at this hun
            rw [this] at hun; cases hun
  have hdt := hduty (fun t => a.tmps.getD t undef) w h.base_ htake
  -- its guard
  have hwant : Region.wanted o (yielded l.toArray a.tmps) = wantF l (fun t => a.tmps.getD t undef) o := by
    unfold Region.wanted wantF
    cases hg : o.guard with
    | none => rfl
    | some p =>
      obtain ⟨j, b⟩ := p
      obtain ⟨d, hd, _⟩ := hb4 j b hg
      have hdl : d < a.tmps.size := by
        rw [h.asize]
        obtain ⟨oj, hoj, hdj⟩ := Option.bind_eq_some_iff.1 hd
        exact ((relyB_at hB hoj).1 d hdj).2
      have hy : yielded l.toArray a.tmps j = (match a.tmps.getD d undef with | .bool c => some c | _ => none) := by
        unfold yielded
        have e : (l.toArray[j]?).bind (·.dst) = some d := by simpa using hd
        rw [e]
        simp only [Option.bind_some]
        rw [Array.getElem?_eq_getElem hdl]
        simp only [Array.getD, hdl, dif_pos, Array.getInternal_eq_getElem]
        cases a.tmps[d] <;> rfl
      simp only [hd]
      rw [hy]
      cases a.tmps.getD d undef <;> simp
  -- what holds behind it
  have hnext : ∀ v w', PostP base R s w (keepV (fun t => a.tmps.getD t undef) o v) w' → JJ l a0 base Ss (listed.setIfInBounds i true) (a.put o.dst v) w' := by
    intro v w' ⟨hb, hR, hsv⟩
    have hsz : (a.put o.dst v).tmps.size = a.tmps.size := by unfold Act.put; split <;> simp
    refine ⟨hb, by rw [← h.defers]; unfold Act.put; split <;> rfl, by simpa using h.lsize, hsz.trans h.asize, fun t ht => ?_, fun j oj sj hoj hsj hlj => ?_, fun j oj hoj hlj e he hbd => ?_⟩
    · have hti : o.dst ≠ some t := fun e => by
        have := ht i o ho' e
        rw [getD_set hil] at this; simp at this
      have hold := h.old t fun j oj hoj hdj => by
        have := ht j oj hoj hdj
        rw [getD_set hil] at this
        split at this
        · cases this
        · exact this
      rw [← hold]
      cases hd : o.dst with
      | none => rfl
      | some d => rw [getD_put (by rw [h.asize]; exact (hb1 d hd).2), if_neg (by rintro rfl; exact hti hd)]
    · by_cases e : i = j
      · subst e
        rw [ho'] at hoj; injection hoj with hoj; subst hoj
        rw [hs] at hsj; injection hsj with hsj; subst hsj
        cases hd : o.dst with
        | none =>
          have e1 : (a.put none v).tmps = a.tmps := rfl
          have e2 : keepV (fun t => a.tmps.getD t undef) o v = tagV (fun t => a.tmps.getD t undef) o := by unfold keepV; rw [hd]
          rw [e1, ← e2]
          exact hsv
        | some d =>
          have e2 : keepV (fun t => a.tmps.getD t undef) o v = v := by unfold keepV; rw [hd]
          have e3 : tagV (fun t => (a.put (some d) v).tmps.getD t undef) o = v := by
            unfold tagV; rw [hd]
            simp only
            rw [getD_put (by rw [h.asize]; exact (hb1 d hd).2), if_pos rfl]
          rw [e3, ← e2]
          exact hsv
      · rw [getD_set hil, if_neg e] at hlj
        have hold := hK.at_ hsj w w' _ hR (h.says j oj sj hoj hsj hlj)
        have hsame : ∀ t, o.dst ≠ some t → (a.put o.dst v).tmps.getD t undef = a.tmps.getD t undef := fun t ht => by
          cases hd : o.dst with
          | none => rfl
          | some d' => rw [getD_put (by rw [h.asize]; exact (hb1 d' hd).2), if_neg (by rintro rfl; exact ht hd)]
        have htag : tagV (fun t => (a.put o.dst v).tmps.getD t undef) oj = tagV (fun t => a.tmps.getD t undef) oj := by
          unfold tagV
          cases hdj : oj.dst with
          | some d =>
            refine hsame d fun hd => ?_
            have h1 := (hb1 d hd).1
            have h2 := ((relyB_at hB hoj).1 d hdj).1
            rw [h1] at h2
            injection h2 with h2
            exact e h2
          | none =>
            cases hop : oj.op with
            | store y t x =>
              cases t with
              | tmp t =>
                refine hsame t fun hd => ?_
                have h1 := (hb1 t hd).1
                have h2 := (relyB_at hB hoj).2.2.2.1 y t x hdj hop i h1
                obtain ⟨ed, hed, hon, hbd⟩ := mem_waits h2
                have := h.down j oj hoj hlj ed hed hbd
                rw [hon] at this
                simp [Array.getD, hil] at this hun
                rw [this] at hun; cases hun
              | const _ => rfl
              | global _ => rfl
              | func _ => rfl
            | _ => rfl
        rw [htag]
        exact hold
    · rw [getD_set hil]
      split
      · rfl
      · by_cases e' : i = j
        · subst e'
          rw [ho'] at hoj; injection hoj with hoj; subst hoj
          exact hdeps e he hbd
        · rw [getD_set hil, if_neg e'] at hlj
          exact h.down j oj hoj hlj e he hbd
  unfold wpOp
  simp only [ho]
  rw [hwant]
  by_cases hw : wantF l (fun t => a.tmps.getD t undef) o = true
  · rw [if_pos hw] at hdt ⊢
    refine .inl ?_
    unfold Oper.wp
    rw [act_eval]
    generalize (execOp (evalW fun t => a.tmps.getD t undef) o).run P w = r at hdt
    cases r with
    | ok n w' =>
      cases n <;> simp only [relyUpon] at hdt <;> simp only [Oper.upon]
      case value v => exact hnext v w' hdt
      case skip => exact hnext undef w' hdt
      case enter fn args => exact hdt.mono fun e w'' ⟨v, he, hp⟩ => by subst he; exact hnext v w'' hp
    | halt x w' => simp only [relyUpon] at hdt
  · rw [if_neg hw] at hdt ⊢
    exact hnext undef w ⟨h.base_, hR0 w, hdt⟩

theorem all_listed {n : Nat} (hB : relyB l n = true) {listed : Array Bool} (hs : listed.size = l.length) (hr : Region.ready .any l.toArray listed = []) : ∀ (k : Nat), k < l.length → listed.getD k false = true := by
  intro k
  induction k using Nat.strongRecOn with
  | _ k ih =>
    intro hk
    cases hl : listed.getD k false with
    | true => rfl
    | false =>
      exfalso
      have ho : l[k]? = some l[k] := List.getElem?_eq_getElem hk
      have : k ∈ Region.ready .any l.toArray listed := by
        refine mem_ready.2 ⟨?_, l[k], by simp, fun e he hb => ?_⟩
        · have : k < listed.size := by omega
          simpa [Array.getD, this] using hl
        · have := (relyB_at hB ho).2.1 e he hb
          exact ih e.on this (by omega)
      rw [hr] at this
      cases this

theorem wpAny_rely (hR0 : ∀ w, R w w) (hB : relyB l a0.tmps.size = true) (hD : Duties P l (fun t => a0.tmps.getD t undef) base R Ss l Ss) (hK : Kept R Ss) {Q : Exit → Act → World → Prop}
    (hend : ∀ listed a w, (∀ k, k < l.length → listed.getD k false = true) → JJ l a0 base Ss listed a w → Q .normal a w) :
    ∀ (fuel : Nat) (listed : Array Bool) (a : Act) (w : World), JJ l a0 base Ss listed a w → (∃ c : List Bool, c.length = l.length ∧ listed.toList = c ∧ c.count false = fuel) → wpAny P .any l.toArray Q fuel listed a w
  | 0, listed, a, w, h, ⟨c, hc1, hc2, hc3⟩ => by
    have hr : Region.ready .any l.toArray listed = [] := by
      rw [List.eq_nil_iff_forall_not_mem]
      intro i hi
      have hun := (mem_ready.1 hi).1
      have hil : i < listed.size := by
        rcases Nat.lt_or_ge i listed.size with h' | h'
        · exact h'
        · simp [Array.getD, Nat.not_lt.2 h'] at hun
      have : false ∈ c := by
        rw [← hc2]
        have h1 : listed[i] = false := by simpa [Array.getD, hil] using hun
        rw [← h1]; simp
      exact absurd (List.count_pos_iff.2 this) (by omega)
    exact ⟨hr, hend _ _ _ (all_listed hB h.lsize hr) h⟩
  | fuel + 1, listed, a, w, h, ⟨c, hc1, hc2, hc3⟩ => by
    refine ⟨fun hr => hend _ _ _ (all_listed hB h.lsize hr) h, fun i hi => ?_⟩
    refine wpOp_mono (fun a' w' h' => wpAny_rely hR0 hB hD hK hend fuel _ a' w' h' ?_) (h.step hR0 hB hD hK hi)
    have hun := (mem_ready.1 hi).1
    have hil : i < listed.size := by
      rcases Nat.lt_or_ge i listed.size with h' | h'
      · exact h'
      · simp [Array.getD, Nat.not_lt.2 h'] at hun
    have h1 : listed[i] = false := by simpa [Array.getD, hil] using hun
    refine ⟨_, ?_, rfl, ?_⟩
    · simp; have := h.lsize; omega
    · rw [Array.toList_setIfInBounds, List.count_set (by simpa using hil)]
      subst hc2
      rw [hc3]
      simp [h1]

theorem ends_of {f : Nat → Value} {w : World} : ∀ {lo : List Oper} {ls : List (Value → World → Prop)}, (∀ (k : Nat) o s, lo[k]? = some o → ls[k]? = some s → s (tagV f o) w) → Ends f w lo ls
  | [], _, _ => by unfold Ends; trivial
  | _ :: _, [], _ => by unfold Ends; trivial
  | o :: r, s :: rs, h => ⟨h 0 o s rfl rfl, ends_of fun k o' s' h1 h2 => h (k + 1) o' s' (by simpa using h1) (by simpa using h2)⟩

theorem putAll_size (f : Nat → Value) : ∀ (lo : List Oper) (a : Act), (putAll f lo a).tmps.size = a.tmps.size
  | [], _ => rfl
  | o :: r, a => by
    rw [putAll, putAll_size f r]
    unfold Act.put; split <;> simp
theorem putAll_defers (f : Nat → Value) : ∀ (lo : List Oper) (a : Act), (putAll f lo a).defers = a.defers
  | [], _ => rfl
  | o :: r, a => by
    rw [putAll, putAll_defers f r]
    unfold Act.put; split <;> rfl
theorem putAll_getD (f : Nat → Value) : ∀ (lo : List Oper) (a : Act) (t : Nat), t < a.tmps.size →
    (putAll f lo a).tmps.getD t undef = f t ∧ (∃ o ∈ lo, o.dst = some t) ∨ (putAll f lo a).tmps.getD t undef = a.tmps.getD t undef ∧ ∀ o ∈ lo, o.dst ≠ some t
  | [], _, _, _ => .inr ⟨rfl, by simp⟩
  | o :: r, a, t, ht => by
    have hsz : (a.put o.dst (slotV f o.dst)).tmps.size = a.tmps.size := by unfold Act.put; split <;> simp
    rcases putAll_getD f r (a.put o.dst (slotV f o.dst)) t (by rw [hsz]; exact ht) with ⟨h1, o', h2, h3⟩ | ⟨h1, h2⟩
    · exact .inl ⟨h1, o', List.mem_cons_of_mem _ h2, h3⟩
    · by_cases hd : o.dst = some t
      · refine .inl ⟨?_, o, List.mem_cons_self .., hd⟩
        rw [putAll, h1, hd, getD_put ht, if_pos rfl]; rfl
      · refine .inr ⟨?_, fun o' ho' => ?_⟩
        · rw [putAll, h1]
          cases hd' : o.dst with
          | none => rfl
          | some d =>
            by_cases hds : d < a.tmps.size
            · rw [getD_put hds, if_neg (by rintro rfl; exact hd hd')]
            · unfold Act.put; simp [Array.setIfInBounds, hds]
        · rcases List.mem_cons.1 ho' with rfl | h'
          · exact hd
          · exact h2 o' h'

/-- THE REGION, each operation shown alone. -/
theorem wp_region_rely {id : Nat} {w0 : World} {Q : Exit → Act → World → Prop} (base : World → Prop) (R : World → World → Prop) (Ss : List (Value → World → Prop))
    (n : Nat) (hm : P.follows .mixedOrders = true) (hn : a0.tmps.size = n) (hB' : relyB l n = true) (h0 : base w0.drew) (hR0 : ∀ w, R w w) (hK : Kept R Ss)
    (hD : Duties P l (fun t => a0.tmps.getD t undef) base R Ss l Ss)
    (hend : ∀ f w, base w → Ends f w l Ss → Q .normal (putAll f l a0) w) : (Code.region id l.toArray true).wp P Q a0 w0 := by
  have hB : relyB l a0.tmps.size = true := by rw [hn]; exact hB'
  refine wp_region_any hm ?_
  refine wpAny_rely (a0 := a0) (R := R) (Ss := Ss) hR0 hB hD hK (fun listed a w hl h => ?_) _ _ _ _ (?_ : JJ l a0 base Ss _ _ _) ⟨_, ?_, rfl, ?_⟩
  · have e : a = putAll (fun t => a.tmps.getD t undef) l a0 := by
      have hd : a.defers = (putAll (fun t => a.tmps.getD t undef) l a0).defers := by rw [putAll_defers, h.defers]
      have ht : a.tmps = (putAll (fun t => a.tmps.getD t undef) l a0).tmps := by
        refine Array.ext (by rw [putAll_size, h.asize]) fun i h1 h2 => ?_
        have hi0 : i < a0.tmps.size := by rw [← h.asize]; exact h1
        have e1 : a.tmps[i] = a.tmps.getD i undef := by simp [Array.getD, h1]
        have e2 : (putAll (fun t => a.tmps.getD t undef) l a0).tmps[i] = (putAll (fun t => a.tmps.getD t undef) l a0).tmps.getD i undef := by rw [Array.getD, dif_pos h2]; rfl
        rw [e1, e2]
        rcases putAll_getD (fun t => a.tmps.getD t undef) l a0 i hi0 with ⟨h3, _⟩ | ⟨h3, h4⟩
        · exact h3.symm
        · rw [h3]
          exact h.old i fun j o ho hd => absurd hd (h4 o (List.mem_of_getElem? ho))
      cases a
      cases hp : putAll (fun t => Array.getD _ t undef) l a0
      simp only [hp] at hd ht
      subst hd
      subst ht
      simp_all
    rw [e]
    exact hend _ w h.base_ (ends_of fun k o s ho hs => h.says k o s ho hs (hl k (List.getElem?_eq_some_iff.1 ho).1))
  · exact ⟨h0, rfl, by simp, rfl, fun _ _ => rfl, fun j o s ho hs hl => by simp [Array.getD] at hl, fun j o ho hl => by simp [Array.getD] at hl⟩
  · simp
  · simp [List.count_replicate]
end

theorem duties_cons {P : Program} {l : List Oper} {old : Nat → Value} {base : World → Prop} {R : World → World → Prop} {Ss : List (Value → World → Prop)} {o : Oper} {r : List Oper} {s : Value → World → Prop} {rs : List (Value → World → Prop)}
    (h : Duty P l old base R Ss o s) (h' : Duties P l old base R Ss r rs) : Duties P l old base R Ss (o :: r) (s :: rs) := ⟨h, h'⟩
theorem duty_plain {P : Program} {l : List Oper} {old : Nat → Value} {base : World → Prop} {R : World → World → Prop} {Ss : List (Value → World → Prop)} {o : Oper} {s : Value → World → Prop} (hg : o.guard = none)
    (h : ∀ (f : Nat → Value) (w : World), base w → (∀ t ∈ o.looksAt l.toArray, TakesP l old Ss o f w t) → relyUpon P (fun v w' => PostP base R s w (keepV f o v) w') ((execOp (evalW f) o).run P w)) : Duty P l old base R Ss o s := by
  intro f w hb H
  have : wantF l f o = true := by unfold wantF; rw [hg]
  rw [if_pos this]
  exact h f w hb H
theorem duty_guard {P : Program} {l : List Oper} {old : Nat → Value} {base : World → Prop} {R : World → World → Prop} {Ss : List (Value → World → Prop)} {o : Oper} {s : Value → World → Prop} (j : Nat) (b : Bool) (d : Nat) (hg : o.guard = some (j, b)) (hd : (l[j]?).bind (·.dst) = some d)
    (h : ∀ (f : Nat → Value) (w : World), base w → (∀ t ∈ o.looksAt l.toArray, TakesP l old Ss o f w t) → f d = .bool b ∧ relyUpon P (fun v w' => PostP base R s w (keepV f o v) w') ((execOp (evalW f) o).run P w)) : Duty P l old base R Ss o s := by
  intro f w hb H
  obtain ⟨h1, h2⟩ := h f w hb H
  have : wantF l f o = true := by unfold wantF; rw [hg]; simp only [hd, h1, beq_self_eq_true]
  rw [if_pos this]
  exact h2
/-- An operation that its guard shuts out. -/
theorem duty_shut {P : Program} {l : List Oper} {old : Nat → Value} {base : World → Prop} {R : World → World → Prop} {Ss : List (Value → World → Prop)} {o : Oper} {s : Value → World → Prop} (j : Nat) (b : Bool) (d : Nat) (hg : o.guard = some (j, b)) (hd : (l[j]?).bind (·.dst) = some d)
    (h : ∀ (f : Nat → Value) (w : World), base w → (∀ t ∈ o.looksAt l.toArray, TakesP l old Ss o f w t) → f d = .bool (!b) ∧ s (keepV f o undef) w) : Duty P l old base R Ss o s := by
  intro f w hb H
  obtain ⟨h1, h2⟩ := h f w hb H
  have : wantF l f o = false := by unfold wantF; rw [hg]; simp only [hd, h1]; cases b <;> rfl
  rw [this]
  exact h2
/-- An operation whose guard was itself shut out. -/
theorem duty_dead {P : Program} {l : List Oper} {old : Nat → Value} {base : World → Prop} {R : World → World → Prop} {Ss : List (Value → World → Prop)} {o : Oper} {s : Value → World → Prop} (j : Nat) (b : Bool) (d : Nat) (hg : o.guard = some (j, b)) (hd : (l[j]?).bind (·.dst) = some d)
    (h : ∀ (f : Nat → Value) (w : World), base w → (∀ t ∈ o.looksAt l.toArray, TakesP l old Ss o f w t) → f d = undef ∧ s (keepV f o undef) w) : Duty P l old base R Ss o s := by
  intro f w hb H
  obtain ⟨h1, h2⟩ := h f w hb H
  have : wantF l f o = false := by unfold wantF; rw [hg]; simp only [hd, h1]; rfl
  rw [this]
  exact h2
theorem duties_nil {P : Program} {l : List Oper} {old : Nat → Value} {base : World → Prop} {R : World → World → Prop} {Ss : List (Value → World → Prop)} : Duties P l old base R Ss [] [] := trivial
/-- Blocks outside of X are as they were. -/
def RK (X : Nat → Prop) (w w' : World) : Prop := w.heap.size ≤ w'.heap.size ∧ ∀ b, b < w.heap.size → ¬ X b → w'.heap[b]? = w.heap[b]?
theorem RK.refl (X : Nat → Prop) (w : World) : RK X w w := ⟨Nat.le_refl _, fun _ _ _ => rfl⟩
theorem RK.alloc (X : Nat → Prop) (w : World) (o : Obj) : RK X w (w.alloc o) := ⟨by simp, fun _ hb _ => heap_alloc_old _ _ hb⟩
theorem RK.grown {X : Nat → Prop} {w w' : World} {g : Nat} (h : w.grownBy w' (some g)) (hg : X g) : RK X w w' := ⟨h.size, fun b hb hx => h.block b hb (by rintro e; injection e with e; subst e; exact hx hg)⟩
theorem RK.grown0 {X : Nat → Prop} {w w' : World} (h : w.grownBy w' none) : RK X w w' := ⟨h.size, fun b hb _ => h.block b hb (by simp)⟩
theorem RK.set {X : Nat → Prop} {w w1 : World} {p : Addr} (h : RK X w w1) (hp : X p.block) (u : Value) : RK X w (w1.setCell p u) :=
  ⟨by simpa [World.setCell] using h.1, fun b hb hx => (Below.heap_setCell w1 p u b (by rintro rfl; exact hx hp)).trans (h.2 b hb hx)⟩
theorem RK.cell {X : Nat → Prop} {w w' : World} (h : RK X w w') {b o : Nat} (hb : b < w.heap.size) (hx : ¬ X b) : w'.cell? ⟨b, o, none⟩ = w.cell? ⟨b, o, none⟩ := World.cell?_of_block (h.2 b hb hx)
/-- .. and once D holds it goes on to hold. -/
def RD (X : Nat → Prop) (D : World → Prop) (w w' : World) : Prop := RK X w w' ∧ (D w → D w')
theorem RD.refl (X : Nat → Prop) (D : World → Prop) (w : World) : RD X D w w := ⟨RK.refl X w, id⟩
def SVal (u : Value) (v : Value) (_ : World) : Prop := v = u
def SInt (k : IntKind) (lo hi : Int) (v : Value) (_ : World) : Prop := ∃ n : Int, lo ≤ n ∧ n ≤ hi ∧ v = .int k n
theorem SVal.kept {x : Value} {R : World → World → Prop} (w w' : World) (u : Value) (_ : R w w') (h : SVal x u w) : SVal x u w' := h
theorem SInt.kept {k : IntKind} {lo hi : Int} {R : World → World → Prop} (w w' : World) (u : Value) (_ : R w w') (h : SInt k lo hi u w) : SInt k lo hi u w' := h
attribute [go_sem] evalW relyUpon keepV tagV

end Go.Proofs.Ytndmcnddgcifiaa
