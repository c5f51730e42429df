/- The program's functions turned into functions on trees; no condition. -/
import Derived.Test.YtjmfjjmdfikanaaQg
set_option linter.unusedVariables false
set_option linter.unusedSimpArgs false
namespace Go.Proofs.Ytjmfjjmdfikanaa
open Go.RowKit

def compArgs (P : Program) : List TypeId → List Operand → Option (List (Option Nat × Opd))
  | _, [] => some []
  | ts, x :: xs =>
    match compOpd x, compArgs P ts.tail xs with
    | some y, some l =>
      match ts with
      | t :: _ => match P.underlying t with
        | some (.pointer e) => match szOf P e with
          | some n => some ((some n, y) :: l)
          | none => none
        | _ => some ((none, y) :: l)
      | [] => some ((none, y) :: l)
    | _, _ => none
def compCall (P : Program) : Op → Option TOp
  | .call ⟨.value (.func f), args, _⟩ =>
    match P.funcs[f]? with
    | some fn => (compArgs P fn.params.toList args.toList).map fun l => .call true (.f f) l
    | none => none
  | .call ⟨.value (.tmp i), args, tys⟩ => (compArgs P tys.toList args.toList).map fun l => .call true (.t i) l
  | _ => none
def compOpAny (P : Program) (mv : Bool) (op : Op) : TOp :=
  match compOp P mv op with
  | some t => t
  | none => match compCall P op with
    | some t => t
    | none => badOp
def dstOk (pp : List Nat) (nt : Nat) : Option Nat → Bool
  | some d => decide (d < nt) && !pp.contains d
  | none => true
def compOper (P : Program) (pp : List Nat) (nt : Nat) (ops : Array Oper) (mv : Bool) (o : Oper) : Option TOper :=
  if dstOk pp nt o.dst then
    match o.guard with
    | none => some ⟨o.dst, none, compOpAny P mv o.op⟩
    | some (j, want) => match (ops[j]?).bind (·.dst) with
      | some d => some ⟨o.dst, some (d, want), compOpAny P mv o.op⟩
      | none => none
  else none
def compOpers (P : Program) (pp : List Nat) (nt : Nat) (ops : Array Oper) : List Bool → List Oper → Option (List TOper)
  | _, [] => some []
  | m, o :: r => match compOper P pp nt ops (m.headD false) o, compOpers P pp nt ops m.tail r with
    | some t, some l => some (t :: l)
    | _, _ => none
/-- What each operation waits for, through others too; the operations so far stand in the list's order. -/
def depsOf : List Oper → List (List Nat) → List (List Nat)
  | [], acc => acc
  | o :: r, acc => depsOf r (acc ++ [((o.after.toList.filter (Region.binds .any)).flatMap fun e => e.on :: acc.getD e.on []).eraseDups])
def depsChk (ops : List Oper) (deps : List (List Nat)) : Nat → Bool
  | 0 => true
  | i + 1 => depsChk ops deps i && match ops[i]? with
    | some o => (o.after.toList.all fun e => !Region.binds .any e || decide (e.on < i)) && ((deps.getD i []).all fun j => o.after.toList.any fun e => Region.binds .any e && (e.on == j || (deps.getD e.on []).contains j))
    | none => true
def compDraw (P : Program) (ops : Array Oper) (tops : List TOper) (draw : Bool) : Option (Option (List (List Nat))) :=
  if draw then
    if P.follows .mixedOrders && depsChk ops.toList (depsOf ops.toList []) ops.size then
      if statOk (depsOf ops.toList []) tops (List.range tops.length) then some none else some (some (depsOf ops.toList []))
    else none
  else some none
def lastReg : Code → Option Nat
  | .region id _ _ => some id
  | .seq _ b => lastReg b
  | .cond _ a b => match lastReg b with | some i => some i | none => lastReg a
  | .block _ b => lastReg b
  | _ => none
/-- Nothing is done, but what is not read again is forgotten, as at the other way's end. -/
def skipAs (pers : Nat → Prs) (a : Code) : TCode → TCode
  | .skip => match lastReg a with | some i => .nrm (pers i) | none => .skip
  | t => t
def compCode (P : Program) (pp : List Nat) (nt : Nat) (mv : Nat → List Oper → Bool → List Bool) (pers : Nat → Prs) : Code → Option TCode
  | .skip => some .skip
  | .region id ops draw => match compOpers P pp nt ops (mv id ops.toList draw) ops.toList with
    | some l => match compDraw P ops l draw with
      | some d => some (.reg id d l (pers id))
      | none => none
    | none => none
  | .seq a b => match compCode P pp nt mv pers a, compCode P pp nt mv pers b with
    | some x, some y => some (.seq x y)
    | _, _ => none
  | .cond c a b => match compOpd c, compCode P pp nt mv pers a, compCode P pp nt mv pers b with
    | some k, some x, some y => some (.cond k (skipAs pers b x) (skipAs pers a y))
    | _, _, _ => none
  | .block id b => (compCode P pp nt mv pers b).map (.block id)
  | .loop b => (compCode P pp nt mv pers b).map .loop
  | .exit id => some (.exit id)
  | .ret => some .ret
  | _ => none
def compRes (P : Program) : List ResultVar → Option (List TRs)
  | [] => some []
  | .tmp t :: r => (compRes P r).map (.tmp t :: ·)
  | .cell t ty :: r => match loadOf P ty, compRes P r with
    | some n, some l => some (.cell t n :: l)
    | _, _ => none

/-! ## Hints: none of this is relied on -/
def opersOf : Code → List Oper
  | .region _ ops _ => ops.toList
  | .seq a b => opersOf a ++ opersOf b
  | .cond _ a b => opersOf a ++ opersOf b
  | .block _ b => opersOf b
  | .loop b => opersOf b
  | _ => []
def condsOf : Code → List Operand
  | .seq a b => condsOf a ++ condsOf b
  | .cond c a b => c :: (condsOf a ++ condsOf b)
  | .block _ b => condsOf b
  | .loop b => condsOf b
  | _ => []
def regionsOf : Code → List (Nat × List Oper)
  | .region id ops _ => [(id, ops.toList)]
  | .seq a b => regionsOf a ++ regionsOf b
  | .cond _ a b => regionsOf a ++ regionsOf b
  | .block _ b => regionsOf b
  | .loop b => regionsOf b
  | _ => []
def tmpsOf (l : List Operand) : List Nat := l.filterMap fun x => match x with | .tmp t => some t | _ => none
def resTmps (l : List ResultVar) : List Nat := l.map fun r => match r with | .tmp t => t | .cell t _ => t
def usesOf (ops : List Oper) : List Nat := ops.flatMap fun o => tmpsOf o.op.operands.toList
def namesOnly : Op → Bool
  | .load _ _ => true
  | .move (.tmp _) => true
  | .field _ _ _ => true
  | .fieldAddr _ _ _ => true
  | .indexAddr _ _ _ => true
  | .slice _ _ _ _ _ => true
  | .nilCheck _ => true
  | .extract _ _ => true
  | .pick _ _ _ => true
  | _ => false
/-- What only names the memory of another slot. -/
def softOp : Op → Bool
  | .load _ _ => true
  | .move (.tmp _) => true
  | .field _ _ _ => true
  | _ => false
/-! Which slots are read again: sets of numbers as bits. -/
def bitsOf (l : List Nat) : Nat := l.foldl (fun b i => b ||| (1 <<< i)) 0
def unbits (nt b : Nat) : List Nat := (List.range nt).filter fun i => b.testBit i
def delBit (b i : Nat) : Nat := if b.testBit i then b - (1 <<< i) else b
def guardSlot (ops : List Oper) (o : Oper) : List Nat := match o.guard with | some (j, _) => ((ops[j]?).bind (·.dst)).toList | none => []
def liveOps (ops : List Oper) : List Oper → Nat → Nat
  | [], out => out
  | o :: r, out =>
    let b := liveOps ops r out
    (match o.dst with | some d => delBit b d | none => b) ||| bitsOf (tmpsOf o.op.operands.toList ++ guardSlot ops o)
def liveC (rt : Nat) : Code → Nat → List (Nat × Nat) → Nat × List (Nat × Nat)
  | .region id ops _, out, _ => (liveOps ops.toList ops.toList out, [(id, out)])
  | .seq a b, out, ex => let y := liveC rt b out ex; let x := liveC rt a y.1 ex; (x.1, x.2 ++ y.2)
  | .cond c a b, out, ex => let x := liveC rt a out ex; let y := liveC rt b out ex; (x.1 ||| y.1 ||| bitsOf (tmpsOf [c]), x.2 ++ y.2)
  | .block id b, out, ex => liveC rt b out ((id, out) :: ex)
  | .loop b, _, ex => let l := (liveC rt b 0 ex).1; liveC rt b l ex
  | .exit id, _, ex => ((aget ex id).getD 0, [])
  | .ret, _, _ => (rt, [])
  | _, out, _ => (out, [])
/-- Slots that hold pointers. -/
def isPtrTy (P : Program) (t : TypeId) : Bool := match P.underlying t with | some (.pointer _) => true | _ => false
def ptrSlot (P : Program) (b : Nat) (o : Oper) : Nat :=
  match o.dst with
  | some d =>
    if (match o.op with
      | .box _ _ => true
      | .alloc _ => true
      | .fieldAddr _ _ _ => true
      | .indexAddr _ _ _ => true
      | .nilCheck _ => true
      | .load t _ => isPtrTy P t
      | .move (.tmp s) => b.testBit s
      | .assign (.tmp s) => b.testBit s
      | .call ⟨.value (.func f), _, _⟩ => match P.funcs[f]? with | some fn => fn.resultTypes.toList.map (isPtrTy P) == [true] | none => false
      | _ => false) then b ||| (1 <<< d) else b
  | none => b
/-- Whose memory a slot may name. -/
def aliasOf (b : Nat) (o : Oper) : List (Nat × Nat) :=
  match o.dst with
  | some d => if namesOnly o.op then (tmpsOf o.op.operands.toList).map fun s => (d, s) else match o.op with
    | .assign (.tmp s) => if b.testBit s then [(d, s)] else []
    | _ => []
  | none => []
def aliases (P : Program) (pp : List Nat) (c : Code) : List (Nat × Nat) :=
  let ops := opersOf c
  let b := ops.foldl (ptrSlot P) (ops.foldl (ptrSlot P) (bitsOf pp))
  ops.flatMap (aliasOf b)
def closeB (al : List (Nat × Nat)) (b : Nat) : Nat := al.foldr (fun x b => if b.testBit x.1 then b ||| (1 <<< x.2) else b) b
def rootsOf (l : List Nat) : List Nat := l.flatMap fun i => [2 * i + 2, 2 * i + 3]
/-- What an operation takes may be moved: nothing that is read behind it names the same memory. -/
def takenOf : Op → List Operand
  | .store _ _ x => [x]
  | .call ⟨.builtin .append, args, _⟩ => args.toList.tail
  | op => op.operands.toList
def mvOp (al : List (Nat × Nat)) (after : Nat) (o : Oper) : Bool :=
  let live := closeB al (closeB al after)
  (tmpsOf (takenOf o.op)).all fun t => (closeB al (closeB al (1 <<< t))) &&& live == 0
def mvSeq (al : List (Nat × Nat)) (ops : List Oper) (out : Nat) : List Oper → List Bool
  | [] => []
  | o :: r => mvOp al (liveOps ops r out) o :: mvSeq al ops out r
def mvDrawn (al : List (Nat × Nat)) (ops : List Oper) (out : Nat) : List (Nat × Oper) → List Bool
  | [] => []
  | (i, o) :: r => mvOp al (out ||| bitsOf ((ops.zipIdx.filter fun x => x.2 != i).flatMap fun x => tmpsOf x.1.op.operands.toList)) o :: mvDrawn al ops out r
def mvOf (P : Program) (pp : List Nat) (c : Code) (res : List Nat) : Nat → List Oper → Bool → List Bool :=
  let tb := (liveC (bitsOf res) c (bitsOf res) []).2
  let al := aliases P pp c
  let ppb := bitsOf pp
  fun id ops draw =>
    let out := ((aget tb id).getD 0) ||| ppb
    if draw then mvDrawn al ops out (ops.zipIdx.map fun x => (x.2, x.1)) else mvSeq al ops out ops
/-- Slots and memory that last behind a region. -/
def persOf (P : Program) (pp : List Nat) (nt : Nat) (c : Code) (res : List Nat) : Nat → Prs :=
  let tb := (liveC (bitsOf res) c (bitsOf res) []).2
  let al := aliases P pp c
  let ppb := bitsOf pp
  fun id =>
    let b := ((aget tb id).getD 0) ||| ppb
    (unbits nt b, rootsOf (unbits nt (closeB al (closeB al b))))

def ptrParams (P : Program) : Nat → List TypeId → List Nat
  | _, [] => []
  | i, t :: r => match P.underlying t with
    | some (.pointer _) => i :: ptrParams P (i + 1) r
    | _ => ptrParams P (i + 1) r
def compFn (P : Program) (f : FuncId) : Option TFn :=
  match P.funcs[f]? with
  | some fn =>
    match fn.body with
    | some c =>
      let np := fn.params.size
      let pp := ptrParams P 0 fn.params.toList
      let rt := resTmps fn.results.toList
      let pers := persOf P pp fn.ntmps c rt
      match compCode P pp fn.ntmps (mvOf P pp c rt) pers c, compRes P fn.results.toList with
      | some tc, some rs => some ⟨np, pp, fn.ntmps, tc, rs⟩
      | _, _ => none
    | none => none
  | none => none

section
variable {P : Program} {M : Fm} {pp : List Nat} {nt : Nat}

theorem compRes_ok : ∀ {qs : List ResultVar} {l : List TRs}, compRes P qs = some l → l.length = qs.length ∧ ∀ k (h : k < l.length) (h' : k < qs.length), ResOk P l[k] qs[k] := by
  intro qs
  induction qs with
  | nil =>
    intro l h
    simp only [compRes, Option.some.injEq] at h
    subst h
    exact ⟨rfl, fun k h => by simp at h⟩
  | cons q qs ih =>
    intro l h
    cases q with
    | tmp t =>
      simp only [compRes] at h
      obtain ⟨l', h1, rfl⟩ := omap h
      obtain ⟨e, h2⟩ := ih h1
      refine ⟨by simp [e], fun k hk hk' => ?_⟩
      cases k with
      | zero => exact rfl
      | succ k => exact h2 k (by simpa using hk) (by simpa using hk')
    | cell t ty =>
      simp only [compRes] at h
      split at h
      · rename_i n l' h1 h2
        injection h with h
        subst h
        obtain ⟨e, h3⟩ := ih h2
        refine ⟨by simp [e], fun k hk hk' => ?_⟩
        cases k with
        | zero => exact ⟨ty, rfl, loadOf_ok h1⟩
        | succ k => exact h3 k (by simpa using hk) (by simpa using hk')
      · simp at h
theorem compArgs_ok : ∀ {xs : List Operand} {ts : List TypeId} {l : List (Option Nat × Opd)}, compArgs P ts xs = some l → l.length = xs.length ∧ ∀ j (h : j < l.length) (h' : j < xs.length), compOpd xs[j] = some l[j].2 := by
  intro xs
  induction xs with
  | nil =>
    intro ts l h
    simp only [compArgs, Option.some.injEq] at h
    subst h
    exact ⟨rfl, fun k h => by simp at h⟩
  | cons x xs ih =>
    intro ts l h
    simp only [compArgs] at h
    split at h
    · rename_i y l' h1 h2
      obtain ⟨e, h3⟩ := ih h2
      obtain ⟨n, rfl⟩ : ∃ n, l = (n, y) :: l' := by
        (repeat' split at h) <;> first | (injection h with h; exact ⟨_, h.symm⟩) | simp at h
      refine ⟨by simp [e], fun j hj hj' => ?_⟩
      cases j with
      | zero => exact h1
      | succ j => exact h3 j (by simpa using hj) (by simpa using hj')
    · simp at h
theorem compCall_ok {op : Op} {t : TOp} (h : compCall P op = some t) : isCall1 op t := by
  unfold compCall at h
  split at h
  · rename_i f args tys
    split at h
    · obtain ⟨l, h1, rfl⟩ := omap h
      obtain ⟨e, h2⟩ := compArgs_ok h1
      exact ⟨rfl, by simpa using e, fun j hj hj' => by have := h2 j hj (by simpa using hj'); simpa using this⟩
    · simp at h
  · rename_i i args tys
    obtain ⟨l, h1, rfl⟩ := omap h
    obtain ⟨e, h2⟩ := compArgs_ok h1
    exact ⟨rfl, by simpa using e, fun j hj hj' => by have := h2 j hj (by simpa using hj'); simpa using this⟩
  · simp at h
theorem compOper_ok {ops : Array Oper} {mv : Bool} {o : Oper} {t : TOper} (hN : M.N = nt) (hpr : ∀ r, M.pr r ≠ none → ∃ i ∈ pp, r = 2 * i + 2) (h : compOper P pp nt ops mv o = some t) : OperOk P M isCallOp ops o t := by
  unfold compOper at h
  split at h
  case isFalse => simp at h
  rename_i hd
  have hd' : ∀ d, o.dst = some d → d < M.N ∧ M.pr (2 * d + 2) = none := fun d e => by
    rw [e] at hd
    simp only [dstOk, Bool.and_eq_true, decide_eq_true_eq, Bool.not_eq_true', List.contains_eq_mem, decide_eq_false_iff_not] at hd
    refine ⟨by rw [hN]; exact hd.1, ?_⟩
    cases hp : M.pr (2 * d + 2) with
    | none => rfl
    | some x =>
      obtain ⟨i, hi, e2⟩ := hpr (2 * d + 2) (by rw [hp]; simp)
      have e3 : d = i := Nat.eq_of_mul_eq_mul_left (by decide : 0 < 2) (Nat.add_right_cancel e2)
      rw [← e3] at hi
      exact absurd hi hd.2
  have hop' : (∃ mv', compOp P mv' o.op = some (compOpAny P mv o.op)) ∨ isCallOp o.op (compOpAny P mv o.op) := by
    unfold compOpAny
    cases h1 : compOp P mv o.op with
    | some t1 => exact .inl ⟨mv, h1⟩
    | none =>
      cases h2 : compCall P o.op with
      | some t1 => exact .inr (.inr (compCall_ok h2))
      | none => exact .inr (.inl rfl)
  split at h
  · rename_i hg
    injection h with h
    subst h
    exact ⟨rfl, hd', .inl ⟨hg, rfl⟩, hop'⟩
  · rename_i j want hg
    split at h
    · rename_i d hj
      injection h with h
      subst h
      exact ⟨rfl, hd', .inr ⟨j, want, d, hg, rfl, hj⟩, hop'⟩
    · simp at h
theorem compOpers_ok {ops : Array Oper} (hN : M.N = nt) (hpr : ∀ r, M.pr r ≠ none → ∃ i ∈ pp, r = 2 * i + 2) : ∀ {l : List Oper} {mv : List Bool} {ts : List TOper}, compOpers P pp nt ops mv l = some ts → ts.length = l.length ∧ ∀ i (h : i < l.length) (h' : i < ts.length), OperOk P M isCallOp ops l[i] ts[i] := by
  intro l
  induction l with
  | nil =>
    intro mv ts h
    simp only [compOpers, Option.some.injEq] at h
    subst h
    exact ⟨rfl, fun k h => by simp at h⟩
  | cons o l ih =>
    intro mv ts h
    simp only [compOpers] at h
    split at h
    · rename_i t l' h1 h2
      injection h with h
      subst h
      obtain ⟨e, h3⟩ := ih h2
      refine ⟨by simp [e], fun j hj hj' => ?_⟩
      cases j with
      | zero => exact compOper_ok hN hpr h1
      | succ j => exact h3 j (by simpa using hj) (by simpa using hj')
    · simp at h
theorem depsChk_ok {ops : List Oper} {deps : List (List Nat)} : ∀ {n : Nat}, depsChk ops deps n = true → ∀ i, i < n → ∀ (h : i < ops.length), (∀ e ∈ ops[i].after.toList, Region.binds .any e = true → e.on < i) ∧ ∀ j ∈ deps.getD i [], ∃ e ∈ ops[i].after.toList, Region.binds .any e = true ∧ (e.on = j ∨ j ∈ deps.getD e.on []) := by
  intro n
  induction n with
  | zero => intro _ i hi; omega
  | succ n ih =>
    intro h i hi hl
    simp only [depsChk, Bool.and_eq_true] at h
    by_cases e : i < n
    · exact ih h.1 i e hl
    · obtain rfl : i = n := by omega
      have h2 := h.2
      rw [List.getElem?_eq_getElem hl] at h2
      simp only [Bool.and_eq_true, List.all_eq_true, List.any_eq_true, Bool.or_eq_true, Bool.not_eq_true', decide_eq_true_eq, beq_iff_eq, List.contains_eq_mem] at h2
      refine ⟨fun e he hb => ?_, fun j hj => ?_⟩
      · rcases h2.1 e he with h3 | h3
        · rw [hb] at h3; simp at h3
        · exact h3
      · obtain ⟨e, he, h3, h4⟩ := h2.2 j hj
        exact ⟨e, he, h3, h4⟩
def DrawOk (P : Program) (ops : Array Oper) (tops : List TOper) (draw : Bool) (d : Option (List (List Nat))) : Prop := match d with
    | some deps => draw = true ∧ DepsOk ops deps ∧ P.follows .mixedOrders = true
    | none => draw = true → ∃ deps, DepsOk ops deps ∧ P.follows .mixedOrders = true ∧ statOk deps tops (List.range tops.length) = true
theorem compDraw_ok {ops : Array Oper} {tops : List TOper} {draw : Bool} {d : Option (List (List Nat))} (h : compDraw P ops tops draw = some d) : DrawOk P ops tops draw d := by
  unfold compDraw at h
  split at h
  · rename_i hd
    split at h
    case isFalse => simp at h
    rename_i hc
    simp only [Bool.and_eq_true] at hc
    have hD : DepsOk ops (depsOf ops.toList []) := by
      refine ⟨fun i hi e he hb => ?_, fun i hi j hj => ?_⟩
      · exact (depsChk_ok hc.2 i hi (by simpa using hi)).1 e (by simpa using he) hb
      · obtain ⟨e, he, h3⟩ := (depsChk_ok hc.2 i hi (by simpa using hi)).2 j hj
        exact ⟨e, by simpa using he, h3⟩
    split at h
    · rename_i hs
      injection h with h
      subst h
      exact fun _ => ⟨_, hD, hc.1, hs⟩
    · injection h with h
      subst h
      exact ⟨hd, hD, hc.1⟩
  · rename_i hd
    injection h with h
    subst h
    exact fun h' => absurd h' (by simpa using hd)
theorem skipAs_ok {isCall : Op → TOp → Prop} {pers : Nat → Prs} {a c : Code} {t : TCode} (h : CodeOk P M isCall t c) : CodeOk P M isCall (skipAs pers a t) c := by
  cases t with
  | skip =>
    unfold skipAs
    cases lastReg a <;> exact h
  | _ => exact h
theorem compCode_ok {mv : Nat → List Oper → Bool → List Bool} {pers : Nat → Prs} (hN : M.N = nt) (hpr : ∀ r, M.pr r ≠ none → ∃ i ∈ pp, r = 2 * i + 2) : ∀ {c : Code} {tc : TCode}, compCode P pp nt mv pers c = some tc → CodeOk P M isCallOp tc c := by
  intro c
  induction c with
  | skip => intro tc h; simp only [compCode, Option.some.injEq] at h; subst h; exact rfl
  | exit id => intro tc h; simp only [compCode, Option.some.injEq] at h; subst h; exact rfl
  | ret => intro tc h; simp only [compCode, Option.some.injEq] at h; subst h; exact rfl
  | region id ops draw =>
    intro tc h
    simp only [compCode] at h
    split at h
    case h_2 => simp at h
    rename_i l h1
    split at h
    case h_2 => simp at h
    rename_i d hd
    injection h with h
    subst h
    obtain ⟨e, h2⟩ := compOpers_ok hN hpr h1
    exact ⟨id, ops, draw, rfl, by simpa using e, fun i hi hi' => by have := h2 i (by simpa using hi) hi'; simpa using this, compDraw_ok hd⟩
  | seq a b iha ihb =>
    intro tc h
    simp only [compCode] at h
    split at h
    · rename_i x y h1 h2
      injection h with h
      subst h
      exact ⟨a, b, rfl, iha h1, ihb h2⟩
    · simp at h
  | cond k a b iha ihb =>
    intro tc h
    simp only [compCode] at h
    split at h
    · rename_i k' x y h1 h2 h3
      injection h with h
      subst h
      exact ⟨k, a, b, rfl, h1, skipAs_ok (iha h2), skipAs_ok (ihb h3)⟩
    · simp at h
  | block id b ih =>
    intro tc h
    simp only [compCode] at h
    obtain ⟨x, h1, rfl⟩ := omap h
    exact ⟨b, rfl, ih h1⟩
  | loop b ih =>
    intro tc h
    simp only [compCode] at h
    obtain ⟨x, h1, rfl⟩ := omap h
    exact ⟨b, rfl, ih h1⟩
  | _ => intro tc h; simp [compCode] at h

/-- The functions of a table are as the program has them. -/
theorem tabOk_of {T : FuncId → Option TFn} (h : ∀ f tf, T f = some tf → compFn P f = some tf ∧ tf.np ≤ tf.nt ∧ ∀ fn, P.funcs[f]? = some fn → (fn.name == "runtime.NumGoroutine") = false) : TabOk P T := by
  intro f tf hT
  obtain ⟨h1, h2, h3⟩ := h f tf hT
  unfold compFn at h1
  split at h1
  case h_2 => simp at h1
  rename_i fn hf
  split at h1
  case h_2 => simp at h1
  rename_i c hb
  simp only at h1
  split at h1
  · rename_i tc rs hc hr
    injection h1 with h1
    subst h1
    obtain ⟨e, hres⟩ := compRes_ok hr
    exact ⟨fn, c, hf, h3 fn hf, hb, rfl, h2, fun M hN hpr => compCode_ok hN hpr hc, by simpa using e, fun k hk hk' => by have := hres k hk (by simpa using hk'); simpa using this⟩
  · simp at h1
end
end Go.Proofs.Ytjmfjjmdfikanaa
/- One function's run on trees, told by itself; loops; no condition. -/
set_option linter.unusedVariables false
set_option linter.unusedSimpArgs false
namespace Go.Proofs.Ytjmfjjmdfikanaa
open Go.RowKit

theorem stepF_runT {E : Env} {T : FuncId → Option TFn} {B F : Callee} {n : Nat} {f : FuncId} {tf : TFn} (h : T f = some tf) (vals : List TV) (pts : Pts) : stepF E T B F n f vals pts = runT E F n tf vals pts := by
  unfold stepF
  rw [h]
theorem runF_runT {E : Env} {T : FuncId → Option TFn} {B : Callee} {n : Nat} {f : FuncId} {tf : TFn} (h : T f = some tf) (vals : List TV) (pts : Pts) : runF E T B (n + 1) f vals pts = runT E (runF E T B n) n tf vals pts := stepF_runT h vals pts
theorem runF_lib {E : Env} {T : FuncId → Option TFn} {B : Callee} {n : Nat} {f : FuncId} (h : T f = none) (vals : List TV) (pts : Pts) : runF E T B (n + 1) f vals pts = B f vals pts := by
  unfold runF stepF
  rw [h]

/-- Rounds of a loop, by what stands before each. -/
theorem iter_inv {f : St → Option (TExit × St)} {e : TExit} {τ : St} (I : Nat → St) (m : Nat) (hs : ∀ k, k < m → f (I k) = some (.normal, I (k + 1))) (hl : f (I m) = some (e, τ)) (he : e ≠ .normal) : ∀ k n, k ≤ m → m - k < n → iter f n (I k) = some (e, τ) := by
  intro k n
  induction n generalizing k with
  | zero => intro _ h; omega
  | succ n ih =>
    intro hk hn
    simp only [iter]
    by_cases e1 : k = m
    · subst e1
      rw [hl]
      cases e <;> first | exact absurd rfl he | rfl
    · rw [hs k (by omega)]
      exact ih (k + 1) (by omega) (by omega)
/-- A loop that ends, by what stands before each round. -/
theorem iter_some {f : St → Option (TExit × St)} (R : Nat → St → Prop) (Q : TExit → St → Prop) (hs : ∀ k σ, R k σ → ∃ e σ', f σ = some (e, σ') ∧ ((e = .normal ∧ ∃ j, j < k ∧ R j σ') ∨ (e ≠ .normal ∧ Q e σ'))) : ∀ k n σ, R k σ → k < n → ∃ e σ', iter f n σ = some (e, σ') ∧ Q e σ' := by
  intro k
  induction k using Nat.strongRecOn with
  | _ k ih =>
    intro n σ hR hn
    obtain ⟨e, σ', h1, h2⟩ := hs k σ hR
    cases n with
    | zero => omega
    | succ n =>
      rcases h2 with ⟨rfl, j, hj, hRj⟩ | ⟨he, hQ⟩
      · obtain ⟨e2, σ2, h3, h4⟩ := ih j hj n σ' hRj (by omega)
        exact ⟨e2, σ2, by simp only [iter, h1, Option.bind_some]; exact h3, h4⟩
      · exact ⟨e, σ', by simp only [iter, h1, Option.bind_some], hQ⟩
end Go.Proofs.Ytjmfjjmdfikanaa
/- The run on trees once more, with all that is done to data left to a record of functions; definitions. -/
set_option linter.unusedVariables false
set_option linter.unusedSimpArgs false
namespace Go.Proofs.Ytjmfjjmdfikanaa
open Go.RowKit

/-- What is done to data. -/
structure Prims where
  ar : BinOp → IntKind → Int → Int → Int
  cm : BinOp → Int → Int → Bool
  sh : BinOp → IntKind → Int → Nat → Int
  sb : BinOp → ByteArray → ByteArray → Option Value
  un : UnOp → Value → Option Value
  cv : IntKind → Int → Int
  natI : Nat → Int
  lenN : List (List TV) → Nat
  inb : List (List TV) → Nat → Nat → Bool
  inw : List (List TV) → Nat → Nat → Nat → Nat → Bool
  elt : List (List TV) → Nat → List TV
  addN : Nat → Nat → Nat
  subN : Nat → Nat → Nat
  slOk : Nat → Nat → Nat → Bool
  win : List (List TV) → Nat → Nat → List (List TV)
  immC : List (List TV) → List (List TV)
  immW : List (List TV) → Nat → Nat → List (List TV)
  allLen : List (List TV) → Nat → Bool
  appOk : Nat → Nat → List (List TV) → List (List TV) → Bool
  cat : List (List TV) → List (List TV) → List (List TV)
  mkOk : Nat → Nat → Nat → Bool
  rep : Nat → List TV → List (List TV)
  getC : List (List TV) → Hop → List Hop → Option TV
  setC : List (List TV) → Hop → List Hop → TV → List (List TV)
  shC : List (List TV) → Nat → List Nat → List (List TV)
  eqf : List FK → List Value → List Value → Option Bool
  eqB : Bool → Bool → Bool
  notB : Bool → Bool
  fmm : Bool → IntKind → Int → List Value → Option Int
  strAt : ByteArray → Nat → Option Int
  strLen : ByteArray → Int
  strB : ByteArray → List (List TV)
  strOk : ByteArray → Bool
  bstr : List (List TV) → Option ByteArray
  cpy : Nat → List (List TV) → List (List TV) → Nat → Nat → Option (Nat × Option (List (List TV)))
  it : (St → Option (TExit × St)) → Nat → St → Option (TExit × St)

def arR (op : BinOp) (k : IntKind) (a b : Int) : Int :=
  match op with
  | .add => k.wrap (a + b)
  | .sub => k.wrap (a - b)
  | .mul => k.wrap (a * b)
  | .quo => k.wrap (a.tdiv b)
  | .rem => a.tmod b
  | .and => k.wrap (BitVec.ofInt k.bits a &&& BitVec.ofInt k.bits b).toNat
  | .or => k.wrap (BitVec.ofInt k.bits a ||| BitVec.ofInt k.bits b).toNat
  | .xor => k.wrap (BitVec.ofInt k.bits a ^^^ BitVec.ofInt k.bits b).toNat
  | .andNot => k.wrap (BitVec.ofInt k.bits a &&& ~~~BitVec.ofInt k.bits b).toNat
  | _ => 0
def shR (op : BinOp) (k : IntKind) (a : Int) (n : Nat) : Int :=
  match op with
  | .shl => k.wrap (a * 2 ^ (min n k.bits))
  | .shr => a.fdiv (2 ^ (min n k.bits))
  | _ => 0
def cmR (op : BinOp) (a b : Int) : Bool :=
  match op with
  | .eql => a == b
  | .neq => a != b
  | .lss => decide (a < b)
  | .leq => decide (a ≤ b)
  | .gtr => decide (a > b)
  | .geq => decide (a ≥ b)
  | _ => false
def realP : Prims where
  ar := arR
  cm := cmR
  sh := shR
  sb op a b := pureV (Go.binOp op 0 (.string a) (.string b))
  un op x := pureV (Op.unary op x)
  cv k n := k.wrap n
  natI n := n
  lenN c := c.length
  inb c k sz := k < c.length && (c.getD k []).length == sz && decide (0 < sz)
  inw c lo n k sz := k < n && (c.getD (lo + k) []).length == sz
  elt c k := c.getD k []
  addN a b := a + b
  subN a b := a - b
  slOk l h n := l ≤ h && decide (h ≤ n)
  win c l n := (c.drop l).take n
  immC c := TV.immLL c
  immW c lo n := ((c.drop lo).take n).map fun e => e.map TV.imm
  allLen c sz := c.all (fun e => e.length == sz)
  appOk sz bytes c c2 := (c ++ c2).all (fun e => e.length == sz) && decide (c.length + c2.length ≤ 1099511627776) && decide ((c.length + c2.length) * bytes ≤ 140737488355328)
  cat c c2 := c ++ c2
  mkOk n m sz := n = m && decide (n * sz ≤ 16777216)
  rep n z := List.replicate n z
  getC c h hs := getT (.ow c) (h :: hs)
  setC c h hs t := c.modify h.1 fun el => el.modify h.2.2 fun t1 => setT t1 hs t
  shC c o os := c.map fun el => el.modify o fun t => shareT t os
  eqf ks xs ys := eqFlats ks xs ys
  eqB a b := a == b
  notB a := !a
  fmm mx k a r := foldMM mx k a r
  strAt s k := (s[k]?).map fun b => (b.toNat : Int)
  strLen s := s.size
  strB s := bytesC s
  strOk s := decide (s.size < 4294967296)
  bstr c := bstr c
  cpy sz c c2 lo n := cpyC sz c c2 lo n
  it f n σ := iter f n σ

/-- A program's run together with what it reads and writes. -/
def addR {α : Type} (x : Loc) : Option (α × St × Foot) → Option (α × St × Foot)
  | some (a, σ, (R, W)) => some (a, σ, (x :: R, W))
  | none => none
def addW {α : Type} (x : Loc) : Option (α × St × Foot) → Option (α × St × Foot)
  | some (a, σ, (R, W)) => some (a, σ, (R, x :: W))
  | none => none
def SP.rf {α : Type} : SP α → St → Option (α × St × Foot)
  | .ret a, σ => some (a, σ, ([], []))
  | .fail, _ => none
  | .rdT i k, σ => addR (.t i) ((k (σ.t i)).rf σ)
  | .rdC r o k, σ => addR (.c r o) ((k (σ.c r o)).rf σ)
  | .rdV q k, σ => addR (.v q) ((k (σ.v q)).rf σ)
  | .wrT i t k, σ => addW (.t i) (k.rf { σ with tm := aset σ.tm i t })
  | .wrC r o t k, σ =>
    match aget σ.ce r with
    | some l => if o < l.length then addR (.n r) (addW (.c r o) (k.rf { σ with ce := aset σ.ce r (l.set o t) })) else none
    | none => none
  | .new r l k, σ => addR (.v (r, 0, 0)) (addW (.n r) (addW (.v (r, 0, 0)) (k.rf { σ with ce := aset σ.ce r l, vr := vinc σ.vr (r, 0, 0) })))
  | .bump q k, σ => addR (.v q) (addW (.v q) (k.rf { σ with vr := vinc σ.vr q }))
def runFF (pg : Nat → SP Unit) : List Nat → St → Option (List (Nat × Foot) × St)
  | [], σ => some ([], σ)
  | i :: r, σ => match (pg i).rf σ with
    | some (_, σ1, f) => match runFF pg r σ1 with
      | some (fs, τ) => some ((i, f) :: fs, τ)
      | none => none
    | none => none
def allB {α : Type} (f : α → Bool) : List α → Bool
  | [] => true
  | x :: r => match f x with | true => allB f r | false => false
def anyB {α : Type} (f : α → Bool) : List α → Bool
  | [] => false
  | x :: r => match f x with | true => true | false => anyB f r
def meetB (a b : List Loc) : Bool := anyB (fun w => anyB (fun x => w.hit x) b) a
def clashB (a b : Foot) : Bool := match meetB a.2 b.1 with
  | true => true
  | false => match meetB a.2 b.2 with
    | true => true
    | false => match meetB b.2 a.1 with
      | true => true
      | false => meetB b.2 a.2
def okPairB (d : List Nat) (j : Nat) (F F' : Foot) : Bool := match d.contains j with
  | true => true
  | false => !clashB F F'
def okPairsB (deps : List (List Nat)) : List (Nat × Foot) → Bool
  | [] => true
  | (j, F) :: r => match allB (fun y => okPairB (deps.getD y.1 []) j F y.2) r with | true => okPairsB deps r | false => false

namespace S
section
variable (Pr : Prims)

def imm : TV → TV
  | .ow c => .sl (Pr.immC c)
  | t => t.imm
def getT : TV → List Hop → Option TV
  | t, [] => some t
  | .ow c, h :: hs => Pr.getC c h hs
  | _, _ :: _ => none
def setT : TV → List Hop → TV → TV
  | _, [], t => t
  | .ow c, h :: hs, t => .ow (Pr.setC c h hs t)
  | t0, _ :: _, _ => t0
def shareT : TV → List Nat → TV
  | t, [] => imm Pr t
  | .ow c, o :: os => .ow (Pr.shC c o os)
  | t, _ :: _ => t
def getPl (p : Place) : SP TV := .rdC p.root p.off fun tv => match getT Pr tv p.hops with | some t => .ret t | none => .fail
def take1 (mv : Bool) : TV → SP TV
  | .v x => .ret (.v x)
  | .sl c => .ret (.sl c)
  | .ow [] => .ret (.ow [])
  | .pk p vs => (chk p (p.hops.length + 1) vs).bind fun _ => .rdC p.root p.off fun tv =>
    match getT Pr tv p.hops with
    | some (.ow c) =>
      if mv then .wrC p.root p.off (setT Pr tv p.hops .dead) (.bump (p.root, p.off, p.hops.length + 1) (.ret (.ow c)))
      else .wrC p.root p.off (shareT Pr tv (hopOffs p.hops)) (.bump (p.root, p.off, p.hops.length + 1) (.ret (.sl (Pr.immC c))))
    | _ => .fail
  | .pw p vs _ lo n => (chk p (p.hops.length + 1) vs).bind fun _ => .rdC p.root p.off fun tv =>
    match getT Pr tv p.hops with
    | some (.ow c) => .wrC p.root p.off (shareT Pr tv (hopOffs p.hops)) (.bump (p.root, p.off, p.hops.length + 1) (.ret (.sl (Pr.immW c lo n))))
    | _ => .fail
  | _ => .fail
def takeL (mv : Bool) : List TV → SP (List TV)
  | [] => .ret []
  | t :: r => (take1 Pr mv t).bind fun t' => (takeL mv r).bind fun r' => .ret (t' :: r')
def putP (p : Place) (t : TV) : SP Unit := .rdC p.root p.off fun tv =>
  match getT Pr tv p.hops with
  | some old =>
    if isHdr old || isHdr t then (if p.hops.length ≤ 1 then .wrC p.root p.off (setT Pr tv p.hops t) (.bump (p.root, p.off, p.hops.length + 1) (.ret ())) else .fail)
    else .wrC p.root p.off (setT Pr tv p.hops t) (.ret ())
  | none => .fail
def putL (p : Place) : List TV → SP Unit
  | [] => .ret ()
  | t :: r => (putP Pr p t).bind fun _ => match r with | [] => .ret () | _ => if p.fits 1 then putL (p.add 1) r else .fail
def peekL : Place → Nat → SP (List TV)
  | _, 0 => .ret []
  | p, n + 1 => (getPl Pr p).bind fun t => (peek1 p t).bind fun t' => match n with | 0 => .ret [t'] | _ => if p.fits 1 then (peekL (p.add 1) n).bind fun r => .ret (t' :: r) else .fail
def lenOfT : TV → SP Nat
  | .sl c => .ret (Pr.lenN c)
  | .ow [] => .ret 0
  | .pk p vs => (chk p (p.hops.length + 1) vs).bind fun _ => (getPl Pr p).bind fun t => match t with | .ow c => .ret (Pr.lenN c) | _ => .fail
  | .pw p vs _ _ n => (chk p (p.hops.length + 1) vs).bind fun _ => .ret n
  | _ => .fail
def takeV (mv : Bool) : TV → SP (List TV × Bool)
  | .agg l => (takeL Pr mv l).bind fun l' => .ret (l', true)
  | t => (take1 Pr mv t).bind fun t' => .ret ([t'], false)
def takeParts (mv : Bool) : List (Nat × Nat × Opd) → SP (List TV)
  | [] => .ret []
  | (_, n, x) :: r => (opd x).bind fun t => (takeL Pr mv (cellsT t)).bind fun l => if l.length = n then (takeParts mv r).bind fun l' => .ret (l ++ l') else .fail
def evalBin (op : BinOp) : Value → Value → Option Value
  | .int k a, .int k' b =>
    match op with
    | .shl => (match b with | .ofNat n => some (.int k (Pr.sh .shl k a n)) | .negSucc _ => none)
    | .shr => (match b with | .ofNat n => some (.int k (Pr.sh .shr k a n)) | .negSucc _ => none)
    | .quo => if k = k' then (match b with | .ofNat 0 => none | .ofNat (n + 1) => some (.int k (Pr.ar .quo k a (.ofNat (n + 1)))) | .negSucc n => some (.int k (Pr.ar .quo k a (.negSucc n)))) else none
    | .rem => if k = k' then (match b with | .ofNat 0 => none | .ofNat (n + 1) => some (.int k (Pr.ar .rem k a (.ofNat (n + 1)))) | .negSucc n => some (.int k (Pr.ar .rem k a (.negSucc n)))) else none
    | .add => if k = k' then some (.int k (Pr.ar .add k a b)) else none
    | .sub => if k = k' then some (.int k (Pr.ar .sub k a b)) else none
    | .mul => if k = k' then some (.int k (Pr.ar .mul k a b)) else none
    | .and => if k = k' then some (.int k (Pr.ar .and k a b)) else none
    | .or => if k = k' then some (.int k (Pr.ar .or k a b)) else none
    | .xor => if k = k' then some (.int k (Pr.ar .xor k a b)) else none
    | .andNot => if k = k' then some (.int k (Pr.ar .andNot k a b)) else none
    | .eql => if k = k' then some (.bool (Pr.cm .eql a b)) else none
    | .neq => if k = k' then some (.bool (Pr.cm .neq a b)) else none
    | .lss => if k = k' then some (.bool (Pr.cm .lss a b)) else none
    | .leq => if k = k' then some (.bool (Pr.cm .leq a b)) else none
    | .gtr => if k = k' then some (.bool (Pr.cm .gtr a b)) else none
    | .geq => if k = k' then some (.bool (Pr.cm .geq a b)) else none
  | .string a, .string b => Pr.sb op a b
  | _, _ => none
def evalUn (op : UnOp) : Value → Option Value
  | .bool b => match op with
    | .not => some (.bool (Pr.notB b))
    | op => Pr.un op (.bool b)
  | x => Pr.un op x
/-- The cells behind some, if there are any. -/
def dropS : Nat → List TV → Option (List TV)
  | _, [] => none
  | 0, x :: r => some (x :: r)
  | n + 1, _ :: r => dropS n r
def contentOf : TV → SP (List (List TV))
  | .sl c => .ret c
  | .ow [] => .ret []
  | .pk p vs => (chk p (p.hops.length + 1) vs).bind fun _ => (getPl Pr p).bind fun t => match t with | .ow c => .ret c | _ => .fail
  | .pw p vs _ lo n => (chk p (p.hops.length + 1) vs).bind fun _ => (getPl Pr p).bind fun t => match t with | .ow c => .ret (Pr.win c lo n) | _ => .fail
  | _ => .fail
def cpyTo (d : Nat) (p : Place) (tv : TV) : Option (Nat × Option (List (List TV))) → SP Unit
  | some (m, some c') => .wrC p.root p.off (setT Pr tv p.hops (.ow c')) (wr d (.v (.int .i64 (Pr.natI m))))
  | some (m, none) => wr d (.v (.int .i64 (Pr.natI m)))
  | none => .fail
def ev1 (d : Nat) : TOp → SP Unit
  | .mov x => (opd x).bind fun t => match t with
    | .ow c => (match x with | .c _ => inst d false [.ow c] | _ => .fail)
    | .agg l => if l.any isOw then .fail else wr d (.agg l)
    | t => wr d t
  | .asn mv x => (opd x).bind fun t => match t with
    | .ptr p vs => wr d (.ptr p vs)
    | .ip cs => wr d (.ip cs)
    | .fn f cap => wr d (.fn f cap)
    | t => (takeV Pr mv t).bind fun l => inst d l.2 l.1
  | .pick c a b => (opd c).bind fun tc => match tc with
    | .v (.bool c) => (opd (if c then a else b)).bind fun t => match t with | .v x => wr d (.v x) | _ => .fail
    | _ => .fail
  | .alloc z => if (z.map ofCell).all okCell then .new (2 * d + 2) (z.map ofCell) (.rdV (2 * d + 2, 0, 0) fun g => wr d (.ptr ⟨2 * d + 2, 0, []⟩ [g])) else .fail
  | .box n mv x => (opd x).bind fun t => (takeL Pr mv (cellsT t)).bind fun l => if l.length = n then .new (2 * d + 2) l (.rdV (2 * d + 2, 0, 0) fun g => wr d (.ptr ⟨2 * d + 2, 0, []⟩ [g])) else .fail
  | .load n a => (opd a).bind fun t => match t with
    | .ptr p vs => (chk p p.hops.length vs).bind fun _ => match n with
      | none => (getPl Pr p).bind fun t => (peek1 p t).bind fun t' => wr d t'
      | some n => (peekL Pr p n).bind fun l => wr d (.agg l)
    | .ip cs => match loadIp n cs with | some t => wr d t | none => .fail
    | _ => .fail
  | .store n mv a x => (opd a).bind fun ta => match ta with
    | .ptr p vs => (opd x).bind fun tx => (takeL Pr mv (cellsT tx)).bind fun l => if l.length = n then (chk p p.hops.length vs).bind fun _ => putL Pr p l else .fail
    | _ => .fail
  | .nilc x => (opd x).bind fun t => match t with
    | .ptr p vs => (chk p p.hops.length vs).bind fun _ => wr d (.ptr p vs)
    | .ip cs => wr d (.ip cs)
    | .fn f cap => wr d (.fn f cap)
    | _ => .fail
  | .fld off a => (opd a).bind fun t => match t with
    | .ptr p vs => (chk p p.hops.length vs).bind fun _ => if p.fits off then wr d (.ptr (p.add off) vs) else .fail
    | .ip cs => match dropS off cs with | some r => wr d (.ip r) | none => .fail
    | _ => .fail
  | .fldv off n x => (opd x).bind fun t => match t with
    | .agg l => match n with
      | none => if off < l.length then wr d (l.getD off .dead) else .fail
      | some n => if off + n ≤ l.length then wr d (.agg ((l.drop off).take n)) else .fail
    | _ => .fail
  | .idx sz x i => (opd x).bind fun t => (opd i).bind fun ti => (natOf ti).bind fun k => match t with
    | .pk p vs => (chk p (p.hops.length + 1) vs).bind fun _ => (getPl Pr p).bind fun t => match t with
      | .ow c => if Pr.inb c k sz then wr d (.ptr (p.at_ k sz) vs) else .fail
      | _ => .fail
    | .pw p vs sz' lo n => (chk p (p.hops.length + 1) vs).bind fun _ => (getPl Pr p).bind fun t => match t with
      | .ow c => if Pr.inw c lo n k sz && sz' == sz && decide (0 < sz) then wr d (.ptr (p.at_ (Pr.addN lo k) sz) vs) else .fail
      | _ => .fail
    | .sl c => if Pr.inb c k sz then wr d (.ip (Pr.elt c k)) else .fail
    | _ => .fail
  | .ext x i => (opd x).bind fun t => match t with
    | .tup l => if i < l.length then wr d (l.getD i .dead) else .fail
    | _ => .fail
  | .bin op x y => (opd x).bind fun a => (opd y).bind fun b => (valOf a).bind fun a => (valOf b).bind fun b => (spOpt (evalBin Pr op a b)).bind fun r => if vflat r then wr d (.v r) else .fail
  | .bnb neg x y => (opd x).bind fun a => (opd y).bind fun b => (valOf a).bind fun a => (valOf b).bind fun b => match a, b with
    | .bool a, .bool b => wr d (.v (.bool (if neg then Pr.notB (Pr.eqB a b) else Pr.eqB a b)))
    | _, _ => .fail
  | .eqa ks neg x y => (opd x).bind fun a => (opd y).bind fun b => match a, b with
    | .agg a, .agg b => (spOpt (flatsOf a)).bind fun xs => (spOpt (flatsOf b)).bind fun ys => (spOpt (Pr.eqf ks xs ys)).bind fun r => wr d (.v (.bool (if neg then Pr.notB r else r)))
    | _, _ => .fail
  | .un op x => (opd x).bind fun a => (valOf a).bind fun a => (spOpt (evalUn Pr op a)).bind fun r => if vflat r then wr d (.v r) else .fail
  | .conv k x => (opd x).bind fun a => (valOf a).bind fun a => match a with | .int _ n => wr d (.v (.int k (Pr.cv k n))) | _ => .fail
  | .bld z mv parts => if (z.map ofCell).all okCell then (takeParts Pr mv parts).bind fun l => (names d l).bind fun l' => wr d (.agg (assemble (z.map ofCell) parts l')) else .fail
  | .bsl sz mv len parts => (takeParts Pr mv (parts.map fun p => (0, sz, p))).bind fun l => if parts.length = len then inst d false [.ow (chunks sz len l)] else .fail
  | .mks sz z l c => if (z.map ofCell).all okCell && z.length == sz then (opd l).bind fun tl => (opd c).bind fun tc => (natOf tl).bind fun n => (natOf tc).bind fun m =>
      if Pr.mkOk n m sz then inst d false [.ow (Pr.rep n (z.map ofCell))] else .fail else .fail
  | .slc sz x lo hi => (opd x).bind fun t => (lenOfT Pr t).bind fun n => (optNat lo 0).bind fun l => (optNat hi n).bind fun h => if Pr.slOk l h n then
      match t with
      | .sl c => if Pr.allLen c sz then wr d (.sl (Pr.win c l (Pr.subN h l))) else .fail
      | .pk p vs => (getPl Pr p).bind fun t => match t with | .ow c => if Pr.allLen c sz then wr d (.pw p vs sz l (Pr.subN h l)) else .fail | _ => .fail
      | .pw p vs sz' lo' _ => if sz' = sz then wr d (.pw p vs sz (Pr.addN lo' l) (Pr.subN h l)) else .fail
      | .ow [] => inst d false [.ow []]
      | _ => .fail
      else .fail
  | .app sz bytes mv s x => (opd s).bind fun ts => (opd x).bind fun tx => (take1 Pr true ts).bind fun s => (take1 Pr mv tx).bind fun x =>
    match s, x with
    | .ow c, .ow c2 => if Pr.appOk sz bytes c c2 then inst d false [.ow (Pr.cat c c2)] else .fail
    | .ow c, .sl c2 => if Pr.appOk sz bytes c c2 then inst d false [.ow (Pr.cat c c2)] else .fail
    | _, _ => .fail
  | .len x => (opd x).bind fun t => (lenOfT Pr t).bind fun n => wr d (.v (.int .i64 (Pr.natI n)))
  | .lens x => (opd x).bind fun t => match t with
    | .v (.string s) => wr d (.v (.int .i64 (Pr.strLen s)))
    | _ => .fail
  | .ixs x i => (opd x).bind fun t => (opd i).bind fun ti => (natOf ti).bind fun k => match t with
    | .v (.string s) => match Pr.strAt s k with | some b => wr d (.v (.int .u8 b)) | none => .fail
    | _ => .fail
  | .mm mx xs => (mapO (fun x => (opd x).bind valOf) xs).bind fun l => match l with
    | .int k a :: r => (spOpt (Pr.fmm mx k a r)).bind fun m => wr d (.v (.int k m))
    | _ => .fail
  | .mkf f caps => (mapO (fun x => (opd x).bind fun t => match t with | .ptr p vs => .ret (.ptr p vs) | .v x => .ret (.v x) | .sl c => .ret (.sl c) | _ => .fail) caps).bind fun l => wr d (.fn f l)
  | .idxa n sz x i => (opd x).bind fun t => (opd i).bind fun ti => (natOf ti).bind fun k => match t with
    | .ptr p vs => (chk p p.hops.length vs).bind fun _ => if k < n && p.fits (k * sz) then wr d (.ptr (p.add (k * sz)) vs) else .fail
    | _ => .fail
  | .s2b x => (opd x).bind fun t => match t with
    | .v (.string s) => if Pr.strOk s then wr d (.sl (Pr.strB s)) else .fail
    | _ => .fail
  | .b2s x => (opd x).bind fun t => (take1 Pr false t).bind fun t' => match t' with
    | .sl c => (spOpt (Pr.bstr c)).bind fun s => wr d (.v (.string s))
    | .ow [] => wr d (.v (.string .empty))
    | _ => .fail
  | .cpy sz x y => (opd x).bind fun t => (opd y).bind fun u => (contentOf Pr u).bind fun c2 => match t with
    | .pk p vs => (chk p (p.hops.length + 1) vs).bind fun _ => .rdC p.root p.off fun tv => match getT Pr tv p.hops with
      | some (.ow c) => cpyTo Pr d p tv (Pr.cpy sz c c2 0 (Pr.lenN c))
      | _ => .fail
    | .pw p vs sz' lo n => (chk p (p.hops.length + 1) vs).bind fun _ => .rdC p.root p.off fun tv => match getT Pr tv p.hops with
      | some (.ow c) => if sz' = sz then cpyTo Pr d p tv (Pr.cpy sz c c2 lo n) else .fail
      | _ => .fail
    | _ => .fail
  | .call _ _ _ => .fail

def argV (x : Opd) : SP TV := (opd x).bind fun t => match t with
  | .ip cs => .ret (.ip cs)
  | .fn f cap => .ret (.fn f cap)
  | .ptr p vs => .ret (.ptr p vs)
  | t => (takeV Pr false t).bind fun l => .ret (shaped l.2 (l.1.map (imm Pr)))
def argVs : List Opd → SP (List TV)
  | [] => .ret []
  | x :: r => (argV Pr x).bind fun t => (argVs r).bind fun l => .ret (t :: l)
def grabL (p : Place) : Nat → SP (List TV)
  | 0 => .ret []
  | n + 1 => (getPl Pr p).bind fun t => (peek1 p t).bind fun t' => (take1 Pr true t').bind fun t2 => match n with
    | 0 => .ret [t2]
    | _ => if p.fits 1 then (grabL (p.add 1) n).bind fun r => .ret (t2 :: r) else .fail
def grabs : Nat → List (Option Nat × TV) → SP (List GP)
  | _, [] => .ret []
  | i, (some n, .ptr p vs) :: r => (chk p p.hops.length vs).bind fun _ => (grabL Pr p n).bind fun l => (grabs (i + 1) r).bind fun q => .ret (⟨i, p, vs, l⟩ :: q)
  | i, (_, t) :: r => if isArg t then grabs (i + 1) r else .fail
def putBack : List (GP × List TV) → SP Unit
  | [] => .ret ()
  | (g, l) :: r => (putBack r).bind fun _ => if l.length = g.cells.length && l.all fun t => !isDead t then putL Pr g.p l else .fail
def app3 (F : Callee) (f : FuncId) (a : List TV) (p : Pts) : Option (TRes × Pts) := F f a p
def callV (F : Callee) (dst : Option Nat) (f : FuncId) (ns : List (Option Nat)) (vals : List TV) : SP Unit :=
  (grabs Pr 0 (ns.zip vals)).bind fun q => (rechk q).bind fun _ =>
    if nodupN (q.map (·.p.root)) && q.all (fun g => decide (0 < g.cells.length)) then
      (spOpt (app3 F f (argTs 0 vals) (q.map fun g => (2 * g.i + 2, g.cells)))).bind fun r =>
        if r.2.map (·.1) = q.map (fun g => 2 * g.i + 2) && rshOk r.1.sh r.1.cells.length then (putBack Pr (q.zip (r.2.map (·.2)))).bind fun _ => landR dst r.1 else .fail
    else .fail
def ebox (E : Env) (f : FuncId) : Option (Nat × List BxC) := E.box f
def evBox (dst : Option Nat) (tm : List BxC) (vals : List TV) : SP Unit :=
  match dst with
  | some d => (takeL Pr false (tm.map (bxT vals))).bind fun l => .new (2 * d + 2) l (.rdV (2 * d + 2, 0, 0) fun g => wr d (.ptr ⟨2 * d + 2, 0, []⟩ [g]))
  | none => .fail
def evCall (E : Env) (F : Callee) (dst : Option Nat) : TOp → SP Unit
  | .call _ (.f f) args => (argVs Pr (args.map (·.2))).bind fun vals => match ebox E f with
    | some x => if vals.length = x.1 then evBox Pr dst x.2 vals else .fail
    | none => callV Pr F dst f (args.map (·.1)) vals
  | .call _ (.t i) args => .rdT i fun t => match t with
    | .fn f caps => (argVs Pr (args.map (·.2))).bind fun vals => callV Pr F dst f (args.map (·.1) ++ capNs E f args.length caps.length) (vals ++ caps)
    | _ => .fail
  | _ => .fail

def evop (call : Option Nat → TOp → SP Unit) (dst : Option Nat) (op : TOp) : SP Unit :=
  match op with
  | .call k f args => call dst (.call k f args)
  | .store n mv a x => match dst with | none => ev1 Pr 0 (.store n mv a x) | some _ => .fail
  | op => match dst with | some d => ev1 Pr d op | none => .fail
def runOp (call : Option Nat → TOp → SP Unit) (o : TOper) (σ : St) : Option St :=
  match o.guard with
  | none => ((evop Pr call o.dst o.op).run σ).map (·.2)
  | some (j, want) =>
    match σ.t j with
    | .v (.bool b) => if b = want then ((evop Pr call o.dst o.op).run σ).map (·.2) else match o.dst with | some d => some { σ with tm := aset σ.tm d (.tup []) } | none => some σ
    | .tup [] => match o.dst with | some d => some { σ with tm := aset σ.tm d (.tup []) } | none => some σ
    | _ => none
def runOps (call : Option Nat → TOp → SP Unit) : List TOper → St → Option St
  | [], σ => some σ
  | o :: r, σ => (runOp Pr call o σ).bind (runOps call r)
def spOp (call : Option Nat → TOp → SP Unit) (o : TOper) : SP Unit :=
  match o.guard with
  | none => evop Pr call o.dst o.op
  | some (j, want) => .rdT j fun t => match t with
    | .v (.bool b) => if b = want then evop Pr call o.dst o.op else setNo o.dst
    | .tup [] => setNo o.dst
    | _ => .fail
def runC (call : Option Nat → TOp → SP Unit) (N : Nat) : TCode → St → Option (TExit × St)
  | .skip, σ => some (.normal, σ)
  | .nrm pers, σ => some (.normal, σ.norm pers)
  | .reg _ draw ops pers, σ =>
    match draw with
    | none => (runOps Pr call ops σ).map fun σ' => (.normal, σ'.norm pers)
    | some deps => match runFF (fun i => spOp Pr call (ops.getD i noOp)) (List.range ops.length) σ with
      | some (fs, τ) => match okPairsB deps fs with | true => some (.normal, τ.norm pers) | false => none
      | none => none
  | .seq a b, σ => (runC call N a σ).bind fun x => match x.1 with | .normal => runC call N b x.2 | e => some (e, x.2)
  | .cond c a b, σ => ((opd c).run σ).bind fun x => match x.1 with | .v (.bool true) => runC call N a σ | .v (.bool false) => runC call N b σ | _ => none
  | .block id b, σ => (runC call N b σ).bind fun x => match x.1 with | .exit i => if i = id then some (.normal, x.2) else some (.exit i, x.2) | e => some (e, x.2)
  | .loop b, σ => Pr.it (runC call N b) N σ
  | .exit id, σ => some (.exit id, σ)
  | .ret, σ => some (.ret, σ)
def takeR1 (np : Nat) (t : TV) : SP TV :=
  match t with
  | .pk p vs => take1 Pr (!isPar np p.root) (.pk p vs)
  | t => take1 Pr true t
def takeRL (np : Nat) : List TV → SP (List TV)
  | [] => .ret []
  | t :: r => (takeR1 Pr np t).bind fun t' => (takeRL np r).bind fun r' => .ret (t' :: r')
def takeRV (np : Nat) (t : TV) : SP (List TV × RSh) :=
  match t with
  | .agg l => (takeRL Pr np l).bind fun l' => .ret (l', .agg l'.length)
  | t => (takeR1 Pr np t).bind fun t' => .ret ([t'], .one)
def res1 (np : Nat) : TRs → SP (List TV × RSh)
  | .tmp t => .rdT t fun tv => takeRV Pr np tv
  | .cell t n => .rdT t fun tv => match tv with
    | .ptr p vs => (chk p p.hops.length vs).bind fun _ => match n with
      | none => (getPl Pr p).bind fun t => (peek1 p t).bind fun t' => takeRV Pr np t'
      | some n => (peekL Pr p n).bind fun l => takeRV Pr np (.agg l)
    | _ => .fail
def resL (np : Nat) : List TRs → SP (List TV × List RSh)
  | [] => .ret ([], [])
  | r :: rs => (res1 Pr np r).bind fun x => (resL np rs).bind fun y => .ret (x.1 ++ y.1, x.2 :: y.2)
/-- One function's run on trees. -/
def runT (E : Env) (F : Callee) (n : Nat) (tf : TFn) (vals : List TV) (pts : Pts) : Option (TRes × Pts) :=
  if vals.length = tf.np ∧ ptrsIn tf.pp 0 vals = true then
      (runC Pr (evCall Pr E F) n tf.body (mkSt vals pts)).bind fun x => match x.1 with
        | .exit _ => none
        | _ => ((resL Pr tf.np tf.res).run x.2).bind fun y => some (⟨y.1.1, y.1.2⟩, pts.map fun x => (x.1, (aget y.2.ce x.1).getD []))
  else none
end
end S
end Go.Proofs.Ytjmfjjmdfikanaa
/- The run over the record of the real functions is the run on trees; no condition. -/
set_option linter.unusedVariables false
set_option linter.unusedSimpArgs false
namespace Go.Proofs.Ytjmfjjmdfikanaa
open Go.RowKit

theorem SP.rf_eq {α : Type} (s : SP α) : ∀ σ, s.rf σ = (s.run σ).map fun x => (x.1, x.2, s.foot σ) := by
  induction s with
  | ret a => intro σ; rfl
  | fail => intro σ; rfl
  | rdT i k ih => intro σ; simp only [SP.rf, SP.run, SP.foot, ih]; cases (k (σ.t i)).run σ <;> rfl
  | rdC r o k ih => intro σ; simp only [SP.rf, SP.run, SP.foot, ih]; cases (k (σ.c r o)).run σ <;> rfl
  | rdV q k ih => intro σ; simp only [SP.rf, SP.run, SP.foot, ih]; cases (k (σ.v q)).run σ <;> rfl
  | wrT i t k ih => intro σ; simp only [SP.rf, SP.run, SP.foot, ih]; cases k.run { σ with tm := aset σ.tm i t } <;> rfl
  | wrC r o t k ih =>
    intro σ
    simp only [SP.rf, SP.run, SP.foot]
    cases aget σ.ce r with
    | none => rfl
    | some l =>
      simp only
      split
      · simp only [ih]; cases k.run { σ with ce := aset σ.ce r (l.set o t) } <;> rfl
      · rfl
  | new r l k ih => intro σ; simp only [SP.rf, SP.run, SP.foot, ih]; cases k.run { σ with ce := aset σ.ce r l, vr := vinc σ.vr (r, 0, 0) } <;> rfl
  | bump q k ih => intro σ; simp only [SP.rf, SP.run, SP.foot, ih]; cases k.run { σ with vr := vinc σ.vr q } <;> rfl
theorem runFF_eq (pg : Nat → SP Unit) (L : List Nat) : ∀ σ, runFF pg L σ = runFL pg L σ := by
  induction L with
  | nil => intro σ; rfl
  | cons i L ih =>
    intro σ
    simp only [runFF, runFL, SP.rf_eq]
    cases (pg i).run σ with
    | none => rfl
    | some x =>
      simp only [Option.map_some, Option.bind_some, ih]
      cases runFL pg L x.2 <;> rfl
theorem allB_eq {α : Type} (f : α → Bool) (l : List α) : allB f l = l.all f := by
  induction l with
  | nil => rfl
  | cons x l ih => simp only [allB, List.all_cons]; cases f x <;> simp [ih]
theorem anyB_eq {α : Type} (f : α → Bool) (l : List α) : anyB f l = l.any f := by
  induction l with
  | nil => rfl
  | cons x l ih => simp only [anyB, List.any_cons]; cases f x <;> simp [ih]
theorem meetB_eq (a b : List Loc) : meetB a b = meet a b := by
  have e : (fun w : Loc => anyB (fun x => w.hit x) b) = fun w : Loc => b.any fun x => w.hit x := funext fun w => anyB_eq _ _
  unfold meetB meet
  rw [anyB_eq, e]
theorem clashB_eq (a b : Foot) : clashB a b = clash a b := by
  unfold clashB clash
  simp only [meetB_eq]
  cases meet a.2 b.1 <;> cases meet a.2 b.2 <;> cases meet b.2 a.1 <;> simp
theorem okPairB_eq (d : List Nat) (j : Nat) (a b : Foot) : okPairB d j a b = (!clash a b || d.contains j) := by
  unfold okPairB
  rw [clashB_eq]
  cases d.contains j <;> simp
theorem okPairsB_eq (deps : List (List Nat)) (fs : List (Nat × Foot)) : okPairsB deps fs = okPairs deps fs := by
  induction fs with
  | nil => rfl
  | cons x r ih =>
    obtain ⟨j, F⟩ := x
    have e : (fun y : Nat × Foot => okPairB (deps.getD y.1 []) j F y.2) = fun y => !clash F y.2 || (deps.getD y.1 []).contains j := funext fun y => okPairB_eq _ _ _ _
    simp only [okPairsB, okPairs, allB_eq, ih, e]
    cases r.all fun y => !clash F y.2 || (deps.getD y.1 []).contains j <;> simp

namespace S
theorem imm_real (t : TV) : imm realP t = t.imm := by cases t <;> rfl
theorem getT_real (t : TV) (hs : List Hop) : getT realP t hs = Go.Proofs.Ytjmfjjmdfikanaa.getT t hs := by
  cases hs with
  | nil => cases t <;> rfl
  | cons h hs => cases t <;> rfl
theorem setT_real (t : TV) (hs : List Hop) (x : TV) : setT realP t hs x = Go.Proofs.Ytjmfjjmdfikanaa.setT t hs x := by
  cases hs with
  | nil => cases t <;> rfl
  | cons h hs => cases t <;> rfl
theorem shareT_real (t : TV) (os : List Nat) : shareT realP t os = Go.Proofs.Ytjmfjjmdfikanaa.shareT t os := by
  cases os with
  | nil => cases t <;> rfl
  | cons h hs => cases t <;> rfl
theorem getPl_real (p : Place) : getPl realP p = Go.Proofs.Ytjmfjjmdfikanaa.getPl p := by
  unfold getPl Go.Proofs.Ytjmfjjmdfikanaa.getPl
  simp only [getT_real]
  rfl
theorem take1_real (mv : Bool) (t : TV) : take1 realP mv t = Go.Proofs.Ytjmfjjmdfikanaa.take1 mv t := by
  cases t with
  | pk p vs => simp only [take1, Go.Proofs.Ytjmfjjmdfikanaa.take1, getT_real, setT_real, shareT_real]; rfl
  | pw p vs sz lo n => simp only [take1, Go.Proofs.Ytjmfjjmdfikanaa.take1, getT_real, setT_real, shareT_real]; rfl
  | ow c => cases c <;> rfl
  | _ => rfl
theorem takeL_real (mv : Bool) (l : List TV) : takeL realP mv l = Go.Proofs.Ytjmfjjmdfikanaa.takeL mv l := by
  induction l with
  | nil => rfl
  | cons t r ih => simp only [takeL, Go.Proofs.Ytjmfjjmdfikanaa.takeL, take1_real, ih]
theorem putP_real (p : Place) (t : TV) : putP realP p t = Go.Proofs.Ytjmfjjmdfikanaa.putP p t := by
  unfold putP Go.Proofs.Ytjmfjjmdfikanaa.putP
  simp only [getT_real, setT_real]
  rfl
theorem putL_real (l : List TV) : ∀ p, putL realP p l = Go.Proofs.Ytjmfjjmdfikanaa.putL p l := by
  induction l with
  | nil => intro p; rfl
  | cons t r ih => intro p; simp only [putL, Go.Proofs.Ytjmfjjmdfikanaa.putL, putP_real, ih]; rfl
theorem peekL_real (n : Nat) : ∀ p, peekL realP p n = Go.Proofs.Ytjmfjjmdfikanaa.peekL p n := by
  induction n with
  | zero => intro p; rfl
  | succ n ih => intro p; simp only [peekL, Go.Proofs.Ytjmfjjmdfikanaa.peekL, getPl_real, ih]; rfl
theorem lenOfT_real (t : TV) : lenOfT realP t = Go.Proofs.Ytjmfjjmdfikanaa.lenOfT t := by
  cases t with
  | pk p vs => simp only [lenOfT, Go.Proofs.Ytjmfjjmdfikanaa.lenOfT, getPl_real]; rfl
  | ow c => cases c <;> rfl
  | _ => rfl
theorem contentOf_real (t : TV) : contentOf realP t = Go.Proofs.Ytjmfjjmdfikanaa.contentOf t := by
  cases t with
  | pk p vs => simp only [contentOf, Go.Proofs.Ytjmfjjmdfikanaa.contentOf, getPl_real]; rfl
  | pw p vs sz lo n => simp only [contentOf, Go.Proofs.Ytjmfjjmdfikanaa.contentOf, getPl_real]; rfl
  | ow c => cases c <;> rfl
  | _ => rfl
theorem cpyTo_real (d : Nat) (p : Place) (tv : TV) (r : Option (Nat × Option (List (List TV)))) : cpyTo realP d p tv r = Go.Proofs.Ytjmfjjmdfikanaa.cpyTo d p tv r := by
  cases r with
  | none => rfl
  | some x =>
    obtain ⟨m, c⟩ := x
    cases c <;> simp only [cpyTo, Go.Proofs.Ytjmfjjmdfikanaa.cpyTo, setT_real] <;> rfl
theorem takeV_real (mv : Bool) (t : TV) : takeV realP mv t = Go.Proofs.Ytjmfjjmdfikanaa.takeV mv t := by
  cases t <;> simp only [takeV, Go.Proofs.Ytjmfjjmdfikanaa.takeV, take1_real, takeL_real]
theorem takeParts_real (mv : Bool) (l : List (Nat × Nat × Opd)) : takeParts realP mv l = Go.Proofs.Ytjmfjjmdfikanaa.takeParts mv l := by
  induction l with
  | nil => rfl
  | cons t r ih =>
    obtain ⟨a, n, x⟩ := t
    simp only [takeParts, Go.Proofs.Ytjmfjjmdfikanaa.takeParts, takeL_real, ih]

theorem pv_pure (v : Value) : pureV (pure v) = some v := rfl
theorem pv_panic (s : String) : pureV (runtimePanic (.error s)) = none := rfl
theorem pv_stuck (s : String) : pureV (stuck s : Sem Value) = none := rfl
theorem evalBin_real (op : BinOp) (x y : Value) : evalBin realP op x y = Go.Proofs.Ytjmfjjmdfikanaa.evalBin op x y := by
  cases x with
  | int k a =>
    cases y with
    | int k' b =>
      by_cases hk : k = k'
      · subst hk
        cases op
        case quo => cases b with
          | ofNat n => cases n with
            | zero => simp [evalBin, Go.Proofs.Ytjmfjjmdfikanaa.evalBin, Go.binOp, Op.intDiv, realP, arR, pv_panic]
            | succ n => simp [evalBin, Go.Proofs.Ytjmfjjmdfikanaa.evalBin, Go.binOp, Op.intDiv, realP, arR, pv_pure, show ¬ ((n : Int) + 1 = 0) by omega]
          | negSucc n => simp [evalBin, Go.Proofs.Ytjmfjjmdfikanaa.evalBin, Go.binOp, Op.intDiv, realP, arR, pv_pure]
        case rem => cases b with
          | ofNat n => cases n with
            | zero => simp [evalBin, Go.Proofs.Ytjmfjjmdfikanaa.evalBin, Go.binOp, Op.intDiv, realP, arR, pv_panic]
            | succ n => simp [evalBin, Go.Proofs.Ytjmfjjmdfikanaa.evalBin, Go.binOp, Op.intDiv, realP, arR, pv_pure, show ¬ ((n : Int) + 1 = 0) by omega]
          | negSucc n => simp [evalBin, Go.Proofs.Ytjmfjjmdfikanaa.evalBin, Go.binOp, Op.intDiv, realP, arR, pv_pure]
        case shl => cases b with
          | ofNat n => simp [evalBin, Go.Proofs.Ytjmfjjmdfikanaa.evalBin, Go.binOp, Op.shift, realP, shR, pv_pure, show ¬ ((n : Int) < 0) by omega]
          | negSucc n => simp [evalBin, Go.Proofs.Ytjmfjjmdfikanaa.evalBin, Go.binOp, Op.shift, realP, shR, pv_panic]
        case shr => cases b with
          | ofNat n => simp [evalBin, Go.Proofs.Ytjmfjjmdfikanaa.evalBin, Go.binOp, Op.shift, realP, shR, pv_pure, show ¬ ((n : Int) < 0) by omega]
          | negSucc n => simp [evalBin, Go.Proofs.Ytjmfjjmdfikanaa.evalBin, Go.binOp, Op.shift, realP, shR, pv_panic]
        all_goals simp [evalBin, Go.Proofs.Ytjmfjjmdfikanaa.evalBin, Go.binOp, Op.intArith, Op.intBits, Op.intCmp, realP, arR, cmR, pv_pure]
      · cases op
        case shl => cases b with
          | ofNat n => simp [evalBin, Go.Proofs.Ytjmfjjmdfikanaa.evalBin, Go.binOp, Op.shift, realP, shR, pv_pure, show ¬ ((n : Int) < 0) by omega]
          | negSucc n => simp [evalBin, Go.Proofs.Ytjmfjjmdfikanaa.evalBin, Go.binOp, Op.shift, realP, shR, pv_panic]
        case shr => cases b with
          | ofNat n => simp [evalBin, Go.Proofs.Ytjmfjjmdfikanaa.evalBin, Go.binOp, Op.shift, realP, shR, pv_pure, show ¬ ((n : Int) < 0) by omega]
          | negSucc n => simp [evalBin, Go.Proofs.Ytjmfjjmdfikanaa.evalBin, Go.binOp, Op.shift, realP, shR, pv_panic]
        all_goals simp [evalBin, Go.Proofs.Ytjmfjjmdfikanaa.evalBin, Go.binOp, hk, pv_stuck]
    | _ => rfl
  | string a => cases y <;> rfl
  | _ => rfl
theorem evalUn_real (op : UnOp) (x : Value) : evalUn realP op x = Go.Proofs.Ytjmfjjmdfikanaa.evalUn op x := by
  cases x with
  | bool b => cases op <;> rfl
  | _ => rfl
theorem dropS_eq (l : List TV) : ∀ n, dropS n l = if n < l.length then some (l.drop n) else none := by
  induction l with
  | nil => intro n; cases n <;> rfl
  | cons x r ih =>
    intro n
    cases n with
    | zero => simp [dropS]
    | succ n => simp only [dropS, ih, List.length_cons, Nat.add_lt_add_iff_right, List.drop_succ_cons]
theorem ev1_real (d : Nat) (op : TOp) : ev1 realP d op = Go.Proofs.Ytjmfjjmdfikanaa.ev1 d op := by
  cases op with
  | bin op x y => simp only [ev1, Go.Proofs.Ytjmfjjmdfikanaa.ev1, evalBin_real]
  | un op x => simp only [ev1, Go.Proofs.Ytjmfjjmdfikanaa.ev1, evalUn_real]
  | mov x => rfl
  | fld off x =>
    simp only [ev1, Go.Proofs.Ytjmfjjmdfikanaa.ev1]
    congr 1; funext t
    cases t with
    | ip cs =>
      simp only [dropS_eq]
      by_cases h : off < cs.length
      · simp only [if_pos h]
      · simp only [if_neg h]
    | _ => rfl
  | ixs x i =>
    simp only [ev1, Go.Proofs.Ytjmfjjmdfikanaa.ev1]
    congr 1; funext t; congr 1; funext ti; congr 1; funext k
    cases t with
    | v y =>
      cases y with
      | string s =>
        simp only [realP]
        cases s[k]? <;> rfl
      | _ => rfl
    | _ => rfl
  | s2b x =>
    simp only [ev1, Go.Proofs.Ytjmfjjmdfikanaa.ev1]
    congr 1; funext t
    cases t with
    | v y =>
      cases y with
      | string s =>
        simp only [realP, decide_eq_true_eq]
      | _ => rfl
    | _ => rfl
  | _ => simp only [ev1, Go.Proofs.Ytjmfjjmdfikanaa.ev1, takeV_real, takeL_real, take1_real, getPl_real, peekL_real, putL_real, lenOfT_real, takeParts_real, contentOf_real, cpyTo_real, getT_real] <;> rfl

theorem argV_real (x : Opd) : argV realP x = Go.Proofs.Ytjmfjjmdfikanaa.argV x := by
  have e : imm realP = TV.imm := funext imm_real
  simp only [argV, Go.Proofs.Ytjmfjjmdfikanaa.argV, takeV_real, e]
  rfl
theorem argVs_real (l : List Opd) : argVs realP l = Go.Proofs.Ytjmfjjmdfikanaa.argVs l := by
  induction l with
  | nil => rfl
  | cons x r ih => simp only [argVs, Go.Proofs.Ytjmfjjmdfikanaa.argVs, argV_real, ih]
theorem grabL_real (n : Nat) : ∀ p, grabL realP p n = Go.Proofs.Ytjmfjjmdfikanaa.grabL p n := by
  induction n with
  | zero => intro p; rfl
  | succ n ih => intro p; simp only [grabL, Go.Proofs.Ytjmfjjmdfikanaa.grabL, getPl_real, take1_real, ih]; rfl
theorem grabs_real (l : List (Option Nat × TV)) : ∀ i, grabs realP i l = Go.Proofs.Ytjmfjjmdfikanaa.grabs i l := by
  induction l with
  | nil => intro i; rfl
  | cons x r ih =>
    intro i
    obtain ⟨n, t⟩ := x
    cases n <;> cases t <;> simp only [grabs, Go.Proofs.Ytjmfjjmdfikanaa.grabs, grabL_real, ih]
theorem putBack_real (l : List (GP × List TV)) : putBack realP l = Go.Proofs.Ytjmfjjmdfikanaa.putBack l := by
  induction l with
  | nil => rfl
  | cons x r ih =>
    obtain ⟨g, l⟩ := x
    simp only [putBack, Go.Proofs.Ytjmfjjmdfikanaa.putBack, putL_real, ih]
theorem callV_real (F : Callee) (dst : Option Nat) (f : FuncId) (ns : List (Option Nat)) (vals : List TV) : callV realP F dst f ns vals = Go.Proofs.Ytjmfjjmdfikanaa.callV F dst f ns vals := by
  simp only [callV, Go.Proofs.Ytjmfjjmdfikanaa.callV, grabs_real, putBack_real, app3]
theorem evBox_real (dst : Option Nat) (tm : List BxC) (vals : List TV) : evBox realP dst tm vals = Go.Proofs.Ytjmfjjmdfikanaa.evBox dst tm vals := by
  cases dst <;> simp only [evBox, Go.Proofs.Ytjmfjjmdfikanaa.evBox, takeL_real]
theorem evCall_real (E : Env) (F : Callee) (dst : Option Nat) (op : TOp) : evCall realP E F dst op = Go.Proofs.Ytjmfjjmdfikanaa.evCall E F dst op := by
  cases op with
  | call k f args => cases f <;> simp only [evCall, Go.Proofs.Ytjmfjjmdfikanaa.evCall, argVs_real, callV_real, evBox_real] <;> rfl
  | _ => rfl
theorem evop_real (call : Option Nat → TOp → SP Unit) (dst : Option Nat) (op : TOp) : evop realP call dst op = Go.Proofs.Ytjmfjjmdfikanaa.evop call dst op := by
  cases op <;> simp only [evop, Go.Proofs.Ytjmfjjmdfikanaa.evop, ev1_real] <;> rfl
theorem runOp_real (call : Option Nat → TOp → SP Unit) (o : TOper) (σ : St) : runOp realP call o σ = Go.Proofs.Ytjmfjjmdfikanaa.runOp call o σ := by
  simp only [runOp, Go.Proofs.Ytjmfjjmdfikanaa.runOp, evop_real]
  rfl
theorem runOps_real (call : Option Nat → TOp → SP Unit) (l : List TOper) : ∀ σ, runOps realP call l σ = Go.Proofs.Ytjmfjjmdfikanaa.runOps call l σ := by
  induction l with
  | nil => intro σ; rfl
  | cons o r ih =>
    intro σ
    have e : runOps realP call r = Go.Proofs.Ytjmfjjmdfikanaa.runOps call r := funext ih
    simp only [runOps, Go.Proofs.Ytjmfjjmdfikanaa.runOps, runOp_real, e]
theorem spOp_real (call : Option Nat → TOp → SP Unit) (o : TOper) : spOp realP call o = Go.Proofs.Ytjmfjjmdfikanaa.spOp call o := by
  simp only [spOp, Go.Proofs.Ytjmfjjmdfikanaa.spOp, evop_real]
  rfl
theorem runC_real (call : Option Nat → TOp → SP Unit) (N : Nat) (c : TCode) : ∀ σ, runC realP call N c σ = Go.Proofs.Ytjmfjjmdfikanaa.runC call N c σ := by
  induction c with
  | reg id draw ops pers =>
    intro σ
    cases draw with
    | none => simp only [runC, Go.Proofs.Ytjmfjjmdfikanaa.runC, runOps_real]
    | some deps =>
      simp only [runC, Go.Proofs.Ytjmfjjmdfikanaa.runC, spOp_real, runFF_eq, okPairsB_eq]
      cases runFL (fun i => Go.Proofs.Ytjmfjjmdfikanaa.spOp call (ops.getD i noOp)) (List.range ops.length) σ with
      | none => rfl
      | some x =>
        simp only [Option.bind_some]
        cases okPairs deps x.1 <;> rfl
  | seq a b iha ihb => intro σ; simp only [runC, Go.Proofs.Ytjmfjjmdfikanaa.runC, iha, ihb]; rfl
  | cond c a b iha ihb => intro σ; simp only [runC, Go.Proofs.Ytjmfjjmdfikanaa.runC, iha, ihb]; rfl
  | block id b ih => intro σ; simp only [runC, Go.Proofs.Ytjmfjjmdfikanaa.runC, ih]; rfl
  | loop b ih =>
    intro σ
    have e : runC realP call N b = Go.Proofs.Ytjmfjjmdfikanaa.runC call N b := funext ih
    simp only [runC, Go.Proofs.Ytjmfjjmdfikanaa.runC, e]
    rfl
  | _ => intro σ; rfl
theorem takeR1_real (np : Nat) (t : TV) : takeR1 realP np t = Go.Proofs.Ytjmfjjmdfikanaa.takeR1 np t := by
  cases t <;> simp only [takeR1, Go.Proofs.Ytjmfjjmdfikanaa.takeR1, take1_real]
theorem takeRL_real (np : Nat) (l : List TV) : takeRL realP np l = Go.Proofs.Ytjmfjjmdfikanaa.takeRL np l := by
  induction l with
  | nil => rfl
  | cons t r ih => simp only [takeRL, Go.Proofs.Ytjmfjjmdfikanaa.takeRL, takeR1_real, ih]
theorem takeRV_real (np : Nat) (t : TV) : takeRV realP np t = Go.Proofs.Ytjmfjjmdfikanaa.takeRV np t := by
  cases t <;> simp only [takeRV, Go.Proofs.Ytjmfjjmdfikanaa.takeRV, takeR1_real, takeRL_real]
theorem res1_real (np : Nat) (q : TRs) : res1 realP np q = Go.Proofs.Ytjmfjjmdfikanaa.res1 np q := by
  cases q <;> simp only [res1, Go.Proofs.Ytjmfjjmdfikanaa.res1, takeRV_real, getPl_real, peekL_real] <;> rfl
theorem resL_real (np : Nat) (l : List TRs) : resL realP np l = Go.Proofs.Ytjmfjjmdfikanaa.resL np l := by
  induction l with
  | nil => rfl
  | cons t r ih => simp only [resL, Go.Proofs.Ytjmfjjmdfikanaa.resL, res1_real, ih]
theorem runT_real (E : Env) (F : Callee) (n : Nat) (tf : TFn) (vals : List TV) (pts : Pts) : runT realP E F n tf vals pts = Go.Proofs.Ytjmfjjmdfikanaa.runT E F n tf vals pts := by
  have e : evCall realP E F = Go.Proofs.Ytjmfjjmdfikanaa.evCall E F := funext fun d => funext fun op => evCall_real E F d op
  simp only [runT, Go.Proofs.Ytjmfjjmdfikanaa.runT, runC_real, resL_real, e]
  rfl
end S
theorem it_some {f : St → Option (TExit × St)} (R : Nat → St → Prop) (Q : TExit → St → Prop) (hs : ∀ k σ, R k σ → ∃ e σ', f σ = some (e, σ') ∧ ((e = .normal ∧ ∃ j, j < k ∧ R j σ') ∨ (e ≠ .normal ∧ Q e σ'))) : ∀ k n σ, R k σ → k < n → ∃ e σ', realP.it f n σ = some (e, σ') ∧ Q e σ' := iter_some R Q hs
theorem openP {ar cm sh sb un cv natI lenN inb inw elt addN subN slOk win immC immW allLen appOk cat mkOk rep getC setC shC eqf eqB notB fmm strAt strLen strB strOk bstr cpy it} (h : (⟨ar, cm, sh, sb, un, cv, natI, lenN, inb, inw, elt, addN, subN, slOk, win, immC, immW, allLen, appOk, cat, mkOk, rep, getC, setC, shC, eqf, eqB, notB, fmm, strAt, strLen, strB, strOk, bstr, cpy, it⟩ : Prims) = realP) : ar = realP.ar ∧ cm = realP.cm ∧ sh = realP.sh ∧ sb = realP.sb ∧ un = realP.un ∧ cv = realP.cv ∧ natI = realP.natI ∧ lenN = realP.lenN ∧ inb = realP.inb ∧ inw = realP.inw ∧ elt = realP.elt ∧ addN = realP.addN ∧ subN = realP.subN ∧ slOk = realP.slOk ∧ win = realP.win ∧ immC = realP.immC ∧ immW = realP.immW ∧ allLen = realP.allLen ∧ appOk = realP.appOk ∧ cat = realP.cat ∧ mkOk = realP.mkOk ∧ rep = realP.rep ∧ getC = realP.getC ∧ setC = realP.setC ∧ shC = realP.shC ∧ eqf = realP.eqf ∧ eqB = realP.eqB ∧ notB = realP.notB ∧ fmm = realP.fmm ∧ strAt = realP.strAt ∧ strLen = realP.strLen ∧ strB = realP.strB ∧ strOk = realP.strOk ∧ bstr = realP.bstr ∧ cpy = realP.cpy ∧ it = realP.it := by
  rw [← h]
  exact ⟨rfl, rfl, rfl, rfl, rfl, rfl, rfl, rfl, rfl, rfl, rfl, rfl, rfl, rfl, rfl, rfl, rfl, rfl, rfl, rfl, rfl, rfl, rfl, rfl, rfl, rfl, rfl, rfl, rfl, rfl, rfl, rfl, rfl, rfl, rfl, rfl⟩
end Go.Proofs.Ytjmfjjmdfikanaa
/- What the functions of the record are at numbers within their range; no condition beyond these. -/
set_option linter.unusedVariables false
set_option linter.unusedSimpArgs false
namespace Go.Proofs.Ytjmfjjmdfikanaa
open Go.RowKit

theorem wrap_i64 {x : Int} (h1 : -9223372036854775808 ≤ x) (h2 : x ≤ 9223372036854775807) : IntKind.wrap .i64 x = x := by
  have e1 : (2 : Int) ^ IntKind.bits .i64 = 18446744073709551616 := by rfl
  have e2 : (2 : Int) ^ (IntKind.bits .i64 - 1) = 9223372036854775808 := by rfl
  have e3 : IntKind.signed .i64 = true := rfl
  unfold IntKind.wrap
  simp only [e1, e2, e3, Bool.true_and, decide_eq_true_eq]
  split <;> omega
theorem wrap_u8 (x : Int) : IntKind.wrap .u8 x = x % 256 := by
  have e1 : (2 : Int) ^ IntKind.bits .u8 = 256 := by rfl
  have e3 : IntKind.signed .u8 = false := rfl
  unfold IntKind.wrap
  simp only [e1, e3, Bool.false_and, Bool.false_eq_true, if_false]
theorem wrap_u16 (x : Int) : IntKind.wrap .u16 x = x % 65536 := by
  have e1 : (2 : Int) ^ IntKind.bits .u16 = 65536 := by rfl
  have e3 : IntKind.signed .u16 = false := rfl
  unfold IntKind.wrap
  simp only [e1, e3, Bool.false_and, Bool.false_eq_true, if_false]
theorem wrap_u32 (x : Int) : IntKind.wrap .u32 x = x % 4294967296 := by
  have e1 : (2 : Int) ^ IntKind.bits .u32 = 4294967296 := by rfl
  have e3 : IntKind.signed .u32 = false := rfl
  unfold IntKind.wrap
  simp only [e1, e3, Bool.false_and, Bool.false_eq_true, if_false]
theorem wrap_u64 (x : Int) : IntKind.wrap .u64 x = x % 18446744073709551616 := by
  have e1 : (2 : Int) ^ IntKind.bits .u64 = 18446744073709551616 := by rfl
  have e3 : IntKind.signed .u64 = false := rfl
  unfold IntKind.wrap
  simp only [e1, e3, Bool.false_and, Bool.false_eq_true, if_false]

/-- A number of kind int64. -/
def Is64 (x : Int) : Prop := -9223372036854775808 ≤ x ∧ x ≤ 9223372036854775807

section
variable {a b : Int}
theorem add64 (h1 : -9223372036854775808 ≤ a + b) (h2 : a + b ≤ 9223372036854775807) : realP.ar .add .i64 a b = a + b := wrap_i64 h1 h2
theorem sub64 (h1 : -9223372036854775808 ≤ a - b) (h2 : a - b ≤ 9223372036854775807) : realP.ar .sub .i64 a b = a - b := wrap_i64 h1 h2
theorem mul64 (h1 : -9223372036854775808 ≤ a * b) (h2 : a * b ≤ 9223372036854775807) : realP.ar .mul .i64 a b = a * b := wrap_i64 h1 h2
theorem rem64 {k : IntKind} : realP.ar .rem k a b = a.tmod b := rfl
theorem quo64 (h1 : -9223372036854775808 ≤ a.tdiv b) (h2 : a.tdiv b ≤ 9223372036854775807) : realP.ar .quo .i64 a b = a.tdiv b := wrap_i64 h1 h2
theorem lss_t (h : a < b) : realP.cm .lss a b = true := decide_eq_true h
theorem lss_f (h : ¬ a < b) : realP.cm .lss a b = false := decide_eq_false h
theorem leq_t (h : a ≤ b) : realP.cm .leq a b = true := decide_eq_true h
theorem leq_f (h : ¬ a ≤ b) : realP.cm .leq a b = false := decide_eq_false h
theorem gtr_t (h : b < a) : realP.cm .gtr a b = true := decide_eq_true h
theorem gtr_f (h : ¬ b < a) : realP.cm .gtr a b = false := decide_eq_false h
theorem geq_t (h : b ≤ a) : realP.cm .geq a b = true := decide_eq_true h
theorem geq_f (h : ¬ b ≤ a) : realP.cm .geq a b = false := decide_eq_false h
theorem eql_t (h : a = b) : realP.cm .eql a b = true := by simp [realP, cmR, h]
theorem eql_f (h : a ≠ b) : realP.cm .eql a b = false := by simp [realP, cmR, h]
theorem neq_t (h : a ≠ b) : realP.cm .neq a b = true := by simp [realP, cmR, h]
theorem neq_f (h : a = b) : realP.cm .neq a b = false := by simp [realP, cmR, h]
theorem lenI_map {α : Type} (f : α → List TV) (l : List α) : realP.natI (realP.lenN (l.map f)) = l.length := by simp [realP]
theorem lenN_map {α : Type} (f : α → List TV) (l : List α) : realP.lenN (l.map f) = l.length := by simp [realP]
theorem inb_map {α : Type} {f : α → List TV} {l : List α} {k sz : Nat} (h : k < l.length) (hs : (f l[k]).length = sz) (hp : 0 < sz) : realP.inb (l.map f) k sz = true := by
  simp [realP, h, hs, hp]
theorem elt_map {α : Type} {f : α → List TV} {l : List α} {k : Nat} (h : k < l.length) : realP.elt (l.map f) k = f l[k] := by
  simp [realP, h]
theorem immC_map {α : Type} {f : α → List TV} (l : List α) (h : ∀ x, TV.immL (f x) = f x) : realP.immC (l.map f) = l.map f := by
  show TV.immLL (l.map f) = l.map f
  induction l with
  | nil => rfl
  | cons x l ih => simp only [List.map_cons, TV.immLL, h, ih]
theorem cat_map {α : Type} {f : α → List TV} (l l' : List α) : realP.cat (l.map f) (l'.map f) = (l ++ l').map f := by simp [realP]
theorem win_map {α : Type} {f : α → List TV} (l : List α) (lo n : Nat) : realP.win (l.map f) lo n = ((l.drop lo).take n).map f := by simp [realP, List.map_take, List.map_drop]
theorem allLen_map {α : Type} {f : α → List TV} (l : List α) {sz : Nat} (h : ∀ x, (f x).length = sz) : realP.allLen (l.map f) sz = true := by simp [realP, h]
theorem appOk_map {α : Type} {f : α → List TV} {l l' : List α} {sz bytes : Nat} (h : ∀ x, (f x).length = sz) (h1 : l.length + l'.length ≤ 1099511627776) (h2 : (l.length + l'.length) * bytes ≤ 140737488355328) : realP.appOk sz bytes (l.map f) (l'.map f) = true := by
  simp only [realP, List.length_map, Bool.and_eq_true, decide_eq_true_eq]
  refine ⟨⟨?_, h1⟩, h2⟩
  rw [← List.map_append, List.all_map]
  simp [h]
end
end Go.Proofs.Ytjmfjjmdfikanaa
/- Numbers out of a list, one after the other, on trees. -/
set_option linter.unusedVariables false
set_option linter.unusedSimpArgs false
namespace Go.Proofs.Ytjmfjjmdfikanaa
open Go.RowKit

def encI (x : Int) : List TV := [.v (.int .i64 x)]
def tfNext : TFn := { np := 2, pp := [0], nt := 35, body := .seq (.reg 0 none [{ dst := some 4, guard := none, op := .asn true (.c (.int (.i64) 0)) }] ([0, 1], [2, 3, 4, 5])) (.seq (.seq (.reg 1 none [{ dst := some 5, guard := none, op := .mov (.t 0) }, { dst := some 6, guard := none, op := .nilc (.t 5) }, { dst := some 7, guard := none, op := .fld 1 (.t 6) }, { dst := some 8, guard := none, op := .load none (.t 7) }, { dst := some 9, guard := none, op := .mov (.t 0) }, { dst := some 10, guard := none, op := .nilc (.t 9) }, { dst := some 11, guard := none, op := .fld 0 (.t 10) }, { dst := some 12, guard := none, op := .load none (.t 11) }, { dst := some 13, guard := none, op := .len (.t 12) }, { dst := some 14, guard := none, op := .bin (.geq) (.t 8) (.t 13) }] ([0, 1, 14], [2, 3, 4, 5, 30, 31])) (.cond (.t 14) (.seq (.reg 2 none [{ dst := some 4, guard := none, op := .asn true (.c (.int (.i64) 0)) }] ([0, 4], [2, 3, 10, 11])) (.ret)) (.skip))) (.seq (.reg 3 none [{ dst := some 15, guard := none, op := .mov (.t 0) }, { dst := some 16, guard := none, op := .nilc (.t 15) }, { dst := some 17, guard := none, op := .fld 1 (.t 16) }, { dst := some 18, guard := none, op := .load none (.t 17) }, { dst := some 19, guard := none, op := .bin (.add) (.t 18) (.c (.int (.i64) 1)) }, { dst := some 20, guard := none, op := .nilc (.t 15) }, { dst := some 21, guard := none, op := .fld 1 (.t 20) }, { dst := none, guard := none, op := .store 1 true (.t 21) (.t 19) }] ([0, 1], [2, 3, 4, 5])) (.seq (.reg 4 none [{ dst := some 22, guard := none, op := .mov (.t 0) }, { dst := some 23, guard := none, op := .nilc (.t 22) }, { dst := some 24, guard := none, op := .fld 0 (.t 23) }, { dst := some 25, guard := none, op := .load none (.t 24) }, { dst := some 26, guard := none, op := .mov (.t 0) }, { dst := some 27, guard := none, op := .nilc (.t 26) }, { dst := some 28, guard := none, op := .fld 1 (.t 27) }, { dst := some 29, guard := none, op := .load none (.t 28) }, { dst := some 30, guard := none, op := .bin (.sub) (.t 29) (.c (.int (.i64) 1)) }, { dst := some 31, guard := none, op := .idx 1 (.t 25) (.t 30) }, { dst := some 32, guard := none, op := .load none (.t 31) }, { dst := some 33, guard := none, op := .mov (.t 1) }, { dst := some 34, guard := none, op := .call true (.f 7) [(none, .t 32), (none, .t 33)] }, { dst := some 4, guard := none, op := .asn true (.t 34) }] ([0, 4], [2, 3, 10, 11])) (.ret)))), res := [.tmp 4] }
def nextV (l : List Int) (at_ : Nat) (n : Int) : Int := if at_ < l.length then l.getD at_ 0 % n else 0
def nextA (l : List Int) (at_ : Nat) : Nat := if at_ < l.length then at_ + 1 else at_
def ModC (F : Callee) : Prop := ∀ a b : Int, Is64 a → 0 < b → b ≤ 9223372036854775807 → F 7 [.v (.int .i64 a), .v (.int .i64 b)] [] = some (⟨[.v (.int .i64 (a % b))], [.one]⟩, [])

set_option maxRecDepth 100000 in
set_option maxHeartbeats 4000000 in
theorem next_run (box ps) (F : Callee) (N : Nat) (hbox : box 7 = none) (hM : ModC F) (l : List Int) (hl : ∀ x ∈ l, Is64 x) (at_ : Nat) (n : Int) (hn : 0 < n) (hn2 : n ≤ 9223372036854775807) (hat : at_ ≤ 9223372036854775807) (hat2 : at_ ≤ l.length) (hll : l.length ≤ 9223372036854775807) :
    runT ⟨box, ps⟩ F N tfNext [.ptr ⟨2, 0, []⟩ [0], .v (.int .i64 n)] [(2, [.sl (l.map encI), .v (.int .i64 at_)])] = some (⟨[.v (.int .i64 (nextV l at_ n))], [.one]⟩, [(2, [.sl (l.map encI), .v (.int .i64 (nextA l at_))])]) := by
  rw [← S.runT_real]
  have hL := lenI_map encI l
  by_cases h : at_ < l.length
  · have hc := geq_f (a := at_) (b := l.length) (by omega)
    have e1 : nextV l at_ n = l[at_] % n := by simp [nextV, h]
    have e2 : (nextA l at_ : Int) = realP.ar .add .i64 at_ 1 := by rw [add64 (by omega) (by omega)]; simp [nextA, h]
    have hge : realP.ar .sub .i64 (realP.ar .add .i64 at_ 1) 1 = Int.ofNat at_ := by rw [add64 (by omega) (by omega), sub64 (by omega) (by omega)]; simp
    have hin : realP.inb (l.map encI) at_ 1 = true := inb_map h rfl (by decide)
    have hel : realP.elt (l.map encI) at_ = [.v (.int .i64 l[at_])] := elt_map h
    have hF := hM l[at_] n (hl _ (List.getElem_mem h)) hn hn2
    rw [e1, e2]
    rw [← hL] at hc
    generalize l[at_] % n = u at *
    generalize l[at_] = v at *
    generalize l.map encI = c at *
    generalize (at_ : Int) = i at *
    (generalize realP = Pr at *; obtain ⟨ar, cm, sh, sb, un, cv, natI, lenN, inb, inw, elt, addN, subN, slOk, win, immC, immW, allLen, appOk, cat, mkOk, rep, getC, setC, shC, eqf, eqB, notB, fmm, strAt, strLen, strB, strOk, bstr, cpy, it⟩ := Pr; try dsimp only at *)
    ((repeat (cbv; first | done | rw [hc] | rw [hge] | rw [if_pos hin] | rw [hel] | rw [hbox] | rw [hF])); try cbv)
  · have hc := geq_t (a := at_) (b := l.length) (by omega)
    have e1 : nextV l at_ n = 0 := by simp [nextV, h]
    have e2 : (nextA l at_ : Int) = at_ := by simp [nextA, h]
    rw [e1, e2]
    rw [← hL] at hc
    generalize l.map encI = c at *
    generalize (at_ : Int) = i at *
    (generalize realP = Pr at *; obtain ⟨ar, cm, sh, sb, un, cv, natI, lenN, inb, inw, elt, addN, subN, slOk, win, immC, immW, allLen, appOk, cat, mkOk, rep, getC, setC, shC, eqf, eqB, notB, fmm, strAt, strLen, strB, strOk, bstr, cpy, it⟩ := Pr; try dsimp only at *)
    ((repeat (cbv; first | done | rw [hc])); try cbv)

/-- A deck: its numbers, and how many are taken. -/
structure DeckOk (l : List Int) (k : Nat) : Prop where
  le : k ≤ l.length
  len : l.length ≤ 9223372036854775807
  nums : ∀ x ∈ l, Is64 x
def encD (l : List Int) (k : Nat) : List TV := [.sl (l.map encI), .v (.int .i64 k)]
def NextC (F : Callee) : Prop := ∀ l k n, DeckOk l k → 0 < n → n ≤ 9223372036854775807 → ∃ v k', F 14 [.ptr ⟨2, 0, []⟩ [0], .v (.int .i64 n)] [(2, encD l k)] = some (⟨[.v (.int .i64 v)], [.one]⟩, [(2, encD l k')]) ∧ DeckOk l k' ∧ 0 ≤ v ∧ v < n
theorem next_ok (box ps) (F F' : Callee) (N : Nat) (hbox : box 7 = none) (hM : ModC F) (hF : ∀ a p, F' 14 a p = runT ⟨box, ps⟩ F N tfNext a p) : NextC F' := by
  intro l k n hd hn hn2
  have hk := hd.le
  have hl := hd.len
  refine ⟨nextV l k n, nextA l k, ?_, ?_, ?_, ?_⟩
  · rw [hF]
    unfold encD
    exact next_run box ps F N hbox hM l hd.nums k n hn hn2 (by omega) hk hl
  · refine ⟨?_, hd.len, hd.nums⟩
    unfold nextA; split <;> omega
  · unfold nextV
    split
    · exact Int.emod_nonneg _ (by omega)
    · omega
  · unfold nextV
    split
    · exact Int.emod_lt_of_pos _ hn
    · omega
end Go.Proofs.Ytjmfjjmdfikanaa
/- What a deck makes: words, rows of words, sizes, on trees. -/
set_option linter.unusedVariables false
set_option linter.unusedSimpArgs false
namespace Go.Proofs.Ytjmfjjmdfikanaa
open Go.RowKit

def tfModR : TFn := { np := 2, pp := [], nt := 15, body := .seq (.reg 0 none [{ dst := some 4, guard := none, op := .asn true (.c (.int (.i64) 0)) }] ([0, 1], [2, 3, 4, 5])) (.seq (.reg 1 none [{ dst := some 6, guard := none, op := .mov (.t 0) }, { dst := some 7, guard := none, op := .mov (.t 1) }, { dst := some 8, guard := none, op := .bin (.rem) (.t 6) (.t 7) }, { dst := some 5, guard := none, op := .asn true (.t 8) }] ([1, 5], [4, 5, 12, 13])) (.seq (.seq (.reg 2 none [{ dst := some 9, guard := none, op := .mov (.t 5) }, { dst := some 10, guard := none, op := .bin (.lss) (.t 9) (.c (.int (.i64) 0)) }] ([1, 5, 10], [4, 5, 12, 13, 22, 23])) (.cond (.t 10) (.reg 3 none [{ dst := some 11, guard := none, op := .mov (.t 5) }, { dst := some 12, guard := none, op := .mov (.t 1) }, { dst := some 13, guard := none, op := .bin (.add) (.t 11) (.t 12) }, { dst := some 5, guard := none, op := .asn true (.t 13) }] ([5], [12, 13])) (.nrm ([5], [12, 13])))) (.seq (.reg 4 none [{ dst := some 14, guard := none, op := .mov (.t 5) }, { dst := some 4, guard := none, op := .asn true (.t 14) }] ([4], [10, 11])) (.ret)))), res := [.tmp 4] }
def tfModM : TFn := { np := 2, pp := [], nt := 8, body := .seq (.reg 0 none [{ dst := some 4, guard := none, op := .asn true (.c (.int (.i64) 0)) }] ([0, 1], [2, 3, 4, 5])) (.seq (.reg 1 none [{ dst := some 5, guard := none, op := .mov (.t 0) }, { dst := some 6, guard := none, op := .mov (.t 1) }, { dst := some 7, guard := none, op := .call true (.f 20) [(none, .t 5), (none, .t 6)] }, { dst := some 4, guard := none, op := .asn true (.t 7) }] ([4], [10, 11])) (.ret)), res := [.tmp 4] }
def tfWord : TFn := { np := 1, pp := [0], nt := 21, body := .seq (.reg 0 none [{ dst := some 2, guard := none, op := .asn true (.c (.int (.u16) 0)) }] ([0], [2, 3])) (.seq (.seq (.reg 1 none [{ dst := some 3, guard := none, op := .mov (.t 0) }, { dst := some 4, guard := none, op := .call true (.f 14) [(some 2, .t 3), (none, .c (.int (.i64) 5))] }] ([0, 4], [2, 3, 10, 11])) (.block 0 (.seq (.seq (.reg 2 none [{ dst := some 6, guard := none, op := .bin (.eql) (.t 4) (.c (.int (.i64) 0)) }, { dst := some 5, guard := none, op := .asn true (.t 6) }] ([0, 4, 5], [2, 3, 10, 11, 12, 13])) (.cond (.t 5) (.nrm ([0, 4, 5], [2, 3, 10, 11, 12, 13])) (.seq (.reg 3 none [{ dst := some 7, guard := none, op := .bin (.eql) (.t 4) (.c (.int (.i64) 1)) }, { dst := some 5, guard := none, op := .asn true (.t 7) }] ([0, 4, 5], [2, 3, 10, 11, 12, 13])) (.cond (.t 5) (.nrm ([0, 4, 5], [2, 3, 10, 11, 12, 13])) (.reg 4 none [{ dst := some 8, guard := none, op := .bin (.eql) (.t 4) (.c (.int (.i64) 2)) }, { dst := some 5, guard := none, op := .asn true (.t 8) }] ([0, 4, 5], [2, 3, 10, 11, 12, 13])))))) (.cond (.t 5) (.seq (.reg 5 none [{ dst := some 9, guard := none, op := .mov (.t 0) }, { dst := some 10, guard := none, op := .call true (.f 14) [(some 2, .t 9), (none, .c (.int (.i64) 8))] }, { dst := some 11, guard := none, op := .conv (.u16) (.t 10) }, { dst := some 2, guard := none, op := .asn true (.t 11) }] ([0, 2], [2, 3, 6, 7])) (.ret)) (.seq (.reg 6 none [{ dst := some 13, guard := none, op := .bin (.eql) (.t 4) (.c (.int (.i64) 3)) }, { dst := some 12, guard := none, op := .asn true (.t 13) }] ([0, 12], [2, 3, 26, 27])) (.cond (.t 12) (.seq (.reg 7 none [{ dst := some 14, guard := none, op := .mov (.t 0) }, { dst := some 15, guard := none, op := .call true (.f 14) [(some 2, .t 14), (none, .c (.int (.i64) 3))] }, { dst := some 16, guard := none, op := .bin (.sub) (.c (.int (.i64) 65535)) (.t 15) }, { dst := some 17, guard := none, op := .conv (.u16) (.t 16) }, { dst := some 2, guard := none, op := .asn true (.t 17) }] ([0, 2], [2, 3, 6, 7])) (.ret)) (.skip))))))) (.seq (.reg 8 none [{ dst := some 18, guard := none, op := .mov (.t 0) }, { dst := some 19, guard := none, op := .call true (.f 14) [(some 2, .t 18), (none, .c (.int (.i64) 65536))] }, { dst := some 20, guard := none, op := .conv (.u16) (.t 19) }, { dst := some 2, guard := none, op := .asn true (.t 20) }] ([0, 2], [2, 3, 6, 7])) (.ret))), res := [.tmp 2] }
def tfWords : TFn := { np := 2, pp := [0], nt := 21, body := .seq (.reg 0 none [{ dst := some 4, guard := none, op := .asn true (.c (.slice none 0 0)) }] ([0, 1], [2, 3, 4, 5])) (.seq (.reg 1 none [{ dst := some 5, guard := none, op := .asn true (.c (.slice none 0 0)) }] ([0, 1, 5], [2, 3, 4, 5, 12, 13])) (.seq (.seq (.reg 2 none [{ dst := some 7, guard := none, op := .mov (.t 0) }, { dst := some 8, guard := none, op := .mov (.t 1) }, { dst := some 9, guard := none, op := .bin (.add) (.t 8) (.c (.int (.i64) 1)) }, { dst := some 10, guard := none, op := .call true (.f 14) [(some 2, .t 7), (none, .t 9)] }, { dst := some 6, guard := none, op := .asn true (.t 10) }] ([0, 5, 6], [2, 3, 12, 13, 14, 15])) (.block 0 (.loop (.seq (.seq (.reg 3 none [{ dst := some 11, guard := none, op := .mov (.t 6) }, { dst := some 12, guard := none, op := .bin (.gtr) (.t 11) (.c (.int (.i64) 0)) }] ([0, 5, 6, 12], [2, 3, 12, 13, 14, 15, 26, 27])) (.cond (.t 12) (.skip) (.exit 0))) (.seq (.block 1 (.reg 5 none [{ dst := some 15, guard := none, op := .mov (.t 5) }, { dst := some 16, guard := none, op := .mov (.t 0) }, { dst := some 17, guard := none, op := .call true (.f 27) [(some 2, .t 16)] }, { dst := some 18, guard := none, op := .bsl 1 true 1 [.t 17] }, { dst := some 19, guard := none, op := .app 1 2 true (.t 15) (.t 18) }, { dst := some 5, guard := none, op := .asn true (.t 19) }] ([0, 5, 6], [2, 3, 12, 13, 14, 15]))) (.reg 4 none [{ dst := some 13, guard := none, op := .mov (.t 6) }, { dst := some 14, guard := none, op := .bin (.sub) (.t 13) (.c (.int (.i64) 1)) }, { dst := some 6, guard := none, op := .asn true (.t 14) }] ([0, 5, 6], [2, 3, 12, 13, 14, 15]))))))) (.seq (.reg 6 none [{ dst := some 20, guard := none, op := .mov (.t 5) }, { dst := some 4, guard := none, op := .asn true (.t 20) }] ([0, 4], [2, 3, 10, 11])) (.ret)))), res := [.tmp 4] }
def tfSizes : TFn := { np := 1, pp := [0], nt := 27, body := .seq (.reg 0 none [{ dst := some 2, guard := none, op := .asn true (.c (.slice none 0 0)) }] ([0], [2, 3])) (.seq (.reg 1 none [{ dst := some 5, guard := none, op := .mov (.t 0) }, { dst := some 6, guard := none, op := .call true (.f 14) [(some 2, .t 5), (none, .c (.int (.i64) 9))] }, { dst := some 7, guard := none, op := .bin (.add) (.c (.int (.i64) 4)) (.t 6) }, { dst := some 8, guard := none, op := .bsl 1 true 1 [.t 7] }, { dst := some 3, guard := none, op := .asn true (.t 8) }] ([0, 3], [2, 3, 8, 9])) (.seq (.seq (.reg 2 none [{ dst := some 9, guard := none, op := .mov (.t 0) }, { dst := some 10, guard := none, op := .call true (.f 14) [(some 2, .t 9), (none, .c (.int (.i64) 4))] }, { dst := some 4, guard := none, op := .asn true (.t 10) }] ([0, 3, 4], [2, 3, 8, 9, 10, 11])) (.block 0 (.loop (.seq (.seq (.reg 3 none [{ dst := some 11, guard := none, op := .mov (.t 4) }, { dst := some 12, guard := none, op := .bin (.gtr) (.t 11) (.c (.int (.i64) 0)) }] ([0, 3, 4, 12], [2, 3, 8, 9, 10, 11, 26, 27])) (.cond (.t 12) (.skip) (.exit 0))) (.seq (.block 1 (.reg 5 none [{ dst := some 15, guard := none, op := .mov (.t 3) }, { dst := some 16, guard := none, op := .mov (.t 0) }, { dst := some 17, guard := none, op := .bsl 1 true 3 [.c (.int (.i64) 6), .c (.int (.i64) 12), .c (.int (.i64) 32)] }, { dst := some 18, guard := none, op := .mov (.t 0) }, { dst := some 19, guard := none, op := .call true (.f 14) [(some 2, .t 18), (none, .c (.int (.i64) 3))] }, { dst := some 20, guard := none, op := .idx 1 (.t 17) (.t 19) }, { dst := some 21, guard := none, op := .load none (.t 20) }, { dst := some 22, guard := none, op := .call true (.f 14) [(some 2, .t 16), (none, .t 21)] }, { dst := some 23, guard := none, op := .bin (.add) (.c (.int (.i64) 1)) (.t 22) }, { dst := some 24, guard := none, op := .bsl 1 true 1 [.t 23] }, { dst := some 25, guard := none, op := .app 1 8 true (.t 15) (.t 24) }, { dst := some 3, guard := none, op := .asn true (.t 25) }] ([0, 3, 4], [2, 3, 8, 9, 10, 11]))) (.reg 4 none [{ dst := some 13, guard := none, op := .mov (.t 4) }, { dst := some 14, guard := none, op := .bin (.sub) (.t 13) (.c (.int (.i64) 1)) }, { dst := some 4, guard := none, op := .asn true (.t 14) }] ([0, 3, 4], [2, 3, 8, 9, 10, 11]))))))) (.seq (.reg 6 none [{ dst := some 26, guard := none, op := .mov (.t 3) }, { dst := some 2, guard := none, op := .asn true (.t 26) }] ([0, 2], [2, 3, 6, 7])) (.ret)))), res := [.tmp 2] }

def ModRC (F : Callee) : Prop := ∀ a b : Int, Is64 a → 0 < b → b ≤ 9223372036854775807 → F 20 [.v (.int .i64 a), .v (.int .i64 b)] [] = some (⟨[.v (.int .i64 (a % b))], [.one]⟩, [])

set_option maxRecDepth 100000 in
set_option maxHeartbeats 4000000 in
theorem modR_run (E : Env) (F : Callee) (N : Nat) (a b : Int) (ha : Is64 a) (hb : 0 < b) (hb2 : b ≤ 9223372036854775807) :
    runT E F N tfModR [.v (.int .i64 a), .v (.int .i64 b)] [] = some (⟨[.v (.int .i64 (a % b))], [.one]⟩, []) := by
  rw [← S.runT_real]
  obtain ⟨h1, h2⟩ := ha
  obtain ⟨m, rfl⟩ : ∃ m : Nat, b = .ofNat (m + 1) := ⟨b.toNat - 1, by simp only [Int.ofNat_eq_natCast]; omega⟩
  have hr : realP.ar .rem .i64 a (.ofNat (m + 1)) = a.tmod (.ofNat (m + 1)) := rfl
  have hlt : a.tmod (.ofNat (m + 1)) < .ofNat (m + 1) := Int.tmod_lt_of_pos _ hb
  have hgt : -(Int.ofNat (m + 1)) < a.tmod (.ofNat (m + 1)) := Int.lt_tmod_of_pos _ hb
  have he : a % .ofNat (m + 1) = if a.tmod (.ofNat (m + 1)) < 0 then a.tmod (.ofNat (m + 1)) + .ofNat (m + 1) else a.tmod (.ofNat (m + 1)) := by
    have key : ∀ b : Int, 0 < b → a % b = if a.tmod b < 0 then a.tmod b + b else a.tmod b := by
      intro b hb
      rw [Int.emod_eq_tmod]
      by_cases h : 0 ≤ a
      · rw [if_pos (.inl h), if_neg (by have := Int.tmod_nonneg b h; omega)]
        simp
      · by_cases hd : b ∣ a
        · have := Int.tmod_eq_zero_of_dvd hd
          rw [if_pos (.inr hd), if_neg (by omega)]
          simp
        · have h1 : a.tmod b ≠ 0 := fun e => hd (Int.dvd_of_tmod_eq_zero e)
          have h2 : a.tmod b ≤ 0 := by
            have := Int.tmod_nonneg (a := -a) b (by omega)
            rw [Int.neg_tmod] at this
            omega
          rw [if_neg (fun h' => h'.elim h hd), if_pos (by omega)]
          omega
    exact key _ hb
  have hadd : a.tmod (.ofNat (m + 1)) < 0 → realP.ar .add .i64 (a.tmod (.ofNat (m + 1))) (.ofNat (m + 1)) = a.tmod (.ofNat (m + 1)) + .ofNat (m + 1) := fun h => add64 (by omega) (by omega)
  by_cases h : a.tmod (.ofNat (m + 1)) < 0
  · rw [he, if_pos h, ← hadd h]
    have hc := lss_t h
    rw [← hr] at hc
    rw [← hr]
    clear hadd he
    (generalize realP = Pr at *; obtain ⟨ar, cm, sh, sb, un, cv, natI, lenN, inb, inw, elt, addN, subN, slOk, win, immC, immW, allLen, appOk, cat, mkOk, rep, getC, setC, shC, eqf, eqB, notB, fmm, strAt, strLen, strB, strOk, bstr, cpy, it⟩ := Pr; try dsimp only at *)
    ((repeat (cbv; first | done | rw [hc])); try cbv)
  · rw [he, if_neg h]
    have hc := lss_f h
    rw [← hr] at hc
    rw [← hr]
    clear hadd he
    (generalize realP = Pr at *; obtain ⟨ar, cm, sh, sb, un, cv, natI, lenN, inb, inw, elt, addN, subN, slOk, win, immC, immW, allLen, appOk, cat, mkOk, rep, getC, setC, shC, eqf, eqB, notB, fmm, strAt, strLen, strB, strOk, bstr, cpy, it⟩ := Pr; try dsimp only at *)
    ((repeat (cbv; first | done | rw [hc])); try cbv)
set_option maxRecDepth 100000 in
set_option maxHeartbeats 4000000 in
theorem modM_run (box ps) (F : Callee) (N : Nat) (hbox : box 20 = none) (hF : ModRC F) (a b : Int) (ha : Is64 a) (hb : 0 < b) (hb2 : b ≤ 9223372036854775807) :
    runT ⟨box, ps⟩ F N tfModM [.v (.int .i64 a), .v (.int .i64 b)] [] = some (⟨[.v (.int .i64 (a % b))], [.one]⟩, []) := by
  rw [← S.runT_real]
  have hF := hF a b ha hb hb2
  generalize a % b = r at *
  (generalize realP = Pr at *; obtain ⟨ar, cm, sh, sb, un, cv, natI, lenN, inb, inw, elt, addN, subN, slOk, win, immC, immW, allLen, appOk, cat, mkOk, rep, getC, setC, shC, eqf, eqB, notB, fmm, strAt, strLen, strB, strOk, bstr, cpy, it⟩ := Pr; try dsimp only at *)
  ((repeat (cbv; first | done | rw [hbox] | rw [hF])); try cbv)

/-- Words. -/
def WordC (F : Callee) : Prop := ∀ l k, DeckOk l k → ∃ v k', F 27 [.ptr ⟨2, 0, []⟩ [0]] [(2, encD l k)] = some (⟨[.v (.int .u16 v)], [.one]⟩, [(2, encD l k')]) ∧ DeckOk l k' ∧ 0 ≤ v ∧ v < 65536

theorem cvu16 {x : Int} : realP.cv .u16 x = x % 65536 := wrap_u16 x
set_option maxRecDepth 100000 in
set_option maxHeartbeats 4000000 in
theorem word_run (box ps) (F : Callee) (N : Nat) (hbox : box 14 = none) (hN : NextC F) (l k) (hd : DeckOk l k) :
    ∃ v k', runT ⟨box, ps⟩ F N tfWord [.ptr ⟨2, 0, []⟩ [0]] [(2, encD l k)] = some (⟨[.v (.int .u16 v)], [.one]⟩, [(2, encD l k')]) ∧ DeckOk l k' ∧ 0 ≤ v ∧ v < 65536 := by
  rw [← S.runT_real]
  obtain ⟨v, k1, h1, hd1, g1, g2⟩ := hN l k 5 hd (by decide) (by decide)
  by_cases hv : v ≤ 2
  · obtain ⟨u, k2, h2, hd2, q1, q2⟩ := hN l k1 8 hd1 (by decide) (by decide)
    refine ⟨realP.cv .u16 u, k2, ?_, hd2, by rw [cvu16]; omega, by rw [cvu16]; omega⟩
    simp only [encD] at *
    generalize l.map encI = c at *
    generalize (k : Int) = i0 at *
    generalize (k1 : Int) = i1 at *
    generalize (k2 : Int) = i2 at *
    obtain hv | hv | hv : v = 0 ∨ v = 1 ∨ v = 2 := by omega
    all_goals subst hv
    · have c0 : realP.cm .eql 0 0 = true := rfl
      (generalize realP = Pr at *; obtain ⟨ar, cm, sh, sb, un, cv, natI, lenN, inb, inw, elt, addN, subN, slOk, win, immC, immW, allLen, appOk, cat, mkOk, rep, getC, setC, shC, eqf, eqB, notB, fmm, strAt, strLen, strB, strOk, bstr, cpy, it⟩ := Pr; try dsimp only at *)
      ((repeat (cbv; first | done | rw [hbox] | rw [h1] | rw [h2] | rw [c0])); try cbv)
    · have c0 : realP.cm .eql 1 0 = false := rfl
      have c1 : realP.cm .eql 1 1 = true := rfl
      (generalize realP = Pr at *; obtain ⟨ar, cm, sh, sb, un, cv, natI, lenN, inb, inw, elt, addN, subN, slOk, win, immC, immW, allLen, appOk, cat, mkOk, rep, getC, setC, shC, eqf, eqB, notB, fmm, strAt, strLen, strB, strOk, bstr, cpy, it⟩ := Pr; try dsimp only at *)
      ((repeat (cbv; first | done | rw [hbox] | rw [h1] | rw [h2] | rw [c0] | rw [c1])); try cbv)
    · have c0 : realP.cm .eql 2 0 = false := rfl
      have c1 : realP.cm .eql 2 1 = false := rfl
      have c2 : realP.cm .eql 2 2 = true := rfl
      (generalize realP = Pr at *; obtain ⟨ar, cm, sh, sb, un, cv, natI, lenN, inb, inw, elt, addN, subN, slOk, win, immC, immW, allLen, appOk, cat, mkOk, rep, getC, setC, shC, eqf, eqB, notB, fmm, strAt, strLen, strB, strOk, bstr, cpy, it⟩ := Pr; try dsimp only at *)
      ((repeat (cbv; first | done | rw [hbox] | rw [h1] | rw [h2] | rw [c0] | rw [c1] | rw [c2])); try cbv)
  · have c0 : realP.cm .eql v 0 = false := eql_f (by omega)
    have c1 : realP.cm .eql v 1 = false := eql_f (by omega)
    have c2 : realP.cm .eql v 2 = false := eql_f (by omega)
    by_cases hv3 : v = 3
    · obtain ⟨u, k2, h2, hd2, q1, q2⟩ := hN l k1 3 hd1 (by decide) (by decide)
      refine ⟨realP.cv .u16 (realP.ar .sub .i64 65535 u), k2, ?_, hd2, by rw [cvu16]; omega, by rw [cvu16]; omega⟩
      have c3 : realP.cm .eql v 3 = true := eql_t hv3
      clear hv hv3
      simp only [encD] at *
      generalize l.map encI = c at *
      generalize (k : Int) = i0 at *
      generalize (k1 : Int) = i1 at *
      generalize (k2 : Int) = i2 at *
      (generalize realP = Pr at *; obtain ⟨ar, cm, sh, sb, un, cv, natI, lenN, inb, inw, elt, addN, subN, slOk, win, immC, immW, allLen, appOk, cat, mkOk, rep, getC, setC, shC, eqf, eqB, notB, fmm, strAt, strLen, strB, strOk, bstr, cpy, it⟩ := Pr; try dsimp only at *)
      ((repeat (cbv; first | done | rw [hbox] | rw [h1] | rw [h2] | rw [c0] | rw [c1] | rw [c2] | rw [c3])); try cbv)
    · obtain ⟨u, k2, h2, hd2, q1, q2⟩ := hN l k1 65536 hd1 (by decide) (by decide)
      refine ⟨realP.cv .u16 u, k2, ?_, hd2, by rw [cvu16]; omega, by rw [cvu16]; omega⟩
      have c3 : realP.cm .eql v 3 = false := eql_f hv3
      simp only [encD] at *
      generalize l.map encI = c at *
      generalize (k : Int) = i0 at *
      generalize (k1 : Int) = i1 at *
      generalize (k2 : Int) = i2 at *
      (generalize realP = Pr at *; obtain ⟨ar, cm, sh, sb, un, cv, natI, lenN, inb, inw, elt, addN, subN, slOk, win, immC, immW, allLen, appOk, cat, mkOk, rep, getC, setC, shC, eqf, eqB, notB, fmm, strAt, strLen, strB, strOk, bstr, cpy, it⟩ := Pr; try dsimp only at *)
      ((repeat (cbv; first | done | rw [hbox] | rw [h1] | rw [h2] | rw [c0] | rw [c1] | rw [c2] | rw [c3])); try cbv)
end Go.Proofs.Ytjmfjjmdfikanaa
