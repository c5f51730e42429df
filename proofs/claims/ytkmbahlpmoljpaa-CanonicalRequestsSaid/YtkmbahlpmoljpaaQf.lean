/- Code on trees, and what the program's code comes to; no condition. -/
import Derived.Test.YtkmbahlpmoljpaaQe
import Derived.LoopN
import Derived.Orders
set_option linter.unusedVariables false
set_option linter.unusedSimpArgs false
namespace Go.Proofs.Ytkmbahlpmoljpaa
open Go.RowKit

structure TOper where
  dst : Option Nat
  guard : Option (Nat × Bool)
  op : TOp
inductive TCode where
  | skip
  | nrm (pers : List Nat × List Nat)
  | reg (id : Nat) (draw : Option (List (List Nat))) (ops : List TOper) (pers : List Nat × List Nat)
  | seq (a b : TCode)
  | cond (c : Opd) (a b : TCode)
  | block (id : Nat) (b : TCode)
  | loop (b : TCode)
  | exit (id : Nat)
  | ret
  | pre (l : List (Nat × Option Nat)) (a : TCode)
  | post (a : TCode) (l : List (Nat × Option Nat))
inductive TExit where
  | normal
  | exit (id : Nat)
  | ret

/-- A name as it is told anew. -/
def renorm0 (L : List Nat) (σ : St) : TV → TV
  | .ptr p vs => if L.contains p.root && vs == vers σ.v p.root p.off p.hops.length then .ptr p (vers (fun _ => 0) p.root p.off p.hops.length) else .dead
  | .pk p vs => if L.contains p.root && vs == vers σ.v p.root p.off (p.hops.length + 1) then .pk p (vers (fun _ => 0) p.root p.off (p.hops.length + 1)) else .dead
  | .pw p vs sz lo n => if L.contains p.root && vs == vers σ.v p.root p.off (p.hops.length + 1) then .pw p (vers (fun _ => 0) p.root p.off (p.hops.length + 1)) sz lo n else .dead
  | .v x => .v x
  | .sl c => .sl c
  | .ip cs => .ip cs
  | .ow [] => .ow []
  | .tup [] => .tup []
  | _ => .dead
def renorm (L : List Nat) (σ : St) : TV → TV
  | .agg l => .agg (l.map (renorm0 L σ))
  | .fn f l => .fn f (l.map (renorm0 L σ))
  | t => renorm0 L σ t
def normT (L : List Nat) (σ : St) : List Nat → List (Nat × TV)
  | [] => []
  | i :: r => match aget σ.tm i with | some t => (i, renorm L σ t) :: normT L σ r | none => normT L σ r
def normC (σ : St) : List Nat → List (Nat × List TV)
  | [] => []
  | r :: l => match aget σ.ce r with | some c => (r, c) :: normC σ l | none => normC σ l
/-- What lasts behind a region. -/
abbrev Prs := List Nat × List Nat
def St.norm (σ : St) (pers : Prs) : St := ⟨normT pers.2 σ pers.1, normC σ pers.2, []⟩

def evop (call : Option Nat → TOp → SP Unit) (dst : Option Nat) (op : TOp) : SP Unit :=
  match op with
  | .call k f args => call dst (.call k f args)
  | .store n mv a x => match dst with | none => ev1 0 (.store n mv a x) | some _ => .fail
  | op => match dst with | some d => ev1 d op | none => .fail
def runOp (call : Option Nat → TOp → SP Unit) (o : TOper) (σ : St) : Option St :=
  match o.guard with
  | none => ((evop call o.dst o.op).run σ).map (·.2)
  | some (j, want) =>
    match σ.t j with
    | .v (.bool b) => if b = want then ((evop call o.dst o.op).run σ).map (·.2) else match o.dst with | some d => some { σ with tm := aset σ.tm d (.tup []) } | none => some σ
    | .tup [] => match o.dst with | some d => some { σ with tm := aset σ.tm d (.tup []) } | none => some σ
    | _ => none
def runOps (call : Option Nat → TOp → SP Unit) : List TOper → St → Option St
  | [], σ => some σ
  | o :: r, σ => (runOp call o σ).bind (runOps call r)

def setNo (dst : Option Nat) : SP Unit := match dst with | some d => .wrT d (.tup []) (.ret ()) | none => .ret ()
def spOp (call : Option Nat → TOp → SP Unit) (o : TOper) : SP Unit :=
  match o.guard with
  | none => evop call o.dst o.op
  | some (j, want) => .rdT j fun t => match t with
    | .v (.bool b) => if b = want then evop call o.dst o.op else setNo o.dst
    | .tup [] => setNo o.dst
    | _ => .fail
def noOp : TOper := ⟨none, none, .lens (.t 0)⟩
theorem spOp_run {call : Option Nat → TOp → SP Unit} {o : TOper} {σ σ' : St} (h : (spOp call o).run σ = some ((), σ')) : runOp call o σ = some σ' := by
  have hno : ∀ {σ'}, (setNo o.dst).run σ = some ((), σ') → (match o.dst with | some d => some { σ with tm := aset σ.tm d (.tup []) } | none => some σ) = some σ' := by
    intro σ' h
    unfold setNo at h
    cases hd : o.dst with
    | none => rw [hd] at h; simp only [SP.run, Option.some.injEq, Prod.mk.injEq, true_and] at h; simp [h]
    | some d => rw [hd] at h; simp only [SP.run, Option.some.injEq, Prod.mk.injEq, true_and] at h; simp [h]
  unfold spOp at h
  unfold runOp
  cases hg : o.guard with
  | none => rw [hg] at h; simp only at h ⊢; rw [h]; rfl
  | some g =>
    obtain ⟨j, want⟩ := g
    rw [hg] at h
    simp only [SP.run] at h ⊢
    split at h
    · rename_i b hb
      split at h
      · rename_i hbw; rw [if_pos hbw, h]; rfl
      · rename_i hbw; rw [if_neg hbw]; exact hno h
    · exact hno h
    · simp [SP.run] at h

def iter (f : St → Option (TExit × St)) : Nat → St → Option (TExit × St)
  | 0, _ => none
  | n + 1, σ => (f σ).bind fun x => match x.1 with | .normal => iter f n x.2 | e => some (e, x.2)
/-- What a slot names, or what stands in a variable that it points to, becomes shared. -/
def shr1 (x : Nat × Option Nat) : SP Unit := .rdT x.1 fun t => match x.2, t with
  | none, .pk p vs => (take1 false (.pk p vs)).bind fun t' => .wrT x.1 t'.imm (.ret ())
  | some off, .ptr p vs => (chk p p.hops.length vs).bind fun _ => if p.fits off then (getPl (p.add off)).bind fun t => match t with
    | .ow c => (peek1 (p.add off) (.ow c)).bind fun t' => (take1 false t').bind fun _ => .ret ()
    | _ => .ret ()
    else .fail
  | _, _ => .ret ()
def shrs : List (Nat × Option Nat) → SP Unit
  | [] => .ret ()
  | x :: r => (shr1 x).bind fun _ => shrs r
/-- Names told anew; nothing is forgotten. -/
def St.anew (σ : St) : St := σ.norm (σ.tm.map (·.1), σ.ce.map (·.1))
def runC (call : Option Nat → TOp → SP Unit) (N : Nat) : TCode → St → Option (TExit × St)
  | .skip, σ => some (.normal, σ)
  | .nrm pers, σ => some (.normal, σ.norm pers)
  | .reg _ draw ops pers, σ =>
    match draw with
    | none => (runOps call ops σ).map fun σ' => (.normal, σ'.norm pers)
    | some deps => (runFL (fun i => spOp call (ops.getD i noOp)) (List.range ops.length) σ).bind fun x => if okPairs deps x.1 then some (.normal, x.2.norm pers) else none
  | .seq a b, σ => (runC call N a σ).bind fun x => match x.1 with | .normal => runC call N b x.2 | e => some (e, x.2)
  | .cond c a b, σ => ((opd c).run σ).bind fun x => match x.1 with | .v (.bool true) => runC call N a σ | .v (.bool false) => runC call N b σ | _ => none
  | .block id b, σ => (runC call N b σ).bind fun x => match x.1 with | .exit i => if i = id then some (.normal, x.2) else some (.exit i, x.2) | e => some (e, x.2)
  | .loop b, σ => iter (runC call N b) N σ
  | .exit id, σ => some (.exit id, σ)
  | .ret, σ => some (.ret, σ)
  | .pre l a, σ => ((shrs l).run σ).bind fun x => runC call N a x.2.anew
  | .post a l, σ => (runC call N a σ).bind fun x => ((shrs l).run x.2).bind fun y => some (x.1, y.2.anew)

section norm
variable {M : Fm} {σ σ' : St} {ts : Array Value} {w : World} {G : Gh}

theorem aget_normT (L : List Nat) (σ : St) (l : List Nat) (i : Nat) : aget (normT L σ l) i = if i ∈ l then (aget σ.tm i).map (renorm L σ) else none := by
  induction l with
  | nil => simp [normT, aget]
  | cons j r ih =>
    simp only [normT]
    by_cases hj : j = i
    · subst hj
      cases h : aget σ.tm j with
      | none => simp only [ih, h]; split <;> simp
      | some t => simp [aget]
    · cases h : aget σ.tm j with
      | none => simp only [ih, List.mem_cons, Ne.symm hj, false_or]
      | some t => simp only [aget, hj, if_false, ih, List.mem_cons, Ne.symm hj, false_or]
theorem aget_normC (σ : St) (l : List Nat) (r : Nat) : aget (normC σ l) r = if r ∈ l then aget σ.ce r else none := by
  induction l with
  | nil => simp [normC, aget]
  | cons j l ih =>
    simp only [normC]
    by_cases hj : j = r
    · subst hj
      cases h : aget σ.ce j with
      | none => simp only [ih, h]; split <;> simp
      | some t => simp [aget]
    · cases h : aget σ.ce j with
      | none => simp only [ih, List.mem_cons, Ne.symm hj, false_or]
      | some t => simp only [aget, hj, if_false, ih, List.mem_cons, Ne.symm hj, false_or]

theorem Inv.norm (hI : Inv M σ [] [] ts w G) (pers : Prs) : ∃ G', Inv M (σ.norm pers) [] [] ts w G' := by
  obtain ⟨L, hL⟩ : ∃ L, L = pers.2 := ⟨_, rfl⟩
  have hc : ∀ r o, (σ.norm pers).c r o = if r ∈ L then σ.c r o else .dead := by
    intro r o
    unfold St.c St.norm
    simp only [← hL, aget_normC]
    by_cases h : r ∈ L <;> simp [h]
  have hE : ∀ r o, extC M (σ.norm pers) [] r o = if r ∈ L then extC M σ [] r o else .dead := by
    intro r o
    unfold extC
    by_cases h : r = M.hr
    · simp [h]
    · simp only [if_neg h, hc]
  let G' : Gh := ⟨G.β, G.η, fun r o k => if r ∈ L then G.φ r o k else False⟩
  have hsub : ∀ r o k, G'.φ r o k → G.φ r o k := by
    intro r o k hk
    simp only [G'] at hk
    split at hk
    · exact hk
    · exact hk.elim
  have hgh := Core.ghost (C' := extC M (σ.norm pers) []) (G' := G') hI.core rfl (fun k ⟨r, o, h⟩ => ⟨r, o, hsub r o k h⟩) (fun r1 o1 r2 o2 k h1 h2 => hI.core.dis _ _ _ _ k (hsub _ _ k h1) (hsub _ _ k h2))
    (fun r b o0 n hb o ho => by
      rw [hE]
      split
      · exact hI.core.boxc r b o0 n hb o ho
      · rfl)
    (fun r o => by
      by_cases h : r ∈ L
      · left; exact ⟨by rw [hE, if_pos h], fun k => by simp [G', h], rfl⟩
      · right; left; exact ⟨by rw [hE, if_neg h], fun k hk => by simp [G', h] at hk⟩)
  -- names
  have hv0 : (σ.norm pers).v = fun _ => 0 := by funext q; rfl
  have hrn0 : ∀ {t : TV} {x : Value}, TmR w (G.F M.A) σ.v (extC M σ []) G t x → TmR w (G'.F M.A) (σ.norm pers).v (extC M (σ.norm pers) []) G' (renorm0 L σ t) x := by
    intro t x h
    rw [hv0]
    cases h with
    | v h => exact .v h
    | nil => exact .nil
    | sl h => exact .sl (h.frame (fun _ _ _ => rfl) fun k hk _ => hgh.2 k hk)
    | dead => exact .dead
    | @ptr p vs x V0 h0 hv hok =>
      simp only [renorm0]
      split
      · rename_i hc
        simp only [Bool.and_eq_true, List.contains_iff_mem, beq_iff_eq] at hc
        refine .ptr (fun _ => 0) (fun _ => Nat.le_refl _) rfl fun _ => ?_
        obtain ⟨h1, ad, t, h2, h3, h4⟩ := hok hc.2
        exact ⟨h1, ad, t, addr_val h2 rfl fun _ => rfl, h3, by rw [hE, if_pos hc.1]; exact h4⟩
      · exact .dead
    | ip u hcl hr => exact .ip u (fun j hj => ⟨hgh.2 _ (hcl j hj).1, (hcl j hj).2⟩) fun j hj => (hr j hj).frame (fun _ _ _ => rfl) fun k hk _ => hgh.2 k hk
    | @pk p vs x V0 h0 hv hok =>
      simp only [renorm0]
      split
      · rename_i hc
        simp only [Bool.and_eq_true, List.contains_iff_mem, beq_iff_eq] at hc
        refine .pk (fun _ => 0) (fun _ => Nat.le_refl _) rfl fun _ => ?_
        obtain ⟨h1, c, h2, h3⟩ := hok hc.2
        exact ⟨h1, c, h2, by rw [hE, if_pos hc.1]; exact h3⟩
      · exact .dead
    | @pw p vs sz lo n x V0 h0 hv hok =>
      simp only [renorm0]
      split
      · rename_i hc
        simp only [Bool.and_eq_true, List.contains_iff_mem, beq_iff_eq] at hc
        refine .pw (fun _ => 0) (fun _ => Nat.le_refl _) rfl fun _ => ?_
        obtain ⟨h1, c, hd, h2, h3, h4⟩ := hok hc.2
        exact ⟨h1, c, hd, h2, by rw [hE, if_pos hc.1]; exact h3, h4⟩
      · exact .dead
    | agg hl h => exact .dead
    | @tup l xs hl h =>
      cases l with
      | nil => exact .tup hl fun j hj => by simp at hj
      | cons => exact .dead
    | fn hl h => exact .dead
  have hrn : ∀ {t : TV} {x : Value}, TmR w (G.F M.A) σ.v (extC M σ []) G t x → TmR w (G'.F M.A) (σ.norm pers).v (extC M (σ.norm pers) []) G' (renorm L σ t) x := by
    intro t x h
    have h0 := hrn0 h
    cases h with
    | @agg l xs hl h => exact .agg (by simpa using hl) fun j hj => by simpa using hrn0 (h j (by simpa using hj))
    | @fn f l xs hl h => exact .fn (by simpa using hl) fun j hj => by simpa using hrn0 (h j (by simpa using hj))
    | _ => exact h0
  refine ⟨G', hgh.1, fun i => ?_, hI.fram.ghost rfl (fun k ⟨r, o, h⟩ => ⟨r, o, hsub r o k h⟩), fun r l h => ?_, hI.size, rfl, fun j hj => by simp at hj, fun r b o n hb l h => ?_⟩
  · have e : (σ.norm pers).t i = if i ∈ pers.1 then (match aget σ.tm i with | some t => renorm L σ t | none => .dead) else .dead := by
      unfold St.t St.norm
      simp only [← hL, aget_normT]
      by_cases h : i ∈ pers.1
      · simp only [h, if_true]; cases aget σ.tm i <;> rfl
      · simp [h]
    rw [e]
    split
    · cases ha : aget σ.tm i with
      | none => exact .dead
      | some t =>
        have := hI.tmr i
        have et : σ.t i = t := by simp [St.t, ha]
        rw [et] at this
        exact hrn this
    · exact .dead
  · have : aget (normC σ L) r = some l := by rw [hL]; exact h
    rw [aget_normC] at this
    split at this
    · exact hI.keys r l this
    · simp at this
  · have : aget (normC σ L) r = some l := by rw [hL]; exact h
    rw [aget_normC] at this
    split at this
    · exact hI.shape r b o n hb l this
    · simp at this
end norm
end Go.Proofs.Ytkmbahlpmoljpaa
/- The program's code, and code on trees; no condition. -/
set_option linter.unusedVariables false
set_option linter.unusedSimpArgs false
namespace Go.Proofs.Ytkmbahlpmoljpaa
open Go.RowKit

/-- Whatever an operation's rest wants of the state on trees, it gets. -/
def SimO (P : Program) (M : Fm) (σ' : St) (a : Act) (o : Oper) (w : World) : Prop :=
  ∀ (K : Act → World → Prop) (Q : Exit → Act → World → Prop), (∀ a' w' G', Inv M σ' [] [] a'.tmps w' G' → a'.defers = a.defers → K a' w') → o.wp P a w K Q
theorem put_defers (a : Act) (d : Option Tmp) (v : Value) : (a.put d v).defers = a.defers := by cases d <;> rfl
theorem Sim1.simO {P : Program} {M : Fm} {σ' : St} {a : Act} {o : Oper} {w : World} (h : Sim1 P M σ' a o w) : SimO P M σ' a o w := by
  obtain ⟨nx, x, w', G', hrun, hnx, hI⟩ := h
  intro K Q hK
  unfold Oper.wp
  rw [hrun]
  rcases hnx with rfl | ⟨rfl, rfl⟩
  · exact hK _ w' G' hI (put_defers _ _ _)
  · exact hK _ w' G' hI (put_defers _ _ _)

/-- One operation of the program and the same on trees. -/
structure OperOk (P : Program) (M : Fm) (isCall : Op → TOp → Prop) (ops : Array Oper) (o : Oper) (t : TOper) : Prop where
  dst : t.dst = o.dst
  lt : ∀ d, o.dst = some d → d < M.N ∧ M.pr (2 * d + 2) = none
  guard : (o.guard = none ∧ t.guard = none) ∨ ∃ j want dj, o.guard = some (j, want) ∧ t.guard = some (dj, want) ∧ (ops[j]?).bind (·.dst) = some dj
  op : (∃ mv, compOp P mv o.op = some t.op) ∨ isCall o.op t.op
/-- Calls are carried out as they should. -/
def CallOk (P : Program) (M : Fm) (isCall : Op → TOp → Prop) (call : Option Nat → TOp → SP Unit) : Prop :=
  ∀ (o : Oper) (t : TOp) (σ σ' : St) (a : Act) (w : World) (G : Gh), isCall o.op t → (∀ d, o.dst = some d → d < M.N ∧ M.pr (2 * d + 2) = none) → Inv M σ [] [] a.tmps w G → (evop call o.dst t).run σ = some ((), σ') → SimO P M σ' a o w

section
variable {P : Program} {M : Fm} {σ σ' : St} {w : World} {G : Gh} {a : Act} {o : Oper} {isCall : Op → TOp → Prop} {call : Option Nat → TOp → SP Unit} {ops : Array Oper}

theorem compOp_call {mv : Bool} {op : Op} {t : TOp} (h : compOp P mv op = some t) : ∀ k f args, t ≠ .call k f args := by
  rintro k f args rfl
  cases op <;> simp only [compOp] at h
  case move x => split at h <;> first | (simp at h; done) | (obtain ⟨_, _, h⟩ := omap h; simp at h)
  case assign x => obtain ⟨_, _, h⟩ := omap h; simp at h
  case pick => obtain ⟨_, _, h⟩ := obind h; obtain ⟨_, _, h⟩ := obind h; obtain ⟨_, _, h⟩ := obind h; simp at h
  case alloc => obtain ⟨_, _, h⟩ := omap h; simp at h
  case box => obtain ⟨_, _, h⟩ := obind h; obtain ⟨_, _, h⟩ := obind h; simp at h
  case build => (repeat' split at h) <;> first | (simp at h; done) | (obtain ⟨_, _, h⟩ := obind h; obtain ⟨_, _, h⟩ := obind h; simp at h) | (obtain ⟨_, _, h⟩ := obind h; simp at h)
  case buildSlice => (repeat' split at h) <;> first | (simp at h; done) | (obtain ⟨_, _, h⟩ := obind h; obtain ⟨_, _, h⟩ := obind h; simp at h)
  case load => obtain ⟨_, _, h⟩ := obind h; obtain ⟨_, _, h⟩ := obind h; simp at h
  case store => obtain ⟨_, _, h⟩ := obind h; obtain ⟨_, _, h⟩ := obind h; obtain ⟨_, _, h⟩ := obind h; obtain ⟨_, _, h⟩ := obind h; simp at h
  case nilCheck => obtain ⟨_, _, h⟩ := omap h; simp at h
  case binOp => (repeat' split at h) <;> first | (simp at h; done) | (obtain ⟨_, _, h⟩ := obind h; obtain ⟨_, _, h⟩ := obind h; simp at h)
  case unOp => obtain ⟨_, _, h⟩ := omap h; simp at h
  case convert => (repeat' split at h) <;> first | (simp at h; done) | (obtain ⟨_, _, h⟩ := omap h; simp at h)
  case makeFunc => split at h <;> first | (simp at h; done) | (obtain ⟨_, _, h⟩ := obind h; obtain ⟨_, _, h⟩ := obind h; simp at h)
  case makeSlice => (repeat' split at h) <;> first | (simp at h; done) | (obtain ⟨_, _, h⟩ := obind h; obtain ⟨_, _, h⟩ := obind h; obtain ⟨_, _, h⟩ := obind h; simp at h)
  case slice => (repeat' split at h) <;> first | (simp at h; done) | (obtain ⟨_, _, h⟩ := obind h; obtain ⟨_, _, h⟩ := obind h; obtain ⟨_, _, h⟩ := obind h; obtain ⟨_, _, h⟩ := obind h; simp at h)
  case fieldAddr => (repeat' split at h) <;> first | (simp at h; done) | (obtain ⟨_, _, h⟩ := omap h; simp at h)
  case field => (repeat' split at h) <;> first | (simp at h; done) | (obtain ⟨_, _, h⟩ := obind h; obtain ⟨_, _, h⟩ := obind h; simp at h)
  case indexAddr => (repeat' split at h) <;> first | (simp at h; done) | (obtain ⟨_, _, h⟩ := obind h; obtain ⟨_, _, h⟩ := obind h; obtain ⟨_, _, h⟩ := obind h; simp at h)
  case index => (repeat' split at h) <;> first | (simp at h; done) | (obtain ⟨_, _, h⟩ := obind h; obtain ⟨_, _, h⟩ := obind h; simp at h)
  case extract => obtain ⟨_, _, h⟩ := omap h; simp at h
  case call => (repeat' split at h) <;> first | (simp at h; done) | (obtain ⟨_, _, h⟩ := obind h; obtain ⟨_, _, h⟩ := obind h; obtain ⟨_, _, h⟩ := obind h; simp at h) | (obtain ⟨_, _, h⟩ := omap h; simp at h)
  all_goals simp at h

theorem sim_evop (hI : Inv M σ [] [] a.tmps w G) {t : TOper} (hok : OperOk P M isCall ops o t) (hcall : CallOk P M isCall call) (hr : (evop call t.dst t.op).run σ = some ((), σ')) : SimO P M σ' a o w := by
  rcases hok.op with ⟨mv, hc⟩ | hc
  · have hnc := compOp_call hc
    by_cases hst : ∃ ty x y, o.op = .store ty x y
    · obtain ⟨ty, x, y, ho⟩ := hst
      rw [ho] at hc
      simp only [compOp] at hc
      obtain ⟨n, h1, hc⟩ := obind hc
      obtain ⟨u, h2, hc⟩ := obind hc
      obtain ⟨x1, h3, hc⟩ := obind hc
      obtain ⟨y1, h4, hc⟩ := obind hc
      injection hc with hc
      rw [← hc] at hr
      simp only [evop] at hr
      cases hd : t.dst with
      | some d => simp [hd, SP.run] at hr
      | none =>
        simp only [hd] at hr
        have hg := guardO_ok h2
        exact (sim_store hI (d := 0) (by rw [← hok.dst, hd]) h3 h4 ho h1 (by simpa using hg) hr).simO
    · cases hd : t.dst with
      | none =>
        exfalso
        rw [hd] at hr
        cases ht : t.op <;> rw [ht] at hr <;> simp only [evop, SP.run] at hr <;> first | (simp at hr; done) | skip
        · rename_i n mv' a' x'
          rw [ht] at hc
          -- a store on trees comes only from a store
          cases ho : o.op <;> rw [ho] at hc hst <;> simp only [compOp] at hc
          case store => exact hst ⟨_, _, _, rfl⟩
          case move x => split at hc <;> first | (simp at hc; done) | (obtain ⟨_, _, h⟩ := omap hc; simp at h)
          case assign x => obtain ⟨_, _, h⟩ := omap hc; simp at h
          case pick => obtain ⟨_, _, h⟩ := obind hc; obtain ⟨_, _, h⟩ := obind h; obtain ⟨_, _, h⟩ := obind h; simp at h
          case alloc => obtain ⟨_, _, h⟩ := omap hc; simp at h
          case box => obtain ⟨_, _, h⟩ := obind hc; obtain ⟨_, _, h⟩ := obind h; simp at h
          case build => (repeat' split at hc) <;> first | (simp at hc; done) | (obtain ⟨_, _, h⟩ := obind hc; obtain ⟨_, _, h⟩ := obind h; simp at h) | (obtain ⟨_, _, h⟩ := obind hc; simp at h)
          case buildSlice => (repeat' split at hc) <;> first | (simp at hc; done) | (obtain ⟨_, _, h⟩ := obind hc; obtain ⟨_, _, h⟩ := obind h; simp at h)
          case load => obtain ⟨_, _, h⟩ := obind hc; obtain ⟨_, _, h⟩ := obind h; simp at h
          case nilCheck => obtain ⟨_, _, h⟩ := omap hc; simp at h
          case binOp => (repeat' split at hc) <;> first | (simp at hc; done) | (obtain ⟨_, _, h⟩ := obind hc; obtain ⟨_, _, h⟩ := obind h; simp at h)
          case unOp => obtain ⟨_, _, h⟩ := omap hc; simp at h
          case convert => (repeat' split at hc) <;> first | (simp at hc; done) | (obtain ⟨_, _, h⟩ := omap hc; simp at h)
          case makeFunc => split at hc <;> first | (simp at hc; done) | (obtain ⟨_, _, h⟩ := obind hc; obtain ⟨_, _, h⟩ := obind h; simp at h)
          case makeSlice => (repeat' split at hc) <;> first | (simp at hc; done) | (obtain ⟨_, _, h⟩ := obind hc; obtain ⟨_, _, h⟩ := obind h; obtain ⟨_, _, h⟩ := obind h; simp at h)
          case slice => (repeat' split at hc) <;> first | (simp at hc; done) | (obtain ⟨_, _, h⟩ := obind hc; obtain ⟨_, _, h⟩ := obind h; obtain ⟨_, _, h⟩ := obind h; obtain ⟨_, _, h⟩ := obind h; simp at h)
          case fieldAddr => (repeat' split at hc) <;> first | (simp at hc; done) | (obtain ⟨_, _, h⟩ := omap hc; simp at h)
          case field => (repeat' split at hc) <;> first | (simp at hc; done) | (obtain ⟨_, _, h⟩ := obind hc; obtain ⟨_, _, h⟩ := obind h; simp at h)
          case indexAddr => (repeat' split at hc) <;> first | (simp at hc; done) | (obtain ⟨_, _, h⟩ := obind hc; obtain ⟨_, _, h⟩ := obind h; obtain ⟨_, _, h⟩ := obind h; simp at h)
          case index => (repeat' split at hc) <;> first | (simp at hc; done) | (obtain ⟨_, _, h⟩ := obind hc; obtain ⟨_, _, h⟩ := obind h; simp at h)
          case extract => obtain ⟨_, _, h⟩ := omap hc; simp at h
          case call => (repeat' split at hc) <;> first | (simp at hc; done) | (obtain ⟨_, _, h⟩ := obind hc; obtain ⟨_, _, h⟩ := obind h; obtain ⟨_, _, h⟩ := obind h; simp at h) | (obtain ⟨_, _, h⟩ := omap hc; simp at h)
          all_goals simp at hc
        · exact absurd ht (hnc _ _ _)
      | some d =>
        have hdd : o.dst = some d := by rw [← hok.dst, hd]
        obtain ⟨h1, h2⟩ := hok.lt d hdd
        have hr' : (ev1 d t.op).run σ = some ((), σ') := by
          rw [hd] at hr
          cases ht : t.op <;> rw [ht] at hr <;> simp only [evop] at hr <;> first | exact hr | (simp [SP.run] at hr; done) | exact absurd ht (hnc _ _ _)
        exact (sim_op1 hI hdd h1 h2 hc hr' hst).simO
  · exact hcall o t.op σ σ' a w G hc hok.lt hI (by rw [← hok.dst]; exact hr)

theorem undef_tmr {F : Nat → Prop} {V : Vs} {C : Cs} : TmR w F V C G (.tup []) undef := .tup (by simp) fun j hj => by simp at hj

/-- Operations, one after the other, in any order that is told. -/
theorem sim_ops {tops : List TOper} (hlen : tops.length = ops.size) (hok : ∀ i (h : i < ops.size) (h' : i < tops.length), OperOk P M isCall ops ops[i] tops[i]) (hcall : CallOk P M isCall call) {Q : Exit → Act → World → Prop} :
    ∀ (L : List Nat) (σ : St) (a : Act) (w : World) (G : Gh), (∀ i ∈ L, i < ops.size) → Inv M σ [] [] a.tmps w G → runOps call (L.map fun i => tops.getD i ⟨none, none, .lens (.t 0)⟩) σ = some σ' →
      (∀ a' w' G', Inv M σ' [] [] a'.tmps w' G' → a'.defers = a.defers → Q .normal a' w') → wpOps P ops Q L a w := by
  intro L
  induction L with
  | nil =>
    intro σ a w G _ hI hr hQ
    simp only [List.map_nil, runOps, Option.some.injEq] at hr
    subst hr
    exact hQ a w G hI rfl
  | cons i L ih =>
    intro σ a w G hL hI hr hQ
    have hi : i < ops.size := hL i (by simp)
    have hi' : i < tops.length := by omega
    simp only [List.map_cons, runOps] at hr
    have e : tops.getD i ⟨none, none, .lens (.t 0)⟩ = tops[i] := by simp [hi']
    rw [e] at hr
    cases hro : runOp call tops[i] σ with
    | none => simp [hro] at hr
    | some σ1 =>
      simp only [hro, Option.bind_some] at hr
      have hop := hok i hi hi'
      simp only [wpOps, Array.getElem?_eq_getElem hi]
      have go : (evop call tops[i].dst tops[i].op).run σ = some ((), σ1) → ops[i].wp P a w (wpOps P ops Q L) Q := fun h => by
        refine sim_evop hI hop hcall h _ _ fun a' w' G' hI' hd => ?_
        exact ih σ1 a' w' G' (fun j hj => hL j (by simp [hj])) hI' hr (fun a2 w2 G2 h2 hd2 => hQ a2 w2 G2 h2 (hd2.trans hd))
      have skip : (match tops[i].dst with | some d => some { σ with tm := aset σ.tm d (.tup []) } | none => some σ) = some σ1 → wpOps P ops Q L (a.put ops[i].dst undef) w := fun h => by
        rw [hop.dst] at h
        cases hd : ops[i].dst with
        | none =>
          rw [hd] at h
          injection h with h
          subst h
          exact ih σ a w G (fun j hj => hL j (by simp [hj])) hI hr hQ
        | some d =>
          rw [hd] at h
          injection h with h
          subst h
          exact ih _ (a.put (some d) undef) w G (fun j hj => hL j (by simp [hj])) (hI.wrT (hop.lt d hd).1 undef_tmr) hr (fun a2 w2 G2 h2 hd2 => hQ a2 w2 G2 h2 hd2)
      unfold runOp at hro
      rcases hop.guard with ⟨g1, g2⟩ | ⟨j, want, dj, g1, g2, g3⟩
      · rw [if_pos (by simp [Region.wanted, g1])]
        left
        simp only [g2] at hro
        obtain ⟨⟨u, σ2⟩, h1, h2⟩ := omap hro
        exact go (by rw [h1]; simp only at h2; rw [h2])
      · simp only [g2] at hro
        have hy : yielded ops a.tmps j = match (a.tmps[dj]? : Option Value) with | some (.bool b) => some b | _ => none := by
          unfold yielded
          rw [g3]
          rfl
        have htm := hI.tmr dj
        cases hs : σ.t dj with
        | v x =>
          rw [hs] at htm hro
          obtain ⟨hx, _⟩ := htm.v_inv
          cases x with
          | bool b =>
            have hget : a.tmps[dj]? = some (.bool b) := by
              rw [Array.getD_eq_getD_getElem?] at hx
              cases hq : a.tmps[dj]? with
              | none => rw [hq] at hx; simp [undef] at hx
              | some v => rw [hq] at hx; simp at hx; rw [hx]
            have hy' : yielded ops a.tmps j = some b := by rw [hy, hget]
            simp only at hro
            by_cases hb : b = want
            · rw [if_pos hb] at hro
              rw [if_pos (by simp [Region.wanted, g1, hy', hb])]
              left
              obtain ⟨⟨u, σ2⟩, h1, h2⟩ := omap hro
              exact go (by rw [h1]; simp only at h2; rw [h2])
            · rw [if_neg hb] at hro
              rw [if_neg (by simp [Region.wanted, g1, hy', hb])]
              exact skip hro
          | _ => simp at hro
        | tup l =>
          rw [hs] at htm hro
          cases l with
          | nil =>
            have hu : a.tmps.getD dj undef = undef := by
              generalize a.tmps.getD dj undef = z at htm
              cases htm with
              | @tup _ xs hl _ => have : xs = #[] := by apply Array.eq_empty_of_size_eq_zero; simpa using hl
                                  rw [this]; rfl
            have hy' : yielded ops a.tmps j = none := by
              rw [hy]
              rw [Array.getD_eq_getD_getElem?] at hu
              cases hq : a.tmps[dj]? with
              | none => rfl
              | some v =>
                rw [hq] at hu
                simp only [Option.getD_some] at hu
                rw [hu]
                rfl
            simp only at hro
            rw [if_neg (by simp [Region.wanted, g1, hy'])]
            exact skip hro
          | cons => simp at hro
        | _ => rw [hs] at hro; simp at hro
end
end Go.Proofs.Ytkmbahlpmoljpaa
/- Regions whose order is not said; no condition. -/
set_option linter.unusedVariables false
set_option linter.unusedSimpArgs false
namespace Go.Proofs.Ytkmbahlpmoljpaa
open Go.RowKit

section
variable {P : Program} {M : Fm} {σ σ' : St} {H : List TV} {xs : List Value} {ts : Array Value} {w : World} {G : Gh} {a : Act} {o : Oper} {isCall : Op → TOp → Prop} {call : Option Nat → TOp → SP Unit} {ops : Array Oper}

theorem Inv.congr (hI : Inv M σ H xs ts w G) (hs : Same σ σ') : Inv M σ' H xs ts w G := by
  have hc : extC M σ' H = extC M σ H := by
    funext r o
    unfold extC
    split
    · rfl
    · exact (hs (.c r o)).symm
  have hv : σ'.v = σ.v := by funext q; exact (hs (.v q)).symm
  have hn : ∀ r l, aget σ'.ce r = some l → ∃ l0, aget σ.ce r = some l0 ∧ l0.length = l.length := by
    intro r l h
    have h1 : (aget σ.ce r).map List.length = (aget σ'.ce r).map List.length := hs (.n r)
    rw [h] at h1
    cases ha : aget σ.ce r with
    | none => rw [ha] at h1; simp at h1
    | some l0 => rw [ha] at h1; exact ⟨l0, rfl, by simpa using h1⟩
  refine ⟨by rw [hc]; exact hI.core, fun i => ?_, hI.fram, fun r l h => ?_, hI.size, hI.hand, hI.hval, fun r b o n hb l h => ?_⟩
  · have ht : σ'.t i = σ.t i := by
      have : aget σ.tm i = aget σ'.tm i := hs (.t i)
      simp [St.t, this]
    rw [hc, hv, ht]
    exact hI.tmr i
  · obtain ⟨l0, h1, _⟩ := hn r l h
    exact hI.keys r l0 h1
  · obtain ⟨l0, h1, h2⟩ := hn r l h
    rw [← h2]
    exact hI.shape r b o n hb l0 h1

/-- One operation, and what comes behind it. -/
theorem sim_step {t : TOper} {i : Nat} {Q : Exit → Act → World → Prop} {K : Act → World → Prop} (hi : i < ops.size) (hop : OperOk P M isCall ops ops[i] t) (hcall : CallOk P M isCall call) (hI : Inv M σ [] [] a.tmps w G) (hro : runOp call t σ = some σ')
    (hK : ∀ a' w' G', Inv M σ' [] [] a'.tmps w' G' → a'.defers = a.defers → K a' w') : wpOp P ops Q i K a w := by
  unfold wpOp
  simp only [Array.getElem?_eq_getElem hi]
  have go : (evop call t.dst t.op).run σ = some ((), σ') → ops[i].wp P a w K Q := fun h => by
    exact sim_evop hI hop hcall h _ _ hK
  have skip : (match t.dst with | some d => some { σ with tm := aset σ.tm d (.tup []) } | none => some σ) = some σ' → K (a.put ops[i].dst undef) w := fun h => by
    rw [hop.dst] at h
    cases hd : ops[i].dst with
    | none =>
      rw [hd] at h
      injection h with h
      subst h
      exact hK a w G hI rfl
    | some d =>
      rw [hd] at h
      injection h with h
      subst h
      exact hK (a.put (some d) undef) w G (hI.wrT (hop.lt d hd).1 undef_tmr) rfl
  unfold runOp at hro
  rcases hop.guard with ⟨g1, g2⟩ | ⟨j, want, dj, g1, g2, g3⟩
  · rw [if_pos (by simp [Region.wanted, g1])]
    left
    simp only [g2] at hro
    obtain ⟨⟨u, σ2⟩, h1, h2⟩ := omap hro
    exact go (by rw [h1]; simp only at h2; rw [h2])
  · simp only [g2] at hro
    have hy : yielded ops a.tmps j = match (a.tmps[dj]? : Option Value) with | some (.bool b) => some b | _ => none := by
      unfold yielded
      rw [g3]
      rfl
    have htm := hI.tmr dj
    cases hs : σ.t dj with
    | v x =>
      rw [hs] at htm hro
      obtain ⟨hx, _⟩ := htm.v_inv
      cases x with
      | bool b =>
        have hget : a.tmps[dj]? = some (.bool b) := by
          rw [Array.getD_eq_getD_getElem?] at hx
          cases hq : a.tmps[dj]? with
          | none => rw [hq] at hx; simp [undef] at hx
          | some v => rw [hq] at hx; simp at hx; rw [hx]
        have hy' : yielded ops a.tmps j = some b := by rw [hy, hget]
        simp only at hro
        by_cases hb : b = want
        · rw [if_pos hb] at hro
          rw [if_pos (by simp [Region.wanted, g1, hy', hb])]
          left
          obtain ⟨⟨u, σ2⟩, h1, h2⟩ := omap hro
          exact go (by rw [h1]; simp only at h2; rw [h2])
        · rw [if_neg hb] at hro
          rw [if_neg (by simp [Region.wanted, g1, hy', hb])]
          exact skip hro
      | _ => simp at hro
    | tup l =>
      rw [hs] at htm hro
      cases l with
      | nil =>
        have hu : a.tmps.getD dj undef = undef := by
          generalize a.tmps.getD dj undef = z at htm
          cases htm with
          | @tup _ xs hl _ => have : xs = #[] := by apply Array.eq_empty_of_size_eq_zero; simpa using hl
                              rw [this]; rfl
        have hy' : yielded ops a.tmps j = none := by
          rw [hy]
          rw [Array.getD_eq_getD_getElem?] at hu
          cases hq : a.tmps[dj]? with
          | none => rfl
          | some v =>
            rw [hq] at hu
            simp only [Option.getD_some] at hu
            rw [hu]
            rfl
        simp only at hro
        rw [if_neg (by simp [Region.wanted, g1, hy'])]
        exact skip hro
      | cons => simp at hro
    | _ => rw [hs] at hro; simp at hro

/-- What an operation waits for, through others too. -/
structure DepsOk (ops : Array Oper) (deps : List (List Nat)) : Prop where
  back : ∀ i (h : i < ops.size), ∀ e ∈ ops[i].after, Region.binds .any e = true → e.on < i
  dep : ∀ i (h : i < ops.size), ∀ j ∈ deps.getD i [], ∃ e ∈ ops[i].after, Region.binds .any e = true ∧ (e.on = j ∨ j ∈ deps.getD e.on [])

theorem okPairs_drop {deps : List (List Nat)} {x : Nat × Foot} : ∀ {l l' : List (Nat × Foot)}, okPairs deps (l ++ x :: l') = true → okPairs deps (l ++ l') = true ∧ ∀ y ∈ l, clash y.2 x.2 = false ∨ y.1 ∈ deps.getD x.1 [] := by
  intro l
  induction l with
  | nil =>
    intro l' h
    obtain ⟨j, F⟩ := x
    simp only [List.nil_append, okPairs, Bool.and_eq_true] at h
    exact ⟨h.2, fun y hy => by simp at hy⟩
  | cons z l ih =>
    intro l' h
    obtain ⟨j, F⟩ := z
    simp only [List.cons_append, okPairs, Bool.and_eq_true, List.all_eq_true] at h
    obtain ⟨h1, h2⟩ := ih h.2
    refine ⟨by simp only [List.cons_append, okPairs, Bool.and_eq_true, List.all_eq_true]; exact ⟨fun y hy => h.1 y (by rcases List.mem_append.1 hy with hy | hy <;> simp [hy]), h1⟩, fun y hy => ?_⟩
    rcases List.mem_cons.1 hy with rfl | hy
    · have := h.1 x (by simp)
      simp only [Bool.or_eq_true, Bool.not_eq_true', List.contains_eq_mem, decide_eq_true_eq] at this
      exact this
    · exact h2 y hy

theorem sim_any {tops : List TOper} {deps : List (List Nat)} (hlen : tops.length = ops.size) (hok : ∀ i (h : i < ops.size) (h' : i < tops.length), OperOk P M isCall ops ops[i] tops[i]) (hcall : CallOk P M isCall call) (hdeps : DepsOk ops deps) {Q : Exit → Act → World → Prop} :
    ∀ (n : Nat) (C : List Nat) (listed : Array Bool) (σ : St) (a : Act) (w : World) (G : Gh) (fs : List (Nat × Foot)) (τ : St), C.length = n → listed.size = ops.size → C.Pairwise (· < ·) → (∀ j, j ∈ C ↔ j < ops.size ∧ listed.getD j true = false) →
      (∀ i, listed.getD i false = true → ∀ j ∈ deps.getD i [], listed.getD j false = true) → Inv M σ [] [] a.tmps w G → runFL (fun i => spOp call (tops.getD i noOp)) C σ = some (fs, τ) → okPairs deps fs = true →
      (∀ a' w' G', Inv M τ [] [] a'.tmps w' G' → a'.defers = a.defers → Q .normal a' w') → wpAny P .any ops Q n listed a w := by
  have hgd : ∀ {listed : Array Bool}, listed.size = ops.size → ∀ j, j < ops.size → (listed.getD j true = false ↔ ¬ listed.getD j false = true) := by
    intro listed hs j hj
    have : j < listed.size := by omega
    simp [Array.getD_eq_getD_getElem?, this]
  intro n
  induction n with
  | zero =>
    intro C listed σ a w G fs τ hC hs hsort hmem hcl hI hr hp hQ
    have hC : C = [] := List.eq_nil_of_length_eq_zero hC
    subst hC
    simp only [runFL, Option.some.injEq, Prod.mk.injEq] at hr
    obtain ⟨rfl, rfl⟩ := hr
    refine ⟨?_, hQ a w G hI rfl⟩
    apply List.eq_nil_iff_forall_not_mem.2
    intro j hj
    obtain ⟨h1, o, h2, _⟩ := mem_ready.1 hj
    have := (hmem j).2 ⟨(Array.getElem?_eq_some_iff.1 h2).1, h1⟩
    simp at this
  | succ n ih =>
    intro C listed σ a w G fs τ hC hs hsort hmem hcl hI hr hp hQ
    refine ⟨fun hnil => ?_, fun i hi => ?_⟩
    · exfalso
      cases C with
      | nil => simp at hC
      | cons h C =>
        have hh := (hmem h).1 (by simp)
        have : h ∈ Region.ready .any ops listed := by
          refine mem_ready.2 ⟨hh.2, ops[h]'hh.1, Array.getElem?_eq_getElem hh.1, fun e he hb => ?_⟩
          have hlt := hdeps.back h hh.1 e he hb
          have hes : e.on < ops.size := by omega
          cases hl : listed.getD e.on false with
          | true => rfl
          | false =>
            have hm := (hmem e.on).2 ⟨hes, (hgd hs _ hes).2 (by rw [hl]; simp)⟩
            rcases List.mem_cons.1 hm with e1 | e1
            · omega
            · have := (List.pairwise_cons.1 hsort).1 _ e1; omega
        rw [hnil] at this
        simp at this
    · obtain ⟨h1, o, h2, h3⟩ := mem_ready.1 hi
      have his : i < ops.size := (Array.getElem?_eq_some_iff.1 h2).1
      have hoe : o = ops[i] := by rw [Array.getElem?_eq_getElem his] at h2; injection h2 with h2; exact h2.symm
      subst hoe
      have hiC := (hmem i).2 ⟨his, h1⟩
      obtain ⟨pre, post, rfl⟩ := List.append_of_mem hiC
      have hdep : ∀ j ∈ deps.getD i [], listed.getD j false = true := fun j hj => by
        obtain ⟨e, he, hb, h4⟩ := hdeps.dep i his j hj
        have hl := h3 e he hb
        rcases h4 with rfl | h4
        · exact hl
        · exact hcl _ hl j h4
      have hclash : ∀ fs1 F fs2, fs = fs1 ++ (i, F) :: fs2 → fs1.map (·.1) = pre → ∀ y ∈ fs1, clash y.2 F = false := by
        rintro fs1 F fs2 rfl hpre y hy
        rcases (okPairs_drop hp).2 y hy with h | h
        · exact h
        · have hyC : y.1 ∈ pre ++ i :: post := by rw [← hpre]; exact List.mem_append_left _ (List.mem_map_of_mem hy)
          have := (hmem y.1).1 hyC
          exact absurd (hdep _ h) ((hgd hs _ this.1).1 this.2)
      obtain ⟨σ', τ', fs1, F, fs2, rfl, hpre, hrun, _, hrest, hsame⟩ := runFL_front hr hclash
      have hi' : i < tops.length := by omega
      have e : tops.getD i noOp = tops[i] := by simp [hi']
      simp only [e] at hrun
      refine sim_step his (hok i his hi') hcall hI (spOp_run hrun) fun a' w' G' hI' hd => ?_
      have hne : ∀ j ∈ pre ++ post, j ≠ i := fun j hj e => by
        subst e
        rw [List.pairwise_append] at hsort
        rcases List.mem_append.1 hj with hj | hj
        · have := hsort.2.2 j hj j (by simp); omega
        · have := (List.pairwise_cons.1 hsort.2.1).1 j hj; omega
      refine ih (pre ++ post) (listed.setIfInBounds i true) σ' a' w' G' (fs1 ++ fs2) τ' (by simp at hC ⊢; omega) (by simp [hs]) ?_ (fun j => ?_) (fun k hk j hj => ?_) hI' hrest (okPairs_drop hp).1 fun a2 w2 G2 h4 h5 => hQ a2 w2 G2 (h4.congr fun x => (hsame x).symm) (h5.trans hd)
      · refine hsort.sublist ?_
        exact List.Sublist.append_left (List.sublist_cons_self i post) pre
      · constructor
        · intro hj
          have hjC : j ∈ pre ++ i :: post := by rcases List.mem_append.1 hj with hj | hj <;> simp [hj]
          have := (hmem j).1 hjC
          exact ⟨this.1, by rw [getD_set_ne true (Ne.symm (hne j hj))]; exact this.2⟩
        · rintro ⟨hj1, hj2⟩
          have hji : j ≠ i := by
            rintro rfl
            have : j < listed.size := by omega
            simp [Array.getD_eq_getD_getElem?, this] at hj2
          rw [getD_set_ne true (Ne.symm hji)] at hj2
          have := (hmem j).2 ⟨hj1, hj2⟩
          rcases List.mem_append.1 this with h | h
          · exact List.mem_append_left _ h
          · rcases List.mem_cons.1 h with h | h
            · exact absurd h hji
            · exact List.mem_append_right _ h
      · by_cases hki : k = i
        · subst hki
          exact getD_set_true (hdep j hj)
        · rw [getD_set_ne false (Ne.symm hki)] at hk
          exact getD_set_true (hcl k hk j hj)

/-- A region in whatever order. -/
theorem sim_draw {tops : List TOper} {deps : List (List Nat)} {id : Nat} (hm : P.follows .mixedOrders = true) (hlen : tops.length = ops.size) (hok : ∀ i (h : i < ops.size) (h' : i < tops.length), OperOk P M isCall ops ops[i] tops[i]) (hcall : CallOk P M isCall call) (hdeps : DepsOk ops deps)
    {Q : Exit → Act → World → Prop} {fs : List (Nat × Foot)} {τ : St} (hI : Inv M σ [] [] a.tmps w G) (hr : runFL (fun i => spOp call (tops.getD i noOp)) (List.range tops.length) σ = some (fs, τ)) (hp : okPairs deps fs = true)
    (hQ : ∀ a' w' G', Inv M τ [] [] a'.tmps w' G' → a'.defers = a.defers → Q .normal a' w') : (Code.region id ops true).wp P Q a w := by
  refine wp_region_any hm ?_
  have hI' : Inv M σ [] [] a.tmps { w with drawn := w.drawn + 1 } G := by
    exact (hI.grow (w' := { w with drawn := w.drawn + 1 }) (fun _ _ => rfl) (Nat.le_refl _) rfl rfl rfl).1
  refine sim_any hlen hok hcall hdeps ops.size (List.range ops.size) _ σ a _ G fs τ (by simp) (by simp) List.pairwise_lt_range (fun j => ?_) (fun i hi => ?_) hI' (by rw [← hlen]; exact hr) hp hQ
  · simp only [List.mem_range]
    constructor
    · intro h; exact ⟨h, by simp [Array.getD_eq_getD_getElem?, h]⟩
    · exact fun h => h.1
  · exfalso
    rw [Array.getD_eq_getD_getElem?, Array.getElem?_replicate] at hi
    split at hi <;> simp at hi
end
end Go.Proofs.Ytkmbahlpmoljpaa
/- Operations that only write their own slot, and regions in which no pair can meet; no condition. -/
set_option linter.unusedVariables false
set_option linter.unusedSimpArgs false
namespace Go.Proofs.Ytkmbahlpmoljpaa
open Go.RowKit

/-- A program that writes slot d alone, and reads no other slots than these. -/
def SP.quiet {α : Type} (d : Nat) (S : List Nat) : SP α → Prop
  | .ret _ => True
  | .fail => True
  | .rdT i k => i ∈ S ∧ ∀ t, (k t).quiet d S
  | .rdC _ _ k => ∀ t, (k t).quiet d S
  | .rdV _ k => ∀ n, (k n).quiet d S
  | .wrT i _ k => i = d ∧ k.quiet d S
  | .wrC _ _ _ _ => False
  | .new _ _ _ => False
  | .bump _ _ => False
theorem SP.quiet_bind {α β : Type} {d : Nat} {S : List Nat} {s : SP α} {f : α → SP β} (h : s.quiet d S) (hf : ∀ a, (f a).quiet d S) : (s.bind f).quiet d S := by
  induction s with
  | ret a => exact hf a
  | fail => exact trivial
  | rdT i k ih => exact ⟨h.1, fun t => ih t (h.2 t)⟩
  | rdC r o k ih => exact fun t => ih t (h t)
  | rdV q k ih => exact fun n => ih n (h n)
  | wrT i t k ih => exact ⟨h.1, ih h.2⟩
  | wrC r o t k ih => exact h.elim
  | new r l k ih => exact h.elim
  | bump q k ih => exact h.elim
theorem SP.quiet_foot {α : Type} {d : Nat} {S : List Nat} {s : SP α} (h : s.quiet d S) (σ : St) : (∀ x ∈ (s.foot σ).2, x = .t d) ∧ ∀ i, Loc.t i ∈ (s.foot σ).1 → i ∈ S := by
  induction s generalizing σ with
  | ret a => exact ⟨fun x hx => by simp [SP.foot] at hx, fun i hi => by simp [SP.foot] at hi⟩
  | fail => exact ⟨fun x hx => by simp [SP.foot] at hx, fun i hi => by simp [SP.foot] at hi⟩
  | rdT i k ih =>
    obtain ⟨h1, h2⟩ := ih _ (h.2 (σ.t i)) σ
    refine ⟨h1, fun j hj => ?_⟩
    simp only [SP.foot, List.mem_cons] at hj
    rcases hj with hj | hj
    · injection hj with hj; subst hj; exact h.1
    · exact h2 j hj
  | rdC r o k ih =>
    obtain ⟨h1, h2⟩ := ih _ (h (σ.c r o)) σ
    refine ⟨h1, fun j hj => ?_⟩
    simp only [SP.foot, List.mem_cons] at hj
    rcases hj with hj | hj
    · simp at hj
    · exact h2 j hj
  | rdV q k ih =>
    obtain ⟨h1, h2⟩ := ih _ (h (σ.v q)) σ
    refine ⟨h1, fun j hj => ?_⟩
    simp only [SP.foot, List.mem_cons] at hj
    rcases hj with hj | hj
    · simp at hj
    · exact h2 j hj
  | wrT i t k ih =>
    obtain ⟨h1, h2⟩ := ih h.2 { σ with tm := aset σ.tm i t }
    refine ⟨fun x hx => ?_, h2⟩
    simp only [SP.foot, List.mem_cons] at hx
    rcases hx with hx | hx
    · rw [hx, h.1]
    · exact h1 x hx
  | wrC r o t k ih => exact h.elim
  | new r l k ih => exact h.elim
  | bump q k ih => exact h.elim

def slotsO : Opd → List Nat
  | .t i => [i]
  | _ => []
/-- What an operation that only writes its own slot reads. -/
def quietOp : TOp → Option (List Nat)
  | .mov (.t i) => some [i]
  | .mov (.c x) => match ofConst x with | .v _ => some [] | _ => none
  | .pick c a b => some (slotsO c ++ (slotsO a ++ slotsO b))
  | .load _ a => some (slotsO a)
  | .nilc x => some (slotsO x)
  | .fld _ a => some (slotsO a)
  | .fldv _ _ x => some (slotsO x)
  | .idx _ x i => some (slotsO x ++ slotsO i)
  | .idxa _ _ x i => some (slotsO x ++ slotsO i)
  | .ext x _ => some (slotsO x)
  | .bin _ x y => some (slotsO x ++ slotsO y)
  | .bnb _ x y => some (slotsO x ++ slotsO y)
  | .eqa _ _ x y => some (slotsO x ++ slotsO y)
  | .un _ x => some (slotsO x)
  | .conv _ x => some (slotsO x)
  | .len x => some (slotsO x)
  | .lens x => some (slotsO x)
  | .ixs x i => some (slotsO x ++ slotsO i)
  | _ => none

section
variable {d : Nat} {S : List Nat}
theorem quiet_opd {x : Opd} (h : ∀ i ∈ slotsO x, i ∈ S) : (opd x).quiet d S := by
  cases x with
  | t i => exact ⟨h i (by simp [slotsO]), fun _ => trivial⟩
  | _ => exact trivial
theorem quiet_rdVs {l : List Key} : (rdVs l).quiet d S := by
  induction l with
  | nil => exact trivial
  | cons q l ih => exact fun n => SP.quiet_bind ih fun _ => trivial
theorem quiet_chk {p : Place} {n : Nat} {vs : List Nat} : (chk p n vs).quiet d S := SP.quiet_bind quiet_rdVs fun l => by split <;> exact trivial
theorem quiet_getPl {p : Place} : (getPl p).quiet d S := fun tv => by
  show SP.quiet d S (match getT tv p.hops with | some t => SP.ret t | none => SP.fail)
  cases getT tv p.hops <;> exact trivial
theorem quiet_peek1 {p : Place} {t : TV} : (peek1 p t).quiet d S := by
  cases t with
  | ow c => exact SP.quiet_bind quiet_rdVs fun _ => trivial
  | _ => exact trivial
theorem quiet_peekL : ∀ {n : Nat} {p : Place}, (peekL p n).quiet d S := by
  intro n
  induction n with
  | zero => intro p; exact trivial
  | succ n ih =>
    intro p
    refine SP.quiet_bind quiet_getPl fun t => SP.quiet_bind quiet_peek1 fun t' => ?_
    split
    · exact trivial
    · split
      · exact SP.quiet_bind ih fun _ => trivial
      · exact trivial
theorem quiet_wr {t : TV} : (wr d t).quiet d S := ⟨rfl, trivial⟩
theorem quiet_valOf {t : TV} : (valOf t).quiet d S := by cases t <;> exact trivial
theorem quiet_natOf {t : TV} : (natOf t).quiet d S := by
  cases t with
  | v x =>
    cases x with
    | int k n => cases n <;> exact trivial
    | _ => exact trivial
  | _ => exact trivial
theorem quiet_spOpt {α : Type} {o : Option α} : (spOpt o).quiet d S := by cases o <;> exact trivial
theorem quiet_lenOfT {t : TV} : (lenOfT t).quiet d S := by
  cases t with
  | pk p vs => exact SP.quiet_bind quiet_chk fun _ => SP.quiet_bind quiet_getPl fun t => by cases t <;> exact trivial
  | pw p vs sz lo n => exact SP.quiet_bind quiet_chk fun _ => trivial
  | ow c => cases c <;> exact trivial
  | _ => exact trivial

theorem quiet_ev1 {op : TOp} (h : quietOp op = some S) : (ev1 d op).quiet d S := by
  cases op with
  | mov x =>
    cases x with
    | t i =>
      simp only [quietOp, Option.some.injEq] at h
      subst h
      refine SP.quiet_bind (quiet_opd fun j hj => by simpa [slotsO] using hj) fun t => ?_
      cases t with
      | ow c => exact trivial
      | agg l =>
        simp only
        split
        · exact trivial
        · exact quiet_wr
      | _ => exact quiet_wr
    | c x =>
      simp only [quietOp] at h
      split at h
      · rename_i y hy
        have e : ev1 d (.mov (.c x)) = wr d (.v y) := by simp only [ev1, opd, hy, SP.bind]
        rw [e]
        exact quiet_wr
      · simp at h
    | f _ => simp [quietOp] at h
  | pick c a b =>
    simp only [quietOp, Option.some.injEq] at h
    subst h
    refine SP.quiet_bind (quiet_opd fun j hj => by simp [hj]) fun t => ?_
    split
    · rename_i bb
      refine SP.quiet_bind ?_ fun t => by split <;> first | exact quiet_wr | exact trivial
      cases bb
      · exact quiet_opd fun j hj => by simp at hj; simp [hj]
      · exact quiet_opd fun j hj => by simp at hj; simp [hj]
    · exact trivial
  | load n a =>
    simp only [quietOp, Option.some.injEq] at h
    subst h
    refine SP.quiet_bind (quiet_opd fun j hj => by simpa using hj) fun t => ?_
    split
    · refine SP.quiet_bind quiet_chk fun _ => ?_
      cases n with
      | none => exact SP.quiet_bind quiet_getPl fun _ => SP.quiet_bind quiet_peek1 fun _ => quiet_wr
      | some n => exact SP.quiet_bind quiet_peekL fun _ => quiet_wr
    · split <;> first | exact quiet_wr | exact trivial
    · exact trivial
  | nilc x =>
    simp only [quietOp, Option.some.injEq] at h
    subst h
    refine SP.quiet_bind (quiet_opd fun j hj => by simpa using hj) fun t => ?_
    split
    · exact SP.quiet_bind quiet_chk fun _ => quiet_wr
    · exact quiet_wr
    · exact quiet_wr
    · exact trivial
  | fld off a =>
    simp only [quietOp, Option.some.injEq] at h
    subst h
    refine SP.quiet_bind (quiet_opd fun j hj => by simpa using hj) fun t => ?_
    split
    · refine SP.quiet_bind quiet_chk fun _ => ?_
      split <;> first | exact quiet_wr | exact trivial
    · split <;> first | exact quiet_wr | exact trivial
    · exact trivial
  | fldv off n x =>
    simp only [quietOp, Option.some.injEq] at h
    subst h
    refine SP.quiet_bind (quiet_opd fun j hj => by simpa using hj) fun t => ?_
    (repeat' split) <;> first | exact quiet_wr | exact trivial
  | idx sz x i =>
    simp only [quietOp, Option.some.injEq] at h
    subst h
    refine SP.quiet_bind (quiet_opd fun j hj => by simp [hj]) fun t => SP.quiet_bind (quiet_opd fun j hj => by simp [hj]) fun ti => SP.quiet_bind quiet_natOf fun k => ?_
    split
    · exact SP.quiet_bind quiet_chk fun _ => SP.quiet_bind quiet_getPl fun t => by (repeat' split) <;> first | exact quiet_wr | exact trivial
    · exact SP.quiet_bind quiet_chk fun _ => SP.quiet_bind quiet_getPl fun t => by (repeat' split) <;> first | exact quiet_wr | exact trivial
    · split <;> first | exact quiet_wr | exact trivial
    · exact trivial
  | idxa n sz x i =>
    simp only [quietOp, Option.some.injEq] at h
    subst h
    refine SP.quiet_bind (quiet_opd fun j hj => by simp [hj]) fun t => SP.quiet_bind (quiet_opd fun j hj => by simp [hj]) fun ti => SP.quiet_bind quiet_natOf fun k => ?_
    split
    · exact SP.quiet_bind quiet_chk fun _ => by split <;> first | exact quiet_wr | exact trivial
    · exact trivial
  | ext x i =>
    simp only [quietOp, Option.some.injEq] at h
    subst h
    refine SP.quiet_bind (quiet_opd fun j hj => by simpa using hj) fun t => ?_
    (repeat' split) <;> first | exact quiet_wr | exact trivial
  | bin op x y =>
    simp only [quietOp, Option.some.injEq] at h
    subst h
    refine SP.quiet_bind (quiet_opd fun j hj => by simp [hj]) fun t => SP.quiet_bind (quiet_opd fun j hj => by simp [hj]) fun ti => SP.quiet_bind quiet_valOf fun _ => SP.quiet_bind quiet_valOf fun _ => SP.quiet_bind quiet_spOpt fun r => ?_
    split <;> first | exact quiet_wr | exact trivial
  | bnb neg x y =>
    simp only [quietOp, Option.some.injEq] at h
    subst h
    refine SP.quiet_bind (quiet_opd fun j hj => by simp [hj]) fun t => SP.quiet_bind (quiet_opd fun j hj => by simp [hj]) fun ti => SP.quiet_bind quiet_valOf fun _ => SP.quiet_bind quiet_valOf fun _ => ?_
    split <;> first | exact quiet_wr | exact trivial
  | eqa ks neg x y =>
    simp only [quietOp, Option.some.injEq] at h
    subst h
    refine SP.quiet_bind (quiet_opd fun j hj => by simp [hj]) fun t => SP.quiet_bind (quiet_opd fun j hj => by simp [hj]) fun ti => ?_
    split
    · exact SP.quiet_bind quiet_spOpt fun _ => SP.quiet_bind quiet_spOpt fun _ => SP.quiet_bind quiet_spOpt fun _ => quiet_wr
    · exact trivial
  | un op x =>
    simp only [quietOp, Option.some.injEq] at h
    subst h
    refine SP.quiet_bind (quiet_opd fun j hj => by simpa using hj) fun t => SP.quiet_bind quiet_valOf fun _ => SP.quiet_bind quiet_spOpt fun r => ?_
    split <;> first | exact quiet_wr | exact trivial
  | conv k x =>
    simp only [quietOp, Option.some.injEq] at h
    subst h
    refine SP.quiet_bind (quiet_opd fun j hj => by simpa using hj) fun t => SP.quiet_bind quiet_valOf fun _ => ?_
    split <;> first | exact quiet_wr | exact trivial
  | len x =>
    simp only [quietOp, Option.some.injEq] at h
    subst h
    exact SP.quiet_bind (quiet_opd fun j hj => by simpa using hj) fun t => SP.quiet_bind quiet_lenOfT fun _ => quiet_wr
  | lens x =>
    simp only [quietOp, Option.some.injEq] at h
    subst h
    refine SP.quiet_bind (quiet_opd fun j hj => by simpa using hj) fun t => ?_
    split <;> first | exact quiet_wr | exact trivial
  | ixs x i =>
    simp only [quietOp, Option.some.injEq] at h
    subst h
    refine SP.quiet_bind (quiet_opd fun j hj => by simp [hj]) fun t => SP.quiet_bind (quiet_opd fun j hj => by simp [hj]) fun ti => SP.quiet_bind quiet_natOf fun k => ?_
    (repeat' split) <;> first | exact quiet_wr | exact trivial
  | _ => simp [quietOp] at h
end

/-- The slot that is written, and those that are read. -/
def quietT (t : TOper) : Option (Nat × List Nat) :=
  match t.dst, quietOp t.op with
  | some d, some S => some (d, (match t.guard with | some (j, _) => j :: S | none => S))
  | _, _ => none
theorem SP.quiet_more {α : Type} {d : Nat} {S S' : List Nat} (hs : ∀ i ∈ S, i ∈ S') {s : SP α} (h : s.quiet d S) : s.quiet d S' := by
  induction s with
  | ret a => exact trivial
  | fail => exact trivial
  | rdT i k ih => exact ⟨hs i h.1, fun t => ih t (h.2 t)⟩
  | rdC r o k ih => exact fun t => ih t (h t)
  | rdV q k ih => exact fun n => ih n (h n)
  | wrT i t k ih => exact ⟨h.1, ih h.2⟩
  | wrC r o t k ih => exact h.elim
  | new r l k ih => exact h.elim
  | bump q k ih => exact h.elim
theorem quiet_spOp {call : Option Nat → TOp → SP Unit} {t : TOper} {d : Nat} {S : List Nat} (h : quietT t = some (d, S)) : (spOp call t).quiet d S := by
  unfold quietT at h
  split at h
  case h_2 => simp at h
  rename_i d' S' hd hq
  injection h with h
  injection h with h1 h2
  subst h1
  have hev : (evop call t.dst t.op) = ev1 d' t.op := by
    rw [hd]
    cases hop : t.op <;> rw [hop] at hq <;> first | rfl | simp [quietOp] at hq
  have hno : (setNo t.dst).quiet d' S := by rw [hd]; exact ⟨rfl, trivial⟩
  unfold spOp
  cases hg : t.guard with
  | none =>
    rw [hg] at h2
    simp only at h2 ⊢
    subst h2
    rw [hev]
    exact quiet_ev1 hq
  | some g =>
    obtain ⟨j, want⟩ := g
    rw [hg] at h2
    simp only at h2 ⊢
    subst h2
    refine ⟨by simp, fun tv => ?_⟩
    show SP.quiet d' (j :: S') (match tv with | .v (.bool b) => if b = want then evop call t.dst t.op else setNo t.dst | .tup [] => setNo t.dst | _ => .fail)
    split
    · split
      · rw [hev]; exact SP.quiet_more (by simp +contextual) (quiet_ev1 hq)
      · exact hno
    · exact hno
    · exact trivial

def pairOk (deps : List (List Nat)) (tops : List TOper) (i j : Nat) : Bool :=
  (deps.getD j []).contains i || (match quietT (tops.getD i noOp), quietT (tops.getD j noOp) with
    | some (di, Si), some (dj, Sj) => di != dj && !Sj.contains di && !Si.contains dj
    | _, _ => false)
def statOk (deps : List (List Nat)) (tops : List TOper) : List Nat → Bool
  | [] => true
  | i :: r => (r.all fun j => pairOk deps tops i j) && statOk deps tops r

theorem quiet_clash {a b : Foot} {da db : Nat} {Sa Sb : List Nat} (ha : (∀ x ∈ a.2, x = .t da) ∧ ∀ i, Loc.t i ∈ a.1 → i ∈ Sa) (hb : (∀ x ∈ b.2, x = .t db) ∧ ∀ i, Loc.t i ∈ b.1 → i ∈ Sb) (h1 : da ≠ db) (h2 : da ∉ Sb) (h3 : db ∉ Sa) : clash a b = false := by
  have hm : ∀ (l l' : List Loc) (d d' : Nat) (S : List Nat), (∀ x ∈ l, x = .t d) → ((∀ x ∈ l', x = .t d') ∧ d ≠ d' ∨ (∀ i, Loc.t i ∈ l' → i ∈ S) ∧ d ∉ S) → meet l l' = false := by
    intro l l' d d' S hl hl'
    unfold meet
    simp only [List.any_eq_false, Bool.not_eq_true]
    intro w hw x hx
    rw [hl w hw]
    cases x with
    | t i =>
      simp only [Loc.hit, beq_eq_false_iff_ne]
      intro e
      rcases hl' with ⟨q1, q2⟩ | ⟨q1, q2⟩
      · have := q1 _ hx; injection this with this; omega
      · exact q2 (e ▸ q1 i hx)
    | _ => rfl
  unfold clash
  rw [hm a.2 b.1 da 0 Sb ha.1 (.inr ⟨hb.2, h2⟩), hm a.2 b.2 da db [] ha.1 (.inl ⟨hb.1, h1⟩), hm b.2 a.1 db 0 Sa hb.1 (.inr ⟨ha.2, h3⟩), hm b.2 a.2 db da [] hb.1 (.inl ⟨ha.1, Ne.symm h1⟩)]
  rfl

theorem runFL_stat {call : Option Nat → TOp → SP Unit} {tops : List TOper} {deps : List (List Nat)} : ∀ {L : List Nat} {σ τ : St} {fs : List (Nat × Foot)}, statOk deps tops L = true → runFL (fun i => spOp call (tops.getD i noOp)) L σ = some (fs, τ) →
    okPairs deps fs = true ∧ fs.map (·.1) = L ∧ ∀ y ∈ fs, ∃ σ1, y.2 = (spOp call (tops.getD y.1 noOp)).foot σ1 := by
  intro L
  induction L with
  | nil =>
    intro σ τ fs _ hr
    simp only [runFL, Option.some.injEq, Prod.mk.injEq] at hr
    obtain ⟨rfl, rfl⟩ := hr
    exact ⟨rfl, rfl, fun y hy => by simp at hy⟩
  | cons i L ih =>
    intro σ τ fs hs hr
    simp only [statOk, Bool.and_eq_true, List.all_eq_true] at hs
    simp only [runFL] at hr
    obtain ⟨x, h1, h2⟩ := obind hr
    obtain ⟨y, h3, h4⟩ := obind h2
    simp only [Option.some.injEq, Prod.mk.injEq] at h4
    obtain ⟨rfl, rfl⟩ := h4
    obtain ⟨fs1, τ1⟩ := y
    obtain ⟨q1, q2, q3⟩ := ih hs.2 h3
    refine ⟨?_, by simp [q2], fun z hz => ?_⟩
    · simp only [okPairs, Bool.and_eq_true, List.all_eq_true]
      refine ⟨fun z hz => ?_, q1⟩
      have hzL : z.1 ∈ L := by rw [← q2]; exact List.mem_map_of_mem hz
      have hp := hs.1 z.1 hzL
      unfold pairOk at hp
      simp only [Bool.or_eq_true] at hp ⊢
      rcases hp with hp | hp
      · exact .inr hp
      · left
        split at hp
        · rename_i di Si dj Sj e1 e2
          simp only [Bool.and_eq_true, bne_iff_ne, ne_eq, Bool.not_eq_true', List.contains_eq_mem, decide_eq_false_iff_not] at hp
          obtain ⟨σ1, e3⟩ := q3 z hz
          have := quiet_clash (SP.quiet_foot (quiet_spOp (call := call) e1) σ) (SP.quiet_foot (quiet_spOp (call := call) e2) σ1) hp.1.1 hp.1.2 hp.2
          rw [e3]
          simp only [this, Bool.not_false]
        · simp at hp
    · rcases List.mem_cons.1 hz with rfl | hz
      · exact ⟨σ, rfl⟩
      · exact q3 z hz

theorem runOp_sp {call : Option Nat → TOp → SP Unit} {o : TOper} {σ σ' : St} (h : runOp call o σ = some σ') : (spOp call o).run σ = some ((), σ') := by
  have hno : ∀ {σ'}, (match o.dst with | some d => some { σ with tm := aset σ.tm d (.tup []) } | none => some σ) = some σ' → (setNo o.dst).run σ = some ((), σ') := by
    intro σ' h
    unfold setNo
    cases hd : o.dst with
    | none => rw [hd] at h; simp only [Option.some.injEq] at h; simp [SP.run, h]
    | some d => rw [hd] at h; simp only [Option.some.injEq] at h; simp [SP.run, h]
  have hm : ∀ {s : SP Unit} {σ'}, (s.run σ).map (·.2) = some σ' → s.run σ = some ((), σ') := by
    intro s σ' h
    cases hs : s.run σ with
    | none => simp [hs] at h
    | some x => obtain ⟨u, x⟩ := x; simp [hs] at h; rw [h]
  unfold runOp at h
  unfold spOp
  cases hg : o.guard with
  | none => rw [hg] at h; exact hm h
  | some g =>
    obtain ⟨j, want⟩ := g
    rw [hg] at h
    simp only [SP.run] at h ⊢
    split at h
    · split at h
      · rename_i hbw; rw [if_pos hbw]; exact hm h
      · rename_i hbw; rw [if_neg hbw]; exact hno h
    · exact hno h
    · simp at h
theorem runOps_FL {call : Option Nat → TOp → SP Unit} {tops : List TOper} : ∀ {L : List Nat} {σ τ : St}, runOps call (L.map fun i => tops.getD i noOp) σ = some τ → ∃ fs, runFL (fun i => spOp call (tops.getD i noOp)) L σ = some (fs, τ) := by
  intro L
  induction L with
  | nil => intro σ τ h; simp only [List.map_nil, runOps, Option.some.injEq] at h; subst h; exact ⟨[], rfl⟩
  | cons i L ih =>
    intro σ τ h
    simp only [List.map_cons, runOps] at h
    obtain ⟨σ1, h1, h2⟩ := obind h
    obtain ⟨fs, h3⟩ := ih h2
    refine ⟨(i, (spOp call (tops.getD i noOp)).foot σ) :: fs, ?_⟩
    simp only [runFL, runOp_sp h1, Option.bind_some, h3]
theorem range_getD (tops : List TOper) : (List.range tops.length).map (fun i => tops.getD i noOp) = tops := by
  apply List.ext_getElem?
  intro i
  by_cases h : i < tops.length
  · simp [h]
  · rw [List.getElem?_eq_none (by simpa using h), List.getElem?_eq_none (by omega)]
end Go.Proofs.Ytkmbahlpmoljpaa
/- What a call hands back comes in hand; no condition. -/
set_option linter.unusedVariables false
set_option linter.unusedSimpArgs false
namespace Go.Proofs.Ytkmbahlpmoljpaa
open Go.RowKit

section
variable {P : Program} {M : Fm} {σ σ' : St} {H : List TV} {xs : List Value} {ts : Array Value} {w : World} {G : Gh}

/-- What is in hand is exchanged, the world turns only in what was in hand. -/
theorem Inv.rehandL (hI : Inv M σ H xs ts w G) {w' : World} {H' : List TV} {xs' : List Value} {f : Nat → Nat → Prop} {Fx : Nat → Prop} (hw : ∀ k, k < w.heap.size → (∀ j, ¬ G.φ M.hr j k) → w'.heap[k]? = w.heap[k]?) (hs : w.heap.size ≤ w'.heap.size)
    (ho : w'.os = w.os) (ht : w'.tape = w.tape) (hu : w'.output = w.output) (hlen : H'.length = xs'.length) (hf : ∀ j k, f j k → j < H'.length ∧ ((∃ i, G.φ M.hr i k) ∨ w.heap.size ≤ k)) (hdis : ∀ j j' k, f j k → f j' k → j = j')
    (hFx : ∀ k, Fx k → (G.F M.A k ∨ (∃ i, G.φ M.hr i k) ∨ w.heap.size ≤ k) ∧ ∀ j, ¬ f j k) (hown : ∀ j (h : j < H'.length), (H'[j] = .dead ∧ ∀ k, ¬ f j k) ∨ OwnR w' Fx (f j) H'[j] (xs'.getD j undef)) :
    ∃ G', Inv M σ H' xs' ts w' G' ∧ Moves M w σ H G w' σ H' G' ∧ G'.β = G.β ∧ ∀ r o k, r ≠ 1 → (G'.φ r o k ↔ G.φ r o k) := by
  let G' : Gh := ⟨G.β, fun r o => if r = M.hr then xs'.getD o undef else G.η r o, fun r o k => if r = M.hr then f o k else G.φ r o k⟩
  have hsub : ∀ r o k, G'.φ r o k → (r = M.hr ∧ f o k) ∨ (r ≠ M.hr ∧ G.φ r o k) := by
    intro r o k hk
    simp only [G'] at hk
    by_cases e : r = M.hr
    · rw [if_pos e] at hk; exact .inl ⟨e, hk⟩
    · rw [if_neg e] at hk; exact .inr ⟨e, hk⟩
  have hFF : ∀ k, G.F M.A k → k < w.heap.size → G'.F M.A k := by
    rintro k ⟨a1, a2, a3⟩ hk
    refine ⟨a1, fun r o h => ?_, a3⟩
    rcases hsub r o k h with ⟨_, h1⟩ | ⟨_, h1⟩
    · rcases (hf _ k h1).2 with ⟨j, h2⟩ | h2
      · exact a2 _ _ h2
      · omega
    · exact a2 _ _ h1
  have hFw : ∀ k, G.F M.A k → k < w.heap.size → w'.heap[k]? = w.heap[k]? := fun k ⟨_, a2, _⟩ hk => hw k hk fun j => a2 _ _
  have hφ : ∀ r o, r ≠ M.hr → ∀ k, G.φ r o k → w'.heap[k]? = w.heap[k]? := fun r o h k hk => hw k (hI.core.live hk) fun j hj => h (hI.core.dis _ _ _ _ k hk hj).1
  have hbox : ∀ r b o n, G.β r = some (b, o, n) → w'.heap[b]? = w.heap[b]? := fun r b o n hb => hw b (hI.core.boxlt hb) fun j => hI.core.boxf r b o n hb _ _
  have hk := Keeps.away (H' := H') (G' := G') hI hw rfl (fun r o h => by simp [G', show r ≠ M.hr from h])
  have hfd : ∀ r o k, r ≠ M.hr → G.φ r o k → ∀ j, ¬ f j k := by
    intro r o k h hk j hf'
    rcases (hf j k hf').2 with ⟨i, h2⟩ | h2
    · exact h (hI.core.dis _ _ _ _ k hk h2).1
    · have := hI.core.live hk; omega
  have hF := hI.fram
  have hallow : ∀ k, ((∃ i, G.φ M.hr i k) ∨ w.heap.size ≤ k) → M.A k := by
    rintro k (⟨i, h⟩ | h)
    · exact hI.core.allow _ _ k h
    · exact M.hA k (Nat.le_trans hF.size h)
  have hnbox : ∀ k, ((∃ i, G.φ M.hr i k) ∨ w.heap.size ≤ k) → ∀ r b o n, G.β r = some (b, o, n) → k ≠ b := by
    rintro k (⟨i, h⟩ | h) r b o n hb rfl
    · exact hI.core.boxf r k o n hb _ _ h
    · have := hI.core.boxlt hb; omega
  have hFxF : ∀ k, Fx k → G'.F M.A k := by
    intro k hk
    obtain ⟨h1, h2⟩ := hFx k hk
    refine ⟨?_, fun r o h => ?_, fun r b o n hb => ?_⟩
    · rcases h1 with h1 | h1
      · exact h1.1
      · exact hallow k h1
    · rcases hsub r o k h with ⟨_, h3⟩ | ⟨h3, h4⟩
      · exact h2 _ h3
      · rcases h1 with h1 | ⟨i, h1⟩ | h1
        · exact h1.2.1 _ _ h4
        · exact h3 (hI.core.dis _ _ _ _ k h4 h1).1
        · have := hI.core.live h4; omega
    · rcases h1 with h1 | h1
      · exact h1.2.2 r b o n hb
      · exact hnbox k h1 r b o n hb
  have hcore : Core M.A (extC M σ H') w' G' := by
    refine ⟨fun r o => ?_, fun r b o0 n hb => ?_, fun r b o0 n hb o ho => ?_, hI.core.boxd, fun r b o n hb r2 o2 hk => ?_, fun r1 o1 r2 o2 k h1 h2 => ?_, fun r o k h => ?_⟩
    · by_cases e : r = M.hr
      · subst e
        have hphi : ∀ k, G'.φ M.hr o k ↔ f o k := fun k => by simp [G']
        by_cases e2 : o < H'.length
        · have hv : G'.val w' M.hr o = xs'.getD o undef := by unfold Gh.val; simp only [G', hI.hr_none, if_true]
          rw [hv, extC_hr]
          have e3 : H'.getD o .dead = H'[o] := by simp [e2]
          rw [e3]
          rcases hown o e2 with ⟨h1, h2⟩ | h1
          · left; exact ⟨h1, fun k hk => h2 k ((hphi k).1 hk)⟩
          · right; exact (h1.frame (fun _ _ => rfl) (fun _ _ _ => rfl) (fun k h _ => hFxF k h)).refp fun k => (hphi k).symm
        · left
          exact ⟨by rw [extC_hr]; simp [e2], fun k hk => e2 (hf o k ((hphi k).1 hk)).1⟩
      · have hv : G'.val w' r o = G.val w r o := val_same rfl (by simp [G', e]) (hbox r)
        have hphi : ∀ k, G'.φ r o k ↔ G.φ r o k := fun k => by simp [G', e]
        rw [extC_ne e, hv]
        have hc := hI.core.cell r o
        rw [extC_ne e] at hc
        rcases hc with ⟨a1, a2⟩ | a2
        · left; exact ⟨a1, fun k hk => a2 k ((hphi k).1 hk)⟩
        · right; exact (a2.frame (hφ r o e) hFw hFF).refp fun k => (hphi k).symm
    · obtain ⟨cur, e', fz, a1, a2, a3⟩ := hI.core.box r b o0 n hb
      exact ⟨cur, e', fz, by rw [hbox r b o0 n hb]; exact a1, a2, fun j hj => by rw [World.frozen?_of_block (w := w) (hbox r b o0 n hb)]; exact a3 j hj⟩
    · have e : r ≠ M.hr := fun e => by
        have hb' : G.β r = some (b, o0, n) := hb
        rw [e, hI.hr_none] at hb'; simp at hb'
      have := hI.core.boxc r b o0 n hb o ho
      rw [extC_ne e] at this ⊢
      exact this
    · rcases hsub r2 o2 b hk with ⟨_, h1⟩ | ⟨_, h1⟩
      · exact hnbox b (hf _ b h1).2 r b o n hb rfl
      · exact hI.core.boxf r b o n hb _ _ h1
    · rcases hsub r1 o1 k h1 with ⟨a1, a3⟩ | ⟨a1, a2⟩
      · rcases hsub r2 o2 k h2 with ⟨b1, b3⟩ | ⟨b1, b2⟩
        · exact ⟨a1.trans b1.symm, hdis _ _ k a3 b3⟩
        · exact absurd a3 (hfd _ _ k b1 b2 _)
      · rcases hsub r2 o2 k h2 with ⟨b1, b3⟩ | ⟨b1, b2⟩
        · exact absurd b3 (hfd _ _ k a1 a2 _)
        · exact hI.core.dis _ _ _ _ k a2 b2
    · rcases hsub r o k h with ⟨_, a3⟩ | ⟨a1, a2⟩
      · exact hallow k (hf _ k a3).2
      · exact hI.core.allow _ _ k a2
  refine ⟨G', ⟨hcore, fun i => (hI.tmr i).keep hk hFw hFF, ?_, hI.keys, hI.size, hlen, fun j hj => by simp [G'], hI.shape⟩, ⟨hs, hk, hFw, hFF⟩, rfl, fun r o k h => by simp [G', show r ≠ M.hr from h]⟩
  refine ⟨ho.trans hF.os, ht.trans hF.tape, hu.trans hF.output, Nat.le_trans hF.size hs, fun k a1 a2 a3 => ?_, fun r b o n hp => ?_, fun r o k h => ?_, hF.box, hF.even⟩
  · rw [hw k (Nat.lt_of_lt_of_le a1 hF.size) fun j hj => ?_]
    · exact hF.old k a1 a2 a3
    · rcases hF.own _ _ k hj with h | h
      · exact a2 h
      · omega
  · obtain ⟨a1, cur0, cur, e', fz, a2, a3, a4⟩ := hF.par r b o n hp
    exact ⟨a1, cur0, cur, e', fz, a2, by rw [hbox r b o n a1]; exact a3, a4⟩
  · rcases hsub r o k h with ⟨_, a3⟩ | ⟨a1, a2⟩
    · rcases (hf _ k a3).2 with ⟨j, h2⟩ | h2
      · exact hF.own _ _ k h2
      · exact .inr (Nat.le_trans hF.size h2)
    · exact hF.own _ _ k a2

/-- What is in hand is let go, and can be read on. -/
theorem Inv.dropImm (hI : Inv M σ H xs ts w G) (hnd : ∀ j (h : j < H.length), H[j] ≠ .dead) : ∃ G', Goes M w ts σ H G σ [] [] G' ∧ ∀ j (h : j < H.length), ImmR w (G'.F M.A) H[j].imm (xs.getD j undef) := by
  obtain ⟨G', hI', hm, hβ, hφ⟩ := hI.rehandL (w' := w) (H' := []) (xs' := []) (f := fun _ _ => False) (Fx := fun _ => False) (fun _ _ _ => rfl) (Nat.le_refl _) rfl rfl rfl rfl (fun _ _ h => h.elim) (fun _ _ _ h => h.elim) (fun _ h => h.elim) (fun j h => by simp at h)
  have hF0 : ∀ k, G.F M.A k → G'.F M.A k := by
    rintro k ⟨a1, a2, a3⟩
    refine ⟨a1, fun r o h => ?_, fun r b o n hb => a3 r b o n (hβ ▸ hb)⟩
    by_cases hr : r = 1
    · have := hI'.phi_dead (r := r) (o := o) (by rw [hr, show (1 : Nat) = M.hr from rfl, extC_hr]; simp)
      exact this k h
    · exact a2 r o ((hφ r o k hr).1 h)
  refine ⟨G', ⟨hI', hF0, hm.keeps, rfl⟩, fun j hj => ?_⟩
  refine (hI.hand_own hj (hnd j hj)).share'.frame (fun _ _ _ => rfl) fun k hk _ => ?_
  rcases hk with hk | hk
  · exact hF0 k hk
  · refine ⟨hI.core.allow _ _ k hk, fun r o h => ?_, fun r b o n hb => ?_⟩
    · by_cases hr : r = 1
      · have := hI'.phi_dead (r := r) (o := o) (by rw [hr, show (1 : Nat) = M.hr from rfl, extC_hr]; simp)
        exact this k h
      · exact hr (hI.core.dis _ _ _ _ k ((hφ r o k hr).1 h) hk).1
    · rintro rfl
      exact hI.core.boxf r k o n (hβ ▸ hb) _ _ hk
end
end Go.Proofs.Ytkmbahlpmoljpaa
/- Code and functions on trees; no condition. -/
set_option linter.unusedVariables false
set_option linter.unusedSimpArgs false
namespace Go.Proofs.Ytkmbahlpmoljpaa
open Go.RowKit

/-- Code of the program and the same on trees. -/
def CodeOk (P : Program) (M : Fm) (isCall : Op → TOp → Prop) : TCode → Code → Prop
  | .skip, c => c = .skip
  | .nrm _, c => c = .skip
  | .reg _ draw tops _, c => ∃ id ops dr, c = .region id ops dr ∧ tops.length = ops.size ∧ (∀ i (h : i < ops.size) (h' : i < tops.length), OperOk P M isCall ops ops[i] tops[i]) ∧ match draw with
    | some deps => dr = true ∧ DepsOk ops deps ∧ P.follows .mixedOrders = true
    | none => dr = true → ∃ deps, DepsOk ops deps ∧ P.follows .mixedOrders = true ∧ statOk deps tops (List.range tops.length) = true
  | .seq x y, c => ∃ x' y', c = .seq x' y' ∧ CodeOk P M isCall x x' ∧ CodeOk P M isCall y y'
  | .cond k x y, c => ∃ k' x' y', c = .cond k' x' y' ∧ compOpd k' = some k ∧ CodeOk P M isCall x x' ∧ CodeOk P M isCall y y'
  | .block id x, c => ∃ x', c = .block id x' ∧ CodeOk P M isCall x x'
  | .loop x, c => ∃ x', c = .loop x' ∧ CodeOk P M isCall x x'
  | .exit id, c => c = .exit id
  | .ret, c => c = .ret
  | .pre l x, c => (∀ y ∈ l, y.1 < M.N) ∧ CodeOk P M isCall x c
  | .post x l, c => (∀ y ∈ l, y.1 < M.N) ∧ CodeOk P M isCall x c
def TExit.toExit : TExit → Exit
  | .normal => .normal
  | .exit id => .exit id
  | .ret => .ret

section
variable {P : Program} {M : Fm} {isCall : Op → TOp → Prop} {call : Option Nat → TOp → SP Unit}

theorem ImmR.toTm {w : World} {F : Nat → Prop} {V : Vs} {C : Cs} {G : Gh} {t : TV} {x : Value} (h : ImmR w F t x) : TmR w F V C G t x := by
  cases t with
  | v y => cases h with | v hf => exact .v hf
  | sl c => exact .sl h
  | dead => exact .dead
  | _ => cases h
theorem shr1_ok {σ σ' : St} {ts : Array Value} {w : World} {G : Gh} (hI : Inv M σ [] [] ts w G) {x : Nat × Option Nat} (hx : x.1 < M.N) (hr : (shr1 x).run σ = some ((), σ')) : ∃ G', Inv M σ' [] [] ts w G' := by
  obtain ⟨i, off⟩ := x
  have same : some ((), σ) = some ((), σ') → ∃ G', Inv M σ' [] [] ts w G' := fun h => by
    simp only [Option.some.injEq, Prod.mk.injEq, true_and] at h
    exact ⟨G, h ▸ hI⟩
  have htm := hI.tmr i
  have drop : ∀ {t t' : TV} {v : Value} {σ1 : St} {H : List TV}, TmR w (G.F M.A) σ.v (extC M σ []) G t v → (take1 false t).run σ = some (t', σ1) → t' ≠ .dead → ∃ G2, Inv M σ1 [] [] ts w G2 ∧ TmR w (G2.F M.A) σ1.v (extC M σ1 []) G2 t'.imm v ∧ σ1.tm = σ.tm := by
    intro t t' v σ1 H ht h1 hnd
    obtain ⟨G1, hg, _⟩ := take1_ok hI ht h1
    obtain ⟨G2, hg2, himm⟩ := hg.1.dropImm (fun j hj => by
      obtain rfl : j = 0 := by simpa using hj
      exact hnd)
    have h0 := himm 0 (by simp)
    simp only [List.nil_append, List.getElem_cons_zero, List.getD_cons_zero] at h0
    refine ⟨G2, hg2.1, ?_, hg2.2.2.2.trans hg.2.2.2⟩
    exact h0.toTm
  unfold shr1 at hr
  simp only [SP.run] at hr
  cases off with
  | none =>
    cases ht : σ.t i with
    | pk p vs =>
      rw [ht] at hr htm
      simp only at hr
      obtain ⟨t', σ1, h1, h2⟩ := SP.run_bind_some hr
      simp only [SP.run, Option.some.injEq, Prod.mk.injEq, true_and] at h2
      have hnd : t' ≠ .dead := by
        intro e
        rcases take1_cell h1 with h | h <;> rw [e] at h <;> simp [okCell, isOw] at h
      obtain ⟨G2, hI2, ht2, _⟩ := drop (H := []) htm h1 hnd
      refine ⟨G2, ?_⟩
      rw [← h2]
      have := hI2.wrT hx ht2
      have e : ts.setIfInBounds i (ts.getD i undef) = ts := by
        apply Array.ext
        · simp
        · intro j h3 h4
          rw [Array.getElem_setIfInBounds (by simpa using h4)]
          split
          · rename_i e; subst e; simp [Array.getD_eq_getD_getElem?, h4]
          · rfl
      rw [e] at this
      exact this
    | _ => rw [ht] at hr; exact same hr
  | some off =>
    cases ht : σ.t i with
    | ptr p vs =>
      rw [ht] at hr htm
      simp only at hr
      obtain ⟨_, σ1, h1, h2⟩ := SP.run_bind_some hr
      have e1 : σ1 = σ := (chk_run h1).1
      have e2 := (chk_run h1).2
      subst e1
      split at h2
      case isFalse => simp [SP.run] at h2
      obtain ⟨t, σ2, h3, h4⟩ := SP.run_bind_some h2
      obtain ⟨e3, hg⟩ := getPl_run h3
      have e3 : σ2 = σ1 := e3
      subst e3
      cases t with
      | ow c =>
        simp only at h4
        obtain ⟨t', σ3, h5, h6⟩ := SP.run_bind_some h4
        obtain ⟨t2, σ4, h7, h8⟩ := SP.run_bind_some h6
        simp only [SP.run, Option.some.injEq, Prod.mk.injEq, true_and] at h8
        subst h8
        cases htm with
        | ptr V0 h0 hv h =>
          obtain ⟨hr1, ad, t0, ha, _, _⟩ := h e2
          have hr2 : (p.add off).root ≠ 1 := by rw [Place.add_root]; exact hr1
          obtain ⟨hB, u, fp, hcu, hown, hv2⟩ := hI.named hr2 (addr_add off ha) hg (by simp)
          obtain ⟨rfl, ht'⟩ := peek1_ok hI hr2 hg hown hv2 h5
          have hnd : t2 ≠ .dead := by
            intro e
            rcases take1_cell h7 with h | h <;> rw [e] at h <;> simp [okCell, isOw] at h
          obtain ⟨G2, hI2, _, _⟩ := drop (H := []) ht' h7 hnd
          exact ⟨G2, hI2⟩
      | _ => exact same h4
    | _ => rw [ht] at hr; exact same hr
theorem shrs_ok {ts : Array Value} {w : World} : ∀ {l : List (Nat × Option Nat)} {σ σ' : St} {G : Gh}, Inv M σ [] [] ts w G → (∀ y ∈ l, y.1 < M.N) → (shrs l).run σ = some ((), σ') → ∃ G', Inv M σ' [] [] ts w G' := by
  intro l
  induction l with
  | nil =>
    intro σ σ' G hI _ hr
    simp only [shrs, SP.run, Option.some.injEq, Prod.mk.injEq, true_and] at hr
    exact ⟨G, hr ▸ hI⟩
  | cons x l ih =>
    intro σ σ' G hI hl hr
    obtain ⟨_, σ1, h1, h2⟩ := SP.run_bind_some hr
    obtain ⟨G1, hI1⟩ := shr1_ok hI (hl x (by simp)) h1
    exact ih hI1 (fun y hy => hl y (by simp [hy])) h2
theorem sim_code (hcall : CallOk P M isCall call) (N : Nat) : ∀ (tc : TCode) (c : Code) (σ : St) (e : TExit) (σ' : St) (a : Act) (w : World) (G : Gh) (Q : Exit → Act → World → Prop), CodeOk P M isCall tc c → runC call N tc σ = some (e, σ') → Inv M σ [] [] a.tmps w G →
    (∀ a' w' G', Inv M σ' [] [] a'.tmps w' G' → a'.defers = a.defers → Q e.toExit a' w') → c.wp P Q a w := by
  intro tc
  induction tc with
  | skip =>
    intro c σ e σ' a w G Q hc hr hI hQ
    simp only [CodeOk] at hc
    subst hc
    simp only [runC, Option.some.injEq, Prod.mk.injEq] at hr
    obtain ⟨rfl, rfl⟩ := hr
    exact wp_skip (hQ a w G hI rfl)
  | nrm pers =>
    intro c σ e σ' a w G Q hc hr hI hQ
    simp only [CodeOk] at hc
    subst hc
    simp only [runC, Option.some.injEq, Prod.mk.injEq] at hr
    obtain ⟨rfl, rfl⟩ := hr
    obtain ⟨G2, hI2⟩ := hI.norm pers
    exact wp_skip (hQ a w G2 hI2 rfl)
  | reg id draw tops pers =>
    intro c σ e σ' a w G Q hc hr hI hQ
    obtain ⟨id', ops, dr, rfl, hlen, hok, hdr⟩ := hc
    simp only [runC] at hr
    cases draw with
    | some deps =>
      simp only at hr
      obtain ⟨⟨fs, τ⟩, h1, h2⟩ := obind hr
      simp only at h2
      split at h2
      · rename_i hp
        injection h2 with h2
        injection h2 with h2 h3
        subst h2; subst h3
        obtain ⟨rfl, hdeps, hm⟩ := hdr
        refine sim_draw hm hlen hok hcall hdeps hI h1 hp fun a' w' G' hI' hd' => ?_
        obtain ⟨G2, hI2⟩ := hI'.norm pers
        exact hQ a' w' G2 hI2 hd'
      · simp at h2
    | none =>
      simp only at hr
      obtain ⟨σ1, h1, h2⟩ := omap hr
      injection h2 with h2 h3
      subst h2; subst h3
      cases dr with
      | true =>
        obtain ⟨deps, hdeps, hm, hst⟩ := hdr rfl
        obtain ⟨fs, hfl⟩ := runOps_FL (tops := tops) (L := List.range tops.length) (by rw [range_getD]; exact h1)
        refine sim_draw hm hlen hok hcall hdeps hI hfl (runFL_stat hst hfl).1 fun a' w' G' hI' hd' => ?_
        obtain ⟨G2, hI2⟩ := hI'.norm pers
        exact hQ a' w' G2 hI2 hd'
      | false =>
      refine wp_region ?_
      have hm : (List.range ops.size).map (fun i => tops.getD i ⟨none, none, .lens (.t 0)⟩) = tops := by
        apply List.ext_getElem?
        intro i
        by_cases h : i < ops.size
        · simp [h, hlen]
        · rw [List.getElem?_eq_none (by simpa using h), List.getElem?_eq_none (by omega)]
      refine sim_ops hlen hok hcall (List.range ops.size) σ a w G (fun i hi => by simpa using hi) hI (by rw [hm]; exact h1) fun a' w' G' hI' hd' => ?_
      obtain ⟨G2, hI2⟩ := hI'.norm pers
      exact hQ a' w' G2 hI2 hd'
  | seq x y ihx ihy =>
    intro c σ e σ' a w G Q hc hr hI hQ
    obtain ⟨x', y', rfl, hx, hy⟩ := hc
    simp only [runC] at hr
    obtain ⟨⟨e1, σ1⟩, h1, h2⟩ := obind hr
    refine wp_seq (ihx x' σ e1 σ1 a w G _ hx h1 hI fun a' w' G' hI' hd => ?_)
    cases e1 with
    | normal => exact ihy y' σ1 e σ' a' w' G' Q hy h2 hI' fun a2 w2 G2 h3 h4 => hQ a2 w2 G2 h3 (h4.trans hd)
    | exit id =>
      simp only [Option.some.injEq, Prod.mk.injEq] at h2
      obtain ⟨rfl, rfl⟩ := h2
      exact hQ a' w' G' hI' hd
    | ret =>
      simp only [Option.some.injEq, Prod.mk.injEq] at h2
      obtain ⟨rfl, rfl⟩ := h2
      exact hQ a' w' G' hI' hd
  | cond k x y ihx ihy =>
    intro c σ e σ' a w G Q hc hr hI hQ
    obtain ⟨k', x', y', rfl, hk, hx, hy⟩ := hc
    simp only [runC] at hr
    obtain ⟨⟨t, σ1⟩, h1, h2⟩ := obind hr
    obtain ⟨rfl, ht⟩ := opd_ok hI.tmr hk h1
    cases t with
    | v z =>
      obtain ⟨hz, _⟩ := ht.v_inv
      cases z with
      | bool b =>
        cases b with
        | true => exact wp_cond_true hz (ihx x' _ e σ' a w G Q hx h2 hI hQ)
        | false => exact wp_cond_false hz (ihy y' _ e σ' a w G Q hy h2 hI hQ)
      | _ => simp at h2
    | _ => simp at h2
  | block id x ihx =>
    intro c σ e σ' a w G Q hc hr hI hQ
    obtain ⟨x', rfl, hx⟩ := hc
    simp only [runC] at hr
    obtain ⟨⟨e1, σ1⟩, h1, h2⟩ := obind hr
    refine wp_block (ihx x' σ e1 σ1 a w G _ hx h1 hI fun a' w' G' hI' hd => ?_)
    cases e1 with
    | normal =>
      simp only [Option.some.injEq, Prod.mk.injEq] at h2
      obtain ⟨rfl, rfl⟩ := h2
      exact hQ a' w' G' hI' hd
    | exit i =>
      simp only at h2
      simp only [TExit.toExit, Exit.inBlock]
      split at h2
      · rename_i hi
        simp only [Option.some.injEq, Prod.mk.injEq] at h2
        obtain ⟨rfl, rfl⟩ := h2
        rw [if_pos hi]
        exact hQ a' w' G' hI' hd
      · rename_i hi
        simp only [Option.some.injEq, Prod.mk.injEq] at h2
        obtain ⟨rfl, rfl⟩ := h2
        rw [if_neg hi]
        exact hQ a' w' G' hI' hd
    | ret =>
      simp only [Option.some.injEq, Prod.mk.injEq] at h2
      obtain ⟨rfl, rfl⟩ := h2
      exact hQ a' w' G' hI' hd
  | loop x ihx =>
    intro c σ e σ' a w G Q hc hr hI hQ
    obtain ⟨x', rfl, hx⟩ := hc
    simp only [runC] at hr
    have key : ∀ (n : Nat) (σ : St) (a : Act) (w : World) (G : Gh) (d : List Deferred), a.defers = d → iter (runC call N x) n σ = some (e, σ') → Inv M σ [] [] a.tmps w G → (∀ a' w' G', Inv M σ' [] [] a'.tmps w' G' → a'.defers = d → Q e.toExit a' w') → Code.rounds P x' Q n a w := by
      intro n
      induction n with
      | zero => intro σ a w G d _ hr; simp [iter] at hr
      | succ n ih =>
        intro σ a w G d hd hr hI hQ
        simp only [iter] at hr
        obtain ⟨⟨e1, σ1⟩, h1, h2⟩ := obind hr
        rw [rounds_succ]
        refine ihx x' σ e1 σ1 a w G _ hx h1 hI fun a' w' G' hI' hd' => ?_
        cases e1 with
        | normal => exact ih σ1 a' w' G' d (hd'.trans hd) h2 hI' hQ
        | exit i =>
          simp only [Option.some.injEq, Prod.mk.injEq] at h2
          obtain ⟨rfl, rfl⟩ := h2
          exact hQ a' w' G' hI' (hd'.trans hd)
        | ret =>
          simp only [Option.some.injEq, Prod.mk.injEq] at h2
          obtain ⟨rfl, rfl⟩ := h2
          exact hQ a' w' G' hI' (hd'.trans hd)
    exact wp_loop_rounds N (key N σ a w G a.defers rfl hr hI hQ)
  | exit id =>
    intro c σ e σ' a w G Q hc hr hI hQ
    simp only [CodeOk] at hc
    subst hc
    simp only [runC, Option.some.injEq, Prod.mk.injEq] at hr
    obtain ⟨rfl, rfl⟩ := hr
    exact wp_exit (hQ a w G hI rfl)
  | ret =>
    intro c σ e σ' a w G Q hc hr hI hQ
    simp only [CodeOk] at hc
    subst hc
    simp only [runC, Option.some.injEq, Prod.mk.injEq] at hr
    obtain ⟨rfl, rfl⟩ := hr
    exact wp_ret (hQ a w G hI rfl)
  | pre l x ihx =>
    intro c σ e σ' a w G Q hc hr hI hQ
    obtain ⟨hl, hx⟩ := hc
    simp only [runC] at hr
    obtain ⟨⟨u, σ1⟩, h1, h2⟩ := obind hr
    obtain ⟨G1, hI1⟩ := shrs_ok hI hl h1
    obtain ⟨G2, hI2⟩ := hI1.norm (σ1.tm.map (·.1), σ1.ce.map (·.1))
    exact ihx c σ1.anew e σ' a w G2 Q hx h2 hI2 hQ
  | post x l ihx =>
    intro c σ e σ' a w G Q hc hr hI hQ
    obtain ⟨hl, hx⟩ := hc
    simp only [runC] at hr
    obtain ⟨⟨e1, σ1⟩, h1, h2⟩ := obind hr
    obtain ⟨⟨u, σ2⟩, h3, h4⟩ := obind h2
    simp only [Option.some.injEq, Prod.mk.injEq] at h4
    obtain ⟨rfl, rfl⟩ := h4
    refine ihx c σ e1 σ1 a w G Q hx h1 hI fun a' w' G' hI' hd => ?_
    obtain ⟨G2, hI2⟩ := shrs_ok hI' hl h3
    obtain ⟨G3, hI3⟩ := hI2.norm (σ2.tm.map (·.1), σ2.ce.map (·.1))
    exact hQ a' w' G3 hI3 hd
end

/-! ## What a function hands back -/
inductive TRs where
  | tmp (t : Nat)
  | cell (t : Nat) (n : Option Nat)
structure TFn where
  np : Nat
  pp : List Nat
  nt : Nat
  body : TCode
  res : List TRs

def isPar (np r : Nat) : Bool := r % 2 == 0 && decide (r < 2 * np + 2)
def takeR1 (np : Nat) (t : TV) : SP TV :=
  match t with
  | .pk p vs => take1 (!isPar np p.root) (.pk p vs)
  | t => take1 true t
def takeRL (np : Nat) : List TV → SP (List TV)
  | [] => .ret []
  | t :: r => (takeR1 np t).bind fun t' => (takeRL np r).bind fun r' => .ret (t' :: r')
def takeRV (np : Nat) (t : TV) : SP (List TV × RSh) :=
  match t with
  | .agg l => (takeRL np l).bind fun l' => .ret (l', .agg l'.length)
  | t => (takeR1 np t).bind fun t' => .ret ([t'], .one)
def res1 (np : Nat) : TRs → SP (List TV × RSh)
  | .tmp t => .rdT t fun tv => takeRV np tv
  | .cell t n => .rdT t fun tv => match tv with
    | .ptr p vs => (chk p p.hops.length vs).bind fun _ => match n with
      | none => (getPl p).bind fun t => (peek1 p t).bind fun t' => takeRV np t'
      | some n => (peekL p n).bind fun l => takeRV np (.agg l)
    | _ => .fail
def resL (np : Nat) : List TRs → SP (List TV × List RSh)
  | [] => .ret ([], [])
  | r :: rs => (res1 np r).bind fun x => (resL np rs).bind fun y => .ret (x.1 ++ y.1, x.2 :: y.2)
/-- The values that cells make. -/
def resVals : List RSh → List Value → List Value
  | [], _ => []
  | .one :: r, ys => ys.headD undef :: resVals r ys.tail
  | .agg n :: r, ys => .agg (ys.take n).toArray :: resVals r (ys.drop n)
  | .ptr _ :: r, ys => undef :: resVals r ys
def resVal (sh : List RSh) (ys : List Value) : Value :=
  match resVals sh ys with
  | [x] => x
  | l => .tuple l.toArray

section
variable {P : Program} {M : Fm} {σ σ' : St} {H : List TV} {xs : List Value} {ts : Array Value} {w : World} {G : Gh}
theorem takeR1_eq (np : Nat) (t : TV) : ∃ mv, takeR1 np t = take1 mv t := by
  cases t <;> first | exact ⟨true, rfl⟩ | exact ⟨_, rfl⟩
theorem takeRL_ok {np : Nat} : ∀ {l l' : List TV} {ys : List Value} {σ σ' : St} {H : List TV} {xs : List Value} {G : Gh}, Inv M σ H xs ts w G → l.length = ys.length → (∀ j (h : j < l.length), TmR w (G.F M.A) σ.v (extC M σ H) G l[j] (ys.getD j undef)) →
    (takeRL np l).run σ = some (l', σ') → l'.length = l.length ∧ (∃ G', Goes M w ts σ H G σ' (H ++ l') (xs ++ ys) G') ∧ ∀ j (h : j < l'.length), okCell l'[j] = true ∨ isOw l'[j] = true := by
  intro l
  induction l with
  | nil =>
    intro l' ys σ σ' H xs G hI hl _ hr
    simp only [takeRL, SP.run, Option.some.injEq, Prod.mk.injEq] at hr
    obtain ⟨rfl, rfl⟩ := hr
    have : ys = [] := List.eq_nil_of_length_eq_zero (by simpa using hl.symm)
    subst this
    exact ⟨rfl, ⟨G, by simpa using Goes.refl hI⟩, fun j h => by simp at h⟩
  | cons t l ih =>
    intro l' ys σ σ' H xs G hI hl ht hr
    cases ys with
    | nil => simp at hl
    | cons y ys =>
      simp only [takeRL] at hr
      obtain ⟨t', σ1, h1, h2⟩ := SP.run_bind_some hr
      obtain ⟨r', σ2, h3, h4⟩ := SP.run_bind_some h2
      simp only [SP.run, Option.some.injEq, Prod.mk.injEq] at h4
      obtain ⟨rfl, rfl⟩ := h4
      obtain ⟨mv, hmv⟩ := takeR1_eq np t
      rw [hmv] at h1
      obtain ⟨G1, hg1, ho⟩ := take1_ok hI (ht 0 (by simp)) h1
      obtain ⟨e, ⟨G2, hg2⟩, hok⟩ := ih (l' := r') (ys := ys) hg1.1 (by simpa using hl) (fun j hj => hg1.tm (by have := ht (j + 1) (by simpa using hj); simpa only [List.getElem_cons_succ, List.getD_cons_succ] using this)) h3
      refine ⟨by simp [e], ⟨G2, by simpa using hg1.trans hg2⟩, fun j hj => ?_⟩
      cases j with
      | zero => exact take1_cell h1
      | succ j => exact hok j (by simpa using hj)

theorem takeRV_ok {np : Nat} {t : TV} {x : Value} {r : List TV × RSh} (hI : Inv M σ H xs ts w G) (hx : TmR w (G.F M.A) σ.v (extC M σ H) G t x) (hr : (takeRV np t).run σ = some (r, σ')) :
    ∃ ys G', Goes M w ts σ H G σ' (H ++ r.1) (xs ++ ys) G' ∧ r.1.length = ys.length ∧ (∀ j (h : j < r.1.length), okCell r.1[j] = true ∨ isOw r.1[j] = true) ∧ ∀ (rest : List RSh) (zs : List Value), resVals (r.2 :: rest) (ys ++ zs) = x :: resVals rest zs := by
  by_cases ht : ∃ q, t = .agg q
  · obtain ⟨q, rfl⟩ := ht
    simp only [takeRV] at hr
    obtain ⟨l', σ1, h1, h2⟩ := SP.run_bind_some hr
    simp only [SP.run, Option.some.injEq, Prod.mk.injEq] at h2
    obtain ⟨rfl, rfl⟩ := h2
    obtain ⟨vs, rfl, hl, hj⟩ := aggXs hx
    obtain ⟨e1, ⟨G', hg⟩, hok⟩ := takeRL_ok (ys := vs.toList) hI (by simp [hl]) (fun j h => by simpa using hj j h) h1
    refine ⟨vs.toList, G', hg, by simp [e1, hl], hok, fun rest zs => ?_⟩
    have hn : l'.length = vs.toList.length := by simp [e1, hl]
    simp only [resVals, hn, List.take_left, List.drop_left, Array.toArray_toList]
  · have e : takeRV np t = (takeR1 np t).bind fun t' => .ret ([t'], .one) := by
      cases t <;> first | rfl | exact absurd ⟨_, rfl⟩ ht
    rw [e] at hr
    obtain ⟨t', σ1, h1, h2⟩ := SP.run_bind_some hr
    simp only [SP.run, Option.some.injEq, Prod.mk.injEq] at h2
    obtain ⟨rfl, rfl⟩ := h2
    obtain ⟨mv, hmv⟩ := takeR1_eq np t
    rw [hmv] at h1
    obtain ⟨G', hg, ho⟩ := take1_ok hI hx h1
    refine ⟨[x], G', hg, rfl, fun j hj => ?_, fun rest zs => rfl⟩
    obtain rfl : j = 0 := by simp at hj; omega
    exact take1_cell h1

/-- The slots of a function's results, and how they are read on trees. -/
def ResOk (P : Program) : TRs → ResultVar → Prop
  | .tmp t, r => r = .tmp t
  | .cell t n, r => ∃ ty, r = .cell t ty ∧ LoadOk P ty n

theorem res1_ok {np : Nat} {q : TRs} {q' : ResultVar} {r : List TV × RSh} (hI : Inv M σ H xs ts w G) (hq : ResOk P q q') (hr : (res1 np q).run σ = some (r, σ')) :
    ∃ x ys G', (match q' with | .tmp t => (pure (ts.getD t undef) : Sem Value) | .cell a t => do loadVar t (← asAddr (ts.getD a undef))).run P w = .ok x w ∧ Goes M w ts σ H G σ' (H ++ r.1) (xs ++ ys) G' ∧ r.1.length = ys.length ∧
      (∀ j (h : j < r.1.length), okCell r.1[j] = true ∨ isOw r.1[j] = true) ∧ ∀ (rest : List RSh) (zs : List Value), resVals (r.2 :: rest) (ys ++ zs) = x :: resVals rest zs := by
  cases q with
  | tmp t =>
    have hq : q' = .tmp t := hq
    subst hq
    simp only [res1, SP.run] at hr
    obtain ⟨ys, G', h1, h2, h3, h4⟩ := takeRV_ok hI (hI.tmr t) hr
    exact ⟨_, ys, G', rfl, h1, h2, h3, h4⟩
  | cell t n =>
    obtain ⟨ty, rfl, hn⟩ := hq
    simp only [res1, SP.run] at hr
    have htm := hI.tmr t
    cases hs : σ.t t with
    | ptr p vs =>
      rw [hs] at hr htm
      simp only at hr
      obtain ⟨_, σ2, h3, h4⟩ := SP.run_bind_some hr
      have e1 : σ2 = σ := (chk_run h3).1
      have e2 := (chk_run h3).2
      subst e1
      generalize hz : ts.getD t undef = z at htm
      cases htm with
      | ptr V0 h0 hv h =>
        obtain ⟨hr1, ad, t0, ha, rfl, _⟩ := h e2
        cases n with
        | none =>
          obtain ⟨dd, hu, hd1, hd2⟩ := hn
          simp only at h4
          obtain ⟨t1, σ3, h5, h6⟩ := SP.run_bind_some h4
          obtain ⟨e3, hg⟩ := getPl_run h5
          have e3 : σ3 = σ2 := e3
          subst e3
          obtain ⟨t', σ4, h7, h8⟩ := SP.run_bind_some h6
          obtain ⟨hB, u, fp, hcu, hown, hhv⟩ := hI.named hr1 ha hg (peek1_dead h7)
          obtain ⟨rfl, ht'⟩ := peek1_ok hI hr1 hg hown hhv h7
          obtain ⟨ys, G', k1, k2, k3, k4⟩ := takeRV_ok hI ht' h8
          refine ⟨u, ys, G', ?_, k1, k2, k3, k4⟩
          show ((do loadVar ty (← asAddr (ts.getD t undef))) : Sem Value).run P w = _
          rw [hz]
          simp [asAddr, loadVar, run_isAgg hu hd1 hd2, hcu]
        | some n =>
          obtain ⟨⟨dd, hu, hd1⟩, hsz⟩ := hn
          simp only at h4
          obtain ⟨l, σ3, h5, h6⟩ := SP.run_bind_some h4
          obtain ⟨rfl, e3, us, e4, e5⟩ := peekL_ok hI hr1 ha h5
          have hagg : TmR w (G.F M.A) σ3.v (extC M σ3 H) G (.agg l) (.agg us.toArray) := .agg (by simp [e3, e4]) fun j hj => by have := (e5 j hj (by omega)).2; simpa [show j < us.length by omega] using this
          obtain ⟨ys, G', k1, k2, k3, k4⟩ := takeRV_ok hI hagg h6
          refine ⟨_, ys, G', ?_, k1, k2, k3, k4⟩
          have hsp := addr_spot ha
          have hcells := run_loadCells_list (P := P) w ad us fun j v hj => by
            obtain ⟨hlt, rfl⟩ := List.getElem?_eq_some_iff.1 hj
            have := (e5 j (by omega) hlt).1
            obtain ⟨b, o, s⟩ := ad
            simp only at hsp
            subst hsp
            rw [addr_add0]; exact this
          have hso : (sizeOf ty).run P w = .ok n w := by
            unfold sizeOf typeInfo
            cases hi : P.info? ty with
            | none => simp [hi] at hsz
            | some i => simp [hi] at hsz; simp [hi, hsz]
          rw [e4] at hcells
          show ((do loadVar ty (← asAddr (ts.getD t undef))) : Sem Value).run P w = _
          rw [hz]
          simp [asAddr, loadVar, run_isAgg_t hu hd1, hso, hcells]
    | _ => rw [hs] at hr; simp [SP.run] at hr

theorem resL_ok {np : Nat} : ∀ {qs : List TRs} {qs' : List ResultVar} {r : List TV × List RSh} {σ σ' : St} {H : List TV} {xs : List Value} {G : Gh}, Inv M σ H xs ts w G → qs.length = qs'.length → (∀ k (h : k < qs.length) (h' : k < qs'.length), ResOk P qs[k] qs'[k]) → (resL np qs).run σ = some (r, σ') →
    ∃ vs ys G', (qs'.mapM fun (q : ResultVar) => (match q with | .tmp t => (pure (ts.getD t undef) : Sem Value) | .cell a t => do loadVar t (← asAddr (ts.getD a undef)))).run P w = .ok vs w ∧ Goes M w ts σ H G σ' (H ++ r.1) (xs ++ ys) G' ∧ r.1.length = ys.length ∧
      (∀ j (h : j < r.1.length), okCell r.1[j] = true ∨ isOw r.1[j] = true) ∧ resVals r.2 ys = vs := by
  intro qs
  induction qs with
  | nil =>
    intro qs' r σ σ' H xs G hI hl _ hr
    have : qs' = [] := List.eq_nil_of_length_eq_zero (by simpa using hl.symm)
    subst this
    simp only [resL, SP.run, Option.some.injEq, Prod.mk.injEq] at hr
    obtain ⟨rfl, rfl⟩ := hr
    exact ⟨[], [], G, by simp, by simpa using Goes.refl hI, rfl, fun j h => by simp at h, rfl⟩
  | cons q qs ih =>
    intro qs' r σ σ' H xs G hI hl hok hr
    cases qs' with
    | nil => simp at hl
    | cons q' qs' =>
      simp only [resL] at hr
      obtain ⟨x, σ1, h1, h2⟩ := SP.run_bind_some hr
      obtain ⟨y, σ2, h3, h4⟩ := SP.run_bind_some h2
      simp only [SP.run, Option.some.injEq, Prod.mk.injEq] at h4
      obtain ⟨rfl, rfl⟩ := h4
      obtain ⟨v, ys, G1, k1, k2, k3, k4, k5⟩ := res1_ok hI (hok 0 (by simp) (by simp)) h1
      obtain ⟨vs, zs, G2, l1, l2, l3, l4, l5⟩ := ih (qs' := qs') k2.1 (by simpa using hl) (fun k h h' => hok (k + 1) (by simpa using h) (by simpa using h')) h3
      refine ⟨v :: vs, ys ++ zs, G2, ?_, by simpa using k2.trans l2, by simp [k3, l3], fun j hj => ?_, ?_⟩
      · rw [List.mapM_cons, Sem.run_bind]
        refine (congrArg (fun r => Result.andThen r _) k1).trans ?_
        simp only [Result.andThen_ok, Sem.run_bind, l1, Sem.run_pure]
      · by_cases hjl : j < x.1.length
        · rw [List.getElem_append_left hjl]; exact k4 j hjl
        · rw [List.getElem_append_right (by omega)]; exact l4 _ _
      · rw [k5, l5]
end
end Go.Proofs.Ytkmbahlpmoljpaa
