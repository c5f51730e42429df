/- Operations on typed data; definitions. -/
import Derived.Test.YtkmbahlpmoljpaaQh
set_option linter.unusedVariables false
set_option linter.unusedSimpArgs false
namespace Go.Proofs.Ytkmbahlpmoljpaa
open Go.RowKit

abbrev XM (D : CT → Type) (M : Type → Type) (X α : Type) := XS D → (α → XS D → M X) → M X
def nthX {α : Type} : List α → Nat → Option α
  | [], _ => none
  | x :: _, 0 => some x
  | _ :: r, i + 1 => nthX r i
namespace X
section
variable {D : CT → Type} {M : Type → Type} {X : Type} (A : Alg D M) {α β : Type}
def ret (a : α) : XM D M X α := fun σ k => k a σ
def bind (m : XM D M X α) (f : α → XM D M X β) : XM D M X β := fun σ k => m σ fun a σ' => f a σ' k
def fail : XM D M X α := fun _ _ => A.fail
def brM (c : D .bool) (m : XM D M X α) : XM D M X α := fun σ k => A.br c (m σ k) A.fail
def forkM (c : D .bool) (m m' : XM D M X α) : XM D M X α := fun σ k => A.br c (m σ k) (m' σ k)
/-- One of the numbers below n + i, from i on. -/
def caseM (k : D .nat) : Nat → (Nat → XM D M X α) → Nat → XM D M X α
  | 0, _, _ => fail A
  | n + 1, f, i => forkM A (A.eqN k (A.litN i)) (f i) (caseM k n f (i + 1))
def optM (o : Option α) : XM D M X α := fun σ k => match o with | some a => k a σ | none => A.fail
def tOf (σ : XS D) (i : Nat) : XV D := (aget σ.tm i).getD .dead
def cOf (σ : XS D) (r o : Nat) : XV D := match aget σ.ce r with | some l => l.getD o .dead | none => .dead
def lgR (x : Loc) (σ : XS D) : XS D := ⟨σ.tm, σ.ce, σ.vr, (x :: σ.lg.1, σ.lg.2)⟩
def letL : List (XV D) → (List (XV D) → M X) → M X
  | [], k => k []
  | .d t x :: r, k => A.lt t x fun y => letL r fun r' => k (.d t y :: r')
  | t :: r, k => letL r fun r' => k (t :: r')
def letX (t : XV D) (k : XV D → M X) : M X :=
  match t with
  | .d t x => A.lt t x fun y => k (.d t y)
  | .agg l => letL A l fun l' => k (.agg l')
  | t => k t
def rdT (i : Nat) : XM D M X (XV D) := fun σ k => k (tOf σ i) (lgR (.t i) σ)
def rdC (r o : Nat) : XM D M X (XV D) := fun σ k => k (cOf σ r o) (lgR (.c r o) σ)
def rdV (q : Key) : XM D M X Nat := fun σ k => k (vget σ.vr q) (lgR (.v q) σ)
def wrT (i : Nat) (t : XV D) : XM D M X Unit := fun σ k => letX A t fun t' => k () ⟨aset σ.tm i t', σ.ce, σ.vr, (σ.lg.1, .t i :: σ.lg.2)⟩
def wrC (r o : Nat) (t : XV D) : XM D M X Unit := fun σ k => match aget σ.ce r with
  | some l => if o < l.length then letX A t fun t' => k () ⟨σ.tm, aset σ.ce r (l.set o t'), σ.vr, (.n r :: σ.lg.1, .c r o :: σ.lg.2)⟩ else A.fail
  | none => A.fail
def new (r : Nat) (l : List (XV D)) : XM D M X Unit := fun σ k => letL A l fun l' => k () ⟨σ.tm, aset σ.ce r l', vinc σ.vr (r, 0, 0), (.v (r, 0, 0) :: σ.lg.1, .n r :: .v (r, 0, 0) :: σ.lg.2)⟩
def bump (q : Key) : XM D M X Unit := fun σ k => k () ⟨σ.tm, σ.ce, vinc σ.vr q, (.v q :: σ.lg.1, .v q :: σ.lg.2)⟩

def cellX : Value → XV D
  | .slice none 0 0 => .d (.nilr true) (A.nilv true)
  | .int k n => .d (.int k) (A.lit k n)
  | .bool b => .d .bool (A.litB b)
  | .string s => .d .str (A.litS s)
  | x => if vflat x then .k x else .dead
def constX : Value → XV D
  | .agg cs => .agg (cs.toList.map (cellX A))
  | x => cellX A x
def opd : Opd → XM D M X (XV D)
  | .t i => rdT i
  | .c x => ret (constX A x)
  | .f f => ret (.fn f [])
def rdVs : List Key → XM D M X (List Nat)
  | [] => ret []
  | q :: qs => bind (rdV q) fun n => bind (rdVs qs) fun l => ret (n :: l)
def chk (p : XP D) (n : Nat) (vs : List Nat) : XM D M X Unit := bind (rdVs (keysOf p.root p.off n)) fun l => if l = vs then ret () else fail A
def addP (p : XP D) (n : Nat) : XP D :=
  match p.hops.reverse with
  | [] => ⟨p.root, p.off + n, []⟩
  | (i, sz, o) :: r => ⟨p.root, p.off, ((i, sz, o + n) :: r).reverse⟩
def atP (p : XP D) (i : D .nat) (sz : Nat) : XP D := ⟨p.root, p.off, p.hops ++ [(i, sz, 0)]⟩
def fitsP (p : XP D) (n : Nat) : Bool :=
  match p.hops.reverse with
  | [] => true
  | (_, sz, o) :: _ => decide (o + n < sz)

def splitX : (t : CT) → D t → List (XV D)
  | .pair a b, x => splitX a (A.fst a b x) ++ splitX b (A.snd a b x)
  | .nat, _ => []
  | .int k, x => [.d (.int k) x]
  | .bool, x => [.d .bool x]
  | .str, x => [.d .str x]
  | .row o t, x => [.d (.row o t) x]
  | .nilr o, x => [.d (.nilr o) x]
def getX : XV D → List (D .nat × Nat × Nat) → (XV D → M X) → M X
  | t, [], k => k t
  | .d (.row true t) xs, (i, sz, o) :: hs, k => if ctSz t = sz then A.get true t xs i fun e => match nthX (splitX A t e) o with | some v => getX v hs k | none => A.fail else A.fail
  | _, _ :: _, _ => A.fail
/-- The element that a way leads into. -/
def elemX : XV D → List (D .nat × Nat × Nat) → ((t : CT) → D t → M X) → M X
  | .d (.row true t) xs, [(i, sz, _)], k => if ctSz t = sz then A.get true t xs i (k t) else A.fail
  | .d (.row true t) xs, (i, sz, o) :: h :: hs, k => if ctSz t = sz then A.get true t xs i fun e => match nthX (splitX A t e) o with | some v => elemX v (h :: hs) k | none => A.fail else A.fail
  | _, _, _ => A.fail
def getM (tv : XV D) (hs : List (D .nat × Nat × Nat)) (g : XV D → XM D M X α) : XM D M X α := fun σ k => getX A tv hs fun v => g v σ k
def elemM (tv : XV D) (hs : List (D .nat × Nat × Nat)) (g : (t : CT) → D t → XM D M X α) : XM D M X α := fun σ k => elemX A tv hs fun t e => g t e σ k
def atM (o : Bool) (t : CT) (xs : D (.row o t)) (i : D .nat) (g : D t → XM D M X α) : XM D M X α := fun σ k => A.get o t xs i fun e => g e σ k
def natM (kd : IntKind) (n : D (.int kd)) (g : D .nat → XM D M X α) : XM D M X α := fun σ k => A.nat kd n fun m => g m σ k
def strAtM (s : D .str) (i : D .nat) (g : D (.int .u8) → XM D M X α) : XM D M X α := fun σ k => A.strAt s i fun b => g b σ k
def bstrM (c : D (.row false (.int .u8))) (g : D .str → XM D M X α) : XM D M X α := fun σ k => A.bstr c fun s => g s σ k
def lastO : List (D .nat × Nat × Nat) → Nat
  | [] => 0
  | [(_, _, o)] => o
  | _ :: h :: hs => lastO (h :: hs)
def setD : (t : CT) → Nat → ((u : CT) → Option (D u → D u)) → Option (D t → D t)
  | .pair a b, o, g => if o < ctSz a then (setD a o g).map fun h e => A.mkp a b (h (A.fst a b e)) (A.snd a b e) else (setD b (o - ctSz a) g).map fun h e => A.mkp a b (A.fst a b e) (h (A.snd a b e))
  | .nat, _, _ => none
  | .int k, 0, g => g (.int k)
  | .bool, 0, g => g .bool
  | .str, 0, g => g .str
  | .row o t, 0, g => g (.row o t)
  | .nilr o, 0, g => g (.nilr o)
  | _, _ + 1, _ => none
def asF (v : XV D) (u : CT) : Option (D u → D u) :=
  match v with
  | .d t x => (asT A t u x).map fun y _ => y
  | _ => none
def setDs (t : CT) : Nat → List (XV D) → Option (D t → D t)
  | _, [] => none
  | o, [v] => setD A t o (asF A v)
  | o, v :: w :: vs => match setD A t o (asF A v), setDs t (o + 1) (w :: vs) with | some f, some g => some fun e => g (f e) | _, _ => none
def setH : List (D .nat × Nat × Nat) → XV D → (u : CT) → Option (D u → D u)
  | [], v, u => asF A v u
  | (i, sz, o) :: hs, v, .row true t => if ctSz t = sz then (setD A t o (setH hs v)).map fun f xs => A.upd t xs i f else none
  | _ :: _, _, _ => none
def setX : XV D → List (D .nat × Nat × Nat) → XV D → Option (XV D)
  | _, [], v => some v
  | .d u x, h :: hs, v => (setH A (h :: hs) v u).map fun f => .d u (f x)
  | _, _ :: _, _ => none
/-- Cells one behind the other at the end of a way. -/
def setHs : List (D .nat × Nat × Nat) → List (XV D) → (u : CT) → Option (D u → D u)
  | [(i, sz, o)], vs, .row true t => if ctSz t = sz then (setDs A t o vs).map fun f xs => A.upd t xs i f else none
  | (i, sz, o) :: h :: hs, vs, .row true t => if ctSz t = sz then (setD A t o (setHs (h :: hs) vs)).map fun f xs => A.upd t xs i f else none
  | _, _, _ => none
def setXs : XV D → List (D .nat × Nat × Nat) → List (XV D) → Option (XV D)
  | .d u x, hs, vs => (setHs A hs vs u).map fun f => .d u (f x)
  | _, _, _ => none
def immX : XV D → Option (XV D)
  | .d (.int k) x => some (.d (.int k) x)
  | .d .bool x => some (.d .bool x)
  | .d .str x => some (.d .str x)
  | .d (.row false t) x => some (.d (.row false t) x)
  | .d (.nilr _) _ => some (.d (.nilr false) (A.nilv false))
  | .d (.row true t) x => if h : ctSim (.row true t) (.row false (immT t)) = true then some (.d (.row false (immT t)) (A.recast _ _ h x)) else none
  | .k x => some (.k x)
  | _ => none
def immXL : List (XV D) → Option (List (XV D))
  | [] => some []
  | x :: r => match immX A x, immXL r with | some y, some l => some (y :: l) | _, _ => none
def shareX : XV D → List Nat → Option (XV D)
  | .d t x, os => match shT t 0 os with | some t' => if h : ctSim t t' = true then some (.d t' (A.recast t t' h x)) else none | none => none
  | _, _ => none

def getPl (p : XP D) : XM D M X (XV D) := bind (rdC p.root p.off) fun tv => getM A tv p.hops ret
def hopOs (hs : List (D .nat × Nat × Nat)) : List Nat := hs.map fun h => h.2.2
def isRow : CT → Bool
  | .int _ => false
  | .bool => false
  | .str => false
  | _ => true
def oneT : CT → Bool
  | .nat => false
  | .pair _ _ => false
  | _ => true
def isOwT : CT → Bool
  | .row o _ => o
  | .nilr o => o
  | _ => false
def isOwX : XV D → Bool
  | .d t _ => isOwT t
  | _ => false
def isHdrX : XV D → Bool
  | .d t _ => isRow t
  | .k _ => false
  | _ => true
/-- A part of what is owned, shared. -/
def winX (lo n : D .nat) : XV D → Option (XV D)
  | .d (.row true t) xs => match immX A (.d (.row true t) xs) with | some (.d (.row false t') ys) => some (.d (.row false t') (A.win false t' ys lo n)) | _ => none
  | .d (.nilr true) _ => some (.d (.nilr false) (A.nilv false))
  | _ => none
def take1 (mv : Bool) : XV D → XM D M X (XV D)
  | .d (.row true _) _ => fail A
  | .d .nat _ => fail A
  | .d (.pair _ _) _ => fail A
  | .d (.nilr o) x => if mv then ret (.d (.nilr o) x) else ret (.d (.nilr false) (A.nilv false))
  | .d t x => ret (.d t x)
  | .k x => ret (.k x)
  | .pk p vs => bind (chk A p (p.hops.length + 1) vs) fun _ => bind (rdC p.root p.off) fun tv => getM A tv p.hops fun v =>
    if isOwX v then
      if mv then (if XP.bare p then (bind (wrC A p.root p.off .dead) fun _ => bind (bump (p.root, p.off, p.hops.length + 1)) fun _ => ret v) else fail A)
      else bind (optM A (shareX A tv (hopOs p.hops))) fun tv' => bind (optM A (immX A v)) fun v' => bind (wrC A p.root p.off tv') fun _ => bind (bump (p.root, p.off, p.hops.length + 1)) fun _ => ret v'
    else fail A
  | .pw p vs _ lo n => bind (chk A p (p.hops.length + 1) vs) fun _ => bind (rdC p.root p.off) fun tv => getM A tv p.hops fun v =>
    bind (optM A (shareX A tv (hopOs p.hops))) fun tv' => bind (optM A (winX A lo n v)) fun v' => bind (wrC A p.root p.off tv') fun _ => bind (bump (p.root, p.off, p.hops.length + 1)) fun _ => ret v'
  | _ => fail A
def takeL (mv : Bool) : List (XV D) → XM D M X (List (XV D))
  | [] => ret []
  | t :: r => bind (take1 A mv t) fun t' => bind (takeL mv r) fun r' => ret (t' :: r')
def cellsX : XV D → List (XV D)
  | .agg l => l
  | t => [t]
def takeV (mv : Bool) (t : XV D) : XM D M X (List (XV D) × Bool) :=
  match t with
  | .agg l => bind (takeL A mv l) fun l' => ret (l', true)
  | t => bind (take1 A mv t) fun t' => ret ([t'], false)
def putB (r : Nat) : Nat → List (XV D) → XM D M X Unit
  | _, [] => ret ()
  | o, t :: l => bind (rdC r o) fun old => bind (wrC A r o t) fun _ => bind (if isHdrX old || isHdrX t then bump (r, o, 1) else ret ()) fun _ => putB r (o + 1) l
def bumps (q : Key) : Nat → XM D M X Unit
  | 0 => ret ()
  | n + 1 => bind (bump q) fun _ => bumps q n
def hdrs : List (XV D) → List (XV D) → Nat
  | a :: r, b :: s => (if isHdrX a || isHdrX b then 1 else 0) + hdrs r s
  | _, _ => 0
def putEl (r off : Nat) (i : D .nat) (sz o : Nat) (l : List (XV D)) : XV D → XM D M X Unit
  | .d (.row true t) xs => if ctSz t = sz ∧ o + l.length ≤ sz ∧ 0 < l.length then atM A true t xs i fun e => bind (optM A (setDs A t o l)) fun f => bind (wrC A r off (.d (.row true t) (A.upd t xs i f))) fun _ => bumps (r, off, 2) (hdrs ((splitX A t e).drop o) l) else fail A
  | _ => fail A
def putL (p : XP D) (l : List (XV D)) : XM D M X Unit :=
  match p.hops with
  | [] => putB A p.root p.off l
  | [(i, sz, o)] => bind (rdC p.root p.off) (putEl A p.root p.off i sz o l)
  | hs => bind (rdC p.root p.off) fun tv => elemM A tv hs fun t e =>
    if lastO hs + l.length ≤ ctSz t ∧ 0 < l.length ∧ (((splitX A t e).drop (lastO hs)).take l.length).all (fun v => !isHdrX v) = true ∧ l.all (fun v => !isHdrX v) = true then bind (optM A (setXs A tv hs l)) fun tv' => wrC A p.root p.off tv' else fail A
def peek1 (p : XP D) : XV D → XM D M X (XV D)
  | .k x => ret (.k x)
  | .d t x => if isOwT t then bind (rdVs (keysOf p.root p.off (p.hops.length + 1))) fun vs => ret (.pk p vs) else if oneT t then ret (.d t x) else fail A
  | _ => fail A
def peekB (r : Nat) : Nat → Nat → XM D M X (List (XV D))
  | _, 0 => ret []
  | o, n + 1 => bind (rdC r o) fun t => bind (peek1 A ⟨r, o, []⟩ t) fun t' => bind (peekB r (o + 1) n) fun l => ret (t' :: l)
def peekCs (p : XP D) : List (XV D) → XM D M X (List (XV D))
  | [] => ret []
  | t :: r => bind (peek1 A p t) fun t' => bind (peekCs (addP p 1) r) fun l => ret (t' :: l)
def peekL (p : XP D) (n : Nat) : XM D M X (List (XV D)) :=
  match p.hops with
  | [] => peekB A p.root p.off n
  | _ :: _ => bind (rdC p.root p.off) fun tv => elemM A tv p.hops fun t e => if lastO p.hops + n ≤ ctSz t ∧ 0 < n then peekCs A p (((splitX A t e).drop (lastO p.hops)).take n) else fail A
def nameL (r : Nat) : Nat → List (XV D) → XM D M X (List (XV D))
  | _, [] => ret []
  | i, t :: l => if isOwX t then bind (rdV (r, 0, 0)) fun g => bind (rdV (r, i, 1)) fun h => bind (nameL r (i + 1) l) fun l' => ret (.pk ⟨r, i, []⟩ [g, h] :: l') else bind (nameL r (i + 1) l) fun l' => ret (t :: l')
def names (d : Nat) (l : List (XV D)) : XM D M X (List (XV D)) := if l.any isOwX then bind (new A (2 * d + 3) l) fun _ => nameL (2 * d + 3) 0 l else ret l
def shapedX (agg : Bool) (l : List (XV D)) : XV D := if agg then .agg l else l.headD .dead
def inst (d : Nat) (agg : Bool) (l : List (XV D)) : XM D M X Unit := bind (names A d l) fun l' => wrT A d (shapedX agg l')
def natOf : XV D → XM D M X (D .nat)
  | .d (.int k) n => natM A k n ret
  | _ => fail A
def lenOf : XV D → XM D M X (D .nat)
  | .d (.row false t) xs => ret (A.len false t xs)
  | .d (.nilr _) _ => ret (A.litN 0)
  | .pk p vs => bind (chk A p (p.hops.length + 1) vs) fun _ => bind (getPl A p) fun t => match t with
    | .d (.row true t) xs => ret (A.len true t xs)
    | .d (.nilr true) _ => ret (A.litN 0)
    | _ => fail A
  | .pw p vs _ _ n => bind (chk A p (p.hops.length + 1) vs) fun _ => ret n
  | _ => fail A
def optNat : Option Opd → D .nat → XM D M X (D .nat)
  | some o, _ => bind (opd A o) (natOf A)
  | none, d => ret d
def takeParts (mv : Bool) : List (Nat × Nat × Opd) → XM D M X (List (XV D))
  | [] => ret []
  | (_, n, x) :: r => bind (opd A x) fun t => bind (takeL A mv (cellsX t)) fun l => if l.length = n then bind (takeParts mv r) fun l' => ret (l ++ l') else fail A
def placeX (cells : List (XV D)) (off : Nat) : List (XV D) → List (XV D)
  | [] => cells
  | t :: r => placeX (cells.set off t) (off + 1) r
def assembleX (cells : List (XV D)) : List (Nat × Nat × Opd) → List (XV D) → List (XV D)
  | [], _ => cells
  | (off, n, _) :: r, l => assembleX (placeX cells off (l.take n)) r (l.drop n)
def chunksX (sz : Nat) : Nat → List (XV D) → List (List (XV D))
  | 0, _ => []
  | n + 1, l => l.take sz :: chunksX sz n (l.drop sz)
def okCellX : XV D → Bool
  | .d (.row true _) _ => false
  | .d .nat _ => false
  | .d (.pair _ _) _ => false
  | .d _ _ => true
  | .k _ => true
  | _ => false
def tyOf : List (XV D) → Option CT
  | [] => none
  | [.d t _] => some t
  | .d t _ :: r => (tyOf r).map (.pair t)
  | _ :: _ => none
def tyJoin : CT → CT → CT
  | .nilr _, .row o t => .row o t
  | .row o t, .row _ t' => .row o (tyJoin t t')
  | .pair a b, .pair a' b' => .pair (tyJoin a a') (tyJoin b b')
  | t, _ => t
def joinC (t : CT) : List (XV D) → Option (D t × List (XV D))
  | .d u x :: r => (asT A u t x).map fun y => (y, r)
  | _ => none
def joinX : (t : CT) → List (XV D) → Option (D t × List (XV D))
  | .pair a b, l => match joinX a l with
    | some (x, r) => match joinX b r with
      | some (y, r') => some (A.mkp a b x y, r')
      | none => none
    | none => none
  | .nat, _ => none
  | .int k, l => joinC A (.int k) l
  | .bool, l => joinC A .bool l
  | .str, l => joinC A .str l
  | .row o t, l => joinC A (.row o t) l
  | .nilr o, l => joinC A (.nilr o) l
def joinOne (t : CT) (l : List (XV D)) : Option (D t) := match joinX A t l with | some (x, []) => some x | _ => none
def joinAll (t : CT) : List (List (XV D)) → Option (List (D t))
  | [] => some []
  | l :: r => match joinOne A t l, joinAll t r with | some x, some xs => some (x :: xs) | _, _ => none
def tyAll : List (List (XV D)) → Option CT
  | [] => none
  | [l] => tyOf l
  | l :: r => match tyOf l, tyAll r with | some t, some t' => some (tyJoin t t') | _, _ => none
def hasNil : CT → Bool
  | .nilr _ => true
  | .row _ t => hasNil t
  | .pair a b => hasNil a || hasNil b
  | _ => false
/-- The type of a row: as its elements say, or as is hinted. -/
def tyFill : CT → CT → CT
  | .nilr o, .row _ t => .row o t
  | .row o t, .row _ t' => .row o (tyFill t t')
  | .pair a b, .pair a' b' => .pair (tyFill a a') (tyFill b b')
  | t, _ => t
def resT (hint : Option CT) (t : CT) : CT := if hasNil t then tyFill t (hint.getD t) else t
def rowOf (hint : Option CT) (ls : List (List (XV D))) : Option (XV D) :=
  match ls with
  | [] => some (.d (.nilr true) (A.nilv true))
  | _ => match tyAll ls with
    | some t => (joinAll A (resT hint t) ls).map fun es => .d (.row true (resT hint t)) (A.rowl true (resT hint t) es)
    | none => none
def repOf (hint : Option CT) (n : D .nat) (l : List (XV D)) : Option (XV D) :=
  match tyOf l with
  | some t => (joinOne A (resT hint t) l).map fun e => .d (.row true (resT hint t)) (A.rep (resT hint t) n e)
  | none => none
def contentOf : XV D → XM D M X (XV D)
  | .d (.row false t) xs => ret (.d (.row false t) xs)
  | .d (.nilr _) _ => ret (.d (.nilr false) (A.nilv false))
  | .pk p vs => bind (chk A p (p.hops.length + 1) vs) fun _ => bind (getPl A p) fun t => match t with | .d (.row true t) xs => ret (.d (.row true t) xs) | .d (.nilr true) _ => ret (.d (.nilr false) (A.nilv false)) | _ => fail A
  | .pw p vs _ lo n => bind (chk A p (p.hops.length + 1) vs) fun _ => bind (getPl A p) fun t => match t with | .d (.row true t) xs => ret (.d (.row true t) (A.win true t xs lo n)) | _ => fail A
  | _ => fail A
def flat1 : CT → Bool
  | .int _ => true
  | .bool => true
  | .str => true
  | _ => false
def flatT : CT → Bool
  | .int _ => true
  | .bool => true
  | .str => true
  | .pair a b => flatT a && flatT b
  | _ => false
def cpyX (d sz : Nat) (p : XP D) (lo : D .nat) (n : Option (D .nat)) (tv c2 : XV D) : XM D M X Unit := getM A tv p.hops fun v =>
  match v, c2 with
    | .d (.row true t) xs, .d (.row o t2) ys => if h : ctBeq t2 t = true ∧ ctSz t = sz ∧ flatT t = true then
        bind (optM A (setX A tv p.hops (.d (.row true t) (A.splice t o xs lo (A.minN (A.len o t2 ys) (n.getD (A.len true t xs))) (ctBeq_eq h.1 ▸ ys))))) fun tv' =>
          brM A (A.slOk lo (A.addN lo (A.minN (A.len o t2 ys) (n.getD (A.len true t xs)))) (A.len true t xs)) (forkM A (A.ltN (A.litN 0) (A.minN (A.len o t2 ys) (n.getD (A.len true t xs)))) (bind (wrC A p.root p.off tv') fun _ => wrT A d (.d (.int .i64) (A.natI (A.minN (A.len o t2 ys) (n.getD (A.len true t xs)))))) (wrT A d (.d (.int .i64) (A.natI (A.minN (A.len o t2 ys) (n.getD (A.len true t xs)))))))
      else fail A
    | .d (.row true _) _, .d (.nilr _) _ => if 0 < sz then wrT A d (.d (.int .i64) (A.lit .i64 0)) else fail A
    | _, _ => fail A
def eqAll : List FK → List (XV D) → List (XV D) → Option (D .bool)
  | [], [], [] => some (A.litB true)
  | .i :: ks, .d (.int k) a :: xs, .d (.int k') b :: ys => if h : k' = k then (eqAll ks xs ys).map (A.andB (A.cm .eql k a (h ▸ b))) else none
  | .b :: ks, .d .bool a :: xs, .d .bool b :: ys => (eqAll ks xs ys).map (A.andB (A.eqB a b))
  | .s :: ks, .d .str a :: xs, .d .str b :: ys => (eqAll ks xs ys).map (A.andB (A.eqS a b))
  | _, _, _ => none
def mapM' (f : α → XM D M X β) : List α → XM D M X (List β)
  | [] => ret []
  | x :: r => bind (f x) fun y => bind (mapM' f r) fun l => ret (y :: l)
def intOf : XV D → XM D M X (XV D)
  | .d (.int k) n => ret (.d (.int k) n)
  | _ => fail A
def capOf : XV D → XM D M X (XV D)
  | .ptr p vs => ret (.ptr p vs)
  | t => if okCellX t && !isOwX t then ret t else fail A
def mmAll (mx : Bool) (k : IntKind) : D (.int k) → List (XV D) → Option (D (.int k))
  | a, [] => some a
  | a, .d (.int k') b :: r => if h : k' = k then mmAll mx k (A.mm mx k a (h ▸ b)) r else none
  | _, _ => none
def wr (d : Nat) (t : XV D) : XM D M X Unit := wrT A d t
def binX (d : Nat) (op : BinOp) : XV D → XV D → XM D M X Unit
  | .d (.int k) a, .d (.int k') b =>
    match op with
    | .shl => natM A k' b fun n => wr A d (.d (.int k) (A.sh .shl k a n))
    | .shr => natM A k' b fun n => wr A d (.d (.int k) (A.sh .shr k a n))
    | .quo => if h : k' = k then brM A (A.cm .neq k' b (A.lit k' 0)) (wr A d (.d (.int k) (A.ar .quo k a (h ▸ b)))) else fail A
    | .rem => if h : k' = k then brM A (A.cm .neq k' b (A.lit k' 0)) (wr A d (.d (.int k) (A.ar .rem k a (h ▸ b)))) else fail A
    | .add => if h : k' = k then wr A d (.d (.int k) (A.ar .add k a (h ▸ b))) else fail A
    | .sub => if h : k' = k then wr A d (.d (.int k) (A.ar .sub k a (h ▸ b))) else fail A
    | .mul => if h : k' = k then wr A d (.d (.int k) (A.ar .mul k a (h ▸ b))) else fail A
    | .and => if h : k' = k then wr A d (.d (.int k) (A.ar .and k a (h ▸ b))) else fail A
    | .or => if h : k' = k then wr A d (.d (.int k) (A.ar .or k a (h ▸ b))) else fail A
    | .xor => if h : k' = k then wr A d (.d (.int k) (A.ar .xor k a (h ▸ b))) else fail A
    | .andNot => if h : k' = k then wr A d (.d (.int k) (A.ar .andNot k a (h ▸ b))) else fail A
    | op => if h : k' = k then wr A d (.d .bool (A.cm op k a (h ▸ b))) else fail A
  | .d .str a, .d .str b =>
    match op with
    | .eql => wr A d (.d .bool (A.eqT a b))
    | .neq => wr A d (.d .bool (A.not (A.eqT a b)))
    | _ => fail A
  | _, _ => fail A
def pickX (d : Nat) (tc ta tb : XV D) : XM D M X Unit := match tc, ta, tb with
  | .d .bool c, .d (.int k) x, .d (.int k') y => if h : k' = k then wr A d (.d (.int k) (A.ite (.int k) c x (h ▸ y))) else fail A
  | .d .bool c, .d .bool x, .d .bool y => wr A d (.d .bool (A.ite .bool c x y))
  | .d .bool c, .d .str x, .d .str y => wr A d (.d .str (A.ite .str c x y))
  | .d .bool c, .d t x, _ => if flat1 t then brM A c (wr A d (.d t x)) else fail A
  | .d .bool c, _, .d t x => if flat1 t then brM A (A.not c) (wr A d (.d t x)) else fail A
  | _, _, _ => fail A
/-- A row put behind another one. -/
def appX (d sz bytes : Nat) (hint : Option CT) (s x : XV D) : XM D M X Unit :=
  match s, x with
  | .d (.row true t) c, .d (.row o t2) c2 => if ctSz t = sz then bind (optM A (asT A (.row o t2) (.row o t) c2)) fun c3 => brM A (A.appOk bytes (A.len true t c) (A.len o t2 c2)) (inst A d false [.d (.row true t) (A.cat t o c c3)]) else fail A
  | .d (.row true t) c, .d (.nilr _) _ => if ctSz t = sz then brM A (A.appOk bytes (A.len true t c) (A.litN 0)) (inst A d false [.d (.row true t) c]) else fail A
  | .d (.nilr true) _, .d (.row o t2) c2 => if ctSz t2 = sz then bind (optM A (asT A (.row o t2) (.row o (resT hint t2)) c2)) fun c3 => brM A (A.appOk bytes (A.litN 0) (A.len o t2 c2)) (inst A d false [.d (.row true (resT hint t2)) (A.cat _ o (A.nil true (resT hint t2)) c3)]) else fail A
  | .d (.nilr true) _, .d (.nilr _) _ => brM A (A.appOk bytes (A.litN 0) (A.litN 0)) (inst A d false [.d (.nilr true) (A.nilv true)])
  | _, _ => fail A
def loadIp (n : Option Nat) (cs : List (XV D)) : Option (XV D) :=
  match n with
  | none => match cs with
    | t :: _ => if okCellX t && !isOwX t then some t else none
    | [] => none
  | some n => if n ≤ cs.length && (cs.take n).all (fun t => okCellX t && !isOwX t) then some (.agg (cs.take n)) else none
def ev1 (HT : List (Nat × CT)) (d : Nat) : TOp → XM D M X Unit
  | .mov x => bind (opd A x) fun t => match t with
    | .d t y => if isOwT t then (match x with | .c _ => inst A d false [.d t y] | _ => fail A) else wr A d (.d t y)
    | .agg l => if l.any isOwX then fail A else wr A d (.agg l)
    | t => wr A d t
  | .asn mv x => bind (opd A x) fun t => match t with
    | .ptr p vs => wr A d (.ptr p vs)
    | .ip cs => wr A d (.ip cs)
    | .fn f cap => wr A d (.fn f cap)
    | t => bind (takeV A mv t) fun l => inst A d l.2 l.1
  | .pick c a b => bind (opd A c) fun tc => bind (opd A a) fun ta => bind (opd A b) fun tb => pickX A d tc ta tb
  | .alloc z => if (z.map (cellX A)).all okCellX then bind (new A (2 * d + 2) (z.map (cellX A))) fun _ => bind (rdV (2 * d + 2, 0, 0)) fun g => wr A d (.ptr ⟨2 * d + 2, 0, []⟩ [g]) else fail A
  | .box n mv x => bind (opd A x) fun t => bind (takeL A mv (cellsX t)) fun l => if l.length = n then bind (new A (2 * d + 2) l) fun _ => bind (rdV (2 * d + 2, 0, 0)) fun g => wr A d (.ptr ⟨2 * d + 2, 0, []⟩ [g]) else fail A
  | .load n a => bind (opd A a) fun t => match t with
    | .ptr p vs => bind (chk A p p.hops.length vs) fun _ => match n with
      | none => bind (getPl A p) fun t => bind (peek1 A p t) fun t' => wr A d t'
      | some n => bind (peekL A p n) fun l => wr A d (.agg l)
    | .ip cs => match loadIp n cs with | some t => wr A d t | none => fail A
    | _ => fail A
  | .store n mv a x => bind (opd A a) fun ta => match ta with
    | .ptr p vs => bind (opd A x) fun tx => bind (takeL A mv (cellsX tx)) fun l => if l.length = n then bind (chk A p p.hops.length vs) fun _ => putL A p l else fail A
    | _ => fail A
  | .nilc x => bind (opd A x) fun t => match t with
    | .ptr p vs => bind (chk A p p.hops.length vs) fun _ => wr A d (.ptr p vs)
    | .ip cs => wr A d (.ip cs)
    | .fn f cap => wr A d (.fn f cap)
    | _ => fail A
  | .fld off a => bind (opd A a) fun t => match t with
    | .ptr p vs => bind (chk A p p.hops.length vs) fun _ => if fitsP p off then wr A d (.ptr (addP p off) vs) else fail A
    | .ip cs => if off < cs.length then wr A d (.ip (cs.drop off)) else fail A
    | _ => fail A
  | .fldv off n x => bind (opd A x) fun t => match t with
    | .agg l => match n with
      | none => if off < l.length then wr A d (l.getD off .dead) else fail A
      | some n => if off + n ≤ l.length then wr A d (.agg ((l.drop off).take n)) else fail A
    | _ => fail A
  | .idx sz x i => bind (opd A x) fun t => bind (opd A i) fun ti => bind (natOf A ti) fun k => match t with
    | .pk p vs => bind (chk A p (p.hops.length + 1) vs) fun _ => bind (getPl A p) fun t => match t with
      | .d (.row true t) xs => if ctSz t = sz ∧ 0 < sz then atM A true t xs k fun _ => wr A d (.ptr (atP p k sz) vs) else fail A
      | _ => fail A
    | .pw p vs sz' lo n => bind (chk A p (p.hops.length + 1) vs) fun _ => bind (getPl A p) fun t => match t with
      | .d (.row true t) xs => if ctSz t = sz ∧ 0 < sz ∧ sz' = sz then brM A (A.ltN k n) (atM A true t xs (A.addN lo k) fun _ => wr A d (.ptr (atP p (A.addN lo k) sz) vs)) else fail A
      | _ => fail A
    | .d (.row false t) xs => if ctSz t = sz ∧ 0 < sz then atM A false t xs k fun e => wr A d (.ip (splitX A t e)) else fail A
    | _ => fail A
  | .ext x i => bind (opd A x) fun t => match t with
    | .tup l => if i < l.length then wr A d (l.getD i .dead) else fail A
    | _ => fail A
  | .bin op x y => bind (opd A x) fun a => bind (opd A y) fun b => binX A d op a b
  | .bnb neg x y => bind (opd A x) fun a => bind (opd A y) fun b => match a, b with
    | .d .bool a, .d .bool b => wr A d (.d .bool (if neg then A.not (A.eqB a b) else A.eqB a b))
    | _, _ => fail A
  | .eqa ks neg x y => bind (opd A x) fun a => bind (opd A y) fun b => match a, b with
    | .agg a, .agg b => match eqAll A ks a b with | some r => wr A d (.d .bool (if neg then A.not r else r)) | none => fail A
    | _, _ => fail A
  | .un op x => bind (opd A x) fun a => match op, a with
    | .not, .d .bool b => wr A d (.d .bool (A.not b))
    | .neg, .d (.int k) n => wr A d (.d (.int k) (A.neg k n))
    | _, _ => fail A
  | .conv k x => bind (opd A x) fun a => match a with | .d (.int k0) n => wr A d (.d (.int k) (A.cv k0 k n)) | _ => fail A
  | .bld z mv parts => if (z.map (cellX A)).all okCellX then bind (takeParts A mv parts) fun l => bind (names A d l) fun l' => wr A d (.agg (assembleX (z.map (cellX A)) parts l')) else fail A
  | .bsl sz mv len parts => bind (takeParts A mv (parts.map fun p => (0, sz, p))) fun l => if parts.length = len then bind (optM A (rowOf A (aget HT d) (chunksX sz len l))) fun v => inst A d false [v] else fail A
  | .mks sz z l c => if (z.map (cellX A)).all okCellX && z.length == sz then bind (opd A l) fun tl => bind (opd A c) fun tc => bind (natOf A tl) fun n => bind (natOf A tc) fun m =>
      brM A (A.mkOk n m sz) (bind (optM A (repOf A (aget HT d) n (z.map (cellX A)))) fun v => inst A d false [v]) else fail A
  | .slc sz x lo hi => bind (opd A x) fun t => bind (lenOf A t) fun n => bind (optNat A lo (A.litN 0)) fun l => bind (optNat A hi n) fun h => brM A (A.slOk l h n) (
      match t with
      | .d (.row false t) xs => if ctSz t = sz then wr A d (.d (.row false t) (A.win false t xs l (A.subN h l))) else fail A
      | .d (.nilr false) x => wr A d (.d (.nilr false) x)
      | .pk p vs => bind (getPl A p) fun t => match t with | .d (.row true t) _ => if ctSz t = sz then wr A d (.pw p vs sz l (A.subN h l)) else fail A | .d (.nilr true) _ => wr A d (.pw p vs sz l (A.subN h l)) | _ => fail A
      | .pw p vs sz' lo' _ => if sz' = sz then wr A d (.pw p vs sz (A.addN lo' l) (A.subN h l)) else fail A
      | .d (.nilr true) x => inst A d false [.d (.nilr true) x]
      | _ => fail A)
  | .app sz bytes mv s x => bind (opd A s) fun ts => bind (opd A x) fun tx => bind (take1 A true ts) fun s => bind (take1 A mv tx) fun x => appX A d sz bytes (aget HT d) s x
  | .len x => bind (opd A x) fun t => bind (lenOf A t) fun n => wr A d (.d (.int .i64) (A.natI n))
  | .lens x => bind (opd A x) fun t => match t with
    | .d .str s => wr A d (.d (.int .i64) (A.strLen s))
    | _ => fail A
  | .ixs x i => bind (opd A x) fun t => bind (opd A i) fun ti => bind (natOf A ti) fun k => match t with
    | .d .str s => strAtM A s k fun b => wr A d (.d (.int .u8) b)
    | _ => fail A
  | .mm mx xs => bind (mapM' (fun x => bind (opd A x) (intOf A)) xs) fun l => match l with
    | .d (.int k) a :: r => match mmAll A mx k a r with | some m => wr A d (.d (.int k) m) | none => fail A
    | _ => fail A
  | .mkf f caps => bind (mapM' (fun x => bind (opd A x) (capOf A)) caps) fun l => wr A d (.fn f l)
  | .idxa n sz x i => bind (opd A x) fun t => bind (opd A i) fun ti => bind (natOf A ti) fun k => match t with
    | .ptr p vs => bind (chk A p p.hops.length vs) fun _ => caseM A k n (fun j => if fitsP p (j * sz) then wr A d (.ptr (addP p (j * sz)) vs) else fail A) 0
    | _ => fail A
  | .s2b x => bind (opd A x) fun t => match t with
    | .d .str s => brM A (A.strOk s) (wr A d (.d (.row false (.int .u8)) (A.strB s)))
    | _ => fail A
  | .b2s x => bind (opd A x) fun t => bind (take1 A false t) fun t' => match t' with
    | .d (.row false (.int .u8)) c => bstrM A c fun s => wr A d (.d .str s)
    | _ => fail A
  | .cpy sz x y => bind (opd A x) fun t => bind (opd A y) fun u => bind (contentOf A u) fun c2 => match t with
    | .pk p vs => bind (chk A p (p.hops.length + 1) vs) fun _ => bind (rdC p.root p.off) fun tv => cpyX A d sz p (A.litN 0) none tv c2
    | .pw p vs sz' lo n => if sz' = sz then bind (chk A p (p.hops.length + 1) vs) fun _ => bind (rdC p.root p.off) fun tv => cpyX A d sz p lo (some n) tv c2 else fail A
    | _ => fail A
  | .call _ _ _ => fail A
end
end X
end Go.Proofs.Ytkmbahlpmoljpaa
/- Calls, code and functions on typed data; definitions. -/
set_option linter.unusedVariables false
set_option linter.unusedSimpArgs false
namespace Go.Proofs.Ytkmbahlpmoljpaa
open Go.RowKit

/-- A pointer that is handed over, with what it leads to. -/
structure XGP (D : CT → Type) where
  i : Nat
  p : XP D
  vs : List Nat
  cells : List (XV D)
namespace X
section
variable {D : CT → Type} {M : Type → Type} {X : Type} (A : Alg D M) {α β : Type}
def isNmX : XV D → Bool
  | .pk _ _ => true
  | .d (.nilr true) _ => true
  | _ => false
def argV0 : XV D → XM D M X (XV D)
  | .ip cs => ret (.ip cs)
  | .fn f cap => ret (.fn f cap)
  | .ptr p vs => ret (.ptr p vs)
  | t => bind (takeV A false t) fun l => bind (optM A (immXL A l.1)) fun l' => ret (shapedX l.2 l')
def argV (x : Option Nat × Opd) : XM D M X (XV D) := bind (opd A x.2) fun t => if (x.1 == some 0 && isNmX t) = true then ret t else argV0 A t
def argVs : List (Option Nat × Opd) → XM D M X (List (XV D))
  | [] => ret []
  | x :: r => bind (argV A x) fun t => bind (argVs r) fun l => ret (t :: l)
def takeOwns : Nat → List (Option Nat × XV D) → XM D M X (List (Nat × XV D))
  | _, [] => ret []
  | i, (some 0, .pk p vs) :: r => bind (take1 A true (.pk p vs)) fun t => if isOwX t = true then bind (takeOwns (i + 1) r) fun q => ret ((i, t) :: q) else fail A
  | i, _ :: r => takeOwns (i + 1) r
def grabB (r : Nat) : Nat → Nat → XM D M X (List (XV D))
  | _, 0 => ret []
  | o, n + 1 => bind (rdC r o) fun t => bind (peek1 A ⟨r, o, []⟩ t) fun t' => bind (take1 A true t') fun t2 => bind (grabB r (o + 1) n) fun l => ret (t2 :: l)
def grabL (p : XP D) (n : Nat) : XM D M X (List (XV D)) :=
  match p.hops with
  | [] => grabB A p.root p.off n
  | _ :: _ => bind (rdC p.root p.off) fun tv => elemM A tv p.hops fun t e => if lastO p.hops + n ≤ ctSz t ∧ 0 < n ∧ (((splitX A t e).drop (lastO p.hops)).take n).all (fun t => okCellX t && !isOwX t) then ret (((splitX A t e).drop (lastO p.hops)).take n) else fail A
def isArgX : XV D → Bool
  | .ip _ => true
  | .d (.nilr true) _ => true
  | .fn _ [] => true
  | .agg l => l.all fun t => okCellX t && !isOwX t
  | t => okCellX t && !isOwX t
def grabs : Nat → List (Option Nat × XV D) → XM D M X (List (XGP D))
  | _, [] => ret []
  | i, (some n, .ptr p vs) :: r => bind (chk A p p.hops.length vs) fun _ => bind (grabL A p n) fun l => bind (grabs (i + 1) r) fun q => ret (⟨i, p, vs, l⟩ :: q)
  | i, (some 0, .pk _ _) :: r => grabs (i + 1) r
  | i, (_, t) :: r => if isArgX t then grabs (i + 1) r else fail A
def touch (p : XP D) : XM D M X Unit := bind (rdC p.root p.off) fun tv => wrC A p.root p.off tv
def rechk : List (XGP D) → XM D M X Unit
  | [] => ret ()
  | g :: r => bind (chk A g.p g.p.hops.length g.vs) fun _ => bind (touch A g.p) fun _ => rechk r
def argT (i : Nat) : XV D → XV D
  | .ptr _ _ => .ptr ⟨2 * i + 2, 0, []⟩ [0]
  | .pk _ _ => .pk ⟨2 * i + 3, 0, []⟩ [0, 0]
  | t => t
def argTs : Nat → List (XV D) → List (XV D)
  | _, [] => []
  | i, t :: r => argT i t :: argTs (i + 1) r
def mkSt (vals : List (XV D)) (pts : List (Nat × List (XV D))) : XS D := ⟨numbered 0 vals, pts, [], ([], [])⟩
def isDeadX : XV D → Bool
  | .dead => true
  | .d t _ => !oneT t
  | _ => false
def putBack : List (XGP D × List (XV D)) → XM D M X Unit
  | [] => ret ()
  | (g, l) :: r => bind (putBack r) fun _ => if l.length = g.cells.length ∧ 0 < l.length ∧ (l.all fun t => !isDeadX t) = true then putL A g.p l else fail A
def shapeRX : List RSh → List (XV D) → List (XV D)
  | [], _ => []
  | .one :: r, l => l.headD .dead :: shapeRX r l.tail
  | .agg n :: r, l => .agg (l.take n) :: shapeRX r (l.drop n)
  | .ptr _ :: r, l => .dead :: shapeRX r l
def shapeTX (sh : List RSh) (l : List (XV D)) : XV D :=
  match shapeRX sh l with
  | [x] => x
  | l => .tup l
def landR (dst : Option Nat) (cells : List (XV D)) (sh : List RSh) : XM D M X Unit :=
  match dst with
  | some d => bind (names A d cells) fun l => wr A d (shapeTX sh l)
  | none => ret ()
def convP : (s : List (Nat × List Sh)) → List (Nat × List (XV D)) → (r : List CT) → HL D r → Option (HL D (lvP s r))
  | [], [], _, h => some h
  | s :: ss, x :: xs, r, h => if s.1 = x.1 then (convP ss xs r h).bind fun h1 => convL A s.2 x.2 (lvP ss r) h1 else none
  | _, _, _, _ => none
def convT : (s : List (Nat × Sh)) → List (Nat × XV D) → (r : List CT) → HL D r → Option (HL D (lvT s r))
  | [], [], _, h => some h
  | s :: ss, x :: xs, r, h => if s.1 = x.1 then (convT ss xs r h).bind fun h1 => conv A s.2 x.2 (lvT ss r) h1 else none
  | _, _, _, _ => none
def sameVr : List (Key × Nat) → List (Key × Nat) → Bool
  | [], [] => true
  | (q, n) :: r, (q', n') :: r' => q == q' && n == n' && sameVr r r'
  | _, _ => false
def convS (s : Shs) (σ : XS D) (u : HL D []) : Option (HL D (lvS s)) := if sameVr s.vr σ.vr then (convP A s.ce σ.ce [] u).bind fun h => convT A s.tm σ.tm _ h else none
def convIn (c : Ctr) (vals : List (XV D)) (pts : List (Nat × List (XV D))) (u : HL D []) : Option (HL D (lvL c.ins (lvP c.pts []))) := (convP A c.pts pts [] u).bind fun h => convL A c.ins vals _ h
def sameSh : List RSh → List RSh → Bool
  | [], [] => true
  | .one :: r, .one :: r' => sameSh r r'
  | .agg n :: r, .agg n' :: r' => n == n' && sameSh r r'
  | _, _ => false
def convO (o : XO) (cells : List (XV D)) (sh : List RSh) (pts : List (Nat × List (XV D))) (u : HL D []) : Option (HL D (lvO o)) := if sameSh o.sh sh then (convP A o.pts pts [] u).bind fun h => convL A o.cells cells _ h else none
def injO (cells : List (XV D)) (sh : List RSh) (pts : List (Nat × List (XV D))) (u : HL D []) : (outs : List XO) → Option ((i : Nat) × HL D (nthL (outs.map lvO) i))
  | [] => none
  | o :: r => match convO A o cells sh pts u with
    | some h => some ⟨0, h⟩
    | none => match injO cells sh pts u r with | some x => some ⟨x.1 + 1, x.2⟩ | none => none
def exEq : TExit → TExit → Bool
  | .normal, .normal => true
  | .exit i, .exit j => i == j
  | .ret, .ret => true
  | _, _ => false
def injE (e : TExit) (σ : XS D) (u : HL D []) : (outs : List (TExit × Shs)) → Option ((i : Nat) × HL D (nthL (outs.map fun x => lvS x.2) i))
  | [] => none
  | o :: r => match (if exEq o.1 e then convS A o.2 σ u else none) with
    | some h => some ⟨0, h⟩
    | none => match injE e σ u r with | some x => some ⟨x.1 + 1, x.2⟩ | none => none
def onOut (o : Option α) (K : α → M X) : M X := match o with
  | some x => K x
  | none => A.fail
def afterC (dst : Option Nat) (q : List (XGP D)) (ow : List (Nat × XV D)) (x : List (XV D) × List RSh × List (Nat × List (XV D))) : XM D M X Unit :=
  if x.2.2.map (·.1) = q.map (fun g => 2 * g.i + 2) ++ ow.map (fun y => 2 * y.1 + 3) ∧ rshOk x.2.1 x.1.length = true then bind (putBack A (q.zip (x.2.2.map (·.2)))) fun _ => landR A dst x.1 x.2.1 else fail A
/-- A call: the first contract that fits. -/
def callTB (dst : Option Nat) (f : FuncId) (vals : List (XV D)) (q : List (XGP D)) (ow : List (Nat × XV D)) (u : HL D []) : List Ctr → XM D M X Unit
  | [] => fail A
  | c :: r => match (if c.f = f then convIn A c vals (q.map (fun g => (2 * g.i + 2, g.cells)) ++ ow.map fun y => (2 * y.1 + 3, [y.2])) u else none) with
    | some h => fun σ k => A.call c.id (lvL c.ins (lvP c.pts [])) (c.outs.map lvO) c.g h fun i ho => onOut A (fillOuts c.outs i ho) fun x => afterC A dst q ow x σ k
    | none => callTB dst f vals q ow u r
def callV (TB : List Ctr) (u : HL D []) (dst : Option Nat) (f : FuncId) (ns : List (Option Nat)) (vals : List (XV D)) : XM D M X Unit :=
  bind (takeOwns A 0 (ns.zip vals)) fun ow => bind (grabs A 0 (ns.zip vals)) fun q => bind (rechk A q) fun _ =>
    if nodupN (q.map (·.p.root)) && q.all (fun g => decide (0 < g.cells.length)) then callTB A dst f (argTs 0 vals) q ow u TB else fail A
/-- A value as it is read, without being handed over. -/
def see1 : XV D → XM D M X (XV D)
  | .d (.row true _) _ => fail A
  | .d .nat _ => fail A
  | .d (.pair _ _) _ => fail A
  | .d (.nilr _) _ => ret (.d (.nilr false) (A.nilv false))
  | .d t x => ret (.d t x)
  | .k x => ret (.k x)
  | .pk p vs => bind (chk A p (p.hops.length + 1) vs) fun _ => bind (rdC p.root p.off) fun tv => getM A tv p.hops fun v => if isOwX v then optM A (immX A v) else fail A
  | _ => fail A
def seeL : List (XV D) → XM D M X (List (XV D))
  | [] => ret []
  | t :: r => bind (see1 A t) fun t' => bind (seeL r) fun l => ret (t' :: l)
def seeA : XV D → XM D M X (XV D)
  | .agg l => bind (seeL A l) fun l' => ret (.agg l')
  | .ip cs => ret (.ip cs)
  | .fn f cap => match cap with | [] => ret (.fn f []) | _ :: _ => fail A
  | t => see1 A t
def seeAs : List Opd → XM D M X (List (XV D))
  | [] => ret []
  | x :: r => bind (opd A x) fun t => bind (seeA A t) fun t' => bind (seeAs r) fun l => ret (t' :: l)
def flatX : XV D → Bool
  | .d (.int _) _ => true
  | .d .bool _ => true
  | .d .str _ => true
  | .k x => vflat x
  | _ => false
def afterB (dst : Option Nat) (x : List (XV D) × List RSh × List (Nat × List (XV D))) : XM D M X Unit :=
  if x.2.2.length = 0 ∧ x.1.all flatX = true ∧ rshOk x.2.1 x.1.length = true then (match dst with | some d => wr A d (shapeTX x.2.1 x.1) | none => ret ()) else fail A
def callB (dst : Option Nat) (f : FuncId) (vals : List (XV D)) (u : HL D []) : List Ctr → XM D M X Unit
  | [] => fail A
  | c :: r => match (if c.f = f then convIn A c vals [] u else none) with
    | some h => fun σ k => A.call c.id (lvL c.ins (lvP c.pts [])) (c.outs.map lvO) c.g h fun i ho => onOut A (fillOuts c.outs i ho) fun x => afterB A dst x σ k
    | none => callB dst f vals u r
def bxX (vals : List (XV D)) : BxC → XV D
  | .arg i => vals.getD i .dead
  | .val x => cellX A x
def evBox (dst : Option Nat) (tm : List BxC) (vals : List (XV D)) : XM D M X Unit :=
  match dst with
  | some d => bind (takeL A false (tm.map (bxX A vals))) fun l => bind (new A (2 * d + 2) l) fun _ => bind (rdV (2 * d + 2, 0, 0)) fun g => wr A d (.ptr ⟨2 * d + 2, 0, []⟩ [g])
  | none => fail A
def boxOk : BxC → Bool
  | .arg _ => true
  | .val x => match x with | .slice none 0 0 => false | x => vflat x
def evCall (E : Env) (TB : List Ctr) (u : HL D []) (dst : Option Nat) : TOp → XM D M X Unit
  | .call k (.f f) args =>
    if k then bind (argVs A args) fun vals => match E.box f with
      | some x => if vals.length = x.1 ∧ x.2.all boxOk = true then evBox A dst x.2 vals else fail A
      | none => callV A TB u dst f (args.map (·.1)) vals
    else bind (seeAs A (args.map (·.2))) fun vals => callB A dst f vals u TB
  | .call _ (.t i) args => bind (rdT i) fun t => match t with
    | .fn f caps => bind (argVs A args) fun vals => callV A TB u dst f (args.map (·.1) ++ capNs E f args.length caps.length) (vals ++ caps)
    | _ => fail A
  | _ => fail A
/-- What a run needs to know: the functions, the contracts, hints. -/
structure Cfg where
  E : Env
  TB : List Ctr
  HT : List (Nat × CT)
  HL : List LHint
def evop (C : Cfg) (u : HL D []) (dst : Option Nat) (op : TOp) : XM D M X Unit :=
  match op with
  | .call k f args => evCall A C.E C.TB u dst (.call k f args)
  | .store n mv a x => match dst with | none => ev1 A C.HT 0 (.store n mv a x) | some _ => fail A
  | op => match dst with | some d => ev1 A C.HT d op | none => fail A
def setNo (dst : Option Nat) : XM D M X Unit := match dst with | some d => wrT A d (.tup []) | none => ret ()
/-- What a test has shown of a slot. -/
def known (j : Nat) (b : Bool) (σ : XS D) : XS D := ⟨aset σ.tm j (.d .bool (A.litB b)), σ.ce, σ.vr, σ.lg⟩
def knownO (c : Opd) (b : Bool) (σ : XS D) : XS D := match c with | .t j => known A j b σ | _ => σ
def condX (m m' : M X) : XV D → M X
  | .d .bool x => A.br x m m'
  | _ => A.fail
def guardX (j : Nat) (want : Bool) (m m' : XM D M X Unit) : XV D → XM D M X Unit
  | .d .bool b => fun σ k => A.br b ((if want then m else m') (known A j true σ) k) ((if want then m' else m) (known A j false σ) k)
  | .tup [] => m'
  | _ => fail A
def spOp (C : Cfg) (u : HL D []) (o : TOper) : XM D M X Unit :=
  match o.guard with
  | none => evop A C u o.dst o.op
  | some (j, want) => bind (rdT j) (guardX A j want (evop A C u o.dst o.op) (setNo A o.dst))
def spOps (C : Cfg) (u : HL D []) : List TOper → XM D M X Unit
  | [] => ret ()
  | o :: r => bind (spOp A C u o) fun _ => spOps C u r
/-- One after the other, with what each reads and writes. -/
def spFL (C : Cfg) (u : HL D []) (ops : List TOper) : List Nat → XM D M X (List (Nat × Foot))
  | [] => ret []
  | i :: r => fun σ k => spOp A C u (ops.getD i noOp) ⟨σ.tm, σ.ce, σ.vr, ([], [])⟩ fun _ σ1 => spFL C u ops r σ1 fun fs σ2 => k ((i, σ1.lg) :: fs) σ2
def renorm0 (L : List Nat) (σ : XS D) : XV D → XV D
  | .ptr p vs => if L.contains p.root && vs == vers (vget σ.vr) p.root p.off p.hops.length then .ptr p (vers (fun _ => 0) p.root p.off p.hops.length) else .dead
  | .pk p vs => if L.contains p.root && vs == vers (vget σ.vr) p.root p.off (p.hops.length + 1) then .pk p (vers (fun _ => 0) p.root p.off (p.hops.length + 1)) else .dead
  | .pw p vs sz lo n => if L.contains p.root && vs == vers (vget σ.vr) p.root p.off (p.hops.length + 1) then .pw p (vers (fun _ => 0) p.root p.off (p.hops.length + 1)) sz lo n else .dead
  | .k x => .k x
  | .ip cs => .ip cs
  | .d (.row true _) _ => .dead
  | .d t x => .d t x
  | .tup [] => .tup []
  | _ => .dead
def renorm (L : List Nat) (σ : XS D) : XV D → XV D
  | .agg l => .agg (l.map (renorm0 L σ))
  | .fn f l => .fn f (l.map (renorm0 L σ))
  | t => renorm0 L σ t
def normT (L : List Nat) (σ : XS D) : List Nat → List (Nat × XV D)
  | [] => []
  | i :: r => match aget σ.tm i with | some t => (i, renorm L σ t) :: normT L σ r | none => normT L σ r
def normC (σ : XS D) : List Nat → List (Nat × List (XV D))
  | [] => []
  | r :: l => match aget σ.ce r with | some c => (r, c) :: normC σ l | none => normC σ l
def norm (σ : XS D) (pers : Prs) : XS D := ⟨normT pers.2 σ pers.1, normC σ pers.2, [], ([], [])⟩
def anew (σ : XS D) : XS D := norm σ (σ.tm.map (·.1), σ.ce.map (·.1))
/-- The hint for a loop. -/
def selH (i : Nat) (σ : XS D) (u : HL D []) : List LHint → Option ((H : LHint) × HL D (lvS H.s))
  | [] => none
  | H :: r => match (if H.i = i then convS A H.s σ u else none) with
    | some h => some ⟨H, h⟩
    | none => selH i σ u r
def selJ (i : Nat) : List LHint → Option LHint
  | [] => none
  | H :: r => if H.i = i then some H else selJ i r
/-- Places that hints may name: loops, and pieces one behind the other. -/
def marks : TCode → Nat
  | .seq a b => marks a + marks b + 1
  | .cond _ a b => marks a + marks b
  | .block _ b => marks b
  | .loop b => marks b + 1
  | .pre _ b => marks b
  | .post b _ => marks b
  | _ => 0
def okN0 : XV D → Bool
  | .d (.row true _) _ => false
  | .d .nat _ => false
  | .d (.pair _ _) _ => false
  | _ => true
def okN : XV D → Bool
  | .agg l => l.all okN0
  | .fn _ l => l.all okN0
  | t => okN0 t
def okS (σ : XS D) : Bool := σ.tm.all fun x => okN x.2
/-- What a slot names, or what stands in a variable that it points to, becomes shared. -/
def shr1 (x : Nat × Option Nat) : XM D M X Unit := bind (rdT x.1) fun t => match x.2, t with
  | none, .pk p vs => bind (take1 A false (.pk p vs)) fun t' => bind (optM A (immX A t')) fun t2 => wrT A x.1 t2
  | some off, .ptr p vs => bind (chk A p p.hops.length vs) fun _ => if fitsP p off then bind (getPl A (addP p off)) fun t => if isOwX t then bind (peek1 A (addP p off) t) fun t' => bind (take1 A false t') fun _ => ret () else (match t with | .d _ _ => ret () | _ => fail A) else fail A
  | none, .d _ _ => ret ()
  | none, .agg l => if l.any isOwX then fail A else ret ()
  | _, _ => fail A
def shrs : List (Nat × Option Nat) → XM D M X Unit
  | [] => ret ()
  | x :: r => bind (shr1 A x) fun _ => shrs r
/-- What a round comes to: another one, or the loop's end. -/
def roundK (H : LHint) (u : HL D []) (e : TExit) (σ : XS D) : M (HL den (lvS H.s) ⊕ OutT (H.outs.map fun x => lvS x.2)) :=
  match e with
  | .normal => onOut A (convS A H.s σ u) (A.next (lvS H.s) (H.outs.map fun x => lvS x.2))
  | e => onOut A (injE A e σ u H.outs) fun x => A.exitL (lvS H.s) (H.outs.map fun x => lvS x.2) x.1 x.2
def runC (C : Cfg) (u : HL D []) : TCode → Nat → {X : Type} → XS D → (TExit → XS D → M X) → M X
  | .skip, _, _, σ, k => k .normal σ
  | .nrm pers, _, _, σ, k => if okS σ then k .normal (norm σ pers) else A.fail
  | .reg _ draw ops pers, _, _, σ, k =>
    match draw with
    | none => spOps A C u ops σ fun _ σ' => if okS σ' then k .normal (norm σ' pers) else A.fail
    | some deps => spFL A C u ops (List.range ops.length) σ fun fs σ' => if okPairsB deps fs && okS σ' then k .normal (norm σ' pers) else A.fail
  | .seq a b, i, _, σ, k => match selJ i C.HL with
    | none => runC C u a (i + 1) σ fun e σ' => match e with | .normal => runC C u b (i + 1 + marks a) σ' k | e => k e σ'
    | some H => A.join (H.outs.map fun x => lvS x.2) (runC C u a (i + 1) σ fun e σ' => match injE A e σ' u H.outs with | some x => A.out (H.outs.map fun x => lvS x.2) x.1 x.2 | none => A.fail)
        fun j ho => onOut A (fillEx H.outs j ho) fun x => match x.1 with | .normal => runC C u b (i + 1 + marks a) x.2 k | e => k e x.2
  | .cond c a b, i, _, σ, k => opd A c σ fun t _ => condX A (runC C u a i (knownO A c true σ) k) (runC C u b (i + marks a) (knownO A c false σ) k) t
  | .block id b, i, _, σ, k => runC C u b i σ fun e σ' => match e with | .exit j => if j = id then k .normal σ' else k (.exit j) σ' | e => k e σ'
  | .loop b, i, _, σ, k => match selH A i σ u C.HL with
    | some ⟨H, h⟩ => A.loop H.nm (lvS H.s) (H.outs.map fun x => lvS x.2) h
        (fun h => runC C u b (i + 1) (fillS H.s h) (roundK A H u))
        fun j ho => onOut A (fillEx H.outs j ho) fun x => k x.1 x.2
    | none => A.fail
  | .exit id, _, _, σ, k => k (.exit id) σ
  | .ret, _, _, σ, k => k .ret σ
  | .pre l a, i, _, σ, k => shrs A l σ fun _ σ' => if okS σ' then runC C u a i (anew σ') k else A.fail
  | .post a l, i, _, σ, k => runC C u a i σ fun e σ' => shrs A l σ' fun _ σ2 => if okS σ2 then k e (anew σ2) else A.fail
def takeR1 (np : Nat) (t : XV D) : XM D M X (XV D) :=
  match t with
  | .pk p vs => take1 A (!isPar np p.root) (.pk p vs)
  | t => take1 A true t
def takeRL (np : Nat) : List (XV D) → XM D M X (List (XV D))
  | [] => ret []
  | t :: r => bind (takeR1 A np t) fun t' => bind (takeRL np r) fun r' => ret (t' :: r')
def takeRV (np : Nat) (t : XV D) : XM D M X (List (XV D) × RSh) :=
  match t with
  | .agg l => bind (takeRL A np l) fun l' => ret (l', .agg l'.length)
  | t => bind (takeR1 A np t) fun t' => ret ([t'], .one)
def res1 (np : Nat) : TRs → XM D M X (List (XV D) × RSh)
  | .tmp t => bind (rdT t) fun tv => takeRV A np tv
  | .cell t n => bind (rdT t) fun tv => match tv with
    | .ptr p vs => bind (chk A p p.hops.length vs) fun _ => match n with
      | none => bind (getPl A p) fun t => bind (peek1 A p t) fun t' => takeRV A np t'
      | some n => bind (peekL A p n) fun l => takeRV A np (.agg l)
    | _ => fail A
def resL (np : Nat) : List TRs → XM D M X (List (XV D) × List RSh)
  | [] => ret ([], [])
  | r :: rs => bind (res1 A np r) fun x => bind (resL np rs) fun y => ret (x.1 ++ y.1, x.2 :: y.2)
def isPtrX : XV D → Bool
  | .ptr _ _ => true
  | _ => false
def ptrsInX (pp : List Nat) : Nat → List (XV D) → Bool
  | _, [] => true
  | i, t :: r => (!isPtrX t || pp.contains i) && ptrsInX pp (i + 1) r
def ptsOf (σ : XS D) : List (Nat × List (XV D)) → List (Nat × List (XV D))
  | [] => []
  | x :: r => (x.1, (aget σ.ce x.1).getD []) :: ptsOf σ r
/-- One function's run. -/
def runT (C : Cfg) (u : HL D []) (tf : TFn) (outs : List XO) (vals : List (XV D)) (pts : List (Nat × List (XV D))) : M (OutT (outs.map lvO)) :=
  if vals.length = tf.np ∧ ptrsInX tf.pp 0 vals = true then
    runC A C u tf.body 0 (mkSt vals pts) fun e σ => match e with
      | .exit _ => A.fail
      | _ => resL A tf.np tf.res σ fun y σ' => onOut A (injO A y.1 y.2 (ptsOf σ' pts) u outs) fun x => A.out (outs.map lvO) x.1 x.2
  else A.fail
end
end X
end Go.Proofs.Ytkmbahlpmoljpaa
/- Typed data and the cells they stand for; no condition. -/
set_option linter.unusedVariables false
set_option linter.unusedSimpArgs false
namespace Go.Proofs.Ytkmbahlpmoljpaa
open Go.RowKit

/-! ## One cell -/
def er1 : (t : CT) → den t → TV
  | .int k, x => .v (.int k x)
  | .bool, x => .v (.bool x)
  | .str, x => .v (.string x)
  | .nat, _ => .dead
  | .row true t, xs => .ow (List.map (enc t) xs)
  | .row false t, xs => .sl (List.map (enc t) xs)
  | .nilr true, _ => .ow []
  | .nilr false, _ => .sl []
  | .pair _ _, _ => .dead
def erP (p : XP den) : Place := ⟨p.root, p.off, p.hops⟩
mutual
def er : XV den → TV
  | .d t x => er1 t x
  | .k x => .v x
  | .dead => .dead
  | .ptr p vs => .ptr (erP p) vs
  | .ip l => .ip (erL l)
  | .pk p vs => .pk (erP p) vs
  | .pw p vs sz lo n => .pw (erP p) vs sz lo n
  | .agg l => .agg (erL l)
  | .tup l => .tup (erL l)
  | .fn f l => .fn f (erL l)
def erL : List (XV den) → List TV
  | [] => []
  | x :: r => er x :: erL r
end
def erC (l : List (Nat × List (XV den))) : List (Nat × List TV) := l.map fun x => (x.1, erL x.2)
def erS (σ : XS den) : St := ⟨σ.tm.map fun x => (x.1, er x.2), erC σ.ce, σ.vr⟩

theorem erL_eq (l : List (XV den)) : erL l = l.map er := by
  induction l with
  | nil => rfl
  | cons x r ih => simp only [erL, List.map_cons, ih]
theorem erL_len (l : List (XV den)) : (erL l).length = l.length := by rw [erL_eq]; simp
theorem erL_append (a b : List (XV den)) : erL (a ++ b) = erL a ++ erL b := by simp [erL_eq]
theorem erL_take (l : List (XV den)) (n : Nat) : erL (l.take n) = (erL l).take n := by simp [erL_eq, List.map_take]
theorem erL_drop (l : List (XV den)) (n : Nat) : erL (l.drop n) = (erL l).drop n := by simp [erL_eq, List.map_drop]
theorem erL_getD (l : List (XV den)) (i : Nat) : er (l.getD i .dead) = (erL l).getD i .dead := by
  rw [erL_eq]
  simp only [List.getD_eq_getElem?_getD, List.getElem?_map]
  cases l[i]? <;> rfl
theorem erL_set (l : List (XV den)) (i : Nat) (t : XV den) : erL (l.set i t) = (erL l).set i (er t) := by simp [erL_eq, List.map_set]
theorem erL_headD (l : List (XV den)) : er (l.headD .dead) = (erL l).headD .dead := by cases l <;> rfl

theorem row_map {o : Bool} {t t' : CT} (xs : List (den t)) (f : den t → den t') (h : ∀ y, enc t' (f y) = enc t y) : enc (.row o t') (List.map f xs) = enc (.row o t) xs := by
  have e : List.map (enc t') (List.map f xs) = List.map (enc t) xs := by
    rw [List.map_map]
    exact List.map_congr_left fun y _ => h y
  cases o
  · show [TV.sl (List.map (enc t') (List.map f xs))] = [TV.sl (List.map (enc t) xs)]
    rw [e]
  · show [TV.ow (List.map (enc t') (List.map f xs))] = [TV.ow (List.map (enc t) xs)]
    rw [e]
theorem enc_one {t : CT} (h : X.oneT t = true) (x : den t) : enc t x = [er1 t x] := by
  cases t with
  | row o t => cases o <;> rfl
  | nilr o => cases o <;> rfl
  | nat => simp [X.oneT] at h
  | pair a b => simp [X.oneT] at h
  | _ => rfl
theorem enc_len : ∀ (t : CT) (x : den t), (enc t x).length = ctSz t := by
  intro t
  induction t with
  | pair a b iha ihb => intro x; simp only [enc, List.length_append, iha, ihb, ctSz]
  | row o t => intro x; cases o <;> rfl
  | nilr o => intro x; cases o <;> rfl
  | _ => intro x; rfl
theorem split_er : ∀ (t : CT) (x : den t), erL (X.splitX realA t x) = enc t x := by
  intro t
  induction t with
  | pair a b iha ihb =>
    intro x
    simp only [X.splitX, erL_append, enc]
    rw [iha, ihb]; rfl
  | row o t => intro x; cases o <;> rfl
  | nilr o => intro x; cases o <;> rfl
  | _ => intro x; rfl
theorem nthX_eq {α : Type} (l : List α) : ∀ i, nthX l i = l[i]? := by
  induction l with
  | nil => intro i; rfl
  | cons x r ih => intro i; cases i with | zero => rfl | succ i => simp [nthX, ih]
theorem split_nth {t : CT} {x : den t} {o : Nat} {v : XV den} (h : nthX (X.splitX realA t x) o = some v) : (enc t x)[o]? = some (er v) := by
  rw [nthX_eq] at h
  rw [← split_er, erL_eq, List.getElem?_map, h]; rfl

/-! ## Data of one kind read as of another -/
theorem le_enc : ∀ {t u : CT} (x : den t), ctLe t u = true → enc u (coeD t u x) = enc t x := by
  intro t
  induction t with
  | int k => intro u x h; cases u <;> simp [ctLe] at h; subst h; rfl
  | bool => intro u x h; cases u <;> simp [ctLe] at h; rfl
  | str => intro u x h; cases u <;> simp [ctLe] at h; rfl
  | nat => intro u x h; cases u <;> simp [ctLe] at h; rfl
  | row o t ih =>
    intro u x h
    cases u <;> simp [ctLe] at h
    rename_i o' t'
    obtain ⟨rfl, h⟩ := h
    exact row_map x (coeD t t') fun y => ih y h
  | nilr o =>
    intro u x h
    cases u <;> simp [ctLe] at h
    · subst h; cases o <;> rfl
    · subst h; cases o <;> rfl
  | pair a b iha ihb =>
    intro u x h
    cases u <;> simp [ctLe] at h
    rename_i a' b'
    show enc a' (coeD a a' x.1) ++ enc b' (coeD b b' x.2) = enc a x.1 ++ enc b x.2
    rw [iha _ h.1, ihb _ h.2]
theorem asT_enc {t u : CT} {x : den t} {y : den u} (h : asT realA t u x = some y) : enc u y = enc t x := by
  unfold asT at h
  split at h
  · rename_i he
    have := ctBeq_eq he
    subst this
    injection h with h
    rw [← h]
  · split at h
    · rename_i hl
      injection h with h
      rw [← h]
      exact le_enc x hl
    · simp at h
theorem asT_one {t u : CT} {x : den t} {y : den u} (h : asT realA t u x = some y) : X.oneT u = X.oneT t := by
  unfold asT at h
  split at h
  · rename_i he
    rw [ctBeq_eq he]
  · split at h
    · rename_i hl
      cases t <;> cases u <;> simp [ctLe] at hl <;> rfl
    · simp at h
theorem asT_er {t u : CT} {x : den t} {y : den u} (h : asT realA t u x = some y) : er1 u y = er1 t x := by
  have h1 := asT_enc h
  have h2 := asT_one h
  cases ht : X.oneT t with
  | true =>
    rw [enc_one (by rw [h2, ht]), enc_one ht] at h1
    injection h1
  | false =>
    rw [ht] at h2
    cases t <;> simp [X.oneT] at ht <;> cases u <;> simp [X.oneT] at h2 <;> rfl

/-! ## What is shared has no owner within -/
theorem cast_map {α β : Type} (h : α = β) (h2 : List α = List β) (xs : List α) : cast h2 xs = xs.map (cast h) := by
  subst h
  exact (List.map_id xs).symm
theorem cast_pair {α β γ δ : Type} (h1 : α = γ) (h2 : β = δ) (h : (α × β) = (γ × δ)) (x : α × β) : cast h x = (cast h1 x.1, cast h2 x.2) := by
  subst h1; subst h2; rfl
theorem sim_self : ∀ t, ctSim t t = true := by
  intro t
  induction t with
  | row o t ih => simpa [ctSim] using ih
  | pair a b iha ihb => simp [ctSim, iha, ihb]
  | _ => simp [ctSim]
theorem sim_imm : ∀ t, ctSim t (immT t) = true := by
  intro t
  induction t with
  | row o t ih => cases o with
    | true => simpa [immT, ctSim] using ih
    | false => simpa [immT] using sim_self (.row false t)
  | pair a b iha ihb => simp [immT, ctSim, iha, ihb]
  | nilr o => simp [immT, ctSim]
  | _ => simp [immT, ctSim]
theorem enc_imm : ∀ (t : CT) (h : den t = den (immT t)) (x : den t), enc (immT t) (cast h x) = TV.immL (enc t x) := by
  intro t
  induction t with
  | row o t ih =>
    intro h x
    cases o with
    | false => rfl
    | true =>
      have h' : den t = den (immT t) := ctSim_den (sim_imm t)
      have e : (cast h x : den (.row false (immT t))) = (List.map (cast h') (x : List (den t)) : List (den (immT t))) := cast_map h' h x
      show enc (.row false (immT t)) (cast h x) = TV.immL [TV.ow (List.map (enc t) (x : List (den t)))]
      rw [e]
      show [TV.sl (List.map (enc (immT t)) (List.map (cast h') (x : List (den t))))] = [TV.sl (TV.immLL (List.map (enc t) (x : List (den t))))]
      rw [List.map_map, TV.immLL_eq, List.map_map]
      congr 2
      refine List.map_congr_left fun y _ => ?_
      simp only [Function.comp_apply]
      rw [ih h' y, TV.immL_eq]
  | nilr o => intro h x; cases o <;> rfl
  | pair a b iha ihb =>
    intro h x
    have ha := ctSim_den (sim_imm a)
    have hb := ctSim_den (sim_imm b)
    have e : (cast h x : den (.pair (immT a) (immT b))) = ((cast ha x.1, cast hb x.2) : den (immT a) × den (immT b)) := cast_pair ha hb h x
    show enc (.pair (immT a) (immT b)) (cast h x) = TV.immL (enc a x.1 ++ enc b x.2)
    rw [e]
    show enc (immT a) (cast ha x.1) ++ enc (immT b) (cast hb x.2) = _
    rw [iha ha, ihb hb]
    simp [TV.immL_eq]
  | _ => intro h x; rfl
theorem immX_er {x y : XV den} (h : X.immX realA x = some y) : er y = (er x).imm := by
  unfold X.immX at h
  split at h
  · injection h with h; subst h; rfl
  · injection h with h; subst h; rfl
  · injection h with h; subst h; rfl
  · injection h with h; subst h; rfl
  · rename_i o _
    injection h with h; subst h
    cases o <;> rfl
  · rename_i t xs
    split at h
    · rename_i hs
      injection h with h
      subst h
      have := enc_imm (.row true t) (ctSim_den hs) xs
      simp only [immT] at this
      have e1 : enc (.row false (immT t)) (cast (ctSim_den hs) xs) = [er1 (.row false (immT t)) (cast (ctSim_den hs) xs)] := rfl
      rw [e1] at this
      show er1 (.row false (immT t)) (cast (ctSim_den hs) xs) = (er1 (.row true t) xs).imm
      simpa [TV.immL, enc, er1] using this
    · simp at h
  · injection h with h; subst h; rfl
  · simp at h
theorem immXL_er : ∀ {l l' : List (XV den)}, X.immXL realA l = some l' → erL l' = (erL l).map TV.imm := by
  intro l
  induction l with
  | nil => intro l' h; simp only [X.immXL, Option.some.injEq] at h; subst h; rfl
  | cons x l ih =>
    intro l' h
    simp only [X.immXL] at h
    split at h
    · rename_i y r h1 h2
      injection h with h
      subst h
      simp only [erL, List.map_cons]
      rw [immX_er h1, ih h2]
    · simp at h
theorem shT_sim : ∀ {t : CT} {o : Nat} {os : List Nat} {t' : CT}, shT t o os = some t' → ctSim t t' = true := by
  intro t
  induction t with
  | pair a b iha ihb =>
    intro o os t' h
    simp only [shT] at h
    split at h
    · obtain ⟨u, h1, rfl⟩ := omap h
      simp [ctSim, iha h1, sim_self]
    · obtain ⟨u, h1, rfl⟩ := omap h
      simp [ctSim, ihb h1, sim_self]
  | row ow t ih =>
    intro o os t' h
    cases ow with
    | true =>
      cases o with
      | zero =>
        cases os with
        | nil => simp only [shT, Option.some.injEq] at h; subst h; exact sim_imm _
        | cons o os =>
          simp only [shT] at h
          obtain ⟨u, h1, rfl⟩ := omap h
          simpa [ctSim] using ih h1
      | succ o => simp only [shT, Option.some.injEq] at h; subst h; exact sim_self _
    | false =>
      cases o with
      | zero =>
        cases os with
        | nil => simp only [shT, Option.some.injEq] at h; subst h; exact sim_imm _
        | cons o os => simp only [shT, Option.some.injEq] at h; subst h; exact sim_self _
      | succ o => simp only [shT, Option.some.injEq] at h; subst h; exact sim_self _
  | _ =>
    intro o os t' h
    cases o with
    | zero =>
      cases os with
      | nil => simp only [shT, Option.some.injEq] at h; subst h; exact sim_imm _
      | cons o os => simp only [shT, Option.some.injEq] at h; subst h; exact sim_self _
    | succ o => simp only [shT, Option.some.injEq] at h; subst h; exact sim_self _
theorem modify_imm (l : List TV) (h : l.length ≤ 1) : TV.immL l = l.modify 0 fun y => shareT y [] := by
  match l, h with
  | [], _ => rfl
  | [y], _ => cases y <;> rfl
theorem modify_far (l : List TV) (h : l.length ≤ 1) (o : Nat) (f : TV → TV) : l.modify (o + 1) f = l := List.modify_eq_self (by omega)
theorem mod_left {α : Type} (l l' : List α) (f : α → α) {o : Nat} (h : o < l.length) : (l ++ l').modify o f = l.modify o f ++ l' := by
  apply List.ext_getElem?
  intro i
  simp only [List.getElem?_modify, List.getElem?_append, List.length_modify]
  by_cases hi : i < l.length
  · simp only [hi, if_true]
  · have : ¬ o = i := by omega
    simp only [hi, if_false, this]; simp
theorem mod_right {α : Type} (l l' : List α) (f : α → α) {o : Nat} (h : l.length ≤ o) : (l ++ l').modify o f = l ++ l'.modify (o - l.length) f := by
  apply List.ext_getElem?
  intro i
  simp only [List.getElem?_modify, List.getElem?_append]
  by_cases hi : i < l.length
  · have : ¬ o = i := by omega
    simp only [hi, if_true, this, if_false]; simp
  · have : (o = i) ↔ (o - l.length = i - l.length) := by omega
    simp only [hi, if_false, this]
theorem enc_share : ∀ (t : CT) (o : Nat) (os : List Nat) (t' : CT) (h : den t = den t') (x : den t), shT t o os = some t' → enc t' (cast h x) = (enc t x).modify o fun y => shareT y os := by
  intro t
  induction t with
  | pair a b iha ihb =>
    intro o os t' h x hs
    simp only [shT] at hs
    show _ = (enc a x.1 ++ enc b x.2).modify o fun y => shareT y os
    split at hs
    · rename_i ho
      obtain ⟨u, h1, rfl⟩ := omap hs
      have ha := ctSim_den (shT_sim h1)
      have e : (cast h x : den (.pair u b)) = ((cast ha x.1, cast rfl x.2) : den u × den b) := cast_pair ha rfl h x
      rw [e]
      show enc u (cast ha x.1) ++ enc b x.2 = _
      rw [iha o os u ha x.1 h1, mod_left _ _ _ (by rw [enc_len]; exact ho)]
    · rename_i ho
      obtain ⟨u, h1, rfl⟩ := omap hs
      have hb := ctSim_den (shT_sim h1)
      have e : (cast h x : den (.pair a u)) = ((cast rfl x.1, cast hb x.2) : den a × den u) := cast_pair rfl hb h x
      rw [e]
      show enc a x.1 ++ enc u (cast hb x.2) = _
      rw [ihb _ os u hb x.2 h1, mod_right _ _ _ (by rw [enc_len]; omega), enc_len]
  | row ow t ih =>
    intro o os t' h x hs
    have hl : (enc (.row ow t) x).length ≤ 1 := by rw [enc_len]; exact Nat.le_refl _
    cases o with
    | succ o =>
      rw [modify_far _ hl]
      cases ow <;> simp only [shT, Option.some.injEq] at hs <;> subst hs <;> rfl
    | zero =>
      cases os with
      | nil =>
        rw [← modify_imm _ hl]
        have e : t' = immT (.row ow t) := by cases ow <;> simp only [shT, Option.some.injEq] at hs <;> exact hs.symm
        subst e
        exact enc_imm _ h x
      | cons o os =>
        cases ow with
        | false => simp only [shT, Option.some.injEq] at hs; subst hs; rfl
        | true =>
          simp only [shT] at hs
          obtain ⟨u, h1, rfl⟩ := omap hs
          have h' : den t = den u := ctSim_den (shT_sim h1)
          have e : (cast h x : den (.row true u)) = (List.map (cast h') (x : List (den t)) : List (den u)) := cast_map h' h x
          rw [e]
          show [TV.ow (List.map (enc u) (List.map (cast h') (x : List (den t))))] = [TV.ow ((List.map (enc t) (x : List (den t))).map fun el => el.modify o fun t => shareT t os)]
          rw [List.map_map, List.map_map]
          congr 2
          exact List.map_congr_left fun y _ => ih o os u h' y h1
  | nilr ow =>
    intro o os t' h x hs
    have hl : (enc (.nilr ow) x).length ≤ 1 := by rw [enc_len]; exact Nat.le_refl _
    cases o with
    | succ o =>
      rw [modify_far _ hl]
      simp only [shT, Option.some.injEq] at hs; subst hs; rfl
    | zero =>
      cases os with
      | nil =>
        rw [← modify_imm _ hl]
        simp only [shT, Option.some.injEq] at hs
        subst hs
        exact enc_imm _ h x
      | cons o os => simp only [shT, Option.some.injEq] at hs; subst hs; cases ow <;> rfl
  | _ =>
    intro o os t' h x hs
    cases o with
    | succ o =>
      rw [modify_far _ (by rw [enc_len]; simp [ctSz])]
      simp only [shT, Option.some.injEq] at hs; subst hs; rfl
    | zero =>
      cases os with
      | nil =>
        rw [← modify_imm _ (by rw [enc_len]; simp [ctSz])]
        simp only [shT, Option.some.injEq] at hs
        subst hs
        exact enc_imm _ h x
      | cons o os => simp only [shT, Option.some.injEq] at hs; subst hs; rfl
theorem shareX_er {x y : XV den} {os : List Nat} (h : X.shareX realA x os = some y) : er y = shareT (er x) os := by
  unfold X.shareX at h
  split at h
  · rename_i t xs
    split at h
    · rename_i t' hs
      split at h
      · rename_i hsim
        injection h with h
        subst h
        have := enc_share t 0 os t' (ctSim_den hsim) xs hs
        show er1 t' (cast (ctSim_den hsim) xs) = shareT (er1 t xs) os
        cases ht : X.oneT t with
        | true =>
          have ht' : X.oneT t' = true := by cases t <;> simp [X.oneT] at ht <;> cases t' <;> simp [ctSim] at hsim <;> rfl
          rw [enc_one ht, enc_one ht'] at this
          simpa using this
        | false =>
          cases t <;> simp [X.oneT] at ht <;> cases t' <;> simp [ctSim] at hsim <;> cases os <;> rfl
      · simp at h
    · simp at h
  · simp at h

/-! ## Ways into rows -/
theorem getX_ok {Y : Type} : ∀ {hs : List (den .nat × Nat × Nat)} {tv : XV den} {k : XV den → Option Y} {o : Y}, X.getX realA tv hs k = some o → ∃ v, getT (er tv) hs = some (er v) ∧ k v = some o := by
  intro hs
  induction hs with
  | nil => intro tv k o h; exact ⟨tv, rfl, h⟩
  | cons h1 hs ih =>
    intro tv k o h
    obtain ⟨i, sz, off⟩ := h1
    unfold X.getX at h
    split at h
    · rename_i heq; cases heq
    · rename_i t xs i' sz' o' hs' heq
      injection heq with e1 e2
      injection e1 with e3 e4
      injection e4 with e4 e5
      subst e3; subst e4; subst e5; subst e2
      split at h
      · rename_i hsz
        obtain ⟨e, he, h2⟩ := obind (show (get? xs i).bind _ = some o from h)
        split at h2
        · rename_i v hv
          obtain ⟨w, hw, hk⟩ := ih h2
          refine ⟨w, ?_, hk⟩
          have h3 : (List.map (enc t) xs)[i]? = some (enc t e) := by
            have : xs[i]? = some e := he
            rw [List.getElem?_map, this]; rfl
          show (match (List.map (enc t) xs)[i]? with | some el => if el.length = sz then (match el[off]? with | some t => getT t hs | none => none) else none | none => none) = _
          rw [h3]
          simp only [enc_len, hsz, if_true, split_nth hv]
          exact hw
        · cases h2
      · cases h
    · cases h
theorem setD_enc {G : (u : CT) → Option (den u → den u)} {φ : TV → TV} (hG : ∀ u h, G u = some h → X.oneT u = true → ∀ x, er1 u (h x) = φ (er1 u x)) : ∀ {t : CT} {o : Nat} {g : den t → den t}, X.setD realA t o G = some g → ∀ x, enc t (g x) = (enc t x).modify o φ := by
  intro t
  induction t with
  | pair a b iha ihb =>
    intro o g h x
    simp only [X.setD] at h
    show _ = (enc a x.1 ++ enc b x.2).modify o φ
    split at h
    · rename_i ho
      obtain ⟨f, h1, rfl⟩ := omap h
      show enc a (f x.1) ++ enc b x.2 = _
      rw [iha h1, mod_left _ _ _ (by rw [enc_len]; exact ho)]
    · rename_i ho
      obtain ⟨f, h1, rfl⟩ := omap h
      show enc a x.1 ++ enc b (f x.2) = _
      rw [ihb h1, mod_right _ _ _ (by rw [enc_len]; omega), enc_len]
  | nat => intro o g h; simp [X.setD] at h
  | _ =>
    intro o g h x
    cases o with
    | succ o => simp [X.setD] at h
    | zero =>
      simp only [X.setD] at h
      have h1 := hG _ g h rfl x
      refine (enc_one rfl (g x)).trans ?_
      rw [h1]
      exact (congrArg (fun l => List.modify l 0 φ) (enc_one rfl x)).symm
theorem asF_er {v : XV den} {u : CT} {f : den u → den u} (h : X.asF realA v u = some f) (x : den u) : er1 u (f x) = er v := by
  unfold X.asF at h
  split at h
  · obtain ⟨y, h1, rfl⟩ := omap h
    exact asT_er h1
  · simp at h
theorem setH_er : ∀ {hs : List (den .nat × Nat × Nat)} {v : XV den} {u : CT} {f : den u → den u}, X.setH realA hs v u = some f → ∀ x, er1 u (f x) = setT (er1 u x) hs (er v) := by
  intro hs
  induction hs with
  | nil => intro v u f h x; exact asF_er h x
  | cons h1 hs ih =>
    intro v u f h x
    obtain ⟨i, sz, o⟩ := h1
    cases u with
    | row ow t => cases ow with
      | false => simp [X.setH] at h
      | true =>
        simp only [X.setH] at h
        split at h
        · rename_i hsz
          obtain ⟨g, hg, rfl⟩ := omap h
          have := setD_enc (φ := fun t1 => setT t1 hs (er v)) (fun u h hu _ x => ih hu x) hg
          show TV.ow (List.map (enc t) (List.modify (x : List (den t)) i g)) = TV.ow ((List.map (enc t) x).modify i fun el => el.modify o fun t1 => setT t1 hs (er v))
          congr 1
          apply List.ext_getElem?
          intro j
          simp only [List.getElem?_map, List.getElem?_modify]
          by_cases hij : i = j
          · simp only [hij, if_true]
            cases (x : List (den t))[j]? with
            | none => rfl
            | some e => exact congrArg some (this e)
          · simp only [hij, if_false]; simp
        · simp at h
    | _ => simp [X.setH] at h
theorem setX_er {tv v w : XV den} {hs : List (den .nat × Nat × Nat)} (h : X.setX realA tv hs v = some w) : er w = setT (er tv) hs (er v) := by
  unfold X.setX at h
  split at h
  · injection h with h; subst h; rfl
  · obtain ⟨f, h1, rfl⟩ := omap h
    exact setH_er h1 _
  · simp at h
end Go.Proofs.Ytkmbahlpmoljpaa
/- Steps on typed data are steps on trees: states, slots, cells, ways; no condition. -/
set_option linter.unusedVariables false
set_option linter.unusedSimpArgs false
namespace Go.Proofs.Ytkmbahlpmoljpaa
open Go.RowKit

/-! ## States -/
theorem aget_map {α β : Type} (l : List (Nat × α)) (f : α → β) (i : Nat) : aget (l.map fun x => (x.1, f x.2)) i = (aget l i).map f := by
  induction l with
  | nil => rfl
  | cons x r ih => simp only [List.map_cons, aget]; split <;> simp_all
theorem aset_map {α β : Type} (l : List (Nat × α)) (f : α → β) (i : Nat) (v : α) : aset (l.map fun x => (x.1, f x.2)) i (f v) = (aset l i v).map fun x => (x.1, f x.2) := by
  induction l with
  | nil => rfl
  | cons x r ih =>
    simp only [List.map_cons, aset]
    split
    · simp
    · simp only [List.map_cons, ih]
theorem erS_t (σ : XS den) (i : Nat) : (erS σ).t i = er (X.tOf σ i) := by
  unfold St.t X.tOf erS
  simp only [aget_map]
  cases aget σ.tm i <;> rfl
theorem erS_c (σ : XS den) (r o : Nat) : (erS σ).c r o = er (X.cOf σ r o) := by
  unfold St.c X.cOf erS erC
  simp only [aget_map]
  cases aget σ.ce r with
  | none => rfl
  | some l => exact (erL_getD l o).symm
theorem erS_ce (σ : XS den) (r : Nat) : aget (erS σ).ce r = (aget σ.ce r).map erL := aget_map _ _ _

/-- What was read and written has been noted. -/
structure Noted (σ σ' : XS den) (f : Foot) : Prop where
  r : ∀ x ∈ f.1, x ∈ σ'.lg.1
  w : ∀ x ∈ f.2, x ∈ σ'.lg.2
  r0 : ∀ x ∈ σ.lg.1, x ∈ σ'.lg.1
  w0 : ∀ x ∈ σ.lg.2, x ∈ σ'.lg.2
theorem Noted.refl (σ : XS den) : Noted σ σ ([], []) := ⟨fun x h => by simp at h, fun x h => by simp at h, fun _ h => h, fun _ h => h⟩
theorem Noted.by {σ σ' : XS den} {f : Foot} (R W : List Loc) (e1 : σ'.lg.1 = R ++ σ.lg.1) (e2 : σ'.lg.2 = W ++ σ.lg.2) (h1 : f.1 = R) (h2 : f.2 = W) : Noted σ σ' f :=
  ⟨fun x h => by rw [e1]; simp [← h1, h], fun x h => by rw [e2]; simp [← h2, h], fun x h => by rw [e1]; simp [h], fun x h => by rw [e2]; simp [h]⟩
/-- A step on typed data is one on trees. -/
def Sim {α β Y : Type} (m : XM den Option Y α) (s : SP β) (f : α → β) : Prop :=
  ∀ (σ : XS den) (k : α → XS den → Option Y) (o : Y), m σ k = some o → ∃ a σ', s.run (erS σ) = some (f a, erS σ') ∧ Noted σ σ' (s.foot (erS σ)) ∧ k a σ' = some o

theorem SP.foot_bind {α β : Type} (s : SP α) (g : α → SP β) : ∀ {σ σ1 : St} {a : α}, s.run σ = some (a, σ1) → (s.bind g).foot σ = ((s.foot σ).1 ++ ((g a).foot σ1).1, (s.foot σ).2 ++ ((g a).foot σ1).2) := by
  induction s with
  | ret a => intro σ σ1 b h; simp only [SP.run, Option.some.injEq, Prod.mk.injEq] at h; obtain ⟨rfl, rfl⟩ := h; simp [SP.bind, SP.foot]
  | fail => intro σ σ1 b h; simp [SP.run] at h
  | rdT i k ih => intro σ σ1 b h; simp only [SP.bind, SP.foot]; rw [ih _ h]; simp
  | rdC r o k ih => intro σ σ1 b h; simp only [SP.bind, SP.foot]; rw [ih _ h]; simp
  | rdV q k ih => intro σ σ1 b h; simp only [SP.bind, SP.foot]; rw [ih _ h]; simp
  | wrT i t k ih => intro σ σ1 b h; simp only [SP.bind, SP.foot]; rw [ih h]; simp
  | wrC r o t k ih =>
    intro σ σ1 b h
    obtain ⟨l, hl, ho, h2⟩ := SP.run_wrC h
    simp only [SP.bind, SP.foot, hl, ho, if_true]
    rw [ih h2]; simp
  | new r l k ih => intro σ σ1 b h; simp only [SP.bind, SP.foot]; rw [ih h]; simp
  | bump q k ih => intro σ σ1 b h; simp only [SP.bind, SP.foot]; rw [ih h]; simp

section
variable {α β γ δ Y : Type}
theorem Sim.ret {a : α} {b : β} {f : α → β} (h : f a = b) : Sim (Y := Y) (X.ret a) (.ret b) f := fun σ k o hk => ⟨a, σ, by rw [h]; rfl, Noted.refl σ, hk⟩
theorem Sim.fail {s : SP β} {f : α → β} : Sim (Y := Y) (X.fail realA) s f := fun σ k o hk => by cases hk
theorem Sim.bind {m : XM den Option Y α} {s : SP β} {f : α → β} {g : α → XM den Option Y γ} {h : β → SP δ} {f' : γ → δ} (h1 : Sim m s f) (h2 : ∀ a, Sim (g a) (h (f a)) f') : Sim (X.bind m g) (s.bind h) f' := by
  intro σ k o hk
  obtain ⟨a, σ1, r1, n1, k1⟩ := h1 σ _ o hk
  obtain ⟨c, σ2, r2, n2, k2⟩ := h2 a σ1 k o k1
  refine ⟨c, σ2, by rw [SP.run_bind, r1]; exact r2, ?_, k2⟩
  rw [SP.foot_bind s h r1]
  refine ⟨fun x hx => ?_, fun x hx => ?_, fun x hx => n2.r0 x (n1.r0 x hx), fun x hx => n2.w0 x (n1.w0 x hx)⟩
  · rcases List.mem_append.1 hx with hx | hx
    · exact n2.r0 x (n1.r x hx)
    · exact n2.r x hx
  · rcases List.mem_append.1 hx with hx | hx
    · exact n2.w0 x (n1.w x hx)
    · exact n2.w x hx
/-- More may be noted. -/
theorem Sim.note {m : XM den Option Y α} {s : SP β} {f : α → β} (h : ∀ (σ : XS den) (k : α → XS den → Option Y) (o : Y), m σ k = some o → ∃ σ0, erS σ0 = erS σ ∧ (∀ x ∈ σ.lg.1, x ∈ σ0.lg.1) ∧ (∀ x ∈ σ.lg.2, x ∈ σ0.lg.2) ∧ ∃ m', Sim m' s f ∧ m' σ0 k = some o) : Sim m s f := by
  intro σ k o hk
  obtain ⟨σ0, e, q1, q2, m', hs, h2⟩ := h σ k o hk
  obtain ⟨a, σ', r, n, k2⟩ := hs σ0 k o h2
  rw [e] at r n
  exact ⟨a, σ', r, ⟨n.r, n.w, fun x hx => n.r0 x (q1 x hx), fun x hx => n.w0 x (q2 x hx)⟩, k2⟩
theorem Sim.map {m : XM den Option Y α} {s : SP β} {f f' : α → β} (h : Sim m s f) (e : ∀ a, f a = f' a) : Sim m s f' := by
  have : f = f' := funext e
  exact this ▸ h
theorem Sim.opt {o : Option α} {g : α → XM den Option Y γ} {s : SP δ} {f : γ → δ} (h : ∀ a, o = some a → Sim (g a) s f) : Sim (X.bind (X.optM realA o) g) s f := by
  intro σ k y hk
  cases o with
  | none => cases hk
  | some a => exact h a rfl σ k y hk
theorem Sim.br {c : Bool} {m : XM den Option Y α} {s : SP β} {f : α → β} (h : c = true → Sim m s f) : Sim (X.brM realA c m) s f := by
  intro σ k y hk
  cases c with
  | false => cases hk
  | true => exact h rfl σ k y hk
theorem Sim.get {ow : Bool} {t : CT} {xs : List (den t)} {i : Nat} {g : den t → XM den Option Y γ} {s : SP δ} {f : γ → δ} (h : ∀ e, xs[i]? = some e → Sim (g e) s f) : Sim (X.atM realA ow t xs i g) s f := by
  intro σ k y hk
  obtain ⟨e, h1, h2⟩ := obind (show (get? xs i).bind _ = some y from hk)
  exact h e h1 σ k y h2
theorem Sim.nat {kd : IntKind} {n : Int} {g : Nat → XM den Option Y γ} {s : SP δ} {f : γ → δ} (h : ∀ m : Nat, n = m → Sim (g m) s f) : Sim (X.natM realA kd n g) s f := by
  intro σ k y hk
  obtain ⟨e, h1, h2⟩ := obind (show (nat? n).bind _ = some y from hk)
  refine h e ?_ σ k y h2
  cases n with
  | ofNat m => simp only [nat?, Option.some.injEq] at h1; rw [h1]; rfl
  | negSucc m => simp [nat?] at h1
theorem Sim.ite {c : Prop} [Decidable c] {m m' : XM den Option Y α} {s : SP β} {f : α → β} (h : c → Sim m s f) (h' : ¬ c → Sim m' s f) : Sim (if c then m else m') s f := by
  split
  · exact h ‹_›
  · exact h' ‹_›

/-! ## Slots and cells -/
theorem letL_real {Y : Type} : ∀ (l : List (XV den)) (k : List (XV den) → Option Y), X.letL realA l k = k l := by
  intro l
  induction l with
  | nil => intro k; rfl
  | cons x r ih =>
    intro k
    cases x <;> first | exact ih _ | (simp only [X.letL]; exact ih _)
theorem letX_real {Y : Type} (t : XV den) (k : XV den → Option Y) : X.letX realA t k = k t := by
  cases t with
  | agg l => exact letL_real l _
  | _ => rfl
theorem sim_rdT (i : Nat) : Sim (Y := Y) (X.rdT i) (.rdT i .ret) er := fun σ k o hk => ⟨X.tOf σ i, X.lgR (.t i) σ, by simp only [SP.run]; rw [erS_t]; rfl, .by [.t i] [] rfl rfl rfl rfl, hk⟩
theorem sim_rdC (r o : Nat) : Sim (Y := Y) (X.rdC r o) (.rdC r o .ret) er := fun σ k y hk => ⟨X.cOf σ r o, X.lgR (.c r o) σ, by simp only [SP.run]; rw [erS_c]; rfl, .by [.c r o] [] rfl rfl rfl rfl, hk⟩
theorem sim_rdV (q : Key) : Sim (Y := Y) (X.rdV q) (.rdV q .ret) id := fun σ k o hk => ⟨vget σ.vr q, X.lgR (.v q) σ, rfl, .by [.v q] [] rfl rfl rfl rfl, hk⟩
theorem sim_wrT (i : Nat) (t : XV den) : Sim (Y := Y) (X.wrT realA i t) (.wrT i (er t) (.ret ())) id := fun σ k o hk => by
  unfold X.wrT at hk
  rw [letX_real] at hk
  refine ⟨(), ⟨aset σ.tm i t, σ.ce, σ.vr, (σ.lg.1, .t i :: σ.lg.2)⟩, ?_, .by [] [.t i] rfl rfl rfl rfl, hk⟩
  simp only [SP.run, erS, id_eq]
  rw [aset_map]
theorem sim_wrC (r o : Nat) (t : XV den) : Sim (Y := Y) (X.wrC realA r o t) (.wrC r o (er t) (.ret ())) id := fun σ k y hk => by
  unfold X.wrC at hk
  split at hk
  · rename_i l hl
    split at hk
    · rename_i ho
      rw [letX_real] at hk
      have hl' : aget (erS σ).ce r = some (erL l) := by rw [erS_ce, hl]; rfl
      have ho' : o < (erL l).length := by rw [erL_len]; exact ho
      refine ⟨(), ⟨σ.tm, aset σ.ce r (l.set o t), σ.vr, (.n r :: σ.lg.1, .c r o :: σ.lg.2)⟩, ?_, .by [.n r] [.c r o] rfl rfl (by simp only [SP.foot, hl', ho', if_true]) (by simp only [SP.foot, hl', ho', if_true]), hk⟩
      simp only [SP.run, hl', ho', if_true, id_eq]
      congr 2
      unfold erS erC
      simp only
      rw [← erL_set, aset_map]
    · cases hk
  · cases hk
theorem sim_new (r : Nat) (l : List (XV den)) : Sim (Y := Y) (X.new realA r l) (.new r (erL l) (.ret ())) id := fun σ k y hk => by
  unfold X.new at hk
  rw [letL_real] at hk
  refine ⟨(), ⟨σ.tm, aset σ.ce r l, vinc σ.vr (r, 0, 0), (.v (r, 0, 0) :: σ.lg.1, .n r :: .v (r, 0, 0) :: σ.lg.2)⟩, ?_, .by [.v (r, 0, 0)] [.n r, .v (r, 0, 0)] rfl rfl rfl rfl, hk⟩
  simp only [SP.run, erS, erC, id_eq]
  rw [aset_map]
theorem sim_bump (q : Key) : Sim (Y := Y) (X.bump q) (.bump q (.ret ())) id := fun σ k y hk => ⟨(), ⟨σ.tm, σ.ce, vinc σ.vr q, (.v q :: σ.lg.1, .v q :: σ.lg.2)⟩, rfl, .by [.v q] [.v q] rfl rfl rfl rfl, hk⟩

/-! ## Constants, names, ways -/
theorem cellX_er (x : Value) : er (X.cellX realA x) = ofCell x := by
  unfold X.cellX
  split
  · rfl
  · rfl
  · rfl
  · rfl
  · rename_i h1 h2 h3 h4
    have : ofCell x = if vflat x then .v x else .dead := by
      unfold ofCell
      split
      · exact absurd rfl h1
      · rfl
    rw [this]
    split <;> rfl
theorem constX_er (x : Value) : er (X.constX realA x) = ofConst x := by
  unfold X.constX
  split
  · simp only [er, ofConst, erL_eq, List.map_map]
    congr 1
    exact List.map_congr_left fun y _ => cellX_er y
  · rename_i h
    rw [cellX_er]
    unfold ofConst
    split
    · exact absurd rfl (h _)
    · rfl
theorem sim_opd (x : Opd) : Sim (Y := Y) (X.opd realA x) (opd x) er := by
  cases x with
  | t i => exact sim_rdT i
  | c x => exact .ret (constX_er x)
  | f f => exact .ret rfl
theorem sim_rdVs : ∀ qs : List Key, Sim (Y := Y) (X.rdVs qs) (rdVs qs) id := by
  intro qs
  induction qs with
  | nil => exact .ret rfl
  | cons q qs ih => exact (sim_rdV q).bind fun n => ih.bind fun l => .ret rfl
theorem sim_chk (p : XP den) (n : Nat) (vs : List Nat) : Sim (Y := Y) (X.chk realA p n vs) (chk (erP p) n vs) id := by
  refine (sim_rdVs _).bind fun l => ?_
  refine Sim.ite (fun h => ?_) fun h => .fail
  rw [if_pos (by exact h)]
  exact .ret rfl
theorem erP_add (p : XP den) (n : Nat) : erP (X.addP p n) = (erP p).add n := by
  unfold X.addP Place.add erP
  simp only
  cases h : List.reverse p.hops with
  | nil => rfl
  | cons x r => rfl
theorem erP_at (p : XP den) (i : Nat) (sz : Nat) : erP (X.atP p i sz) = (erP p).at_ i sz := rfl
theorem erP_fits (p : XP den) (n : Nat) : X.fitsP p n = (erP p).fits n := by
  unfold X.fitsP Place.fits erP
  simp only
  cases h : List.reverse p.hops with
  | nil => rfl
  | cons x r => rfl
/-- A way is gone, and what comes then. -/
theorem sim_getX {tv : XV den} {hs : List (den .nat × Nat × Nat)} {g : XV den → XM den Option Y γ} {s : SP δ} {f : γ → δ} (h : ∀ v, getT (er tv) hs = some (er v) → Sim (g v) s f) : Sim (X.getM realA tv hs g) s f := by
  intro σ k y hk
  obtain ⟨v, h1, h2⟩ := getX_ok hk
  exact h v h1 σ k y h2
theorem sim_getPl (p : XP den) : Sim (Y := Y) (X.getPl realA p) (getPl (erP p)) er := by
  refine (sim_rdC p.root p.off).bind fun tv => ?_
  refine sim_getX fun v hv => ?_
  show Sim _ (match getT (er tv) p.hops with | some t => .ret t | none => .fail) er
  have : getT (er tv) p.hops = some (er v) := hv
  rw [this]
  exact .ret rfl
end
end Go.Proofs.Ytkmbahlpmoljpaa
