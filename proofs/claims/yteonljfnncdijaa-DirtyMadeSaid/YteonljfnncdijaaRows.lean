/-
  No cell of these rows narrows 'for every input' (looked for: loops, veiled, ifaces, maps, wideKeys, modest, calm, conditions, laid).
  DERIVED. THE GIVEN ROWS OF THIS SEAT. 5 by the template 'for every input the law returns true; each argument reads behind the call as it read before'; 0 by the template 'total and deterministic' (their statements: YteonljfnncdijaaTotals.lean).
  GIVEN WITH THE SEED: the statements are not yours to turn. If you find one false, say at which input.
  Laid BY PROGRAM, IN A SANDBOX (cutbox-rows.mjs): the forced cells as the released guide's own fill.sh prints them over the translation 85d1e386131adefa… (all of the seat's roots in one cut). By AI agents, Wed Nov 11 2026. No macro, syntax, notation, axiom, sorry.
-/
import Derived.Test.YteonljfnncdijaaChecked
import GoSem.Claim
import GoSem.ClaimJoined
import GoSem.ClaimMapViews
import Derived.JoinedTies
import Derived.KernelRfl
namespace Go.Proofs.Yteonljfnncdijaa
/- THE CELL 'sum', in the pinned program and in every row, IS THE sha256 OF THE DUMP (.gsa) THAT YteonljfnncdijaaProg.lean LOADS. Nothing in Lean hashes anything: it is a label: what it is worth is what the hold of that sum in a sandbox is worth. -/
noncomputable def Try.pinned : Pinned := { name := "yteonljfnncdijaa", sum := "85d1e386131adefac67d2b31139055c1643e30d769de9951d0146b60613a5fd8", checked := Try.checked }
namespace Rows
def none {H : Type} : Left H := { results := [], args := [] }

/-- 'redundancylaw27.DirtyLists': WHATEVER THE INPUT: true; the input reads as it did. -/
def dirtyListsSpec : ChangeSpec := { name := "dirtyLists", fn := fun _ => fun
  | [d1, d2, d3] => { results := [.lit (.bool true)], args := [d1, d2, d3] }
  | _ => none }
def dirtyListsRow : OpenClaim := { program := "yteonljfnncdijaa", sum := "85d1e386131adefac67d2b31139055c1643e30d769de9951d0146b60613a5fd8", func := "redundancy/redundancylaw27.DirtyLists", spec := "dirtyLists", unfollowed := true, recurses := true, apart := false }
def DirtyListsSaid : Prop := dirtyListsRow.holds Try.pinned (OpenSpec.ofChange dirtyListsSpec)

/-- ITS FALSE NEIGHBOUR: 'it returns false'. Refute it at one input. -/
def dirtyListsWrong : ChangeSpec := { name := "dirtyLists", fn := fun _ => fun
  | [d1, d2, d3] => { results := [.lit (.bool false)], args := [d1, d2, d3] }
  | _ => none }
def DirtyListsWrongFalsely : Prop := dirtyListsRow.holds Try.pinned (OpenSpec.ofChange dirtyListsWrong)

/-- 'redundancylaw27.DirtyMade': WHATEVER THE INPUT: true; the input reads as it did. -/
def dirtyMadeSpec : ChangeSpec := { name := "dirtyMade", fn := fun _ => fun
  | [d1, d2] => { results := [.lit (.bool true)], args := [d1, d2] }
  | _ => none }
def dirtyMadeRow : OpenClaim := { program := "yteonljfnncdijaa", sum := "85d1e386131adefac67d2b31139055c1643e30d769de9951d0146b60613a5fd8", func := "redundancy/redundancylaw27.DirtyMade", spec := "dirtyMade", unfollowed := true, recurses := true, apart := false }
def DirtyMadeSaid : Prop := dirtyMadeRow.holds Try.pinned (OpenSpec.ofChange dirtyMadeSpec)

/-- ITS FALSE NEIGHBOUR: 'it returns false'. Refute it at one input. -/
def dirtyMadeWrong : ChangeSpec := { name := "dirtyMade", fn := fun _ => fun
  | [d1, d2] => { results := [.lit (.bool false)], args := [d1, d2] }
  | _ => none }
def DirtyMadeWrongFalsely : Prop := dirtyMadeRow.holds Try.pinned (OpenSpec.ofChange dirtyMadeWrong)

/-- 'redundancylaw27.DirtyCopies': WHATEVER THE INPUT: true; the input reads as it did. -/
def dirtyCopiesSpec : ChangeSpec := { name := "dirtyCopies", fn := fun _ => fun
  | [d1, d2] => { results := [.lit (.bool true)], args := [d1, d2] }
  | _ => none }
def dirtyCopiesRow : OpenClaim := { program := "yteonljfnncdijaa", sum := "85d1e386131adefac67d2b31139055c1643e30d769de9951d0146b60613a5fd8", func := "redundancy/redundancylaw27.DirtyCopies", spec := "dirtyCopies", unfollowed := true, recurses := true, apart := false }
def DirtyCopiesSaid : Prop := dirtyCopiesRow.holds Try.pinned (OpenSpec.ofChange dirtyCopiesSpec)

/-- ITS FALSE NEIGHBOUR: 'it returns false'. Refute it at one input. -/
def dirtyCopiesWrong : ChangeSpec := { name := "dirtyCopies", fn := fun _ => fun
  | [d1, d2] => { results := [.lit (.bool false)], args := [d1, d2] }
  | _ => none }
def DirtyCopiesWrongFalsely : Prop := dirtyCopiesRow.holds Try.pinned (OpenSpec.ofChange dirtyCopiesWrong)

/-- 'redundancylaw27.DirtySides': WHATEVER THE INPUT: true; the input reads as it did. -/
def dirtySidesSpec : ChangeSpec := { name := "dirtySides", fn := fun _ => fun
  | [d] => { results := [.lit (.bool true)], args := [d] }
  | _ => none }
def dirtySidesRow : OpenClaim := { program := "yteonljfnncdijaa", sum := "85d1e386131adefac67d2b31139055c1643e30d769de9951d0146b60613a5fd8", func := "redundancy/redundancylaw27.DirtySides", spec := "dirtySides", unfollowed := true, recurses := true, apart := false }
def DirtySidesSaid : Prop := dirtySidesRow.holds Try.pinned (OpenSpec.ofChange dirtySidesSpec)

/-- ITS FALSE NEIGHBOUR: 'it returns false'. Refute it at one input. -/
def dirtySidesWrong : ChangeSpec := { name := "dirtySides", fn := fun _ => fun
  | [d] => { results := [.lit (.bool false)], args := [d] }
  | _ => none }
def DirtySidesWrongFalsely : Prop := dirtySidesRow.holds Try.pinned (OpenSpec.ofChange dirtySidesWrong)

/-- 'redundancylaw27.DirtyRaw': WHATEVER THE INPUT: true; the input reads as it did. -/
def dirtyRawSpec : ChangeSpec := { name := "dirtyRaw", fn := fun _ => fun
  | [d1, d2, d3, d4, d5, d6] => { results := [.lit (.bool true)], args := [d1, d2, d3, d4, d5, d6] }
  | _ => none }
def dirtyRawRow : OpenClaim := { program := "yteonljfnncdijaa", sum := "85d1e386131adefac67d2b31139055c1643e30d769de9951d0146b60613a5fd8", func := "redundancy/redundancylaw27.DirtyRaw", spec := "dirtyRaw", unfollowed := true, recurses := true, apart := false }
def DirtyRawSaid : Prop := dirtyRawRow.holds Try.pinned (OpenSpec.ofChange dirtyRawSpec)

/-- ITS FALSE NEIGHBOUR: 'it returns false'. Refute it at one input. -/
def dirtyRawWrong : ChangeSpec := { name := "dirtyRaw", fn := fun _ => fun
  | [d1, d2, d3, d4, d5, d6] => { results := [.lit (.bool false)], args := [d1, d2, d3, d4, d5, d6] }
  | _ => none }
def DirtyRawWrongFalsely : Prop := dirtyRawRow.holds Try.pinned (OpenSpec.ofChange dirtyRawWrong)

/- THE SECOND FORM. 'bulk': how many values and letters a reading holds, each counted each time it is reached (what is shared counts as often as it is met; a slice's spare places count too). A statement '..UptoSaid' is the law's where the arguments, and the package variables that the reading takes, are together of bulk at most 1048576: NARROWER than '..Said'. Prove '..Said' where nothing that the law and all that it calls make is longer than what came in: it says more and counts as full. Else prove '..UptoSaid'. A law counts once. -/
mutual
def uptoBulk {H : Type} : DataW H → Nat
  | .lit (.string bytes) => bytes.length + 1
  | .lit _ => 1
  | .nil => 1
  | .ptr d => uptoBulk d + 1
  | .slice elems spare => uptoBulkAll elems + uptoBulkAll spare + 1
  | .agg parts => uptoBulkAll parts + 1
  | .iface _ d => uptoBulk d + 1
  | .map entries => uptoBulkEntries entries + 1
  | .held _ => 1
def uptoBulkAll {H : Type} : List (DataW H) → Nat
  | [] => 0
  | d :: r => uptoBulk d + uptoBulkAll r
def uptoBulkEntries {H : Type} : List (Lit × DataW H) → Nat
  | [] => 0
  | x :: r => uptoBulkEntry x + uptoBulkEntries r
def uptoBulkEntry {H : Type} : Lit × DataW H → Nat
  | (.string bytes, d) => bytes.length + uptoBulk d + 1
  | (_, d) => uptoBulk d + 1
 end
def uptoSmall : (H : Type) → List (DataW H) → Bool := fun _ ds => decide (uptoBulkAll ds ≤ 1048576)
def OpenSpec.upto (s : _root_.Go.ChangeSpec) : _root_.Go.OpenSpec := { _root_.Go.OpenSpec.ofChange s with cond := some uptoSmall }

/-- 'redundancylaw27.DirtyLists', WHERE WHAT IT READS IS OF BULK AT MOST 1048576: true; the input reads as it did. -/
def dirtyListsUptoRow : OpenClaim := { program := "yteonljfnncdijaa", sum := "85d1e386131adefac67d2b31139055c1643e30d769de9951d0146b60613a5fd8", func := "redundancy/redundancylaw27.DirtyLists", spec := "dirtyLists", unfollowed := true, recurses := true, apart := false, narrowed := true }
def DirtyListsUptoSaid : Prop := dirtyListsUptoRow.holds Try.pinned (OpenSpec.upto dirtyListsSpec)

/-- 'redundancylaw27.DirtyMade', WHERE WHAT IT READS IS OF BULK AT MOST 1048576: true; the input reads as it did. -/
def dirtyMadeUptoRow : OpenClaim := { program := "yteonljfnncdijaa", sum := "85d1e386131adefac67d2b31139055c1643e30d769de9951d0146b60613a5fd8", func := "redundancy/redundancylaw27.DirtyMade", spec := "dirtyMade", unfollowed := true, recurses := true, apart := false, narrowed := true }
def DirtyMadeUptoSaid : Prop := dirtyMadeUptoRow.holds Try.pinned (OpenSpec.upto dirtyMadeSpec)

/-- 'redundancylaw27.DirtyCopies', WHERE WHAT IT READS IS OF BULK AT MOST 1048576: true; the input reads as it did. -/
def dirtyCopiesUptoRow : OpenClaim := { program := "yteonljfnncdijaa", sum := "85d1e386131adefac67d2b31139055c1643e30d769de9951d0146b60613a5fd8", func := "redundancy/redundancylaw27.DirtyCopies", spec := "dirtyCopies", unfollowed := true, recurses := true, apart := false, narrowed := true }
def DirtyCopiesUptoSaid : Prop := dirtyCopiesUptoRow.holds Try.pinned (OpenSpec.upto dirtyCopiesSpec)

/-- 'redundancylaw27.DirtySides', WHERE WHAT IT READS IS OF BULK AT MOST 1048576: true; the input reads as it did. -/
def dirtySidesUptoRow : OpenClaim := { program := "yteonljfnncdijaa", sum := "85d1e386131adefac67d2b31139055c1643e30d769de9951d0146b60613a5fd8", func := "redundancy/redundancylaw27.DirtySides", spec := "dirtySides", unfollowed := true, recurses := true, apart := false, narrowed := true }
def DirtySidesUptoSaid : Prop := dirtySidesUptoRow.holds Try.pinned (OpenSpec.upto dirtySidesSpec)

/-- 'redundancylaw27.DirtyRaw', WHERE WHAT IT READS IS OF BULK AT MOST 1048576: true; the input reads as it did. -/
def dirtyRawUptoRow : OpenClaim := { program := "yteonljfnncdijaa", sum := "85d1e386131adefac67d2b31139055c1643e30d769de9951d0146b60613a5fd8", func := "redundancy/redundancylaw27.DirtyRaw", spec := "dirtyRaw", unfollowed := true, recurses := true, apart := false, narrowed := true }
def DirtyRawUptoSaid : Prop := dirtyRawUptoRow.holds Try.pinned (OpenSpec.upto dirtyRawSpec)

end Rows
end Go.Proofs.Yteonljfnncdijaa
