/-
  No cell of these rows narrows 'for every input' (looked for: loops, veiled, ifaces, maps, wideKeys, modest, calm, conditions, laid).
  DERIVED. THE GIVEN ROWS OF THIS SEAT. 3 by the template 'for every input the law returns true; each argument reads behind the call as it read before'; 0 by the template 'total and deterministic' (their statements: YtffnecakpdhpcaaGreatTotals.lean).
  GIVEN WITH THE SEED: the statements are not yours to turn. If you find one false, say at which input.
  Laid BY PROGRAM, IN A SANDBOX (cutbox-rows.mjs): the forced cells as the released guide's own fill.sh prints them over the translation a292af41bbf9a1ba… (all of the seat's roots in one cut). By AI agents, Wed Nov 11 2026. No macro, syntax, notation, axiom, sorry.
-/
import Derived.Test.YtffnecakpdhpcaaGreatChecked
import GoSem.Claim
import GoSem.ClaimJoined
import GoSem.ClaimMapViews
import Derived.JoinedTies
import Derived.KernelRfl
namespace Go.Proofs.YtffnecakpdhpcaaGreat
/- THE CELL 'sum', in the pinned program and in every row, IS THE sha256 OF THE DUMP (.gsa) THAT YtffnecakpdhpcaaGreatProg.lean LOADS. Nothing in Lean hashes anything: it is a label: what it is worth is what the hold of that sum in a sandbox is worth. -/
noncomputable def Tryz.pinned : Pinned := { name := "ytffnecakpdhpcaagreat", sum := "a292af41bbf9a1ba3a2998d14b3a94c2a7fd17b2e6ed4565985d22f92aed69e5", checked := Tryz.checked }
namespace Rows
def none {H : Type} : Left H := { results := [], args := [] }

/-- 'redundancylaw13.CanonicalInjects': WHATEVER THE INPUT: true; the input reads as it did. -/
def canonicalInjectsSpec : ChangeSpec := { name := "canonicalInjects", fn := fun _ => fun
  | [d1, d2, d3, d4, d5] => { results := [.lit (.bool true)], args := [d1, d2, d3, d4, d5] }
  | _ => none }
def canonicalInjectsRow : OpenClaim := { program := "ytffnecakpdhpcaagreat", sum := "a292af41bbf9a1ba3a2998d14b3a94c2a7fd17b2e6ed4565985d22f92aed69e5", func := "redundancy/redundancylaw13.CanonicalInjects", spec := "canonicalInjects", unfollowed := true, recurses := true, apart := false }
def CanonicalInjectsSaid : Prop := canonicalInjectsRow.holds Tryz.pinned (OpenSpec.ofChange canonicalInjectsSpec)

/-- ITS FALSE NEIGHBOUR: 'it returns false'. Refute it at one input. -/
def canonicalInjectsWrong : ChangeSpec := { name := "canonicalInjects", fn := fun _ => fun
  | [d1, d2, d3, d4, d5] => { results := [.lit (.bool false)], args := [d1, d2, d3, d4, d5] }
  | _ => none }
def CanonicalInjectsWrongFalsely : Prop := canonicalInjectsRow.holds Tryz.pinned (OpenSpec.ofChange canonicalInjectsWrong)

/-- 'redundancylaw13.CanonicalStates': WHATEVER THE INPUT: true; the input reads as it did. -/
def canonicalStatesSpec : ChangeSpec := { name := "canonicalStates", fn := fun _ => fun
  | [d1, d2, d3, d4] => { results := [.lit (.bool true)], args := [d1, d2, d3, d4] }
  | _ => none }
def canonicalStatesRow : OpenClaim := { program := "ytffnecakpdhpcaagreat", sum := "a292af41bbf9a1ba3a2998d14b3a94c2a7fd17b2e6ed4565985d22f92aed69e5", func := "redundancy/redundancylaw13.CanonicalStates", spec := "canonicalStates", unfollowed := true, recurses := true, apart := false }
def CanonicalStatesSaid : Prop := canonicalStatesRow.holds Tryz.pinned (OpenSpec.ofChange canonicalStatesSpec)

/-- ITS FALSE NEIGHBOUR: 'it returns false'. Refute it at one input. -/
def canonicalStatesWrong : ChangeSpec := { name := "canonicalStates", fn := fun _ => fun
  | [d1, d2, d3, d4] => { results := [.lit (.bool false)], args := [d1, d2, d3, d4] }
  | _ => none }
def CanonicalStatesWrongFalsely : Prop := canonicalStatesRow.holds Tryz.pinned (OpenSpec.ofChange canonicalStatesWrong)

/-- 'redundancylaw13.CanonicalRebuilds': WHATEVER THE INPUT: true; the input reads as it did. -/
def canonicalRebuildsSpec : ChangeSpec := { name := "canonicalRebuilds", fn := fun _ => fun
  | [d1, d2, d3, d4, d5] => { results := [.lit (.bool true)], args := [d1, d2, d3, d4, d5] }
  | _ => none }
def canonicalRebuildsRow : OpenClaim := { program := "ytffnecakpdhpcaagreat", sum := "a292af41bbf9a1ba3a2998d14b3a94c2a7fd17b2e6ed4565985d22f92aed69e5", func := "redundancy/redundancylaw13.CanonicalRebuilds", spec := "canonicalRebuilds", unfollowed := true, recurses := true, apart := false }
def CanonicalRebuildsSaid : Prop := canonicalRebuildsRow.holds Tryz.pinned (OpenSpec.ofChange canonicalRebuildsSpec)

/-- ITS FALSE NEIGHBOUR: 'it returns false'. Refute it at one input. -/
def canonicalRebuildsWrong : ChangeSpec := { name := "canonicalRebuilds", fn := fun _ => fun
  | [d1, d2, d3, d4, d5] => { results := [.lit (.bool false)], args := [d1, d2, d3, d4, d5] }
  | _ => none }
def CanonicalRebuildsWrongFalsely : Prop := canonicalRebuildsRow.holds Tryz.pinned (OpenSpec.ofChange canonicalRebuildsWrong)

/- THE SECOND FORM. 'bulk': how many values and letters a reading holds, each counted each time it is reached (what is shared counts as often as it is met; a slice's spare places count too). A statement '..UptoSaid' is the law's where the arguments, and the package variables that the reading takes, are together of bulk at most 1048576: NARROWER than '..Said'. Prove '..Said' where nothing that the law and all that it calls make is longer than what came in: it says more and counts as full. Else prove '..UptoSaid'. A law counts once. -/
mutual
def uptoBulk {H : Type} : DataW H → Nat
  | .lit (.string bytes) => bytes.length + 1
  | .lit _ => 1
  | .nil => 1
  | .ptr d => uptoBulk d + 1
  | .slice elems spare => uptoBulkAll elems + uptoBulkAll spare + 1
  | .agg parts => uptoBulkAll parts + 1
  | .iface _ d => uptoBulk d + 1
  | .map entries => uptoBulkEntries entries + 1
  | .held _ => 1
def uptoBulkAll {H : Type} : List (DataW H) → Nat
  | [] => 0
  | d :: r => uptoBulk d + uptoBulkAll r
def uptoBulkEntries {H : Type} : List (Lit × DataW H) → Nat
  | [] => 0
  | x :: r => uptoBulkEntry x + uptoBulkEntries r
def uptoBulkEntry {H : Type} : Lit × DataW H → Nat
  | (.string bytes, d) => bytes.length + uptoBulk d + 1
  | (_, d) => uptoBulk d + 1
 end
def uptoSmall : (H : Type) → List (DataW H) → Bool := fun _ ds => decide (uptoBulkAll ds ≤ 1048576)
def OpenSpec.upto (s : _root_.Go.ChangeSpec) : _root_.Go.OpenSpec := { _root_.Go.OpenSpec.ofChange s with cond := some uptoSmall }

/-- 'redundancylaw13.CanonicalInjects', WHERE WHAT IT READS IS OF BULK AT MOST 1048576: true; the input reads as it did. -/
def canonicalInjectsUptoRow : OpenClaim := { program := "ytffnecakpdhpcaagreat", sum := "a292af41bbf9a1ba3a2998d14b3a94c2a7fd17b2e6ed4565985d22f92aed69e5", func := "redundancy/redundancylaw13.CanonicalInjects", spec := "canonicalInjects", unfollowed := true, recurses := true, apart := false, narrowed := true }
def CanonicalInjectsUptoSaid : Prop := canonicalInjectsUptoRow.holds Tryz.pinned (OpenSpec.upto canonicalInjectsSpec)

/-- 'redundancylaw13.CanonicalStates', WHERE WHAT IT READS IS OF BULK AT MOST 1048576: true; the input reads as it did. -/
def canonicalStatesUptoRow : OpenClaim := { program := "ytffnecakpdhpcaagreat", sum := "a292af41bbf9a1ba3a2998d14b3a94c2a7fd17b2e6ed4565985d22f92aed69e5", func := "redundancy/redundancylaw13.CanonicalStates", spec := "canonicalStates", unfollowed := true, recurses := true, apart := false, narrowed := true }
def CanonicalStatesUptoSaid : Prop := canonicalStatesUptoRow.holds Tryz.pinned (OpenSpec.upto canonicalStatesSpec)

/-- 'redundancylaw13.CanonicalRebuilds', WHERE WHAT IT READS IS OF BULK AT MOST 1048576: true; the input reads as it did. -/
def canonicalRebuildsUptoRow : OpenClaim := { program := "ytffnecakpdhpcaagreat", sum := "a292af41bbf9a1ba3a2998d14b3a94c2a7fd17b2e6ed4565985d22f92aed69e5", func := "redundancy/redundancylaw13.CanonicalRebuilds", spec := "canonicalRebuilds", unfollowed := true, recurses := true, apart := false, narrowed := true }
def CanonicalRebuildsUptoSaid : Prop := canonicalRebuildsUptoRow.holds Tryz.pinned (OpenSpec.upto canonicalRebuildsSpec)

end Rows
end Go.Proofs.YtffnecakpdhpcaaGreat
