/-
  No cell of these rows narrows 'for every input' (looked for: loops, veiled, ifaces, maps, wideKeys, modest, calm, conditions, laid).
  DERIVED. THE GIVEN ROWS OF THIS SEAT. 4 by the template 'for every input the law returns true; each argument reads behind the call as it read before'; 0 by the template 'total and deterministic' (their statements: YtpodeigolpjeeaaGreatTotals.lean).
  GIVEN WITH THE SEED: the statements are not yours to turn. If you find one false, say at which input.
  Laid BY PROGRAM, IN A SANDBOX (cutbox-rows.mjs): the forced cells as the released guide's own fill.sh prints them over the translation a62d6295a5a9d05a… (all of the seat's roots in one cut). By AI agents, Wed Nov 11 2026. No macro, syntax, notation, axiom, sorry.
-/
import Derived.Test.YtpodeigolpjeeaaGreatChecked
import GoSem.Claim
import GoSem.ClaimJoined
import GoSem.ClaimMapViews
import Derived.JoinedTies
import Derived.KernelRfl
namespace Go.Proofs.YtpodeigolpjeeaaGreat
/- THE CELL 'sum', in the pinned program and in every row, IS THE sha256 OF THE DUMP (.gsa) THAT YtpodeigolpjeeaaGreatProg.lean LOADS. Nothing in Lean hashes anything: it is a label: what it is worth is what the hold of that sum in a sandbox is worth. -/
noncomputable def Tryz.pinned : Pinned := { name := "ytpodeigolpjeeaagreat", sum := "a62d6295a5a9d05a4ecde3dac6efeb965bbab5d8ad7552707124fa54bfc13f91", checked := Tryz.checked }
namespace Rows
def none {H : Type} : Left H := { results := [], args := [] }

/-- 'redundancylaw10.ThreadReady': WHATEVER THE INPUT: true; the input reads as it did. -/
def threadReadySpec : ChangeSpec := { name := "threadReady", fn := fun _ => fun
  | [d] => { results := [.lit (.bool true)], args := [d] }
  | _ => none }
def threadReadyRow : OpenClaim := { program := "ytpodeigolpjeeaagreat", sum := "a62d6295a5a9d05a4ecde3dac6efeb965bbab5d8ad7552707124fa54bfc13f91", func := "redundancy/redundancylaw10.ThreadReady", spec := "threadReady", unfollowed := true, recurses := true, apart := false }
def ThreadReadySaid : Prop := threadReadyRow.holds Tryz.pinned (OpenSpec.ofChange threadReadySpec)

/-- ITS FALSE NEIGHBOUR: 'it returns false'. Refute it at one input. -/
def threadReadyWrong : ChangeSpec := { name := "threadReady", fn := fun _ => fun
  | [d] => { results := [.lit (.bool false)], args := [d] }
  | _ => none }
def ThreadReadyWrongFalsely : Prop := threadReadyRow.holds Tryz.pinned (OpenSpec.ofChange threadReadyWrong)

/-- 'redundancylaw10.ThreadValid': WHATEVER THE INPUT: true; the input reads as it did. -/
def threadValidSpec : ChangeSpec := { name := "threadValid", fn := fun _ => fun
  | [d1, d2, d3, d4, d5, d6] => { results := [.lit (.bool true)], args := [d1, d2, d3, d4, d5, d6] }
  | _ => none }
def threadValidRow : OpenClaim := { program := "ytpodeigolpjeeaagreat", sum := "a62d6295a5a9d05a4ecde3dac6efeb965bbab5d8ad7552707124fa54bfc13f91", func := "redundancy/redundancylaw10.ThreadValid", spec := "threadValid", unfollowed := true, recurses := true, apart := false }
def ThreadValidSaid : Prop := threadValidRow.holds Tryz.pinned (OpenSpec.ofChange threadValidSpec)

/-- ITS FALSE NEIGHBOUR: 'it returns false'. Refute it at one input. -/
def threadValidWrong : ChangeSpec := { name := "threadValid", fn := fun _ => fun
  | [d1, d2, d3, d4, d5, d6] => { results := [.lit (.bool false)], args := [d1, d2, d3, d4, d5, d6] }
  | _ => none }
def ThreadValidWrongFalsely : Prop := threadValidRow.holds Tryz.pinned (OpenSpec.ofChange threadValidWrong)

/-- 'redundancylaw10.ThreadOne': WHATEVER THE INPUT: true; the input reads as it did. -/
def threadOneSpec : ChangeSpec := { name := "threadOne", fn := fun _ => fun
  | [d1, d2, d3, d4] => { results := [.lit (.bool true)], args := [d1, d2, d3, d4] }
  | _ => none }
def threadOneRow : OpenClaim := { program := "ytpodeigolpjeeaagreat", sum := "a62d6295a5a9d05a4ecde3dac6efeb965bbab5d8ad7552707124fa54bfc13f91", func := "redundancy/redundancylaw10.ThreadOne", spec := "threadOne", unfollowed := true, recurses := true, apart := false }
def ThreadOneSaid : Prop := threadOneRow.holds Tryz.pinned (OpenSpec.ofChange threadOneSpec)

/-- ITS FALSE NEIGHBOUR: 'it returns false'. Refute it at one input. -/
def threadOneWrong : ChangeSpec := { name := "threadOne", fn := fun _ => fun
  | [d1, d2, d3, d4] => { results := [.lit (.bool false)], args := [d1, d2, d3, d4] }
  | _ => none }
def ThreadOneWrongFalsely : Prop := threadOneRow.holds Tryz.pinned (OpenSpec.ofChange threadOneWrong)

/-- 'redundancylaw10.ThreadSets': WHATEVER THE INPUT: true; the input reads as it did. -/
def threadSetsSpec : ChangeSpec := { name := "threadSets", fn := fun _ => fun
  | [d1, d2, d3, d4, d5, d6] => { results := [.lit (.bool true)], args := [d1, d2, d3, d4, d5, d6] }
  | _ => none }
def threadSetsRow : OpenClaim := { program := "ytpodeigolpjeeaagreat", sum := "a62d6295a5a9d05a4ecde3dac6efeb965bbab5d8ad7552707124fa54bfc13f91", func := "redundancy/redundancylaw10.ThreadSets", spec := "threadSets", unfollowed := true, recurses := true, apart := false }
def ThreadSetsSaid : Prop := threadSetsRow.holds Tryz.pinned (OpenSpec.ofChange threadSetsSpec)

/-- ITS FALSE NEIGHBOUR: 'it returns false'. Refute it at one input. -/
def threadSetsWrong : ChangeSpec := { name := "threadSets", fn := fun _ => fun
  | [d1, d2, d3, d4, d5, d6] => { results := [.lit (.bool false)], args := [d1, d2, d3, d4, d5, d6] }
  | _ => none }
def ThreadSetsWrongFalsely : Prop := threadSetsRow.holds Tryz.pinned (OpenSpec.ofChange threadSetsWrong)

/- THE SECOND FORM. 'bulk': how many values and letters a reading holds, each counted each time it is reached (what is shared counts as often as it is met; a slice's spare places count too). A statement '..UptoSaid' is the law's where the arguments, and the package variables that the reading takes, are together of bulk at most 1048576: NARROWER than '..Said'. Prove '..Said' where nothing that the law and all that it calls make is longer than what came in: it says more and counts as full. Else prove '..UptoSaid'. A law counts once. -/
mutual
def uptoBulk {H : Type} : DataW H → Nat
  | .lit (.string bytes) => bytes.length + 1
  | .lit _ => 1
  | .nil => 1
  | .ptr d => uptoBulk d + 1
  | .slice elems spare => uptoBulkAll elems + uptoBulkAll spare + 1
  | .agg parts => uptoBulkAll parts + 1
  | .iface _ d => uptoBulk d + 1
  | .map entries => uptoBulkEntries entries + 1
  | .held _ => 1
def uptoBulkAll {H : Type} : List (DataW H) → Nat
  | [] => 0
  | d :: r => uptoBulk d + uptoBulkAll r
def uptoBulkEntries {H : Type} : List (Lit × DataW H) → Nat
  | [] => 0
  | x :: r => uptoBulkEntry x + uptoBulkEntries r
def uptoBulkEntry {H : Type} : Lit × DataW H → Nat
  | (.string bytes, d) => bytes.length + uptoBulk d + 1
  | (_, d) => uptoBulk d + 1
 end
def uptoSmall : (H : Type) → List (DataW H) → Bool := fun _ ds => decide (uptoBulkAll ds ≤ 1048576)
def OpenSpec.upto (s : _root_.Go.ChangeSpec) : _root_.Go.OpenSpec := { _root_.Go.OpenSpec.ofChange s with cond := some uptoSmall }

/-- 'redundancylaw10.ThreadReady', WHERE WHAT IT READS IS OF BULK AT MOST 1048576: true; the input reads as it did. -/
def threadReadyUptoRow : OpenClaim := { program := "ytpodeigolpjeeaagreat", sum := "a62d6295a5a9d05a4ecde3dac6efeb965bbab5d8ad7552707124fa54bfc13f91", func := "redundancy/redundancylaw10.ThreadReady", spec := "threadReady", unfollowed := true, recurses := true, apart := false, narrowed := true }
def ThreadReadyUptoSaid : Prop := threadReadyUptoRow.holds Tryz.pinned (OpenSpec.upto threadReadySpec)

/-- 'redundancylaw10.ThreadValid', WHERE WHAT IT READS IS OF BULK AT MOST 1048576: true; the input reads as it did. -/
def threadValidUptoRow : OpenClaim := { program := "ytpodeigolpjeeaagreat", sum := "a62d6295a5a9d05a4ecde3dac6efeb965bbab5d8ad7552707124fa54bfc13f91", func := "redundancy/redundancylaw10.ThreadValid", spec := "threadValid", unfollowed := true, recurses := true, apart := false, narrowed := true }
def ThreadValidUptoSaid : Prop := threadValidUptoRow.holds Tryz.pinned (OpenSpec.upto threadValidSpec)

/-- 'redundancylaw10.ThreadOne', WHERE WHAT IT READS IS OF BULK AT MOST 1048576: true; the input reads as it did. -/
def threadOneUptoRow : OpenClaim := { program := "ytpodeigolpjeeaagreat", sum := "a62d6295a5a9d05a4ecde3dac6efeb965bbab5d8ad7552707124fa54bfc13f91", func := "redundancy/redundancylaw10.ThreadOne", spec := "threadOne", unfollowed := true, recurses := true, apart := false, narrowed := true }
def ThreadOneUptoSaid : Prop := threadOneUptoRow.holds Tryz.pinned (OpenSpec.upto threadOneSpec)

/-- 'redundancylaw10.ThreadSets', WHERE WHAT IT READS IS OF BULK AT MOST 1048576: true; the input reads as it did. -/
def threadSetsUptoRow : OpenClaim := { program := "ytpodeigolpjeeaagreat", sum := "a62d6295a5a9d05a4ecde3dac6efeb965bbab5d8ad7552707124fa54bfc13f91", func := "redundancy/redundancylaw10.ThreadSets", spec := "threadSets", unfollowed := true, recurses := true, apart := false, narrowed := true }
def ThreadSetsUptoSaid : Prop := threadSetsUptoRow.holds Tryz.pinned (OpenSpec.upto threadSetsSpec)

end Rows
end Go.Proofs.YtpodeigolpjeeaaGreat
