/-
  No cell of these rows narrows 'for every input' (looked for: loops, veiled, ifaces, maps, wideKeys, modest, calm, conditions, laid).
  DERIVED. THE GIVEN ROWS OF THIS SEAT. 5 by the template 'for every input the law returns true; each argument reads behind the call as it read before'; 0 by the template 'total and deterministic' (their statements: YtenlhaondbmhnaaTotals.lean).
  GIVEN WITH THE SEED: the statements are not yours to turn. If you find one false, say at which input.
  Laid BY PROGRAM, IN A SANDBOX (cutbox-rows.mjs): the forced cells as the released guide's own fill.sh prints them over the translation 619b4c2941e632fa… (all of the seat's roots in one cut). By AI agents, Wed Nov 11 2026. No macro, syntax, notation, axiom, sorry.
-/
import Derived.Test.YtenlhaondbmhnaaChecked
import GoSem.Claim
import GoSem.ClaimJoined
import GoSem.ClaimMapViews
import Derived.JoinedTies
import Derived.KernelRfl
namespace Go.Proofs.Ytenlhaondbmhnaa
/- THE CELL 'sum', in the pinned program and in every row, IS THE sha256 OF THE DUMP (.gsa) THAT YtenlhaondbmhnaaProg.lean LOADS. Nothing in Lean hashes anything: it is a label: what it is worth is what the hold of that sum in a sandbox is worth. -/
noncomputable def Try.pinned : Pinned := { name := "ytenlhaondbmhnaa", sum := "619b4c2941e632fa8fcfa99d5d067bd7b0081f8f42fb010dccd835238085356c", checked := Try.checked }
namespace Rows
def none {H : Type} : Left H := { results := [], args := [] }

/-- 'redundancylaw06.InstrReads': WHATEVER THE INPUT: true; the input reads as it did. -/
def instrReadsSpec : ChangeSpec := { name := "instrReads", fn := fun _ => fun
  | [d1, d2, d3, d4] => { results := [.lit (.bool true)], args := [d1, d2, d3, d4] }
  | _ => none }
def instrReadsRow : OpenClaim := { program := "ytenlhaondbmhnaa", sum := "619b4c2941e632fa8fcfa99d5d067bd7b0081f8f42fb010dccd835238085356c", func := "redundancy/redundancylaw06.InstrReads", spec := "instrReads", unfollowed := true, recurses := true, apart := false }
def InstrReadsSaid : Prop := instrReadsRow.holds Try.pinned (OpenSpec.ofChange instrReadsSpec)

/-- ITS FALSE NEIGHBOUR: 'it returns false'. Refute it at one input. -/
def instrReadsWrong : ChangeSpec := { name := "instrReads", fn := fun _ => fun
  | [d1, d2, d3, d4] => { results := [.lit (.bool false)], args := [d1, d2, d3, d4] }
  | _ => none }
def InstrReadsWrongFalsely : Prop := instrReadsRow.holds Try.pinned (OpenSpec.ofChange instrReadsWrong)

/-- 'redundancylaw06.InstrBack': WHATEVER THE INPUT: true; the input reads as it did. -/
def instrBackSpec : ChangeSpec := { name := "instrBack", fn := fun _ => fun
  | [d1, d2] => { results := [.lit (.bool true)], args := [d1, d2] }
  | _ => none }
def instrBackRow : OpenClaim := { program := "ytenlhaondbmhnaa", sum := "619b4c2941e632fa8fcfa99d5d067bd7b0081f8f42fb010dccd835238085356c", func := "redundancy/redundancylaw06.InstrBack", spec := "instrBack", unfollowed := true, recurses := true, apart := false }
def InstrBackSaid : Prop := instrBackRow.holds Try.pinned (OpenSpec.ofChange instrBackSpec)

/-- ITS FALSE NEIGHBOUR: 'it returns false'. Refute it at one input. -/
def instrBackWrong : ChangeSpec := { name := "instrBack", fn := fun _ => fun
  | [d1, d2] => { results := [.lit (.bool false)], args := [d1, d2] }
  | _ => none }
def InstrBackWrongFalsely : Prop := instrBackRow.holds Try.pinned (OpenSpec.ofChange instrBackWrong)

/-- 'redundancylaw06.InstrNear': WHATEVER THE INPUT: true; the input reads as it did. -/
def instrNearSpec : ChangeSpec := { name := "instrNear", fn := fun _ => fun
  | [d1, d2, d3] => { results := [.lit (.bool true)], args := [d1, d2, d3] }
  | _ => none }
def instrNearRow : OpenClaim := { program := "ytenlhaondbmhnaa", sum := "619b4c2941e632fa8fcfa99d5d067bd7b0081f8f42fb010dccd835238085356c", func := "redundancy/redundancylaw06.InstrNear", spec := "instrNear", unfollowed := true, recurses := true, apart := false }
def InstrNearSaid : Prop := instrNearRow.holds Try.pinned (OpenSpec.ofChange instrNearSpec)

/-- ITS FALSE NEIGHBOUR: 'it returns false'. Refute it at one input. -/
def instrNearWrong : ChangeSpec := { name := "instrNear", fn := fun _ => fun
  | [d1, d2, d3] => { results := [.lit (.bool false)], args := [d1, d2, d3] }
  | _ => none }
def InstrNearWrongFalsely : Prop := instrNearRow.holds Try.pinned (OpenSpec.ofChange instrNearWrong)

/-- 'redundancylaw06.InstrCodes': WHATEVER THE INPUT: true; the input reads as it did. -/
def instrCodesSpec : ChangeSpec := { name := "instrCodes", fn := fun _ => fun
  | [d1, d2, d3, d4, d5] => { results := [.lit (.bool true)], args := [d1, d2, d3, d4, d5] }
  | _ => none }
def instrCodesRow : OpenClaim := { program := "ytenlhaondbmhnaa", sum := "619b4c2941e632fa8fcfa99d5d067bd7b0081f8f42fb010dccd835238085356c", func := "redundancy/redundancylaw06.InstrCodes", spec := "instrCodes", unfollowed := true, recurses := true, apart := false }
def InstrCodesSaid : Prop := instrCodesRow.holds Try.pinned (OpenSpec.ofChange instrCodesSpec)

/-- ITS FALSE NEIGHBOUR: 'it returns false'. Refute it at one input. -/
def instrCodesWrong : ChangeSpec := { name := "instrCodes", fn := fun _ => fun
  | [d1, d2, d3, d4, d5] => { results := [.lit (.bool false)], args := [d1, d2, d3, d4, d5] }
  | _ => none }
def InstrCodesWrongFalsely : Prop := instrCodesRow.holds Try.pinned (OpenSpec.ofChange instrCodesWrong)

/-- 'redundancylaw06.InstrFollows': WHATEVER THE INPUT: true; the input reads as it did. -/
def instrFollowsSpec : ChangeSpec := { name := "instrFollows", fn := fun _ => fun
  | [d1, d2] => { results := [.lit (.bool true)], args := [d1, d2] }
  | _ => none }
def instrFollowsRow : OpenClaim := { program := "ytenlhaondbmhnaa", sum := "619b4c2941e632fa8fcfa99d5d067bd7b0081f8f42fb010dccd835238085356c", func := "redundancy/redundancylaw06.InstrFollows", spec := "instrFollows", unfollowed := true, recurses := true, apart := false }
def InstrFollowsSaid : Prop := instrFollowsRow.holds Try.pinned (OpenSpec.ofChange instrFollowsSpec)

/-- ITS FALSE NEIGHBOUR: 'it returns false'. Refute it at one input. -/
def instrFollowsWrong : ChangeSpec := { name := "instrFollows", fn := fun _ => fun
  | [d1, d2] => { results := [.lit (.bool false)], args := [d1, d2] }
  | _ => none }
def InstrFollowsWrongFalsely : Prop := instrFollowsRow.holds Try.pinned (OpenSpec.ofChange instrFollowsWrong)

/- THE SECOND FORM. 'bulk': how many values and letters a reading holds, each counted each time it is reached (what is shared counts as often as it is met; a slice's spare places count too). A statement '..UptoSaid' is the law's where the arguments, and the package variables that the reading takes, are together of bulk at most 1048576: NARROWER than '..Said'. Prove '..Said' where nothing that the law and all that it calls make is longer than what came in: it says more and counts as full. Else prove '..UptoSaid'. A law counts once. -/
mutual
def uptoBulk {H : Type} : DataW H → Nat
  | .lit (.string bytes) => bytes.length + 1
  | .lit _ => 1
  | .nil => 1
  | .ptr d => uptoBulk d + 1
  | .slice elems spare => uptoBulkAll elems + uptoBulkAll spare + 1
  | .agg parts => uptoBulkAll parts + 1
  | .iface _ d => uptoBulk d + 1
  | .map entries => uptoBulkEntries entries + 1
  | .held _ => 1
def uptoBulkAll {H : Type} : List (DataW H) → Nat
  | [] => 0
  | d :: r => uptoBulk d + uptoBulkAll r
def uptoBulkEntries {H : Type} : List (Lit × DataW H) → Nat
  | [] => 0
  | x :: r => uptoBulkEntry x + uptoBulkEntries r
def uptoBulkEntry {H : Type} : Lit × DataW H → Nat
  | (.string bytes, d) => bytes.length + uptoBulk d + 1
  | (_, d) => uptoBulk d + 1
 end
def uptoSmall : (H : Type) → List (DataW H) → Bool := fun _ ds => decide (uptoBulkAll ds ≤ 1048576)
def OpenSpec.upto (s : _root_.Go.ChangeSpec) : _root_.Go.OpenSpec := { _root_.Go.OpenSpec.ofChange s with cond := some uptoSmall }

/-- 'redundancylaw06.InstrReads', WHERE WHAT IT READS IS OF BULK AT MOST 1048576: true; the input reads as it did. -/
def instrReadsUptoRow : OpenClaim := { program := "ytenlhaondbmhnaa", sum := "619b4c2941e632fa8fcfa99d5d067bd7b0081f8f42fb010dccd835238085356c", func := "redundancy/redundancylaw06.InstrReads", spec := "instrReads", unfollowed := true, recurses := true, apart := false, narrowed := true }
def InstrReadsUptoSaid : Prop := instrReadsUptoRow.holds Try.pinned (OpenSpec.upto instrReadsSpec)

/-- 'redundancylaw06.InstrBack', WHERE WHAT IT READS IS OF BULK AT MOST 1048576: true; the input reads as it did. -/
def instrBackUptoRow : OpenClaim := { program := "ytenlhaondbmhnaa", sum := "619b4c2941e632fa8fcfa99d5d067bd7b0081f8f42fb010dccd835238085356c", func := "redundancy/redundancylaw06.InstrBack", spec := "instrBack", unfollowed := true, recurses := true, apart := false, narrowed := true }
def InstrBackUptoSaid : Prop := instrBackUptoRow.holds Try.pinned (OpenSpec.upto instrBackSpec)

/-- 'redundancylaw06.InstrNear', WHERE WHAT IT READS IS OF BULK AT MOST 1048576: true; the input reads as it did. -/
def instrNearUptoRow : OpenClaim := { program := "ytenlhaondbmhnaa", sum := "619b4c2941e632fa8fcfa99d5d067bd7b0081f8f42fb010dccd835238085356c", func := "redundancy/redundancylaw06.InstrNear", spec := "instrNear", unfollowed := true, recurses := true, apart := false, narrowed := true }
def InstrNearUptoSaid : Prop := instrNearUptoRow.holds Try.pinned (OpenSpec.upto instrNearSpec)

/-- 'redundancylaw06.InstrCodes', WHERE WHAT IT READS IS OF BULK AT MOST 1048576: true; the input reads as it did. -/
def instrCodesUptoRow : OpenClaim := { program := "ytenlhaondbmhnaa", sum := "619b4c2941e632fa8fcfa99d5d067bd7b0081f8f42fb010dccd835238085356c", func := "redundancy/redundancylaw06.InstrCodes", spec := "instrCodes", unfollowed := true, recurses := true, apart := false, narrowed := true }
def InstrCodesUptoSaid : Prop := instrCodesUptoRow.holds Try.pinned (OpenSpec.upto instrCodesSpec)

/-- 'redundancylaw06.InstrFollows', WHERE WHAT IT READS IS OF BULK AT MOST 1048576: true; the input reads as it did. -/
def instrFollowsUptoRow : OpenClaim := { program := "ytenlhaondbmhnaa", sum := "619b4c2941e632fa8fcfa99d5d067bd7b0081f8f42fb010dccd835238085356c", func := "redundancy/redundancylaw06.InstrFollows", spec := "instrFollows", unfollowed := true, recurses := true, apart := false, narrowed := true }
def InstrFollowsUptoSaid : Prop := instrFollowsUptoRow.holds Try.pinned (OpenSpec.upto instrFollowsSpec)

end Rows
end Go.Proofs.Ytenlhaondbmhnaa
