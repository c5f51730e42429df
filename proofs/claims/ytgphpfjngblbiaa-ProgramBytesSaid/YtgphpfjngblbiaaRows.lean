/-
  No cell of these rows narrows 'for every input' (looked for: loops, veiled, ifaces, maps, wideKeys, modest, calm, conditions, laid).
  DERIVED. THE GIVEN ROWS OF THIS SEAT. 6 by the template 'for every input the law returns true; each argument reads behind the call as it read before'; 0 by the template 'total and deterministic' (their statements: YtgphpfjngblbiaaTotals.lean).
  GIVEN WITH THE SEED: the statements are not yours to turn. If you find one false, say at which input.
  Laid BY PROGRAM, IN A SANDBOX (cutbox-rows.mjs): the forced cells as the released guide's own fill.sh prints them over the translation 4a1cdc66431cf569… (all of the seat's roots in one cut). By AI agents, Wed Nov 11 2026. No macro, syntax, notation, axiom, sorry.
-/
import Derived.Test.YtgphpfjngblbiaaChecked
import GoSem.Claim
import GoSem.ClaimJoined
import GoSem.ClaimMapViews
import Derived.JoinedTies
import Derived.KernelRfl
namespace Go.Proofs.Ytgphpfjngblbiaa
/- THE CELL 'sum', in the pinned program and in every row, IS THE sha256 OF THE DUMP (.gsa) THAT YtgphpfjngblbiaaProg.lean LOADS. Nothing in Lean hashes anything: it is a label: what it is worth is what the hold of that sum in a sandbox is worth. -/
noncomputable def Try.pinned : Pinned := { name := "ytgphpfjngblbiaa", sum := "4a1cdc66431cf5699c7f1328f773fe4127c05c26bfc130aaab35db916b83a445", checked := Try.checked }
namespace Rows
def none {H : Type} : Left H := { results := [], args := [] }

/-- 'redundancylaw08.ProgramChecks': WHATEVER THE INPUT: true; the input reads as it did. -/
def programChecksSpec : ChangeSpec := { name := "programChecks", fn := fun _ => fun
  | [d1, d2, d3, d4, d5, d6] => { results := [.lit (.bool true)], args := [d1, d2, d3, d4, d5, d6] }
  | _ => none }
def programChecksRow : OpenClaim := { program := "ytgphpfjngblbiaa", sum := "4a1cdc66431cf5699c7f1328f773fe4127c05c26bfc130aaab35db916b83a445", func := "redundancy/redundancylaw08.ProgramChecks", spec := "programChecks", unfollowed := true, recurses := true, apart := false }
def ProgramChecksSaid : Prop := programChecksRow.holds Try.pinned (OpenSpec.ofChange programChecksSpec)

/-- ITS FALSE NEIGHBOUR: 'it returns false'. Refute it at one input. -/
def programChecksWrong : ChangeSpec := { name := "programChecks", fn := fun _ => fun
  | [d1, d2, d3, d4, d5, d6] => { results := [.lit (.bool false)], args := [d1, d2, d3, d4, d5, d6] }
  | _ => none }
def ProgramChecksWrongFalsely : Prop := programChecksRow.holds Try.pinned (OpenSpec.ofChange programChecksWrong)

/-- 'redundancylaw08.ProgramStarts': WHATEVER THE INPUT: true; the input reads as it did. -/
def programStartsSpec : ChangeSpec := { name := "programStarts", fn := fun _ => fun
  | [d1, d2] => { results := [.lit (.bool true)], args := [d1, d2] }
  | _ => none }
def programStartsRow : OpenClaim := { program := "ytgphpfjngblbiaa", sum := "4a1cdc66431cf5699c7f1328f773fe4127c05c26bfc130aaab35db916b83a445", func := "redundancy/redundancylaw08.ProgramStarts", spec := "programStarts", unfollowed := true, recurses := true, apart := false }
def ProgramStartsSaid : Prop := programStartsRow.holds Try.pinned (OpenSpec.ofChange programStartsSpec)

/-- ITS FALSE NEIGHBOUR: 'it returns false'. Refute it at one input. -/
def programStartsWrong : ChangeSpec := { name := "programStarts", fn := fun _ => fun
  | [d1, d2] => { results := [.lit (.bool false)], args := [d1, d2] }
  | _ => none }
def ProgramStartsWrongFalsely : Prop := programStartsRow.holds Try.pinned (OpenSpec.ofChange programStartsWrong)

/-- 'redundancylaw08.ProgramBytes': WHATEVER THE INPUT: true; the input reads as it did. -/
def programBytesSpec : ChangeSpec := { name := "programBytes", fn := fun _ => fun
  | [d1, d2, d3, d4, d5, d6] => { results := [.lit (.bool true)], args := [d1, d2, d3, d4, d5, d6] }
  | _ => none }
def programBytesRow : OpenClaim := { program := "ytgphpfjngblbiaa", sum := "4a1cdc66431cf5699c7f1328f773fe4127c05c26bfc130aaab35db916b83a445", func := "redundancy/redundancylaw08.ProgramBytes", spec := "programBytes", unfollowed := true, recurses := true, apart := false }
def ProgramBytesSaid : Prop := programBytesRow.holds Try.pinned (OpenSpec.ofChange programBytesSpec)

/-- ITS FALSE NEIGHBOUR: 'it returns false'. Refute it at one input. -/
def programBytesWrong : ChangeSpec := { name := "programBytes", fn := fun _ => fun
  | [d1, d2, d3, d4, d5, d6] => { results := [.lit (.bool false)], args := [d1, d2, d3, d4, d5, d6] }
  | _ => none }
def ProgramBytesWrongFalsely : Prop := programBytesRow.holds Try.pinned (OpenSpec.ofChange programBytesWrong)

/-- 'redundancylaw08.ProgramBack': WHATEVER THE INPUT: true; the input reads as it did. -/
def programBackSpec : ChangeSpec := { name := "programBack", fn := fun _ => fun
  | [d] => { results := [.lit (.bool true)], args := [d] }
  | _ => none }
def programBackRow : OpenClaim := { program := "ytgphpfjngblbiaa", sum := "4a1cdc66431cf5699c7f1328f773fe4127c05c26bfc130aaab35db916b83a445", func := "redundancy/redundancylaw08.ProgramBack", spec := "programBack", unfollowed := true, recurses := true, apart := false }
def ProgramBackSaid : Prop := programBackRow.holds Try.pinned (OpenSpec.ofChange programBackSpec)

/-- ITS FALSE NEIGHBOUR: 'it returns false'. Refute it at one input. -/
def programBackWrong : ChangeSpec := { name := "programBack", fn := fun _ => fun
  | [d] => { results := [.lit (.bool false)], args := [d] }
  | _ => none }
def ProgramBackWrongFalsely : Prop := programBackRow.holds Try.pinned (OpenSpec.ofChange programBackWrong)

/-- 'redundancylaw08.ProgramReaches': WHATEVER THE INPUT: true; the input reads as it did. -/
def programReachesSpec : ChangeSpec := { name := "programReaches", fn := fun _ => fun
  | [d] => { results := [.lit (.bool true)], args := [d] }
  | _ => none }
def programReachesRow : OpenClaim := { program := "ytgphpfjngblbiaa", sum := "4a1cdc66431cf5699c7f1328f773fe4127c05c26bfc130aaab35db916b83a445", func := "redundancy/redundancylaw08.ProgramReaches", spec := "programReaches", unfollowed := true, recurses := true, apart := false }
def ProgramReachesSaid : Prop := programReachesRow.holds Try.pinned (OpenSpec.ofChange programReachesSpec)

/-- ITS FALSE NEIGHBOUR: 'it returns false'. Refute it at one input. -/
def programReachesWrong : ChangeSpec := { name := "programReaches", fn := fun _ => fun
  | [d] => { results := [.lit (.bool false)], args := [d] }
  | _ => none }
def ProgramReachesWrongFalsely : Prop := programReachesRow.holds Try.pinned (OpenSpec.ofChange programReachesWrong)

/-- 'redundancylaw08.ProgramUnreached': WHATEVER THE INPUT: true; the input reads as it did. -/
def programUnreachedSpec : ChangeSpec := { name := "programUnreached", fn := fun _ => fun
  | [d1, d2] => { results := [.lit (.bool true)], args := [d1, d2] }
  | _ => none }
def programUnreachedRow : OpenClaim := { program := "ytgphpfjngblbiaa", sum := "4a1cdc66431cf5699c7f1328f773fe4127c05c26bfc130aaab35db916b83a445", func := "redundancy/redundancylaw08.ProgramUnreached", spec := "programUnreached", unfollowed := true, recurses := true, apart := false }
def ProgramUnreachedSaid : Prop := programUnreachedRow.holds Try.pinned (OpenSpec.ofChange programUnreachedSpec)

/-- ITS FALSE NEIGHBOUR: 'it returns false'. Refute it at one input. -/
def programUnreachedWrong : ChangeSpec := { name := "programUnreached", fn := fun _ => fun
  | [d1, d2] => { results := [.lit (.bool false)], args := [d1, d2] }
  | _ => none }
def ProgramUnreachedWrongFalsely : Prop := programUnreachedRow.holds Try.pinned (OpenSpec.ofChange programUnreachedWrong)

/- THE SECOND FORM. 'bulk': how many values and letters a reading holds, each counted each time it is reached (what is shared counts as often as it is met; a slice's spare places count too). A statement '..UptoSaid' is the law's where the arguments, and the package variables that the reading takes, are together of bulk at most 1048576: NARROWER than '..Said'. Prove '..Said' where nothing that the law and all that it calls make is longer than what came in: it says more and counts as full. Else prove '..UptoSaid'. A law counts once. -/
mutual
def uptoBulk {H : Type} : DataW H → Nat
  | .lit (.string bytes) => bytes.length + 1
  | .lit _ => 1
  | .nil => 1
  | .ptr d => uptoBulk d + 1
  | .slice elems spare => uptoBulkAll elems + uptoBulkAll spare + 1
  | .agg parts => uptoBulkAll parts + 1
  | .iface _ d => uptoBulk d + 1
  | .map entries => uptoBulkEntries entries + 1
  | .held _ => 1
def uptoBulkAll {H : Type} : List (DataW H) → Nat
  | [] => 0
  | d :: r => uptoBulk d + uptoBulkAll r
def uptoBulkEntries {H : Type} : List (Lit × DataW H) → Nat
  | [] => 0
  | x :: r => uptoBulkEntry x + uptoBulkEntries r
def uptoBulkEntry {H : Type} : Lit × DataW H → Nat
  | (.string bytes, d) => bytes.length + uptoBulk d + 1
  | (_, d) => uptoBulk d + 1
 end
def uptoSmall : (H : Type) → List (DataW H) → Bool := fun _ ds => decide (uptoBulkAll ds ≤ 1048576)
def OpenSpec.upto (s : _root_.Go.ChangeSpec) : _root_.Go.OpenSpec := { _root_.Go.OpenSpec.ofChange s with cond := some uptoSmall }

/-- 'redundancylaw08.ProgramChecks', WHERE WHAT IT READS IS OF BULK AT MOST 1048576: true; the input reads as it did. -/
def programChecksUptoRow : OpenClaim := { program := "ytgphpfjngblbiaa", sum := "4a1cdc66431cf5699c7f1328f773fe4127c05c26bfc130aaab35db916b83a445", func := "redundancy/redundancylaw08.ProgramChecks", spec := "programChecks", unfollowed := true, recurses := true, apart := false, narrowed := true }
def ProgramChecksUptoSaid : Prop := programChecksUptoRow.holds Try.pinned (OpenSpec.upto programChecksSpec)

/-- 'redundancylaw08.ProgramStarts', WHERE WHAT IT READS IS OF BULK AT MOST 1048576: true; the input reads as it did. -/
def programStartsUptoRow : OpenClaim := { program := "ytgphpfjngblbiaa", sum := "4a1cdc66431cf5699c7f1328f773fe4127c05c26bfc130aaab35db916b83a445", func := "redundancy/redundancylaw08.ProgramStarts", spec := "programStarts", unfollowed := true, recurses := true, apart := false, narrowed := true }
def ProgramStartsUptoSaid : Prop := programStartsUptoRow.holds Try.pinned (OpenSpec.upto programStartsSpec)

/-- 'redundancylaw08.ProgramBytes', WHERE WHAT IT READS IS OF BULK AT MOST 1048576: true; the input reads as it did. -/
def programBytesUptoRow : OpenClaim := { program := "ytgphpfjngblbiaa", sum := "4a1cdc66431cf5699c7f1328f773fe4127c05c26bfc130aaab35db916b83a445", func := "redundancy/redundancylaw08.ProgramBytes", spec := "programBytes", unfollowed := true, recurses := true, apart := false, narrowed := true }
def ProgramBytesUptoSaid : Prop := programBytesUptoRow.holds Try.pinned (OpenSpec.upto programBytesSpec)

/-- 'redundancylaw08.ProgramBack', WHERE WHAT IT READS IS OF BULK AT MOST 1048576: true; the input reads as it did. -/
def programBackUptoRow : OpenClaim := { program := "ytgphpfjngblbiaa", sum := "4a1cdc66431cf5699c7f1328f773fe4127c05c26bfc130aaab35db916b83a445", func := "redundancy/redundancylaw08.ProgramBack", spec := "programBack", unfollowed := true, recurses := true, apart := false, narrowed := true }
def ProgramBackUptoSaid : Prop := programBackUptoRow.holds Try.pinned (OpenSpec.upto programBackSpec)

/-- 'redundancylaw08.ProgramReaches', WHERE WHAT IT READS IS OF BULK AT MOST 1048576: true; the input reads as it did. -/
def programReachesUptoRow : OpenClaim := { program := "ytgphpfjngblbiaa", sum := "4a1cdc66431cf5699c7f1328f773fe4127c05c26bfc130aaab35db916b83a445", func := "redundancy/redundancylaw08.ProgramReaches", spec := "programReaches", unfollowed := true, recurses := true, apart := false, narrowed := true }
def ProgramReachesUptoSaid : Prop := programReachesUptoRow.holds Try.pinned (OpenSpec.upto programReachesSpec)

/-- 'redundancylaw08.ProgramUnreached', WHERE WHAT IT READS IS OF BULK AT MOST 1048576: true; the input reads as it did. -/
def programUnreachedUptoRow : OpenClaim := { program := "ytgphpfjngblbiaa", sum := "4a1cdc66431cf5699c7f1328f773fe4127c05c26bfc130aaab35db916b83a445", func := "redundancy/redundancylaw08.ProgramUnreached", spec := "programUnreached", unfollowed := true, recurses := true, apart := false, narrowed := true }
def ProgramUnreachedUptoSaid : Prop := programUnreachedUptoRow.holds Try.pinned (OpenSpec.upto programUnreachedSpec)

end Rows
end Go.Proofs.Ytgphpfjngblbiaa
