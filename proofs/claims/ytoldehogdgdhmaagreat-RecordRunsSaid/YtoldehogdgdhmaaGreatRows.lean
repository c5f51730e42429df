/-
  No cell of these rows narrows 'for every input' (looked for: loops, veiled, ifaces, maps, wideKeys, modest, calm, conditions, laid).
  DERIVED. THE GIVEN ROWS OF THIS SEAT. 5 by the template 'for every input the law returns true; each argument reads behind the call as it read before'; 0 by the template 'total and deterministic' (their statements: YtoldehogdgdhmaaGreatTotals.lean).
  GIVEN WITH THE SEED: the statements are not yours to turn. If you find one false, say at which input.
  Laid BY PROGRAM, IN A SANDBOX (cutbox-rows.mjs): the forced cells as the released guide's own fill.sh prints them over the translation 6ce97279ddda0bad… (all of the seat's roots in one cut). By AI agents, Wed Nov 11 2026. No macro, syntax, notation, axiom, sorry.
-/
import Derived.Test.YtoldehogdgdhmaaGreatChecked
import GoSem.Claim
import GoSem.ClaimJoined
import GoSem.ClaimMapViews
import Derived.JoinedTies
import Derived.KernelRfl
namespace Go.Proofs.YtoldehogdgdhmaaGreat
/- THE CELL 'sum', in the pinned program and in every row, IS THE sha256 OF THE DUMP (.gsa) THAT YtoldehogdgdhmaaGreatProg.lean LOADS. Nothing in Lean hashes anything: it is a label: what it is worth is what the hold of that sum in a sandbox is worth. -/
noncomputable def Tryz.pinned : Pinned := { name := "ytoldehogdgdhmaagreat", sum := "6ce97279ddda0bad77cb958c33864cca27f95eea4dab5fb9ade31d422e4db144", checked := Tryz.checked }
namespace Rows
def none {H : Type} : Left H := { results := [], args := [] }

/-- 'redundancylaw20.RecordGrows': WHATEVER THE INPUT: true; the input reads as it did. -/
def recordGrowsSpec : ChangeSpec := { name := "recordGrows", fn := fun _ => fun
  | [d1, d2] => { results := [.lit (.bool true)], args := [d1, d2] }
  | _ => none }
def recordGrowsRow : OpenClaim := { program := "ytoldehogdgdhmaagreat", sum := "6ce97279ddda0bad77cb958c33864cca27f95eea4dab5fb9ade31d422e4db144", func := "redundancy/redundancylaw20.RecordGrows", spec := "recordGrows", unfollowed := true, recurses := true, apart := false }
def RecordGrowsSaid : Prop := recordGrowsRow.holds Tryz.pinned (OpenSpec.ofChange recordGrowsSpec)

/-- ITS FALSE NEIGHBOUR: 'it returns false'. Refute it at one input. -/
def recordGrowsWrong : ChangeSpec := { name := "recordGrows", fn := fun _ => fun
  | [d1, d2] => { results := [.lit (.bool false)], args := [d1, d2] }
  | _ => none }
def RecordGrowsWrongFalsely : Prop := recordGrowsRow.holds Tryz.pinned (OpenSpec.ofChange recordGrowsWrong)

/-- 'redundancylaw20.RecordCodes': WHATEVER THE INPUT: true; the input reads as it did. -/
def recordCodesSpec : ChangeSpec := { name := "recordCodes", fn := fun _ => fun
  | [d1, d2] => { results := [.lit (.bool true)], args := [d1, d2] }
  | _ => none }
def recordCodesRow : OpenClaim := { program := "ytoldehogdgdhmaagreat", sum := "6ce97279ddda0bad77cb958c33864cca27f95eea4dab5fb9ade31d422e4db144", func := "redundancy/redundancylaw20.RecordCodes", spec := "recordCodes", unfollowed := true, recurses := true, apart := false }
def RecordCodesSaid : Prop := recordCodesRow.holds Tryz.pinned (OpenSpec.ofChange recordCodesSpec)

/-- ITS FALSE NEIGHBOUR: 'it returns false'. Refute it at one input. -/
def recordCodesWrong : ChangeSpec := { name := "recordCodes", fn := fun _ => fun
  | [d1, d2] => { results := [.lit (.bool false)], args := [d1, d2] }
  | _ => none }
def RecordCodesWrongFalsely : Prop := recordCodesRow.holds Tryz.pinned (OpenSpec.ofChange recordCodesWrong)

/-- 'redundancylaw20.RecordRuns': WHATEVER THE INPUT: true; the input reads as it did. -/
def recordRunsSpec : ChangeSpec := { name := "recordRuns", fn := fun _ => fun
  | [d1, d2] => { results := [.lit (.bool true)], args := [d1, d2] }
  | _ => none }
def recordRunsRow : OpenClaim := { program := "ytoldehogdgdhmaagreat", sum := "6ce97279ddda0bad77cb958c33864cca27f95eea4dab5fb9ade31d422e4db144", func := "redundancy/redundancylaw20.RecordRuns", spec := "recordRuns", unfollowed := true, recurses := true, apart := false }
def RecordRunsSaid : Prop := recordRunsRow.holds Tryz.pinned (OpenSpec.ofChange recordRunsSpec)

/-- ITS FALSE NEIGHBOUR: 'it returns false'. Refute it at one input. -/
def recordRunsWrong : ChangeSpec := { name := "recordRuns", fn := fun _ => fun
  | [d1, d2] => { results := [.lit (.bool false)], args := [d1, d2] }
  | _ => none }
def RecordRunsWrongFalsely : Prop := recordRunsRow.holds Tryz.pinned (OpenSpec.ofChange recordRunsWrong)

/-- 'redundancylaw20.RecordBack': WHATEVER THE INPUT: true; the input reads as it did. -/
def recordBackSpec : ChangeSpec := { name := "recordBack", fn := fun _ => fun
  | [d1, d2] => { results := [.lit (.bool true)], args := [d1, d2] }
  | _ => none }
def recordBackRow : OpenClaim := { program := "ytoldehogdgdhmaagreat", sum := "6ce97279ddda0bad77cb958c33864cca27f95eea4dab5fb9ade31d422e4db144", func := "redundancy/redundancylaw20.RecordBack", spec := "recordBack", unfollowed := true, recurses := true, apart := false }
def RecordBackSaid : Prop := recordBackRow.holds Tryz.pinned (OpenSpec.ofChange recordBackSpec)

/-- ITS FALSE NEIGHBOUR: 'it returns false'. Refute it at one input. -/
def recordBackWrong : ChangeSpec := { name := "recordBack", fn := fun _ => fun
  | [d1, d2] => { results := [.lit (.bool false)], args := [d1, d2] }
  | _ => none }
def RecordBackWrongFalsely : Prop := recordBackRow.holds Tryz.pinned (OpenSpec.ofChange recordBackWrong)

/-- 'redundancylaw20.RecordJoins': WHATEVER THE INPUT: true; the input reads as it did. -/
def recordJoinsSpec : ChangeSpec := { name := "recordJoins", fn := fun _ => fun
  | [d1, d2] => { results := [.lit (.bool true)], args := [d1, d2] }
  | _ => none }
def recordJoinsRow : OpenClaim := { program := "ytoldehogdgdhmaagreat", sum := "6ce97279ddda0bad77cb958c33864cca27f95eea4dab5fb9ade31d422e4db144", func := "redundancy/redundancylaw20.RecordJoins", spec := "recordJoins", unfollowed := true, recurses := true, apart := false }
def RecordJoinsSaid : Prop := recordJoinsRow.holds Tryz.pinned (OpenSpec.ofChange recordJoinsSpec)

/-- ITS FALSE NEIGHBOUR: 'it returns false'. Refute it at one input. -/
def recordJoinsWrong : ChangeSpec := { name := "recordJoins", fn := fun _ => fun
  | [d1, d2] => { results := [.lit (.bool false)], args := [d1, d2] }
  | _ => none }
def RecordJoinsWrongFalsely : Prop := recordJoinsRow.holds Tryz.pinned (OpenSpec.ofChange recordJoinsWrong)

/- THE SECOND FORM. 'bulk': how many values and letters a reading holds, each counted each time it is reached (what is shared counts as often as it is met; a slice's spare places count too). A statement '..UptoSaid' is the law's where the arguments, and the package variables that the reading takes, are together of bulk at most 1048576: NARROWER than '..Said'. Prove '..Said' where nothing that the law and all that it calls make is longer than what came in: it says more and counts as full. Else prove '..UptoSaid'. A law counts once. -/
mutual
def uptoBulk {H : Type} : DataW H → Nat
  | .lit (.string bytes) => bytes.length + 1
  | .lit _ => 1
  | .nil => 1
  | .ptr d => uptoBulk d + 1
  | .slice elems spare => uptoBulkAll elems + uptoBulkAll spare + 1
  | .agg parts => uptoBulkAll parts + 1
  | .iface _ d => uptoBulk d + 1
  | .map entries => uptoBulkEntries entries + 1
  | .held _ => 1
def uptoBulkAll {H : Type} : List (DataW H) → Nat
  | [] => 0
  | d :: r => uptoBulk d + uptoBulkAll r
def uptoBulkEntries {H : Type} : List (Lit × DataW H) → Nat
  | [] => 0
  | x :: r => uptoBulkEntry x + uptoBulkEntries r
def uptoBulkEntry {H : Type} : Lit × DataW H → Nat
  | (.string bytes, d) => bytes.length + uptoBulk d + 1
  | (_, d) => uptoBulk d + 1
 end
def uptoSmall : (H : Type) → List (DataW H) → Bool := fun _ ds => decide (uptoBulkAll ds ≤ 1048576)
def OpenSpec.upto (s : _root_.Go.ChangeSpec) : _root_.Go.OpenSpec := { _root_.Go.OpenSpec.ofChange s with cond := some uptoSmall }

/-- 'redundancylaw20.RecordGrows', WHERE WHAT IT READS IS OF BULK AT MOST 1048576: true; the input reads as it did. -/
def recordGrowsUptoRow : OpenClaim := { program := "ytoldehogdgdhmaagreat", sum := "6ce97279ddda0bad77cb958c33864cca27f95eea4dab5fb9ade31d422e4db144", func := "redundancy/redundancylaw20.RecordGrows", spec := "recordGrows", unfollowed := true, recurses := true, apart := false, narrowed := true }
def RecordGrowsUptoSaid : Prop := recordGrowsUptoRow.holds Tryz.pinned (OpenSpec.upto recordGrowsSpec)

/-- 'redundancylaw20.RecordCodes', WHERE WHAT IT READS IS OF BULK AT MOST 1048576: true; the input reads as it did. -/
def recordCodesUptoRow : OpenClaim := { program := "ytoldehogdgdhmaagreat", sum := "6ce97279ddda0bad77cb958c33864cca27f95eea4dab5fb9ade31d422e4db144", func := "redundancy/redundancylaw20.RecordCodes", spec := "recordCodes", unfollowed := true, recurses := true, apart := false, narrowed := true }
def RecordCodesUptoSaid : Prop := recordCodesUptoRow.holds Tryz.pinned (OpenSpec.upto recordCodesSpec)

/-- 'redundancylaw20.RecordRuns', WHERE WHAT IT READS IS OF BULK AT MOST 1048576: true; the input reads as it did. -/
def recordRunsUptoRow : OpenClaim := { program := "ytoldehogdgdhmaagreat", sum := "6ce97279ddda0bad77cb958c33864cca27f95eea4dab5fb9ade31d422e4db144", func := "redundancy/redundancylaw20.RecordRuns", spec := "recordRuns", unfollowed := true, recurses := true, apart := false, narrowed := true }
def RecordRunsUptoSaid : Prop := recordRunsUptoRow.holds Tryz.pinned (OpenSpec.upto recordRunsSpec)

/-- 'redundancylaw20.RecordBack', WHERE WHAT IT READS IS OF BULK AT MOST 1048576: true; the input reads as it did. -/
def recordBackUptoRow : OpenClaim := { program := "ytoldehogdgdhmaagreat", sum := "6ce97279ddda0bad77cb958c33864cca27f95eea4dab5fb9ade31d422e4db144", func := "redundancy/redundancylaw20.RecordBack", spec := "recordBack", unfollowed := true, recurses := true, apart := false, narrowed := true }
def RecordBackUptoSaid : Prop := recordBackUptoRow.holds Tryz.pinned (OpenSpec.upto recordBackSpec)

/-- 'redundancylaw20.RecordJoins', WHERE WHAT IT READS IS OF BULK AT MOST 1048576: true; the input reads as it did. -/
def recordJoinsUptoRow : OpenClaim := { program := "ytoldehogdgdhmaagreat", sum := "6ce97279ddda0bad77cb958c33864cca27f95eea4dab5fb9ade31d422e4db144", func := "redundancy/redundancylaw20.RecordJoins", spec := "recordJoins", unfollowed := true, recurses := true, apart := false, narrowed := true }
def RecordJoinsUptoSaid : Prop := recordJoinsUptoRow.holds Tryz.pinned (OpenSpec.upto recordJoinsSpec)

end Rows
end Go.Proofs.YtoldehogdgdhmaaGreat
