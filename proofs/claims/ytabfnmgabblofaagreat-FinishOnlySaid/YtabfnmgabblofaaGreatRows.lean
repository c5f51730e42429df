/-
  No cell of these rows narrows 'for every input' (looked for: loops, veiled, ifaces, maps, wideKeys, modest, calm, conditions, laid).
  DERIVED. THE GIVEN ROWS OF THIS SEAT. 5 by the template 'for every input the law returns true; each argument reads behind the call as it read before'; 0 by the template 'total and deterministic' (their statements: YtabfnmgabblofaaGreatTotals.lean).
  GIVEN WITH THE SEED: the statements are not yours to turn. If you find one false, say at which input.
  Laid BY PROGRAM, IN A SANDBOX (cutbox-rows.mjs): the forced cells as the released guide's own fill.sh prints them over the translation d388a5608f15197f… (all of the seat's roots in one cut). By AI agents, Wed Nov 11 2026. No macro, syntax, notation, axiom, sorry.
-/
import Derived.Test.YtabfnmgabblofaaGreatChecked
import GoSem.Claim
import GoSem.ClaimJoined
import GoSem.ClaimMapViews
import Derived.JoinedTies
import Derived.KernelRfl
namespace Go.Proofs.YtabfnmgabblofaaGreat
/- THE CELL 'sum', in the pinned program and in every row, IS THE sha256 OF THE DUMP (.gsa) THAT YtabfnmgabblofaaGreatProg.lean LOADS. Nothing in Lean hashes anything: it is a label: what it is worth is what the hold of that sum in a sandbox is worth. -/
noncomputable def Tryz.pinned : Pinned := { name := "ytabfnmgabblofaagreat", sum := "d388a5608f15197f48efd66a66fa14d018c97b937368ac284981caa4842f5114", checked := Tryz.checked }
namespace Rows
def none {H : Type} : Left H := { results := [], args := [] }

/-- 'redundancylaw14.FinishLayouts': WHATEVER THE INPUT: true; the input reads as it did. -/
def finishLayoutsSpec : ChangeSpec := { name := "finishLayouts", fn := fun _ => fun
  | [d1, d2] => { results := [.lit (.bool true)], args := [d1, d2] }
  | _ => none }
def finishLayoutsRow : OpenClaim := { program := "ytabfnmgabblofaagreat", sum := "d388a5608f15197f48efd66a66fa14d018c97b937368ac284981caa4842f5114", func := "redundancy/redundancylaw14.FinishLayouts", spec := "finishLayouts", unfollowed := true, recurses := true, apart := false }
def FinishLayoutsSaid : Prop := finishLayoutsRow.holds Tryz.pinned (OpenSpec.ofChange finishLayoutsSpec)

/-- ITS FALSE NEIGHBOUR: 'it returns false'. Refute it at one input. -/
def finishLayoutsWrong : ChangeSpec := { name := "finishLayouts", fn := fun _ => fun
  | [d1, d2] => { results := [.lit (.bool false)], args := [d1, d2] }
  | _ => none }
def FinishLayoutsWrongFalsely : Prop := finishLayoutsRow.holds Tryz.pinned (OpenSpec.ofChange finishLayoutsWrong)

/-- 'redundancylaw14.FinishOnly': WHATEVER THE INPUT: true; the input reads as it did. -/
def finishOnlySpec : ChangeSpec := { name := "finishOnly", fn := fun _ => fun
  | [d] => { results := [.lit (.bool true)], args := [d] }
  | _ => none }
def finishOnlyRow : OpenClaim := { program := "ytabfnmgabblofaagreat", sum := "d388a5608f15197f48efd66a66fa14d018c97b937368ac284981caa4842f5114", func := "redundancy/redundancylaw14.FinishOnly", spec := "finishOnly", unfollowed := true, recurses := true, apart := false }
def FinishOnlySaid : Prop := finishOnlyRow.holds Tryz.pinned (OpenSpec.ofChange finishOnlySpec)

/-- ITS FALSE NEIGHBOUR: 'it returns false'. Refute it at one input. -/
def finishOnlyWrong : ChangeSpec := { name := "finishOnly", fn := fun _ => fun
  | [d] => { results := [.lit (.bool false)], args := [d] }
  | _ => none }
def FinishOnlyWrongFalsely : Prop := finishOnlyRow.holds Tryz.pinned (OpenSpec.ofChange finishOnlyWrong)

/-- 'redundancylaw14.FinishRegs': WHATEVER THE INPUT: true; the input reads as it did. -/
def finishRegsSpec : ChangeSpec := { name := "finishRegs", fn := fun _ => fun
  | [d] => { results := [.lit (.bool true)], args := [d] }
  | _ => none }
def finishRegsRow : OpenClaim := { program := "ytabfnmgabblofaagreat", sum := "d388a5608f15197f48efd66a66fa14d018c97b937368ac284981caa4842f5114", func := "redundancy/redundancylaw14.FinishRegs", spec := "finishRegs", unfollowed := true, recurses := true, apart := false }
def FinishRegsSaid : Prop := finishRegsRow.holds Tryz.pinned (OpenSpec.ofChange finishRegsSpec)

/-- ITS FALSE NEIGHBOUR: 'it returns false'. Refute it at one input. -/
def finishRegsWrong : ChangeSpec := { name := "finishRegs", fn := fun _ => fun
  | [d] => { results := [.lit (.bool false)], args := [d] }
  | _ => none }
def FinishRegsWrongFalsely : Prop := finishRegsRow.holds Tryz.pinned (OpenSpec.ofChange finishRegsWrong)

/-- 'redundancylaw14.FinishWakes': WHATEVER THE INPUT: true; the input reads as it did. -/
def finishWakesSpec : ChangeSpec := { name := "finishWakes", fn := fun _ => fun
  | [d1, d2, d3] => { results := [.lit (.bool true)], args := [d1, d2, d3] }
  | _ => none }
def finishWakesRow : OpenClaim := { program := "ytabfnmgabblofaagreat", sum := "d388a5608f15197f48efd66a66fa14d018c97b937368ac284981caa4842f5114", func := "redundancy/redundancylaw14.FinishWakes", spec := "finishWakes", unfollowed := true, recurses := true, apart := false }
def FinishWakesSaid : Prop := finishWakesRow.holds Tryz.pinned (OpenSpec.ofChange finishWakesSpec)

/-- ITS FALSE NEIGHBOUR: 'it returns false'. Refute it at one input. -/
def finishWakesWrong : ChangeSpec := { name := "finishWakes", fn := fun _ => fun
  | [d1, d2, d3] => { results := [.lit (.bool false)], args := [d1, d2, d3] }
  | _ => none }
def FinishWakesWrongFalsely : Prop := finishWakesRow.holds Tryz.pinned (OpenSpec.ofChange finishWakesWrong)

/-- 'redundancylaw14.FinishTwice': WHATEVER THE INPUT: true; the input reads as it did. -/
def finishTwiceSpec : ChangeSpec := { name := "finishTwice", fn := fun _ => fun
  | [d] => { results := [.lit (.bool true)], args := [d] }
  | _ => none }
def finishTwiceRow : OpenClaim := { program := "ytabfnmgabblofaagreat", sum := "d388a5608f15197f48efd66a66fa14d018c97b937368ac284981caa4842f5114", func := "redundancy/redundancylaw14.FinishTwice", spec := "finishTwice", unfollowed := true, recurses := true, apart := false }
def FinishTwiceSaid : Prop := finishTwiceRow.holds Tryz.pinned (OpenSpec.ofChange finishTwiceSpec)

/-- ITS FALSE NEIGHBOUR: 'it returns false'. Refute it at one input. -/
def finishTwiceWrong : ChangeSpec := { name := "finishTwice", fn := fun _ => fun
  | [d] => { results := [.lit (.bool false)], args := [d] }
  | _ => none }
def FinishTwiceWrongFalsely : Prop := finishTwiceRow.holds Tryz.pinned (OpenSpec.ofChange finishTwiceWrong)

/- THE SECOND FORM. 'bulk': how many values and letters a reading holds, each counted each time it is reached (what is shared counts as often as it is met; a slice's spare places count too). A statement '..UptoSaid' is the law's where the arguments, and the package variables that the reading takes, are together of bulk at most 1048576: NARROWER than '..Said'. Prove '..Said' where nothing that the law and all that it calls make is longer than what came in: it says more and counts as full. Else prove '..UptoSaid'. A law counts once. -/
mutual
def uptoBulk {H : Type} : DataW H → Nat
  | .lit (.string bytes) => bytes.length + 1
  | .lit _ => 1
  | .nil => 1
  | .ptr d => uptoBulk d + 1
  | .slice elems spare => uptoBulkAll elems + uptoBulkAll spare + 1
  | .agg parts => uptoBulkAll parts + 1
  | .iface _ d => uptoBulk d + 1
  | .map entries => uptoBulkEntries entries + 1
  | .held _ => 1
def uptoBulkAll {H : Type} : List (DataW H) → Nat
  | [] => 0
  | d :: r => uptoBulk d + uptoBulkAll r
def uptoBulkEntries {H : Type} : List (Lit × DataW H) → Nat
  | [] => 0
  | x :: r => uptoBulkEntry x + uptoBulkEntries r
def uptoBulkEntry {H : Type} : Lit × DataW H → Nat
  | (.string bytes, d) => bytes.length + uptoBulk d + 1
  | (_, d) => uptoBulk d + 1
 end
def uptoSmall : (H : Type) → List (DataW H) → Bool := fun _ ds => decide (uptoBulkAll ds ≤ 1048576)
def OpenSpec.upto (s : _root_.Go.ChangeSpec) : _root_.Go.OpenSpec := { _root_.Go.OpenSpec.ofChange s with cond := some uptoSmall }

/-- 'redundancylaw14.FinishLayouts', WHERE WHAT IT READS IS OF BULK AT MOST 1048576: true; the input reads as it did. -/
def finishLayoutsUptoRow : OpenClaim := { program := "ytabfnmgabblofaagreat", sum := "d388a5608f15197f48efd66a66fa14d018c97b937368ac284981caa4842f5114", func := "redundancy/redundancylaw14.FinishLayouts", spec := "finishLayouts", unfollowed := true, recurses := true, apart := false, narrowed := true }
def FinishLayoutsUptoSaid : Prop := finishLayoutsUptoRow.holds Tryz.pinned (OpenSpec.upto finishLayoutsSpec)

/-- 'redundancylaw14.FinishOnly', WHERE WHAT IT READS IS OF BULK AT MOST 1048576: true; the input reads as it did. -/
def finishOnlyUptoRow : OpenClaim := { program := "ytabfnmgabblofaagreat", sum := "d388a5608f15197f48efd66a66fa14d018c97b937368ac284981caa4842f5114", func := "redundancy/redundancylaw14.FinishOnly", spec := "finishOnly", unfollowed := true, recurses := true, apart := false, narrowed := true }
def FinishOnlyUptoSaid : Prop := finishOnlyUptoRow.holds Tryz.pinned (OpenSpec.upto finishOnlySpec)

/-- 'redundancylaw14.FinishRegs', WHERE WHAT IT READS IS OF BULK AT MOST 1048576: true; the input reads as it did. -/
def finishRegsUptoRow : OpenClaim := { program := "ytabfnmgabblofaagreat", sum := "d388a5608f15197f48efd66a66fa14d018c97b937368ac284981caa4842f5114", func := "redundancy/redundancylaw14.FinishRegs", spec := "finishRegs", unfollowed := true, recurses := true, apart := false, narrowed := true }
def FinishRegsUptoSaid : Prop := finishRegsUptoRow.holds Tryz.pinned (OpenSpec.upto finishRegsSpec)

/-- 'redundancylaw14.FinishWakes', WHERE WHAT IT READS IS OF BULK AT MOST 1048576: true; the input reads as it did. -/
def finishWakesUptoRow : OpenClaim := { program := "ytabfnmgabblofaagreat", sum := "d388a5608f15197f48efd66a66fa14d018c97b937368ac284981caa4842f5114", func := "redundancy/redundancylaw14.FinishWakes", spec := "finishWakes", unfollowed := true, recurses := true, apart := false, narrowed := true }
def FinishWakesUptoSaid : Prop := finishWakesUptoRow.holds Tryz.pinned (OpenSpec.upto finishWakesSpec)

/-- 'redundancylaw14.FinishTwice', WHERE WHAT IT READS IS OF BULK AT MOST 1048576: true; the input reads as it did. -/
def finishTwiceUptoRow : OpenClaim := { program := "ytabfnmgabblofaagreat", sum := "d388a5608f15197f48efd66a66fa14d018c97b937368ac284981caa4842f5114", func := "redundancy/redundancylaw14.FinishTwice", spec := "finishTwice", unfollowed := true, recurses := true, apart := false, narrowed := true }
def FinishTwiceUptoSaid : Prop := finishTwiceUptoRow.holds Tryz.pinned (OpenSpec.upto finishTwiceSpec)

end Rows
end Go.Proofs.YtabfnmgabblofaaGreat
