/-
  No cell of these rows narrows 'for every input' (looked for: loops, veiled, ifaces, maps, wideKeys, modest, calm, conditions, laid).
  DERIVED. THE GIVEN ROWS OF THIS SEAT. 3 by the template 'for every input the law returns true; each argument reads behind the call as it read before'; 0 by the template 'total and deterministic' (their statements: YtakfoejcjdcgbaaGreatTotals.lean).
  GIVEN WITH THE SEED: the statements are not yours to turn. If you find one false, say at which input.
  Laid BY PROGRAM, IN A SANDBOX (cutbox-rows.mjs): the forced cells as the released guide's own fill.sh prints them over the translation 5661c2b242e7f8d8… (all of the seat's roots in one cut). By AI agents, Wed Nov 11 2026. No macro, syntax, notation, axiom, sorry.
-/
import Derived.Test.YtakfoejcjdcgbaaGreatChecked
import GoSem.Claim
import GoSem.ClaimJoined
import GoSem.ClaimMapViews
import Derived.JoinedTies
import Derived.KernelRfl
namespace Go.Proofs.YtakfoejcjdcgbaaGreat
/- THE CELL 'sum', in the pinned program and in every row, IS THE sha256 OF THE DUMP (.gsa) THAT YtakfoejcjdcgbaaGreatProg.lean LOADS. Nothing in Lean hashes anything: it is a label: what it is worth is what the hold of that sum in a sandbox is worth. -/
noncomputable def Tryz.pinned : Pinned := { name := "ytakfoejcjdcgbaagreat", sum := "5661c2b242e7f8d821c960a7744c4e4512b2cbfe4d631a00a31052e7bb5dbf15", checked := Tryz.checked }
namespace Rows
def none {H : Type} : Left H := { results := [], args := [] }

/-- 'redundancylaw34.RepairRaw': WHATEVER THE INPUT: true; the input reads as it did. -/
def repairRawSpec : ChangeSpec := { name := "repairRaw", fn := fun _ => fun
  | [d1, d2, d3, d4, d5, d6] => { results := [.lit (.bool true)], args := [d1, d2, d3, d4, d5, d6] }
  | _ => none }
def repairRawRow : OpenClaim := { program := "ytakfoejcjdcgbaagreat", sum := "5661c2b242e7f8d821c960a7744c4e4512b2cbfe4d631a00a31052e7bb5dbf15", func := "redundancy/redundancylaw34.RepairRaw", spec := "repairRaw", unfollowed := true, recurses := true, apart := false }
def RepairRawSaid : Prop := repairRawRow.holds Tryz.pinned (OpenSpec.ofChange repairRawSpec)

/-- ITS FALSE NEIGHBOUR: 'it returns false'. Refute it at one input. -/
def repairRawWrong : ChangeSpec := { name := "repairRaw", fn := fun _ => fun
  | [d1, d2, d3, d4, d5, d6] => { results := [.lit (.bool false)], args := [d1, d2, d3, d4, d5, d6] }
  | _ => none }
def RepairRawWrongFalsely : Prop := repairRawRow.holds Tryz.pinned (OpenSpec.ofChange repairRawWrong)

/-- 'redundancylaw34.RepairMade': WHATEVER THE INPUT: true; the input reads as it did. -/
def repairMadeSpec : ChangeSpec := { name := "repairMade", fn := fun _ => fun
  | [d1, d2, d3, d4, d5] => { results := [.lit (.bool true)], args := [d1, d2, d3, d4, d5] }
  | _ => none }
def repairMadeRow : OpenClaim := { program := "ytakfoejcjdcgbaagreat", sum := "5661c2b242e7f8d821c960a7744c4e4512b2cbfe4d631a00a31052e7bb5dbf15", func := "redundancy/redundancylaw34.RepairMade", spec := "repairMade", unfollowed := true, recurses := true, apart := false }
def RepairMadeSaid : Prop := repairMadeRow.holds Tryz.pinned (OpenSpec.ofChange repairMadeSpec)

/-- ITS FALSE NEIGHBOUR: 'it returns false'. Refute it at one input. -/
def repairMadeWrong : ChangeSpec := { name := "repairMade", fn := fun _ => fun
  | [d1, d2, d3, d4, d5] => { results := [.lit (.bool false)], args := [d1, d2, d3, d4, d5] }
  | _ => none }
def RepairMadeWrongFalsely : Prop := repairMadeRow.holds Tryz.pinned (OpenSpec.ofChange repairMadeWrong)

/-- 'redundancylaw34.RepairEnds': WHATEVER THE INPUT: true; the input reads as it did. -/
def repairEndsSpec : ChangeSpec := { name := "repairEnds", fn := fun _ => fun
  | [d1, d2, d3] => { results := [.lit (.bool true)], args := [d1, d2, d3] }
  | _ => none }
def repairEndsRow : OpenClaim := { program := "ytakfoejcjdcgbaagreat", sum := "5661c2b242e7f8d821c960a7744c4e4512b2cbfe4d631a00a31052e7bb5dbf15", func := "redundancy/redundancylaw34.RepairEnds", spec := "repairEnds", unfollowed := true, recurses := true, apart := false }
def RepairEndsSaid : Prop := repairEndsRow.holds Tryz.pinned (OpenSpec.ofChange repairEndsSpec)

/-- ITS FALSE NEIGHBOUR: 'it returns false'. Refute it at one input. -/
def repairEndsWrong : ChangeSpec := { name := "repairEnds", fn := fun _ => fun
  | [d1, d2, d3] => { results := [.lit (.bool false)], args := [d1, d2, d3] }
  | _ => none }
def RepairEndsWrongFalsely : Prop := repairEndsRow.holds Tryz.pinned (OpenSpec.ofChange repairEndsWrong)

/- THE SECOND FORM. 'bulk': how many values and letters a reading holds, each counted each time it is reached (what is shared counts as often as it is met; a slice's spare places count too). A statement '..UptoSaid' is the law's where the arguments, and the package variables that the reading takes, are together of bulk at most 1048576: NARROWER than '..Said'. Prove '..Said' where nothing that the law and all that it calls make is longer than what came in: it says more and counts as full. Else prove '..UptoSaid'. A law counts once. -/
mutual
def uptoBulk {H : Type} : DataW H → Nat
  | .lit (.string bytes) => bytes.length + 1
  | .lit _ => 1
  | .nil => 1
  | .ptr d => uptoBulk d + 1
  | .slice elems spare => uptoBulkAll elems + uptoBulkAll spare + 1
  | .agg parts => uptoBulkAll parts + 1
  | .iface _ d => uptoBulk d + 1
  | .map entries => uptoBulkEntries entries + 1
  | .held _ => 1
def uptoBulkAll {H : Type} : List (DataW H) → Nat
  | [] => 0
  | d :: r => uptoBulk d + uptoBulkAll r
def uptoBulkEntries {H : Type} : List (Lit × DataW H) → Nat
  | [] => 0
  | x :: r => uptoBulkEntry x + uptoBulkEntries r
def uptoBulkEntry {H : Type} : Lit × DataW H → Nat
  | (.string bytes, d) => bytes.length + uptoBulk d + 1
  | (_, d) => uptoBulk d + 1
 end
def uptoSmall : (H : Type) → List (DataW H) → Bool := fun _ ds => decide (uptoBulkAll ds ≤ 1048576)
def OpenSpec.upto (s : _root_.Go.ChangeSpec) : _root_.Go.OpenSpec := { _root_.Go.OpenSpec.ofChange s with cond := some uptoSmall }

/-- 'redundancylaw34.RepairRaw', WHERE WHAT IT READS IS OF BULK AT MOST 1048576: true; the input reads as it did. -/
def repairRawUptoRow : OpenClaim := { program := "ytakfoejcjdcgbaagreat", sum := "5661c2b242e7f8d821c960a7744c4e4512b2cbfe4d631a00a31052e7bb5dbf15", func := "redundancy/redundancylaw34.RepairRaw", spec := "repairRaw", unfollowed := true, recurses := true, apart := false, narrowed := true }
def RepairRawUptoSaid : Prop := repairRawUptoRow.holds Tryz.pinned (OpenSpec.upto repairRawSpec)

/-- 'redundancylaw34.RepairMade', WHERE WHAT IT READS IS OF BULK AT MOST 1048576: true; the input reads as it did. -/
def repairMadeUptoRow : OpenClaim := { program := "ytakfoejcjdcgbaagreat", sum := "5661c2b242e7f8d821c960a7744c4e4512b2cbfe4d631a00a31052e7bb5dbf15", func := "redundancy/redundancylaw34.RepairMade", spec := "repairMade", unfollowed := true, recurses := true, apart := false, narrowed := true }
def RepairMadeUptoSaid : Prop := repairMadeUptoRow.holds Tryz.pinned (OpenSpec.upto repairMadeSpec)

/-- 'redundancylaw34.RepairEnds', WHERE WHAT IT READS IS OF BULK AT MOST 1048576: true; the input reads as it did. -/
def repairEndsUptoRow : OpenClaim := { program := "ytakfoejcjdcgbaagreat", sum := "5661c2b242e7f8d821c960a7744c4e4512b2cbfe4d631a00a31052e7bb5dbf15", func := "redundancy/redundancylaw34.RepairEnds", spec := "repairEnds", unfollowed := true, recurses := true, apart := false, narrowed := true }
def RepairEndsUptoSaid : Prop := repairEndsUptoRow.holds Tryz.pinned (OpenSpec.upto repairEndsSpec)

end Rows
end Go.Proofs.YtakfoejcjdcgbaaGreat
