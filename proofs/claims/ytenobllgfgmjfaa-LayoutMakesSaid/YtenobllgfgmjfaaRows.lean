/-
  No cell of these rows narrows 'for every input' (looked for: loops, veiled, ifaces, maps, wideKeys, modest, calm, conditions, laid).
  DERIVED. THE GIVEN ROWS OF THIS SEAT. 3 by the template 'for every input the law returns true; each argument reads behind the call as it read before'; 0 by the template 'total and deterministic' (their statements: YtenobllgfgmjfaaTotals.lean).
  GIVEN WITH THE SEED: the statements are not yours to turn. If you find one false, say at which input.
  Laid BY PROGRAM, IN A SANDBOX (cutbox-rows.mjs): the forced cells as the released guide's own fill.sh prints them over the translation eedee7440c322944… (all of the seat's roots in one cut). By AI agents, Wed Nov 11 2026. No macro, syntax, notation, axiom, sorry.
-/
import Derived.Test.YtenobllgfgmjfaaChecked
import GoSem.Claim
import GoSem.ClaimJoined
import GoSem.ClaimMapViews
import Derived.JoinedTies
import Derived.KernelRfl
namespace Go.Proofs.Ytenobllgfgmjfaa
/- THE CELL 'sum', in the pinned program and in every row, IS THE sha256 OF THE DUMP (.gsa) THAT YtenobllgfgmjfaaProg.lean LOADS. Nothing in Lean hashes anything: it is a label: what it is worth is what the hold of that sum in a sandbox is worth. -/
noncomputable def Try.pinned : Pinned := { name := "ytenobllgfgmjfaa", sum := "eedee7440c322944c078f69fb66493a04025ecb52149db7b468c595cfa340973", checked := Try.checked }
namespace Rows
def none {H : Type} : Left H := { results := [], args := [] }

/-- 'redundancylaw03.LayoutMakes': WHATEVER THE INPUT: true; the input reads as it did. -/
def layoutMakesSpec : ChangeSpec := { name := "layoutMakes", fn := fun _ => fun
  | [d1, d2, d3, d4, d5, d6] => { results := [.lit (.bool true)], args := [d1, d2, d3, d4, d5, d6] }
  | _ => none }
def layoutMakesRow : OpenClaim := { program := "ytenobllgfgmjfaa", sum := "eedee7440c322944c078f69fb66493a04025ecb52149db7b468c595cfa340973", func := "redundancy/redundancylaw03.LayoutMakes", spec := "layoutMakes", apart := false }
def LayoutMakesSaid : Prop := layoutMakesRow.holds Try.pinned (OpenSpec.ofChange layoutMakesSpec)

/-- ITS FALSE NEIGHBOUR: 'it returns false'. Refute it at one input. -/
def layoutMakesWrong : ChangeSpec := { name := "layoutMakes", fn := fun _ => fun
  | [d1, d2, d3, d4, d5, d6] => { results := [.lit (.bool false)], args := [d1, d2, d3, d4, d5, d6] }
  | _ => none }
def LayoutMakesWrongFalsely : Prop := layoutMakesRow.holds Try.pinned (OpenSpec.ofChange layoutMakesWrong)

/-- 'redundancylaw03.LayoutValid': WHATEVER THE INPUT: true; the input reads as it did. -/
def layoutValidSpec : ChangeSpec := { name := "layoutValid", fn := fun _ => fun
  | [d1, d2] => { results := [.lit (.bool true)], args := [d1, d2] }
  | _ => none }
def layoutValidRow : OpenClaim := { program := "ytenobllgfgmjfaa", sum := "eedee7440c322944c078f69fb66493a04025ecb52149db7b468c595cfa340973", func := "redundancy/redundancylaw03.LayoutValid", spec := "layoutValid", apart := false }
def LayoutValidSaid : Prop := layoutValidRow.holds Try.pinned (OpenSpec.ofChange layoutValidSpec)

/-- ITS FALSE NEIGHBOUR: 'it returns false'. Refute it at one input. -/
def layoutValidWrong : ChangeSpec := { name := "layoutValid", fn := fun _ => fun
  | [d1, d2] => { results := [.lit (.bool false)], args := [d1, d2] }
  | _ => none }
def LayoutValidWrongFalsely : Prop := layoutValidRow.holds Try.pinned (OpenSpec.ofChange layoutValidWrong)

/-- 'redundancylaw03.LayoutBack': WHATEVER THE INPUT: true; the input reads as it did. -/
def layoutBackSpec : ChangeSpec := { name := "layoutBack", fn := fun _ => fun
  | [d1, d2] => { results := [.lit (.bool true)], args := [d1, d2] }
  | _ => none }
def layoutBackRow : OpenClaim := { program := "ytenobllgfgmjfaa", sum := "eedee7440c322944c078f69fb66493a04025ecb52149db7b468c595cfa340973", func := "redundancy/redundancylaw03.LayoutBack", spec := "layoutBack", apart := false }
def LayoutBackSaid : Prop := layoutBackRow.holds Try.pinned (OpenSpec.ofChange layoutBackSpec)

/-- ITS FALSE NEIGHBOUR: 'it returns false'. Refute it at one input. -/
def layoutBackWrong : ChangeSpec := { name := "layoutBack", fn := fun _ => fun
  | [d1, d2] => { results := [.lit (.bool false)], args := [d1, d2] }
  | _ => none }
def LayoutBackWrongFalsely : Prop := layoutBackRow.holds Try.pinned (OpenSpec.ofChange layoutBackWrong)

/- THE SECOND FORM. 'bulk': how many values and letters a reading holds, each counted each time it is reached (what is shared counts as often as it is met; a slice's spare places count too). A statement '..UptoSaid' is the law's where the arguments, and the package variables that the reading takes, are together of bulk at most 1048576: NARROWER than '..Said'. Prove '..Said' where nothing that the law and all that it calls make is longer than what came in: it says more and counts as full. Else prove '..UptoSaid'. A law counts once. -/
mutual
def uptoBulk {H : Type} : DataW H → Nat
  | .lit (.string bytes) => bytes.length + 1
  | .lit _ => 1
  | .nil => 1
  | .ptr d => uptoBulk d + 1
  | .slice elems spare => uptoBulkAll elems + uptoBulkAll spare + 1
  | .agg parts => uptoBulkAll parts + 1
  | .iface _ d => uptoBulk d + 1
  | .map entries => uptoBulkEntries entries + 1
  | .held _ => 1
def uptoBulkAll {H : Type} : List (DataW H) → Nat
  | [] => 0
  | d :: r => uptoBulk d + uptoBulkAll r
def uptoBulkEntries {H : Type} : List (Lit × DataW H) → Nat
  | [] => 0
  | x :: r => uptoBulkEntry x + uptoBulkEntries r
def uptoBulkEntry {H : Type} : Lit × DataW H → Nat
  | (.string bytes, d) => bytes.length + uptoBulk d + 1
  | (_, d) => uptoBulk d + 1
 end
def uptoSmall : (H : Type) → List (DataW H) → Bool := fun _ ds => decide (uptoBulkAll ds ≤ 1048576)
def OpenSpec.upto (s : _root_.Go.ChangeSpec) : _root_.Go.OpenSpec := { _root_.Go.OpenSpec.ofChange s with cond := some uptoSmall }

/-- 'redundancylaw03.LayoutMakes', WHERE WHAT IT READS IS OF BULK AT MOST 1048576: true; the input reads as it did. -/
def layoutMakesUptoRow : OpenClaim := { program := "ytenobllgfgmjfaa", sum := "eedee7440c322944c078f69fb66493a04025ecb52149db7b468c595cfa340973", func := "redundancy/redundancylaw03.LayoutMakes", spec := "layoutMakes", apart := false, narrowed := true }
def LayoutMakesUptoSaid : Prop := layoutMakesUptoRow.holds Try.pinned (OpenSpec.upto layoutMakesSpec)

/-- 'redundancylaw03.LayoutValid', WHERE WHAT IT READS IS OF BULK AT MOST 1048576: true; the input reads as it did. -/
def layoutValidUptoRow : OpenClaim := { program := "ytenobllgfgmjfaa", sum := "eedee7440c322944c078f69fb66493a04025ecb52149db7b468c595cfa340973", func := "redundancy/redundancylaw03.LayoutValid", spec := "layoutValid", apart := false, narrowed := true }
def LayoutValidUptoSaid : Prop := layoutValidUptoRow.holds Try.pinned (OpenSpec.upto layoutValidSpec)

/-- 'redundancylaw03.LayoutBack', WHERE WHAT IT READS IS OF BULK AT MOST 1048576: true; the input reads as it did. -/
def layoutBackUptoRow : OpenClaim := { program := "ytenobllgfgmjfaa", sum := "eedee7440c322944c078f69fb66493a04025ecb52149db7b468c595cfa340973", func := "redundancy/redundancylaw03.LayoutBack", spec := "layoutBack", apart := false, narrowed := true }
def LayoutBackUptoSaid : Prop := layoutBackUptoRow.holds Try.pinned (OpenSpec.upto layoutBackSpec)

end Rows
end Go.Proofs.Ytenobllgfgmjfaa
