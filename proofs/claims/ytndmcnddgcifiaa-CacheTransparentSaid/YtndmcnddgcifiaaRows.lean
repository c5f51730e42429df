/-
  No cell of these rows narrows 'for every input' (looked for: loops, veiled, ifaces, maps, wideKeys, modest, calm, conditions, laid).
  DERIVED. THE GIVEN ROWS OF THIS SEAT. 5 by the template 'for every input the law returns true; each argument reads behind the call as it read before'; 0 by the template 'total and deterministic' (their statements: YtndmcnddgcifiaaTotals.lean).
  GIVEN WITH THE SEED: the statements are not yours to turn. If you find one false, say at which input.
  Laid BY PROGRAM, IN A SANDBOX (cutbox-rows.mjs): the forced cells as the released guide's own fill.sh prints them over the translation 168ad9740be8d54f… (all of the seat's roots in one cut). By AI agents, Wed Nov 11 2026. No macro, syntax, notation, axiom, sorry.
-/
import Derived.Test.YtndmcnddgcifiaaChecked
import GoSem.Claim
import GoSem.ClaimJoined
import GoSem.ClaimMapViews
import Derived.JoinedTies
import Derived.KernelRfl
namespace Go.Proofs.Ytndmcnddgcifiaa
/- THE CELL 'sum', in the pinned program and in every row, IS THE sha256 OF THE DUMP (.gsa) THAT YtndmcnddgcifiaaProg.lean LOADS. Nothing in Lean hashes anything: it is a label: what it is worth is what the hold of that sum in a sandbox is worth. -/
noncomputable def Try.pinned : Pinned := { name := "ytndmcnddgcifiaa", sum := "168ad9740be8d54f885905a5eaf7a0003231974dbc47b7cdde21efc368cbe933", checked := Try.checked }
namespace Rows
def none {H : Type} : Left H := { results := [], args := [] }

/-- 'redundancylaw05.CacheForgets': WHATEVER THE INPUT: true; the input reads as it did. -/
def cacheForgetsSpec : ChangeSpec := { name := "cacheForgets", fn := fun _ => fun
  | [d1, d2, d3] => { results := [.lit (.bool true)], args := [d1, d2, d3] }
  | _ => none }
def cacheForgetsRow : OpenClaim := { program := "ytndmcnddgcifiaa", sum := "168ad9740be8d54f885905a5eaf7a0003231974dbc47b7cdde21efc368cbe933", func := "redundancy/redundancylaw05.CacheForgets", spec := "cacheForgets", apart := false }
def CacheForgetsSaid : Prop := cacheForgetsRow.holds Try.pinned (OpenSpec.ofChange cacheForgetsSpec)

/-- ITS FALSE NEIGHBOUR: 'it returns false'. Refute it at one input. -/
def cacheForgetsWrong : ChangeSpec := { name := "cacheForgets", fn := fun _ => fun
  | [d1, d2, d3] => { results := [.lit (.bool false)], args := [d1, d2, d3] }
  | _ => none }
def CacheForgetsWrongFalsely : Prop := cacheForgetsRow.holds Try.pinned (OpenSpec.ofChange cacheForgetsWrong)

/-- 'redundancylaw05.CacheLooks': WHATEVER THE INPUT: true; the input reads as it did. -/
def cacheLooksSpec : ChangeSpec := { name := "cacheLooks", fn := fun _ => fun
  | [d1, d2, d3] => { results := [.lit (.bool true)], args := [d1, d2, d3] }
  | _ => none }
def cacheLooksRow : OpenClaim := { program := "ytndmcnddgcifiaa", sum := "168ad9740be8d54f885905a5eaf7a0003231974dbc47b7cdde21efc368cbe933", func := "redundancy/redundancylaw05.CacheLooks", spec := "cacheLooks", apart := false }
def CacheLooksSaid : Prop := cacheLooksRow.holds Try.pinned (OpenSpec.ofChange cacheLooksSpec)

/-- ITS FALSE NEIGHBOUR: 'it returns false'. Refute it at one input. -/
def cacheLooksWrong : ChangeSpec := { name := "cacheLooks", fn := fun _ => fun
  | [d1, d2, d3] => { results := [.lit (.bool false)], args := [d1, d2, d3] }
  | _ => none }
def CacheLooksWrongFalsely : Prop := cacheLooksRow.holds Try.pinned (OpenSpec.ofChange cacheLooksWrong)

/-- 'redundancylaw05.CacheTransparent': WHATEVER THE INPUT: true; the input reads as it did. -/
def cacheTransparentSpec : ChangeSpec := { name := "cacheTransparent", fn := fun _ => fun
  | [d] => { results := [.lit (.bool true)], args := [d] }
  | _ => none }
def cacheTransparentRow : OpenClaim := { program := "ytndmcnddgcifiaa", sum := "168ad9740be8d54f885905a5eaf7a0003231974dbc47b7cdde21efc368cbe933", func := "redundancy/redundancylaw05.CacheTransparent", spec := "cacheTransparent", apart := false }
def CacheTransparentSaid : Prop := cacheTransparentRow.holds Try.pinned (OpenSpec.ofChange cacheTransparentSpec)

/-- ITS FALSE NEIGHBOUR: 'it returns false'. Refute it at one input. -/
def cacheTransparentWrong : ChangeSpec := { name := "cacheTransparent", fn := fun _ => fun
  | [d] => { results := [.lit (.bool false)], args := [d] }
  | _ => none }
def CacheTransparentWrongFalsely : Prop := cacheTransparentRow.holds Try.pinned (OpenSpec.ofChange cacheTransparentWrong)

/-- 'redundancylaw05.CacheSteps': WHATEVER THE INPUT: true; the input reads as it did. -/
def cacheStepsSpec : ChangeSpec := { name := "cacheSteps", fn := fun _ => fun
  | [d1, d2, d3] => { results := [.lit (.bool true)], args := [d1, d2, d3] }
  | _ => none }
def cacheStepsRow : OpenClaim := { program := "ytndmcnddgcifiaa", sum := "168ad9740be8d54f885905a5eaf7a0003231974dbc47b7cdde21efc368cbe933", func := "redundancy/redundancylaw05.CacheSteps", spec := "cacheSteps", apart := false }
def CacheStepsSaid : Prop := cacheStepsRow.holds Try.pinned (OpenSpec.ofChange cacheStepsSpec)

/-- ITS FALSE NEIGHBOUR: 'it returns false'. Refute it at one input. -/
def cacheStepsWrong : ChangeSpec := { name := "cacheSteps", fn := fun _ => fun
  | [d1, d2, d3] => { results := [.lit (.bool false)], args := [d1, d2, d3] }
  | _ => none }
def CacheStepsWrongFalsely : Prop := cacheStepsRow.holds Try.pinned (OpenSpec.ofChange cacheStepsWrong)

/-- 'redundancylaw05.CacheHides': WHATEVER THE INPUT: true; the input reads as it did. -/
def cacheHidesSpec : ChangeSpec := { name := "cacheHides", fn := fun _ => fun
  | [d1, d2, d3] => { results := [.lit (.bool true)], args := [d1, d2, d3] }
  | _ => none }
def cacheHidesRow : OpenClaim := { program := "ytndmcnddgcifiaa", sum := "168ad9740be8d54f885905a5eaf7a0003231974dbc47b7cdde21efc368cbe933", func := "redundancy/redundancylaw05.CacheHides", spec := "cacheHides", apart := false }
def CacheHidesSaid : Prop := cacheHidesRow.holds Try.pinned (OpenSpec.ofChange cacheHidesSpec)

/-- ITS FALSE NEIGHBOUR: 'it returns false'. Refute it at one input. -/
def cacheHidesWrong : ChangeSpec := { name := "cacheHides", fn := fun _ => fun
  | [d1, d2, d3] => { results := [.lit (.bool false)], args := [d1, d2, d3] }
  | _ => none }
def CacheHidesWrongFalsely : Prop := cacheHidesRow.holds Try.pinned (OpenSpec.ofChange cacheHidesWrong)

/- THE SECOND FORM. 'bulk': how many values and letters a reading holds, each counted each time it is reached (what is shared counts as often as it is met; a slice's spare places count too). A statement '..UptoSaid' is the law's where the arguments, and the package variables that the reading takes, are together of bulk at most 1048576: NARROWER than '..Said'. Prove '..Said' where nothing that the law and all that it calls make is longer than what came in: it says more and counts as full. Else prove '..UptoSaid'. A law counts once. -/
mutual
def uptoBulk {H : Type} : DataW H → Nat
  | .lit (.string bytes) => bytes.length + 1
  | .lit _ => 1
  | .nil => 1
  | .ptr d => uptoBulk d + 1
  | .slice elems spare => uptoBulkAll elems + uptoBulkAll spare + 1
  | .agg parts => uptoBulkAll parts + 1
  | .iface _ d => uptoBulk d + 1
  | .map entries => uptoBulkEntries entries + 1
  | .held _ => 1
def uptoBulkAll {H : Type} : List (DataW H) → Nat
  | [] => 0
  | d :: r => uptoBulk d + uptoBulkAll r
def uptoBulkEntries {H : Type} : List (Lit × DataW H) → Nat
  | [] => 0
  | x :: r => uptoBulkEntry x + uptoBulkEntries r
def uptoBulkEntry {H : Type} : Lit × DataW H → Nat
  | (.string bytes, d) => bytes.length + uptoBulk d + 1
  | (_, d) => uptoBulk d + 1
 end
def uptoSmall : (H : Type) → List (DataW H) → Bool := fun _ ds => decide (uptoBulkAll ds ≤ 1048576)
def OpenSpec.upto (s : _root_.Go.ChangeSpec) : _root_.Go.OpenSpec := { _root_.Go.OpenSpec.ofChange s with cond := some uptoSmall }

/-- 'redundancylaw05.CacheForgets', WHERE WHAT IT READS IS OF BULK AT MOST 1048576: true; the input reads as it did. -/
def cacheForgetsUptoRow : OpenClaim := { program := "ytndmcnddgcifiaa", sum := "168ad9740be8d54f885905a5eaf7a0003231974dbc47b7cdde21efc368cbe933", func := "redundancy/redundancylaw05.CacheForgets", spec := "cacheForgets", apart := false, narrowed := true }
def CacheForgetsUptoSaid : Prop := cacheForgetsUptoRow.holds Try.pinned (OpenSpec.upto cacheForgetsSpec)

/-- 'redundancylaw05.CacheLooks', WHERE WHAT IT READS IS OF BULK AT MOST 1048576: true; the input reads as it did. -/
def cacheLooksUptoRow : OpenClaim := { program := "ytndmcnddgcifiaa", sum := "168ad9740be8d54f885905a5eaf7a0003231974dbc47b7cdde21efc368cbe933", func := "redundancy/redundancylaw05.CacheLooks", spec := "cacheLooks", apart := false, narrowed := true }
def CacheLooksUptoSaid : Prop := cacheLooksUptoRow.holds Try.pinned (OpenSpec.upto cacheLooksSpec)

/-- 'redundancylaw05.CacheTransparent', WHERE WHAT IT READS IS OF BULK AT MOST 1048576: true; the input reads as it did. -/
def cacheTransparentUptoRow : OpenClaim := { program := "ytndmcnddgcifiaa", sum := "168ad9740be8d54f885905a5eaf7a0003231974dbc47b7cdde21efc368cbe933", func := "redundancy/redundancylaw05.CacheTransparent", spec := "cacheTransparent", apart := false, narrowed := true }
def CacheTransparentUptoSaid : Prop := cacheTransparentUptoRow.holds Try.pinned (OpenSpec.upto cacheTransparentSpec)

/-- 'redundancylaw05.CacheSteps', WHERE WHAT IT READS IS OF BULK AT MOST 1048576: true; the input reads as it did. -/
def cacheStepsUptoRow : OpenClaim := { program := "ytndmcnddgcifiaa", sum := "168ad9740be8d54f885905a5eaf7a0003231974dbc47b7cdde21efc368cbe933", func := "redundancy/redundancylaw05.CacheSteps", spec := "cacheSteps", apart := false, narrowed := true }
def CacheStepsUptoSaid : Prop := cacheStepsUptoRow.holds Try.pinned (OpenSpec.upto cacheStepsSpec)

/-- 'redundancylaw05.CacheHides', WHERE WHAT IT READS IS OF BULK AT MOST 1048576: true; the input reads as it did. -/
def cacheHidesUptoRow : OpenClaim := { program := "ytndmcnddgcifiaa", sum := "168ad9740be8d54f885905a5eaf7a0003231974dbc47b7cdde21efc368cbe933", func := "redundancy/redundancylaw05.CacheHides", spec := "cacheHides", apart := false, narrowed := true }
def CacheHidesUptoSaid : Prop := cacheHidesUptoRow.holds Try.pinned (OpenSpec.upto cacheHidesSpec)

end Rows
end Go.Proofs.Ytndmcnddgcifiaa
