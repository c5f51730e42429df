/-
  No cell of these rows narrows 'for every input' (looked for: loops, veiled, ifaces, maps, wideKeys, modest, calm, conditions, laid).
  DERIVED. THE GIVEN ROWS OF THIS SEAT. 2 by the template 'for every input the law returns true; each argument reads behind the call as it read before'; 0 by the template 'total and deterministic' (their statements: YtilofbdgkiloiaaGreatTotals.lean).
  GIVEN WITH THE SEED: the statements are not yours to turn. If you find one false, say at which input.
  Laid BY PROGRAM, IN A SANDBOX (cutbox-rows.mjs): the forced cells as the released guide's own fill.sh prints them over the translation 0a24b30e7e397b49… (all of the seat's roots in one cut). By AI agents, Wed Nov 11 2026. No macro, syntax, notation, axiom, sorry.
-/
import Derived.Test.YtilofbdgkiloiaaGreatChecked
import GoSem.Claim
import GoSem.ClaimJoined
import GoSem.ClaimMapViews
import Derived.JoinedTies
import Derived.KernelRfl
namespace Go.Proofs.YtilofbdgkiloiaaGreat
/- THE CELL 'sum', in the pinned program and in every row, IS THE sha256 OF THE DUMP (.gsa) THAT YtilofbdgkiloiaaGreatProg.lean LOADS. Nothing in Lean hashes anything: it is a label: what it is worth is what the hold of that sum in a sandbox is worth. -/
noncomputable def Tryz.pinned : Pinned := { name := "ytilofbdgkiloiaagreat", sum := "0a24b30e7e397b491e909cfd0134deb9d48c32a3c7b9330be016c288c1fe97e1", checked := Tryz.checked }
namespace Rows
def none {H : Type} : Left H := { results := [], args := [] }

/-- 'redundancylaw05.CacheRegions': WHATEVER THE INPUT: true; the input reads as it did. -/
def cacheRegionsSpec : ChangeSpec := { name := "cacheRegions", fn := fun _ => fun
  | [d] => { results := [.lit (.bool true)], args := [d] }
  | _ => none }
def cacheRegionsRow : OpenClaim := { program := "ytilofbdgkiloiaagreat", sum := "0a24b30e7e397b491e909cfd0134deb9d48c32a3c7b9330be016c288c1fe97e1", func := "redundancy/redundancylaw05.CacheRegions", spec := "cacheRegions", apart := false }
def CacheRegionsSaid : Prop := cacheRegionsRow.holds Tryz.pinned (OpenSpec.ofChange cacheRegionsSpec)

/-- ITS FALSE NEIGHBOUR: 'it returns false'. Refute it at one input. -/
def cacheRegionsWrong : ChangeSpec := { name := "cacheRegions", fn := fun _ => fun
  | [d] => { results := [.lit (.bool false)], args := [d] }
  | _ => none }
def CacheRegionsWrongFalsely : Prop := cacheRegionsRow.holds Tryz.pinned (OpenSpec.ofChange cacheRegionsWrong)

/-- 'redundancylaw14.FinishWakes': WHATEVER THE INPUT: true; the input reads as it did. -/
def finishWakesSpec : ChangeSpec := { name := "finishWakes", fn := fun _ => fun
  | [d1, d2, d3] => { results := [.lit (.bool true)], args := [d1, d2, d3] }
  | _ => none }
def finishWakesRow : OpenClaim := { program := "ytilofbdgkiloiaagreat", sum := "0a24b30e7e397b491e909cfd0134deb9d48c32a3c7b9330be016c288c1fe97e1", func := "redundancy/redundancylaw14.FinishWakes", spec := "finishWakes", unfollowed := true, recurses := true, apart := false }
def FinishWakesSaid : Prop := finishWakesRow.holds Tryz.pinned (OpenSpec.ofChange finishWakesSpec)

/-- ITS FALSE NEIGHBOUR: 'it returns false'. Refute it at one input. -/
def finishWakesWrong : ChangeSpec := { name := "finishWakes", fn := fun _ => fun
  | [d1, d2, d3] => { results := [.lit (.bool false)], args := [d1, d2, d3] }
  | _ => none }
def FinishWakesWrongFalsely : Prop := finishWakesRow.holds Tryz.pinned (OpenSpec.ofChange finishWakesWrong)

/- THE SECOND FORM. 'bulk': how many values and letters a reading holds, each counted each time it is reached (what is shared counts as often as it is met; a slice's spare places count too). A statement '..UptoSaid' is the law's where the arguments, and the package variables that the reading takes, are together of bulk at most 1048576: NARROWER than '..Said'. Prove '..Said' where nothing that the law and all that it calls make is longer than what came in: it says more and counts as full. Else prove '..UptoSaid'. A law counts once. -/
mutual
def uptoBulk {H : Type} : DataW H → Nat
  | .lit (.string bytes) => bytes.length + 1
  | .lit _ => 1
  | .nil => 1
  | .ptr d => uptoBulk d + 1
  | .slice elems spare => uptoBulkAll elems + uptoBulkAll spare + 1
  | .agg parts => uptoBulkAll parts + 1
  | .iface _ d => uptoBulk d + 1
  | .map entries => uptoBulkEntries entries + 1
  | .held _ => 1
def uptoBulkAll {H : Type} : List (DataW H) → Nat
  | [] => 0
  | d :: r => uptoBulk d + uptoBulkAll r
def uptoBulkEntries {H : Type} : List (Lit × DataW H) → Nat
  | [] => 0
  | x :: r => uptoBulkEntry x + uptoBulkEntries r
def uptoBulkEntry {H : Type} : Lit × DataW H → Nat
  | (.string bytes, d) => bytes.length + uptoBulk d + 1
  | (_, d) => uptoBulk d + 1
 end
def uptoSmall : (H : Type) → List (DataW H) → Bool := fun _ ds => decide (uptoBulkAll ds ≤ 1048576)
def OpenSpec.upto (s : _root_.Go.ChangeSpec) : _root_.Go.OpenSpec := { _root_.Go.OpenSpec.ofChange s with cond := some uptoSmall }

/-- 'redundancylaw05.CacheRegions', WHERE WHAT IT READS IS OF BULK AT MOST 1048576: true; the input reads as it did. -/
def cacheRegionsUptoRow : OpenClaim := { program := "ytilofbdgkiloiaagreat", sum := "0a24b30e7e397b491e909cfd0134deb9d48c32a3c7b9330be016c288c1fe97e1", func := "redundancy/redundancylaw05.CacheRegions", spec := "cacheRegions", apart := false, narrowed := true }
def CacheRegionsUptoSaid : Prop := cacheRegionsUptoRow.holds Tryz.pinned (OpenSpec.upto cacheRegionsSpec)

/-- 'redundancylaw14.FinishWakes', WHERE WHAT IT READS IS OF BULK AT MOST 1048576: true; the input reads as it did. -/
def finishWakesUptoRow : OpenClaim := { program := "ytilofbdgkiloiaagreat", sum := "0a24b30e7e397b491e909cfd0134deb9d48c32a3c7b9330be016c288c1fe97e1", func := "redundancy/redundancylaw14.FinishWakes", spec := "finishWakes", unfollowed := true, recurses := true, apart := false, narrowed := true }
def FinishWakesUptoSaid : Prop := finishWakesUptoRow.holds Tryz.pinned (OpenSpec.upto finishWakesSpec)

end Rows
end Go.Proofs.YtilofbdgkiloiaaGreat
