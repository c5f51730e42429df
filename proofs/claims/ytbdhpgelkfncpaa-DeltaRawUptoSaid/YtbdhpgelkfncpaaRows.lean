/-
  No cell of these rows narrows 'for every input' (looked for: loops, veiled, ifaces, maps, wideKeys, modest, calm, conditions, laid).
  DERIVED. THE GIVEN ROWS OF THIS SEAT. 3 by the template 'for every input the law returns true; each argument reads behind the call as it read before'; 0 by the template 'total and deterministic' (their statements: YtbdhpgelkfncpaaTotals.lean).
  GIVEN WITH THE SEED: the statements are not yours to turn. If you find one false, say at which input.
  Laid BY PROGRAM, IN A SANDBOX (cutbox-rows.mjs): the forced cells as the released guide's own fill.sh prints them over the translation 09132f7e4b1bd350… (all of the seat's roots in one cut). By AI agents, Wed Nov 11 2026. No macro, syntax, notation, axiom, sorry.
-/
import Derived.Test.YtbdhpgelkfncpaaChecked
import GoSem.Claim
import GoSem.ClaimJoined
import GoSem.ClaimMapViews
import Derived.JoinedTies
import Derived.KernelRfl
namespace Go.Proofs.Ytbdhpgelkfncpaa
/- THE CELL 'sum', in the pinned program and in every row, IS THE sha256 OF THE DUMP (.gsa) THAT YtbdhpgelkfncpaaProg.lean LOADS. Nothing in Lean hashes anything: it is a label: what it is worth is what the hold of that sum in a sandbox is worth. -/
noncomputable def Try.pinned : Pinned := { name := "ytbdhpgelkfncpaa", sum := "09132f7e4b1bd35035b3eac74921ecc914bb5a4c0adf00b7e984ae557556a4aa", checked := Try.checked }
namespace Rows
def none {H : Type} : Left H := { results := [], args := [] }

/-- 'redundancylaw29.DeltaRaw': WHATEVER THE INPUT: true; the input reads as it did. -/
def deltaRawSpec : ChangeSpec := { name := "deltaRaw", fn := fun _ => fun
  | [d1, d2, d3, d4, d5, d6, d7] => { results := [.lit (.bool true)], args := [d1, d2, d3, d4, d5, d6, d7] }
  | _ => none }
def deltaRawRow : OpenClaim := { program := "ytbdhpgelkfncpaa", sum := "09132f7e4b1bd35035b3eac74921ecc914bb5a4c0adf00b7e984ae557556a4aa", func := "redundancy/redundancylaw29.DeltaRaw", spec := "deltaRaw", unfollowed := true, recurses := true, plainKeys := false, apart := false }
def DeltaRawSaid : Prop := deltaRawRow.holds Try.pinned (OpenSpec.ofChange deltaRawSpec)

/-- ITS FALSE NEIGHBOUR: 'it returns false'. Refute it at one input. -/
def deltaRawWrong : ChangeSpec := { name := "deltaRaw", fn := fun _ => fun
  | [d1, d2, d3, d4, d5, d6, d7] => { results := [.lit (.bool false)], args := [d1, d2, d3, d4, d5, d6, d7] }
  | _ => none }
def DeltaRawWrongFalsely : Prop := deltaRawRow.holds Try.pinned (OpenSpec.ofChange deltaRawWrong)

/-- 'redundancylaw29.DeltaFollows': WHATEVER THE INPUT: true; the input reads as it did. -/
def deltaFollowsSpec : ChangeSpec := { name := "deltaFollows", fn := fun _ => fun
  | [d1, d2, d3, d4] => { results := [.lit (.bool true)], args := [d1, d2, d3, d4] }
  | _ => none }
def deltaFollowsRow : OpenClaim := { program := "ytbdhpgelkfncpaa", sum := "09132f7e4b1bd35035b3eac74921ecc914bb5a4c0adf00b7e984ae557556a4aa", func := "redundancy/redundancylaw29.DeltaFollows", spec := "deltaFollows", unfollowed := true, recurses := true, plainKeys := false, apart := false }
def DeltaFollowsSaid : Prop := deltaFollowsRow.holds Try.pinned (OpenSpec.ofChange deltaFollowsSpec)

/-- ITS FALSE NEIGHBOUR: 'it returns false'. Refute it at one input. -/
def deltaFollowsWrong : ChangeSpec := { name := "deltaFollows", fn := fun _ => fun
  | [d1, d2, d3, d4] => { results := [.lit (.bool false)], args := [d1, d2, d3, d4] }
  | _ => none }
def DeltaFollowsWrongFalsely : Prop := deltaFollowsRow.holds Try.pinned (OpenSpec.ofChange deltaFollowsWrong)

/-- 'redundancylaw29.DeltaChains': WHATEVER THE INPUT: true; the input reads as it did. -/
def deltaChainsSpec : ChangeSpec := { name := "deltaChains", fn := fun _ => fun
  | [d] => { results := [.lit (.bool true)], args := [d] }
  | _ => none }
def deltaChainsRow : OpenClaim := { program := "ytbdhpgelkfncpaa", sum := "09132f7e4b1bd35035b3eac74921ecc914bb5a4c0adf00b7e984ae557556a4aa", func := "redundancy/redundancylaw29.DeltaChains", spec := "deltaChains", unfollowed := true, recurses := true, plainKeys := false, apart := false }
def DeltaChainsSaid : Prop := deltaChainsRow.holds Try.pinned (OpenSpec.ofChange deltaChainsSpec)

/-- ITS FALSE NEIGHBOUR: 'it returns false'. Refute it at one input. -/
def deltaChainsWrong : ChangeSpec := { name := "deltaChains", fn := fun _ => fun
  | [d] => { results := [.lit (.bool false)], args := [d] }
  | _ => none }
def DeltaChainsWrongFalsely : Prop := deltaChainsRow.holds Try.pinned (OpenSpec.ofChange deltaChainsWrong)

/- THE SECOND FORM. 'bulk': how many values and letters a reading holds, each counted each time it is reached (what is shared counts as often as it is met; a slice's spare places count too). A statement '..UptoSaid' is the law's where the arguments, and the package variables that the reading takes, are together of bulk at most 1048576: NARROWER than '..Said'. Prove '..Said' where nothing that the law and all that it calls make is longer than what came in: it says more and counts as full. Else prove '..UptoSaid'. A law counts once. -/
mutual
def uptoBulk {H : Type} : DataW H → Nat
  | .lit (.string bytes) => bytes.length + 1
  | .lit _ => 1
  | .nil => 1
  | .ptr d => uptoBulk d + 1
  | .slice elems spare => uptoBulkAll elems + uptoBulkAll spare + 1
  | .agg parts => uptoBulkAll parts + 1
  | .iface _ d => uptoBulk d + 1
  | .map entries => uptoBulkEntries entries + 1
  | .held _ => 1
def uptoBulkAll {H : Type} : List (DataW H) → Nat
  | [] => 0
  | d :: r => uptoBulk d + uptoBulkAll r
def uptoBulkEntries {H : Type} : List (Lit × DataW H) → Nat
  | [] => 0
  | x :: r => uptoBulkEntry x + uptoBulkEntries r
def uptoBulkEntry {H : Type} : Lit × DataW H → Nat
  | (.string bytes, d) => bytes.length + uptoBulk d + 1
  | (_, d) => uptoBulk d + 1
 end
def uptoSmall : (H : Type) → List (DataW H) → Bool := fun _ ds => decide (uptoBulkAll ds ≤ 1048576)
def OpenSpec.upto (s : _root_.Go.ChangeSpec) : _root_.Go.OpenSpec := { _root_.Go.OpenSpec.ofChange s with cond := some uptoSmall }

/-- 'redundancylaw29.DeltaRaw', WHERE WHAT IT READS IS OF BULK AT MOST 1048576: true; the input reads as it did. -/
def deltaRawUptoRow : OpenClaim := { program := "ytbdhpgelkfncpaa", sum := "09132f7e4b1bd35035b3eac74921ecc914bb5a4c0adf00b7e984ae557556a4aa", func := "redundancy/redundancylaw29.DeltaRaw", spec := "deltaRaw", unfollowed := true, recurses := true, plainKeys := false, apart := false, narrowed := true }
def DeltaRawUptoSaid : Prop := deltaRawUptoRow.holds Try.pinned (OpenSpec.upto deltaRawSpec)

/-- 'redundancylaw29.DeltaFollows', WHERE WHAT IT READS IS OF BULK AT MOST 1048576: true; the input reads as it did. -/
def deltaFollowsUptoRow : OpenClaim := { program := "ytbdhpgelkfncpaa", sum := "09132f7e4b1bd35035b3eac74921ecc914bb5a4c0adf00b7e984ae557556a4aa", func := "redundancy/redundancylaw29.DeltaFollows", spec := "deltaFollows", unfollowed := true, recurses := true, plainKeys := false, apart := false, narrowed := true }
def DeltaFollowsUptoSaid : Prop := deltaFollowsUptoRow.holds Try.pinned (OpenSpec.upto deltaFollowsSpec)

/-- 'redundancylaw29.DeltaChains', WHERE WHAT IT READS IS OF BULK AT MOST 1048576: true; the input reads as it did. -/
def deltaChainsUptoRow : OpenClaim := { program := "ytbdhpgelkfncpaa", sum := "09132f7e4b1bd35035b3eac74921ecc914bb5a4c0adf00b7e984ae557556a4aa", func := "redundancy/redundancylaw29.DeltaChains", spec := "deltaChains", unfollowed := true, recurses := true, plainKeys := false, apart := false, narrowed := true }
def DeltaChainsUptoSaid : Prop := deltaChainsUptoRow.holds Try.pinned (OpenSpec.upto deltaChainsSpec)

end Rows
end Go.Proofs.Ytbdhpgelkfncpaa
