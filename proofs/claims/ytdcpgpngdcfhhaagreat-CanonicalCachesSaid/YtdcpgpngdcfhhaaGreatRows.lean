/-
  No cell of these rows narrows 'for every input' (looked for: loops, veiled, ifaces, maps, wideKeys, modest, calm, conditions, laid).
  DERIVED. THE GIVEN ROWS OF THIS SEAT. 4 by the template 'for every input the law returns true; each argument reads behind the call as it read before'; 0 by the template 'total and deterministic' (their statements: YtdcpgpngdcfhhaaGreatTotals.lean).
  GIVEN WITH THE SEED: the statements are not yours to turn. If you find one false, say at which input.
  Laid BY PROGRAM, IN A SANDBOX (cutbox-rows.mjs): the forced cells as the released guide's own fill.sh prints them over the translation eacbac441c9037e8… (all of the seat's roots in one cut). By AI agents, Wed Nov 11 2026. No macro, syntax, notation, axiom, sorry.
-/
import Derived.Test.YtdcpgpngdcfhhaaGreatChecked
import GoSem.Claim
import GoSem.ClaimJoined
import GoSem.ClaimMapViews
import Derived.JoinedTies
import Derived.KernelRfl
namespace Go.Proofs.YtdcpgpngdcfhhaaGreat
/- THE CELL 'sum', in the pinned program and in every row, IS THE sha256 OF THE DUMP (.gsa) THAT YtdcpgpngdcfhhaaGreatProg.lean LOADS. Nothing in Lean hashes anything: it is a label: what it is worth is what the hold of that sum in a sandbox is worth. -/
noncomputable def Tryz.pinned : Pinned := { name := "ytdcpgpngdcfhhaagreat", sum := "eacbac441c9037e86d7dd542f8b3892bb811c766bfd2a27e9c7bed1e523a5500", checked := Tryz.checked }
namespace Rows
def none {H : Type} : Left H := { results := [], args := [] }

/-- 'redundancylaw04.MemoryPokes': WHATEVER THE INPUT: true; the input reads as it did. -/
def memoryPokesSpec : ChangeSpec := { name := "memoryPokes", fn := fun _ => fun
  | [d1, d2, d3] => { results := [.lit (.bool true)], args := [d1, d2, d3] }
  | _ => none }
def memoryPokesRow : OpenClaim := { program := "ytdcpgpngdcfhhaagreat", sum := "eacbac441c9037e86d7dd542f8b3892bb811c766bfd2a27e9c7bed1e523a5500", func := "redundancy/redundancylaw04.MemoryPokes", spec := "memoryPokes", unfollowed := true, recurses := true, apart := false }
def MemoryPokesSaid : Prop := memoryPokesRow.holds Tryz.pinned (OpenSpec.ofChange memoryPokesSpec)

/-- ITS FALSE NEIGHBOUR: 'it returns false'. Refute it at one input. -/
def memoryPokesWrong : ChangeSpec := { name := "memoryPokes", fn := fun _ => fun
  | [d1, d2, d3] => { results := [.lit (.bool false)], args := [d1, d2, d3] }
  | _ => none }
def MemoryPokesWrongFalsely : Prop := memoryPokesRow.holds Tryz.pinned (OpenSpec.ofChange memoryPokesWrong)

/-- 'redundancylaw04.MemoryOne': WHATEVER THE INPUT: true; the input reads as it did. -/
def memoryOneSpec : ChangeSpec := { name := "memoryOne", fn := fun _ => fun
  | [d1, d2, d3] => { results := [.lit (.bool true)], args := [d1, d2, d3] }
  | _ => none }
def memoryOneRow : OpenClaim := { program := "ytdcpgpngdcfhhaagreat", sum := "eacbac441c9037e86d7dd542f8b3892bb811c766bfd2a27e9c7bed1e523a5500", func := "redundancy/redundancylaw04.MemoryOne", spec := "memoryOne", unfollowed := true, recurses := true, apart := false }
def MemoryOneSaid : Prop := memoryOneRow.holds Tryz.pinned (OpenSpec.ofChange memoryOneSpec)

/-- ITS FALSE NEIGHBOUR: 'it returns false'. Refute it at one input. -/
def memoryOneWrong : ChangeSpec := { name := "memoryOne", fn := fun _ => fun
  | [d1, d2, d3] => { results := [.lit (.bool false)], args := [d1, d2, d3] }
  | _ => none }
def MemoryOneWrongFalsely : Prop := memoryOneRow.holds Tryz.pinned (OpenSpec.ofChange memoryOneWrong)

/-- 'redundancylaw05.CacheRegions': WHATEVER THE INPUT: true; the input reads as it did. -/
def cacheRegionsSpec : ChangeSpec := { name := "cacheRegions", fn := fun _ => fun
  | [d] => { results := [.lit (.bool true)], args := [d] }
  | _ => none }
def cacheRegionsRow : OpenClaim := { program := "ytdcpgpngdcfhhaagreat", sum := "eacbac441c9037e86d7dd542f8b3892bb811c766bfd2a27e9c7bed1e523a5500", func := "redundancy/redundancylaw05.CacheRegions", spec := "cacheRegions", apart := false }
def CacheRegionsSaid : Prop := cacheRegionsRow.holds Tryz.pinned (OpenSpec.ofChange cacheRegionsSpec)

/-- ITS FALSE NEIGHBOUR: 'it returns false'. Refute it at one input. -/
def cacheRegionsWrong : ChangeSpec := { name := "cacheRegions", fn := fun _ => fun
  | [d] => { results := [.lit (.bool false)], args := [d] }
  | _ => none }
def CacheRegionsWrongFalsely : Prop := cacheRegionsRow.holds Tryz.pinned (OpenSpec.ofChange cacheRegionsWrong)

/-- 'redundancylaw13.CanonicalCaches': WHATEVER THE INPUT: true; the input reads as it did. -/
def canonicalCachesSpec : ChangeSpec := { name := "canonicalCaches", fn := fun _ => fun
  | [d] => { results := [.lit (.bool true)], args := [d] }
  | _ => none }
def canonicalCachesRow : OpenClaim := { program := "ytdcpgpngdcfhhaagreat", sum := "eacbac441c9037e86d7dd542f8b3892bb811c766bfd2a27e9c7bed1e523a5500", func := "redundancy/redundancylaw13.CanonicalCaches", spec := "canonicalCaches", unfollowed := true, recurses := true, apart := false }
def CanonicalCachesSaid : Prop := canonicalCachesRow.holds Tryz.pinned (OpenSpec.ofChange canonicalCachesSpec)

/-- ITS FALSE NEIGHBOUR: 'it returns false'. Refute it at one input. -/
def canonicalCachesWrong : ChangeSpec := { name := "canonicalCaches", fn := fun _ => fun
  | [d] => { results := [.lit (.bool false)], args := [d] }
  | _ => none }
def CanonicalCachesWrongFalsely : Prop := canonicalCachesRow.holds Tryz.pinned (OpenSpec.ofChange canonicalCachesWrong)

/- THE SECOND FORM. 'bulk': how many values and letters a reading holds, each counted each time it is reached (what is shared counts as often as it is met; a slice's spare places count too). A statement '..UptoSaid' is the law's where the arguments, and the package variables that the reading takes, are together of bulk at most 1048576: NARROWER than '..Said'. Prove '..Said' where nothing that the law and all that it calls make is longer than what came in: it says more and counts as full. Else prove '..UptoSaid'. A law counts once. -/
mutual
def uptoBulk {H : Type} : DataW H → Nat
  | .lit (.string bytes) => bytes.length + 1
  | .lit _ => 1
  | .nil => 1
  | .ptr d => uptoBulk d + 1
  | .slice elems spare => uptoBulkAll elems + uptoBulkAll spare + 1
  | .agg parts => uptoBulkAll parts + 1
  | .iface _ d => uptoBulk d + 1
  | .map entries => uptoBulkEntries entries + 1
  | .held _ => 1
def uptoBulkAll {H : Type} : List (DataW H) → Nat
  | [] => 0
  | d :: r => uptoBulk d + uptoBulkAll r
def uptoBulkEntries {H : Type} : List (Lit × DataW H) → Nat
  | [] => 0
  | x :: r => uptoBulkEntry x + uptoBulkEntries r
def uptoBulkEntry {H : Type} : Lit × DataW H → Nat
  | (.string bytes, d) => bytes.length + uptoBulk d + 1
  | (_, d) => uptoBulk d + 1
 end
def uptoSmall : (H : Type) → List (DataW H) → Bool := fun _ ds => decide (uptoBulkAll ds ≤ 1048576)
def OpenSpec.upto (s : _root_.Go.ChangeSpec) : _root_.Go.OpenSpec := { _root_.Go.OpenSpec.ofChange s with cond := some uptoSmall }

/-- 'redundancylaw04.MemoryPokes', WHERE WHAT IT READS IS OF BULK AT MOST 1048576: true; the input reads as it did. -/
def memoryPokesUptoRow : OpenClaim := { program := "ytdcpgpngdcfhhaagreat", sum := "eacbac441c9037e86d7dd542f8b3892bb811c766bfd2a27e9c7bed1e523a5500", func := "redundancy/redundancylaw04.MemoryPokes", spec := "memoryPokes", unfollowed := true, recurses := true, apart := false, narrowed := true }
def MemoryPokesUptoSaid : Prop := memoryPokesUptoRow.holds Tryz.pinned (OpenSpec.upto memoryPokesSpec)

/-- 'redundancylaw04.MemoryOne', WHERE WHAT IT READS IS OF BULK AT MOST 1048576: true; the input reads as it did. -/
def memoryOneUptoRow : OpenClaim := { program := "ytdcpgpngdcfhhaagreat", sum := "eacbac441c9037e86d7dd542f8b3892bb811c766bfd2a27e9c7bed1e523a5500", func := "redundancy/redundancylaw04.MemoryOne", spec := "memoryOne", unfollowed := true, recurses := true, apart := false, narrowed := true }
def MemoryOneUptoSaid : Prop := memoryOneUptoRow.holds Tryz.pinned (OpenSpec.upto memoryOneSpec)

/-- 'redundancylaw05.CacheRegions', WHERE WHAT IT READS IS OF BULK AT MOST 1048576: true; the input reads as it did. -/
def cacheRegionsUptoRow : OpenClaim := { program := "ytdcpgpngdcfhhaagreat", sum := "eacbac441c9037e86d7dd542f8b3892bb811c766bfd2a27e9c7bed1e523a5500", func := "redundancy/redundancylaw05.CacheRegions", spec := "cacheRegions", apart := false, narrowed := true }
def CacheRegionsUptoSaid : Prop := cacheRegionsUptoRow.holds Tryz.pinned (OpenSpec.upto cacheRegionsSpec)

/-- 'redundancylaw13.CanonicalCaches', WHERE WHAT IT READS IS OF BULK AT MOST 1048576: true; the input reads as it did. -/
def canonicalCachesUptoRow : OpenClaim := { program := "ytdcpgpngdcfhhaagreat", sum := "eacbac441c9037e86d7dd542f8b3892bb811c766bfd2a27e9c7bed1e523a5500", func := "redundancy/redundancylaw13.CanonicalCaches", spec := "canonicalCaches", unfollowed := true, recurses := true, apart := false, narrowed := true }
def CanonicalCachesUptoSaid : Prop := canonicalCachesUptoRow.holds Tryz.pinned (OpenSpec.upto canonicalCachesSpec)

end Rows
end Go.Proofs.YtdcpgpngdcfhhaaGreat
