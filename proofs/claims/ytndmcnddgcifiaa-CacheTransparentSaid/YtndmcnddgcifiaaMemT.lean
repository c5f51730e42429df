/- The types of chapter 4, as data; no condition. -/
import Derived.Test.YtndmcnddgcifiaaRpA
import Derived.Test.YtndmcnddgcifiaaMm
set_option linter.unusedVariables false
set_option linter.unusedSimpArgs false
namespace Go.Proofs.Ytndmcnddgcifiaa
open Go.RowKit

def rCell : Rp Cel := rPair (rInt .u8) (rInt .u16)
def rCells : Rp (List Cel) := rList 30 rCell
def rLn : Rp Ln := rMap (fun x => (x.tag, x.dirty, x.cells)) (rPair (rInt .i64) (rPair rBool rCells))
def rMm : Rp Mm := rMap (fun m => (m.cells, m.lines)) (rPair rCells (rList 40 rLn))
theorem flatCell : rCell.flat := flat_pair (flat_int _) (flat_int _)
theorem slCell : SlT Try.prog 24 30 rCell.size 4 :=
  ⟨by kernel_rfl, by
    have h : (Try.prog.info? 30).map (fun i => (i.zero, i.size, i.bytes)) = some (some (.agg #[.int .u8 0, .int .u16 0]), 2, 4) := by kernel_rfl
    obtain ⟨i, hi, hz, hs, hb⟩ := info_parts h
    exact ⟨i, _, hi, hz, hs, hb, rfl⟩, rCell.pos⟩
theorem slLine : SlT Try.prog 25 40 rLn.size 40 :=
  ⟨by kernel_rfl, by
    have h : (Try.prog.info? 40).map (fun i => (i.zero, i.size, i.bytes)) = some (some (.agg #[.int .i64 0, .bool false, .slice none 0 0]), 3, 40) := by kernel_rfl
    obtain ⟨i, hi, hz, hs, hb⟩ := info_parts h
    exact ⟨i, _, hi, hz, hs, hb, rfl⟩, rLn.pos⟩

def CelOk (c : Cel) : Prop := 0 ≤ c.1 ∧ c.1 ≤ 255 ∧ 0 ≤ c.2 ∧ c.2 ≤ 65535
theorem cell_out {w : World} {F : Nat → Prop} {c : Cel} {cs : List Value} (h : rCell.rep w F c cs) : cs = [.int .u8 c.1, .int .u16 c.2] ∧ (Lit.int .u8 c.1).wf = true ∧ (Lit.int .u16 c.2).wf = true := by
  obtain ⟨a, b, rfl, ⟨rfl, h1⟩, ⟨rfl, h2⟩⟩ := h
  exact ⟨rfl, h1, h2⟩
theorem cell_in {w : World} {F : Nat → Prop} {c : Cel} (h1 : (Lit.int .u8 c.1).wf = true) (h2 : (Lit.int .u16 c.2).wf = true) : rCell.rep w F c [.int .u8 c.1, .int .u16 c.2] := ⟨[.int .u8 c.1], [.int .u16 c.2], rfl, ⟨rfl, h1⟩, ⟨rfl, h2⟩⟩
theorem ln_out {w : World} {F : Nat → Prop} {x : Ln} {cs : List Value} (h : rLn.rep w F x cs) : ∃ v, cs = [.int .i64 x.tag, .bool x.dirty, v] ∧ (Lit.int .i64 x.tag).wf = true ∧ RSl rCell w F x.cells v := by
  obtain ⟨a, b, rfl, ⟨rfl, h1⟩, c, d, rfl, rfl, v, rfl, h2⟩ := h
  exact ⟨v, rfl, h1, h2⟩
theorem ln_own {w : World} {fp : List Nat} {x : Ln} {v : Value} (h1 : (Lit.int .i64 x.tag).wf = true) (h : OSl rCell 30 w fp x.cells v) : rLn.own w fp x [.int .i64 x.tag, .bool x.dirty, v] :=
  ⟨[.int .i64 x.tag], [.bool x.dirty, v], [], fp, rfl, rfl, ⟨rfl, rfl, h1⟩, [.bool x.dirty], [v], [], fp, rfl, rfl, ⟨rfl, rfl⟩, v, rfl, h⟩
theorem ln_owned {w : World} {fp : List Nat} {x : Ln} {cs : List Value} (h : rLn.own w fp x cs) : ∃ v, cs = [.int .i64 x.tag, .bool x.dirty, v] ∧ (Lit.int .i64 x.tag).wf = true ∧ OSl rCell 30 w fp x.cells v := by
  obtain ⟨a, b, f, g, rfl, rfl, ⟨rfl, rfl, h1⟩, c, d, f', g', rfl, rfl, ⟨rfl, rfl⟩, v, rfl, h2⟩ := h
  exact ⟨v, rfl, h1, by simpa using h2⟩
theorem mm_out {w : World} {F : Nat → Prop} {m : Mm} {cs : List Value} (h : rMm.rep w F m cs) : ∃ u v, cs = [u, v] ∧ RSl rCell w F m.cells u ∧ RSl rLn w F m.lines v := by
  obtain ⟨c, d, rfl, ⟨u, rfl, h1⟩, v, rfl, h2⟩ := h
  exact ⟨u, v, rfl, h1, h2⟩
theorem mm_in {w : World} {F : Nat → Prop} {m : Mm} {u v : Value} (h1 : RSl rCell w F m.cells u) (h2 : RSl rLn w F m.lines v) : rMm.rep w F m [u, v] := ⟨[u], [v], rfl, ⟨u, rfl, h1⟩, v, rfl, h2⟩
theorem mm_own {w : World} {f g : List Nat} {m : Mm} {u v : Value} (h1 : OSl rCell 30 w f m.cells u) (h2 : OSl rLn 40 w g m.lines v) : rMm.own w (f ++ g) m [u, v] := ⟨[u], [v], f, g, rfl, rfl, ⟨u, rfl, h1⟩, v, rfl, h2⟩
theorem mm_owned {w : World} {fp : List Nat} {m : Mm} {cs : List Value} (h : rMm.own w fp m cs) : ∃ u v f g, cs = [u, v] ∧ fp = f ++ g ∧ OSl rCell 30 w f m.cells u ∧ OSl rLn 40 w g m.lines v := by
  obtain ⟨c, d, f, g, rfl, rfl, ⟨u, rfl, h1⟩, v, rfl, h2⟩ := h
  exact ⟨u, v, f, g, rfl, rfl, h1, h2⟩

/-- Handed back: data that the call has made, in blocks of its own. -/
def OwnRet {α : Type} (R : Rp α) (x : α) (w : World) (e : Ending) (w' : World) : Prop :=
  ∃ cs fp, e = .returned (.agg cs.toArray) ∧ R.own w' fp x cs ∧ fp.Nodup ∧ (∀ k, k ∈ fp → w.heap.size ≤ k) ∧ w.grownBy w' none

end Go.Proofs.Ytndmcnddgcifiaa
