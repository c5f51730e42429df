/- Sizes; the table of functions, their contracts by depth. -/
import Derived.Test.YtjmfjjmdfikanaaQm
import Derived.Test.YtjmfjjmdfikanaaProg
import Derived.WalkKit
import Derived.WalkSpells
import Derived.Handy
import Derived.OpenShut
set_option linter.unusedVariables false
set_option linter.unusedSimpArgs false
namespace Go.Proofs.Ytjmfjjmdfikanaa
open Go.RowKit

section
variable (box : FuncId → Option (Nat × List BxC)) (ps : FuncId → List (Option Nat)) (F : Callee) (N : Nat)
set_option maxRecDepth 100000 in
set_option maxHeartbeats 8000000 in
theorem sizes_run (hbox : box 14 = none) (hN : NextC F) (hNn : 10 ≤ N) (l k) (hd : DeckOk l k) :
    ∃ (xs : List Int) (k' : Nat), runT ⟨box, ps⟩ F N tfSizes [.ptr ⟨2, 0, []⟩ [0]] [(2, encD l k)] = some (⟨[.ow (xs.map encI)], [.one]⟩, [(2, encD l k')]) ∧ DeckOk l k' ∧ (∀ x ∈ xs, IsSize x) ∧ 1 ≤ xs.length ∧ xs.length ≤ 4 := by
  rw [← S.runT_real]
  obtain ⟨u, k1, h1, hd1, g1, g2⟩ := hN l k 9 hd (by decide) (by decide)
  obtain ⟨v, k2, h2, hd2, g3, g4⟩ := hN l k1 4 hd1 (by decide) (by decide)
  obtain ⟨j, rfl⟩ : ∃ j : Nat, v = j := ⟨v.toNat, by omega⟩
  obtain ⟨e, σ', hi, k3, xs, rfl, rfl, hd3, hx, hl1, hl⟩ := sizes_loop box ps F N hbox hN l 4 (by omega) j N _ ⟨k2, [4 + u], rfl, hd2, fun x hx => by rw [List.mem_singleton.1 hx]; exact ⟨by omega, by omega⟩, by simp, by simp; omega⟩ (by omega)
  refine ⟨xs, k3, ?_, hd3, hx, hl1, hl⟩
  have ha : realP.ar .add .i64 4 u = 4 + u := add64 (by omega) (by omega)
  simp only [stZ, stZ', encD, List.map_cons, List.map_nil, show encI (4 + u) = [.v (.int .i64 (4 + u))] from rfl] at *
  generalize l.map encI = c at *
  generalize xs.map encI = b at *
  generalize (k : Int) = i0 at *
  generalize (k1 : Int) = i1 at *
  generalize (k2 : Int) = i2 at *
  generalize (k3 : Int) = i3 at *
  generalize (j : Int) = j0 at *
  generalize 4 + u = u1 at *
  (generalize realP = Pr at *; obtain ⟨ar, cm, sh, sb, un, cv, natI, lenN, inb, inw, elt, addN, subN, slOk, win, immC, immW, allLen, appOk, cat, mkOk, rep, getC, setC, shC, eqf, eqB, notB, fmm, strAt, strLen, strB, strOk, bstr, cpy, it⟩ := Pr; try dsimp only at *)
  ((repeat (cbv; first | done | rw [ha] | rw [hbox] | rw [h1] | rw [h2] | rw [hi])); try cbv)
end

def tfAwk : TFn := { np := 0, pp := [], nt := 47, body := .seq (.reg 0 none [{ dst := some 0, guard := none, op := .asn true (.c (.bool false)) }] ([], [])) (.seq (.reg 1 none [{ dst := some 6, guard := none, op := .bsl 1 true 1 [.c (.int (.i64) 3)] }, { dst := some 7, guard := none, op := .bsl 1 true 2 [.c (.int (.u16) 7), .c (.int (.u16) 8)] }, { dst := some 8, guard := none, op := .bsl 1 true 1 [.t 7] }, { dst := some 9, guard := none, op := .bld [.slice none 0 0, .slice none 0 0, .slice none 0 0] true [(1, 1, .t 6), (2, 1, .t 8)] }, { dst := some 10, guard := none, op := .bsl 1 true 1 [.c (.int (.i64) 1)] }, { dst := some 11, guard := none, op := .bld [.slice none 0 0, .int (.u16) 0] true [(0, 1, .t 10)] }, { dst := some 12, guard := none, op := .call true (.f 8) [(none, .t 9), (none, .t 11)] }, { dst := some 5, guard := none, op := .mov (.t 12) }, { dst := some 13, guard := none, op := .ext (.t 5) 0 }, { dst := some 14, guard := none, op := .ext (.t 5) 1 }, { dst := some 1, guard := none, op := .alloc [.slice none 0 0, .slice none 0 0] }, { dst := none, guard := none, op := .store 2 false (.t 1) (.t 13) }, { dst := some 2, guard := none, op := .asn true (.t 14) }] ([1, 2], [4, 5, 6, 7])) (.seq (.reg 2 none [{ dst := some 16, guard := none, op := .load (some 2) (.t 1) }, { dst := some 17, guard := none, op := .call true (.f 26) [(none, .t 16), (none, .c (.int (.i64) 2))] }, { dst := some 15, guard := none, op := .mov (.t 17) }, { dst := some 18, guard := none, op := .ext (.t 15) 0 }, { dst := some 19, guard := none, op := .ext (.t 15) 1 }, { dst := some 3, guard := none, op := .alloc [.int (.u8) 0, .int (.u16) 0] }, { dst := none, guard := none, op := .store 2 false (.t 3) (.t 18) }, { dst := some 4, guard := none, op := .asn true (.t 19) }] ([1, 2, 3, 4], [4, 5, 6, 7, 8, 9, 10, 11])) (.seq (.reg 3 none [{ dst := some 20, guard := none, op := .mov (.t 2) }, { dst := some 21, guard := none, op := .bin (.eql) (.t 20) (.c (.int (.i64) 0)) }, { dst := some 22, guard := none, op := .mov (.t 21) }, { dst := some 23, guard := some (22, true), op := .mov (.t 4) }, { dst := some 24, guard := some (22, true), op := .bin (.eql) (.t 23) (.c (.int (.i64) 0)) }, { dst := some 25, guard := none, op := .pick (.t 22) (.t 24) (.c (.bool false)) }, { dst := some 26, guard := none, op := .mov (.t 25) }, { dst := some 27, guard := some (26, true), op := .fld 1 (.t 3) }, { dst := some 28, guard := some (26, true), op := .load none (.t 27) }, { dst := some 29, guard := some (26, true), op := .bin (.eql) (.t 28) (.c (.int (.u16) 8)) }, { dst := some 30, guard := none, op := .pick (.t 26) (.t 29) (.c (.bool false)) }, { dst := some 31, guard := none, op := .mov (.t 30) }, { dst := some 32, guard := some (31, true), op := .fld 0 (.t 1) }, { dst := some 33, guard := some (31, true), op := .load none (.t 32) }, { dst := some 34, guard := some (31, true), op := .len (.t 33) }, { dst := some 35, guard := some (31, true), op := .bin (.eql) (.t 34) (.c (.int (.i64) 512)) }, { dst := some 36, guard := none, op := .pick (.t 31) (.t 35) (.c (.bool false)) }, { dst := some 37, guard := none, op := .mov (.t 36) }, { dst := some 38, guard := some (37, true), op := .fld 1 (.t 1) }, { dst := some 39, guard := some (37, true), op := .load none (.t 38) }, { dst := some 40, guard := some (37, true), op := .len (.t 39) }, { dst := some 41, guard := some (37, true), op := .bin (.eql) (.t 40) (.c (.int (.i64) 4)) }, { dst := some 42, guard := none, op := .pick (.t 37) (.t 41) (.c (.bool false)) }, { dst := some 43, guard := none, op := .mov (.t 42) }, { dst := some 44, guard := some (43, true), op := .load (some 2) (.t 1) }, { dst := some 45, guard := some (43, true), op := .call true (.f 10) [(none, .t 44)] }, { dst := some 46, guard := none, op := .pick (.t 43) (.t 45) (.c (.bool false)) }, { dst := some 0, guard := none, op := .asn true (.t 46) }] ([0], [2, 3])) (.ret)))), res := [.tmp 0] }
def tfPeek : TFn := { np := 2, pp := [], nt := 21, body := .seq (.reg 0 none [{ dst := some 2, guard := none, op := .box 2 true (.t 0) }, { dst := some 4, guard := none, op := .alloc [.int (.u8) 0, .int (.u16) 0] }, { dst := some 5, guard := none, op := .asn true (.c (.int (.i64) 0)) }] ([1, 2, 4], [4, 5, 6, 7, 10, 11])) (.seq (.seq (.reg 1 none [{ dst := some 6, guard := none, op := .mov (.t 1) }, { dst := some 7, guard := none, op := .call true (.f 34) [(none, .t 6)] }, { dst := some 8, guard := none, op := .mov (.t 7) }, { dst := some 9, guard := some (8, false), op := .mov (.t 1) }, { dst := some 10, guard := some (8, false), op := .fld 0 (.t 2) }, { dst := some 11, guard := some (8, false), op := .load none (.t 10) }, { dst := some 12, guard := some (8, false), op := .len (.t 11) }, { dst := some 13, guard := some (8, false), op := .bin (.geq) (.t 9) (.t 12) }, { dst := some 14, guard := none, op := .pick (.t 8) (.c (.bool true)) (.t 13) }] ([1, 2, 4, 14], [4, 5, 6, 7, 10, 11, 16, 17, 18, 19, 28, 29, 30, 31])) (.cond (.t 14) (.seq (.reg 2 none [{ dst := some 15, guard := none, op := .bld [.int (.u8) 0, .int (.u16) 0] true [] }, { dst := none, guard := none, op := .store 2 true (.t 4) (.t 15) }, { dst := some 5, guard := none, op := .asn true (.c (.int (.i64) 6)) }] ([4, 5], [10, 11, 12, 13])) (.ret)) (.skip))) (.seq (.reg 3 none [{ dst := some 16, guard := none, op := .fld 0 (.t 2) }, { dst := some 17, guard := none, op := .load none (.t 16) }, { dst := some 18, guard := none, op := .mov (.t 1) }, { dst := some 19, guard := none, op := .idx 2 (.t 17) (.t 18) }, { dst := some 20, guard := none, op := .load (some 2) (.t 19) }, { dst := none, guard := none, op := .store 2 true (.t 4) (.t 20) }, { dst := some 5, guard := none, op := .asn true (.c (.int (.i64) 0)) }] ([4, 5], [10, 11, 12, 13])) (.ret))), res := [.cell 4 (some 2), .tmp 5] }
def tfOut : TFn := { np := 1, pp := [], nt := 9, body := .seq (.reg 0 none [{ dst := some 2, guard := none, op := .asn true (.c (.bool false)) }] ([0], [2, 3])) (.seq (.reg 1 none [{ dst := some 3, guard := none, op := .mov (.t 0) }, { dst := some 4, guard := none, op := .bin (.lss) (.t 3) (.c (.int (.i64) 0)) }, { dst := some 5, guard := none, op := .mov (.t 4) }, { dst := some 6, guard := some (5, false), op := .mov (.t 0) }, { dst := some 7, guard := some (5, false), op := .bin (.geq) (.t 6) (.c (.int (.i64) 512)) }, { dst := some 8, guard := none, op := .pick (.t 5) (.c (.bool true)) (.t 7) }, { dst := some 2, guard := none, op := .asn true (.t 8) }] ([2], [6, 7])) (.ret)), res := [.tmp 2] }
def T04 (f : FuncId) : Option TFn :=
  if f = 20 then some tfModR else if f = 7 then some tfModM else if f = 14 then some tfNext else if f = 27 then some tfWord else if f = 13 then some tfWords else if f = 12 then some tfSizes else
  if f = 16 then some tfLi else if f = 17 then some tfSys else if f = 28 then some tfMov else if f = 35 then some tfUses else if f = 18 then some tfJump else if f = 29 then some (tfInstr in1 in2 in3 in4) else
  if f = 15 then some (tfPart partB partR) else if f = 5 then some (tfProgram progB progC) else if f = 19 then some tfVal02 else if f = 6 then some tfMake else if f = 30 then some tfValR else if f = 21 then some tfLayV else
  if f = 23 then some tfNum else if f = 22 then some tfEmp else if f = 8 then some tfLoad else if f = 9 then some tfRes else if f = 33 then some tfWVal else if f = 32 then some tfC1 else
  if f = 36 then some tfIdx else if f = 31 then some tfCon else if f = 24 then some tfCells else if f = 25 then some tfLine else if f = 10 then some tfMVal else
  if f = 11 then some tfAwk else if f = 26 then some tfPeek else if f = 34 then some tfOut else if f = 3 then some tfMain else none
def E04 : Env := ⟨fun f => if f = 4 then some (1, [.arg 0, .val (.int .i64 0)]) else none, fun _ => []⟩
def B04 : Callee := fun _ _ _ => none
theorem b04_ok : CalleeOk Try.prog B04 := fun f vals pts res pts' h => by simp [B04] at h
theorem no_ng : (Try.prog.funcs.all fun fn => !(fn.name == "runtime.NumGoroutine")) = true := by kernel_rfl
theorem ite_tab {c : Prop} [Decidable c] {t tf : TFn} {r : Option TFn} {G : Prop} (h : (if c then some t else r) = some tf) (h1 : c → t = tf → G) (h2 : r = some tf → G) : G := by
  by_cases e : c
  · rw [if_pos e] at h; injection h with h; exact h1 e h
  · rw [if_neg e] at h; exact h2 h
theorem t04_ok : TabOk Try.prog T04 := by
  refine tabOk_of fun f tf h => ⟨?_, ?_, ?_⟩
  · unfold T04 at h
    repeat (refine ite_tab h (fun e e2 => ?_) (fun h => ?_); · (subst e; subst e2; kernel_rfl))
    simp at h
  · unfold T04 at h
    repeat (refine ite_tab h (fun e e2 => ?_) (fun h => ?_); · (subst e; subst e2; decide))
    simp at h
  · intro fn hfn
    obtain ⟨hlt, he⟩ := Array.getElem?_eq_some_iff.1 hfn
    have := Array.all_eq_true.1 no_ng f hlt
    rw [he] at this
    simpa using this
theorem new_enters : Enters Try.prog 4 := by
  obtain ⟨fn, hf, hb⟩ : ∃ fn, Try.prog.funcs[4]? = some fn ∧ fn.body.isSome = true := ⟨_, rfl, rfl⟩
  obtain ⟨c, hc⟩ := Option.isSome_iff_exists.1 hb
  refine enters_of hf ?_ hc
  obtain ⟨hlt, he⟩ := Array.getElem?_eq_some_iff.1 hf
  have := Array.all_eq_true.1 no_ng 4 hlt
  rw [he] at this
  simpa using this
def NewPost (x : Value) (w : World) (e : Ending) (w' : World) : Prop := e = .returned (.pointer (some ⟨w.heap.size, 0, none⟩)) ∧ w' = w.alloc (.cells #[x, .int .i64 0] 54)
theorem new_any (x : Value) (hx : x.oneCell' = true) (w : World) :
    Calls Try.prog 4 #[x] w (NewPost x w) := by
  cases x
  all_goals first
    | (go_enter Try.func4, Try.ntmps4
       go_wp2
       go_ret
       exact ⟨rfl, rfl⟩)
    | simp [Value.oneCell'] at hx
theorem e04_ok : BoxOk Try.prog E04 := by
  intro f n tm h
  simp only [E04] at h
  split at h
  · rename_i e
    subst e
    injection h with h
    injection h with h1 h2
    subst h1 h2
    refine ⟨new_enters, fun x hx => ?_, 54, fun l2 w hl hone => ?_⟩
    · simp only [List.mem_cons, List.not_mem_nil, or_false] at hx
      rcases hx with hx | hx
      · injection hx
      · injection hx with hx; rw [hx]; rfl
    · match l2, hl with
      | [x], _ => exact new_any x (hone x (by simp [bxV])) w
  · simp at h
end Go.Proofs.Ytjmfjjmdfikanaa
/- From a run on trees to a call of the program, for data that came in; no condition. -/
set_option linter.unusedVariables false
set_option linter.unusedSimpArgs false
namespace Go.Proofs.Ytjmfjjmdfikanaa
open Go.RowKit

def frM (w : World) (N : Nat) : Fm := ⟨w, fun _ => True, fun _ => False, fun _ => none, N, fun _ _ => trivial⟩
def frG : Gh := ⟨fun _ => none, fun _ _ => undef, fun _ _ _ => False⟩
theorem numbered_get (l : List TV) : ∀ i k, aget (numbered i l) k = if k < i then none else l[k - i]? := by
  induction l with
  | nil => intro i k; simp [numbered, aget]
  | cons t l ih =>
    intro i k
    simp only [numbered, aget, ih]
    by_cases h : i = k
    · subst h; simp
    · by_cases h2 : k < i
      · simp [h, h2, show k < i + 1 by omega]
      · obtain ⟨j, hj⟩ : ∃ j, k - i = j + 1 := ⟨k - i - 1, by omega⟩
        simp only [if_neg h, if_neg h2, hj, List.getElem?_cons_succ]
        rw [if_neg (by omega), show k - (i + 1) = j by omega]

theorem calls_of_tree {P : Program} {F : Callee} (hF : CalleeOk P F) {f : FuncId} {vals : List TV} {avs : List Value} {x : Value} {w : World} (h : F f vals [] = some (⟨[.v x], [.one]⟩, [])) (hl : avs.length = vals.length)
    (hv : ∀ j (h : j < vals.length) (h' : j < avs.length), ImmR w (fun _ => True) vals[j] avs[j]) : Calls P f avs.toArray w fun e w' => e = .returned x ∧ Below w.heap.size w w' := by
  obtain ⟨_, N, hN, hc⟩ := hF f vals [] _ _ h
  have hFF : ∀ k, frG.F (frM w N).A k := fun k => ⟨trivial, fun _ _ h => h, fun _ _ _ _ h => by simp [frG] at h⟩
  have hst : ∀ i, (mkSt vals []).t i = vals.getD i .dead := by
    intro i
    simp [St.t, mkSt, numbered_get]
  have hE : ∀ r o, extC (frM w N) (mkSt vals []) [] r o = .dead := by
    intro r o
    unfold extC
    split
    · simp
    · rfl
  have hI : Inv (frM w N) (mkSt vals []) [] [] (avs.toArray ++ Array.replicate (N - avs.length) undef) w frG := by
    refine ⟨⟨fun r o => .inl ⟨hE r o, fun _ h => h⟩, fun _ _ _ _ h => by simp [frG] at h, fun _ _ _ _ h => by simp [frG] at h, fun _ _ _ _ _ _ _ h => by simp [frG] at h, fun _ _ _ _ h => by simp [frG] at h, fun _ _ _ _ _ h => h.elim, fun _ _ _ h => h.elim⟩, fun i => ?_, ⟨rfl, rfl, rfl, Nat.le_refl _, fun _ _ _ _ => rfl, fun _ _ _ _ h => by simp [frM] at h, fun _ _ _ h => h.elim, fun _ _ _ _ h => by simp [frG] at h, fun _ h => by simp [frG] at h⟩, fun r l h => by simp [mkSt, aget] at h, ?_, rfl, fun j hj => by simp at hj, fun _ _ _ _ h => by simp [frG] at h⟩
    · rw [hst]
      by_cases hi : i < vals.length
      · have hi' : i < avs.length := by omega
        have e1 : vals.getD i .dead = vals[i] := by simp [hi]
        have e2 : (avs.toArray ++ Array.replicate (N - avs.length) undef).getD i undef = avs[i] := by
          simp [Array.getD_eq_getD_getElem?, Array.getElem?_append, hi']
        rw [e1, e2]
        exact ((hv i hi hi').frame (fun _ _ _ => rfl) fun k _ _ => hFF k).toTm
      · have e1 : vals.getD i .dead = .dead := by rw [List.getD_eq_getElem?_getD, List.getElem?_eq_none (by omega)]; rfl
        rw [e1]
        exact .dead
    · show (avs.toArray ++ Array.replicate (N - avs.length) undef).size = N
      simp; omega
  refine (hc (frM w N) avs w frG hl rfl rfl (fun r hr => by simp [frM] at hr) hI).mono fun e w2 ⟨ys, ts2, σ2, G2, he, hI2, _, _⟩ => ?_
  have hlen : ys.length = 1 := by have := hI2.hand; simpa using this.symm
  obtain ⟨y, hy⟩ : ∃ y, ys = [y] := List.length_eq_one_iff.1 hlen
  subst hy
  have hown := hI2.hand_own (j := 0) (by simp) (by simp)
  simp only [List.getElem_cons_zero, List.getD_cons_zero] at hown
  have hyx : y = x := by
    cases hown with
    | v _ h => rfl
  subst hyx
  refine ⟨he, ⟨hI2.fram.os, hI2.fram.tape, hI2.fram.output, hI2.fram.size, fun k hk => hI2.fram.old k hk (fun h => h) fun _ _ _ _ h => by simp [frM] at h⟩⟩
end Go.Proofs.Ytjmfjjmdfikanaa
/- The contracts by depth; what the law's function answers. -/
set_option linter.unusedVariables false
set_option linter.unusedSimpArgs false
namespace Go.Proofs.Ytjmfjjmdfikanaa
open Go.RowKit

def F04 (n : Nat) : Callee := runF E04 T04 B04 n
theorem r04 {f : FuncId} {tf : TFn} {n : Nat} (h : T04 f = some tf) (a : List TV) (p : Pts) : F04 (n + 1) f a p = runT E04 (F04 n) n tf a p := runF_runT h a p
/-- A contract holds from some depth on. -/
def Ch (C : Callee → Prop) (d : Nat) : Prop := ∀ n, 5000000000 + d ≤ n → C (F04 n)
theorem Ch.mk {C : Callee → Prop} {d : Nat} (h : ∀ m, 5000000000 + d ≤ m + 1 → C (F04 (m + 1))) : Ch C d := by
  intro n hn
  obtain ⟨m, rfl⟩ : ∃ m, n = m + 1 := ⟨n - 1, by omega⟩
  exact h m hn
theorem ch_modR : Ch ModRC 0 := Ch.mk fun m hm a b ha hb hb2 => by rw [r04 (tf := tfModR) rfl]; exact modR_run E04 (F04 m) m a b ha hb hb2
theorem ch_mod : Ch ModC 1 := Ch.mk fun m hm a b ha hb hb2 => by rw [r04 (tf := tfModM) rfl]; exact modM_run _ _ (F04 m) m rfl (ch_modR m (by omega)) a b ha hb hb2
theorem ch_next : Ch NextC 2 := Ch.mk fun m hm => next_ok _ _ (F04 m) _ m rfl (ch_mod m (by omega)) fun a p => r04 (tf := tfNext) rfl a p
theorem ch_word : Ch WordC 3 := Ch.mk fun m hm l k hd => by rw [r04 (tf := tfWord) rfl]; exact word_run _ _ (F04 m) m rfl (ch_next m (by omega)) l k hd
theorem ch_words : Ch WordsC 4 := Ch.mk fun m hm l k n hd hn hn2 => by
  obtain ⟨n, rfl⟩ : ∃ n' : Nat, n = n' := ⟨n.toNat, by omega⟩
  rw [r04 (tf := tfWords) rfl]
  obtain ⟨xs, k', h⟩ := words_run E04.box E04.ps (F04 m) m rfl rfl (ch_word m (by omega)) (ch_next m (by omega)) l k n (by omega) (by omega) hd
  exact ⟨xs, k', h.1, h.2.1, h.2.2.1, by have := h.2.2.2; omega⟩
theorem ch_sizes : Ch SizesC 3 := Ch.mk fun m hm l k hd => by rw [r04 (tf := tfSizes) rfl]; exact sizes_run _ _ (F04 m) m rfl (ch_next m (by omega)) (by omega) l k hd
theorem ch_li : Ch LiC 0 := Ch.mk fun m hm r n => by rw [r04 (tf := tfLi) rfl]; exact li_run E04 (F04 m) m r n
theorem ch_sys : Ch SysC 0 := Ch.mk fun m hm n => by rw [r04 (tf := tfSys) rfl]; exact sys_run E04 (F04 m) m n
theorem ch_mov : Ch MovC 0 := Ch.mk fun m hm a b => by rw [r04 (tf := tfMov) rfl]; exact mov_run E04 (F04 m) m a b
theorem ch_uses : Ch UsesC 0 := Ch.mk fun m hm op h0 h1 => by rw [r04 (tf := tfUses) rfl]; exact uses_run E04 (F04 m) m op h0 h1
theorem ch_jump : Ch JumpC 0 := Ch.mk fun m hm op h0 h1 => by rw [r04 (tf := tfJump) rfl]; exact jump_run E04 (F04 m) m op h0 h1
theorem ch_instr : Ch InstrC 4 := Ch.mk fun m hm l k n most hd hn hn2 hm1 hm2 => by
  rw [r04 (tf := tfInstr in1 in2 in3 in4) rfl]
  exact instr_run _ _ (F04 m) m rfl rfl rfl rfl (ch_next m (by omega)) (ch_uses m (by omega)) (ch_jump m (by omega)) (ch_word m (by omega)) l k n most hd hn hn2 hm1 hm2
theorem ch_part : Ch PartC 5 := Ch.mk fun m hm l k sizes most at_ hd hma hs hl hl2 hm1 hm2 ha ha2 => by
  rw [r04 (tf := tfPart partB partR) rfl]
  exact part_run _ _ (F04 m) m ⟨rfl, rfl, rfl, rfl, rfl, rfl⟩ ⟨ch_next m (by omega), ch_word m (by omega), ch_li m (by omega), ch_sys m (by omega), ch_mov m (by omega), ch_instr m (by omega)⟩ l k sizes most at_ hma hd hs hl hl2 hm1 hm2 ha ha2
theorem ch_program : Ch ProgC 6 := Ch.mk fun m hm l k hd => by
  simp only [r04 (f := 5) (n := m) (tf := tfProgram progB progC) rfl]
  exact program_run _ _ (F04 m) m ⟨rfl, rfl, rfl, rfl, rfl, rfl, rfl⟩ ⟨ch_next m (by omega), ch_sizes m (by omega), ch_words m (by omega), ch_part m (by omega), ch_li m (by omega), ch_sys m (by omega), ch_jump m (by omega)⟩ (by omega) l k hd
theorem ch_val02 : Ch Val02C 0 := Ch.mk fun m hm sizes h => by rw [r04 (tf := tfVal02) rfl]; exact val02_run (F04 m) m E04 (by omega) sizes h
theorem ch_make : Ch MakeC 1 := Ch.mk fun m hm sizes h s hs => by
  simp only [r04 (f := 6) (n := m) (tf := tfMake) rfl]
  exact make_run _ _ (F04 m) m rfl (ch_val02 m (by omega)) (by omega) sizes h s hs
theorem ch_valR : Ch ValRC 0 := Ch.mk fun m hm sizes h => by rw [r04 (tf := tfValR) rfl]; exact valR_run (F04 m) m E04 (by omega) sizes h
theorem ch_layV : Ch LayVC 1 := Ch.mk fun m hm sizes B key h hB => by rw [r04 (tf := tfLayV) rfl]; exact layV_run _ _ (F04 m) m rfl (ch_valR m (by omega)) (by omega) sizes B h hB key
theorem ch_num : Ch NumC 0 := Ch.mk fun m hm xs h => by rw [r04 (tf := tfNum) rfl]; exact num_run (F04 m) m E04 (by omega) xs h
theorem ch_emp : Ch EmpC 0 := Ch.mk fun m hm => by unfold EmpC; rw [r04 (tf := tfEmp) rfl]; exact emp_run (F04 m) m E04 (by omega)
theorem ch_load : Ch LoadC 2 := Ch.mk fun m hm C key sizes B data h hB hD hdl => by
  simp only [r04 (f := 8) (n := m) (tf := tfLoad) rfl]
  exact load_run _ _ (F04 m) m rfl rfl rfl (ch_num m (by omega)) (ch_layV m (by omega)) (ch_emp m (by omega)) (by omega) C key sizes B data h hB hD hdl
theorem ch_res : Ch ResC 0 := Ch.mk fun m hm sizes B key a h hB ha ha2 => by
  simp only [r04 (f := 9) (n := m) (tf := tfRes) rfl]
  exact res_run (F04 m) m E04 (by omega) sizes B key a h hB ha ha2
theorem ch_wval : Ch WValC 0 := Ch.mk fun m hm x => by rw [r04 (tf := tfWVal) rfl]; exact wval_run (F04 m) m E04 x
theorem ch_c1 : Ch C1C 1 := Ch.mk fun m hm x => by rw [r04 (tf := tfC1) rfl]; exact c1_run _ _ (F04 m) m rfl (ch_wval m (by omega)) x
theorem ch_idx : Ch IdxC 2 := Ch.mk fun m hm l h => by rw [r04 (tf := tfIdx) rfl]; exact idx_run _ _ (F04 m) m rfl (ch_c1 m (by omega)) (by omega) l h
theorem ch_con : Ch ConC 3 := Ch.mk fun m hm l h => by rw [r04 (tf := tfCon) rfl]; exact con_run _ _ (F04 m) m rfl (ch_idx m (by omega)) l h
theorem ch_cells : Ch CellsC 4 := Ch.mk fun m hm l h => by rw [r04 (tf := tfCells) rfl]; exact cells_run _ _ (F04 m) m rfl (ch_con m (by omega)) l h
theorem ch_line : Ch LineC 0 := Ch.mk fun m hm i => by rw [r04 (tf := tfLine) rfl]; exact line_run (F04 m) m E04 i
theorem ch_mval : Ch MValC 5 := Ch.mk fun m hm l h => by rw [r04 (tf := tfMVal) rfl]; exact mval_run _ _ (F04 m) m rfl rfl (ch_line m (by omega)) (ch_cells m (by omega)) (by omega) l h
theorem awake_run (m : Nat) : AwakeC (runF E04 T04 B04 (m + 600)) := by
  unfold AwakeC
  kernel_rfl
theorem ch_awake : Ch AwakeC 0 := fun n hn => by
  obtain ⟨m, rfl⟩ : ∃ m, n = m + 600 := ⟨n - 600, by omega⟩
  exact awake_run m
theorem law04_run (l : List Int) (hl : ∀ x ∈ l, Is64 x) (hll : l.length ≤ 9223372036854775807) (s : Int) (hs : Is64 s) : F04 5000000008 3 [.sl (l.map encI), .v (.int .i64 s)] [] = some (⟨[.v (.bool true)], [.one]⟩, []) := by
  rw [r04 (n := 5000000007) (tf := tfMain) rfl]
  exact main_run _ _ (F04 5000000007) _ ⟨rfl, rfl, rfl, rfl, rfl, rfl, rfl, rfl⟩ ⟨ch_program _ (by omega), ch_mod _ (by omega), ch_make _ (by omega), ch_load _ (by omega), ch_res _ (by omega), ch_mval _ (by omega), ch_awake _ (by omega)⟩ (by omega) l hl hll s hs
/-- A slice of integers that came in, as shared data. -/
theorem immR_row {w : World} {a : Option Addr} {len cap : Nat} {zs : List Int}
    (h : (a = none ∧ len = 0 ∧ cap = 0 ∧ zs = []) ∨ ∃ x, a = some x ∧ len ≤ cap ∧ cap ≤ maxLen ∧ zs.length = cap ∧ (∀ i, i < zs.length → w.cell? (x.add i) = some (.int .i64 (zs.getD i 0))) ∧ ∀ n ∈ zs, (Lit.int .i64 n).wf = true) :
    ImmR w (fun _ => True) (.sl ((zs.take len).map encI)) (.slice a len cap) ∧ (∀ x ∈ zs.take len, Is64 x) ∧ (zs.take len).length ≤ 9223372036854775807 := by
  rcases h with ⟨rfl, rfl, rfl, rfl⟩ | ⟨x, rfl, hl, hm, hz, hc, hw⟩
  · exact ⟨.sl (c := []) 1 (fun _ _ => undef) (fun i h => by simp at h) (Nat.le_refl _) (Nat.zero_le _) (fun _ => rfl) (fun i j h => by simp at h) (fun i j h => by simp at h), fun x hx => by simp at hx, by simp⟩
  · have hlen : (zs.take len).length = len := by rw [List.length_take]; omega
    refine ⟨?_, fun n hn => bounds_i64 (hw n (List.mem_of_mem_take hn)), by rw [hlen]; exact Nat.le_trans (Nat.le_trans hl hm) (by simp [maxLen])⟩
    have key : ImmR w (fun _ => True) (.sl ((zs.take len).map encI)) (.slice (some x) ((zs.take len).map encI).length cap) := by
      refine .sl 1 (fun i _ => .int .i64 (zs.getD i 0)) (fun i h => by simp [encI]) (by rw [List.length_map, hlen]; exact hl) hm (fun h => by simp at h) (fun i j hi hj => ?_) (fun i j hi hj => ?_)
      · rw [List.length_map, hlen] at hi
        obtain ⟨b, off, rfl, hc'⟩ := ints_at hc (by omega)
        refine ⟨b, off, rfl, trivial, ?_⟩
        have := hc' i (by omega)
        rw [show off + (i * 1 + j) = off + i by omega]
        exact this
      · rw [List.length_map, hlen] at hi
        simp only [encI, List.getElem_map, List.length_singleton] at hj
        obtain rfl : j = 0 := by simpa [encI] using hj
        have : (((zs.take len).map encI)[i]'(by rw [List.length_map, hlen]; exact hi))[0]'(by simp [encI]) = .v (.int .i64 (zs.getD i 0)) := by
          have hi2 : i < zs.length := by omega
          simp [encI, hi2]
        rw [this]
        exact .v rfl
    rw [List.length_map, hlen] at key
    exact key
theorem law04_calls {w : World} {a : Option Addr} {len cap : Nat} {zs : List Int} {s : Int}
    (h : (a = none ∧ len = 0 ∧ cap = 0 ∧ zs = []) ∨ ∃ x, a = some x ∧ len ≤ cap ∧ cap ≤ maxLen ∧ zs.length = cap ∧ (∀ i, i < zs.length → w.cell? (x.add i) = some (.int .i64 (zs.getD i 0))) ∧ ∀ n ∈ zs, (Lit.int .i64 n).wf = true) (hs : (Lit.int .i64 s).wf = true) :
    Calls Try.prog 3 #[.slice a len cap, .int .i64 s] w fun e w' => e = .returned (.bool true) ∧ Below w.heap.size w w' := by
  obtain ⟨h1, h2, h3⟩ := immR_row h
  exact calls_of_tree (avs := [.slice a len cap, .int .i64 s]) (runF_ok t04_ok e04_ok b04_ok 5000000008) (law04_run (zs.take len) h2 h3 s (bounds_i64 hs)) rfl fun j hj hj' => by
    match j, hj with
    | 0, _ => exact h1
    | 1, _ => exact .v rfl
end Go.Proofs.Ytjmfjjmdfikanaa
