/- Functions told on typed data, and that the program has them; no condition. -/
import Derived.Test.YtkmbahlpmoljpaaQk
set_option linter.unusedVariables false
set_option linter.unusedSimpArgs false
namespace Go.Proofs.Ytkmbahlpmoljpaa
open Go.RowKit

/-! redundancy/redundancyref01.Mod -/
def t_ref01_Mod (a0 : Int) (a1 : Int) : Option (Int × Unit) :=
bif (a1 != 0) then let x0 : Int := (Int.tmod a0 a1);
(bif (decide (x0 < 0)) then (let x1 : Int := (w64 (x0 + a1));
some (x1, ())) else
some (x0, ()) : Option (Int × Unit)).bind fun (x1, _) =>
some (x1, ()) else none
noncomputable def h_ref01_Mod : X.Cfg := ⟨E0, [], [], [⟨2, 0, ⟨[], [], [], ([], [])⟩, [(.normal, ⟨[(5, shU I64)], [], [], ([], [])⟩)]⟩]⟩
def c_ref01_Mod : Ctr := ⟨23, 0, [shU I64, shU I64], [], [⟨[shU I64], [.one], []⟩], fun h => t_ref01_Mod h.1 h.2.1⟩
set_option maxRecDepth 100000 in
theorem k_ref01_Mod : Lvl E0 TT noB 1 c_ref01_Mod := lvl_step (n := 0) (C := h_ref01_Mod) rfl (.intro) (some_of (by kernel_rfl)) (fun h => by kernel_rfl)
/-! redundancy/redundancymake.Mod -/
def t_mk_Mod (a0 : Int) (a1 : Int) : Option (Int × Unit) :=
(t_ref01_Mod a0 a1).bind fun (x0, _) =>
some (x0, ())
noncomputable def h_mk_Mod : X.Cfg := ⟨E0, [c_ref01_Mod], [], []⟩
def c_mk_Mod : Ctr := ⟨10, 1, [shU I64, shU I64], [], [⟨[shU I64], [.one], []⟩], fun h => t_mk_Mod h.1 h.2.1⟩
set_option maxRecDepth 100000 in
theorem k_mk_Mod : Lvl E0 TT noB 2 c_mk_Mod := lvl_step (n := 1) (C := h_mk_Mod) rfl (.intro (k_ref01_Mod.mono (by decide)) (.intro)) (some_of (by kernel_rfl)) (fun h => by kernel_rfl)
/-! (*redundancy/redundancymake.Deck).Next -/
def t_Deck_Next (a0 : Int) (a1 : List (Int)) (a2 : Int) : Option (Int × (List (Int)) × Int × Unit) :=
let x0 : Int := (natI? (List.length a1));
bif (decide (a2 ≥ x0)) then (some (0, a1, a2, ())) else
let x1 : Int := (w64 (a2 + 1));
let x2 : Int := (w64 (x1 - 1));
(nat? x2).bind fun x3 =>
(get? a1 x3).bind fun x4 =>
(t_mk_Mod x4 a0).bind fun (x5, _) =>
some (x5, a1, x1, ())
noncomputable def h_Deck_Next : X.Cfg := ⟨E0, [c_mk_Mod], [], []⟩
def c_Deck_Next : Ctr := ⟨14, 2, [.ptr ⟨2, 0, []⟩ [0], shU I64], [(2, [shU (.row false I64), shU I64])], [⟨[shU I64], [.one], [(2, [shU (.row false I64), shU I64])]⟩], fun h => t_Deck_Next h.1 h.2.1 h.2.2.1⟩
set_option maxRecDepth 100000 in
theorem k_Deck_Next : Lvl E0 TT noB 3 c_Deck_Next := lvl_step (n := 2) (C := h_Deck_Next) rfl (.intro (k_mk_Mod.mono (by decide)) (.intro)) (some_of (by kernel_rfl)) (fun h => by kernel_rfl)
/-! redundancy/redundancyref02.Total -/
def t_ref02_Total_L0 : Int × (List (Int)) × Int × Int × Unit → Option ((Int × (List (Int)) × Int × Int × Unit) ⊕ (Int × (List (Int)) × Int × Int × Bool × Unit)) := fun (v0, v1, v2, v3, _) =>
bif (decide (v3 < v2)) then ((nat? v3).bind fun x0 =>
(get? v1 x0).bind fun x1 =>
let x2 : Int := (w64 (v0 + x1));
let x3 : Int := (w64 (v3 + 1));
some (.inl (x2, v1, v2, x3, ()))) else
some (.inr (v0, v1, v2, v3, false, ()))
def t_ref02_Total (a0 : List (Int)) : Option (Int × Unit) :=
let x0 : Int := (natI? (List.length a0));
(loopN t_ref02_Total_L0 NN (0, a0, x0, 0, ())).bind fun (x1, x2, x3, x4, x5, _) =>
some (x1, ())
noncomputable def h_ref02_Total : X.Cfg := ⟨E0, [], [], [⟨4, 0, ⟨[(3, shU I64), (6, shU (.row false I64)), (7, shU I64), (8, shU I64)], [], [], ([], [])⟩, [(.exit 0, ⟨[(3, shU I64), (6, shU (.row false I64)), (7, shU I64), (8, shU I64), (9, shU .bool)], [], [], ([], [])⟩)]⟩]⟩
def c_ref02_Total : Ctr := ⟨30, 3, [shU (.row false I64)], [], [⟨[shU I64], [.one], []⟩], fun h => t_ref02_Total h.1⟩
set_option maxRecDepth 100000 in
theorem k_ref02_Total : Lvl E0 TT noB 1 c_ref02_Total := lvl_step (n := 0) (C := h_ref02_Total) rfl (.intro) (some_of (by kernel_rfl)) (fun h => by kernel_rfl)
/-! redundancy/redundancyref02.At -/
def t_ref02_At_L1 : Int × (List (Int)) × Int × Int × Int × Int × Unit → Option ((Int × (List (Int)) × Int × Int × Int × Int × Unit) ⊕ ((Int × Int × Int × Unit) ⊕ (Int × (List (Int)) × Int × Int × Bool × Int × Int × Unit))) := fun (v0, v1, v2, v3, v4, v5, _) =>
bif (decide (v3 < v2)) then ((nat? v3).bind fun x0 =>
(get? v1 x0).bind fun x1 =>
(match (bif (decide (v0 ≥ 0)) then (bif (decide (v0 < x1)) then (some (.inl (0, v3, v0, ()))) else
some (.inr (v0, v3, x1, v1, v2, v3, false, v4, v5, ()))) else
some (.inr (v0, v3, x1, v1, v2, v3, false, v4, v5, ())) : Option ((Int × Int × Int × Unit) ⊕ (Int × Int × Int × (List (Int)) × Int × Int × Bool × Int × Int × Unit))) with
| none => none
| some (.inl (x2, x3, x4, _)) =>
some (.inr (.inl (x2, x3, x4, ())))
| some (.inr (x2, x3, x4, x5, x6, x7, x8, x9, x10, _)) =>
let x11 : Int := (w64 (x2 - x4));
let x12 : Int := (w64 (x7 + 1));
some (.inl (x11, x5, x6, x12, x9, x10, ())))) else
some (.inr (.inr (v0, v1, v2, v3, false, v4, v5, ())))
def t_ref02_At (a0 : List (Int)) (a1 : Int) : Option (Int × Int × Int × Unit) :=
let x0 : Int := (natI? (List.length a0));
(match loopN t_ref02_At_L1 NN (a1, a0, x0, 0, 0, 0, ()) with
| none => none
| some (.inl (x1, x2, x3, _)) =>
some (x2, x3, x1, ())
| some (.inr (x1, x2, x3, x4, x5, x6, x7, _)) =>
some (0, 0, 6, ()))
noncomputable def h_ref02_At : X.Cfg := ⟨E0, [], [], [⟨8, 0, ⟨[], [], [], ([], [])⟩, [(.ret, ⟨[(4, .ptr ⟨10, 0, []⟩ [0]), (5, shU I64)], [(10, [shU I64, shU I64])], [], ([], [])⟩), (.normal, ⟨[(1, shU I64), (4, .ptr ⟨10, 0, []⟩ [0]), (6, shU I64), (7, shU I64), (8, shU (.row false I64)), (9, shU I64), (10, shU I64), (21, shU .bool)], [(10, [shU I64, shU I64])], [], ([], [])⟩)]⟩, ⟨3, 1, ⟨[(1, shU I64), (4, .ptr ⟨10, 0, []⟩ [0]), (8, shU (.row false I64)), (9, shU I64), (10, shU I64)], [(10, [shU I64, shU I64])], [], ([], [])⟩, [(.ret, ⟨[(4, .ptr ⟨10, 0, []⟩ [0]), (5, shU I64)], [(10, [shU I64, shU I64])], [], ([], [])⟩), (.exit 0, ⟨[(1, shU I64), (4, .ptr ⟨10, 0, []⟩ [0]), (8, shU (.row false I64)), (9, shU I64), (10, shU I64), (11, shU .bool)], [(10, [shU I64, shU I64])], [], ([], [])⟩)]⟩]⟩
def c_ref02_At : Ctr := ⟨29, 4, [shU (.row false I64), shU I64], [], [⟨[shU I64, shU I64, shU I64], [.agg 2, .one], []⟩], fun h => t_ref02_At h.1 h.2.1⟩
set_option maxRecDepth 100000 in
theorem k_ref02_At : Lvl E0 TT noB 1 c_ref02_At := lvl_step (n := 0) (C := h_ref02_At) rfl (.intro) (some_of (by kernel_rfl)) (fun h => by kernel_rfl)
/-! (*redundancy/redundancymake.Deck).Word -/
def t_Deck_Word (a0 : List (Int)) (a1 : Int) : Option (Int × (List (Int)) × Int × Unit) :=
(t_Deck_Next 5 a0 a1).bind fun (x0, x1, x2, _) =>
(bif (x0 == 0) then (some (x0, true, x1, x2, ())) else
bif (x0 == 1) then (some (x0, true, x1, x2, ())) else
some (x0, (x0 == 2), x1, x2, ()) : Option (Int × Bool × (List (Int)) × Int × Unit)).bind fun (x3, x4, x5, x6, _) =>
bif x4 then ((t_Deck_Next 8 x5 x6).bind fun (x7, x8, x9, _) =>
let x10 : Int := (wk .u16 x7);
some (x10, x8, x9, ())) else
bif (x3 == 3) then ((t_Deck_Next 3 x5 x6).bind fun (x7, x8, x9, _) =>
let x10 : Int := (w64 (65535 - x7));
let x11 : Int := (wk .u16 x10);
some (x11, x8, x9, ())) else
(t_Deck_Next 65536 x5 x6).bind fun (x7, x8, x9, _) =>
let x10 : Int := (wk .u16 x7);
some (x10, x8, x9, ())
noncomputable def h_Deck_Word : X.Cfg := ⟨E0, [c_Deck_Next], [], [⟨3, 0, ⟨[], [], [], ([], [])⟩, [(.normal, ⟨[(0, .ptr ⟨2, 0, []⟩ [0]), (4, shU I64), (5, shU .bool)], [(2, [shU (.row false I64), shU I64])], [], ([], [])⟩)]⟩]⟩
def c_Deck_Word : Ctr := ⟨31, 5, [.ptr ⟨2, 0, []⟩ [0]], [(2, [shU (.row false I64), shU I64])], [⟨[shU (.int .u16)], [.one], [(2, [shU (.row false I64), shU I64])]⟩], fun h => t_Deck_Word h.1 h.2.1⟩
set_option maxRecDepth 100000 in
theorem k_Deck_Word : Lvl E0 TT noB 4 c_Deck_Word := lvl_step (n := 3) (C := h_Deck_Word) rfl (.intro (k_Deck_Next.mono (by decide)) (.intro)) (some_of (by kernel_rfl)) (fun h => by kernel_rfl)
/-! (*redundancy/redundancymake.Deck).Canon -/
def t_Deck_Canon (a0 : List (Int)) (a1 : List (Int)) (a2 : Int) : Option (Int × Int × Int × Int × (List (Int)) × Int × Unit) :=
(t_Deck_Next 6 a1 a2).bind fun (x0, x1, x2, _) =>
bif (x0 == 4) then ((t_ref02_Total a0).bind fun (x3, _) =>
(t_Deck_Next x3 x1 x2).bind fun (x4, x5, x6, _) =>
(t_ref02_At a0 x4).bind fun (x7, x8, x9, _) =>
some (1, 0, x7, x8, x5, x6, ())) else
bif (x0 == 5) then ((t_Deck_Next 10 x1 x2).bind fun (x3, x4, x5, _) =>
let x6 : Int := (wk .u16 x3);
some (2, x6, 0, 0, x4, x5, ())) else
(t_Deck_Word x1 x2).bind fun (x3, x4, x5, _) =>
some (0, x3, 0, 0, x4, x5, ())
noncomputable def h_Deck_Canon : X.Cfg := ⟨E0, [c_Deck_Next, c_ref02_Total, c_ref02_At, c_Deck_Word], [], []⟩
def c_Deck_Canon : Ctr := ⟨15, 6, [.ptr ⟨2, 0, []⟩ [0], shU (.row false I64)], [(2, [shU (.row false I64), shU I64])], [⟨[shU (.int .u8), shU (.int .u16), shU I64, shU I64], [.agg 4], [(2, [shU (.row false I64), shU I64])]⟩], fun h => t_Deck_Canon h.1 h.2.1 h.2.2.1⟩
set_option maxRecDepth 100000 in
theorem k_Deck_Canon : Lvl E0 TT noB 5 c_Deck_Canon := lvl_step (n := 4) (C := h_Deck_Canon) rfl (.intro (k_Deck_Next.mono (by decide)) (.intro (k_ref02_Total.mono (by decide)) (.intro (k_ref02_At.mono (by decide)) (.intro (k_Deck_Word.mono (by decide)) (.intro))))) (some_of (by kernel_rfl)) (fun h => by kernel_rfl)
/-! (*redundancy/redundancymake.Deck).Canons -/
def t_Deck_Canons_L1 : Int × (List (Int)) × Int × (List (Int × Int × Int × Int)) × Unit → Option ((Int × (List (Int)) × Int × (List (Int × Int × Int × Int)) × Unit) ⊕ (Int × Bool × (List (Int)) × Int × (List (Int × Int × Int × Int)) × Unit)) := fun (v0, v1, v2, v3, _) =>
bif (decide (v0 > 0)) then (let x0 : List (Int) := [8, 4];
(t_Deck_Canon x0 v1 v2).bind fun (x1, x2, x3, x4, x5, x6, _) =>
((t_Deck_Next 12 x5 x6).bind fun (x7, x8, x9, _) =>
bif (x7 == 0) then ((t_Deck_Next 65536 x8 x9).bind fun (x10, x11, x12, _) =>
some (v0, x11, x12, v3, 1, 0, (-1), x10, ())) else
some (v0, x8, x9, v3, x1, x2, x3, x4, ()) : Option (Int × (List (Int)) × Int × (List (Int × Int × Int × Int)) × Int × Int × Int × Int × Unit)).bind fun (x7, x8, x9, x10, x11, x12, x13, x14, _) =>
let x15 : List (Int × Int × Int × Int) := [(x11, (x12, (x13, x14)))];
bif (appOk? 24 (List.length x10) (List.length x15)) then let x16 : List (Int × Int × Int × Int) := (List.append x10 x15);
let x17 : Int := (w64 (x7 - 1));
some (.inl (x17, x8, x9, x16, ())) else none) else
some (.inr (v0, false, v1, v2, v3, ()))
def t_Deck_Canons (a0 : Int) (a1 : List (Int)) (a2 : Int) : Option ((List (Int × Int × Int × Int)) × (List (Int)) × Int × Unit) :=
let x0 : Int := (w64 (a0 + 1));
(t_Deck_Next x0 a1 a2).bind fun (x1, x2, x3, _) =>
(loopN t_Deck_Canons_L1 NN (x1, x2, x3, [], ())).bind fun (x4, x5, x6, x7, x8, _) =>
some (x8, x6, x7, ())
noncomputable def h_Deck_Canons : X.Cfg := ⟨E0, [c_Deck_Next, c_Deck_Canon], [], [⟨9, 0, ⟨[], [], [], ([], [])⟩, [(.normal, ⟨[(0, .ptr ⟨2, 0, []⟩ [0]), (5, .pk ⟨13, 0, []⟩ [0, 0]), (6, shU I64), (7, .ptr ⟨16, 0, []⟩ [0])], [(2, [shU (.row false I64), shU I64]), (13, [shU (.row true (.pair (.int .u8) (.pair (.int .u16) (.pair I64 I64))))]), (16, [shU (.int .u8), shU (.int .u16), shU I64, shU I64])], [], ([], [])⟩)]⟩, ⟨4, 1, ⟨[(0, .ptr ⟨2, 0, []⟩ [0]), (5, .pk ⟨13, 0, []⟩ [0, 0]), (6, shU I64)], [(2, [shU (.row false I64), shU I64]), (13, [shU (.row true (.pair (.int .u8) (.pair (.int .u16) (.pair I64 I64))))])], [], ([], [])⟩, [(.exit 0, ⟨[(0, .ptr ⟨2, 0, []⟩ [0]), (5, .pk ⟨13, 0, []⟩ [0, 0]), (6, shU I64), (13, shU .bool)], [(2, [shU (.row false I64), shU I64]), (13, [shU (.row true (.pair (.int .u8) (.pair (.int .u16) (.pair I64 I64))))])], [], ([], [])⟩)]⟩]⟩
def c_Deck_Canons : Ctr := ⟨16, 7, [.ptr ⟨2, 0, []⟩ [0], shU I64], [(2, [shU (.row false I64), shU I64])], [⟨[shU (.row true (.pair (.int .u8) (.pair (.int .u16) (.pair I64 I64))))], [.one], [(2, [shU (.row false I64), shU I64])]⟩], fun h => t_Deck_Canons h.1 h.2.1 h.2.2.1⟩
set_option maxRecDepth 100000 in
theorem k_Deck_Canons : Lvl E0 TT noB 6 c_Deck_Canons := lvl_step (n := 5) (C := h_Deck_Canons) rfl (.intro (k_Deck_Next.mono (by decide)) (.intro (k_Deck_Canon.mono (by decide)) (.intro))) (some_of (by kernel_rfl)) (fun h => by kernel_rfl)
/-! (*redundancy/redundancymake.Deck).Request -/
def t_Deck_Request_L2 : (List (Int)) × Int × Int × (List (Int)) × Int × Int × Int × Int × Int × Int × Int × Unit × Unit × Int × Int × Int × Int × Int × Int × (List (Int × Int × Int × Int)) × Unit × Unit → Option (((List (Int)) × Int × Int × (List (Int)) × Int × Int × Int × Int × Int × Int × Int × Unit × Unit × Int × Int × Int × Int × Int × Int × (List (Int × Int × Int × Int)) × Unit × Unit) ⊕ ((List (Int)) × Int × Int × Bool × (List (Int)) × Int × Int × Int × Int × Int × Int × Int × Unit × Unit × Int × Int × Int × Int × Int × Int × (List (Int × Int × Int × Int)) × Unit × Unit)) := fun (v0, v1, v2, v3, v4, v5, v6, v7, v8, v9, v10, v11, v12, v13, v14, v15, v16, v17, v18, v19, v20, _) =>
bif (decide (v2 < v1)) then (((nat? v2).bind fun x0 =>
(get? v0 x0).bind fun x1 =>
bif (x1 == 78) then ((t_Deck_Next 5 v3 v4).bind fun (x2, x3, x4, _) =>
let x5 : Int := (wk .u16 x2);
let x6 : List (Int × Int × Int × Int) := [(0, (x5, (0, 0)))];
bif (appOk? 24 (List.length v19) (List.length x6)) then let x7 : List (Int × Int × Int × Int) := (List.append v19 x6);
some (v0, v1, v2, x3, x4, v5, v6, v7, v8, v9, v10, v11, v12, v13, v14, v15, v16, v17, v18, x7, v20, ()) else none) else
bif (x1 == 72) then ((t_Deck_Next 4 v3 v4).bind fun (x2, x3, x4, _) =>
let x5 : Int := (wk .u16 x2);
let x6 : List (Int × Int × Int × Int) := [(2, (x5, (0, 0)))];
bif (appOk? 24 (List.length v19) (List.length x6)) then let x7 : List (Int × Int × Int × Int) := (List.append v19 x6);
some (v0, v1, v2, x3, x4, v5, v6, v7, v8, v9, v10, v11, v12, v13, v14, v15, v16, v17, v18, x7, v20, ()) else none) else
bif (x1 == 80) then ((t_Deck_Next 2 v3 v4).bind fun (x2, x3, x4, _) =>
(t_Deck_Next 4 x3 x4).bind fun (x5, x6, x7, _) =>
let x8 : List (Int × Int × Int × Int) := [(1, (0, (x2, x5)))];
bif (appOk? 24 (List.length v19) (List.length x8)) then let x9 : List (Int × Int × Int × Int) := (List.append v19 x8);
some (v0, v1, v2, x6, x7, v5, v6, v7, v8, v9, v10, v11, v12, v13, v14, v15, v16, v17, v18, x9, v20, ()) else none) else
let x2 : List (Int) := [8, 4];
(t_Deck_Canon x2 v3 v4).bind fun (x3, x4, x5, x6, x7, x8, _) =>
let x9 : List (Int × Int × Int × Int) := [(x3, (x4, (x5, x6)))];
bif (appOk? 24 (List.length v19) (List.length x9)) then let x10 : List (Int × Int × Int × Int) := (List.append v19 x9);
some (v0, v1, v2, x7, x8, v5, v6, v7, v8, v9, v10, v11, v12, v13, v14, v15, v16, v17, v18, x10, v20, ()) else none : Option ((List (Int)) × Int × Int × (List (Int)) × Int × Int × Int × Int × Int × Int × Int × Unit × Unit × Int × Int × Int × Int × Int × Int × (List (Int × Int × Int × Int)) × Unit × Unit)).bind fun (x0, x1, x2, x3, x4, x5, x6, x7, x8, x9, x10, x11, x12, x13, x14, x15, x16, x17, x18, x19, x20, _) =>
let x21 : Int := (w64 (x2 + 1));
some (.inl (x0, x1, x21, x3, x4, x5, x6, x7, x8, x9, x10, x11, x12, x13, x14, x15, x16, x17, x18, x19, x20, ()))) else
some (.inr (v0, v1, v2, false, v3, v4, v5, v6, v7, v8, v9, v10, v11, v12, v13, v14, v15, v16, v17, v18, v19, v20, ()))
def t_Deck_Request (a0 : List (Int)) (a1 : Int) : Option (Int × Int × Int × Int × Int × Int × (List (Int × Int × Int × Int)) × (List (Int × Int × Int × Int)) × (List (Int)) × Int × Unit) :=
(t_Deck_Next 4 a0 a1).bind fun (x0, x1, x2, _) =>
let x3 : List (Int) := [1, 1, 1, 0, 2, 3];
(t_Deck_Next 6 x1 x2).bind fun (x4, x5, x6, _) =>
(nat? x4).bind fun x7 =>
(get? x3 x7).bind fun x8 =>
(get? x3 x7).bind fun x9 =>
(t_Deck_Next 50 x5 x6).bind fun (x10, x11, x12, _) =>
(t_Deck_Next 64 x11 x12).bind fun (x13, x14, x15, _) =>
(bif (x9 == 2) then ((t_Deck_Next 6 x14 x15).bind fun (x16, x17, x18, _) =>
let x19 : Int := (w64 (1 + x16));
some (x17, x18, 0, 0, 0, 0, 0, 0, (), (), x0, x9, x19, x10, x13, 0, (), (), ())) else
some (x14, x15, 0, 0, 0, 0, 0, 0, (), (), x0, x9, 0, x10, x13, 0, (), (), ()) : Option ((List (Int)) × Int × Int × Int × Int × Int × Int × Int × Unit × Unit × Int × Int × Int × Int × Int × Int × Unit × Unit × Unit)).bind fun (x16, x17, x18, x19, x20, x21, x22, x23, x24, x25, x26, x27, x28, x29, x30, x31, x32, x33, _) =>
bif (x27 != 1) then (some (x26, x27, x28, x29, x30, x31, [], [], x16, x17, ())) else
(t_Deck_Next 16 x16 x17).bind fun (x34, x35, x36, _) =>
let x37 : List (ByteArray) := [(bytes [78]), (bytes [72, 80, 78]), (bytes [72, 80, 78]), (bytes [78, 78]), (bytes [72]), (bytes [72, 78]), (bytes []), (bytes []), (bytes [78]), (bytes [78]), (bytes [78, 88]), (bytes [78]), (bytes [78]), (bytes [78, 80, 78]), (bytes [78, 80, 78]), (bytes [])];
(nat? x34).bind fun x38 =>
(get? x37 x38).bind fun x39 =>
(get? x37 x38).bind fun x40 =>
bif (strOk? x40) then let x41 : List (Int) := (strB? x40);
let x42 : Int := (natI? (List.length x41));
(loopN t_Deck_Request_L2 NN (x41, x42, 0, x35, x36, x18, x19, x20, x21, x22, x23, x24, x25, x26, x27, x28, x29, x30, x34, [], x33, ())).bind fun (x43, x44, x45, x46, x47, x48, x49, x50, x51, x52, x53, x54, x55, x56, x57, x58, x59, x60, x61, x62, x63, x64, _) =>
(bif (x62 == 1) then ((t_Deck_Canons 6 x47 x48).bind fun (x65, x66, x67, _) =>
some (x66, x67, x49, x50, x51, x52, x53, x54, x55, x56, x57, x58, x59, x60, x61, x62, x63, x65, ())) else
bif (x62 == 13) then ((t_Deck_Canons 6 x47 x48).bind fun (x65, x66, x67, _) =>
some (x66, x67, x49, x50, x51, x52, x53, x54, x55, x56, x57, x58, x59, x60, x61, x62, x63, x65, ())) else
some (x47, x48, x49, x50, x51, x52, x53, x54, x55, x56, x57, x58, x59, x60, x61, x62, x63, [], ()) : Option ((List (Int)) × Int × Int × Int × Int × Int × Int × Int × Unit × Unit × Int × Int × Int × Int × Int × Int × (List (Int × Int × Int × Int)) × (List (Int × Int × Int × Int)) × Unit)).bind fun (x65, x66, x67, x68, x69, x70, x71, x72, x73, x74, x75, x76, x77, x78, x79, x80, x81, x82, _) =>
((t_Deck_Next 10 x65 x66).bind fun (x83, x84, x85, _) =>
bif (x83 == 0) then ((t_Deck_Canons 3 x84 x85).bind fun (x86, x87, x88, _) =>
some (x87, x88, x67, x68, x69, x70, x71, x72, x73, x74, x75, x76, x77, x78, x79, x80, x86, x82, ())) else
some (x84, x85, x67, x68, x69, x70, x71, x72, x73, x74, x75, x76, x77, x78, x79, x80, x81, x82, ()) : Option ((List (Int)) × Int × Int × Int × Int × Int × Int × Int × Unit × Unit × Int × Int × Int × Int × Int × Int × (List (Int × Int × Int × Int)) × (List (Int × Int × Int × Int)) × Unit)).bind fun (x83, x84, x85, x86, x87, x88, x89, x90, x91, x92, x93, x94, x95, x96, x97, x98, x99, x100, _) =>
some (x93, x94, x95, x96, x97, x98, x99, x100, x83, x84, ()) else none
noncomputable def h_Deck_Request : X.Cfg := ⟨E0, [c_Deck_Next, c_Deck_Canon, c_Deck_Canons], [], [⟨2, 0, ⟨[], [], [], ([], [])⟩, [(.normal, ⟨[(0, .ptr ⟨2, 0, []⟩ [0]), (2, .ptr ⟨6, 0, []⟩ [0]), (3, .ptr ⟨8, 0, []⟩ [0])], [(2, [shU (.row false I64), shU I64]), (6, [shU I64, shU I64, shU I64, shU I64, shU I64, shU I64, shU (.nilr true), shU (.nilr true)]), (8, [shU I64, shU I64, shU I64, shU I64, shU I64, shU I64, shU (.nilr true), shU (.nilr true)])], [], ([], [])⟩)]⟩, ⟨14, 1, ⟨[], [], [], ([], [])⟩, [(.normal, ⟨[(0, .ptr ⟨2, 0, []⟩ [0]), (2, .ptr ⟨6, 0, []⟩ [0]), (3, .ptr ⟨8, 0, []⟩ [0]), (39, shU (.row false (.int .u8))), (40, shU I64), (41, shU I64)], [(2, [shU (.row false I64), shU I64]), (6, [shU I64, shU I64, shU I64, shU I64, shU I64, shU I64, shU (.nilr true), shU (.nilr true)]), (8, [shU I64, shU I64, shU I64, shU I64, shU I64, shU I64, shU (.row true (.pair (.int .u8) (.pair (.int .u16) (.pair I64 I64)))), shU (.nilr true)])], [], ([], [])⟩)]⟩, ⟨11, 2, ⟨[(0, .ptr ⟨2, 0, []⟩ [0]), (2, .ptr ⟨6, 0, []⟩ [0]), (3, .ptr ⟨8, 0, []⟩ [0]), (39, shU (.row false (.int .u8))), (40, shU I64), (41, shU I64)], [(2, [shU (.row false I64), shU I64]), (6, [shU I64, shU I64, shU I64, shU I64, shU I64, shU I64, shU (.nilr true), shU (.nilr true)]), (8, [shU I64, shU I64, shU I64, shU I64, shU I64, shU I64, shU (.row true (.pair (.int .u8) (.pair (.int .u16) (.pair I64 I64)))), shU (.nilr true)])], [], ([], [])⟩, [(.exit 0, ⟨[(0, .ptr ⟨2, 0, []⟩ [0]), (2, .ptr ⟨6, 0, []⟩ [0]), (3, .ptr ⟨8, 0, []⟩ [0]), (39, shU (.row false (.int .u8))), (40, shU I64), (41, shU I64), (42, shU .bool)], [(2, [shU (.row false I64), shU I64]), (6, [shU I64, shU I64, shU I64, shU I64, shU I64, shU I64, shU (.nilr true), shU (.nilr true)]), (8, [shU I64, shU I64, shU I64, shU I64, shU I64, shU I64, shU (.row true (.pair (.int .u8) (.pair (.int .u16) (.pair I64 I64)))), shU (.nilr true)])], [], ([], [])⟩)]⟩, ⟨20, 3, ⟨[], [], [], ([], [])⟩, [(.normal, ⟨[(0, .ptr ⟨2, 0, []⟩ [0]), (2, .ptr ⟨6, 0, []⟩ [0]), (3, .ptr ⟨8, 0, []⟩ [0])], [(2, [shU (.row false I64), shU I64]), (6, [shU I64, shU I64, shU I64, shU I64, shU I64, shU I64, shU (.nilr true), shU (.nilr true)]), (8, [shU I64, shU I64, shU I64, shU I64, shU I64, shU I64, shU (.row true (.pair (.int .u8) (.pair (.int .u16) (.pair I64 I64)))), shU (.row true (.pair (.int .u8) (.pair (.int .u16) (.pair I64 I64))))])], [], ([], [])⟩)]⟩, ⟨22, 4, ⟨[], [], [], ([], [])⟩, [(.normal, ⟨[(0, .ptr ⟨2, 0, []⟩ [0]), (2, .ptr ⟨6, 0, []⟩ [0]), (3, .ptr ⟨8, 0, []⟩ [0])], [(2, [shU (.row false I64), shU I64]), (6, [shU I64, shU I64, shU I64, shU I64, shU I64, shU I64, shU (.nilr true), shU (.nilr true)]), (8, [shU I64, shU I64, shU I64, shU I64, shU I64, shU I64, shU (.row true (.pair (.int .u8) (.pair (.int .u16) (.pair I64 I64)))), shU (.row true (.pair (.int .u8) (.pair (.int .u16) (.pair I64 I64))))])], [], ([], [])⟩)]⟩]⟩
def c_Deck_Request : Ctr := ⟨7, 8, [.ptr ⟨2, 0, []⟩ [0]], [(2, [shU (.row false I64), shU I64])], [⟨[shU I64, shU I64, shU I64, shU I64, shU I64, shU I64, shU (.row true (.pair (.int .u8) (.pair (.int .u16) (.pair I64 I64)))), shU (.row true (.pair (.int .u8) (.pair (.int .u16) (.pair I64 I64))))], [.agg 8], [(2, [shU (.row false I64), shU I64])]⟩], fun h => t_Deck_Request h.1 h.2.1⟩
set_option maxRecDepth 100000 in
theorem k_Deck_Request : Lvl E0 TT noB 7 c_Deck_Request := lvl_step (n := 6) (C := h_Deck_Request) rfl (.intro (k_Deck_Next.mono (by decide)) (.intro (k_Deck_Canon.mono (by decide)) (.intro (k_Deck_Canons.mono (by decide)) (.intro)))) (some_of (by kernel_rfl)) (fun h => by kernel_rfl)
/-! redundancy/request.Valid$1 -/
def t_request_Valid_1 (a0 : Int) (a1 : Int) (a2 : Int) : Option (Bool × Unit) :=
bif (decide (a0 ≥ a1)) then (some ((decide (a0 ≤ a2)), ())) else
some (false, ())
noncomputable def h_request_Valid_1 : X.Cfg := ⟨E0, [], [], []⟩
def c_request_Valid_1 : Ctr := ⟨32, 9, [shU I64, shU I64, shU I64], [], [⟨[shU .bool], [.one], []⟩], fun h => t_request_Valid_1 h.1 h.2.1 h.2.2.1⟩
set_option maxRecDepth 100000 in
theorem k_request_Valid_1 : Lvl E0 TT noB 1 c_request_Valid_1 := lvl_step (n := 0) (C := h_request_Valid_1) rfl (.intro) (some_of (by kernel_rfl)) (fun h => by kernel_rfl)
/-! redundancy/request.Cell -/
def t_request_Cell (a0 : Int) (a1 : Int) (a2 : Int) (a3 : Int) : Option (Bool × Unit) :=
bif (a0 == 0) then (bif (a2 == 0) then (some ((a3 == 0), ())) else
some (false, ())) else
bif (a0 == 2) then (bif (a2 == 0) then (some ((a3 == 0), ())) else
some (false, ())) else
bif (a0 == 1) then ((bif (a2 == (-1)) then (bif (decide (a3 ≥ 0)) then (some ((decide (a3 ≤ 65535)), a0, a1, a2, a3, ())) else
some (false, a0, a1, a2, a3, ())) else
some (false, a0, a1, a2, a3, ()) : Option (Bool × Int × Int × Int × Int × Unit)).bind fun (x0, x1, x2, x3, x4, _) =>
bif (x2 == 0) then (bif x0 then (some (true, ())) else
bif (decide (x3 ≥ 0)) then (bif (decide (x3 < 4)) then (bif (decide (x4 ≥ 0)) then (some ((decide (x4 < 32)), ())) else
some (false, ())) else
some (false, ())) else
some (false, ())) else
some (false, ())) else
some (false, ())
noncomputable def h_request_Cell : X.Cfg := ⟨E0, [], [], [⟨7, 0, ⟨[], [], [], ([], [])⟩, [(.normal, ⟨[(1, .ptr ⟨4, 0, []⟩ [0]), (3, shU .bool)], [(4, [shU (.int .u8), shU (.int .u16), shU I64, shU I64])], [], ([], [])⟩)]⟩]⟩
def c_request_Cell : Ctr := ⟨42, 10, [.agg [shU (.int .u8), shU (.int .u16), shU I64, shU I64]], [], [⟨[shU .bool], [.one], []⟩], fun h => t_request_Cell h.1 h.2.1 h.2.2.1 h.2.2.2.1⟩
set_option maxRecDepth 100000 in
theorem k_request_Cell : Lvl E0 TT noB 1 c_request_Cell := lvl_step (n := 0) (C := h_request_Cell) rfl (.intro) (some_of (by kernel_rfl)) (fun h => by kernel_rfl)
/-! redundancy/request.Cells$1 -/
def t_request_Cells_1 (a0 : Int) (a1 : Int) (a2 : Int) (a3 : Int) : Option (Bool × Unit) :=
(t_request_Cell a0 a1 a2 a3).bind fun (x0, _) =>
some ((!x0), ())
noncomputable def h_request_Cells_1 : X.Cfg := ⟨E0, [c_request_Cell], [], []⟩
def c_request_Cells_1 : Ctr := ⟨41, 11, [.agg [shU (.int .u8), shU (.int .u16), shU I64, shU I64]], [], [⟨[shU .bool], [.one], []⟩], fun h => t_request_Cells_1 h.1 h.2.1 h.2.2.1 h.2.2.2.1⟩
set_option maxRecDepth 100000 in
theorem k_request_Cells_1 : Lvl E0 TT noB 2 c_request_Cells_1 := lvl_step (n := 1) (C := h_request_Cells_1) rfl (.intro (k_request_Cell.mono (by decide)) (.intro)) (some_of (by kernel_rfl)) (fun h => by kernel_rfl)
/-! slices.IndexFunc[[]redundancy/api.Canon,redundancy/api.Canon] -/
def t_slices_IndexFunc_Canon_L0 : (List (Int × Int × Int × Int)) × Int × Int × Unit → Option (((List (Int × Int × Int × Int)) × Int × Int × Unit) ⊕ ((Int × Unit) ⊕ ((List (Int × Int × Int × Int)) × Int × Int × Bool × Unit))) := fun (v0, v1, v2, _) =>
bif (decide (v2 < v1)) then ((nat? v2).bind fun x0 =>
(get? v0 x0).bind fun x1 =>
(t_request_Cells_1 x1.1 x1.2.1 x1.2.2.1 x1.2.2.2).bind fun (x2, _) =>
bif x2 then (some (.inr (.inl (v2, ())))) else
let x3 : Int := (w64 (v2 + 1));
some (.inl (v0, v1, x3, ()))) else
some (.inr (.inr (v0, v1, v2, false, ())))
def t_slices_IndexFunc_Canon (a0 : List (Int × Int × Int × Int)) : Option (Int × Unit) :=
let x0 : Int := (natI? (List.length a0));
(match loopN t_slices_IndexFunc_Canon_L0 NN (a0, x0, 0, ()) with
| none => none
| some (.inl (x1, _)) =>
some (x1, ())
| some (.inr (x1, x2, x3, x4, _)) =>
some ((-1), ()))
noncomputable def h_slices_IndexFunc_Canon : X.Cfg := ⟨E0, [c_request_Cells_1], [], [⟨3, 0, ⟨[(0, shU (.row false (.pair (.int .u8) (.pair (.int .u16) (.pair I64 I64))))), (1, .fn 41 []), (7, shU I64), (8, shU I64)], [], [], ([], [])⟩, [(.ret, ⟨[(4, shU I64)], [], [], ([], [])⟩), (.exit 0, ⟨[(0, shU (.row false (.pair (.int .u8) (.pair (.int .u16) (.pair I64 I64))))), (1, .fn 41 []), (7, shU I64), (8, shU I64), (9, shU .bool)], [], [], ([], [])⟩)]⟩]⟩
def c_slices_IndexFunc_Canon : Ctr := ⟨44, 12, [shU (.row false (.pair (.int .u8) (.pair (.int .u16) (.pair I64 I64)))), .fn 41 []], [], [⟨[shU I64], [.one], []⟩], fun h => t_slices_IndexFunc_Canon h.1⟩
set_option maxRecDepth 100000 in
theorem k_slices_IndexFunc_Canon : Lvl E0 TT noB 3 c_slices_IndexFunc_Canon := lvl_step (n := 2) (C := h_slices_IndexFunc_Canon) rfl (.intro (k_request_Cells_1.mono (by decide)) (.intro)) (some_of (by kernel_rfl)) (fun h => by kernel_rfl)
/-! slices.ContainsFunc[[]redundancy/api.Canon,redundancy/api.Canon] -/
def t_slices_ContainsFunc_Canon (a0 : List (Int × Int × Int × Int)) : Option (Bool × Unit) :=
(t_slices_IndexFunc_Canon a0).bind fun (x0, _) =>
some ((decide (x0 ≥ 0)), ())
noncomputable def h_slices_ContainsFunc_Canon : X.Cfg := ⟨E0, [c_slices_IndexFunc_Canon], [], []⟩
def c_slices_ContainsFunc_Canon : Ctr := ⟨40, 13, [shU (.row false (.pair (.int .u8) (.pair (.int .u16) (.pair I64 I64)))), .fn 41 []], [], [⟨[shU .bool], [.one], []⟩], fun h => t_slices_ContainsFunc_Canon h.1⟩
set_option maxRecDepth 100000 in
theorem k_slices_ContainsFunc_Canon : Lvl E0 TT noB 4 c_slices_ContainsFunc_Canon := lvl_step (n := 3) (C := h_slices_ContainsFunc_Canon) rfl (.intro (k_slices_IndexFunc_Canon.mono (by decide)) (.intro)) (some_of (by kernel_rfl)) (fun h => by kernel_rfl)
/-! redundancy/request.Cells -/
def t_request_Cells (a0 : List (Int × Int × Int × Int)) (a1 : Int) : Option (Bool × Unit) :=
let x0 : Int := (natI? (List.length a0));
bif (decide (x0 ≤ a1)) then ((t_slices_ContainsFunc_Canon a0).bind fun (x1, _) =>
some ((!x1), ())) else
some (false, ())
noncomputable def h_request_Cells : X.Cfg := ⟨E0, [c_slices_ContainsFunc_Canon], [], []⟩
def c_request_Cells : Ctr := ⟨33, 14, [shU (.row false (.pair (.int .u8) (.pair (.int .u16) (.pair I64 I64)))), shU I64], [], [⟨[shU .bool], [.one], []⟩], fun h => t_request_Cells h.1 h.2.1⟩
set_option maxRecDepth 100000 in
theorem k_request_Cells : Lvl E0 TT noB 5 c_request_Cells := lvl_step (n := 4) (C := h_request_Cells) rfl (.intro (k_slices_ContainsFunc_Canon.mono (by decide)) (.intro)) (some_of (by kernel_rfl)) (fun h => by kernel_rfl)
/-! redundancy/request.Valid -/
def t_request_Valid (a0 : Int) (a1 : Int) (a2 : Int) (a3 : Int) (a4 : Int) (a5 : Int) (a6 : List (Int × Int × Int × Int)) (a7 : List (Int × Int × Int × Int)) : Option (Bool × Unit) :=
(t_request_Valid_1 a0 0 3).bind fun (x0, _) =>
bif x0 then ((t_request_Valid_1 a1 0 3).bind fun (x1, _) =>
bif x1 then ((t_request_Valid_1 a2 0 6).bind fun (x2, _) =>
bif x2 then ((t_request_Valid_1 a3 0 1099511627776).bind fun (x3, _) =>
bif x3 then ((t_request_Valid_1 a4 0 255).bind fun (x4, _) =>
bif x4 then ((t_request_Valid_1 a5 0 15).bind fun (x5, _) =>
bif x5 then ((t_request_Cells a6 3).bind fun (x6, _) =>
bif x6 then ((t_request_Cells a7 16).bind fun (x7, _) =>
some (x7, ())) else
some (false, ())) else
some (false, ())) else
some (false, ())) else
some (false, ())) else
some (false, ())) else
some (false, ())) else
some (false, ())
noncomputable def h_request_Valid : X.Cfg := ⟨E0, [c_request_Valid_1, c_request_Cells], [], []⟩
def c_request_Valid : Ctr := ⟨17, 15, [.agg [shU I64, shU I64, shU I64, shU I64, shU I64, shU I64, shU (.row false (.pair (.int .u8) (.pair (.int .u16) (.pair I64 I64)))), shU (.row false (.pair (.int .u8) (.pair (.int .u16) (.pair I64 I64))))]], [], [⟨[shU .bool], [.one], []⟩], fun h => t_request_Valid h.1 h.2.1 h.2.2.1 h.2.2.2.1 h.2.2.2.2.1 h.2.2.2.2.2.1 h.2.2.2.2.2.2.1 h.2.2.2.2.2.2.2.1⟩
set_option maxRecDepth 100000 in
theorem k_request_Valid : Lvl E0 TT noB 6 c_request_Valid := lvl_step (n := 5) (C := h_request_Valid) rfl (.intro (k_request_Valid_1.mono (by decide)) (.intro (k_request_Cells.mono (by decide)) (.intro))) (some_of (by kernel_rfl)) (fun h => by kernel_rfl)
/-! redundancy/codes.Put -/
def t_codes_Put_L0 : Int × Int × (List (Int)) × Unit → Option ((Int × Int × (List (Int)) × Unit) ⊕ (Int × Int × Bool × (List (Int)) × Unit)) := fun (v0, v1, v2, _) =>
bif (decide (v0 ≥ 0)) then (let x0 : Int := (w64 (8 * v0));
(nat? x0).bind fun x1 =>
let x2 : Int := (shR .shr .i64 v1 x1);
let x3 : Int := (wk .u8 x2);
bif (appOk? 1 (List.length v2) (List.length [x3])) then let x4 : List (Int) := (List.append v2 [x3]);
let x5 : Int := (w64 (v0 - 1));
some (.inl (x5, v1, x4, ())) else none) else
some (.inr (v0, v1, false, v2, ()))
def t_codes_Put (a0 : Int) (a1 : Int) (a2 : List (Int)) : Option ((List (Int)) × Unit) :=
let x0 : Int := (w64 (a0 - 1));
(loopN t_codes_Put_L0 NN (x0, a1, a2, ())).bind fun (x1, x2, x3, x4, _) =>
some (x4, ())
noncomputable def h_codes_Put : X.Cfg := ⟨E0, [], [], [⟨3, 0, ⟨[(0, .pk ⟨3, 0, []⟩ [0, 0]), (1, shU I64), (2, shU I64)], [(3, [shU (.row true (.int .u8))])], [], ([], [])⟩, [(.exit 0, ⟨[(0, .pk ⟨3, 0, []⟩ [0, 0]), (1, shU I64), (2, shU I64), (10, shU .bool)], [(3, [shU (.row true (.int .u8))])], [], ([], [])⟩)]⟩]⟩
def c_codes_Put : Ctr := ⟨18, 16, [.pk ⟨3, 0, []⟩ [0, 0], shU I64, shU I64], [(3, [shU (.row true (.int .u8))])], [⟨[shU (.row true (.int .u8))], [.one], [(3, [])]⟩], fun h => t_codes_Put h.1 h.2.1 h.2.2.1⟩
set_option maxRecDepth 100000 in
theorem k_codes_Put : Lvl E0 TT noB 1 c_codes_Put := lvl_step (n := 0) (C := h_codes_Put) rfl (.intro) (some_of (by kernel_rfl)) (fun h => by kernel_rfl)
/-! redundancy/codes.Cell -/
def t_codes_Cell (a0 : Int) (a1 : Int) (a2 : Int) (a3 : Int) (a4 : List (Int)) : Option ((List (Int)) × Unit) :=
bif (a0 == 1) then (let x0 : Int := (w64 (a2 + 1));
let x1 : Int := (wk .u8 x0);
let x2 : List (Int) := [a0, x1];
bif (appOk? 1 (List.length a4) (List.length x2)) then let x3 : List (Int) := (List.append a4 x2);
(t_codes_Put 2 a3 x3).bind fun (x4, _) =>
some (x4, ()) else none) else
let x0 : List (Int) := [a0, 0];
bif (appOk? 1 (List.length a4) (List.length x0)) then let x1 : List (Int) := (List.append a4 x0);
let x2 : Int := (wk .i64 a1);
(t_codes_Put 2 x2 x1).bind fun (x3, _) =>
some (x3, ()) else none
noncomputable def h_codes_Cell : X.Cfg := ⟨E0, [c_codes_Put], [], []⟩
def c_codes_Cell : Ctr := ⟨34, 17, [.pk ⟨3, 0, []⟩ [0, 0], .agg [shU (.int .u8), shU (.int .u16), shU I64, shU I64]], [(3, [shU (.row true (.int .u8))])], [⟨[shU (.row true (.int .u8))], [.one], [(3, [])]⟩], fun h => t_codes_Cell h.1 h.2.1 h.2.2.1 h.2.2.2.1 h.2.2.2.2.1⟩
set_option maxRecDepth 100000 in
theorem k_codes_Cell : Lvl E0 TT noB 2 c_codes_Cell := lvl_step (n := 1) (C := h_codes_Cell) rfl (.intro (k_codes_Put.mono (by decide)) (.intro)) (some_of (by kernel_rfl)) (fun h => by kernel_rfl)
/-! redundancy/codes.List -/
def t_codes_List_L0 : (List (Int × Int × Int × Int)) × Int × Int × (List (Int)) × Unit → Option (((List (Int × Int × Int × Int)) × Int × Int × (List (Int)) × Unit) ⊕ ((List (Int × Int × Int × Int)) × Int × Int × Bool × (List (Int)) × Unit)) := fun (v0, v1, v2, v3, _) =>
bif (decide (v2 < v1)) then ((nat? v2).bind fun x0 =>
(get? v0 x0).bind fun x1 =>
(t_codes_Cell x1.1 x1.2.1 x1.2.2.1 x1.2.2.2 v3).bind fun (x2, _) =>
let x3 : Int := (w64 (v2 + 1));
some (.inl (v0, v1, x3, x2, ()))) else
some (.inr (v0, v1, v2, false, v3, ()))
def t_codes_List (a0 : List (Int × Int × Int × Int)) (a1 : List (Int)) : Option ((List (Int)) × Unit) :=
let x0 : Int := (natI? (List.length a0));
let x1 : Int := (wk .u8 x0);
bif (appOk? 1 (List.length a1) (List.length [x1])) then let x2 : List (Int) := (List.append a1 [x1]);
let x3 : Int := (natI? (List.length a0));
(loopN t_codes_List_L0 NN (a0, x3, 0, x2, ())).bind fun (x4, x5, x6, x7, x8, _) =>
some (x8, ()) else none
noncomputable def h_codes_List : X.Cfg := ⟨E0, [c_codes_Cell], [], [⟨4, 0, ⟨[(0, .pk ⟨3, 0, []⟩ [0, 0]), (13, shU (.row false (.pair (.int .u8) (.pair (.int .u16) (.pair I64 I64))))), (14, shU I64), (15, shU I64)], [(3, [shU (.row true (.int .u8))])], [], ([], [])⟩, [(.exit 0, ⟨[(0, .pk ⟨3, 0, []⟩ [0, 0]), (13, shU (.row false (.pair (.int .u8) (.pair (.int .u16) (.pair I64 I64))))), (14, shU I64), (15, shU I64), (16, shU .bool)], [(3, [shU (.row true (.int .u8))])], [], ([], [])⟩)]⟩]⟩
def c_codes_List : Ctr := ⟨19, 18, [.pk ⟨3, 0, []⟩ [0, 0], shU (.row false (.pair (.int .u8) (.pair (.int .u16) (.pair I64 I64))))], [(3, [shU (.row true (.int .u8))])], [⟨[shU (.row true (.int .u8))], [.one], [(3, [])]⟩], fun h => t_codes_List h.1 h.2.1⟩
set_option maxRecDepth 100000 in
theorem k_codes_List : Lvl E0 TT noB 3 c_codes_List := lvl_step (n := 2) (C := h_codes_List) rfl (.intro (k_codes_Cell.mono (by decide)) (.intro)) (some_of (by kernel_rfl)) (fun h => by kernel_rfl)
/-! redundancy/canonical.Bytes -/
def t_canonical_Bytes (a0 : Int) (a1 : Int) (a2 : Int) (a3 : Int) (a4 : Int) (a5 : Int) (a6 : List (Int × Int × Int × Int)) (a7 : List (Int × Int × Int × Int)) : Option ((List (Int)) × Int × Unit) :=
(t_request_Valid a0 a1 a2 a3 a4 a5 a6 a7).bind fun (x0, _) =>
bif (!x0) then (some ([], 1, ())) else
let x1 : Int := (wk .u8 a0);
let x2 : Int := (wk .u8 a1);
let x3 : Int := (wk .u8 a2);
let x4 : List (Int) := [x1, x2, x3];
(t_codes_Put 6 a3 x4).bind fun (x5, _) =>
let x6 : Int := (wk .u8 a4);
let x7 : Int := (wk .u8 a5);
let x8 : List (Int) := [x6, x7];
bif (appOk? 1 (List.length x5) (List.length x8)) then let x9 : List (Int) := (List.append x5 x8);
(t_codes_List a6 x9).bind fun (x10, _) =>
(t_codes_List a7 x10).bind fun (x11, _) =>
some (x11, 0, ()) else none
noncomputable def h_canonical_Bytes : X.Cfg := ⟨E0, [c_request_Valid, c_codes_Put, c_codes_List], [], []⟩
def c_canonical_Bytes : Ctr := ⟨8, 19, [.agg [shU I64, shU I64, shU I64, shU I64, shU I64, shU I64, shU (.row false (.pair (.int .u8) (.pair (.int .u16) (.pair I64 I64)))), shU (.row false (.pair (.int .u8) (.pair (.int .u16) (.pair I64 I64))))]], [], [⟨[shU (.row true (.int .u8)), shU I64], [.one, .one], []⟩], fun h => t_canonical_Bytes h.1 h.2.1 h.2.2.1 h.2.2.2.1 h.2.2.2.2.1 h.2.2.2.2.2.1 h.2.2.2.2.2.2.1 h.2.2.2.2.2.2.2.1⟩
set_option maxRecDepth 100000 in
theorem k_canonical_Bytes : Lvl E0 TT noB 7 c_canonical_Bytes := lvl_step (n := 6) (C := h_canonical_Bytes) rfl (.intro (k_request_Valid.mono (by decide)) (.intro (k_codes_Put.mono (by decide)) (.intro (k_codes_List.mono (by decide)) (.intro)))) (some_of (by kernel_rfl)) (fun h => by kernel_rfl)
/-! (*redundancy/codes.Reader).Part -/
def t___codes_Reader__Part (a0 : Int) (a1 : List (Int)) (a2 : Bool) : Option ((List (Int)) × (List (Int)) × Bool × Unit) :=
bif a2 then (some ([], a1, true, ())) else
let x0 : Int := (natI? (List.length a1));
bif (decide (a0 > x0)) then (some ([], a1, true, ())) else
(nat? a0).bind fun x1 =>
bif (slOk? 0 x1 (List.length a1)) then let x2 : List (Int) := (win? a1 0 (Nat.sub x1 0));
(nat? a0).bind fun x3 =>
bif (slOk? x3 (List.length a1) (List.length a1)) then let x4 : List (Int) := (win? a1 x3 (Nat.sub (List.length a1) x3));
some (x2, x4, a2, ()) else none else none
noncomputable def h___codes_Reader__Part : X.Cfg := ⟨E0, [], [], []⟩
def c___codes_Reader__Part : Ctr := ⟨36, 20, [.ptr ⟨2, 0, []⟩ [0], shU I64], [(2, [shU (.row false (.int .u8)), shU .bool])], [⟨[shU (.row false (.int .u8))], [.one], [(2, [shU (.row false (.int .u8)), shU .bool])]⟩], fun h => t___codes_Reader__Part h.1 h.2.1 h.2.2.1⟩
set_option maxRecDepth 100000 in
theorem k___codes_Reader__Part : Lvl E0 TT noB 1 c___codes_Reader__Part := lvl_step (n := 0) (C := h___codes_Reader__Part) rfl (.intro) (some_of (by kernel_rfl)) (fun h => by kernel_rfl)
/-! (*redundancy/codes.Reader).Number -/
def t___codes_Reader__Number_L0 : Int × (List (Int)) × Int × Int × (List (Int)) × Bool × Unit → Option ((Int × (List (Int)) × Int × Int × (List (Int)) × Bool × Unit) ⊕ (Int × (List (Int)) × Int × Int × Bool × (List (Int)) × Bool × Unit)) := fun (v0, v1, v2, v3, v4, v5, _) =>
bif (decide (v3 < v2)) then ((nat? v3).bind fun x0 =>
(get? v1 x0).bind fun x1 =>
let x2 : Int := (shR .shl .i64 v0 8);
let x3 : Int := (wk .i64 x1);
let x4 : Int := (arR .or .i64 x2 x3);
let x5 : Int := (w64 (v3 + 1));
some (.inl (x4, v1, v2, x5, v4, v5, ()))) else
some (.inr (v0, v1, v2, v3, false, v4, v5, ()))
def t___codes_Reader__Number (a0 : Int) (a1 : List (Int)) (a2 : Bool) : Option (Int × (List (Int)) × Bool × Unit) :=
(t___codes_Reader__Part a0 a1 a2).bind fun (x0, x1, x2, _) =>
let x3 : Int := (natI? (List.length x0));
(loopN t___codes_Reader__Number_L0 NN (0, x0, x3, 0, x1, x2, ())).bind fun (x4, x5, x6, x7, x8, x9, x10, _) =>
some (x4, x9, x10, ())
noncomputable def h___codes_Reader__Number : X.Cfg := ⟨E0, [c___codes_Reader__Part], [], [⟨4, 0, ⟨[(0, .ptr ⟨2, 0, []⟩ [0]), (5, shU I64), (10, shU (.row false (.int .u8))), (11, shU I64), (12, shU I64)], [(2, [shU (.row false (.int .u8)), shU .bool])], [], ([], [])⟩, [(.exit 0, ⟨[(0, .ptr ⟨2, 0, []⟩ [0]), (5, shU I64), (10, shU (.row false (.int .u8))), (11, shU I64), (12, shU I64), (13, shU .bool)], [(2, [shU (.row false (.int .u8)), shU .bool])], [], ([], [])⟩)]⟩]⟩
def c___codes_Reader__Number : Ctr := ⟨24, 21, [.ptr ⟨2, 0, []⟩ [0], shU I64], [(2, [shU (.row false (.int .u8)), shU .bool])], [⟨[shU I64], [.one], [(2, [shU (.row false (.int .u8)), shU .bool])]⟩], fun h => t___codes_Reader__Number h.1 h.2.1 h.2.2.1⟩
set_option maxRecDepth 100000 in
theorem k___codes_Reader__Number : Lvl E0 TT noB 2 c___codes_Reader__Number := lvl_step (n := 1) (C := h___codes_Reader__Number) rfl (.intro (k___codes_Reader__Part.mono (by decide)) (.intro)) (some_of (by kernel_rfl)) (fun h => by kernel_rfl)
/-! (*redundancy/codes.Reader).Cell -/
def t___codes_Reader__Cell (a0 : List (Int)) (a1 : Bool) : Option (Int × Int × Int × Int × (List (Int)) × Bool × Unit) :=
(t___codes_Reader__Number 1 a0 a1).bind fun (x0, x1, x2, _) =>
let x3 : Int := (wk .u8 x0);
(t___codes_Reader__Number 1 x1 x2).bind fun (x4, x5, x6, _) =>
(t___codes_Reader__Number 2 x5 x6).bind fun (x7, x8, x9, _) =>
bif (x3 == 1) then (let x10 : Int := (w64 (x4 - 1));
some (x3, 0, x10, x7, x8, x9, ())) else
let x10 : Int := (wk .u16 x7);
some (x3, x10, x4, 0, x8, x9, ())
noncomputable def h___codes_Reader__Cell : X.Cfg := ⟨E0, [c___codes_Reader__Number], [], []⟩
def c___codes_Reader__Cell : Ctr := ⟨37, 22, [.ptr ⟨2, 0, []⟩ [0]], [(2, [shU (.row false (.int .u8)), shU .bool])], [⟨[shU (.int .u8), shU (.int .u16), shU I64, shU I64], [.agg 4], [(2, [shU (.row false (.int .u8)), shU .bool])]⟩], fun h => t___codes_Reader__Cell h.1 h.2.1⟩
set_option maxRecDepth 100000 in
theorem k___codes_Reader__Cell : Lvl E0 TT noB 3 c___codes_Reader__Cell := lvl_step (n := 2) (C := h___codes_Reader__Cell) rfl (.intro (k___codes_Reader__Number.mono (by decide)) (.intro)) (some_of (by kernel_rfl)) (fun h => by kernel_rfl)
/-! (*redundancy/codes.Reader).List -/
def t___codes_Reader__List_L0 : Int × (List (Int)) × Bool × (List (Int × Int × Int × Int)) × Unit → Option ((Int × (List (Int)) × Bool × (List (Int × Int × Int × Int)) × Unit) ⊕ (Int × Bool × (List (Int)) × Bool × (List (Int × Int × Int × Int)) × Unit)) := fun (v0, v1, v2, v3, _) =>
bif (decide (v0 > 0)) then (bif (!v2) then ((t___codes_Reader__Cell v1 v2).bind fun (x0, x1, x2, x3, x4, x5, _) =>
let x6 : List (Int × Int × Int × Int) := [(x0, (x1, (x2, x3)))];
bif (appOk? 24 (List.length v3) (List.length x6)) then let x7 : List (Int × Int × Int × Int) := (List.append v3 x6);
let x8 : Int := (w64 (v0 - 1));
some (.inl (x8, x4, x5, x7, ())) else none) else
some (.inr (v0, false, v1, v2, v3, ()))) else
some (.inr (v0, false, v1, v2, v3, ()))
def t___codes_Reader__List (a0 : List (Int)) (a1 : Bool) : Option ((List (Int × Int × Int × Int)) × (List (Int)) × Bool × Unit) :=
(t___codes_Reader__Number 1 a0 a1).bind fun (x0, x1, x2, _) =>
(loopN t___codes_Reader__List_L0 NN (x0, x1, x2, [], ())).bind fun (x3, x4, x5, x6, x7, _) =>
some (x7, x5, x6, ())
noncomputable def h___codes_Reader__List : X.Cfg := ⟨E0, [c___codes_Reader__Number, c___codes_Reader__Cell], [], [⟨4, 0, ⟨[(0, .ptr ⟨2, 0, []⟩ [0]), (3, .pk ⟨9, 0, []⟩ [0, 0]), (4, shU I64)], [(2, [shU (.row false (.int .u8)), shU .bool]), (9, [shU (.row true (.pair (.int .u8) (.pair (.int .u16) (.pair I64 I64))))])], [], ([], [])⟩, [(.exit 0, ⟨[(0, .ptr ⟨2, 0, []⟩ [0]), (3, .pk ⟨9, 0, []⟩ [0, 0]), (4, shU I64), (15, shU .bool)], [(2, [shU (.row false (.int .u8)), shU .bool]), (9, [shU (.row true (.pair (.int .u8) (.pair (.int .u16) (.pair I64 I64))))])], [], ([], [])⟩)]⟩]⟩
def c___codes_Reader__List : Ctr := ⟨25, 23, [.ptr ⟨2, 0, []⟩ [0]], [(2, [shU (.row false (.int .u8)), shU .bool])], [⟨[shU (.row true (.pair (.int .u8) (.pair (.int .u16) (.pair I64 I64))))], [.one], [(2, [shU (.row false (.int .u8)), shU .bool])]⟩], fun h => t___codes_Reader__List h.1 h.2.1⟩
set_option maxRecDepth 100000 in
theorem k___codes_Reader__List : Lvl E0 TT noB 4 c___codes_Reader__List := lvl_step (n := 3) (C := h___codes_Reader__List) rfl (.intro (k___codes_Reader__Number.mono (by decide)) (.intro (k___codes_Reader__Cell.mono (by decide)) (.intro))) (some_of (by kernel_rfl)) (fun h => by kernel_rfl)
/-! bytes.Equal -/
def t_bytes_Equal (a0 : List (Int)) (a1 : List (Int)) : Option (Bool × Unit) :=
let x0 : ByteArray := (bstr? a0);
let x1 : ByteArray := (bstr? a1);
some ((eqT? x0 x1), ())
noncomputable def h_bytes_Equal : X.Cfg := ⟨E0, [], [], []⟩
def c_bytes_Equal : Ctr := ⟨26, 24, [shU (.row false (.int .u8)), shU (.row false (.int .u8))], [], [⟨[shU .bool], [.one], []⟩], fun h => t_bytes_Equal h.1 h.2.1⟩
set_option maxRecDepth 100000 in
theorem k_bytes_Equal : Lvl E0 TT noB 1 c_bytes_Equal := lvl_step (n := 0) (C := h_bytes_Equal) rfl (.intro) (some_of (by kernel_rfl)) (fun h => by kernel_rfl)
/-! redundancy/canonical.Read -/
def t_canonical_Read (a0 : List (Int)) : Option (Int × Int × Int × Int × Int × Int × (List (Int × Int × Int × Int)) × (List (Int × Int × Int × Int)) × Int × Unit) :=
(t___codes_Reader__Number 1 a0 false).bind fun (x0, x1, x2, _) =>
(t___codes_Reader__Number 1 x1 x2).bind fun (x3, x4, x5, _) =>
(t___codes_Reader__Number 1 x4 x5).bind fun (x6, x7, x8, _) =>
(t___codes_Reader__Number 6 x7 x8).bind fun (x9, x10, x11, _) =>
(t___codes_Reader__Number 1 x10 x11).bind fun (x12, x13, x14, _) =>
(t___codes_Reader__Number 1 x13 x14).bind fun (x15, x16, x17, _) =>
(t___codes_Reader__List x16 x17).bind fun (x18, x19, x20, _) =>
(t___codes_Reader__List x19 x20).bind fun (x21, x22, x23, _) =>
bif x23 then (some (0, 0, 0, 0, 0, 0, [], [], 4, ())) else
(t_canonical_Bytes x0 x3 x6 x9 x12 x15 x18 x21).bind fun (x24, x25, _) =>
(let x26 : Int := (natI? (List.length x22));
bif (decide (x26 > 0)) then (some (true, 0, 0, 0, 0, 0, 0, (), (), x0, x3, x6, x9, x12, x15, x18, x21, ())) else
bif (x25 != 0) then (some (true, 0, 0, 0, 0, 0, 0, (), (), x0, x3, x6, x9, x12, x15, x18, x21, ())) else
(t_bytes_Equal x24 a0).bind fun (x27, _) =>
some ((!x27), 0, 0, 0, 0, 0, 0, (), (), x0, x3, x6, x9, x12, x15, x18, x21, ()) : Option (Bool × Int × Int × Int × Int × Int × Int × Unit × Unit × Int × Int × Int × Int × Int × Int × (List (Int × Int × Int × Int)) × (List (Int × Int × Int × Int)) × Unit)).bind fun (x26, x27, x28, x29, x30, x31, x32, x33, x34, x35, x36, x37, x38, x39, x40, x41, x42, _) =>
bif x26 then (some (0, 0, 0, 0, 0, 0, [], [], 5, ())) else
some (x35, x36, x37, x38, x39, x40, x41, x42, 0, ())
noncomputable def h_canonical_Read : X.Cfg := ⟨E0, [c___codes_Reader__Number, c___codes_Reader__List, c_canonical_Bytes, c_bytes_Equal], [], [⟨10, 0, ⟨[], [], [], ([], [])⟩, [(.normal, ⟨[(2, .ptr ⟨6, 0, []⟩ [0]), (5, .ptr ⟨12, 0, []⟩ [0]), (55, shU .bool)], [(6, [shU I64, shU I64, shU I64, shU I64, shU I64, shU I64, shU (.nilr true), shU (.nilr true)]), (12, [shU I64, shU I64, shU I64, shU I64, shU I64, shU I64, shU (.row false (.pair (.int .u8) (.pair (.int .u16) (.pair I64 I64)))), shU (.row false (.pair (.int .u8) (.pair (.int .u16) (.pair I64 I64))))])], [], ([], [])⟩)]⟩]⟩
def c_canonical_Read : Ctr := ⟨11, 25, [shU (.row false (.int .u8))], [], [⟨[shU I64, shU I64, shU I64, shU I64, shU I64, shU I64, shU (.row false (.pair (.int .u8) (.pair (.int .u16) (.pair I64 I64)))), shU (.row false (.pair (.int .u8) (.pair (.int .u16) (.pair I64 I64)))), shU I64], [.agg 8, .one], []⟩], fun h => t_canonical_Read h.1⟩
set_option maxRecDepth 100000 in
theorem k_canonical_Read : Lvl E0 TT noB 8 c_canonical_Read := lvl_step (n := 7) (C := h_canonical_Read) rfl (.intro (k___codes_Reader__Number.mono (by decide)) (.intro (k___codes_Reader__List.mono (by decide)) (.intro (k_canonical_Bytes.mono (by decide)) (.intro (k_bytes_Equal.mono (by decide)) (.intro))))) (some_of (by kernel_rfl)) (fun h => by kernel_rfl)
/-! redundancy/redundancyref03.SameCanon -/
def t_ref03_SameCanon_L0 : (List (Int × Int × Int × Int)) × (List (Int × Int × Int × Int)) × Int × Int × Unit → Option (((List (Int × Int × Int × Int)) × (List (Int × Int × Int × Int)) × Int × Int × Unit) ⊕ ((Bool × Unit) ⊕ ((List (Int × Int × Int × Int)) × (List (Int × Int × Int × Int)) × Int × Int × Bool × Unit))) := fun (v0, v1, v2, v3, _) =>
bif (decide (v3 < v2)) then ((nat? v3).bind fun x0 =>
(get? v0 x0).bind fun x1 =>
(nat? v3).bind fun x2 =>
(get? v1 x2).bind fun x3 =>
let x4 : Bool := (!((x1.1 == x3.1) && ((x1.2.1 == x3.2.1) && ((x1.2.2.1 == x3.2.2.1) && ((x1.2.2.2 == x3.2.2.2) && true)))));
bif x4 then (some (.inr (.inl (false, ())))) else
let x5 : Int := (w64 (v3 + 1));
some (.inl (v0, v1, v2, x5, ()))) else
some (.inr (.inr (v0, v1, v2, v3, false, ())))
def t_ref03_SameCanon (a0 : List (Int × Int × Int × Int)) (a1 : List (Int × Int × Int × Int)) : Option (Bool × Unit) :=
let x0 : Int := (natI? (List.length a0));
let x1 : Int := (natI? (List.length a1));
bif (x0 != x1) then (some (false, ())) else
let x2 : Int := (natI? (List.length a0));
(match loopN t_ref03_SameCanon_L0 NN (a0, a1, x2, 0, ()) with
| none => none
| some (.inl (x3, _)) =>
some (x3, ())
| some (.inr (x3, x4, x5, x6, x7, _)) =>
some (true, ()))
noncomputable def h_ref03_SameCanon : X.Cfg := ⟨E0, [], [], [⟨6, 0, ⟨[(0, shU (.row false (.pair (.int .u8) (.pair (.int .u16) (.pair I64 I64))))), (1, shU (.row false (.pair (.int .u8) (.pair (.int .u16) (.pair I64 I64))))), (12, shU I64), (13, shU I64)], [], [], ([], [])⟩, [(.ret, ⟨[(4, shU .bool)], [], [], ([], [])⟩), (.exit 0, ⟨[(0, shU (.row false (.pair (.int .u8) (.pair (.int .u16) (.pair I64 I64))))), (1, shU (.row false (.pair (.int .u8) (.pair (.int .u16) (.pair I64 I64))))), (12, shU I64), (13, shU I64), (14, shU .bool)], [], [], ([], [])⟩)]⟩]⟩
def c_ref03_SameCanon : Ctr := ⟨28, 26, [shU (.row false (.pair (.int .u8) (.pair (.int .u16) (.pair I64 I64)))), shU (.row false (.pair (.int .u8) (.pair (.int .u16) (.pair I64 I64))))], [], [⟨[shU .bool], [.one], []⟩], fun h => t_ref03_SameCanon h.1 h.2.1⟩
set_option maxRecDepth 100000 in
theorem k_ref03_SameCanon : Lvl E0 TT noB 1 c_ref03_SameCanon := lvl_step (n := 0) (C := h_ref03_SameCanon) rfl (.intro) (some_of (by kernel_rfl)) (fun h => by kernel_rfl)
/-! redundancy/redundancyref12.Same -/
def t_ref12_Same (a0 : Int) (a1 : Int) (a2 : Int) (a3 : Int) (a4 : Int) (a5 : Int) (a6 : List (Int × Int × Int × Int)) (a7 : List (Int × Int × Int × Int)) (a8 : Int) (a9 : Int) (a10 : Int) (a11 : Int) (a12 : Int) (a13 : Int) (a14 : List (Int × Int × Int × Int)) (a15 : List (Int × Int × Int × Int)) : Option (Bool × Unit) :=
bif (a0 == a8) then (bif (a1 == a9) then (bif (a2 == a10) then (bif (a3 == a11) then (bif (a4 == a12) then (bif (a5 == a13) then ((t_ref03_SameCanon a6 a14).bind fun (x0, _) =>
bif x0 then ((t_ref03_SameCanon a7 a15).bind fun (x1, _) =>
some (x1, ())) else
some (false, ())) else
some (false, ())) else
some (false, ())) else
some (false, ())) else
some (false, ())) else
some (false, ())) else
some (false, ())
noncomputable def h_ref12_Same : X.Cfg := ⟨E0, [c_ref03_SameCanon], [], []⟩
def c_ref12_Same : Ctr := ⟨13, 27, [.agg [shU I64, shU I64, shU I64, shU I64, shU I64, shU I64, shU (.row false (.pair (.int .u8) (.pair (.int .u16) (.pair I64 I64)))), shU (.row false (.pair (.int .u8) (.pair (.int .u16) (.pair I64 I64))))], .agg [shU I64, shU I64, shU I64, shU I64, shU I64, shU I64, shU (.row false (.pair (.int .u8) (.pair (.int .u16) (.pair I64 I64)))), shU (.row false (.pair (.int .u8) (.pair (.int .u16) (.pair I64 I64))))]], [], [⟨[shU .bool], [.one], []⟩], fun h => t_ref12_Same h.1 h.2.1 h.2.2.1 h.2.2.2.1 h.2.2.2.2.1 h.2.2.2.2.2.1 h.2.2.2.2.2.2.1 h.2.2.2.2.2.2.2.1 h.2.2.2.2.2.2.2.2.1 h.2.2.2.2.2.2.2.2.2.1 h.2.2.2.2.2.2.2.2.2.2.1 h.2.2.2.2.2.2.2.2.2.2.2.1 h.2.2.2.2.2.2.2.2.2.2.2.2.1 h.2.2.2.2.2.2.2.2.2.2.2.2.2.1 h.2.2.2.2.2.2.2.2.2.2.2.2.2.2.1 h.2.2.2.2.2.2.2.2.2.2.2.2.2.2.2.1⟩
set_option maxRecDepth 100000 in
theorem k_ref12_Same : Lvl E0 TT noB 2 c_ref12_Same := lvl_step (n := 1) (C := h_ref12_Same) rfl (.intro (k_ref03_SameCanon.mono (by decide)) (.intro)) (some_of (by kernel_rfl)) (fun h => by kernel_rfl)
/-! redundancy/redundancylaw13.awake -/
def t_law13_awake : Option (Bool × Unit) :=
let x0 : List (Int × Int × Int × Int) := [(1, (0, (1, 3)))];
(t_canonical_Bytes 0 1 0 0 0 10 x0 []).bind fun (x1, x2, _) =>
(t_canonical_Read x1).bind fun (x3, x4, x5, x6, x7, x8, x9, x10, x11, _) =>
bif (x2 == 0) then (bif (x11 == 0) then (let x12 : Int := (natI? (List.length x1));
bif (x12 == 17) then (bif (slOk? 11 16 (List.length x1)) then let x13 : List (Int) := (win? x1 11 (Nat.sub 16 11));
let x14 : ByteArray := (bstr? x13);
bif (eqT? x14 (bytes [1, 1, 2, 0, 3])) then ((t_ref12_Same x3 x4 x5 x6 x7 x8 x9 x10 0 1 0 0 0 10 x0 []).bind fun (x15, _) =>
some (x15, ())) else
some (false, ()) else none) else
some (false, ())) else
some (false, ())) else
some (false, ())
noncomputable def h_law13_awake : X.Cfg := ⟨E0, [c_canonical_Bytes, c_canonical_Read, c_ref12_Same], [], []⟩
def c_law13_awake : Ctr := ⟨5, 28, [], [], [⟨[shU .bool], [.one], []⟩], fun h => t_law13_awake⟩
set_option maxRecDepth 100000 in
theorem k_law13_awake : Lvl E0 TT noB 9 c_law13_awake := lvl_step (n := 8) (C := h_law13_awake) rfl (.intro (k_canonical_Bytes.mono (by decide)) (.intro (k_canonical_Read.mono (by decide)) (.intro (k_ref12_Same.mono (by decide)) (.intro)))) (some_of (by kernel_rfl)) (fun h => by kernel_rfl)
/-! redundancy/redundancylaw13.CanonicalBack -/
def t_law13_CanonicalBack (a0 : List (Int)) (a1 : List (Int)) : Option (Bool × Unit) :=
(t_Deck_Request a0 0).bind fun (x0, x1, x2, x3, x4, x5, x6, x7, x8, x9, _) =>
(t_Deck_Request a1 0).bind fun (x10, x11, x12, x13, x14, x15, x16, x17, x18, x19, _) =>
(t_canonical_Bytes x0 x1 x2 x3 x4 x5 x6 x7).bind fun (x20, x21, _) =>
(t_canonical_Bytes x10 x11 x12 x13 x14 x15 x16 x17).bind fun (x22, x23, _) =>
(t_canonical_Read x20).bind fun (x24, x25, x26, x27, x28, x29, x30, x31, x32, _) =>
bif (x21 == 0) then (bif (x23 == 0) then (bif (x32 == 0) then ((t_ref12_Same x24 x25 x26 x27 x28 x29 x30 x31 x0 x1 x2 x3 x4 x5 x6 x7).bind fun (x33, _) =>
bif x33 then (let x34 : ByteArray := (bstr? x20);
let x35 : ByteArray := (bstr? x22);
(t_ref12_Same x0 x1 x2 x3 x4 x5 x6 x7 x10 x11 x12 x13 x14 x15 x16 x17).bind fun (x36, _) =>
bif ((eqT? x34 x35) == x36) then ((t_law13_awake).bind fun (x37, _) =>
some (x37, ())) else
some (false, ())) else
some (false, ())) else
some (false, ())) else
some (false, ())) else
some (false, ())
noncomputable def h_law13_CanonicalBack : X.Cfg := ⟨E0, [c_Deck_Request, c_canonical_Bytes, c_canonical_Read, c_ref12_Same, c_law13_awake], [], []⟩
def c_law13_CanonicalBack : Ctr := ⟨4, 29, [shU (.row false I64), shU (.row false I64)], [], [⟨[shU .bool], [.one], []⟩], fun h => t_law13_CanonicalBack h.1 h.2.1⟩
set_option maxRecDepth 100000 in
theorem k_law13_CanonicalBack : Lvl E0 TT noB 10 c_law13_CanonicalBack := lvl_step (n := 9) (C := h_law13_CanonicalBack) rfl (.intro (k_Deck_Request.mono (by decide)) (.intro (k_canonical_Bytes.mono (by decide)) (.intro (k_canonical_Read.mono (by decide)) (.intro (k_ref12_Same.mono (by decide)) (.intro (k_law13_awake.mono (by decide)) (.intro)))))) (some_of (by kernel_rfl)) (fun h => by kernel_rfl)
/-! redundancy/redundancyref12.Cell -/
def t_ref12_Cell (a0 : Int) (a1 : Int) (a2 : Int) (a3 : Int) : Option (Bool × Unit) :=
bif (a0 == 0) then (bif (a2 == 0) then (some ((a3 == 0), ())) else
some (false, ())) else
bif (a0 == 2) then (bif (a2 == 0) then (some ((a3 == 0), ())) else
some (false, ())) else
bif (a0 == 1) then (bif (a2 == (-1)) then (bif (a1 == 0) then (bif (decide (a3 ≥ 0)) then (some ((decide (a3 ≤ 65535)), ())) else
some (false, ())) else
some (false, ())) else
bif (a1 == 0) then (bif (decide (a2 ≥ 0)) then (bif (decide (a2 < 4)) then (bif (decide (a3 ≥ 0)) then (some ((decide (a3 < 32)), ())) else
some (false, ())) else
some (false, ())) else
some (false, ())) else
some (false, ())) else
some (false, ())
noncomputable def h_ref12_Cell : X.Cfg := ⟨E0, [], [], []⟩
def c_ref12_Cell : Ctr := ⟨43, 30, [.agg [shU (.int .u8), shU (.int .u16), shU I64, shU I64]], [], [⟨[shU .bool], [.one], []⟩], fun h => t_ref12_Cell h.1 h.2.1 h.2.2.1 h.2.2.2.1⟩
set_option maxRecDepth 100000 in
theorem k_ref12_Cell : Lvl E0 TT noB 1 c_ref12_Cell := lvl_step (n := 0) (C := h_ref12_Cell) rfl (.intro) (some_of (by kernel_rfl)) (fun h => by kernel_rfl)
/-! redundancy/redundancyref12.Cells -/
def t_ref12_Cells_L0 : (List (Int × Int × Int × Int)) × Int × (List (Int × Int × Int × Int)) × Int × Int × Unit → Option (((List (Int × Int × Int × Int)) × Int × (List (Int × Int × Int × Int)) × Int × Int × Unit) ⊕ ((Bool × Unit) ⊕ ((List (Int × Int × Int × Int)) × Int × (List (Int × Int × Int × Int)) × Int × Int × Bool × Unit))) := fun (v0, v1, v2, v3, v4, _) =>
bif (decide (v4 < v3)) then ((nat? v4).bind fun x0 =>
(get? v2 x0).bind fun x1 =>
(t_ref12_Cell x1.1 x1.2.1 x1.2.2.1 x1.2.2.2).bind fun (x2, _) =>
bif (!x2) then (some (.inr (.inl (false, ())))) else
let x3 : Int := (w64 (v4 + 1));
some (.inl (v0, v1, v2, v3, x3, ()))) else
some (.inr (.inr (v0, v1, v2, v3, v4, false, ())))
def t_ref12_Cells (a0 : List (Int × Int × Int × Int)) (a1 : Int) : Option (Bool × Unit) :=
let x0 : Int := (natI? (List.length a0));
(match loopN t_ref12_Cells_L0 NN (a0, a1, a0, x0, 0, ()) with
| none => none
| some (.inl (x1, _)) =>
some (x1, ())
| some (.inr (x1, x2, x3, x4, x5, x6, _)) =>
let x7 : Int := (natI? (List.length x1));
some ((decide (x7 ≤ x2)), ()))
noncomputable def h_ref12_Cells : X.Cfg := ⟨E0, [c_ref12_Cell], [], [⟨3, 0, ⟨[(0, shU (.row false (.pair (.int .u8) (.pair (.int .u16) (.pair I64 I64))))), (1, shU I64), (7, shU (.row false (.pair (.int .u8) (.pair (.int .u16) (.pair I64 I64))))), (8, shU I64), (9, shU I64)], [], [], ([], [])⟩, [(.ret, ⟨[(4, shU .bool)], [], [], ([], [])⟩), (.exit 0, ⟨[(0, shU (.row false (.pair (.int .u8) (.pair (.int .u16) (.pair I64 I64))))), (1, shU I64), (7, shU (.row false (.pair (.int .u8) (.pair (.int .u16) (.pair I64 I64))))), (8, shU I64), (9, shU I64), (10, shU .bool)], [], [], ([], [])⟩)]⟩]⟩
def c_ref12_Cells : Ctr := ⟨35, 31, [shU (.row false (.pair (.int .u8) (.pair (.int .u16) (.pair I64 I64)))), shU I64], [], [⟨[shU .bool], [.one], []⟩], fun h => t_ref12_Cells h.1 h.2.1⟩
set_option maxRecDepth 100000 in
theorem k_ref12_Cells : Lvl E0 TT noB 2 c_ref12_Cells := lvl_step (n := 1) (C := h_ref12_Cells) rfl (.intro (k_ref12_Cell.mono (by decide)) (.intro)) (some_of (by kernel_rfl)) (fun h => by kernel_rfl)
/-! redundancy/redundancyref12.Valid -/
def t_ref12_Valid (a0 : Int) (a1 : Int) (a2 : Int) (a3 : Int) (a4 : Int) (a5 : Int) (a6 : List (Int × Int × Int × Int)) (a7 : List (Int × Int × Int × Int)) : Option (Bool × Unit) :=
bif (decide (a0 ≥ 0)) then (bif (decide (a0 < 4)) then (bif (decide (a1 ≥ 0)) then (bif (decide (a1 ≤ 3)) then (bif (decide (a2 ≥ 0)) then (bif (decide (a2 ≤ 6)) then (bif (decide (a3 ≥ 0)) then (bif (decide (a3 ≤ 1099511627776)) then (bif (decide (a4 ≥ 0)) then (bif (decide (a4 ≤ 255)) then (bif (decide (a5 ≥ 0)) then (bif (decide (a5 ≤ 15)) then ((t_ref12_Cells a6 3).bind fun (x0, _) =>
bif x0 then ((t_ref12_Cells a7 16).bind fun (x1, _) =>
some (x1, ())) else
some (false, ())) else
some (false, ())) else
some (false, ())) else
some (false, ())) else
some (false, ())) else
some (false, ())) else
some (false, ())) else
some (false, ())) else
some (false, ())) else
some (false, ())) else
some (false, ())) else
some (false, ())) else
some (false, ())
noncomputable def h_ref12_Valid : X.Cfg := ⟨E0, [c_ref12_Cells], [], []⟩
def c_ref12_Valid : Ctr := ⟨20, 32, [.agg [shU I64, shU I64, shU I64, shU I64, shU I64, shU I64, shU (.row false (.pair (.int .u8) (.pair (.int .u16) (.pair I64 I64)))), shU (.row false (.pair (.int .u8) (.pair (.int .u16) (.pair I64 I64))))]], [], [⟨[shU .bool], [.one], []⟩], fun h => t_ref12_Valid h.1 h.2.1 h.2.2.1 h.2.2.2.1 h.2.2.2.2.1 h.2.2.2.2.2.1 h.2.2.2.2.2.2.1 h.2.2.2.2.2.2.2.1⟩
set_option maxRecDepth 100000 in
theorem k_ref12_Valid : Lvl E0 TT noB 3 c_ref12_Valid := lvl_step (n := 2) (C := h_ref12_Valid) rfl (.intro (k_ref12_Cells.mono (by decide)) (.intro)) (some_of (by kernel_rfl)) (fun h => by kernel_rfl)
/-! redundancy/redundancyref13.number -/
def t_ref13_number_L0 : Int × Int × (List (Int)) × Unit → Option ((Int × Int × (List (Int)) × Unit) ⊕ (Int × Int × Bool × (List (Int)) × Unit)) := fun (v0, v1, v2, _) =>
bif (decide (v1 > 0)) then (let x0 : Int := (w64 (v1 - 1));
let x1 : Int := (w64 (8 * x0));
let x2 : Int := (wk .u64 x1);
(nat? x2).bind fun x3 =>
let x4 : Int := (shR .shr .i64 v0 x3);
let x5 : Int := (wk .u8 x4);
bif (appOk? 1 (List.length v2) (List.length [x5])) then let x6 : List (Int) := (List.append v2 [x5]);
let x7 : Int := (w64 (v1 - 1));
some (.inl (v0, x7, x6, ())) else none) else
some (.inr (v0, v1, false, v2, ()))
def t_ref13_number (a0 : Int) (a1 : Int) : Option ((List (Int)) × Unit) :=
(loopN t_ref13_number_L0 NN (a0, a1, [], ())).bind fun (x0, x1, x2, x3, _) =>
some (x3, ())
noncomputable def h_ref13_number : X.Cfg := ⟨E0, [], [], [⟨3, 0, ⟨[(0, shU I64), (1, shU I64), (5, .pk ⟨13, 0, []⟩ [0, 0])], [(13, [shU (.row true (.int .u8))])], [], ([], [])⟩, [(.exit 0, ⟨[(0, shU I64), (1, shU I64), (5, .pk ⟨13, 0, []⟩ [0, 0]), (7, shU .bool)], [(13, [shU (.row true (.int .u8))])], [], ([], [])⟩)]⟩]⟩
def c_ref13_number : Ctr := ⟨21, 33, [shU I64, shU I64], [], [⟨[shU (.row true (.int .u8))], [.one], []⟩], fun h => t_ref13_number h.1 h.2.1⟩
set_option maxRecDepth 100000 in
theorem k_ref13_number : Lvl E0 TT noB 1 c_ref13_number := lvl_step (n := 0) (C := h_ref13_number) rfl (.intro) (some_of (by kernel_rfl)) (fun h => by kernel_rfl)
/-! redundancy/redundancyref13.Code -/
def t_ref13_Code_L1 : (List (Int × Int × Int × Int)) × Int × Int × (List (Int)) × Unit → Option (((List (Int × Int × Int × Int)) × Int × Int × (List (Int)) × Unit) ⊕ ((List (Int × Int × Int × Int)) × Int × Int × Bool × (List (Int)) × Unit)) := fun (v0, v1, v2, v3, _) =>
bif (decide (v2 < v1)) then (((nat? v2).bind fun x0 =>
(get? v0 x0).bind fun x1 =>
bif (x1.1 == 1) then (let x2 : Int := (w64 (x1.2.2.1 + 1));
let x3 : Int := (wk .u8 x2);
let x4 : List (Int) := [x1.1, x3];
bif (appOk? 1 (List.length v3) (List.length x4)) then let x5 : List (Int) := (List.append v3 x4);
(t_ref13_number x1.2.2.2 2).bind fun (x6, _) =>
bif (appOk? 1 (List.length x5) (List.length x6)) then let x7 : List (Int) := (List.append x5 x6);
some (v0, v1, v2, x7, ()) else none else none) else
let x2 : List (Int) := [x1.1, 0];
bif (appOk? 1 (List.length v3) (List.length x2)) then let x3 : List (Int) := (List.append v3 x2);
let x4 : Int := (wk .i64 x1.2.1);
(t_ref13_number x4 2).bind fun (x5, _) =>
bif (appOk? 1 (List.length x3) (List.length x5)) then let x6 : List (Int) := (List.append x3 x5);
some (v0, v1, v2, x6, ()) else none else none : Option ((List (Int × Int × Int × Int)) × Int × Int × (List (Int)) × Unit)).bind fun (x0, x1, x2, x3, _) =>
let x4 : Int := (w64 (x2 + 1));
some (.inl (x0, x1, x4, x3, ()))) else
some (.inr (v0, v1, v2, false, v3, ()))
def t_ref13_Code (a0 : List (Int × Int × Int × Int)) : Option ((List (Int)) × Unit) :=
let x0 : Int := (natI? (List.length a0));
let x1 : Int := (wk .u8 x0);
let x2 : Int := (natI? (List.length a0));
(loopN t_ref13_Code_L1 NN (a0, x2, 0, [x1], ())).bind fun (x3, x4, x5, x6, x7, _) =>
some (x7, ())
noncomputable def h_ref13_Code : X.Cfg := ⟨E0, [c_ref13_number], [], [⟨7, 0, ⟨[], [], [], ([], [])⟩, [(.normal, ⟨[(3, .pk ⟨9, 0, []⟩ [0, 0]), (10, shU (.row false (.pair (.int .u8) (.pair (.int .u16) (.pair I64 I64))))), (11, shU I64), (12, shU I64)], [(9, [shU (.row true (.int .u8))])], [], ([], [])⟩)]⟩, ⟨4, 1, ⟨[(3, .pk ⟨9, 0, []⟩ [0, 0]), (10, shU (.row false (.pair (.int .u8) (.pair (.int .u16) (.pair I64 I64))))), (11, shU I64), (12, shU I64)], [(9, [shU (.row true (.int .u8))])], [], ([], [])⟩, [(.exit 0, ⟨[(3, .pk ⟨9, 0, []⟩ [0, 0]), (10, shU (.row false (.pair (.int .u8) (.pair (.int .u16) (.pair I64 I64))))), (11, shU I64), (12, shU I64), (13, shU .bool)], [(9, [shU (.row true (.int .u8))])], [], ([], [])⟩)]⟩]⟩
def c_ref13_Code : Ctr := ⟨22, 34, [shU (.row false (.pair (.int .u8) (.pair (.int .u16) (.pair I64 I64))))], [], [⟨[shU (.row true (.int .u8))], [.one], []⟩], fun h => t_ref13_Code h.1⟩
set_option maxRecDepth 100000 in
theorem k_ref13_Code : Lvl E0 TT noB 2 c_ref13_Code := lvl_step (n := 1) (C := h_ref13_Code) rfl (.intro (k_ref13_number.mono (by decide)) (.intro)) (some_of (by kernel_rfl)) (fun h => by kernel_rfl)
/-! redundancy/redundancyref13.Bytes -/
def t_ref13_Bytes (a0 : Int) (a1 : Int) (a2 : Int) (a3 : Int) (a4 : Int) (a5 : Int) (a6 : List (Int × Int × Int × Int)) (a7 : List (Int × Int × Int × Int)) : Option ((List (Int)) × Int × Unit) :=
(t_ref12_Valid a0 a1 a2 a3 a4 a5 a6 a7).bind fun (x0, _) =>
bif (!x0) then (some ([], 1, ())) else
let x1 : Int := (wk .u8 a0);
let x2 : Int := (wk .u8 a1);
let x3 : Int := (wk .u8 a2);
let x4 : List (Int) := [x1, x2, x3];
(t_ref13_number a3 6).bind fun (x5, _) =>
bif (appOk? 1 (List.length x4) (List.length x5)) then let x6 : List (Int) := (List.append x4 x5);
let x7 : Int := (wk .u8 a4);
let x8 : Int := (wk .u8 a5);
let x9 : List (Int) := [x7, x8];
bif (appOk? 1 (List.length x6) (List.length x9)) then let x10 : List (Int) := (List.append x6 x9);
(t_ref13_Code a6).bind fun (x11, _) =>
bif (appOk? 1 (List.length x10) (List.length x11)) then let x12 : List (Int) := (List.append x10 x11);
(t_ref13_Code a7).bind fun (x13, _) =>
bif (appOk? 1 (List.length x12) (List.length x13)) then let x14 : List (Int) := (List.append x12 x13);
some (x14, 0, ()) else none else none else none else none
noncomputable def h_ref13_Bytes : X.Cfg := ⟨E0, [c_ref12_Valid, c_ref13_number, c_ref13_Code], [], []⟩
def c_ref13_Bytes : Ctr := ⟨9, 35, [.agg [shU I64, shU I64, shU I64, shU I64, shU I64, shU I64, shU (.row false (.pair (.int .u8) (.pair (.int .u16) (.pair I64 I64)))), shU (.row false (.pair (.int .u8) (.pair (.int .u16) (.pair I64 I64))))]], [], [⟨[shU (.row true (.int .u8)), shU I64], [.one, .one], []⟩], fun h => t_ref13_Bytes h.1 h.2.1 h.2.2.1 h.2.2.2.1 h.2.2.2.2.1 h.2.2.2.2.2.1 h.2.2.2.2.2.2.1 h.2.2.2.2.2.2.2.1⟩
set_option maxRecDepth 100000 in
theorem k_ref13_Bytes : Lvl E0 TT noB 4 c_ref13_Bytes := lvl_step (n := 3) (C := h_ref13_Bytes) rfl (.intro (k_ref12_Valid.mono (by decide)) (.intro (k_ref13_number.mono (by decide)) (.intro (k_ref13_Code.mono (by decide)) (.intro)))) (some_of (by kernel_rfl)) (fun h => by kernel_rfl)
/-! (*redundancy/redundancyref13.Reader).Number -/
def t___ref13_Reader__Number_L0 : Int × Int × (List (Int)) × Int × Int × (List (Int)) × Bool × Unit → Option ((Int × Int × (List (Int)) × Int × Int × (List (Int)) × Bool × Unit) ⊕ (Int × Int × (List (Int)) × Int × Int × Bool × (List (Int)) × Bool × Unit)) := fun (v0, v1, v2, v3, v4, v5, v6, _) =>
bif (decide (v4 < v3)) then ((nat? v4).bind fun x0 =>
(get? v2 x0).bind fun x1 =>
let x2 : Int := (shR .shl .i64 v1 8);
let x3 : Int := (wk .i64 x1);
let x4 : Int := (arR .or .i64 x2 x3);
let x5 : Int := (w64 (v4 + 1));
some (.inl (v0, x4, v2, v3, x5, v5, v6, ()))) else
some (.inr (v0, v1, v2, v3, v4, false, v5, v6, ()))
def t___ref13_Reader__Number (a0 : Int) (a1 : List (Int)) (a2 : Bool) : Option (Int × (List (Int)) × Bool × Unit) :=
let x0 : Int := (natI? (List.length a1));
bif (decide (x0 < a0)) then (some (0, [], true, ())) else
(nat? a0).bind fun x1 =>
bif (slOk? 0 x1 (List.length a1)) then let x2 : List (Int) := (win? a1 0 (Nat.sub x1 0));
let x3 : Int := (natI? (List.length x2));
(loopN t___ref13_Reader__Number_L0 NN (a0, 0, x2, x3, 0, a1, a2, ())).bind fun (x4, x5, x6, x7, x8, x9, x10, x11, _) =>
(nat? x4).bind fun x12 =>
bif (slOk? x12 (List.length x10) (List.length x10)) then let x13 : List (Int) := (win? x10 x12 (Nat.sub (List.length x10) x12));
some (x5, x13, x11, ()) else none else none
noncomputable def h___ref13_Reader__Number : X.Cfg := ⟨E0, [], [], [⟨8, 0, ⟨[(0, .ptr ⟨2, 0, []⟩ [0]), (1, shU I64), (5, shU I64), (26, shU (.row false (.int .u8))), (27, shU I64), (28, shU I64)], [(2, [shU (.row false (.int .u8)), shU .bool])], [], ([], [])⟩, [(.exit 0, ⟨[(0, .ptr ⟨2, 0, []⟩ [0]), (1, shU I64), (5, shU I64), (26, shU (.row false (.int .u8))), (27, shU I64), (28, shU I64), (29, shU .bool)], [(2, [shU (.row false (.int .u8)), shU .bool])], [], ([], [])⟩)]⟩]⟩
def c___ref13_Reader__Number : Ctr := ⟨38, 36, [.ptr ⟨2, 0, []⟩ [0], shU I64], [(2, [shU (.row false (.int .u8)), shU .bool])], [⟨[shU I64], [.one], [(2, [shU (.row false (.int .u8)), shU .bool])]⟩], fun h => t___ref13_Reader__Number h.1 h.2.1 h.2.2.1⟩
set_option maxRecDepth 100000 in
theorem k___ref13_Reader__Number : Lvl E0 TT noB 1 c___ref13_Reader__Number := lvl_step (n := 0) (C := h___ref13_Reader__Number) rfl (.intro) (some_of (by kernel_rfl)) (fun h => by kernel_rfl)
/-! (*redundancy/redundancyref13.Reader).Cells -/
def t___ref13_Reader__Cells_L1 : Bool × Int × (List (Int)) × Bool × (List (Int × Int × Int × Int)) × Unit → Option ((Bool × Int × (List (Int)) × Bool × (List (Int × Int × Int × Int)) × Unit) ⊕ (Bool × Int × Bool × (List (Int)) × Bool × (List (Int × Int × Int × Int)) × Unit)) := fun (v0, v1, v2, v3, v4, _) =>
bif (decide (v1 > 0)) then (bif (!v3) then ((t___ref13_Reader__Number 1 v2 v3).bind fun (x0, x1, x2, _) =>
let x3 : Int := (wk .u8 x0);
(t___ref13_Reader__Number 1 x1 x2).bind fun (x4, x5, x6, _) =>
(t___ref13_Reader__Number 2 x5 x6).bind fun (x7, x8, x9, _) =>
(bif (x3 == 1) then (let x10 : Int := (w64 (x4 - 1));
some (v0, v1, x8, x9, v4, x3, 0, x10, x7, ())) else
let x10 : Int := (wk .u16 x7);
bif v0 then (some ((x4 == 0), v1, x8, x9, v4, x3, x10, 0, 0, ())) else
some (false, v1, x8, x9, v4, x3, x10, 0, 0, ()) : Option (Bool × Int × (List (Int)) × Bool × (List (Int × Int × Int × Int)) × Int × Int × Int × Int × Unit)).bind fun (x10, x11, x12, x13, x14, x15, x16, x17, x18, _) =>
let x19 : List (Int × Int × Int × Int) := [(x15, (x16, (x17, x18)))];
bif (appOk? 24 (List.length x14) (List.length x19)) then let x20 : List (Int × Int × Int × Int) := (List.append x14 x19);
let x21 : Int := (w64 (x11 - 1));
some (.inl (x10, x21, x12, x13, x20, ())) else none) else
some (.inr (v0, v1, false, v2, v3, v4, ()))) else
some (.inr (v0, v1, false, v2, v3, v4, ()))
def t___ref13_Reader__Cells (a0 : List (Int)) (a1 : Bool) : Option ((List (Int × Int × Int × Int)) × Bool × (List (Int)) × Bool × Unit) :=
(t___ref13_Reader__Number 1 a0 a1).bind fun (x0, x1, x2, _) =>
(loopN t___ref13_Reader__Cells_L1 NN (true, x0, x1, x2, [], ())).bind fun (x3, x4, x5, x6, x7, x8, _) =>
some (x8, x3, x6, x7, ())
noncomputable def h___ref13_Reader__Cells : X.Cfg := ⟨E0, [c___ref13_Reader__Number], [], [⟨11, 0, ⟨[], [], [], ([], [])⟩, [(.normal, ⟨[(0, .ptr ⟨2, 0, []⟩ [0]), (4, .pk ⟨11, 0, []⟩ [0, 0]), (5, shU .bool), (6, shU I64), (7, .ptr ⟨16, 0, []⟩ [0])], [(2, [shU (.row false (.int .u8)), shU .bool]), (11, [shU (.row true (.pair (.int .u8) (.pair (.int .u16) (.pair I64 I64))))]), (16, [shU (.int .u8), shU (.int .u16), shU I64, shU I64])], [], ([], [])⟩)]⟩, ⟨5, 1, ⟨[(0, .ptr ⟨2, 0, []⟩ [0]), (4, .pk ⟨11, 0, []⟩ [0, 0]), (5, shU .bool), (6, shU I64)], [(2, [shU (.row false (.int .u8)), shU .bool]), (11, [shU (.row true (.pair (.int .u8) (.pair (.int .u16) (.pair I64 I64))))])], [], ([], [])⟩, [(.exit 0, ⟨[(0, .ptr ⟨2, 0, []⟩ [0]), (4, .pk ⟨11, 0, []⟩ [0, 0]), (5, shU .bool), (6, shU I64), (20, shU .bool)], [(2, [shU (.row false (.int .u8)), shU .bool]), (11, [shU (.row true (.pair (.int .u8) (.pair (.int .u16) (.pair I64 I64))))])], [], ([], [])⟩)]⟩]⟩
def c___ref13_Reader__Cells : Ctr := ⟨39, 37, [.ptr ⟨2, 0, []⟩ [0]], [(2, [shU (.row false (.int .u8)), shU .bool])], [⟨[shU (.row true (.pair (.int .u8) (.pair (.int .u16) (.pair I64 I64)))), shU .bool], [.one, .one], [(2, [shU (.row false (.int .u8)), shU .bool])]⟩], fun h => t___ref13_Reader__Cells h.1 h.2.1⟩
set_option maxRecDepth 100000 in
theorem k___ref13_Reader__Cells : Lvl E0 TT noB 2 c___ref13_Reader__Cells := lvl_step (n := 1) (C := h___ref13_Reader__Cells) rfl (.intro (k___ref13_Reader__Number.mono (by decide)) (.intro)) (some_of (by kernel_rfl)) (fun h => by kernel_rfl)
/-! (*redundancy/redundancyref13.Reader).Request -/
def t___ref13_Reader__Request (a0 : List (Int)) (a1 : Bool) : Option (Int × Int × Int × Int × Int × Int × (List (Int × Int × Int × Int)) × (List (Int × Int × Int × Int)) × Bool × (List (Int)) × Bool × Unit) :=
(t___ref13_Reader__Number 1 a0 a1).bind fun (x0, x1, x2, _) =>
(t___ref13_Reader__Number 1 x1 x2).bind fun (x3, x4, x5, _) =>
(t___ref13_Reader__Number 1 x4 x5).bind fun (x6, x7, x8, _) =>
(t___ref13_Reader__Number 6 x7 x8).bind fun (x9, x10, x11, _) =>
(t___ref13_Reader__Number 1 x10 x11).bind fun (x12, x13, x14, _) =>
(t___ref13_Reader__Number 1 x13 x14).bind fun (x15, x16, x17, _) =>
(t___ref13_Reader__Cells x16 x17).bind fun (x18, x19, x20, x21, _) =>
(t___ref13_Reader__Cells x20 x21).bind fun (x22, x23, x24, x25, _) =>
bif x19 then (bif x23 then ((t_ref12_Valid x0 x3 x6 x9 x12 x15 x18 x22).bind fun (x26, _) =>
some (x0, x3, x6, x9, x12, x15, x18, x22, x26, x24, x25, ())) else
some (x0, x3, x6, x9, x12, x15, x18, x22, false, x24, x25, ())) else
some (x0, x3, x6, x9, x12, x15, x18, x22, false, x24, x25, ())
noncomputable def h___ref13_Reader__Request : X.Cfg := ⟨E0, [c___ref13_Reader__Number, c___ref13_Reader__Cells, c_ref12_Valid], [], []⟩
def c___ref13_Reader__Request : Ctr := ⟨27, 38, [.ptr ⟨2, 0, []⟩ [0]], [(2, [shU (.row false (.int .u8)), shU .bool])], [⟨[shU I64, shU I64, shU I64, shU I64, shU I64, shU I64, shU (.row false (.pair (.int .u8) (.pair (.int .u16) (.pair I64 I64)))), shU (.row false (.pair (.int .u8) (.pair (.int .u16) (.pair I64 I64)))), shU .bool], [.agg 8, .one], [(2, [shU (.row false (.int .u8)), shU .bool])]⟩], fun h => t___ref13_Reader__Request h.1 h.2.1⟩
set_option maxRecDepth 100000 in
theorem k___ref13_Reader__Request : Lvl E0 TT noB 4 c___ref13_Reader__Request := lvl_step (n := 3) (C := h___ref13_Reader__Request) rfl (.intro (k___ref13_Reader__Number.mono (by decide)) (.intro (k___ref13_Reader__Cells.mono (by decide)) (.intro (k_ref12_Valid.mono (by decide)) (.intro)))) (some_of (by kernel_rfl)) (fun h => by kernel_rfl)
/-! redundancy/redundancyref13.Read -/
def t_ref13_Read (a0 : List (Int)) : Option (Int × Int × Int × Int × Int × Int × (List (Int × Int × Int × Int)) × (List (Int × Int × Int × Int)) × Int × Unit) :=
(t___ref13_Reader__Request a0 false).bind fun (x0, x1, x2, x3, x4, x5, x6, x7, x8, x9, x10, _) =>
bif x10 then (some (0, 0, 0, 0, 0, 0, [], [], 4, ())) else
bif (!x8) then (some (0, 0, 0, 0, 0, 0, [], [], 5, ())) else
let x11 : Int := (natI? (List.length x9));
bif (decide (x11 > 0)) then (some (0, 0, 0, 0, 0, 0, [], [], 5, ())) else
some (x0, x1, x2, x3, x4, x5, x6, x7, 0, ())
noncomputable def h_ref13_Read : X.Cfg := ⟨E0, [c___ref13_Reader__Request], [], []⟩
def c_ref13_Read : Ctr := ⟨12, 39, [shU (.row false (.int .u8))], [], [⟨[shU I64, shU I64, shU I64, shU I64, shU I64, shU I64, shU (.row false (.pair (.int .u8) (.pair (.int .u16) (.pair I64 I64)))), shU (.row false (.pair (.int .u8) (.pair (.int .u16) (.pair I64 I64)))), shU I64], [.agg 8, .one], []⟩], fun h => t_ref13_Read h.1⟩
set_option maxRecDepth 100000 in
theorem k_ref13_Read : Lvl E0 TT noB 5 c_ref13_Read := lvl_step (n := 4) (C := h_ref13_Read) rfl (.intro (k___ref13_Reader__Request.mono (by decide)) (.intro)) (some_of (by kernel_rfl)) (fun h => by kernel_rfl)
/-! redundancy/redundancylaw13.CanonicalRequests -/
def t_law13_CanonicalRequests_L1 : (List (Int)) × Int × Int × Int × Int × Int × Int × Int × Int × Int × Int × (List (Int × Int × Int × Int)) × (List (Int × Int × Int × Int)) × (List (Int × Int × Int × Int × Int × Int × (List (Int × Int × Int × Int)) × List (Int × Int × Int × Int))) × Unit → Option (((List (Int)) × Int × Int × Int × Int × Int × Int × Int × Int × Int × Int × (List (Int × Int × Int × Int)) × (List (Int × Int × Int × Int)) × (List (Int × Int × Int × Int × Int × Int × (List (Int × Int × Int × Int)) × List (Int × Int × Int × Int))) × Unit) ⊕ ((Bool × Unit) ⊕ ((List (Int)) × Int × Int × Int × Int × Bool × Int × Int × Int × Int × Int × Int × (List (Int × Int × Int × Int)) × (List (Int × Int × Int × Int)) × (List (Int × Int × Int × Int × Int × Int × (List (Int × Int × Int × Int)) × List (Int × Int × Int × Int))) × Unit))) := fun (v0, v1, v2, v3, v4, v5, v6, v7, v8, v9, v10, v11, v12, v13, _) =>
bif (decide (v4 < v3)) then ((nat? v4).bind fun x0 =>
(get? v13 x0).bind fun x1 =>
(get? v13 x0).bind fun x2 =>
(t_canonical_Bytes x2.1 x2.2.1 x2.2.2.1 x2.2.2.2.1 x2.2.2.2.2.1 x2.2.2.2.2.2.1 x2.2.2.2.2.2.2.1 x2.2.2.2.2.2.2.2).bind fun (x3, x4, _) =>
(t_ref13_Bytes x2.1 x2.2.1 x2.2.2.1 x2.2.2.2.1 x2.2.2.2.2.1 x2.2.2.2.2.2.1 x2.2.2.2.2.2.2.1 x2.2.2.2.2.2.2.2).bind fun (x5, x6, _) =>
let x7 : ByteArray := (bstr? x3);
let x8 : ByteArray := (bstr? x5);
bif (!(eqT? x7 x8)) then (some (.inr (.inl (false, ())))) else
bif (x4 != x6) then (some (.inr (.inl (false, ())))) else
let x9 : Int := (w64 (v4 + 1));
some (.inl (v0, v1, v2, v3, x9, v5, v6, v7, v8, v9, v10, v11, v12, v13, ()))) else
some (.inr (.inr (v0, v1, v2, v3, v4, false, v5, v6, v7, v8, v9, v10, v11, v12, v13, ())))
def t_law13_CanonicalRequests_L2 : Int × Int × (List (List (Int))) × Unit → Option ((Int × Int × (List (List (Int))) × Unit) ⊕ ((Bool × Unit) ⊕ (Int × Int × Bool × (List (List (Int))) × Unit))) := fun (v0, v1, v2, _) =>
bif (decide (v1 < v0)) then ((nat? v1).bind fun x0 =>
(get? v2 x0).bind fun x1 =>
(get? v2 x0).bind fun x2 =>
(t_canonical_Read x2).bind fun (x3, x4, x5, x6, x7, x8, x9, x10, x11, _) =>
(t_ref13_Read x2).bind fun (x12, x13, x14, x15, x16, x17, x18, x19, x20, _) =>
bif (x11 != x20) then (some (.inr (.inl (false, ())))) else
(t_ref12_Same x3 x4 x5 x6 x7 x8 x9 x10 x12 x13 x14 x15 x16 x17 x18 x19).bind fun (x21, _) =>
bif (!x21) then (some (.inr (.inl (false, ())))) else
let x22 : Int := (w64 (v1 + 1));
some (.inl (v0, x22, v2, ()))) else
some (.inr (.inr (v0, v1, false, v2, ())))
def t_law13_CanonicalRequests (a0 : Int) (a1 : Int) (a2 : Int) (a3 : Int) (a4 : Int) (a5 : Int) (a6 : List (Int × Int × Int × Int)) (a7 : List (Int × Int × Int × Int)) (a8 : List (Int)) (a9 : List (Int)) (a10 : Int) (a11 : Int) : Option (Bool × Unit) :=
(let x0 : Int := (natI? (List.length a6));
bif (decide (x0 > 60)) then (some (a8, a9, a10, a11, true, a0, a1, a2, a3, a4, a5, a6, a7, ())) else
let x1 : Int := (natI? (List.length a7));
bif (decide (x1 > 60)) then (some (a8, a9, a10, a11, true, a0, a1, a2, a3, a4, a5, a6, a7, ())) else
let x2 : Int := (natI? (List.length a8));
some (a8, a9, a10, a11, (decide (x2 > 400)), a0, a1, a2, a3, a4, a5, a6, a7, ()) : Option ((List (Int)) × (List (Int)) × Int × Int × Bool × Int × Int × Int × Int × Int × Int × (List (Int × Int × Int × Int)) × (List (Int × Int × Int × Int)) × Unit)).bind fun (x0, x1, x2, x3, x4, x5, x6, x7, x8, x9, x10, x11, x12, _) =>
bif x4 then ((t_law13_awake).bind fun (x13, _) =>
some (x13, ())) else
(t_Deck_Request x1 0).bind fun (x13, x14, x15, x16, x17, x18, x19, x20, x21, x22, _) =>
let x23 : List (Int × Int × Int × Int × Int × Int × (List (Int × Int × Int × Int)) × List (Int × Int × Int × Int)) := [(x5, (x6, (x7, (x8, (x9, (x10, (x11, x12))))))), (x13, (x14, (x15, (x16, (x17, (x18, (x19, x20)))))))];
let x24 : Int := (natI? (List.length x23));
(match loopN t_law13_CanonicalRequests_L1 NN (x0, x2, x3, x24, 0, x13, x14, x15, x16, x17, x18, x19, x20, x23, ()) with
| none => none
| some (.inl (x25, _)) =>
some (x25, ())
| some (.inr (x25, x26, x27, x28, x29, x30, x31, x32, x33, x34, x35, x36, x37, x38, x39, _)) =>
(t_ref13_Bytes x31 x32 x33 x34 x35 x36 x37 x38).bind fun (x40, x41, _) =>
bif (appOk? 1 0 (List.length x40)) then let x42 : List (Int) := (List.append [] x40);
let x43 : Int := (natI? (List.length x42));
(t_mk_Mod x26 x43).bind fun (x44, _) =>
let x45 : Int := (wk .u8 x27);
(nat? x44).bind fun x46 =>
(get? x42 x46).bind fun x47 =>
(get? x42 x46).bind fun x48 =>
let x49 : List (Int) := (List.modify x42 x46 fun e => x45);
let x50 : Int := (natI? (List.length x40));
(t_mk_Mod x26 x50).bind fun (x51, _) =>
(nat? x51).bind fun x52 =>
bif (slOk? 0 x52 (List.length x40)) then let x53 : List (Int) := (win? x40 0 (Nat.sub x52 0));
bif (appOk? 1 0 (List.length x40)) then let x54 : List (Int) := (List.append [] x40);
let x55 : Int := (wk .u8 x27);
bif (appOk? 1 (List.length x54) (List.length [x55])) then let x56 : List (Int) := (List.append x54 [x55]);
let x57 : List (List (Int)) := [x25, x40, x49, x53, x56];
let x58 : Int := (natI? (List.length x57));
(match loopN t_law13_CanonicalRequests_L2 NN (x58, 0, x57, ()) with
| none => none
| some (.inl (x59, _)) =>
some (x59, ())
| some (.inr (x59, x60, x61, x62, _)) =>
(t_law13_awake).bind fun (x63, _) =>
some (x63, ())) else none else none else none else none)
noncomputable def h_law13_CanonicalRequests : X.Cfg := ⟨E0, [c_law13_awake, c_Deck_Request, c_canonical_Bytes, c_ref13_Bytes, c_mk_Mod, c_canonical_Read, c_ref13_Read, c_ref12_Same], [(48, (.pair I64 (.pair I64 (.pair I64 (.pair I64 (.pair I64 (.pair I64 (.pair (.row true (.pair (.int .u8) (.pair (.int .u16) (.pair I64 I64)))) (.row true (.pair (.int .u8) (.pair (.int .u16) (.pair I64 I64)))))))))))), (105, (.row true (.int .u8)))], [⟨2, 0, ⟨[], [], [], ([], [])⟩, [(.normal, ⟨[(1, shU (.row false (.int .u8))), (2, shU (.row false I64)), (3, shU I64), (4, shU I64), (5, .ptr ⟨12, 0, []⟩ [0]), (41, shU .bool)], [(12, [shU I64, shU I64, shU I64, shU I64, shU I64, shU I64, shU (.row false (.pair (.int .u8) (.pair (.int .u16) (.pair I64 I64)))), shU (.row false (.pair (.int .u8) (.pair (.int .u16) (.pair I64 I64))))])], [], ([], [])⟩)]⟩, ⟨7, 1, ⟨[(1, shU (.row false (.int .u8))), (3, shU I64), (4, shU I64), (11, .ptr ⟨24, 0, []⟩ [0]), (48, .pk ⟨99, 0, []⟩ [0, 0]), (49, shU I64), (50, shU I64)], [(24, [shU I64, shU I64, shU I64, shU I64, shU I64, shU I64, shU (.row false (.pair (.int .u8) (.pair (.int .u16) (.pair I64 I64)))), shU (.row false (.pair (.int .u8) (.pair (.int .u16) (.pair I64 I64))))]), (99, [shU (.row true (.pair I64 (.pair I64 (.pair I64 (.pair I64 (.pair I64 (.pair I64 (.pair (.row false (.pair (.int .u8) (.pair (.int .u16) (.pair I64 I64)))) (.row false (.pair (.int .u8) (.pair (.int .u16) (.pair I64 I64))))))))))))])], [], ([], [])⟩, [(.ret, ⟨[(10, shU .bool)], [], [], ([], [])⟩), (.exit 0, ⟨[(1, shU (.row false (.int .u8))), (3, shU I64), (4, shU I64), (11, .ptr ⟨24, 0, []⟩ [0]), (48, .pk ⟨99, 0, []⟩ [0, 0]), (49, shU I64), (50, shU I64), (51, shU .bool)], [(24, [shU I64, shU I64, shU I64, shU I64, shU I64, shU I64, shU (.row false (.pair (.int .u8) (.pair (.int .u16) (.pair I64 I64)))), shU (.row false (.pair (.int .u8) (.pair (.int .u16) (.pair I64 I64))))]), (99, [shU (.row true (.pair I64 (.pair I64 (.pair I64 (.pair I64 (.pair I64 (.pair I64 (.pair (.row false (.pair (.int .u8) (.pair (.int .u16) (.pair I64 I64)))) (.row false (.pair (.int .u8) (.pair (.int .u16) (.pair I64 I64))))))))))))])], [], ([], [])⟩)]⟩, ⟨21, 2, ⟨[(105, .pk ⟨213, 0, []⟩ [0, 0]), (106, shU I64), (107, shU I64)], [(213, [shU (.row true (.row false (.int .u8)))])], [], ([], [])⟩, [(.ret, ⟨[(10, shU .bool)], [], [], ([], [])⟩), (.exit 2, ⟨[(105, .pk ⟨213, 0, []⟩ [0, 0]), (106, shU I64), (107, shU I64), (108, shU .bool)], [(213, [shU (.row true (.row false (.int .u8)))])], [], ([], [])⟩)]⟩]⟩
def c_law13_CanonicalRequests : Ctr := ⟨3, 40, [.agg [shU I64, shU I64, shU I64, shU I64, shU I64, shU I64, shU (.row false (.pair (.int .u8) (.pair (.int .u16) (.pair I64 I64)))), shU (.row false (.pair (.int .u8) (.pair (.int .u16) (.pair I64 I64))))], shU (.row false (.int .u8)), shU (.row false I64), shU I64, shU I64], [], [⟨[shU .bool], [.one], []⟩], fun h => t_law13_CanonicalRequests h.1 h.2.1 h.2.2.1 h.2.2.2.1 h.2.2.2.2.1 h.2.2.2.2.2.1 h.2.2.2.2.2.2.1 h.2.2.2.2.2.2.2.1 h.2.2.2.2.2.2.2.2.1 h.2.2.2.2.2.2.2.2.2.1 h.2.2.2.2.2.2.2.2.2.2.1 h.2.2.2.2.2.2.2.2.2.2.2.1⟩
set_option maxRecDepth 100000 in
theorem k_law13_CanonicalRequests : Lvl E0 TT noB 10 c_law13_CanonicalRequests := lvl_step (n := 9) (C := h_law13_CanonicalRequests) rfl (.intro (k_law13_awake.mono (by decide)) (.intro (k_Deck_Request.mono (by decide)) (.intro (k_canonical_Bytes.mono (by decide)) (.intro (k_ref13_Bytes.mono (by decide)) (.intro (k_mk_Mod.mono (by decide)) (.intro (k_canonical_Read.mono (by decide)) (.intro (k_ref13_Read.mono (by decide)) (.intro (k_ref12_Same.mono (by decide)) (.intro))))))))) (some_of (by kernel_rfl)) (fun h => by kernel_rfl)
end Go.Proofs.Ytkmbahlpmoljpaa
/- Plain laws: loops, numbers, decks; no condition. -/
set_option linter.unusedVariables false
set_option linter.unusedSimpArgs false
namespace Go.Proofs.Ytkmbahlpmoljpaa
open Go.RowKit

theorem loopN_of {S T : Type} {f : S → Option (S ⊕ T)} (P : S → Prop) (Q : T → Prop) (m : S → Nat)
    (h : ∀ s, P s → (∃ s', f s = some (.inl s') ∧ P s' ∧ m s' < m s) ∨ ∃ t, f s = some (.inr t) ∧ Q t) : ∀ n s, P s → m s < n → ∃ t, loopN f n s = some t ∧ Q t := by
  intro n
  induction n with
  | zero => intro s _ h2; omega
  | succ n ih =>
    intro s hp hm
    rcases h s hp with ⟨s', e, hp', hm'⟩ | ⟨t, e, hq⟩
    · obtain ⟨t, e2, hq⟩ := ih s' hp' (by omega)
      exact ⟨t, by simp only [loopN, e, Option.bind_some]; exact e2, hq⟩
    · exact ⟨t, by simp [loopN, e], hq⟩
theorem w64_id {x : Int} (h1 : -9223372036854775808 ≤ x) (h2 : x ≤ 9223372036854775807) : w64 x = x := wrap_i64 h1 h2
theorem nat?_of (n : Nat) : nat? (n : Int) = some n := rfl
theorem natI?_eq (n : Nat) : natI? n = (n : Int) := rfl

/-- A deck that can be drawn from. -/
structure DOk (l : List Int) (k : Int) : Prop where
  num : ∀ x ∈ l, Is64 x
  len : l.length ≤ maxLen
  lo : 0 ≤ k
  hi : k ≤ l.length
theorem DOk.start {l : List Int} (h : ∀ x ∈ l, Is64 x) (hl : l.length ≤ maxLen) : DOk l 0 := ⟨h, hl, by omega, by omega⟩
theorem mod_ok {a b : Int} (ha : Is64 a) (hb : 0 < b) (hb2 : b ≤ 9223372036854775807) : ∃ v, t_ref01_Mod a b = some (v, ()) ∧ 0 ≤ v ∧ v < b := by
  have h1 : (a != 0) = (a != 0) := rfl
  have hne : (b != 0) = true := by simp; omega
  have hm : Int.tmod a b < b := Int.tmod_lt_of_pos a hb
  have hm2 : -b < Int.tmod a b := by
    have := Int.tmod_lt_of_pos (-a) hb
    rw [Int.neg_tmod] at this
    omega
  unfold t_ref01_Mod
  simp only [hne, cond_true]
  by_cases h : Int.tmod a b < 0
  · refine ⟨Int.tmod a b + b, ?_, by omega, by omega⟩
    simp only [h, decide_true, cond_true, Option.bind_some]
    rw [w64_id (by omega) (by omega)]
  · refine ⟨Int.tmod a b, ?_, by omega, hm⟩
    simp only [h, decide_false, cond_false, Option.bind_some]
theorem next_ok {l : List Int} {k n : Int} (h : DOk l k) (hn : 0 < n) (hn2 : n ≤ 9223372036854775807) : ∃ v k', t_Deck_Next n l k = some (v, l, k', ()) ∧ 0 ≤ v ∧ v < n ∧ DOk l k' := by
  have hl := h.len
  have hlo := h.lo
  have hhi := h.hi
  have hmx : maxLen ≤ 9223372036854775807 := by decide
  unfold t_Deck_Next
  simp only [natI?_eq]
  by_cases hk : k ≥ (l.length : Int)
  · exact ⟨0, k, by simp [hk], by omega, hn, h⟩
  · obtain ⟨j, rfl⟩ : ∃ j : Nat, k = j := ⟨k.toNat, by omega⟩
    have hj : j < l.length := by omega
    obtain ⟨v, hv, h0, h1⟩ := mod_ok (h.num _ (List.getElem_mem hj)) hn hn2
    refine ⟨v, (j : Int) + 1, ?_, h0, h1, h.num, hl, by omega, by omega⟩
    rw [w64_id (x := (j : Int) + 1) (by omega) (by omega), w64_id (x := (j : Int) + 1 - 1) (by omega) (by omega)]
    rw [show (j : Int) + 1 - 1 = j by omega, nat?_of]
    simp only [hk, decide_false, cond_false, Option.bind_some, get?, List.getElem?_eq_getElem hj, t_mk_Mod, hv]
end Go.Proofs.Ytkmbahlpmoljpaa
/- Plain laws: cells and requests out of a deck; no condition. -/
set_option linter.unusedVariables false
set_option linter.unusedSimpArgs false
namespace Go.Proofs.Ytkmbahlpmoljpaa
open Go.RowKit

/-- A canonical cell that is valid. -/
def CellOk (c : Int × Int × Int × Int) : Prop :=
  ((c.1 = 0 ∨ c.1 = 2) ∧ c.2.2.1 = 0 ∧ c.2.2.2 = 0 ∧ 0 ≤ c.2.1 ∧ c.2.1 ≤ 65535) ∨
  (c.1 = 1 ∧ c.2.1 = 0 ∧ ((c.2.2.1 = -1 ∧ 0 ≤ c.2.2.2 ∧ c.2.2.2 ≤ 65535) ∨ (0 ≤ c.2.2.1 ∧ c.2.2.1 < 4 ∧ 0 ≤ c.2.2.2 ∧ c.2.2.2 < 32)))
theorem wk_u16 {x : Int} (h0 : 0 ≤ x) (h1 : x ≤ 65535) : wk .u16 x = x := by
  unfold wk
  rw [wrap_u16]; omega
theorem total84 : t_ref02_Total [8, 4] = some (12, ()) := by kernel_rfl
theorem at84 {v : Int} (h0 : 0 ≤ v) (h1 : v < 12) : ∃ r o e, t_ref02_At [8, 4] v = some (r, o, e, ()) ∧ 0 ≤ r ∧ r < 4 ∧ 0 ≤ o ∧ o < 32 := by
  obtain ⟨j, rfl⟩ : ∃ j : Nat, v = j := ⟨v.toNat, by omega⟩
  have hj : j < 12 := by omega
  match j, hj with
  | 0, _ => exact ⟨0, 0, 0, by kernel_rfl, by decide⟩
  | 1, _ => exact ⟨0, 1, 0, by kernel_rfl, by decide⟩
  | 2, _ => exact ⟨0, 2, 0, by kernel_rfl, by decide⟩
  | 3, _ => exact ⟨0, 3, 0, by kernel_rfl, by decide⟩
  | 4, _ => exact ⟨0, 4, 0, by kernel_rfl, by decide⟩
  | 5, _ => exact ⟨0, 5, 0, by kernel_rfl, by decide⟩
  | 6, _ => exact ⟨0, 6, 0, by kernel_rfl, by decide⟩
  | 7, _ => exact ⟨0, 7, 0, by kernel_rfl, by decide⟩
  | 8, _ => exact ⟨1, 0, 0, by kernel_rfl, by decide⟩
  | 9, _ => exact ⟨1, 1, 0, by kernel_rfl, by decide⟩
  | 10, _ => exact ⟨1, 2, 0, by kernel_rfl, by decide⟩
  | 11, _ => exact ⟨1, 3, 0, by kernel_rfl, by decide⟩
theorem word_ok {l : List Int} {k : Int} (h : DOk l k) : ∃ v k', t_Deck_Word l k = some (v, l, k', ()) ∧ 0 ≤ v ∧ v ≤ 65535 ∧ DOk l k' := by
  obtain ⟨a, k1, e1, a0, a1, d1⟩ := next_ok h (n := 5) (by decide) (by decide)
  have h8 := next_ok d1 (n := 8) (by decide) (by decide)
  have h3 := next_ok d1 (n := 3) (by decide) (by decide)
  have h6 := next_ok d1 (n := 65536) (by decide) (by decide)
  obtain ⟨b, k2, e2, b0, b1, d2⟩ := h8
  obtain ⟨c, k3, e3, c0, c1, d3⟩ := h3
  obtain ⟨d, k4, e4, d0, d1', d4⟩ := h6
  unfold t_Deck_Word
  simp only [e1, Option.bind_some]
  by_cases hs : a = 0 ∨ a = 1 ∨ a = 2
  · refine ⟨b, k2, ?_, b0, by omega, d2⟩
    rcases hs with rfl | rfl | rfl <;> simp [e2, wk_u16 b0 (by omega)]
  · by_cases h3 : a = 3
    · subst h3
      refine ⟨65535 - c, k3, ?_, by omega, by omega, d3⟩
      simp [e3]
      rw [w64_id (by omega) (by omega), wk_u16 (by omega) (by omega)]
    · refine ⟨d, k4, ?_, d0, by omega, d4⟩
      have n0 : (a == 0) = false := by simp; omega
      have n1 : (a == 1) = false := by simp; omega
      have n2 : (a == 2) = false := by simp; omega
      have n3 : (a == 3) = false := by simp; omega
      simp [n0, n1, n2, n3, e4, wk_u16 d0 (by omega)]
theorem canon_ok {l : List Int} {k : Int} (h : DOk l k) : ∃ a b c d k', t_Deck_Canon [8, 4] l k = some (a, b, c, d, l, k', ()) ∧ CellOk (a, b, c, d) ∧ DOk l k' := by
  obtain ⟨s, k1, e1, s0, s1, d1⟩ := next_ok h (n := 6) (by decide) (by decide)
  unfold t_Deck_Canon
  simp only [e1, Option.bind_some]
  by_cases h4 : s = 4
  · subst h4
    obtain ⟨v, k2, e2, v0, v1, d2⟩ := next_ok d1 (n := 12) (by decide) (by decide)
    obtain ⟨r, o, e, e3, q⟩ := at84 v0 v1
    refine ⟨1, 0, r, o, k2, ?_, .inr ⟨rfl, rfl, .inr q⟩, d2⟩
    simp [total84, e2, e3]
  · have n4 : (s == 4) = false := by simpa using h4
    by_cases h5 : s = 5
    · subst h5
      obtain ⟨v, k2, e2, v0, v1, d2⟩ := next_ok d1 (n := 10) (by decide) (by decide)
      refine ⟨2, v, 0, 0, k2, ?_, .inl ⟨.inr rfl, rfl, rfl, v0, by show v ≤ 65535; omega⟩, d2⟩
      simp [e2, wk_u16 v0 (by omega)]
    · have n5 : (s == 5) = false := by simpa using h5
      obtain ⟨v, k2, e2, v0, v1, d2⟩ := word_ok d1
      refine ⟨0, v, 0, 0, k2, ?_, .inl ⟨.inl rfl, rfl, rfl, v0, v1⟩, d2⟩
      simp [n4, n5, e2]
end Go.Proofs.Ytkmbahlpmoljpaa
/- Plain laws: rows of cells, requests; no condition. -/
set_option linter.unusedVariables false
set_option linter.unusedSimpArgs false
namespace Go.Proofs.Ytkmbahlpmoljpaa
open Go.RowKit

theorem appOk_small {b n m : Nat} (hb : b ≤ 1000) (h : n + m ≤ 1000000) : appOk? b n m = true := by
  have h2 : (n + m) * b ≤ 1000000 * 1000 := Nat.mul_le_mul h hb
  simp only [appOk?, Bool.and_eq_true, decide_eq_true_eq]
  omega
theorem canons_ok {l : List Int} {k a : Int} (h : DOk l k) (ha : 0 ≤ a) (ha2 : a ≤ 1000) : ∃ xs k', t_Deck_Canons a l k = some (xs, l, k', ()) ∧ (∀ c ∈ xs, CellOk c) ∧ (xs.length : Int) ≤ a ∧ DOk l k' := by
  obtain ⟨n, k1, e1, n0, n1, d1⟩ := next_ok h (n := a + 1) (by omega) (by omega)
  unfold t_Deck_Canons
  rw [w64_id (x := a + 1) (by omega) (by omega)]
  simp only [e1, Option.bind_some]
  obtain ⟨t, e, k2, xs, b1, b2, rfl, g1, g2, g3⟩ := loopN_of (f := t_Deck_Canons_L1)
    (fun s => ∃ n k xs, s = (n, l, k, xs, ()) ∧ 0 ≤ n ∧ n + (xs.length : Int) ≤ a ∧ DOk l k ∧ ∀ c ∈ xs, CellOk c)
    (fun t => ∃ k xs b1 b2, t = (b1, b2, l, k, xs, ()) ∧ (∀ c ∈ xs, CellOk c) ∧ (xs.length : Int) ≤ a ∧ DOk l k)
    (fun s => s.1.toNat) (by
      rintro _ ⟨n, k, xs, rfl, h0, h1, hd, hx⟩
      unfold t_Deck_Canons_L1
      by_cases hn : n > 0
      · left
        obtain ⟨c1, c2, c3, c4, k2, e2, q2, d2⟩ := canon_ok hd
        obtain ⟨z, k3, e3, z0, z1, d3⟩ := next_ok d2 (n := 12) (by decide) (by decide)
        simp only [hn, decide_true, cond_true, e2, Option.bind_some, e3]
        have hlen : xs.length ≤ 1000 := by omega
        by_cases hz : z = 0
        · subst hz
          obtain ⟨y, k4, e4, y0, y1, d4⟩ := next_ok d3 (n := 65536) (by decide) (by decide)
          simp only [beq_self_eq_true, cond_true, e4, Option.bind_some]
          rw [appOk_small (by decide) (by simp; omega), w64_id (x := n - 1) (by omega) (by omega)]
          refine ⟨_, rfl, ⟨n - 1, k4, _, rfl, by omega, by simp; omega, d4, fun c hc => ?_⟩, by simp only; omega⟩
          rcases List.mem_append.1 hc with hc | hc
          · exact hx c hc
          · rw [List.mem_singleton.1 hc]
            exact .inr ⟨rfl, rfl, .inl ⟨rfl, y0, by show y ≤ 65535; omega⟩⟩
        · have hzb : (z == 0) = false := by simpa using hz
          simp only [hzb, cond_false, Option.bind_some]
          rw [appOk_small (by decide) (by simp; omega), w64_id (x := n - 1) (by omega) (by omega)]
          refine ⟨_, rfl, ⟨n - 1, k3, _, rfl, by omega, by simp; omega, d3, fun c hc => ?_⟩, by simp only; omega⟩
          rcases List.mem_append.1 hc with hc | hc
          · exact hx c hc
          · rw [List.mem_singleton.1 hc]; exact q2
      · right
        simp only [hn, decide_false, cond_false]
        exact ⟨_, rfl, k, xs, _, _, rfl, hx, by omega, hd⟩) NN (n, l, k1, [], ()) ⟨n, k1, [], rfl, n0, by simp; omega, d1, fun c hc => by simp at hc⟩ (by show n.toNat < NN; unfold NN; omega)
  exact ⟨xs, k2, by rw [e]; rfl, g1, g2, g3⟩
end Go.Proofs.Ytkmbahlpmoljpaa
