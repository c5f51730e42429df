/- Steps on typed data are steps on trees: an operation; no condition. -/
import Derived.Test.YtkmbahlpmoljpaaQj
import Derived.Test.YtkmbahlpmoljpaaProg
import Derived.KernelRfl
set_option linter.unusedVariables false
set_option linter.unusedSimpArgs false
namespace Go.Proofs.Ytkmbahlpmoljpaa
open Go.RowKit

section
variable {α β γ δ Y : Type}
theorem Sim.thenOpd {x : Opd} {g : XV den → XM den Option Y γ} {h : TV → SP δ} {f : γ → δ} (H : ∀ t, Sim (g t) (h (er t)) f) : Sim (X.bind (X.opd realA x) g) ((opd x).bind h) f := (sim_opd x).bind H
theorem sim_caseM (k : Nat) {s : SP β} {f : α → β} : ∀ (n : Nat) (g : Nat → XM den Option Y α) (i : Nat), (∀ j, i ≤ j → j < i + n → k = j → Sim (g j) s f) → Sim (X.caseM realA k n g i) s f := by
  intro n
  induction n with
  | zero => intro g i _; exact .fail
  | succ n ih =>
    intro g i h
    refine Sim.fork (fun hb => h i (Nat.le_refl _) (by omega) ?_) fun hb => ih g (i + 1) fun j h1 h2 h3 => h j (by omega) (by omega) h3
    have hb : Nat.beq k i = true := hb
    exact Nat.eq_of_beq_eq_true hb
theorem xs_ev1 (HT : List (Nat × CT)) (d : Nat) (op : TOp) : Sim (Y := Y) (X.ev1 realA HT d op) (ev1 d op) id := by
  cases op with
  | mov x =>
    refine Sim.thenOpd fun t => ?_
    cases t with
    | d t y =>
      cases ho : X.isOwT t with
      | true =>
        obtain ⟨c, hc⟩ := isOwX_ow (v := .d t y) ho
        rw [hc]
        show Sim (if X.isOwT t then _ else _) _ id
        rw [if_pos ho]
        cases x with
        | c v => exact sim_inst d false (by simp only [erL, hc])
        | _ => exact .fail
      | false =>
        show Sim (if X.isOwT t then _ else _) _ id
        rw [if_neg (by rw [ho]; simp)]
        have h1 : isOw (er (.d t y)) = false := by rw [isOwX_er]; exact ho
        cases t with
        | row o t => cases o <;> first | exact sim_wr d rfl | simp [X.isOwT] at ho
        | nilr o => cases o <;> first | exact sim_wr d rfl | simp [X.isOwT] at ho
        | _ => exact sim_wr d rfl
    | agg l =>
      show Sim (if l.any X.isOwX then _ else _) (if (erL l).any isOw then .fail else wr d (.agg (erL l))) id
      rw [any_ow]
      refine Sim.ite (fun _ => .fail) fun h => ?_
      rw [if_neg h]
      exact sim_wr d rfl
    | _ => exact sim_wr d rfl
  | asn mv x =>
    refine Sim.thenOpd fun t => ?_
    cases t with
    | ptr p vs => exact sim_wr d rfl
    | ip cs => exact sim_wr d rfl
    | fn f cap => exact sim_wr d rfl
    | d t y =>
      cases t with
      | row o t => cases o <;> exact (sim_takeV mv (.d _ y)).bind fun l => sim_inst d l.2 rfl
      | nilr o => cases o <;> exact (sim_takeV mv (.d _ y)).bind fun l => sim_inst d l.2 rfl
      | _ => exact (sim_takeV mv (.d _ y)).bind fun l => sim_inst d l.2 rfl
    | _ => exact (sim_takeV mv _).bind fun l => sim_inst d l.2 rfl
  | pick c a b => exact xs_pick HT d c a b
  | alloc z =>
    refine Sim.ite (fun h => ?_) fun _ => .fail
    show Sim _ (if (z.map ofCell).all okCell then _ else _) id
    rw [if_pos (okCells_er h)]
    exact Sim.new (cells_er z) (Sim.rdV fun g => sim_wr d rfl)
  | box n mv x =>
    refine Sim.thenOpd fun t => ?_
    rw [cellsX_er]
    refine (sim_takeL mv _).bind fun l => Sim.ite (fun h => ?_) fun _ => .fail
    rw [if_pos (by rw [erL_len]; exact h)]
    exact Sim.new rfl (Sim.rdV fun g => sim_wr d rfl)
  | load n a =>
    refine Sim.thenOpd fun t => ?_
    cases t with
    | ptr p vs =>
      refine (sim_chk p _ vs).bind fun _ => ?_
      cases n with
      | none => exact (sim_getPl p).bind fun t => (sim_peek1 p t).bind fun t' => sim_wr d rfl
      | some n => exact (sim_peekL p n).bind fun l => sim_wr d rfl
    | ip cs =>
      simp only [er]
      cases h : X.loadIp n cs with
      | none => exact .fail
      | some t => simp only [loadIp_ok h]; exact sim_wr d rfl
    | _ => exact .fail
  | store n mv a x =>
    refine Sim.thenOpd fun ta => ?_
    cases ta with
    | ptr p vs =>
      refine Sim.thenOpd fun tx => ?_
      rw [cellsX_er]
      refine (sim_takeL mv _).bind fun l => Sim.ite (fun h => ?_) fun _ => .fail
      rw [if_pos (by rw [erL_len]; exact h)]
      exact (sim_chk p _ vs).bind fun _ => sim_putL p l
    | _ => exact .fail
  | nilc x =>
    refine Sim.thenOpd fun t => ?_
    cases t with
    | ptr p vs => exact (sim_chk p _ vs).bind fun _ => sim_wr d rfl
    | ip cs => exact sim_wr d rfl
    | fn f cap => exact sim_wr d rfl
    | _ => exact .fail
  | fld off a =>
    refine Sim.thenOpd fun t => ?_
    cases t with
    | ptr p vs =>
      refine (sim_chk p _ vs).bind fun _ => Sim.ite (fun h => ?_) fun _ => .fail
      rw [if_pos (by rw [← erP_fits]; exact h)]
      exact sim_wr d (by simp only [er, erP_add])
    | ip cs =>
      refine Sim.ite (fun h => ?_) fun _ => .fail
      show Sim _ (if off < (erL cs).length then _ else _) id
      rw [if_pos (by rw [erL_len]; exact h)]
      exact sim_wr d (by simp only [er, erL_drop])
    | _ => exact .fail
  | fldv off n x =>
    refine Sim.thenOpd fun t => ?_
    cases t with
    | agg l =>
      cases n with
      | none =>
        refine Sim.ite (fun h => ?_) fun _ => .fail
        show Sim _ (if off < (erL l).length then _ else _) id
        rw [if_pos (by rw [erL_len]; exact h)]
        exact sim_wr d (erL_getD l off)
      | some n =>
        refine Sim.ite (fun h => ?_) fun _ => .fail
        show Sim _ (if off + n ≤ (erL l).length then _ else _) id
        rw [if_pos (by rw [erL_len]; exact h)]
        exact sim_wr d (by simp only [er, erL_take, erL_drop])
    | _ => exact .fail
  | idx sz x i =>
    refine Sim.thenOpd fun t => Sim.thenOpd fun ti => (sim_natOf ti).bind fun k => ?_
    cases t with
    | pk p vs =>
      refine (sim_chk p _ vs).bind fun _ => (sim_getPl p).bind fun t => ?_
      cases t with
      | d tt x => cases tt with
        | row o t => cases o with
          | false => exact .fail
          | true =>
            refine Sim.ite (fun h => ?_) fun _ => .fail
            refine Sim.get fun e he => ?_
            have hk : k < (x : List (den t)).length := by
              rcases Nat.lt_or_ge k (x : List (den t)).length with h | h
              · exact h
              · rw [List.getElem?_eq_none h] at he; cases he
            show Sim _ (if k < (List.map (enc t) (x : List (den t))).length && ((List.map (enc t) (x : List (den t))).getD k []).length == sz && decide (0 < sz) then _ else _) id
            rw [if_pos]
            · exact sim_wr d rfl
            · simp only [Bool.and_eq_true, decide_eq_true_eq, beq_iff_eq, List.length_map]
              refine ⟨⟨hk, ?_⟩, h.2⟩
              rw [List.getD_eq_getElem?_getD, List.getElem?_map, he]
              simp [enc_len, h.1]
        | _ => exact .fail
      | _ => exact .fail
    | pw p vs sz' lo n =>
      refine (sim_chk p _ vs).bind fun _ => (sim_getPl p).bind fun t => ?_
      cases t with
      | d tt x => cases tt with
        | row o t => cases o with
          | false => exact .fail
          | true =>
            refine Sim.ite (fun h => ?_) fun _ => .fail
            refine Sim.br fun hb => Sim.get fun e he => ?_
            have hb : Nat.blt k n = true := hb
            have hb : k < n := by simpa using hb
            have he : (x : List (den t))[lo + k]? = some e := he
            show Sim _ (if k < n && ((List.map (enc t) (x : List (den t))).getD (lo + k) []).length == sz && sz' == sz && decide (0 < sz) then _ else _) id
            rw [if_pos]
            · exact sim_wr d rfl
            · simp only [Bool.and_eq_true, decide_eq_true_eq, beq_iff_eq]
              refine ⟨⟨⟨hb, ?_⟩, h.2.2⟩, h.2.1⟩
              rw [List.getD_eq_getElem?_getD, List.getElem?_map, he]
              simp [enc_len, h.1]
        | _ => exact .fail
      | _ => exact .fail
    | d tt x => cases tt with
      | row o t => cases o with
        | true => exact .fail
        | false =>
          refine Sim.ite (fun h => ?_) fun _ => .fail
          refine Sim.get fun e he => ?_
          have he : (x : List (den t))[k]? = some e := he
          have hk : k < (x : List (den t)).length := by
            rcases Nat.lt_or_ge k (x : List (den t)).length with h | h
            · exact h
            · rw [List.getElem?_eq_none h] at he; cases he
          have hg : (List.map (enc t) (x : List (den t))).getD k [] = enc t e := by
            rw [List.getD_eq_getElem?_getD, List.getElem?_map, he]; rfl
          show Sim _ (if k < (List.map (enc t) (x : List (den t))).length && ((List.map (enc t) (x : List (den t))).getD k []).length == sz && decide (0 < sz) then wr d (.ip ((List.map (enc t) (x : List (den t))).getD k [])) else _) id
          rw [hg, if_pos]
          · exact sim_wr d (by simp only [er, split_er])
          · simp only [Bool.and_eq_true, decide_eq_true_eq, beq_iff_eq, List.length_map]
            exact ⟨⟨hk, by rw [enc_len]; exact h.1⟩, h.2⟩
      | nilr o => cases o <;> exact .fail
      | _ => exact .fail
    | _ => exact .fail
  | ext x i =>
    refine Sim.thenOpd fun t => ?_
    cases t with
    | tup l =>
      refine Sim.ite (fun h => ?_) fun _ => .fail
      show Sim _ (if i < (erL l).length then _ else _) id
      rw [if_pos (by rw [erL_len]; exact h)]
      exact sim_wr d (erL_getD l i)
    | _ => exact .fail
  | bin op x y => exact Sim.thenOpd fun a => Sim.thenOpd fun b => xs_bin d op a b
  | bnb neg x y =>
    refine Sim.thenOpd fun a => Sim.thenOpd fun b => ?_
    cases a with
    | d t a => cases t with
      | bool => cases b with
        | d u b => cases u with
          | bool =>
            show Sim _ (wr d (.v (.bool (if neg then !((a : Bool) == b) else (a : Bool) == b)))) id
            refine sim_wr d ?_
            cases neg <;> rfl
          | _ => exact .fail
        | _ => exact .fail
      | _ => exact .fail
    | _ => exact .fail
  | eqa ks neg x y =>
    refine Sim.thenOpd fun a => Sim.thenOpd fun b => ?_
    cases a with
    | agg a => cases b with
      | agg b =>
        simp only [er]
        cases h : X.eqAll realA ks a b with
        | none => exact .fail
        | some r =>
          obtain ⟨vs, ws, h1, h2, h3⟩ := eqAll_ok h
          show Sim _ ((spOpt (flatsOf (erL a))).bind fun xs => (spOpt (flatsOf (erL b))).bind fun ys => (spOpt (eqFlats ks xs ys)).bind fun r => wr d (.v (.bool (if neg then !r else r)))) id
          rw [h1, h2]
          show Sim _ ((spOpt (eqFlats ks vs ws)).bind fun r => wr d (.v (.bool (if neg then !r else r)))) id
          rw [h3]
          refine sim_wr d ?_
          cases neg <;> rfl
      | _ => exact .fail
    | _ => exact .fail
  | un op x =>
    refine Sim.thenOpd fun a => ?_
    cases a with
    | d t a => cases t with
      | bool => cases op <;> first | exact .fail | exact sim_wr d rfl
      | int k => cases op <;> first | exact .fail | exact sim_wr d rfl
      | _ => cases op <;> exact .fail
    | _ => cases op <;> exact .fail
  | conv k x =>
    refine Sim.thenOpd fun a => ?_
    cases a with
    | d t a => cases t with
      | int k0 => exact sim_wr d rfl
      | _ => exact .fail
    | _ => exact .fail
  | bld z mv parts =>
    refine Sim.ite (fun h => ?_) fun _ => .fail
    show Sim _ (if (z.map ofCell).all okCell then _ else _) id
    rw [if_pos (okCells_er h)]
    refine (sim_takeParts mv parts).bind fun l => (sim_names d l).bind fun l' => sim_wr d ?_
    simp only [er]
    rw [assembleX_er, cells_er]
  | bsl sz mv len parts =>
    refine (sim_takeParts mv _).bind fun l => Sim.ite (fun h => ?_) fun _ => .fail
    rw [if_pos h]
    refine Sim.opt fun v hv => sim_inst d false ?_
    simp only [erL, rowOf_ok hv, chunksX_er]
  | mks sz z l c =>
    refine Sim.ite (fun h => ?_) fun _ => .fail
    simp only [Bool.and_eq_true] at h
    show Sim _ (if (z.map ofCell).all okCell && z.length == sz then _ else _) id
    rw [if_pos (by simp only [Bool.and_eq_true]; exact ⟨okCells_er h.1, h.2⟩)]
    refine Sim.thenOpd fun tl => Sim.thenOpd fun tc => (sim_natOf tl).bind fun n => (sim_natOf tc).bind fun m => Sim.br fun hok => ?_
    have hok : mkOk? n m sz = true := hok
    rw [if_pos (by simpa [mkOk?] using hok)]
    refine Sim.opt fun v hv => sim_inst d false ?_
    simp only [erL, repOf_ok hv, cells_er, id_eq]
  | slc sz x lo hi =>
    refine Sim.thenOpd fun t => (sim_lenOf t).bind fun n => (sim_optNat lo 0).bind fun l => (sim_optNat hi n).bind fun h => Sim.br fun hok => ?_
    have hok : slOk? l h n = true := hok
    rw [if_pos (by simpa [slOk?] using hok)]
    cases t with
    | d tt x => cases tt with
      | row o t => cases o with
        | true => exact .fail
        | false =>
          refine Sim.ite (fun hs => ?_) fun _ => .fail
          show Sim _ (if (List.map (enc t) (x : List (den t))).all (fun e => e.length == sz) then _ else _) id
          rw [if_pos (by rw [← hs]; exact all_len t x)]
          refine sim_wr d ?_
          show TV.sl (List.map (enc t) ((List.drop l (x : List (den t))).take (h - l))) = _
          rw [List.map_take, List.map_drop]; rfl
      | nilr o => cases o with
        | false =>
          show Sim _ (if ([] : List (List TV)).all (fun e => e.length == sz) then wr d (.sl ((([] : List (List TV)).drop l).take (h - l))) else _) id
          rw [if_pos (by rfl)]
          exact sim_wr d (by simp [er, er1])
        | true => exact sim_inst d false rfl
      | _ => exact .fail
    | pk p vs =>
      refine (sim_getPl p).bind fun t => ?_
      cases t with
      | d tt x => cases tt with
        | row o t => cases o with
          | false => exact .fail
          | true =>
            refine Sim.ite (fun hs => ?_) fun _ => .fail
            show Sim _ (if (List.map (enc t) (x : List (den t))).all (fun e => e.length == sz) then _ else _) id
            rw [if_pos (by rw [← hs]; exact all_len t x)]
            exact sim_wr d rfl
        | nilr o => cases o with
          | false => exact .fail
          | true =>
            show Sim _ (if ([] : List (List TV)).all (fun e => e.length == sz) then _ else _) id
            rw [if_pos (by rfl)]
            exact sim_wr d rfl
        | _ => exact .fail
      | _ => exact .fail
    | pw p vs sz' lo' n' =>
      refine Sim.ite (fun hs => ?_) fun _ => .fail
      show Sim _ (if sz' = sz then _ else _) id
      rw [if_pos hs]
      exact sim_wr d rfl
    | _ => exact .fail
  | app sz bytes mv s x =>
    refine Sim.thenOpd fun ts => Sim.thenOpd fun tx => (sim_take1 true ts).bind fun s => (sim_take1 mv tx).bind fun x => ?_
    exact xs_app d sz bytes _ s x
  | len x => exact Sim.thenOpd fun t => (sim_lenOf t).bind fun n => sim_wr d rfl
  | lens x =>
    refine Sim.thenOpd fun t => ?_
    cases t with
    | d t s => cases t with
      | str => exact sim_wr d rfl
      | _ => exact .fail
    | _ => exact .fail
  | ixs x i =>
    refine Sim.thenOpd fun t => Sim.thenOpd fun ti => (sim_natOf ti).bind fun k => ?_
    cases t with
    | d t s => cases t with
      | str =>
        intro σ kk y hk
        obtain ⟨b, h1, h2⟩ := obind (show (strAt? s k).bind _ = some y from hk)
        unfold strAt? at h1
        obtain ⟨c, h3, h4⟩ := omap h1
        have h3 : (s : ByteArray)[k]? = some c := h3
        have := sim_wr (Y := Y) d (t := .d (.int .u8) b) (t' := .v (.int .u8 c.toNat)) (by rw [← h4]; rfl) σ kk y h2
        show ∃ a σ', (match (s : ByteArray)[k]? with | some b => wr d (.v (.int .u8 b.toNat)) | none => .fail).run (erS σ) = _ ∧ Noted σ σ' ((match (s : ByteArray)[k]? with | some b => wr d (.v (.int .u8 b.toNat)) | none => .fail).foot (erS σ)) ∧ _
        rw [h3]
        exact this
      | _ => exact .fail
    | _ => exact .fail
  | mm mx xs =>
    refine (sim_mapM (fun x => (sim_opd x).bind fun t => sim_intOf t) xs).bind fun l => ?_
    cases l with
    | nil => exact .fail
    | cons t r => cases t with
      | d t a => cases t with
        | int k =>
          simp only [List.map_cons, valX]
          cases h : X.mmAll realA mx k a r with
          | none => exact .fail
          | some m => simp only [mmAll_ok h]; exact sim_wr d rfl
        | _ => exact .fail
      | _ => exact .fail
  | mkf f caps =>
    refine (sim_mapM (fun x => (sim_opd x).bind fun t => sim_capOf t) caps).bind fun l => sim_wr d ?_
    simp only [er, erL_eq]
  | idxa n sz x i =>
    refine Sim.thenOpd fun t => Sim.thenOpd fun ti => (sim_natOf ti).bind fun k => ?_
    cases t with
    | ptr p vs =>
      refine (sim_chk p _ vs).bind fun _ => sim_caseM _ n _ 0 fun j hj0 hj hk => Sim.ite (fun h => ?_) fun _ => .fail
      subst hk
      simp only [id_eq]
      rw [if_pos (by rw [← erP_fits]; simp only [Bool.and_eq_true, decide_eq_true_eq]; exact ⟨by omega, h⟩)]
      exact sim_wr d (by simp only [er, erP_add])
    | _ => exact .fail
  | s2b x =>
    refine Sim.thenOpd fun t => ?_
    cases t with
    | d t s => cases t with
      | str =>
        refine Sim.br fun h => ?_
        have h : decide ((s : ByteArray).size < 4294967296) = true := h
        show Sim _ (if (s : ByteArray).size < 4294967296 then wr d (.sl (bytesC s)) else .fail) id
        rw [if_pos (by simpa using h)]
        refine sim_wr d ?_
        show TV.sl (List.map (enc (.int .u8)) (strB? s)) = _
        simp [strB?, bytesC, enc]
      | _ => exact .fail
    | _ => exact .fail
  | b2s x =>
    refine Sim.thenOpd fun t => (sim_take1 false t).bind fun t' => ?_
    cases t' with
    | d t c => cases t with
      | row o t => cases o with
        | false => cases t with
          | int k => cases k with
            | u8 =>
              intro σ kk y hk
              have hk : X.wr realA d (.d .str (bstr? c)) σ kk = some y := hk
              have hb : bstr (List.map (enc (.int .u8)) (c : List Int)) = some (bstr? c) := by
                have : bnums (List.map (enc (.int .u8)) (c : List Int)) = some c := by
                  have h9 : ∀ l : List Int, bnums (List.map (enc (.int .u8)) l) = some l := by
                    intro l
                    induction l with
                    | nil => rfl
                    | cons x l ih =>
                      show Option.map (x :: ·) (bnums (List.map (enc (.int .u8)) l)) = _
                      rw [ih]; rfl
                  exact h9 c
                simp only [bstr, this]; rfl
              have := sim_wr (Y := Y) d (t := .d .str (bstr? c)) (t' := .v (.string (bstr? c))) rfl σ kk y hk
              show ∃ a σ', ((spOpt (bstr (List.map (enc (.int .u8)) (c : List Int)))).bind fun s => wr d (.v (.string s))).run (erS σ) = _ ∧ Noted σ σ' (((spOpt (bstr (List.map (enc (.int .u8)) (c : List Int)))).bind fun s => wr d (.v (.string s))).foot (erS σ)) ∧ _
              rw [hb]
              exact this
            | _ => exact .fail
          | _ => exact .fail
        | true => exact .fail
      | _ => exact .fail
    | _ => exact .fail
  | cpy sz x y =>
    refine Sim.thenOpd fun t => Sim.thenOpd fun u => (xs_content u).bind fun c2 => ?_
    cases t with
    | pk p vs =>
      refine (sim_chk p _ vs).bind fun _ => Sim.rdC fun tv => ?_
      exact xs_cpy d sz p 0 none tv c2
    | pw p vs sz' lo n =>
      refine Sim.ite (fun hs => ?_) fun _ => .fail
      refine (sim_chk p _ vs).bind fun _ => Sim.rdC fun tv => ?_
      have := xs_cpy (Y := Y) d sz p lo (some n) tv c2
      simp only [if_pos hs]
      exact this
    | _ => exact .fail
  | call k f args => exact .fail
end
end Go.Proofs.Ytkmbahlpmoljpaa
/- Calls on typed data are calls on trees; no condition. -/
set_option linter.unusedVariables false
set_option linter.unusedSimpArgs false
namespace Go.Proofs.Ytkmbahlpmoljpaa
open Go.RowKit

/-! ## Data as told by shapes -/
theorem samePl_er {p : XP fun _ => Unit} {q : XP den} (h : samePl p q = true) : erP (plOf p) = erP q := by
  simp only [samePl, Bool.and_eq_true, beq_iff_eq] at h
  obtain ⟨⟨⟨h1, h2⟩, h3⟩, h4⟩ := h
  obtain ⟨r, o, hs⟩ := q
  cases hs with
  | nil => simp only [erP, plOf, h1, h2]
  | cons => simp [XP.bare] at h4
theorem flatB_eq {x y : Value} (h : flatB x y = true) : x = y := by
  unfold flatB at h
  split at h <;> first | rfl | cases h
mutual
theorem conv_er : (s : Sh) → (x : XV den) → (r : List CT) → (h : HL den r) → (h' : HL den (lv s r)) → conv realA s x r h = some h' → er (fill s r h').1 = er x ∧ (fill s r h').2 = h
  | .d u z, x, r, h, h', hc => by
    cases x with
    | d t y =>
      have hc : (asT realA t u y).map (fun w => (w, h)) = some h' := hc
      obtain ⟨w, h1, h2⟩ := omap hc
      have e1 : h'.1 = w := by rw [← h2]
      have e2 : h'.2 = h := by rw [← h2]
      refine ⟨?_, e2⟩
      show er1 u h'.1 = er1 t y
      rw [e1]
      exact asT_er h1
    | _ => exact absurd (show (none : Option (HL den _)) = some h' from hc) (by simp)
  | .k z, x, r, h, h', hc => by
    cases x with
    | k y =>
      have hc : (if flatB z y then some h else none) = some h' := hc
      by_cases hb : flatB z y = true
      · rw [if_pos hb] at hc
        injection hc with hc
        rw [flatB_eq hb]
        exact ⟨rfl, hc.symm⟩
      · rw [if_neg hb] at hc; cases hc
    | _ => exact absurd (show (none : Option (HL den _)) = some h' from hc) (by simp)
  | .dead, x, r, h, h', hc => by
    cases x with
    | dead =>
      have hc : some h = some h' := hc
      injection hc with hc
      exact ⟨rfl, hc.symm⟩
    | _ => exact absurd (show (none : Option (HL den _)) = some h' from hc) (by simp)
  | .ptr p vs, x, r, h, h', hc => by
    cases x with
    | ptr q ws =>
      have hc : (if samePl p q && vs == ws then some h else none) = some h' := hc
      by_cases hb : (samePl p q && vs == ws) = true
      · rw [if_pos hb] at hc
        injection hc with hc
        simp only [Bool.and_eq_true, beq_iff_eq] at hb
        refine ⟨?_, hc.symm⟩
        show TV.ptr (erP (plOf p)) vs = TV.ptr (erP q) ws
        rw [samePl_er hb.1, hb.2]
      · rw [if_neg hb] at hc; cases hc
    | _ => exact absurd (show (none : Option (HL den _)) = some h' from hc) (by simp)
  | .pk p vs, x, r, h, h', hc => by
    cases x with
    | pk q ws =>
      have hc : (if samePl p q && vs == ws then some h else none) = some h' := hc
      by_cases hb : (samePl p q && vs == ws) = true
      · rw [if_pos hb] at hc
        injection hc with hc
        simp only [Bool.and_eq_true, beq_iff_eq] at hb
        refine ⟨?_, hc.symm⟩
        show TV.pk (erP (plOf p)) vs = TV.pk (erP q) ws
        rw [samePl_er hb.1, hb.2]
      · rw [if_neg hb] at hc; cases hc
    | _ => exact absurd (show (none : Option (HL den _)) = some h' from hc) (by simp)
  | .pw p vs sz lo n, x, r, h, h', hc => by cases x <;> exact absurd (show (none : Option (HL den _)) = some h' from hc) (by simp)
  | .ip l, x, r, h, h', hc => by
    cases x with
    | ip l' =>
      have := convL_er l l' r h h' hc
      exact ⟨congrArg TV.ip this.1, this.2⟩
    | _ => exact absurd (show (none : Option (HL den _)) = some h' from hc) (by simp)
  | .agg l, x, r, h, h', hc => by
    cases x with
    | agg l' =>
      have := convL_er l l' r h h' hc
      exact ⟨congrArg TV.agg this.1, this.2⟩
    | _ => exact absurd (show (none : Option (HL den _)) = some h' from hc) (by simp)
  | .tup l, x, r, h, h', hc => by
    cases x with
    | tup l' =>
      have := convL_er l l' r h h' hc
      exact ⟨congrArg TV.tup this.1, this.2⟩
    | _ => exact absurd (show (none : Option (HL den _)) = some h' from hc) (by simp)
  | .fn f l, x, r, h, h', hc => by
    cases x with
    | fn f' l' =>
      have hc : (if f = f' then convL realA l l' r h else none) = some h' := hc
      by_cases hb : f = f'
      · subst hb
        rw [if_pos rfl] at hc
        have := convL_er l l' r h h' hc
        exact ⟨congrArg (TV.fn f) this.1, this.2⟩
      · rw [if_neg hb] at hc; cases hc
    | _ => exact absurd (show (none : Option (HL den _)) = some h' from hc) (by simp)
theorem convL_er : (s : List Sh) → (x : List (XV den)) → (r : List CT) → (h : HL den r) → (h' : HL den (lvL s r)) → convL realA s x r h = some h' → erL (fillL s r h').1 = erL x ∧ (fillL s r h').2 = h
  | [], x, r, h, h', hc => by
    cases x with
    | nil =>
      have hc : some h = some h' := hc
      injection hc with hc
      exact ⟨rfl, hc.symm⟩
    | cons => exact absurd (show (none : Option (HL den _)) = some h' from hc) (by simp)
  | s :: ss, x, r, h, h', hc => by
    cases x with
    | nil => exact absurd (show (none : Option (HL den _)) = some h' from hc) (by simp)
    | cons x xs =>
      have hc : (convL realA ss xs r h).bind (fun h1 => conv realA s x (lvL ss r) h1) = some h' := hc
      obtain ⟨h1, hc1, hc2⟩ := obind hc
      obtain ⟨e1, e2⟩ := convL_er ss xs r h h1 hc1
      obtain ⟨e3, e4⟩ := conv_er s x (lvL ss r) h1 h' hc2
      have e5 : fillL (s :: ss) r h' = ((fill s (lvL ss r) h').1 :: (fillL ss r (fill s (lvL ss r) h').2).1, (fillL ss r (fill s (lvL ss r) h').2).2) := rfl
      rw [e5, e4]
      refine ⟨?_, e2⟩
      show er _ :: erL _ = er x :: erL xs
      rw [e3, e1]
end
theorem convP_er : ∀ {s : List (Nat × List Sh)} {x : List (Nat × List (XV den))} {r : List CT} {h : HL den r} {h' : HL den (lvP s r)}, X.convP realA s x r h = some h' → erC (fillP s r h').1 = erC x ∧ (fillP s r h').2 = h := by
  intro s
  induction s with
  | nil =>
    intro x r h h' hc
    cases x with
    | nil =>
      have hc : some h = some h' := hc
      injection hc with hc
      exact ⟨rfl, hc.symm⟩
    | cons => exact absurd (show (none : Option (HL den _)) = some h' from hc) (by simp)
  | cons s ss ih =>
    intro x r h h' hc
    cases x with
    | nil => exact absurd (show (none : Option (HL den _)) = some h' from hc) (by simp)
    | cons x xs =>
      have hc : (if s.1 = x.1 then (X.convP realA ss xs r h).bind (fun h1 => convL realA s.2 x.2 (lvP ss r) h1) else none) = some h' := hc
      by_cases hk : s.1 = x.1
      · rw [if_pos hk] at hc
        · obtain ⟨h1, hc1, hc⟩ := obind hc
          obtain ⟨e1, e2⟩ := ih hc1
          obtain ⟨e3, e4⟩ := convL_er s.2 x.2 (lvP ss r) h1 h' hc
          have e5 : fillP (s :: ss) r h' = ((s.1, (fillL s.2 (lvP ss r) h').1) :: (fillP ss r (fillL s.2 (lvP ss r) h').2).1, (fillP ss r (fillL s.2 (lvP ss r) h').2).2) := rfl
          rw [e5, e4]
          refine ⟨?_, e2⟩
          show (s.1, erL _) :: erC _ = (x.1, erL x.2) :: erC xs
          rw [e3, e1, hk]
      · rw [if_neg hk] at hc; cases hc
theorem convT_er : ∀ {s : List (Nat × Sh)} {x : List (Nat × XV den)} {r : List CT} {h : HL den r} {h' : HL den (lvT s r)}, X.convT realA s x r h = some h' → (fillT s r h').1.map (fun x => (x.1, er x.2)) = x.map (fun x => (x.1, er x.2)) ∧ (fillT s r h').2 = h := by
  intro s
  induction s with
  | nil =>
    intro x r h h' hc
    cases x with
    | nil =>
      have hc : some h = some h' := hc
      injection hc with hc
      exact ⟨rfl, hc.symm⟩
    | cons => exact absurd (show (none : Option (HL den _)) = some h' from hc) (by simp)
  | cons s ss ih =>
    intro x r h h' hc
    cases x with
    | nil => exact absurd (show (none : Option (HL den _)) = some h' from hc) (by simp)
    | cons x xs =>
      have hc : (if s.1 = x.1 then (X.convT realA ss xs r h).bind (fun h1 => conv realA s.2 x.2 (lvT ss r) h1) else none) = some h' := hc
      by_cases hk : s.1 = x.1
      · rw [if_pos hk] at hc
        · obtain ⟨h1, hc1, hc⟩ := obind hc
          obtain ⟨e1, e2⟩ := ih hc1
          obtain ⟨e3, e4⟩ := conv_er s.2 x.2 (lvT ss r) h1 h' hc
          have e5 : fillT (s :: ss) r h' = ((s.1, (fill s.2 (lvT ss r) h').1) :: (fillT ss r (fill s.2 (lvT ss r) h').2).1, (fillT ss r (fill s.2 (lvT ss r) h').2).2) := rfl
          rw [e5, e4]
          refine ⟨?_, e2⟩
          simp only [List.map_cons]
          rw [e3, e1, hk]
      · rw [if_neg hk] at hc; cases hc
theorem sameVr_eq : ∀ {a b : List (Key × Nat)}, X.sameVr a b = true → a = b := by
  intro a
  induction a with
  | nil => intro b h; cases b with | nil => rfl | cons => simp [X.sameVr] at h
  | cons x a ih =>
    intro b h
    cases b with
    | nil => simp [X.sameVr] at h
    | cons y b =>
      simp only [X.sameVr, Bool.and_eq_true, beq_iff_eq] at h
      obtain ⟨⟨h1, h2⟩, h3⟩ := h
      rw [ih h3]
      obtain ⟨a1, a2⟩ := x
      obtain ⟨b1, b2⟩ := y
      simp only at h1 h2
      rw [h1, h2]
theorem convS_er {s : Shs} {σ : XS den} {u : HL den []} {h : HL den (lvS s)} (hc : X.convS realA s σ u = some h) : erS (fillS s h) = erS σ := by
  unfold X.convS at hc
  by_cases hv : X.sameVr s.vr σ.vr = true
  · rw [if_pos hv] at hc
    obtain ⟨h1, hc1, hc⟩ := obind hc
    obtain ⟨e1, e2⟩ := convP_er hc1
    obtain ⟨e3, e4⟩ := convT_er hc
    unfold erS fillS
    simp only
    rw [e3, e4, e1, sameVr_eq hv]
  · rw [if_neg hv] at hc; cases hc
theorem convIn_er {c : Ctr} {vals : List (XV den)} {pts : List (Nat × List (XV den))} {u : HL den []} {h : HL den (lvL c.ins (lvP c.pts []))} (hc : X.convIn realA c vals pts u = some h) :
    erL (fillL c.ins _ h).1 = erL vals ∧ erC (fillP c.pts [] (fillL c.ins _ h).2).1 = erC pts := by
  unfold X.convIn at hc
  obtain ⟨h1, hc1, hc⟩ := obind hc
  obtain ⟨e1, e2⟩ := convP_er hc1
  obtain ⟨e3, e4⟩ := convL_er _ _ _ _ _ hc
  rw [e4]
  exact ⟨e3, e1⟩
theorem sameSh_eq : ∀ {a b : List RSh}, X.sameSh a b = true → a = b := by
  intro a
  induction a with
  | nil => intro b h; cases b with | nil => rfl | cons => simp [X.sameSh] at h
  | cons x a ih =>
    intro b h
    cases b with
    | nil => cases x <;> simp [X.sameSh] at h
    | cons y b =>
      cases x <;> cases y <;> simp [X.sameSh] at h
      · rw [ih h]
      · rw [h.1, ih h.2]
theorem injO_er {cells : List (XV den)} {sh : List RSh} {pts : List (Nat × List (XV den))} {u : HL den []} : ∀ {outs : List XO} {i : Nat} {h : HL den (nthL (outs.map lvO) i)}, X.injO realA cells sh pts u outs = some ⟨i, h⟩ → ∃ x, fillOuts outs i h = some x ∧ erL x.1 = erL cells ∧ x.2.1 = sh ∧ erC x.2.2 = erC pts := by
  intro outs
  induction outs with
  | nil => intro i h hc; simp [X.injO] at hc
  | cons o outs ih =>
    intro i h hc
    simp only [X.injO] at hc
    split at hc
    · rename_i h1 hc1
      injection hc with hc
      injection hc with h2 h3
      subst h2
      have h3 := eq_of_heq h3
      subst h3
      refine ⟨_, rfl, ?_⟩
      unfold X.convO at hc1
      by_cases hs : X.sameSh o.sh sh = true
      · rw [if_pos hs] at hc1
        obtain ⟨h4, hc4, hc1⟩ := obind hc1
        obtain ⟨e1, e2⟩ := convP_er hc4
        obtain ⟨e3, e4⟩ := convL_er _ _ _ _ _ hc1
        refine ⟨e3, sameSh_eq hs, ?_⟩
        show erC (fillP o.pts [] (fillL o.cells _ h1).2).1 = _
        rw [e4]; exact e1
      · rw [if_neg hs] at hc1; cases hc1
    · split at hc
      · rename_i x hx
        injection hc with hc
        injection hc with h2 h3
        subst h2
        have h3 := eq_of_heq h3
        subst h3
        exact ih hx
      · simp at hc
theorem exEq_eq {a b : TExit} (h : X.exEq a b = true) : a = b := by
  cases a <;> cases b <;> simp [X.exEq] at h
  · rfl
  · rw [h]
  · rfl
theorem injE_er {e : TExit} {σ : XS den} {u : HL den []} : ∀ {outs : List (TExit × Shs)} {i : Nat} {h : HL den (nthL (outs.map fun x => lvS x.2) i)}, X.injE realA e σ u outs = some ⟨i, h⟩ → ∃ x, fillEx outs i h = some x ∧ x.1 = e ∧ erS x.2 = erS σ := by
  intro outs
  induction outs with
  | nil => intro i h hc; simp [X.injE] at hc
  | cons o outs ih =>
    intro i h hc
    simp only [X.injE] at hc
    split at hc
    · rename_i h1 hc1
      injection hc with hc
      injection hc with h2 h3
      subst h2
      have h3 := eq_of_heq h3
      subst h3
      refine ⟨_, rfl, ?_⟩
      split at hc1
      · rename_i he
        exact ⟨exEq_eq he, convS_er hc1⟩
      · simp at hc1
    · split at hc
      · rename_i x hx
        injection hc with hc
        injection hc with h2 h3
        subst h2
        have h3 := eq_of_heq h3
        subst h3
        exact ih hx
      · simp at hc
theorem elimOut_map {α β : Type} (G : α → β) : ∀ (ls : List (List CT)) (o : OutT ls) (f : (i : Nat) → HL den (nthL ls i) → α), elimOut ls o (fun i h => G (f i h)) = G (elimOut ls o f) := by
  intro ls
  induction ls with
  | nil => intro o; cases o
  | cons l ls ih =>
    intro o f
    cases ls with
    | nil => rfl
    | cons m r =>
      cases o with
      | inl h => rfl
      | inr o => exact ih o fun i h => f (i + 1) h
theorem elim_mkOut {α : Type} : ∀ {ls : List (List CT)} {i : Nat} {h : HL den (nthL ls i)} {o : OutT ls} (f : (i : Nat) → HL den (nthL ls i) → α), mkOut ls i h = some o → elimOut ls o f = f i h := by
  intro ls
  induction ls with
  | nil => intro i h o f hm; simp [mkOut] at hm
  | cons l ls ih =>
    intro i h o f hm
    cases ls with
    | nil =>
      cases i with
      | zero => cases hm; rfl
      | succ i => simp [mkOut] at hm
    | cons m r =>
      cases i with
      | zero => cases hm; rfl
      | succ i =>
        simp only [mkOut] at hm
        obtain ⟨o', h1, rfl⟩ := omap hm
        exact ih (fun i h => f (i + 1) h) h1
/-- What a function does, told by its contract. -/
def CtrOk (F : Callee) (c : Ctr) : Prop := ∀ (h : HL den (lvL c.ins (lvP c.pts []))) (o : OutT (c.outs.map lvO)) (x : List (XV den) × List RSh × List (Nat × List (XV den))), c.g h = some o → elimOut (c.outs.map lvO) o (fun i ho => fillOuts c.outs i ho) = some x →
  F c.f (erL (fillL c.ins _ h).1) (erC (fillP c.pts [] (fillL c.ins _ h).2).1) = some (⟨erL x.1, x.2.1⟩, erC x.2.2)
end Go.Proofs.Ytkmbahlpmoljpaa
/- Calls on typed data are calls on trees: arguments, results; no condition. -/
set_option linter.unusedVariables false
set_option linter.unusedSimpArgs false
namespace Go.Proofs.Ytkmbahlpmoljpaa
open Go.RowKit

section
variable {α β γ δ Y : Type}
theorem imm_row (l : List (XV den)) {l' : List (XV den)} (h : X.immXL realA l = some l') : erL l' = (erL l).map TV.imm := immXL_er h
theorem sim_argV (x : Option Nat × Opd) : Sim (Y := Y) (X.argV realA x) (argV x) er := by
  refine Sim.thenOpd fun t => ?_
  have gen : ∀ t : XV den, Sim (Y := Y) (X.bind (X.takeV realA false t) fun l => X.bind (X.optM realA (X.immXL realA l.1)) fun l' => X.ret (X.shapedX l.2 l')) ((takeV false (er t)).bind fun l => .ret (shaped l.2 (l.1.map TV.imm))) er := fun t =>
    (sim_takeV false t).bind fun l => Sim.opt fun l' hl => .ret (by rw [shapedX_er, immXL_er hl])
  have nil : ∀ {s : SP TV} (t : CT) (y : den (.row true t)), Sim (Y := Y) (X.bind (X.takeV realA false (.d (.row true t) y)) fun l => X.bind (X.optM realA (X.immXL realA l.1)) fun l' => X.ret (X.shapedX l.2 l')) s er := fun t y σ k o hk => by cases hk
  refine Sim.ite (fun h => ?_) fun h => ?_
  · have h2 : (x.1 == some 0 && isNm (er t)) = true := by
      simp only [Bool.and_eq_true] at h ⊢
      refine ⟨h.1, ?_⟩
      have h3 := h.2
      cases t with
      | pk p vs => rfl
      | d t y => cases t with
        | nilr o => cases o with
          | true => rfl
          | false => simp [X.isNmX] at h3
        | _ => simp [X.isNmX] at h3
      | _ => simp [X.isNmX] at h3
    rw [if_pos h2]
    exact .ret rfl
  · have keep : ∀ {s : SP TV}, isNm (er t) = X.isNmX t → Sim (Y := Y) (X.argV0 realA t) s er → Sim (Y := Y) (X.argV0 realA t) (if (x.1 == some 0 && isNm (er t)) = true then SP.ret (er t) else s) er := fun he hs => by
      rw [he, if_neg h]; exact hs
    cases t with
    | ip cs => exact keep rfl (.ret rfl)
    | fn f cap => exact keep rfl (.ret rfl)
    | ptr p vs => exact keep rfl (.ret rfl)
    | d t y => cases t with
      | row o t => cases o with
        | true => exact nil t y
        | false => exact keep rfl (gen _)
      | nilr o => cases o <;> exact keep rfl (gen _)
      | nat => exact fun σ k o hk => by cases hk
      | pair a b => exact fun σ k o hk => by cases hk
      | _ => exact keep rfl (gen _)
    | _ => exact keep rfl (gen _)
theorem sim_argVs : ∀ l : List (Option Nat × Opd), Sim (Y := Y) (X.argVs realA l) (argVs l) erL := by
  intro l
  induction l with
  | nil => exact .ret rfl
  | cons x r ih => exact (sim_argV x).bind fun t => ih.bind fun l => .ret rfl
theorem sim_takeOwns : ∀ (l : List (Option Nat × XV den)) (i : Nat), Sim (Y := Y) (X.takeOwns realA i l) (takeOwns i (l.map fun x => (x.1, er x.2))) (List.map fun x => (x.1, er x.2)) := by
  intro l
  induction l with
  | nil => intro i; exact .ret rfl
  | cons x l ih =>
    intro i
    obtain ⟨n, t⟩ := x
    cases n with
    | none => cases t with
      | d t y => cases t with
        | row o t => cases o <;> exact ih (i + 1)
        | nilr o => cases o <;> exact ih (i + 1)
        | nat => exact ih (i + 1)
        | pair a b => exact ih (i + 1)
        | _ => exact ih (i + 1)
      | _ => exact ih (i + 1)
    | some n => cases n with
      | zero => cases t with
        | pk p vs =>
          refine (sim_take1 true (.pk p vs)).bind fun t => Sim.ite (fun h => ?_) fun _ => .fail
          obtain ⟨c, hc⟩ := isOwX_ow h
          have h2 : isOw (er t) = true := by rw [hc]; rfl
          rw [if_pos h2]
          exact (ih (i + 1)).bind fun q => .ret rfl
        | d t y => cases t with
          | row o t => cases o <;> exact ih (i + 1)
          | nilr o => cases o <;> exact ih (i + 1)
          | nat => exact ih (i + 1)
          | pair a b => exact ih (i + 1)
          | _ => exact ih (i + 1)
        | _ => exact ih (i + 1)
      | succ n => cases t with
        | d t y => cases t with
          | row o t => cases o <;> exact ih (i + 1)
          | nilr o => cases o <;> exact ih (i + 1)
          | nat => exact ih (i + 1)
          | pair a b => exact ih (i + 1)
          | _ => exact ih (i + 1)
        | _ => exact ih (i + 1)
theorem sim_grabB (r : Nat) : ∀ (n o : Nat), Sim (Y := Y) (X.grabB realA r o n) (grabL ⟨r, o, []⟩ n) erL := by
  intro n
  induction n with
  | zero => intro o; exact .ret rfl
  | succ n ih =>
    intro o
    cases n with
    | zero =>
      show Sim _ ((getPl ⟨r, o, []⟩).bind fun t => (peek1 ⟨r, o, []⟩ t).bind fun t' => (take1 true t').bind fun t2 => .ret [t2]) erL
      refine Sim.rdC (h := fun tv => SP.bind _ _) fun t => (sim_peek1 ⟨r, o, []⟩ t).bind fun t' => (sim_take1 true t').bind fun t2 => ?_
      exact (Sim.ret (a := []) (b := []) (f := erL) rfl).bind (h := fun l => .ret (er t2 :: l)) fun l => .ret rfl
    | succ n =>
      show Sim _ ((getPl ⟨r, o, []⟩).bind fun t => (peek1 ⟨r, o, []⟩ t).bind fun t' => (take1 true t').bind fun t2 => (grabL ⟨r, o + 1, []⟩ (n + 1)).bind fun l => .ret (t2 :: l)) erL
      exact Sim.rdC (h := fun tv => SP.bind _ _) fun t => (sim_peek1 ⟨r, o, []⟩ t).bind fun t' => (sim_take1 true t').bind fun t2 => (ih (o + 1)).bind fun l => .ret rfl
theorem grab_plain {r off : Nat} {l : List Hop} {i sz : Nat} {tv : TV} {σ : St} (hc : σ.c r off = tv) : ∀ (cs : List (XV den)) (o : Nat), (∀ t ∈ cs, X.okCellX t = true ∧ X.isOwX t = false) → (∀ j v, cs[j]? = some v → getT tv (l ++ [(i, sz, o + j)]) = some (er v)) → 0 < cs.length → o + cs.length ≤ sz →
    (grabL ⟨r, off, l ++ [(i, sz, o)]⟩ cs.length).run σ = some (erL cs, σ) ∧ (∀ x ∈ ((grabL ⟨r, off, l ++ [(i, sz, o)]⟩ cs.length).foot σ).1, x = .c r off) ∧ ((grabL ⟨r, off, l ++ [(i, sz, o)]⟩ cs.length).foot σ).2 = [] := by
  intro cs
  induction cs with
  | nil => intro o _ _ h; simp at h
  | cons t cs ih =>
    intro o hp hg _ hsz
    have h3 : getT tv (l ++ [(i, sz, o)]) = some (er t) := hg 0 t rfl
    have hpl : (getPl ⟨r, off, l ++ [(i, sz, o)]⟩).run σ = some (er t, σ) := by
      simp only [getPl, SP.run, hc]
      rw [h3]; rfl
    have fpl : (getPl ⟨r, off, l ++ [(i, sz, o)]⟩).foot σ = ([.c r off], []) := by
      simp only [getPl, SP.foot, hc]
      rw [h3]; rfl
    obtain ⟨k1, k2⟩ := hp t (by simp)
    have hpk : peek1 ⟨r, off, l ++ [(i, sz, o)]⟩ (er t) = .ret (er t) := by
      rcases plainX_er k1 k2 with ⟨y, hy⟩ | ⟨c, hc⟩
      · rw [hy]; rfl
      · rw [hc]; rfl
    have htk : take1 true (er t) = .ret (er t) := by
      rcases plainX_er k1 k2 with ⟨y, hy⟩ | ⟨c, hc⟩
      · rw [hy]; rfl
      · rw [hc]; rfl
    simp only [List.length_cons] at hsz
    cases cs with
    | nil =>
      have e : grabL ⟨r, off, l ++ [(i, sz, o)]⟩ [t].length = (getPl ⟨r, off, l ++ [(i, sz, o)]⟩).bind fun t => (peek1 ⟨r, off, l ++ [(i, sz, o)]⟩ t).bind fun t' => (take1 true t').bind fun t2 => .ret [t2] := rfl
      rw [e, SP.run_bind, hpl, SP.foot_bind _ _ hpl, fpl]
      simp only [Option.bind_some, hpk, SP.bind, htk, SP.run, SP.foot]
      exact ⟨rfl, fun x hx => by simpa using hx, rfl⟩
    | cons u cs =>
      obtain ⟨q1, q2, q3⟩ := ih (o + 1) (fun t ht => hp t (by simp [ht])) (fun j v hv => by
        have := hg (j + 1) v (by simpa using hv)
        rw [show o + 1 + j = o + (j + 1) by omega]; exact this) (by simp) (by simp only [List.length_cons] at hsz ⊢; omega)
      have e : grabL ⟨r, off, l ++ [(i, sz, o)]⟩ (u :: cs).length.succ = (getPl ⟨r, off, l ++ [(i, sz, o)]⟩).bind fun t => (peek1 ⟨r, off, l ++ [(i, sz, o)]⟩ t).bind fun t' => (take1 true t').bind fun t2 => (grabL ⟨r, off, l ++ [(i, sz, o + 1)]⟩ (u :: cs).length).bind fun r => .ret (t2 :: r) := by
        show (getPl _).bind (fun t => (peek1 _ t).bind fun t' => (take1 true t').bind fun t2 => if Place.fits ⟨r, off, l ++ [(i, sz, o)]⟩ 1 then (grabL (Place.add ⟨r, off, l ++ [(i, sz, o)]⟩ 1) (cs.length + 1)).bind fun r => .ret (t2 :: r) else .fail) = _
        have h3 : decide (o + 1 < sz) = true := by simpa using (by simp only [List.length_cons] at hsz; omega : o + 1 < sz)
        rw [fits_hops, add_hops, h3]; rfl
      show (grabL _ (u :: cs).length.succ).run σ = _ ∧ _
      rw [show (t :: u :: cs).length = (u :: cs).length.succ from rfl, e, SP.run_bind, hpl, SP.foot_bind _ _ hpl, fpl]
      simp only [Option.bind_some, hpk, SP.bind, htk]
      rw [SP.run_bind, q1, SP.foot_bind _ _ q1, q3]
      refine ⟨rfl, fun x hx => ?_, rfl⟩
      simp only [SP.foot, List.append_nil, List.cons_append, List.nil_append, List.mem_cons] at hx
      rcases hx with h | h
      · exact h
      · exact q2 x h
theorem sim_grabL (p : XP den) (n : Nat) : Sim (Y := Y) (X.grabL realA p n) (grabL (erP p) n) erL := by
  obtain ⟨r, off, hops⟩ := p
  cases hops with
  | nil => exact sim_grabB r n off
  | cons h1 hs =>
    intro σ k y hk
    have hk : X.elemM realA (X.cOf σ r off) (h1 :: hs) (fun t e => if X.lastO (h1 :: hs) + n ≤ ctSz t ∧ 0 < n ∧ (((X.splitX realA t e).drop (X.lastO (h1 :: hs))).take n).all (fun t => X.okCellX t && !X.isOwX t) = true then X.ret (((X.splitX realA t e).drop (X.lastO (h1 :: hs))).take n) else X.fail realA) (X.lgR (.c r off) σ) k = some y := hk
    obtain ⟨l, i, sz, o, t, e, e1, e2, e3, e4⟩ := elemX_ok hk
    have e5 : X.lastO (h1 :: hs) = o := by rw [e1, lastO_append]
    rw [e5] at e4
    dsimp only at e4
    split at e4
    · rename_i hc
      have hlen : (X.splitX realA t e).length = sz := by rw [← erL_len, split_er, enc_len, e2]
      have hcl : (((X.splitX realA t e).drop o).take n).length = n := by rw [List.length_take, List.length_drop, hlen]; omega
      have ep : erP ⟨r, off, h1 :: hs⟩ = ⟨r, off, l ++ [(i, sz, o)]⟩ := by unfold erP; rw [e1]
      obtain ⟨q1, q2, q3⟩ := grab_plain (r := r) (off := off) (σ := erS σ) (tv := er (X.cOf σ r off)) (erS_c σ r off) _ o (fun t ht => by
        have := List.all_eq_true.1 hc.2.2 t ht
        simpa using this) (fun j v hv => e3 (o + j) v (by
        rw [nthX_eq]
        rw [List.getElem?_take] at hv
        split at hv
        · rw [List.getElem?_drop] at hv; exact hv
        · simp at hv)) (by rw [hcl]; exact hc.2.1) (by rw [hcl, ← e2]; exact hc.1)
      rw [hcl] at q1 q2 q3
      rw [ep]
      refine ⟨_, X.lgR (.c r off) σ, q1, ⟨fun x hx => ?_, fun x hx => ?_, fun x hx => by simp [X.lgR, hx], fun x hx => hx⟩, e4⟩
      · rw [q2 x hx]; simp [X.lgR]
      · rw [q3] at hx; simp at hx
    · cases e4
def erG (g : XGP den) : GP := ⟨g.i, erP g.p, g.vs, erL g.cells⟩
theorem isArgX_er {t : XV den} (h : X.isArgX t = true) : isArg (er t) = true := by
  cases t with
  | ip cs => rfl
  | fn f cap => cases cap with
    | nil => rfl
    | cons => simp [X.isArgX, X.okCellX] at h
  | agg l =>
    simp only [X.isArgX] at h
    simp only [er, isArg, erL_eq, List.all_map]
    rw [List.all_eq_true] at h ⊢
    intro x hx
    have := h x hx
    simp only [Bool.and_eq_true, Bool.not_eq_true'] at this
    simp only [Function.comp_apply]
    rcases plainX_er this.1 this.2 with ⟨y, hy⟩ | ⟨c, hc⟩
    · rw [hy]
    · rw [hc]
  | d t x =>
    by_cases hn : t = .nilr true
    · subst hn; rfl
    · have : X.okCellX (.d t x : XV den) = true ∧ X.isOwX (.d t x : XV den) = false := by
        cases t with
        | nilr o => cases o with
          | true => exact absurd rfl hn
          | false => simpa [X.isArgX] using h
        | _ => simpa [X.isArgX] using h
      rcases plainX_er this.1 this.2 with ⟨y, hy⟩ | ⟨c, hc⟩
      · rw [hy]; rfl
      · rw [hc]; rfl
  | k x => rfl
  | _ => simp [X.isArgX, X.okCellX] at h
theorem sim_grabs : ∀ (l : List (Option Nat × XV den)) (i : Nat), Sim (Y := Y) (X.grabs realA i l) (grabs i (l.map fun x => (x.1, er x.2))) (List.map erG) := by
  intro l
  induction l with
  | nil => intro i; exact .ret rfl
  | cons x l ih =>
    intro i
    obtain ⟨n, t⟩ := x
    have other : (∀ m p vs, (n, er t) ≠ (some m, TV.ptr p vs)) → (∀ p vs, (n, er t) ≠ (some 0, TV.pk p vs)) → Sim (Y := Y) (if X.isArgX t then X.grabs realA (i + 1) l else X.fail realA) (grabs i (((n, t) :: l).map fun x => (x.1, er x.2))) (List.map erG) := by
      intro hne hne2
      refine Sim.ite (fun h => ?_) fun _ => .fail
      have e : grabs i (((n, t) :: l).map fun x => (x.1, er x.2)) = if isArg (er t) then grabs (i + 1) (l.map fun x => (x.1, er x.2)) else .fail := by
        show grabs i ((n, er t) :: _) = _
        cases n with
        | none => rfl
        | some m => cases he : er t with
          | ptr p vs => exact absurd (by rw [he]) (hne m p vs)
          | pk p vs => cases m with
            | zero => exact absurd (by rw [he]) (hne2 p vs)
            | succ m => rfl
          | _ => cases m <;> rfl
      rw [e, if_pos (isArgX_er h)]
      exact ih (i + 1)
    cases n with
    | none => exact other (by intro m p vs h; cases h) (by intro p vs h; cases h)
    | some m => cases t with
      | pk p vs => cases m with
        | zero => exact ih (i + 1)
        | succ m => exact other (by intro m p vs h; cases h) (by intro p vs h; cases h)
      | ptr p vs => exact (sim_chk p _ vs).bind fun _ => (sim_grabL p m).bind fun l1 => (ih (i + 1)).bind fun q => .ret rfl
      | d t y => cases t with
        | row o t => cases m <;> cases o <;> exact other (by intro m p vs h; cases h) (by intro p vs h; cases h)
        | nilr o => cases m <;> cases o <;> exact other (by intro m p vs h; cases h) (by intro p vs h; cases h)
        | _ => cases m <;> exact other (by intro m p vs h; cases h) (by intro p vs h; cases h)
      | _ => cases m <;> exact other (by intro m p vs h; cases h) (by intro p vs h; cases h)
theorem sim_touch (p : XP den) : Sim (Y := Y) (X.touch realA p) (touch (erP p)) id := Sim.rdC fun tv => sim_wrC p.root p.off tv
theorem sim_rechk : ∀ q : List (XGP den), Sim (Y := Y) (X.rechk realA q) (rechk (q.map erG)) id := by
  intro q
  induction q with
  | nil => exact .ret rfl
  | cons g q ih => exact (sim_chk g.p _ g.vs).bind fun _ => (sim_touch g.p).bind fun _ => ih
theorem argT_er (i : Nat) (t : XV den) : er (X.argT i t) = argT i (er t) := by
  cases t with
  | d t y => cases t with
    | row o t => cases o <;> rfl
    | nilr o => cases o <;> rfl
    | _ => rfl
  | _ => rfl
theorem argTs_er : ∀ (l : List (XV den)) (i : Nat), erL (X.argTs i l) = argTs i (erL l) := by
  intro l
  induction l with
  | nil => intro i; rfl
  | cons t l ih => intro i; simp only [X.argTs, erL, argTs, ih, argT_er]
theorem isDeadX_er {t : XV den} (h : X.isDeadX t = false) : isDead (er t) = false := by
  cases t with
  | d t y => cases t with
    | row o t => cases o <;> rfl
    | nilr o => cases o <;> rfl
    | nat => simp [X.isDeadX, X.oneT] at h
    | pair a b => simp [X.isDeadX, X.oneT] at h
    | _ => rfl
  | dead => simp [X.isDeadX] at h
  | _ => rfl
theorem sim_putBack : ∀ q : List (XGP den × List (XV den)), Sim (Y := Y) (X.putBack realA q) (putBack (q.map fun x => (erG x.1, erL x.2))) id := by
  intro q
  induction q with
  | nil => exact .ret rfl
  | cons x q ih =>
    obtain ⟨g, l⟩ := x
    refine ih.bind fun _ => Sim.ite (fun h => ?_) fun _ => .fail
    obtain ⟨h1, h2, h3⟩ := h
    show Sim _ (if (erL l).length = (erL g.cells).length && (erL l).all fun t => !isDead t then putL (erP g.p) (erL l) else .fail) id
    rw [if_pos]
    · exact sim_putL g.p l
    · simp only [Bool.and_eq_true, decide_eq_true_eq, erL_len]
      refine ⟨h1, ?_⟩
      rw [erL_eq, List.all_map, List.all_eq_true]
      intro t ht
      have := List.all_eq_true.1 h3 t ht
      simp only [Bool.not_eq_true'] at this
      simp only [Function.comp_apply, isDeadX_er this, Bool.not_false]
theorem shapeR_er : ∀ (sh : List RSh) (l : List (XV den)), erL (X.shapeRX sh l) = shapeR sh (erL l) := by
  intro sh
  induction sh with
  | nil => intro l; rfl
  | cons s sh ih =>
    intro l
    cases s with
    | one =>
      simp only [X.shapeRX, erL, shapeR]
      rw [ih, erL_headD]
      cases l <;> rfl
    | agg n =>
      simp only [X.shapeRX, erL, shapeR, er]
      rw [ih, erL_take, erL_drop]
    | ptr p =>
      simp only [X.shapeRX, erL, shapeR, er]
      rw [ih]
theorem shapeT_er (sh : List RSh) (l : List (XV den)) : er (X.shapeTX sh l) = shapeT sh (erL l) := by
  unfold X.shapeTX shapeT
  rw [← shapeR_er]
  cases X.shapeRX sh l with
  | nil => rfl
  | cons x r => cases r <;> rfl
theorem sim_landR (dst : Option Nat) (cells : List (XV den)) (sh : List RSh) : Sim (Y := Y) (X.landR realA dst cells sh) (landR dst ⟨erL cells, sh⟩) id := by
  cases dst with
  | none => exact .ret rfl
  | some d => exact (sim_names d cells).bind fun l => sim_wr d (shapeT_er sh l)
theorem zip_er (q : List (XGP den)) (l : List (Nat × List (XV den))) : (q.zip (l.map (·.2))).map (fun x => (erG x.1, erL x.2)) = (q.map erG).zip ((erC l).map (·.2)) := by
  induction q generalizing l with
  | nil => rfl
  | cons g q ih =>
    cases l with
    | nil => rfl
    | cons x l => simp only [List.map_cons, List.zip_cons_cons, erC, ih]
theorem sim_callTB {F : Callee} (dst : Option Nat) (f : FuncId) (vals : List (XV den)) (q : List (XGP den)) (ow : List (Nat × XV den)) (u : HL den []) : ∀ (TB : List Ctr), (∀ c ∈ TB, CtrOk F c) → Sim (Y := Y) (X.callTB realA dst f vals q ow u TB) ((spOpt (F f (erL vals) ((q.map erG).map (fun g => (2 * g.i + 2, g.cells)) ++ (ow.map fun x => (x.1, er x.2)).map fun x => (2 * x.1 + 3, [x.2])))).bind fun r =>
        if r.2.map (·.1) = (q.map erG).map (fun g => 2 * g.i + 2) ++ (ow.map fun x => (x.1, er x.2)).map (fun x => 2 * x.1 + 3) && rshOk r.1.sh r.1.cells.length then (putBack ((q.map erG).zip (r.2.map (·.2)))).bind fun _ => landR dst r.1 else .fail) id := by
  intro TB
  induction TB with
  | nil => intro _; exact .fail
  | cons c TB ih =>
    intro hTB
    have hrest := ih fun c' hc' => hTB c' (by simp [hc'])
    unfold X.callTB
    cases hsel : (if c.f = f then X.convIn realA c vals (q.map (fun g => (2 * g.i + 2, g.cells)) ++ ow.map fun y => (2 * y.1 + 3, [y.2])) u else none) with
    | none => exact hrest
    | some h =>
      by_cases hf : c.f = f
      · rw [if_pos hf] at hsel
        obtain ⟨e1, e2⟩ := convIn_er hsel
        intro σ k y hk
        obtain ⟨o, ho, hk⟩ := obind (show (c.g h).bind _ = some y from hk)
        rw [elimOut_map (fun z => X.onOut realA z fun x => X.afterC realA dst q ow x σ k)] at hk
        cases hx : elimOut (c.outs.map lvO) o (fun i ho => fillOuts c.outs i ho) with
        | none => rw [hx] at hk; cases hk
        | some x =>
          rw [hx] at hk
          have hk : X.afterC realA dst q ow x σ k = some y := hk
          unfold X.afterC at hk
          have hF := hTB c (by simp) h o x ho hx
          have e3 : erC (q.map (fun g => (2 * g.i + 2, g.cells)) ++ ow.map fun y => (2 * y.1 + 3, [y.2])) = (q.map erG).map (fun g => (2 * g.i + 2, g.cells)) ++ (ow.map fun x => (x.1, er x.2)).map fun x => (2 * x.1 + 3, [x.2]) := by
            unfold erC
            rw [List.map_append, List.map_map, List.map_map, List.map_map, List.map_map]
            congr 1
          rw [e1, e2, e3, hf] at hF
          rw [hF]
          show ∃ a σ', (if (erC x.2.2).map (·.1) = (q.map erG).map (fun g => 2 * g.i + 2) ++ (ow.map fun x => (x.1, er x.2)).map (fun x => 2 * x.1 + 3) && rshOk x.2.1 (erL x.1).length then _ else _ : SP Unit).run (erS σ) = _ ∧ Noted σ σ' ((if (erC x.2.2).map (·.1) = (q.map erG).map (fun g => 2 * g.i + 2) ++ (ow.map fun x => (x.1, er x.2)).map (fun x => 2 * x.1 + 3) && rshOk x.2.1 (erL x.1).length then _ else _ : SP Unit).foot (erS σ)) ∧ _
          split at hk
          · rename_i hc
            rw [if_pos]
            · have h4 : Sim (Y := Y) (X.bind (X.putBack realA (q.zip (x.2.2.map (·.2)))) fun _ => X.landR realA dst x.1 x.2.1) ((putBack ((q.map erG).zip ((erC x.2.2).map (·.2)))).bind fun _ => landR dst ⟨erL x.1, x.2.1⟩) id := by
                rw [← zip_er]
                exact (sim_putBack _).bind fun _ => sim_landR dst x.1 x.2.1
              exact h4 σ k y hk
            · simp only [Bool.and_eq_true, decide_eq_true_eq, erL_len]
              refine ⟨?_, hc.2⟩
              have h5 : (erC x.2.2).map (·.1) = x.2.2.map (·.1) := by unfold erC; rw [List.map_map]; exact List.map_congr_left fun _ _ => rfl
              have h6 : (q.map erG).map (fun g => 2 * g.i + 2) = q.map (fun g => 2 * g.i + 2) := by rw [List.map_map]; exact List.map_congr_left fun _ _ => rfl
              have h7 : (ow.map fun x => (x.1, er x.2)).map (fun x => 2 * x.1 + 3) = ow.map (fun y => 2 * y.1 + 3) := by rw [List.map_map]; exact List.map_congr_left fun _ _ => rfl
              rw [h5, h6, h7]; exact hc.1
          · cases hk
      · rw [if_neg hf] at hsel; cases hsel
end
end Go.Proofs.Ytkmbahlpmoljpaa
/- Code on typed data is code on trees; no condition. -/
set_option linter.unusedVariables false
set_option linter.unusedSimpArgs false
namespace Go.Proofs.Ytkmbahlpmoljpaa
open Go.RowKit

section
variable {α β γ δ Y : Type}
theorem sim_callV {F : Callee} {TB : List Ctr} (hTB : ∀ c ∈ TB, CtrOk F c) (u : HL den []) (dst : Option Nat) (f : FuncId) (ns : List (Option Nat)) (vals : List (XV den)) : Sim (Y := Y) (X.callV realA TB u dst f ns vals) (callV F dst f ns (erL vals)) id := by
  have ez : ∀ (ns : List (Option Nat)) (vals : List (XV den)), (ns.zip vals).map (fun x => (x.1, er x.2)) = ns.zip (erL vals) := by
    intro ns
    induction ns with
    | nil => intro vals; rfl
    | cons n ns ih =>
      intro vals
      cases vals with
      | nil => rfl
      | cons v vals => simp only [List.zip_cons_cons, List.map_cons, erL, ih]
  unfold callV
  rw [← ez]
  refine (sim_takeOwns _ 0).bind fun ow => (sim_grabs _ 0).bind fun q => (sim_rechk q).bind fun _ => Sim.ite (fun h => ?_) fun _ => .fail
  rw [if_pos]
  · rw [← argTs_er]
    exact sim_callTB dst f _ q ow u TB hTB
  · rw [List.map_map, List.all_map]
    simp only [Bool.and_eq_true] at h ⊢
    refine ⟨h.1, ?_⟩
    rw [List.all_eq_true] at h ⊢
    intro g hg
    have := h.2 g hg
    simpa [erG, erL_len] using this
theorem sim_evBox (dst : Option Nat) (tm : List BxC) (vals : List (XV den)) (hok : tm.all X.boxOk = true) : Sim (Y := Y) (X.evBox realA dst tm vals) (evBox dst tm (erL vals)) id := by
  cases dst with
  | none => exact .fail
  | some d =>
    have e : erL (tm.map (X.bxX realA vals)) = tm.map (bxT (erL vals)) := by
      rw [erL_eq, List.map_map]
      refine List.map_congr_left fun b hb => ?_
      have := List.all_eq_true.1 hok b hb
      cases b with
      | arg i => exact erL_getD vals i
      | val x =>
        show er (X.cellX realA x) = .v x
        rw [cellX_er]
        simp only [X.boxOk] at this
        unfold ofCell
        split
        · simp at this
        · rw [if_pos]
          split at this
          · simp at this
          · exact this
    show Sim _ ((takeL false (tm.map (bxT (erL vals)))).bind _) id
    rw [← e]
    exact (sim_takeL false _).bind fun l => Sim.new rfl (Sim.rdV fun g => sim_wr d rfl)
theorem sim_see1 (x : XV den) : Sim (Y := Y) (X.see1 realA x) (see1 (er x)) er := by
  cases x with
  | d t y => cases t with
    | int k => exact .ret rfl
    | bool => exact .ret rfl
    | str => exact .ret rfl
    | nat => exact .fail
    | row o t => cases o <;> first | exact .fail | exact .ret rfl
    | nilr o => cases o <;> exact .ret rfl
    | pair a b => exact .fail
  | k y => exact .ret rfl
  | pk p vs =>
    refine (sim_chk p _ vs).bind fun _ => Sim.rdC fun tv => sim_getX fun v hv => ?_
    refine Sim.ite (fun ho => ?_) fun _ => .fail
    obtain ⟨c, hc⟩ := isOwX_ow ho
    have hv' : getT (er tv) (erP p).hops = some (.ow c) := by rw [← hc]; exact hv
    simp only [hv']
    intro σ k y hk
    cases hi : X.immX realA v with
    | none => rw [hi] at hk; cases hk
    | some v' =>
      rw [hi] at hk
      exact Sim.ret (a := v') (f := er) (by rw [immX_er hi, hc]) σ k y hk
  | _ => exact .fail
theorem sim_seeL : ∀ l : List (XV den), Sim (Y := Y) (X.seeL realA l) (seeL (erL l)) erL := by
  intro l
  induction l with
  | nil => exact .ret rfl
  | cons t r ih => exact (sim_see1 t).bind fun t' => ih.bind fun r' => .ret rfl
theorem sim_seeA (t : XV den) : Sim (Y := Y) (X.seeA realA t) (seeA (er t)) er := by
  have key := sim_see1 (Y := Y) t
  cases t with
  | agg l => exact (sim_seeL l).bind fun l' => .ret rfl
  | ip cs => exact .ret rfl
  | fn f cap => cases cap with
    | nil => exact .ret rfl
    | cons => exact .fail
  | d t y => cases t with
    | row o t => cases o <;> exact key
    | nilr o => cases o <;> exact key
    | _ => exact key
  | _ => exact key
theorem sim_seeAs : ∀ l : List Opd, Sim (Y := Y) (X.seeAs realA l) (seeAs l) erL := by
  intro l
  induction l with
  | nil => exact .ret rfl
  | cons x r ih => exact Sim.thenOpd fun t => (sim_seeA t).bind fun t' => ih.bind fun l => .ret rfl
theorem flatX_er {l : List (XV den)} (h : l.all X.flatX = true) : (erL l).all isFV = true := by
  rw [erL_eq, List.all_map, List.all_eq_true]
  intro x hx
  have := List.all_eq_true.1 h x hx
  cases x with
  | d t y => cases t <;> first | rfl | simp [X.flatX] at this
  | k y => exact this
  | _ => simp [X.flatX] at this
theorem sim_callB {F : Callee} (dst : Option Nat) (f : FuncId) (vals : List (XV den)) (u : HL den []) : ∀ (TB : List Ctr), (∀ c ∈ TB, CtrOk F c) → Sim (Y := Y) (X.callB realA dst f vals u TB) (callB F dst f (erL vals)) id := by
  intro TB
  induction TB with
  | nil => intro _; exact .fail
  | cons c TB ih =>
    intro hTB
    have hrest := ih fun c' hc' => hTB c' (by simp [hc'])
    unfold X.callB
    cases hsel : (if c.f = f then X.convIn realA c vals [] u else none) with
    | none => exact hrest
    | some h =>
      by_cases hf : c.f = f
      · rw [if_pos hf] at hsel
        obtain ⟨e1, e2⟩ := convIn_er hsel
        intro σ k y hk
        obtain ⟨o, ho, hk⟩ := obind (show (c.g h).bind _ = some y from hk)
        rw [elimOut_map (fun z => X.onOut realA z fun x => X.afterB realA dst x σ k)] at hk
        cases hx : elimOut (c.outs.map lvO) o (fun i ho => fillOuts c.outs i ho) with
        | none => rw [hx] at hk; cases hk
        | some x =>
          rw [hx] at hk
          have hk : X.afterB realA dst x σ k = some y := hk
          unfold X.afterB at hk
          have hF := hTB c (by simp) h o x ho hx
          rw [e1, e2, hf] at hF
          have hF : F f (erL vals) [] = some (⟨erL x.1, x.2.1⟩, erC x.2.2) := hF
          unfold callB
          rw [hF]
          show ∃ a σ', (if (erC x.2.2).length = 0 && (erL x.1).all isFV && rshOk x.2.1 (erL x.1).length then _ else _ : SP Unit).run (erS σ) = _ ∧ Noted σ σ' ((if (erC x.2.2).length = 0 && (erL x.1).all isFV && rshOk x.2.1 (erL x.1).length then _ else _ : SP Unit).foot (erS σ)) ∧ _
          split at hk
          · rename_i hc
            rw [if_pos]
            · cases dst with
              | none => exact Sim.ret (a := ()) (f := id) rfl σ k y hk
              | some d => exact sim_wr d (shapeT_er x.2.1 x.1) σ k y hk
            · simp only [Bool.and_eq_true, decide_eq_true_eq, erL_len]
              refine ⟨⟨?_, flatX_er hc.2.1⟩, hc.2.2⟩
              unfold erC
              rw [List.length_map]; exact hc.1
          · cases hk
      · rw [if_neg hf] at hsel; cases hsel
theorem sim_evCall {F : Callee} {TB : List Ctr} (hTB : ∀ c ∈ TB, CtrOk F c) (E : Env) (u : HL den []) (dst : Option Nat) (op : TOp) : Sim (Y := Y) (X.evCall realA E TB u dst op) (evCall E F dst op) id := by
  cases op with
  | call k f args =>
    cases f with
    | f f =>
      cases k with
      | false => exact (sim_seeAs _).bind fun vals => sim_callB dst f vals u TB hTB
      | true =>
      refine (sim_argVs _).bind fun vals => ?_
      cases hb : E.box f with
      | none => exact sim_callV hTB u dst f _ vals
      | some x =>
        refine Sim.ite (fun h => ?_) fun _ => .fail
        show Sim _ (if (erL vals).length = x.1 then evBox dst x.2 (erL vals) else .fail) id
        rw [if_pos (by rw [erL_len]; exact h.1)]
        exact sim_evBox dst x.2 vals h.2
    | t i =>
      refine Sim.rdT fun t => ?_
      cases t with
      | fn f caps =>
        refine (sim_argVs _).bind fun vals => ?_
        have := sim_callV (Y := Y) hTB u dst f (args.map (·.1) ++ capNs E f args.length caps.length) (vals ++ caps)
        rw [erL_append] at this
        show Sim _ (callV F dst f (args.map (·.1) ++ capNs E f args.length (erL caps).length) (erL vals ++ erL caps)) id
        rw [erL_len]
        exact this
      | d t y => cases t with
        | row o t => cases o <;> exact .fail
        | nilr o => cases o <;> exact .fail
        | _ => exact .fail
      | _ => exact .fail
    | c x => exact .fail
  | _ => exact .fail
theorem sim_op {F : Callee} {C : X.Cfg} (hTB : ∀ c ∈ C.TB, CtrOk F c) (u : HL den []) (dst : Option Nat) (op : TOp) : Sim (Y := Y) (X.evop realA C u dst op) (evop (evCall C.E F) dst op) id := by
  have key : ∀ d, Sim (Y := Y) (X.ev1 realA C.HT d op) (ev1 d op) id := fun d => xs_ev1 C.HT d op
  have kc := sim_evCall (Y := Y) hTB C.E u dst op
  cases op with
  | call k f args => exact kc
  | store n mv a x => cases dst with
    | none => exact key 0
    | some d => exact .fail
  | _ => cases dst with
    | none => exact .fail
    | some d => exact key d
theorem sim_setNo (dst : Option Nat) : Sim (Y := Y) (X.setNo realA dst) (setNo dst) id := by
  cases dst with
  | none => exact .ret rfl
  | some d => exact sim_wrT d (.tup [])
theorem known_er {σ : XS den} {j : Nat} {b : Bool} (h : X.tOf σ j = .d .bool b) : erS (X.known realA j b σ) = erS σ := by
  have h1 : aget σ.tm j = some (.d .bool b) := by
    unfold X.tOf at h
    cases hg : aget σ.tm j with
    | none => rw [hg] at h; cases h
    | some t => rw [hg] at h; exact congrArg some h
  have : aset σ.tm j (.d .bool b) = σ.tm := aset_same h1
  show (⟨(aset σ.tm j (.d .bool b)).map _, erC σ.ce, σ.vr⟩ : St) = _
  rw [this]; rfl
theorem sim_spOp {F : Callee} {C : X.Cfg} (hTB : ∀ c ∈ C.TB, CtrOk F c) (u : HL den []) (o : TOper) : Sim (Y := Y) (X.spOp realA C u o) (spOp (evCall C.E F) o) id := by
  unfold X.spOp spOp
  cases hg : o.guard with
  | none => exact sim_op hTB u o.dst o.op
  | some g =>
    obtain ⟨j, want⟩ := g
    intro σ k y hk
    cases ht : X.tOf σ j with
    | d t b => cases t with
      | bool =>
        have hk : (bif b then ((if want then X.evop realA C u o.dst o.op else X.setNo realA o.dst) (X.known realA j true (X.lgR (.t j) σ)) k) else ((if want then X.setNo realA o.dst else X.evop realA C u o.dst o.op) (X.known realA j false (X.lgR (.t j) σ)) k)) = some y := by
          have hk : X.guardX realA j want (X.evop realA C u o.dst o.op) (X.setNo realA o.dst) (X.tOf σ j) (X.lgR (.t j) σ) k = some y := hk
          rw [ht] at hk
          exact hk
        have key : ∀ (m : XM den Option Y Unit) (s : SP Unit), Sim m s id → m (X.known realA j b (X.lgR (.t j) σ)) k = some y → ∃ a σ', s.run (erS σ) = some (id a, erS σ') ∧ Noted σ σ' (.t j :: (s.foot (erS σ)).1, (s.foot (erS σ)).2) ∧ k a σ' = some y := by
          intro m s hm h
          have e : erS (X.known realA j b (X.lgR (.t j) σ)) = erS σ := known_er (σ := X.lgR (.t j) σ) ht
          obtain ⟨a, σ', r1, n1, k1⟩ := hm _ k y h
          rw [e] at r1 n1
          refine ⟨a, σ', r1, ⟨fun x hx => ?_, fun x hx => n1.w x hx, fun x hx => n1.r0 x (by simp [X.known, X.lgR, hx]), fun x hx => n1.w0 x (by simpa [X.known, X.lgR] using hx)⟩, k1⟩
          rcases List.mem_cons.1 hx with h | h
          · exact n1.r0 x (by simp [X.known, X.lgR, h])
          · exact n1.r x h
        have hst : (erS σ).t j = .v (.bool b) := by rw [erS_t, ht]; rfl
        have res : ∀ (s : SP Unit), (if b = want then evop (evCall C.E F) o.dst o.op else setNo o.dst) = s → (∃ a σ', s.run (erS σ) = some (id a, erS σ') ∧ Noted σ σ' (.t j :: (s.foot (erS σ)).1, (s.foot (erS σ)).2) ∧ k a σ' = some y) → ∃ a σ', (SP.rdT j fun t => match t with | .v (.bool b) => if b = want then evop (evCall C.E F) o.dst o.op else setNo o.dst | .tup [] => setNo o.dst | _ => .fail).run (erS σ) = some (id a, erS σ') ∧ Noted σ σ' ((SP.rdT j fun t => match t with | .v (.bool b) => if b = want then evop (evCall C.E F) o.dst o.op else setNo o.dst | .tup [] => setNo o.dst | _ => .fail).foot (erS σ)) ∧ k a σ' = some y := by
          rintro s hs ⟨a, σ', r1, n1, k1⟩
          refine ⟨a, σ', ?_, ?_, k1⟩
          · simp only [SP.run, hst, hs]; exact r1
          · simp only [SP.foot, hst, hs]; exact n1
        cases b with
        | true =>
          cases want with
          | true => exact res _ (if_pos rfl) (key _ _ (sim_op hTB u o.dst o.op) hk)
          | false => exact res _ (if_neg (by simp)) (key _ _ (sim_setNo o.dst) hk)
        | false =>
          cases want with
          | true => exact res _ (if_neg (by simp)) (key _ _ (sim_setNo o.dst) hk)
          | false => exact res _ (if_pos rfl) (key _ _ (sim_op hTB u o.dst o.op) hk)
      | _ =>
        have hk : X.guardX realA j want (X.evop realA C u o.dst o.op) (X.setNo realA o.dst) (X.tOf σ j) (X.lgR (.t j) σ) k = some y := hk
        rw [ht] at hk
        cases hk
    | tup l =>
      have hk : X.guardX realA j want (X.evop realA C u o.dst o.op) (X.setNo realA o.dst) (X.tOf σ j) (X.lgR (.t j) σ) k = some y := hk
      rw [ht] at hk
      cases l with
      | cons => cases hk
      | nil =>
        have hst : (erS σ).t j = .tup [] := by rw [erS_t, ht]; rfl
        obtain ⟨a, σ', r1, n1, k1⟩ := sim_setNo o.dst (X.lgR (.t j) σ) k y hk
        have r1 : (setNo o.dst).run (erS σ) = some (id a, erS σ') := r1
        have n1 : Noted (X.lgR (.t j) σ) σ' ((setNo o.dst).foot (erS σ)) := n1
        refine ⟨a, σ', ?_, ?_, k1⟩
        · simp only [SP.run, hst]; exact r1
        · simp only [SP.foot, hst]
          refine ⟨fun x hx => ?_, n1.w, fun x hx => n1.r0 x (by simp [X.lgR, hx]), fun x hx => n1.w0 x hx⟩
          rcases List.mem_cons.1 hx with h | h
          · exact n1.r0 x (by simp [X.lgR, h])
          · exact n1.r x h
    | _ =>
      have hk : X.guardX realA j want (X.evop realA C u o.dst o.op) (X.setNo realA o.dst) (X.tOf σ j) (X.lgR (.t j) σ) k = some y := hk
      rw [ht] at hk
      cases hk
end
end Go.Proofs.Ytkmbahlpmoljpaa
/- Code on typed data is code on trees: regions, loops; no condition. -/
set_option linter.unusedVariables false
set_option linter.unusedSimpArgs false
namespace Go.Proofs.Ytkmbahlpmoljpaa
open Go.RowKit

section
variable {α β γ δ Y : Type}
/-! ## Regions -/
theorem spOps_ok {F : Callee} {C : X.Cfg} (hTB : ∀ c ∈ C.TB, CtrOk F c) (u : HL den []) : ∀ (ops : List TOper) {σ : XS den} {k : Unit → XS den → Option Y} {y : Y}, X.spOps realA C u ops σ k = some y → ∃ σ', runOps (evCall C.E F) ops (erS σ) = some (erS σ') ∧ k () σ' = some y := by
  intro ops
  induction ops with
  | nil => intro σ k y h; exact ⟨σ, rfl, h⟩
  | cons o ops ih =>
    intro σ k y h
    obtain ⟨a, σ1, r1, _, h1⟩ := sim_spOp hTB u o σ _ y h
    obtain ⟨σ', r2, h2⟩ := ih h1
    refine ⟨σ', ?_, h2⟩
    simp only [runOps]
    rw [spOp_run r1]
    exact r2
def footLe (f g : Foot) : Prop := (∀ x ∈ f.1, x ∈ g.1) ∧ ∀ x ∈ f.2, x ∈ g.2
inductive FsLe : List (Nat × Foot) → List (Nat × Foot) → Prop
  | nil : FsLe [] []
  | cons {i : Nat} {f g : Foot} {l r : List (Nat × Foot)} (h : footLe f g) (t : FsLe l r) : FsLe ((i, f) :: l) ((i, g) :: r)
theorem meet_mono {a a' b b' : List Loc} (ha : ∀ x ∈ a, x ∈ a') (hb : ∀ x ∈ b, x ∈ b') (h : meet a' b' = false) : meet a b = false := by
  unfold meet at h ⊢
  rw [List.any_eq_false] at h ⊢
  intro x hx
  have := h x (ha x hx)
  simp only [Bool.not_eq_true, List.any_eq_false] at this ⊢
  intro z hz
  exact this z (hb z hz)
theorem clash_mono {f f' g g' : Foot} (h1 : footLe f f') (h2 : footLe g g') (h : clash f' g' = false) : clash f g = false := by
  unfold clash at h ⊢
  simp only [Bool.or_eq_false_iff] at h ⊢
  obtain ⟨⟨⟨a, b⟩, c⟩, d⟩ := h
  exact ⟨⟨⟨meet_mono h1.2 h2.1 a, meet_mono h1.2 h2.2 b⟩, meet_mono h2.2 h1.1 c⟩, meet_mono h2.2 h1.2 d⟩
theorem pairs_row {deps : List (List Nat)} {j : Nat} {f f' : Foot} (hf : footLe f f') {l r : List (Nat × Foot)} (h : FsLe l r) : (r.all fun y => !clash f' y.2 || (deps.getD y.1 []).contains j) = true → (l.all fun y => !clash f y.2 || (deps.getD y.1 []).contains j) = true := by
  induction h with
  | nil => exact id
  | cons h t ih =>
    intro hr
    simp only [List.all_cons, Bool.and_eq_true] at hr ⊢
    refine ⟨?_, ih hr.2⟩
    simp only [Bool.or_eq_true, Bool.not_eq_true'] at hr ⊢
    rcases hr.1 with h3 | h3
    · exact .inl (clash_mono hf h h3)
    · exact .inr h3
theorem okPairs_mono {deps : List (List Nat)} {l r : List (Nat × Foot)} (h : FsLe l r) : okPairs deps r = true → okPairs deps l = true := by
  induction h with
  | nil => exact id
  | cons h t ih =>
    intro hr
    simp only [okPairs, Bool.and_eq_true] at hr ⊢
    exact ⟨pairs_row h t hr.1, ih hr.2⟩
theorem spFL_ok {F : Callee} {C : X.Cfg} (hTB : ∀ c ∈ C.TB, CtrOk F c) (u : HL den []) (ops : List TOper) : ∀ (L : List Nat) {σ : XS den} {k : List (Nat × Foot) → XS den → Option Y} {y : Y}, X.spFL realA C u ops L σ k = some y →
    ∃ fs gs σ', runFL (fun i => spOp (evCall C.E F) (ops.getD i noOp)) L (erS σ) = some (fs, erS σ') ∧ FsLe fs gs ∧ k gs σ' = some y := by
  intro L
  induction L with
  | nil => intro σ k y h; exact ⟨[], [], σ, rfl, .nil, h⟩
  | cons i L ih =>
    intro σ k y h
    have h : X.spOp realA C u (ops.getD i noOp) ⟨σ.tm, σ.ce, σ.vr, ([], [])⟩ (fun _ σ1 => X.spFL realA C u ops L σ1 fun fs σ2 => k ((i, σ1.lg) :: fs) σ2) = some y := h
    obtain ⟨a, σ1, r1, n1, h1⟩ := sim_spOp hTB u _ _ _ y h
    have r1 : (spOp (evCall C.E F) (ops.getD i noOp)).run (erS σ) = some (a, erS σ1) := r1
    have n1 : Noted ⟨σ.tm, σ.ce, σ.vr, ([], [])⟩ σ1 ((spOp (evCall C.E F) (ops.getD i noOp)).foot (erS σ)) := n1
    obtain ⟨fs, gs, σ', r2, le, h2⟩ := ih h1
    refine ⟨(i, (spOp (evCall C.E F) (ops.getD i noOp)).foot (erS σ)) :: fs, (i, σ1.lg) :: gs, σ', ?_, .cons ⟨n1.r, n1.w⟩ le, h2⟩
    simp only [runFL]
    rw [r1]
    simp only [Option.bind_some]
    rw [r2]
    rfl

/-! ## Names told anew -/
theorem renorm0_er (L : List Nat) (σ : XS den) {t : XV den} (h : X.okN0 t = true) : er (X.renorm0 L σ t) = renorm0 L (erS σ) (er t) := by
  cases t with
  | d t x => cases t with
    | row o t => cases o <;> first | rfl | simp [X.okN0] at h
    | nilr o => cases o <;> rfl
    | nat => simp [X.okN0] at h
    | pair a b => simp [X.okN0] at h
    | _ => rfl
  | ptr p vs =>
    show er (if _ then _ else _) = (if _ then _ else _)
    by_cases hc : (L.contains p.root && vs == vers (vget σ.vr) p.root p.off p.hops.length) = true
    · rw [if_pos hc, if_pos (by exact hc)]; rfl
    · rw [if_neg hc, if_neg (by exact hc)]; rfl
  | pk p vs =>
    show er (if _ then _ else _) = (if _ then _ else _)
    by_cases hc : (L.contains p.root && vs == vers (vget σ.vr) p.root p.off (p.hops.length + 1)) = true
    · rw [if_pos hc, if_pos (by exact hc)]; rfl
    · rw [if_neg hc, if_neg (by exact hc)]; rfl
  | pw p vs sz lo n =>
    show er (if _ then _ else _) = (if _ then _ else _)
    by_cases hc : (L.contains p.root && vs == vers (vget σ.vr) p.root p.off (p.hops.length + 1)) = true
    · rw [if_pos hc, if_pos (by exact hc)]; rfl
    · rw [if_neg hc, if_neg (by exact hc)]; rfl
  | tup l => cases l <;> rfl
  | _ => rfl
theorem renorm_er (L : List Nat) (σ : XS den) {t : XV den} (h : X.okN t = true) : er (X.renorm L σ t) = renorm L (erS σ) (er t) := by
  have key : X.okN0 t = true → er (X.renorm0 L σ t) = renorm0 L (erS σ) (er t) := fun h => renorm0_er L σ h
  cases t with
  | agg l =>
    simp only [X.renorm, er, renorm, erL_eq, List.map_map]
    congr 1
    refine List.map_congr_left fun x hx => renorm0_er L σ (List.all_eq_true.1 h x hx)
  | fn f l =>
    simp only [X.renorm, er, renorm, erL_eq, List.map_map]
    congr 1
    refine List.map_congr_left fun x hx => renorm0_er L σ (List.all_eq_true.1 h x hx)
  | d t x =>
    have := key h
    cases t with
    | row o t => cases o <;> exact this
    | nilr o => cases o <;> exact this
    | _ => exact this
  | _ => exact key h
theorem aget_all {α : Type} {P : α → Bool} : ∀ {l : List (Nat × α)} {i : Nat} {t : α}, (l.all fun x => P x.2) = true → aget l i = some t → P t = true := by
  intro l
  induction l with
  | nil => intro i t _ h; simp [aget] at h
  | cons x l ih =>
    intro i t ha h
    obtain ⟨k, v⟩ := x
    simp only [List.all_cons, Bool.and_eq_true] at ha
    simp only [aget] at h
    split at h
    · injection h with h; subst h; exact ha.1
    · exact ih ha.2 h
theorem normT_er (L : List Nat) (σ : XS den) (hok : X.okS σ = true) : ∀ l : List Nat, (X.normT L σ l).map (fun x => (x.1, er x.2)) = normT L (erS σ) l := by
  intro l
  induction l with
  | nil => rfl
  | cons i l ih =>
    simp only [X.normT, normT]
    have e : aget (erS σ).tm i = (aget σ.tm i).map er := aget_map _ _ _
    rw [e]
    cases h : aget σ.tm i with
    | none => exact ih
    | some t =>
      have ht : X.okN t = true := aget_all (P := X.okN) hok h
      simp only [Option.map_some, List.map_cons]
      rw [renorm_er L σ ht, ih]
theorem normC_er (σ : XS den) : ∀ l : List Nat, erC (X.normC σ l) = normC (erS σ) l := by
  intro l
  induction l with
  | nil => rfl
  | cons r l ih =>
    simp only [X.normC, normC]
    rw [erS_ce]
    cases h : aget σ.ce r with
    | none => exact ih
    | some c =>
      simp only [Option.map_some]
      show (r, erL c) :: erC _ = _
      rw [ih]
theorem norm_er {σ : XS den} (hok : X.okS σ = true) (pers : Prs) : erS (X.norm σ pers) = (erS σ).norm pers := by
  unfold X.norm St.norm
  show (⟨(X.normT pers.2 σ pers.1).map _, erC (X.normC σ pers.2), []⟩ : St) = _
  rw [normT_er _ σ hok, normC_er]
theorem anew_er {σ : XS den} (hok : X.okS σ = true) : erS (X.anew σ) = (erS σ).anew := by
  unfold X.anew St.anew
  rw [norm_er hok]
  congr 1
  show (_, _) = (_, _)
  congr 1
  · show _ = (σ.tm.map fun x => (x.1, er x.2)).map (·.1)
    rw [List.map_map]; exact List.map_congr_left fun _ _ => rfl
  · show _ = (erC σ.ce).map (·.1)
    unfold erC
    rw [List.map_map]; exact List.map_congr_left fun _ _ => rfl
theorem sim_shr1 (x : Nat × Option Nat) : Sim (Y := Y) (X.shr1 realA x) (shr1 x) id := by
  obtain ⟨i, off⟩ := x
  refine Sim.rdT fun t => ?_
  cases off with
  | none => cases t with
    | pk p vs =>
      refine (sim_take1 false (.pk p vs)).bind fun t' => Sim.opt fun t2 h2 => ?_
      rw [← immX_er h2]
      exact sim_wrT i t2
    | d t y => cases t with
      | row o t => cases o <;> exact .ret rfl
      | nilr o => cases o <;> exact .ret rfl
      | _ => exact .ret rfl
    | agg l => exact Sim.ite (fun _ => .fail) fun _ => .ret rfl
    | _ => exact .fail
  | some off => cases t with
    | ptr p vs =>
      refine (sim_chk p _ vs).bind fun _ => Sim.ite (fun h => ?_) fun _ => .fail
      rw [if_pos (by rw [← erP_fits]; exact h), ← erP_add]
      refine (sim_getPl _).bind fun t => Sim.ite (fun ho => ?_) fun ho => ?_
      · obtain ⟨c, hc⟩ := isOwX_ow ho
        have hpk := sim_peek1 (Y := Y) (X.addP p off) t
        rw [hc] at hpk
        rw [hc]
        exact hpk.bind fun t' => (sim_take1 false t').bind fun _ => .ret rfl
      · cases t with
        | d t y =>
          have h1 : isOw (er (.d t y)) = false := by rw [isOwX_er]; simpa using ho
          cases t with
          | row o t => cases o <;> first | exact .ret rfl | simp [X.isOwX, X.isOwT] at ho
          | nilr o => cases o <;> first | exact .ret rfl | simp [X.isOwX, X.isOwT] at ho
          | _ => exact .ret rfl
        | _ => exact .fail
    | d t y => cases t with
      | row o t => cases o <;> exact .fail
      | nilr o => cases o <;> exact .fail
      | _ => exact .fail
    | _ => exact .fail
theorem sim_shrs : ∀ l : List (Nat × Option Nat), Sim (Y := Y) (X.shrs realA l) (shrs l) id := by
  intro l
  induction l with
  | nil => exact .ret rfl
  | cons x l ih => exact (sim_shr1 x).bind fun _ => ih
theorem selH_ok {i : Nat} {σ : XS den} {u : HL den []} : ∀ {L : List LHint} {H : LHint} {h : HL den (lvS H.s)}, X.selH realA i σ u L = some ⟨H, h⟩ → X.convS realA H.s σ u = some h := by
  intro L
  induction L with
  | nil => intro H h hs; cases hs
  | cons H0 L ih =>
    intro H h hs
    unfold X.selH at hs
    split at hs
    · rename_i h1 hc
      injection hs with hs
      injection hs with e1 e2
      subst e1
      have e2 := eq_of_heq e2
      subst e2
      split at hc
      · exact hc
      · cases hc
    · exact ih hs
/-! ## Code -/
theorem elim_onOut {Z : Type} {outs : List (TExit × Shs)} {i : Nat} {h : HL den (nthL (outs.map fun x => lvS x.2) i)} {o : OutT (outs.map fun x => lvS x.2)} {x : TExit × XS den} (K : TExit × XS den → Option Z) (hm : mkOut (outs.map fun x => lvS x.2) i h = some o) (hf : fillEx outs i h = some x) : (elimOut (outs.map fun x => lvS x.2) o fun j ho => X.onOut realA (fillEx outs j ho) K) = K x := by
  rw [elim_mkOut _ hm, hf]; rfl
theorem sim_runC {F : Callee} {C : X.Cfg} (hTB : ∀ c ∈ C.TB, CtrOk F c) (u : HL den []) {N : Nat} (hN : NN ≤ N) : ∀ (tc : TCode) (i : Nat) {Y : Type} (σ : XS den) (k : TExit → XS den → Option Y) (y : Y), X.runC realA C u tc i σ k = some y → ∃ e σ', runC (evCall C.E F) N tc (erS σ) = some (e, erS σ') ∧ k e σ' = some y := by
  intro tc
  induction tc with
  | skip => intro i Y σ k y h; exact ⟨.normal, σ, rfl, h⟩
  | nrm pers =>
    intro i Y σ k y h
    have h : (if X.okS σ then k .normal (X.norm σ pers) else none) = some y := h
    split at h
    · rename_i hok
      exact ⟨.normal, X.norm σ pers, by rw [norm_er hok]; rfl, h⟩
    · cases h
  | reg id draw ops pers =>
    intro i Y σ k y h
    cases draw with
    | none =>
      have h : X.spOps realA C u ops σ (fun _ σ' => if X.okS σ' then k .normal (X.norm σ' pers) else none) = some y := h
      obtain ⟨σ1, r1, h1⟩ := spOps_ok hTB u ops h
      split at h1
      · rename_i hok
        refine ⟨.normal, X.norm σ1 pers, ?_, h1⟩
        simp only [runC]
        rw [r1, norm_er hok]; rfl
      · cases h1
    | some deps =>
      have h : X.spFL realA C u ops (List.range ops.length) σ (fun fs σ' => if okPairsB deps fs && X.okS σ' then k .normal (X.norm σ' pers) else none) = some y := h
      obtain ⟨fs, gs, σ1, r1, le, h1⟩ := spFL_ok hTB u ops _ h
      split at h1
      · rename_i hok
        simp only [Bool.and_eq_true] at hok
        rw [okPairsB_eq] at hok
        refine ⟨.normal, X.norm σ1 pers, ?_, h1⟩
        simp only [runC]
        rw [r1, norm_er hok.2]
        simp only [Option.bind_some]
        rw [if_pos (okPairs_mono le hok.1)]
      · cases h1
  | seq a b iha ihb =>
    intro i Y σ k y h
    have fin : ∀ (e : TExit) (σ1 : XS den), runC (evCall C.E F) N a (erS σ) = some (e, erS σ1) → (match e with | .normal => X.runC realA C u b (i + 1 + X.marks a) σ1 k | e => k e σ1) = some y → ∃ e σ', runC (evCall C.E F) N (.seq a b) (erS σ) = some (e, erS σ') ∧ k e σ' = some y := by
      intro e σ1 r1 h1
      simp only [runC]
      rw [r1]
      simp only [Option.bind_some]
      cases e with
      | normal => exact ihb _ σ1 k y h1
      | exit j => exact ⟨_, σ1, rfl, h1⟩
      | ret => exact ⟨_, σ1, rfl, h1⟩
    unfold X.runC at h
    cases hs : X.selJ i C.HL with
    | none =>
      rw [hs] at h
      obtain ⟨e, σ1, r1, h1⟩ := iha _ σ _ y h
      exact fin e σ1 r1 h1
    | some H =>
      rw [hs] at h
      obtain ⟨o, h1, h2⟩ := obind (show (X.runC realA C u a (i + 1) σ _ : Option _).bind _ = some y from h)
      obtain ⟨e, σ1, r1, h3⟩ := iha _ σ _ o h1
      cases hi : X.injE realA e σ1 u H.outs with
      | none => rw [hi] at h3; cases h3
      | some x =>
        rw [hi] at h3
        obtain ⟨j, ho⟩ := x
        have h3 : mkOut (H.outs.map fun x => lvS x.2) j ho = some o := h3
        obtain ⟨x, hf, he, hσ⟩ := injE_er hi
        rw [elim_onOut _ h3 hf] at h2
        rw [← hσ] at r1
        rw [← he] at r1
        exact fin x.1 x.2 r1 h2
  | cond c a b iha ihb =>
    intro i Y σ k y h
    have h : X.opd realA c σ (fun t _ => X.condX realA (X.runC realA C u a i (X.knownO realA c true σ) k) (X.runC realA C u b (i + X.marks a) (X.knownO realA c false σ) k) t) = some y := by
      unfold X.runC at h; exact h
    obtain ⟨t, σ1, r1, e1, _, h1⟩ := opd_look h
    cases t with
    | d t x => cases t with
      | bool =>
        have hkn : erS (X.knownO realA c x σ) = erS σ := by
          cases c with
          | t j =>
            have hj : X.tOf σ j = .d .bool x := by
              have h9 : X.condX realA (X.runC realA C u a i (X.knownO realA (.t j) true σ) k) (X.runC realA C u b (i + X.marks a) (X.knownO realA (.t j) false σ) k) (X.tOf σ j) = some y := h
              have r1 : (some ((erS σ).t j, erS σ) : Option (TV × St)) = some (er (.d .bool x), erS σ) := r1
              injection r1 with r1
              injection r1 with r1 _
              rw [erS_t] at r1
              cases ht : X.tOf σ j with
              | d t2 z => cases t2 with
                | bool => rw [ht] at r1; injection r1 with r1; injection r1 with r1; rw [show z = x from r1]
                | _ => rw [ht] at h9; cases h9
              | _ => rw [ht] at h9; cases h9
            exact known_er hj
          | _ => rfl
        have r1 : (opd c).run (erS σ) = some (.v (.bool x), erS σ) := r1
        simp only [runC]
        rw [r1]
        simp only [Option.bind_some]
        cases x with
        | true =>
          rw [← hkn]
          exact iha _ _ k y h1
        | false =>
          rw [← hkn]
          exact ihb _ _ k y h1
      | _ => cases h1
    | _ => cases h1
  | block id b ih =>
    intro i Y σ k y h
    unfold X.runC at h
    obtain ⟨e, σ1, r1, h1⟩ := ih _ σ _ y h
    simp only [runC]
    rw [r1]
    simp only [Option.bind_some]
    cases e with
    | normal => exact ⟨_, σ1, rfl, h1⟩
    | ret => exact ⟨_, σ1, rfl, h1⟩
    | exit j =>
      dsimp only at h1
      by_cases hj : j = id
      · rw [if_pos hj] at h1
        exact ⟨.normal, σ1, by dsimp only; rw [if_pos hj], h1⟩
      · rw [if_neg hj] at h1
        exact ⟨.exit j, σ1, by dsimp only; rw [if_neg hj], h1⟩
  | loop b ih =>
    intro i Y σ k y h
    unfold X.runC at h
    cases hs : X.selH realA i σ u C.HL with
    | none => rw [hs] at h; cases h
    | some x =>
      obtain ⟨H, h0⟩ := x
      rw [hs] at h
      have hconv := convS_er (selH_ok hs)
      obtain ⟨o, h1, h2⟩ := obind (show (loopN _ NN h0).bind _ = some y from h)
      have key : ∀ (n : Nat) (hd : HL den (lvS H.s)) (o : OutT (H.outs.map fun x => lvS x.2)), loopN (fun h => X.runC realA C u b (i + 1) (fillS H.s h) (X.roundK realA H u)) n hd = some o → ∀ N', n ≤ N' → ∃ x j ho, iter (runC (evCall C.E F) N b) N' (erS (fillS H.s hd)) = some (x.1, erS x.2) ∧ mkOut (H.outs.map fun x => lvS x.2) j ho = some o ∧ fillEx H.outs j ho = some x := by
        intro n
        induction n with
        | zero => intro hd o h; cases h
        | succ n ihn =>
          intro hd o h N' hle
          obtain ⟨N', rfl⟩ : ∃ N'', N' = N'' + 1 := ⟨N' - 1, by omega⟩
          obtain ⟨z, hz, hz2⟩ := obind (show (X.runC realA C u b (i + 1) (fillS H.s hd) _ : Option _).bind _ = some o from h)
          obtain ⟨e, σ1, r1, h3⟩ := ih _ _ _ z hz
          simp only [iter]
          rw [r1]
          simp only [Option.bind_some]
          have other : ∀ e' : TExit, (∀ s : Option (HL den (lvS H.s) ⊕ OutT (H.outs.map fun x => lvS x.2)), s = some z → s = X.onOut realA (X.injE realA e' σ1 u H.outs) (fun x => realA.exitL (lvS H.s) (H.outs.map fun x => lvS x.2) x.1 x.2) → ∃ x j ho, (some (e', erS σ1) : Option (TExit × St)) = some (x.1, erS x.2) ∧ mkOut (H.outs.map fun x => lvS x.2) j ho = some o ∧ fillEx H.outs j ho = some x) := by
            intro e' s hs1 hs2
            rw [hs1] at hs2
            cases hi : X.injE realA e' σ1 u H.outs with
            | none => rw [hi] at hs2; cases hs2
            | some x =>
              rw [hi] at hs2
              obtain ⟨j, ho⟩ := x
              obtain ⟨t, ht1, ht2⟩ := omap (show (mkOut (H.outs.map fun x => lvS x.2) j ho).map Sum.inr = some z from hs2.symm)
              subst ht2
              obtain ⟨x, hf, he, hσ⟩ := injE_er hi
              refine ⟨x, j, ho, by rw [he, hσ], ?_, hf⟩
              have : some t = some o := hz2
              rw [← this]; exact ht1
          cases e with
          | normal =>
            have h3 : X.onOut realA (X.convS realA H.s σ1 u) (realA.next (lvS H.s) (H.outs.map fun x => lvS x.2)) = some z := h3
            cases hc : X.convS realA H.s σ1 u with
            | none => rw [hc] at h3; cases h3
            | some h' =>
              rw [hc] at h3
              have h3 : some (Sum.inl h') = some z := h3
              injection h3 with h3
              subst h3
              rw [← convS_er hc]
              exact ihn h' o hz2 N' (by omega)
          | exit j => exact other (.exit j) _ h3 rfl
          | ret => exact other .ret _ h3 rfl
      obtain ⟨x, j, ho, r1, hm, hf⟩ := key NN h0 o h1 N hN
      rw [elim_onOut _ hm hf] at h2
      refine ⟨x.1, x.2, ?_, h2⟩
      simp only [runC]
      rw [← hconv]
      exact r1
  | exit id => intro i Y σ k y h; exact ⟨.exit id, σ, rfl, h⟩
  | ret => intro i Y σ k y h; exact ⟨.ret, σ, rfl, h⟩
  | pre l a ih =>
    intro i Y σ k y h
    have h : X.shrs realA l σ (fun _ σ' => if X.okS σ' then X.runC realA C u a i (X.anew σ') k else none) = some y := by
      unfold X.runC at h; exact h
    obtain ⟨_, σ1, r1, _, h1⟩ := sim_shrs l σ _ y h
    split at h1
    · rename_i hok
      obtain ⟨e, σ2, r2, h2⟩ := ih _ _ k y h1
      refine ⟨e, σ2, ?_, h2⟩
      simp only [runC]
      rw [r1]
      simp only [Option.bind_some]
      rw [← anew_er hok]
      exact r2
    · cases h1
  | post a l ih =>
    intro i Y σ k y h
    have h : X.runC realA C u a i σ (fun e σ' => X.shrs realA l σ' fun _ σ2 => if X.okS σ2 then k e (X.anew σ2) else none) = some y := by
      unfold X.runC at h; exact h
    obtain ⟨e, σ1, r1, h1⟩ := ih _ _ _ y h
    obtain ⟨_, σ2, r2, _, h2⟩ := sim_shrs l σ1 _ y h1
    split at h2
    · rename_i hok
      refine ⟨e, X.anew σ2, ?_, h2⟩
      simp only [runC]
      rw [r1]
      simp only [Option.bind_some]
      rw [r2]
      simp only [Option.bind_some]
      rw [anew_er hok]
    · cases h2
end
end Go.Proofs.Ytkmbahlpmoljpaa
/- Functions on typed data are functions on trees; contracts by depth; no condition. -/
set_option linter.unusedVariables false
set_option linter.unusedSimpArgs false
namespace Go.Proofs.Ytkmbahlpmoljpaa
open Go.RowKit

section
variable {α β γ δ Y : Type}
theorem sim_takeR1 (np : Nat) (t : XV den) : Sim (Y := Y) (X.takeR1 realA np t) (takeR1 np (er t)) er := by
  have key : Sim (Y := Y) (X.take1 realA true t) (take1 true (er t)) er := sim_take1 true t
  cases t with
  | pk p vs => exact sim_take1 _ (.pk p vs)
  | d t y => cases t with
    | row o t => cases o <;> exact key
    | nilr o => cases o <;> exact key
    | _ => exact key
  | _ => exact key
theorem sim_takeRL (np : Nat) : ∀ l : List (XV den), Sim (Y := Y) (X.takeRL realA np l) (takeRL np (erL l)) erL := by
  intro l
  induction l with
  | nil => exact .ret rfl
  | cons t l ih => exact (sim_takeR1 np t).bind fun t' => ih.bind fun r' => .ret rfl
theorem sim_takeRV (np : Nat) (t : XV den) : Sim (Y := Y) (X.takeRV realA np t) (takeRV np (er t)) fun x => (erL x.1, x.2) := by
  have one : ∀ t : XV den, Sim (Y := Y) (X.bind (X.takeR1 realA np t) fun t' => X.ret ([t'], RSh.one)) ((takeR1 np (er t)).bind fun t' => .ret ([t'], .one)) fun x => (erL x.1, x.2) := fun t => (sim_takeR1 np t).bind fun t' => .ret rfl
  have key := one t
  cases t with
  | agg l => exact (sim_takeRL np l).bind fun l' => .ret (by simp only [erL_len])
  | d t y => cases t with
    | row o t => cases o <;> exact key
    | nilr o => cases o <;> exact key
    | _ => exact key
  | _ => exact key
theorem sim_res1 (np : Nat) (q : TRs) : Sim (Y := Y) (X.res1 realA np q) (res1 np q) fun x => (erL x.1, x.2) := by
  cases q with
  | tmp t => exact Sim.rdT fun tv => sim_takeRV np tv
  | cell t n =>
    refine Sim.rdT fun tv => ?_
    cases tv with
    | ptr p vs =>
      refine (sim_chk p _ vs).bind fun _ => ?_
      cases n with
      | none => exact (sim_getPl p).bind fun t => (sim_peek1 p t).bind fun t' => sim_takeRV np t'
      | some n => exact (sim_peekL p n).bind fun l => sim_takeRV np (.agg l)
    | d t y => cases t with
      | row o t => cases o <;> exact .fail
      | nilr o => cases o <;> exact .fail
      | _ => exact .fail
    | _ => exact .fail
theorem sim_resL (np : Nat) : ∀ l : List TRs, Sim (Y := Y) (X.resL realA np l) (resL np l) fun x => (erL x.1, x.2) := by
  intro l
  induction l with
  | nil => exact .ret rfl
  | cons q l ih => exact (sim_res1 np q).bind fun x => ih.bind fun y => .ret (by simp only [erL_append])
theorem isPtrX_er (t : XV den) : (∃ p vs, t = .ptr p vs) ∨ (X.isPtrX t = false ∧ ∀ p vs, er t ≠ .ptr p vs) := by
  cases t with
  | ptr p vs => exact .inl ⟨p, vs, rfl⟩
  | d t y => cases t with
    | row o t => cases o <;> exact .inr ⟨rfl, by simp [er, er1]⟩
    | nilr o => cases o <;> exact .inr ⟨rfl, by simp [er, er1]⟩
    | _ => exact .inr ⟨rfl, by simp [er, er1]⟩
  | _ => exact .inr ⟨rfl, by simp [er]⟩
theorem ptrsInX_er {pp : List Nat} : ∀ {l : List (XV den)} {i : Nat}, X.ptrsInX pp i l = true → ptrsIn pp i (erL l) = true := by
  intro l
  induction l with
  | nil => intro i _; rfl
  | cons t l ih =>
    intro i h
    simp only [X.ptrsInX, Bool.and_eq_true] at h
    rcases isPtrX_er t with ⟨p, vs, rfl⟩ | ⟨h1, h2⟩
    · show (pp.contains i && ptrsIn pp (i + 1) (erL l)) = true
      rw [ih h.2, Bool.and_true]
      simpa [X.isPtrX] using h.1
    · have e : ptrsIn pp i (erL (t :: l)) = ptrsIn pp (i + 1) (erL l) := by
        show ptrsIn pp i (er t :: erL l) = _
        cases he : er t with
        | ptr p vs => exact absurd he (h2 p vs)
        | _ => rfl
      rw [e]; exact ih h.2
theorem numbered_er (l : List (XV den)) : ∀ i, (numbered i l).map (fun x => (x.1, er x.2)) = numbered i (erL l) := by
  induction l with
  | nil => intro i; rfl
  | cons t l ih => intro i; simp only [numbered, List.map_cons, erL, ih]
theorem mkSt_er (vals : List (XV den)) (pts : List (Nat × List (XV den))) : erS (X.mkSt vals pts) = mkSt (erL vals) (erC pts) := by
  unfold X.mkSt mkSt erS
  simp only [numbered_er]
theorem ptsOf_er (σ : XS den) (pts : List (Nat × List (XV den))) : erC (X.ptsOf σ pts) = (erC pts).map fun x => (x.1, (aget (erS σ).ce x.1).getD []) := by
  induction pts with
  | nil => rfl
  | cons x pts ih =>
    show (x.1, erL ((aget σ.ce x.1).getD [])) :: erC (X.ptsOf σ pts) = (x.1, (aget (erS σ).ce x.1).getD []) :: _
    rw [ih, erS_ce]
    cases aget σ.ce x.1 <;> rfl
theorem runT_ok {F : Callee} {C : X.Cfg} (hTB : ∀ c ∈ C.TB, CtrOk F c) (u : HL den []) {N : Nat} (hN : NN ≤ N) {tf : TFn} {outs : List XO} {vals : List (XV den)} {pts : List (Nat × List (XV den))} {o : OutT (outs.map lvO)} (h : X.runT realA C u tf outs vals pts = some o) :
    ∃ x, elimOut (outs.map lvO) o (fun i ho => fillOuts outs i ho) = some x ∧ runT C.E F N tf (erL vals) (erC pts) = some (⟨erL x.1, x.2.1⟩, erC x.2.2) := by
  unfold X.runT at h
  split at h
  case isFalse => cases h
  rename_i hc
  obtain ⟨e, σ1, r1, h1⟩ := sim_runC hTB u hN tf.body 0 _ _ o h
  have key : X.resL realA tf.np tf.res σ1 (fun y σ' => X.onOut realA (X.injO realA y.1 y.2 (X.ptsOf σ' pts) u outs) fun x => realA.out (outs.map lvO) x.1 x.2) = some o →
      ∃ x, elimOut (outs.map lvO) o (fun i ho => fillOuts outs i ho) = some x ∧ (((resL tf.np tf.res).run (erS σ1)).bind fun y => some ((⟨y.1.1, y.1.2⟩ : TRes), (erC pts).map fun x => (x.1, (aget y.2.ce x.1).getD []))) = some (⟨erL x.1, x.2.1⟩, erC x.2.2) := by
    intro h2
    obtain ⟨y, σ2, r2, _, h3⟩ := sim_resL tf.np tf.res σ1 _ o h2
    cases hi : X.injO realA y.1 y.2 (X.ptsOf σ2 pts) u outs with
    | none => rw [hi] at h3; cases h3
    | some z =>
      rw [hi] at h3
      obtain ⟨i, ho⟩ := z
      obtain ⟨x, hf, e1, e2, e3⟩ := injO_er hi
      refine ⟨x, ?_, ?_⟩
      · rw [elim_mkOut _ (show mkOut (outs.map lvO) i ho = some o from h3)]; exact hf
      · rw [r2]
        simp only [Option.bind_some]
        rw [e1, e2, e3, ptsOf_er]
  have hcond : (erL vals).length = tf.np ∧ ptrsIn tf.pp 0 (erL vals) = true := ⟨by rw [erL_len]; exact hc.1, ptrsInX_er hc.2⟩
  unfold runT
  rw [if_pos hcond, ← mkSt_er, r1]
  simp only [Option.bind_some]
  cases e with
  | exit j => cases h1
  | normal => exact key h1
  | ret => exact key h1
end

/-! ## Contracts by depth -/
theorem ctr_step {E : Env} {T : FuncId → Option TFn} {B F : Callee} {N : Nat} (hN : NN ≤ N) {C : X.Cfg} (hE : C.E = E) (hTB : ∀ c ∈ C.TB, CtrOk F c) {c : Ctr} {tf : TFn} (hT : T c.f = some tf)
    (hg : ∀ h, X.runT realA C () tf c.outs (fillL c.ins _ h).1 (fillP c.pts [] (fillL c.ins _ h).2).1 = c.g h) : CtrOk (stepF E T B F N) c := by
  intro h o x ho hx
  rw [stepF_runT hT]
  rw [← hg h] at ho
  obtain ⟨x', h1, h2⟩ := runT_ok hTB () hN ho
  rw [hx] at h1
  injection h1 with h1
  rw [← h1, hE] at h2
  exact h2
def Lvl (E : Env) (T : FuncId → Option TFn) (B : Callee) (n : Nat) (c : Ctr) : Prop := ∀ k, n ≤ k → CtrOk (runF E T B (NN + k)) c
def AllLvl (E : Env) (T : FuncId → Option TFn) (B : Callee) (n : Nat) : List Ctr → Prop
  | [] => True
  | c :: r => Lvl E T B n c ∧ AllLvl E T B n r
theorem Lvl.mono {E : Env} {T : FuncId → Option TFn} {B : Callee} {n m : Nat} {c : Ctr} (h : Lvl E T B n c) (hm : n ≤ m) : Lvl E T B m c := fun k hk => h k (Nat.le_trans hm hk)
theorem AllLvl.get {E : Env} {T : FuncId → Option TFn} {B : Callee} {n : Nat} : ∀ {l : List Ctr}, AllLvl E T B n l → ∀ c ∈ l, Lvl E T B n c := by
  intro l
  induction l with
  | nil => intro _ c hc; simp at hc
  | cons x l ih =>
    intro h c hc
    rcases List.mem_cons.1 hc with rfl | hc
    · exact h.1
    · exact ih h.2 c hc
theorem lvl_step {E : Env} {T : FuncId → Option TFn} {B : Callee} {n : Nat} {C : X.Cfg} (hE : C.E = E) (hTB : AllLvl E T B n C.TB) {c : Ctr} {tf : TFn} (hT : T c.f = some tf)
    (hg : ∀ h, X.runT realA C () tf c.outs (fillL c.ins _ h).1 (fillP c.pts [] (fillL c.ins _ h).2).1 = c.g h) : Lvl E T B (n + 1) c := by
  intro k hk
  obtain ⟨k, rfl⟩ : ∃ k', k = k' + 1 := ⟨k - 1, by omega⟩
  exact ctr_step (F := runF E T B (NN + k)) (N := NN + k) (Nat.le_add_right _ _) hE (fun c hc => hTB.get c hc k (by omega)) hT hg

/-! ## The table of all functions of a program -/
theorem compFnH_np {P : Program} {H : Nat → List (Nat × Option Nat)} {f : FuncId} {tf : TFn} (h : compFnH P H f = some tf) : ∃ fn, P.funcs[f]? = some fn ∧ tf.np = fn.params.size ∧ tf.nt = fn.ntmps := by
  unfold compFnH at h
  split at h
  case h_2 => simp at h
  rename_i fn hf
  split at h
  case h_2 => simp at h
  simp only at h
  split at h
  · injection h with h
    subst h
    exact ⟨fn, hf, rfl, rfl⟩
  · simp at h
theorem tab_all {P : Program} (H : FuncId → Nat → List (Nat × Option Nat)) (hall : (P.funcs.all fun fn => decide (fn.params.size ≤ fn.ntmps) && !(fn.name == "runtime.NumGoroutine")) = true) : TabOk P fun f => compFnH P (H f) f := by
  refine tabOk_of fun f tf h => ?_
  obtain ⟨fn, hf, e1, e2⟩ := compFnH_np h
  obtain ⟨hlt, he⟩ := Array.getElem?_eq_some_iff.1 hf
  have := Array.all_eq_true.1 hall f hlt
  rw [he] at this
  simp only [Bool.and_eq_true, decide_eq_true_eq, Bool.not_eq_true'] at this
  refine ⟨⟨H f, h⟩, by rw [e1, e2]; exact this.1, fun fn' hf' => ?_⟩
  rw [hf] at hf'
  injection hf' with hf'
  subst hf'
  exact this.2
def noFn : TFn := ⟨0, [], 0, .skip, []⟩
theorem some_of {o : Option TFn} (h : o.isSome = true) : o = some (o.getD noFn) := by
  cases o with
  | none => simp at h
  | some x => rfl
def psOf (P : Program) (f : FuncId) : List (Option Nat) := match P.funcs[f]? with
  | some fn => fn.params.toList.map fun t => match P.underlying t with | some (.pointer e) => szOf P e | _ => none
  | none => []
def noB : Callee := fun _ _ _ => none
theorem noB_ok {P : Program} : CalleeOk P noB := fun f vals pts res pts' h => by simp [noB] at h
/-! ## Words for what functions do -/
abbrev I64 : CT := .int .i64
def w64 (x : Int) : Int := IntKind.wrap .i64 x
def wk (k : IntKind) (x : Int) : Int := IntKind.wrap k x
def strLen? (s : ByteArray) : Int := (s.size : Int)
def strOk? (s : ByteArray) : Bool := decide (s.size < 4294967296)
def bytes (l : List Nat) : ByteArray := ⟨(l.map UInt8.ofNat).toArray⟩
end Go.Proofs.Ytkmbahlpmoljpaa
/- The table of all functions; no condition. -/
set_option linter.unusedVariables false
set_option linter.unusedSimpArgs false
namespace Go.Proofs.Ytkmbahlpmoljpaa
open Go.RowKit
def HH (f i : Nat) : List (Nat × Option Nat) := if f = 36 then (if i = 0 then [(4, none)] else []) else if f = 11 then (if i = 0 then [(2, some 6), (2, some 7)] else []) else if f = 38 then (if i = 0 then [(0, some 0)] else []) else if f = 12 then (if i = 0 then [(2, some 6), (2, some 7)] else []) else []
noncomputable def TT (f : FuncId) : Option TFn := compFnH Try.prog (HH f) f
noncomputable def E0 : Env := ⟨fun f => if f = 6 then some (1, [.arg 0, .val (.int .i64 0)]) else none, fun f => psOf Try.prog f⟩
theorem tt_ok : TabOk Try.prog TT := tab_all HH (by kernel_rfl)
end Go.Proofs.Ytkmbahlpmoljpaa
