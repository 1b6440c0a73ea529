/- The law's lent, sameEvents and kept, and a row of events whose field is written. Conditions: the list is no longer than what an input may weigh. -/
import Derived.Test.YtakhipedjccpkaaDoorHl
import Derived.Test.YtakhipedjccpkaaDoorHb
import Derived.Test.YtakhipedjccpkaaDoorPHx2
import Derived.BigQuiet
namespace Go.Proofs.YtakhipedjccpkaaDoor.PH
open Go.RowKit Go.Proofs.YtakhipedjccpkaaDoorW.PrintWords Go.Proofs.YtakhipedjccpkaaDoorW.PrintLast Go.Proofs.YtakhipedjccpkaaDoorW.PrintMore
set_option linter.unusedVariables false
set_option linter.unusedSimpArgs false

/-! ### a row whose field is written -/
structure Row33 (w : World) (g N : Nat) (l : List S33) : Prop where
  pre : Pre33 w g N l
  le : l.length ≤ N
  max : N ≤ maxLen
theorem flat_of_reps {w : World} {base : Nat} {ok : Nat → Prop} : ∀ {l : List S33} {inner : List Value}, Reps (k33.M w base ok) 8 l inner → inner = flat33 l
  | [], inner, h => by have := h.1; simp at this; rw [this]; rfl
  | e :: l, inner, h => by
    have hl := h.1
    simp only [List.length_cons] at hl
    have h0 := k33_openM (h.2 0 e rfl)
    have ht : Reps (k33.M w base ok) 8 l (inner.drop 8) := by
      refine ⟨by simp; omega, fun j p hp => ?_⟩
      have := h.2 (j + 1) p (by simpa using hp)
      rw [List.drop_drop]
      rwa [show (j + 1) * 8 = 8 + j * 8 by omega] at this
    have := flat_of_reps ht
    have e1 : inner = inner.take 8 ++ inner.drop 8 := (List.take_append_drop 8 inner).symm
    rw [e1, this]
    have e2 : inner.take 8 = cs33 e := by rw [Nat.zero_mul, List.drop_zero] at h0; exact h0
    rw [e2]
    rfl
theorem Row33.of {w : World} {base g c n : Nat} {ok : Nat → Prop} {l : List S33} (h : Kd.R k33 33 w base ok (.slice (some ⟨g, 0, none⟩) n c) l) : Row33 w g c l := by
  obtain ⟨_, inner, ⟨h1, h2⟩, h3⟩ := h
  rcases h2 with ⟨h2, _⟩ | ⟨g', cap, cur, e, _, hb, hc, hm, hs, ht⟩
  · cases h2
  · injection e with e1 e2 e3
    injection e1 with e1
    injection e1 with e1
    subst e1 e3
    exact ⟨⟨⟨cur, hb, hs, by rw [← flat_of_reps h3]; exact ht⟩⟩, hc, hm⟩
theorem flat33_set : ∀ (l : List S33) (i j : Nat) (e e' : S33) (v : Value), l[i]? = some e → j < 8 → cs33 e' = (cs33 e).set j v → flat33 (l.set i e') = (flat33 l).set (i * 8 + j) v
  | [], i, j, e, e', v, h, _, _ => by simp at h
  | x :: l, 0, j, e, e', v, h, hj, hc => by
    simp at h; subst h
    show cs33 e' ++ flat33 l = (cs33 x ++ flat33 l).set (0 * 8 + j) v
    rw [hc, Nat.zero_mul, Nat.zero_add, List.set_append_left _ _ (by simpa [cs33] using hj)]
  | x :: l, i + 1, j, e, e', v, h, hj, hc => by
    have ih := flat33_set l i j e e' v (by simpa using h) hj hc
    show cs33 x ++ flat33 (l.set i e') = (cs33 x ++ flat33 l).set ((i + 1) * 8 + j) v
    rw [ih, List.set_append_right _ _ (by simp [cs33]; omega)]
    congr 2
    simp [cs33]; omega
theorem Row33.put {w : World} {g N : Nat} {l : List S33} (h : Row33 w g N l) (i j : Nat) (e e' : S33) (v : Value) (hi : l[i]? = some e) (hj : j < 8) (hc : cs33 e' = (cs33 e).set j v) : Row33 (w.setCell ⟨g, i * 8 + j, none⟩ v) g N (l.set i e') := by
  obtain ⟨cur, h1, h2, h3⟩ := h.pre.out
  refine ⟨⟨⟨cur.setIfInBounds (i * 8 + j) v, ?_, by simpa using h2, ?_⟩⟩, by simpa using h.le, h.max⟩
  · rw [setCell_eq_setRow w g _ cur 33 (0, 0) v h1]
    exact setRow_heap w g cur _ 33 _ h1
  · rw [Array.toList_setIfInBounds, List.length_set, List.take_set, h3, flat33_set l i j e e' v hi hj hc]
theorem Row33.row {w : World} {g N base : Nat} {l : List S33} (h : Row33 w g N l) (hg : base ≤ g) : Kd.R k33 33 w base (fun _ => True) (.slice (some ⟨g, 0, none⟩) l.length N) l := h.pre.row h.le h.max hg
theorem Row33.below {w w' : World} {g N : Nat} {l : List S33} (h : Row33 w g N l) (hb : Below w.heap.size w w') : Row33 w' g N l := by
  obtain ⟨cur, h1, h2, h3⟩ := h.pre.out
  exact ⟨⟨⟨cur, blk_below h1 hb, h2, h3⟩⟩, h.le, h.max⟩

end Go.Proofs.YtakhipedjccpkaaDoor.PH
namespace Go.Proofs.YtakhipedjccpkaaDoor.PH.Says
open Go.RowKit Go.Proofs.YtakhipedjccpkaaDoorW.PrintWords Go.Proofs.YtakhipedjccpkaaDoorW.PrintLast Go.Proofs.YtakhipedjccpkaaDoorW.PrintMore
set_option linter.unusedVariables false
set_option linter.unusedSimpArgs false

theorem flat_get (w : World) (l : List S33) {i j : Nat} (hi : i < l.length) (hj : j < 8) : (flat33 l)[i * 8 + j]? = (cs33 (rd_T33 l (i : Int)))[j]? := by
  have h := k33_openM ((flat33_reps w 0 (fun _ => True) l).2 i _ (List.getElem?_eq_getElem hi))
  rw [rd33_eq l hi]
  show _ = (cs33 l[i])[j]?
  rw [show cs33 l[i] = ((flat33 l).drop (i * 8)).take 8 from h.symm, List.getElem?_take_of_lt hj, List.getElem?_drop]
theorem row_at {w : World} {g N : Nat} {l : List S33} (h : Row33 w g N l) {i j : Nat} (hi : i < l.length) (hj : j < 8) {v : Value} (hv : (cs33 (rd_T33 l (i : Int)))[j]? = some v) : w.cell? ⟨g, i * 8 + j, none⟩ = some v ∧ w.frozen? ⟨g, i * 8 + j, none⟩ = false := by
  obtain ⟨cur, h1, h2, h3⟩ := h.pre.out
  refine ⟨?_, blk_frozen h1 _⟩
  rw [blk_cell h1, ← hv, ← flat_get w l hi hj, ← h3, List.getElem?_take_of_lt (by omega), Array.getElem?_toList]
/-- The eight cells of an event. -/
theorem row_cells {w : World} {g N : Nat} {l : List S33} (h : Row33 w g N l) {i : Nat} (hi : i < l.length) {y : S33} (hy : rd_T33 l (i : Int) = y) :
    (w.cell? ⟨g, i * 8, none⟩ = some (.int .i64 y.f0) ∧ w.cell? ⟨g, i * 8 + 1, none⟩ = some (.int .i64 y.f1) ∧ w.cell? ⟨g, i * 8 + 2, none⟩ = some (.int .i64 y.f2) ∧ w.cell? ⟨g, i * 8 + 3, none⟩ = some (.int .i64 y.f3) ∧ w.cell? ⟨g, i * 8 + 4, none⟩ = some (.int .i64 y.f4) ∧ w.cell? ⟨g, i * 8 + 5, none⟩ = some (.int .i64 y.f5) ∧ w.cell? ⟨g, i * 8 + 6, none⟩ = some (.int .i64 y.f6.f0) ∧ w.cell? ⟨g, i * 8 + 7, none⟩ = some (.int .i64 y.f6.f1)) ∧
    (w.frozen? ⟨g, i * 8, none⟩ = false ∧ w.frozen? ⟨g, i * 8 + 1, none⟩ = false ∧ w.frozen? ⟨g, i * 8 + 2, none⟩ = false ∧ w.frozen? ⟨g, i * 8 + 3, none⟩ = false ∧ w.frozen? ⟨g, i * 8 + 4, none⟩ = false ∧ w.frozen? ⟨g, i * 8 + 5, none⟩ = false ∧ w.frozen? ⟨g, i * 8 + 6, none⟩ = false ∧ w.frozen? ⟨g, i * 8 + 7, none⟩ = false) := by
  subst hy
  have a := fun (j : Nat) (hj : j < 8) (v : Value) (hv : (cs33 (rd_T33 l (i : Int)))[j]? = some v) => row_at h hi hj hv
  have a0 := a 0 (by decide) _ rfl
  have a1 := a 1 (by decide) _ rfl
  have a2 := a 2 (by decide) _ rfl
  have a3 := a 3 (by decide) _ rfl
  have a4 := a 4 (by decide) _ rfl
  have a5 := a 5 (by decide) _ rfl
  have a6 := a 6 (by decide) _ rfl
  have a7 := a 7 (by decide) _ rfl
  exact ⟨⟨a0.1, a1.1, a2.1, a3.1, a4.1, a5.1, a6.1, a7.1⟩, ⟨a0.2, a1.2, a2.2, a3.2, a4.2, a5.2, a6.2, a7.2⟩⟩
theorem row_store8 {w : World} {g N : Nat} {l : List S33} (h : Row33 w g N l) (i : Nat) (hi : i < l.length) (y : S33) :
    Row33 ((((((((w.setCell ⟨g, i * 8, none⟩ (.int .i64 y.f0)).setCell ⟨g, i * 8 + 1, none⟩ (.int .i64 y.f1)).setCell ⟨g, i * 8 + 2, none⟩ (.int .i64 y.f2)).setCell ⟨g, i * 8 + 3, none⟩ (.int .i64 y.f3)).setCell ⟨g, i * 8 + 4, none⟩ (.int .i64 y.f4)).setCell ⟨g, i * 8 + 5, none⟩ (.int .i64 y.f5)).setCell ⟨g, i * 8 + 6, none⟩ (.int .i64 y.f6.f0)).setCell ⟨g, i * 8 + 7, none⟩ (.int .i64 y.f6.f1)) g N (l.set i y) := by
  obtain ⟨e, he⟩ : ∃ e, l[i]? = some e := ⟨_, List.getElem?_eq_getElem hi⟩
  have h1 := Row33.put h i 0 e ⟨y.f0, e.f1, e.f2, e.f3, e.f4, e.f5, ⟨e.f6.f0, e.f6.f1⟩⟩ (.int .i64 y.f0) he (by decide) rfl
  have h2 := Row33.put h1 i 1 ⟨y.f0, e.f1, e.f2, e.f3, e.f4, e.f5, ⟨e.f6.f0, e.f6.f1⟩⟩ ⟨y.f0, y.f1, e.f2, e.f3, e.f4, e.f5, ⟨e.f6.f0, e.f6.f1⟩⟩ (.int .i64 y.f1) (by rw [List.getElem?_set_self hi]) (by decide) rfl
  rw [List.set_set] at h2
  have h3 := Row33.put h2 i 2 ⟨y.f0, y.f1, e.f2, e.f3, e.f4, e.f5, ⟨e.f6.f0, e.f6.f1⟩⟩ ⟨y.f0, y.f1, y.f2, e.f3, e.f4, e.f5, ⟨e.f6.f0, e.f6.f1⟩⟩ (.int .i64 y.f2) (by rw [List.getElem?_set_self hi]) (by decide) rfl
  rw [List.set_set] at h3
  have h4 := Row33.put h3 i 3 ⟨y.f0, y.f1, y.f2, e.f3, e.f4, e.f5, ⟨e.f6.f0, e.f6.f1⟩⟩ ⟨y.f0, y.f1, y.f2, y.f3, e.f4, e.f5, ⟨e.f6.f0, e.f6.f1⟩⟩ (.int .i64 y.f3) (by rw [List.getElem?_set_self hi]) (by decide) rfl
  rw [List.set_set] at h4
  have h5 := Row33.put h4 i 4 ⟨y.f0, y.f1, y.f2, y.f3, e.f4, e.f5, ⟨e.f6.f0, e.f6.f1⟩⟩ ⟨y.f0, y.f1, y.f2, y.f3, y.f4, e.f5, ⟨e.f6.f0, e.f6.f1⟩⟩ (.int .i64 y.f4) (by rw [List.getElem?_set_self hi]) (by decide) rfl
  rw [List.set_set] at h5
  have h6 := Row33.put h5 i 5 ⟨y.f0, y.f1, y.f2, y.f3, y.f4, e.f5, ⟨e.f6.f0, e.f6.f1⟩⟩ ⟨y.f0, y.f1, y.f2, y.f3, y.f4, y.f5, ⟨e.f6.f0, e.f6.f1⟩⟩ (.int .i64 y.f5) (by rw [List.getElem?_set_self hi]) (by decide) rfl
  rw [List.set_set] at h6
  have h7 := Row33.put h6 i 6 ⟨y.f0, y.f1, y.f2, y.f3, y.f4, y.f5, ⟨e.f6.f0, e.f6.f1⟩⟩ ⟨y.f0, y.f1, y.f2, y.f3, y.f4, y.f5, ⟨y.f6.f0, e.f6.f1⟩⟩ (.int .i64 y.f6.f0) (by rw [List.getElem?_set_self hi]) (by decide) rfl
  rw [List.set_set] at h7
  have h8 := Row33.put h7 i 7 ⟨y.f0, y.f1, y.f2, y.f3, y.f4, y.f5, ⟨y.f6.f0, e.f6.f1⟩⟩ ⟨y.f0, y.f1, y.f2, y.f3, y.f4, y.f5, ⟨y.f6.f0, y.f6.f1⟩⟩ (.int .i64 y.f6.f1) (by rw [List.getElem?_set_self hi]) (by decide) rfl
  rw [List.set_set] at h8
  exact h8
abbrev zero33 : S33 := ⟨0, 0, 0, 0, 0, 0, ⟨0, 0⟩⟩
/-- What lent puts behind the list. -/
abbrev sent (k : Int) : S33 := ⟨0, k, 0, 0, 0, 0, ⟨0, 0⟩⟩
theorem flat_app (l m : List S33) : flat33 (l ++ m) = flat33 l ++ flat33 m := by simp [flat33]
theorem made33 (w : World) (n : Nat) : (madeCells #[.int .i64 0, .int .i64 0, .int .i64 0, .int .i64 0, .int .i64 0, .int .i64 0, .int .i64 0, .int .i64 0] (n * 8)).toList = flat33 (List.replicate n zero33) :=
  flat_of_reps (w := w) (base := 0) (ok := fun _ => True) (Kd.reps_made (R := k33.M w 0 (fun _ => True)) (z := .agg #[.int .i64 0, .int .i64 0, .int .i64 0, .int .i64 0, .int .i64 0, .int .i64 0, .int .i64 0, .int .i64 0]) (z0 := zero33) rfl (by decide) (k33_mkM w 0 (fun _ => True) zero33) n)
theorem lent_row (w : World) (l : List S33) : flat33 l ++ ((madeCells #[.int .i64 0, .int .i64 0, .int .i64 0, .int .i64 0, .int .i64 0, .int .i64 0, .int .i64 0, .int .i64 0] ((l.length + 2) * 8)).toList.drop (l.length * 8)) = flat33 (l ++ [zero33, zero33]) := by
  rw [made33 w, flat_app]
  congr 1
  have e : List.replicate (l.length + 2) zero33 = List.replicate l.length zero33 ++ [zero33, zero33] := by
    rw [← List.replicate_append_replicate]; rfl
  rw [e, flat_app, List.drop_append_of_le_length (by rw [flat33_len]; simp), List.drop_of_length_le (by rw [flat33_len]; simp)]
  rfl
theorem set_sent (l : List S33) : ((l ++ [zero33, zero33]).set l.length (sent (-71))).set (l.length + 1) (sent (-72)) = l ++ [sent (-71), sent (-72)] := by
  rw [List.set_append_right _ _ (by omega), List.set_append_right _ _ (by omega)]
  simp
set_option maxHeartbeats 4000000 in
set_option maxRecDepth 100000 in
theorem lent_ref (A0 : Option Addr) (c0 : Nat) (l0 : List (S33)) (w : World) (hr0 : Kd.C k33 w A0 l0.length l0) (hlen : l0.length ≤ 2199023255552) :
    Calls Tryd.prog 9 #[.slice A0 l0.length c0] w fun e w' => e = .returned (.slice (some ⟨w.heap.size, 0, none⟩) l0.length (l0.length + 2)) ∧ Row33 w' w.heap.size (l0.length + 2) (l0 ++ [sent (-71), sent (-72)]) ∧ Below w.heap.size w w' := by
  have hmk : ∀ W : World, (Instr.makeSlice 22 (.int .i64 ((l0.length : Int) + 2)) (.int .i64 ((l0.length : Int) + 2))).run Tryd.prog W = .ok (.slice (some ⟨W.heap.size, 0, none⟩) (l0.length + 2) (l0.length + 2)) (W.alloc (.cells (madeCells #[.int .i64 0, .int .i64 0, .int .i64 0, .int .i64 0, .int .i64 0, .int .i64 0, .int .i64 0, .int .i64 0] ((l0.length + 2) * 8)) 33)) := by
    intro W
    obtain ⟨i0, hi, hzz⟩ := Option.map_eq_some_iff.1 info33
    simp only [Prod.mk.injEq] at hzz
    obtain ⟨hz0, hz1, hz2⟩ := hzz
    have := run_make (P := Tryd.prog) W 22 33 i0 _ Tryd.underlying22 hi hz0 .i64 .i64 ((l0.length : Int) + 2) ((l0.length : Int) + 2) (by omega) (by omega) (by rw [hz2]; omega) (by omega)
    rw [this, hz1]
    rfl
  have HBN := Aside0.mk (blk_new w (.cells (madeCells #[.int .i64 0, .int .i64 0, .int .i64 0, .int .i64 0, .int .i64 0, .int .i64 0, .int .i64 0, .int .i64 0] ((l0.length + 2) * 8)) 33))
  have HB1 : Aside0 (Below w.heap.size w (w.alloc (.cells (madeCells #[.int .i64 0, .int .i64 0, .int .i64 0, .int .i64 0, .int .i64 0, .int .i64 0, .int .i64 0, .int .i64 0] ((l0.length + 2) * 8)) 33))) := ⟨below_alloc (Below.refl _ _) _⟩
  have hsz33 : (Tryd.prog.info? 33).map (·.size) = some 8 := by kernel_rfl
  have HSRC : Aside0 (0 < (flat33 l0).length → ∃ ad, A0 = some ad ∧ ∀ j v, (flat33 l0)[j]? = some v → (w.alloc (.cells (madeCells #[.int .i64 0, .int .i64 0, .int .i64 0, .int .i64 0, .int .i64 0, .int .i64 0, .int .i64 0, .int .i64 0] ((l0.length + 2) * 8)) 33)).cell? (ad.add j) = some v) := ⟨fun h0 => by
    rw [flat33_len] at h0
    exact flat33_src (Kd.C_alloc hr0 _) (by omega)⟩
  clear hr0
  go_enter Tryd.func9, Tryd.ntmps9
  go_upto_region 3 with (first
    | ((with_reducible refine gate_builtin (b := .copy) (xs := #[.tmp 8, .tmp 9]) rfl ?_); refine wpList_copy_wide rfl (.tmp 8) (.tmp 9) 22 22 rfl 33 Tryd.underlying22 8 hsz33 A0 (l0.length + 2) (l0.length + 2) l0.length c0 l0.length w.heap.size rfl rfl _ 33 HBN.out (flat33 l0) ?cn (flat33_len l0) HSRC.out ?cf (flat33_one l0) w.heap.size w HB1.out (Nat.le_refl _) ?_; (case cn => show min l0.length (l0.length + 2) = l0.length; omega); (case cf => rw [flat33_len, size_madeCells]; omega); intro w2 HC2 hb2))
  have HB2 := Aside0.mk hb2
  have HP2 : Aside0 (Row33 w2 w.heap.size (l0.length + 2) (l0 ++ [zero33, zero33])) := ⟨⟨⟨⟨_, HC2.out, by simp [flat33_len, size_madeCells]; omega, by
    have e := lent_row w l0
    rw [← flat33_len l0] at e
    rw [List.toList_toArray, e, List.take_of_length_le (by rw [flat33_len]; exact Nat.le_refl _)]⟩⟩, by simp, by unfold maxLen; omega⟩⟩
  clear hb2 hmk HC2
  obtain ⟨⟨c0, c1, c2, c3, c4, c5, c6, c7⟩, ⟨d0, d1, d2, d3, d4, d5, d6, d7⟩⟩ := row_cells HP2.out (i := l0.length) (by simp) rfl
  go_upto_region 4 with (fail)
  obtain ⟨w3, hw3⟩ : ∃ w3, w3 = ((((((((w2.setCell ⟨w.heap.size, l0.length * 8, none⟩ (.int .i64 0)).setCell ⟨w.heap.size, l0.length * 8 + 1, none⟩ (.int .i64 (-71))).setCell ⟨w.heap.size, l0.length * 8 + 2, none⟩ (.int .i64 0)).setCell ⟨w.heap.size, l0.length * 8 + 3, none⟩ (.int .i64 0)).setCell ⟨w.heap.size, l0.length * 8 + 4, none⟩ (.int .i64 0)).setCell ⟨w.heap.size, l0.length * 8 + 5, none⟩ (.int .i64 0)).setCell ⟨w.heap.size, l0.length * 8 + 6, none⟩ (.int .i64 0)).setCell ⟨w.heap.size, l0.length * 8 + 7, none⟩ (.int .i64 0)) := ⟨_, rfl⟩
  have HP3 : Aside0 (Row33 w3 w.heap.size (l0.length + 2) ((l0 ++ [zero33, zero33]).set l0.length (sent (-71)))) := ⟨by rw [hw3]; exact row_store8 HP2.out l0.length (by simp) (sent (-71))⟩
  have HB3 : Aside0 (Below w.heap.size w w3) := ⟨by rw [hw3]; exact ((((((((HB2.out.setCell (Nat.le_refl _) _).setCell (Nat.le_refl _) _).setCell (Nat.le_refl _) _).setCell (Nat.le_refl _) _).setCell (Nat.le_refl _) _).setCell (Nat.le_refl _) _).setCell (Nat.le_refl _) _).setCell (Nat.le_refl _) _)⟩
  rw [← hw3]
  clear hw3 c0 c1 c2 c3 c4 c5 c6 c7 d0 d1 d2 d3 d4 d5 d6 d7
  obtain ⟨⟨c0, c1, c2, c3, c4, c5, c6, c7⟩, ⟨d0, d1, d2, d3, d4, d5, d6, d7⟩⟩ := row_cells HP3.out (i := l0.length + 1) (by simp) rfl
  go_upto_region 5 with (fail)
  obtain ⟨w4, hw4⟩ : ∃ w4, w4 = ((((((((w3.setCell ⟨w.heap.size, (l0.length + 1) * 8, none⟩ (.int .i64 0)).setCell ⟨w.heap.size, (l0.length + 1) * 8 + 1, none⟩ (.int .i64 (-72))).setCell ⟨w.heap.size, (l0.length + 1) * 8 + 2, none⟩ (.int .i64 0)).setCell ⟨w.heap.size, (l0.length + 1) * 8 + 3, none⟩ (.int .i64 0)).setCell ⟨w.heap.size, (l0.length + 1) * 8 + 4, none⟩ (.int .i64 0)).setCell ⟨w.heap.size, (l0.length + 1) * 8 + 5, none⟩ (.int .i64 0)).setCell ⟨w.heap.size, (l0.length + 1) * 8 + 6, none⟩ (.int .i64 0)).setCell ⟨w.heap.size, (l0.length + 1) * 8 + 7, none⟩ (.int .i64 0)) := ⟨_, rfl⟩
  have HP4 : Aside0 (Row33 w4 w.heap.size (l0.length + 2) (l0 ++ [sent (-71), sent (-72)])) := ⟨by
    rw [hw4, ← set_sent l0]
    exact row_store8 HP3.out (l0.length + 1) (by simp) (sent (-72))⟩
  have HB4 : Aside0 (Below w.heap.size w w4) := ⟨by rw [hw4]; exact ((((((((HB3.out.setCell (Nat.le_refl _) _).setCell (Nat.le_refl _) _).setCell (Nat.le_refl _) _).setCell (Nat.le_refl _) _).setCell (Nat.le_refl _) _).setCell (Nat.le_refl _) _).setCell (Nat.le_refl _) _).setCell (Nat.le_refl _) _)⟩
  rw [← hw4]
  clear hw4 c0 c1 c2 c3 c4 c5 c6 c7 d0 d1 d2 d3 d4 d5 d6 d7
  go_wp2
  go_ret
  exact ⟨rfl, HP4.out, HB4.out⟩
end Go.Proofs.YtakhipedjccpkaaDoor.PH.Says
namespace Go.Proofs.YtakhipedjccpkaaDoor.PH.Says
open Go.RowKit Go.Proofs.YtakhipedjccpkaaDoorW.PrintWords Go.Proofs.YtakhipedjccpkaaDoorW.PrintLast Go.Proofs.YtakhipedjccpkaaDoorW.PrintMore
attribute [local go_sem] max2_int min2_int max_two min_two max_three min_three max_four min_four
set_option linter.unusedVariables false
set_option linter.unusedSimpArgs false

theorem Row33.left {w : World} {g N : Nat} {l m : List S33} (h : Row33 w g N (l ++ m)) : Row33 w g N l := by
  obtain ⟨cur, h1, h2, h3⟩ := h.pre.out
  refine ⟨⟨⟨cur, h1, h2, ?_⟩⟩, by have := h.le; simp at this; omega, h.max⟩
  have e : cur.toList.take (l.length * 8) = (cur.toList.take ((l ++ m).length * 8)).take (l.length * 8) := by
    rw [List.take_take]; congr 1; simp
  rw [e, h3, flat_app, List.take_append_of_le_length (by rw [flat33_len]; exact Nat.le_refl _), List.take_of_length_le (by rw [flat33_len]; exact Nat.le_refl _)]
set_option maxHeartbeats 4000000 in
set_option maxRecDepth 100000 in
theorem same_events (A B : Option Addr) (c d : Nat) (l : List S33) (w : World) (hA : Kd.C k33 w A l.length l) (hB : Kd.C k33 w B l.length l) :
    Calls Tryd.prog 16 #[.slice A l.length c, .slice B l.length d] w fun e w' => e = .returned (.bool true) ∧ ∃ n, w' = w.drewN n := by
  have hmx := Kd.C_max hA
  have HA := Aside0.mk hA
  have HB := Aside0.mk hB
  clear hA hB
  go_enter Tryd.func16, Tryd.ntmps16
  go_wp2
  go_loopg [5] (l.length + 1) (fun gk v5 wr => ∃ i n : Nat, v5 = .int .i64 i ∧ i ≤ l.length ∧ l.length - i < gk ∧ wr = w.drewN n)
  case atStart => exact ⟨0, 0, rfl, by omega, by omega, rfl⟩
  case round =>
    obtain ⟨i, n, rfl, il, hgk, rfl⟩ := hrel
    by_cases hi : i < l.length
    · have hi' : decide ((i : Int) < (l.length : Int)) = true := decide_eq_true (by omega)
      have hi1 : (i : Int) < (l.length : Int) := by omega
      obtain ⟨ad, ea, x0, x1, x2, x3, x4, x5, x6, x7⟩ := at_T33 HA.out (i : Int) (by omega) (by omega)
      obtain ⟨bd, eb, y0, y1, y2, y3, y4, y5, y6, y7⟩ := at_T33 HB.out (i : Int) (by omega) (by omega)
      subst ea eb
      rw [Int.toNat_natCast] at x0 x1 x2 x3 x4 x5 x6 x7 y0 y1 y2 y3 y4 y5 y6 y7
      obtain ⟨e, he⟩ : ∃ e, e = rd_T33 l (i : Int) := ⟨_, rfl⟩
      rw [← he] at x0 x1 x2 x3 x4 x5 x6 x7 y0 y1 y2 y3 y4 y5 y6 y7
      clear he
      have heq : ∀ (d : Nat) (w : World), (Op.equalIn (d + 3) 33 (.agg #[.int .i64 e.f0, .int .i64 e.f1, .int .i64 e.f2, .int .i64 e.f3, .int .i64 e.f4, .int .i64 e.f5, .int .i64 e.f6.f0, .int .i64 e.f6.f1]) (.agg #[.int .i64 e.f0, .int .i64 e.f1, .int .i64 e.f2, .int .i64 e.f3, .int .i64 e.f4, .int .i64 e.f5, .int .i64 e.f6.f0, .int .i64 e.f6.f1])).run Tryd.prog w = .ok true w := fun d w => by rw [eqA33]; simp
      go_upto_region 6 with (fail)
      go_quiet (fail)
      go_wp2
      go_roundg (gk - 1)
      case measure => omega
      case rel => exact ⟨i + 1, n + nq, by go_num, by omega, by omega, rfl⟩
    · have hi' : decide ((i : Int) < (l.length : Int)) = false := decide_eq_false (by omega)
      go_wp2
      go_ret
      exact ⟨rfl, n, rfl⟩
set_option maxHeartbeats 4000000 in
set_option maxRecDepth 100000 in
theorem kept_ref (g c : Nat) (A : Option Addr) (l : List S33) (w : World) (hR : Row33 w g (l.length + 2) (l ++ [sent (-71), sent (-72)])) (hC : Kd.C k33 w A l.length l) (hl : l.length ≤ 2199023255552) :
    Calls Tryd.prog 12 #[.slice (some ⟨g, 0, none⟩) l.length (l.length + 2), .slice A l.length c] w fun e w' => e = .returned (.bool true) ∧ ∃ n, w' = w.drewN n := by
  have HR := Aside0.mk hR
  have HS : Aside0 (∀ c d, Calls Tryd.prog 16 #[.slice (some ⟨g, 0, none⟩) l.length c, .slice A l.length d] w fun e w' => e = .returned (.bool true) ∧ ∃ n, w' = w.drewN n) := ⟨fun c d => same_events _ A c d l w (by
    have := Kd.R_reads' (Row33.row (base := 0) (Row33.left hR) (Nat.zero_le _))
    exact this.2.2) hC⟩
  obtain ⟨⟨c0, c1, c2, c3, c4, c5, c6, c7⟩, _⟩ := row_cells hR (i := l.length) (y := sent (-71)) (by simp) (by rw [rd33_eq _ (by simp)]; simp)
  obtain ⟨⟨d0, d1, d2, d3, d4, d5, d6, d7⟩, _⟩ := row_cells hR (i := l.length + 1) (y := sent (-72)) (by simp) (by rw [rd33_eq _ (by simp)]; simp)
  clear hR hC c0 c2 c3 c4 c5 c6 c7 d0 d2 d3 d4 d5 d6 d7
  have h1 : wrap64 ((l.length : Int) + 2) = (l.length : Int) + 2 := wrap_i64 (by unfold I64; omega)
  have h2 : wrap64 ((l.length : Int) + 1) = (l.length : Int) + 1 := wrap_i64 (by unfold I64; omega)
  go_enter Tryd.func12, Tryd.ntmps12
  go_wp2_with (go_at_call 16; (with_reducible refine (HS.out _ _).mono ?_); rintro e w1 ⟨rfl, n, rfl⟩)
  go_ret
  exact ⟨rfl, n, rfl⟩
end Go.Proofs.YtakhipedjccpkaaDoor.PH.Says
