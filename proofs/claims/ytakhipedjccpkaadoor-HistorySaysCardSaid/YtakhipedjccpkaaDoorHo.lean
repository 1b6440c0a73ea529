/- history.Of at the document's example. -/
import Derived.Test.YtakhipedjccpkaaDoorHb
import Derived.LoopN
import Derived.BigQuiet
import Derived.Laws.MakeOwn
namespace Go.Proofs.YtakhipedjccpkaaDoor.PH
open Go.RowKit Go.Proofs.YtakhipedjccpkaaDoorW.PrintWords Go.Proofs.YtakhipedjccpkaaDoorW.PrintLast Go.Proofs.YtakhipedjccpkaaDoorW.PrintMore
set_option linter.unusedVariables false
set_option linter.unusedSimpArgs false

structure OArgs (gs g1 ga g2 gt : Nat) (w : World) : Prop where
  h1 : w.heap[gs]? = some (.cells #[.slice (some ⟨g1, 0, none⟩) 1 1] 60 (0, 0))
  h2 : w.heap[g1]? = some (.cells #[.int .i64 2, .int .i64 7, .int .i64 0, .int .i64 0] 59 (0, 0))
  h3 : w.heap[ga]? = some (.cells #[.slice (some ⟨g2, 0, none⟩) 1 1] 61 (0, 0))
  h4 : w.heap[g2]? = some (.cells #[.int .i64 0, .int .i64 9] 31 (0, 0))
  h5 : w.heap[gt]? = some (.cells #[.int .i64 0, .int .i64 0, .int .i64 9, .int .i64 0, .int .i64 0, .int .i64 1, .int .i64 0, .int .i64 1, .int .i64 0, .int .i64 0, .int .i64 0, .int .i64 0, .int .i64 10, .int .i64 0, .int .i64 0] 45 (0, 0))
theorem OArgs.below {gs g1 ga g2 gt : Nat} {w w' : World} (h : OArgs gs g1 ga g2 gt w) (hb : Below w.heap.size w w') : OArgs gs g1 ga g2 gt w' :=
  ⟨blk_below h.h1 hb, blk_below h.h2 hb, blk_below h.h3 hb, blk_below h.h4 hb, blk_below h.h5 hb⟩
theorem OArgs.s {gs g1 ga g2 gt : Nat} {w : World} (h : OArgs gs g1 ga g2 gt w) : w.cell? ⟨gs, 0, none⟩ = some (.slice (some ⟨g1, 0, none⟩) 1 1) := (blk_cell h.h1 0).trans rfl
theorem OArgs.a {gs g1 ga g2 gt : Nat} {w : World} (h : OArgs gs g1 ga g2 gt w) : w.cell? ⟨ga, 0, none⟩ = some (.slice (some ⟨g2, 0, none⟩) 1 1) := (blk_cell h.h3 0).trans rfl
structure OWd (gs g1 ga g2 gt bb be : Nat) (w0 w : World) (vb : Value) (ne : Int) : Prop where
  args : OArgs gs g1 ga g2 gt w
  hb : w.heap[bb]? = some (.cells #[vb] 47 (0, 0))
  he : w.heap[be]? = some (.cells #[.int .i64 ne] 3 (0, 0))
  low : Below w0.heap.size w0 w
theorem OWd.below {gs g1 ga g2 gt bb be : Nat} {w0 w w' : World} {vb : Value} {ne : Int} (h : OWd gs g1 ga g2 gt bb be w0 w vb ne) (hb : Below w.heap.size w w') : OWd gs g1 ga g2 gt bb be w0 w' vb ne :=
  ⟨h.args.below hb, blk_below h.hb hb, blk_below h.he hb, below_then h.low h.low.size hb⟩
def oRec (w : World) (a b c d e : Int) : World := w.alloc (.cells #[.int .i64 a, .int .i64 b, .int .i64 c, .int .i64 d, .int .i64 e] 45)
theorem cellN {w : World} {b : Nat} {cs : Array Value} {t : TypeId} (h : w.heap[b]? = some (.cells cs t (0, 0))) (j : Nat) (v : Value) (hv : cs[j]? = some v) : w.cell? ⟨b, j, none⟩ = some v := (blk_cell h j).trans hv
theorem OWd.grow {gs g1 ga g2 gt bb be : Nat} {w0 w w' : World} {vb : Value} {ne : Int} (h : OWd gs g1 ga g2 gt bb be w0 w vb ne) (hb : w.grownBy w' none) : OWd gs g1 ga g2 gt bb be w0 w' vb ne :=
  h.below ⟨hb.os, hb.tape, hb.output, hb.size, fun i hi => hb.block i hi (by simp)⟩
theorem OWd.setB {gs g1 ga g2 gt bb be : Nat} {w0 w : World} {vb : Value} {ne : Int} (h : OWd gs g1 ga g2 gt bb be w0 w vb ne) (hbb : w0.heap.size ≤ bb) (hne : bb ≠ be) (ha : gs < bb ∧ g1 < bb ∧ ga < bb ∧ g2 < bb ∧ gt < bb) (v : Value) : OWd gs g1 ga g2 gt bb be w0 (w.setCell ⟨bb, 0, none⟩ v) v ne := by
  have o : ∀ {b : Nat}, b ≠ bb → (w.setCell ⟨bb, 0, none⟩ v).heap[b]? = w.heap[b]? := fun {b} hb => Below.heap_setCell w ⟨bb, 0, none⟩ v b hb
  exact ⟨⟨(o (by omega)).trans h.args.h1, (o (by omega)).trans h.args.h2, (o (by omega)).trans h.args.h3, (o (by omega)).trans h.args.h4, (o (by omega)).trans h.args.h5⟩, one_setCell h.hb, (o (Ne.symm hne)).trans h.he, h.low.setCell hbb v⟩
theorem OWd.setE {gs g1 ga g2 gt bb be : Nat} {w0 w : World} {vb : Value} {ne : Int} (h : OWd gs g1 ga g2 gt bb be w0 w vb ne) (hbb : w0.heap.size ≤ be) (hne : bb ≠ be) (ha : gs < be ∧ g1 < be ∧ ga < be ∧ g2 < be ∧ gt < be) (n : Int) : OWd gs g1 ga g2 gt bb be w0 (w.setCell ⟨be, 0, none⟩ (.int .i64 n)) vb n := by
  have o : ∀ {b : Nat}, b ≠ be → (w.setCell ⟨be, 0, none⟩ (.int .i64 n)).heap[b]? = w.heap[b]? := fun {b} hb => Below.heap_setCell w ⟨be, 0, none⟩ _ b hb
  exact ⟨⟨(o (by omega)).trans h.args.h1, (o (by omega)).trans h.args.h2, (o (by omega)).trans h.args.h3, (o (by omega)).trans h.args.h4, (o (by omega)).trans h.args.h5⟩, (o hne).trans h.hb, one_setCell h.he, h.low.setCell hbb _⟩
theorem gbN (w : World) (n : Nat) : w.grownBy (w.drewN n) none := grown_of_below (pw_below_drewN (Below.refl w.heap.size w) n) none
/-- A row of the call's own: its first event's cells. -/
structure Raw (w : World) (g N : Nat) (xs : List Value) : Prop where
  out : ∃ cur : Array Value, w.heap[g]? = some (.cells cur 33 (0, 0)) ∧ cur.size = N * 8 ∧ cur.toList.take 8 = xs
theorem Raw.set {w : World} {g N : Nat} {xs : List Value} (h : Raw w g N xs) (j : Nat) (v : Value) : Raw (w.setCell ⟨g, j, none⟩ v) g N (xs.set j v) := by
  obtain ⟨cur, h1, h2, h3⟩ := h.out
  refine ⟨cur.setIfInBounds j v, ?_, by simpa using h2, ?_⟩
  · rw [setCell_eq_setRow w g j cur 33 (0, 0) v h1]
    exact setRow_heap w g cur _ 33 _ h1
  · rw [Array.toList_setIfInBounds, List.take_set, h3]
theorem Raw.below {w w' : World} {g N : Nat} {xs : List Value} (h : Raw w g N xs) (hb : Below w.heap.size w w') : Raw w' g N xs := by
  obtain ⟨cur, h1, h2, h3⟩ := h.out
  exact ⟨cur, blk_below h1 hb, h2, h3⟩
theorem Raw.cell {w : World} {g N : Nat} {xs : List Value} (h : Raw w g N xs) (j : Nat) (v : Value) (hv : xs[j]? = some v) (hj : j < 8) : w.cell? ⟨g, j, none⟩ = some v ∧ w.frozen? ⟨g, j, none⟩ = false := by
  obtain ⟨cur, h1, h2, h3⟩ := h.out
  refine ⟨?_, blk_frozen h1 j⟩
  rw [blk_cell h1, ← hv, ← h3, List.getElem?_take_of_lt hj, Array.getElem?_toList]
theorem Raw.of {w : World} {base g c : Nat} {ok : Nat → Prop} {p : S33} (h : Kd.R k33 33 w base ok (.slice (some ⟨g, 0, none⟩) 1 c) [p]) : 1 ≤ c ∧ c ≤ maxLen ∧ Raw w g c (cs33 p) := by
  obtain ⟨_, inner, ⟨h1, h2⟩, h3⟩ := h
  rcases h2 with ⟨h2, _⟩ | ⟨g', cap, cur, e, _, hb, hc, hm, hs, ht⟩
  · cases h2
  · injection e with e1 e2 e3
    injection e1 with e1
    injection e1 with e1
    subst e1 e3
    have hM := k33_openM (h3.2 0 p rfl)
    have hl : inner.length = 8 := by rw [h1]; rfl
    refine ⟨hc, hm, ⟨cur, hb, hs, ?_⟩⟩
    have : inner = cs33 p := by
      have e : (inner.drop (0 * 8)).take 8 = inner := by rw [Nat.zero_mul, List.drop_zero, List.take_of_length_le (by omega)]
      rw [← e]; exact hM
    rw [← this, ← ht]; rfl
theorem Raw.row {w : World} {g N base : Nat} {p : S33} (h : Raw w g N (cs33 p)) (hN : 1 ≤ N) (hm : N ≤ maxLen) (hg : base ≤ g) : Kd.R k33 33 w base (fun _ => True) (.slice (some ⟨g, 0, none⟩) 1 N) [p] := by
  obtain ⟨cur, h1, h2, h3⟩ := h.out
  exact Pre33.row (l := [p]) ⟨⟨cur, h1, h2, by rw [show [p].length * 8 = 8 from rfl, h3]; simp [flat33]⟩⟩ hN hm hg
theorem gb_set0 (W : World) (b : Nat) (v : Value) : W.grownBy (W.setCell ⟨b, 0, none⟩ v) (some b) := ⟨rfl, rfl, rfl, by simp, fun i hi hne => Below.heap_setCell W ⟨b, 0, none⟩ v i (fun e => hne (by rw [e]))⟩
set_option maxHeartbeats 8000000 in
set_option maxRecDepth 100000 in
theorem of_awake (gs g1 ga g2 gt : Nat) (w : World) (h : OArgs gs g1 ga g2 gt w) :
    Calls Tryd.prog 15 #[.slice (some ⟨gs, 0, none⟩) 1 1, .slice (some ⟨ga, 0, none⟩) 1 1, .slice (some ⟨gt, 0, none⟩) 3 3] w fun e w' => ∃ v, e = .returned (.tuple #[v, .int .i64 0]) ∧ Kd.R k33 33 w' w.heap.size (fun _ => True) v [⟨0, 2, 7, 0, 0, 2, ⟨0, 9⟩⟩] ∧ Below w.heap.size w w' := by
  have HA := Aside0.mk h
  have s1 := h.s
  have a1 := h.a
  have HLT : Aside0 (gs < w.heap.size ∧ g1 < w.heap.size ∧ ga < w.heap.size ∧ g2 < w.heap.size ∧ gt < w.heap.size) := ⟨blk_lt h.h1, blk_lt h.h2, blk_lt h.h3, blk_lt h.h4, blk_lt h.h5⟩
  clear h
  have hmk1 : ∀ W : World, (Instr.makeSlice 85 (.int .i64 1) (.int .i64 1)).run Tryd.prog W = .ok (.slice (some ⟨W.heap.size, 0, none⟩) 1 1) (W.alloc (.cells #[.slice none 0 0] 47)) := by
    intro W
    have info47 : (Tryd.prog.info? 47).map (fun i => (i.zero, i.size, i.bytes)) = some (some (.slice none 0 0), 1, 24) := by kernel_rfl
    obtain ⟨i0, hi, hzz⟩ := Option.map_eq_some_iff.1 info47
    simp only [Prod.mk.injEq] at hzz
    obtain ⟨hz0, hz1, hz2⟩ := hzz
    have := run_make (P := Tryd.prog) W 85 47 i0 _ Tryd.underlying85 hi hz0 .i64 .i64 1 1 (by omega) (by omega) (by rw [hz2]; omega) (by omega)
    rw [this, hz1]
    have e : madeCells (Value.cells (Value.slice none 0 0)) (Int.toNat 1 * 1) = #[(Value.slice none 0 0)] := by apply Array.toList_inj.1; exact toList_madeCells_one _ 1
    rw [e]; rfl
  have hmk2 : ∀ W : World, (Instr.makeSlice 47 (.int .i64 1) (.int .i64 1)).run Tryd.prog W = .ok (.slice (some ⟨W.heap.size, 0, none⟩) 1 1) (W.alloc (.cells #[.int .i64 0] 3)) := by
    intro W
    obtain ⟨i0, hi, hzz⟩ := Option.map_eq_some_iff.1 info3
    simp only [Prod.mk.injEq] at hzz
    obtain ⟨hz0, hz1, hz2⟩ := hzz
    have := run_make (P := Tryd.prog) W 47 3 i0 _ Tryd.underlying47 hi hz0 .i64 .i64 1 1 (by omega) (by omega) (by rw [hz2]; omega) (by omega)
    rw [this, hz1]
    have e : madeCells (Value.cells (Value.int .i64 0)) (Int.toNat 1 * 1) = #[(Value.int .i64 0)] := by apply Array.toList_inj.1; exact toList_madeCells_one _ 1
    rw [e]; rfl
  go_enter Tryd.func15, Tryd.ntmps15
  go_wp2
  refine wp_loop_rounds 2 ?_
  rw [rounds_succ]
  go_wp2
  rw [rounds_succ]
  go_upto_region 12 with (fail)
  obtain ⟨w1, hw1⟩ : ∃ w1, w1 = (w.alloc (.cells #[.slice none 0 0] 47)).alloc (.cells #[.int .i64 0] 3) := ⟨_, rfl⟩
  have hl1 : Below w.heap.size w w1 := by rw [hw1]; exact below_then (below_alloc (Below.refl _ _) _) (by simp) (below_alloc (Below.refl _ _) _)
  have HW1 : Aside0 (OWd gs g1 ga g2 gt w.heap.size (w.heap.size + 1) w w1 (.slice none 0 0) 0) := ⟨⟨HA.out.below hl1, by rw [hw1]; exact (Below.heap_alloc _ _ _ (by simp)).trans (blk_new w _), by rw [hw1]; have := blk_new (w.alloc (.cells #[.slice none 0 0] 47)) (.cells #[.int .i64 0] 3); rw [World.size_alloc] at this; exact this, hl1⟩⟩
  obtain ⟨bb, hbb⟩ : ∃ bb, bb = w.heap.size := ⟨_, rfl⟩
  have HBB := Aside0.mk hbb
  rw [← hw1]
  rw [← hbb] at HW1 ⊢
  clear hw1 hl1 s1 a1 hmk1 hmk2 HA hbb
  go_upto_region 13 with (fail)
  have t0 := cellN HW1.out.args.h5 0 _ rfl
  have t1 := cellN HW1.out.args.h5 1 _ rfl
  have t2 := cellN HW1.out.args.h5 2 _ rfl
  have t3 := cellN HW1.out.args.h5 3 _ rfl
  have t4 := cellN HW1.out.args.h5 4 _ rfl
  refine wp_loop_rounds 4 ?_
  rw [rounds_succ]
  go_upto_region 15 with (fail)
  obtain ⟨w2, hw2⟩ : ∃ w2, w2 = w1.alloc (.cells #[.int .i64 0, .int .i64 0, .int .i64 9, .int .i64 0, .int .i64 0] 45) := ⟨_, rfl⟩
  have hl2 : Below w1.heap.size w1 w2 := by rw [hw2]; exact below_alloc (Below.refl _ _) _
  have HW2 := Aside0.mk (HW1.out.below hl2)
  have HR2 : Aside0 (w2.heap[w1.heap.size]? = some (.cells #[.int .i64 0, .int .i64 0, .int .i64 9, .int .i64 0, .int .i64 0] 45 (0, 0))) := ⟨by rw [hw2]; exact blk_new w1 _⟩
  rw [← hw2]
  clear hw2 hl2 t0 t1 t2 t3 t4
  have r0 : w2.cell? ⟨w1.heap.size, 0, none⟩ = some (.int .i64 0) := cellN HR2.out 0 _ rfl
  have r1 : w2.cell? ⟨w1.heap.size, 1, none⟩ = some (.int .i64 0) := cellN HR2.out 1 _ rfl
  have r2 : w2.cell? ⟨w1.heap.size, 2, none⟩ = some (.int .i64 9) := cellN HR2.out 2 _ rfl
  have r3 : w2.cell? ⟨w1.heap.size, 3, none⟩ = some (.int .i64 0) := cellN HR2.out 3 _ rfl
  have r4 : w2.cell? ⟨w1.heap.size, 4, none⟩ = some (.int .i64 0) := cellN HR2.out 4 _ rfl
  have s1 := HW2.out.args.s
  have b1 : w2.cell? ⟨bb, 0, none⟩ = some (.slice none 0 0) := cellN HW2.out.hb 0 _ rfl
  have b1' := blk_frozen HW2.out.hb 0
  have e1 : w2.cell? ⟨bb + 1, 0, none⟩ = some (.int .i64 0) := cellN HW2.out.he 0 _ rfl
  have e1' := blk_frozen HW2.out.he 0
  go_upto_region 17 with (fail)
  go_quiet (fail)
  obtain ⟨w3, hw3⟩ : ∃ w3, w3 = w2.drewN nq := ⟨_, rfl⟩
  have HW3 : Aside0 (OWd gs g1 ga g2 gt bb (bb + 1) w w3 (.slice none 0 0) 0) := ⟨by rw [hw3]; exact HW2.out.grow (gbN _ _)⟩
  have HR3 : Aside0 (w3.heap[w1.heap.size]? = some (.cells #[.int .i64 0, .int .i64 0, .int .i64 9, .int .i64 0, .int .i64 0] 45 (0, 0))) := ⟨by rw [hw3]; exact blk_below HR2.out (pw_below_drewN (Below.refl _ _) _)⟩
  rw [← hw3]
  clear hw3 r0 r1 r2 r3 r4 s1 b1 b1' e1 e1'
  have r0 : w3.cell? ⟨w1.heap.size, 0, none⟩ = some (.int .i64 0) := cellN HR3.out 0 _ rfl
  have r1 : w3.cell? ⟨w1.heap.size, 1, none⟩ = some (.int .i64 0) := cellN HR3.out 1 _ rfl
  have r2 : w3.cell? ⟨w1.heap.size, 2, none⟩ = some (.int .i64 9) := cellN HR3.out 2 _ rfl
  have r3 : w3.cell? ⟨w1.heap.size, 3, none⟩ = some (.int .i64 0) := cellN HR3.out 3 _ rfl
  have r4 : w3.cell? ⟨w1.heap.size, 4, none⟩ = some (.int .i64 0) := cellN HR3.out 4 _ rfl
  have s1 := HW3.out.args.s
  have b1 : w3.cell? ⟨bb, 0, none⟩ = some (.slice none 0 0) := cellN HW3.out.hb 0 _ rfl
  have b1' := blk_frozen HW3.out.hb 0
  have e1 : w3.cell? ⟨bb + 1, 0, none⟩ = some (.int .i64 0) := cellN HW3.out.he 0 _ rfl
  have e1' := blk_frozen HW3.out.he 0
  go_wp2_with fail
  go_quiet (fail)
  obtain ⟨w4, hw4⟩ : ∃ w4, w4 = w3.drewN nq := ⟨_, rfl⟩
  have HW4 : Aside0 (OWd gs g1 ga g2 gt bb (bb + 1) w w4 (.slice none 0 0) 0) := ⟨by rw [hw4]; exact HW3.out.grow (gbN _ _)⟩
  have HR4 : Aside0 (w4.heap[w1.heap.size]? = some (.cells #[.int .i64 0, .int .i64 0, .int .i64 9, .int .i64 0, .int .i64 0] 45 (0, 0))) := ⟨by rw [hw4]; exact blk_below HR3.out (pw_below_drewN (Below.refl _ _) _)⟩
  rw [← hw4]
  clear hw4 r0 r1 r2 r3 r4 s1 b1 b1' e1 e1'
  have r0 : w4.cell? ⟨w1.heap.size, 0, none⟩ = some (.int .i64 0) := cellN HR4.out 0 _ rfl
  have r1 : w4.cell? ⟨w1.heap.size, 1, none⟩ = some (.int .i64 0) := cellN HR4.out 1 _ rfl
  have r2 : w4.cell? ⟨w1.heap.size, 2, none⟩ = some (.int .i64 9) := cellN HR4.out 2 _ rfl
  have r3 : w4.cell? ⟨w1.heap.size, 3, none⟩ = some (.int .i64 0) := cellN HR4.out 3 _ rfl
  have r4 : w4.cell? ⟨w1.heap.size, 4, none⟩ = some (.int .i64 0) := cellN HR4.out 4 _ rfl
  have s1 := HW4.out.args.s
  have b1 : w4.cell? ⟨bb, 0, none⟩ = some (.slice none 0 0) := cellN HW4.out.hb 0 _ rfl
  have b1' := blk_frozen HW4.out.hb 0
  have e1 : w4.cell? ⟨bb + 1, 0, none⟩ = some (.int .i64 0) := cellN HW4.out.he 0 _ rfl
  have e1' := blk_frozen HW4.out.he 0
  have hsz4 : w.heap.size ≤ w4.heap.size := HW4.out.low.size
  have HL4 : Aside0 (w.heap.size ≤ bb ∧ bb < w4.heap.size ∧ bb + 1 < w4.heap.size ∧ w1.heap.size < w4.heap.size) := ⟨by rw [HBB.out]; exact Nat.le_refl _, blk_lt HW4.out.hb, blk_lt HW4.out.he, blk_lt HR4.out⟩
  go_upto_region 23 with (first
    | ((with_reducible refine gate_builtin (b := .append) (xs := #[.tmp 116, .tmp 119]) rfl ?_); at_builtin; refine Kd.R_append (Kd.int .i64) (w0 := w) w.heap.size rfl (.tmp 116) (.tmp 119) 47 3 (.int .i64 0) 8 rfl Tryd.underlying47 info3 rfl (by decide) (by decide) (.slice none 0 0) ([] : List Int) 0 [.int .i64 0] (fun k => w4.heap.size ≤ k) (fun _ => False) rfl rfl rfl (fun _ h => h.elim) (fun _ h => h) (Kd.R_nil _ _ _ _ _) HW4.out.low hsz4 (by decide) ?_; intro v5 w5 ho hb hg hat; obtain ⟨A5, c5, e5⟩ := Kd.R_slice ho; subst e5; have HO5 := Aside0.mk ho; have HG5 := Aside0.mk hg; have HW5 := Aside0.mk (HW4.out.grow hg); have b2 : w5.cell? ⟨bb, 0, none⟩ = some (.slice none 0 0) := cellN HW5.out.hb 0 _ rfl; have b2' := blk_frozen HW5.out.hb 0; clear ho hb hg hat))
  have hLT : gs < bb ∧ g1 < bb ∧ ga < bb ∧ g2 < bb ∧ gt < bb := by rw [HBB.out]; exact HLT.out
  obtain ⟨w6, hw6⟩ : ∃ w6, w6 = w5.setCell ⟨bb, 0, none⟩ (.slice A5 1 c5) := ⟨_, rfl⟩
  have HW6 : Aside0 (OWd gs g1 ga g2 gt bb (bb + 1) w w6 (.slice A5 1 c5) 0) := ⟨by rw [hw6]; exact HW5.out.setB HL4.out.1 (by omega) hLT _⟩
  have HR6 : Aside0 (w6.heap[w1.heap.size]? = some (.cells #[.int .i64 0, .int .i64 0, .int .i64 9, .int .i64 0, .int .i64 0] 45 (0, 0))) := ⟨by
    rw [hw6]
    have hne : w1.heap.size ≠ bb := by intro e; have := HR4.out; rw [e, HW4.out.hb] at this; cases this
    rw [Below.heap_setCell w5 ⟨bb, 0, none⟩ _ _ hne]
    exact (HG5.out.block _ (blk_lt HR4.out) (by simp [Value.ownBlock])).trans HR4.out⟩
  have HV6 : Aside0 (Kd.V (Kd.int .i64) 3 w6 0 (fun k => w4.heap.size ≤ k ∧ k < w6.heap.size) (.slice A5 1 c5) [0]) := ⟨by
    rw [hw6]
    have v0 := Kd.V_far (Kd.R_V (base' := 0) HO5.out) (p := ⟨bb, 0, none⟩) (fun k hk => by show k ≠ bb; have := HL4.out; omega) (.slice A5 1 c5)
    exact Kd.V_bound v0⟩
  have HS46 : Aside0 (w4.heap.size ≤ w6.heap.size) := ⟨by rw [hw6]; simpa using HG5.out.size⟩
  rw [← hw6]
  clear hw6 b2 b2' hLT r0 r1 r2 r3 r4 s1 b1 b1' e1 e1'
  have r0 : w6.cell? ⟨w1.heap.size, 0, none⟩ = some (.int .i64 0) := cellN HR6.out 0 _ rfl
  have r1 : w6.cell? ⟨w1.heap.size, 1, none⟩ = some (.int .i64 0) := cellN HR6.out 1 _ rfl
  have r2 : w6.cell? ⟨w1.heap.size, 2, none⟩ = some (.int .i64 9) := cellN HR6.out 2 _ rfl
  have r3 : w6.cell? ⟨w1.heap.size, 3, none⟩ = some (.int .i64 0) := cellN HR6.out 3 _ rfl
  have r4 : w6.cell? ⟨w1.heap.size, 4, none⟩ = some (.int .i64 0) := cellN HR6.out 4 _ rfl
  have s1 := HW6.out.args.s
  have b1 : w6.cell? ⟨bb, 0, none⟩ = some (.slice A5 1 c5) := cellN HW6.out.hb 0 _ rfl
  have b1' := blk_frozen HW6.out.hb 0
  have e1 : w6.cell? ⟨bb + 1, 0, none⟩ = some (.int .i64 0) := cellN HW6.out.he 0 _ rfl
  have e1' := blk_frozen HW6.out.he 0
  have m0 : w6.cell? ⟨g1, 0, none⟩ = some (.int .i64 2) := cellN HW6.out.args.h2 0 _ rfl
  have m1 : w6.cell? ⟨g1, 1, none⟩ = some (.int .i64 7) := cellN HW6.out.args.h2 1 _ rfl
  have m2 : w6.cell? ⟨g1, 2, none⟩ = some (.int .i64 0) := cellN HW6.out.args.h2 2 _ rfl
  have m3 : w6.cell? ⟨g1, 3, none⟩ = some (.int .i64 0) := cellN HW6.out.args.h2 3 _ rfl
  have lg1 := blk_lt HW6.out.args.h2
  have lgs := blk_lt HW6.out.args.h1
  have lr := blk_lt HR6.out
  go_region
  obtain ⟨w7, hw7⟩ : ∃ w7, w7 = (w6.alloc (.cells #[.int .i64 2, .int .i64 7, .int .i64 0, .int .i64 0] 59)).drew := ⟨_, rfl⟩
  have hl7 : Below w6.heap.size w6 w7 := by rw [hw7]; exact below_drew (below_alloc (Below.refl _ _) _)
  have HW7 := Aside0.mk (HW6.out.below hl7)
  have HM7 : Aside0 (w7.heap[w6.heap.size]? = some (.cells #[.int .i64 2, .int .i64 7, .int .i64 0, .int .i64 0] 59 (0, 0))) := ⟨by rw [hw7]; exact blk_new w6 _⟩
  have HV7 := Aside0.mk (Kd.V_below HV6.out hl7)
  have hs67 := hl7.size
  rw [← hw7]
  clear hw7 hl7 m0 m1 m2 m3 lg1 lgs lr r0 r1 r2 r3 r4 s1 b1 b1' e1 e1'
  have m0 : w7.cell? ⟨w6.heap.size, 0, none⟩ = some (.int .i64 2) := cellN HM7.out 0 _ rfl
  have m1 : w7.cell? ⟨w6.heap.size, 1, none⟩ = some (.int .i64 7) := cellN HM7.out 1 _ rfl
  have m2 : w7.cell? ⟨w6.heap.size, 2, none⟩ = some (.int .i64 0) := cellN HM7.out 2 _ rfl
  have m3 : w7.cell? ⟨w6.heap.size, 3, none⟩ = some (.int .i64 0) := cellN HM7.out 3 _ rfl
  have hsz7 : w.heap.size ≤ w7.heap.size := HW7.out.low.size
  go_wp2_with (first
    | ((with_reducible refine gate_builtin (b := .append) (xs := #[.tmp 130, .tmp 141]) rfl ?_); at_builtin; refine Kd.R_append k33 (w0 := w) w.heap.size rfl (.tmp 130) (.tmp 141) 22 33 (.agg #[(.int .i64 0), (.int .i64 0), (.int .i64 0), (.int .i64 0), (.int .i64 0), (.int .i64 0), (.int .i64 0), (.int .i64 0)]) 64 rfl Tryd.underlying22 info33 rfl (by decide) (by omega) (.slice none 0 0) ([] : List S33) (⟨0, 2, 7, 0, 0, -1, ⟨4, 0⟩⟩ : S33) [.int .i64 0, .int .i64 2, .int .i64 7, .int .i64 0, .int .i64 0, .int .i64 (-1), .int .i64 4, .int .i64 0] (fun k => w7.heap.size ≤ k) (fun _ => False) rfl (by first | (go_simp; done) | (go_simp; rfl)) (k33_mkM _ _ _ (⟨0, 2, 7, 0, 0, -1, ⟨4, 0⟩⟩ : S33)) (fun _ hk => hk.elim) (fun _ h => h) (Kd.R_nil _ _ _ _ _) HW7.out.low hsz7 (by decide) ?_; intro v8 w8 ho hb hg hat; obtain ⟨A8, c8, e8⟩ := Kd.R_slice ho; subst e8; have HO8 := Aside0.mk ho; have HW8 := Aside0.mk (HW7.out.grow hg); have HV8 := Aside0.mk (Kd.V_grown HV7.out hg (fun _ _ => by simp [Value.ownBlock])); have HSZ8 := Aside0.mk hg.size; clear ho hb hg hat))
  clear m0 m1 m2 m3
  have HS8 : Aside0 (w7.heap.size ≤ w8.heap.size) := HSZ8
  have t0 : w8.cell? ⟨gt, 5, none⟩ = some (.int .i64 1) := cellN HW8.out.args.h5 5 _ rfl
  have t1 : w8.cell? ⟨gt, 6, none⟩ = some (.int .i64 0) := cellN HW8.out.args.h5 6 _ rfl
  have t2 : w8.cell? ⟨gt, 7, none⟩ = some (.int .i64 1) := cellN HW8.out.args.h5 7 _ rfl
  have t3 : w8.cell? ⟨gt, 8, none⟩ = some (.int .i64 0) := cellN HW8.out.args.h5 8 _ rfl
  have t4 : w8.cell? ⟨gt, 9, none⟩ = some (.int .i64 0) := cellN HW8.out.args.h5 9 _ rfl
  rw [rounds_succ]
  go_upto_region 15 with (fail)
  obtain ⟨w9, hw9⟩ : ∃ w9, w9 = w8.alloc (.cells #[.int .i64 1, .int .i64 0, .int .i64 1, .int .i64 0, .int .i64 0] 45) := ⟨_, rfl⟩
  have hl9 : Below w8.heap.size w8 w9 := by rw [hw9]; exact below_alloc (Below.refl _ _) _
  have HW9 := Aside0.mk (HW8.out.below hl9)
  have HR9 : Aside0 (w9.heap[w8.heap.size]? = some (.cells #[.int .i64 1, .int .i64 0, .int .i64 1, .int .i64 0, .int .i64 0] 45 (0, 0))) := ⟨by rw [hw9]; exact blk_new w8 _⟩
  have HO9 := Aside0.mk (Kd.R_below HO8.out hl9)
  have HV9 := Aside0.mk (Kd.V_below HV8.out hl9)
  have HS9 : Aside0 (w7.heap.size ≤ w8.heap.size ∧ w8.heap.size < w9.heap.size) := ⟨by have := HS8.out; omega, by rw [hw9]; simp⟩
  rw [← hw9]
  clear hw9 hl9 t0 t1 t2 t3 t4
  have r0 : w9.cell? ⟨w8.heap.size, 0, none⟩ = some (.int .i64 1) := cellN HR9.out 0 _ rfl
  have r1 : w9.cell? ⟨w8.heap.size, 1, none⟩ = some (.int .i64 0) := cellN HR9.out 1 _ rfl
  have r2 : w9.cell? ⟨w8.heap.size, 2, none⟩ = some (.int .i64 1) := cellN HR9.out 2 _ rfl
  have r3 : w9.cell? ⟨w8.heap.size, 3, none⟩ = some (.int .i64 0) := cellN HR9.out 3 _ rfl
  have r4 : w9.cell? ⟨w8.heap.size, 4, none⟩ = some (.int .i64 0) := cellN HR9.out 4 _ rfl
  go_wp2_with fail
  clear r0 r1 r2 r3 r4
  have t0 : w9.cell? ⟨gt, 10, none⟩ = some (.int .i64 0) := cellN HW9.out.args.h5 10 _ rfl
  have t1 : w9.cell? ⟨gt, 11, none⟩ = some (.int .i64 0) := cellN HW9.out.args.h5 11 _ rfl
  have t2 : w9.cell? ⟨gt, 12, none⟩ = some (.int .i64 10) := cellN HW9.out.args.h5 12 _ rfl
  have t3 : w9.cell? ⟨gt, 13, none⟩ = some (.int .i64 0) := cellN HW9.out.args.h5 13 _ rfl
  have t4 : w9.cell? ⟨gt, 14, none⟩ = some (.int .i64 0) := cellN HW9.out.args.h5 14 _ rfl
  rw [rounds_succ]
  go_upto_region 15 with (fail)
  obtain ⟨w10, hw10⟩ : ∃ w10, w10 = w9.alloc (.cells #[.int .i64 0, .int .i64 0, .int .i64 10, .int .i64 0, .int .i64 0] 45) := ⟨_, rfl⟩
  have hl10 : Below w9.heap.size w9 w10 := by rw [hw10]; exact below_alloc (Below.refl _ _) _
  have HW10 := Aside0.mk (HW9.out.below hl10)
  have HR10 : Aside0 (w10.heap[w9.heap.size]? = some (.cells #[.int .i64 0, .int .i64 0, .int .i64 10, .int .i64 0, .int .i64 0] 45 (0, 0))) := ⟨by rw [hw10]; exact blk_new w9 _⟩
  have HO10 := Aside0.mk (Kd.R_below HO9.out hl10)
  have HV10 := Aside0.mk (Kd.V_below HV9.out hl10)
  have HS10 : Aside0 (w7.heap.size ≤ w9.heap.size ∧ w9.heap.size < w10.heap.size) := ⟨by have := HS9.out; omega, by rw [hw10]; simp⟩
  rw [← hw10]
  clear hw10 hl10 t0 t1 t2 t3 t4
  have r0 : w10.cell? ⟨w9.heap.size, 0, none⟩ = some (.int .i64 0) := cellN HR10.out 0 _ rfl
  have r1 : w10.cell? ⟨w9.heap.size, 1, none⟩ = some (.int .i64 0) := cellN HR10.out 1 _ rfl
  have r2 : w10.cell? ⟨w9.heap.size, 2, none⟩ = some (.int .i64 10) := cellN HR10.out 2 _ rfl
  have r3 : w10.cell? ⟨w9.heap.size, 3, none⟩ = some (.int .i64 0) := cellN HR10.out 3 _ rfl
  have r4 : w10.cell? ⟨w9.heap.size, 4, none⟩ = some (.int .i64 0) := cellN HR10.out 4 _ rfl
  have s1 := HW10.out.args.s
  have b1 : w10.cell? ⟨bb, 0, none⟩ = some (.slice A5 1 c5) := cellN HW10.out.hb 0 _ rfl
  have b1' := blk_frozen HW10.out.hb 0
  have e1 : w10.cell? ⟨bb + 1, 0, none⟩ = some (.int .i64 0) := cellN HW10.out.he 0 _ rfl
  have e1' := blk_frozen HW10.out.he 0
  go_upto_region 17 with (fail)
  go_quiet (fail)
  obtain ⟨w11, hw11⟩ : ∃ w11, w11 = w10.drewN nq := ⟨_, rfl⟩
  have HW11 : Aside0 (OWd gs g1 ga g2 gt bb (bb + 1) w w11 (.slice A5 1 c5) 0) := ⟨by rw [hw11]; exact HW10.out.grow (gbN _ _)⟩
  have HR11 : Aside0 (w11.heap[w9.heap.size]? = some (.cells #[.int .i64 0, .int .i64 0, .int .i64 10, .int .i64 0, .int .i64 0] 45 (0, 0))) := ⟨by rw [hw11]; exact blk_below HR10.out (pw_below_drewN (Below.refl _ _) _)⟩
  have HO11 : Aside0 (Kd.R k33 33 w11 w.heap.size (fun k => w7.heap.size ≤ k) (.slice A8 1 c8) [⟨0, 2, 7, 0, 0, -1, ⟨4, 0⟩⟩]) := ⟨by rw [hw11]; exact Kd.R_drewN HO10.out _⟩
  have HV11 : Aside0 (Kd.V (Kd.int .i64) 3 w11 0 (fun k => w4.heap.size ≤ k ∧ k < w6.heap.size) (.slice A5 1 c5) [0]) := ⟨by rw [hw11]; exact Kd.V_drewN HV10.out _⟩
  have HS11 : Aside0 (w10.heap.size ≤ w11.heap.size) := ⟨by rw [hw11]; exact Nat.le_refl _⟩
  rw [← hw11]
  clear hw11 r0 r1 r2 r3 r4 s1 b1 b1' e1 e1'
  have r0 : w11.cell? ⟨w9.heap.size, 0, none⟩ = some (.int .i64 0) := cellN HR11.out 0 _ rfl
  have r1 : w11.cell? ⟨w9.heap.size, 1, none⟩ = some (.int .i64 0) := cellN HR11.out 1 _ rfl
  have r2 : w11.cell? ⟨w9.heap.size, 2, none⟩ = some (.int .i64 10) := cellN HR11.out 2 _ rfl
  have r3 : w11.cell? ⟨w9.heap.size, 3, none⟩ = some (.int .i64 0) := cellN HR11.out 3 _ rfl
  have r4 : w11.cell? ⟨w9.heap.size, 4, none⟩ = some (.int .i64 0) := cellN HR11.out 4 _ rfl
  have s1 := HW11.out.args.s
  have b1 : w11.cell? ⟨bb, 0, none⟩ = some (.slice A5 1 c5) := cellN HW11.out.hb 0 _ rfl
  have b1' := blk_frozen HW11.out.hb 0
  have e1 : w11.cell? ⟨bb + 1, 0, none⟩ = some (.int .i64 0) := cellN HW11.out.he 0 _ rfl
  have e1' := blk_frozen HW11.out.he 0
  have a1 := HW11.out.args.a
  have m0 : w11.cell? ⟨g2, 0, none⟩ = some (.int .i64 0) := cellN HW11.out.args.h4 0 _ rfl
  have m1 : w11.cell? ⟨g2, 1, none⟩ = some (.int .i64 9) := cellN HW11.out.args.h4 1 _ rfl
  have lg1 := blk_lt HW11.out.args.h4
  have lgs := blk_lt HW11.out.args.h3
  have lr := blk_lt HR11.out
  go_wp2_with fail
  go_region
  obtain ⟨w12, hw12⟩ : ∃ w12, w12 = (w11.alloc (.cells #[.int .i64 0, .int .i64 9] 31)).drew := ⟨_, rfl⟩
  have hl12 : Below w11.heap.size w11 w12 := by rw [hw12]; exact below_drew (below_alloc (Below.refl _ _) _)
  have HW12 := Aside0.mk (HW11.out.below hl12)
  have HR12 := Aside0.mk (blk_below HR11.out hl12)
  have HM12 : Aside0 (w12.heap[w11.heap.size]? = some (.cells #[.int .i64 0, .int .i64 9] 31 (0, 0))) := ⟨by rw [hw12]; exact blk_new w11 _⟩
  have HO12 := Aside0.mk (Kd.R_below HO11.out hl12)
  have HV12 := Aside0.mk (Kd.V_below HV11.out hl12)
  rw [← hw12]
  clear hw12 hl12 m0 m1 lg1 lgs lr a1 r0 r1 r2 r3 r4 s1 b1 b1' e1 e1'
  have r0 : w12.cell? ⟨w9.heap.size, 0, none⟩ = some (.int .i64 0) := cellN HR12.out 0 _ rfl
  have r1 : w12.cell? ⟨w9.heap.size, 1, none⟩ = some (.int .i64 0) := cellN HR12.out 1 _ rfl
  have r2 : w12.cell? ⟨w9.heap.size, 2, none⟩ = some (.int .i64 10) := cellN HR12.out 2 _ rfl
  have r3 : w12.cell? ⟨w9.heap.size, 3, none⟩ = some (.int .i64 0) := cellN HR12.out 3 _ rfl
  have r4 : w12.cell? ⟨w9.heap.size, 4, none⟩ = some (.int .i64 0) := cellN HR12.out 4 _ rfl
  have s1 := HW12.out.args.s
  have b1 : w12.cell? ⟨bb, 0, none⟩ = some (.slice A5 1 c5) := cellN HW12.out.hb 0 _ rfl
  have b1' := blk_frozen HW12.out.hb 0
  have e1 : w12.cell? ⟨bb + 1, 0, none⟩ = some (.int .i64 0) := cellN HW12.out.he 0 _ rfl
  have e1' := blk_frozen HW12.out.he 0
  have m0 : w12.cell? ⟨w11.heap.size, 0, none⟩ = some (.int .i64 0) := cellN HM12.out 0 _ rfl
  have m1 : w12.cell? ⟨w11.heap.size, 1, none⟩ = some (.int .i64 9) := cellN HM12.out 1 _ rfl
  go_wp2_with fail
  go_quiet (fail)
  obtain ⟨w13, hw13⟩ : ∃ w13, w13 = w12.drewN nq := ⟨_, rfl⟩
  have hl13 : Below w12.heap.size w12 w13 := by rw [hw13]; exact pw_below_drewN (Below.refl _ _) _
  have HW13 := Aside0.mk (HW12.out.below hl13)
  have HR13 := Aside0.mk (blk_below HR12.out hl13)
  have HM13 := Aside0.mk (blk_below HM12.out hl13)
  have HO13 := Aside0.mk (Kd.R_below HO12.out hl13)
  have HV13 := Aside0.mk (Kd.V_below HV12.out hl13)
  rw [← hw13]
  clear hw13 hl13 m0 m1 r0 r1 r2 r3 r4 s1 b1 b1' e1 e1'
  have r0 : w13.cell? ⟨w9.heap.size, 0, none⟩ = some (.int .i64 0) := cellN HR13.out 0 _ rfl
  have r1 : w13.cell? ⟨w9.heap.size, 1, none⟩ = some (.int .i64 0) := cellN HR13.out 1 _ rfl
  have r2 : w13.cell? ⟨w9.heap.size, 2, none⟩ = some (.int .i64 10) := cellN HR13.out 2 _ rfl
  have r3 : w13.cell? ⟨w9.heap.size, 3, none⟩ = some (.int .i64 0) := cellN HR13.out 3 _ rfl
  have r4 : w13.cell? ⟨w9.heap.size, 4, none⟩ = some (.int .i64 0) := cellN HR13.out 4 _ rfl
  have s1 := HW13.out.args.s
  have b1 : w13.cell? ⟨bb, 0, none⟩ = some (.slice A5 1 c5) := cellN HW13.out.hb 0 _ rfl
  have b1' := blk_frozen HW13.out.hb 0
  have e1 : w13.cell? ⟨bb + 1, 0, none⟩ = some (.int .i64 0) := cellN HW13.out.he 0 _ rfl
  have e1' := blk_frozen HW13.out.he 0
  go_upto_region 29 with (fail)
  obtain ⟨w14, hw14⟩ : ∃ w14, w14 = w13.setCell ⟨bb + 1, 0, none⟩ (.int .i64 1) := ⟨_, rfl⟩
  have hLT : gs < bb + 1 ∧ g1 < bb + 1 ∧ ga < bb + 1 ∧ g2 < bb + 1 ∧ gt < bb + 1 := by rw [HBB.out]; have := HLT.out; omega
  have hbe : bb + 1 < w7.heap.size := by have := HL4.out; have := HS46.out; omega
  have hg14 : w13.grownBy w14 (some (bb + 1)) := by rw [hw14]; exact gb_set0 _ _ _
  have HW14 : Aside0 (OWd gs g1 ga g2 gt bb (bb + 1) w w14 (.slice A5 1 c5) 1) := ⟨by rw [hw14]; exact HW13.out.setE (by rw [HBB.out]; omega) (by omega) hLT _⟩
  have HR14 : Aside0 (w14.heap[w9.heap.size]? = some (.cells #[.int .i64 0, .int .i64 0, .int .i64 10, .int .i64 0, .int .i64 0] 45 (0, 0))) := ⟨(hg14.block _ (blk_lt HR13.out) (by intro h; injection h with h; have := HS10.out; omega)).trans HR13.out⟩
  have HM14 : Aside0 (w14.heap[w11.heap.size]? = some (.cells #[.int .i64 0, .int .i64 9] 31 (0, 0))) := ⟨(hg14.block _ (blk_lt HM13.out) (by intro h; injection h with h; have := HS10.out; have := HS11.out; omega)).trans HM13.out⟩
  have HO14 := Aside0.mk (Kd.R_grown HO13.out hg14 (fun k hk h => by injection h with h; omega))
  have HV14 := Aside0.mk (Kd.V_grown HV13.out hg14 (fun k hk h => by injection h with h; have := HL4.out; omega))
  rw [← hw14]
  clear hw14 hg14 hLT r0 r1 r2 r3 r4 s1 b1 b1' e1 e1'
  have r0 : w14.cell? ⟨w9.heap.size, 0, none⟩ = some (.int .i64 0) := cellN HR14.out 0 _ rfl
  have r1 : w14.cell? ⟨w9.heap.size, 1, none⟩ = some (.int .i64 0) := cellN HR14.out 1 _ rfl
  have r2 : w14.cell? ⟨w9.heap.size, 2, none⟩ = some (.int .i64 10) := cellN HR14.out 2 _ rfl
  have r3 : w14.cell? ⟨w9.heap.size, 3, none⟩ = some (.int .i64 0) := cellN HR14.out 3 _ rfl
  have r4 : w14.cell? ⟨w9.heap.size, 4, none⟩ = some (.int .i64 0) := cellN HR14.out 4 _ rfl
  have s1 := HW14.out.args.s
  have b1 : w14.cell? ⟨bb, 0, none⟩ = some (.slice A5 1 c5) := cellN HW14.out.hb 0 _ rfl
  have b1' := blk_frozen HW14.out.hb 0
  have e1 : w14.cell? ⟨bb + 1, 0, none⟩ = some (.int .i64 1) := cellN HW14.out.he 0 _ rfl
  have e1' := blk_frozen HW14.out.he 0
  have m0 : w14.cell? ⟨w11.heap.size, 0, none⟩ = some (.int .i64 0) := cellN HM14.out 0 _ rfl
  have m1 : w14.cell? ⟨w11.heap.size, 1, none⟩ = some (.int .i64 9) := cellN HM14.out 1 _ rfl
  obtain ⟨ad5, e5', x5⟩ := Kd.at_int (Kd.V_reads' HV14.out).2.2 0 (by decide) (by decide)
  subst e5'
  have x6 : w14.cell? (ad5.add 0) = some (.int .i64 0) := x5
  have x7 : w14.cell? ad5 = some (.int .i64 0) := by have h := x6; rwa [show ad5.add 0 = ad5 from by unfold Addr.add; simp] at h
  clear x5
  obtain ⟨g8, cap8, e8', hg8, hl8, hcc8⟩ := Kd.R_form HO14.out (by decide)
  clear hcc8
  injection e8' with e8a e8b e8c
  clear e8b
  subst e8a e8c
  have HG8 := Aside0.mk hg8
  have HL8 := Aside0.mk hl8
  clear hg8 hl8
  go_upto_region 30 with (fail)
  go_quiet (fail)
  obtain ⟨hc1, hc2, hraw⟩ := Raw.of HO14.out
  obtain ⟨w15, hw15⟩ : ∃ w15, w15 = w14.drewN nq := ⟨_, rfl⟩
  have hl15 : Below w14.heap.size w14 w15 := by rw [hw15]; exact pw_below_drewN (Below.refl _ _) _
  have HW15 := Aside0.mk (HW14.out.below hl15)
  have HM15 := Aside0.mk (blk_below HM14.out hl15)
  have HQ15 := Aside0.mk (hraw.below hl15)
  rw [← hw15]
  clear hw15 hl15 hraw m0 m1 x6 x7 r0 r1 r2 r3 r4 s1 b1 b1' e1 e1'
  have m0 : w15.cell? ⟨w11.heap.size, 0, none⟩ = some (.int .i64 0) := cellN HM15.out 0 _ rfl
  have m1 : w15.cell? ⟨w11.heap.size, 1, none⟩ = some (.int .i64 9) := cellN HM15.out 1 _ rfl
  obtain ⟨y5, y5'⟩ := HQ15.out.cell 5 _ rfl (by decide)
  obtain ⟨y6, y6'⟩ := HQ15.out.cell 6 _ rfl (by decide)
  obtain ⟨y7, y7'⟩ := HQ15.out.cell 7 _ rfl (by decide)
  go_wp2_with fail
  go_region
  obtain ⟨w16, hw16⟩ : ∃ w16, w16 = (((w15.setCell ⟨g8, 5, none⟩ (.int .i64 2)).setCell ⟨g8, 6, none⟩ (.int .i64 0)).setCell ⟨g8, 7, none⟩ (.int .i64 9)).drew := ⟨_, rfl⟩
  have HQ16 : Aside0 (Raw w16 g8 c8 (cs33 ⟨0, 2, 7, 0, 0, 2, ⟨0, 9⟩⟩)) := ⟨by rw [hw16]; exact (((HQ15.out.set 5 _).set 6 _).set 7 _).below (below_drew (Below.refl _ _))⟩
  have HB16 : Aside0 (Below w.heap.size w w16) := ⟨by rw [hw16]; exact below_drew (((HW15.out.low.setCell (p := ⟨g8, 5, none⟩) HG8.out _).setCell (p := ⟨g8, 6, none⟩) HG8.out _).setCell (p := ⟨g8, 7, none⟩) HG8.out _)⟩
  rw [← hw16]
  clear hw16 m0 m1 y5 y5' y6 y6' y7 y7'
  go_wp2_with fail
  rw [rounds_succ]
  go_wp2
  go_ret2
  exact ⟨_, rfl, HQ16.out.row hc1 hc2 HG8.out, HB16.out⟩
end Go.Proofs.YtakhipedjccpkaaDoor.PH
