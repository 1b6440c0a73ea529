import Derived.Test.YtakhipedjccpkaaDoorPHx0
import Derived.Test.YtakhipedjccpkaaDoorPHx6
namespace Go.Proofs.YtakhipedjccpkaaDoor.PH
open Go.RowKit Go.Proofs.YtakhipedjccpkaaDoorW.PrintWords Go.Proofs.YtakhipedjccpkaaDoorW.PrintLast Go.Proofs.YtakhipedjccpkaaDoorW.PrintMore
noncomputable section
attribute [local go_sem] max2_int min2_int max_two min_two max_three min_three max_four min_four   -- for this text's walks alone
set_option linter.unusedVariables false
set_option linter.unusedSimpArgs false

/-! ### history_right: function 25 -/
mutual
def history_right.l0 : Nat → List (S33) → List (S33) → Int → Int → Option (Bool)
 | 0, _, _, _, _ => none
 | k + 1, x0, x7, x8, x9 => if x9 < x8 then (if 0 ≤ x9 then (if x9 < (x7.length : Int) then (if ((rd_T33 x7 x9).f4) < 0 then (history_right.j1 k x0 x9 x7 x8 x9 true ((rd_T33 x7 x9).f0) ((rd_T33 x7 x9).f1) ((rd_T33 x7 x9).f2) ((rd_T33 x7 x9).f3) ((rd_T33 x7 x9).f4) ((rd_T33 x7 x9).f5) ((rd_T33 x7 x9).f6.f0) ((rd_T33 x7 x9).f6.f1)) else (if ((rd_T33 x7 x9).f5) = (-1) then (history_right.j1 k x0 x9 x7 x8 x9 false ((rd_T33 x7 x9).f0) ((rd_T33 x7 x9).f1) ((rd_T33 x7 x9).f2) ((rd_T33 x7 x9).f3) ((rd_T33 x7 x9).f4) ((rd_T33 x7 x9).f5) ((rd_T33 x7 x9).f6.f0) ((rd_T33 x7 x9).f6.f1)) else (history_right.j1 k x0 x9 x7 x8 x9 (decide (((rd_T33 x7 x9).f5) ≤ ((rd_T33 x7 x9).f4))) ((rd_T33 x7 x9).f0) ((rd_T33 x7 x9).f1) ((rd_T33 x7 x9).f2) ((rd_T33 x7 x9).f3) ((rd_T33 x7 x9).f4) ((rd_T33 x7 x9).f5) ((rd_T33 x7 x9).f6.f0) ((rd_T33 x7 x9).f6.f1)))) else (none)) else (none)) else (some true)
def history_right.j1 : Nat → List (S33) → Int → List (S33) → Int → Int → Bool → Int → Int → Int → Int → Int → Int → Int → Int → Option (Bool)
 | 0, _, _, _, _, _, _, _, _, _, _, _, _, _, _ => none
 | k + 1, x0, x3, x7, x8, x9, x28, x217000, x217001, x217002, x217003, x217004, x217005, x217006, x217007 => if x28 = true then (some false) else (if 0 ≤ x3 then (if x3 ≤ (x0.length : Int) then ((some (x0.take (x3 : Int).toNat : List (S33))).bind fun y217 => (history_right.l1 k x0 x7 x8 x9 y217 (y217.length : Int) 0 x217000 x217001 x217002 x217003 x217004 x217005 x217006 x217007)) else (none)) else (none))
def history_right.l1 : Nat → List (S33) → List (S33) → Int → Int → List (S33) → Int → Int → Int → Int → Int → Int → Int → Int → Int → Int → Option (Bool)
 | 0, _, _, _, _, _, _, _, _, _, _, _, _, _, _, _ => none
 | k + 1, x0, x7, x8, x9, x31, x32, x33, x217000, x217001, x217002, x217003, x217004, x217005, x217006, x217007 => if x33 < x32 then (if 0 ≤ x33 then (if x33 < (x31.length : Int) then (if x217000 = ((rd_T33 x31 x33).f0) then ((history_ahead.f x217000 x217001 x217002 x217003 x217004 x217005 x217006 x217007 ((rd_T33 x31 x33).f0) ((rd_T33 x31 x33).f1) ((rd_T33 x31 x33).f2) ((rd_T33 x31 x33).f3) ((rd_T33 x31 x33).f4) ((rd_T33 x31 x33).f5) ((rd_T33 x31 x33).f6.f0) ((rd_T33 x31 x33).f6.f1)).bind fun t223 => (if t223 = true then (history_right.l1 k x0 x7 x8 x9 x31 x32 (wrap64 (x33 + 1)) x217000 x217001 x217002 x217003 x217004 x217005 x217006 x217007) else ((history_ahead.f ((rd_T33 x31 x33).f0) ((rd_T33 x31 x33).f1) ((rd_T33 x31 x33).f2) ((rd_T33 x31 x33).f3) ((rd_T33 x31 x33).f4) ((rd_T33 x31 x33).f5) ((rd_T33 x31 x33).f6.f0) ((rd_T33 x31 x33).f6.f1) x217000 x217001 x217002 x217003 x217004 x217005 x217006 x217007).bind fun t224 => (if t224 = true then (history_right.l1 k x0 x7 x8 x9 x31 x32 (wrap64 (x33 + 1)) x217000 x217001 x217002 x217003 x217004 x217005 x217006 x217007) else (some false))))) else (history_right.l1 k x0 x7 x8 x9 x31 x32 (wrap64 (x33 + 1)) x217000 x217001 x217002 x217003 x217004 x217005 x217006 x217007)) else (none)) else (none)) else (history_right.l0 k x0 x7 x8 (wrap64 (x9 + 1)))
end
def history_right.f (k : Nat) (l0 : List (S33)) : Option (Bool) := history_right.l0 k l0 l0 (l0.length : Int) 0
theorem history_right.mono_l : ∀ k, (∀ y0 y1 y2 y3, LeO (history_right.l0 k y0 y1 y2 y3) (history_right.l0 (k + 1) y0 y1 y2 y3)) ∧ (∀ y0 y1 y2 y3 y4 y5 y6 y7 y8 y9 y10 y11 y12 y13, LeO (history_right.j1 k y0 y1 y2 y3 y4 y5 y6 y7 y8 y9 y10 y11 y12 y13) (history_right.j1 (k + 1) y0 y1 y2 y3 y4 y5 y6 y7 y8 y9 y10 y11 y12 y13)) ∧ (∀ y0 y1 y2 y3 y4 y5 y6 y7 y8 y9 y10 y11 y12 y13 y14, LeO (history_right.l1 k y0 y1 y2 y3 y4 y5 y6 y7 y8 y9 y10 y11 y12 y13 y14) (history_right.l1 (k + 1) y0 y1 y2 y3 y4 y5 y6 y7 y8 y9 y10 y11 y12 y13 y14))
 | 0 => ⟨fun _ _ _ _ r h => by simp [history_right.l0] at h, fun _ _ _ _ _ _ _ _ _ _ _ _ _ _ r h => by simp [history_right.j1] at h, fun _ _ _ _ _ _ _ _ _ _ _ _ _ _ _ r h => by simp [history_right.l1] at h⟩
 | k + 1 => by
  obtain ⟨ih0, ih1, ih2⟩ := history_right.mono_l k
  refine ⟨?_, ?_, ?_⟩
  ·intro y0 y1 y2 y3
   unfold history_right.l0
   repeat' first
   | (with_reducible exact ih0 _ _ _ _)
   | (with_reducible exact ih1 _ _ _ _ _ _ _ _ _ _ _ _ _ _)
   | (with_reducible exact ih2 _ _ _ _ _ _ _ _ _ _ _ _ _ _ _)
   | (with_reducible exact LeO.refl _)
   | (with_reducible exact LeO.none _)
   | (with_reducible refine LeO.ite ?_ ?_)
   | (with_reducible refine LeO.bind ?_ (fun _ => ?_))
   | exact ih0 _ _ _ _
   | exact ih1 _ _ _ _ _ _ _ _ _ _ _ _ _ _
   | exact ih2 _ _ _ _ _ _ _ _ _ _ _ _ _ _ _
   | exact LeO.none _
   | refine LeO.ite ?_ ?_
   | refine LeO.bind ?_ (fun _ => ?_)
  ·intro y0 y1 y2 y3 y4 y5 y6 y7 y8 y9 y10 y11 y12 y13
   unfold history_right.j1
   repeat' first
   | (with_reducible exact ih0 _ _ _ _)
   | (with_reducible exact ih1 _ _ _ _ _ _ _ _ _ _ _ _ _ _)
   | (with_reducible exact ih2 _ _ _ _ _ _ _ _ _ _ _ _ _ _ _)
   | (with_reducible exact LeO.refl _)
   | (with_reducible exact LeO.none _)
   | (with_reducible refine LeO.ite ?_ ?_)
   | (with_reducible refine LeO.bind ?_ (fun _ => ?_))
   | exact ih0 _ _ _ _
   | exact ih1 _ _ _ _ _ _ _ _ _ _ _ _ _ _
   | exact ih2 _ _ _ _ _ _ _ _ _ _ _ _ _ _ _
   | exact LeO.none _
   | refine LeO.ite ?_ ?_
   | refine LeO.bind ?_ (fun _ => ?_)
  ·intro y0 y1 y2 y3 y4 y5 y6 y7 y8 y9 y10 y11 y12 y13 y14
   unfold history_right.l1
   repeat' first
   | (with_reducible exact ih0 _ _ _ _)
   | (with_reducible exact ih1 _ _ _ _ _ _ _ _ _ _ _ _ _ _)
   | (with_reducible exact ih2 _ _ _ _ _ _ _ _ _ _ _ _ _ _ _)
   | (with_reducible exact LeO.refl _)
   | (with_reducible exact LeO.none _)
   | (with_reducible refine LeO.ite ?_ ?_)
   | (with_reducible refine LeO.bind ?_ (fun _ => ?_))
   | exact ih0 _ _ _ _
   | exact ih1 _ _ _ _ _ _ _ _ _ _ _ _ _ _
   | exact ih2 _ _ _ _ _ _ _ _ _ _ _ _ _ _ _
   | exact LeO.none _
   | refine LeO.ite ?_ ?_
   | refine LeO.bind ?_ (fun _ => ?_)
theorem history_right.mono : ∀ a0 k, LeO (history_right.f k a0) (history_right.f (k + 1) a0) := by
 intro a0 k
 obtain ⟨ih0, ih1, ih2⟩ := history_right.mono_l k
 unfold history_right.f
 repeat' first
   | (with_reducible exact ih0 _ _ _ _)
   | (with_reducible exact ih1 _ _ _ _ _ _ _ _ _ _ _ _ _ _)
   | (with_reducible exact ih2 _ _ _ _ _ _ _ _ _ _ _ _ _ _ _)
   | (with_reducible exact LeO.refl _)
   | (with_reducible exact LeO.none _)
   | (with_reducible refine LeO.ite ?_ ?_)
   | (with_reducible refine LeO.bind ?_ (fun _ => ?_))
   | exact ih0 _ _ _ _
   | exact ih1 _ _ _ _ _ _ _ _ _ _ _ _ _ _
   | exact ih2 _ _ _ _ _ _ _ _ _ _ _ _ _ _ _
   | exact LeO.none _
   | refine LeO.ite ?_ ?_
   | refine LeO.bind ?_ (fun _ => ?_)
set_option maxHeartbeats 8000000 in
set_option maxRecDepth 100000 in
theorem history_right.calls (k : Nat) (A0 : Option Addr) (c0 : Nat) (l0 : List (S33)) (r : Bool) (w : World) (hr0 : Kd.C k33 w A0 l0.length l0) (hc0 : l0.length ≤ c0) (h : history_right.f k l0 = some r) :
  Calls Tryd.prog 25 #[.slice A0 l0.length c0] w fun e w' => e = .returned (.bool r) ∧ Below w.heap.size w w' := by
 have hu33 := Tryd.underlying33
 have HR0 := Aside0.mk hr0
 have HC0 := Aside0.mk hc0
 clear hr0 hc0
 have HB := Aside0.mk (Below.refl w.heap.size w)
 have H : (history_right.l0 k l0 l0 (l0.length : Int) 0) = some r := h
 clear h
 have H' := Aside0.mk H
 clear H
 go_enter Tryd.func25, Tryd.ntmps25
 go_wp2
 go_loopg [9] k (fun kq v9 w' => ∃ (x9_1 : Int), v9 = .int .i64 x9_1 ∧ Aside0 (history_right.l0 kq l0 l0 (l0.length : Int) x9_1 = some r) ∧ Aside0 (kq ≤ k) ∧ Aside0 (Below w.heap.size w w'))
 case atStart => exact ⟨(0), (by first | rfl | (simp; done) | (simp [*]; done)), H', ⟨Nat.le_refl _⟩, ⟨by repeat (first | (with_reducible first | exact HB.out | apply below_alloc | apply pw_below_drewN | apply below_drew1) | exact HB.out)⟩⟩
 case round =>
  clear H'
  obtain ⟨x9_1, rfl, HA, HK1, HB⟩ := hrel
  cases gk with
  | zero => exact absurd HA.out (by simp [history_right.l0])
  | succ k1 =>
   have H := HA.out
   clear HA
   simp only [history_right.l0] at H
   by_cases c2 : x9_1 < (l0.length : Int)
   ·rw [if_pos c2] at H
    have c2b0 : decide (x9_1 < (l0.length : Int)) = true := decide_eq_true c2
    clear c2
    by_cases c3 : 0 ≤ x9_1
    ·rw [if_pos c3] at H
     have c3b0 : decide (0 ≤ x9_1) = true := decide_eq_true c3
     clear c3
     by_cases c4 : x9_1 < (l0.length : Int)
     ·rw [if_pos c4] at H
      have c4b0 : decide (x9_1 < (l0.length : Int)) = true := decide_eq_true c4
      clear c4
      have HC5 := Aside0.mk H
      clear H
      have p215 : 0 ≤ (x9_1 : Int) := of_decide_eq_true (by first | (with_reducible assumption) | assumption)
      have q215 : x9_1 < (l0.length : Int) := of_decide_eq_true (by first | (with_reducible assumption) | assumption)
      obtain ⟨ad215, e215, hx215_0, hx215_1, hx215_2, hx215_3, hx215_4, hx215_5, hx215_6, hx215_7⟩ := at_T33 HR0.out x9_1 p215 q215
      cases e215
      replace hx215_0 := (HB.out.cell (World.block_lt_of_cell? w _ hx215_0)).trans hx215_0
      replace hx215_1 := (HB.out.cell (World.block_lt_of_cell? w _ hx215_1)).trans hx215_1
      replace hx215_2 := (HB.out.cell (World.block_lt_of_cell? w _ hx215_2)).trans hx215_2
      replace hx215_3 := (HB.out.cell (World.block_lt_of_cell? w _ hx215_3)).trans hx215_3
      replace hx215_4 := (HB.out.cell (World.block_lt_of_cell? w _ hx215_4)).trans hx215_4
      replace hx215_5 := (HB.out.cell (World.block_lt_of_cell? w _ hx215_5)).trans hx215_5
      replace hx215_6 := (HB.out.cell (World.block_lt_of_cell? w _ hx215_6)).trans hx215_6
      replace hx215_7 := (HB.out.cell (World.block_lt_of_cell? w _ hx215_7)).trans hx215_7
      replace p215 := eq_true p215
      replace q215 := eq_true q215
      go_upto_region 4 with (first | ((with_reducible refine gate_dst (N := 4) rfl ?_); refine box_event ?hg (N := 4) ?hd (cs := #[.int .i64 0, .int .i64 0, .int .i64 0, .int .i64 0, .int .i64 0, .int .i64 0, .int .i64 0, .int .i64 0]) (t := 33) ?hr ?_; (case hd => rfl); (case hg => rfl); (case hr => first | (go_simp; done) | (go_simp; rfl)); intro gb216 hg w6 hbox hb; have n0_ := Aside0.mk (below_step (by repeat (first | (with_reducible first | exact HB.out | apply below_alloc | apply pw_below_drewN | apply below_drew1) | exact HB.out)) hb); have n1_ := Aside0.mk (hbox); have n2_ := Aside0.mk ((by rw [hg]; exact (below_size (by repeat (first | (with_reducible first | exact HB.out | apply below_alloc | apply pw_below_drewN | apply below_drew1) | exact HB.out))) : w.heap.size ≤ gb216)); have n3_ := Aside0.mk ((by rw [hg]; exact (below_size (by repeat (first | (with_reducible first | exact HB.out | apply below_alloc | apply pw_below_drewN | apply below_drew1) | exact HB.out))) : w.heap.size ≤ gb216)); clear HB; have HB := n0_; have BK216 := n1_; have GW216 := n2_; have GE216 := n3_; clear n0_ n1_ n2_ n3_; clear hb hbox hg; have hcz7_0 : w6.cell? ⟨gb216, 0, none⟩ = some (.int .i64 0) := (blk_cell BK216.out 0).trans rfl; have hcz7_1 : w6.cell? ⟨gb216, 1, none⟩ = some (.int .i64 0) := (blk_cell BK216.out 1).trans rfl; have hcz7_2 : w6.cell? ⟨gb216, 2, none⟩ = some (.int .i64 0) := (blk_cell BK216.out 2).trans rfl; have hcz7_3 : w6.cell? ⟨gb216, 3, none⟩ = some (.int .i64 0) := (blk_cell BK216.out 3).trans rfl; have hcz7_4 : w6.cell? ⟨gb216, 4, none⟩ = some (.int .i64 0) := (blk_cell BK216.out 4).trans rfl; have hcz7_5 : w6.cell? ⟨gb216, 5, none⟩ = some (.int .i64 0) := (blk_cell BK216.out 5).trans rfl; have hcz7_6 : w6.cell? ⟨gb216, 6, none⟩ = some (.int .i64 0) := (blk_cell BK216.out 6).trans rfl; have hcz7_7 : w6.cell? ⟨gb216, 7, none⟩ = some (.int .i64 0) := (blk_cell BK216.out 7).trans rfl; have hfz7_0 := blk_frozen BK216.out 0; have hfz7_1 := blk_frozen BK216.out 1; have hfz7_2 := blk_frozen BK216.out 2; have hfz7_3 := blk_frozen BK216.out 3; have hfz7_4 := blk_frozen BK216.out 4; have hfz7_5 := blk_frozen BK216.out 5; have hfz7_6 := blk_frozen BK216.out 6; have hfz7_7 := blk_frozen BK216.out 7))
      (try simp only [Act.put, List.setIfInBounds_toArray, List.set_cons_zero, List.set_cons_succ])
      go_cut [28] (fun v28 wc => ∃ (kq : Nat) (x28_4 : Bool), v28 = .bool x28_4 ∧ Aside0 (history_right.j1 kq l0 x9_1 l0 (l0.length : Int) x9_1 x28_4 ((rd_T33 l0 x9_1).f0) ((rd_T33 l0 x9_1).f1) ((rd_T33 l0 x9_1).f2) ((rd_T33 l0 x9_1).f3) ((rd_T33 l0 x9_1).f4) ((rd_T33 l0 x9_1).f5) ((rd_T33 l0 x9_1).f6.f0) ((rd_T33 l0 x9_1).f6.f1) = some r) ∧ Aside0 (kq ≤ k1) ∧ Aside0 (wc.heap[gb216]? = some (.cells #[.int .i64 ((rd_T33 l0 x9_1).f0), .int .i64 ((rd_T33 l0 x9_1).f1), .int .i64 ((rd_T33 l0 x9_1).f2), .int .i64 ((rd_T33 l0 x9_1).f3), .int .i64 ((rd_T33 l0 x9_1).f4), .int .i64 ((rd_T33 l0 x9_1).f5), .int .i64 ((rd_T33 l0 x9_1).f6.f0), .int .i64 ((rd_T33 l0 x9_1).f6.f1)] 33 (0, 0))) ∧ Aside0 (Below w.heap.size w wc))
      case first =>
       have H := HC5.out
       clear HC5
       by_cases c8 : ((rd_T33 l0 x9_1).f4) < 0
       ·rw [if_pos c8] at H
        have c8b0 : decide (((rd_T33 l0 x9_1).f4) < 0) = true := decide_eq_true c8
        clear c8
        (first | rw [c8b0] | (simp only [i64_w, i32_w]; rw [c8b0]) | skip)
        have H' := Aside0.mk H
        clear H
        have hcz9_0 : w6.cell? ⟨gb216, 0, none⟩ = some (.int .i64 0) := (blk_cell BK216.out 0).trans rfl
        have hcz9_1 : w6.cell? ⟨gb216, 1, none⟩ = some (.int .i64 0) := (blk_cell BK216.out 1).trans rfl
        have hcz9_2 : w6.cell? ⟨gb216, 2, none⟩ = some (.int .i64 0) := (blk_cell BK216.out 2).trans rfl
        have hcz9_3 : w6.cell? ⟨gb216, 3, none⟩ = some (.int .i64 0) := (blk_cell BK216.out 3).trans rfl
        have hcz9_4 : w6.cell? ⟨gb216, 4, none⟩ = some (.int .i64 0) := (blk_cell BK216.out 4).trans rfl
        have hcz9_5 : w6.cell? ⟨gb216, 5, none⟩ = some (.int .i64 0) := (blk_cell BK216.out 5).trans rfl
        have hcz9_6 : w6.cell? ⟨gb216, 6, none⟩ = some (.int .i64 0) := (blk_cell BK216.out 6).trans rfl
        have hcz9_7 : w6.cell? ⟨gb216, 7, none⟩ = some (.int .i64 0) := (blk_cell BK216.out 7).trans rfl
        have hfz9_0 := blk_frozen BK216.out 0
        have hfz9_1 := blk_frozen BK216.out 1
        have hfz9_2 := blk_frozen BK216.out 2
        have hfz9_3 := blk_frozen BK216.out 3
        have hfz9_4 := blk_frozen BK216.out 4
        have hfz9_5 := blk_frozen BK216.out 5
        have hfz9_6 := blk_frozen BK216.out 6
        have hfz9_7 := blk_frozen BK216.out 7
        go_wp2
        go_meet
        case rel => exact ⟨_, (true), (by first | rfl | (simp; done) | (simp [*]; done)), H', ⟨by have := HK1.out; first | omega | exact Nat.le_refl _⟩, ⟨by (with_reducible repeat (first | refine blk_drewN ?_ _ | refine blk_drew ?_ | refine blk_alloc ?_ _)); refine blk_put (cs := #[.int .i64 ((rd_T33 l0 x9_1).f0), .int .i64 ((rd_T33 l0 x9_1).f1), .int .i64 ((rd_T33 l0 x9_1).f2), .int .i64 ((rd_T33 l0 x9_1).f3), .int .i64 ((rd_T33 l0 x9_1).f4), .int .i64 ((rd_T33 l0 x9_1).f5), .int .i64 ((rd_T33 l0 x9_1).f6.f0), .int .i64 0]) ?_ 7 _ rfl; (with_reducible repeat (first | refine blk_drewN ?_ _ | refine blk_drew ?_ | refine blk_alloc ?_ _)); refine blk_put (cs := #[.int .i64 ((rd_T33 l0 x9_1).f0), .int .i64 ((rd_T33 l0 x9_1).f1), .int .i64 ((rd_T33 l0 x9_1).f2), .int .i64 ((rd_T33 l0 x9_1).f3), .int .i64 ((rd_T33 l0 x9_1).f4), .int .i64 ((rd_T33 l0 x9_1).f5), .int .i64 0, .int .i64 0]) ?_ 6 _ rfl; (with_reducible repeat (first | refine blk_drewN ?_ _ | refine blk_drew ?_ | refine blk_alloc ?_ _)); refine blk_put (cs := #[.int .i64 ((rd_T33 l0 x9_1).f0), .int .i64 ((rd_T33 l0 x9_1).f1), .int .i64 ((rd_T33 l0 x9_1).f2), .int .i64 ((rd_T33 l0 x9_1).f3), .int .i64 ((rd_T33 l0 x9_1).f4), .int .i64 0, .int .i64 0, .int .i64 0]) ?_ 5 _ rfl; (with_reducible repeat (first | refine blk_drewN ?_ _ | refine blk_drew ?_ | refine blk_alloc ?_ _)); refine blk_put (cs := #[.int .i64 ((rd_T33 l0 x9_1).f0), .int .i64 ((rd_T33 l0 x9_1).f1), .int .i64 ((rd_T33 l0 x9_1).f2), .int .i64 ((rd_T33 l0 x9_1).f3), .int .i64 0, .int .i64 0, .int .i64 0, .int .i64 0]) ?_ 4 _ rfl; (with_reducible repeat (first | refine blk_drewN ?_ _ | refine blk_drew ?_ | refine blk_alloc ?_ _)); refine blk_put (cs := #[.int .i64 ((rd_T33 l0 x9_1).f0), .int .i64 ((rd_T33 l0 x9_1).f1), .int .i64 ((rd_T33 l0 x9_1).f2), .int .i64 0, .int .i64 0, .int .i64 0, .int .i64 0, .int .i64 0]) ?_ 3 _ rfl; (with_reducible repeat (first | refine blk_drewN ?_ _ | refine blk_drew ?_ | refine blk_alloc ?_ _)); refine blk_put (cs := #[.int .i64 ((rd_T33 l0 x9_1).f0), .int .i64 ((rd_T33 l0 x9_1).f1), .int .i64 0, .int .i64 0, .int .i64 0, .int .i64 0, .int .i64 0, .int .i64 0]) ?_ 2 _ rfl; (with_reducible repeat (first | refine blk_drewN ?_ _ | refine blk_drew ?_ | refine blk_alloc ?_ _)); refine blk_put (cs := #[.int .i64 ((rd_T33 l0 x9_1).f0), .int .i64 0, .int .i64 0, .int .i64 0, .int .i64 0, .int .i64 0, .int .i64 0, .int .i64 0]) ?_ 1 _ rfl; (with_reducible repeat (first | refine blk_drewN ?_ _ | refine blk_drew ?_ | refine blk_alloc ?_ _)); refine blk_put (cs := #[.int .i64 0, .int .i64 0, .int .i64 0, .int .i64 0, .int .i64 0, .int .i64 0, .int .i64 0, .int .i64 0]) ?_ 0 _ rfl; (with_reducible repeat (first | refine blk_drewN ?_ _ | refine blk_drew ?_ | refine blk_alloc ?_ _)); exact BK216.out⟩, ⟨by repeat (first | (with_reducible first | exact HB.out | apply below_alloc | apply pw_below_drewN | apply below_drew1 | refine below_set ?_ GE216.out) | exact HB.out)⟩⟩
       ·rw [if_neg c8] at H
        have c8b0 : decide (((rd_T33 l0 x9_1).f4) < 0) = false := decide_eq_false c8
        clear c8
        (first | rw [c8b0] | (simp only [i64_w, i32_w]; rw [c8b0]) | skip)
        by_cases c10 : ((rd_T33 l0 x9_1).f5) = (-1)
        ·rw [if_pos c10] at H
         have c10b0 : (((rd_T33 l0 x9_1).f5) == (-1)) = true := beq_iff_eq.mpr c10
         have c10b1 : (((rd_T33 l0 x9_1).f5) != (-1)) = false := bne_eq_false_iff_eq.mpr c10
         clear c10
         have H' := Aside0.mk H
         clear H
         have hcz11_0 : w6.cell? ⟨gb216, 0, none⟩ = some (.int .i64 0) := (blk_cell BK216.out 0).trans rfl
         have hcz11_1 : w6.cell? ⟨gb216, 1, none⟩ = some (.int .i64 0) := (blk_cell BK216.out 1).trans rfl
         have hcz11_2 : w6.cell? ⟨gb216, 2, none⟩ = some (.int .i64 0) := (blk_cell BK216.out 2).trans rfl
         have hcz11_3 : w6.cell? ⟨gb216, 3, none⟩ = some (.int .i64 0) := (blk_cell BK216.out 3).trans rfl
         have hcz11_4 : w6.cell? ⟨gb216, 4, none⟩ = some (.int .i64 0) := (blk_cell BK216.out 4).trans rfl
         have hcz11_5 : w6.cell? ⟨gb216, 5, none⟩ = some (.int .i64 0) := (blk_cell BK216.out 5).trans rfl
         have hcz11_6 : w6.cell? ⟨gb216, 6, none⟩ = some (.int .i64 0) := (blk_cell BK216.out 6).trans rfl
         have hcz11_7 : w6.cell? ⟨gb216, 7, none⟩ = some (.int .i64 0) := (blk_cell BK216.out 7).trans rfl
         have hfz11_0 := blk_frozen BK216.out 0
         have hfz11_1 := blk_frozen BK216.out 1
         have hfz11_2 := blk_frozen BK216.out 2
         have hfz11_3 := blk_frozen BK216.out 3
         have hfz11_4 := blk_frozen BK216.out 4
         have hfz11_5 := blk_frozen BK216.out 5
         have hfz11_6 := blk_frozen BK216.out 6
         have hfz11_7 := blk_frozen BK216.out 7
         go_wp2
         go_meet
         case rel => exact ⟨_, (false), (by first | rfl | (simp; done) | (simp [*]; done)), H', ⟨by have := HK1.out; first | omega | exact Nat.le_refl _⟩, ⟨by (with_reducible repeat (first | refine blk_drewN ?_ _ | refine blk_drew ?_ | refine blk_alloc ?_ _)); refine blk_put (cs := #[.int .i64 ((rd_T33 l0 x9_1).f0), .int .i64 ((rd_T33 l0 x9_1).f1), .int .i64 ((rd_T33 l0 x9_1).f2), .int .i64 ((rd_T33 l0 x9_1).f3), .int .i64 ((rd_T33 l0 x9_1).f4), .int .i64 ((rd_T33 l0 x9_1).f5), .int .i64 ((rd_T33 l0 x9_1).f6.f0), .int .i64 0]) ?_ 7 _ rfl; (with_reducible repeat (first | refine blk_drewN ?_ _ | refine blk_drew ?_ | refine blk_alloc ?_ _)); refine blk_put (cs := #[.int .i64 ((rd_T33 l0 x9_1).f0), .int .i64 ((rd_T33 l0 x9_1).f1), .int .i64 ((rd_T33 l0 x9_1).f2), .int .i64 ((rd_T33 l0 x9_1).f3), .int .i64 ((rd_T33 l0 x9_1).f4), .int .i64 ((rd_T33 l0 x9_1).f5), .int .i64 0, .int .i64 0]) ?_ 6 _ rfl; (with_reducible repeat (first | refine blk_drewN ?_ _ | refine blk_drew ?_ | refine blk_alloc ?_ _)); refine blk_put (cs := #[.int .i64 ((rd_T33 l0 x9_1).f0), .int .i64 ((rd_T33 l0 x9_1).f1), .int .i64 ((rd_T33 l0 x9_1).f2), .int .i64 ((rd_T33 l0 x9_1).f3), .int .i64 ((rd_T33 l0 x9_1).f4), .int .i64 0, .int .i64 0, .int .i64 0]) ?_ 5 _ rfl; (with_reducible repeat (first | refine blk_drewN ?_ _ | refine blk_drew ?_ | refine blk_alloc ?_ _)); refine blk_put (cs := #[.int .i64 ((rd_T33 l0 x9_1).f0), .int .i64 ((rd_T33 l0 x9_1).f1), .int .i64 ((rd_T33 l0 x9_1).f2), .int .i64 ((rd_T33 l0 x9_1).f3), .int .i64 0, .int .i64 0, .int .i64 0, .int .i64 0]) ?_ 4 _ rfl; (with_reducible repeat (first | refine blk_drewN ?_ _ | refine blk_drew ?_ | refine blk_alloc ?_ _)); refine blk_put (cs := #[.int .i64 ((rd_T33 l0 x9_1).f0), .int .i64 ((rd_T33 l0 x9_1).f1), .int .i64 ((rd_T33 l0 x9_1).f2), .int .i64 0, .int .i64 0, .int .i64 0, .int .i64 0, .int .i64 0]) ?_ 3 _ rfl; (with_reducible repeat (first | refine blk_drewN ?_ _ | refine blk_drew ?_ | refine blk_alloc ?_ _)); refine blk_put (cs := #[.int .i64 ((rd_T33 l0 x9_1).f0), .int .i64 ((rd_T33 l0 x9_1).f1), .int .i64 0, .int .i64 0, .int .i64 0, .int .i64 0, .int .i64 0, .int .i64 0]) ?_ 2 _ rfl; (with_reducible repeat (first | refine blk_drewN ?_ _ | refine blk_drew ?_ | refine blk_alloc ?_ _)); refine blk_put (cs := #[.int .i64 ((rd_T33 l0 x9_1).f0), .int .i64 0, .int .i64 0, .int .i64 0, .int .i64 0, .int .i64 0, .int .i64 0, .int .i64 0]) ?_ 1 _ rfl; (with_reducible repeat (first | refine blk_drewN ?_ _ | refine blk_drew ?_ | refine blk_alloc ?_ _)); refine blk_put (cs := #[.int .i64 0, .int .i64 0, .int .i64 0, .int .i64 0, .int .i64 0, .int .i64 0, .int .i64 0, .int .i64 0]) ?_ 0 _ rfl; (with_reducible repeat (first | refine blk_drewN ?_ _ | refine blk_drew ?_ | refine blk_alloc ?_ _)); exact BK216.out⟩, ⟨by repeat (first | (with_reducible first | exact HB.out | apply below_alloc | apply pw_below_drewN | apply below_drew1 | refine below_set ?_ GE216.out) | exact HB.out)⟩⟩
        ·rw [if_neg c10] at H
         have c10b0 : (((rd_T33 l0 x9_1).f5) == (-1)) = false := beq_eq_false_iff_ne.mpr c10
         have c10b1 : (((rd_T33 l0 x9_1).f5) != (-1)) = true := bne_iff_ne.mpr c10
         have H' := Aside0.mk H
         clear H
         have hcz12_0 : w6.cell? ⟨gb216, 0, none⟩ = some (.int .i64 0) := (blk_cell BK216.out 0).trans rfl
         have hcz12_1 : w6.cell? ⟨gb216, 1, none⟩ = some (.int .i64 0) := (blk_cell BK216.out 1).trans rfl
         have hcz12_2 : w6.cell? ⟨gb216, 2, none⟩ = some (.int .i64 0) := (blk_cell BK216.out 2).trans rfl
         have hcz12_3 : w6.cell? ⟨gb216, 3, none⟩ = some (.int .i64 0) := (blk_cell BK216.out 3).trans rfl
         have hcz12_4 : w6.cell? ⟨gb216, 4, none⟩ = some (.int .i64 0) := (blk_cell BK216.out 4).trans rfl
         have hcz12_5 : w6.cell? ⟨gb216, 5, none⟩ = some (.int .i64 0) := (blk_cell BK216.out 5).trans rfl
         have hcz12_6 : w6.cell? ⟨gb216, 6, none⟩ = some (.int .i64 0) := (blk_cell BK216.out 6).trans rfl
         have hcz12_7 : w6.cell? ⟨gb216, 7, none⟩ = some (.int .i64 0) := (blk_cell BK216.out 7).trans rfl
         have hfz12_0 := blk_frozen BK216.out 0
         have hfz12_1 := blk_frozen BK216.out 1
         have hfz12_2 := blk_frozen BK216.out 2
         have hfz12_3 := blk_frozen BK216.out 3
         have hfz12_4 := blk_frozen BK216.out 4
         have hfz12_5 := blk_frozen BK216.out 5
         have hfz12_6 := blk_frozen BK216.out 6
         have hfz12_7 := blk_frozen BK216.out 7
         go_wp2
         go_meet
         case rel => exact ⟨_, (decide (((rd_T33 l0 x9_1).f5) ≤ ((rd_T33 l0 x9_1).f4))), (by first | rfl | (simp; done) | (simp [*]; done)), H', ⟨by have := HK1.out; first | omega | exact Nat.le_refl _⟩, ⟨by (with_reducible repeat (first | refine blk_drewN ?_ _ | refine blk_drew ?_ | refine blk_alloc ?_ _)); refine blk_put (cs := #[.int .i64 ((rd_T33 l0 x9_1).f0), .int .i64 ((rd_T33 l0 x9_1).f1), .int .i64 ((rd_T33 l0 x9_1).f2), .int .i64 ((rd_T33 l0 x9_1).f3), .int .i64 ((rd_T33 l0 x9_1).f4), .int .i64 ((rd_T33 l0 x9_1).f5), .int .i64 ((rd_T33 l0 x9_1).f6.f0), .int .i64 0]) ?_ 7 _ rfl; (with_reducible repeat (first | refine blk_drewN ?_ _ | refine blk_drew ?_ | refine blk_alloc ?_ _)); refine blk_put (cs := #[.int .i64 ((rd_T33 l0 x9_1).f0), .int .i64 ((rd_T33 l0 x9_1).f1), .int .i64 ((rd_T33 l0 x9_1).f2), .int .i64 ((rd_T33 l0 x9_1).f3), .int .i64 ((rd_T33 l0 x9_1).f4), .int .i64 ((rd_T33 l0 x9_1).f5), .int .i64 0, .int .i64 0]) ?_ 6 _ rfl; (with_reducible repeat (first | refine blk_drewN ?_ _ | refine blk_drew ?_ | refine blk_alloc ?_ _)); refine blk_put (cs := #[.int .i64 ((rd_T33 l0 x9_1).f0), .int .i64 ((rd_T33 l0 x9_1).f1), .int .i64 ((rd_T33 l0 x9_1).f2), .int .i64 ((rd_T33 l0 x9_1).f3), .int .i64 ((rd_T33 l0 x9_1).f4), .int .i64 0, .int .i64 0, .int .i64 0]) ?_ 5 _ rfl; (with_reducible repeat (first | refine blk_drewN ?_ _ | refine blk_drew ?_ | refine blk_alloc ?_ _)); refine blk_put (cs := #[.int .i64 ((rd_T33 l0 x9_1).f0), .int .i64 ((rd_T33 l0 x9_1).f1), .int .i64 ((rd_T33 l0 x9_1).f2), .int .i64 ((rd_T33 l0 x9_1).f3), .int .i64 0, .int .i64 0, .int .i64 0, .int .i64 0]) ?_ 4 _ rfl; (with_reducible repeat (first | refine blk_drewN ?_ _ | refine blk_drew ?_ | refine blk_alloc ?_ _)); refine blk_put (cs := #[.int .i64 ((rd_T33 l0 x9_1).f0), .int .i64 ((rd_T33 l0 x9_1).f1), .int .i64 ((rd_T33 l0 x9_1).f2), .int .i64 0, .int .i64 0, .int .i64 0, .int .i64 0, .int .i64 0]) ?_ 3 _ rfl; (with_reducible repeat (first | refine blk_drewN ?_ _ | refine blk_drew ?_ | refine blk_alloc ?_ _)); refine blk_put (cs := #[.int .i64 ((rd_T33 l0 x9_1).f0), .int .i64 ((rd_T33 l0 x9_1).f1), .int .i64 0, .int .i64 0, .int .i64 0, .int .i64 0, .int .i64 0, .int .i64 0]) ?_ 2 _ rfl; (with_reducible repeat (first | refine blk_drewN ?_ _ | refine blk_drew ?_ | refine blk_alloc ?_ _)); refine blk_put (cs := #[.int .i64 ((rd_T33 l0 x9_1).f0), .int .i64 0, .int .i64 0, .int .i64 0, .int .i64 0, .int .i64 0, .int .i64 0, .int .i64 0]) ?_ 1 _ rfl; (with_reducible repeat (first | refine blk_drewN ?_ _ | refine blk_drew ?_ | refine blk_alloc ?_ _)); refine blk_put (cs := #[.int .i64 0, .int .i64 0, .int .i64 0, .int .i64 0, .int .i64 0, .int .i64 0, .int .i64 0, .int .i64 0]) ?_ 0 _ rfl; (with_reducible repeat (first | refine blk_drewN ?_ _ | refine blk_drew ?_ | refine blk_alloc ?_ _)); exact BK216.out⟩, ⟨by repeat (first | (with_reducible first | exact HB.out | apply below_alloc | apply pw_below_drewN | apply below_drew1 | refine below_set ?_ GE216.out) | exact HB.out)⟩⟩
      case rest =>
       clear HC5
       try clear c1
       try clear c2
       try clear c2b0
       try clear p2
       try clear q2
       try clear hx2
       try clear c3
       try clear c3b0
       try clear c4
       try clear c4b0
       try clear c8
       try clear c8b0
       try clear c10
       try clear c10b0
       try clear c10b1
       try clear hcz11_0
       try clear hcz11_1
       try clear hcz11_2
       try clear hcz11_3
       try clear hcz11_4
       try clear hcz11_5
       try clear hcz11_6
       try clear hcz11_7
       try clear hcz12_0
       try clear hcz12_1
       try clear hcz12_2
       try clear hcz12_3
       try clear hcz12_4
       try clear hcz12_5
       try clear hcz12_6
       try clear hcz12_7
       try clear hcz7_0
       try clear hcz7_1
       try clear hcz7_2
       try clear hcz7_3
       try clear hcz7_4
       try clear hcz7_5
       try clear hcz7_6
       try clear hcz7_7
       try clear hcz9_0
       try clear hcz9_1
       try clear hcz9_2
       try clear hcz9_3
       try clear hcz9_4
       try clear hcz9_5
       try clear hcz9_6
       try clear hcz9_7
       try clear hfz11_0
       try clear hfz11_1
       try clear hfz11_2
       try clear hfz11_3
       try clear hfz11_4
       try clear hfz11_5
       try clear hfz11_6
       try clear hfz11_7
       try clear hfz12_0
       try clear hfz12_1
       try clear hfz12_2
       try clear hfz12_3
       try clear hfz12_4
       try clear hfz12_5
       try clear hfz12_6
       try clear hfz12_7
       try clear hfz7_0
       try clear hfz7_1
       try clear hfz7_2
       try clear hfz7_3
       try clear hfz7_4
       try clear hfz7_5
       try clear hfz7_6
       try clear hfz7_7
       try clear hfz9_0
       try clear hfz9_1
       try clear hfz9_2
       try clear hfz9_3
       try clear hfz9_4
       try clear hfz9_5
       try clear hfz9_6
       try clear hfz9_7
       try clear hx215_0
       try clear hx215_1
       try clear hx215_2
       try clear hx215_3
       try clear hx215_4
       try clear hx215_5
       try clear hx215_6
       try clear hx215_7
       try clear p215
       try clear q215
       obtain ⟨kq, x28_4, rfl, HA, HJ4, BK216, HB⟩ := hcut
       cases kq with
       | zero => exact absurd HA.out (by simp [history_right.j1])
       | succ kj4 =>
        have H := HA.out
        clear HA
        simp only [history_right.j1] at H
        by_cases c13 : x28_4 = true
        ·subst c13
         have H1 : (some false) = some r := by rw [if_pos rfl] at H; exact H
         clear H
         have H := H1
         clear H1
         obtain rfl := Option.some.inj H
         go_wp2
         go_ret
         exact ⟨by first | rfl | (simp [errW_none, errW_some] <;> rfl) | (simp [*, errW_none, errW_some] <;> rfl), by repeat (first | (with_reducible first | exact HB.out | apply below_alloc | apply pw_below_drewN | apply below_drew1 | refine below_set ?_ GE216.out) | exact HB.out)⟩
        ·replace c13 := Bool.eq_false_iff.mpr c13
         subst c13
         have H1 : (if 0 ≤ x9_1 then (if x9_1 ≤ (l0.length : Int) then ((some (l0.take (x9_1 : Int).toNat : List (S33))).bind fun y217 => (history_right.l1 kj4 l0 l0 (l0.length : Int) x9_1 y217 (y217.length : Int) 0 ((rd_T33 l0 x9_1).f0) ((rd_T33 l0 x9_1).f1) ((rd_T33 l0 x9_1).f2) ((rd_T33 l0 x9_1).f3) ((rd_T33 l0 x9_1).f4) ((rd_T33 l0 x9_1).f5) ((rd_T33 l0 x9_1).f6.f0) ((rd_T33 l0 x9_1).f6.f1))) else (none)) else (none)) = some r := by rw [if_neg (show ¬ (false = true) by decide)] at H; exact H
         clear H
         have H := H1
         clear H1
         by_cases c14 : 0 ≤ x9_1
         ·rw [if_pos c14] at H
          have c14b0 := eq_true c14
          have c14b1 : decide (0 ≤ x9_1) = true := decide_eq_true c14
          clear c14
          by_cases c15 : x9_1 ≤ (l0.length : Int)
          ·rw [if_pos c15] at H
           have c15b0 := eq_true c15
           have c15b1 : decide (x9_1 ≤ (l0.length : Int)) = true := decide_eq_true c15
           clear c15
           obtain ⟨y217, hy217⟩ : ∃ y_ : List (S33), y_ = (l0.take (x9_1 : Int).toNat) := ⟨_, rfl⟩
           replace H : (history_right.l1 kj4 l0 l0 (l0.length : Int) x9_1 y217 (y217.length : Int) 0 ((rd_T33 l0 x9_1).f0) ((rd_T33 l0 x9_1).f1) ((rd_T33 l0 x9_1).f2) ((rd_T33 l0 x9_1).f3) ((rd_T33 l0 x9_1).f4) ((rd_T33 l0 x9_1).f5) ((rd_T33 l0 x9_1).f6.f0) ((rd_T33 l0 x9_1).f6.f1)) = some r := by first | (rw [hy217]; with_reducible exact H) | (have H2_ := (Option.bind_some _ _).symm.trans H; rw [hy217]; with_reducible exact H2_) | (have H2_ := (Option.bind_some _ _).symm.trans H; with_reducible exact H2_) | with_reducible exact H | (rw [hy217]; exact H) | exact H
           have Ny217 := Aside0.mk hy217
           clear hy217
           have H' := Aside0.mk H
           clear H
           have q16 : (x9_1 : Int) ≤ ((l0.length : Int) : Int) := of_decide_eq_true (by first | (with_reducible assumption) | assumption)
           obtain ⟨i016, hi016, _, hsz16, _⟩ := info_parts info33
           have hroom16 : l0.length ≤ c0 := HC0.out
           have hC16 : Kd.C k33 _ (some ad215) l0.length l0 := HR0.out
           have hcut16 := cut_to (P := Tryd.prog) 22 33 .i64 Tryd.underlying22 hi016 (some ad215) l0.length c0 x9_1 (of_decide_eq_true (by first | (with_reducible assumption) | assumption)) q16 hroom16
           have hr16 := Kd.C_take (m := (x9_1 : Int).toNat) hC16 (by omega)
           have hy16 : y217.length = (x9_1 : Int).toNat := (by rw [Ny217.out, List.length_take]; omega)
           rw [← Ny217.out] at hr16
           rw [← hy16] at hcut16
           have HR220 := Aside0.mk hr16
           have HC220 := Aside0.mk (show y217.length ≤ c0 from by omega)
           clear hr16 hC16 hroom16 hi016 hsz16
           have KY16 := Aside0.mk hy16
           clear hy16
           replace q16 := eq_true q16
           go_wp2
           go_loopg [33] kj4 (fun kq v33 w' => ∃ (x33_3 : Int), v33 = .int .i64 x33_3 ∧ Aside0 (history_right.l1 kq l0 l0 (l0.length : Int) x9_1 y217 (y217.length : Int) x33_3 ((rd_T33 l0 x9_1).f0) ((rd_T33 l0 x9_1).f1) ((rd_T33 l0 x9_1).f2) ((rd_T33 l0 x9_1).f3) ((rd_T33 l0 x9_1).f4) ((rd_T33 l0 x9_1).f5) ((rd_T33 l0 x9_1).f6.f0) ((rd_T33 l0 x9_1).f6.f1) = some r) ∧ Aside0 (kq ≤ kj4) ∧ Aside0 (w'.heap[gb216]? = some (.cells #[.int .i64 ((rd_T33 l0 x9_1).f0), .int .i64 ((rd_T33 l0 x9_1).f1), .int .i64 ((rd_T33 l0 x9_1).f2), .int .i64 ((rd_T33 l0 x9_1).f3), .int .i64 ((rd_T33 l0 x9_1).f4), .int .i64 ((rd_T33 l0 x9_1).f5), .int .i64 ((rd_T33 l0 x9_1).f6.f0), .int .i64 ((rd_T33 l0 x9_1).f6.f1)] 33 (0, 0))) ∧ Aside0 (Below w.heap.size w w'))
           case atStart => exact ⟨(0), (by first | rfl | (simp; done) | (simp [*]; done)), H', ⟨Nat.le_refl _⟩, ⟨by (with_reducible repeat (first | refine blk_drewN ?_ _ | refine blk_drew ?_ | refine blk_alloc ?_ _)); exact BK216.out⟩, ⟨by repeat (first | (with_reducible first | exact HB.out | apply below_alloc | apply pw_below_drewN | apply below_drew1 | refine below_set ?_ GE216.out) | exact HB.out)⟩⟩
           case round =>
            clear H'
            try clear c1
            try clear q1
            try clear c2
            try clear c2b0
            try clear p2
            try clear q2
            try clear hx2
            try clear c3
            try clear c3b0
            try clear c4
            try clear c4b0
            try clear c8
            try clear c8b0
            try clear c10
            try clear c10b0
            try clear c10b1
            try clear c13
            try clear c14
            try clear c14b0
            try clear c14b1
            try clear c15
            try clear c15b0
            try clear c15b1
            try clear q16
            try clear hcz11_0
            try clear hcz11_1
            try clear hcz11_2
            try clear hcz11_3
            try clear hcz11_4
            try clear hcz11_5
            try clear hcz11_6
            try clear hcz11_7
            try clear hcz12_0
            try clear hcz12_1
            try clear hcz12_2
            try clear hcz12_3
            try clear hcz12_4
            try clear hcz12_5
            try clear hcz12_6
            try clear hcz12_7
            try clear hcz7_0
            try clear hcz7_1
            try clear hcz7_2
            try clear hcz7_3
            try clear hcz7_4
            try clear hcz7_5
            try clear hcz7_6
            try clear hcz7_7
            try clear hcz9_0
            try clear hcz9_1
            try clear hcz9_2
            try clear hcz9_3
            try clear hcz9_4
            try clear hcz9_5
            try clear hcz9_6
            try clear hcz9_7
            try clear hfz11_0
            try clear hfz11_1
            try clear hfz11_2
            try clear hfz11_3
            try clear hfz11_4
            try clear hfz11_5
            try clear hfz11_6
            try clear hfz11_7
            try clear hfz12_0
            try clear hfz12_1
            try clear hfz12_2
            try clear hfz12_3
            try clear hfz12_4
            try clear hfz12_5
            try clear hfz12_6
            try clear hfz12_7
            try clear hfz7_0
            try clear hfz7_1
            try clear hfz7_2
            try clear hfz7_3
            try clear hfz7_4
            try clear hfz7_5
            try clear hfz7_6
            try clear hfz7_7
            try clear hfz9_0
            try clear hfz9_1
            try clear hfz9_2
            try clear hfz9_3
            try clear hfz9_4
            try clear hfz9_5
            try clear hfz9_6
            try clear hfz9_7
            try clear hx215_0
            try clear hx215_1
            try clear hx215_2
            try clear hx215_3
            try clear hx215_4
            try clear hx215_5
            try clear hx215_6
            try clear hx215_7
            try clear p2
            try clear p215
            try clear q16
            try clear q2
            try clear q215
            obtain ⟨x33_3, rfl, HA, HK3, BK216, HB⟩ := hrel
            cases gk with
            | zero => exact absurd HA.out (by simp [history_right.l1])
            | succ k3 =>
             have H := HA.out
             clear HA
             simp only [history_right.l1] at H
             by_cases c17 : x33_3 < (y217.length : Int)
             ·rw [if_pos c17] at H
              have c17b0 : decide (x33_3 < (y217.length : Int)) = true := decide_eq_true c17
              clear c17
              by_cases c18 : 0 ≤ x33_3
              ·rw [if_pos c18] at H
               have c18b0 : decide (0 ≤ x33_3) = true := decide_eq_true c18
               clear c18
               by_cases c19 : x33_3 < (y217.length : Int)
               ·rw [if_pos c19] at H
                have c19b0 : decide (x33_3 < (y217.length : Int)) = true := decide_eq_true c19
                clear c19
                by_cases c20 : ((rd_T33 l0 x9_1).f0) = ((rd_T33 y217 x33_3).f0)
                ·rw [if_pos c20] at H
                 have c20b0 : (((rd_T33 l0 x9_1).f0) == ((rd_T33 y217 x33_3).f0)) = true := beq_iff_eq.mpr c20
                 have c20b1 : (((rd_T33 l0 x9_1).f0) != ((rd_T33 y217 x33_3).f0)) = false := bne_eq_false_iff_eq.mpr c20
                 clear c20
                 replace H := Option.bind_eq_some_iff.mp H
                 obtain ⟨t223, A210, H⟩ := H
                 replace H : (if t223 = true then (history_right.l1 k3 l0 l0 (l0.length : Int) x9_1 y217 (y217.length : Int) (wrap64 (x33_3 + 1)) ((rd_T33 l0 x9_1).f0) ((rd_T33 l0 x9_1).f1) ((rd_T33 l0 x9_1).f2) ((rd_T33 l0 x9_1).f3) ((rd_T33 l0 x9_1).f4) ((rd_T33 l0 x9_1).f5) ((rd_T33 l0 x9_1).f6.f0) ((rd_T33 l0 x9_1).f6.f1)) else ((history_ahead.f ((rd_T33 y217 x33_3).f0) ((rd_T33 y217 x33_3).f1) ((rd_T33 y217 x33_3).f2) ((rd_T33 y217 x33_3).f3) ((rd_T33 y217 x33_3).f4) ((rd_T33 y217 x33_3).f5) ((rd_T33 y217 x33_3).f6.f0) ((rd_T33 y217 x33_3).f6.f1) ((rd_T33 l0 x9_1).f0) ((rd_T33 l0 x9_1).f1) ((rd_T33 l0 x9_1).f2) ((rd_T33 l0 x9_1).f3) ((rd_T33 l0 x9_1).f4) ((rd_T33 l0 x9_1).f5) ((rd_T33 l0 x9_1).f6.f0) ((rd_T33 l0 x9_1).f6.f1)).bind fun t224 => (if t224 = true then (history_right.l1 k3 l0 l0 (l0.length : Int) x9_1 y217 (y217.length : Int) (wrap64 (x33_3 + 1)) ((rd_T33 l0 x9_1).f0) ((rd_T33 l0 x9_1).f1) ((rd_T33 l0 x9_1).f2) ((rd_T33 l0 x9_1).f3) ((rd_T33 l0 x9_1).f4) ((rd_T33 l0 x9_1).f5) ((rd_T33 l0 x9_1).f6.f0) ((rd_T33 l0 x9_1).f6.f1)) else (some false)))) = some r := H
                 have A21 := Aside0.mk A210
                 clear A210
                 by_cases c22 : t223 = true
                 ·subst c22
                  have H1 : (history_right.l1 k3 l0 l0 (l0.length : Int) x9_1 y217 (y217.length : Int) (wrap64 (x33_3 + 1)) ((rd_T33 l0 x9_1).f0) ((rd_T33 l0 x9_1).f1) ((rd_T33 l0 x9_1).f2) ((rd_T33 l0 x9_1).f3) ((rd_T33 l0 x9_1).f4) ((rd_T33 l0 x9_1).f5) ((rd_T33 l0 x9_1).f6.f0) ((rd_T33 l0 x9_1).f6.f1)) = some r := by rw [if_pos rfl] at H; exact H
                  clear H
                  have H := H1
                  clear H1
                  have H' := Aside0.mk H
                  clear H
                  have p221 : 0 ≤ (x33_3 : Int) := of_decide_eq_true (by first | (with_reducible assumption) | assumption)
                  have q221 : x33_3 < (y217.length : Int) := of_decide_eq_true (by first | (with_reducible assumption) | assumption)
                  obtain ⟨ad221, e221, hx221_0, hx221_1, hx221_2, hx221_3, hx221_4, hx221_5, hx221_6, hx221_7⟩ := at_T33 HR220.out x33_3 p221 q221
                  obtain rfl : ad215 = ad221 := (by injection e221)
                  replace hx221_0 := (HB.out.cell (World.block_lt_of_cell? w _ hx221_0)).trans hx221_0
                  replace hx221_1 := (HB.out.cell (World.block_lt_of_cell? w _ hx221_1)).trans hx221_1
                  replace hx221_2 := (HB.out.cell (World.block_lt_of_cell? w _ hx221_2)).trans hx221_2
                  replace hx221_3 := (HB.out.cell (World.block_lt_of_cell? w _ hx221_3)).trans hx221_3
                  replace hx221_4 := (HB.out.cell (World.block_lt_of_cell? w _ hx221_4)).trans hx221_4
                  replace hx221_5 := (HB.out.cell (World.block_lt_of_cell? w _ hx221_5)).trans hx221_5
                  replace hx221_6 := (HB.out.cell (World.block_lt_of_cell? w _ hx221_6)).trans hx221_6
                  replace hx221_7 := (HB.out.cell (World.block_lt_of_cell? w _ hx221_7)).trans hx221_7
                  replace p221 := eq_true p221
                  replace q221 := eq_true q221
                  go_wp2_with (first | ((with_reducible refine gate_dst (N := 6) rfl ?_); refine box_event ?hg (N := 6) ?hd (cs := #[.int .i64 0, .int .i64 0, .int .i64 0, .int .i64 0, .int .i64 0, .int .i64 0, .int .i64 0, .int .i64 0]) (t := 33) ?hr ?_; (case hd => rfl); (case hg => rfl); (case hr => first | (go_simp; done) | (go_simp; rfl)); intro gb222 hg w23 hbox hb; have n0_ := Aside0.mk (blk_below (g := gb216) (o := .cells #[.int .i64 ((rd_T33 l0 x9_1).f0), .int .i64 ((rd_T33 l0 x9_1).f1), .int .i64 ((rd_T33 l0 x9_1).f2), .int .i64 ((rd_T33 l0 x9_1).f3), .int .i64 ((rd_T33 l0 x9_1).f4), .int .i64 ((rd_T33 l0 x9_1).f5), .int .i64 ((rd_T33 l0 x9_1).f6.f0), .int .i64 ((rd_T33 l0 x9_1).f6.f1)] 33 (0, 0)) (by (with_reducible repeat (first | refine blk_drewN ?_ _ | refine blk_drew ?_ | refine blk_alloc ?_ _)); exact BK216.out) hb); have n1_ := Aside0.mk (below_step (by repeat (first | (with_reducible first | exact HB.out | apply below_alloc | apply pw_below_drewN | apply below_drew1 | refine below_set ?_ GE216.out) | exact HB.out)) hb); have n2_ := Aside0.mk (hbox); have n3_ := Aside0.mk ((by rw [hg]; exact (below_size (by repeat (first | (with_reducible first | exact HB.out | apply below_alloc | apply pw_below_drewN | apply below_drew1 | refine below_set ?_ GE216.out) | exact HB.out))) : w.heap.size ≤ gb222)); have n4_ := Aside0.mk ((by rw [hg]; exact (below_size (by repeat (first | (with_reducible first | exact HB.out | apply below_alloc | apply pw_below_drewN | apply below_drew1 | refine below_set ?_ GE216.out) | exact HB.out))) : w.heap.size ≤ gb222)); have n5_ := Aside0.mk ((by rw [hg]; exact Nat.ne_of_lt (blk_lt (g := gb216) (o := .cells #[.int .i64 ((rd_T33 l0 x9_1).f0), .int .i64 ((rd_T33 l0 x9_1).f1), .int .i64 ((rd_T33 l0 x9_1).f2), .int .i64 ((rd_T33 l0 x9_1).f3), .int .i64 ((rd_T33 l0 x9_1).f4), .int .i64 ((rd_T33 l0 x9_1).f5), .int .i64 ((rd_T33 l0 x9_1).f6.f0), .int .i64 ((rd_T33 l0 x9_1).f6.f1)] 33 (0, 0)) (by (with_reducible repeat (first | refine blk_drewN ?_ _ | refine blk_drew ?_ | refine blk_alloc ?_ _)); exact BK216.out)) : gb216 ≠ gb222)); have n6_ := Aside0.mk ((by rw [hg]; exact Nat.ne_of_gt (blk_lt (g := gb216) (o := .cells #[.int .i64 ((rd_T33 l0 x9_1).f0), .int .i64 ((rd_T33 l0 x9_1).f1), .int .i64 ((rd_T33 l0 x9_1).f2), .int .i64 ((rd_T33 l0 x9_1).f3), .int .i64 ((rd_T33 l0 x9_1).f4), .int .i64 ((rd_T33 l0 x9_1).f5), .int .i64 ((rd_T33 l0 x9_1).f6.f0), .int .i64 ((rd_T33 l0 x9_1).f6.f1)] 33 (0, 0)) (by (with_reducible repeat (first | refine blk_drewN ?_ _ | refine blk_drew ?_ | refine blk_alloc ?_ _)); exact BK216.out)) : gb222 ≠ gb216)); clear BK216; clear HB; have BK216 := n0_; have HB := n1_; have BK222 := n2_; have GW222 := n3_; have GE222 := n4_; have NB216_222 := n5_; have NB222_216 := n6_; clear n0_ n1_ n2_ n3_ n4_ n5_ n6_; clear hb hbox hg; have hnb24 := NB222_216.out; have hnc24 := NB216_222.out; have hcz25_0 : w23.cell? ⟨gb222, 0, none⟩ = some (.int .i64 0) := (blk_cell BK222.out 0).trans rfl; have hcz25_1 : w23.cell? ⟨gb222, 1, none⟩ = some (.int .i64 0) := (blk_cell BK222.out 1).trans rfl; have hcz25_2 : w23.cell? ⟨gb222, 2, none⟩ = some (.int .i64 0) := (blk_cell BK222.out 2).trans rfl; have hcz25_3 : w23.cell? ⟨gb222, 3, none⟩ = some (.int .i64 0) := (blk_cell BK222.out 3).trans rfl; have hcz25_4 : w23.cell? ⟨gb222, 4, none⟩ = some (.int .i64 0) := (blk_cell BK222.out 4).trans rfl; have hcz25_5 : w23.cell? ⟨gb222, 5, none⟩ = some (.int .i64 0) := (blk_cell BK222.out 5).trans rfl; have hcz25_6 : w23.cell? ⟨gb222, 6, none⟩ = some (.int .i64 0) := (blk_cell BK222.out 6).trans rfl; have hcz25_7 : w23.cell? ⟨gb222, 7, none⟩ = some (.int .i64 0) := (blk_cell BK222.out 7).trans rfl; have hfz25_0 := blk_frozen BK222.out 0; have hfz25_1 := blk_frozen BK222.out 1; have hfz25_2 := blk_frozen BK222.out 2; have hfz25_3 := blk_frozen BK222.out 3; have hfz25_4 := blk_frozen BK222.out 4; have hfz25_5 := blk_frozen BK222.out 5; have hfz25_6 := blk_frozen BK222.out 6; have hfz25_7 := blk_frozen BK222.out 7; have hcz26_0 : w23.cell? ⟨gb216, 0, none⟩ = some (.int .i64 ((rd_T33 l0 x9_1).f0)) := (blk_cell BK216.out 0).trans rfl; have hcz26_1 : w23.cell? ⟨gb216, 1, none⟩ = some (.int .i64 ((rd_T33 l0 x9_1).f1)) := (blk_cell BK216.out 1).trans rfl; have hcz26_2 : w23.cell? ⟨gb216, 2, none⟩ = some (.int .i64 ((rd_T33 l0 x9_1).f2)) := (blk_cell BK216.out 2).trans rfl; have hcz26_3 : w23.cell? ⟨gb216, 3, none⟩ = some (.int .i64 ((rd_T33 l0 x9_1).f3)) := (blk_cell BK216.out 3).trans rfl; have hcz26_4 : w23.cell? ⟨gb216, 4, none⟩ = some (.int .i64 ((rd_T33 l0 x9_1).f4)) := (blk_cell BK216.out 4).trans rfl; have hcz26_5 : w23.cell? ⟨gb216, 5, none⟩ = some (.int .i64 ((rd_T33 l0 x9_1).f5)) := (blk_cell BK216.out 5).trans rfl; have hcz26_6 : w23.cell? ⟨gb216, 6, none⟩ = some (.int .i64 ((rd_T33 l0 x9_1).f6.f0)) := (blk_cell BK216.out 6).trans rfl; have hcz26_7 : w23.cell? ⟨gb216, 7, none⟩ = some (.int .i64 ((rd_T33 l0 x9_1).f6.f1)) := (blk_cell BK216.out 7).trans rfl; have hfz26_0 := blk_frozen BK216.out 0; have hfz26_1 := blk_frozen BK216.out 1; have hfz26_2 := blk_frozen BK216.out 2; have hfz26_3 := blk_frozen BK216.out 3; have hfz26_4 := blk_frozen BK216.out 4; have hfz26_5 := blk_frozen BK216.out 5; have hfz26_6 := blk_frozen BK216.out 6; have hfz26_7 := blk_frozen BK216.out 7) | (go_at_call 29; (with_reducible refine (history_ahead.calls ((rd_T33 l0 x9_1).f0) ((rd_T33 l0 x9_1).f1) ((rd_T33 l0 x9_1).f2) ((rd_T33 l0 x9_1).f3) ((rd_T33 l0 x9_1).f4) ((rd_T33 l0 x9_1).f5) ((rd_T33 l0 x9_1).f6.f0) ((rd_T33 l0 x9_1).f6.f1) ((rd_T33 y217 x33_3).f0) ((rd_T33 y217 x33_3).f1) ((rd_T33 y217 x33_3).f2) ((rd_T33 y217 x33_3).f3) ((rd_T33 y217 x33_3).f4) ((rd_T33 y217 x33_3).f5) ((rd_T33 y217 x33_3).f6.f0) ((rd_T33 y217 x33_3).f6.f1) true _ A21.out).mono ?_); rintro e w27 ⟨rfl, hb⟩; have n0_ := Aside0.mk (blk_below (g := gb216) (o := .cells #[.int .i64 ((rd_T33 l0 x9_1).f0), .int .i64 ((rd_T33 l0 x9_1).f1), .int .i64 ((rd_T33 l0 x9_1).f2), .int .i64 ((rd_T33 l0 x9_1).f3), .int .i64 ((rd_T33 l0 x9_1).f4), .int .i64 ((rd_T33 l0 x9_1).f5), .int .i64 ((rd_T33 l0 x9_1).f6.f0), .int .i64 ((rd_T33 l0 x9_1).f6.f1)] 33 (0, 0)) (by (with_reducible repeat (first | refine blk_drewN ?_ _ | refine blk_drew ?_ | refine blk_alloc ?_ _)); refine blk_far ?_ NB216_222.out _; (with_reducible repeat (first | refine blk_drewN ?_ _ | refine blk_drew ?_ | refine blk_alloc ?_ _)); refine blk_far ?_ NB216_222.out _; (with_reducible repeat (first | refine blk_drewN ?_ _ | refine blk_drew ?_ | refine blk_alloc ?_ _)); refine blk_far ?_ NB216_222.out _; (with_reducible repeat (first | refine blk_drewN ?_ _ | refine blk_drew ?_ | refine blk_alloc ?_ _)); refine blk_far ?_ NB216_222.out _; (with_reducible repeat (first | refine blk_drewN ?_ _ | refine blk_drew ?_ | refine blk_alloc ?_ _)); refine blk_far ?_ NB216_222.out _; (with_reducible repeat (first | refine blk_drewN ?_ _ | refine blk_drew ?_ | refine blk_alloc ?_ _)); refine blk_far ?_ NB216_222.out _; (with_reducible repeat (first | refine blk_drewN ?_ _ | refine blk_drew ?_ | refine blk_alloc ?_ _)); refine blk_far ?_ NB216_222.out _; (with_reducible repeat (first | refine blk_drewN ?_ _ | refine blk_drew ?_ | refine blk_alloc ?_ _)); refine blk_far ?_ NB216_222.out _; (with_reducible repeat (first | refine blk_drewN ?_ _ | refine blk_drew ?_ | refine blk_alloc ?_ _)); exact BK216.out) hb); have n1_ := Aside0.mk (blk_below (g := gb222) (o := .cells #[.int .i64 ((rd_T33 y217 x33_3).f0), .int .i64 ((rd_T33 y217 x33_3).f1), .int .i64 ((rd_T33 y217 x33_3).f2), .int .i64 ((rd_T33 y217 x33_3).f3), .int .i64 ((rd_T33 y217 x33_3).f4), .int .i64 ((rd_T33 y217 x33_3).f5), .int .i64 ((rd_T33 y217 x33_3).f6.f0), .int .i64 ((rd_T33 y217 x33_3).f6.f1)] 33 (0, 0)) (by (with_reducible repeat (first | refine blk_drewN ?_ _ | refine blk_drew ?_ | refine blk_alloc ?_ _)); refine blk_put (cs := #[.int .i64 ((rd_T33 y217 x33_3).f0), .int .i64 ((rd_T33 y217 x33_3).f1), .int .i64 ((rd_T33 y217 x33_3).f2), .int .i64 ((rd_T33 y217 x33_3).f3), .int .i64 ((rd_T33 y217 x33_3).f4), .int .i64 ((rd_T33 y217 x33_3).f5), .int .i64 ((rd_T33 y217 x33_3).f6.f0), .int .i64 0]) ?_ 7 _ rfl; (with_reducible repeat (first | refine blk_drewN ?_ _ | refine blk_drew ?_ | refine blk_alloc ?_ _)); refine blk_put (cs := #[.int .i64 ((rd_T33 y217 x33_3).f0), .int .i64 ((rd_T33 y217 x33_3).f1), .int .i64 ((rd_T33 y217 x33_3).f2), .int .i64 ((rd_T33 y217 x33_3).f3), .int .i64 ((rd_T33 y217 x33_3).f4), .int .i64 ((rd_T33 y217 x33_3).f5), .int .i64 0, .int .i64 0]) ?_ 6 _ rfl; (with_reducible repeat (first | refine blk_drewN ?_ _ | refine blk_drew ?_ | refine blk_alloc ?_ _)); refine blk_put (cs := #[.int .i64 ((rd_T33 y217 x33_3).f0), .int .i64 ((rd_T33 y217 x33_3).f1), .int .i64 ((rd_T33 y217 x33_3).f2), .int .i64 ((rd_T33 y217 x33_3).f3), .int .i64 ((rd_T33 y217 x33_3).f4), .int .i64 0, .int .i64 0, .int .i64 0]) ?_ 5 _ rfl; (with_reducible repeat (first | refine blk_drewN ?_ _ | refine blk_drew ?_ | refine blk_alloc ?_ _)); refine blk_put (cs := #[.int .i64 ((rd_T33 y217 x33_3).f0), .int .i64 ((rd_T33 y217 x33_3).f1), .int .i64 ((rd_T33 y217 x33_3).f2), .int .i64 ((rd_T33 y217 x33_3).f3), .int .i64 0, .int .i64 0, .int .i64 0, .int .i64 0]) ?_ 4 _ rfl; (with_reducible repeat (first | refine blk_drewN ?_ _ | refine blk_drew ?_ | refine blk_alloc ?_ _)); refine blk_put (cs := #[.int .i64 ((rd_T33 y217 x33_3).f0), .int .i64 ((rd_T33 y217 x33_3).f1), .int .i64 ((rd_T33 y217 x33_3).f2), .int .i64 0, .int .i64 0, .int .i64 0, .int .i64 0, .int .i64 0]) ?_ 3 _ rfl; (with_reducible repeat (first | refine blk_drewN ?_ _ | refine blk_drew ?_ | refine blk_alloc ?_ _)); refine blk_put (cs := #[.int .i64 ((rd_T33 y217 x33_3).f0), .int .i64 ((rd_T33 y217 x33_3).f1), .int .i64 0, .int .i64 0, .int .i64 0, .int .i64 0, .int .i64 0, .int .i64 0]) ?_ 2 _ rfl; (with_reducible repeat (first | refine blk_drewN ?_ _ | refine blk_drew ?_ | refine blk_alloc ?_ _)); refine blk_put (cs := #[.int .i64 ((rd_T33 y217 x33_3).f0), .int .i64 0, .int .i64 0, .int .i64 0, .int .i64 0, .int .i64 0, .int .i64 0, .int .i64 0]) ?_ 1 _ rfl; (with_reducible repeat (first | refine blk_drewN ?_ _ | refine blk_drew ?_ | refine blk_alloc ?_ _)); refine blk_put (cs := #[.int .i64 0, .int .i64 0, .int .i64 0, .int .i64 0, .int .i64 0, .int .i64 0, .int .i64 0, .int .i64 0]) ?_ 0 _ rfl; (with_reducible repeat (first | refine blk_drewN ?_ _ | refine blk_drew ?_ | refine blk_alloc ?_ _)); exact BK222.out) hb); have n2_ := Aside0.mk (below_step (by repeat (first | (with_reducible first | exact HB.out | apply below_alloc | apply pw_below_drewN | apply below_drew1 | refine below_set ?_ GE216.out | refine below_set ?_ GE222.out) | exact HB.out)) hb); clear BK216; clear BK222; clear HB; have BK216 := n0_; have BK222 := n1_; have HB := n2_; clear n0_ n1_ n2_; (try clear hb); (try clear hb2); (try clear hk); (try clear hi)))
                  go_roundg k3
                  case measure => have := HK1.out; have := HJ4.out; have := HK3.out; omega
                  case rel => exact ⟨(wrap64 (x33_3 + 1)), (by first | rfl | (simp; done) | (simp [*]; done)), H', ⟨by have := HK1.out; have := HJ4.out; have := HK3.out; omega⟩, ⟨by (with_reducible repeat (first | refine blk_drewN ?_ _ | refine blk_drew ?_ | refine blk_alloc ?_ _)); exact BK216.out⟩, ⟨by repeat (first | (with_reducible first | exact HB.out | apply below_alloc | apply pw_below_drewN | apply below_drew1 | refine below_set ?_ GE216.out | refine below_set ?_ GE222.out) | exact HB.out)⟩⟩
                 ·replace c22 := Bool.eq_false_iff.mpr c22
                  subst c22
                  have H1 : ((history_ahead.f ((rd_T33 y217 x33_3).f0) ((rd_T33 y217 x33_3).f1) ((rd_T33 y217 x33_3).f2) ((rd_T33 y217 x33_3).f3) ((rd_T33 y217 x33_3).f4) ((rd_T33 y217 x33_3).f5) ((rd_T33 y217 x33_3).f6.f0) ((rd_T33 y217 x33_3).f6.f1) ((rd_T33 l0 x9_1).f0) ((rd_T33 l0 x9_1).f1) ((rd_T33 l0 x9_1).f2) ((rd_T33 l0 x9_1).f3) ((rd_T33 l0 x9_1).f4) ((rd_T33 l0 x9_1).f5) ((rd_T33 l0 x9_1).f6.f0) ((rd_T33 l0 x9_1).f6.f1)).bind fun t224 => (if t224 = true then (history_right.l1 k3 l0 l0 (l0.length : Int) x9_1 y217 (y217.length : Int) (wrap64 (x33_3 + 1)) ((rd_T33 l0 x9_1).f0) ((rd_T33 l0 x9_1).f1) ((rd_T33 l0 x9_1).f2) ((rd_T33 l0 x9_1).f3) ((rd_T33 l0 x9_1).f4) ((rd_T33 l0 x9_1).f5) ((rd_T33 l0 x9_1).f6.f0) ((rd_T33 l0 x9_1).f6.f1)) else (some false))) = some r := by rw [if_neg (show ¬ (false = true) by decide)] at H; exact H
                  clear H
                  have H := H1
                  clear H1
                  replace H := Option.bind_eq_some_iff.mp H
                  obtain ⟨t224, A280, H⟩ := H
                  replace H : (if t224 = true then (history_right.l1 k3 l0 l0 (l0.length : Int) x9_1 y217 (y217.length : Int) (wrap64 (x33_3 + 1)) ((rd_T33 l0 x9_1).f0) ((rd_T33 l0 x9_1).f1) ((rd_T33 l0 x9_1).f2) ((rd_T33 l0 x9_1).f3) ((rd_T33 l0 x9_1).f4) ((rd_T33 l0 x9_1).f5) ((rd_T33 l0 x9_1).f6.f0) ((rd_T33 l0 x9_1).f6.f1)) else (some false)) = some r := H
                  have A28 := Aside0.mk A280
                  clear A280
                  by_cases c29 : t224 = true
                  ·subst c29
                   have H1 : (history_right.l1 k3 l0 l0 (l0.length : Int) x9_1 y217 (y217.length : Int) (wrap64 (x33_3 + 1)) ((rd_T33 l0 x9_1).f0) ((rd_T33 l0 x9_1).f1) ((rd_T33 l0 x9_1).f2) ((rd_T33 l0 x9_1).f3) ((rd_T33 l0 x9_1).f4) ((rd_T33 l0 x9_1).f5) ((rd_T33 l0 x9_1).f6.f0) ((rd_T33 l0 x9_1).f6.f1)) = some r := by rw [if_pos rfl] at H; exact H
                   clear H
                   have H := H1
                   clear H1
                   have H' := Aside0.mk H
                   clear H
                   have p221 : 0 ≤ (x33_3 : Int) := of_decide_eq_true (by first | (with_reducible assumption) | assumption)
                   have q221 : x33_3 < (y217.length : Int) := of_decide_eq_true (by first | (with_reducible assumption) | assumption)
                   obtain ⟨ad221, e221, hx221_0, hx221_1, hx221_2, hx221_3, hx221_4, hx221_5, hx221_6, hx221_7⟩ := at_T33 HR220.out x33_3 p221 q221
                   obtain rfl : ad215 = ad221 := (by injection e221)
                   replace hx221_0 := (HB.out.cell (World.block_lt_of_cell? w _ hx221_0)).trans hx221_0
                   replace hx221_1 := (HB.out.cell (World.block_lt_of_cell? w _ hx221_1)).trans hx221_1
                   replace hx221_2 := (HB.out.cell (World.block_lt_of_cell? w _ hx221_2)).trans hx221_2
                   replace hx221_3 := (HB.out.cell (World.block_lt_of_cell? w _ hx221_3)).trans hx221_3
                   replace hx221_4 := (HB.out.cell (World.block_lt_of_cell? w _ hx221_4)).trans hx221_4
                   replace hx221_5 := (HB.out.cell (World.block_lt_of_cell? w _ hx221_5)).trans hx221_5
                   replace hx221_6 := (HB.out.cell (World.block_lt_of_cell? w _ hx221_6)).trans hx221_6
                   replace hx221_7 := (HB.out.cell (World.block_lt_of_cell? w _ hx221_7)).trans hx221_7
                   replace p221 := eq_true p221
                   replace q221 := eq_true q221
                   go_wp2_with (first | ((with_reducible refine gate_dst (N := 6) rfl ?_); refine box_event ?hg (N := 6) ?hd (cs := #[.int .i64 0, .int .i64 0, .int .i64 0, .int .i64 0, .int .i64 0, .int .i64 0, .int .i64 0, .int .i64 0]) (t := 33) ?hr ?_; (case hd => rfl); (case hg => rfl); (case hr => first | (go_simp; done) | (go_simp; rfl)); intro gb222 hg w30 hbox hb; have n0_ := Aside0.mk (blk_below (g := gb216) (o := .cells #[.int .i64 ((rd_T33 l0 x9_1).f0), .int .i64 ((rd_T33 l0 x9_1).f1), .int .i64 ((rd_T33 l0 x9_1).f2), .int .i64 ((rd_T33 l0 x9_1).f3), .int .i64 ((rd_T33 l0 x9_1).f4), .int .i64 ((rd_T33 l0 x9_1).f5), .int .i64 ((rd_T33 l0 x9_1).f6.f0), .int .i64 ((rd_T33 l0 x9_1).f6.f1)] 33 (0, 0)) (by (with_reducible repeat (first | refine blk_drewN ?_ _ | refine blk_drew ?_ | refine blk_alloc ?_ _)); exact BK216.out) hb); have n1_ := Aside0.mk (below_step (by repeat (first | (with_reducible first | exact HB.out | apply below_alloc | apply pw_below_drewN | apply below_drew1 | refine below_set ?_ GE216.out) | exact HB.out)) hb); have n2_ := Aside0.mk (hbox); have n3_ := Aside0.mk ((by rw [hg]; exact (below_size (by repeat (first | (with_reducible first | exact HB.out | apply below_alloc | apply pw_below_drewN | apply below_drew1 | refine below_set ?_ GE216.out) | exact HB.out))) : w.heap.size ≤ gb222)); have n4_ := Aside0.mk ((by rw [hg]; exact (below_size (by repeat (first | (with_reducible first | exact HB.out | apply below_alloc | apply pw_below_drewN | apply below_drew1 | refine below_set ?_ GE216.out) | exact HB.out))) : w.heap.size ≤ gb222)); have n5_ := Aside0.mk ((by rw [hg]; exact Nat.ne_of_lt (blk_lt (g := gb216) (o := .cells #[.int .i64 ((rd_T33 l0 x9_1).f0), .int .i64 ((rd_T33 l0 x9_1).f1), .int .i64 ((rd_T33 l0 x9_1).f2), .int .i64 ((rd_T33 l0 x9_1).f3), .int .i64 ((rd_T33 l0 x9_1).f4), .int .i64 ((rd_T33 l0 x9_1).f5), .int .i64 ((rd_T33 l0 x9_1).f6.f0), .int .i64 ((rd_T33 l0 x9_1).f6.f1)] 33 (0, 0)) (by (with_reducible repeat (first | refine blk_drewN ?_ _ | refine blk_drew ?_ | refine blk_alloc ?_ _)); exact BK216.out)) : gb216 ≠ gb222)); have n6_ := Aside0.mk ((by rw [hg]; exact Nat.ne_of_gt (blk_lt (g := gb216) (o := .cells #[.int .i64 ((rd_T33 l0 x9_1).f0), .int .i64 ((rd_T33 l0 x9_1).f1), .int .i64 ((rd_T33 l0 x9_1).f2), .int .i64 ((rd_T33 l0 x9_1).f3), .int .i64 ((rd_T33 l0 x9_1).f4), .int .i64 ((rd_T33 l0 x9_1).f5), .int .i64 ((rd_T33 l0 x9_1).f6.f0), .int .i64 ((rd_T33 l0 x9_1).f6.f1)] 33 (0, 0)) (by (with_reducible repeat (first | refine blk_drewN ?_ _ | refine blk_drew ?_ | refine blk_alloc ?_ _)); exact BK216.out)) : gb222 ≠ gb216)); clear BK216; clear HB; have BK216 := n0_; have HB := n1_; have BK222 := n2_; have GW222 := n3_; have GE222 := n4_; have NB216_222 := n5_; have NB222_216 := n6_; clear n0_ n1_ n2_ n3_ n4_ n5_ n6_; clear hb hbox hg; have hnb31 := NB222_216.out; have hnc31 := NB216_222.out; have hcz32_0 : w30.cell? ⟨gb222, 0, none⟩ = some (.int .i64 0) := (blk_cell BK222.out 0).trans rfl; have hcz32_1 : w30.cell? ⟨gb222, 1, none⟩ = some (.int .i64 0) := (blk_cell BK222.out 1).trans rfl; have hcz32_2 : w30.cell? ⟨gb222, 2, none⟩ = some (.int .i64 0) := (blk_cell BK222.out 2).trans rfl; have hcz32_3 : w30.cell? ⟨gb222, 3, none⟩ = some (.int .i64 0) := (blk_cell BK222.out 3).trans rfl; have hcz32_4 : w30.cell? ⟨gb222, 4, none⟩ = some (.int .i64 0) := (blk_cell BK222.out 4).trans rfl; have hcz32_5 : w30.cell? ⟨gb222, 5, none⟩ = some (.int .i64 0) := (blk_cell BK222.out 5).trans rfl; have hcz32_6 : w30.cell? ⟨gb222, 6, none⟩ = some (.int .i64 0) := (blk_cell BK222.out 6).trans rfl; have hcz32_7 : w30.cell? ⟨gb222, 7, none⟩ = some (.int .i64 0) := (blk_cell BK222.out 7).trans rfl; have hfz32_0 := blk_frozen BK222.out 0; have hfz32_1 := blk_frozen BK222.out 1; have hfz32_2 := blk_frozen BK222.out 2; have hfz32_3 := blk_frozen BK222.out 3; have hfz32_4 := blk_frozen BK222.out 4; have hfz32_5 := blk_frozen BK222.out 5; have hfz32_6 := blk_frozen BK222.out 6; have hfz32_7 := blk_frozen BK222.out 7; have hcz33_0 : w30.cell? ⟨gb216, 0, none⟩ = some (.int .i64 ((rd_T33 l0 x9_1).f0)) := (blk_cell BK216.out 0).trans rfl; have hcz33_1 : w30.cell? ⟨gb216, 1, none⟩ = some (.int .i64 ((rd_T33 l0 x9_1).f1)) := (blk_cell BK216.out 1).trans rfl; have hcz33_2 : w30.cell? ⟨gb216, 2, none⟩ = some (.int .i64 ((rd_T33 l0 x9_1).f2)) := (blk_cell BK216.out 2).trans rfl; have hcz33_3 : w30.cell? ⟨gb216, 3, none⟩ = some (.int .i64 ((rd_T33 l0 x9_1).f3)) := (blk_cell BK216.out 3).trans rfl; have hcz33_4 : w30.cell? ⟨gb216, 4, none⟩ = some (.int .i64 ((rd_T33 l0 x9_1).f4)) := (blk_cell BK216.out 4).trans rfl; have hcz33_5 : w30.cell? ⟨gb216, 5, none⟩ = some (.int .i64 ((rd_T33 l0 x9_1).f5)) := (blk_cell BK216.out 5).trans rfl; have hcz33_6 : w30.cell? ⟨gb216, 6, none⟩ = some (.int .i64 ((rd_T33 l0 x9_1).f6.f0)) := (blk_cell BK216.out 6).trans rfl; have hcz33_7 : w30.cell? ⟨gb216, 7, none⟩ = some (.int .i64 ((rd_T33 l0 x9_1).f6.f1)) := (blk_cell BK216.out 7).trans rfl; have hfz33_0 := blk_frozen BK216.out 0; have hfz33_1 := blk_frozen BK216.out 1; have hfz33_2 := blk_frozen BK216.out 2; have hfz33_3 := blk_frozen BK216.out 3; have hfz33_4 := blk_frozen BK216.out 4; have hfz33_5 := blk_frozen BK216.out 5; have hfz33_6 := blk_frozen BK216.out 6; have hfz33_7 := blk_frozen BK216.out 7) | (go_at_call 29; (with_reducible refine (history_ahead.calls ((rd_T33 l0 x9_1).f0) ((rd_T33 l0 x9_1).f1) ((rd_T33 l0 x9_1).f2) ((rd_T33 l0 x9_1).f3) ((rd_T33 l0 x9_1).f4) ((rd_T33 l0 x9_1).f5) ((rd_T33 l0 x9_1).f6.f0) ((rd_T33 l0 x9_1).f6.f1) ((rd_T33 y217 x33_3).f0) ((rd_T33 y217 x33_3).f1) ((rd_T33 y217 x33_3).f2) ((rd_T33 y217 x33_3).f3) ((rd_T33 y217 x33_3).f4) ((rd_T33 y217 x33_3).f5) ((rd_T33 y217 x33_3).f6.f0) ((rd_T33 y217 x33_3).f6.f1) false _ A21.out).mono ?_); rintro e w34 ⟨rfl, hb⟩; have n0_ := Aside0.mk (blk_below (g := gb216) (o := .cells #[.int .i64 ((rd_T33 l0 x9_1).f0), .int .i64 ((rd_T33 l0 x9_1).f1), .int .i64 ((rd_T33 l0 x9_1).f2), .int .i64 ((rd_T33 l0 x9_1).f3), .int .i64 ((rd_T33 l0 x9_1).f4), .int .i64 ((rd_T33 l0 x9_1).f5), .int .i64 ((rd_T33 l0 x9_1).f6.f0), .int .i64 ((rd_T33 l0 x9_1).f6.f1)] 33 (0, 0)) (by (with_reducible repeat (first | refine blk_drewN ?_ _ | refine blk_drew ?_ | refine blk_alloc ?_ _)); refine blk_far ?_ NB216_222.out _; (with_reducible repeat (first | refine blk_drewN ?_ _ | refine blk_drew ?_ | refine blk_alloc ?_ _)); refine blk_far ?_ NB216_222.out _; (with_reducible repeat (first | refine blk_drewN ?_ _ | refine blk_drew ?_ | refine blk_alloc ?_ _)); refine blk_far ?_ NB216_222.out _; (with_reducible repeat (first | refine blk_drewN ?_ _ | refine blk_drew ?_ | refine blk_alloc ?_ _)); refine blk_far ?_ NB216_222.out _; (with_reducible repeat (first | refine blk_drewN ?_ _ | refine blk_drew ?_ | refine blk_alloc ?_ _)); refine blk_far ?_ NB216_222.out _; (with_reducible repeat (first | refine blk_drewN ?_ _ | refine blk_drew ?_ | refine blk_alloc ?_ _)); refine blk_far ?_ NB216_222.out _; (with_reducible repeat (first | refine blk_drewN ?_ _ | refine blk_drew ?_ | refine blk_alloc ?_ _)); refine blk_far ?_ NB216_222.out _; (with_reducible repeat (first | refine blk_drewN ?_ _ | refine blk_drew ?_ | refine blk_alloc ?_ _)); refine blk_far ?_ NB216_222.out _; (with_reducible repeat (first | refine blk_drewN ?_ _ | refine blk_drew ?_ | refine blk_alloc ?_ _)); exact BK216.out) hb); have n1_ := Aside0.mk (blk_below (g := gb222) (o := .cells #[.int .i64 ((rd_T33 y217 x33_3).f0), .int .i64 ((rd_T33 y217 x33_3).f1), .int .i64 ((rd_T33 y217 x33_3).f2), .int .i64 ((rd_T33 y217 x33_3).f3), .int .i64 ((rd_T33 y217 x33_3).f4), .int .i64 ((rd_T33 y217 x33_3).f5), .int .i64 ((rd_T33 y217 x33_3).f6.f0), .int .i64 ((rd_T33 y217 x33_3).f6.f1)] 33 (0, 0)) (by (with_reducible repeat (first | refine blk_drewN ?_ _ | refine blk_drew ?_ | refine blk_alloc ?_ _)); refine blk_put (cs := #[.int .i64 ((rd_T33 y217 x33_3).f0), .int .i64 ((rd_T33 y217 x33_3).f1), .int .i64 ((rd_T33 y217 x33_3).f2), .int .i64 ((rd_T33 y217 x33_3).f3), .int .i64 ((rd_T33 y217 x33_3).f4), .int .i64 ((rd_T33 y217 x33_3).f5), .int .i64 ((rd_T33 y217 x33_3).f6.f0), .int .i64 0]) ?_ 7 _ rfl; (with_reducible repeat (first | refine blk_drewN ?_ _ | refine blk_drew ?_ | refine blk_alloc ?_ _)); refine blk_put (cs := #[.int .i64 ((rd_T33 y217 x33_3).f0), .int .i64 ((rd_T33 y217 x33_3).f1), .int .i64 ((rd_T33 y217 x33_3).f2), .int .i64 ((rd_T33 y217 x33_3).f3), .int .i64 ((rd_T33 y217 x33_3).f4), .int .i64 ((rd_T33 y217 x33_3).f5), .int .i64 0, .int .i64 0]) ?_ 6 _ rfl; (with_reducible repeat (first | refine blk_drewN ?_ _ | refine blk_drew ?_ | refine blk_alloc ?_ _)); refine blk_put (cs := #[.int .i64 ((rd_T33 y217 x33_3).f0), .int .i64 ((rd_T33 y217 x33_3).f1), .int .i64 ((rd_T33 y217 x33_3).f2), .int .i64 ((rd_T33 y217 x33_3).f3), .int .i64 ((rd_T33 y217 x33_3).f4), .int .i64 0, .int .i64 0, .int .i64 0]) ?_ 5 _ rfl; (with_reducible repeat (first | refine blk_drewN ?_ _ | refine blk_drew ?_ | refine blk_alloc ?_ _)); refine blk_put (cs := #[.int .i64 ((rd_T33 y217 x33_3).f0), .int .i64 ((rd_T33 y217 x33_3).f1), .int .i64 ((rd_T33 y217 x33_3).f2), .int .i64 ((rd_T33 y217 x33_3).f3), .int .i64 0, .int .i64 0, .int .i64 0, .int .i64 0]) ?_ 4 _ rfl; (with_reducible repeat (first | refine blk_drewN ?_ _ | refine blk_drew ?_ | refine blk_alloc ?_ _)); refine blk_put (cs := #[.int .i64 ((rd_T33 y217 x33_3).f0), .int .i64 ((rd_T33 y217 x33_3).f1), .int .i64 ((rd_T33 y217 x33_3).f2), .int .i64 0, .int .i64 0, .int .i64 0, .int .i64 0, .int .i64 0]) ?_ 3 _ rfl; (with_reducible repeat (first | refine blk_drewN ?_ _ | refine blk_drew ?_ | refine blk_alloc ?_ _)); refine blk_put (cs := #[.int .i64 ((rd_T33 y217 x33_3).f0), .int .i64 ((rd_T33 y217 x33_3).f1), .int .i64 0, .int .i64 0, .int .i64 0, .int .i64 0, .int .i64 0, .int .i64 0]) ?_ 2 _ rfl; (with_reducible repeat (first | refine blk_drewN ?_ _ | refine blk_drew ?_ | refine blk_alloc ?_ _)); refine blk_put (cs := #[.int .i64 ((rd_T33 y217 x33_3).f0), .int .i64 0, .int .i64 0, .int .i64 0, .int .i64 0, .int .i64 0, .int .i64 0, .int .i64 0]) ?_ 1 _ rfl; (with_reducible repeat (first | refine blk_drewN ?_ _ | refine blk_drew ?_ | refine blk_alloc ?_ _)); refine blk_put (cs := #[.int .i64 0, .int .i64 0, .int .i64 0, .int .i64 0, .int .i64 0, .int .i64 0, .int .i64 0, .int .i64 0]) ?_ 0 _ rfl; (with_reducible repeat (first | refine blk_drewN ?_ _ | refine blk_drew ?_ | refine blk_alloc ?_ _)); exact BK222.out) hb); have n2_ := Aside0.mk (below_step (by repeat (first | (with_reducible first | exact HB.out | apply below_alloc | apply pw_below_drewN | apply below_drew1 | refine below_set ?_ GE216.out | refine below_set ?_ GE222.out) | exact HB.out)) hb); clear BK216; clear BK222; clear HB; have BK216 := n0_; have BK222 := n1_; have HB := n2_; clear n0_ n1_ n2_; (try clear hb); (try clear hb2); (try clear hk); (try clear hi); have hcz35_0 : w34.cell? ⟨gb222, 0, none⟩ = some (.int .i64 ((rd_T33 y217 x33_3).f0)) := (blk_cell BK222.out 0).trans rfl; have hcz35_1 : w34.cell? ⟨gb222, 1, none⟩ = some (.int .i64 ((rd_T33 y217 x33_3).f1)) := (blk_cell BK222.out 1).trans rfl; have hcz35_2 : w34.cell? ⟨gb222, 2, none⟩ = some (.int .i64 ((rd_T33 y217 x33_3).f2)) := (blk_cell BK222.out 2).trans rfl; have hcz35_3 : w34.cell? ⟨gb222, 3, none⟩ = some (.int .i64 ((rd_T33 y217 x33_3).f3)) := (blk_cell BK222.out 3).trans rfl; have hcz35_4 : w34.cell? ⟨gb222, 4, none⟩ = some (.int .i64 ((rd_T33 y217 x33_3).f4)) := (blk_cell BK222.out 4).trans rfl; have hcz35_5 : w34.cell? ⟨gb222, 5, none⟩ = some (.int .i64 ((rd_T33 y217 x33_3).f5)) := (blk_cell BK222.out 5).trans rfl; have hcz35_6 : w34.cell? ⟨gb222, 6, none⟩ = some (.int .i64 ((rd_T33 y217 x33_3).f6.f0)) := (blk_cell BK222.out 6).trans rfl; have hcz35_7 : w34.cell? ⟨gb222, 7, none⟩ = some (.int .i64 ((rd_T33 y217 x33_3).f6.f1)) := (blk_cell BK222.out 7).trans rfl; have hfz35_0 := blk_frozen BK222.out 0; have hfz35_1 := blk_frozen BK222.out 1; have hfz35_2 := blk_frozen BK222.out 2; have hfz35_3 := blk_frozen BK222.out 3; have hfz35_4 := blk_frozen BK222.out 4; have hfz35_5 := blk_frozen BK222.out 5; have hfz35_6 := blk_frozen BK222.out 6; have hfz35_7 := blk_frozen BK222.out 7; have hcz36_0 : w34.cell? ⟨gb216, 0, none⟩ = some (.int .i64 ((rd_T33 l0 x9_1).f0)) := (blk_cell BK216.out 0).trans rfl; have hcz36_1 : w34.cell? ⟨gb216, 1, none⟩ = some (.int .i64 ((rd_T33 l0 x9_1).f1)) := (blk_cell BK216.out 1).trans rfl; have hcz36_2 : w34.cell? ⟨gb216, 2, none⟩ = some (.int .i64 ((rd_T33 l0 x9_1).f2)) := (blk_cell BK216.out 2).trans rfl; have hcz36_3 : w34.cell? ⟨gb216, 3, none⟩ = some (.int .i64 ((rd_T33 l0 x9_1).f3)) := (blk_cell BK216.out 3).trans rfl; have hcz36_4 : w34.cell? ⟨gb216, 4, none⟩ = some (.int .i64 ((rd_T33 l0 x9_1).f4)) := (blk_cell BK216.out 4).trans rfl; have hcz36_5 : w34.cell? ⟨gb216, 5, none⟩ = some (.int .i64 ((rd_T33 l0 x9_1).f5)) := (blk_cell BK216.out 5).trans rfl; have hcz36_6 : w34.cell? ⟨gb216, 6, none⟩ = some (.int .i64 ((rd_T33 l0 x9_1).f6.f0)) := (blk_cell BK216.out 6).trans rfl; have hcz36_7 : w34.cell? ⟨gb216, 7, none⟩ = some (.int .i64 ((rd_T33 l0 x9_1).f6.f1)) := (blk_cell BK216.out 7).trans rfl; have hfz36_0 := blk_frozen BK216.out 0; have hfz36_1 := blk_frozen BK216.out 1; have hfz36_2 := blk_frozen BK216.out 2; have hfz36_3 := blk_frozen BK216.out 3; have hfz36_4 := blk_frozen BK216.out 4; have hfz36_5 := blk_frozen BK216.out 5; have hfz36_6 := blk_frozen BK216.out 6; have hfz36_7 := blk_frozen BK216.out 7) | (go_at_call 29; (with_reducible refine (history_ahead.calls ((rd_T33 y217 x33_3).f0) ((rd_T33 y217 x33_3).f1) ((rd_T33 y217 x33_3).f2) ((rd_T33 y217 x33_3).f3) ((rd_T33 y217 x33_3).f4) ((rd_T33 y217 x33_3).f5) ((rd_T33 y217 x33_3).f6.f0) ((rd_T33 y217 x33_3).f6.f1) ((rd_T33 l0 x9_1).f0) ((rd_T33 l0 x9_1).f1) ((rd_T33 l0 x9_1).f2) ((rd_T33 l0 x9_1).f3) ((rd_T33 l0 x9_1).f4) ((rd_T33 l0 x9_1).f5) ((rd_T33 l0 x9_1).f6.f0) ((rd_T33 l0 x9_1).f6.f1) true _ A28.out).mono ?_); rintro e w37 ⟨rfl, hb⟩; have n0_ := Aside0.mk (blk_below (g := gb216) (o := .cells #[.int .i64 ((rd_T33 l0 x9_1).f0), .int .i64 ((rd_T33 l0 x9_1).f1), .int .i64 ((rd_T33 l0 x9_1).f2), .int .i64 ((rd_T33 l0 x9_1).f3), .int .i64 ((rd_T33 l0 x9_1).f4), .int .i64 ((rd_T33 l0 x9_1).f5), .int .i64 ((rd_T33 l0 x9_1).f6.f0), .int .i64 ((rd_T33 l0 x9_1).f6.f1)] 33 (0, 0)) (by (with_reducible repeat (first | refine blk_drewN ?_ _ | refine blk_drew ?_ | refine blk_alloc ?_ _)); exact BK216.out) hb); have n1_ := Aside0.mk (blk_below (g := gb222) (o := .cells #[.int .i64 ((rd_T33 y217 x33_3).f0), .int .i64 ((rd_T33 y217 x33_3).f1), .int .i64 ((rd_T33 y217 x33_3).f2), .int .i64 ((rd_T33 y217 x33_3).f3), .int .i64 ((rd_T33 y217 x33_3).f4), .int .i64 ((rd_T33 y217 x33_3).f5), .int .i64 ((rd_T33 y217 x33_3).f6.f0), .int .i64 ((rd_T33 y217 x33_3).f6.f1)] 33 (0, 0)) (by (with_reducible repeat (first | refine blk_drewN ?_ _ | refine blk_drew ?_ | refine blk_alloc ?_ _)); exact BK222.out) hb); have n2_ := Aside0.mk (below_step (by repeat (first | (with_reducible first | exact HB.out | apply below_alloc | apply pw_below_drewN | apply below_drew1 | refine below_set ?_ GE216.out | refine below_set ?_ GE222.out) | exact HB.out)) hb); clear BK216; clear BK222; clear HB; have BK216 := n0_; have BK222 := n1_; have HB := n2_; clear n0_ n1_ n2_; (try clear hb); (try clear hb2); (try clear hk); (try clear hi)))
                   go_roundg k3
                   case measure => have := HK1.out; have := HJ4.out; have := HK3.out; omega
                   case rel => exact ⟨(wrap64 (x33_3 + 1)), (by first | rfl | (simp; done) | (simp [*]; done)), H', ⟨by have := HK1.out; have := HJ4.out; have := HK3.out; omega⟩, ⟨by (with_reducible repeat (first | refine blk_drewN ?_ _ | refine blk_drew ?_ | refine blk_alloc ?_ _)); exact BK216.out⟩, ⟨by repeat (first | (with_reducible first | exact HB.out | apply below_alloc | apply pw_below_drewN | apply below_drew1 | refine below_set ?_ GE216.out | refine below_set ?_ GE222.out) | exact HB.out)⟩⟩
                  ·replace c29 := Bool.eq_false_iff.mpr c29
                   subst c29
                   have H1 : (some false) = some r := by rw [if_neg (show ¬ (false = true) by decide)] at H; exact H
                   clear H
                   have H := H1
                   clear H1
                   obtain rfl := Option.some.inj H
                   have p221 : 0 ≤ (x33_3 : Int) := of_decide_eq_true (by first | (with_reducible assumption) | assumption)
                   have q221 : x33_3 < (y217.length : Int) := of_decide_eq_true (by first | (with_reducible assumption) | assumption)
                   obtain ⟨ad221, e221, hx221_0, hx221_1, hx221_2, hx221_3, hx221_4, hx221_5, hx221_6, hx221_7⟩ := at_T33 HR220.out x33_3 p221 q221
                   obtain rfl : ad215 = ad221 := (by injection e221)
                   replace hx221_0 := (HB.out.cell (World.block_lt_of_cell? w _ hx221_0)).trans hx221_0
                   replace hx221_1 := (HB.out.cell (World.block_lt_of_cell? w _ hx221_1)).trans hx221_1
                   replace hx221_2 := (HB.out.cell (World.block_lt_of_cell? w _ hx221_2)).trans hx221_2
                   replace hx221_3 := (HB.out.cell (World.block_lt_of_cell? w _ hx221_3)).trans hx221_3
                   replace hx221_4 := (HB.out.cell (World.block_lt_of_cell? w _ hx221_4)).trans hx221_4
                   replace hx221_5 := (HB.out.cell (World.block_lt_of_cell? w _ hx221_5)).trans hx221_5
                   replace hx221_6 := (HB.out.cell (World.block_lt_of_cell? w _ hx221_6)).trans hx221_6
                   replace hx221_7 := (HB.out.cell (World.block_lt_of_cell? w _ hx221_7)).trans hx221_7
                   replace p221 := eq_true p221
                   replace q221 := eq_true q221
                   go_wp2_with (first | ((with_reducible refine gate_dst (N := 6) rfl ?_); refine box_event ?hg (N := 6) ?hd (cs := #[.int .i64 0, .int .i64 0, .int .i64 0, .int .i64 0, .int .i64 0, .int .i64 0, .int .i64 0, .int .i64 0]) (t := 33) ?hr ?_; (case hd => rfl); (case hg => rfl); (case hr => first | (go_simp; done) | (go_simp; rfl)); intro gb222 hg w38 hbox hb; have n0_ := Aside0.mk (blk_below (g := gb216) (o := .cells #[.int .i64 ((rd_T33 l0 x9_1).f0), .int .i64 ((rd_T33 l0 x9_1).f1), .int .i64 ((rd_T33 l0 x9_1).f2), .int .i64 ((rd_T33 l0 x9_1).f3), .int .i64 ((rd_T33 l0 x9_1).f4), .int .i64 ((rd_T33 l0 x9_1).f5), .int .i64 ((rd_T33 l0 x9_1).f6.f0), .int .i64 ((rd_T33 l0 x9_1).f6.f1)] 33 (0, 0)) (by (with_reducible repeat (first | refine blk_drewN ?_ _ | refine blk_drew ?_ | refine blk_alloc ?_ _)); exact BK216.out) hb); have n1_ := Aside0.mk (below_step (by repeat (first | (with_reducible first | exact HB.out | apply below_alloc | apply pw_below_drewN | apply below_drew1 | refine below_set ?_ GE216.out) | exact HB.out)) hb); have n2_ := Aside0.mk (hbox); have n3_ := Aside0.mk ((by rw [hg]; exact (below_size (by repeat (first | (with_reducible first | exact HB.out | apply below_alloc | apply pw_below_drewN | apply below_drew1 | refine below_set ?_ GE216.out) | exact HB.out))) : w.heap.size ≤ gb222)); have n4_ := Aside0.mk ((by rw [hg]; exact (below_size (by repeat (first | (with_reducible first | exact HB.out | apply below_alloc | apply pw_below_drewN | apply below_drew1 | refine below_set ?_ GE216.out) | exact HB.out))) : w.heap.size ≤ gb222)); have n5_ := Aside0.mk ((by rw [hg]; exact Nat.ne_of_lt (blk_lt (g := gb216) (o := .cells #[.int .i64 ((rd_T33 l0 x9_1).f0), .int .i64 ((rd_T33 l0 x9_1).f1), .int .i64 ((rd_T33 l0 x9_1).f2), .int .i64 ((rd_T33 l0 x9_1).f3), .int .i64 ((rd_T33 l0 x9_1).f4), .int .i64 ((rd_T33 l0 x9_1).f5), .int .i64 ((rd_T33 l0 x9_1).f6.f0), .int .i64 ((rd_T33 l0 x9_1).f6.f1)] 33 (0, 0)) (by (with_reducible repeat (first | refine blk_drewN ?_ _ | refine blk_drew ?_ | refine blk_alloc ?_ _)); exact BK216.out)) : gb216 ≠ gb222)); have n6_ := Aside0.mk ((by rw [hg]; exact Nat.ne_of_gt (blk_lt (g := gb216) (o := .cells #[.int .i64 ((rd_T33 l0 x9_1).f0), .int .i64 ((rd_T33 l0 x9_1).f1), .int .i64 ((rd_T33 l0 x9_1).f2), .int .i64 ((rd_T33 l0 x9_1).f3), .int .i64 ((rd_T33 l0 x9_1).f4), .int .i64 ((rd_T33 l0 x9_1).f5), .int .i64 ((rd_T33 l0 x9_1).f6.f0), .int .i64 ((rd_T33 l0 x9_1).f6.f1)] 33 (0, 0)) (by (with_reducible repeat (first | refine blk_drewN ?_ _ | refine blk_drew ?_ | refine blk_alloc ?_ _)); exact BK216.out)) : gb222 ≠ gb216)); clear BK216; clear HB; have BK216 := n0_; have HB := n1_; have BK222 := n2_; have GW222 := n3_; have GE222 := n4_; have NB216_222 := n5_; have NB222_216 := n6_; clear n0_ n1_ n2_ n3_ n4_ n5_ n6_; clear hb hbox hg; have hnb39 := NB222_216.out; have hnc39 := NB216_222.out; have hcz40_0 : w38.cell? ⟨gb222, 0, none⟩ = some (.int .i64 0) := (blk_cell BK222.out 0).trans rfl; have hcz40_1 : w38.cell? ⟨gb222, 1, none⟩ = some (.int .i64 0) := (blk_cell BK222.out 1).trans rfl; have hcz40_2 : w38.cell? ⟨gb222, 2, none⟩ = some (.int .i64 0) := (blk_cell BK222.out 2).trans rfl; have hcz40_3 : w38.cell? ⟨gb222, 3, none⟩ = some (.int .i64 0) := (blk_cell BK222.out 3).trans rfl; have hcz40_4 : w38.cell? ⟨gb222, 4, none⟩ = some (.int .i64 0) := (blk_cell BK222.out 4).trans rfl; have hcz40_5 : w38.cell? ⟨gb222, 5, none⟩ = some (.int .i64 0) := (blk_cell BK222.out 5).trans rfl; have hcz40_6 : w38.cell? ⟨gb222, 6, none⟩ = some (.int .i64 0) := (blk_cell BK222.out 6).trans rfl; have hcz40_7 : w38.cell? ⟨gb222, 7, none⟩ = some (.int .i64 0) := (blk_cell BK222.out 7).trans rfl; have hfz40_0 := blk_frozen BK222.out 0; have hfz40_1 := blk_frozen BK222.out 1; have hfz40_2 := blk_frozen BK222.out 2; have hfz40_3 := blk_frozen BK222.out 3; have hfz40_4 := blk_frozen BK222.out 4; have hfz40_5 := blk_frozen BK222.out 5; have hfz40_6 := blk_frozen BK222.out 6; have hfz40_7 := blk_frozen BK222.out 7; have hcz41_0 : w38.cell? ⟨gb216, 0, none⟩ = some (.int .i64 ((rd_T33 l0 x9_1).f0)) := (blk_cell BK216.out 0).trans rfl; have hcz41_1 : w38.cell? ⟨gb216, 1, none⟩ = some (.int .i64 ((rd_T33 l0 x9_1).f1)) := (blk_cell BK216.out 1).trans rfl; have hcz41_2 : w38.cell? ⟨gb216, 2, none⟩ = some (.int .i64 ((rd_T33 l0 x9_1).f2)) := (blk_cell BK216.out 2).trans rfl; have hcz41_3 : w38.cell? ⟨gb216, 3, none⟩ = some (.int .i64 ((rd_T33 l0 x9_1).f3)) := (blk_cell BK216.out 3).trans rfl; have hcz41_4 : w38.cell? ⟨gb216, 4, none⟩ = some (.int .i64 ((rd_T33 l0 x9_1).f4)) := (blk_cell BK216.out 4).trans rfl; have hcz41_5 : w38.cell? ⟨gb216, 5, none⟩ = some (.int .i64 ((rd_T33 l0 x9_1).f5)) := (blk_cell BK216.out 5).trans rfl; have hcz41_6 : w38.cell? ⟨gb216, 6, none⟩ = some (.int .i64 ((rd_T33 l0 x9_1).f6.f0)) := (blk_cell BK216.out 6).trans rfl; have hcz41_7 : w38.cell? ⟨gb216, 7, none⟩ = some (.int .i64 ((rd_T33 l0 x9_1).f6.f1)) := (blk_cell BK216.out 7).trans rfl; have hfz41_0 := blk_frozen BK216.out 0; have hfz41_1 := blk_frozen BK216.out 1; have hfz41_2 := blk_frozen BK216.out 2; have hfz41_3 := blk_frozen BK216.out 3; have hfz41_4 := blk_frozen BK216.out 4; have hfz41_5 := blk_frozen BK216.out 5; have hfz41_6 := blk_frozen BK216.out 6; have hfz41_7 := blk_frozen BK216.out 7) | (go_at_call 29; (with_reducible refine (history_ahead.calls ((rd_T33 l0 x9_1).f0) ((rd_T33 l0 x9_1).f1) ((rd_T33 l0 x9_1).f2) ((rd_T33 l0 x9_1).f3) ((rd_T33 l0 x9_1).f4) ((rd_T33 l0 x9_1).f5) ((rd_T33 l0 x9_1).f6.f0) ((rd_T33 l0 x9_1).f6.f1) ((rd_T33 y217 x33_3).f0) ((rd_T33 y217 x33_3).f1) ((rd_T33 y217 x33_3).f2) ((rd_T33 y217 x33_3).f3) ((rd_T33 y217 x33_3).f4) ((rd_T33 y217 x33_3).f5) ((rd_T33 y217 x33_3).f6.f0) ((rd_T33 y217 x33_3).f6.f1) false _ A21.out).mono ?_); rintro e w42 ⟨rfl, hb⟩; have n0_ := Aside0.mk (blk_below (g := gb216) (o := .cells #[.int .i64 ((rd_T33 l0 x9_1).f0), .int .i64 ((rd_T33 l0 x9_1).f1), .int .i64 ((rd_T33 l0 x9_1).f2), .int .i64 ((rd_T33 l0 x9_1).f3), .int .i64 ((rd_T33 l0 x9_1).f4), .int .i64 ((rd_T33 l0 x9_1).f5), .int .i64 ((rd_T33 l0 x9_1).f6.f0), .int .i64 ((rd_T33 l0 x9_1).f6.f1)] 33 (0, 0)) (by (with_reducible repeat (first | refine blk_drewN ?_ _ | refine blk_drew ?_ | refine blk_alloc ?_ _)); refine blk_far ?_ NB216_222.out _; (with_reducible repeat (first | refine blk_drewN ?_ _ | refine blk_drew ?_ | refine blk_alloc ?_ _)); refine blk_far ?_ NB216_222.out _; (with_reducible repeat (first | refine blk_drewN ?_ _ | refine blk_drew ?_ | refine blk_alloc ?_ _)); refine blk_far ?_ NB216_222.out _; (with_reducible repeat (first | refine blk_drewN ?_ _ | refine blk_drew ?_ | refine blk_alloc ?_ _)); refine blk_far ?_ NB216_222.out _; (with_reducible repeat (first | refine blk_drewN ?_ _ | refine blk_drew ?_ | refine blk_alloc ?_ _)); refine blk_far ?_ NB216_222.out _; (with_reducible repeat (first | refine blk_drewN ?_ _ | refine blk_drew ?_ | refine blk_alloc ?_ _)); refine blk_far ?_ NB216_222.out _; (with_reducible repeat (first | refine blk_drewN ?_ _ | refine blk_drew ?_ | refine blk_alloc ?_ _)); refine blk_far ?_ NB216_222.out _; (with_reducible repeat (first | refine blk_drewN ?_ _ | refine blk_drew ?_ | refine blk_alloc ?_ _)); refine blk_far ?_ NB216_222.out _; (with_reducible repeat (first | refine blk_drewN ?_ _ | refine blk_drew ?_ | refine blk_alloc ?_ _)); exact BK216.out) hb); have n1_ := Aside0.mk (blk_below (g := gb222) (o := .cells #[.int .i64 ((rd_T33 y217 x33_3).f0), .int .i64 ((rd_T33 y217 x33_3).f1), .int .i64 ((rd_T33 y217 x33_3).f2), .int .i64 ((rd_T33 y217 x33_3).f3), .int .i64 ((rd_T33 y217 x33_3).f4), .int .i64 ((rd_T33 y217 x33_3).f5), .int .i64 ((rd_T33 y217 x33_3).f6.f0), .int .i64 ((rd_T33 y217 x33_3).f6.f1)] 33 (0, 0)) (by (with_reducible repeat (first | refine blk_drewN ?_ _ | refine blk_drew ?_ | refine blk_alloc ?_ _)); refine blk_put (cs := #[.int .i64 ((rd_T33 y217 x33_3).f0), .int .i64 ((rd_T33 y217 x33_3).f1), .int .i64 ((rd_T33 y217 x33_3).f2), .int .i64 ((rd_T33 y217 x33_3).f3), .int .i64 ((rd_T33 y217 x33_3).f4), .int .i64 ((rd_T33 y217 x33_3).f5), .int .i64 ((rd_T33 y217 x33_3).f6.f0), .int .i64 0]) ?_ 7 _ rfl; (with_reducible repeat (first | refine blk_drewN ?_ _ | refine blk_drew ?_ | refine blk_alloc ?_ _)); refine blk_put (cs := #[.int .i64 ((rd_T33 y217 x33_3).f0), .int .i64 ((rd_T33 y217 x33_3).f1), .int .i64 ((rd_T33 y217 x33_3).f2), .int .i64 ((rd_T33 y217 x33_3).f3), .int .i64 ((rd_T33 y217 x33_3).f4), .int .i64 ((rd_T33 y217 x33_3).f5), .int .i64 0, .int .i64 0]) ?_ 6 _ rfl; (with_reducible repeat (first | refine blk_drewN ?_ _ | refine blk_drew ?_ | refine blk_alloc ?_ _)); refine blk_put (cs := #[.int .i64 ((rd_T33 y217 x33_3).f0), .int .i64 ((rd_T33 y217 x33_3).f1), .int .i64 ((rd_T33 y217 x33_3).f2), .int .i64 ((rd_T33 y217 x33_3).f3), .int .i64 ((rd_T33 y217 x33_3).f4), .int .i64 0, .int .i64 0, .int .i64 0]) ?_ 5 _ rfl; (with_reducible repeat (first | refine blk_drewN ?_ _ | refine blk_drew ?_ | refine blk_alloc ?_ _)); refine blk_put (cs := #[.int .i64 ((rd_T33 y217 x33_3).f0), .int .i64 ((rd_T33 y217 x33_3).f1), .int .i64 ((rd_T33 y217 x33_3).f2), .int .i64 ((rd_T33 y217 x33_3).f3), .int .i64 0, .int .i64 0, .int .i64 0, .int .i64 0]) ?_ 4 _ rfl; (with_reducible repeat (first | refine blk_drewN ?_ _ | refine blk_drew ?_ | refine blk_alloc ?_ _)); refine blk_put (cs := #[.int .i64 ((rd_T33 y217 x33_3).f0), .int .i64 ((rd_T33 y217 x33_3).f1), .int .i64 ((rd_T33 y217 x33_3).f2), .int .i64 0, .int .i64 0, .int .i64 0, .int .i64 0, .int .i64 0]) ?_ 3 _ rfl; (with_reducible repeat (first | refine blk_drewN ?_ _ | refine blk_drew ?_ | refine blk_alloc ?_ _)); refine blk_put (cs := #[.int .i64 ((rd_T33 y217 x33_3).f0), .int .i64 ((rd_T33 y217 x33_3).f1), .int .i64 0, .int .i64 0, .int .i64 0, .int .i64 0, .int .i64 0, .int .i64 0]) ?_ 2 _ rfl; (with_reducible repeat (first | refine blk_drewN ?_ _ | refine blk_drew ?_ | refine blk_alloc ?_ _)); refine blk_put (cs := #[.int .i64 ((rd_T33 y217 x33_3).f0), .int .i64 0, .int .i64 0, .int .i64 0, .int .i64 0, .int .i64 0, .int .i64 0, .int .i64 0]) ?_ 1 _ rfl; (with_reducible repeat (first | refine blk_drewN ?_ _ | refine blk_drew ?_ | refine blk_alloc ?_ _)); refine blk_put (cs := #[.int .i64 0, .int .i64 0, .int .i64 0, .int .i64 0, .int .i64 0, .int .i64 0, .int .i64 0, .int .i64 0]) ?_ 0 _ rfl; (with_reducible repeat (first | refine blk_drewN ?_ _ | refine blk_drew ?_ | refine blk_alloc ?_ _)); exact BK222.out) hb); have n2_ := Aside0.mk (below_step (by repeat (first | (with_reducible first | exact HB.out | apply below_alloc | apply pw_below_drewN | apply below_drew1 | refine below_set ?_ GE216.out | refine below_set ?_ GE222.out) | exact HB.out)) hb); clear BK216; clear BK222; clear HB; have BK216 := n0_; have BK222 := n1_; have HB := n2_; clear n0_ n1_ n2_; (try clear hb); (try clear hb2); (try clear hk); (try clear hi); have hcz43_0 : w42.cell? ⟨gb222, 0, none⟩ = some (.int .i64 ((rd_T33 y217 x33_3).f0)) := (blk_cell BK222.out 0).trans rfl; have hcz43_1 : w42.cell? ⟨gb222, 1, none⟩ = some (.int .i64 ((rd_T33 y217 x33_3).f1)) := (blk_cell BK222.out 1).trans rfl; have hcz43_2 : w42.cell? ⟨gb222, 2, none⟩ = some (.int .i64 ((rd_T33 y217 x33_3).f2)) := (blk_cell BK222.out 2).trans rfl; have hcz43_3 : w42.cell? ⟨gb222, 3, none⟩ = some (.int .i64 ((rd_T33 y217 x33_3).f3)) := (blk_cell BK222.out 3).trans rfl; have hcz43_4 : w42.cell? ⟨gb222, 4, none⟩ = some (.int .i64 ((rd_T33 y217 x33_3).f4)) := (blk_cell BK222.out 4).trans rfl; have hcz43_5 : w42.cell? ⟨gb222, 5, none⟩ = some (.int .i64 ((rd_T33 y217 x33_3).f5)) := (blk_cell BK222.out 5).trans rfl; have hcz43_6 : w42.cell? ⟨gb222, 6, none⟩ = some (.int .i64 ((rd_T33 y217 x33_3).f6.f0)) := (blk_cell BK222.out 6).trans rfl; have hcz43_7 : w42.cell? ⟨gb222, 7, none⟩ = some (.int .i64 ((rd_T33 y217 x33_3).f6.f1)) := (blk_cell BK222.out 7).trans rfl; have hfz43_0 := blk_frozen BK222.out 0; have hfz43_1 := blk_frozen BK222.out 1; have hfz43_2 := blk_frozen BK222.out 2; have hfz43_3 := blk_frozen BK222.out 3; have hfz43_4 := blk_frozen BK222.out 4; have hfz43_5 := blk_frozen BK222.out 5; have hfz43_6 := blk_frozen BK222.out 6; have hfz43_7 := blk_frozen BK222.out 7; have hcz44_0 : w42.cell? ⟨gb216, 0, none⟩ = some (.int .i64 ((rd_T33 l0 x9_1).f0)) := (blk_cell BK216.out 0).trans rfl; have hcz44_1 : w42.cell? ⟨gb216, 1, none⟩ = some (.int .i64 ((rd_T33 l0 x9_1).f1)) := (blk_cell BK216.out 1).trans rfl; have hcz44_2 : w42.cell? ⟨gb216, 2, none⟩ = some (.int .i64 ((rd_T33 l0 x9_1).f2)) := (blk_cell BK216.out 2).trans rfl; have hcz44_3 : w42.cell? ⟨gb216, 3, none⟩ = some (.int .i64 ((rd_T33 l0 x9_1).f3)) := (blk_cell BK216.out 3).trans rfl; have hcz44_4 : w42.cell? ⟨gb216, 4, none⟩ = some (.int .i64 ((rd_T33 l0 x9_1).f4)) := (blk_cell BK216.out 4).trans rfl; have hcz44_5 : w42.cell? ⟨gb216, 5, none⟩ = some (.int .i64 ((rd_T33 l0 x9_1).f5)) := (blk_cell BK216.out 5).trans rfl; have hcz44_6 : w42.cell? ⟨gb216, 6, none⟩ = some (.int .i64 ((rd_T33 l0 x9_1).f6.f0)) := (blk_cell BK216.out 6).trans rfl; have hcz44_7 : w42.cell? ⟨gb216, 7, none⟩ = some (.int .i64 ((rd_T33 l0 x9_1).f6.f1)) := (blk_cell BK216.out 7).trans rfl; have hfz44_0 := blk_frozen BK216.out 0; have hfz44_1 := blk_frozen BK216.out 1; have hfz44_2 := blk_frozen BK216.out 2; have hfz44_3 := blk_frozen BK216.out 3; have hfz44_4 := blk_frozen BK216.out 4; have hfz44_5 := blk_frozen BK216.out 5; have hfz44_6 := blk_frozen BK216.out 6; have hfz44_7 := blk_frozen BK216.out 7) | (go_at_call 29; (with_reducible refine (history_ahead.calls ((rd_T33 y217 x33_3).f0) ((rd_T33 y217 x33_3).f1) ((rd_T33 y217 x33_3).f2) ((rd_T33 y217 x33_3).f3) ((rd_T33 y217 x33_3).f4) ((rd_T33 y217 x33_3).f5) ((rd_T33 y217 x33_3).f6.f0) ((rd_T33 y217 x33_3).f6.f1) ((rd_T33 l0 x9_1).f0) ((rd_T33 l0 x9_1).f1) ((rd_T33 l0 x9_1).f2) ((rd_T33 l0 x9_1).f3) ((rd_T33 l0 x9_1).f4) ((rd_T33 l0 x9_1).f5) ((rd_T33 l0 x9_1).f6.f0) ((rd_T33 l0 x9_1).f6.f1) false _ A28.out).mono ?_); rintro e w45 ⟨rfl, hb⟩; have n0_ := Aside0.mk (blk_below (g := gb216) (o := .cells #[.int .i64 ((rd_T33 l0 x9_1).f0), .int .i64 ((rd_T33 l0 x9_1).f1), .int .i64 ((rd_T33 l0 x9_1).f2), .int .i64 ((rd_T33 l0 x9_1).f3), .int .i64 ((rd_T33 l0 x9_1).f4), .int .i64 ((rd_T33 l0 x9_1).f5), .int .i64 ((rd_T33 l0 x9_1).f6.f0), .int .i64 ((rd_T33 l0 x9_1).f6.f1)] 33 (0, 0)) (by (with_reducible repeat (first | refine blk_drewN ?_ _ | refine blk_drew ?_ | refine blk_alloc ?_ _)); exact BK216.out) hb); have n1_ := Aside0.mk (blk_below (g := gb222) (o := .cells #[.int .i64 ((rd_T33 y217 x33_3).f0), .int .i64 ((rd_T33 y217 x33_3).f1), .int .i64 ((rd_T33 y217 x33_3).f2), .int .i64 ((rd_T33 y217 x33_3).f3), .int .i64 ((rd_T33 y217 x33_3).f4), .int .i64 ((rd_T33 y217 x33_3).f5), .int .i64 ((rd_T33 y217 x33_3).f6.f0), .int .i64 ((rd_T33 y217 x33_3).f6.f1)] 33 (0, 0)) (by (with_reducible repeat (first | refine blk_drewN ?_ _ | refine blk_drew ?_ | refine blk_alloc ?_ _)); exact BK222.out) hb); have n2_ := Aside0.mk (below_step (by repeat (first | (with_reducible first | exact HB.out | apply below_alloc | apply pw_below_drewN | apply below_drew1 | refine below_set ?_ GE216.out | refine below_set ?_ GE222.out) | exact HB.out)) hb); clear BK216; clear BK222; clear HB; have BK216 := n0_; have BK222 := n1_; have HB := n2_; clear n0_ n1_ n2_; (try clear hb); (try clear hb2); (try clear hk); (try clear hi)))
                   go_ret
                   exact ⟨by first | rfl | (simp [errW_none, errW_some] <;> rfl) | (simp [*, errW_none, errW_some] <;> rfl), by repeat (first | (with_reducible first | exact HB.out | apply below_alloc | apply pw_below_drewN | apply below_drew1 | refine below_set ?_ GE216.out | refine below_set ?_ GE222.out) | exact HB.out)⟩
                ·rw [if_neg c20] at H
                 have c20b0 : (((rd_T33 l0 x9_1).f0) == ((rd_T33 y217 x33_3).f0)) = false := beq_eq_false_iff_ne.mpr c20
                 have c20b1 : (((rd_T33 l0 x9_1).f0) != ((rd_T33 y217 x33_3).f0)) = true := bne_iff_ne.mpr c20
                 have H' := Aside0.mk H
                 clear H
                 have p221 : 0 ≤ (x33_3 : Int) := of_decide_eq_true (by first | (with_reducible assumption) | assumption)
                 have q221 : x33_3 < (y217.length : Int) := of_decide_eq_true (by first | (with_reducible assumption) | assumption)
                 obtain ⟨ad221, e221, hx221_0, hx221_1, hx221_2, hx221_3, hx221_4, hx221_5, hx221_6, hx221_7⟩ := at_T33 HR220.out x33_3 p221 q221
                 obtain rfl : ad215 = ad221 := (by injection e221)
                 replace hx221_0 := (HB.out.cell (World.block_lt_of_cell? w _ hx221_0)).trans hx221_0
                 replace hx221_1 := (HB.out.cell (World.block_lt_of_cell? w _ hx221_1)).trans hx221_1
                 replace hx221_2 := (HB.out.cell (World.block_lt_of_cell? w _ hx221_2)).trans hx221_2
                 replace hx221_3 := (HB.out.cell (World.block_lt_of_cell? w _ hx221_3)).trans hx221_3
                 replace hx221_4 := (HB.out.cell (World.block_lt_of_cell? w _ hx221_4)).trans hx221_4
                 replace hx221_5 := (HB.out.cell (World.block_lt_of_cell? w _ hx221_5)).trans hx221_5
                 replace hx221_6 := (HB.out.cell (World.block_lt_of_cell? w _ hx221_6)).trans hx221_6
                 replace hx221_7 := (HB.out.cell (World.block_lt_of_cell? w _ hx221_7)).trans hx221_7
                 replace p221 := eq_true p221
                 replace q221 := eq_true q221
                 go_wp2_with (first | ((with_reducible refine gate_dst (N := 6) rfl ?_); refine box_event ?hg (N := 6) ?hd (cs := #[.int .i64 0, .int .i64 0, .int .i64 0, .int .i64 0, .int .i64 0, .int .i64 0, .int .i64 0, .int .i64 0]) (t := 33) ?hr ?_; (case hd => rfl); (case hg => rfl); (case hr => first | (go_simp; done) | (go_simp; rfl)); intro gb222 hg w46 hbox hb; have n0_ := Aside0.mk (blk_below (g := gb216) (o := .cells #[.int .i64 ((rd_T33 l0 x9_1).f0), .int .i64 ((rd_T33 l0 x9_1).f1), .int .i64 ((rd_T33 l0 x9_1).f2), .int .i64 ((rd_T33 l0 x9_1).f3), .int .i64 ((rd_T33 l0 x9_1).f4), .int .i64 ((rd_T33 l0 x9_1).f5), .int .i64 ((rd_T33 l0 x9_1).f6.f0), .int .i64 ((rd_T33 l0 x9_1).f6.f1)] 33 (0, 0)) (by (with_reducible repeat (first | refine blk_drewN ?_ _ | refine blk_drew ?_ | refine blk_alloc ?_ _)); exact BK216.out) hb); have n1_ := Aside0.mk (below_step (by repeat (first | (with_reducible first | exact HB.out | apply below_alloc | apply pw_below_drewN | apply below_drew1 | refine below_set ?_ GE216.out) | exact HB.out)) hb); have n2_ := Aside0.mk (hbox); have n3_ := Aside0.mk ((by rw [hg]; exact (below_size (by repeat (first | (with_reducible first | exact HB.out | apply below_alloc | apply pw_below_drewN | apply below_drew1 | refine below_set ?_ GE216.out) | exact HB.out))) : w.heap.size ≤ gb222)); have n4_ := Aside0.mk ((by rw [hg]; exact (below_size (by repeat (first | (with_reducible first | exact HB.out | apply below_alloc | apply pw_below_drewN | apply below_drew1 | refine below_set ?_ GE216.out) | exact HB.out))) : w.heap.size ≤ gb222)); have n5_ := Aside0.mk ((by rw [hg]; exact Nat.ne_of_lt (blk_lt (g := gb216) (o := .cells #[.int .i64 ((rd_T33 l0 x9_1).f0), .int .i64 ((rd_T33 l0 x9_1).f1), .int .i64 ((rd_T33 l0 x9_1).f2), .int .i64 ((rd_T33 l0 x9_1).f3), .int .i64 ((rd_T33 l0 x9_1).f4), .int .i64 ((rd_T33 l0 x9_1).f5), .int .i64 ((rd_T33 l0 x9_1).f6.f0), .int .i64 ((rd_T33 l0 x9_1).f6.f1)] 33 (0, 0)) (by (with_reducible repeat (first | refine blk_drewN ?_ _ | refine blk_drew ?_ | refine blk_alloc ?_ _)); exact BK216.out)) : gb216 ≠ gb222)); have n6_ := Aside0.mk ((by rw [hg]; exact Nat.ne_of_gt (blk_lt (g := gb216) (o := .cells #[.int .i64 ((rd_T33 l0 x9_1).f0), .int .i64 ((rd_T33 l0 x9_1).f1), .int .i64 ((rd_T33 l0 x9_1).f2), .int .i64 ((rd_T33 l0 x9_1).f3), .int .i64 ((rd_T33 l0 x9_1).f4), .int .i64 ((rd_T33 l0 x9_1).f5), .int .i64 ((rd_T33 l0 x9_1).f6.f0), .int .i64 ((rd_T33 l0 x9_1).f6.f1)] 33 (0, 0)) (by (with_reducible repeat (first | refine blk_drewN ?_ _ | refine blk_drew ?_ | refine blk_alloc ?_ _)); exact BK216.out)) : gb222 ≠ gb216)); clear BK216; clear HB; have BK216 := n0_; have HB := n1_; have BK222 := n2_; have GW222 := n3_; have GE222 := n4_; have NB216_222 := n5_; have NB222_216 := n6_; clear n0_ n1_ n2_ n3_ n4_ n5_ n6_; clear hb hbox hg; have hnb47 := NB222_216.out; have hnc47 := NB216_222.out; have hcz48_0 : w46.cell? ⟨gb222, 0, none⟩ = some (.int .i64 0) := (blk_cell BK222.out 0).trans rfl; have hcz48_1 : w46.cell? ⟨gb222, 1, none⟩ = some (.int .i64 0) := (blk_cell BK222.out 1).trans rfl; have hcz48_2 : w46.cell? ⟨gb222, 2, none⟩ = some (.int .i64 0) := (blk_cell BK222.out 2).trans rfl; have hcz48_3 : w46.cell? ⟨gb222, 3, none⟩ = some (.int .i64 0) := (blk_cell BK222.out 3).trans rfl; have hcz48_4 : w46.cell? ⟨gb222, 4, none⟩ = some (.int .i64 0) := (blk_cell BK222.out 4).trans rfl; have hcz48_5 : w46.cell? ⟨gb222, 5, none⟩ = some (.int .i64 0) := (blk_cell BK222.out 5).trans rfl; have hcz48_6 : w46.cell? ⟨gb222, 6, none⟩ = some (.int .i64 0) := (blk_cell BK222.out 6).trans rfl; have hcz48_7 : w46.cell? ⟨gb222, 7, none⟩ = some (.int .i64 0) := (blk_cell BK222.out 7).trans rfl; have hfz48_0 := blk_frozen BK222.out 0; have hfz48_1 := blk_frozen BK222.out 1; have hfz48_2 := blk_frozen BK222.out 2; have hfz48_3 := blk_frozen BK222.out 3; have hfz48_4 := blk_frozen BK222.out 4; have hfz48_5 := blk_frozen BK222.out 5; have hfz48_6 := blk_frozen BK222.out 6; have hfz48_7 := blk_frozen BK222.out 7; have hcz49_0 : w46.cell? ⟨gb216, 0, none⟩ = some (.int .i64 ((rd_T33 l0 x9_1).f0)) := (blk_cell BK216.out 0).trans rfl; have hcz49_1 : w46.cell? ⟨gb216, 1, none⟩ = some (.int .i64 ((rd_T33 l0 x9_1).f1)) := (blk_cell BK216.out 1).trans rfl; have hcz49_2 : w46.cell? ⟨gb216, 2, none⟩ = some (.int .i64 ((rd_T33 l0 x9_1).f2)) := (blk_cell BK216.out 2).trans rfl; have hcz49_3 : w46.cell? ⟨gb216, 3, none⟩ = some (.int .i64 ((rd_T33 l0 x9_1).f3)) := (blk_cell BK216.out 3).trans rfl; have hcz49_4 : w46.cell? ⟨gb216, 4, none⟩ = some (.int .i64 ((rd_T33 l0 x9_1).f4)) := (blk_cell BK216.out 4).trans rfl; have hcz49_5 : w46.cell? ⟨gb216, 5, none⟩ = some (.int .i64 ((rd_T33 l0 x9_1).f5)) := (blk_cell BK216.out 5).trans rfl; have hcz49_6 : w46.cell? ⟨gb216, 6, none⟩ = some (.int .i64 ((rd_T33 l0 x9_1).f6.f0)) := (blk_cell BK216.out 6).trans rfl; have hcz49_7 : w46.cell? ⟨gb216, 7, none⟩ = some (.int .i64 ((rd_T33 l0 x9_1).f6.f1)) := (blk_cell BK216.out 7).trans rfl; have hfz49_0 := blk_frozen BK216.out 0; have hfz49_1 := blk_frozen BK216.out 1; have hfz49_2 := blk_frozen BK216.out 2; have hfz49_3 := blk_frozen BK216.out 3; have hfz49_4 := blk_frozen BK216.out 4; have hfz49_5 := blk_frozen BK216.out 5; have hfz49_6 := blk_frozen BK216.out 6; have hfz49_7 := blk_frozen BK216.out 7))
                 go_roundg k3
                 case measure => have := HK1.out; have := HJ4.out; have := HK3.out; omega
                 case rel => exact ⟨(wrap64 (x33_3 + 1)), (by first | rfl | (simp; done) | (simp [*]; done)), H', ⟨by have := HK1.out; have := HJ4.out; have := HK3.out; omega⟩, ⟨by (with_reducible repeat (first | refine blk_drewN ?_ _ | refine blk_drew ?_ | refine blk_alloc ?_ _)); refine blk_far ?_ NB216_222.out _; (with_reducible repeat (first | refine blk_drewN ?_ _ | refine blk_drew ?_ | refine blk_alloc ?_ _)); refine blk_far ?_ NB216_222.out _; (with_reducible repeat (first | refine blk_drewN ?_ _ | refine blk_drew ?_ | refine blk_alloc ?_ _)); refine blk_far ?_ NB216_222.out _; (with_reducible repeat (first | refine blk_drewN ?_ _ | refine blk_drew ?_ | refine blk_alloc ?_ _)); refine blk_far ?_ NB216_222.out _; (with_reducible repeat (first | refine blk_drewN ?_ _ | refine blk_drew ?_ | refine blk_alloc ?_ _)); refine blk_far ?_ NB216_222.out _; (with_reducible repeat (first | refine blk_drewN ?_ _ | refine blk_drew ?_ | refine blk_alloc ?_ _)); refine blk_far ?_ NB216_222.out _; (with_reducible repeat (first | refine blk_drewN ?_ _ | refine blk_drew ?_ | refine blk_alloc ?_ _)); refine blk_far ?_ NB216_222.out _; (with_reducible repeat (first | refine blk_drewN ?_ _ | refine blk_drew ?_ | refine blk_alloc ?_ _)); refine blk_far ?_ NB216_222.out _; (with_reducible repeat (first | refine blk_drewN ?_ _ | refine blk_drew ?_ | refine blk_alloc ?_ _)); exact BK216.out⟩, ⟨by repeat (first | (with_reducible first | exact HB.out | apply below_alloc | apply pw_below_drewN | apply below_drew1 | refine below_set ?_ GE216.out | refine below_set ?_ GE222.out) | exact HB.out)⟩⟩
               ·rw [if_neg c19] at H
                exact absurd H (by simp)
              ·rw [if_neg c18] at H
               exact absurd H (by simp)
             ·rw [if_neg c17] at H
              have c17b0 : decide (x33_3 < (y217.length : Int)) = false := decide_eq_false c17
              clear c17
              have H' := Aside0.mk H
              clear H
              go_wp2
              go_roundg k3
              case measure => have := HK1.out; have := HJ4.out; have := HK3.out; omega
              case rel => exact ⟨(wrap64 (x9_1 + 1)), (by first | rfl | (simp; done) | (simp [*]; done)), H', ⟨by have := HK1.out; have := HJ4.out; have := HK3.out; omega⟩, ⟨by repeat (first | (with_reducible first | exact HB.out | apply below_alloc | apply pw_below_drewN | apply below_drew1 | refine below_set ?_ GE216.out) | exact HB.out)⟩⟩
          ·rw [if_neg c15] at H
           exact absurd H (by simp)
         ·rw [if_neg c14] at H
          exact absurd H (by simp)
     ·rw [if_neg c4] at H
      exact absurd H (by simp)
    ·rw [if_neg c3] at H
     exact absurd H (by simp)
   ·rw [if_neg c2] at H
    have c2b0 : decide (x9_1 < (l0.length : Int)) = false := decide_eq_false c2
    clear c2
    obtain rfl := Option.some.inj H
    go_wp2
    go_ret
    exact ⟨by first | rfl | (simp [errW_none, errW_some] <;> rfl) | (simp [*, errW_none, errW_some] <;> rfl), by repeat (first | (with_reducible first | exact HB.out | apply below_alloc | apply pw_below_drewN | apply below_drew1) | exact HB.out)⟩

/-! ### butlerlaw03_call: function 23 -/
def butlerlaw03_call.f (a0 : Int) (a1 : Int) (a2 : Int) (a3 : Int) (a4 : Int) (a5 : Int) : Option (Int × Int × Int × Int × Int × Int × Int × Int) := some (a0, a1, a2, 0, a3, a4, 0, a5)
set_option maxHeartbeats 8000000 in
set_option maxRecDepth 100000 in
theorem butlerlaw03_call.calls (a0 : Int) (a1 : Int) (a2 : Int) (a3 : Int) (a4 : Int) (a5 : Int) (r1 : Int) (r2 : Int) (r3 : Int) (r4 : Int) (r5 : Int) (r6 : Int) (r7 : Int) (r8 : Int) (w : World) (h : butlerlaw03_call.f a0 a1 a2 a3 a4 a5 = some (r1, r2, r3, r4, r5, r6, r7, r8)) :
  Calls Tryd.prog 23 #[.int .i64 a0, .int .i64 a1, .int .i64 a2, .int .i64 a3, .int .i64 a4, .int .i64 a5] w fun e w' => e = .returned (.agg #[.int .i64 r1, .int .i64 r2, .int .i64 r3, .int .i64 r4, .int .i64 r5, .int .i64 r6, .int .i64 r7, .int .i64 r8]) ∧ Below w.heap.size w w' := by
 have hu33 := Tryd.underlying33
 have hu31 := Tryd.underlying31
 have HB := Aside0.mk (Below.refl w.heap.size w)
 have H : (some (a0, a1, a2, 0, a3, a4, 0, a5)) = some (r1, r2, r3, r4, r5, r6, r7, r8) := h
 clear h
 simp only [Option.some.injEq, Prod.mk.injEq] at H
 obtain ⟨rfl, rfl, rfl, rfl, rfl, rfl, rfl, rfl⟩ := H
 go_enter Tryd.func23, Tryd.ntmps23
 go_wp2_with (first | ((with_reducible refine gate_dst (N := 12) rfl ?_); refine box_event ?hg (N := 12) ?hd (cs := #[.int .i64 0, .int .i64 0, .int .i64 0, .int .i64 0, .int .i64 0, .int .i64 0, .int .i64 0, .int .i64 0]) (t := 33) ?hr ?_; (case hd => rfl); (case hg => rfl); (case hr => first | (go_simp; done) | (go_simp; rfl)); intro gb232 hg w7 hbox hb; have n0_ := Aside0.mk (below_step (by repeat (first | (with_reducible first | exact HB.out | apply below_alloc | apply pw_below_drewN | apply below_drew1) | exact HB.out)) hb); have n1_ := Aside0.mk (hbox); have n2_ := Aside0.mk ((by rw [hg]; exact (below_size (by repeat (first | (with_reducible first | exact HB.out | apply below_alloc | apply pw_below_drewN | apply below_drew1) | exact HB.out))) : w.heap.size ≤ gb232)); have n3_ := Aside0.mk ((by rw [hg]; exact (below_size (by repeat (first | (with_reducible first | exact HB.out | apply below_alloc | apply pw_below_drewN | apply below_drew1) | exact HB.out))) : w.heap.size ≤ gb232)); clear HB; have HB := n0_; have BK232 := n1_; have GW232 := n2_; have GE232 := n3_; clear n0_ n1_ n2_ n3_; clear hb hbox hg; have hcz8_0 : w7.cell? ⟨gb232, 0, none⟩ = some (.int .i64 0) := (blk_cell BK232.out 0).trans rfl; have hcz8_1 : w7.cell? ⟨gb232, 1, none⟩ = some (.int .i64 0) := (blk_cell BK232.out 1).trans rfl; have hcz8_2 : w7.cell? ⟨gb232, 2, none⟩ = some (.int .i64 0) := (blk_cell BK232.out 2).trans rfl; have hcz8_3 : w7.cell? ⟨gb232, 3, none⟩ = some (.int .i64 0) := (blk_cell BK232.out 3).trans rfl; have hcz8_4 : w7.cell? ⟨gb232, 4, none⟩ = some (.int .i64 0) := (blk_cell BK232.out 4).trans rfl; have hcz8_5 : w7.cell? ⟨gb232, 5, none⟩ = some (.int .i64 0) := (blk_cell BK232.out 5).trans rfl; have hcz8_6 : w7.cell? ⟨gb232, 6, none⟩ = some (.int .i64 0) := (blk_cell BK232.out 6).trans rfl; have hcz8_7 : w7.cell? ⟨gb232, 7, none⟩ = some (.int .i64 0) := (blk_cell BK232.out 7).trans rfl; have hfz8_0 := blk_frozen BK232.out 0; have hfz8_1 := blk_frozen BK232.out 1; have hfz8_2 := blk_frozen BK232.out 2; have hfz8_3 := blk_frozen BK232.out 3; have hfz8_4 := blk_frozen BK232.out 4; have hfz8_5 := blk_frozen BK232.out 5; have hfz8_6 := blk_frozen BK232.out 6; have hfz8_7 := blk_frozen BK232.out 7))
 refine bodyPost_ret (results_cell_row rfl _ _ gb232 33 #[.int .i64 a0, .int .i64 a1, .int .i64 a2, .int .i64 0, .int .i64 a3, .int .i64 a4, .int .i64 0, .int .i64 a5] (0, 0) _ rfl (by (with_reducible repeat (first | refine blk_drewN ?_ _ | refine blk_drew ?_ | refine blk_alloc ?_ _)); refine blk_put (cs := #[.int .i64 a0, .int .i64 a1, .int .i64 a2, .int .i64 0, .int .i64 a3, .int .i64 a4, .int .i64 0, .int .i64 0]) ?_ 7 _ rfl; (with_reducible repeat (first | refine blk_drewN ?_ _ | refine blk_drew ?_ | refine blk_alloc ?_ _)); refine blk_put (cs := #[.int .i64 a0, .int .i64 a1, .int .i64 a2, .int .i64 0, .int .i64 a3, .int .i64 a4, .int .i64 0, .int .i64 0]) ?_ 6 _ rfl; (with_reducible repeat (first | refine blk_drewN ?_ _ | refine blk_drew ?_ | refine blk_alloc ?_ _)); refine blk_put (cs := #[.int .i64 a0, .int .i64 a1, .int .i64 a2, .int .i64 0, .int .i64 a3, .int .i64 0, .int .i64 0, .int .i64 0]) ?_ 5 _ rfl; (with_reducible repeat (first | refine blk_drewN ?_ _ | refine blk_drew ?_ | refine blk_alloc ?_ _)); refine blk_put (cs := #[.int .i64 a0, .int .i64 a1, .int .i64 a2, .int .i64 0, .int .i64 0, .int .i64 0, .int .i64 0, .int .i64 0]) ?_ 4 _ rfl; (with_reducible repeat (first | refine blk_drewN ?_ _ | refine blk_drew ?_ | refine blk_alloc ?_ _)); refine blk_put (cs := #[.int .i64 a0, .int .i64 a1, .int .i64 a2, .int .i64 0, .int .i64 0, .int .i64 0, .int .i64 0, .int .i64 0]) ?_ 3 _ rfl; (with_reducible repeat (first | refine blk_drewN ?_ _ | refine blk_drew ?_ | refine blk_alloc ?_ _)); refine blk_put (cs := #[.int .i64 a0, .int .i64 a1, .int .i64 0, .int .i64 0, .int .i64 0, .int .i64 0, .int .i64 0, .int .i64 0]) ?_ 2 _ rfl; (with_reducible repeat (first | refine blk_drewN ?_ _ | refine blk_drew ?_ | refine blk_alloc ?_ _)); refine blk_put (cs := #[.int .i64 a0, .int .i64 0, .int .i64 0, .int .i64 0, .int .i64 0, .int .i64 0, .int .i64 0, .int .i64 0]) ?_ 1 _ rfl; (with_reducible repeat (first | refine blk_drewN ?_ _ | refine blk_drew ?_ | refine blk_alloc ?_ _)); refine blk_put (cs := #[.int .i64 0, .int .i64 0, .int .i64 0, .int .i64 0, .int .i64 0, .int .i64 0, .int .i64 0, .int .i64 0]) ?_ 0 _ rfl; (with_reducible repeat (first | refine blk_drewN ?_ _ | refine blk_drew ?_ | refine blk_alloc ?_ _)); exact BK232.out) Tryd.underlying33 rfl (by kernel_rfl)) rfl ?_
 exact ⟨by first | rfl | (simp [errW_none, errW_some] <;> rfl) | (simp [*, errW_none, errW_some] <;> rfl), by repeat (first | (with_reducible first | exact HB.out | apply below_alloc | apply pw_below_drewN | apply below_drew1 | refine below_set ?_ GE232.out) | exact HB.out)⟩

end
end Go.Proofs.YtakhipedjccpkaaDoor.PH
