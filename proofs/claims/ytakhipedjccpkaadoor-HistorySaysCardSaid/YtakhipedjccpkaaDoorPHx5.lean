import Derived.Test.YtakhipedjccpkaaDoorPHx0
import Derived.Test.YtakhipedjccpkaaDoorPHx3
namespace Go.Proofs.YtakhipedjccpkaaDoor.PH
open Go.RowKit Go.Proofs.YtakhipedjccpkaaDoorW.PrintWords Go.Proofs.YtakhipedjccpkaaDoorW.PrintLast Go.Proofs.YtakhipedjccpkaaDoorW.PrintMore
noncomputable section
attribute [local go_sem] max2_int min2_int max_two min_two max_three min_three max_four min_four   -- for this text's walks alone
set_option linter.unusedVariables false
set_option linter.unusedSimpArgs false

/-! ### history_counter: function 40 -/
def history_counter.f (l0 : List Int) (a1_0 : Int) (a1_1 : Int) (a1_2 : Int) (a1_3 : Int) (a1_4 : Int) (a1_5 : Int) (a1_6 : Int) (a1_7 : Int) : Option ((List (S79))) := if a1_1 = 1 then (if 0 < (l0.length : Int) then ((history_told.f 0 0 (([wrap64 ((rd l0 0) + (Int.tmod a1_2 1000))] : List Int))).bind fun t161 => (some t161)) else (none)) else (if a1_1 = 2 then (if 0 < (l0.length : Int) then ((history_told.f 0 (rd l0 0) (([rd l0 0] : List Int))).bind fun t169 => (some t169)) else (none)) else (some ([] : List (S79))))
def history_counter.T3 : Bool × List (List Nat × List Nat) := (true, [([], []), ([0], [0]), ([1], [1]), ([], []), ([3], [3]), ([4], [4]), ([2, 5], [2, 5]), ([6], [6]), ([7], [7]), ([8, 8, 0, 1, 2, 3, 4, 5, 6, 7, 8], [8])])
def history_counter.B3 : List Nat := [0, 1, 3, 0, 8, 24, 63, 127, 255, 511]
theorem history_counter.tab3 : rtab .any (opsOf Tryd.f40 3) = history_counter.T3 := by kernel_rfl
theorem history_counter.bits3 : waitsOk history_counter.T3.2 history_counter.B3 = true := by kernel_rfl
def history_counter.T5 : Bool × List (List Nat × List Nat) := (true, [([], []), ([0], [0]), ([1], [1]), ([], []), ([3], [3]), ([4], [4]), ([5], [5]), ([2, 6], [2, 6]), ([7, 7, 0, 1, 2, 3, 4, 5, 6, 7], [7])])
def history_counter.B5 : List Nat := [0, 1, 3, 0, 8, 24, 56, 127, 255]
theorem history_counter.tab5 : rtab .any (opsOf Tryd.f40 5) = history_counter.T5 := by kernel_rfl
theorem history_counter.bits5 : waitsOk history_counter.T5.2 history_counter.B5 = true := by kernel_rfl
set_option maxHeartbeats 8000000 in
set_option maxRecDepth 100000 in
theorem history_counter.calls (A0 : Option Addr) (c0 : Nat) (l0 : List Int) (a1_0 : Int) (a1_1 : Int) (a1_2 : Int) (a1_3 : Int) (a1_4 : Int) (a1_5 : Int) (a1_6 : Int) (a1_7 : Int) (r : List (S79)) (w : World) (hr0 : Kd.C (Kd.int .i64) w A0 l0.length l0) (hc0 : l0.length ≤ c0) (h : history_counter.f l0 a1_0 a1_1 a1_2 a1_3 a1_4 a1_5 a1_6 a1_7 = some r) :
  Calls Tryd.prog 40 #[.slice A0 l0.length c0, .agg #[.int .i64 a1_0, .int .i64 a1_1, .int .i64 a1_2, .int .i64 a1_3, .int .i64 a1_4, .int .i64 a1_5, .int .i64 a1_6, .int .i64 a1_7]] w fun e w' => ∃ v0_ : Value, e = .returned (v0_) ∧ Kd.N k79 79 w' w.heap.size (fun k_ => (w.heap.size ≤ k_)) v0_ r ∧ Below w.heap.size w w' := by
 have hu33 := Tryd.underlying33
 have HR0 := Aside0.mk hr0
 have HC0 := Aside0.mk hc0
 clear hr0 hc0
 have HB := Aside0.mk (Below.refl w.heap.size w)
 have H : (if a1_1 = 1 then (if 0 < (l0.length : Int) then ((history_told.f 0 0 (([wrap64 ((rd l0 0) + (Int.tmod a1_2 1000))] : List Int))).bind fun t161 => (some t161)) else (none)) else (if a1_1 = 2 then (if 0 < (l0.length : Int) then ((history_told.f 0 (rd l0 0) (([rd l0 0] : List Int))).bind fun t169 => (some t169)) else (none)) else (some ([] : List (S79))))) = some r := h
 clear h
 by_cases c3 : a1_1 = 1
 ·rw [if_pos c3] at H
  have c3b0 : (a1_1 == 1) = true := beq_iff_eq.mpr c3
  have c3b1 : (a1_1 != 1) = false := bne_eq_false_iff_eq.mpr c3
  clear c3
  by_cases c4 : 0 < (l0.length : Int)
  ·rw [if_pos c4] at H
   have c4b0 : decide (0 < (l0.length : Int)) = true := decide_eq_true c4
   have c4b1 : decide (0 < l0.length) = true := decide_eq_true (by omega)
   clear c4
   obtain ⟨y158, hy158⟩ : ∃ y_ : List Int, y_ = (([wrap64 ((rd l0 0) + (Int.tmod a1_2 1000))] : List Int)) := ⟨_, rfl⟩
   replace H : ((history_told.f 0 0 y158).bind fun t161 => (some t161)) = some r := by first | (rw [hy158]; with_reducible exact H) | (have H2_ := (Option.bind_some _ _).symm.trans H; rw [hy158]; with_reducible exact H2_) | (have H2_ := (Option.bind_some _ _).symm.trans H; with_reducible exact H2_) | with_reducible exact H | (rw [hy158]; exact H) | exact H
   have Ny158 := Aside0.mk hy158
   clear hy158
   replace H := Option.bind_eq_some_iff.mp H
   obtain ⟨t161, A50, H⟩ := H
   replace H : (some t161) = some r := H
   have A5 := Aside0.mk A50
   clear A50
   obtain rfl := Option.some.inj H
   go_enter Tryd.func40, Tryd.ntmps40
   try go_wp2_with (first | ((with_reducible refine gate_dst (N := 3) rfl ?_); refine box_event ?hg (N := 3) ?hd (cs := #[.int .i64 a1_0, .int .i64 a1_1, .int .i64 a1_2, .int .i64 a1_3, .int .i64 a1_4, .int .i64 a1_5, .int .i64 a1_6, .int .i64 a1_7]) (t := 33) ?hr ?_; (case hd => rfl); (case hg => rfl); (case hr => first | (go_simp; done) | (go_simp; rfl)); intro gb156 hg w6 hbox hb; have n0_ := Aside0.mk (below_step (by repeat (first | (with_reducible first | exact HB.out | apply below_alloc | apply pw_below_drewN | apply below_drew1) | exact HB.out)) hb); have n1_ := Aside0.mk (hbox); have n2_ := Aside0.mk ((by rw [hg]; exact (below_size (by repeat (first | (with_reducible first | exact HB.out | apply below_alloc | apply pw_below_drewN | apply below_drew1) | exact HB.out))) : w.heap.size ≤ gb156)); have n3_ := Aside0.mk ((by rw [hg]; exact (below_size (by repeat (first | (with_reducible first | exact HB.out | apply below_alloc | apply pw_below_drewN | apply below_drew1) | exact HB.out))) : w.heap.size ≤ gb156)); clear HB; have HB := n0_; have BK156 := n1_; have GW156 := n2_; have GE156 := n3_; clear n0_ n1_ n2_ n3_; clear hb hbox hg; have hcz7_0 : w6.cell? ⟨gb156, 0, none⟩ = some (.int .i64 a1_0) := (blk_cell BK156.out 0).trans rfl; have hcz7_1 : w6.cell? ⟨gb156, 1, none⟩ = some (.int .i64 a1_1) := (blk_cell BK156.out 1).trans rfl; have hcz7_2 : w6.cell? ⟨gb156, 2, none⟩ = some (.int .i64 a1_2) := (blk_cell BK156.out 2).trans rfl; have hcz7_3 : w6.cell? ⟨gb156, 3, none⟩ = some (.int .i64 a1_3) := (blk_cell BK156.out 3).trans rfl; have hcz7_4 : w6.cell? ⟨gb156, 4, none⟩ = some (.int .i64 a1_4) := (blk_cell BK156.out 4).trans rfl; have hcz7_5 : w6.cell? ⟨gb156, 5, none⟩ = some (.int .i64 a1_5) := (blk_cell BK156.out 5).trans rfl; have hcz7_6 : w6.cell? ⟨gb156, 6, none⟩ = some (.int .i64 a1_6) := (blk_cell BK156.out 6).trans rfl; have hcz7_7 : w6.cell? ⟨gb156, 7, none⟩ = some (.int .i64 a1_7) := (blk_cell BK156.out 7).trans rfl; have hfz7_0 := blk_frozen BK156.out 0; have hfz7_1 := blk_frozen BK156.out 1; have hfz7_2 := blk_frozen BK156.out 2; have hfz7_3 := blk_frozen BK156.out 3; have hfz7_4 := blk_frozen BK156.out 4; have hfz7_5 := blk_frozen BK156.out 5; have hfz7_6 := blk_frozen BK156.out 6; have hfz7_7 := blk_frozen BK156.out 7))
   have n0_ := Aside0.mk (blk_drew BK156.out)
   have n1_ := Aside0.mk (below_drew1 HB.out)
   clear BK156
   clear HB
   have BK156 := n0_
   have HB := n1_
   clear n0_ n1_
   have p157 : 0 ≤ (0 : Int) := (by omega)
   have q157 : 0 < (l0.length : Int) := of_decide_eq_true (by first | (with_reducible assumption) | assumption)
   obtain ⟨ad157, e157, hx157_0⟩ := Kd.at_int HR0.out 0 p157 q157
   have hw157_0 := hx157_0
   (try rw [show ((0 : Int)).toNat = 0 from rfl] at hw157_0)
   (try rw [show 0 * 1 = 0 from rfl] at hw157_0)
   (try rw [Addr.add_zero'] at hw157_0)
   cases e157
   have qi157 : (0 < l0.length) = True := eq_true (by omega)
   (try rw [show ((0 : Int)).toNat = 0 from rfl] at hx157_0)
   (try rw [Addr.add_zero'] at hx157_0)
   replace hx157_0 := (HB.out.cell (World.block_lt_of_cell? w _ hx157_0)).trans hx157_0
   replace p157 := eq_true p157
   replace q157 := eq_true q157
   refine start_ (n := 10) (S := fun w' => w'.cell? ⟨gb156, 0, none⟩ = some (.int .i64 a1_0) ∧ w'.cell? ⟨gb156, 1, none⟩ = some (.int .i64 a1_1) ∧ w'.cell? ⟨gb156, 2, none⟩ = some (.int .i64 a1_2) ∧ w'.cell? ⟨gb156, 3, none⟩ = some (.int .i64 a1_3) ∧ w'.cell? ⟨gb156, 4, none⟩ = some (.int .i64 a1_4) ∧ w'.cell? ⟨gb156, 5, none⟩ = some (.int .i64 a1_5) ∧ w'.cell? ⟨gb156, 6, none⟩ = some (.int .i64 a1_6) ∧ w'.cell? ⟨gb156, 7, none⟩ = some (.int .i64 a1_7) ∧ w'.cell? ad157 = some (.int .i64 (rd l0 0))) (ds := []) #[false, false, false, false, false, false, false, false, false, false] (by kernel_rfl) rfl rfl ⟨(blk_cell BK156.out 0).trans rfl, (blk_cell BK156.out 1).trans rfl, (blk_cell BK156.out 2).trans rfl, (blk_cell BK156.out 3).trans rfl, (blk_cell BK156.out 4).trans rfl, (blk_cell BK156.out 5).trans rfl, (blk_cell BK156.out 6).trans rfl, (blk_cell BK156.out 7).trans rfl, ((HB.out.cell (World.block_lt_of_cell? w _ hw157_0)).trans hw157_0)⟩ (fun hHeld => ?_); refine with_tabW history_counter.tab3 history_counter.bits3 (fun HT_ HW_ => ?_)
   generalize w6.drew = w8 at BK156 HB hx157_0 hHeld ⊢
   refine pure_ (i := 0) (N := some 9) (v := ?_) (a' := ?_) #[true, false, false, false, false, false, false, false, false, false] rfl rfl (any_of HT_.out (by kernel_rfl)) (fun _ _ _ h => h) (Or.inl ⟨by rfl, ?_⟩) ?_ ?_
   rotate_left
   ·intro w'
    go_simp
    with_reducible rfl
   rotate_left
   ·simp only [Act.put, List.setIfInBounds_toArray, List.set_cons_zero, List.set_cons_succ, i64_w, i32_w]
    rfl
   refine pure_ (i := 1) (N := some 10) (v := ?_) (a' := ?_) #[true, true, false, false, false, false, false, false, false, false] rfl rfl (any_of HT_.out (by kernel_rfl)) (fun _ _ _ h => h) (Or.inl ⟨by rfl, ?_⟩) ?_ ?_
   rotate_left
   ·intro w'
    go_simp
    with_reducible rfl
   rotate_left
   ·simp only [Act.put, List.setIfInBounds_toArray, List.set_cons_zero, List.set_cons_succ, i64_w, i32_w]
    rfl
   refine pure_ (i := 3) (N := some 12) (v := ?_) (a' := ?_) #[true, true, false, true, false, false, false, false, false, false] rfl rfl (any_of HT_.out (by kernel_rfl)) (fun _ _ _ h => h) (Or.inl ⟨by rfl, ?_⟩) ?_ ?_
   rotate_left
   ·intro w'
    go_simp
    with_reducible rfl
   rotate_left
   ·simp only [Act.put, List.setIfInBounds_toArray, List.set_cons_zero, List.set_cons_succ, i64_w, i32_w]
    rfl
   refine take_ (i := 2) (N := some 11) (v := ?_) (a' := ?_) #[true, true, true, true, false, false, false, false, false, false] rfl rfl (take_ofW HT_.out HW_.out (by kernel_rfl)) (fun _ _ _ h => h) (Or.inl ⟨by rfl, ?_⟩) hHeld ?_ ?_
   rotate_left
   ·rintro w' ⟨s0, s1, s2, s3, s4, s5, s6, s7, s8⟩
    go_simp
    with_reducible rfl
   rotate_left
   ·simp only [Act.put, List.setIfInBounds_toArray, List.set_cons_zero, List.set_cons_succ, i64_w, i32_w]
    rfl
   refine take_ (i := 4) (N := some 13) (v := ?_) (a' := ?_) #[true, true, true, true, true, false, false, false, false, false] rfl rfl (take_ofW HT_.out HW_.out (by kernel_rfl)) (fun _ _ _ h => h) (Or.inl ⟨by rfl, ?_⟩) hHeld ?_ ?_
   rotate_left
   ·rintro w' ⟨s0, s1, s2, s3, s4, s5, s6, s7, s8⟩
    go_simp
    with_reducible rfl
   rotate_left
   ·simp only [Act.put, List.setIfInBounds_toArray, List.set_cons_zero, List.set_cons_succ, i64_w, i32_w]
    rfl
   refine pure_ (i := 5) (N := some 14) (v := ?_) (a' := ?_) #[true, true, true, true, true, true, false, false, false, false] rfl rfl (any_of HT_.out (by kernel_rfl)) (fun _ _ _ h => h) (Or.inl ⟨by rfl, ?_⟩) ?_ ?_
   rotate_left
   ·intro w'
    go_simp
    with_reducible rfl
   rotate_left
   ·simp only [Act.put, List.setIfInBounds_toArray, List.set_cons_zero, List.set_cons_succ, i64_w, i32_w]
    rfl
   refine pure_ (i := 6) (N := some 15) (v := ?_) (a' := ?_) #[true, true, true, true, true, true, true, false, false, false] rfl rfl (any_of HT_.out (by kernel_rfl)) (fun _ _ _ h => h) (Or.inl ⟨by rfl, ?_⟩) ?_ ?_
   rotate_left
   ·intro w'
    go_simp
    with_reducible rfl
   rotate_left
   ·simp only [Act.put, List.setIfInBounds_toArray, List.set_cons_zero, List.set_cons_succ, i64_w, i32_w]
    rfl
   refine one_ (i := 7) (N := some 16) #[true, true, true, true, true, true, true, true, false, false] rfl rfl (one_of HT_.out (by kernel_rfl)) (by decide) (fun K hK => ?_)
   refine Kd.R_lit_step (Kd.int .i64) _ 3 ?hg (N := 16) ?hd (xs := ([wrap64 ((rd l0 0) + (Int.tmod a1_2 1000))] : List Int)) (inner := [.int .i64 (wrap64 ((rd l0 0) + (Int.tmod a1_2 1000)))]) (ok := fun _ => True) (okp := fun _ => True) ?hr ?hp (fun _ hk => hk) trivial (Below.refl _ _) (Nat.le_refl _) (by simp) ?_; (case hd => rfl); (case hg => rfl); (case hr => first | (go_simp; done) | (go_simp; rfl)); (case hp => exact (Reps.one (show Kd.M (Kd.int .i64) _ _ _ (wrap64 ((rd l0 0) + (Int.tmod a1_2 1000))) [.int .i64 (wrap64 ((rd l0 0) + (Int.tmod a1_2 1000)))] from rfl) (Reps.none _ _)))
   intro v159 w9 ho10 hb hg_ hnew_
   clear hg_ hnew_
   (first | rw [← Ny158.out] at ho10 | (simp only [Int.reduceToNat] at ho10; rw [← Ny158.out] at ho10))
   have n0_ := Aside0.mk (Kd.R_lower (Kd.R_newM (M := fun k_ => (w.heap.size ≤ k_)) ho10 (below_size (by repeat (first | (with_reducible first | exact HB.out | apply below_alloc | apply pw_below_drewN | apply below_drew1 | refine below_set ?_ GE156.out) | exact HB.out))) (fun k_ h_ => h_)) (below_size (by repeat (first | (with_reducible first | exact HB.out | apply below_alloc | apply pw_below_drewN | apply below_drew1 | refine below_set ?_ GE156.out) | exact HB.out))))
   have n1_ := Aside0.mk (blk_below (g := gb156) (o := .cells #[.int .i64 a1_0, .int .i64 a1_1, .int .i64 a1_2, .int .i64 a1_3, .int .i64 a1_4, .int .i64 a1_5, .int .i64 a1_6, .int .i64 a1_7] 33 (0, 0)) (by (with_reducible repeat (first | refine blk_drewN ?_ _ | refine blk_drew ?_ | refine blk_alloc ?_ _)); exact BK156.out) hb)
   have n2_ := Aside0.mk (below_step (by repeat (first | (with_reducible first | exact HB.out | apply below_alloc | apply pw_below_drewN | apply below_drew1 | refine below_set ?_ GE156.out) | exact HB.out)) hb)
   clear BK156
   clear HB
   have HO160 := n0_
   have BK156 := n1_
   have HB := n2_
   clear n0_ n1_ n2_
   clear hb ho10
   obtain ⟨Ao11, co11, eo11⟩ := Kd.R_slice HO160.out
   (first | subst eo11 | (injection eo11 with f1_ f2_ f3_; have f4_ := f1_.symm; have f5_ := f3_.symm; clear f1_ f2_ f3_; subst f4_; subst f5_))
   refine hK.out _ _ ⟨(blk_cell BK156.out 0).trans rfl, (blk_cell BK156.out 1).trans rfl, (blk_cell BK156.out 2).trans rfl, (blk_cell BK156.out 3).trans rfl, (blk_cell BK156.out 4).trans rfl, (blk_cell BK156.out 5).trans rfl, (blk_cell BK156.out 6).trans rfl, (blk_cell BK156.out 7).trans rfl, ((HB.out.cell (World.block_lt_of_cell? w _ hw157_0)).trans hw157_0)⟩ (fun hHeld => ?_)
   clear hK K
   refine norm_ (a' := ?_) ?_ ?_
   rotate_left
   ·show Act.put _ (some 16) _ = _
    simp only [Act.put, List.setIfInBounds_toArray, List.set_cons_zero, List.set_cons_succ, i64_w, i32_w]
    rfl
   refine one_ (i := 8) (N := some 17) #[true, true, true, true, true, true, true, true, true, false] rfl rfl (one_of HT_.out (by kernel_rfl)) (by decide) (fun K hK => ?_)
   refine goes_ Tryd.func53 (by kernel_rfl) rfl #[.int .i64 0, .int .i64 0, .slice Ao11 y158.length co11] (by rfl) rfl rfl (by (try simp only [List.map_toArray, List.map_cons, List.map_nil]); first | done | rfl | (simp only [List.length_drop, List.length_take]; rfl)) ?_
   with_reducible refine (history_told.calls 0 0 (fun k_ => some k_ = (.slice Ao11 y158.length co11 : Value).ownBlock) _ _ y158 t161 _ ?side1 A5.out).mono ?_
   (case side1 => exact Kd.R_V (Kd.R_tight rfl (Kd.R_types (HO160.out) BK156.out (by decide))))
   rintro e w12 ⟨v162, rfl, ho0, hb⟩
   refine ⟨_, rfl, ?_⟩
   have n0_ := Aside0.mk (Kd.R_below (by (with_reducible repeat (first | apply Kd.R_alloc | apply Kd.R_drewN | apply Kd.R_drew)); exact HO160.out) hb)
   have n1_ := Aside0.mk (Kd.N_lower (Kd.N_mono (ok' := fun k_ => (w.heap.size ≤ k_) ∧ k_ ≠ gb156) ho0 (fun k_ hk_ => ⟨Or.elim hk_ (fun hs_ => ((Kd.R_types (HO160.out) BK156.out (by decide)).1 k_ hs_.symm).1.1) (fun hn_ => (Nat.le_trans (below_size (by repeat (first | (with_reducible first | exact HB.out | apply below_alloc | apply pw_below_drewN | apply below_drew1 | refine below_set ?_ GE156.out) | exact HB.out))) hn_)), Or.elim hk_ (fun hs_ => ((Kd.R_types (HO160.out) BK156.out (by decide)).1 k_ hs_.symm).2) (fun hn_ => (Kd.freshB (g := gb156) (o := .cells #[.int .i64 a1_0, .int .i64 a1_1, .int .i64 a1_2, .int .i64 a1_3, .int .i64 a1_4, .int .i64 a1_5, .int .i64 a1_6, .int .i64 a1_7] 33 (0, 0)) (by (with_reducible repeat (first | refine blk_drewN ?_ _ | refine blk_drew ?_ | refine blk_alloc ?_ _)); exact BK156.out) k_ hn_))⟩)) (below_size (by repeat (first | (with_reducible first | exact HB.out | apply below_alloc | apply pw_below_drewN | apply below_drew1 | refine below_set ?_ GE156.out) | exact HB.out))))
   have n2_ := Aside0.mk (blk_below (g := gb156) (o := .cells #[.int .i64 a1_0, .int .i64 a1_1, .int .i64 a1_2, .int .i64 a1_3, .int .i64 a1_4, .int .i64 a1_5, .int .i64 a1_6, .int .i64 a1_7] 33 (0, 0)) (by (with_reducible repeat (first | refine blk_drewN ?_ _ | refine blk_drew ?_ | refine blk_alloc ?_ _)); exact BK156.out) hb)
   have n3_ := Aside0.mk (below_step (by repeat (first | (with_reducible first | exact HB.out | apply below_alloc | apply pw_below_drewN | apply below_drew1 | refine below_set ?_ GE156.out) | exact HB.out)) hb)
   clear HO160
   clear BK156
   clear HB
   have HO160 := n0_
   have HO163 := n1_
   have BK156 := n2_
   have HB := n3_
   clear n0_ n1_ n2_ n3_
   (try clear hb)
   (try clear hb2)
   (try clear hk)
   (try clear hi)
   (try clear ho0)
   refine hK.out _ _ ⟨(blk_cell BK156.out 0).trans rfl, (blk_cell BK156.out 1).trans rfl, (blk_cell BK156.out 2).trans rfl, (blk_cell BK156.out 3).trans rfl, (blk_cell BK156.out 4).trans rfl, (blk_cell BK156.out 5).trans rfl, (blk_cell BK156.out 6).trans rfl, (blk_cell BK156.out 7).trans rfl, ((HB.out.cell (World.block_lt_of_cell? w _ hw157_0)).trans hw157_0)⟩ (fun hHeld => ?_)
   clear hK K
   refine norm_ (a' := ?_) ?_ ?_
   rotate_left
   ·show Act.put _ (some 17) _ = _
    simp only [Act.put, List.setIfInBounds_toArray, List.set_cons_zero, List.set_cons_succ, i64_w, i32_w]
    rfl
   refine pure_ (i := 9) (N := some 4) (v := ?_) (a' := ?_) #[true, true, true, true, true, true, true, true, true, true] rfl rfl (any_of HT_.out (by kernel_rfl)) (fun _ _ _ h => h) (Or.inl ⟨by rfl, ?_⟩) ?_ ?_
   rotate_left
   ·intro w'
    go_simp
    with_reducible rfl
   rotate_left
   ·simp only [Act.put, List.setIfInBounds_toArray, List.set_cons_zero, List.set_cons_succ, i64_w, i32_w]
    rfl
   refine done_ (done_of HT_.out (by kernel_rfl)) ?_
   try go_wp2
   go_ret
   exact ⟨_, by first | rfl | (simp [errW_none, errW_some] <;> rfl) | (simp [*, errW_none, errW_some] <;> rfl), by (with_reducible repeat (first | apply Kd.N_alloc | apply Kd.N_drewN | apply Kd.N_drew)); exact Kd.N_mono HO163.out (fun _ hk => hk.1), by repeat (first | (with_reducible first | exact HB.out | apply below_alloc | apply pw_below_drewN | apply below_drew1 | refine below_set ?_ GE156.out) | exact HB.out)⟩
  ·rw [if_neg c4] at H
   exact absurd H (by simp)
 ·rw [if_neg c3] at H
  have c3b0 : (a1_1 == 1) = false := beq_eq_false_iff_ne.mpr c3
  have c3b1 : (a1_1 != 1) = true := bne_iff_ne.mpr c3
  by_cases c13 : a1_1 = 2
  ·rw [if_pos c13] at H
   have c13b0 : (a1_1 == 2) = true := beq_iff_eq.mpr c13
   have c13b1 : (a1_1 != 2) = false := bne_eq_false_iff_eq.mpr c13
   clear c13
   by_cases c14 : 0 < (l0.length : Int)
   ·rw [if_pos c14] at H
    have c14b0 : decide (0 < (l0.length : Int)) = true := decide_eq_true c14
    have c14b1 : decide (0 < l0.length) = true := decide_eq_true (by omega)
    clear c14
    obtain ⟨y166, hy166⟩ : ∃ y_ : List Int, y_ = (([rd l0 0] : List Int)) := ⟨_, rfl⟩
    replace H : ((history_told.f 0 (rd l0 0) y166).bind fun t169 => (some t169)) = some r := by first | (rw [hy166]; with_reducible exact H) | (have H2_ := (Option.bind_some _ _).symm.trans H; rw [hy166]; with_reducible exact H2_) | (have H2_ := (Option.bind_some _ _).symm.trans H; with_reducible exact H2_) | with_reducible exact H | (rw [hy166]; exact H) | exact H
    have Ny166 := Aside0.mk hy166
    clear hy166
    replace H := Option.bind_eq_some_iff.mp H
    obtain ⟨t169, A150, H⟩ := H
    replace H : (some t169) = some r := H
    have A15 := Aside0.mk A150
    clear A150
    obtain rfl := Option.some.inj H
    go_enter Tryd.func40, Tryd.ntmps40
    try go_wp2_with (first | ((with_reducible refine gate_dst (N := 3) rfl ?_); refine box_event ?hg (N := 3) ?hd (cs := #[.int .i64 a1_0, .int .i64 a1_1, .int .i64 a1_2, .int .i64 a1_3, .int .i64 a1_4, .int .i64 a1_5, .int .i64 a1_6, .int .i64 a1_7]) (t := 33) ?hr ?_; (case hd => rfl); (case hg => rfl); (case hr => first | (go_simp; done) | (go_simp; rfl)); intro gb156 hg w16 hbox hb; have n0_ := Aside0.mk (below_step (by repeat (first | (with_reducible first | exact HB.out | apply below_alloc | apply pw_below_drewN | apply below_drew1) | exact HB.out)) hb); have n1_ := Aside0.mk (hbox); have n2_ := Aside0.mk ((by rw [hg]; exact (below_size (by repeat (first | (with_reducible first | exact HB.out | apply below_alloc | apply pw_below_drewN | apply below_drew1) | exact HB.out))) : w.heap.size ≤ gb156)); have n3_ := Aside0.mk ((by rw [hg]; exact (below_size (by repeat (first | (with_reducible first | exact HB.out | apply below_alloc | apply pw_below_drewN | apply below_drew1) | exact HB.out))) : w.heap.size ≤ gb156)); clear HB; have HB := n0_; have BK156 := n1_; have GW156 := n2_; have GE156 := n3_; clear n0_ n1_ n2_ n3_; clear hb hbox hg; have hcz17_0 : w16.cell? ⟨gb156, 0, none⟩ = some (.int .i64 a1_0) := (blk_cell BK156.out 0).trans rfl; have hcz17_1 : w16.cell? ⟨gb156, 1, none⟩ = some (.int .i64 a1_1) := (blk_cell BK156.out 1).trans rfl; have hcz17_2 : w16.cell? ⟨gb156, 2, none⟩ = some (.int .i64 a1_2) := (blk_cell BK156.out 2).trans rfl; have hcz17_3 : w16.cell? ⟨gb156, 3, none⟩ = some (.int .i64 a1_3) := (blk_cell BK156.out 3).trans rfl; have hcz17_4 : w16.cell? ⟨gb156, 4, none⟩ = some (.int .i64 a1_4) := (blk_cell BK156.out 4).trans rfl; have hcz17_5 : w16.cell? ⟨gb156, 5, none⟩ = some (.int .i64 a1_5) := (blk_cell BK156.out 5).trans rfl; have hcz17_6 : w16.cell? ⟨gb156, 6, none⟩ = some (.int .i64 a1_6) := (blk_cell BK156.out 6).trans rfl; have hcz17_7 : w16.cell? ⟨gb156, 7, none⟩ = some (.int .i64 a1_7) := (blk_cell BK156.out 7).trans rfl; have hfz17_0 := blk_frozen BK156.out 0; have hfz17_1 := blk_frozen BK156.out 1; have hfz17_2 := blk_frozen BK156.out 2; have hfz17_3 := blk_frozen BK156.out 3; have hfz17_4 := blk_frozen BK156.out 4; have hfz17_5 := blk_frozen BK156.out 5; have hfz17_6 := blk_frozen BK156.out 6; have hfz17_7 := blk_frozen BK156.out 7))
    have n0_ := Aside0.mk (blk_drew BK156.out)
    have n1_ := Aside0.mk (below_drew1 HB.out)
    clear BK156
    clear HB
    have BK156 := n0_
    have HB := n1_
    clear n0_ n1_
    have p164 : 0 ≤ (0 : Int) := (by omega)
    have q164 : 0 < (l0.length : Int) := of_decide_eq_true (by first | (with_reducible assumption) | assumption)
    obtain ⟨ad164, e164, hx164_0⟩ := Kd.at_int HR0.out 0 p164 q164
    have hw164_0 := hx164_0
    (try rw [show ((0 : Int)).toNat = 0 from rfl] at hw164_0)
    (try rw [show 0 * 1 = 0 from rfl] at hw164_0)
    (try rw [Addr.add_zero'] at hw164_0)
    cases e164
    have qi164 : (0 < l0.length) = True := eq_true (by omega)
    (try rw [show ((0 : Int)).toNat = 0 from rfl] at hx164_0)
    (try rw [Addr.add_zero'] at hx164_0)
    replace hx164_0 := (HB.out.cell (World.block_lt_of_cell? w _ hx164_0)).trans hx164_0
    replace p164 := eq_true p164
    replace q164 := eq_true q164
    have p165 : 0 ≤ (0 : Int) := (by omega)
    have q165 : 0 < (l0.length : Int) := of_decide_eq_true (by first | (with_reducible assumption) | assumption)
    obtain ⟨ad165, e165, hx165_0⟩ := Kd.at_int HR0.out 0 p165 q165
    have hw165_0 := hx165_0
    (try rw [show ((0 : Int)).toNat = 0 from rfl] at hw165_0)
    (try rw [show 0 * 1 = 0 from rfl] at hw165_0)
    (try rw [Addr.add_zero'] at hw165_0)
    obtain rfl : ad164 = ad165 := (by injection e165)
    have qi165 : (0 < l0.length) = True := eq_true (by omega)
    (try rw [show ((0 : Int)).toNat = 0 from rfl] at hx165_0)
    (try rw [Addr.add_zero'] at hx165_0)
    replace hx165_0 := (HB.out.cell (World.block_lt_of_cell? w _ hx165_0)).trans hx165_0
    replace p165 := eq_true p165
    replace q165 := eq_true q165
    refine start_ (n := 9) (S := fun w' => w'.cell? ad164 = some (.int .i64 (rd l0 0)) ∧ w'.cell? ad164 = some (.int .i64 (rd l0 0))) (ds := []) #[false, false, false, false, false, false, false, false, false] (by kernel_rfl) rfl rfl ⟨((HB.out.cell (World.block_lt_of_cell? w _ hw164_0)).trans hw164_0), ((HB.out.cell (World.block_lt_of_cell? w _ hw165_0)).trans hw165_0)⟩ (fun hHeld => ?_); refine with_tabW history_counter.tab5 history_counter.bits5 (fun HT_ HW_ => ?_)
    generalize w16.drew = w18 at BK156 HB hx164_0 hx165_0 hHeld ⊢
    refine pure_ (i := 0) (N := some 20) (v := ?_) (a' := ?_) #[true, false, false, false, false, false, false, false, false] rfl rfl (any_of HT_.out (by kernel_rfl)) (fun _ _ _ h => h) (Or.inl ⟨by rfl, ?_⟩) ?_ ?_
    rotate_left
    ·intro w'
     go_simp
     with_reducible rfl
    rotate_left
    ·simp only [Act.put, List.setIfInBounds_toArray, List.set_cons_zero, List.set_cons_succ, i64_w, i32_w]
     rfl
    refine pure_ (i := 1) (N := some 21) (v := ?_) (a' := ?_) #[true, true, false, false, false, false, false, false, false] rfl rfl (any_of HT_.out (by kernel_rfl)) (fun _ _ _ h => h) (Or.inl ⟨by rfl, ?_⟩) ?_ ?_
    rotate_left
    ·intro w'
     go_simp
     with_reducible rfl
    rotate_left
    ·simp only [Act.put, List.setIfInBounds_toArray, List.set_cons_zero, List.set_cons_succ, i64_w, i32_w]
     rfl
    refine pure_ (i := 3) (N := some 23) (v := ?_) (a' := ?_) #[true, true, false, true, false, false, false, false, false] rfl rfl (any_of HT_.out (by kernel_rfl)) (fun _ _ _ h => h) (Or.inl ⟨by rfl, ?_⟩) ?_ ?_
    rotate_left
    ·intro w'
     go_simp
     with_reducible rfl
    rotate_left
    ·simp only [Act.put, List.setIfInBounds_toArray, List.set_cons_zero, List.set_cons_succ, i64_w, i32_w]
     rfl
    refine pure_ (i := 4) (N := some 24) (v := ?_) (a' := ?_) #[true, true, false, true, true, false, false, false, false] rfl rfl (any_of HT_.out (by kernel_rfl)) (fun _ _ _ h => h) (Or.inl ⟨by rfl, ?_⟩) ?_ ?_
    rotate_left
    ·intro w'
     go_simp
     with_reducible rfl
    rotate_left
    ·simp only [Act.put, List.setIfInBounds_toArray, List.set_cons_zero, List.set_cons_succ, i64_w, i32_w]
     rfl
    refine take_ (i := 2) (N := some 22) (v := ?_) (a' := ?_) #[true, true, true, true, true, false, false, false, false] rfl rfl (take_ofW HT_.out HW_.out (by kernel_rfl)) (fun _ _ _ h => h) (Or.inl ⟨by rfl, ?_⟩) hHeld ?_ ?_
    rotate_left
    ·rintro w' ⟨s0, s1⟩
     go_simp
     with_reducible rfl
    rotate_left
    ·simp only [Act.put, List.setIfInBounds_toArray, List.set_cons_zero, List.set_cons_succ, i64_w, i32_w]
     rfl
    refine take_ (i := 5) (N := some 25) (v := ?_) (a' := ?_) #[true, true, true, true, true, true, false, false, false] rfl rfl (take_ofW HT_.out HW_.out (by kernel_rfl)) (fun _ _ _ h => h) (Or.inl ⟨by rfl, ?_⟩) hHeld ?_ ?_
    rotate_left
    ·rintro w' ⟨s0, s1⟩
     go_simp
     with_reducible rfl
    rotate_left
    ·simp only [Act.put, List.setIfInBounds_toArray, List.set_cons_zero, List.set_cons_succ, i64_w, i32_w]
     rfl
    refine one_ (i := 6) (N := some 26) #[true, true, true, true, true, true, true, false, false] rfl rfl (one_of HT_.out (by kernel_rfl)) (by decide) (fun K hK => ?_)
    refine Kd.R_lit_step (Kd.int .i64) _ 3 ?hg (N := 26) ?hd (xs := ([rd l0 0] : List Int)) (inner := [.int .i64 (rd l0 0)]) (ok := fun _ => True) (okp := fun _ => True) ?hr ?hp (fun _ hk => hk) trivial (Below.refl _ _) (Nat.le_refl _) (by simp) ?_; (case hd => rfl); (case hg => rfl); (case hr => first | (go_simp; done) | (go_simp; rfl)); (case hp => exact (Reps.one (show Kd.M (Kd.int .i64) _ _ _ (rd l0 0) [.int .i64 (rd l0 0)] from rfl) (Reps.none _ _)))
    intro v167 w19 ho20 hb hg_ hnew_
    clear hg_ hnew_
    (first | rw [← Ny166.out] at ho20 | (simp only [Int.reduceToNat] at ho20; rw [← Ny166.out] at ho20))
    have n0_ := Aside0.mk (Kd.R_lower (Kd.R_newM (M := fun k_ => (w.heap.size ≤ k_)) ho20 (below_size (by repeat (first | (with_reducible first | exact HB.out | apply below_alloc | apply pw_below_drewN | apply below_drew1 | refine below_set ?_ GE156.out) | exact HB.out))) (fun k_ h_ => h_)) (below_size (by repeat (first | (with_reducible first | exact HB.out | apply below_alloc | apply pw_below_drewN | apply below_drew1 | refine below_set ?_ GE156.out) | exact HB.out))))
    have n1_ := Aside0.mk (blk_below (g := gb156) (o := .cells #[.int .i64 a1_0, .int .i64 a1_1, .int .i64 a1_2, .int .i64 a1_3, .int .i64 a1_4, .int .i64 a1_5, .int .i64 a1_6, .int .i64 a1_7] 33 (0, 0)) (by (with_reducible repeat (first | refine blk_drewN ?_ _ | refine blk_drew ?_ | refine blk_alloc ?_ _)); exact BK156.out) hb)
    have n2_ := Aside0.mk (below_step (by repeat (first | (with_reducible first | exact HB.out | apply below_alloc | apply pw_below_drewN | apply below_drew1 | refine below_set ?_ GE156.out) | exact HB.out)) hb)
    clear BK156
    clear HB
    have HO168 := n0_
    have BK156 := n1_
    have HB := n2_
    clear n0_ n1_ n2_
    clear hb ho20
    obtain ⟨Ao21, co21, eo21⟩ := Kd.R_slice HO168.out
    (first | subst eo21 | (injection eo21 with f1_ f2_ f3_; have f4_ := f1_.symm; have f5_ := f3_.symm; clear f1_ f2_ f3_; subst f4_; subst f5_))
    refine hK.out _ _ ⟨((HB.out.cell (World.block_lt_of_cell? w _ hw164_0)).trans hw164_0), ((HB.out.cell (World.block_lt_of_cell? w _ hw165_0)).trans hw165_0)⟩ (fun hHeld => ?_)
    clear hK K
    refine norm_ (a' := ?_) ?_ ?_
    rotate_left
    ·show Act.put _ (some 26) _ = _
     simp only [Act.put, List.setIfInBounds_toArray, List.set_cons_zero, List.set_cons_succ, i64_w, i32_w]
     rfl
    refine one_ (i := 7) (N := some 27) #[true, true, true, true, true, true, true, true, false] rfl rfl (one_of HT_.out (by kernel_rfl)) (by decide) (fun K hK => ?_)
    refine goes_ Tryd.func53 (by kernel_rfl) rfl #[.int .i64 0, .int .i64 (rd l0 0), .slice Ao21 y166.length co21] (by rfl) rfl rfl (by (try simp only [List.map_toArray, List.map_cons, List.map_nil]); first | done | rfl | (simp only [List.length_drop, List.length_take]; rfl)) ?_
    with_reducible refine (history_told.calls 0 (rd l0 0) (fun k_ => some k_ = (.slice Ao21 y166.length co21 : Value).ownBlock) _ _ y166 t169 _ ?side1 A15.out).mono ?_
    (case side1 => exact Kd.R_V (Kd.R_tight rfl (Kd.R_types (HO168.out) BK156.out (by decide))))
    rintro e w22 ⟨v170, rfl, ho0, hb⟩
    refine ⟨_, rfl, ?_⟩
    have n0_ := Aside0.mk (Kd.R_below (by (with_reducible repeat (first | apply Kd.R_alloc | apply Kd.R_drewN | apply Kd.R_drew)); exact HO168.out) hb)
    have n1_ := Aside0.mk (Kd.N_lower (Kd.N_mono (ok' := fun k_ => (w.heap.size ≤ k_) ∧ k_ ≠ gb156) ho0 (fun k_ hk_ => ⟨Or.elim hk_ (fun hs_ => ((Kd.R_types (HO168.out) BK156.out (by decide)).1 k_ hs_.symm).1.1) (fun hn_ => (Nat.le_trans (below_size (by repeat (first | (with_reducible first | exact HB.out | apply below_alloc | apply pw_below_drewN | apply below_drew1 | refine below_set ?_ GE156.out) | exact HB.out))) hn_)), Or.elim hk_ (fun hs_ => ((Kd.R_types (HO168.out) BK156.out (by decide)).1 k_ hs_.symm).2) (fun hn_ => (Kd.freshB (g := gb156) (o := .cells #[.int .i64 a1_0, .int .i64 a1_1, .int .i64 a1_2, .int .i64 a1_3, .int .i64 a1_4, .int .i64 a1_5, .int .i64 a1_6, .int .i64 a1_7] 33 (0, 0)) (by (with_reducible repeat (first | refine blk_drewN ?_ _ | refine blk_drew ?_ | refine blk_alloc ?_ _)); exact BK156.out) k_ hn_))⟩)) (below_size (by repeat (first | (with_reducible first | exact HB.out | apply below_alloc | apply pw_below_drewN | apply below_drew1 | refine below_set ?_ GE156.out) | exact HB.out))))
    have n2_ := Aside0.mk (blk_below (g := gb156) (o := .cells #[.int .i64 a1_0, .int .i64 a1_1, .int .i64 a1_2, .int .i64 a1_3, .int .i64 a1_4, .int .i64 a1_5, .int .i64 a1_6, .int .i64 a1_7] 33 (0, 0)) (by (with_reducible repeat (first | refine blk_drewN ?_ _ | refine blk_drew ?_ | refine blk_alloc ?_ _)); exact BK156.out) hb)
    have n3_ := Aside0.mk (below_step (by repeat (first | (with_reducible first | exact HB.out | apply below_alloc | apply pw_below_drewN | apply below_drew1 | refine below_set ?_ GE156.out) | exact HB.out)) hb)
    clear HO168
    clear BK156
    clear HB
    have HO168 := n0_
    have HO171 := n1_
    have BK156 := n2_
    have HB := n3_
    clear n0_ n1_ n2_ n3_
    (try clear hb)
    (try clear hb2)
    (try clear hk)
    (try clear hi)
    (try clear ho0)
    refine hK.out _ _ ⟨((HB.out.cell (World.block_lt_of_cell? w _ hw164_0)).trans hw164_0), ((HB.out.cell (World.block_lt_of_cell? w _ hw165_0)).trans hw165_0)⟩ (fun hHeld => ?_)
    clear hK K
    refine norm_ (a' := ?_) ?_ ?_
    rotate_left
    ·show Act.put _ (some 27) _ = _
     simp only [Act.put, List.setIfInBounds_toArray, List.set_cons_zero, List.set_cons_succ, i64_w, i32_w]
     rfl
    refine pure_ (i := 8) (N := some 4) (v := ?_) (a' := ?_) #[true, true, true, true, true, true, true, true, true] rfl rfl (any_of HT_.out (by kernel_rfl)) (fun _ _ _ h => h) (Or.inl ⟨by rfl, ?_⟩) ?_ ?_
    rotate_left
    ·intro w'
     go_simp
     with_reducible rfl
    rotate_left
    ·simp only [Act.put, List.setIfInBounds_toArray, List.set_cons_zero, List.set_cons_succ, i64_w, i32_w]
     rfl
    refine done_ (done_of HT_.out (by kernel_rfl)) ?_
    try go_wp2
    go_ret
    exact ⟨_, by first | rfl | (simp [errW_none, errW_some] <;> rfl) | (simp [*, errW_none, errW_some] <;> rfl), by (with_reducible repeat (first | apply Kd.N_alloc | apply Kd.N_drewN | apply Kd.N_drew)); exact Kd.N_mono HO171.out (fun _ hk => hk.1), by repeat (first | (with_reducible first | exact HB.out | apply below_alloc | apply pw_below_drewN | apply below_drew1 | refine below_set ?_ GE156.out) | exact HB.out)⟩
   ·rw [if_neg c14] at H
    exact absurd H (by simp)
  ·rw [if_neg c13] at H
   have c13b0 : (a1_1 == 2) = false := beq_eq_false_iff_ne.mpr c13
   have c13b1 : (a1_1 != 2) = true := bne_iff_ne.mpr c13
   obtain rfl := Option.some.inj H
   go_enter Tryd.func40, Tryd.ntmps40
   go_wp2_with (first | ((with_reducible refine gate_dst (N := 3) rfl ?_); refine box_event ?hg (N := 3) ?hd (cs := #[.int .i64 a1_0, .int .i64 a1_1, .int .i64 a1_2, .int .i64 a1_3, .int .i64 a1_4, .int .i64 a1_5, .int .i64 a1_6, .int .i64 a1_7]) (t := 33) ?hr ?_; (case hd => rfl); (case hg => rfl); (case hr => first | (go_simp; done) | (go_simp; rfl)); intro gb156 hg w23 hbox hb; have n0_ := Aside0.mk (below_step (by repeat (first | (with_reducible first | exact HB.out | apply below_alloc | apply pw_below_drewN | apply below_drew1) | exact HB.out)) hb); have n1_ := Aside0.mk (hbox); have n2_ := Aside0.mk ((by rw [hg]; exact (below_size (by repeat (first | (with_reducible first | exact HB.out | apply below_alloc | apply pw_below_drewN | apply below_drew1) | exact HB.out))) : w.heap.size ≤ gb156)); have n3_ := Aside0.mk ((by rw [hg]; exact (below_size (by repeat (first | (with_reducible first | exact HB.out | apply below_alloc | apply pw_below_drewN | apply below_drew1) | exact HB.out))) : w.heap.size ≤ gb156)); clear HB; have HB := n0_; have BK156 := n1_; have GW156 := n2_; have GE156 := n3_; clear n0_ n1_ n2_ n3_; clear hb hbox hg; have hcz24_0 : w23.cell? ⟨gb156, 0, none⟩ = some (.int .i64 a1_0) := (blk_cell BK156.out 0).trans rfl; have hcz24_1 : w23.cell? ⟨gb156, 1, none⟩ = some (.int .i64 a1_1) := (blk_cell BK156.out 1).trans rfl; have hcz24_2 : w23.cell? ⟨gb156, 2, none⟩ = some (.int .i64 a1_2) := (blk_cell BK156.out 2).trans rfl; have hcz24_3 : w23.cell? ⟨gb156, 3, none⟩ = some (.int .i64 a1_3) := (blk_cell BK156.out 3).trans rfl; have hcz24_4 : w23.cell? ⟨gb156, 4, none⟩ = some (.int .i64 a1_4) := (blk_cell BK156.out 4).trans rfl; have hcz24_5 : w23.cell? ⟨gb156, 5, none⟩ = some (.int .i64 a1_5) := (blk_cell BK156.out 5).trans rfl; have hcz24_6 : w23.cell? ⟨gb156, 6, none⟩ = some (.int .i64 a1_6) := (blk_cell BK156.out 6).trans rfl; have hcz24_7 : w23.cell? ⟨gb156, 7, none⟩ = some (.int .i64 a1_7) := (blk_cell BK156.out 7).trans rfl; have hfz24_0 := blk_frozen BK156.out 0; have hfz24_1 := blk_frozen BK156.out 1; have hfz24_2 := blk_frozen BK156.out 2; have hfz24_3 := blk_frozen BK156.out 3; have hfz24_4 := blk_frozen BK156.out 4; have hfz24_5 := blk_frozen BK156.out 5; have hfz24_6 := blk_frozen BK156.out 6; have hfz24_7 := blk_frozen BK156.out 7))
   go_ret
   exact ⟨_, by first | rfl | (simp [errW_none, errW_some] <;> rfl) | (simp [*, errW_none, errW_some] <;> rfl), by first | exact Kd.S_nil _ _ _ _ _ | exact Kd.N_nil _ _ _ _ _ | exact Kd.V_nil _ _ _ _ _ | exact Kd.Q_nil _ _ _ _ _ | exact Kd.R_nil _ _ _ _ _, by repeat (first | (with_reducible first | exact HB.out | apply below_alloc | apply pw_below_drewN | apply below_drew1 | refine below_set ?_ GE156.out) | exact HB.out)⟩

/-! ### history_latch: function 41 -/
def history_latch.j0 : Nat → List Int → Bool → Int → Int → Int → Int → Int → Int → Int → Int → Option ((List (S79)))
 | 0, _, _, _, _, _, _, _, _, _, _ => none
 | k + 1, x0, x5, x173000, x173001, x173002, x173003, x173004, x173005, x173006, x173007 => if x5 = true then (if 0 < (x0.length : Int) then ((history_told.f 0 0 (([wrap64 ((rd x0 0) - 1)] : List Int))).bind fun t178 => (some t178)) else (none)) else (if x173001 = 1 then ((history_told.f 50 0 (([0] : List Int))).bind fun t184 => (some t184)) else (if x173001 = 2 then (if 0 < (x0.length : Int) then (if (rd x0 0) = 0 then ((history_told.f 0 0 (([0] : List Int))).bind fun t191 => (some t191)) else (some ([] : List (S79)))) else (none)) else (some ([] : List (S79)))))
def history_latch.f (k : Nat) (l0 : List Int) (a1_0 : Int) (a1_1 : Int) (a1_2 : Int) (a1_3 : Int) (a1_4 : Int) (a1_5 : Int) (a1_6 : Int) (a1_7 : Int) : Option ((List (S79))) := if a1_1 = 1 then (if 0 < (l0.length : Int) then (history_latch.j0 k l0 (decide ((rd l0 0) > 0)) a1_0 a1_1 a1_2 a1_3 a1_4 a1_5 a1_6 a1_7) else (none)) else (history_latch.j0 k l0 false a1_0 a1_1 a1_2 a1_3 a1_4 a1_5 a1_6 a1_7)
theorem history_latch.mono_l : ∀ k, (∀ y0 y1 y2 y3 y4 y5 y6 y7 y8 y9, LeO (history_latch.j0 k y0 y1 y2 y3 y4 y5 y6 y7 y8 y9) (history_latch.j0 (k + 1) y0 y1 y2 y3 y4 y5 y6 y7 y8 y9))
 | 0 => fun _ _ _ _ _ _ _ _ _ _ r h => by simp [history_latch.j0] at h
 | k + 1 => by
  have ih0 := history_latch.mono_l k
  ·intro y0 y1 y2 y3 y4 y5 y6 y7 y8 y9
   unfold history_latch.j0
   repeat' first
   | (with_reducible exact ih0 _ _ _ _ _ _ _ _ _ _)
   | (with_reducible exact LeO.refl _)
   | (with_reducible exact LeO.none _)
   | (with_reducible refine LeO.ite ?_ ?_)
   | (with_reducible refine LeO.bind ?_ (fun _ => ?_))
   | exact ih0 _ _ _ _ _ _ _ _ _ _
   | exact LeO.none _
   | refine LeO.ite ?_ ?_
   | refine LeO.bind ?_ (fun _ => ?_)
theorem history_latch.mono : ∀ a0 a1 a2 a3 a4 a5 a6 a7 a8 k, LeO (history_latch.f k a0 a1 a2 a3 a4 a5 a6 a7 a8) (history_latch.f (k + 1) a0 a1 a2 a3 a4 a5 a6 a7 a8) := by
 intro a0 a1 a2 a3 a4 a5 a6 a7 a8 k
 have ih0 := history_latch.mono_l k
 unfold history_latch.f
 repeat' first
   | (with_reducible exact ih0 _ _ _ _ _ _ _ _ _ _)
   | (with_reducible exact LeO.refl _)
   | (with_reducible exact LeO.none _)
   | (with_reducible refine LeO.ite ?_ ?_)
   | (with_reducible refine LeO.bind ?_ (fun _ => ?_))
   | exact ih0 _ _ _ _ _ _ _ _ _ _
   | exact LeO.none _
   | refine LeO.ite ?_ ?_
   | refine LeO.bind ?_ (fun _ => ?_)
set_option maxHeartbeats 8000000 in
set_option maxRecDepth 100000 in
theorem history_latch.calls (k : Nat) (A0 : Option Addr) (c0 : Nat) (l0 : List Int) (a1_0 : Int) (a1_1 : Int) (a1_2 : Int) (a1_3 : Int) (a1_4 : Int) (a1_5 : Int) (a1_6 : Int) (a1_7 : Int) (r : List (S79)) (w : World) (hr0 : Kd.C (Kd.int .i64) w A0 l0.length l0) (hc0 : l0.length ≤ c0) (h : history_latch.f k l0 a1_0 a1_1 a1_2 a1_3 a1_4 a1_5 a1_6 a1_7 = some r) :
  Calls Tryd.prog 41 #[.slice A0 l0.length c0, .agg #[.int .i64 a1_0, .int .i64 a1_1, .int .i64 a1_2, .int .i64 a1_3, .int .i64 a1_4, .int .i64 a1_5, .int .i64 a1_6, .int .i64 a1_7]] w fun e w' => ∃ v0_ : Value, e = .returned (v0_) ∧ Kd.N k79 79 w' w.heap.size (fun k_ => (w.heap.size ≤ k_)) v0_ r ∧ Below w.heap.size w w' := by
 have hu33 := Tryd.underlying33
 have HR0 := Aside0.mk hr0
 have HC0 := Aside0.mk hc0
 clear hr0 hc0
 have HB := Aside0.mk (Below.refl w.heap.size w)
 have H : (if a1_1 = 1 then (if 0 < (l0.length : Int) then (history_latch.j0 k l0 (decide ((rd l0 0) > 0)) a1_0 a1_1 a1_2 a1_3 a1_4 a1_5 a1_6 a1_7) else (none)) else (history_latch.j0 k l0 false a1_0 a1_1 a1_2 a1_3 a1_4 a1_5 a1_6 a1_7)) = some r := h
 clear h
 have HC3 := Aside0.mk H
 clear H
 go_enter Tryd.func41, Tryd.ntmps41
 go_upto_region 1 with (first | ((with_reducible refine gate_dst (N := 3) rfl ?_); refine box_event ?hg (N := 3) ?hd (cs := #[.int .i64 a1_0, .int .i64 a1_1, .int .i64 a1_2, .int .i64 a1_3, .int .i64 a1_4, .int .i64 a1_5, .int .i64 a1_6, .int .i64 a1_7]) (t := 33) ?hr ?_; (case hd => rfl); (case hg => rfl); (case hr => first | (go_simp; done) | (go_simp; rfl)); intro gb172 hg w4 hbox hb; have n0_ := Aside0.mk (below_step (by repeat (first | (with_reducible first | exact HB.out | apply below_alloc | apply pw_below_drewN | apply below_drew1) | exact HB.out)) hb); have n1_ := Aside0.mk (hbox); have n2_ := Aside0.mk ((by rw [hg]; exact (below_size (by repeat (first | (with_reducible first | exact HB.out | apply below_alloc | apply pw_below_drewN | apply below_drew1) | exact HB.out))) : w.heap.size ≤ gb172)); have n3_ := Aside0.mk ((by rw [hg]; exact (below_size (by repeat (first | (with_reducible first | exact HB.out | apply below_alloc | apply pw_below_drewN | apply below_drew1) | exact HB.out))) : w.heap.size ≤ gb172)); clear HB; have HB := n0_; have BK172 := n1_; have GW172 := n2_; have GE172 := n3_; clear n0_ n1_ n2_ n3_; clear hb hbox hg))
 (try simp only [Act.put, List.setIfInBounds_toArray, List.set_cons_zero, List.set_cons_succ])
 go_cut [5] (fun v5 wc => ∃ (kq : Nat) (x5_2 : Bool), v5 = .bool x5_2 ∧ Aside0 (history_latch.j0 kq l0 x5_2 a1_0 a1_1 a1_2 a1_3 a1_4 a1_5 a1_6 a1_7 = some r) ∧ Aside0 (kq ≤ k) ∧ Aside0 (wc.heap[gb172]? = some (.cells #[.int .i64 a1_0, .int .i64 a1_1, .int .i64 a1_2, .int .i64 a1_3, .int .i64 a1_4, .int .i64 a1_5, .int .i64 a1_6, .int .i64 a1_7] 33 (0, 0))) ∧ Aside0 (Below w.heap.size w wc))
 case first =>
  have H := HC3.out
  clear HC3
  by_cases c5 : a1_1 = 1
  ·rw [if_pos c5] at H
   have c5b0 : (a1_1 == 1) = true := beq_iff_eq.mpr c5
   have c5b1 : (a1_1 != 1) = false := bne_eq_false_iff_eq.mpr c5
   clear c5
   (first | rw [c5b0] | (simp only [i64_w, i32_w]; rw [c5b0]) | skip)
   by_cases c6 : 0 < (l0.length : Int)
   ·rw [if_pos c6] at H
    have c6b0 : decide (0 < (l0.length : Int)) = true := decide_eq_true c6
    have c6b1 : decide (0 < l0.length) = true := decide_eq_true (by omega)
    clear c6
    have H' := Aside0.mk H
    clear H
    have hcz7_0 : w4.cell? ⟨gb172, 0, none⟩ = some (.int .i64 a1_0) := (blk_cell BK172.out 0).trans rfl
    have hcz7_1 : w4.cell? ⟨gb172, 1, none⟩ = some (.int .i64 a1_1) := (blk_cell BK172.out 1).trans rfl
    have hcz7_2 : w4.cell? ⟨gb172, 2, none⟩ = some (.int .i64 a1_2) := (blk_cell BK172.out 2).trans rfl
    have hcz7_3 : w4.cell? ⟨gb172, 3, none⟩ = some (.int .i64 a1_3) := (blk_cell BK172.out 3).trans rfl
    have hcz7_4 : w4.cell? ⟨gb172, 4, none⟩ = some (.int .i64 a1_4) := (blk_cell BK172.out 4).trans rfl
    have hcz7_5 : w4.cell? ⟨gb172, 5, none⟩ = some (.int .i64 a1_5) := (blk_cell BK172.out 5).trans rfl
    have hcz7_6 : w4.cell? ⟨gb172, 6, none⟩ = some (.int .i64 a1_6) := (blk_cell BK172.out 6).trans rfl
    have hcz7_7 : w4.cell? ⟨gb172, 7, none⟩ = some (.int .i64 a1_7) := (blk_cell BK172.out 7).trans rfl
    have hfz7_0 := blk_frozen BK172.out 0
    have hfz7_1 := blk_frozen BK172.out 1
    have hfz7_2 := blk_frozen BK172.out 2
    have hfz7_3 := blk_frozen BK172.out 3
    have hfz7_4 := blk_frozen BK172.out 4
    have hfz7_5 := blk_frozen BK172.out 5
    have hfz7_6 := blk_frozen BK172.out 6
    have hfz7_7 := blk_frozen BK172.out 7
    have p173 : 0 ≤ (0 : Int) := (by omega)
    have q173 : 0 < (l0.length : Int) := of_decide_eq_true (by first | (with_reducible assumption) | assumption)
    obtain ⟨ad173, e173, hx173_0⟩ := Kd.at_int HR0.out 0 p173 q173
    cases e173
    have qi173 : (0 < l0.length) = True := eq_true (by omega)
    (try rw [show ((0 : Int)).toNat = 0 from rfl] at hx173_0)
    (try rw [Addr.add_zero'] at hx173_0)
    replace hx173_0 := (HB.out.cell (World.block_lt_of_cell? w _ hx173_0)).trans hx173_0
    replace p173 := eq_true p173
    replace q173 := eq_true q173
    go_wp2
    go_meet
    case rel => exact ⟨_, (decide ((rd l0 0) > 0)), (by first | rfl | (simp; done) | (simp [*]; done)), H', ⟨by first | omega | exact Nat.le_refl _⟩, ⟨by (with_reducible repeat (first | refine blk_drewN ?_ _ | refine blk_drew ?_ | refine blk_alloc ?_ _)); exact BK172.out⟩, ⟨by repeat (first | (with_reducible first | exact HB.out | apply below_alloc | apply pw_below_drewN | apply below_drew1 | refine below_set ?_ GE172.out) | exact HB.out)⟩⟩
   ·rw [if_neg c6] at H
    exact absurd H (by simp)
  ·rw [if_neg c5] at H
   have c5b0 : (a1_1 == 1) = false := beq_eq_false_iff_ne.mpr c5
   have c5b1 : (a1_1 != 1) = true := bne_iff_ne.mpr c5
   (first | rw [c5b0] | (simp only [i64_w, i32_w]; rw [c5b0]) | skip)
   have H' := Aside0.mk H
   clear H
   have hcz8_0 : w4.cell? ⟨gb172, 0, none⟩ = some (.int .i64 a1_0) := (blk_cell BK172.out 0).trans rfl
   have hcz8_1 : w4.cell? ⟨gb172, 1, none⟩ = some (.int .i64 a1_1) := (blk_cell BK172.out 1).trans rfl
   have hcz8_2 : w4.cell? ⟨gb172, 2, none⟩ = some (.int .i64 a1_2) := (blk_cell BK172.out 2).trans rfl
   have hcz8_3 : w4.cell? ⟨gb172, 3, none⟩ = some (.int .i64 a1_3) := (blk_cell BK172.out 3).trans rfl
   have hcz8_4 : w4.cell? ⟨gb172, 4, none⟩ = some (.int .i64 a1_4) := (blk_cell BK172.out 4).trans rfl
   have hcz8_5 : w4.cell? ⟨gb172, 5, none⟩ = some (.int .i64 a1_5) := (blk_cell BK172.out 5).trans rfl
   have hcz8_6 : w4.cell? ⟨gb172, 6, none⟩ = some (.int .i64 a1_6) := (blk_cell BK172.out 6).trans rfl
   have hcz8_7 : w4.cell? ⟨gb172, 7, none⟩ = some (.int .i64 a1_7) := (blk_cell BK172.out 7).trans rfl
   have hfz8_0 := blk_frozen BK172.out 0
   have hfz8_1 := blk_frozen BK172.out 1
   have hfz8_2 := blk_frozen BK172.out 2
   have hfz8_3 := blk_frozen BK172.out 3
   have hfz8_4 := blk_frozen BK172.out 4
   have hfz8_5 := blk_frozen BK172.out 5
   have hfz8_6 := blk_frozen BK172.out 6
   have hfz8_7 := blk_frozen BK172.out 7
   go_wp2
   go_meet
   case rel => exact ⟨_, (false), (by first | rfl | (simp; done) | (simp [*]; done)), H', ⟨by first | omega | exact Nat.le_refl _⟩, ⟨by (with_reducible repeat (first | refine blk_drewN ?_ _ | refine blk_drew ?_ | refine blk_alloc ?_ _)); exact BK172.out⟩, ⟨by repeat (first | (with_reducible first | exact HB.out | apply below_alloc | apply pw_below_drewN | apply below_drew1 | refine below_set ?_ GE172.out) | exact HB.out)⟩⟩
 case rest =>
  clear HC3
  try clear p1
  try clear q1
  try clear hx1
  try clear qi1
  try clear p2
  try clear c4
  try clear c5
  try clear c5b0
  try clear c5b1
  try clear c6
  try clear c6b0
  try clear c6b1
  try clear hcz7_0
  try clear hcz7_1
  try clear hcz7_2
  try clear hcz7_3
  try clear hcz7_4
  try clear hcz7_5
  try clear hcz7_6
  try clear hcz7_7
  try clear hcz8_0
  try clear hcz8_1
  try clear hcz8_2
  try clear hcz8_3
  try clear hcz8_4
  try clear hcz8_5
  try clear hcz8_6
  try clear hcz8_7
  try clear hfz7_0
  try clear hfz7_1
  try clear hfz7_2
  try clear hfz7_3
  try clear hfz7_4
  try clear hfz7_5
  try clear hfz7_6
  try clear hfz7_7
  try clear hfz8_0
  try clear hfz8_1
  try clear hfz8_2
  try clear hfz8_3
  try clear hfz8_4
  try clear hfz8_5
  try clear hfz8_6
  try clear hfz8_7
  try clear hx173_0
  try clear p173
  try clear q173
  obtain ⟨kq, x5_2, rfl, HA, HJ2, BK172, HB⟩ := hcut
  cases kq with
  | zero => exact absurd HA.out (by simp [history_latch.j0])
  | succ kj2 =>
   have H := HA.out
   clear HA
   simp only [history_latch.j0] at H
   by_cases c9 : x5_2 = true
   ·subst c9
    have H1 : (if 0 < (l0.length : Int) then ((history_told.f 0 0 (([wrap64 ((rd l0 0) - 1)] : List Int))).bind fun t178 => (some t178)) else (none)) = some r := by rw [if_pos rfl] at H; exact H
    clear H
    have H := H1
    clear H1
    by_cases c10 : 0 < (l0.length : Int)
    ·rw [if_pos c10] at H
     have c10b0 : decide (0 < (l0.length : Int)) = true := decide_eq_true c10
     have c10b1 : decide (0 < l0.length) = true := decide_eq_true (by omega)
     clear c10
     obtain ⟨y175, hy175⟩ : ∃ y_ : List Int, y_ = (([wrap64 ((rd l0 0) - 1)] : List Int)) := ⟨_, rfl⟩
     replace H : ((history_told.f 0 0 y175).bind fun t178 => (some t178)) = some r := by first | (rw [hy175]; with_reducible exact H) | (have H2_ := (Option.bind_some _ _).symm.trans H; rw [hy175]; with_reducible exact H2_) | (have H2_ := (Option.bind_some _ _).symm.trans H; with_reducible exact H2_) | with_reducible exact H | (rw [hy175]; exact H) | exact H
     have Ny175 := Aside0.mk hy175
     clear hy175
     replace H := Option.bind_eq_some_iff.mp H
     obtain ⟨t178, A110, H⟩ := H
     replace H : (some t178) = some r := H
     have A11 := Aside0.mk A110
     clear A110
     obtain rfl := Option.some.inj H
     have p174 : 0 ≤ (0 : Int) := (by omega)
     have q174 : 0 < (l0.length : Int) := of_decide_eq_true (by first | (with_reducible assumption) | assumption)
     obtain ⟨ad174, e174, hx174_0⟩ := Kd.at_int HR0.out 0 p174 q174
     cases e174
     have qi174 : (0 < l0.length) = True := eq_true (by omega)
     (try rw [show ((0 : Int)).toNat = 0 from rfl] at hx174_0)
     (try rw [Addr.add_zero'] at hx174_0)
     replace hx174_0 := (HB.out.cell (World.block_lt_of_cell? w _ hx174_0)).trans hx174_0
     replace p174 := eq_true p174
     replace q174 := eq_true q174
     go_wp2_with (first | ((with_reducible refine gate_dst (N := 19) rfl ?_); refine Kd.R_lit (Kd.int .i64) _ 3 ?hg (N := 19) ?hd (xs := ([wrap64 ((rd l0 0) - 1)] : List Int)) (inner := [.int .i64 (wrap64 ((rd l0 0) - 1))]) (ok := fun _ => True) (okp := fun _ => True) ?hr ?hp (fun _ hk => hk) trivial (Below.refl _ _) (Nat.le_refl _) (by simp) ?_; (case hd => rfl); (case hg => rfl); (case hr => first | (go_simp; done) | (go_simp; rfl)); (case hp => exact (Reps.one (show Kd.M (Kd.int .i64) _ _ _ (wrap64 ((rd l0 0) - 1)) [.int .i64 (wrap64 ((rd l0 0) - 1))] from rfl) (Reps.none _ _))); intro v176 w12 ho13 hb hg_ hnew_; clear hg_ hnew_; (first | rw [← Ny175.out] at ho13 | (simp only [Int.reduceToNat] at ho13; rw [← Ny175.out] at ho13)); have n0_ := Aside0.mk (Kd.R_lower (Kd.R_newM (M := fun k_ => (w.heap.size ≤ k_)) ho13 (below_size (by repeat (first | (with_reducible first | exact HB.out | apply below_alloc | apply pw_below_drewN | apply below_drew1 | refine below_set ?_ GE172.out) | exact HB.out))) (fun k_ h_ => h_)) (below_size (by repeat (first | (with_reducible first | exact HB.out | apply below_alloc | apply pw_below_drewN | apply below_drew1 | refine below_set ?_ GE172.out) | exact HB.out)))); have n1_ := Aside0.mk (blk_below (g := gb172) (o := .cells #[.int .i64 a1_0, .int .i64 a1_1, .int .i64 a1_2, .int .i64 a1_3, .int .i64 a1_4, .int .i64 a1_5, .int .i64 a1_6, .int .i64 a1_7] 33 (0, 0)) (by (with_reducible repeat (first | refine blk_drewN ?_ _ | refine blk_drew ?_ | refine blk_alloc ?_ _)); exact BK172.out) hb); have n2_ := Aside0.mk (below_step (by repeat (first | (with_reducible first | exact HB.out | apply below_alloc | apply pw_below_drewN | apply below_drew1 | refine below_set ?_ GE172.out) | exact HB.out)) hb); clear BK172; clear HB; have HO177 := n0_; have BK172 := n1_; have HB := n2_; clear n0_ n1_ n2_; clear hb ho13; obtain ⟨Ao14, co14, eo14⟩ := Kd.R_slice HO177.out; subst eo14) | ((with_reducible refine gate_callee (f := 53) rfl ?_); refine goesL_ (some 20) rfl rfl Tryd.func53 (by kernel_rfl) rfl #[.int .i64 0, .int .i64 0, .slice Ao14 y175.length co14] rfl (by (try simp only [List.map_toArray, List.map_cons, List.map_nil]); first | done | rfl | (simp only [List.length_drop, List.length_take]; rfl)) ?_; (with_reducible refine (history_told.calls 0 0 (fun k_ => some k_ = (.slice Ao14 y175.length co14 : Value).ownBlock) _ _ y175 t178 _ ?side1 A11.out).mono ?_); (case side1 => exact Kd.R_V (Kd.R_tight rfl (Kd.R_types (HO177.out) BK172.out (by decide)))); rintro e w15 ⟨v179, rfl, ho0, hb⟩; refine ⟨_, rfl, ?_⟩; have n0_ := Aside0.mk (Kd.R_below (by (with_reducible repeat (first | apply Kd.R_alloc | apply Kd.R_drewN | apply Kd.R_drew)); exact HO177.out) hb); have n1_ := Aside0.mk (Kd.N_lower (Kd.N_mono (ok' := fun k_ => (w.heap.size ≤ k_) ∧ k_ ≠ gb172) ho0 (fun k_ hk_ => ⟨Or.elim hk_ (fun hs_ => ((Kd.R_types (HO177.out) BK172.out (by decide)).1 k_ hs_.symm).1.1) (fun hn_ => (Nat.le_trans (below_size (by repeat (first | (with_reducible first | exact HB.out | apply below_alloc | apply pw_below_drewN | apply below_drew1 | refine below_set ?_ GE172.out) | exact HB.out))) hn_)), Or.elim hk_ (fun hs_ => ((Kd.R_types (HO177.out) BK172.out (by decide)).1 k_ hs_.symm).2) (fun hn_ => (Kd.freshB (g := gb172) (o := .cells #[.int .i64 a1_0, .int .i64 a1_1, .int .i64 a1_2, .int .i64 a1_3, .int .i64 a1_4, .int .i64 a1_5, .int .i64 a1_6, .int .i64 a1_7] 33 (0, 0)) (by (with_reducible repeat (first | refine blk_drewN ?_ _ | refine blk_drew ?_ | refine blk_alloc ?_ _)); exact BK172.out) k_ hn_))⟩)) (below_size (by repeat (first | (with_reducible first | exact HB.out | apply below_alloc | apply pw_below_drewN | apply below_drew1 | refine below_set ?_ GE172.out) | exact HB.out)))); have n2_ := Aside0.mk (blk_below (g := gb172) (o := .cells #[.int .i64 a1_0, .int .i64 a1_1, .int .i64 a1_2, .int .i64 a1_3, .int .i64 a1_4, .int .i64 a1_5, .int .i64 a1_6, .int .i64 a1_7] 33 (0, 0)) (by (with_reducible repeat (first | refine blk_drewN ?_ _ | refine blk_drew ?_ | refine blk_alloc ?_ _)); exact BK172.out) hb); have n3_ := Aside0.mk (below_step (by repeat (first | (with_reducible first | exact HB.out | apply below_alloc | apply pw_below_drewN | apply below_drew1 | refine below_set ?_ GE172.out) | exact HB.out)) hb); clear HO177; clear BK172; clear HB; have HO177 := n0_; have HO180 := n1_; have BK172 := n2_; have HB := n3_; clear n0_ n1_ n2_ n3_; (try clear hb); (try clear hb2); (try clear hk); (try clear hi); (try clear ho0)))
     go_ret
     exact ⟨_, by first | rfl | (simp [errW_none, errW_some] <;> rfl) | (simp [*, errW_none, errW_some] <;> rfl), by (with_reducible repeat (first | apply Kd.N_alloc | apply Kd.N_drewN | apply Kd.N_drew)); exact Kd.N_mono HO180.out (fun _ hk => hk.1), by repeat (first | (with_reducible first | exact HB.out | apply below_alloc | apply pw_below_drewN | apply below_drew1 | refine below_set ?_ GE172.out) | exact HB.out)⟩
    ·rw [if_neg c10] at H
     exact absurd H (by simp)
   ·replace c9 := Bool.eq_false_iff.mpr c9
    subst c9
    have H1 : (if a1_1 = 1 then ((history_told.f 50 0 (([0] : List Int))).bind fun t184 => (some t184)) else (if a1_1 = 2 then (if 0 < (l0.length : Int) then (if (rd l0 0) = 0 then ((history_told.f 0 0 (([0] : List Int))).bind fun t191 => (some t191)) else (some ([] : List (S79)))) else (none)) else (some ([] : List (S79))))) = some r := by rw [if_neg (show ¬ (false = true) by decide)] at H; exact H
    clear H
    have H := H1
    clear H1
    by_cases c16 : a1_1 = 1
    ·rw [if_pos c16] at H
     have c16b0 : (a1_1 == 1) = true := beq_iff_eq.mpr c16
     have c16b1 : (a1_1 != 1) = false := bne_eq_false_iff_eq.mpr c16
     clear c16
     obtain ⟨y181, hy181⟩ : ∃ y_ : List Int, y_ = (([0] : List Int)) := ⟨_, rfl⟩
     replace H : ((history_told.f 50 0 y181).bind fun t184 => (some t184)) = some r := by first | (rw [hy181]; with_reducible exact H) | (have H2_ := (Option.bind_some _ _).symm.trans H; rw [hy181]; with_reducible exact H2_) | (have H2_ := (Option.bind_some _ _).symm.trans H; with_reducible exact H2_) | with_reducible exact H | (rw [hy181]; exact H) | exact H
     have Ny181 := Aside0.mk hy181
     clear hy181
     replace H := Option.bind_eq_some_iff.mp H
     obtain ⟨t184, A170, H⟩ := H
     replace H : (some t184) = some r := H
     have A17 := Aside0.mk A170
     clear A170
     obtain rfl := Option.some.inj H
     have hcz18_0 : wc.cell? ⟨gb172, 0, none⟩ = some (.int .i64 a1_0) := (blk_cell BK172.out 0).trans rfl
     have hcz18_1 : wc.cell? ⟨gb172, 1, none⟩ = some (.int .i64 a1_1) := (blk_cell BK172.out 1).trans rfl
     have hcz18_2 : wc.cell? ⟨gb172, 2, none⟩ = some (.int .i64 a1_2) := (blk_cell BK172.out 2).trans rfl
     have hcz18_3 : wc.cell? ⟨gb172, 3, none⟩ = some (.int .i64 a1_3) := (blk_cell BK172.out 3).trans rfl
     have hcz18_4 : wc.cell? ⟨gb172, 4, none⟩ = some (.int .i64 a1_4) := (blk_cell BK172.out 4).trans rfl
     have hcz18_5 : wc.cell? ⟨gb172, 5, none⟩ = some (.int .i64 a1_5) := (blk_cell BK172.out 5).trans rfl
     have hcz18_6 : wc.cell? ⟨gb172, 6, none⟩ = some (.int .i64 a1_6) := (blk_cell BK172.out 6).trans rfl
     have hcz18_7 : wc.cell? ⟨gb172, 7, none⟩ = some (.int .i64 a1_7) := (blk_cell BK172.out 7).trans rfl
     have hfz18_0 := blk_frozen BK172.out 0
     have hfz18_1 := blk_frozen BK172.out 1
     have hfz18_2 := blk_frozen BK172.out 2
     have hfz18_3 := blk_frozen BK172.out 3
     have hfz18_4 := blk_frozen BK172.out 4
     have hfz18_5 := blk_frozen BK172.out 5
     have hfz18_6 := blk_frozen BK172.out 6
     have hfz18_7 := blk_frozen BK172.out 7
     go_wp2_with (first | ((with_reducible refine gate_dst (N := 25) rfl ?_); refine Kd.R_lit (Kd.int .i64) _ 3 ?hg (N := 25) ?hd (xs := ([0] : List Int)) (inner := [.int .i64 0]) (ok := fun _ => True) (okp := fun _ => True) ?hr ?hp (fun _ hk => hk) trivial (Below.refl _ _) (Nat.le_refl _) (by simp) ?_; (case hd => rfl); (case hg => rfl); (case hr => first | (go_simp; done) | (go_simp; rfl)); (case hp => exact (Reps.one (show Kd.M (Kd.int .i64) _ _ _ 0 [.int .i64 0] from rfl) (Reps.none _ _))); intro v182 w19 ho20 hb hg_ hnew_; clear hg_ hnew_; (first | rw [← Ny181.out] at ho20 | (simp only [Int.reduceToNat] at ho20; rw [← Ny181.out] at ho20)); have n0_ := Aside0.mk (Kd.R_lower (Kd.R_newM (M := fun k_ => (w.heap.size ≤ k_)) ho20 (below_size (by repeat (first | (with_reducible first | exact HB.out | apply below_alloc | apply pw_below_drewN | apply below_drew1 | refine below_set ?_ GE172.out) | exact HB.out))) (fun k_ h_ => h_)) (below_size (by repeat (first | (with_reducible first | exact HB.out | apply below_alloc | apply pw_below_drewN | apply below_drew1 | refine below_set ?_ GE172.out) | exact HB.out)))); have n1_ := Aside0.mk (blk_below (g := gb172) (o := .cells #[.int .i64 a1_0, .int .i64 a1_1, .int .i64 a1_2, .int .i64 a1_3, .int .i64 a1_4, .int .i64 a1_5, .int .i64 a1_6, .int .i64 a1_7] 33 (0, 0)) (by (with_reducible repeat (first | refine blk_drewN ?_ _ | refine blk_drew ?_ | refine blk_alloc ?_ _)); exact BK172.out) hb); have n2_ := Aside0.mk (below_step (by repeat (first | (with_reducible first | exact HB.out | apply below_alloc | apply pw_below_drewN | apply below_drew1 | refine below_set ?_ GE172.out) | exact HB.out)) hb); clear BK172; clear HB; have HO183 := n0_; have BK172 := n1_; have HB := n2_; clear n0_ n1_ n2_; clear hb ho20; obtain ⟨Ao21, co21, eo21⟩ := Kd.R_slice HO183.out; subst eo21) | ((with_reducible refine gate_callee (f := 53) rfl ?_); refine goesL_ (some 26) rfl rfl Tryd.func53 (by kernel_rfl) rfl #[.int .i64 50, .int .i64 0, .slice Ao21 y181.length co21] rfl (by (try simp only [List.map_toArray, List.map_cons, List.map_nil]); first | done | rfl | (simp only [List.length_drop, List.length_take]; rfl)) ?_; (with_reducible refine (history_told.calls 50 0 (fun k_ => some k_ = (.slice Ao21 y181.length co21 : Value).ownBlock) _ _ y181 t184 _ ?side1 A17.out).mono ?_); (case side1 => exact Kd.R_V (Kd.R_tight rfl (Kd.R_types (HO183.out) BK172.out (by decide)))); rintro e w22 ⟨v185, rfl, ho0, hb⟩; refine ⟨_, rfl, ?_⟩; have n0_ := Aside0.mk (Kd.R_below (by (with_reducible repeat (first | apply Kd.R_alloc | apply Kd.R_drewN | apply Kd.R_drew)); exact HO183.out) hb); have n1_ := Aside0.mk (Kd.N_lower (Kd.N_mono (ok' := fun k_ => (w.heap.size ≤ k_) ∧ k_ ≠ gb172) ho0 (fun k_ hk_ => ⟨Or.elim hk_ (fun hs_ => ((Kd.R_types (HO183.out) BK172.out (by decide)).1 k_ hs_.symm).1.1) (fun hn_ => (Nat.le_trans (below_size (by repeat (first | (with_reducible first | exact HB.out | apply below_alloc | apply pw_below_drewN | apply below_drew1 | refine below_set ?_ GE172.out) | exact HB.out))) hn_)), Or.elim hk_ (fun hs_ => ((Kd.R_types (HO183.out) BK172.out (by decide)).1 k_ hs_.symm).2) (fun hn_ => (Kd.freshB (g := gb172) (o := .cells #[.int .i64 a1_0, .int .i64 a1_1, .int .i64 a1_2, .int .i64 a1_3, .int .i64 a1_4, .int .i64 a1_5, .int .i64 a1_6, .int .i64 a1_7] 33 (0, 0)) (by (with_reducible repeat (first | refine blk_drewN ?_ _ | refine blk_drew ?_ | refine blk_alloc ?_ _)); exact BK172.out) k_ hn_))⟩)) (below_size (by repeat (first | (with_reducible first | exact HB.out | apply below_alloc | apply pw_below_drewN | apply below_drew1 | refine below_set ?_ GE172.out) | exact HB.out)))); have n2_ := Aside0.mk (blk_below (g := gb172) (o := .cells #[.int .i64 a1_0, .int .i64 a1_1, .int .i64 a1_2, .int .i64 a1_3, .int .i64 a1_4, .int .i64 a1_5, .int .i64 a1_6, .int .i64 a1_7] 33 (0, 0)) (by (with_reducible repeat (first | refine blk_drewN ?_ _ | refine blk_drew ?_ | refine blk_alloc ?_ _)); exact BK172.out) hb); have n3_ := Aside0.mk (below_step (by repeat (first | (with_reducible first | exact HB.out | apply below_alloc | apply pw_below_drewN | apply below_drew1 | refine below_set ?_ GE172.out) | exact HB.out)) hb); clear HO183; clear BK172; clear HB; have HO183 := n0_; have HO186 := n1_; have BK172 := n2_; have HB := n3_; clear n0_ n1_ n2_ n3_; (try clear hb); (try clear hb2); (try clear hk); (try clear hi); (try clear ho0)))
     go_ret
     exact ⟨_, by first | rfl | (simp [errW_none, errW_some] <;> rfl) | (simp [*, errW_none, errW_some] <;> rfl), by (with_reducible repeat (first | apply Kd.N_alloc | apply Kd.N_drewN | apply Kd.N_drew)); exact Kd.N_mono HO186.out (fun _ hk => hk.1), by repeat (first | (with_reducible first | exact HB.out | apply below_alloc | apply pw_below_drewN | apply below_drew1 | refine below_set ?_ GE172.out) | exact HB.out)⟩
    ·rw [if_neg c16] at H
     have c16b0 : (a1_1 == 1) = false := beq_eq_false_iff_ne.mpr c16
     have c16b1 : (a1_1 != 1) = true := bne_iff_ne.mpr c16
     by_cases c23 : a1_1 = 2
     ·rw [if_pos c23] at H
      have c23b0 : (a1_1 == 2) = true := beq_iff_eq.mpr c23
      have c23b1 : (a1_1 != 2) = false := bne_eq_false_iff_eq.mpr c23
      clear c23
      by_cases c24 : 0 < (l0.length : Int)
      ·rw [if_pos c24] at H
       have c24b0 : decide (0 < (l0.length : Int)) = true := decide_eq_true c24
       have c24b1 : decide (0 < l0.length) = true := decide_eq_true (by omega)
       clear c24
       by_cases c25 : (rd l0 0) = 0
       ·rw [if_pos c25] at H
        have c25b0 : ((rd l0 0) == 0) = true := beq_iff_eq.mpr c25
        have c25b1 : ((rd l0 0) != 0) = false := bne_eq_false_iff_eq.mpr c25
        clear c25
        obtain ⟨y188, hy188⟩ : ∃ y_ : List Int, y_ = (([0] : List Int)) := ⟨_, rfl⟩
        replace H : ((history_told.f 0 0 y188).bind fun t191 => (some t191)) = some r := by first | (rw [hy188]; with_reducible exact H) | (have H2_ := (Option.bind_some _ _).symm.trans H; rw [hy188]; with_reducible exact H2_) | (have H2_ := (Option.bind_some _ _).symm.trans H; with_reducible exact H2_) | with_reducible exact H | (rw [hy188]; exact H) | exact H
        have Ny188 := Aside0.mk hy188
        clear hy188
        replace H := Option.bind_eq_some_iff.mp H
        obtain ⟨t191, A260, H⟩ := H
        replace H : (some t191) = some r := H
        have A26 := Aside0.mk A260
        clear A260
        obtain rfl := Option.some.inj H
        have hcz27_0 : wc.cell? ⟨gb172, 0, none⟩ = some (.int .i64 a1_0) := (blk_cell BK172.out 0).trans rfl
        have hcz27_1 : wc.cell? ⟨gb172, 1, none⟩ = some (.int .i64 a1_1) := (blk_cell BK172.out 1).trans rfl
        have hcz27_2 : wc.cell? ⟨gb172, 2, none⟩ = some (.int .i64 a1_2) := (blk_cell BK172.out 2).trans rfl
        have hcz27_3 : wc.cell? ⟨gb172, 3, none⟩ = some (.int .i64 a1_3) := (blk_cell BK172.out 3).trans rfl
        have hcz27_4 : wc.cell? ⟨gb172, 4, none⟩ = some (.int .i64 a1_4) := (blk_cell BK172.out 4).trans rfl
        have hcz27_5 : wc.cell? ⟨gb172, 5, none⟩ = some (.int .i64 a1_5) := (blk_cell BK172.out 5).trans rfl
        have hcz27_6 : wc.cell? ⟨gb172, 6, none⟩ = some (.int .i64 a1_6) := (blk_cell BK172.out 6).trans rfl
        have hcz27_7 : wc.cell? ⟨gb172, 7, none⟩ = some (.int .i64 a1_7) := (blk_cell BK172.out 7).trans rfl
        have hfz27_0 := blk_frozen BK172.out 0
        have hfz27_1 := blk_frozen BK172.out 1
        have hfz27_2 := blk_frozen BK172.out 2
        have hfz27_3 := blk_frozen BK172.out 3
        have hfz27_4 := blk_frozen BK172.out 4
        have hfz27_5 := blk_frozen BK172.out 5
        have hfz27_6 := blk_frozen BK172.out 6
        have hfz27_7 := blk_frozen BK172.out 7
        have p187 : 0 ≤ (0 : Int) := (by omega)
        have q187 : 0 < (l0.length : Int) := of_decide_eq_true (by first | (with_reducible assumption) | assumption)
        obtain ⟨ad187, e187, hx187_0⟩ := Kd.at_int HR0.out 0 p187 q187
        cases e187
        have qi187 : (0 < l0.length) = True := eq_true (by omega)
        (try rw [show ((0 : Int)).toNat = 0 from rfl] at hx187_0)
        (try rw [Addr.add_zero'] at hx187_0)
        replace hx187_0 := (HB.out.cell (World.block_lt_of_cell? w _ hx187_0)).trans hx187_0
        replace p187 := eq_true p187
        replace q187 := eq_true q187
        go_wp2_with (first | ((with_reducible refine gate_dst (N := 37) rfl ?_); refine Kd.R_lit (Kd.int .i64) _ 3 ?hg (N := 37) ?hd (xs := ([0] : List Int)) (inner := [.int .i64 0]) (ok := fun _ => True) (okp := fun _ => True) ?hr ?hp (fun _ hk => hk) trivial (Below.refl _ _) (Nat.le_refl _) (by simp) ?_; (case hd => rfl); (case hg => rfl); (case hr => first | (go_simp; done) | (go_simp; rfl)); (case hp => exact (Reps.one (show Kd.M (Kd.int .i64) _ _ _ 0 [.int .i64 0] from rfl) (Reps.none _ _))); intro v189 w28 ho29 hb hg_ hnew_; clear hg_ hnew_; (first | rw [← Ny188.out] at ho29 | (simp only [Int.reduceToNat] at ho29; rw [← Ny188.out] at ho29)); have n0_ := Aside0.mk (Kd.R_lower (Kd.R_newM (M := fun k_ => (w.heap.size ≤ k_)) ho29 (below_size (by repeat (first | (with_reducible first | exact HB.out | apply below_alloc | apply pw_below_drewN | apply below_drew1 | refine below_set ?_ GE172.out) | exact HB.out))) (fun k_ h_ => h_)) (below_size (by repeat (first | (with_reducible first | exact HB.out | apply below_alloc | apply pw_below_drewN | apply below_drew1 | refine below_set ?_ GE172.out) | exact HB.out)))); have n1_ := Aside0.mk (blk_below (g := gb172) (o := .cells #[.int .i64 a1_0, .int .i64 a1_1, .int .i64 a1_2, .int .i64 a1_3, .int .i64 a1_4, .int .i64 a1_5, .int .i64 a1_6, .int .i64 a1_7] 33 (0, 0)) (by (with_reducible repeat (first | refine blk_drewN ?_ _ | refine blk_drew ?_ | refine blk_alloc ?_ _)); exact BK172.out) hb); have n2_ := Aside0.mk (below_step (by repeat (first | (with_reducible first | exact HB.out | apply below_alloc | apply pw_below_drewN | apply below_drew1 | refine below_set ?_ GE172.out) | exact HB.out)) hb); clear BK172; clear HB; have HO190 := n0_; have BK172 := n1_; have HB := n2_; clear n0_ n1_ n2_; clear hb ho29; obtain ⟨Ao30, co30, eo30⟩ := Kd.R_slice HO190.out; subst eo30) | ((with_reducible refine gate_callee (f := 53) rfl ?_); refine goesL_ (some 38) rfl rfl Tryd.func53 (by kernel_rfl) rfl #[.int .i64 0, .int .i64 0, .slice Ao30 y188.length co30] rfl (by (try simp only [List.map_toArray, List.map_cons, List.map_nil]); first | done | rfl | (simp only [List.length_drop, List.length_take]; rfl)) ?_; (with_reducible refine (history_told.calls 0 0 (fun k_ => some k_ = (.slice Ao30 y188.length co30 : Value).ownBlock) _ _ y188 t191 _ ?side1 A26.out).mono ?_); (case side1 => exact Kd.R_V (Kd.R_tight rfl (Kd.R_types (HO190.out) BK172.out (by decide)))); rintro e w31 ⟨v192, rfl, ho0, hb⟩; refine ⟨_, rfl, ?_⟩; have n0_ := Aside0.mk (Kd.R_below (by (with_reducible repeat (first | apply Kd.R_alloc | apply Kd.R_drewN | apply Kd.R_drew)); exact HO190.out) hb); have n1_ := Aside0.mk (Kd.N_lower (Kd.N_mono (ok' := fun k_ => (w.heap.size ≤ k_) ∧ k_ ≠ gb172) ho0 (fun k_ hk_ => ⟨Or.elim hk_ (fun hs_ => ((Kd.R_types (HO190.out) BK172.out (by decide)).1 k_ hs_.symm).1.1) (fun hn_ => (Nat.le_trans (below_size (by repeat (first | (with_reducible first | exact HB.out | apply below_alloc | apply pw_below_drewN | apply below_drew1 | refine below_set ?_ GE172.out) | exact HB.out))) hn_)), Or.elim hk_ (fun hs_ => ((Kd.R_types (HO190.out) BK172.out (by decide)).1 k_ hs_.symm).2) (fun hn_ => (Kd.freshB (g := gb172) (o := .cells #[.int .i64 a1_0, .int .i64 a1_1, .int .i64 a1_2, .int .i64 a1_3, .int .i64 a1_4, .int .i64 a1_5, .int .i64 a1_6, .int .i64 a1_7] 33 (0, 0)) (by (with_reducible repeat (first | refine blk_drewN ?_ _ | refine blk_drew ?_ | refine blk_alloc ?_ _)); exact BK172.out) k_ hn_))⟩)) (below_size (by repeat (first | (with_reducible first | exact HB.out | apply below_alloc | apply pw_below_drewN | apply below_drew1 | refine below_set ?_ GE172.out) | exact HB.out)))); have n2_ := Aside0.mk (blk_below (g := gb172) (o := .cells #[.int .i64 a1_0, .int .i64 a1_1, .int .i64 a1_2, .int .i64 a1_3, .int .i64 a1_4, .int .i64 a1_5, .int .i64 a1_6, .int .i64 a1_7] 33 (0, 0)) (by (with_reducible repeat (first | refine blk_drewN ?_ _ | refine blk_drew ?_ | refine blk_alloc ?_ _)); exact BK172.out) hb); have n3_ := Aside0.mk (below_step (by repeat (first | (with_reducible first | exact HB.out | apply below_alloc | apply pw_below_drewN | apply below_drew1 | refine below_set ?_ GE172.out) | exact HB.out)) hb); clear HO190; clear BK172; clear HB; have HO190 := n0_; have HO193 := n1_; have BK172 := n2_; have HB := n3_; clear n0_ n1_ n2_ n3_; (try clear hb); (try clear hb2); (try clear hk); (try clear hi); (try clear ho0)))
        go_ret
        exact ⟨_, by first | rfl | (simp [errW_none, errW_some] <;> rfl) | (simp [*, errW_none, errW_some] <;> rfl), by (with_reducible repeat (first | apply Kd.N_alloc | apply Kd.N_drewN | apply Kd.N_drew)); exact Kd.N_mono HO193.out (fun _ hk => hk.1), by repeat (first | (with_reducible first | exact HB.out | apply below_alloc | apply pw_below_drewN | apply below_drew1 | refine below_set ?_ GE172.out) | exact HB.out)⟩
       ·rw [if_neg c25] at H
        have c25b0 : ((rd l0 0) == 0) = false := beq_eq_false_iff_ne.mpr c25
        have c25b1 : ((rd l0 0) != 0) = true := bne_iff_ne.mpr c25
        obtain rfl := Option.some.inj H
        have hcz32_0 : wc.cell? ⟨gb172, 0, none⟩ = some (.int .i64 a1_0) := (blk_cell BK172.out 0).trans rfl
        have hcz32_1 : wc.cell? ⟨gb172, 1, none⟩ = some (.int .i64 a1_1) := (blk_cell BK172.out 1).trans rfl
        have hcz32_2 : wc.cell? ⟨gb172, 2, none⟩ = some (.int .i64 a1_2) := (blk_cell BK172.out 2).trans rfl
        have hcz32_3 : wc.cell? ⟨gb172, 3, none⟩ = some (.int .i64 a1_3) := (blk_cell BK172.out 3).trans rfl
        have hcz32_4 : wc.cell? ⟨gb172, 4, none⟩ = some (.int .i64 a1_4) := (blk_cell BK172.out 4).trans rfl
        have hcz32_5 : wc.cell? ⟨gb172, 5, none⟩ = some (.int .i64 a1_5) := (blk_cell BK172.out 5).trans rfl
        have hcz32_6 : wc.cell? ⟨gb172, 6, none⟩ = some (.int .i64 a1_6) := (blk_cell BK172.out 6).trans rfl
        have hcz32_7 : wc.cell? ⟨gb172, 7, none⟩ = some (.int .i64 a1_7) := (blk_cell BK172.out 7).trans rfl
        have hfz32_0 := blk_frozen BK172.out 0
        have hfz32_1 := blk_frozen BK172.out 1
        have hfz32_2 := blk_frozen BK172.out 2
        have hfz32_3 := blk_frozen BK172.out 3
        have hfz32_4 := blk_frozen BK172.out 4
        have hfz32_5 := blk_frozen BK172.out 5
        have hfz32_6 := blk_frozen BK172.out 6
        have hfz32_7 := blk_frozen BK172.out 7
        have p187 : 0 ≤ (0 : Int) := (by omega)
        have q187 : 0 < (l0.length : Int) := of_decide_eq_true (by first | (with_reducible assumption) | assumption)
        obtain ⟨ad187, e187, hx187_0⟩ := Kd.at_int HR0.out 0 p187 q187
        cases e187
        have qi187 : (0 < l0.length) = True := eq_true (by omega)
        (try rw [show ((0 : Int)).toNat = 0 from rfl] at hx187_0)
        (try rw [Addr.add_zero'] at hx187_0)
        replace hx187_0 := (HB.out.cell (World.block_lt_of_cell? w _ hx187_0)).trans hx187_0
        replace p187 := eq_true p187
        replace q187 := eq_true q187
        go_wp2
        go_ret
        exact ⟨_, by first | rfl | (simp [errW_none, errW_some] <;> rfl) | (simp [*, errW_none, errW_some] <;> rfl), by first | exact Kd.S_nil _ _ _ _ _ | exact Kd.N_nil _ _ _ _ _ | exact Kd.V_nil _ _ _ _ _ | exact Kd.Q_nil _ _ _ _ _ | exact Kd.R_nil _ _ _ _ _, by repeat (first | (with_reducible first | exact HB.out | apply below_alloc | apply pw_below_drewN | apply below_drew1 | refine below_set ?_ GE172.out) | exact HB.out)⟩
      ·rw [if_neg c24] at H
       exact absurd H (by simp)
     ·rw [if_neg c23] at H
      have c23b0 : (a1_1 == 2) = false := beq_eq_false_iff_ne.mpr c23
      have c23b1 : (a1_1 != 2) = true := bne_iff_ne.mpr c23
      obtain rfl := Option.some.inj H
      have hcz33_0 : wc.cell? ⟨gb172, 0, none⟩ = some (.int .i64 a1_0) := (blk_cell BK172.out 0).trans rfl
      have hcz33_1 : wc.cell? ⟨gb172, 1, none⟩ = some (.int .i64 a1_1) := (blk_cell BK172.out 1).trans rfl
      have hcz33_2 : wc.cell? ⟨gb172, 2, none⟩ = some (.int .i64 a1_2) := (blk_cell BK172.out 2).trans rfl
      have hcz33_3 : wc.cell? ⟨gb172, 3, none⟩ = some (.int .i64 a1_3) := (blk_cell BK172.out 3).trans rfl
      have hcz33_4 : wc.cell? ⟨gb172, 4, none⟩ = some (.int .i64 a1_4) := (blk_cell BK172.out 4).trans rfl
      have hcz33_5 : wc.cell? ⟨gb172, 5, none⟩ = some (.int .i64 a1_5) := (blk_cell BK172.out 5).trans rfl
      have hcz33_6 : wc.cell? ⟨gb172, 6, none⟩ = some (.int .i64 a1_6) := (blk_cell BK172.out 6).trans rfl
      have hcz33_7 : wc.cell? ⟨gb172, 7, none⟩ = some (.int .i64 a1_7) := (blk_cell BK172.out 7).trans rfl
      have hfz33_0 := blk_frozen BK172.out 0
      have hfz33_1 := blk_frozen BK172.out 1
      have hfz33_2 := blk_frozen BK172.out 2
      have hfz33_3 := blk_frozen BK172.out 3
      have hfz33_4 := blk_frozen BK172.out 4
      have hfz33_5 := blk_frozen BK172.out 5
      have hfz33_6 := blk_frozen BK172.out 6
      have hfz33_7 := blk_frozen BK172.out 7
      go_wp2
      go_ret
      exact ⟨_, by first | rfl | (simp [errW_none, errW_some] <;> rfl) | (simp [*, errW_none, errW_some] <;> rfl), by first | exact Kd.S_nil _ _ _ _ _ | exact Kd.N_nil _ _ _ _ _ | exact Kd.V_nil _ _ _ _ _ | exact Kd.Q_nil _ _ _ _ _ | exact Kd.R_nil _ _ _ _ _, by repeat (first | (with_reducible first | exact HB.out | apply below_alloc | apply pw_below_drewN | apply below_drew1 | refine below_set ?_ GE172.out) | exact HB.out)⟩

/-! ### history_modulo: function 55 -/
def history_modulo.f (a0 : Int) (a1 : Int) : Option (Int) := if a1 = 0 then (none) else (some (Int.tmod (wrap64 ((Int.tmod a0 a1) + a1)) a1))
set_option maxHeartbeats 8000000 in
set_option maxRecDepth 100000 in
theorem history_modulo.calls (a0 : Int) (a1 : Int) (r : Int) (w : World) (h : history_modulo.f a0 a1 = some r) :
  Calls Tryd.prog 55 #[.int .i64 a0, .int .i64 a1] w fun e w' => e = .returned (.int .i64 r) ∧ Drawn0 w w' := by
 have H : (if a1 = 0 then (none) else (some (Int.tmod (wrap64 ((Int.tmod a0 a1) + a1)) a1))) = some r := h
 clear h
 by_cases c3 : a1 = 0
 ·rw [if_pos c3] at H
  exact absurd H (by simp)
 ·rw [if_neg c3] at H
  have c3b0 : (a1 == 0) = false := beq_eq_false_iff_ne.mpr c3
  have c3b1 : (a1 != 0) = true := bne_iff_ne.mpr c3
  obtain rfl := Option.some.inj H
  go_enter Tryd.func55, Tryd.ntmps55
  go_wp2
  go_ret
  exact ⟨by first | rfl | (simp; done) | (simp [*]; done), by repeat (first | exact Drawn0.refl _ | apply Drawn0.step)⟩

end
end Go.Proofs.YtakhipedjccpkaaDoor.PH
