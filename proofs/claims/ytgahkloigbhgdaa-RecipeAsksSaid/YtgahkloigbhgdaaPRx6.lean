import Derived.Test.YtgahkloigbhgdaaPRx0
namespace Go.Proofs.Ytgahkloigbhgdaa.PR
open Go.RowKit Go.Proofs.YtgahkloigbhgdaaW.PrintWords Go.Proofs.YtgahkloigbhgdaaW.PrintLast Go.Proofs.YtgahkloigbhgdaaW.PrintMore
noncomputable section
attribute [local go_sem] max2_int min2_int max_two min_two max_three min_three max_four min_four   -- for this text's walks alone
set_option linter.unusedVariables false
set_option linter.unusedSimpArgs false

/-! ### butlerlaw11_table: function 23 -/
mutual
def butlerlaw11_table.l0 : Nat → List (S43) → List (List Bool) → Int → Option ((List (List Bool)))
 | 0, _, _, _ => none
 | k + 1, x0, x3, x4 => if x4 < (x0.length : Int) then (if 0 ≤ (x0.length : Int) then (if ((x0.length : Int) : Int).toNat ≤ 281474976710656 then (butlerlaw11_table.l1 k x0 x3 x4 (List.replicate ((x0.length : Int) : Int).toNat false) 0) else (none)) else (none)) else (butlerlaw11_table.l2 k x0 x3 0)
def butlerlaw11_table.l1 : Nat → List (S43) → List (List Bool) → Int → List Bool → Int → Option ((List (List Bool)))
 | 0, _, _, _, _, _ => none
 | k + 1, x0, x3, x4, x5, x6 => if 0 ≤ x4 then (if x4 < (x0.length : Int) then (if x6 < (((rd_T43 x0 x4).f0).length : Int) then (if 0 ≤ x6 then (if 0 ≤ (rd ((rd_T43 x0 x4).f0) x6) then (if (rd ((rd_T43 x0 x4).f0) x6) < (x5.length : Int) then (butlerlaw11_table.l1 k x0 x3 x4 (x5.set ((rd ((rd_T43 x0 x4).f0) x6) : Int).toNat true) (wrap64 (x6 + 1))) else (none)) else (none)) else (none)) else (if x3.length < 5864062014805 then (butlerlaw11_table.l0 k x0 (x3 ++ [x5]) (wrap64 (x4 + 1))) else (none))) else (none)) else (none)
def butlerlaw11_table.l2 : Nat → List (S43) → List (List Bool) → Int → Option ((List (List Bool)))
 | 0, _, _, _ => none
 | k + 1, x0, x3, x7 => if x7 < (x0.length : Int) then (butlerlaw11_table.l3 k x0 x3 x7 0) else (some x3)
def butlerlaw11_table.l3 : Nat → List (S43) → List (List Bool) → Int → Int → Option ((List (List Bool)))
 | 0, _, _, _, _ => none
 | k + 1, x0, x3, x7, x8 => if x8 < (x0.length : Int) then (butlerlaw11_table.l4 k x0 x3 x7 x8 0) else (butlerlaw11_table.l2 k x0 x3 (wrap64 (x7 + 1)))
def butlerlaw11_table.l4 : Nat → List (S43) → List (List Bool) → Int → Int → Int → Option ((List (List Bool)))
 | 0, _, _, _, _, _ => none
 | k + 1, x0, x3, x7, x8, x9 => if x9 < (x0.length : Int) then (if 0 ≤ x8 then (if x8 < (x3.length : Int) then (if 0 ≤ x7 then (if x7 < ((rd_L5 x3 x8).length : Int) then (if rdOf false (rd_L5 x3 x8) x7 = true then (if 0 ≤ x9 then (if x9 < ((rd_L5 x3 x8).length : Int) then (if rdOf false (rd_L5 x3 x8) x9 = true then (butlerlaw11_table.l4 k x0 (x3.set (x8 : Int).toNat ((rd_L5 x3 x8).set (x9 : Int).toNat true)) x7 x8 (wrap64 (x9 + 1))) else (if x7 < (x3.length : Int) then (if x9 < ((rd_L5 x3 x7).length : Int) then (butlerlaw11_table.l4 k x0 (x3.set (x8 : Int).toNat ((rd_L5 x3 x8).set (x9 : Int).toNat (rdOf false (rd_L5 x3 x7) x9))) x7 x8 (wrap64 (x9 + 1))) else (none)) else (none))) else (none)) else (none)) else (butlerlaw11_table.l3 k x0 x3 x7 (wrap64 (x8 + 1)))) else (none)) else (none)) else (none)) else (none)) else (butlerlaw11_table.l3 k x0 x3 x7 (wrap64 (x8 + 1)))
end
def butlerlaw11_table.f (k : Nat) (l0 : List (S43)) : Option ((List (List Bool))) := butlerlaw11_table.l0 k l0 ([] : List (List Bool)) 0
theorem butlerlaw11_table.mono_l : ∀ k, (∀ y0 y1 y2, LeO (butlerlaw11_table.l0 k y0 y1 y2) (butlerlaw11_table.l0 (k + 1) y0 y1 y2)) ∧ (∀ y0 y1 y2 y3 y4, LeO (butlerlaw11_table.l1 k y0 y1 y2 y3 y4) (butlerlaw11_table.l1 (k + 1) y0 y1 y2 y3 y4)) ∧ (∀ y0 y1 y2, LeO (butlerlaw11_table.l2 k y0 y1 y2) (butlerlaw11_table.l2 (k + 1) y0 y1 y2)) ∧ (∀ y0 y1 y2 y3, LeO (butlerlaw11_table.l3 k y0 y1 y2 y3) (butlerlaw11_table.l3 (k + 1) y0 y1 y2 y3)) ∧ (∀ y0 y1 y2 y3 y4, LeO (butlerlaw11_table.l4 k y0 y1 y2 y3 y4) (butlerlaw11_table.l4 (k + 1) y0 y1 y2 y3 y4))
 | 0 => ⟨fun _ _ _ r h => by simp [butlerlaw11_table.l0] at h, fun _ _ _ _ _ r h => by simp [butlerlaw11_table.l1] at h, fun _ _ _ r h => by simp [butlerlaw11_table.l2] at h, fun _ _ _ _ r h => by simp [butlerlaw11_table.l3] at h, fun _ _ _ _ _ r h => by simp [butlerlaw11_table.l4] at h⟩
 | k + 1 => by
  obtain ⟨ih0, ih1, ih2, ih3, ih4⟩ := butlerlaw11_table.mono_l k
  refine ⟨?_, ?_, ?_, ?_, ?_⟩
  ·intro y0 y1 y2
   unfold butlerlaw11_table.l0
   repeat' first
   | (with_reducible exact ih0 _ _ _)
   | (with_reducible exact ih1 _ _ _ _ _)
   | (with_reducible exact ih2 _ _ _)
   | (with_reducible exact ih3 _ _ _ _)
   | (with_reducible exact ih4 _ _ _ _ _)
   | (with_reducible exact LeO.refl _)
   | (with_reducible exact LeO.none _)
   | (with_reducible refine LeO.ite ?_ ?_)
   | (with_reducible refine LeO.bind ?_ (fun _ => ?_))
   | exact ih0 _ _ _
   | exact ih1 _ _ _ _ _
   | exact ih2 _ _ _
   | exact ih3 _ _ _ _
   | exact ih4 _ _ _ _ _
   | exact LeO.none _
   | refine LeO.ite ?_ ?_
   | refine LeO.bind ?_ (fun _ => ?_)
  ·intro y0 y1 y2 y3 y4
   unfold butlerlaw11_table.l1
   repeat' first
   | (with_reducible exact ih0 _ _ _)
   | (with_reducible exact ih1 _ _ _ _ _)
   | (with_reducible exact ih2 _ _ _)
   | (with_reducible exact ih3 _ _ _ _)
   | (with_reducible exact ih4 _ _ _ _ _)
   | (with_reducible exact LeO.refl _)
   | (with_reducible exact LeO.none _)
   | (with_reducible refine LeO.ite ?_ ?_)
   | (with_reducible refine LeO.bind ?_ (fun _ => ?_))
   | exact ih0 _ _ _
   | exact ih1 _ _ _ _ _
   | exact ih2 _ _ _
   | exact ih3 _ _ _ _
   | exact ih4 _ _ _ _ _
   | exact LeO.none _
   | refine LeO.ite ?_ ?_
   | refine LeO.bind ?_ (fun _ => ?_)
  ·intro y0 y1 y2
   unfold butlerlaw11_table.l2
   repeat' first
   | (with_reducible exact ih0 _ _ _)
   | (with_reducible exact ih1 _ _ _ _ _)
   | (with_reducible exact ih2 _ _ _)
   | (with_reducible exact ih3 _ _ _ _)
   | (with_reducible exact ih4 _ _ _ _ _)
   | (with_reducible exact LeO.refl _)
   | (with_reducible exact LeO.none _)
   | (with_reducible refine LeO.ite ?_ ?_)
   | (with_reducible refine LeO.bind ?_ (fun _ => ?_))
   | exact ih0 _ _ _
   | exact ih1 _ _ _ _ _
   | exact ih2 _ _ _
   | exact ih3 _ _ _ _
   | exact ih4 _ _ _ _ _
   | exact LeO.none _
   | refine LeO.ite ?_ ?_
   | refine LeO.bind ?_ (fun _ => ?_)
  ·intro y0 y1 y2 y3
   unfold butlerlaw11_table.l3
   repeat' first
   | (with_reducible exact ih0 _ _ _)
   | (with_reducible exact ih1 _ _ _ _ _)
   | (with_reducible exact ih2 _ _ _)
   | (with_reducible exact ih3 _ _ _ _)
   | (with_reducible exact ih4 _ _ _ _ _)
   | (with_reducible exact LeO.refl _)
   | (with_reducible exact LeO.none _)
   | (with_reducible refine LeO.ite ?_ ?_)
   | (with_reducible refine LeO.bind ?_ (fun _ => ?_))
   | exact ih0 _ _ _
   | exact ih1 _ _ _ _ _
   | exact ih2 _ _ _
   | exact ih3 _ _ _ _
   | exact ih4 _ _ _ _ _
   | exact LeO.none _
   | refine LeO.ite ?_ ?_
   | refine LeO.bind ?_ (fun _ => ?_)
  ·intro y0 y1 y2 y3 y4
   unfold butlerlaw11_table.l4
   repeat' first
   | (with_reducible exact ih0 _ _ _)
   | (with_reducible exact ih1 _ _ _ _ _)
   | (with_reducible exact ih2 _ _ _)
   | (with_reducible exact ih3 _ _ _ _)
   | (with_reducible exact ih4 _ _ _ _ _)
   | (with_reducible exact LeO.refl _)
   | (with_reducible exact LeO.none _)
   | (with_reducible refine LeO.ite ?_ ?_)
   | (with_reducible refine LeO.bind ?_ (fun _ => ?_))
   | exact ih0 _ _ _
   | exact ih1 _ _ _ _ _
   | exact ih2 _ _ _
   | exact ih3 _ _ _ _
   | exact ih4 _ _ _ _ _
   | exact LeO.none _
   | refine LeO.ite ?_ ?_
   | refine LeO.bind ?_ (fun _ => ?_)
theorem butlerlaw11_table.mono : ∀ a0 k, LeO (butlerlaw11_table.f k a0) (butlerlaw11_table.f (k + 1) a0) := by
 intro a0 k
 obtain ⟨ih0, ih1, ih2, ih3, ih4⟩ := butlerlaw11_table.mono_l k
 unfold butlerlaw11_table.f
 repeat' first
   | (with_reducible exact ih0 _ _ _)
   | (with_reducible exact ih1 _ _ _ _ _)
   | (with_reducible exact ih2 _ _ _)
   | (with_reducible exact ih3 _ _ _ _)
   | (with_reducible exact ih4 _ _ _ _ _)
   | (with_reducible exact LeO.refl _)
   | (with_reducible exact LeO.none _)
   | (with_reducible refine LeO.ite ?_ ?_)
   | (with_reducible refine LeO.bind ?_ (fun _ => ?_))
   | exact ih0 _ _ _
   | exact ih1 _ _ _ _ _
   | exact ih2 _ _ _
   | exact ih3 _ _ _ _
   | exact ih4 _ _ _ _ _
   | exact LeO.none _
   | refine LeO.ite ?_ ?_
   | refine LeO.bind ?_ (fun _ => ?_)
def butlerlaw11_table.T20 : Bool × List (List Nat × List Nat) := (true, [([], []), ([], []), ([0, 1], [0, 1]), ([2], [2]), ([], []), ([], []), ([], []), ([5, 6], [5, 6]), ([7], [7]), ([], []), ([8, 9], [8, 9]), ([10], [10]), ([11], [11]), ([12], [12]), ([12], [12]), ([13, 14, 12], [12, 13, 14]), ([15, 12], [12, 15]), ([12], [12]), ([16, 17, 12], [12, 16, 17]), ([18, 12], [12, 18]), ([12, 19], [12, 19]), ([3, 4, 0, 1, 2, 3, 4, 5, 6, 7, 8, 9, 10, 11, 12, 13, 14, 15, 16, 17, 18, 19, 20], [3, 4]), ([21, 20, 12, 0, 1, 2, 3, 4, 5, 6, 7, 8, 9, 10, 11, 12, 13, 14, 15, 16, 17, 18, 19, 20], [20, 21])])
def butlerlaw11_table.B20 : List Nat := [0, 0, 3, 7, 0, 0, 0, 96, 224, 0, 992, 2016, 4064, 8160, 8160, 32736, 65504, 8160, 262112, 524256, 1048544, 2097151, 4194303]
theorem butlerlaw11_table.tab20 : rtab .any (opsOf Try.f23 20) = butlerlaw11_table.T20 := by kernel_rfl
theorem butlerlaw11_table.bits20 : waitsOk butlerlaw11_table.T20.2 butlerlaw11_table.B20 = true := by kernel_rfl
set_option maxHeartbeats 8000000 in
set_option maxRecDepth 100000 in
theorem butlerlaw11_table.calls (k : Nat) (A0 : Option Addr) (c0 : Nat) (l0 : List (S43)) (r : List (List Bool)) (w : World) (hr0 : Kd.C k43 w A0 l0.length l0) (hc0 : l0.length ≤ c0) (h : butlerlaw11_table.f k l0 = some r) :
  Calls Try.prog 23 #[.slice A0 l0.length c0] w fun e w' => ∃ v0_ : Value, e = .returned (v0_) ∧ Kd.S (Kd.slice 4 Kd.bool) 41 w' w.heap.size (fun _ => True) v0_ r ∧ Below w.heap.size w w' := by
 have HR0 := Aside0.mk hr0
 have HC0 := Aside0.mk hc0
 clear hr0 hc0
 have HB := Aside0.mk (Below.refl w.heap.size w)
 have H : (butlerlaw11_table.l0 k l0 ([] : List (List Bool)) 0) = some r := h
 clear h
 have H' := Aside0.mk H
 clear H
 go_enter Try.func23, Try.ntmps23
 go_wp2
 go_loopg [3, 4] k (fun kq v3 v4 w' => ∃ (x3_1 : List (List Bool)) (x4_1 : Int), v4 = .int .i64 x4_1 ∧ Aside0 (butlerlaw11_table.l0 kq l0 x3_1 x4_1 = some r) ∧ Aside0 (kq ≤ k) ∧ Aside0 (Kd.S (Kd.slice 4 Kd.bool) 41 w' w.heap.size (fun _ => True) v3 x3_1) ∧ Aside0 (Below w.heap.size w w'))
 case atStart => exact ⟨(([] : List (List Bool))), (0), (by first | rfl | (simp; done) | (simp [*]; done)), H', ⟨Nat.le_refl _⟩, ⟨by first | exact Kd.S_nil _ _ _ _ _ | exact Kd.N_nil _ _ _ _ _ | exact Kd.V_nil _ _ _ _ _ | exact Kd.Q_nil _ _ _ _ _ | exact Kd.R_nil _ _ _ _ _⟩, ⟨by repeat (first | (with_reducible first | exact HB.out | apply below_alloc | apply pw_below_drewN | apply below_drew1) | exact HB.out)⟩⟩
 case round =>
  clear H'
  obtain ⟨x3_1, x4_1, rfl, HA, HK1, HO_3, HB⟩ := hrel
  cases gk with
  | zero => exact absurd HA.out (by simp [butlerlaw11_table.l0])
  | succ k1 =>
   have H := HA.out
   clear HA
   simp only [butlerlaw11_table.l0] at H
   by_cases c2 : x4_1 < (l0.length : Int)
   ·rw [if_pos c2] at H
    have c2b0 : decide (x4_1 < (l0.length : Int)) = true := decide_eq_true c2
    clear c2
    by_cases c3 : 0 ≤ (l0.length : Int)
    ·rw [if_pos c3] at H
     have c3b0 := eq_true c3
     have c3b1 : decide (0 ≤ (l0.length : Int)) = true := decide_eq_true c3
     clear c3
     by_cases c4 : ((l0.length : Int) : Int).toNat ≤ 281474976710656
     ·rw [if_pos c4] at H
      have c4b0 := eq_true c4
      have c4b1 : decide (((l0.length : Int) : Int).toNat ≤ 281474976710656) = true := decide_eq_true c4
      clear c4
      obtain ⟨y188, hy188⟩ : ∃ y_ : List Bool, y_ = (List.replicate ((l0.length : Int) : Int).toNat false) := ⟨_, rfl⟩
      replace H : (butlerlaw11_table.l1 k1 l0 x3_1 x4_1 y188 0) = some r := by first | (rw [hy188]; with_reducible exact H) | (have H2_ := (Option.bind_some _ _).symm.trans H; rw [hy188]; with_reducible exact H2_) | (have H2_ := (Option.bind_some _ _).symm.trans H; with_reducible exact H2_) | with_reducible exact H | (rw [hy188]; exact H) | exact H
      have Ny188 := Aside0.mk hy188
      clear hy188
      have H' := Aside0.mk H
      clear H
      go_wp2_with (first | ((with_reducible refine gate_dst (N := 18) rfl ?_); refine Kd.R_make Kd.bool _ 4 rfl (N := 18) rfl 41 _ _ rfl (l0.length : Int) rfl rfl Try.underlying41 (.bool false) 1 info4 rfl (by decide) (by omega) false (ok := fun _ => True) (okp := fun _ => True) rfl (fun _ hk => hk) trivial (of_decide_eq_true (by first | (with_reducible assumption) | assumption)) (Nat.le_trans (Nat.mul_le_mul_right _ (of_decide_eq_true (by first | (with_reducible assumption) | assumption) : (l0.length : Int).toNat ≤ 281474976710656)) (by omega)) (Below.refl _ _) (Nat.le_refl _) ?_; intro v189 w5 ho6 hb hg_ hnew_; clear hg_ hnew_; (first | rw [← Ny188.out] at ho6 | (simp only [Int.reduceToNat] at ho6; rw [← Ny188.out] at ho6)); have n0_ := Aside0.mk (Kd.S_elder' (by (with_reducible repeat (first | apply Kd.S_alloc | apply Kd.S_drewN | apply Kd.S_drew)); exact HO_3.out) (Kd.R_base ho6) hb); have n1_ := Aside0.mk (Kd.R_lower ho6 (below_size (by repeat (first | (with_reducible first | exact HB.out | apply below_alloc | apply pw_below_drewN | apply below_drew1) | exact HB.out)))); have n2_ := Aside0.mk (below_step (by repeat (first | (with_reducible first | exact HB.out | apply below_alloc | apply pw_below_drewN | apply below_drew1) | exact HB.out)) hb); clear HO_3; clear HB; have HO_3 := n0_; have HO190 := n1_; have HB := n2_; clear n0_ n1_ n2_; clear hb ho6))
      go_loopg [6] k1 (fun kq v6 w' => ∃ (x5_2 : List Bool) (x6_2 : Int), v6 = .int .i64 x6_2 ∧ Aside0 (butlerlaw11_table.l1 kq l0 x3_1 x4_1 x5_2 x6_2 = some r) ∧ Aside0 (kq ≤ k1) ∧ Aside0 (Kd.S (Kd.slice 4 Kd.bool) 41 w' w.heap.size (fun k_ => some k_ ≠ (v189 : Value).ownBlock) u3 x3_1) ∧ Aside0 (Kd.R Kd.bool 4 w' w.heap.size (fun _ => True) v189 x5_2) ∧ Aside0 (Below w.heap.size w w'))
      case atStart => exact ⟨(y188), (0), (by first | rfl | (simp; done) | (simp [*]; done)), H', ⟨Nat.le_refl _⟩, ⟨by (with_reducible repeat (first | apply Kd.S_alloc | apply Kd.S_drewN | apply Kd.S_drew)); exact Kd.S_mono HO_3.out (fun _ hk => hk.2)⟩, ⟨by (with_reducible repeat (first | apply Kd.R_alloc | apply Kd.R_drewN | apply Kd.R_drew)); exact HO190.out⟩, ⟨by repeat (first | (with_reducible first | exact HB.out | apply below_alloc | apply pw_below_drewN | apply below_drew1) | exact HB.out)⟩⟩
      case round =>
       clear H'
       try clear c2
       try clear c2b0
       try clear p2
       try clear c3
       try clear c3b0
       try clear c3b1
       try clear c4
       try clear c4b0
       try clear c4b1
       obtain ⟨x5_2, x6_2, rfl, HA, HK2, HO_3, HO_5, HB⟩ := hrel
       cases gk with
       | zero => exact absurd HA.out (by simp [butlerlaw11_table.l1])
       | succ k2 =>
        have H := HA.out
        clear HA
        simp only [butlerlaw11_table.l1] at H
        by_cases c7 : 0 ≤ x4_1
        ·rw [if_pos c7] at H
         have c7b0 : decide (0 ≤ x4_1) = true := decide_eq_true c7
         clear c7
         by_cases c8 : x4_1 < (l0.length : Int)
         ·rw [if_pos c8] at H
          have c8b0 : decide (x4_1 < (l0.length : Int)) = true := decide_eq_true c8
          clear c8
          by_cases c9 : x6_2 < (((rd_T43 l0 x4_1).f0).length : Int)
          ·rw [if_pos c9] at H
           have c9b0 : decide (x6_2 < (((rd_T43 l0 x4_1).f0).length : Int)) = true := decide_eq_true c9
           clear c9
           by_cases c10 : 0 ≤ x6_2
           ·rw [if_pos c10] at H
            have c10b0 : decide (0 ≤ x6_2) = true := decide_eq_true c10
            clear c10
            by_cases c11 : 0 ≤ (rd ((rd_T43 l0 x4_1).f0) x6_2)
            ·rw [if_pos c11] at H
             have c11b0 : decide (0 ≤ (rd ((rd_T43 l0 x4_1).f0) x6_2)) = true := decide_eq_true c11
             clear c11
             by_cases c12 : (rd ((rd_T43 l0 x4_1).f0) x6_2) < (x5_2.length : Int)
             ·rw [if_pos c12] at H
              have c12b0 : decide ((rd ((rd_T43 l0 x4_1).f0) x6_2) < (x5_2.length : Int)) = true := decide_eq_true c12
              clear c12
              obtain ⟨y194, hy194⟩ : ∃ y_ : List Bool, y_ = (x5_2.set ((rd ((rd_T43 l0 x4_1).f0) x6_2) : Int).toNat true) := ⟨_, rfl⟩
              replace H : (butlerlaw11_table.l1 k2 l0 x3_1 x4_1 y194 (wrap64 (x6_2 + 1))) = some r := by first | (rw [hy194]; with_reducible exact H) | (have H2_ := (Option.bind_some _ _).symm.trans H; rw [hy194]; with_reducible exact H2_) | (have H2_ := (Option.bind_some _ _).symm.trans H; with_reducible exact H2_) | with_reducible exact H | (rw [hy194]; exact H) | exact H
              have Ny194 := Aside0.mk hy194
              clear hy194
              have H' := Aside0.mk H
              clear H
              have p191 : 0 ≤ (x4_1 : Int) := of_decide_eq_true (by first | (with_reducible assumption) | assumption)
              have q191 : x4_1 < (l0.length : Int) := of_decide_eq_true (by first | (with_reducible assumption) | assumption)
              obtain ⟨ad191, A191_0, c191_0, e191, hx191_0, hx191_1, hx191_2, hx191_3, hx191_4, hl191_0, hi191_0⟩ := at_T43 HR0.out x4_1 p191 q191
              cases e191
              replace hx191_0 := (HB.out.cell (World.block_lt_of_cell? w _ hx191_0)).trans hx191_0
              replace hx191_1 := (HB.out.cell (World.block_lt_of_cell? w _ hx191_1)).trans hx191_1
              replace hx191_2 := (HB.out.cell (World.block_lt_of_cell? w _ hx191_2)).trans hx191_2
              replace hx191_3 := (HB.out.cell (World.block_lt_of_cell? w _ hx191_3)).trans hx191_3
              replace hx191_4 := (HB.out.cell (World.block_lt_of_cell? w _ hx191_4)).trans hx191_4
              have HR191_0 := Aside0.mk hi191_0
              have HC191_0 := Aside0.mk hl191_0
              clear hi191_0 hl191_0
              replace p191 := eq_true p191
              replace q191 := eq_true q191
              have p192 : 0 ≤ (x4_1 : Int) := of_decide_eq_true (by first | (with_reducible assumption) | assumption)
              have q192 : x4_1 < (l0.length : Int) := of_decide_eq_true (by first | (with_reducible assumption) | assumption)
              obtain ⟨ad192, A192_0, c192_0, e192, hx192_0, hx192_1, hx192_2, hx192_3, hx192_4, hl192_0, hi192_0⟩ := at_T43 HR0.out x4_1 p192 q192
              obtain rfl : ad191 = ad192 := (by injection e192)
              replace hx192_0 := (HB.out.cell (World.block_lt_of_cell? w _ hx192_0)).trans hx192_0
              replace hx192_1 := (HB.out.cell (World.block_lt_of_cell? w _ hx192_1)).trans hx192_1
              replace hx192_2 := (HB.out.cell (World.block_lt_of_cell? w _ hx192_2)).trans hx192_2
              replace hx192_3 := (HB.out.cell (World.block_lt_of_cell? w _ hx192_3)).trans hx192_3
              replace hx192_4 := (HB.out.cell (World.block_lt_of_cell? w _ hx192_4)).trans hx192_4
              have HR192_0 := Aside0.mk hi192_0
              have HC192_0 := Aside0.mk hl192_0
              clear hi192_0 hl192_0
              replace p192 := eq_true p192
              replace q192 := eq_true q192
              have ea_ := Option.some.inj (hx191_0.symm.trans hx192_0)
              injection ea_ with ea_ en_ ec_
              subst ea_
              subst ec_
              clear en_
              have p193 : 0 ≤ (x6_2 : Int) := of_decide_eq_true (by first | (with_reducible assumption) | assumption)
              have q193 : x6_2 < (((rd_T43 l0 x4_1).f0).length : Int) := of_decide_eq_true (by first | (with_reducible assumption) | assumption)
              obtain ⟨ad193, e193, hx193_0⟩ := Kd.at_int HR192_0.out x6_2 p193 q193
              cases e193
              replace hx193_0 := (HB.out.cell (World.block_lt_of_cell? w _ hx193_0)).trans hx193_0
              replace p193 := eq_true p193
              replace q193 := eq_true q193
              have p13 : 0 ≤ ((rd ((rd_T43 l0 x4_1).f0) x6_2) : Int) := of_decide_eq_true (by first | (with_reducible assumption) | assumption)
              have q13 : ((rd ((rd_T43 l0 x4_1).f0) x6_2) : Int) < ((x5_2.length : Int) : Int) := of_decide_eq_true (by first | (with_reducible assumption) | assumption)
              obtain ⟨go13, co13, eo13, gb13, gl13, cl13, HG13⟩ := Kd.R_form HO_5.out (by omega)
              (first | cases eo13 | (injection eo13 with ea_ en_ ec_; (first | subst ea_ | (injection ea_ with ea_; subst ea_)); subst ec_; clear en_))
              have GB13 := Aside0.mk gb13
              have GG13 := Aside0.mk HG13
              clear gb13 gl13 HG13
              obtain ⟨hx13_0, hf13_0⟩ := Kd.R_celln false HO_5.out ((rd ((rd_T43 l0 x4_1).f0) x6_2) : Int) p13 q13
              replace p13 := eq_true p13
              replace q13 := eq_true q13
              have HP14 := Kd.R_putg HO_5.out ((rd ((rd_T43 l0 x4_1).f0) x6_2) : Int) true
              go_wp2_with (first | ((with_reducible refine gate_store (t := 4) (p := 38) rfl ?_); refine store_event (t := 4) (p := 38) (v := ?vo_w15) (w1 := (wr.setCell ⟨go13, ((rd ((rd_T43 l0 x4_1).f0) x6_2) : Int).toNat, none⟩ (.bool true))) ?hg ?ho ?hn ?hr ?_; (case ho => rfl); (case hg => rfl); (case hn => rfl); (case hr => first | (go_simp; done) | (go_simp; rfl)); intro w15 hw; have hg : wr.grownBy w15 (some go13) := (by rw [hw]; exact HP14.2); have hp_ : Kd.R Kd.bool 4 w15 w.heap.size (fun _ => True) (.slice (some ⟨go13, 0, none⟩) x5_2.length co13) y194 := (by rw [hw, Ny194.out]; exact HP14.1); clear HP14; have n0_ := Aside0.mk (Kd.S_after (v := (.slice (some ⟨go13, 0, none⟩) x5_2.length co13)) (v1 := (.slice (some ⟨go13, 0, none⟩) x5_2.length co13)) (ok := (fun _ => True)) (by (with_reducible repeat (first | apply Kd.S_alloc | apply Kd.S_drewN | apply Kd.S_drew)); exact Kd.S_mono HO_3.out (fun _ hk => ⟨trivial, hk⟩)) hg (.inl rfl)); have n1_ := Aside0.mk (hp_); have n2_ := Aside0.mk ((by rw [hw]; exact below_set (HB.out) GB13.out : Below w.heap.size w w15)); clear HO_3; clear HO_5; clear HB; have HO_3 := n0_; have HO_5 := n1_; have HB := n2_; clear n0_ n1_ n2_; clear hg hw hp_))
              go_roundg k2
              case measure => have := HK1.out; have := HK2.out; omega
              case rel => exact ⟨(y194), (wrap64 (x6_2 + 1)), (by first | rfl | (simp; done) | (simp [*]; done)), H', ⟨by have := HK1.out; have := HK2.out; omega⟩, ⟨by (with_reducible repeat (first | apply Kd.S_alloc | apply Kd.S_drewN | apply Kd.S_drew)); exact Kd.S_mono HO_3.out (fun _ hk => hk.2)⟩, ⟨by (with_reducible repeat (first | apply Kd.R_alloc | apply Kd.R_drewN | apply Kd.R_drew)); exact HO_5.out⟩, ⟨by repeat (first | (with_reducible first | exact HB.out | apply below_alloc | apply pw_below_drewN | apply below_drew1) | exact HB.out)⟩⟩
             ·rw [if_neg c12] at H
              exact absurd H (by simp)
            ·rw [if_neg c11] at H
             exact absurd H (by simp)
           ·rw [if_neg c10] at H
            exact absurd H (by simp)
          ·rw [if_neg c9] at H
           have c9b0 : decide (x6_2 < (((rd_T43 l0 x4_1).f0).length : Int)) = false := decide_eq_false c9
           clear c9
           by_cases c16 : x3_1.length < 5864062014805
           ·rw [if_pos c16] at H
            have LMc16 := Aside0.mk c16
            clear c16
            obtain ⟨y195, hy195⟩ : ∃ y_ : List (List Bool), y_ = (x3_1 ++ [x5_2]) := ⟨_, rfl⟩
            replace H : (butlerlaw11_table.l0 k2 l0 y195 (wrap64 (x4_1 + 1))) = some r := by first | (rw [hy195]; with_reducible exact H) | (have H2_ := (Option.bind_some _ _).symm.trans H; rw [hy195]; with_reducible exact H2_) | (have H2_ := (Option.bind_some _ _).symm.trans H; with_reducible exact H2_) | with_reducible exact H | (rw [hy195]; exact H) | exact H
            have Ny195 := Aside0.mk hy195
            clear hy195
            have H' := Aside0.mk H
            clear H
            have p191 : 0 ≤ (x4_1 : Int) := of_decide_eq_true (by first | (with_reducible assumption) | assumption)
            have q191 : x4_1 < (l0.length : Int) := of_decide_eq_true (by first | (with_reducible assumption) | assumption)
            obtain ⟨ad191, A191_0, c191_0, e191, hx191_0, hx191_1, hx191_2, hx191_3, hx191_4, hl191_0, hi191_0⟩ := at_T43 HR0.out x4_1 p191 q191
            cases e191
            replace hx191_0 := (HB.out.cell (World.block_lt_of_cell? w _ hx191_0)).trans hx191_0
            replace hx191_1 := (HB.out.cell (World.block_lt_of_cell? w _ hx191_1)).trans hx191_1
            replace hx191_2 := (HB.out.cell (World.block_lt_of_cell? w _ hx191_2)).trans hx191_2
            replace hx191_3 := (HB.out.cell (World.block_lt_of_cell? w _ hx191_3)).trans hx191_3
            replace hx191_4 := (HB.out.cell (World.block_lt_of_cell? w _ hx191_4)).trans hx191_4
            have HR191_0 := Aside0.mk hi191_0
            have HC191_0 := Aside0.mk hl191_0
            clear hi191_0 hl191_0
            replace p191 := eq_true p191
            replace q191 := eq_true q191
            obtain ⟨Ao18, co18, eo18⟩ := Kd.R_slice HO_5.out
            subst eo18
            go_wp2_with (first | ((with_reducible refine gate_builtin (b := .append) (xs := #[.tmp 39, .tmp 41]) rfl ?_); at_builtin; refine Kd.S_append (Kd.slice 4 Kd.bool) (w0 := w) w.heap.size rfl (.tmp 39) (.tmp 41) 39 41 (.slice none 0 0) 24 rfl Try.underlying39 info41 rfl (by decide) (by omega) u3 x3_1 x5_2 [.slice Ao18 x5_2.length co18] (fun _ => True) (fun k_ => some k_ = (.slice Ao18 x5_2.length co18 : Value).ownBlock) rfl rfl ?aP (fun k_ hk_ => ((Kd.R_mono (ok' := fun k_ => ((fun _ => True)) k_ ∧ some k_ ≠ (u3 : Value).ownBlock) (Kd.R_apart' (HO_5.out) (Kd.S_typed HO_3.out) (by decide)) (fun k_ hk => ⟨trivial, hk.2⟩))).1 k_ hk_.symm) ?aF ?aO ?aB ?aS ?aL ?_; (case aP => exact Kd.M_row (Kd.R_mono (Kd.R_tight rfl (Kd.R_mono (ok' := fun k_ => ((fun _ => True)) k_ ∧ some k_ ≠ (u3 : Value).ownBlock) (Kd.R_apart' (HO_5.out) (Kd.S_typed HO_3.out) (by decide)) (fun k_ hk => ⟨trivial, hk.2⟩))) (fun _ h_ => h_))); (case aB => exact (by repeat (first | (with_reducible first | exact HB.out | apply below_alloc | apply pw_below_drewN | apply below_drew1) | exact HB.out))); (case aF => exact (fun _ _ => trivial)); (case aO => exact (by (with_reducible repeat (first | apply Kd.S_alloc | apply Kd.S_drewN | apply Kd.S_drew)); exact Kd.S_mono HO_3.out (fun k_ hk => ⟨trivial, fun e_ => hk e_⟩))); (case aS => exact (below_size (by repeat (first | (with_reducible first | exact HB.out | apply below_alloc | apply pw_below_drewN | apply below_drew1) | exact HB.out)))); (case aL => have := LMc16.out; omega); intro v196 w17 ho hb hg hat; rw [← Ny195.out] at ho; have n0_ := Aside0.mk (hb); have n1_ := Aside0.mk (ho); clear HB; clear HO_3; clear HO_5; have HB := n0_; have HO197 := n1_; clear n0_ n1_; clear ho hb hg hat))
            go_roundg k2
            case measure => have := HK1.out; have := HK2.out; omega
            case rel => exact ⟨(y195), (wrap64 (x4_1 + 1)), (by first | rfl | (simp; done) | (simp [*]; done)), H', ⟨by have := HK1.out; have := HK2.out; omega⟩, ⟨by (with_reducible repeat (first | apply Kd.S_alloc | apply Kd.S_drewN | apply Kd.S_drew)); exact HO197.out⟩, ⟨by repeat (first | (with_reducible first | exact HB.out | apply below_alloc | apply pw_below_drewN | apply below_drew1) | exact HB.out)⟩⟩
           ·rw [if_neg c16] at H
            exact absurd H (by simp)
         ·rw [if_neg c8] at H
          exact absurd H (by simp)
        ·rw [if_neg c7] at H
         exact absurd H (by simp)
     ·rw [if_neg c4] at H
      exact absurd H (by simp)
    ·rw [if_neg c3] at H
     exact absurd H (by simp)
   ·rw [if_neg c2] at H
    have c2b0 : decide (x4_1 < (l0.length : Int)) = false := decide_eq_false c2
    clear c2
    have H' := Aside0.mk H
    clear H
    go_wp2
    go_loopg [7] k1 (fun kq v7 w' => ∃ (x3_2 : List (List Bool)) (x7_2 : Int), v7 = .int .i64 x7_2 ∧ Aside0 (butlerlaw11_table.l2 kq l0 x3_2 x7_2 = some r) ∧ Aside0 (kq ≤ k1) ∧ Aside0 (Kd.S (Kd.slice 4 Kd.bool) 41 w' w.heap.size (fun _ => True) u3 x3_2) ∧ Aside0 (Below w.heap.size w w'))
    case atStart => exact ⟨(x3_1), (0), (by first | rfl | (simp; done) | (simp [*]; done)), H', ⟨Nat.le_refl _⟩, ⟨by (with_reducible repeat (first | apply Kd.S_alloc | apply Kd.S_drewN | apply Kd.S_drew)); exact HO_3.out⟩, ⟨by repeat (first | (with_reducible first | exact HB.out | apply below_alloc | apply pw_below_drewN | apply below_drew1) | exact HB.out)⟩⟩
    case round =>
     clear H'
     try clear c1
     try clear p1
     try clear q1
     try clear hx1
     try clear hf1
     try clear c2
     try clear c2b0
     try clear p2
     try clear c3
     try clear c3b0
     try clear c3b1
     try clear c4
     try clear c4b0
     try clear c4b1
     try clear p6
     try clear c7
     try clear c7b0
     try clear c8
     try clear c8b0
     try clear c9
     try clear c9b0
     try clear c10
     try clear c10b0
     try clear c11
     try clear c11b0
     try clear c12
     try clear c12b0
     try clear p13
     try clear q13
     try clear hx13
     try clear hf13
     try clear c16
     try clear hx13_0
     try clear hx191_0
     try clear hx191_1
     try clear hx191_2
     try clear hx191_3
     try clear hx191_4
     try clear hx192_0
     try clear hx192_1
     try clear hx192_2
     try clear hx192_3
     try clear hx192_4
     try clear hx193_0
     try clear p13
     try clear p191
     try clear p192
     try clear p193
     try clear p2
     try clear q13
     try clear q191
     try clear q192
     try clear q193
     obtain ⟨x3_2, x7_2, rfl, HA, HK2, HO_3, HB⟩ := hrel
     cases gk with
     | zero => exact absurd HA.out (by simp [butlerlaw11_table.l2])
     | succ k2 =>
      have H := HA.out
      clear HA
      simp only [butlerlaw11_table.l2] at H
      by_cases c19 : x7_2 < (l0.length : Int)
      ·rw [if_pos c19] at H
       have c19b0 : decide (x7_2 < (l0.length : Int)) = true := decide_eq_true c19
       clear c19
       have H' := Aside0.mk H
       clear H
       go_wp2
       go_loopg [8] k2 (fun kq v8 w' => ∃ (x3_3 : List (List Bool)) (x8_3 : Int), v8 = .int .i64 x8_3 ∧ Aside0 (butlerlaw11_table.l3 kq l0 x3_3 x7_2 x8_3 = some r) ∧ Aside0 (kq ≤ k2) ∧ Aside0 (Kd.S (Kd.slice 4 Kd.bool) 41 w' w.heap.size (fun _ => True) u3 x3_3) ∧ Aside0 (Below w.heap.size w w'))
       case atStart => exact ⟨(x3_2), (0), (by first | rfl | (simp; done) | (simp [*]; done)), H', ⟨Nat.le_refl _⟩, ⟨by (with_reducible repeat (first | apply Kd.S_alloc | apply Kd.S_drewN | apply Kd.S_drew)); exact HO_3.out⟩, ⟨by repeat (first | (with_reducible first | exact HB.out | apply below_alloc | apply pw_below_drewN | apply below_drew1) | exact HB.out)⟩⟩
       case round =>
        clear H'
        try clear c1
        try clear p1
        try clear q1
        try clear hx1
        try clear hf1
        try clear c2
        try clear c2b0
        try clear p2
        try clear c3
        try clear c3b0
        try clear c3b1
        try clear c4
        try clear c4b0
        try clear c4b1
        try clear p6
        try clear c7
        try clear c7b0
        try clear c8
        try clear c8b0
        try clear c9
        try clear c9b0
        try clear c10
        try clear c10b0
        try clear c11
        try clear c11b0
        try clear c12
        try clear c12b0
        try clear p13
        try clear q13
        try clear hx13
        try clear hf13
        try clear c16
        try clear c19
        try clear c19b0
        try clear p19
        try clear q19
        try clear hx19
        try clear hx13_0
        try clear hx191_0
        try clear hx191_1
        try clear hx191_2
        try clear hx191_3
        try clear hx191_4
        try clear hx192_0
        try clear hx192_1
        try clear hx192_2
        try clear hx192_3
        try clear hx192_4
        try clear hx193_0
        try clear p1
        try clear p13
        try clear p191
        try clear p192
        try clear p193
        try clear p2
        try clear p6
        try clear q1
        try clear q13
        try clear q191
        try clear q192
        try clear q193
        obtain ⟨x3_3, x8_3, rfl, HA, HK3, HO_3, HB⟩ := hrel
        cases gk with
        | zero => exact absurd HA.out (by simp [butlerlaw11_table.l3])
        | succ k3 =>
         have H := HA.out
         clear HA
         simp only [butlerlaw11_table.l3] at H
         by_cases c20 : x8_3 < (l0.length : Int)
         ·rw [if_pos c20] at H
          have c20b0 : decide (x8_3 < (l0.length : Int)) = true := decide_eq_true c20
          clear c20
          have H' := Aside0.mk H
          clear H
          go_wp2
          go_loopg [9] k3 (fun kq v9 w' => ∃ (x3_4 : List (List Bool)) (x9_4 : Int), v9 = .int .i64 x9_4 ∧ Aside0 (butlerlaw11_table.l4 kq l0 x3_4 x7_2 x8_3 x9_4 = some r) ∧ Aside0 (kq ≤ k3) ∧ Aside0 (Kd.S (Kd.slice 4 Kd.bool) 41 w' w.heap.size (fun _ => True) u3 x3_4) ∧ Aside0 (Below w.heap.size w w'))
          case atStart => exact ⟨(x3_3), (0), (by first | rfl | (simp; done) | (simp [*]; done)), H', ⟨Nat.le_refl _⟩, ⟨by (with_reducible repeat (first | apply Kd.S_alloc | apply Kd.S_drewN | apply Kd.S_drew)); exact HO_3.out⟩, ⟨by repeat (first | (with_reducible first | exact HB.out | apply below_alloc | apply pw_below_drewN | apply below_drew1) | exact HB.out)⟩⟩
          case round =>
           clear H'
           try clear c1
           try clear p1
           try clear q1
           try clear hx1
           try clear hf1
           try clear c2
           try clear c2b0
           try clear p2
           try clear c3
           try clear c3b0
           try clear c3b1
           try clear c4
           try clear c4b0
           try clear c4b1
           try clear p6
           try clear c7
           try clear c7b0
           try clear c8
           try clear c8b0
           try clear c9
           try clear c9b0
           try clear c10
           try clear c10b0
           try clear c11
           try clear c11b0
           try clear c12
           try clear c12b0
           try clear p13
           try clear q13
           try clear hx13
           try clear hf13
           try clear c16
           try clear c19
           try clear c19b0
           try clear p19
           try clear q19
           try clear hx19
           try clear c20
           try clear c20b0
           try clear hx13_0
           try clear hx191_0
           try clear hx191_1
           try clear hx191_2
           try clear hx191_3
           try clear hx191_4
           try clear hx192_0
           try clear hx192_1
           try clear hx192_2
           try clear hx192_3
           try clear hx192_4
           try clear hx193_0
           try clear p1
           try clear p13
           try clear p19
           try clear p191
           try clear p192
           try clear p193
           try clear p2
           try clear p6
           try clear q1
           try clear q13
           try clear q19
           try clear q191
           try clear q192
           try clear q193
           obtain ⟨x3_4, x9_4, rfl, HA, HK4, HO_3, HB⟩ := hrel
           cases gk with
           | zero => exact absurd HA.out (by simp [butlerlaw11_table.l4])
           | succ k4 =>
            have H := HA.out
            clear HA
            simp only [butlerlaw11_table.l4] at H
            by_cases c21 : x9_4 < (l0.length : Int)
            ·rw [if_pos c21] at H
             have c21b0 : decide (x9_4 < (l0.length : Int)) = true := decide_eq_true c21
             clear c21
             by_cases c22 : 0 ≤ x8_3
             ·rw [if_pos c22] at H
              have c22b0 : decide (0 ≤ x8_3) = true := decide_eq_true c22
              clear c22
              by_cases c23 : x8_3 < (x3_4.length : Int)
              ·rw [if_pos c23] at H
               have c23b0 : decide (x8_3 < (x3_4.length : Int)) = true := decide_eq_true c23
               clear c23
               by_cases c24 : 0 ≤ x7_2
               ·rw [if_pos c24] at H
                have c24b0 : decide (0 ≤ x7_2) = true := decide_eq_true c24
                clear c24
                by_cases c25 : x7_2 < ((rd_L5 x3_4 x8_3).length : Int)
                ·rw [if_pos c25] at H
                 have c25b0 : decide (x7_2 < ((rd_L5 x3_4 x8_3).length : Int)) = true := decide_eq_true c25
                 clear c25
                 obtain ⟨bq26, hbq26⟩ : ∃ b_ : Bool, b_ = (rdOf false (rd_L5 x3_4 x8_3) x7_2) := ⟨_, rfl⟩
                 replace H : (if bq26 = true then (if 0 ≤ x9_4 then (if x9_4 < ((rd_L5 x3_4 x8_3).length : Int) then (if rdOf false (rd_L5 x3_4 x8_3) x9_4 = true then (butlerlaw11_table.l4 k4 l0 (x3_4.set (x8_3 : Int).toNat ((rd_L5 x3_4 x8_3).set (x9_4 : Int).toNat true)) x7_2 x8_3 (wrap64 (x9_4 + 1))) else (if x7_2 < (x3_4.length : Int) then (if x9_4 < ((rd_L5 x3_4 x7_2).length : Int) then (butlerlaw11_table.l4 k4 l0 (x3_4.set (x8_3 : Int).toNat ((rd_L5 x3_4 x8_3).set (x9_4 : Int).toNat (rdOf false (rd_L5 x3_4 x7_2) x9_4))) x7_2 x8_3 (wrap64 (x9_4 + 1))) else (none)) else (none))) else (none)) else (none)) else (butlerlaw11_table.l3 k4 l0 x3_4 x7_2 (wrap64 (x8_3 + 1)))) = some r := by rw [← hbq26] at H; exact H
                 have Nbq26 := Aside0.mk hbq26
                 clear hbq26
                 by_cases c27 : bq26 = true
                 ·subst c27
                  have H1 : (if 0 ≤ x9_4 then (if x9_4 < ((rd_L5 x3_4 x8_3).length : Int) then (if rdOf false (rd_L5 x3_4 x8_3) x9_4 = true then (butlerlaw11_table.l4 k4 l0 (x3_4.set (x8_3 : Int).toNat ((rd_L5 x3_4 x8_3).set (x9_4 : Int).toNat true)) x7_2 x8_3 (wrap64 (x9_4 + 1))) else (if x7_2 < (x3_4.length : Int) then (if x9_4 < ((rd_L5 x3_4 x7_2).length : Int) then (butlerlaw11_table.l4 k4 l0 (x3_4.set (x8_3 : Int).toNat ((rd_L5 x3_4 x8_3).set (x9_4 : Int).toNat (rdOf false (rd_L5 x3_4 x7_2) x9_4))) x7_2 x8_3 (wrap64 (x9_4 + 1))) else (none)) else (none))) else (none)) else (none)) = some r := by rw [if_pos rfl] at H; exact H
                  clear H
                  have H := H1
                  clear H1
                  by_cases c28 : 0 ≤ x9_4
                  ·rw [if_pos c28] at H
                   have c28b0 : decide (0 ≤ x9_4) = true := decide_eq_true c28
                   clear c28
                   by_cases c29 : x9_4 < ((rd_L5 x3_4 x8_3).length : Int)
                   ·rw [if_pos c29] at H
                    have c29b0 : decide (x9_4 < ((rd_L5 x3_4 x8_3).length : Int)) = true := decide_eq_true c29
                    clear c29
                    obtain ⟨bq30, hbq30⟩ : ∃ b_ : Bool, b_ = (rdOf false (rd_L5 x3_4 x8_3) x9_4) := ⟨_, rfl⟩
                    replace H : (if bq30 = true then (butlerlaw11_table.l4 k4 l0 (x3_4.set (x8_3 : Int).toNat ((rd_L5 x3_4 x8_3).set (x9_4 : Int).toNat true)) x7_2 x8_3 (wrap64 (x9_4 + 1))) else (if x7_2 < (x3_4.length : Int) then (if x9_4 < ((rd_L5 x3_4 x7_2).length : Int) then (butlerlaw11_table.l4 k4 l0 (x3_4.set (x8_3 : Int).toNat ((rd_L5 x3_4 x8_3).set (x9_4 : Int).toNat (rdOf false (rd_L5 x3_4 x7_2) x9_4))) x7_2 x8_3 (wrap64 (x9_4 + 1))) else (none)) else (none))) = some r := by rw [← hbq30] at H; exact H
                    have Nbq30 := Aside0.mk hbq30
                    clear hbq30
                    by_cases c31 : bq30 = true
                    ·subst c31
                     have H1 : (butlerlaw11_table.l4 k4 l0 (x3_4.set (x8_3 : Int).toNat ((rd_L5 x3_4 x8_3).set (x9_4 : Int).toNat true)) x7_2 x8_3 (wrap64 (x9_4 + 1))) = some r := by rw [if_pos rfl] at H; exact H
                     clear H
                     have H := H1
                     clear H1
                     obtain ⟨y203, hy203⟩ : ∃ y_ : List Bool, y_ = ((rd_L5 x3_4 x8_3).set (x9_4 : Int).toNat true) := ⟨_, rfl⟩
                     replace H : (butlerlaw11_table.l4 k4 l0 (x3_4.set (x8_3 : Int).toNat y203) x7_2 x8_3 (wrap64 (x9_4 + 1))) = some r := by first | (rw [hy203]; with_reducible exact H) | (have H2_ := (Option.bind_some _ _).symm.trans H; rw [hy203]; with_reducible exact H2_) | (have H2_ := (Option.bind_some _ _).symm.trans H; with_reducible exact H2_) | with_reducible exact H | (rw [hy203]; exact H) | exact H
                     have Ny203 := Aside0.mk hy203
                     clear hy203
                     obtain ⟨y205, hy205⟩ : ∃ y_ : List (List Bool), y_ = (x3_4.set (x8_3 : Int).toNat y203) := ⟨_, rfl⟩
                     replace H : (butlerlaw11_table.l4 k4 l0 y205 x7_2 x8_3 (wrap64 (x9_4 + 1))) = some r := by first | (rw [hy205]; with_reducible exact H) | (have H2_ := (Option.bind_some _ _).symm.trans H; rw [hy205]; with_reducible exact H2_) | (have H2_ := (Option.bind_some _ _).symm.trans H; with_reducible exact H2_) | with_reducible exact H | (rw [hy205]; exact H) | exact H
                     have Ny205 := Aside0.mk hy205
                     clear hy205
                     have H' := Aside0.mk H
                     clear H
                     obtain ⟨Ao33, co33, eo33⟩ := Kd.S_slice HO_3.out
                     subst eo33
                     have p198 : 0 ≤ (x8_3 : Int) := of_decide_eq_true (by first | (with_reducible assumption) | assumption)
                     have q198 : x8_3 < (x3_4.length : Int) := of_decide_eq_true (by first | (with_reducible assumption) | assumption)
                     obtain ⟨ad198, A198_0, c198_0, e198, hx198_0, hl198_0, hi198_0⟩ := at_L5 (Kd.S_reads' HO_3.out).2.2 x8_3 p198 q198
                     cases e198
                     obtain ⟨ce198, hce198, hMe198, hcc198⟩ := Kd.S_get HO_3.out [] x8_3 p198 (by first | exact q198 | exact of_decide_eq_true (by first | (with_reducible assumption) | assumption) | (have e_ := (Kd.S_reads' HO_3.out).1; omega))
                     obtain ⟨ve198_0, rfl, ge198_0⟩ := hMe198
                     have hv198_0 := hcc198 0 _ rfl
                     rw [Nat.add_zero, show ((Kd.slice 4 Kd.bool)).sz = 1 from rfl, Nat.mul_one] at hv198_0
                     replace hv198_0 := Option.some.inj (hv198_0.symm.trans hx198_0)
                     rw [hv198_0] at ge198_0
                     have HL198_0 := Aside0.mk (show Kd.R Kd.bool 4 _ _ _ _ (rd_L5 x3_4 x8_3) from ge198_0)
                     clear hv198_0 ge198_0
                     have HX198_0 := Aside0.mk hx198_0
                     clear hcc198 hce198
                     have HR198_0 := Aside0.mk hi198_0
                     have HC198_0 := Aside0.mk hl198_0
                     clear hi198_0 hl198_0
                     replace p198 := eq_true p198
                     replace q198 := eq_true q198
                     have p199 : 0 ≤ (x7_2 : Int) := of_decide_eq_true (by first | (with_reducible assumption) | assumption)
                     have q199 : x7_2 < ((rd_L5 x3_4 x8_3).length : Int) := of_decide_eq_true (by first | (with_reducible assumption) | assumption)
                     obtain ⟨ad199, e199, hx199_0⟩ := Kd.at_bool (by repeat (first | (with_reducible exact HR198_0.out) | (with_reducible refine Kd.C_alloc ?_ _) | (with_reducible refine Kd.C_drewN ?_ _) | (with_reducible refine Kd.C_drew ?_) | exact HR198_0.out)) x7_2 p199 q199
                     (try rw [← Nbq26.out] at hx199_0)
                     (try rw [← Nbq30.out] at hx199_0)
                     cases e199
                     replace p199 := eq_true p199
                     replace q199 := eq_true q199
                     try go_wp2
                     have n0_ := Aside0.mk (Kd.S_drew HO_3.out)
                     have n1_ := Aside0.mk (Kd.R_drew HL198_0.out)
                     have n2_ := Aside0.mk (Kd.C_drew HR198_0.out)
                     have n3_ := Aside0.mk (below_drew1 HB.out)
                     clear HO_3
                     clear HL198_0
                     clear HR198_0
                     clear HB
                     have HO_3 := n0_
                     have HL198_0 := n1_
                     have HR198_0 := n2_
                     have HB := n3_
                     clear n0_ n1_ n2_ n3_
                     have p200 : 0 ≤ (x8_3 : Int) := of_decide_eq_true (by first | (with_reducible assumption) | assumption)
                     have q200 : x8_3 < (x3_4.length : Int) := of_decide_eq_true (by first | (with_reducible assumption) | assumption)
                     obtain ⟨ad200, A200_0, c200_0, e200, hx200_0, hl200_0, hi200_0⟩ := at_L5 (Kd.S_reads' HO_3.out).2.2 x8_3 p200 q200
                     obtain rfl : ad198 = ad200 := (by injection e200)
                     obtain ⟨ce200, hce200, hMe200, hcc200⟩ := Kd.S_get HO_3.out [] x8_3 p200 (by first | exact q200 | exact of_decide_eq_true (by first | (with_reducible assumption) | assumption) | (have e_ := (Kd.S_reads' HO_3.out).1; omega))
                     obtain ⟨ve200_0, rfl, ge200_0⟩ := hMe200
                     have hv200_0 := hcc200 0 _ rfl
                     rw [Nat.add_zero, show ((Kd.slice 4 Kd.bool)).sz = 1 from rfl, Nat.mul_one] at hv200_0
                     replace hv200_0 := Option.some.inj (hv200_0.symm.trans hx200_0)
                     rw [hv200_0] at ge200_0
                     have HL200_0 := Aside0.mk (show Kd.R Kd.bool 4 _ _ _ _ (rd_L5 x3_4 x8_3) from ge200_0)
                     clear hv200_0 ge200_0
                     have HX200_0 := Aside0.mk hx200_0
                     clear hcc200 hce200
                     have HR200_0 := Aside0.mk hi200_0
                     have HC200_0 := Aside0.mk hl200_0
                     clear hi200_0 hl200_0
                     replace p200 := eq_true p200
                     replace q200 := eq_true q200
                     have p201 : 0 ≤ (x8_3 : Int) := of_decide_eq_true (by first | (with_reducible assumption) | assumption)
                     have q201 : x8_3 < (x3_4.length : Int) := of_decide_eq_true (by first | (with_reducible assumption) | assumption)
                     obtain ⟨ad201, A201_0, c201_0, e201, hx201_0, hl201_0, hi201_0⟩ := at_L5 (Kd.S_reads' HO_3.out).2.2 x8_3 p201 q201
                     obtain rfl : ad198 = ad201 := (by injection e201)
                     obtain ⟨ce201, hce201, hMe201, hcc201⟩ := Kd.S_get HO_3.out [] x8_3 p201 (by first | exact q201 | exact of_decide_eq_true (by first | (with_reducible assumption) | assumption) | (have e_ := (Kd.S_reads' HO_3.out).1; omega))
                     obtain ⟨ve201_0, rfl, ge201_0⟩ := hMe201
                     have hv201_0 := hcc201 0 _ rfl
                     rw [Nat.add_zero, show ((Kd.slice 4 Kd.bool)).sz = 1 from rfl, Nat.mul_one] at hv201_0
                     replace hv201_0 := Option.some.inj (hv201_0.symm.trans hx201_0)
                     rw [hv201_0] at ge201_0
                     have HL201_0 := Aside0.mk (show Kd.R Kd.bool 4 _ _ _ _ (rd_L5 x3_4 x8_3) from ge201_0)
                     clear hv201_0 ge201_0
                     have HX201_0 := Aside0.mk hx201_0
                     clear hcc201 hce201
                     have HR201_0 := Aside0.mk hi201_0
                     have HC201_0 := Aside0.mk hl201_0
                     clear hi201_0 hl201_0
                     replace p201 := eq_true p201
                     replace q201 := eq_true q201
                     have ea_ := Option.some.inj (hx200_0.symm.trans hx201_0)
                     injection ea_ with ea_ en_ ec_
                     subst ea_
                     subst ec_
                     clear en_
                     have p202 : 0 ≤ (x9_4 : Int) := of_decide_eq_true (by first | (with_reducible assumption) | assumption)
                     have q202 : x9_4 < ((rd_L5 x3_4 x8_3).length : Int) := of_decide_eq_true (by first | (with_reducible assumption) | assumption)
                     obtain ⟨ad202, e202, hx202_0⟩ := Kd.at_bool (by repeat (first | (with_reducible exact HR201_0.out) | (with_reducible refine Kd.C_alloc ?_ _) | (with_reducible refine Kd.C_drewN ?_ _) | (with_reducible refine Kd.C_drew ?_) | exact HR201_0.out)) x9_4 p202 q202
                     (try rw [← Nbq26.out] at hx202_0)
                     (try rw [← Nbq30.out] at hx202_0)
                     cases e202
                     replace p202 := eq_true p202
                     replace q202 := eq_true q202
                     have p32 : 0 ≤ (x9_4 : Int) := of_decide_eq_true (by first | (with_reducible assumption) | assumption)
                     have q32 : (x9_4 : Int) < (((rd_L5 x3_4 x8_3).length : Int) : Int) := of_decide_eq_true (by first | (with_reducible assumption) | assumption)
                     obtain ⟨go32, co32, eo32, gb32, gl32, cl32, HG32⟩ := Kd.R_form HL200_0.out (by omega)
                     (first | cases eo32 | (injection eo32 with ea_ en_ ec_; (first | subst ea_ | (injection ea_ with ea_; subst ea_)); subst ec_; clear en_))
                     have GB32 := Aside0.mk gb32
                     have GG32 := Aside0.mk HG32
                     clear gb32 gl32 HG32
                     (first | simp only [add_plain] at hx202_0 | skip)
                     obtain ⟨hx32_0, hf32_0⟩ := Kd.R_celln false HL200_0.out (x9_4 : Int) p32 q32
                     replace p32 := eq_true p32
                     replace q32 := eq_true q32
                     have hq35 : (x8_3 : Int) < (x3_4.length : Int) := (by have h_ : (x8_3 : Int) < ((x3_4.length : Int) : Int) := of_decide_eq_true (by first | (with_reducible assumption) | assumption); first | exact h_ | (have e_ := (Kd.S_reads' HO_3.out).1; omega) | simpa only [List.length_set, List.length_set] using h_)
                     obtain ⟨oki35, ce35, hcl35, hM35, hcc35, hok35, hbk35⟩ := Kd.S_borrow HO_3.out [] (x8_3 : Int) (of_decide_eq_true (by first | (with_reducible assumption) | assumption)) hq35
                     obtain ⟨ve35_0, rfl, ge35_0⟩ := hM35
                     have hv35 := hcc35 0 _ rfl
                     rw [Nat.add_zero, show ((Kd.slice 4 Kd.bool)).sz = 1 from rfl, Nat.mul_one] at hv35
                     replace hv35 := Option.some.inj (hv35.symm.trans HX200_0.out)
                     subst hv35
                     clear hcc35 hcl35
                     replace ge35_0 := (show Kd.R Kd.bool 4 _ _ _ _ (rd_L5 x3_4 x8_3) from ge35_0)
                     have HP35 := Kd.R_putg ge35_0 (x9_4 : Int) true
                     rw [← Ny203.out] at HP35
                     have HS35 := hbk35 HP35.2 (fun k_ e_ => by injection e_ with e_; subst e_; exact ge35_0.1 _ rfl) (x' := y203) (Kd.M_row HP35.1)
                     rw [← Ny205.out] at HS35
                     have HQ35 := Aside0.mk HS35
                     clear HP35 HS35 hbk35 hok35
                     refine start_ (n := 23) (S := fun w' => w'.cell? (ad198.add (x8_3).toNat) = some (.slice (some ⟨go32, 0, none⟩) (rd_L5 x3_4 x8_3).length c200_0) ∧ w'.cell? (ad198.add (x8_3).toNat) = some (.slice (some ⟨go32, 0, none⟩) (rd_L5 x3_4 x8_3).length c200_0) ∧ w'.cell? ⟨go32, (x9_4).toNat, none⟩ = some (.bool true)) (ds := [22]) #[false, false, false, false, false, false, false, false, false, false, false, false, false, false, false, false, false, false, false, false, false, false, false] (by kernel_rfl) rfl rfl ⟨hx200_0, hx201_0, hx202_0⟩ (fun hHeld => ?_); refine with_tabW butlerlaw11_table.tab20 butlerlaw11_table.bits20 (fun HT_ HW_ => ?_)
                     generalize wr.drew = w34 at HO_3 HL198_0 HR198_0 HB GG32 HL200_0 HL201_0 HQ35 HR200_0 HR201_0 HX200_0 HX201_0 hf32_0 hx200_0 hx201_0 hx202_0 hx32_0 hHeld ⊢
                     refine pure_ (i := 0) (N := some 70) (v := ?_) (a' := ?_) #[true, false, false, false, false, false, false, false, false, false, false, false, false, false, false, false, false, false, false, false, false, false, false] rfl rfl (any_of HT_.out (by kernel_rfl)) (fun _ _ _ h => h) (Or.inl ⟨by rfl, ?_⟩) ?_ ?_
                     rotate_left
                     ·intro w'
                      go_simp
                      with_reducible rfl
                     rotate_left
                     ·simp only [Act.put, List.setIfInBounds_toArray, List.set_cons_zero, List.set_cons_succ, i64_w, i32_w]
                      rfl
                     refine pure_ (i := 1) (N := some 71) (v := ?_) (a' := ?_) #[true, true, false, false, false, false, false, false, false, false, false, false, false, false, false, false, false, false, false, false, false, false, false] rfl rfl (any_of HT_.out (by kernel_rfl)) (fun _ _ _ h => h) (Or.inl ⟨by rfl, ?_⟩) ?_ ?_
                     rotate_left
                     ·intro w'
                      go_simp
                      with_reducible rfl
                     rotate_left
                     ·simp only [Act.put, List.setIfInBounds_toArray, List.set_cons_zero, List.set_cons_succ, i64_w, i32_w]
                      rfl
                     refine pure_ (i := 2) (N := some 72) (v := ?_) (a' := ?_) #[true, true, true, false, false, false, false, false, false, false, false, false, false, false, false, false, false, false, false, false, false, false, false] rfl rfl (any_of HT_.out (by kernel_rfl)) (fun _ _ _ h => h) (Or.inl ⟨by rfl, ?_⟩) ?_ ?_
                     rotate_left
                     ·intro w'
                      go_simp
                      with_reducible rfl
                     rotate_left
                     ·simp only [Act.put, List.setIfInBounds_toArray, List.set_cons_zero, List.set_cons_succ, i64_w, i32_w]
                      rfl
                     refine pure_ (i := 4) (N := some 74) (v := ?_) (a' := ?_) #[true, true, true, false, true, false, false, false, false, false, false, false, false, false, false, false, false, false, false, false, false, false, false] rfl rfl (any_of HT_.out (by kernel_rfl)) (fun _ _ _ h => h) (Or.inl ⟨by rfl, ?_⟩) ?_ ?_
                     rotate_left
                     ·intro w'
                      go_simp
                      with_reducible rfl
                     rotate_left
                     ·simp only [Act.put, List.setIfInBounds_toArray, List.set_cons_zero, List.set_cons_succ, i64_w, i32_w]
                      rfl
                     refine pure_ (i := 5) (N := some 75) (v := ?_) (a' := ?_) #[true, true, true, false, true, true, false, false, false, false, false, false, false, false, false, false, false, false, false, false, false, false, false] rfl rfl (any_of HT_.out (by kernel_rfl)) (fun _ _ _ h => h) (Or.inl ⟨by rfl, ?_⟩) ?_ ?_
                     rotate_left
                     ·intro w'
                      go_simp
                      with_reducible rfl
                     rotate_left
                     ·simp only [Act.put, List.setIfInBounds_toArray, List.set_cons_zero, List.set_cons_succ, i64_w, i32_w]
                      rfl
                     refine pure_ (i := 6) (N := some 76) (v := ?_) (a' := ?_) #[true, true, true, false, true, true, true, false, false, false, false, false, false, false, false, false, false, false, false, false, false, false, false] rfl rfl (any_of HT_.out (by kernel_rfl)) (fun _ _ _ h => h) (Or.inl ⟨by rfl, ?_⟩) ?_ ?_
                     rotate_left
                     ·intro w'
                      go_simp
                      with_reducible rfl
                     rotate_left
                     ·simp only [Act.put, List.setIfInBounds_toArray, List.set_cons_zero, List.set_cons_succ, i64_w, i32_w]
                      rfl
                     refine pure_ (i := 7) (N := some 77) (v := ?_) (a' := ?_) #[true, true, true, false, true, true, true, true, false, false, false, false, false, false, false, false, false, false, false, false, false, false, false] rfl rfl (any_of HT_.out (by kernel_rfl)) (fun _ _ _ h => h) (Or.inl ⟨by rfl, ?_⟩) ?_ ?_
                     rotate_left
                     ·intro w'
                      go_simp
                      with_reducible rfl
                     rotate_left
                     ·simp only [Act.put, List.setIfInBounds_toArray, List.set_cons_zero, List.set_cons_succ, i64_w, i32_w]
                      rfl
                     refine pure_ (i := 9) (N := some 79) (v := ?_) (a' := ?_) #[true, true, true, false, true, true, true, true, false, true, false, false, false, false, false, false, false, false, false, false, false, false, false] rfl rfl (any_of HT_.out (by kernel_rfl)) (fun _ _ _ h => h) (Or.inl ⟨by rfl, ?_⟩) ?_ ?_
                     rotate_left
                     ·intro w'
                      go_simp
                      with_reducible rfl
                     rotate_left
                     ·simp only [Act.put, List.setIfInBounds_toArray, List.set_cons_zero, List.set_cons_succ, i64_w, i32_w]
                      rfl
                     refine take_ (i := 3) (N := some 73) (v := ?_) (a' := ?_) #[true, true, true, true, true, true, true, true, false, true, false, false, false, false, false, false, false, false, false, false, false, false, false] rfl rfl (take_ofW HT_.out HW_.out (by kernel_rfl)) (fun _ _ _ h => h) (Or.inl ⟨by rfl, ?_⟩) hHeld ?_ ?_
                     rotate_left
                     ·rintro w' ⟨s0, s1, s2⟩
                      go_simp
                      with_reducible rfl
                     rotate_left
                     ·simp only [Act.put, List.setIfInBounds_toArray, List.set_cons_zero, List.set_cons_succ, i64_w, i32_w]
                      rfl
                     refine take_ (i := 8) (N := some 78) (v := ?_) (a' := ?_) #[true, true, true, true, true, true, true, true, true, true, false, false, false, false, false, false, false, false, false, false, false, false, false] rfl rfl (take_ofW HT_.out HW_.out (by kernel_rfl)) (fun _ _ _ h => h) (Or.inl ⟨by rfl, ?_⟩) hHeld ?_ ?_
                     rotate_left
                     ·rintro w' ⟨s0, s1, s2⟩
                      go_simp
                      with_reducible rfl
                     rotate_left
                     ·simp only [Act.put, List.setIfInBounds_toArray, List.set_cons_zero, List.set_cons_succ, i64_w, i32_w]
                      rfl
                     refine pure_ (i := 10) (N := some 80) (v := ?_) (a' := ?_) #[true, true, true, true, true, true, true, true, true, true, true, false, false, false, false, false, false, false, false, false, false, false, false] rfl rfl (any_of HT_.out (by kernel_rfl)) (fun _ _ _ h => h) (Or.inl ⟨by rfl, ?_⟩) ?_ ?_
                     rotate_left
                     ·intro w'
                      go_simp
                      with_reducible rfl
                     rotate_left
                     ·simp only [Act.put, List.setIfInBounds_toArray, List.set_cons_zero, List.set_cons_succ, i64_w, i32_w]
                      rfl
                     refine take_ (i := 11) (N := some 81) (v := ?_) (a' := ?_) #[true, true, true, true, true, true, true, true, true, true, true, true, false, false, false, false, false, false, false, false, false, false, false] rfl rfl (take_ofW HT_.out HW_.out (by kernel_rfl)) (fun _ _ _ h => h) (Or.inl ⟨by rfl, ?_⟩) hHeld ?_ ?_
                     rotate_left
                     ·rintro w' ⟨s0, s1, s2⟩
                      go_simp
                      with_reducible rfl
                     rotate_left
                     ·simp only [Act.put, List.setIfInBounds_toArray, List.set_cons_zero, List.set_cons_succ, i64_w, i32_w]
                      rfl
                     refine pure_ (i := 12) (N := some 82) (v := ?_) (a' := ?_) #[true, true, true, true, true, true, true, true, true, true, true, true, true, false, false, false, false, false, false, false, false, false, false] rfl rfl (any_of HT_.out (by kernel_rfl)) (fun _ _ _ h => h) (Or.inl ⟨by rfl, ?_⟩) ?_ ?_
                     rotate_left
                     ·intro w'
                      go_simp
                      with_reducible rfl
                     rotate_left
                     ·simp only [Act.put, List.setIfInBounds_toArray, List.set_cons_zero, List.set_cons_succ, i64_w, i32_w]
                      rfl
                     refine pure_ (i := 13) (N := some 83) (v := undef) (a' := ?_) #[true, true, true, true, true, true, true, true, true, true, true, true, true, true, false, false, false, false, false, false, false, false, false] rfl rfl (any_of HT_.out (by kernel_rfl)) (fun _ _ _ h => h) (Or.inr ⟨by rfl, rfl⟩) ?_ ?_
                     rotate_left
                     ·simp only [Act.put, List.setIfInBounds_toArray, List.set_cons_zero, List.set_cons_succ, i64_w, i32_w]
                      rfl
                     refine pure_ (i := 14) (N := some 84) (v := undef) (a' := ?_) #[true, true, true, true, true, true, true, true, true, true, true, true, true, true, true, false, false, false, false, false, false, false, false] rfl rfl (any_of HT_.out (by kernel_rfl)) (fun _ _ _ h => h) (Or.inr ⟨by rfl, rfl⟩) ?_ ?_
                     rotate_left
                     ·simp only [Act.put, List.setIfInBounds_toArray, List.set_cons_zero, List.set_cons_succ, i64_w, i32_w]
                      rfl
                     refine pure_ (i := 15) (N := some 85) (v := undef) (a' := ?_) #[true, true, true, true, true, true, true, true, true, true, true, true, true, true, true, true, false, false, false, false, false, false, false] rfl rfl (any_of HT_.out (by kernel_rfl)) (fun _ _ _ h => h) (Or.inr ⟨by rfl, rfl⟩) ?_ ?_
                     rotate_left
                     ·simp only [Act.put, List.setIfInBounds_toArray, List.set_cons_zero, List.set_cons_succ, i64_w, i32_w]
                      rfl
                     refine pure_ (i := 16) (N := some 86) (v := undef) (a' := ?_) #[true, true, true, true, true, true, true, true, true, true, true, true, true, true, true, true, true, false, false, false, false, false, false] rfl rfl (any_of HT_.out (by kernel_rfl)) (fun _ _ _ h => h) (Or.inr ⟨by rfl, rfl⟩) ?_ ?_
                     rotate_left
                     ·simp only [Act.put, List.setIfInBounds_toArray, List.set_cons_zero, List.set_cons_succ, i64_w, i32_w]
                      rfl
                     refine pure_ (i := 17) (N := some 87) (v := undef) (a' := ?_) #[true, true, true, true, true, true, true, true, true, true, true, true, true, true, true, true, true, true, false, false, false, false, false] rfl rfl (any_of HT_.out (by kernel_rfl)) (fun _ _ _ h => h) (Or.inr ⟨by rfl, rfl⟩) ?_ ?_
                     rotate_left
                     ·simp only [Act.put, List.setIfInBounds_toArray, List.set_cons_zero, List.set_cons_succ, i64_w, i32_w]
                      rfl
                     refine pure_ (i := 18) (N := some 88) (v := undef) (a' := ?_) #[true, true, true, true, true, true, true, true, true, true, true, true, true, true, true, true, true, true, true, false, false, false, false] rfl rfl (any_of HT_.out (by kernel_rfl)) (fun _ _ _ h => h) (Or.inr ⟨by rfl, rfl⟩) ?_ ?_
                     rotate_left
                     ·simp only [Act.put, List.setIfInBounds_toArray, List.set_cons_zero, List.set_cons_succ, i64_w, i32_w]
                      rfl
                     refine pure_ (i := 19) (N := some 89) (v := undef) (a' := ?_) #[true, true, true, true, true, true, true, true, true, true, true, true, true, true, true, true, true, true, true, true, false, false, false] rfl rfl (any_of HT_.out (by kernel_rfl)) (fun _ _ _ h => h) (Or.inr ⟨by rfl, rfl⟩) ?_ ?_
                     rotate_left
                     ·simp only [Act.put, List.setIfInBounds_toArray, List.set_cons_zero, List.set_cons_succ, i64_w, i32_w]
                      rfl
                     refine pure_ (i := 20) (N := some 90) (v := ?_) (a' := ?_) #[true, true, true, true, true, true, true, true, true, true, true, true, true, true, true, true, true, true, true, true, true, false, false] rfl rfl (any_of HT_.out (by kernel_rfl)) (fun _ _ _ h => h) (Or.inl ⟨by rfl, ?_⟩) ?_ ?_
                     rotate_left
                     ·intro w'
                      go_simp
                      with_reducible rfl
                     rotate_left
                     ·simp only [Act.put, List.setIfInBounds_toArray, List.set_cons_zero, List.set_cons_succ, i64_w, i32_w]
                      rfl
                     refine pure_ (i := 21) (N := some 91) (v := ?_) (a' := ?_) #[true, true, true, true, true, true, true, true, true, true, true, true, true, true, true, true, true, true, true, true, true, true, false] rfl rfl (any_of HT_.out (by kernel_rfl)) (fun _ _ _ h => h) (Or.inl ⟨by rfl, ?_⟩) ?_ ?_
                     rotate_left
                     ·intro w'
                      go_simp
                      with_reducible rfl
                     rotate_left
                     ·simp only [Act.put, List.setIfInBounds_toArray, List.set_cons_zero, List.set_cons_succ, i64_w, i32_w]
                      rfl
                     refine last_ (i := 22) (N := none) #[true, true, true, true, true, true, true, true, true, true, true, true, true, true, true, true, true, true, true, true, true, true, true] rfl rfl (one_of HT_.out (by kernel_rfl)) (by decide) (fun K hK => ?_)
                     refine skip_ (w1 := ?_) (by rfl) rfl ?_ ?_
                     rotate_left
                     ·go_simp
                      rfl
                     refine hK.out _ _ ?_
                     clear hK K
                     refine done_ (done_of HT_.out (by kernel_rfl)) ?_
                     try go_wp2
                     go_roundg k4
                     case measure => have := HK1.out; have := HK2.out; have := HK3.out; have := HK4.out; omega
                     case rel => exact ⟨(y205), (wrap64 (x9_4 + 1)), (by first | rfl | (simp; done) | (simp [*]; done)), H', ⟨by have := HK1.out; have := HK2.out; have := HK3.out; have := HK4.out; omega⟩, ⟨by (with_reducible repeat (first | apply Kd.S_alloc | apply Kd.S_drewN | apply Kd.S_drew)); exact HQ35.out⟩, ⟨by repeat (first | (with_reducible first | exact HB.out | apply below_alloc | apply pw_below_drewN | apply below_drew1 | refine below_set ?_ GB32.out) | exact HB.out)⟩⟩
                    ·replace c31 := Bool.eq_false_iff.mpr c31
                     subst c31
                     have H1 : (if x7_2 < (x3_4.length : Int) then (if x9_4 < ((rd_L5 x3_4 x7_2).length : Int) then (butlerlaw11_table.l4 k4 l0 (x3_4.set (x8_3 : Int).toNat ((rd_L5 x3_4 x8_3).set (x9_4 : Int).toNat (rdOf false (rd_L5 x3_4 x7_2) x9_4))) x7_2 x8_3 (wrap64 (x9_4 + 1))) else (none)) else (none)) = some r := by rw [if_neg (show ¬ (false = true) by decide)] at H; exact H
                     clear H
                     have H := H1
                     clear H1
                     by_cases c37 : x7_2 < (x3_4.length : Int)
                     ·rw [if_pos c37] at H
                      have c37b0 : decide (x7_2 < (x3_4.length : Int)) = true := decide_eq_true c37
                      clear c37
                      by_cases c38 : x9_4 < ((rd_L5 x3_4 x7_2).length : Int)
                      ·rw [if_pos c38] at H
                       have c38b0 : decide (x9_4 < ((rd_L5 x3_4 x7_2).length : Int)) = true := decide_eq_true c38
                       clear c38
                       obtain ⟨y208, hy208⟩ : ∃ y_ : List Bool, y_ = ((rd_L5 x3_4 x8_3).set (x9_4 : Int).toNat (rdOf false (rd_L5 x3_4 x7_2) x9_4)) := ⟨_, rfl⟩
                       replace H : (butlerlaw11_table.l4 k4 l0 (x3_4.set (x8_3 : Int).toNat y208) x7_2 x8_3 (wrap64 (x9_4 + 1))) = some r := by first | (rw [hy208]; with_reducible exact H) | (have H2_ := (Option.bind_some _ _).symm.trans H; rw [hy208]; with_reducible exact H2_) | (have H2_ := (Option.bind_some _ _).symm.trans H; with_reducible exact H2_) | with_reducible exact H | (rw [hy208]; exact H) | exact H
                       have Ny208 := Aside0.mk hy208
                       clear hy208
                       obtain ⟨y210, hy210⟩ : ∃ y_ : List (List Bool), y_ = (x3_4.set (x8_3 : Int).toNat y208) := ⟨_, rfl⟩
                       replace H : (butlerlaw11_table.l4 k4 l0 y210 x7_2 x8_3 (wrap64 (x9_4 + 1))) = some r := by first | (rw [hy210]; with_reducible exact H) | (have H2_ := (Option.bind_some _ _).symm.trans H; rw [hy210]; with_reducible exact H2_) | (have H2_ := (Option.bind_some _ _).symm.trans H; with_reducible exact H2_) | with_reducible exact H | (rw [hy210]; exact H) | exact H
                       have Ny210 := Aside0.mk hy210
                       clear hy210
                       have H' := Aside0.mk H
                       clear H
                       obtain ⟨Ao40, co40, eo40⟩ := Kd.S_slice HO_3.out
                       subst eo40
                       have p198 : 0 ≤ (x8_3 : Int) := of_decide_eq_true (by first | (with_reducible assumption) | assumption)
                       have q198 : x8_3 < (x3_4.length : Int) := of_decide_eq_true (by first | (with_reducible assumption) | assumption)
                       obtain ⟨ad198, A198_0, c198_0, e198, hx198_0, hl198_0, hi198_0⟩ := at_L5 (Kd.S_reads' HO_3.out).2.2 x8_3 p198 q198
                       cases e198
                       obtain ⟨ce198, hce198, hMe198, hcc198⟩ := Kd.S_get HO_3.out [] x8_3 p198 (by first | exact q198 | exact of_decide_eq_true (by first | (with_reducible assumption) | assumption) | (have e_ := (Kd.S_reads' HO_3.out).1; omega))
                       obtain ⟨ve198_0, rfl, ge198_0⟩ := hMe198
                       have hv198_0 := hcc198 0 _ rfl
                       rw [Nat.add_zero, show ((Kd.slice 4 Kd.bool)).sz = 1 from rfl, Nat.mul_one] at hv198_0
                       replace hv198_0 := Option.some.inj (hv198_0.symm.trans hx198_0)
                       rw [hv198_0] at ge198_0
                       have HL198_0 := Aside0.mk (show Kd.R Kd.bool 4 _ _ _ _ (rd_L5 x3_4 x8_3) from ge198_0)
                       clear hv198_0 ge198_0
                       have HX198_0 := Aside0.mk hx198_0
                       clear hcc198 hce198
                       have HR198_0 := Aside0.mk hi198_0
                       have HC198_0 := Aside0.mk hl198_0
                       clear hi198_0 hl198_0
                       replace p198 := eq_true p198
                       replace q198 := eq_true q198
                       have p199 : 0 ≤ (x7_2 : Int) := of_decide_eq_true (by first | (with_reducible assumption) | assumption)
                       have q199 : x7_2 < ((rd_L5 x3_4 x8_3).length : Int) := of_decide_eq_true (by first | (with_reducible assumption) | assumption)
                       obtain ⟨ad199, e199, hx199_0⟩ := Kd.at_bool (by repeat (first | (with_reducible exact HR198_0.out) | (with_reducible refine Kd.C_alloc ?_ _) | (with_reducible refine Kd.C_drewN ?_ _) | (with_reducible refine Kd.C_drew ?_) | exact HR198_0.out)) x7_2 p199 q199
                       (try rw [← Nbq26.out] at hx199_0)
                       (try rw [← Nbq30.out] at hx199_0)
                       cases e199
                       replace p199 := eq_true p199
                       replace q199 := eq_true q199
                       try go_wp2
                       have n0_ := Aside0.mk (Kd.S_drew HO_3.out)
                       have n1_ := Aside0.mk (Kd.R_drew HL198_0.out)
                       have n2_ := Aside0.mk (Kd.C_drew HR198_0.out)
                       have n3_ := Aside0.mk (below_drew1 HB.out)
                       clear HO_3
                       clear HL198_0
                       clear HR198_0
                       clear HB
                       have HO_3 := n0_
                       have HL198_0 := n1_
                       have HR198_0 := n2_
                       have HB := n3_
                       clear n0_ n1_ n2_ n3_
                       have p200 : 0 ≤ (x8_3 : Int) := of_decide_eq_true (by first | (with_reducible assumption) | assumption)
                       have q200 : x8_3 < (x3_4.length : Int) := of_decide_eq_true (by first | (with_reducible assumption) | assumption)
                       obtain ⟨ad200, A200_0, c200_0, e200, hx200_0, hl200_0, hi200_0⟩ := at_L5 (Kd.S_reads' HO_3.out).2.2 x8_3 p200 q200
                       obtain rfl : ad198 = ad200 := (by injection e200)
                       obtain ⟨ce200, hce200, hMe200, hcc200⟩ := Kd.S_get HO_3.out [] x8_3 p200 (by first | exact q200 | exact of_decide_eq_true (by first | (with_reducible assumption) | assumption) | (have e_ := (Kd.S_reads' HO_3.out).1; omega))
                       obtain ⟨ve200_0, rfl, ge200_0⟩ := hMe200
                       have hv200_0 := hcc200 0 _ rfl
                       rw [Nat.add_zero, show ((Kd.slice 4 Kd.bool)).sz = 1 from rfl, Nat.mul_one] at hv200_0
                       replace hv200_0 := Option.some.inj (hv200_0.symm.trans hx200_0)
                       rw [hv200_0] at ge200_0
                       have HL200_0 := Aside0.mk (show Kd.R Kd.bool 4 _ _ _ _ (rd_L5 x3_4 x8_3) from ge200_0)
                       clear hv200_0 ge200_0
                       have HX200_0 := Aside0.mk hx200_0
                       clear hcc200 hce200
                       have HR200_0 := Aside0.mk hi200_0
                       have HC200_0 := Aside0.mk hl200_0
                       clear hi200_0 hl200_0
                       replace p200 := eq_true p200
                       replace q200 := eq_true q200
                       have p201 : 0 ≤ (x8_3 : Int) := of_decide_eq_true (by first | (with_reducible assumption) | assumption)
                       have q201 : x8_3 < (x3_4.length : Int) := of_decide_eq_true (by first | (with_reducible assumption) | assumption)
                       obtain ⟨ad201, A201_0, c201_0, e201, hx201_0, hl201_0, hi201_0⟩ := at_L5 (Kd.S_reads' HO_3.out).2.2 x8_3 p201 q201
                       obtain rfl : ad198 = ad201 := (by injection e201)
                       obtain ⟨ce201, hce201, hMe201, hcc201⟩ := Kd.S_get HO_3.out [] x8_3 p201 (by first | exact q201 | exact of_decide_eq_true (by first | (with_reducible assumption) | assumption) | (have e_ := (Kd.S_reads' HO_3.out).1; omega))
                       obtain ⟨ve201_0, rfl, ge201_0⟩ := hMe201
                       have hv201_0 := hcc201 0 _ rfl
                       rw [Nat.add_zero, show ((Kd.slice 4 Kd.bool)).sz = 1 from rfl, Nat.mul_one] at hv201_0
                       replace hv201_0 := Option.some.inj (hv201_0.symm.trans hx201_0)
                       rw [hv201_0] at ge201_0
                       have HL201_0 := Aside0.mk (show Kd.R Kd.bool 4 _ _ _ _ (rd_L5 x3_4 x8_3) from ge201_0)
                       clear hv201_0 ge201_0
                       have HX201_0 := Aside0.mk hx201_0
                       clear hcc201 hce201
                       have HR201_0 := Aside0.mk hi201_0
                       have HC201_0 := Aside0.mk hl201_0
                       clear hi201_0 hl201_0
                       replace p201 := eq_true p201
                       replace q201 := eq_true q201
                       have ea_ := Option.some.inj (hx200_0.symm.trans hx201_0)
                       injection ea_ with ea_ en_ ec_
                       subst ea_
                       subst ec_
                       clear en_
                       have p202 : 0 ≤ (x9_4 : Int) := of_decide_eq_true (by first | (with_reducible assumption) | assumption)
                       have q202 : x9_4 < ((rd_L5 x3_4 x8_3).length : Int) := of_decide_eq_true (by first | (with_reducible assumption) | assumption)
                       obtain ⟨ad202, e202, hx202_0⟩ := Kd.at_bool (by repeat (first | (with_reducible exact HR201_0.out) | (with_reducible refine Kd.C_alloc ?_ _) | (with_reducible refine Kd.C_drewN ?_ _) | (with_reducible refine Kd.C_drew ?_) | exact HR201_0.out)) x9_4 p202 q202
                       (try rw [← Nbq26.out] at hx202_0)
                       (try rw [← Nbq30.out] at hx202_0)
                       cases e202
                       replace p202 := eq_true p202
                       replace q202 := eq_true q202
                       have p206 : 0 ≤ (x7_2 : Int) := of_decide_eq_true (by first | (with_reducible assumption) | assumption)
                       have q206 : x7_2 < (x3_4.length : Int) := of_decide_eq_true (by first | (with_reducible assumption) | assumption)
                       obtain ⟨ad206, A206_0, c206_0, e206, hx206_0, hl206_0, hi206_0⟩ := at_L5 (Kd.S_reads' HO_3.out).2.2 x7_2 p206 q206
                       obtain rfl : ad198 = ad206 := (by injection e206)
                       obtain ⟨ce206, hce206, hMe206, hcc206⟩ := Kd.S_get HO_3.out [] x7_2 p206 (by first | exact q206 | exact of_decide_eq_true (by first | (with_reducible assumption) | assumption) | (have e_ := (Kd.S_reads' HO_3.out).1; omega))
                       obtain ⟨ve206_0, rfl, ge206_0⟩ := hMe206
                       have hv206_0 := hcc206 0 _ rfl
                       rw [Nat.add_zero, show ((Kd.slice 4 Kd.bool)).sz = 1 from rfl, Nat.mul_one] at hv206_0
                       replace hv206_0 := Option.some.inj (hv206_0.symm.trans hx206_0)
                       rw [hv206_0] at ge206_0
                       have HL206_0 := Aside0.mk (show Kd.R Kd.bool 4 _ _ _ _ (rd_L5 x3_4 x7_2) from ge206_0)
                       clear hv206_0 ge206_0
                       have HX206_0 := Aside0.mk hx206_0
                       clear hcc206 hce206
                       have HR206_0 := Aside0.mk hi206_0
                       have HC206_0 := Aside0.mk hl206_0
                       clear hi206_0 hl206_0
                       replace p206 := eq_true p206
                       replace q206 := eq_true q206
                       have p207 : 0 ≤ (x9_4 : Int) := of_decide_eq_true (by first | (with_reducible assumption) | assumption)
                       have q207 : x9_4 < ((rd_L5 x3_4 x7_2).length : Int) := of_decide_eq_true (by first | (with_reducible assumption) | assumption)
                       obtain ⟨ad207, e207, hx207_0⟩ := Kd.at_bool (by repeat (first | (with_reducible exact HR206_0.out) | (with_reducible refine Kd.C_alloc ?_ _) | (with_reducible refine Kd.C_drewN ?_ _) | (with_reducible refine Kd.C_drew ?_) | exact HR206_0.out)) x9_4 p207 q207
                       (try rw [← Nbq26.out] at hx207_0)
                       (try rw [← Nbq30.out] at hx207_0)
                       cases e207
                       replace p207 := eq_true p207
                       replace q207 := eq_true q207
                       have p39 : 0 ≤ (x9_4 : Int) := of_decide_eq_true (by first | (with_reducible assumption) | assumption)
                       have q39 : (x9_4 : Int) < (((rd_L5 x3_4 x8_3).length : Int) : Int) := of_decide_eq_true (by first | (with_reducible assumption) | assumption)
                       obtain ⟨go39, co39, eo39, gb39, gl39, cl39, HG39⟩ := Kd.R_form HL200_0.out (by omega)
                       (first | cases eo39 | (injection eo39 with ea_ en_ ec_; (first | subst ea_ | (injection ea_ with ea_; subst ea_)); subst ec_; clear en_))
                       have GB39 := Aside0.mk gb39
                       have GG39 := Aside0.mk HG39
                       clear gb39 gl39 HG39
                       (first | simp only [add_plain] at hx202_0 | skip)
                       obtain ⟨hx39_0, hf39_0⟩ := Kd.R_celln false HL200_0.out (x9_4 : Int) p39 q39
                       replace p39 := eq_true p39
                       replace q39 := eq_true q39
                       have hq42 : (x8_3 : Int) < (x3_4.length : Int) := (by have h_ : (x8_3 : Int) < ((x3_4.length : Int) : Int) := of_decide_eq_true (by first | (with_reducible assumption) | assumption); first | exact h_ | (have e_ := (Kd.S_reads' HO_3.out).1; omega) | simpa only [List.length_set, List.length_set] using h_)
                       obtain ⟨oki42, ce42, hcl42, hM42, hcc42, hok42, hbk42⟩ := Kd.S_borrow HO_3.out [] (x8_3 : Int) (of_decide_eq_true (by first | (with_reducible assumption) | assumption)) hq42
                       obtain ⟨ve42_0, rfl, ge42_0⟩ := hM42
                       have hv42 := hcc42 0 _ rfl
                       rw [Nat.add_zero, show ((Kd.slice 4 Kd.bool)).sz = 1 from rfl, Nat.mul_one] at hv42
                       replace hv42 := Option.some.inj (hv42.symm.trans HX200_0.out)
                       subst hv42
                       clear hcc42 hcl42
                       replace ge42_0 := (show Kd.R Kd.bool 4 _ _ _ _ (rd_L5 x3_4 x8_3) from ge42_0)
                       have HP42 := Kd.R_putg ge42_0 (x9_4 : Int) (rdOf false (rd_L5 x3_4 x7_2) x9_4)
                       rw [← Ny208.out] at HP42
                       have HS42 := hbk42 HP42.2 (fun k_ e_ => by injection e_ with e_; subst e_; exact ge42_0.1 _ rfl) (x' := y208) (Kd.M_row HP42.1)
                       rw [← Ny210.out] at HS42
                       have HQ42 := Aside0.mk HS42
                       clear HP42 HS42 hbk42 hok42
                       refine start_ (n := 23) (S := fun w' => w'.cell? (ad198.add (x8_3).toNat) = some (.slice (some ⟨go39, 0, none⟩) (rd_L5 x3_4 x8_3).length c200_0) ∧ w'.cell? (ad198.add (x8_3).toNat) = some (.slice (some ⟨go39, 0, none⟩) (rd_L5 x3_4 x8_3).length c200_0) ∧ w'.cell? ⟨go39, (x9_4).toNat, none⟩ = some (.bool false) ∧ w'.cell? (ad198.add (x7_2).toNat) = some (.slice (some ad207) (rd_L5 x3_4 x7_2).length c206_0) ∧ w'.cell? (ad207.add (x9_4).toNat) = some (.bool (rdOf false (rd_L5 x3_4 x7_2) x9_4))) (ds := [22]) #[false, false, false, false, false, false, false, false, false, false, false, false, false, false, false, false, false, false, false, false, false, false, false] (by kernel_rfl) rfl rfl ⟨hx200_0, hx201_0, hx202_0, hx206_0, hx207_0⟩ (fun hHeld => ?_); refine with_tabW butlerlaw11_table.tab20 butlerlaw11_table.bits20 (fun HT_ HW_ => ?_)
                       generalize wr.drew = w41 at HO_3 HL198_0 HR198_0 HB GG39 HL200_0 HL201_0 HL206_0 HQ42 HR200_0 HR201_0 HR206_0 HX200_0 HX201_0 HX206_0 hf39_0 hx200_0 hx201_0 hx202_0 hx206_0 hx207_0 hx39_0 hHeld ⊢
                       refine pure_ (i := 0) (N := some 70) (v := ?_) (a' := ?_) #[true, false, false, false, false, false, false, false, false, false, false, false, false, false, false, false, false, false, false, false, false, false, false] rfl rfl (any_of HT_.out (by kernel_rfl)) (fun _ _ _ h => h) (Or.inl ⟨by rfl, ?_⟩) ?_ ?_
                       rotate_left
                       ·intro w'
                        go_simp
                        with_reducible rfl
                       rotate_left
                       ·simp only [Act.put, List.setIfInBounds_toArray, List.set_cons_zero, List.set_cons_succ, i64_w, i32_w]
                        rfl
                       refine pure_ (i := 1) (N := some 71) (v := ?_) (a' := ?_) #[true, true, false, false, false, false, false, false, false, false, false, false, false, false, false, false, false, false, false, false, false, false, false] rfl rfl (any_of HT_.out (by kernel_rfl)) (fun _ _ _ h => h) (Or.inl ⟨by rfl, ?_⟩) ?_ ?_
                       rotate_left
                       ·intro w'
                        go_simp
                        with_reducible rfl
                       rotate_left
                       ·simp only [Act.put, List.setIfInBounds_toArray, List.set_cons_zero, List.set_cons_succ, i64_w, i32_w]
                        rfl
                       refine pure_ (i := 2) (N := some 72) (v := ?_) (a' := ?_) #[true, true, true, false, false, false, false, false, false, false, false, false, false, false, false, false, false, false, false, false, false, false, false] rfl rfl (any_of HT_.out (by kernel_rfl)) (fun _ _ _ h => h) (Or.inl ⟨by rfl, ?_⟩) ?_ ?_
                       rotate_left
                       ·intro w'
                        go_simp
                        with_reducible rfl
                       rotate_left
                       ·simp only [Act.put, List.setIfInBounds_toArray, List.set_cons_zero, List.set_cons_succ, i64_w, i32_w]
                        rfl
                       refine pure_ (i := 4) (N := some 74) (v := ?_) (a' := ?_) #[true, true, true, false, true, false, false, false, false, false, false, false, false, false, false, false, false, false, false, false, false, false, false] rfl rfl (any_of HT_.out (by kernel_rfl)) (fun _ _ _ h => h) (Or.inl ⟨by rfl, ?_⟩) ?_ ?_
                       rotate_left
                       ·intro w'
                        go_simp
                        with_reducible rfl
                       rotate_left
                       ·simp only [Act.put, List.setIfInBounds_toArray, List.set_cons_zero, List.set_cons_succ, i64_w, i32_w]
                        rfl
                       refine pure_ (i := 5) (N := some 75) (v := ?_) (a' := ?_) #[true, true, true, false, true, true, false, false, false, false, false, false, false, false, false, false, false, false, false, false, false, false, false] rfl rfl (any_of HT_.out (by kernel_rfl)) (fun _ _ _ h => h) (Or.inl ⟨by rfl, ?_⟩) ?_ ?_
                       rotate_left
                       ·intro w'
                        go_simp
                        with_reducible rfl
                       rotate_left
                       ·simp only [Act.put, List.setIfInBounds_toArray, List.set_cons_zero, List.set_cons_succ, i64_w, i32_w]
                        rfl
                       refine pure_ (i := 6) (N := some 76) (v := ?_) (a' := ?_) #[true, true, true, false, true, true, true, false, false, false, false, false, false, false, false, false, false, false, false, false, false, false, false] rfl rfl (any_of HT_.out (by kernel_rfl)) (fun _ _ _ h => h) (Or.inl ⟨by rfl, ?_⟩) ?_ ?_
                       rotate_left
                       ·intro w'
                        go_simp
                        with_reducible rfl
                       rotate_left
                       ·simp only [Act.put, List.setIfInBounds_toArray, List.set_cons_zero, List.set_cons_succ, i64_w, i32_w]
                        rfl
                       refine pure_ (i := 7) (N := some 77) (v := ?_) (a' := ?_) #[true, true, true, false, true, true, true, true, false, false, false, false, false, false, false, false, false, false, false, false, false, false, false] rfl rfl (any_of HT_.out (by kernel_rfl)) (fun _ _ _ h => h) (Or.inl ⟨by rfl, ?_⟩) ?_ ?_
                       rotate_left
                       ·intro w'
                        go_simp
                        with_reducible rfl
                       rotate_left
                       ·simp only [Act.put, List.setIfInBounds_toArray, List.set_cons_zero, List.set_cons_succ, i64_w, i32_w]
                        rfl
                       refine pure_ (i := 9) (N := some 79) (v := ?_) (a' := ?_) #[true, true, true, false, true, true, true, true, false, true, false, false, false, false, false, false, false, false, false, false, false, false, false] rfl rfl (any_of HT_.out (by kernel_rfl)) (fun _ _ _ h => h) (Or.inl ⟨by rfl, ?_⟩) ?_ ?_
                       rotate_left
                       ·intro w'
                        go_simp
                        with_reducible rfl
                       rotate_left
                       ·simp only [Act.put, List.setIfInBounds_toArray, List.set_cons_zero, List.set_cons_succ, i64_w, i32_w]
                        rfl
                       refine take_ (i := 3) (N := some 73) (v := ?_) (a' := ?_) #[true, true, true, true, true, true, true, true, false, true, false, false, false, false, false, false, false, false, false, false, false, false, false] rfl rfl (take_ofW HT_.out HW_.out (by kernel_rfl)) (fun _ _ _ h => h) (Or.inl ⟨by rfl, ?_⟩) hHeld ?_ ?_
                       rotate_left
                       ·rintro w' ⟨s0, s1, s2, s3, s4⟩
                        go_simp
                        with_reducible rfl
                       rotate_left
                       ·simp only [Act.put, List.setIfInBounds_toArray, List.set_cons_zero, List.set_cons_succ, i64_w, i32_w]
                        rfl
                       refine take_ (i := 8) (N := some 78) (v := ?_) (a' := ?_) #[true, true, true, true, true, true, true, true, true, true, false, false, false, false, false, false, false, false, false, false, false, false, false] rfl rfl (take_ofW HT_.out HW_.out (by kernel_rfl)) (fun _ _ _ h => h) (Or.inl ⟨by rfl, ?_⟩) hHeld ?_ ?_
                       rotate_left
                       ·rintro w' ⟨s0, s1, s2, s3, s4⟩
                        go_simp
                        with_reducible rfl
                       rotate_left
                       ·simp only [Act.put, List.setIfInBounds_toArray, List.set_cons_zero, List.set_cons_succ, i64_w, i32_w]
                        rfl
                       refine pure_ (i := 10) (N := some 80) (v := ?_) (a' := ?_) #[true, true, true, true, true, true, true, true, true, true, true, false, false, false, false, false, false, false, false, false, false, false, false] rfl rfl (any_of HT_.out (by kernel_rfl)) (fun _ _ _ h => h) (Or.inl ⟨by rfl, ?_⟩) ?_ ?_
                       rotate_left
                       ·intro w'
                        go_simp
                        with_reducible rfl
                       rotate_left
                       ·simp only [Act.put, List.setIfInBounds_toArray, List.set_cons_zero, List.set_cons_succ, i64_w, i32_w]
                        rfl
                       refine take_ (i := 11) (N := some 81) (v := ?_) (a' := ?_) #[true, true, true, true, true, true, true, true, true, true, true, true, false, false, false, false, false, false, false, false, false, false, false] rfl rfl (take_ofW HT_.out HW_.out (by kernel_rfl)) (fun _ _ _ h => h) (Or.inl ⟨by rfl, ?_⟩) hHeld ?_ ?_
                       rotate_left
                       ·rintro w' ⟨s0, s1, s2, s3, s4⟩
                        go_simp
                        with_reducible rfl
                       rotate_left
                       ·simp only [Act.put, List.setIfInBounds_toArray, List.set_cons_zero, List.set_cons_succ, i64_w, i32_w]
                        rfl
                       refine pure_ (i := 12) (N := some 82) (v := ?_) (a' := ?_) #[true, true, true, true, true, true, true, true, true, true, true, true, true, false, false, false, false, false, false, false, false, false, false] rfl rfl (any_of HT_.out (by kernel_rfl)) (fun _ _ _ h => h) (Or.inl ⟨by rfl, ?_⟩) ?_ ?_
                       rotate_left
                       ·intro w'
                        go_simp
                        with_reducible rfl
                       rotate_left
                       ·simp only [Act.put, List.setIfInBounds_toArray, List.set_cons_zero, List.set_cons_succ, i64_w, i32_w]
                        rfl
                       refine pure_ (i := 13) (N := some 83) (v := ?_) (a' := ?_) #[true, true, true, true, true, true, true, true, true, true, true, true, true, true, false, false, false, false, false, false, false, false, false] rfl rfl (any_of HT_.out (by kernel_rfl)) (fun _ _ _ h => h) (Or.inl ⟨by rfl, ?_⟩) ?_ ?_
                       rotate_left
                       ·intro w'
                        go_simp
                        with_reducible rfl
                       rotate_left
                       ·simp only [Act.put, List.setIfInBounds_toArray, List.set_cons_zero, List.set_cons_succ, i64_w, i32_w]
                        rfl
                       refine pure_ (i := 14) (N := some 84) (v := ?_) (a' := ?_) #[true, true, true, true, true, true, true, true, true, true, true, true, true, true, true, false, false, false, false, false, false, false, false] rfl rfl (any_of HT_.out (by kernel_rfl)) (fun _ _ _ h => h) (Or.inl ⟨by rfl, ?_⟩) ?_ ?_
                       rotate_left
                       ·intro w'
                        go_simp
                        with_reducible rfl
                       rotate_left
                       ·simp only [Act.put, List.setIfInBounds_toArray, List.set_cons_zero, List.set_cons_succ, i64_w, i32_w]
                        rfl
                       refine pure_ (i := 15) (N := some 85) (v := ?_) (a' := ?_) #[true, true, true, true, true, true, true, true, true, true, true, true, true, true, true, true, false, false, false, false, false, false, false] rfl rfl (any_of HT_.out (by kernel_rfl)) (fun _ _ _ h => h) (Or.inl ⟨by rfl, ?_⟩) ?_ ?_
                       rotate_left
                       ·intro w'
                        go_simp
                        with_reducible rfl
                       rotate_left
                       ·simp only [Act.put, List.setIfInBounds_toArray, List.set_cons_zero, List.set_cons_succ, i64_w, i32_w]
                        rfl
                       refine pure_ (i := 17) (N := some 87) (v := ?_) (a' := ?_) #[true, true, true, true, true, true, true, true, true, true, true, true, true, true, true, true, false, true, false, false, false, false, false] rfl rfl (any_of HT_.out (by kernel_rfl)) (fun _ _ _ h => h) (Or.inl ⟨by rfl, ?_⟩) ?_ ?_
                       rotate_left
                       ·intro w'
                        go_simp
                        with_reducible rfl
                       rotate_left
                       ·simp only [Act.put, List.setIfInBounds_toArray, List.set_cons_zero, List.set_cons_succ, i64_w, i32_w]
                        rfl
                       refine take_ (i := 16) (N := some 86) (v := ?_) (a' := ?_) #[true, true, true, true, true, true, true, true, true, true, true, true, true, true, true, true, true, true, false, false, false, false, false] rfl rfl (take_ofW HT_.out HW_.out (by kernel_rfl)) (fun _ _ _ h => h) (Or.inl ⟨by rfl, ?_⟩) hHeld ?_ ?_
                       rotate_left
                       ·rintro w' ⟨s0, s1, s2, s3, s4⟩
                        go_simp
                        with_reducible rfl
                       rotate_left
                       ·simp only [Act.put, List.setIfInBounds_toArray, List.set_cons_zero, List.set_cons_succ, i64_w, i32_w]
                        rfl
                       refine pure_ (i := 18) (N := some 88) (v := ?_) (a' := ?_) #[true, true, true, true, true, true, true, true, true, true, true, true, true, true, true, true, true, true, true, false, false, false, false] rfl rfl (any_of HT_.out (by kernel_rfl)) (fun _ _ _ h => h) (Or.inl ⟨by rfl, ?_⟩) ?_ ?_
                       rotate_left
                       ·intro w'
                        go_simp
                        with_reducible rfl
                       rotate_left
                       ·simp only [Act.put, List.setIfInBounds_toArray, List.set_cons_zero, List.set_cons_succ, i64_w, i32_w]
                        rfl
                       refine take_ (i := 19) (N := some 89) (v := ?_) (a' := ?_) #[true, true, true, true, true, true, true, true, true, true, true, true, true, true, true, true, true, true, true, true, false, false, false] rfl rfl (take_ofW HT_.out HW_.out (by kernel_rfl)) (fun _ _ _ h => h) (Or.inl ⟨by rfl, ?_⟩) hHeld ?_ ?_
                       rotate_left
                       ·rintro w' ⟨s0, s1, s2, s3, s4⟩
                        go_simp
                        with_reducible rfl
                       rotate_left
                       ·simp only [Act.put, List.setIfInBounds_toArray, List.set_cons_zero, List.set_cons_succ, i64_w, i32_w]
                        rfl
                       refine pure_ (i := 20) (N := some 90) (v := ?_) (a' := ?_) #[true, true, true, true, true, true, true, true, true, true, true, true, true, true, true, true, true, true, true, true, true, false, false] rfl rfl (any_of HT_.out (by kernel_rfl)) (fun _ _ _ h => h) (Or.inl ⟨by rfl, ?_⟩) ?_ ?_
                       rotate_left
                       ·intro w'
                        go_simp
                        with_reducible rfl
                       rotate_left
                       ·simp only [Act.put, List.setIfInBounds_toArray, List.set_cons_zero, List.set_cons_succ, i64_w, i32_w]
                        rfl
                       refine pure_ (i := 21) (N := some 91) (v := ?_) (a' := ?_) #[true, true, true, true, true, true, true, true, true, true, true, true, true, true, true, true, true, true, true, true, true, true, false] rfl rfl (any_of HT_.out (by kernel_rfl)) (fun _ _ _ h => h) (Or.inl ⟨by rfl, ?_⟩) ?_ ?_
                       rotate_left
                       ·intro w'
                        go_simp
                        with_reducible rfl
                       rotate_left
                       ·simp only [Act.put, List.setIfInBounds_toArray, List.set_cons_zero, List.set_cons_succ, i64_w, i32_w]
                        rfl
                       refine last_ (i := 22) (N := none) #[true, true, true, true, true, true, true, true, true, true, true, true, true, true, true, true, true, true, true, true, true, true, true] rfl rfl (one_of HT_.out (by kernel_rfl)) (by decide) (fun K hK => ?_)
                       refine skip_ (w1 := ?_) (by rfl) rfl ?_ ?_
                       rotate_left
                       ·go_simp
                        rfl
                       refine hK.out _ _ ?_
                       clear hK K
                       refine done_ (done_of HT_.out (by kernel_rfl)) ?_
                       try go_wp2
                       go_roundg k4
                       case measure => have := HK1.out; have := HK2.out; have := HK3.out; have := HK4.out; omega
                       case rel => exact ⟨(y210), (wrap64 (x9_4 + 1)), (by first | rfl | (simp; done) | (simp [*]; done)), H', ⟨by have := HK1.out; have := HK2.out; have := HK3.out; have := HK4.out; omega⟩, ⟨by (with_reducible repeat (first | apply Kd.S_alloc | apply Kd.S_drewN | apply Kd.S_drew)); exact HQ42.out⟩, ⟨by repeat (first | (with_reducible first | exact HB.out | apply below_alloc | apply pw_below_drewN | apply below_drew1 | refine below_set ?_ GB39.out) | exact HB.out)⟩⟩
                      ·rw [if_neg c38] at H
                       exact absurd H (by simp)
                     ·rw [if_neg c37] at H
                      exact absurd H (by simp)
                   ·rw [if_neg c29] at H
                    exact absurd H (by simp)
                  ·rw [if_neg c28] at H
                   exact absurd H (by simp)
                 ·replace c27 := Bool.eq_false_iff.mpr c27
                  subst c27
                  have H1 : (butlerlaw11_table.l3 k4 l0 x3_4 x7_2 (wrap64 (x8_3 + 1))) = some r := by rw [if_neg (show ¬ (false = true) by decide)] at H; exact H
                  clear H
                  have H := H1
                  clear H1
                  have H' := Aside0.mk H
                  clear H
                  obtain ⟨Ao44, co44, eo44⟩ := Kd.S_slice HO_3.out
                  subst eo44
                  have p198 : 0 ≤ (x8_3 : Int) := of_decide_eq_true (by first | (with_reducible assumption) | assumption)
                  have q198 : x8_3 < (x3_4.length : Int) := of_decide_eq_true (by first | (with_reducible assumption) | assumption)
                  obtain ⟨ad198, A198_0, c198_0, e198, hx198_0, hl198_0, hi198_0⟩ := at_L5 (Kd.S_reads' HO_3.out).2.2 x8_3 p198 q198
                  cases e198
                  obtain ⟨ce198, hce198, hMe198, hcc198⟩ := Kd.S_get HO_3.out [] x8_3 p198 (by first | exact q198 | exact of_decide_eq_true (by first | (with_reducible assumption) | assumption) | (have e_ := (Kd.S_reads' HO_3.out).1; omega))
                  obtain ⟨ve198_0, rfl, ge198_0⟩ := hMe198
                  have hv198_0 := hcc198 0 _ rfl
                  rw [Nat.add_zero, show ((Kd.slice 4 Kd.bool)).sz = 1 from rfl, Nat.mul_one] at hv198_0
                  replace hv198_0 := Option.some.inj (hv198_0.symm.trans hx198_0)
                  rw [hv198_0] at ge198_0
                  have HL198_0 := Aside0.mk (show Kd.R Kd.bool 4 _ _ _ _ (rd_L5 x3_4 x8_3) from ge198_0)
                  clear hv198_0 ge198_0
                  have HX198_0 := Aside0.mk hx198_0
                  clear hcc198 hce198
                  have HR198_0 := Aside0.mk hi198_0
                  have HC198_0 := Aside0.mk hl198_0
                  clear hi198_0 hl198_0
                  replace p198 := eq_true p198
                  replace q198 := eq_true q198
                  have p199 : 0 ≤ (x7_2 : Int) := of_decide_eq_true (by first | (with_reducible assumption) | assumption)
                  have q199 : x7_2 < ((rd_L5 x3_4 x8_3).length : Int) := of_decide_eq_true (by first | (with_reducible assumption) | assumption)
                  obtain ⟨ad199, e199, hx199_0⟩ := Kd.at_bool (by repeat (first | (with_reducible exact HR198_0.out) | (with_reducible refine Kd.C_alloc ?_ _) | (with_reducible refine Kd.C_drewN ?_ _) | (with_reducible refine Kd.C_drew ?_) | exact HR198_0.out)) x7_2 p199 q199
                  (try rw [← Nbq26.out] at hx199_0)
                  cases e199
                  replace p199 := eq_true p199
                  replace q199 := eq_true q199
                  go_wp2
                  go_roundg k4
                  case measure => have := HK1.out; have := HK2.out; have := HK3.out; have := HK4.out; omega
                  case rel => exact ⟨(x3_4), (wrap64 (x8_3 + 1)), (by first | rfl | (simp; done) | (simp [*]; done)), H', ⟨by have := HK1.out; have := HK2.out; have := HK3.out; have := HK4.out; omega⟩, ⟨by (with_reducible repeat (first | apply Kd.S_alloc | apply Kd.S_drewN | apply Kd.S_drew)); exact HO_3.out⟩, ⟨by repeat (first | (with_reducible first | exact HB.out | apply below_alloc | apply pw_below_drewN | apply below_drew1) | exact HB.out)⟩⟩
                ·rw [if_neg c25] at H
                 exact absurd H (by simp)
               ·rw [if_neg c24] at H
                exact absurd H (by simp)
              ·rw [if_neg c23] at H
               exact absurd H (by simp)
             ·rw [if_neg c22] at H
              exact absurd H (by simp)
            ·rw [if_neg c21] at H
             have c21b0 : decide (x9_4 < (l0.length : Int)) = false := decide_eq_false c21
             clear c21
             have H' := Aside0.mk H
             clear H
             go_wp2
             go_roundg k4
             case measure => have := HK1.out; have := HK2.out; have := HK3.out; have := HK4.out; omega
             case rel => exact ⟨(x3_4), (wrap64 (x8_3 + 1)), (by first | rfl | (simp; done) | (simp [*]; done)), H', ⟨by have := HK1.out; have := HK2.out; have := HK3.out; have := HK4.out; omega⟩, ⟨by (with_reducible repeat (first | apply Kd.S_alloc | apply Kd.S_drewN | apply Kd.S_drew)); exact HO_3.out⟩, ⟨by repeat (first | (with_reducible first | exact HB.out | apply below_alloc | apply pw_below_drewN | apply below_drew1) | exact HB.out)⟩⟩
         ·rw [if_neg c20] at H
          have c20b0 : decide (x8_3 < (l0.length : Int)) = false := decide_eq_false c20
          clear c20
          have H' := Aside0.mk H
          clear H
          go_wp2
          go_roundg k3
          case measure => have := HK1.out; have := HK2.out; have := HK3.out; omega
          case rel => exact ⟨(x3_3), (wrap64 (x7_2 + 1)), (by first | rfl | (simp; done) | (simp [*]; done)), H', ⟨by have := HK1.out; have := HK2.out; have := HK3.out; omega⟩, ⟨by (with_reducible repeat (first | apply Kd.S_alloc | apply Kd.S_drewN | apply Kd.S_drew)); exact HO_3.out⟩, ⟨by repeat (first | (with_reducible first | exact HB.out | apply below_alloc | apply pw_below_drewN | apply below_drew1) | exact HB.out)⟩⟩
      ·rw [if_neg c19] at H
       have c19b0 : decide (x7_2 < (l0.length : Int)) = false := decide_eq_false c19
       clear c19
       obtain rfl := Option.some.inj H
       go_wp2
       go_ret
       exact ⟨_, by first | rfl | (simp [errW_none, errW_some] <;> rfl) | (simp [*, errW_none, errW_some] <;> rfl), by (with_reducible repeat (first | apply Kd.S_alloc | apply Kd.S_drewN | apply Kd.S_drew)); exact HO_3.out, by repeat (first | (with_reducible first | exact HB.out | apply below_alloc | apply pw_below_drewN | apply below_drew1) | exact HB.out)⟩

end
end Go.Proofs.Ytgahkloigbhgdaa.PR
