import Derived.Test.YtgahkloigbhgdaaPRx0
import Derived.Test.YtgahkloigbhgdaaPRx5
namespace Go.Proofs.Ytgahkloigbhgdaa.PR
open Go.RowKit Go.Proofs.YtgahkloigbhgdaaW.PrintWords Go.Proofs.YtgahkloigbhgdaaW.PrintLast Go.Proofs.YtgahkloigbhgdaaW.PrintMore
noncomputable section
attribute [local go_sem] max2_int min2_int max_two min_two max_three min_three max_four min_four   -- for this text's walks alone
set_option linter.unusedVariables false
set_option linter.unusedSimpArgs false

/-! ### butlerref11_fates: function 32 -/
mutual
def butlerref11_fates.l0 : Nat → List (S43) → List Bool → List Int → Bool → Option (List Bool × List Int)
 | 0, _, _, _, _ => none
 | k + 1, x0, x4, x5, x6 => if x6 = true then (butlerref11_fates.l1 k x0 x4 x5 false 0) else (some (x4, x5))
def butlerref11_fates.l1 : Nat → List (S43) → List Bool → List Int → Bool → Int → Option (List Bool × List Int)
 | 0, _, _, _, _, _ => none
 | k + 1, x0, x4, x5, x6, x7 => if x7 < (x0.length : Int) then (if 0 ≤ x7 then (if x7 < (x4.length : Int) then (if rdOf false x4 x7 = true then (butlerref11_fates.j2 k x0 x4 x5 x6 x7 false) else (butlerref11_fates.j2 k x0 x4 x5 x6 x7 (((rd_T43 x0 x7).f2) == 0))) else (none)) else (none)) else (butlerref11_fates.l0 k x0 x4 x5 x6)
def butlerref11_fates.j2 : Nat → List (S43) → List Bool → List Int → Bool → Int → Bool → Option (List Bool × List Int)
 | 0, _, _, _, _, _, _ => none
 | k + 1, x0, x4, x5, x6, x7, x8 => if 0 ≤ x7 then (if x7 < (x0.length : Int) then (butlerref11_fates.l2 k x0 x4 x5 x6 x7 x8 ((rd_T43 x0 x7).f3) 0) else (none)) else (none)
def butlerref11_fates.l2 : Nat → List (S43) → List Bool → List Int → Bool → Int → Bool → Int → Int → Option (List Bool × List Int)
 | 0, _, _, _, _, _, _, _, _ => none
 | k + 1, x0, x4, x5, x6, x7, x8, x9, x10 => if 0 ≤ x7 then (if x7 < (x0.length : Int) then (if x10 < (((rd_T43 x0 x7).f0).length : Int) then (if x8 = true then (if 0 ≤ x10 then (if 0 ≤ (rd ((rd_T43 x0 x7).f0) x10) then (if (rd ((rd_T43 x0 x7).f0) x10) < (x4.length : Int) then (if (rd ((rd_T43 x0 x7).f0) x10) < (x5.length : Int) then (butlerref11_fates.l2 k x0 x4 x5 x6 x7 (rdOf false x4 (rd ((rd_T43 x0 x7).f0) x10)) (wrap64 (x9 + (rd x5 (rd ((rd_T43 x0 x7).f0) x10)))) (wrap64 (x10 + 1))) else (none)) else (none)) else (none)) else (none)) else (butlerref11_fates.l1 k x0 x4 x5 x6 (wrap64 (x7 + 1)))) else (if x8 = true then (if x7 < (x4.length : Int) then (if x7 < (x5.length : Int) then (butlerref11_fates.l1 k x0 (x4.set (x7 : Int).toNat true) (x5.set (x7 : Int).toNat (Int.tmod (wrap64 ((Int.tmod x9 1000003) + 1000003)) 1000003)) true (wrap64 (x7 + 1))) else (none)) else (none)) else (butlerref11_fates.l1 k x0 x4 x5 x6 (wrap64 (x7 + 1))))) else (none)) else (none)
end
def butlerref11_fates.f (k : Nat) (l0 : List (S43)) : Option (List Bool × List Int) := if 0 ≤ (l0.length : Int) then (if ((l0.length : Int) : Int).toNat ≤ 281474976710656 then (if ((l0.length : Int) : Int).toNat ≤ 35184372088832 then (butlerref11_fates.l0 k l0 (List.replicate ((l0.length : Int) : Int).toNat false) (List.replicate ((l0.length : Int) : Int).toNat 0) true) else (none)) else (none)) else (none)
theorem butlerref11_fates.mono_l : ∀ k, (∀ y0 y1 y2 y3, LeO (butlerref11_fates.l0 k y0 y1 y2 y3) (butlerref11_fates.l0 (k + 1) y0 y1 y2 y3)) ∧ (∀ y0 y1 y2 y3 y4, LeO (butlerref11_fates.l1 k y0 y1 y2 y3 y4) (butlerref11_fates.l1 (k + 1) y0 y1 y2 y3 y4)) ∧ (∀ y0 y1 y2 y3 y4 y5, LeO (butlerref11_fates.j2 k y0 y1 y2 y3 y4 y5) (butlerref11_fates.j2 (k + 1) y0 y1 y2 y3 y4 y5)) ∧ (∀ y0 y1 y2 y3 y4 y5 y6 y7, LeO (butlerref11_fates.l2 k y0 y1 y2 y3 y4 y5 y6 y7) (butlerref11_fates.l2 (k + 1) y0 y1 y2 y3 y4 y5 y6 y7))
 | 0 => ⟨fun _ _ _ _ r h => by simp [butlerref11_fates.l0] at h, fun _ _ _ _ _ r h => by simp [butlerref11_fates.l1] at h, fun _ _ _ _ _ _ r h => by simp [butlerref11_fates.j2] at h, fun _ _ _ _ _ _ _ _ r h => by simp [butlerref11_fates.l2] at h⟩
 | k + 1 => by
  obtain ⟨ih0, ih1, ih2, ih3⟩ := butlerref11_fates.mono_l k
  refine ⟨?_, ?_, ?_, ?_⟩
  ·intro y0 y1 y2 y3
   unfold butlerref11_fates.l0
   repeat' first
   | (with_reducible exact ih0 _ _ _ _)
   | (with_reducible exact ih1 _ _ _ _ _)
   | (with_reducible exact ih2 _ _ _ _ _ _)
   | (with_reducible exact ih3 _ _ _ _ _ _ _ _)
   | (with_reducible exact LeO.refl _)
   | (with_reducible exact LeO.none _)
   | (with_reducible refine LeO.ite ?_ ?_)
   | (with_reducible refine LeO.bind ?_ (fun _ => ?_))
   | exact ih0 _ _ _ _
   | exact ih1 _ _ _ _ _
   | exact ih2 _ _ _ _ _ _
   | exact ih3 _ _ _ _ _ _ _ _
   | exact LeO.none _
   | refine LeO.ite ?_ ?_
   | refine LeO.bind ?_ (fun _ => ?_)
  ·intro y0 y1 y2 y3 y4
   unfold butlerref11_fates.l1
   repeat' first
   | (with_reducible exact ih0 _ _ _ _)
   | (with_reducible exact ih1 _ _ _ _ _)
   | (with_reducible exact ih2 _ _ _ _ _ _)
   | (with_reducible exact ih3 _ _ _ _ _ _ _ _)
   | (with_reducible exact LeO.refl _)
   | (with_reducible exact LeO.none _)
   | (with_reducible refine LeO.ite ?_ ?_)
   | (with_reducible refine LeO.bind ?_ (fun _ => ?_))
   | exact ih0 _ _ _ _
   | exact ih1 _ _ _ _ _
   | exact ih2 _ _ _ _ _ _
   | exact ih3 _ _ _ _ _ _ _ _
   | exact LeO.none _
   | refine LeO.ite ?_ ?_
   | refine LeO.bind ?_ (fun _ => ?_)
  ·intro y0 y1 y2 y3 y4 y5
   unfold butlerref11_fates.j2
   repeat' first
   | (with_reducible exact ih0 _ _ _ _)
   | (with_reducible exact ih1 _ _ _ _ _)
   | (with_reducible exact ih2 _ _ _ _ _ _)
   | (with_reducible exact ih3 _ _ _ _ _ _ _ _)
   | (with_reducible exact LeO.refl _)
   | (with_reducible exact LeO.none _)
   | (with_reducible refine LeO.ite ?_ ?_)
   | (with_reducible refine LeO.bind ?_ (fun _ => ?_))
   | exact ih0 _ _ _ _
   | exact ih1 _ _ _ _ _
   | exact ih2 _ _ _ _ _ _
   | exact ih3 _ _ _ _ _ _ _ _
   | exact LeO.none _
   | refine LeO.ite ?_ ?_
   | refine LeO.bind ?_ (fun _ => ?_)
  ·intro y0 y1 y2 y3 y4 y5 y6 y7
   unfold butlerref11_fates.l2
   repeat' first
   | (with_reducible exact ih0 _ _ _ _)
   | (with_reducible exact ih1 _ _ _ _ _)
   | (with_reducible exact ih2 _ _ _ _ _ _)
   | (with_reducible exact ih3 _ _ _ _ _ _ _ _)
   | (with_reducible exact LeO.refl _)
   | (with_reducible exact LeO.none _)
   | (with_reducible refine LeO.ite ?_ ?_)
   | (with_reducible refine LeO.bind ?_ (fun _ => ?_))
   | exact ih0 _ _ _ _
   | exact ih1 _ _ _ _ _
   | exact ih2 _ _ _ _ _ _
   | exact ih3 _ _ _ _ _ _ _ _
   | exact LeO.none _
   | refine LeO.ite ?_ ?_
   | refine LeO.bind ?_ (fun _ => ?_)
theorem butlerref11_fates.mono : ∀ a0 k, LeO (butlerref11_fates.f k a0) (butlerref11_fates.f (k + 1) a0) := by
 intro a0 k
 obtain ⟨ih0, ih1, ih2, ih3⟩ := butlerref11_fates.mono_l k
 unfold butlerref11_fates.f
 repeat' first
   | (with_reducible exact ih0 _ _ _ _)
   | (with_reducible exact ih1 _ _ _ _ _)
   | (with_reducible exact ih2 _ _ _ _ _ _)
   | (with_reducible exact ih3 _ _ _ _ _ _ _ _)
   | (with_reducible exact LeO.refl _)
   | (with_reducible exact LeO.none _)
   | (with_reducible refine LeO.ite ?_ ?_)
   | (with_reducible refine LeO.bind ?_ (fun _ => ?_))
   | exact ih0 _ _ _ _
   | exact ih1 _ _ _ _ _
   | exact ih2 _ _ _ _ _ _
   | exact ih3 _ _ _ _ _ _ _ _
   | exact LeO.none _
   | refine LeO.ite ?_ ?_
   | refine LeO.bind ?_ (fun _ => ?_)
set_option maxHeartbeats 8000000 in
set_option maxRecDepth 100000 in
theorem butlerref11_fates.calls (k : Nat) (A0 : Option Addr) (c0 : Nat) (l0 : List (S43)) (r1 : List Bool) (r2 : List Int) (w : World) (hr0 : Kd.C k43 w A0 l0.length l0) (hc0 : l0.length ≤ c0) (h : butlerref11_fates.f k l0 = some (r1, r2)) :
  Calls Try.prog 32 #[.slice A0 l0.length c0] w fun e w' => ∃ v0_ v1_ : Value, e = .returned (.tuple #[v0_, v1_]) ∧ Kd.R Kd.bool 4 w' w.heap.size (fun _ => True) v0_ r1 ∧ Kd.R (Kd.int .i64) 3 w' w.heap.size (fun _ => True) v1_ r2 ∧ Below w.heap.size w w' := by
 have HR0 := Aside0.mk hr0
 have HC0 := Aside0.mk hc0
 clear hr0 hc0
 have HB := Aside0.mk (Below.refl w.heap.size w)
 have H : (if 0 ≤ (l0.length : Int) then (if ((l0.length : Int) : Int).toNat ≤ 281474976710656 then (if ((l0.length : Int) : Int).toNat ≤ 35184372088832 then (butlerref11_fates.l0 k l0 (List.replicate ((l0.length : Int) : Int).toNat false) (List.replicate ((l0.length : Int) : Int).toNat 0) true) else (none)) else (none)) else (none)) = some (r1, r2) := h
 clear h
 by_cases c2 : 0 ≤ (l0.length : Int)
 ·rw [if_pos c2] at H
  have c2b0 := eq_true c2
  have c2b1 : decide (0 ≤ (l0.length : Int)) = true := decide_eq_true c2
  clear c2
  by_cases c3 : ((l0.length : Int) : Int).toNat ≤ 281474976710656
  ·rw [if_pos c3] at H
   have c3b0 := eq_true c3
   have c3b1 : decide (((l0.length : Int) : Int).toNat ≤ 281474976710656) = true := decide_eq_true c3
   clear c3
   obtain ⟨y241, hy241⟩ : ∃ y_ : List Bool, y_ = (List.replicate ((l0.length : Int) : Int).toNat false) := ⟨_, rfl⟩
   replace H : (if ((l0.length : Int) : Int).toNat ≤ 35184372088832 then (butlerref11_fates.l0 k l0 y241 (List.replicate ((l0.length : Int) : Int).toNat 0) true) else (none)) = some (r1, r2) := by first | (rw [hy241]; with_reducible exact H) | (have H2_ := (Option.bind_some _ _).symm.trans H; rw [hy241]; with_reducible exact H2_) | (have H2_ := (Option.bind_some _ _).symm.trans H; with_reducible exact H2_) | with_reducible exact H | (rw [hy241]; exact H) | exact H
   have Ny241 := Aside0.mk hy241
   clear hy241
   by_cases c4 : ((l0.length : Int) : Int).toNat ≤ 35184372088832
   ·rw [if_pos c4] at H
    have c4b0 := eq_true c4
    have c4b1 : decide (((l0.length : Int) : Int).toNat ≤ 35184372088832) = true := decide_eq_true c4
    clear c4
    obtain ⟨y244, hy244⟩ : ∃ y_ : List Int, y_ = (List.replicate ((l0.length : Int) : Int).toNat 0) := ⟨_, rfl⟩
    replace H : (butlerref11_fates.l0 k l0 y241 y244 true) = some (r1, r2) := by first | (rw [hy244]; with_reducible exact H) | (have H2_ := (Option.bind_some _ _).symm.trans H; rw [hy244]; with_reducible exact H2_) | (have H2_ := (Option.bind_some _ _).symm.trans H; with_reducible exact H2_) | with_reducible exact H | (rw [hy244]; exact H) | exact H
    have Ny244 := Aside0.mk hy244
    clear hy244
    have H' := Aside0.mk H
    clear H
    go_enter Try.func32, Try.ntmps32
    go_wp2_with (first | ((with_reducible refine gate_dst (N := 14) rfl ?_); refine Kd.R_make Kd.bool _ 4 rfl (N := 14) rfl 41 _ _ rfl (l0.length : Int) rfl rfl Try.underlying41 (.bool false) 1 info4 rfl (by decide) (by omega) false (ok := fun _ => True) (okp := fun _ => True) rfl (fun _ hk => hk) trivial (of_decide_eq_true (by first | (with_reducible assumption) | assumption)) (Nat.le_trans (Nat.mul_le_mul_right _ (of_decide_eq_true (by first | (with_reducible assumption) | assumption) : (l0.length : Int).toNat ≤ 281474976710656)) (by omega)) (Below.refl _ _) (Nat.le_refl _) ?_; intro v242 w5 ho6 hb hg_ hnew_; clear hg_ hnew_; (first | rw [← Ny241.out] at ho6 | (simp only [Int.reduceToNat] at ho6; rw [← Ny241.out] at ho6)); have n0_ := Aside0.mk (Kd.R_lower ho6 (below_size (by repeat (first | (with_reducible first | exact HB.out | apply below_alloc | apply pw_below_drewN | apply below_drew1) | exact HB.out)))); have n1_ := Aside0.mk (below_step (by repeat (first | (with_reducible first | exact HB.out | apply below_alloc | apply pw_below_drewN | apply below_drew1) | exact HB.out)) hb); clear HB; have HO243 := n0_; have HB := n1_; clear n0_ n1_; clear hb ho6) | ((with_reducible refine gate_dst (N := 17) rfl ?_); refine Kd.R_make (Kd.int .i64) _ 3 rfl (N := 17) rfl 26 _ _ rfl (l0.length : Int) rfl rfl Try.underlying26 (.int .i64 0) 8 info3 rfl (by decide) (by omega) 0 (ok := fun _ => True) (okp := fun _ => True) rfl (fun _ hk => hk) trivial (of_decide_eq_true (by first | (with_reducible assumption) | assumption)) (Nat.le_trans (Nat.mul_le_mul_right _ (of_decide_eq_true (by first | (with_reducible assumption) | assumption) : (l0.length : Int).toNat ≤ 35184372088832)) (by omega)) (Below.refl _ _) (Nat.le_refl _) ?_; intro v245 w7 ho8 hb hg_ hnew_; clear hg_ hnew_; (first | rw [← Ny244.out] at ho8 | (simp only [Int.reduceToNat] at ho8; rw [← Ny244.out] at ho8)); have n0_ := Aside0.mk (Kd.R_below (by (with_reducible repeat (first | apply Kd.R_alloc | apply Kd.R_drewN | apply Kd.R_drew)); exact HO243.out) hb); have n1_ := Aside0.mk (Kd.R_lower ho8 (below_size (by repeat (first | (with_reducible first | exact HB.out | apply below_alloc | apply pw_below_drewN | apply below_drew1) | exact HB.out)))); have n2_ := Aside0.mk (below_step (by repeat (first | (with_reducible first | exact HB.out | apply below_alloc | apply pw_below_drewN | apply below_drew1) | exact HB.out)) hb); clear HO243; clear HB; have HO243 := n0_; have HO246 := n1_; have HB := n2_; clear n0_ n1_ n2_; clear hb ho8))
    go_loopg [6] k (fun kq v6 w' => ∃ (x4_1 : List Bool) (x5_1 : List Int) (x6_1 : Bool), v6 = .bool x6_1 ∧ Aside0 (butlerref11_fates.l0 kq l0 x4_1 x5_1 x6_1 = some (r1, r2)) ∧ Aside0 (kq ≤ k) ∧ Aside0 (Kd.R Kd.bool 4 w' w.heap.size (fun _ => True) v242 x4_1) ∧ Aside0 (Kd.R (Kd.int .i64) 3 w' w.heap.size (fun _ => True) v245 x5_1) ∧ Aside0 (Below w.heap.size w w'))
    case atStart => exact ⟨(y241), (y244), (true), (by first | rfl | (simp; done) | (simp [*]; done)), H', ⟨Nat.le_refl _⟩, ⟨by (with_reducible repeat (first | apply Kd.R_alloc | apply Kd.R_drewN | apply Kd.R_drew)); exact HO243.out⟩, ⟨by (with_reducible repeat (first | apply Kd.R_alloc | apply Kd.R_drewN | apply Kd.R_drew)); exact HO246.out⟩, ⟨by repeat (first | (with_reducible first | exact HB.out | apply below_alloc | apply pw_below_drewN | apply below_drew1) | exact HB.out)⟩⟩
    case round =>
     clear H'
     try clear c2
     try clear c2b0
     try clear c2b1
     try clear p2
     try clear c3
     try clear c3b0
     try clear c3b1
     try clear c4
     try clear c4b0
     try clear c4b1
     obtain ⟨x4_1, x5_1, x6_1, rfl, HA, HK1, HO_4, HO_5, HB⟩ := hrel
     cases gk with
     | zero => exact absurd HA.out (by simp [butlerref11_fates.l0])
     | succ k1 =>
      have H := HA.out
      clear HA
      simp only [butlerref11_fates.l0] at H
      by_cases c9 : x6_1 = true
      ·subst c9
       have H1 : (butlerref11_fates.l1 k1 l0 x4_1 x5_1 false 0) = some (r1, r2) := by rw [if_pos rfl] at H; exact H
       clear H
       have H := H1
       clear H1
       have H' := Aside0.mk H
       clear H
       go_wp2
       go_loopg [6, 7] k1 (fun kq v6 v7 w' => ∃ (x4_2 : List Bool) (x5_2 : List Int) (x6_2 : Bool) (x7_2 : Int), v6 = .bool x6_2 ∧ v7 = .int .i64 x7_2 ∧ Aside0 (butlerref11_fates.l1 kq l0 x4_2 x5_2 x6_2 x7_2 = some (r1, r2)) ∧ Aside0 (kq ≤ k1) ∧ Aside0 (Kd.R Kd.bool 4 w' w.heap.size (fun _ => True) v242 x4_2) ∧ Aside0 (Kd.R (Kd.int .i64) 3 w' w.heap.size (fun _ => True) v245 x5_2) ∧ Aside0 (Below w.heap.size w w'))
       case atStart => exact ⟨(x4_1), (x5_1), (false), (0), (by first | rfl | (simp; done) | (simp [*]; done)), (by first | rfl | (simp; done) | (simp [*]; done)), H', ⟨Nat.le_refl _⟩, ⟨by (with_reducible repeat (first | apply Kd.R_alloc | apply Kd.R_drewN | apply Kd.R_drew)); exact HO_4.out⟩, ⟨by (with_reducible repeat (first | apply Kd.R_alloc | apply Kd.R_drewN | apply Kd.R_drew)); exact HO_5.out⟩, ⟨by repeat (first | (with_reducible first | exact HB.out | apply below_alloc | apply pw_below_drewN | apply below_drew1) | exact HB.out)⟩⟩
       case round =>
        clear H'
        try clear c2
        try clear c2b0
        try clear c2b1
        try clear p2
        try clear c3
        try clear c3b0
        try clear c3b1
        try clear c4
        try clear c4b0
        try clear c4b1
        try clear c9
        try clear p2
        obtain ⟨x4_2, x5_2, x6_2, x7_2, rfl, rfl, HA, HK2, HO_4, HO_5, HB⟩ := hrel
        cases gk with
        | zero => exact absurd HA.out (by simp [butlerref11_fates.l1])
        | succ k2 =>
         have H := HA.out
         clear HA
         simp only [butlerref11_fates.l1] at H
         by_cases c10 : x7_2 < (l0.length : Int)
         ·rw [if_pos c10] at H
          have c10b0 : decide (x7_2 < (l0.length : Int)) = true := decide_eq_true c10
          clear c10
          have HC11 := Aside0.mk H
          clear H
          go_upto_region 9 with (fail)
          go_cut [8] (fun v8 wc => ∃ (kq : Nat) (x8_10 : Bool), v8 = .bool x8_10 ∧ Aside0 (butlerref11_fates.j2 kq l0 x4_2 x5_2 x6_2 x7_2 x8_10 = some (r1, r2)) ∧ Aside0 (kq ≤ k2) ∧ Aside0 (Kd.R Kd.bool 4 wc w.heap.size (fun _ => True) v242 x4_2) ∧ Aside0 (Kd.R (Kd.int .i64) 3 wc w.heap.size (fun _ => True) v245 x5_2) ∧ Aside0 (Below w.heap.size w wc))
          case first =>
           have H := HC11.out
           clear HC11
           by_cases c12 : 0 ≤ x7_2
           ·rw [if_pos c12] at H
            have c12b0 : decide (0 ≤ x7_2) = true := decide_eq_true c12
            clear c12
            (first | rw [c12b0] | (simp only [i64_w, i32_w]; rw [c12b0]) | skip)
            by_cases c13 : x7_2 < (x4_2.length : Int)
            ·rw [if_pos c13] at H
             have c13b0 : decide (x7_2 < (x4_2.length : Int)) = true := decide_eq_true c13
             clear c13
             obtain ⟨bq14, hbq14⟩ : ∃ b_ : Bool, b_ = (rdOf false x4_2 x7_2) := ⟨_, rfl⟩
             replace H : (if bq14 = true then (butlerref11_fates.j2 k2 l0 x4_2 x5_2 x6_2 x7_2 false) else (butlerref11_fates.j2 k2 l0 x4_2 x5_2 x6_2 x7_2 (((rd_T43 l0 x7_2).f2) == 0))) = some (r1, r2) := by rw [← hbq14] at H; exact H
             have Nbq14 := Aside0.mk hbq14
             clear hbq14
             by_cases c15 : bq14 = true
             ·subst c15
              have H1 : (butlerref11_fates.j2 k2 l0 x4_2 x5_2 x6_2 x7_2 false) = some (r1, r2) := by rw [if_pos rfl] at H; exact H
              clear H
              have H := H1
              clear H1
              have H' := Aside0.mk H
              clear H
              obtain ⟨Ao16, co16, eo16⟩ := Kd.R_slice HO_4.out
              subst eo16
              have p247 : 0 ≤ (x7_2 : Int) := of_decide_eq_true (by first | (with_reducible assumption) | assumption)
              have q247 : x7_2 < (x4_2.length : Int) := of_decide_eq_true (by first | (with_reducible assumption) | assumption)
              obtain ⟨ad247, e247, hx247_0⟩ := Kd.at_bool (Kd.R_reads' HO_4.out).2.2 x7_2 p247 q247
              (try rw [← Nbq14.out] at hx247_0)
              cases e247
              replace p247 := eq_true p247
              replace q247 := eq_true q247
              go_wp2
              go_meet
              case rel => exact ⟨_, (false), (by first | rfl | (simp; done) | (simp [*]; done)), H', ⟨by have := HK1.out; have := HK2.out; first | omega | exact Nat.le_refl _⟩, ⟨by (with_reducible repeat (first | apply Kd.R_alloc | apply Kd.R_drewN | apply Kd.R_drew)); exact HO_4.out⟩, ⟨by (with_reducible repeat (first | apply Kd.R_alloc | apply Kd.R_drewN | apply Kd.R_drew)); exact HO_5.out⟩, ⟨by repeat (first | (with_reducible first | exact HB.out | apply below_alloc | apply pw_below_drewN | apply below_drew1) | exact HB.out)⟩⟩
             ·replace c15 := Bool.eq_false_iff.mpr c15
              subst c15
              have H1 : (butlerref11_fates.j2 k2 l0 x4_2 x5_2 x6_2 x7_2 (((rd_T43 l0 x7_2).f2) == 0)) = some (r1, r2) := by rw [if_neg (show ¬ (false = true) by decide)] at H; exact H
              clear H
              have H := H1
              clear H1
              have H' := Aside0.mk H
              clear H
              obtain ⟨Ao17, co17, eo17⟩ := Kd.R_slice HO_4.out
              subst eo17
              have p247 : 0 ≤ (x7_2 : Int) := of_decide_eq_true (by first | (with_reducible assumption) | assumption)
              have q247 : x7_2 < (x4_2.length : Int) := of_decide_eq_true (by first | (with_reducible assumption) | assumption)
              obtain ⟨ad247, e247, hx247_0⟩ := Kd.at_bool (Kd.R_reads' HO_4.out).2.2 x7_2 p247 q247
              (try rw [← Nbq14.out] at hx247_0)
              cases e247
              replace p247 := eq_true p247
              replace q247 := eq_true q247
              have p248 : 0 ≤ (x7_2 : Int) := of_decide_eq_true (by first | (with_reducible assumption) | assumption)
              have q248 : x7_2 < (l0.length : Int) := of_decide_eq_true (by first | (with_reducible assumption) | assumption)
              obtain ⟨ad248, A248_0, c248_0, e248, hx248_0, hx248_1, hx248_2, hx248_3, hx248_4, hl248_0, hi248_0⟩ := at_T43 HR0.out x7_2 p248 q248
              cases e248
              replace hx248_0 := (HB.out.cell (World.block_lt_of_cell? w _ hx248_0)).trans hx248_0
              replace hx248_1 := (HB.out.cell (World.block_lt_of_cell? w _ hx248_1)).trans hx248_1
              replace hx248_2 := (HB.out.cell (World.block_lt_of_cell? w _ hx248_2)).trans hx248_2
              replace hx248_3 := (HB.out.cell (World.block_lt_of_cell? w _ hx248_3)).trans hx248_3
              replace hx248_4 := (HB.out.cell (World.block_lt_of_cell? w _ hx248_4)).trans hx248_4
              have HR248_0 := Aside0.mk hi248_0
              have HC248_0 := Aside0.mk hl248_0
              clear hi248_0 hl248_0
              replace p248 := eq_true p248
              replace q248 := eq_true q248
              go_wp2
              go_meet
              case rel => exact ⟨_, ((((rd_T43 l0 x7_2).f2) == 0)), (by first | rfl | (simp; done) | (simp [*]; done)), H', ⟨by have := HK1.out; have := HK2.out; first | omega | exact Nat.le_refl _⟩, ⟨by (with_reducible repeat (first | apply Kd.R_alloc | apply Kd.R_drewN | apply Kd.R_drew)); exact HO_4.out⟩, ⟨by (with_reducible repeat (first | apply Kd.R_alloc | apply Kd.R_drewN | apply Kd.R_drew)); exact HO_5.out⟩, ⟨by repeat (first | (with_reducible first | exact HB.out | apply below_alloc | apply pw_below_drewN | apply below_drew1) | exact HB.out)⟩⟩
            ·rw [if_neg c13] at H
             exact absurd H (by simp)
           ·rw [if_neg c12] at H
            exact absurd H (by simp)
          case rest =>
           clear HC11
           try clear c1
           try clear q1
           try clear c2
           try clear c2b0
           try clear c2b1
           try clear p2
           try clear q2
           try clear hx2
           try clear c3
           try clear c3b0
           try clear c3b1
           try clear c4
           try clear c4b0
           try clear c4b1
           try clear c9
           try clear c10
           try clear c10b0
           try clear c12
           try clear c12b0
           try clear c13
           try clear c13b0
           try clear q14
           try clear c15
           try clear hx247_0
           try clear hx248_0
           try clear hx248_1
           try clear hx248_2
           try clear hx248_3
           try clear hx248_4
           try clear p2
           try clear p247
           try clear p248
           try clear q247
           try clear q248
           obtain ⟨kq, x8_10, rfl, HA, HJ10, HO_4, HO_5, HB⟩ := hcut
           cases kq with
           | zero => exact absurd HA.out (by simp [butlerref11_fates.j2])
           | succ kj10 =>
            have H := HA.out
            clear HA
            simp only [butlerref11_fates.j2] at H
            by_cases c18 : 0 ≤ x7_2
            ·rw [if_pos c18] at H
             have c18b0 : decide (0 ≤ x7_2) = true := decide_eq_true c18
             clear c18
             by_cases c19 : x7_2 < (l0.length : Int)
             ·rw [if_pos c19] at H
              have c19b0 : decide (x7_2 < (l0.length : Int)) = true := decide_eq_true c19
              clear c19
              have H' := Aside0.mk H
              clear H
              have p249 : 0 ≤ (x7_2 : Int) := of_decide_eq_true (by first | (with_reducible assumption) | assumption)
              have q249 : x7_2 < (l0.length : Int) := of_decide_eq_true (by first | (with_reducible assumption) | assumption)
              obtain ⟨ad249, A249_0, c249_0, e249, hx249_0, hx249_1, hx249_2, hx249_3, hx249_4, hl249_0, hi249_0⟩ := at_T43 HR0.out x7_2 p249 q249
              cases e249
              replace hx249_0 := (HB.out.cell (World.block_lt_of_cell? w _ hx249_0)).trans hx249_0
              replace hx249_1 := (HB.out.cell (World.block_lt_of_cell? w _ hx249_1)).trans hx249_1
              replace hx249_2 := (HB.out.cell (World.block_lt_of_cell? w _ hx249_2)).trans hx249_2
              replace hx249_3 := (HB.out.cell (World.block_lt_of_cell? w _ hx249_3)).trans hx249_3
              replace hx249_4 := (HB.out.cell (World.block_lt_of_cell? w _ hx249_4)).trans hx249_4
              have HR249_0 := Aside0.mk hi249_0
              have HC249_0 := Aside0.mk hl249_0
              clear hi249_0 hl249_0
              replace p249 := eq_true p249
              replace q249 := eq_true q249
              go_wp2
              go_loopg [8, 9, 10] kj10 (fun kq v8 v9 v10 w' => ∃ (x8_4 : Bool) (x9_4 : Int) (x10_4 : Int), v8 = .bool x8_4 ∧ v9 = .int .i64 x9_4 ∧ v10 = .int .i64 x10_4 ∧ Aside0 (butlerref11_fates.l2 kq l0 x4_2 x5_2 x6_2 x7_2 x8_4 x9_4 x10_4 = some (r1, r2)) ∧ Aside0 (kq ≤ kj10) ∧ Aside0 (Kd.R Kd.bool 4 w' w.heap.size (fun _ => True) v242 x4_2) ∧ Aside0 (Kd.R (Kd.int .i64) 3 w' w.heap.size (fun _ => True) v245 x5_2) ∧ Aside0 (Below w.heap.size w w'))
              case atStart => exact ⟨(x8_10), ((rd_T43 l0 x7_2).f3), (0), (by first | rfl | (simp; done) | (simp [*]; done)), (by first | rfl | (simp; done) | (simp [*]; done)), (by first | rfl | (simp; done) | (simp [*]; done)), H', ⟨Nat.le_refl _⟩, ⟨by (with_reducible repeat (first | apply Kd.R_alloc | apply Kd.R_drewN | apply Kd.R_drew)); exact HO_4.out⟩, ⟨by (with_reducible repeat (first | apply Kd.R_alloc | apply Kd.R_drewN | apply Kd.R_drew)); exact HO_5.out⟩, ⟨by repeat (first | (with_reducible first | exact HB.out | apply below_alloc | apply pw_below_drewN | apply below_drew1) | exact HB.out)⟩⟩
              case round =>
               clear H'
               try clear c1
               try clear q1
               try clear c2
               try clear c2b0
               try clear c2b1
               try clear p2
               try clear q2
               try clear hx2
               try clear c3
               try clear c3b0
               try clear c3b1
               try clear c4
               try clear c4b0
               try clear c4b1
               try clear c9
               try clear c10
               try clear c10b0
               try clear c12
               try clear c12b0
               try clear c13
               try clear c13b0
               try clear q14
               try clear c15
               try clear c18
               try clear c18b0
               try clear c19
               try clear c19b0
               try clear hx247_0
               try clear hx248_0
               try clear hx248_1
               try clear hx248_2
               try clear hx248_3
               try clear hx248_4
               try clear hx249_0
               try clear hx249_1
               try clear hx249_2
               try clear hx249_3
               try clear hx249_4
               try clear p2
               try clear p247
               try clear p248
               try clear p249
               try clear q1
               try clear q14
               try clear q2
               try clear q247
               try clear q248
               try clear q249
               obtain ⟨x8_4, x9_4, x10_4, rfl, rfl, rfl, HA, HK4, HO_4, HO_5, HB⟩ := hrel
               cases gk with
               | zero => exact absurd HA.out (by simp [butlerref11_fates.l2])
               | succ k4 =>
                have H := HA.out
                clear HA
                simp only [butlerref11_fates.l2] at H
                by_cases c20 : 0 ≤ x7_2
                ·rw [if_pos c20] at H
                 have c20b0 : decide (0 ≤ x7_2) = true := decide_eq_true c20
                 clear c20
                 by_cases c21 : x7_2 < (l0.length : Int)
                 ·rw [if_pos c21] at H
                  have c21b0 : decide (x7_2 < (l0.length : Int)) = true := decide_eq_true c21
                  clear c21
                  by_cases c22 : x10_4 < (((rd_T43 l0 x7_2).f0).length : Int)
                  ·rw [if_pos c22] at H
                   have c22b0 : decide (x10_4 < (((rd_T43 l0 x7_2).f0).length : Int)) = true := decide_eq_true c22
                   clear c22
                   by_cases c23 : x8_4 = true
                   ·subst c23
                    have H1 : (if 0 ≤ x10_4 then (if 0 ≤ (rd ((rd_T43 l0 x7_2).f0) x10_4) then (if (rd ((rd_T43 l0 x7_2).f0) x10_4) < (x4_2.length : Int) then (if (rd ((rd_T43 l0 x7_2).f0) x10_4) < (x5_2.length : Int) then (butlerref11_fates.l2 k4 l0 x4_2 x5_2 x6_2 x7_2 (rdOf false x4_2 (rd ((rd_T43 l0 x7_2).f0) x10_4)) (wrap64 (x9_4 + (rd x5_2 (rd ((rd_T43 l0 x7_2).f0) x10_4)))) (wrap64 (x10_4 + 1))) else (none)) else (none)) else (none)) else (none)) = some (r1, r2) := by rw [if_pos rfl] at H; exact H
                    clear H
                    have H := H1
                    clear H1
                    by_cases c24 : 0 ≤ x10_4
                    ·rw [if_pos c24] at H
                     have c24b0 : decide (0 ≤ x10_4) = true := decide_eq_true c24
                     clear c24
                     by_cases c25 : 0 ≤ (rd ((rd_T43 l0 x7_2).f0) x10_4)
                     ·rw [if_pos c25] at H
                      have c25b0 : decide (0 ≤ (rd ((rd_T43 l0 x7_2).f0) x10_4)) = true := decide_eq_true c25
                      clear c25
                      by_cases c26 : (rd ((rd_T43 l0 x7_2).f0) x10_4) < (x4_2.length : Int)
                      ·rw [if_pos c26] at H
                       have c26b0 : decide ((rd ((rd_T43 l0 x7_2).f0) x10_4) < (x4_2.length : Int)) = true := decide_eq_true c26
                       clear c26
                       by_cases c27 : (rd ((rd_T43 l0 x7_2).f0) x10_4) < (x5_2.length : Int)
                       ·rw [if_pos c27] at H
                        have c27b0 : decide ((rd ((rd_T43 l0 x7_2).f0) x10_4) < (x5_2.length : Int)) = true := decide_eq_true c27
                        clear c27
                        have H' := Aside0.mk H
                        clear H
                        have p250 : 0 ≤ (x7_2 : Int) := of_decide_eq_true (by first | (with_reducible assumption) | assumption)
                        have q250 : x7_2 < (l0.length : Int) := of_decide_eq_true (by first | (with_reducible assumption) | assumption)
                        obtain ⟨ad250, A250_0, c250_0, e250, hx250_0, hx250_1, hx250_2, hx250_3, hx250_4, hl250_0, hi250_0⟩ := at_T43 HR0.out x7_2 p250 q250
                        obtain rfl : ad249 = ad250 := (by injection e250)
                        replace hx250_0 := (HB.out.cell (World.block_lt_of_cell? w _ hx250_0)).trans hx250_0
                        replace hx250_1 := (HB.out.cell (World.block_lt_of_cell? w _ hx250_1)).trans hx250_1
                        replace hx250_2 := (HB.out.cell (World.block_lt_of_cell? w _ hx250_2)).trans hx250_2
                        replace hx250_3 := (HB.out.cell (World.block_lt_of_cell? w _ hx250_3)).trans hx250_3
                        replace hx250_4 := (HB.out.cell (World.block_lt_of_cell? w _ hx250_4)).trans hx250_4
                        have HR250_0 := Aside0.mk hi250_0
                        have HC250_0 := Aside0.mk hl250_0
                        clear hi250_0 hl250_0
                        replace p250 := eq_true p250
                        replace q250 := eq_true q250
                        have p251 : 0 ≤ (x7_2 : Int) := of_decide_eq_true (by first | (with_reducible assumption) | assumption)
                        have q251 : x7_2 < (l0.length : Int) := of_decide_eq_true (by first | (with_reducible assumption) | assumption)
                        obtain ⟨ad251, A251_0, c251_0, e251, hx251_0, hx251_1, hx251_2, hx251_3, hx251_4, hl251_0, hi251_0⟩ := at_T43 HR0.out x7_2 p251 q251
                        obtain rfl : ad249 = ad251 := (by injection e251)
                        replace hx251_0 := (HB.out.cell (World.block_lt_of_cell? w _ hx251_0)).trans hx251_0
                        replace hx251_1 := (HB.out.cell (World.block_lt_of_cell? w _ hx251_1)).trans hx251_1
                        replace hx251_2 := (HB.out.cell (World.block_lt_of_cell? w _ hx251_2)).trans hx251_2
                        replace hx251_3 := (HB.out.cell (World.block_lt_of_cell? w _ hx251_3)).trans hx251_3
                        replace hx251_4 := (HB.out.cell (World.block_lt_of_cell? w _ hx251_4)).trans hx251_4
                        have HR251_0 := Aside0.mk hi251_0
                        have HC251_0 := Aside0.mk hl251_0
                        clear hi251_0 hl251_0
                        replace p251 := eq_true p251
                        replace q251 := eq_true q251
                        have ea_ := Option.some.inj (hx250_0.symm.trans hx251_0)
                        injection ea_ with ea_ en_ ec_
                        subst ea_
                        subst ec_
                        clear en_
                        have p252 : 0 ≤ (x10_4 : Int) := of_decide_eq_true (by first | (with_reducible assumption) | assumption)
                        have q252 : x10_4 < (((rd_T43 l0 x7_2).f0).length : Int) := of_decide_eq_true (by first | (with_reducible assumption) | assumption)
                        obtain ⟨ad252, e252, hx252_0⟩ := Kd.at_int HR251_0.out x10_4 p252 q252
                        cases e252
                        replace hx252_0 := (HB.out.cell (World.block_lt_of_cell? w _ hx252_0)).trans hx252_0
                        replace p252 := eq_true p252
                        replace q252 := eq_true q252
                        obtain ⟨Ao28, co28, eo28⟩ := Kd.R_slice HO_4.out
                        subst eo28
                        have p253 : 0 ≤ ((rd ((rd_T43 l0 x7_2).f0) x10_4) : Int) := of_decide_eq_true (by first | (with_reducible assumption) | assumption)
                        have q253 : (rd ((rd_T43 l0 x7_2).f0) x10_4) < (x4_2.length : Int) := of_decide_eq_true (by first | (with_reducible assumption) | assumption)
                        obtain ⟨ad253, e253, hx253_0⟩ := Kd.at_bool (Kd.R_reads' HO_4.out).2.2 (rd ((rd_T43 l0 x7_2).f0) x10_4) p253 q253
                        cases e253
                        replace p253 := eq_true p253
                        replace q253 := eq_true q253
                        obtain ⟨Ao29, co29, eo29⟩ := Kd.R_slice HO_5.out
                        subst eo29
                        have p254 : 0 ≤ ((rd ((rd_T43 l0 x7_2).f0) x10_4) : Int) := of_decide_eq_true (by first | (with_reducible assumption) | assumption)
                        have q254 : (rd ((rd_T43 l0 x7_2).f0) x10_4) < (x5_2.length : Int) := of_decide_eq_true (by first | (with_reducible assumption) | assumption)
                        obtain ⟨ad254, e254, hx254_0⟩ := Kd.at_int (Kd.R_reads' HO_5.out).2.2 (rd ((rd_T43 l0 x7_2).f0) x10_4) p254 q254
                        cases e254
                        replace p254 := eq_true p254
                        replace q254 := eq_true q254
                        go_wp2
                        go_roundg k4
                        case measure => have := HK1.out; have := HK2.out; have := HJ10.out; have := HK4.out; omega
                        case rel => exact ⟨(rdOf false x4_2 (rd ((rd_T43 l0 x7_2).f0) x10_4)), (wrap64 (x9_4 + (rd x5_2 (rd ((rd_T43 l0 x7_2).f0) x10_4)))), (wrap64 (x10_4 + 1)), (by first | rfl | (simp; done) | (simp [*]; done)), (by first | rfl | (simp; done) | (simp [*]; done)), (by first | rfl | (simp; done) | (simp [*]; done)), H', ⟨by have := HK1.out; have := HK2.out; have := HJ10.out; have := HK4.out; omega⟩, ⟨by (with_reducible repeat (first | apply Kd.R_alloc | apply Kd.R_drewN | apply Kd.R_drew)); exact HO_4.out⟩, ⟨by (with_reducible repeat (first | apply Kd.R_alloc | apply Kd.R_drewN | apply Kd.R_drew)); exact HO_5.out⟩, ⟨by repeat (first | (with_reducible first | exact HB.out | apply below_alloc | apply pw_below_drewN | apply below_drew1) | exact HB.out)⟩⟩
                       ·rw [if_neg c27] at H
                        exact absurd H (by simp)
                      ·rw [if_neg c26] at H
                       exact absurd H (by simp)
                     ·rw [if_neg c25] at H
                      exact absurd H (by simp)
                    ·rw [if_neg c24] at H
                     exact absurd H (by simp)
                   ·replace c23 := Bool.eq_false_iff.mpr c23
                    subst c23
                    have H1 : (butlerref11_fates.l1 k4 l0 x4_2 x5_2 x6_2 (wrap64 (x7_2 + 1))) = some (r1, r2) := by rw [if_neg (show ¬ (false = true) by decide)] at H; exact H
                    clear H
                    have H := H1
                    clear H1
                    have H' := Aside0.mk H
                    clear H
                    have p250 : 0 ≤ (x7_2 : Int) := of_decide_eq_true (by first | (with_reducible assumption) | assumption)
                    have q250 : x7_2 < (l0.length : Int) := of_decide_eq_true (by first | (with_reducible assumption) | assumption)
                    obtain ⟨ad250, A250_0, c250_0, e250, hx250_0, hx250_1, hx250_2, hx250_3, hx250_4, hl250_0, hi250_0⟩ := at_T43 HR0.out x7_2 p250 q250
                    obtain rfl : ad249 = ad250 := (by injection e250)
                    replace hx250_0 := (HB.out.cell (World.block_lt_of_cell? w _ hx250_0)).trans hx250_0
                    replace hx250_1 := (HB.out.cell (World.block_lt_of_cell? w _ hx250_1)).trans hx250_1
                    replace hx250_2 := (HB.out.cell (World.block_lt_of_cell? w _ hx250_2)).trans hx250_2
                    replace hx250_3 := (HB.out.cell (World.block_lt_of_cell? w _ hx250_3)).trans hx250_3
                    replace hx250_4 := (HB.out.cell (World.block_lt_of_cell? w _ hx250_4)).trans hx250_4
                    have HR250_0 := Aside0.mk hi250_0
                    have HC250_0 := Aside0.mk hl250_0
                    clear hi250_0 hl250_0
                    replace p250 := eq_true p250
                    replace q250 := eq_true q250
                    go_wp2
                    go_roundg k4
                    case measure => have := HK1.out; have := HK2.out; have := HJ10.out; have := HK4.out; omega
                    case rel => exact ⟨(x4_2), (x5_2), (x6_2), (wrap64 (x7_2 + 1)), (by first | rfl | (simp; done) | (simp [*]; done)), (by first | rfl | (simp; done) | (simp [*]; done)), H', ⟨by have := HK1.out; have := HK2.out; have := HJ10.out; have := HK4.out; omega⟩, ⟨by (with_reducible repeat (first | apply Kd.R_alloc | apply Kd.R_drewN | apply Kd.R_drew)); exact HO_4.out⟩, ⟨by (with_reducible repeat (first | apply Kd.R_alloc | apply Kd.R_drewN | apply Kd.R_drew)); exact HO_5.out⟩, ⟨by repeat (first | (with_reducible first | exact HB.out | apply below_alloc | apply pw_below_drewN | apply below_drew1) | exact HB.out)⟩⟩
                  ·rw [if_neg c22] at H
                   have c22b0 : decide (x10_4 < (((rd_T43 l0 x7_2).f0).length : Int)) = false := decide_eq_false c22
                   clear c22
                   by_cases c30 : x8_4 = true
                   ·subst c30
                    have H1 : (if x7_2 < (x4_2.length : Int) then (if x7_2 < (x5_2.length : Int) then (butlerref11_fates.l1 k4 l0 (x4_2.set (x7_2 : Int).toNat true) (x5_2.set (x7_2 : Int).toNat (Int.tmod (wrap64 ((Int.tmod x9_4 1000003) + 1000003)) 1000003)) true (wrap64 (x7_2 + 1))) else (none)) else (none)) = some (r1, r2) := by rw [if_pos rfl] at H; exact H
                    clear H
                    have H := H1
                    clear H1
                    by_cases c31 : x7_2 < (x4_2.length : Int)
                    ·rw [if_pos c31] at H
                     have c31b0 : decide (x7_2 < (x4_2.length : Int)) = true := decide_eq_true c31
                     clear c31
                     obtain ⟨y255, hy255⟩ : ∃ y_ : List Bool, y_ = (x4_2.set (x7_2 : Int).toNat true) := ⟨_, rfl⟩
                     replace H : (if x7_2 < (x5_2.length : Int) then (butlerref11_fates.l1 k4 l0 y255 (x5_2.set (x7_2 : Int).toNat (Int.tmod (wrap64 ((Int.tmod x9_4 1000003) + 1000003)) 1000003)) true (wrap64 (x7_2 + 1))) else (none)) = some (r1, r2) := by first | (rw [hy255]; with_reducible exact H) | (have H2_ := (Option.bind_some _ _).symm.trans H; rw [hy255]; with_reducible exact H2_) | (have H2_ := (Option.bind_some _ _).symm.trans H; with_reducible exact H2_) | with_reducible exact H | (rw [hy255]; exact H) | exact H
                     have Ny255 := Aside0.mk hy255
                     clear hy255
                     by_cases c33 : x7_2 < (x5_2.length : Int)
                     ·rw [if_pos c33] at H
                      have c33b0 : decide (x7_2 < (x5_2.length : Int)) = true := decide_eq_true c33
                      clear c33
                      obtain ⟨y256, hy256⟩ : ∃ y_ : List Int, y_ = (x5_2.set (x7_2 : Int).toNat (Int.tmod (wrap64 ((Int.tmod x9_4 1000003) + 1000003)) 1000003)) := ⟨_, rfl⟩
                      replace H : (butlerref11_fates.l1 k4 l0 y255 y256 true (wrap64 (x7_2 + 1))) = some (r1, r2) := by first | (rw [hy256]; with_reducible exact H) | (have H2_ := (Option.bind_some _ _).symm.trans H; rw [hy256]; with_reducible exact H2_) | (have H2_ := (Option.bind_some _ _).symm.trans H; with_reducible exact H2_) | with_reducible exact H | (rw [hy256]; exact H) | exact H
                      have Ny256 := Aside0.mk hy256
                      clear hy256
                      have H' := Aside0.mk H
                      clear H
                      have p250 : 0 ≤ (x7_2 : Int) := of_decide_eq_true (by first | (with_reducible assumption) | assumption)
                      have q250 : x7_2 < (l0.length : Int) := of_decide_eq_true (by first | (with_reducible assumption) | assumption)
                      obtain ⟨ad250, A250_0, c250_0, e250, hx250_0, hx250_1, hx250_2, hx250_3, hx250_4, hl250_0, hi250_0⟩ := at_T43 HR0.out x7_2 p250 q250
                      obtain rfl : ad249 = ad250 := (by injection e250)
                      replace hx250_0 := (HB.out.cell (World.block_lt_of_cell? w _ hx250_0)).trans hx250_0
                      replace hx250_1 := (HB.out.cell (World.block_lt_of_cell? w _ hx250_1)).trans hx250_1
                      replace hx250_2 := (HB.out.cell (World.block_lt_of_cell? w _ hx250_2)).trans hx250_2
                      replace hx250_3 := (HB.out.cell (World.block_lt_of_cell? w _ hx250_3)).trans hx250_3
                      replace hx250_4 := (HB.out.cell (World.block_lt_of_cell? w _ hx250_4)).trans hx250_4
                      have HR250_0 := Aside0.mk hi250_0
                      have HC250_0 := Aside0.mk hl250_0
                      clear hi250_0 hl250_0
                      replace p250 := eq_true p250
                      replace q250 := eq_true q250
                      have p32 : 0 ≤ (x7_2 : Int) := of_decide_eq_true (by first | (with_reducible assumption) | assumption)
                      have q32 : (x7_2 : Int) < ((x4_2.length : Int) : Int) := of_decide_eq_true (by first | (with_reducible assumption) | assumption)
                      obtain ⟨go32, co32, eo32, gb32, gl32, cl32, HG32⟩ := Kd.R_form HO_4.out (by omega)
                      (first | cases eo32 | (injection eo32 with ea_ en_ ec_; (first | subst ea_ | (injection ea_ with ea_; subst ea_)); subst ec_; clear en_))
                      have GB32 := Aside0.mk gb32
                      have GG32 := Aside0.mk HG32
                      clear gb32 gl32 HG32
                      obtain ⟨hx32_0, hf32_0⟩ := Kd.R_celln false HO_4.out (x7_2 : Int) p32 q32
                      replace p32 := eq_true p32
                      replace q32 := eq_true q32
                      have HP35 := Kd.R_putg HO_4.out (x7_2 : Int) true
                      go_wp2_with (first | ((with_reducible refine gate_store (t := 4) (p := 77) rfl ?_); refine store_event (t := 4) (p := 77) (v := ?vo_w36) (w1 := (wr.setCell ⟨go32, (x7_2 : Int).toNat, none⟩ (.bool true))) ?hg ?ho ?hn ?hr ?_; (case ho => rfl); (case hg => rfl); (case hn => rfl); (case hr => first | (go_simp; done) | (go_simp; rfl)); intro w36 hw; have hg : wr.grownBy w36 (some go32) := (by rw [hw]; exact HP35.2); have hp_ : Kd.R Kd.bool 4 w36 w.heap.size (fun _ => True) (.slice (some ⟨go32, 0, none⟩) x4_2.length co32) y255 := (by rw [hw, Ny255.out]; exact HP35.1); clear HP35; have n0_ := Aside0.mk (hp_); have n1_ := Aside0.mk (Kd.R_over' (v := (.slice (some ⟨go32, 0, none⟩) x4_2.length co32)) (by (with_reducible repeat (first | apply Kd.R_alloc | apply Kd.R_drewN | apply Kd.R_drew)); exact HO_5.out) (Kd.R_typed HO_4.out) (by decide) hg); have n2_ := Aside0.mk ((by rw [hw]; exact below_set (HB.out) GB32.out : Below w.heap.size w w36)); clear HO_4; clear HO_5; clear HB; have HO_4 := n0_; have HO_5 := n1_; have HB := n2_; clear n0_ n1_ n2_; clear hg hw hp_; have p34 : 0 ≤ (x7_2 : Int) := of_decide_eq_true (by first | (with_reducible assumption) | assumption); have q34 : (x7_2 : Int) < ((x5_2.length : Int) : Int) := of_decide_eq_true (by first | (with_reducible assumption) | assumption); obtain ⟨go34, co34, eo34, gb34, gl34, cl34, HG34⟩ := Kd.R_form HO_5.out (by omega); (first | cases eo34 | (injection eo34 with ea_ en_ ec_; (first | subst ea_ | (injection ea_ with ea_; subst ea_)); subst ec_; clear en_)); have GB34 := Aside0.mk gb34; have GG34 := Aside0.mk HG34; clear gb34 gl34 HG34; obtain ⟨hx34_0, hf34_0⟩ := Kd.R_celln 0 HO_5.out (x7_2 : Int) p34 q34; replace p34 := eq_true p34; replace q34 := eq_true q34; obtain ⟨hy37_, hz37_⟩ := Kd.R_celln 0 HO_5.out (x7_2 : Int) (of_decide_eq_true (by first | (with_reducible assumption) | assumption)) (of_decide_eq_true (by first | (with_reducible assumption) | assumption)); have HP37 := Kd.R_putg HO_5.out (x7_2 : Int) (Int.tmod (wrap64 ((Int.tmod x9_4 1000003) + 1000003)) 1000003)) | ((with_reducible refine gate_store (t := 3) (p := 84) rfl ?_); refine store_event (t := 3) (p := 84) (v := ?vo_w38) (w1 := (w36.setCell ⟨go34, (x7_2 : Int).toNat, none⟩ (.int .i64 (Int.tmod (wrap64 ((Int.tmod x9_4 1000003) + 1000003)) 1000003)))) ?hg ?ho ?hn ?hr ?_; (case ho => rfl); (case hg => rfl); (case hn => rfl); (case hr => first | (go_simp; done) | (go_simp; rfl)); intro w38 hw; have hg : w36.grownBy w38 (some go34) := (by rw [hw]; exact HP37.2); have hp_ : Kd.R (Kd.int .i64) 3 w38 w.heap.size (fun _ => True) (.slice (some ⟨go34, 0, none⟩) x5_2.length co34) y256 := (by rw [hw, Ny256.out]; exact HP37.1); clear HP37; have n0_ := Aside0.mk (Kd.R_over' (v := (.slice (some ⟨go34, 0, none⟩) x5_2.length co34)) (by (with_reducible repeat (first | apply Kd.R_alloc | apply Kd.R_drewN | apply Kd.R_drew)); exact HO_4.out) (Kd.R_typed HO_5.out) (by decide) hg); have n1_ := Aside0.mk (hp_); have n2_ := Aside0.mk ((by rw [hw]; exact below_set (HB.out) GB34.out : Below w.heap.size w w38)); clear HO_4; clear HO_5; clear HB; have HO_4 := n0_; have HO_5 := n1_; have HB := n2_; clear n0_ n1_ n2_; clear hg hw hp_))
                      go_roundg k4
                      case measure => have := HK1.out; have := HK2.out; have := HJ10.out; have := HK4.out; omega
                      case rel => exact ⟨(y255), (y256), (true), (wrap64 (x7_2 + 1)), (by first | rfl | (simp; done) | (simp [*]; done)), (by first | rfl | (simp; done) | (simp [*]; done)), H', ⟨by have := HK1.out; have := HK2.out; have := HJ10.out; have := HK4.out; omega⟩, ⟨by (with_reducible repeat (first | apply Kd.R_alloc | apply Kd.R_drewN | apply Kd.R_drew)); exact HO_4.out⟩, ⟨by (with_reducible repeat (first | apply Kd.R_alloc | apply Kd.R_drewN | apply Kd.R_drew)); exact HO_5.out⟩, ⟨by repeat (first | (with_reducible first | exact HB.out | apply below_alloc | apply pw_below_drewN | apply below_drew1) | exact HB.out)⟩⟩
                     ·rw [if_neg c33] at H
                      exact absurd H (by simp)
                    ·rw [if_neg c31] at H
                     exact absurd H (by simp)
                   ·replace c30 := Bool.eq_false_iff.mpr c30
                    subst c30
                    have H1 : (butlerref11_fates.l1 k4 l0 x4_2 x5_2 x6_2 (wrap64 (x7_2 + 1))) = some (r1, r2) := by rw [if_neg (show ¬ (false = true) by decide)] at H; exact H
                    clear H
                    have H := H1
                    clear H1
                    have H' := Aside0.mk H
                    clear H
                    have p250 : 0 ≤ (x7_2 : Int) := of_decide_eq_true (by first | (with_reducible assumption) | assumption)
                    have q250 : x7_2 < (l0.length : Int) := of_decide_eq_true (by first | (with_reducible assumption) | assumption)
                    obtain ⟨ad250, A250_0, c250_0, e250, hx250_0, hx250_1, hx250_2, hx250_3, hx250_4, hl250_0, hi250_0⟩ := at_T43 HR0.out x7_2 p250 q250
                    obtain rfl : ad249 = ad250 := (by injection e250)
                    replace hx250_0 := (HB.out.cell (World.block_lt_of_cell? w _ hx250_0)).trans hx250_0
                    replace hx250_1 := (HB.out.cell (World.block_lt_of_cell? w _ hx250_1)).trans hx250_1
                    replace hx250_2 := (HB.out.cell (World.block_lt_of_cell? w _ hx250_2)).trans hx250_2
                    replace hx250_3 := (HB.out.cell (World.block_lt_of_cell? w _ hx250_3)).trans hx250_3
                    replace hx250_4 := (HB.out.cell (World.block_lt_of_cell? w _ hx250_4)).trans hx250_4
                    have HR250_0 := Aside0.mk hi250_0
                    have HC250_0 := Aside0.mk hl250_0
                    clear hi250_0 hl250_0
                    replace p250 := eq_true p250
                    replace q250 := eq_true q250
                    go_wp2
                    go_roundg k4
                    case measure => have := HK1.out; have := HK2.out; have := HJ10.out; have := HK4.out; omega
                    case rel => exact ⟨(x4_2), (x5_2), (x6_2), (wrap64 (x7_2 + 1)), (by first | rfl | (simp; done) | (simp [*]; done)), (by first | rfl | (simp; done) | (simp [*]; done)), H', ⟨by have := HK1.out; have := HK2.out; have := HJ10.out; have := HK4.out; omega⟩, ⟨by (with_reducible repeat (first | apply Kd.R_alloc | apply Kd.R_drewN | apply Kd.R_drew)); exact HO_4.out⟩, ⟨by (with_reducible repeat (first | apply Kd.R_alloc | apply Kd.R_drewN | apply Kd.R_drew)); exact HO_5.out⟩, ⟨by repeat (first | (with_reducible first | exact HB.out | apply below_alloc | apply pw_below_drewN | apply below_drew1) | exact HB.out)⟩⟩
                 ·rw [if_neg c21] at H
                  exact absurd H (by simp)
                ·rw [if_neg c20] at H
                 exact absurd H (by simp)
             ·rw [if_neg c19] at H
              exact absurd H (by simp)
            ·rw [if_neg c18] at H
             exact absurd H (by simp)
         ·rw [if_neg c10] at H
          have c10b0 : decide (x7_2 < (l0.length : Int)) = false := decide_eq_false c10
          clear c10
          have H' := Aside0.mk H
          clear H
          go_wp2
          go_roundg k2
          case measure => have := HK1.out; have := HK2.out; omega
          case rel => exact ⟨(x4_2), (x5_2), (x6_2), (by first | rfl | (simp; done) | (simp [*]; done)), H', ⟨by have := HK1.out; have := HK2.out; omega⟩, ⟨by (with_reducible repeat (first | apply Kd.R_alloc | apply Kd.R_drewN | apply Kd.R_drew)); exact HO_4.out⟩, ⟨by (with_reducible repeat (first | apply Kd.R_alloc | apply Kd.R_drewN | apply Kd.R_drew)); exact HO_5.out⟩, ⟨by repeat (first | (with_reducible first | exact HB.out | apply below_alloc | apply pw_below_drewN | apply below_drew1) | exact HB.out)⟩⟩
      ·replace c9 := Bool.eq_false_iff.mpr c9
       subst c9
       have H1 : (some (x4_1, x5_1)) = some (r1, r2) := by rw [if_neg (show ¬ (false = true) by decide)] at H; exact H
       clear H
       have H := H1
       clear H1
       simp only [Option.some.injEq, Prod.mk.injEq] at H
       obtain ⟨rfl, rfl⟩ := H
       go_wp2
       go_ret2
       exact ⟨_, _, by first | rfl | (simp [errW_none, errW_some] <;> rfl) | (simp [*, errW_none, errW_some] <;> rfl), by (with_reducible repeat (first | apply Kd.R_alloc | apply Kd.R_drewN | apply Kd.R_drew)); exact HO_4.out, by (with_reducible repeat (first | apply Kd.R_alloc | apply Kd.R_drewN | apply Kd.R_drew)); exact HO_5.out, by repeat (first | (with_reducible first | exact HB.out | apply below_alloc | apply pw_below_drewN | apply below_drew1) | exact HB.out)⟩
   ·rw [if_neg c4] at H
    exact absurd H (by simp)
  ·rw [if_neg c3] at H
   exact absurd H (by simp)
 ·rw [if_neg c2] at H
  exact absurd H (by simp)

/-! ### butlerref11_Fate: function 20 -/
def butlerref11_Fate.f (k : Nat) (l0 : List (S43)) (a1 : Int) : Option (Bool × Int) := (butlerref11_Right.f k l0).bind fun t257 => (if t257 = 0 then (if a1 < 0 then (some (false, 0)) else (if a1 ≥ (l0.length : Int) then (some (false, 0)) else ((butlerref11_fates.f k l0).bind fun bt258 => (if 0 ≤ a1 then (if a1 < (bt258.1.length : Int) then (if a1 < (bt258.2.length : Int) then (some (rdOf false bt258.1 a1, rd bt258.2 a1)) else (none)) else (none)) else (none))))) else (some (false, 0)))
theorem butlerref11_Fate.mono : ∀ a0 a1 k, LeO (butlerref11_Fate.f k a0 a1) (butlerref11_Fate.f (k + 1) a0 a1) := by
 intro a0 a1 k
 unfold butlerref11_Fate.f
 repeat' first
   | (with_reducible exact butlerref11_Right.mono _ _)
   | (with_reducible exact butlerref11_fates.mono _ _)
   | (with_reducible exact LeO.refl _)
   | (with_reducible exact LeO.none _)
   | (with_reducible refine LeO.ite ?_ ?_)
   | (with_reducible refine LeO.bind ?_ (fun _ => ?_))
   | exact butlerref11_Right.mono _ _
   | exact butlerref11_fates.mono _ _
   | exact LeO.none _
   | refine LeO.ite ?_ ?_
   | refine LeO.bind ?_ (fun _ => ?_)
set_option maxHeartbeats 8000000 in
set_option maxRecDepth 100000 in
theorem butlerref11_Fate.calls (k : Nat) (A0 : Option Addr) (c0 : Nat) (l0 : List (S43)) (a1 : Int) (r1 : Bool) (r2 : Int) (w : World) (hr0 : Kd.C k43 w A0 l0.length l0) (hc0 : l0.length ≤ c0) (h : butlerref11_Fate.f k l0 a1 = some (r1, r2)) :
  Calls Try.prog 20 #[.slice A0 l0.length c0, .int .i64 a1] w fun e w' => e = .returned (.tuple #[.bool r1, .int .i64 r2]) ∧ Below w.heap.size w w' := by
 have HR0 := Aside0.mk hr0
 have HC0 := Aside0.mk hc0
 clear hr0 hc0
 have HB := Aside0.mk (Below.refl w.heap.size w)
 have H : ((butlerref11_Right.f k l0).bind fun t257 => (if t257 = 0 then (if a1 < 0 then (some (false, 0)) else (if a1 ≥ (l0.length : Int) then (some (false, 0)) else ((butlerref11_fates.f k l0).bind fun bt258 => (if 0 ≤ a1 then (if a1 < (bt258.1.length : Int) then (if a1 < (bt258.2.length : Int) then (some (rdOf false bt258.1 a1, rd bt258.2 a1)) else (none)) else (none)) else (none))))) else (some (false, 0)))) = some (r1, r2) := h
 clear h
 replace H := Option.bind_eq_some_iff.mp H
 obtain ⟨t257, A30, H⟩ := H
 replace H : (if t257 = 0 then (if a1 < 0 then (some (false, 0)) else (if a1 ≥ (l0.length : Int) then (some (false, 0)) else ((butlerref11_fates.f k l0).bind fun bt258 => (if 0 ≤ a1 then (if a1 < (bt258.1.length : Int) then (if a1 < (bt258.2.length : Int) then (some (rdOf false bt258.1 a1, rd bt258.2 a1)) else (none)) else (none)) else (none))))) else (some (false, 0))) = some (r1, r2) := H
 have A3 := Aside0.mk A30
 clear A30
 by_cases c4 : t257 = 0
 ·rw [if_pos c4] at H
  have c4b0 : (t257 == 0) = true := beq_iff_eq.mpr c4
  have c4b1 : (t257 != 0) = false := bne_eq_false_iff_eq.mpr c4
  clear c4
  by_cases c5 : a1 < 0
  ·rw [if_pos c5] at H
   have c5b0 : decide (a1 < 0) = true := decide_eq_true c5
   clear c5
   simp only [Option.some.injEq, Prod.mk.injEq] at H
   obtain ⟨rfl, rfl⟩ := H
   go_enter Try.func20, Try.ntmps20
   go_wp2_with (first | (go_at_call 18; (with_reducible refine (butlerref11_Right.calls k _ _ l0 t257 _ ?side1 ?side2 A3.out).mono ?_); (case side1 => repeat (first | exact HR0.out | (with_reducible refine Kd.C_alloc ?_ _) | (with_reducible refine Kd.C_drewN ?_ _) | (with_reducible refine Kd.C_drew ?_))); (case side2 => exact HC0.out); rintro e w6 ⟨rfl, hb⟩; have n0_ := Aside0.mk (below_step (by repeat (first | (with_reducible first | exact HB.out | apply below_alloc | apply pw_below_drewN | apply below_drew1) | exact HB.out)) hb); clear HB; have HB := n0_; clear n0_; (try clear hb); (try clear hb2); (try clear hk); (try clear hi)))
   repeat (go_quiet (first | (go_at_call 18; (with_reducible refine (butlerref11_Right.calls k _ _ l0 t257 _ ?side1 ?side2 A3.out).mono ?_); (case side1 => repeat (first | exact HR0.out | (with_reducible refine Kd.C_alloc ?_ _) | (with_reducible refine Kd.C_drewN ?_ _) | (with_reducible refine Kd.C_drew ?_))); (case side2 => exact HC0.out); rintro e w6 ⟨rfl, hb⟩; have n0_ := Aside0.mk (below_step (by repeat (first | (with_reducible first | exact HB.out | apply below_alloc | apply pw_below_drewN | apply below_drew1) | exact HB.out)) hb); clear HB; have HB := n0_; clear n0_; (try clear hb); (try clear hb2); (try clear hk); (try clear hi))); try go_wp2_with (first | (go_at_call 18; (with_reducible refine (butlerref11_Right.calls k _ _ l0 t257 _ ?side1 ?side2 A3.out).mono ?_); (case side1 => repeat (first | exact HR0.out | (with_reducible refine Kd.C_alloc ?_ _) | (with_reducible refine Kd.C_drewN ?_ _) | (with_reducible refine Kd.C_drew ?_))); (case side2 => exact HC0.out); rintro e w6 ⟨rfl, hb⟩; have n0_ := Aside0.mk (below_step (by repeat (first | (with_reducible first | exact HB.out | apply below_alloc | apply pw_below_drewN | apply below_drew1) | exact HB.out)) hb); clear HB; have HB := n0_; clear n0_; (try clear hb); (try clear hb2); (try clear hk); (try clear hi))))
   go_ret2
   exact ⟨by first | rfl | (simp [errW_none, errW_some] <;> rfl) | (simp [*, errW_none, errW_some] <;> rfl), by repeat (first | (with_reducible first | exact HB.out | apply below_alloc | apply pw_below_drewN | apply below_drew1) | exact HB.out)⟩
  ·rw [if_neg c5] at H
   have c5b0 : decide (a1 < 0) = false := decide_eq_false c5
   clear c5
   by_cases c7 : a1 ≥ (l0.length : Int)
   ·rw [if_pos c7] at H
    have c7b0 : decide ((l0.length : Int) ≤ a1) = true := decide_eq_true c7
    clear c7
    simp only [Option.some.injEq, Prod.mk.injEq] at H
    obtain ⟨rfl, rfl⟩ := H
    go_enter Try.func20, Try.ntmps20
    go_wp2_with (first | (go_at_call 18; (with_reducible refine (butlerref11_Right.calls k _ _ l0 t257 _ ?side1 ?side2 A3.out).mono ?_); (case side1 => repeat (first | exact HR0.out | (with_reducible refine Kd.C_alloc ?_ _) | (with_reducible refine Kd.C_drewN ?_ _) | (with_reducible refine Kd.C_drew ?_))); (case side2 => exact HC0.out); rintro e w8 ⟨rfl, hb⟩; have n0_ := Aside0.mk (below_step (by repeat (first | (with_reducible first | exact HB.out | apply below_alloc | apply pw_below_drewN | apply below_drew1) | exact HB.out)) hb); clear HB; have HB := n0_; clear n0_; (try clear hb); (try clear hb2); (try clear hk); (try clear hi)))
    repeat (go_quiet (first | (go_at_call 18; (with_reducible refine (butlerref11_Right.calls k _ _ l0 t257 _ ?side1 ?side2 A3.out).mono ?_); (case side1 => repeat (first | exact HR0.out | (with_reducible refine Kd.C_alloc ?_ _) | (with_reducible refine Kd.C_drewN ?_ _) | (with_reducible refine Kd.C_drew ?_))); (case side2 => exact HC0.out); rintro e w8 ⟨rfl, hb⟩; have n0_ := Aside0.mk (below_step (by repeat (first | (with_reducible first | exact HB.out | apply below_alloc | apply pw_below_drewN | apply below_drew1) | exact HB.out)) hb); clear HB; have HB := n0_; clear n0_; (try clear hb); (try clear hb2); (try clear hk); (try clear hi))); try go_wp2_with (first | (go_at_call 18; (with_reducible refine (butlerref11_Right.calls k _ _ l0 t257 _ ?side1 ?side2 A3.out).mono ?_); (case side1 => repeat (first | exact HR0.out | (with_reducible refine Kd.C_alloc ?_ _) | (with_reducible refine Kd.C_drewN ?_ _) | (with_reducible refine Kd.C_drew ?_))); (case side2 => exact HC0.out); rintro e w8 ⟨rfl, hb⟩; have n0_ := Aside0.mk (below_step (by repeat (first | (with_reducible first | exact HB.out | apply below_alloc | apply pw_below_drewN | apply below_drew1) | exact HB.out)) hb); clear HB; have HB := n0_; clear n0_; (try clear hb); (try clear hb2); (try clear hk); (try clear hi))))
    go_ret2
    exact ⟨by first | rfl | (simp [errW_none, errW_some] <;> rfl) | (simp [*, errW_none, errW_some] <;> rfl), by repeat (first | (with_reducible first | exact HB.out | apply below_alloc | apply pw_below_drewN | apply below_drew1) | exact HB.out)⟩
   ·rw [if_neg c7] at H
    have c7b0 : decide ((l0.length : Int) ≤ a1) = false := decide_eq_false c7
    clear c7
    replace H := Option.bind_eq_some_iff.mp H
    obtain ⟨⟨t258, t259⟩, A90, H⟩ := H
    replace H : (if 0 ≤ a1 then (if a1 < (t258.length : Int) then (if a1 < (t259.length : Int) then (some (rdOf false t258 a1, rd t259 a1)) else (none)) else (none)) else (none)) = some (r1, r2) := H
    have A9 := Aside0.mk A90
    clear A90
    by_cases c10 : 0 ≤ a1
    ·rw [if_pos c10] at H
     have c10b0 : decide (0 ≤ a1) = true := decide_eq_true c10
     clear c10
     by_cases c11 : a1 < (t258.length : Int)
     ·rw [if_pos c11] at H
      have c11b0 : decide (a1 < (t258.length : Int)) = true := decide_eq_true c11
      clear c11
      by_cases c12 : a1 < (t259.length : Int)
      ·rw [if_pos c12] at H
       have c12b0 : decide (a1 < (t259.length : Int)) = true := decide_eq_true c12
       clear c12
       simp only [Option.some.injEq, Prod.mk.injEq] at H
       obtain ⟨rfl, rfl⟩ := H
       go_enter Try.func20, Try.ntmps20
       go_wp2_with (first | (go_at_call 18; (with_reducible refine (butlerref11_Right.calls k _ _ l0 t257 _ ?side1 ?side2 A3.out).mono ?_); (case side1 => repeat (first | exact HR0.out | (with_reducible refine Kd.C_alloc ?_ _) | (with_reducible refine Kd.C_drewN ?_ _) | (with_reducible refine Kd.C_drew ?_))); (case side2 => exact HC0.out); rintro e w13 ⟨rfl, hb⟩; have n0_ := Aside0.mk (below_step (by repeat (first | (with_reducible first | exact HB.out | apply below_alloc | apply pw_below_drewN | apply below_drew1) | exact HB.out)) hb); clear HB; have HB := n0_; clear n0_; (try clear hb); (try clear hb2); (try clear hk); (try clear hi)) | (go_at_call 32; (with_reducible refine (butlerref11_fates.calls k _ _ l0 t258 t259 _ ?side1 ?side2 A9.out).mono ?_); (case side1 => repeat (first | exact (Kd.C_below HR0.out HB.out) | (with_reducible refine Kd.C_alloc ?_ _) | (with_reducible refine Kd.C_drewN ?_ _) | (with_reducible refine Kd.C_drew ?_))); (case side2 => exact HC0.out); rintro e w14 ⟨v260, v262, rfl, ho0, ho1, hb⟩; have n0_ := Aside0.mk (Kd.R_lower ho0 (below_size (by repeat (first | (with_reducible first | exact HB.out | apply below_alloc | apply pw_below_drewN | apply below_drew1) | exact HB.out)))); have n1_ := Aside0.mk (Kd.R_lower ho1 (below_size (by repeat (first | (with_reducible first | exact HB.out | apply below_alloc | apply pw_below_drewN | apply below_drew1) | exact HB.out)))); have n2_ := Aside0.mk (below_step (by repeat (first | (with_reducible first | exact HB.out | apply below_alloc | apply pw_below_drewN | apply below_drew1) | exact HB.out)) hb); clear HB; have HO261 := n0_; have HO263 := n1_; have HB := n2_; clear n0_ n1_ n2_; (try clear hb); (try clear hb2); (try clear hk); (try clear hi); (try clear ho0); (try clear ho1); obtain ⟨Ao15, co15, eo15⟩ := Kd.R_slice HO261.out; subst eo15; have p264 : 0 ≤ (a1 : Int) := of_decide_eq_true (by first | (with_reducible assumption) | assumption); have q264 : a1 < (t258.length : Int) := of_decide_eq_true (by first | (with_reducible assumption) | assumption); obtain ⟨ad264, e264, hx264_0⟩ := Kd.at_bool (Kd.R_reads' HO261.out).2.2 a1 p264 q264; cases e264; replace p264 := eq_true p264; replace q264 := eq_true q264; obtain ⟨Ao16, co16, eo16⟩ := Kd.R_slice HO263.out; subst eo16; have p265 : 0 ≤ (a1 : Int) := of_decide_eq_true (by first | (with_reducible assumption) | assumption); have q265 : a1 < (t259.length : Int) := of_decide_eq_true (by first | (with_reducible assumption) | assumption); obtain ⟨ad265, e265, hx265_0⟩ := Kd.at_int (Kd.R_reads' HO263.out).2.2 a1 p265 q265; cases e265; replace p265 := eq_true p265; replace q265 := eq_true q265))
       repeat (go_quiet (first | (go_at_call 18; (with_reducible refine (butlerref11_Right.calls k _ _ l0 t257 _ ?side1 ?side2 A3.out).mono ?_); (case side1 => repeat (first | exact HR0.out | (with_reducible refine Kd.C_alloc ?_ _) | (with_reducible refine Kd.C_drewN ?_ _) | (with_reducible refine Kd.C_drew ?_))); (case side2 => exact HC0.out); rintro e w13 ⟨rfl, hb⟩; have n0_ := Aside0.mk (below_step (by repeat (first | (with_reducible first | exact HB.out | apply below_alloc | apply pw_below_drewN | apply below_drew1) | exact HB.out)) hb); clear HB; have HB := n0_; clear n0_; (try clear hb); (try clear hb2); (try clear hk); (try clear hi)) | (go_at_call 32; (with_reducible refine (butlerref11_fates.calls k _ _ l0 t258 t259 _ ?side1 ?side2 A9.out).mono ?_); (case side1 => repeat (first | exact (Kd.C_below HR0.out HB.out) | (with_reducible refine Kd.C_alloc ?_ _) | (with_reducible refine Kd.C_drewN ?_ _) | (with_reducible refine Kd.C_drew ?_))); (case side2 => exact HC0.out); rintro e w14 ⟨v260, v262, rfl, ho0, ho1, hb⟩; have n0_ := Aside0.mk (Kd.R_lower ho0 (below_size (by repeat (first | (with_reducible first | exact HB.out | apply below_alloc | apply pw_below_drewN | apply below_drew1) | exact HB.out)))); have n1_ := Aside0.mk (Kd.R_lower ho1 (below_size (by repeat (first | (with_reducible first | exact HB.out | apply below_alloc | apply pw_below_drewN | apply below_drew1) | exact HB.out)))); have n2_ := Aside0.mk (below_step (by repeat (first | (with_reducible first | exact HB.out | apply below_alloc | apply pw_below_drewN | apply below_drew1) | exact HB.out)) hb); clear HB; have HO261 := n0_; have HO263 := n1_; have HB := n2_; clear n0_ n1_ n2_; (try clear hb); (try clear hb2); (try clear hk); (try clear hi); (try clear ho0); (try clear ho1); obtain ⟨Ao15, co15, eo15⟩ := Kd.R_slice HO261.out; subst eo15; have p264 : 0 ≤ (a1 : Int) := of_decide_eq_true (by first | (with_reducible assumption) | assumption); have q264 : a1 < (t258.length : Int) := of_decide_eq_true (by first | (with_reducible assumption) | assumption); obtain ⟨ad264, e264, hx264_0⟩ := Kd.at_bool (Kd.R_reads' HO261.out).2.2 a1 p264 q264; cases e264; replace p264 := eq_true p264; replace q264 := eq_true q264; obtain ⟨Ao16, co16, eo16⟩ := Kd.R_slice HO263.out; subst eo16; have p265 : 0 ≤ (a1 : Int) := of_decide_eq_true (by first | (with_reducible assumption) | assumption); have q265 : a1 < (t259.length : Int) := of_decide_eq_true (by first | (with_reducible assumption) | assumption); obtain ⟨ad265, e265, hx265_0⟩ := Kd.at_int (Kd.R_reads' HO263.out).2.2 a1 p265 q265; cases e265; replace p265 := eq_true p265; replace q265 := eq_true q265)); try go_wp2_with (first | (go_at_call 18; (with_reducible refine (butlerref11_Right.calls k _ _ l0 t257 _ ?side1 ?side2 A3.out).mono ?_); (case side1 => repeat (first | exact HR0.out | (with_reducible refine Kd.C_alloc ?_ _) | (with_reducible refine Kd.C_drewN ?_ _) | (with_reducible refine Kd.C_drew ?_))); (case side2 => exact HC0.out); rintro e w13 ⟨rfl, hb⟩; have n0_ := Aside0.mk (below_step (by repeat (first | (with_reducible first | exact HB.out | apply below_alloc | apply pw_below_drewN | apply below_drew1) | exact HB.out)) hb); clear HB; have HB := n0_; clear n0_; (try clear hb); (try clear hb2); (try clear hk); (try clear hi)) | (go_at_call 32; (with_reducible refine (butlerref11_fates.calls k _ _ l0 t258 t259 _ ?side1 ?side2 A9.out).mono ?_); (case side1 => repeat (first | exact (Kd.C_below HR0.out HB.out) | (with_reducible refine Kd.C_alloc ?_ _) | (with_reducible refine Kd.C_drewN ?_ _) | (with_reducible refine Kd.C_drew ?_))); (case side2 => exact HC0.out); rintro e w14 ⟨v260, v262, rfl, ho0, ho1, hb⟩; have n0_ := Aside0.mk (Kd.R_lower ho0 (below_size (by repeat (first | (with_reducible first | exact HB.out | apply below_alloc | apply pw_below_drewN | apply below_drew1) | exact HB.out)))); have n1_ := Aside0.mk (Kd.R_lower ho1 (below_size (by repeat (first | (with_reducible first | exact HB.out | apply below_alloc | apply pw_below_drewN | apply below_drew1) | exact HB.out)))); have n2_ := Aside0.mk (below_step (by repeat (first | (with_reducible first | exact HB.out | apply below_alloc | apply pw_below_drewN | apply below_drew1) | exact HB.out)) hb); clear HB; have HO261 := n0_; have HO263 := n1_; have HB := n2_; clear n0_ n1_ n2_; (try clear hb); (try clear hb2); (try clear hk); (try clear hi); (try clear ho0); (try clear ho1); obtain ⟨Ao15, co15, eo15⟩ := Kd.R_slice HO261.out; subst eo15; have p264 : 0 ≤ (a1 : Int) := of_decide_eq_true (by first | (with_reducible assumption) | assumption); have q264 : a1 < (t258.length : Int) := of_decide_eq_true (by first | (with_reducible assumption) | assumption); obtain ⟨ad264, e264, hx264_0⟩ := Kd.at_bool (Kd.R_reads' HO261.out).2.2 a1 p264 q264; cases e264; replace p264 := eq_true p264; replace q264 := eq_true q264; obtain ⟨Ao16, co16, eo16⟩ := Kd.R_slice HO263.out; subst eo16; have p265 : 0 ≤ (a1 : Int) := of_decide_eq_true (by first | (with_reducible assumption) | assumption); have q265 : a1 < (t259.length : Int) := of_decide_eq_true (by first | (with_reducible assumption) | assumption); obtain ⟨ad265, e265, hx265_0⟩ := Kd.at_int (Kd.R_reads' HO263.out).2.2 a1 p265 q265; cases e265; replace p265 := eq_true p265; replace q265 := eq_true q265)))
       go_ret2
       exact ⟨by first | rfl | (simp [errW_none, errW_some] <;> rfl) | (simp [*, errW_none, errW_some] <;> rfl), by repeat (first | (with_reducible first | exact HB.out | apply below_alloc | apply pw_below_drewN | apply below_drew1) | exact HB.out)⟩
      ·rw [if_neg c12] at H
       exact absurd H (by simp)
     ·rw [if_neg c11] at H
      exact absurd H (by simp)
    ·rw [if_neg c10] at H
     exact absurd H (by simp)
 ·rw [if_neg c4] at H
  have c4b0 : (t257 == 0) = false := beq_eq_false_iff_ne.mpr c4
  have c4b1 : (t257 != 0) = true := bne_iff_ne.mpr c4
  simp only [Option.some.injEq, Prod.mk.injEq] at H
  obtain ⟨rfl, rfl⟩ := H
  go_enter Try.func20, Try.ntmps20
  go_wp2_with (first | (go_at_call 18; (with_reducible refine (butlerref11_Right.calls k _ _ l0 t257 _ ?side1 ?side2 A3.out).mono ?_); (case side1 => repeat (first | exact HR0.out | (with_reducible refine Kd.C_alloc ?_ _) | (with_reducible refine Kd.C_drewN ?_ _) | (with_reducible refine Kd.C_drew ?_))); (case side2 => exact HC0.out); rintro e w17 ⟨rfl, hb⟩; have n0_ := Aside0.mk (below_step (by repeat (first | (with_reducible first | exact HB.out | apply below_alloc | apply pw_below_drewN | apply below_drew1) | exact HB.out)) hb); clear HB; have HB := n0_; clear n0_; (try clear hb); (try clear hb2); (try clear hk); (try clear hi)))
  repeat (go_quiet (first | (go_at_call 18; (with_reducible refine (butlerref11_Right.calls k _ _ l0 t257 _ ?side1 ?side2 A3.out).mono ?_); (case side1 => repeat (first | exact HR0.out | (with_reducible refine Kd.C_alloc ?_ _) | (with_reducible refine Kd.C_drewN ?_ _) | (with_reducible refine Kd.C_drew ?_))); (case side2 => exact HC0.out); rintro e w17 ⟨rfl, hb⟩; have n0_ := Aside0.mk (below_step (by repeat (first | (with_reducible first | exact HB.out | apply below_alloc | apply pw_below_drewN | apply below_drew1) | exact HB.out)) hb); clear HB; have HB := n0_; clear n0_; (try clear hb); (try clear hb2); (try clear hk); (try clear hi))); try go_wp2_with (first | (go_at_call 18; (with_reducible refine (butlerref11_Right.calls k _ _ l0 t257 _ ?side1 ?side2 A3.out).mono ?_); (case side1 => repeat (first | exact HR0.out | (with_reducible refine Kd.C_alloc ?_ _) | (with_reducible refine Kd.C_drewN ?_ _) | (with_reducible refine Kd.C_drew ?_))); (case side2 => exact HC0.out); rintro e w17 ⟨rfl, hb⟩; have n0_ := Aside0.mk (below_step (by repeat (first | (with_reducible first | exact HB.out | apply below_alloc | apply pw_below_drewN | apply below_drew1) | exact HB.out)) hb); clear HB; have HB := n0_; clear n0_; (try clear hb); (try clear hb2); (try clear hk); (try clear hi))))
  go_ret2
  exact ⟨by first | rfl | (simp [errW_none, errW_some] <;> rfl) | (simp [*, errW_none, errW_some] <;> rfl), by repeat (first | (with_reducible first | exact HB.out | apply below_alloc | apply pw_below_drewN | apply below_drew1) | exact HB.out)⟩

-- NOT PRINTED: function 33 (butlerref11_asking_ask)

-- NOT PRINTED: function 21 (butlerref11_Order)

-- NOT PRINTED: function 22 (butlerlaw11_owned)

-- NOT PRINTED: function 4 (butlerlaw11_RecipeAsks)

end
end Go.Proofs.Ytgahkloigbhgdaa.PR
