import Derived.Test.YtgahkloigbhgdaaPRx0
import Derived.Test.YtgahkloigbhgdaaPRx2
import Derived.Test.YtgahkloigbhgdaaPRx3
import Derived.Test.YtgahkloigbhgdaaPRx5
import Derived.Test.YtgahkloigbhgdaaPRx6
import Derived.Test.YtgahkloigbhgdaaPRy7
namespace Go.Proofs.Ytgahkloigbhgdaa.PR
open Go.RowKit Go.Proofs.YtgahkloigbhgdaaW.PrintWords Go.Proofs.YtgahkloigbhgdaaW.PrintLast Go.Proofs.YtgahkloigbhgdaaW.PrintMore
noncomputable section
attribute [local go_sem] max2_int min2_int max_two min_two max_three min_three max_four min_four   -- for this text's walks alone
set_option linter.unusedVariables false
set_option linter.unusedSimpArgs false

set_option maxHeartbeats 8000000 in
set_option maxRecDepth 100000 in
theorem butlerlaw11_RecipeFates.calls (k : Nat) (A0 : Option Addr) (c0 : Nat) (l0 : List (S43)) (r : Bool) (w : World) (hr0 : Kd.C k43 w A0 l0.length l0) (hc0 : l0.length ≤ c0) (h : butlerlaw11_RecipeFates.f k l0 = some r) :
  Calls Try.prog 5 #[.slice A0 l0.length c0] w fun e w' => e = .returned (.bool r) ∧ Below w.heap.size w w' := by
 have HR0 := Aside0.mk hr0
 have HC0 := Aside0.mk hc0
 clear hr0 hc0
 have HB := Aside0.mk (Below.refl w.heap.size w)
 have H : ((butlerlaw11_awake.f k).bind fun t211 => ((butlerref11_Right.f k l0).bind fun t212 => (if t211 = true then (butlerlaw11_RecipeFates.j0 k l0 t211 (t212 != 0)) else (butlerlaw11_RecipeFates.j0 k l0 t211 true)))) = some r := h
 clear h
 replace H := Option.bind_eq_some_iff.mp H
 obtain ⟨t211, A20, H⟩ := H
 replace H : ((butlerref11_Right.f k l0).bind fun t212 => (if t211 = true then (butlerlaw11_RecipeFates.j0 k l0 t211 (t212 != 0)) else (butlerlaw11_RecipeFates.j0 k l0 t211 true))) = some r := H
 have A2 := Aside0.mk A20
 clear A20
 replace H := Option.bind_eq_some_iff.mp H
 obtain ⟨t212, A30, H⟩ := H
 replace H : (if t211 = true then (butlerlaw11_RecipeFates.j0 k l0 t211 (t212 != 0)) else (butlerlaw11_RecipeFates.j0 k l0 t211 true)) = some r := H
 have A3 := Aside0.mk A30
 clear A30
 have HC4 := Aside0.mk H
 clear H
 go_enter Try.func5, Try.ntmps5
 go_upto_region 3 with (first | (go_at_call 8; (with_reducible refine (butlerlaw11_awake.calls k  t211 _ A2.out).mono ?_); rintro e w5 ⟨rfl, hb⟩; have n0_ := Aside0.mk (below_step (by repeat (first | (with_reducible first | exact HB.out | apply below_alloc | apply pw_below_drewN | apply below_drew1) | exact HB.out)) hb); clear HB; have HB := n0_; clear n0_; (try clear hb); (try clear hb2); (try clear hk); (try clear hi)) | (go_at_call 18; (with_reducible refine (butlerref11_Right.calls k _ _ l0 t212 _ ?side1 ?side2 A3.out).mono ?_); (case side1 => repeat (first | exact (Kd.C_below HR0.out HB.out) | (with_reducible refine Kd.C_alloc ?_ _) | (with_reducible refine Kd.C_drewN ?_ _) | (with_reducible refine Kd.C_drew ?_))); (case side2 => exact HC0.out); rintro e w6 ⟨rfl, hb⟩; have n0_ := Aside0.mk (below_step (by repeat (first | (with_reducible first | exact HB.out | apply below_alloc | apply pw_below_drewN | apply below_drew1) | exact HB.out)) hb); clear HB; have HB := n0_; clear n0_; (try clear hb); (try clear hb2); (try clear hk); (try clear hi)))
 repeat (go_quiet (first | (go_at_call 8; (with_reducible refine (butlerlaw11_awake.calls k  t211 _ A2.out).mono ?_); rintro e w5 ⟨rfl, hb⟩; have n0_ := Aside0.mk (below_step (by repeat (first | (with_reducible first | exact HB.out | apply below_alloc | apply pw_below_drewN | apply below_drew1) | exact HB.out)) hb); clear HB; have HB := n0_; clear n0_; (try clear hb); (try clear hb2); (try clear hk); (try clear hi)) | (go_at_call 18; (with_reducible refine (butlerref11_Right.calls k _ _ l0 t212 _ ?side1 ?side2 A3.out).mono ?_); (case side1 => repeat (first | exact (Kd.C_below HR0.out HB.out) | (with_reducible refine Kd.C_alloc ?_ _) | (with_reducible refine Kd.C_drewN ?_ _) | (with_reducible refine Kd.C_drew ?_))); (case side2 => exact HC0.out); rintro e w6 ⟨rfl, hb⟩; have n0_ := Aside0.mk (below_step (by repeat (first | (with_reducible first | exact HB.out | apply below_alloc | apply pw_below_drewN | apply below_drew1) | exact HB.out)) hb); clear HB; have HB := n0_; clear n0_; (try clear hb); (try clear hb2); (try clear hk); (try clear hi))); go_upto_region 3 with (first | (go_at_call 8; (with_reducible refine (butlerlaw11_awake.calls k  t211 _ A2.out).mono ?_); rintro e w5 ⟨rfl, hb⟩; have n0_ := Aside0.mk (below_step (by repeat (first | (with_reducible first | exact HB.out | apply below_alloc | apply pw_below_drewN | apply below_drew1) | exact HB.out)) hb); clear HB; have HB := n0_; clear n0_; (try clear hb); (try clear hb2); (try clear hk); (try clear hi)) | (go_at_call 18; (with_reducible refine (butlerref11_Right.calls k _ _ l0 t212 _ ?side1 ?side2 A3.out).mono ?_); (case side1 => repeat (first | exact (Kd.C_below HR0.out HB.out) | (with_reducible refine Kd.C_alloc ?_ _) | (with_reducible refine Kd.C_drewN ?_ _) | (with_reducible refine Kd.C_drew ?_))); (case side2 => exact HC0.out); rintro e w6 ⟨rfl, hb⟩; have n0_ := Aside0.mk (below_step (by repeat (first | (with_reducible first | exact HB.out | apply below_alloc | apply pw_below_drewN | apply below_drew1) | exact HB.out)) hb); clear HB; have HB := n0_; clear n0_; (try clear hb); (try clear hb2); (try clear hk); (try clear hi))))
 (try simp only [Act.put, List.setIfInBounds_toArray, List.set_cons_zero, List.set_cons_succ])
 go_cut [26] (fun v26 wc => ∃ (kq : Nat) (x26_3 : Bool), v26 = .bool x26_3 ∧ Aside0 (butlerlaw11_RecipeFates.j0 kq l0 t211 x26_3 = some r) ∧ Aside0 (kq ≤ k) ∧ Aside0 (Below w.heap.size w wc))
 case first =>
  have H := HC4.out
  clear HC4
  by_cases c7 : t211 = true
  ·subst c7
   have H1 : (butlerlaw11_RecipeFates.j0 k l0 true (t212 != 0)) = some r := by rw [if_pos rfl] at H; exact H
   clear H
   have H := H1
   clear H1
   have H' := Aside0.mk H
   clear H
   go_wp2
   repeat (go_quiet (fail); try go_wp2)
   go_meet
   case rel => exact ⟨_, ((t212 != 0)), (by first | rfl | (simp; done) | (simp [*]; done)), H', ⟨by first | omega | exact Nat.le_refl _⟩, ⟨by repeat (first | (with_reducible first | exact HB.out | apply below_alloc | apply pw_below_drewN | apply below_drew1) | exact HB.out)⟩⟩
  ·replace c7 := Bool.eq_false_iff.mpr c7
   subst c7
   have H1 : (butlerlaw11_RecipeFates.j0 k l0 false true) = some r := by rw [if_neg (show ¬ (false = true) by decide)] at H; exact H
   clear H
   have H := H1
   clear H1
   have H' := Aside0.mk H
   clear H
   go_wp2
   repeat (go_quiet (fail); try go_wp2)
   go_meet
   case rel => exact ⟨_, (true), (by first | rfl | (simp; done) | (simp [*]; done)), H', ⟨by first | omega | exact Nat.le_refl _⟩, ⟨by repeat (first | (with_reducible first | exact HB.out | apply below_alloc | apply pw_below_drewN | apply below_drew1) | exact HB.out)⟩⟩
 case rest => as_aux_lemma =>
  clear HC4
  try clear p2
  try clear c5
  try clear c7
  obtain ⟨kq, x26_3, rfl, HA, HJ3, HB⟩ := hcut
  cases kq with
  | zero => exact absurd HA.out (by simp [butlerlaw11_RecipeFates.j0])
  | succ kj3 =>
   have H := HA.out
   clear HA
   simp only [butlerlaw11_RecipeFates.j0] at H
   by_cases c8 : x26_3 = true
   ·subst c8
    have H1 : (some t211) = some r := by rw [if_pos rfl] at H; exact H
    clear H
    have H := H1
    clear H1
    obtain rfl := Option.some.inj H
    go_wp2
    repeat (go_quiet (fail); try go_wp2)
    go_ret
    exact ⟨by first | rfl | (simp [errW_none, errW_some] <;> rfl) | (simp [*, errW_none, errW_some] <;> rfl), by repeat (first | (with_reducible first | exact HB.out | apply below_alloc | apply pw_below_drewN | apply below_drew1) | exact HB.out)⟩
   ·replace c8 := Bool.eq_false_iff.mpr c8
    subst c8
    have H1 : ((butlerlaw11_table.f kj3 l0).bind fun t213 => ((recipe_Rings.f kj3 l0).bind fun t216 => (butlerlaw11_RecipeFates.l0 kj3 l0 t213 t216 0 0))) = some r := by rw [if_neg (show ¬ (false = true) by decide)] at H; exact H
    clear H
    have H := H1
    clear H1
    replace H := Option.bind_eq_some_iff.mp H
    obtain ⟨t213, A90, H⟩ := H
    replace H : ((recipe_Rings.f kj3 l0).bind fun t216 => (butlerlaw11_RecipeFates.l0 kj3 l0 t213 t216 0 0)) = some r := H
    have A9 := Aside0.mk A90
    clear A90
    replace H := Option.bind_eq_some_iff.mp H
    obtain ⟨t216, A100, H⟩ := H
    replace H : (butlerlaw11_RecipeFates.l0 kj3 l0 t213 t216 0 0) = some r := H
    have A10 := Aside0.mk A100
    clear A100
    have H' := Aside0.mk H
    clear H
    go_wp2_with (first | (go_at_call 23; (with_reducible refine (butlerlaw11_table.calls kj3 _ _ l0 t213 _ ?side1 ?side2 A9.out).mono ?_); (case side1 => repeat (first | exact (Kd.C_below HR0.out HB.out) | (with_reducible refine Kd.C_alloc ?_ _) | (with_reducible refine Kd.C_drewN ?_ _) | (with_reducible refine Kd.C_drew ?_))); (case side2 => exact HC0.out); rintro e w11 ⟨v214, rfl, ho0, hb⟩; have n0_ := Aside0.mk (Kd.S_lower ho0 (below_size (by repeat (first | (with_reducible first | exact HB.out | apply below_alloc | apply pw_below_drewN | apply below_drew1) | exact HB.out)))); have n1_ := Aside0.mk (below_step (by repeat (first | (with_reducible first | exact HB.out | apply below_alloc | apply pw_below_drewN | apply below_drew1) | exact HB.out)) hb); clear HB; have HO215 := n0_; have HB := n1_; clear n0_ n1_; (try clear hb); (try clear hb2); (try clear hk); (try clear hi); (try clear ho0)) | (go_at_call 12; (with_reducible refine (recipe_Rings.calls kj3 _ _ l0 t216 _ ?side1 ?side2 A10.out).mono ?_); (case side1 => repeat (first | exact (Kd.C_below HR0.out HB.out) | (with_reducible refine Kd.C_alloc ?_ _) | (with_reducible refine Kd.C_drewN ?_ _) | (with_reducible refine Kd.C_drew ?_))); (case side2 => exact HC0.out); rintro e w12 ⟨v217, rfl, ho0, hb⟩; have n0_ := Aside0.mk (Kd.S_below (by (with_reducible repeat (first | apply Kd.S_alloc | apply Kd.S_drewN | apply Kd.S_drew)); exact HO215.out) hb); have n1_ := Aside0.mk (Kd.R_lower ho0 (below_size (by repeat (first | (with_reducible first | exact HB.out | apply below_alloc | apply pw_below_drewN | apply below_drew1) | exact HB.out)))); have n2_ := Aside0.mk (below_step (by repeat (first | (with_reducible first | exact HB.out | apply below_alloc | apply pw_below_drewN | apply below_drew1) | exact HB.out)) hb); clear HO215; clear HB; have HO215 := n0_; have HO218 := n1_; have HB := n2_; clear n0_ n1_ n2_; (try clear hb); (try clear hb2); (try clear hk); (try clear hi); (try clear ho0)))
    repeat (go_quiet (first | (go_at_call 23; (with_reducible refine (butlerlaw11_table.calls kj3 _ _ l0 t213 _ ?side1 ?side2 A9.out).mono ?_); (case side1 => repeat (first | exact (Kd.C_below HR0.out HB.out) | (with_reducible refine Kd.C_alloc ?_ _) | (with_reducible refine Kd.C_drewN ?_ _) | (with_reducible refine Kd.C_drew ?_))); (case side2 => exact HC0.out); rintro e w11 ⟨v214, rfl, ho0, hb⟩; have n0_ := Aside0.mk (Kd.S_lower ho0 (below_size (by repeat (first | (with_reducible first | exact HB.out | apply below_alloc | apply pw_below_drewN | apply below_drew1) | exact HB.out)))); have n1_ := Aside0.mk (below_step (by repeat (first | (with_reducible first | exact HB.out | apply below_alloc | apply pw_below_drewN | apply below_drew1) | exact HB.out)) hb); clear HB; have HO215 := n0_; have HB := n1_; clear n0_ n1_; (try clear hb); (try clear hb2); (try clear hk); (try clear hi); (try clear ho0)) | (go_at_call 12; (with_reducible refine (recipe_Rings.calls kj3 _ _ l0 t216 _ ?side1 ?side2 A10.out).mono ?_); (case side1 => repeat (first | exact (Kd.C_below HR0.out HB.out) | (with_reducible refine Kd.C_alloc ?_ _) | (with_reducible refine Kd.C_drewN ?_ _) | (with_reducible refine Kd.C_drew ?_))); (case side2 => exact HC0.out); rintro e w12 ⟨v217, rfl, ho0, hb⟩; have n0_ := Aside0.mk (Kd.S_below (by (with_reducible repeat (first | apply Kd.S_alloc | apply Kd.S_drewN | apply Kd.S_drew)); exact HO215.out) hb); have n1_ := Aside0.mk (Kd.R_lower ho0 (below_size (by repeat (first | (with_reducible first | exact HB.out | apply below_alloc | apply pw_below_drewN | apply below_drew1) | exact HB.out)))); have n2_ := Aside0.mk (below_step (by repeat (first | (with_reducible first | exact HB.out | apply below_alloc | apply pw_below_drewN | apply below_drew1) | exact HB.out)) hb); clear HO215; clear HB; have HO215 := n0_; have HO218 := n1_; have HB := n2_; clear n0_ n1_ n2_; (try clear hb); (try clear hb2); (try clear hk); (try clear hi); (try clear ho0))); try go_wp2_with (first | (go_at_call 23; (with_reducible refine (butlerlaw11_table.calls kj3 _ _ l0 t213 _ ?side1 ?side2 A9.out).mono ?_); (case side1 => repeat (first | exact (Kd.C_below HR0.out HB.out) | (with_reducible refine Kd.C_alloc ?_ _) | (with_reducible refine Kd.C_drewN ?_ _) | (with_reducible refine Kd.C_drew ?_))); (case side2 => exact HC0.out); rintro e w11 ⟨v214, rfl, ho0, hb⟩; have n0_ := Aside0.mk (Kd.S_lower ho0 (below_size (by repeat (first | (with_reducible first | exact HB.out | apply below_alloc | apply pw_below_drewN | apply below_drew1) | exact HB.out)))); have n1_ := Aside0.mk (below_step (by repeat (first | (with_reducible first | exact HB.out | apply below_alloc | apply pw_below_drewN | apply below_drew1) | exact HB.out)) hb); clear HB; have HO215 := n0_; have HB := n1_; clear n0_ n1_; (try clear hb); (try clear hb2); (try clear hk); (try clear hi); (try clear ho0)) | (go_at_call 12; (with_reducible refine (recipe_Rings.calls kj3 _ _ l0 t216 _ ?side1 ?side2 A10.out).mono ?_); (case side1 => repeat (first | exact (Kd.C_below HR0.out HB.out) | (with_reducible refine Kd.C_alloc ?_ _) | (with_reducible refine Kd.C_drewN ?_ _) | (with_reducible refine Kd.C_drew ?_))); (case side2 => exact HC0.out); rintro e w12 ⟨v217, rfl, ho0, hb⟩; have n0_ := Aside0.mk (Kd.S_below (by (with_reducible repeat (first | apply Kd.S_alloc | apply Kd.S_drewN | apply Kd.S_drew)); exact HO215.out) hb); have n1_ := Aside0.mk (Kd.R_lower ho0 (below_size (by repeat (first | (with_reducible first | exact HB.out | apply below_alloc | apply pw_below_drewN | apply below_drew1) | exact HB.out)))); have n2_ := Aside0.mk (below_step (by repeat (first | (with_reducible first | exact HB.out | apply below_alloc | apply pw_below_drewN | apply below_drew1) | exact HB.out)) hb); clear HO215; clear HB; have HO215 := n0_; have HO218 := n1_; have HB := n2_; clear n0_ n1_ n2_; (try clear hb); (try clear hb2); (try clear hk); (try clear hi); (try clear ho0))))
    go_loopg [7, 8] kj3 (fun kq v7 v8 w' => ∃ (x7_2 : Int) (x8_2 : Int), v7 = .int .i64 x7_2 ∧ v8 = .int .i64 x8_2 ∧ Aside0 (butlerlaw11_RecipeFates.l0 kq l0 t213 t216 x7_2 x8_2 = some r) ∧ Aside0 (kq ≤ kj3) ∧ Aside0 (Kd.S (Kd.slice 4 Kd.bool) 41 w' w.heap.size (fun _ => True) v214 t213) ∧ Aside0 (Kd.R (Kd.int .i64) 3 w' w.heap.size (fun _ => True) v217 t216) ∧ Aside0 (Below w.heap.size w w'))
    case atStart => exact ⟨(0), (0), (by first | rfl | (simp; done) | (simp [*]; done)), (by first | rfl | (simp; done) | (simp [*]; done)), H', ⟨Nat.le_refl _⟩, ⟨by (with_reducible repeat (first | apply Kd.S_alloc | apply Kd.S_drewN | apply Kd.S_drew)); exact HO215.out⟩, ⟨by (with_reducible repeat (first | apply Kd.R_alloc | apply Kd.R_drewN | apply Kd.R_drew)); exact HO218.out⟩, ⟨by repeat (first | (with_reducible first | exact HB.out | apply below_alloc | apply pw_below_drewN | apply below_drew1) | exact HB.out)⟩⟩
    case round => as_aux_lemma =>
     clear H'
     try clear p2
     try clear c5
     try clear c7
     try clear c8
     try clear p2
     obtain ⟨x7_2, x8_2, rfl, rfl, HA, HK2, HO_5, HO_6, HB⟩ := hrel
     cases gk with
     | zero => exact absurd HA.out (by simp [butlerlaw11_RecipeFates.l0])
     | succ k2 =>
      have H := HA.out
      clear HA
      simp only [butlerlaw11_RecipeFates.l0] at H
      by_cases c13 : x8_2 < (l0.length : Int)
      ·rw [if_pos c13] at H
       have c13b0 : decide (x8_2 < (l0.length : Int)) = true := decide_eq_true c13
       clear c13
       have HC14 := Aside0.mk H
       clear H
       go_upto_region 11 with (fail)
       repeat (go_quiet (fail); go_upto_region 11 with (fail))
       go_cut [9] (fun v9 wc => ∃ (kq : Nat) (x9_13 : Bool), v9 = .bool x9_13 ∧ Aside0 (butlerlaw11_RecipeFates.j2 kq l0 t213 t216 x7_2 x8_2 x9_13 = some r) ∧ Aside0 (kq ≤ k2) ∧ Aside0 (Kd.S (Kd.slice 4 Kd.bool) 41 wc w.heap.size (fun _ => True) v214 t213) ∧ Aside0 (Kd.R (Kd.int .i64) 3 wc w.heap.size (fun _ => True) v217 t216) ∧ Aside0 (Below w.heap.size w wc))
       case first =>
        have H := HC14.out
        clear HC14
        by_cases c15 : x7_2 < (t216.length : Int)
        ·rw [if_pos c15] at H
         have c15b0 : decide (x7_2 < (t216.length : Int)) = true := decide_eq_true c15
         clear c15
         (first | rw [c15b0] | (simp only [i64_w, i32_w]; rw [c15b0]) | skip)
         by_cases c16 : 0 ≤ x7_2
         ·rw [if_pos c16] at H
          have c16b0 : decide (0 ≤ x7_2) = true := decide_eq_true c16
          clear c16
          have H' := Aside0.mk H
          clear H
          obtain ⟨Ao17, co17, eo17⟩ := Kd.R_slice HO_6.out
          subst eo17
          have p219 : 0 ≤ (x7_2 : Int) := of_decide_eq_true (by first | (with_reducible assumption) | assumption)
          have q219 : x7_2 < (t216.length : Int) := of_decide_eq_true (by first | (with_reducible assumption) | assumption)
          obtain ⟨ad219, e219, hx219_0⟩ := Kd.at_int (Kd.R_reads' HO_6.out).2.2 x7_2 p219 q219
          cases e219
          replace p219 := eq_true p219
          replace q219 := eq_true q219
          go_wp2
          repeat (go_quiet (fail); try go_wp2)
          go_meet
          case rel => exact ⟨_, (((rd t216 x7_2) == x8_2)), (by first | rfl | (simp; done) | (simp [*]; done)), H', ⟨by have := HJ3.out; have := HK2.out; first | omega | exact Nat.le_refl _⟩, ⟨by (with_reducible repeat (first | apply Kd.S_alloc | apply Kd.S_drewN | apply Kd.S_drew)); exact HO_5.out⟩, ⟨by (with_reducible repeat (first | apply Kd.R_alloc | apply Kd.R_drewN | apply Kd.R_drew)); exact HO_6.out⟩, ⟨by repeat (first | (with_reducible first | exact HB.out | apply below_alloc | apply pw_below_drewN | apply below_drew1) | exact HB.out)⟩⟩
         ·rw [if_neg c16] at H
          exact absurd H (by simp)
        ·rw [if_neg c15] at H
         have c15b0 : decide (x7_2 < (t216.length : Int)) = false := decide_eq_false c15
         clear c15
         (first | rw [c15b0] | (simp only [i64_w, i32_w]; rw [c15b0]) | skip)
         have H' := Aside0.mk H
         clear H
         obtain ⟨Ao18, co18, eo18⟩ := Kd.R_slice HO_6.out
         subst eo18
         go_wp2
         repeat (go_quiet (fail); try go_wp2)
         go_meet
         case rel => exact ⟨_, (false), (by first | rfl | (simp; done) | (simp [*]; done)), H', ⟨by have := HJ3.out; have := HK2.out; first | omega | exact Nat.le_refl _⟩, ⟨by (with_reducible repeat (first | apply Kd.S_alloc | apply Kd.S_drewN | apply Kd.S_drew)); exact HO_5.out⟩, ⟨by (with_reducible repeat (first | apply Kd.R_alloc | apply Kd.R_drewN | apply Kd.R_drew)); exact HO_6.out⟩, ⟨by repeat (first | (with_reducible first | exact HB.out | apply below_alloc | apply pw_below_drewN | apply below_drew1) | exact HB.out)⟩⟩
       case rest => as_aux_lemma =>
        clear HC14
        try clear c1
        try clear p2
        try clear q2
        try clear hx2
        try clear c5
        try clear c7
        try clear c8
        try clear c13
        try clear c13b0
        try clear c15
        try clear c15b0
        try clear c16
        try clear c16b0
        try clear hx219_0
        try clear p2
        try clear p219
        try clear q219
        obtain ⟨kq, x9_13, rfl, HA, HJ13, HO_5, HO_6, HB⟩ := hcut
        cases kq with
        | zero => exact absurd HA.out (by simp [butlerlaw11_RecipeFates.j2])
        | succ kj13 =>
         have H := HA.out
         clear HA
         simp only [butlerlaw11_RecipeFates.j2] at H
         by_cases c19 : 0 ≤ x8_2
         ·rw [if_pos c19] at H
          have c19b0 : decide (0 ≤ x8_2) = true := decide_eq_true c19
          clear c19
          by_cases c20 : x8_2 < (t213.length : Int)
          ·rw [if_pos c20] at H
           have c20b0 : decide (x8_2 < (t213.length : Int)) = true := decide_eq_true c20
           clear c20
           by_cases c21 : x8_2 < ((rd_L5 t213 x8_2).length : Int)
           ·rw [if_pos c21] at H
            have c21b0 : decide (x8_2 < ((rd_L5 t213 x8_2).length : Int)) = true := decide_eq_true c21
            clear c21
            by_cases c22 : (x9_13 != (rdOf false (rd_L5 t213 x8_2) x8_2)) = true
            ·rw [if_pos c22] at H
             have c22b0 : (x9_13 != (rdOf false (rd_L5 t213 x8_2) x8_2)) = true := c22
             (try (have c22b1 : decide (x9_13 = (rdOf false (rd_L5 t213 x8_2) x8_2)) = false := by simpa using c22))
             (try (have c22b2 : (x9_13 == (rdOf false (rd_L5 t213 x8_2) x8_2)) = false := by simpa using c22))
             (try (have c22b3 : ¬ (x9_13 = (rdOf false (rd_L5 t213 x8_2) x8_2)) := by simpa using c22))
             clear c22
             obtain rfl := Option.some.inj H
             obtain ⟨Ao23, co23, eo23⟩ := Kd.S_slice HO_5.out
             subst eo23
             have p220 : 0 ≤ (x8_2 : Int) := of_decide_eq_true (by first | (with_reducible assumption) | assumption)
             have q220 : x8_2 < (t213.length : Int) := of_decide_eq_true (by first | (with_reducible assumption) | assumption)
             obtain ⟨ad220, A220_0, c220_0, e220, hx220_0, hl220_0, hi220_0⟩ := at_L5 (Kd.S_reads' HO_5.out).2.2 x8_2 p220 q220
             cases e220
             obtain ⟨ce220, hce220, hMe220, hcc220⟩ := Kd.S_get HO_5.out [] x8_2 p220 (by first | exact q220 | exact of_decide_eq_true (by first | (with_reducible assumption) | assumption) | (have e_ := (Kd.S_reads' HO_5.out).1; omega))
             obtain ⟨ve220_0, rfl, ge220_0⟩ := hMe220
             have hv220_0 := hcc220 0 _ rfl
             rw [Nat.add_zero, show ((Kd.slice 4 Kd.bool)).sz = 1 from rfl, Nat.mul_one] at hv220_0
             replace hv220_0 := Option.some.inj (hv220_0.symm.trans hx220_0)
             rw [hv220_0] at ge220_0
             have HL220_0 := Aside0.mk (show Kd.R Kd.bool 4 _ _ _ _ (rd_L5 t213 x8_2) from ge220_0)
             clear hv220_0 ge220_0
             clear hcc220 hce220
             have HR220_0 := Aside0.mk hi220_0
             have HC220_0 := Aside0.mk hl220_0
             clear hi220_0 hl220_0
             replace p220 := eq_true p220
             replace q220 := eq_true q220
             have p221 : 0 ≤ (x8_2 : Int) := of_decide_eq_true (by first | (with_reducible assumption) | assumption)
             have q221 : x8_2 < ((rd_L5 t213 x8_2).length : Int) := of_decide_eq_true (by first | (with_reducible assumption) | assumption)
             obtain ⟨ad221, e221, hx221_0⟩ := Kd.at_bool (by repeat (first | (with_reducible exact HR220_0.out) | (with_reducible refine Kd.C_alloc ?_ _) | (with_reducible refine Kd.C_drewN ?_ _) | (with_reducible refine Kd.C_drew ?_) | exact HR220_0.out)) x8_2 p221 q221
             cases e221
             replace p221 := eq_true p221
             replace q221 := eq_true q221
             go_wp2
             repeat (go_quiet (fail); try go_wp2)
             go_ret
             exact ⟨by first | rfl | (simp [errW_none, errW_some] <;> rfl) | (simp [*, errW_none, errW_some] <;> rfl), by repeat (first | (with_reducible first | exact HB.out | apply below_alloc | apply pw_below_drewN | apply below_drew1) | exact HB.out)⟩
            ·rw [if_neg c22] at H
             have c22b0 : (x9_13 != (rdOf false (rd_L5 t213 x8_2) x8_2)) = false := by simpa using c22
             (try (have c22b1 : decide (x9_13 = (rdOf false (rd_L5 t213 x8_2) x8_2)) = true := by simpa using c22))
             (try (have c22b2 : (x9_13 == (rdOf false (rd_L5 t213 x8_2) x8_2)) = true := by simpa using c22))
             clear c22
             have HC24 := Aside0.mk H
             clear H
             obtain ⟨Ao25, co25, eo25⟩ := Kd.S_slice HO_5.out
             subst eo25
             have p220 : 0 ≤ (x8_2 : Int) := of_decide_eq_true (by first | (with_reducible assumption) | assumption)
             have q220 : x8_2 < (t213.length : Int) := of_decide_eq_true (by first | (with_reducible assumption) | assumption)
             obtain ⟨ad220, A220_0, c220_0, e220, hx220_0, hl220_0, hi220_0⟩ := at_L5 (Kd.S_reads' HO_5.out).2.2 x8_2 p220 q220
             cases e220
             obtain ⟨ce220, hce220, hMe220, hcc220⟩ := Kd.S_get HO_5.out [] x8_2 p220 (by first | exact q220 | exact of_decide_eq_true (by first | (with_reducible assumption) | assumption) | (have e_ := (Kd.S_reads' HO_5.out).1; omega))
             obtain ⟨ve220_0, rfl, ge220_0⟩ := hMe220
             have hv220_0 := hcc220 0 _ rfl
             rw [Nat.add_zero, show ((Kd.slice 4 Kd.bool)).sz = 1 from rfl, Nat.mul_one] at hv220_0
             replace hv220_0 := Option.some.inj (hv220_0.symm.trans hx220_0)
             rw [hv220_0] at ge220_0
             have HL220_0 := Aside0.mk (show Kd.R Kd.bool 4 _ _ _ _ (rd_L5 t213 x8_2) from ge220_0)
             clear hv220_0 ge220_0
             clear hcc220 hce220
             have HR220_0 := Aside0.mk hi220_0
             have HC220_0 := Aside0.mk hl220_0
             clear hi220_0 hl220_0
             replace p220 := eq_true p220
             replace q220 := eq_true q220
             have p221 : 0 ≤ (x8_2 : Int) := of_decide_eq_true (by first | (with_reducible assumption) | assumption)
             have q221 : x8_2 < ((rd_L5 t213 x8_2).length : Int) := of_decide_eq_true (by first | (with_reducible assumption) | assumption)
             obtain ⟨ad221, e221, hx221_0⟩ := Kd.at_bool (by repeat (first | (with_reducible exact HR220_0.out) | (with_reducible refine Kd.C_alloc ?_ _) | (with_reducible refine Kd.C_drewN ?_ _) | (with_reducible refine Kd.C_drew ?_) | exact HR220_0.out)) x8_2 p221 q221
             cases e221
             replace p221 := eq_true p221
             replace q221 := eq_true q221
             go_upto_if 59 with (fail)
             repeat (go_quiet (fail); go_upto_if 59 with (fail))
             go_cut [7] (fun v7 wc => ∃ (kq : Nat) (x7_23 : Int), v7 = .int .i64 x7_23 ∧ Aside0 (butlerlaw11_RecipeFates.j3 kq l0 t213 t216 x7_23 x8_2 x9_13 = some r) ∧ Aside0 (kq ≤ kj13) ∧ Aside0 (Kd.S (Kd.slice 4 Kd.bool) 41 wc w.heap.size (fun _ => True) (.slice (some ad220) t213.length co25) t213) ∧ Aside0 (Kd.R (Kd.int .i64) 3 wc w.heap.size (fun _ => True) v217 t216) ∧ Aside0 (Kd.C Kd.bool wc (some ad221) (rd_L5 t213 x8_2).length (rd_L5 t213 x8_2)) ∧ Aside0 (Below w.heap.size w wc))
             case first =>
              have H := HC24.out
              clear HC24
              by_cases c26 : x9_13 = true
              ·subst c26
               have H1 : (butlerlaw11_RecipeFates.j3 kj13 l0 t213 t216 (wrap64 (x7_2 + 1)) x8_2 true) = some r := by rw [if_pos rfl] at H; exact H
               clear H
               have H := H1
               clear H1
               have H' := Aside0.mk H
               clear H
               go_wp2
               repeat (go_quiet (fail); try go_wp2)
               go_meet
               case rel => exact ⟨_, (wrap64 (x7_2 + 1)), (by first | rfl | (simp; done) | (simp [*]; done)), H', ⟨by have := HJ3.out; have := HK2.out; have := HJ13.out; first | omega | exact Nat.le_refl _⟩, ⟨by (with_reducible repeat (first | apply Kd.S_alloc | apply Kd.S_drewN | apply Kd.S_drew)); exact HO_5.out⟩, ⟨by (with_reducible repeat (first | apply Kd.R_alloc | apply Kd.R_drewN | apply Kd.R_drew)); exact HO_6.out⟩, ⟨by repeat (first | (with_reducible exact HR220_0.out) | (with_reducible refine Kd.C_alloc ?_ _) | (with_reducible refine Kd.C_drewN ?_ _) | (with_reducible refine Kd.C_drew ?_) | exact HR220_0.out)⟩, ⟨by repeat (first | (with_reducible first | exact HB.out | apply below_alloc | apply pw_below_drewN | apply below_drew1) | exact HB.out)⟩⟩
              ·replace c26 := Bool.eq_false_iff.mpr c26
               subst c26
               have H1 : (butlerlaw11_RecipeFates.j3 kj13 l0 t213 t216 x7_2 x8_2 false) = some r := by rw [if_neg (show ¬ (false = true) by decide)] at H; exact H
               clear H
               have H := H1
               clear H1
               have H' := Aside0.mk H
               clear H
               go_wp2
               repeat (go_quiet (fail); try go_wp2)
               go_meet
               case rel => exact ⟨_, (x7_2), (by first | rfl | (simp; done) | (simp [*]; done)), H', ⟨by have := HJ3.out; have := HK2.out; have := HJ13.out; first | omega | exact Nat.le_refl _⟩, ⟨by (with_reducible repeat (first | apply Kd.S_alloc | apply Kd.S_drewN | apply Kd.S_drew)); exact HO_5.out⟩, ⟨by (with_reducible repeat (first | apply Kd.R_alloc | apply Kd.R_drewN | apply Kd.R_drew)); exact HO_6.out⟩, ⟨by repeat (first | (with_reducible exact HR220_0.out) | (with_reducible refine Kd.C_alloc ?_ _) | (with_reducible refine Kd.C_drewN ?_ _) | (with_reducible refine Kd.C_drew ?_) | exact HR220_0.out)⟩, ⟨by repeat (first | (with_reducible first | exact HB.out | apply below_alloc | apply pw_below_drewN | apply below_drew1) | exact HB.out)⟩⟩
             case rest => as_aux_lemma =>
              clear HC24
              try clear c1
              try clear c2
              try clear p2
              try clear q2
              try clear hx2
              try clear c5
              try clear p6
              try clear c7
              try clear c8
              try clear c13
              try clear c13b0
              try clear c15
              try clear c15b0
              try clear c16
              try clear c16b0
              try clear c19
              try clear c19b0
              try clear c20
              try clear c20b0
              try clear c21
              try clear c21b0
              try clear p21
              try clear q21
              try clear hx21
              try clear c22
              try clear c22b0
              try clear c22b1
              try clear c22b2
              try clear p22
              try clear q22
              try clear hx22
              try clear c26
              try clear hx219_0
              try clear hx220_0
              try clear hx221_0
              try clear p2
              try clear p219
              try clear p220
              try clear p221
              try clear q2
              try clear q219
              try clear q220
              try clear q221
              obtain ⟨kq, x7_23, rfl, HA, HJ23, HO_5, HO_6, HR220_0, HB⟩ := hcut
              cases kq with
              | zero => exact absurd HA.out (by simp [butlerlaw11_RecipeFates.j3])
              | succ kj23 =>
               have H := HA.out
               clear HA
               simp only [butlerlaw11_RecipeFates.j3] at H
               have HC27 := Aside0.mk H
               clear H
               go_upto_region 16 with (fail)
               repeat (go_quiet (fail); go_upto_region 16 with (fail))
               go_cut [10] (fun v10 wc => ∃ (kq : Nat) (x10_26 : Bool), v10 = .bool x10_26 ∧ Aside0 (butlerlaw11_RecipeFates.j4 kq l0 t213 t216 x7_23 x8_2 x10_26 = some r) ∧ Aside0 (kq ≤ kj23) ∧ Aside0 (Kd.S (Kd.slice 4 Kd.bool) 41 wc w.heap.size (fun _ => True) (.slice (some ad220) t213.length co25) t213) ∧ Aside0 (Kd.R (Kd.int .i64) 3 wc w.heap.size (fun _ => True) v217 t216) ∧ Aside0 (Kd.C Kd.bool wc (some ad221) (rd_L5 t213 x8_2).length (rd_L5 t213 x8_2)) ∧ Aside0 (Below w.heap.size w wc))
               case first =>
                have H := HC27.out
                clear HC27
                by_cases c28 : 0 ≤ x8_2
                ·rw [if_pos c28] at H
                 have c28b0 : decide (0 ≤ x8_2) = true := decide_eq_true c28
                 clear c28
                 (first | rw [c28b0] | (simp only [i64_w, i32_w]; rw [c28b0]) | skip)
                 by_cases c29 : x8_2 < (l0.length : Int)
                 ·rw [if_pos c29] at H
                  have c29b0 : decide (x8_2 < (l0.length : Int)) = true := decide_eq_true c29
                  clear c29
                  by_cases c30 : ((rd_T43 l0 x8_2).f2) = 0
                  ·rw [if_pos c30] at H
                   have c30b0 : (((rd_T43 l0 x8_2).f2) == 0) = true := beq_iff_eq.mpr c30
                   have c30b1 : (((rd_T43 l0 x8_2).f2) != 0) = false := bne_eq_false_iff_eq.mpr c30
                   clear c30
                   have H' := Aside0.mk H
                   clear H
                   have p222 : 0 ≤ (x8_2 : Int) := of_decide_eq_true (by first | (with_reducible assumption) | assumption)
                   have q222 : x8_2 < (l0.length : Int) := of_decide_eq_true (by first | (with_reducible assumption) | assumption)
                   obtain ⟨ad222, A222_0, c222_0, e222, hx222_0, hx222_1, hx222_2, hx222_3, hx222_4, hl222_0, hi222_0⟩ := at_T43 HR0.out x8_2 p222 q222
                   cases e222
                   replace hx222_0 := (HB.out.cell (World.block_lt_of_cell? w _ hx222_0)).trans hx222_0
                   replace hx222_1 := (HB.out.cell (World.block_lt_of_cell? w _ hx222_1)).trans hx222_1
                   replace hx222_2 := (HB.out.cell (World.block_lt_of_cell? w _ hx222_2)).trans hx222_2
                   replace hx222_3 := (HB.out.cell (World.block_lt_of_cell? w _ hx222_3)).trans hx222_3
                   replace hx222_4 := (HB.out.cell (World.block_lt_of_cell? w _ hx222_4)).trans hx222_4
                   have HR222_0 := Aside0.mk hi222_0
                   have HC222_0 := Aside0.mk hl222_0
                   clear hi222_0 hl222_0
                   replace p222 := eq_true p222
                   replace q222 := eq_true q222
                   go_wp2
                   repeat (go_quiet (fail); try go_wp2)
                   go_meet
                   case rel => exact ⟨_, (!x9_13), (by first | rfl | (simp; done) | (simp [*]; done)), H', ⟨by have := HJ3.out; have := HK2.out; have := HJ13.out; have := HJ23.out; first | omega | exact Nat.le_refl _⟩, ⟨by (with_reducible repeat (first | apply Kd.S_alloc | apply Kd.S_drewN | apply Kd.S_drew)); exact HO_5.out⟩, ⟨by (with_reducible repeat (first | apply Kd.R_alloc | apply Kd.R_drewN | apply Kd.R_drew)); exact HO_6.out⟩, ⟨by repeat (first | (with_reducible exact HR220_0.out) | (with_reducible refine Kd.C_alloc ?_ _) | (with_reducible refine Kd.C_drewN ?_ _) | (with_reducible refine Kd.C_drew ?_) | exact HR220_0.out)⟩, ⟨by repeat (first | (with_reducible first | exact HB.out | apply below_alloc | apply pw_below_drewN | apply below_drew1) | exact HB.out)⟩⟩
                  ·rw [if_neg c30] at H
                   have c30b0 : (((rd_T43 l0 x8_2).f2) == 0) = false := beq_eq_false_iff_ne.mpr c30
                   have c30b1 : (((rd_T43 l0 x8_2).f2) != 0) = true := bne_iff_ne.mpr c30
                   have H' := Aside0.mk H
                   clear H
                   have p222 : 0 ≤ (x8_2 : Int) := of_decide_eq_true (by first | (with_reducible assumption) | assumption)
                   have q222 : x8_2 < (l0.length : Int) := of_decide_eq_true (by first | (with_reducible assumption) | assumption)
                   obtain ⟨ad222, A222_0, c222_0, e222, hx222_0, hx222_1, hx222_2, hx222_3, hx222_4, hl222_0, hi222_0⟩ := at_T43 HR0.out x8_2 p222 q222
                   cases e222
                   replace hx222_0 := (HB.out.cell (World.block_lt_of_cell? w _ hx222_0)).trans hx222_0
                   replace hx222_1 := (HB.out.cell (World.block_lt_of_cell? w _ hx222_1)).trans hx222_1
                   replace hx222_2 := (HB.out.cell (World.block_lt_of_cell? w _ hx222_2)).trans hx222_2
                   replace hx222_3 := (HB.out.cell (World.block_lt_of_cell? w _ hx222_3)).trans hx222_3
                   replace hx222_4 := (HB.out.cell (World.block_lt_of_cell? w _ hx222_4)).trans hx222_4
                   have HR222_0 := Aside0.mk hi222_0
                   have HC222_0 := Aside0.mk hl222_0
                   clear hi222_0 hl222_0
                   replace p222 := eq_true p222
                   replace q222 := eq_true q222
                   go_wp2
                   repeat (go_quiet (fail); try go_wp2)
                   go_meet
                   case rel => exact ⟨_, (false), (by first | rfl | (simp; done) | (simp [*]; done)), H', ⟨by have := HJ3.out; have := HK2.out; have := HJ13.out; have := HJ23.out; first | omega | exact Nat.le_refl _⟩, ⟨by (with_reducible repeat (first | apply Kd.S_alloc | apply Kd.S_drewN | apply Kd.S_drew)); exact HO_5.out⟩, ⟨by (with_reducible repeat (first | apply Kd.R_alloc | apply Kd.R_drewN | apply Kd.R_drew)); exact HO_6.out⟩, ⟨by repeat (first | (with_reducible exact HR220_0.out) | (with_reducible refine Kd.C_alloc ?_ _) | (with_reducible refine Kd.C_drewN ?_ _) | (with_reducible refine Kd.C_drew ?_) | exact HR220_0.out)⟩, ⟨by repeat (first | (with_reducible first | exact HB.out | apply below_alloc | apply pw_below_drewN | apply below_drew1) | exact HB.out)⟩⟩
                 ·rw [if_neg c29] at H
                  exact absurd H (by simp)
                ·rw [if_neg c28] at H
                 exact absurd H (by simp)
               case rest => as_aux_lemma =>
                clear HC27
                try clear c1
                try clear c2
                try clear p2
                try clear q2
                try clear hx2
                try clear c3
                try clear c5
                try clear p6
                try clear c7
                try clear c8
                try clear c13
                try clear c13b0
                try clear c15
                try clear c15b0
                try clear c16
                try clear c16b0
                try clear c19
                try clear c19b0
                try clear c20
                try clear c20b0
                try clear c21
                try clear c21b0
                try clear p21
                try clear q21
                try clear hx21
                try clear c22
                try clear c22b0
                try clear c22b1
                try clear c22b2
                try clear p22
                try clear q22
                try clear hx22
                try clear c26
                try clear c28
                try clear c28b0
                try clear c29
                try clear c29b0
                try clear c30
                try clear c30b0
                try clear c30b1
                try clear hx219_0
                try clear hx220_0
                try clear hx221_0
                try clear hx222_0
                try clear hx222_1
                try clear hx222_2
                try clear hx222_3
                try clear hx222_4
                try clear p2
                try clear p21
                try clear p219
                try clear p22
                try clear p220
                try clear p221
                try clear p222
                try clear p6
                try clear q2
                try clear q21
                try clear q219
                try clear q22
                try clear q220
                try clear q221
                try clear q222
                obtain ⟨kq, x10_26, rfl, HA, HJ26, HO_5, HO_6, HR220_0, HB⟩ := hcut
                cases kq with
                | zero => exact absurd HA.out (by simp [butlerlaw11_RecipeFates.j4])
                | succ kj26 =>
                 have H := HA.out
                 clear HA
                 simp only [butlerlaw11_RecipeFates.j4] at H
                 have H' := Aside0.mk H
                 clear H
                 go_wp2
                 repeat (go_quiet (fail); try go_wp2)
                 go_loopg [10, 11] kj26 (fun kq v10 v11 w' => ∃ (x10_6 : Bool) (x11_6 : Int), v10 = .bool x10_6 ∧ v11 = .int .i64 x11_6 ∧ Aside0 (butlerlaw11_RecipeFates.l1 kq l0 t213 t216 x7_23 x8_2 x10_6 x11_6 = some r) ∧ Aside0 (kq ≤ kj26) ∧ Aside0 (Kd.S (Kd.slice 4 Kd.bool) 41 w' w.heap.size (fun _ => True) (.slice (some ad220) t213.length co25) t213) ∧ Aside0 (Kd.R (Kd.int .i64) 3 w' w.heap.size (fun _ => True) v217 t216) ∧ Aside0 (Kd.C Kd.bool w' (some ad221) (rd_L5 t213 x8_2).length (rd_L5 t213 x8_2)) ∧ Aside0 (Below w.heap.size w w'))
                 case atStart => exact ⟨(x10_26), (0), (by first | rfl | (simp; done) | (simp [*]; done)), (by first | rfl | (simp; done) | (simp [*]; done)), H', ⟨Nat.le_refl _⟩, ⟨by (with_reducible repeat (first | apply Kd.S_alloc | apply Kd.S_drewN | apply Kd.S_drew)); exact HO_5.out⟩, ⟨by (with_reducible repeat (first | apply Kd.R_alloc | apply Kd.R_drewN | apply Kd.R_drew)); exact HO_6.out⟩, ⟨by repeat (first | (with_reducible exact HR220_0.out) | (with_reducible refine Kd.C_alloc ?_ _) | (with_reducible refine Kd.C_drewN ?_ _) | (with_reducible refine Kd.C_drew ?_) | exact HR220_0.out)⟩, ⟨by repeat (first | (with_reducible first | exact HB.out | apply below_alloc | apply pw_below_drewN | apply below_drew1) | exact HB.out)⟩⟩
                 case round => as_aux_lemma =>
                  clear H'
                  try clear c1
                  try clear c2
                  try clear p2
                  try clear q2
                  try clear hx2
                  try clear c3
                  try clear c5
                  try clear p6
                  try clear c7
                  try clear c8
                  try clear c13
                  try clear c13b0
                  try clear c15
                  try clear c15b0
                  try clear c16
                  try clear c16b0
                  try clear c19
                  try clear c19b0
                  try clear c20
                  try clear c20b0
                  try clear c21
                  try clear c21b0
                  try clear p21
                  try clear q21
                  try clear hx21
                  try clear c22
                  try clear c22b0
                  try clear c22b1
                  try clear c22b2
                  try clear p22
                  try clear q22
                  try clear hx22
                  try clear c26
                  try clear c28
                  try clear c28b0
                  try clear c29
                  try clear c29b0
                  try clear c30
                  try clear c30b0
                  try clear c30b1
                  try clear hx219_0
                  try clear hx220_0
                  try clear hx221_0
                  try clear hx222_0
                  try clear hx222_1
                  try clear hx222_2
                  try clear hx222_3
                  try clear hx222_4
                  try clear p2
                  try clear p21
                  try clear p219
                  try clear p22
                  try clear p220
                  try clear p221
                  try clear p222
                  try clear p6
                  try clear q2
                  try clear q21
                  try clear q219
                  try clear q22
                  try clear q220
                  try clear q221
                  try clear q222
                  obtain ⟨x10_6, x11_6, rfl, rfl, HA, HK6, HO_5, HO_6, HR220_0, HB⟩ := hrel
                  cases gk with
                  | zero => exact absurd HA.out (by simp [butlerlaw11_RecipeFates.l1])
                  | succ k6 =>
                   have H := HA.out
                   clear HA
                   simp only [butlerlaw11_RecipeFates.l1] at H
                   by_cases c31 : x11_6 < (l0.length : Int)
                   ·rw [if_pos c31] at H
                    have c31b0 : decide (x11_6 < (l0.length : Int)) = true := decide_eq_true c31
                    clear c31
                    by_cases c32 : 0 ≤ x8_2
                    ·rw [if_pos c32] at H
                     have c32b0 : decide (0 ≤ x8_2) = true := decide_eq_true c32
                     clear c32
                     by_cases c33 : x8_2 < (t213.length : Int)
                     ·rw [if_pos c33] at H
                      have c33b0 : decide (x8_2 < (t213.length : Int)) = true := decide_eq_true c33
                      clear c33
                      by_cases c34 : 0 ≤ x11_6
                      ·rw [if_pos c34] at H
                       have c34b0 : decide (0 ≤ x11_6) = true := decide_eq_true c34
                       clear c34
                       by_cases c35 : x11_6 < ((rd_L5 t213 x8_2).length : Int)
                       ·rw [if_pos c35] at H
                        have c35b0 : decide (x11_6 < ((rd_L5 t213 x8_2).length : Int)) = true := decide_eq_true c35
                        clear c35
                        obtain ⟨bq36, hbq36⟩ : ∃ b_ : Bool, b_ = (rdOf false (rd_L5 t213 x8_2) x11_6) := ⟨_, rfl⟩
                        replace H : (if bq36 = true then (if x10_6 = true then (if ((rd_T43 l0 x11_6).f2) = 0 then (if x11_6 < (t213.length : Int) then (if x11_6 < ((rd_L5 t213 x11_6).length : Int) then (if x8_2 < ((rd_L5 t213 x11_6).length : Int) then (if rdOf false (rd_L5 t213 x11_6) x8_2 = true then (if x8_2 < (l0.length : Int) then (if ((rd_T43 l0 x8_2).f1) = ((rd_T43 l0 x11_6).f1) then (butlerlaw11_RecipeFates.l1 k6 l0 t213 t216 x7_23 x8_2 (!(rdOf false (rd_L5 t213 x11_6) x11_6)) (wrap64 (x11_6 + 1))) else (some false)) else (none)) else (butlerlaw11_RecipeFates.l1 k6 l0 t213 t216 x7_23 x8_2 (!(rdOf false (rd_L5 t213 x11_6) x11_6)) (wrap64 (x11_6 + 1)))) else (none)) else (none)) else (none)) else (if x11_6 < (t213.length : Int) then (if x8_2 < ((rd_L5 t213 x11_6).length : Int) then (if rdOf false (rd_L5 t213 x11_6) x8_2 = true then (if x8_2 < (l0.length : Int) then (if ((rd_T43 l0 x8_2).f1) = ((rd_T43 l0 x11_6).f1) then (butlerlaw11_RecipeFates.l1 k6 l0 t213 t216 x7_23 x8_2 false (wrap64 (x11_6 + 1))) else (some false)) else (none)) else (butlerlaw11_RecipeFates.l1 k6 l0 t213 t216 x7_23 x8_2 false (wrap64 (x11_6 + 1)))) else (none)) else (none))) else (if x11_6 < (t213.length : Int) then (if x8_2 < ((rd_L5 t213 x11_6).length : Int) then (if rdOf false (rd_L5 t213 x11_6) x8_2 = true then (if x8_2 < (l0.length : Int) then (if ((rd_T43 l0 x8_2).f1) = ((rd_T43 l0 x11_6).f1) then (butlerlaw11_RecipeFates.l1 k6 l0 t213 t216 x7_23 x8_2 false (wrap64 (x11_6 + 1))) else (some false)) else (none)) else (butlerlaw11_RecipeFates.l1 k6 l0 t213 t216 x7_23 x8_2 false (wrap64 (x11_6 + 1)))) else (none)) else (none))) else (butlerlaw11_RecipeFates.l1 k6 l0 t213 t216 x7_23 x8_2 x10_6 (wrap64 (x11_6 + 1)))) = some r := by rw [← hbq36] at H; exact H
                        have Nbq36 := Aside0.mk hbq36
                        clear hbq36
                        by_cases c37 : bq36 = true
                        ·subst c37
                         have H1 : (if x10_6 = true then (if ((rd_T43 l0 x11_6).f2) = 0 then (if x11_6 < (t213.length : Int) then (if x11_6 < ((rd_L5 t213 x11_6).length : Int) then (if x8_2 < ((rd_L5 t213 x11_6).length : Int) then (if rdOf false (rd_L5 t213 x11_6) x8_2 = true then (if x8_2 < (l0.length : Int) then (if ((rd_T43 l0 x8_2).f1) = ((rd_T43 l0 x11_6).f1) then (butlerlaw11_RecipeFates.l1 k6 l0 t213 t216 x7_23 x8_2 (!(rdOf false (rd_L5 t213 x11_6) x11_6)) (wrap64 (x11_6 + 1))) else (some false)) else (none)) else (butlerlaw11_RecipeFates.l1 k6 l0 t213 t216 x7_23 x8_2 (!(rdOf false (rd_L5 t213 x11_6) x11_6)) (wrap64 (x11_6 + 1)))) else (none)) else (none)) else (none)) else (if x11_6 < (t213.length : Int) then (if x8_2 < ((rd_L5 t213 x11_6).length : Int) then (if rdOf false (rd_L5 t213 x11_6) x8_2 = true then (if x8_2 < (l0.length : Int) then (if ((rd_T43 l0 x8_2).f1) = ((rd_T43 l0 x11_6).f1) then (butlerlaw11_RecipeFates.l1 k6 l0 t213 t216 x7_23 x8_2 false (wrap64 (x11_6 + 1))) else (some false)) else (none)) else (butlerlaw11_RecipeFates.l1 k6 l0 t213 t216 x7_23 x8_2 false (wrap64 (x11_6 + 1)))) else (none)) else (none))) else (if x11_6 < (t213.length : Int) then (if x8_2 < ((rd_L5 t213 x11_6).length : Int) then (if rdOf false (rd_L5 t213 x11_6) x8_2 = true then (if x8_2 < (l0.length : Int) then (if ((rd_T43 l0 x8_2).f1) = ((rd_T43 l0 x11_6).f1) then (butlerlaw11_RecipeFates.l1 k6 l0 t213 t216 x7_23 x8_2 false (wrap64 (x11_6 + 1))) else (some false)) else (none)) else (butlerlaw11_RecipeFates.l1 k6 l0 t213 t216 x7_23 x8_2 false (wrap64 (x11_6 + 1)))) else (none)) else (none))) = some r := by rw [if_pos rfl] at H; exact H
                         clear H
                         have H := H1
                         clear H1
                         by_cases c38 : x10_6 = true
                         ·subst c38
                          have H1 : (if ((rd_T43 l0 x11_6).f2) = 0 then (if x11_6 < (t213.length : Int) then (if x11_6 < ((rd_L5 t213 x11_6).length : Int) then (if x8_2 < ((rd_L5 t213 x11_6).length : Int) then (if rdOf false (rd_L5 t213 x11_6) x8_2 = true then (if x8_2 < (l0.length : Int) then (if ((rd_T43 l0 x8_2).f1) = ((rd_T43 l0 x11_6).f1) then (butlerlaw11_RecipeFates.l1 k6 l0 t213 t216 x7_23 x8_2 (!(rdOf false (rd_L5 t213 x11_6) x11_6)) (wrap64 (x11_6 + 1))) else (some false)) else (none)) else (butlerlaw11_RecipeFates.l1 k6 l0 t213 t216 x7_23 x8_2 (!(rdOf false (rd_L5 t213 x11_6) x11_6)) (wrap64 (x11_6 + 1)))) else (none)) else (none)) else (none)) else (if x11_6 < (t213.length : Int) then (if x8_2 < ((rd_L5 t213 x11_6).length : Int) then (if rdOf false (rd_L5 t213 x11_6) x8_2 = true then (if x8_2 < (l0.length : Int) then (if ((rd_T43 l0 x8_2).f1) = ((rd_T43 l0 x11_6).f1) then (butlerlaw11_RecipeFates.l1 k6 l0 t213 t216 x7_23 x8_2 false (wrap64 (x11_6 + 1))) else (some false)) else (none)) else (butlerlaw11_RecipeFates.l1 k6 l0 t213 t216 x7_23 x8_2 false (wrap64 (x11_6 + 1)))) else (none)) else (none))) = some r := by rw [if_pos rfl] at H; exact H
                          clear H
                          have H := H1
                          clear H1
                          by_cases c39 : ((rd_T43 l0 x11_6).f2) = 0
                          ·rw [if_pos c39] at H
                           have c39b0 : (((rd_T43 l0 x11_6).f2) == 0) = true := beq_iff_eq.mpr c39
                           have c39b1 : (((rd_T43 l0 x11_6).f2) != 0) = false := bne_eq_false_iff_eq.mpr c39
                           clear c39
                           by_cases c40 : x11_6 < (t213.length : Int)
                           ·rw [if_pos c40] at H
                            have c40b0 : decide (x11_6 < (t213.length : Int)) = true := decide_eq_true c40
                            clear c40
                            by_cases c41 : x11_6 < ((rd_L5 t213 x11_6).length : Int)
                            ·rw [if_pos c41] at H
                             have c41b0 : decide (x11_6 < ((rd_L5 t213 x11_6).length : Int)) = true := decide_eq_true c41
                             clear c41
                             by_cases c42 : x8_2 < ((rd_L5 t213 x11_6).length : Int)
                             ·rw [if_pos c42] at H
                              have c42b0 : decide (x8_2 < ((rd_L5 t213 x11_6).length : Int)) = true := decide_eq_true c42
                              clear c42
                              obtain ⟨bq43, hbq43⟩ : ∃ b_ : Bool, b_ = (rdOf false (rd_L5 t213 x11_6) x8_2) := ⟨_, rfl⟩
                              replace H : (if bq43 = true then (if x8_2 < (l0.length : Int) then (if ((rd_T43 l0 x8_2).f1) = ((rd_T43 l0 x11_6).f1) then (butlerlaw11_RecipeFates.l1 k6 l0 t213 t216 x7_23 x8_2 (!(rdOf false (rd_L5 t213 x11_6) x11_6)) (wrap64 (x11_6 + 1))) else (some false)) else (none)) else (butlerlaw11_RecipeFates.l1 k6 l0 t213 t216 x7_23 x8_2 (!(rdOf false (rd_L5 t213 x11_6) x11_6)) (wrap64 (x11_6 + 1)))) = some r := by rw [← hbq43] at H; exact H
                              have Nbq43 := Aside0.mk hbq43
                              clear hbq43
                              by_cases c44 : bq43 = true
                              ·subst c44
                               have H1 : (if x8_2 < (l0.length : Int) then (if ((rd_T43 l0 x8_2).f1) = ((rd_T43 l0 x11_6).f1) then (butlerlaw11_RecipeFates.l1 k6 l0 t213 t216 x7_23 x8_2 (!(rdOf false (rd_L5 t213 x11_6) x11_6)) (wrap64 (x11_6 + 1))) else (some false)) else (none)) = some r := by rw [if_pos rfl] at H; exact H
                               clear H
                               have H := H1
                               clear H1
                               by_cases c45 : x8_2 < (l0.length : Int)
                               ·rw [if_pos c45] at H
                                have c45b0 : decide (x8_2 < (l0.length : Int)) = true := decide_eq_true c45
                                clear c45
                                by_cases c46 : ((rd_T43 l0 x8_2).f1) = ((rd_T43 l0 x11_6).f1)
                                ·rw [if_pos c46] at H
                                 have c46b0 : (((rd_T43 l0 x8_2).f1) == ((rd_T43 l0 x11_6).f1)) = true := beq_iff_eq.mpr c46
                                 have c46b1 : (((rd_T43 l0 x8_2).f1) != ((rd_T43 l0 x11_6).f1)) = false := bne_eq_false_iff_eq.mpr c46
                                 clear c46
                                 have H' := Aside0.mk H
                                 clear H
                                 have p223 : 0 ≤ (x8_2 : Int) := of_decide_eq_true (by first | (with_reducible assumption) | assumption)
                                 have q223 : x8_2 < (t213.length : Int) := of_decide_eq_true (by first | (with_reducible assumption) | assumption)
                                 obtain ⟨ad223, A223_0, c223_0, e223, hx223_0, hl223_0, hi223_0⟩ := at_L5 (Kd.S_reads' HO_5.out).2.2 x8_2 p223 q223
                                 obtain rfl : ad220 = ad223 := (by injection e223)
                                 obtain ⟨ce223, hce223, hMe223, hcc223⟩ := Kd.S_get HO_5.out [] x8_2 p223 (by first | exact q223 | exact of_decide_eq_true (by first | (with_reducible assumption) | assumption) | (have e_ := (Kd.S_reads' HO_5.out).1; omega))
                                 obtain ⟨ve223_0, rfl, ge223_0⟩ := hMe223
                                 have hv223_0 := hcc223 0 _ rfl
                                 rw [Nat.add_zero, show ((Kd.slice 4 Kd.bool)).sz = 1 from rfl, Nat.mul_one] at hv223_0
                                 replace hv223_0 := Option.some.inj (hv223_0.symm.trans hx223_0)
                                 rw [hv223_0] at ge223_0
                                 have HL223_0 := Aside0.mk (show Kd.R Kd.bool 4 _ _ _ _ (rd_L5 t213 x8_2) from ge223_0)
                                 clear hv223_0 ge223_0
                                 clear hcc223 hce223
                                 have HR223_0 := Aside0.mk hi223_0
                                 have HC223_0 := Aside0.mk hl223_0
                                 clear hi223_0 hl223_0
                                 replace p223 := eq_true p223
                                 replace q223 := eq_true q223
                                 have p224 : 0 ≤ (x11_6 : Int) := of_decide_eq_true (by first | (with_reducible assumption) | assumption)
                                 have q224 : x11_6 < ((rd_L5 t213 x8_2).length : Int) := of_decide_eq_true (by first | (with_reducible assumption) | assumption)
                                 obtain ⟨ad224, e224, hx224_0⟩ := Kd.at_bool (by repeat (first | (with_reducible exact HR223_0.out) | (with_reducible refine Kd.C_alloc ?_ _) | (with_reducible refine Kd.C_drewN ?_ _) | (with_reducible refine Kd.C_drew ?_) | exact HR223_0.out)) x11_6 p224 q224
                                 (try rw [← Nbq36.out] at hx224_0)
                                 (try rw [← Nbq43.out] at hx224_0)
                                 cases e224
                                 replace p224 := eq_true p224
                                 replace q224 := eq_true q224
                                 have p225 : 0 ≤ (x11_6 : Int) := of_decide_eq_true (by first | (with_reducible assumption) | assumption)
                                 have q225 : x11_6 < (l0.length : Int) := of_decide_eq_true (by first | (with_reducible assumption) | assumption)
                                 obtain ⟨ad225, A225_0, c225_0, e225, hx225_0, hx225_1, hx225_2, hx225_3, hx225_4, hl225_0, hi225_0⟩ := at_T43 HR0.out x11_6 p225 q225
                                 cases e225
                                 replace hx225_0 := (HB.out.cell (World.block_lt_of_cell? w _ hx225_0)).trans hx225_0
                                 replace hx225_1 := (HB.out.cell (World.block_lt_of_cell? w _ hx225_1)).trans hx225_1
                                 replace hx225_2 := (HB.out.cell (World.block_lt_of_cell? w _ hx225_2)).trans hx225_2
                                 replace hx225_3 := (HB.out.cell (World.block_lt_of_cell? w _ hx225_3)).trans hx225_3
                                 replace hx225_4 := (HB.out.cell (World.block_lt_of_cell? w _ hx225_4)).trans hx225_4
                                 have HR225_0 := Aside0.mk hi225_0
                                 have HC225_0 := Aside0.mk hl225_0
                                 clear hi225_0 hl225_0
                                 replace p225 := eq_true p225
                                 replace q225 := eq_true q225
                                 have p226 : 0 ≤ (x11_6 : Int) := of_decide_eq_true (by first | (with_reducible assumption) | assumption)
                                 have q226 : x11_6 < (t213.length : Int) := of_decide_eq_true (by first | (with_reducible assumption) | assumption)
                                 obtain ⟨ad226, A226_0, c226_0, e226, hx226_0, hl226_0, hi226_0⟩ := at_L5 (Kd.S_reads' HO_5.out).2.2 x11_6 p226 q226
                                 obtain rfl : ad220 = ad226 := (by injection e226)
                                 obtain ⟨ce226, hce226, hMe226, hcc226⟩ := Kd.S_get HO_5.out [] x11_6 p226 (by first | exact q226 | exact of_decide_eq_true (by first | (with_reducible assumption) | assumption) | (have e_ := (Kd.S_reads' HO_5.out).1; omega))
                                 obtain ⟨ve226_0, rfl, ge226_0⟩ := hMe226
                                 have hv226_0 := hcc226 0 _ rfl
                                 rw [Nat.add_zero, show ((Kd.slice 4 Kd.bool)).sz = 1 from rfl, Nat.mul_one] at hv226_0
                                 replace hv226_0 := Option.some.inj (hv226_0.symm.trans hx226_0)
                                 rw [hv226_0] at ge226_0
                                 have HL226_0 := Aside0.mk (show Kd.R Kd.bool 4 _ _ _ _ (rd_L5 t213 x11_6) from ge226_0)
                                 clear hv226_0 ge226_0
                                 clear hcc226 hce226
                                 have HR226_0 := Aside0.mk hi226_0
                                 have HC226_0 := Aside0.mk hl226_0
                                 clear hi226_0 hl226_0
                                 replace p226 := eq_true p226
                                 replace q226 := eq_true q226
                                 have p227 : 0 ≤ (x11_6 : Int) := of_decide_eq_true (by first | (with_reducible assumption) | assumption)
                                 have q227 : x11_6 < ((rd_L5 t213 x11_6).length : Int) := of_decide_eq_true (by first | (with_reducible assumption) | assumption)
                                 obtain ⟨ad227, e227, hx227_0⟩ := Kd.at_bool (by repeat (first | (with_reducible exact HR226_0.out) | (with_reducible refine Kd.C_alloc ?_ _) | (with_reducible refine Kd.C_drewN ?_ _) | (with_reducible refine Kd.C_drew ?_) | exact HR226_0.out)) x11_6 p227 q227
                                 (try rw [← Nbq36.out] at hx227_0)
                                 (try rw [← Nbq43.out] at hx227_0)
                                 cases e227
                                 replace p227 := eq_true p227
                                 replace q227 := eq_true q227
                                 have p228 : 0 ≤ (x11_6 : Int) := of_decide_eq_true (by first | (with_reducible assumption) | assumption)
                                 have q228 : x11_6 < (t213.length : Int) := of_decide_eq_true (by first | (with_reducible assumption) | assumption)
                                 obtain ⟨ad228, A228_0, c228_0, e228, hx228_0, hl228_0, hi228_0⟩ := at_L5 (Kd.S_reads' HO_5.out).2.2 x11_6 p228 q228
                                 obtain rfl : ad220 = ad228 := (by injection e228)
                                 obtain ⟨ce228, hce228, hMe228, hcc228⟩ := Kd.S_get HO_5.out [] x11_6 p228 (by first | exact q228 | exact of_decide_eq_true (by first | (with_reducible assumption) | assumption) | (have e_ := (Kd.S_reads' HO_5.out).1; omega))
                                 obtain ⟨ve228_0, rfl, ge228_0⟩ := hMe228
                                 have hv228_0 := hcc228 0 _ rfl
                                 rw [Nat.add_zero, show ((Kd.slice 4 Kd.bool)).sz = 1 from rfl, Nat.mul_one] at hv228_0
                                 replace hv228_0 := Option.some.inj (hv228_0.symm.trans hx228_0)
                                 rw [hv228_0] at ge228_0
                                 have HL228_0 := Aside0.mk (show Kd.R Kd.bool 4 _ _ _ _ (rd_L5 t213 x11_6) from ge228_0)
                                 clear hv228_0 ge228_0
                                 clear hcc228 hce228
                                 have HR228_0 := Aside0.mk hi228_0
                                 have HC228_0 := Aside0.mk hl228_0
                                 clear hi228_0 hl228_0
                                 replace p228 := eq_true p228
                                 replace q228 := eq_true q228
                                 have ea_ := Option.some.inj (hx226_0.symm.trans hx228_0)
                                 injection ea_ with ea_ en_ ec_
                                 subst ea_
                                 subst ec_
                                 clear en_
                                 have p229 : 0 ≤ (x8_2 : Int) := of_decide_eq_true (by first | (with_reducible assumption) | assumption)
                                 have q229 : x8_2 < ((rd_L5 t213 x11_6).length : Int) := of_decide_eq_true (by first | (with_reducible assumption) | assumption)
                                 obtain ⟨ad229, e229, hx229_0⟩ := Kd.at_bool (by repeat (first | (with_reducible exact HR228_0.out) | (with_reducible refine Kd.C_alloc ?_ _) | (with_reducible refine Kd.C_drewN ?_ _) | (with_reducible refine Kd.C_drew ?_) | exact HR228_0.out)) x8_2 p229 q229
                                 (try rw [← Nbq36.out] at hx229_0)
                                 (try rw [← Nbq43.out] at hx229_0)
                                 cases e229
                                 replace p229 := eq_true p229
                                 replace q229 := eq_true q229
                                 have p230 : 0 ≤ (x8_2 : Int) := of_decide_eq_true (by first | (with_reducible assumption) | assumption)
                                 have q230 : x8_2 < (l0.length : Int) := of_decide_eq_true (by first | (with_reducible assumption) | assumption)
                                 obtain ⟨ad230, A230_0, c230_0, e230, hx230_0, hx230_1, hx230_2, hx230_3, hx230_4, hl230_0, hi230_0⟩ := at_T43 HR0.out x8_2 p230 q230
                                 obtain rfl : ad225 = ad230 := (by injection e230)
                                 replace hx230_0 := (HB.out.cell (World.block_lt_of_cell? w _ hx230_0)).trans hx230_0
                                 replace hx230_1 := (HB.out.cell (World.block_lt_of_cell? w _ hx230_1)).trans hx230_1
                                 replace hx230_2 := (HB.out.cell (World.block_lt_of_cell? w _ hx230_2)).trans hx230_2
                                 replace hx230_3 := (HB.out.cell (World.block_lt_of_cell? w _ hx230_3)).trans hx230_3
                                 replace hx230_4 := (HB.out.cell (World.block_lt_of_cell? w _ hx230_4)).trans hx230_4
                                 have HR230_0 := Aside0.mk hi230_0
                                 have HC230_0 := Aside0.mk hl230_0
                                 clear hi230_0 hl230_0
                                 replace p230 := eq_true p230
                                 replace q230 := eq_true q230
                                 have p231 : 0 ≤ (x11_6 : Int) := of_decide_eq_true (by first | (with_reducible assumption) | assumption)
                                 have q231 : x11_6 < (l0.length : Int) := of_decide_eq_true (by first | (with_reducible assumption) | assumption)
                                 obtain ⟨ad231, A231_0, c231_0, e231, hx231_0, hx231_1, hx231_2, hx231_3, hx231_4, hl231_0, hi231_0⟩ := at_T43 HR0.out x11_6 p231 q231
                                 obtain rfl : ad225 = ad231 := (by injection e231)
                                 replace hx231_0 := (HB.out.cell (World.block_lt_of_cell? w _ hx231_0)).trans hx231_0
                                 replace hx231_1 := (HB.out.cell (World.block_lt_of_cell? w _ hx231_1)).trans hx231_1
                                 replace hx231_2 := (HB.out.cell (World.block_lt_of_cell? w _ hx231_2)).trans hx231_2
                                 replace hx231_3 := (HB.out.cell (World.block_lt_of_cell? w _ hx231_3)).trans hx231_3
                                 replace hx231_4 := (HB.out.cell (World.block_lt_of_cell? w _ hx231_4)).trans hx231_4
                                 have HR231_0 := Aside0.mk hi231_0
                                 have HC231_0 := Aside0.mk hl231_0
                                 clear hi231_0 hl231_0
                                 replace p231 := eq_true p231
                                 replace q231 := eq_true q231
                                 have ea_ := Option.some.inj (hx225_0.symm.trans hx231_0)
                                 injection ea_ with ea_ en_ ec_
                                 subst ea_
                                 subst ec_
                                 clear en_
                                 go_wp2
                                 repeat (go_quiet (fail); try go_wp2)
                                 go_roundg k6
                                 case measure => have := HJ3.out; have := HK2.out; have := HJ13.out; have := HJ23.out; have := HJ26.out; have := HK6.out; omega
                                 case rel => exact ⟨(!(rdOf false (rd_L5 t213 x11_6) x11_6)), (wrap64 (x11_6 + 1)), (by first | rfl | (simp; done) | (simp [*]; done)), (by first | rfl | (simp; done) | (simp [*]; done)), H', ⟨by have := HJ3.out; have := HK2.out; have := HJ13.out; have := HJ23.out; have := HJ26.out; have := HK6.out; omega⟩, ⟨by (with_reducible repeat (first | apply Kd.S_alloc | apply Kd.S_drewN | apply Kd.S_drew)); exact HO_5.out⟩, ⟨by (with_reducible repeat (first | apply Kd.R_alloc | apply Kd.R_drewN | apply Kd.R_drew)); exact HO_6.out⟩, ⟨by repeat (first | (with_reducible exact HR220_0.out) | (with_reducible refine Kd.C_alloc ?_ _) | (with_reducible refine Kd.C_drewN ?_ _) | (with_reducible refine Kd.C_drew ?_) | exact HR220_0.out)⟩, ⟨by repeat (first | (with_reducible first | exact HB.out | apply below_alloc | apply pw_below_drewN | apply below_drew1) | exact HB.out)⟩⟩
                                ·rw [if_neg c46] at H
                                 have c46b0 : (((rd_T43 l0 x8_2).f1) == ((rd_T43 l0 x11_6).f1)) = false := beq_eq_false_iff_ne.mpr c46
                                 have c46b1 : (((rd_T43 l0 x8_2).f1) != ((rd_T43 l0 x11_6).f1)) = true := bne_iff_ne.mpr c46
                                 obtain rfl := Option.some.inj H
                                 have p223 : 0 ≤ (x8_2 : Int) := of_decide_eq_true (by first | (with_reducible assumption) | assumption)
                                 have q223 : x8_2 < (t213.length : Int) := of_decide_eq_true (by first | (with_reducible assumption) | assumption)
                                 obtain ⟨ad223, A223_0, c223_0, e223, hx223_0, hl223_0, hi223_0⟩ := at_L5 (Kd.S_reads' HO_5.out).2.2 x8_2 p223 q223
                                 obtain rfl : ad220 = ad223 := (by injection e223)
                                 obtain ⟨ce223, hce223, hMe223, hcc223⟩ := Kd.S_get HO_5.out [] x8_2 p223 (by first | exact q223 | exact of_decide_eq_true (by first | (with_reducible assumption) | assumption) | (have e_ := (Kd.S_reads' HO_5.out).1; omega))
                                 obtain ⟨ve223_0, rfl, ge223_0⟩ := hMe223
                                 have hv223_0 := hcc223 0 _ rfl
                                 rw [Nat.add_zero, show ((Kd.slice 4 Kd.bool)).sz = 1 from rfl, Nat.mul_one] at hv223_0
                                 replace hv223_0 := Option.some.inj (hv223_0.symm.trans hx223_0)
                                 rw [hv223_0] at ge223_0
                                 have HL223_0 := Aside0.mk (show Kd.R Kd.bool 4 _ _ _ _ (rd_L5 t213 x8_2) from ge223_0)
                                 clear hv223_0 ge223_0
                                 clear hcc223 hce223
                                 have HR223_0 := Aside0.mk hi223_0
                                 have HC223_0 := Aside0.mk hl223_0
                                 clear hi223_0 hl223_0
                                 replace p223 := eq_true p223
                                 replace q223 := eq_true q223
                                 have p224 : 0 ≤ (x11_6 : Int) := of_decide_eq_true (by first | (with_reducible assumption) | assumption)
                                 have q224 : x11_6 < ((rd_L5 t213 x8_2).length : Int) := of_decide_eq_true (by first | (with_reducible assumption) | assumption)
                                 obtain ⟨ad224, e224, hx224_0⟩ := Kd.at_bool (by repeat (first | (with_reducible exact HR223_0.out) | (with_reducible refine Kd.C_alloc ?_ _) | (with_reducible refine Kd.C_drewN ?_ _) | (with_reducible refine Kd.C_drew ?_) | exact HR223_0.out)) x11_6 p224 q224
                                 (try rw [← Nbq36.out] at hx224_0)
                                 (try rw [← Nbq43.out] at hx224_0)
                                 cases e224
                                 replace p224 := eq_true p224
                                 replace q224 := eq_true q224
                                 have p225 : 0 ≤ (x11_6 : Int) := of_decide_eq_true (by first | (with_reducible assumption) | assumption)
                                 have q225 : x11_6 < (l0.length : Int) := of_decide_eq_true (by first | (with_reducible assumption) | assumption)
                                 obtain ⟨ad225, A225_0, c225_0, e225, hx225_0, hx225_1, hx225_2, hx225_3, hx225_4, hl225_0, hi225_0⟩ := at_T43 HR0.out x11_6 p225 q225
                                 cases e225
                                 replace hx225_0 := (HB.out.cell (World.block_lt_of_cell? w _ hx225_0)).trans hx225_0
                                 replace hx225_1 := (HB.out.cell (World.block_lt_of_cell? w _ hx225_1)).trans hx225_1
                                 replace hx225_2 := (HB.out.cell (World.block_lt_of_cell? w _ hx225_2)).trans hx225_2
                                 replace hx225_3 := (HB.out.cell (World.block_lt_of_cell? w _ hx225_3)).trans hx225_3
                                 replace hx225_4 := (HB.out.cell (World.block_lt_of_cell? w _ hx225_4)).trans hx225_4
                                 have HR225_0 := Aside0.mk hi225_0
                                 have HC225_0 := Aside0.mk hl225_0
                                 clear hi225_0 hl225_0
                                 replace p225 := eq_true p225
                                 replace q225 := eq_true q225
                                 have p226 : 0 ≤ (x11_6 : Int) := of_decide_eq_true (by first | (with_reducible assumption) | assumption)
                                 have q226 : x11_6 < (t213.length : Int) := of_decide_eq_true (by first | (with_reducible assumption) | assumption)
                                 obtain ⟨ad226, A226_0, c226_0, e226, hx226_0, hl226_0, hi226_0⟩ := at_L5 (Kd.S_reads' HO_5.out).2.2 x11_6 p226 q226
                                 obtain rfl : ad220 = ad226 := (by injection e226)
                                 obtain ⟨ce226, hce226, hMe226, hcc226⟩ := Kd.S_get HO_5.out [] x11_6 p226 (by first | exact q226 | exact of_decide_eq_true (by first | (with_reducible assumption) | assumption) | (have e_ := (Kd.S_reads' HO_5.out).1; omega))
                                 obtain ⟨ve226_0, rfl, ge226_0⟩ := hMe226
                                 have hv226_0 := hcc226 0 _ rfl
                                 rw [Nat.add_zero, show ((Kd.slice 4 Kd.bool)).sz = 1 from rfl, Nat.mul_one] at hv226_0
                                 replace hv226_0 := Option.some.inj (hv226_0.symm.trans hx226_0)
                                 rw [hv226_0] at ge226_0
                                 have HL226_0 := Aside0.mk (show Kd.R Kd.bool 4 _ _ _ _ (rd_L5 t213 x11_6) from ge226_0)
                                 clear hv226_0 ge226_0
                                 clear hcc226 hce226
                                 have HR226_0 := Aside0.mk hi226_0
                                 have HC226_0 := Aside0.mk hl226_0
                                 clear hi226_0 hl226_0
                                 replace p226 := eq_true p226
                                 replace q226 := eq_true q226
                                 have p227 : 0 ≤ (x11_6 : Int) := of_decide_eq_true (by first | (with_reducible assumption) | assumption)
                                 have q227 : x11_6 < ((rd_L5 t213 x11_6).length : Int) := of_decide_eq_true (by first | (with_reducible assumption) | assumption)
                                 obtain ⟨ad227, e227, hx227_0⟩ := Kd.at_bool (by repeat (first | (with_reducible exact HR226_0.out) | (with_reducible refine Kd.C_alloc ?_ _) | (with_reducible refine Kd.C_drewN ?_ _) | (with_reducible refine Kd.C_drew ?_) | exact HR226_0.out)) x11_6 p227 q227
                                 (try rw [← Nbq36.out] at hx227_0)
                                 (try rw [← Nbq43.out] at hx227_0)
                                 cases e227
                                 replace p227 := eq_true p227
                                 replace q227 := eq_true q227
                                 have p228 : 0 ≤ (x11_6 : Int) := of_decide_eq_true (by first | (with_reducible assumption) | assumption)
                                 have q228 : x11_6 < (t213.length : Int) := of_decide_eq_true (by first | (with_reducible assumption) | assumption)
                                 obtain ⟨ad228, A228_0, c228_0, e228, hx228_0, hl228_0, hi228_0⟩ := at_L5 (Kd.S_reads' HO_5.out).2.2 x11_6 p228 q228
                                 obtain rfl : ad220 = ad228 := (by injection e228)
                                 obtain ⟨ce228, hce228, hMe228, hcc228⟩ := Kd.S_get HO_5.out [] x11_6 p228 (by first | exact q228 | exact of_decide_eq_true (by first | (with_reducible assumption) | assumption) | (have e_ := (Kd.S_reads' HO_5.out).1; omega))
                                 obtain ⟨ve228_0, rfl, ge228_0⟩ := hMe228
                                 have hv228_0 := hcc228 0 _ rfl
                                 rw [Nat.add_zero, show ((Kd.slice 4 Kd.bool)).sz = 1 from rfl, Nat.mul_one] at hv228_0
                                 replace hv228_0 := Option.some.inj (hv228_0.symm.trans hx228_0)
                                 rw [hv228_0] at ge228_0
                                 have HL228_0 := Aside0.mk (show Kd.R Kd.bool 4 _ _ _ _ (rd_L5 t213 x11_6) from ge228_0)
                                 clear hv228_0 ge228_0
                                 clear hcc228 hce228
                                 have HR228_0 := Aside0.mk hi228_0
                                 have HC228_0 := Aside0.mk hl228_0
                                 clear hi228_0 hl228_0
                                 replace p228 := eq_true p228
                                 replace q228 := eq_true q228
                                 have ea_ := Option.some.inj (hx226_0.symm.trans hx228_0)
                                 injection ea_ with ea_ en_ ec_
                                 subst ea_
                                 subst ec_
                                 clear en_
                                 have p229 : 0 ≤ (x8_2 : Int) := of_decide_eq_true (by first | (with_reducible assumption) | assumption)
                                 have q229 : x8_2 < ((rd_L5 t213 x11_6).length : Int) := of_decide_eq_true (by first | (with_reducible assumption) | assumption)
                                 obtain ⟨ad229, e229, hx229_0⟩ := Kd.at_bool (by repeat (first | (with_reducible exact HR228_0.out) | (with_reducible refine Kd.C_alloc ?_ _) | (with_reducible refine Kd.C_drewN ?_ _) | (with_reducible refine Kd.C_drew ?_) | exact HR228_0.out)) x8_2 p229 q229
                                 (try rw [← Nbq36.out] at hx229_0)
                                 (try rw [← Nbq43.out] at hx229_0)
                                 cases e229
                                 replace p229 := eq_true p229
                                 replace q229 := eq_true q229
                                 have p230 : 0 ≤ (x8_2 : Int) := of_decide_eq_true (by first | (with_reducible assumption) | assumption)
                                 have q230 : x8_2 < (l0.length : Int) := of_decide_eq_true (by first | (with_reducible assumption) | assumption)
                                 obtain ⟨ad230, A230_0, c230_0, e230, hx230_0, hx230_1, hx230_2, hx230_3, hx230_4, hl230_0, hi230_0⟩ := at_T43 HR0.out x8_2 p230 q230
                                 obtain rfl : ad225 = ad230 := (by injection e230)
                                 replace hx230_0 := (HB.out.cell (World.block_lt_of_cell? w _ hx230_0)).trans hx230_0
                                 replace hx230_1 := (HB.out.cell (World.block_lt_of_cell? w _ hx230_1)).trans hx230_1
                                 replace hx230_2 := (HB.out.cell (World.block_lt_of_cell? w _ hx230_2)).trans hx230_2
                                 replace hx230_3 := (HB.out.cell (World.block_lt_of_cell? w _ hx230_3)).trans hx230_3
                                 replace hx230_4 := (HB.out.cell (World.block_lt_of_cell? w _ hx230_4)).trans hx230_4
                                 have HR230_0 := Aside0.mk hi230_0
                                 have HC230_0 := Aside0.mk hl230_0
                                 clear hi230_0 hl230_0
                                 replace p230 := eq_true p230
                                 replace q230 := eq_true q230
                                 have p231 : 0 ≤ (x11_6 : Int) := of_decide_eq_true (by first | (with_reducible assumption) | assumption)
                                 have q231 : x11_6 < (l0.length : Int) := of_decide_eq_true (by first | (with_reducible assumption) | assumption)
                                 obtain ⟨ad231, A231_0, c231_0, e231, hx231_0, hx231_1, hx231_2, hx231_3, hx231_4, hl231_0, hi231_0⟩ := at_T43 HR0.out x11_6 p231 q231
                                 obtain rfl : ad225 = ad231 := (by injection e231)
                                 replace hx231_0 := (HB.out.cell (World.block_lt_of_cell? w _ hx231_0)).trans hx231_0
                                 replace hx231_1 := (HB.out.cell (World.block_lt_of_cell? w _ hx231_1)).trans hx231_1
                                 replace hx231_2 := (HB.out.cell (World.block_lt_of_cell? w _ hx231_2)).trans hx231_2
                                 replace hx231_3 := (HB.out.cell (World.block_lt_of_cell? w _ hx231_3)).trans hx231_3
                                 replace hx231_4 := (HB.out.cell (World.block_lt_of_cell? w _ hx231_4)).trans hx231_4
                                 have HR231_0 := Aside0.mk hi231_0
                                 have HC231_0 := Aside0.mk hl231_0
                                 clear hi231_0 hl231_0
                                 replace p231 := eq_true p231
                                 replace q231 := eq_true q231
                                 have ea_ := Option.some.inj (hx225_0.symm.trans hx231_0)
                                 injection ea_ with ea_ en_ ec_
                                 subst ea_
                                 subst ec_
                                 clear en_
                                 go_wp2
                                 repeat (go_quiet (fail); try go_wp2)
                                 go_ret
                                 exact ⟨by first | rfl | (simp [errW_none, errW_some] <;> rfl) | (simp [*, errW_none, errW_some] <;> rfl), by repeat (first | (with_reducible first | exact HB.out | apply below_alloc | apply pw_below_drewN | apply below_drew1) | exact HB.out)⟩
                               ·rw [if_neg c45] at H
                                exact absurd H (by simp)
                              ·replace c44 := Bool.eq_false_iff.mpr c44
                               subst c44
                               have H1 : (butlerlaw11_RecipeFates.l1 k6 l0 t213 t216 x7_23 x8_2 (!(rdOf false (rd_L5 t213 x11_6) x11_6)) (wrap64 (x11_6 + 1))) = some r := by rw [if_neg (show ¬ (false = true) by decide)] at H; exact H
                               clear H
                               have H := H1
                               clear H1
                               have H' := Aside0.mk H
                               clear H
                               have p223 : 0 ≤ (x8_2 : Int) := of_decide_eq_true (by first | (with_reducible assumption) | assumption)
                               have q223 : x8_2 < (t213.length : Int) := of_decide_eq_true (by first | (with_reducible assumption) | assumption)
                               obtain ⟨ad223, A223_0, c223_0, e223, hx223_0, hl223_0, hi223_0⟩ := at_L5 (Kd.S_reads' HO_5.out).2.2 x8_2 p223 q223
                               obtain rfl : ad220 = ad223 := (by injection e223)
                               obtain ⟨ce223, hce223, hMe223, hcc223⟩ := Kd.S_get HO_5.out [] x8_2 p223 (by first | exact q223 | exact of_decide_eq_true (by first | (with_reducible assumption) | assumption) | (have e_ := (Kd.S_reads' HO_5.out).1; omega))
                               obtain ⟨ve223_0, rfl, ge223_0⟩ := hMe223
                               have hv223_0 := hcc223 0 _ rfl
                               rw [Nat.add_zero, show ((Kd.slice 4 Kd.bool)).sz = 1 from rfl, Nat.mul_one] at hv223_0
                               replace hv223_0 := Option.some.inj (hv223_0.symm.trans hx223_0)
                               rw [hv223_0] at ge223_0
                               have HL223_0 := Aside0.mk (show Kd.R Kd.bool 4 _ _ _ _ (rd_L5 t213 x8_2) from ge223_0)
                               clear hv223_0 ge223_0
                               clear hcc223 hce223
                               have HR223_0 := Aside0.mk hi223_0
                               have HC223_0 := Aside0.mk hl223_0
                               clear hi223_0 hl223_0
                               replace p223 := eq_true p223
                               replace q223 := eq_true q223
                               have p224 : 0 ≤ (x11_6 : Int) := of_decide_eq_true (by first | (with_reducible assumption) | assumption)
                               have q224 : x11_6 < ((rd_L5 t213 x8_2).length : Int) := of_decide_eq_true (by first | (with_reducible assumption) | assumption)
                               obtain ⟨ad224, e224, hx224_0⟩ := Kd.at_bool (by repeat (first | (with_reducible exact HR223_0.out) | (with_reducible refine Kd.C_alloc ?_ _) | (with_reducible refine Kd.C_drewN ?_ _) | (with_reducible refine Kd.C_drew ?_) | exact HR223_0.out)) x11_6 p224 q224
                               (try rw [← Nbq36.out] at hx224_0)
                               (try rw [← Nbq43.out] at hx224_0)
                               cases e224
                               replace p224 := eq_true p224
                               replace q224 := eq_true q224
                               have p225 : 0 ≤ (x11_6 : Int) := of_decide_eq_true (by first | (with_reducible assumption) | assumption)
                               have q225 : x11_6 < (l0.length : Int) := of_decide_eq_true (by first | (with_reducible assumption) | assumption)
                               obtain ⟨ad225, A225_0, c225_0, e225, hx225_0, hx225_1, hx225_2, hx225_3, hx225_4, hl225_0, hi225_0⟩ := at_T43 HR0.out x11_6 p225 q225
                               cases e225
                               replace hx225_0 := (HB.out.cell (World.block_lt_of_cell? w _ hx225_0)).trans hx225_0
                               replace hx225_1 := (HB.out.cell (World.block_lt_of_cell? w _ hx225_1)).trans hx225_1
                               replace hx225_2 := (HB.out.cell (World.block_lt_of_cell? w _ hx225_2)).trans hx225_2
                               replace hx225_3 := (HB.out.cell (World.block_lt_of_cell? w _ hx225_3)).trans hx225_3
                               replace hx225_4 := (HB.out.cell (World.block_lt_of_cell? w _ hx225_4)).trans hx225_4
                               have HR225_0 := Aside0.mk hi225_0
                               have HC225_0 := Aside0.mk hl225_0
                               clear hi225_0 hl225_0
                               replace p225 := eq_true p225
                               replace q225 := eq_true q225
                               have p226 : 0 ≤ (x11_6 : Int) := of_decide_eq_true (by first | (with_reducible assumption) | assumption)
                               have q226 : x11_6 < (t213.length : Int) := of_decide_eq_true (by first | (with_reducible assumption) | assumption)
                               obtain ⟨ad226, A226_0, c226_0, e226, hx226_0, hl226_0, hi226_0⟩ := at_L5 (Kd.S_reads' HO_5.out).2.2 x11_6 p226 q226
                               obtain rfl : ad220 = ad226 := (by injection e226)
                               obtain ⟨ce226, hce226, hMe226, hcc226⟩ := Kd.S_get HO_5.out [] x11_6 p226 (by first | exact q226 | exact of_decide_eq_true (by first | (with_reducible assumption) | assumption) | (have e_ := (Kd.S_reads' HO_5.out).1; omega))
                               obtain ⟨ve226_0, rfl, ge226_0⟩ := hMe226
                               have hv226_0 := hcc226 0 _ rfl
                               rw [Nat.add_zero, show ((Kd.slice 4 Kd.bool)).sz = 1 from rfl, Nat.mul_one] at hv226_0
                               replace hv226_0 := Option.some.inj (hv226_0.symm.trans hx226_0)
                               rw [hv226_0] at ge226_0
                               have HL226_0 := Aside0.mk (show Kd.R Kd.bool 4 _ _ _ _ (rd_L5 t213 x11_6) from ge226_0)
                               clear hv226_0 ge226_0
                               clear hcc226 hce226
                               have HR226_0 := Aside0.mk hi226_0
                               have HC226_0 := Aside0.mk hl226_0
                               clear hi226_0 hl226_0
                               replace p226 := eq_true p226
                               replace q226 := eq_true q226
                               have p227 : 0 ≤ (x11_6 : Int) := of_decide_eq_true (by first | (with_reducible assumption) | assumption)
                               have q227 : x11_6 < ((rd_L5 t213 x11_6).length : Int) := of_decide_eq_true (by first | (with_reducible assumption) | assumption)
                               obtain ⟨ad227, e227, hx227_0⟩ := Kd.at_bool (by repeat (first | (with_reducible exact HR226_0.out) | (with_reducible refine Kd.C_alloc ?_ _) | (with_reducible refine Kd.C_drewN ?_ _) | (with_reducible refine Kd.C_drew ?_) | exact HR226_0.out)) x11_6 p227 q227
                               (try rw [← Nbq36.out] at hx227_0)
                               (try rw [← Nbq43.out] at hx227_0)
                               cases e227
                               replace p227 := eq_true p227
                               replace q227 := eq_true q227
                               have p228 : 0 ≤ (x11_6 : Int) := of_decide_eq_true (by first | (with_reducible assumption) | assumption)
                               have q228 : x11_6 < (t213.length : Int) := of_decide_eq_true (by first | (with_reducible assumption) | assumption)
                               obtain ⟨ad228, A228_0, c228_0, e228, hx228_0, hl228_0, hi228_0⟩ := at_L5 (Kd.S_reads' HO_5.out).2.2 x11_6 p228 q228
                               obtain rfl : ad220 = ad228 := (by injection e228)
                               obtain ⟨ce228, hce228, hMe228, hcc228⟩ := Kd.S_get HO_5.out [] x11_6 p228 (by first | exact q228 | exact of_decide_eq_true (by first | (with_reducible assumption) | assumption) | (have e_ := (Kd.S_reads' HO_5.out).1; omega))
                               obtain ⟨ve228_0, rfl, ge228_0⟩ := hMe228
                               have hv228_0 := hcc228 0 _ rfl
                               rw [Nat.add_zero, show ((Kd.slice 4 Kd.bool)).sz = 1 from rfl, Nat.mul_one] at hv228_0
                               replace hv228_0 := Option.some.inj (hv228_0.symm.trans hx228_0)
                               rw [hv228_0] at ge228_0
                               have HL228_0 := Aside0.mk (show Kd.R Kd.bool 4 _ _ _ _ (rd_L5 t213 x11_6) from ge228_0)
                               clear hv228_0 ge228_0
                               clear hcc228 hce228
                               have HR228_0 := Aside0.mk hi228_0
                               have HC228_0 := Aside0.mk hl228_0
                               clear hi228_0 hl228_0
                               replace p228 := eq_true p228
                               replace q228 := eq_true q228
                               have ea_ := Option.some.inj (hx226_0.symm.trans hx228_0)
                               injection ea_ with ea_ en_ ec_
                               subst ea_
                               subst ec_
                               clear en_
                               have p229 : 0 ≤ (x8_2 : Int) := of_decide_eq_true (by first | (with_reducible assumption) | assumption)
                               have q229 : x8_2 < ((rd_L5 t213 x11_6).length : Int) := of_decide_eq_true (by first | (with_reducible assumption) | assumption)
                               obtain ⟨ad229, e229, hx229_0⟩ := Kd.at_bool (by repeat (first | (with_reducible exact HR228_0.out) | (with_reducible refine Kd.C_alloc ?_ _) | (with_reducible refine Kd.C_drewN ?_ _) | (with_reducible refine Kd.C_drew ?_) | exact HR228_0.out)) x8_2 p229 q229
                               (try rw [← Nbq36.out] at hx229_0)
                               (try rw [← Nbq43.out] at hx229_0)
                               cases e229
                               replace p229 := eq_true p229
                               replace q229 := eq_true q229
                               go_wp2
                               repeat (go_quiet (fail); try go_wp2)
                               go_roundg k6
                               case measure => have := HJ3.out; have := HK2.out; have := HJ13.out; have := HJ23.out; have := HJ26.out; have := HK6.out; omega
                               case rel => exact ⟨(!(rdOf false (rd_L5 t213 x11_6) x11_6)), (wrap64 (x11_6 + 1)), (by first | rfl | (simp; done) | (simp [*]; done)), (by first | rfl | (simp; done) | (simp [*]; done)), H', ⟨by have := HJ3.out; have := HK2.out; have := HJ13.out; have := HJ23.out; have := HJ26.out; have := HK6.out; omega⟩, ⟨by (with_reducible repeat (first | apply Kd.S_alloc | apply Kd.S_drewN | apply Kd.S_drew)); exact HO_5.out⟩, ⟨by (with_reducible repeat (first | apply Kd.R_alloc | apply Kd.R_drewN | apply Kd.R_drew)); exact HO_6.out⟩, ⟨by repeat (first | (with_reducible exact HR220_0.out) | (with_reducible refine Kd.C_alloc ?_ _) | (with_reducible refine Kd.C_drewN ?_ _) | (with_reducible refine Kd.C_drew ?_) | exact HR220_0.out)⟩, ⟨by repeat (first | (with_reducible first | exact HB.out | apply below_alloc | apply pw_below_drewN | apply below_drew1) | exact HB.out)⟩⟩
                             ·rw [if_neg c42] at H
                              exact absurd H (by simp)
                            ·rw [if_neg c41] at H
                             exact absurd H (by simp)
                           ·rw [if_neg c40] at H
                            exact absurd H (by simp)
                          ·rw [if_neg c39] at H
                           have c39b0 : (((rd_T43 l0 x11_6).f2) == 0) = false := beq_eq_false_iff_ne.mpr c39
                           have c39b1 : (((rd_T43 l0 x11_6).f2) != 0) = true := bne_iff_ne.mpr c39
                           by_cases c47 : x11_6 < (t213.length : Int)
                           ·rw [if_pos c47] at H
                            have c47b0 : decide (x11_6 < (t213.length : Int)) = true := decide_eq_true c47
                            clear c47
                            by_cases c48 : x8_2 < ((rd_L5 t213 x11_6).length : Int)
                            ·rw [if_pos c48] at H
                             have c48b0 : decide (x8_2 < ((rd_L5 t213 x11_6).length : Int)) = true := decide_eq_true c48
                             clear c48
                             obtain ⟨bq49, hbq49⟩ : ∃ b_ : Bool, b_ = (rdOf false (rd_L5 t213 x11_6) x8_2) := ⟨_, rfl⟩
                             replace H : (if bq49 = true then (if x8_2 < (l0.length : Int) then (if ((rd_T43 l0 x8_2).f1) = ((rd_T43 l0 x11_6).f1) then (butlerlaw11_RecipeFates.l1 k6 l0 t213 t216 x7_23 x8_2 false (wrap64 (x11_6 + 1))) else (some false)) else (none)) else (butlerlaw11_RecipeFates.l1 k6 l0 t213 t216 x7_23 x8_2 false (wrap64 (x11_6 + 1)))) = some r := by rw [← hbq49] at H; exact H
                             have Nbq49 := Aside0.mk hbq49
                             clear hbq49
                             by_cases c50 : bq49 = true
                             ·subst c50
                              have H1 : (if x8_2 < (l0.length : Int) then (if ((rd_T43 l0 x8_2).f1) = ((rd_T43 l0 x11_6).f1) then (butlerlaw11_RecipeFates.l1 k6 l0 t213 t216 x7_23 x8_2 false (wrap64 (x11_6 + 1))) else (some false)) else (none)) = some r := by rw [if_pos rfl] at H; exact H
                              clear H
                              have H := H1
                              clear H1
                              by_cases c51 : x8_2 < (l0.length : Int)
                              ·rw [if_pos c51] at H
                               have c51b0 : decide (x8_2 < (l0.length : Int)) = true := decide_eq_true c51
                               clear c51
                               by_cases c52 : ((rd_T43 l0 x8_2).f1) = ((rd_T43 l0 x11_6).f1)
                               ·rw [if_pos c52] at H
                                have c52b0 : (((rd_T43 l0 x8_2).f1) == ((rd_T43 l0 x11_6).f1)) = true := beq_iff_eq.mpr c52
                                have c52b1 : (((rd_T43 l0 x8_2).f1) != ((rd_T43 l0 x11_6).f1)) = false := bne_eq_false_iff_eq.mpr c52
                                clear c52
                                have H' := Aside0.mk H
                                clear H
                                have p223 : 0 ≤ (x8_2 : Int) := of_decide_eq_true (by first | (with_reducible assumption) | assumption)
                                have q223 : x8_2 < (t213.length : Int) := of_decide_eq_true (by first | (with_reducible assumption) | assumption)
                                obtain ⟨ad223, A223_0, c223_0, e223, hx223_0, hl223_0, hi223_0⟩ := at_L5 (Kd.S_reads' HO_5.out).2.2 x8_2 p223 q223
                                obtain rfl : ad220 = ad223 := (by injection e223)
                                obtain ⟨ce223, hce223, hMe223, hcc223⟩ := Kd.S_get HO_5.out [] x8_2 p223 (by first | exact q223 | exact of_decide_eq_true (by first | (with_reducible assumption) | assumption) | (have e_ := (Kd.S_reads' HO_5.out).1; omega))
                                obtain ⟨ve223_0, rfl, ge223_0⟩ := hMe223
                                have hv223_0 := hcc223 0 _ rfl
                                rw [Nat.add_zero, show ((Kd.slice 4 Kd.bool)).sz = 1 from rfl, Nat.mul_one] at hv223_0
                                replace hv223_0 := Option.some.inj (hv223_0.symm.trans hx223_0)
                                rw [hv223_0] at ge223_0
                                have HL223_0 := Aside0.mk (show Kd.R Kd.bool 4 _ _ _ _ (rd_L5 t213 x8_2) from ge223_0)
                                clear hv223_0 ge223_0
                                clear hcc223 hce223
                                have HR223_0 := Aside0.mk hi223_0
                                have HC223_0 := Aside0.mk hl223_0
                                clear hi223_0 hl223_0
                                replace p223 := eq_true p223
                                replace q223 := eq_true q223
                                have p224 : 0 ≤ (x11_6 : Int) := of_decide_eq_true (by first | (with_reducible assumption) | assumption)
                                have q224 : x11_6 < ((rd_L5 t213 x8_2).length : Int) := of_decide_eq_true (by first | (with_reducible assumption) | assumption)
                                obtain ⟨ad224, e224, hx224_0⟩ := Kd.at_bool (by repeat (first | (with_reducible exact HR223_0.out) | (with_reducible refine Kd.C_alloc ?_ _) | (with_reducible refine Kd.C_drewN ?_ _) | (with_reducible refine Kd.C_drew ?_) | exact HR223_0.out)) x11_6 p224 q224
                                (try rw [← Nbq36.out] at hx224_0)
                                (try rw [← Nbq49.out] at hx224_0)
                                cases e224
                                replace p224 := eq_true p224
                                replace q224 := eq_true q224
                                have p225 : 0 ≤ (x11_6 : Int) := of_decide_eq_true (by first | (with_reducible assumption) | assumption)
                                have q225 : x11_6 < (l0.length : Int) := of_decide_eq_true (by first | (with_reducible assumption) | assumption)
                                obtain ⟨ad225, A225_0, c225_0, e225, hx225_0, hx225_1, hx225_2, hx225_3, hx225_4, hl225_0, hi225_0⟩ := at_T43 HR0.out x11_6 p225 q225
                                cases e225
                                replace hx225_0 := (HB.out.cell (World.block_lt_of_cell? w _ hx225_0)).trans hx225_0
                                replace hx225_1 := (HB.out.cell (World.block_lt_of_cell? w _ hx225_1)).trans hx225_1
                                replace hx225_2 := (HB.out.cell (World.block_lt_of_cell? w _ hx225_2)).trans hx225_2
                                replace hx225_3 := (HB.out.cell (World.block_lt_of_cell? w _ hx225_3)).trans hx225_3
                                replace hx225_4 := (HB.out.cell (World.block_lt_of_cell? w _ hx225_4)).trans hx225_4
                                have HR225_0 := Aside0.mk hi225_0
                                have HC225_0 := Aside0.mk hl225_0
                                clear hi225_0 hl225_0
                                replace p225 := eq_true p225
                                replace q225 := eq_true q225
                                have p232 : 0 ≤ (x11_6 : Int) := of_decide_eq_true (by first | (with_reducible assumption) | assumption)
                                have q232 : x11_6 < (t213.length : Int) := of_decide_eq_true (by first | (with_reducible assumption) | assumption)
                                obtain ⟨ad232, A232_0, c232_0, e232, hx232_0, hl232_0, hi232_0⟩ := at_L5 (Kd.S_reads' HO_5.out).2.2 x11_6 p232 q232
                                obtain rfl : ad220 = ad232 := (by injection e232)
                                obtain ⟨ce232, hce232, hMe232, hcc232⟩ := Kd.S_get HO_5.out [] x11_6 p232 (by first | exact q232 | exact of_decide_eq_true (by first | (with_reducible assumption) | assumption) | (have e_ := (Kd.S_reads' HO_5.out).1; omega))
                                obtain ⟨ve232_0, rfl, ge232_0⟩ := hMe232
                                have hv232_0 := hcc232 0 _ rfl
                                rw [Nat.add_zero, show ((Kd.slice 4 Kd.bool)).sz = 1 from rfl, Nat.mul_one] at hv232_0
                                replace hv232_0 := Option.some.inj (hv232_0.symm.trans hx232_0)
                                rw [hv232_0] at ge232_0
                                have HL232_0 := Aside0.mk (show Kd.R Kd.bool 4 _ _ _ _ (rd_L5 t213 x11_6) from ge232_0)
                                clear hv232_0 ge232_0
                                clear hcc232 hce232
                                have HR232_0 := Aside0.mk hi232_0
                                have HC232_0 := Aside0.mk hl232_0
                                clear hi232_0 hl232_0
                                replace p232 := eq_true p232
                                replace q232 := eq_true q232
                                have p233 : 0 ≤ (x8_2 : Int) := of_decide_eq_true (by first | (with_reducible assumption) | assumption)
                                have q233 : x8_2 < ((rd_L5 t213 x11_6).length : Int) := of_decide_eq_true (by first | (with_reducible assumption) | assumption)
                                obtain ⟨ad233, e233, hx233_0⟩ := Kd.at_bool (by repeat (first | (with_reducible exact HR232_0.out) | (with_reducible refine Kd.C_alloc ?_ _) | (with_reducible refine Kd.C_drewN ?_ _) | (with_reducible refine Kd.C_drew ?_) | exact HR232_0.out)) x8_2 p233 q233
                                (try rw [← Nbq36.out] at hx233_0)
                                (try rw [← Nbq49.out] at hx233_0)
                                cases e233
                                replace p233 := eq_true p233
                                replace q233 := eq_true q233
                                have p234 : 0 ≤ (x8_2 : Int) := of_decide_eq_true (by first | (with_reducible assumption) | assumption)
                                have q234 : x8_2 < (l0.length : Int) := of_decide_eq_true (by first | (with_reducible assumption) | assumption)
                                obtain ⟨ad234, A234_0, c234_0, e234, hx234_0, hx234_1, hx234_2, hx234_3, hx234_4, hl234_0, hi234_0⟩ := at_T43 HR0.out x8_2 p234 q234
                                obtain rfl : ad225 = ad234 := (by injection e234)
                                replace hx234_0 := (HB.out.cell (World.block_lt_of_cell? w _ hx234_0)).trans hx234_0
                                replace hx234_1 := (HB.out.cell (World.block_lt_of_cell? w _ hx234_1)).trans hx234_1
                                replace hx234_2 := (HB.out.cell (World.block_lt_of_cell? w _ hx234_2)).trans hx234_2
                                replace hx234_3 := (HB.out.cell (World.block_lt_of_cell? w _ hx234_3)).trans hx234_3
                                replace hx234_4 := (HB.out.cell (World.block_lt_of_cell? w _ hx234_4)).trans hx234_4
                                have HR234_0 := Aside0.mk hi234_0
                                have HC234_0 := Aside0.mk hl234_0
                                clear hi234_0 hl234_0
                                replace p234 := eq_true p234
                                replace q234 := eq_true q234
                                have p235 : 0 ≤ (x11_6 : Int) := of_decide_eq_true (by first | (with_reducible assumption) | assumption)
                                have q235 : x11_6 < (l0.length : Int) := of_decide_eq_true (by first | (with_reducible assumption) | assumption)
                                obtain ⟨ad235, A235_0, c235_0, e235, hx235_0, hx235_1, hx235_2, hx235_3, hx235_4, hl235_0, hi235_0⟩ := at_T43 HR0.out x11_6 p235 q235
                                obtain rfl : ad225 = ad235 := (by injection e235)
                                replace hx235_0 := (HB.out.cell (World.block_lt_of_cell? w _ hx235_0)).trans hx235_0
                                replace hx235_1 := (HB.out.cell (World.block_lt_of_cell? w _ hx235_1)).trans hx235_1
                                replace hx235_2 := (HB.out.cell (World.block_lt_of_cell? w _ hx235_2)).trans hx235_2
                                replace hx235_3 := (HB.out.cell (World.block_lt_of_cell? w _ hx235_3)).trans hx235_3
                                replace hx235_4 := (HB.out.cell (World.block_lt_of_cell? w _ hx235_4)).trans hx235_4
                                have HR235_0 := Aside0.mk hi235_0
                                have HC235_0 := Aside0.mk hl235_0
                                clear hi235_0 hl235_0
                                replace p235 := eq_true p235
                                replace q235 := eq_true q235
                                have ea_ := Option.some.inj (hx225_0.symm.trans hx235_0)
                                injection ea_ with ea_ en_ ec_
                                subst ea_
                                subst ec_
                                clear en_
                                go_wp2
                                repeat (go_quiet (fail); try go_wp2)
                                go_roundg k6
                                case measure => have := HJ3.out; have := HK2.out; have := HJ13.out; have := HJ23.out; have := HJ26.out; have := HK6.out; omega
                                case rel => exact ⟨(false), (wrap64 (x11_6 + 1)), (by first | rfl | (simp; done) | (simp [*]; done)), (by first | rfl | (simp; done) | (simp [*]; done)), H', ⟨by have := HJ3.out; have := HK2.out; have := HJ13.out; have := HJ23.out; have := HJ26.out; have := HK6.out; omega⟩, ⟨by (with_reducible repeat (first | apply Kd.S_alloc | apply Kd.S_drewN | apply Kd.S_drew)); exact HO_5.out⟩, ⟨by (with_reducible repeat (first | apply Kd.R_alloc | apply Kd.R_drewN | apply Kd.R_drew)); exact HO_6.out⟩, ⟨by repeat (first | (with_reducible exact HR220_0.out) | (with_reducible refine Kd.C_alloc ?_ _) | (with_reducible refine Kd.C_drewN ?_ _) | (with_reducible refine Kd.C_drew ?_) | exact HR220_0.out)⟩, ⟨by repeat (first | (with_reducible first | exact HB.out | apply below_alloc | apply pw_below_drewN | apply below_drew1) | exact HB.out)⟩⟩
                               ·rw [if_neg c52] at H
                                have c52b0 : (((rd_T43 l0 x8_2).f1) == ((rd_T43 l0 x11_6).f1)) = false := beq_eq_false_iff_ne.mpr c52
                                have c52b1 : (((rd_T43 l0 x8_2).f1) != ((rd_T43 l0 x11_6).f1)) = true := bne_iff_ne.mpr c52
                                obtain rfl := Option.some.inj H
                                have p223 : 0 ≤ (x8_2 : Int) := of_decide_eq_true (by first | (with_reducible assumption) | assumption)
                                have q223 : x8_2 < (t213.length : Int) := of_decide_eq_true (by first | (with_reducible assumption) | assumption)
                                obtain ⟨ad223, A223_0, c223_0, e223, hx223_0, hl223_0, hi223_0⟩ := at_L5 (Kd.S_reads' HO_5.out).2.2 x8_2 p223 q223
                                obtain rfl : ad220 = ad223 := (by injection e223)
                                obtain ⟨ce223, hce223, hMe223, hcc223⟩ := Kd.S_get HO_5.out [] x8_2 p223 (by first | exact q223 | exact of_decide_eq_true (by first | (with_reducible assumption) | assumption) | (have e_ := (Kd.S_reads' HO_5.out).1; omega))
                                obtain ⟨ve223_0, rfl, ge223_0⟩ := hMe223
                                have hv223_0 := hcc223 0 _ rfl
                                rw [Nat.add_zero, show ((Kd.slice 4 Kd.bool)).sz = 1 from rfl, Nat.mul_one] at hv223_0
                                replace hv223_0 := Option.some.inj (hv223_0.symm.trans hx223_0)
                                rw [hv223_0] at ge223_0
                                have HL223_0 := Aside0.mk (show Kd.R Kd.bool 4 _ _ _ _ (rd_L5 t213 x8_2) from ge223_0)
                                clear hv223_0 ge223_0
                                clear hcc223 hce223
                                have HR223_0 := Aside0.mk hi223_0
                                have HC223_0 := Aside0.mk hl223_0
                                clear hi223_0 hl223_0
                                replace p223 := eq_true p223
                                replace q223 := eq_true q223
                                have p224 : 0 ≤ (x11_6 : Int) := of_decide_eq_true (by first | (with_reducible assumption) | assumption)
                                have q224 : x11_6 < ((rd_L5 t213 x8_2).length : Int) := of_decide_eq_true (by first | (with_reducible assumption) | assumption)
                                obtain ⟨ad224, e224, hx224_0⟩ := Kd.at_bool (by repeat (first | (with_reducible exact HR223_0.out) | (with_reducible refine Kd.C_alloc ?_ _) | (with_reducible refine Kd.C_drewN ?_ _) | (with_reducible refine Kd.C_drew ?_) | exact HR223_0.out)) x11_6 p224 q224
                                (try rw [← Nbq36.out] at hx224_0)
                                (try rw [← Nbq49.out] at hx224_0)
                                cases e224
                                replace p224 := eq_true p224
                                replace q224 := eq_true q224
                                have p225 : 0 ≤ (x11_6 : Int) := of_decide_eq_true (by first | (with_reducible assumption) | assumption)
                                have q225 : x11_6 < (l0.length : Int) := of_decide_eq_true (by first | (with_reducible assumption) | assumption)
                                obtain ⟨ad225, A225_0, c225_0, e225, hx225_0, hx225_1, hx225_2, hx225_3, hx225_4, hl225_0, hi225_0⟩ := at_T43 HR0.out x11_6 p225 q225
                                cases e225
                                replace hx225_0 := (HB.out.cell (World.block_lt_of_cell? w _ hx225_0)).trans hx225_0
                                replace hx225_1 := (HB.out.cell (World.block_lt_of_cell? w _ hx225_1)).trans hx225_1
                                replace hx225_2 := (HB.out.cell (World.block_lt_of_cell? w _ hx225_2)).trans hx225_2
                                replace hx225_3 := (HB.out.cell (World.block_lt_of_cell? w _ hx225_3)).trans hx225_3
                                replace hx225_4 := (HB.out.cell (World.block_lt_of_cell? w _ hx225_4)).trans hx225_4
                                have HR225_0 := Aside0.mk hi225_0
                                have HC225_0 := Aside0.mk hl225_0
                                clear hi225_0 hl225_0
                                replace p225 := eq_true p225
                                replace q225 := eq_true q225
                                have p232 : 0 ≤ (x11_6 : Int) := of_decide_eq_true (by first | (with_reducible assumption) | assumption)
                                have q232 : x11_6 < (t213.length : Int) := of_decide_eq_true (by first | (with_reducible assumption) | assumption)
                                obtain ⟨ad232, A232_0, c232_0, e232, hx232_0, hl232_0, hi232_0⟩ := at_L5 (Kd.S_reads' HO_5.out).2.2 x11_6 p232 q232
                                obtain rfl : ad220 = ad232 := (by injection e232)
                                obtain ⟨ce232, hce232, hMe232, hcc232⟩ := Kd.S_get HO_5.out [] x11_6 p232 (by first | exact q232 | exact of_decide_eq_true (by first | (with_reducible assumption) | assumption) | (have e_ := (Kd.S_reads' HO_5.out).1; omega))
                                obtain ⟨ve232_0, rfl, ge232_0⟩ := hMe232
                                have hv232_0 := hcc232 0 _ rfl
                                rw [Nat.add_zero, show ((Kd.slice 4 Kd.bool)).sz = 1 from rfl, Nat.mul_one] at hv232_0
                                replace hv232_0 := Option.some.inj (hv232_0.symm.trans hx232_0)
                                rw [hv232_0] at ge232_0
                                have HL232_0 := Aside0.mk (show Kd.R Kd.bool 4 _ _ _ _ (rd_L5 t213 x11_6) from ge232_0)
                                clear hv232_0 ge232_0
                                clear hcc232 hce232
                                have HR232_0 := Aside0.mk hi232_0
                                have HC232_0 := Aside0.mk hl232_0
                                clear hi232_0 hl232_0
                                replace p232 := eq_true p232
                                replace q232 := eq_true q232
                                have p233 : 0 ≤ (x8_2 : Int) := of_decide_eq_true (by first | (with_reducible assumption) | assumption)
                                have q233 : x8_2 < ((rd_L5 t213 x11_6).length : Int) := of_decide_eq_true (by first | (with_reducible assumption) | assumption)
                                obtain ⟨ad233, e233, hx233_0⟩ := Kd.at_bool (by repeat (first | (with_reducible exact HR232_0.out) | (with_reducible refine Kd.C_alloc ?_ _) | (with_reducible refine Kd.C_drewN ?_ _) | (with_reducible refine Kd.C_drew ?_) | exact HR232_0.out)) x8_2 p233 q233
                                (try rw [← Nbq36.out] at hx233_0)
                                (try rw [← Nbq49.out] at hx233_0)
                                cases e233
                                replace p233 := eq_true p233
                                replace q233 := eq_true q233
                                have p234 : 0 ≤ (x8_2 : Int) := of_decide_eq_true (by first | (with_reducible assumption) | assumption)
                                have q234 : x8_2 < (l0.length : Int) := of_decide_eq_true (by first | (with_reducible assumption) | assumption)
                                obtain ⟨ad234, A234_0, c234_0, e234, hx234_0, hx234_1, hx234_2, hx234_3, hx234_4, hl234_0, hi234_0⟩ := at_T43 HR0.out x8_2 p234 q234
                                obtain rfl : ad225 = ad234 := (by injection e234)
                                replace hx234_0 := (HB.out.cell (World.block_lt_of_cell? w _ hx234_0)).trans hx234_0
                                replace hx234_1 := (HB.out.cell (World.block_lt_of_cell? w _ hx234_1)).trans hx234_1
                                replace hx234_2 := (HB.out.cell (World.block_lt_of_cell? w _ hx234_2)).trans hx234_2
                                replace hx234_3 := (HB.out.cell (World.block_lt_of_cell? w _ hx234_3)).trans hx234_3
                                replace hx234_4 := (HB.out.cell (World.block_lt_of_cell? w _ hx234_4)).trans hx234_4
                                have HR234_0 := Aside0.mk hi234_0
                                have HC234_0 := Aside0.mk hl234_0
                                clear hi234_0 hl234_0
                                replace p234 := eq_true p234
                                replace q234 := eq_true q234
                                have p235 : 0 ≤ (x11_6 : Int) := of_decide_eq_true (by first | (with_reducible assumption) | assumption)
                                have q235 : x11_6 < (l0.length : Int) := of_decide_eq_true (by first | (with_reducible assumption) | assumption)
                                obtain ⟨ad235, A235_0, c235_0, e235, hx235_0, hx235_1, hx235_2, hx235_3, hx235_4, hl235_0, hi235_0⟩ := at_T43 HR0.out x11_6 p235 q235
                                obtain rfl : ad225 = ad235 := (by injection e235)
                                replace hx235_0 := (HB.out.cell (World.block_lt_of_cell? w _ hx235_0)).trans hx235_0
                                replace hx235_1 := (HB.out.cell (World.block_lt_of_cell? w _ hx235_1)).trans hx235_1
                                replace hx235_2 := (HB.out.cell (World.block_lt_of_cell? w _ hx235_2)).trans hx235_2
                                replace hx235_3 := (HB.out.cell (World.block_lt_of_cell? w _ hx235_3)).trans hx235_3
                                replace hx235_4 := (HB.out.cell (World.block_lt_of_cell? w _ hx235_4)).trans hx235_4
                                have HR235_0 := Aside0.mk hi235_0
                                have HC235_0 := Aside0.mk hl235_0
                                clear hi235_0 hl235_0
                                replace p235 := eq_true p235
                                replace q235 := eq_true q235
                                have ea_ := Option.some.inj (hx225_0.symm.trans hx235_0)
                                injection ea_ with ea_ en_ ec_
                                subst ea_
                                subst ec_
                                clear en_
                                go_wp2
                                repeat (go_quiet (fail); try go_wp2)
                                go_ret
                                exact ⟨by first | rfl | (simp [errW_none, errW_some] <;> rfl) | (simp [*, errW_none, errW_some] <;> rfl), by repeat (first | (with_reducible first | exact HB.out | apply below_alloc | apply pw_below_drewN | apply below_drew1) | exact HB.out)⟩
                              ·rw [if_neg c51] at H
                               exact absurd H (by simp)
                             ·replace c50 := Bool.eq_false_iff.mpr c50
                              subst c50
                              have H1 : (butlerlaw11_RecipeFates.l1 k6 l0 t213 t216 x7_23 x8_2 false (wrap64 (x11_6 + 1))) = some r := by rw [if_neg (show ¬ (false = true) by decide)] at H; exact H
                              clear H
                              have H := H1
                              clear H1
                              have H' := Aside0.mk H
                              clear H
                              have p223 : 0 ≤ (x8_2 : Int) := of_decide_eq_true (by first | (with_reducible assumption) | assumption)
                              have q223 : x8_2 < (t213.length : Int) := of_decide_eq_true (by first | (with_reducible assumption) | assumption)
                              obtain ⟨ad223, A223_0, c223_0, e223, hx223_0, hl223_0, hi223_0⟩ := at_L5 (Kd.S_reads' HO_5.out).2.2 x8_2 p223 q223
                              obtain rfl : ad220 = ad223 := (by injection e223)
                              obtain ⟨ce223, hce223, hMe223, hcc223⟩ := Kd.S_get HO_5.out [] x8_2 p223 (by first | exact q223 | exact of_decide_eq_true (by first | (with_reducible assumption) | assumption) | (have e_ := (Kd.S_reads' HO_5.out).1; omega))
                              obtain ⟨ve223_0, rfl, ge223_0⟩ := hMe223
                              have hv223_0 := hcc223 0 _ rfl
                              rw [Nat.add_zero, show ((Kd.slice 4 Kd.bool)).sz = 1 from rfl, Nat.mul_one] at hv223_0
                              replace hv223_0 := Option.some.inj (hv223_0.symm.trans hx223_0)
                              rw [hv223_0] at ge223_0
                              have HL223_0 := Aside0.mk (show Kd.R Kd.bool 4 _ _ _ _ (rd_L5 t213 x8_2) from ge223_0)
                              clear hv223_0 ge223_0
                              clear hcc223 hce223
                              have HR223_0 := Aside0.mk hi223_0
                              have HC223_0 := Aside0.mk hl223_0
                              clear hi223_0 hl223_0
                              replace p223 := eq_true p223
                              replace q223 := eq_true q223
                              have p224 : 0 ≤ (x11_6 : Int) := of_decide_eq_true (by first | (with_reducible assumption) | assumption)
                              have q224 : x11_6 < ((rd_L5 t213 x8_2).length : Int) := of_decide_eq_true (by first | (with_reducible assumption) | assumption)
                              obtain ⟨ad224, e224, hx224_0⟩ := Kd.at_bool (by repeat (first | (with_reducible exact HR223_0.out) | (with_reducible refine Kd.C_alloc ?_ _) | (with_reducible refine Kd.C_drewN ?_ _) | (with_reducible refine Kd.C_drew ?_) | exact HR223_0.out)) x11_6 p224 q224
                              (try rw [← Nbq36.out] at hx224_0)
                              (try rw [← Nbq49.out] at hx224_0)
                              cases e224
                              replace p224 := eq_true p224
                              replace q224 := eq_true q224
                              have p225 : 0 ≤ (x11_6 : Int) := of_decide_eq_true (by first | (with_reducible assumption) | assumption)
                              have q225 : x11_6 < (l0.length : Int) := of_decide_eq_true (by first | (with_reducible assumption) | assumption)
                              obtain ⟨ad225, A225_0, c225_0, e225, hx225_0, hx225_1, hx225_2, hx225_3, hx225_4, hl225_0, hi225_0⟩ := at_T43 HR0.out x11_6 p225 q225
                              cases e225
                              replace hx225_0 := (HB.out.cell (World.block_lt_of_cell? w _ hx225_0)).trans hx225_0
                              replace hx225_1 := (HB.out.cell (World.block_lt_of_cell? w _ hx225_1)).trans hx225_1
                              replace hx225_2 := (HB.out.cell (World.block_lt_of_cell? w _ hx225_2)).trans hx225_2
                              replace hx225_3 := (HB.out.cell (World.block_lt_of_cell? w _ hx225_3)).trans hx225_3
                              replace hx225_4 := (HB.out.cell (World.block_lt_of_cell? w _ hx225_4)).trans hx225_4
                              have HR225_0 := Aside0.mk hi225_0
                              have HC225_0 := Aside0.mk hl225_0
                              clear hi225_0 hl225_0
                              replace p225 := eq_true p225
                              replace q225 := eq_true q225
                              have p232 : 0 ≤ (x11_6 : Int) := of_decide_eq_true (by first | (with_reducible assumption) | assumption)
                              have q232 : x11_6 < (t213.length : Int) := of_decide_eq_true (by first | (with_reducible assumption) | assumption)
                              obtain ⟨ad232, A232_0, c232_0, e232, hx232_0, hl232_0, hi232_0⟩ := at_L5 (Kd.S_reads' HO_5.out).2.2 x11_6 p232 q232
                              obtain rfl : ad220 = ad232 := (by injection e232)
                              obtain ⟨ce232, hce232, hMe232, hcc232⟩ := Kd.S_get HO_5.out [] x11_6 p232 (by first | exact q232 | exact of_decide_eq_true (by first | (with_reducible assumption) | assumption) | (have e_ := (Kd.S_reads' HO_5.out).1; omega))
                              obtain ⟨ve232_0, rfl, ge232_0⟩ := hMe232
                              have hv232_0 := hcc232 0 _ rfl
                              rw [Nat.add_zero, show ((Kd.slice 4 Kd.bool)).sz = 1 from rfl, Nat.mul_one] at hv232_0
                              replace hv232_0 := Option.some.inj (hv232_0.symm.trans hx232_0)
                              rw [hv232_0] at ge232_0
                              have HL232_0 := Aside0.mk (show Kd.R Kd.bool 4 _ _ _ _ (rd_L5 t213 x11_6) from ge232_0)
                              clear hv232_0 ge232_0
                              clear hcc232 hce232
                              have HR232_0 := Aside0.mk hi232_0
                              have HC232_0 := Aside0.mk hl232_0
                              clear hi232_0 hl232_0
                              replace p232 := eq_true p232
                              replace q232 := eq_true q232
                              have p233 : 0 ≤ (x8_2 : Int) := of_decide_eq_true (by first | (with_reducible assumption) | assumption)
                              have q233 : x8_2 < ((rd_L5 t213 x11_6).length : Int) := of_decide_eq_true (by first | (with_reducible assumption) | assumption)
                              obtain ⟨ad233, e233, hx233_0⟩ := Kd.at_bool (by repeat (first | (with_reducible exact HR232_0.out) | (with_reducible refine Kd.C_alloc ?_ _) | (with_reducible refine Kd.C_drewN ?_ _) | (with_reducible refine Kd.C_drew ?_) | exact HR232_0.out)) x8_2 p233 q233
                              (try rw [← Nbq36.out] at hx233_0)
                              (try rw [← Nbq49.out] at hx233_0)
                              cases e233
                              replace p233 := eq_true p233
                              replace q233 := eq_true q233
                              go_wp2
                              repeat (go_quiet (fail); try go_wp2)
                              go_roundg k6
                              case measure => have := HJ3.out; have := HK2.out; have := HJ13.out; have := HJ23.out; have := HJ26.out; have := HK6.out; omega
                              case rel => exact ⟨(false), (wrap64 (x11_6 + 1)), (by first | rfl | (simp; done) | (simp [*]; done)), (by first | rfl | (simp; done) | (simp [*]; done)), H', ⟨by have := HJ3.out; have := HK2.out; have := HJ13.out; have := HJ23.out; have := HJ26.out; have := HK6.out; omega⟩, ⟨by (with_reducible repeat (first | apply Kd.S_alloc | apply Kd.S_drewN | apply Kd.S_drew)); exact HO_5.out⟩, ⟨by (with_reducible repeat (first | apply Kd.R_alloc | apply Kd.R_drewN | apply Kd.R_drew)); exact HO_6.out⟩, ⟨by repeat (first | (with_reducible exact HR220_0.out) | (with_reducible refine Kd.C_alloc ?_ _) | (with_reducible refine Kd.C_drewN ?_ _) | (with_reducible refine Kd.C_drew ?_) | exact HR220_0.out)⟩, ⟨by repeat (first | (with_reducible first | exact HB.out | apply below_alloc | apply pw_below_drewN | apply below_drew1) | exact HB.out)⟩⟩
                            ·rw [if_neg c48] at H
                             exact absurd H (by simp)
                           ·rw [if_neg c47] at H
                            exact absurd H (by simp)
                         ·replace c38 := Bool.eq_false_iff.mpr c38
                          subst c38
                          have H1 : (if x11_6 < (t213.length : Int) then (if x8_2 < ((rd_L5 t213 x11_6).length : Int) then (if rdOf false (rd_L5 t213 x11_6) x8_2 = true then (if x8_2 < (l0.length : Int) then (if ((rd_T43 l0 x8_2).f1) = ((rd_T43 l0 x11_6).f1) then (butlerlaw11_RecipeFates.l1 k6 l0 t213 t216 x7_23 x8_2 false (wrap64 (x11_6 + 1))) else (some false)) else (none)) else (butlerlaw11_RecipeFates.l1 k6 l0 t213 t216 x7_23 x8_2 false (wrap64 (x11_6 + 1)))) else (none)) else (none)) = some r := by rw [if_neg (show ¬ (false = true) by decide)] at H; exact H
                          clear H
                          have H := H1
                          clear H1
                          by_cases c53 : x11_6 < (t213.length : Int)
                          ·rw [if_pos c53] at H
                           have c53b0 : decide (x11_6 < (t213.length : Int)) = true := decide_eq_true c53
                           clear c53
                           by_cases c54 : x8_2 < ((rd_L5 t213 x11_6).length : Int)
                           ·rw [if_pos c54] at H
                            have c54b0 : decide (x8_2 < ((rd_L5 t213 x11_6).length : Int)) = true := decide_eq_true c54
                            clear c54
                            obtain ⟨bq55, hbq55⟩ : ∃ b_ : Bool, b_ = (rdOf false (rd_L5 t213 x11_6) x8_2) := ⟨_, rfl⟩
                            replace H : (if bq55 = true then (if x8_2 < (l0.length : Int) then (if ((rd_T43 l0 x8_2).f1) = ((rd_T43 l0 x11_6).f1) then (butlerlaw11_RecipeFates.l1 k6 l0 t213 t216 x7_23 x8_2 false (wrap64 (x11_6 + 1))) else (some false)) else (none)) else (butlerlaw11_RecipeFates.l1 k6 l0 t213 t216 x7_23 x8_2 false (wrap64 (x11_6 + 1)))) = some r := by rw [← hbq55] at H; exact H
                            have Nbq55 := Aside0.mk hbq55
                            clear hbq55
                            by_cases c56 : bq55 = true
                            ·subst c56
                             have H1 : (if x8_2 < (l0.length : Int) then (if ((rd_T43 l0 x8_2).f1) = ((rd_T43 l0 x11_6).f1) then (butlerlaw11_RecipeFates.l1 k6 l0 t213 t216 x7_23 x8_2 false (wrap64 (x11_6 + 1))) else (some false)) else (none)) = some r := by rw [if_pos rfl] at H; exact H
                             clear H
                             have H := H1
                             clear H1
                             by_cases c57 : x8_2 < (l0.length : Int)
                             ·rw [if_pos c57] at H
                              have c57b0 : decide (x8_2 < (l0.length : Int)) = true := decide_eq_true c57
                              clear c57
                              by_cases c58 : ((rd_T43 l0 x8_2).f1) = ((rd_T43 l0 x11_6).f1)
                              ·rw [if_pos c58] at H
                               have c58b0 : (((rd_T43 l0 x8_2).f1) == ((rd_T43 l0 x11_6).f1)) = true := beq_iff_eq.mpr c58
                               have c58b1 : (((rd_T43 l0 x8_2).f1) != ((rd_T43 l0 x11_6).f1)) = false := bne_eq_false_iff_eq.mpr c58
                               clear c58
                               have H' := Aside0.mk H
                               clear H
                               have p223 : 0 ≤ (x8_2 : Int) := of_decide_eq_true (by first | (with_reducible assumption) | assumption)
                               have q223 : x8_2 < (t213.length : Int) := of_decide_eq_true (by first | (with_reducible assumption) | assumption)
                               obtain ⟨ad223, A223_0, c223_0, e223, hx223_0, hl223_0, hi223_0⟩ := at_L5 (Kd.S_reads' HO_5.out).2.2 x8_2 p223 q223
                               obtain rfl : ad220 = ad223 := (by injection e223)
                               obtain ⟨ce223, hce223, hMe223, hcc223⟩ := Kd.S_get HO_5.out [] x8_2 p223 (by first | exact q223 | exact of_decide_eq_true (by first | (with_reducible assumption) | assumption) | (have e_ := (Kd.S_reads' HO_5.out).1; omega))
                               obtain ⟨ve223_0, rfl, ge223_0⟩ := hMe223
                               have hv223_0 := hcc223 0 _ rfl
                               rw [Nat.add_zero, show ((Kd.slice 4 Kd.bool)).sz = 1 from rfl, Nat.mul_one] at hv223_0
                               replace hv223_0 := Option.some.inj (hv223_0.symm.trans hx223_0)
                               rw [hv223_0] at ge223_0
                               have HL223_0 := Aside0.mk (show Kd.R Kd.bool 4 _ _ _ _ (rd_L5 t213 x8_2) from ge223_0)
                               clear hv223_0 ge223_0
                               clear hcc223 hce223
                               have HR223_0 := Aside0.mk hi223_0
                               have HC223_0 := Aside0.mk hl223_0
                               clear hi223_0 hl223_0
                               replace p223 := eq_true p223
                               replace q223 := eq_true q223
                               have p224 : 0 ≤ (x11_6 : Int) := of_decide_eq_true (by first | (with_reducible assumption) | assumption)
                               have q224 : x11_6 < ((rd_L5 t213 x8_2).length : Int) := of_decide_eq_true (by first | (with_reducible assumption) | assumption)
                               obtain ⟨ad224, e224, hx224_0⟩ := Kd.at_bool (by repeat (first | (with_reducible exact HR223_0.out) | (with_reducible refine Kd.C_alloc ?_ _) | (with_reducible refine Kd.C_drewN ?_ _) | (with_reducible refine Kd.C_drew ?_) | exact HR223_0.out)) x11_6 p224 q224
                               (try rw [← Nbq36.out] at hx224_0)
                               (try rw [← Nbq55.out] at hx224_0)
                               cases e224
                               replace p224 := eq_true p224
                               replace q224 := eq_true q224
                               have p236 : 0 ≤ (x11_6 : Int) := of_decide_eq_true (by first | (with_reducible assumption) | assumption)
                               have q236 : x11_6 < (t213.length : Int) := of_decide_eq_true (by first | (with_reducible assumption) | assumption)
                               obtain ⟨ad236, A236_0, c236_0, e236, hx236_0, hl236_0, hi236_0⟩ := at_L5 (Kd.S_reads' HO_5.out).2.2 x11_6 p236 q236
                               obtain rfl : ad220 = ad236 := (by injection e236)
                               obtain ⟨ce236, hce236, hMe236, hcc236⟩ := Kd.S_get HO_5.out [] x11_6 p236 (by first | exact q236 | exact of_decide_eq_true (by first | (with_reducible assumption) | assumption) | (have e_ := (Kd.S_reads' HO_5.out).1; omega))
                               obtain ⟨ve236_0, rfl, ge236_0⟩ := hMe236
                               have hv236_0 := hcc236 0 _ rfl
                               rw [Nat.add_zero, show ((Kd.slice 4 Kd.bool)).sz = 1 from rfl, Nat.mul_one] at hv236_0
                               replace hv236_0 := Option.some.inj (hv236_0.symm.trans hx236_0)
                               rw [hv236_0] at ge236_0
                               have HL236_0 := Aside0.mk (show Kd.R Kd.bool 4 _ _ _ _ (rd_L5 t213 x11_6) from ge236_0)
                               clear hv236_0 ge236_0
                               clear hcc236 hce236
                               have HR236_0 := Aside0.mk hi236_0
                               have HC236_0 := Aside0.mk hl236_0
                               clear hi236_0 hl236_0
                               replace p236 := eq_true p236
                               replace q236 := eq_true q236
                               have p237 : 0 ≤ (x8_2 : Int) := of_decide_eq_true (by first | (with_reducible assumption) | assumption)
                               have q237 : x8_2 < ((rd_L5 t213 x11_6).length : Int) := of_decide_eq_true (by first | (with_reducible assumption) | assumption)
                               obtain ⟨ad237, e237, hx237_0⟩ := Kd.at_bool (by repeat (first | (with_reducible exact HR236_0.out) | (with_reducible refine Kd.C_alloc ?_ _) | (with_reducible refine Kd.C_drewN ?_ _) | (with_reducible refine Kd.C_drew ?_) | exact HR236_0.out)) x8_2 p237 q237
                               (try rw [← Nbq36.out] at hx237_0)
                               (try rw [← Nbq55.out] at hx237_0)
                               cases e237
                               replace p237 := eq_true p237
                               replace q237 := eq_true q237
                               have p238 : 0 ≤ (x8_2 : Int) := of_decide_eq_true (by first | (with_reducible assumption) | assumption)
                               have q238 : x8_2 < (l0.length : Int) := of_decide_eq_true (by first | (with_reducible assumption) | assumption)
                               obtain ⟨ad238, A238_0, c238_0, e238, hx238_0, hx238_1, hx238_2, hx238_3, hx238_4, hl238_0, hi238_0⟩ := at_T43 HR0.out x8_2 p238 q238
                               cases e238
                               replace hx238_0 := (HB.out.cell (World.block_lt_of_cell? w _ hx238_0)).trans hx238_0
                               replace hx238_1 := (HB.out.cell (World.block_lt_of_cell? w _ hx238_1)).trans hx238_1
                               replace hx238_2 := (HB.out.cell (World.block_lt_of_cell? w _ hx238_2)).trans hx238_2
                               replace hx238_3 := (HB.out.cell (World.block_lt_of_cell? w _ hx238_3)).trans hx238_3
                               replace hx238_4 := (HB.out.cell (World.block_lt_of_cell? w _ hx238_4)).trans hx238_4
                               have HR238_0 := Aside0.mk hi238_0
                               have HC238_0 := Aside0.mk hl238_0
                               clear hi238_0 hl238_0
                               replace p238 := eq_true p238
                               replace q238 := eq_true q238
                               have p239 : 0 ≤ (x11_6 : Int) := of_decide_eq_true (by first | (with_reducible assumption) | assumption)
                               have q239 : x11_6 < (l0.length : Int) := of_decide_eq_true (by first | (with_reducible assumption) | assumption)
                               obtain ⟨ad239, A239_0, c239_0, e239, hx239_0, hx239_1, hx239_2, hx239_3, hx239_4, hl239_0, hi239_0⟩ := at_T43 HR0.out x11_6 p239 q239
                               obtain rfl : ad238 = ad239 := (by injection e239)
                               replace hx239_0 := (HB.out.cell (World.block_lt_of_cell? w _ hx239_0)).trans hx239_0
                               replace hx239_1 := (HB.out.cell (World.block_lt_of_cell? w _ hx239_1)).trans hx239_1
                               replace hx239_2 := (HB.out.cell (World.block_lt_of_cell? w _ hx239_2)).trans hx239_2
                               replace hx239_3 := (HB.out.cell (World.block_lt_of_cell? w _ hx239_3)).trans hx239_3
                               replace hx239_4 := (HB.out.cell (World.block_lt_of_cell? w _ hx239_4)).trans hx239_4
                               have HR239_0 := Aside0.mk hi239_0
                               have HC239_0 := Aside0.mk hl239_0
                               clear hi239_0 hl239_0
                               replace p239 := eq_true p239
                               replace q239 := eq_true q239
                               go_wp2
                               repeat (go_quiet (fail); try go_wp2)
                               go_roundg k6
                               case measure => have := HJ3.out; have := HK2.out; have := HJ13.out; have := HJ23.out; have := HJ26.out; have := HK6.out; omega
                               case rel => exact ⟨(false), (wrap64 (x11_6 + 1)), (by first | rfl | (simp; done) | (simp [*]; done)), (by first | rfl | (simp; done) | (simp [*]; done)), H', ⟨by have := HJ3.out; have := HK2.out; have := HJ13.out; have := HJ23.out; have := HJ26.out; have := HK6.out; omega⟩, ⟨by (with_reducible repeat (first | apply Kd.S_alloc | apply Kd.S_drewN | apply Kd.S_drew)); exact HO_5.out⟩, ⟨by (with_reducible repeat (first | apply Kd.R_alloc | apply Kd.R_drewN | apply Kd.R_drew)); exact HO_6.out⟩, ⟨by repeat (first | (with_reducible exact HR220_0.out) | (with_reducible refine Kd.C_alloc ?_ _) | (with_reducible refine Kd.C_drewN ?_ _) | (with_reducible refine Kd.C_drew ?_) | exact HR220_0.out)⟩, ⟨by repeat (first | (with_reducible first | exact HB.out | apply below_alloc | apply pw_below_drewN | apply below_drew1) | exact HB.out)⟩⟩
                              ·rw [if_neg c58] at H
                               have c58b0 : (((rd_T43 l0 x8_2).f1) == ((rd_T43 l0 x11_6).f1)) = false := beq_eq_false_iff_ne.mpr c58
                               have c58b1 : (((rd_T43 l0 x8_2).f1) != ((rd_T43 l0 x11_6).f1)) = true := bne_iff_ne.mpr c58
                               obtain rfl := Option.some.inj H
                               have p223 : 0 ≤ (x8_2 : Int) := of_decide_eq_true (by first | (with_reducible assumption) | assumption)
                               have q223 : x8_2 < (t213.length : Int) := of_decide_eq_true (by first | (with_reducible assumption) | assumption)
                               obtain ⟨ad223, A223_0, c223_0, e223, hx223_0, hl223_0, hi223_0⟩ := at_L5 (Kd.S_reads' HO_5.out).2.2 x8_2 p223 q223
                               obtain rfl : ad220 = ad223 := (by injection e223)
                               obtain ⟨ce223, hce223, hMe223, hcc223⟩ := Kd.S_get HO_5.out [] x8_2 p223 (by first | exact q223 | exact of_decide_eq_true (by first | (with_reducible assumption) | assumption) | (have e_ := (Kd.S_reads' HO_5.out).1; omega))
                               obtain ⟨ve223_0, rfl, ge223_0⟩ := hMe223
                               have hv223_0 := hcc223 0 _ rfl
                               rw [Nat.add_zero, show ((Kd.slice 4 Kd.bool)).sz = 1 from rfl, Nat.mul_one] at hv223_0
                               replace hv223_0 := Option.some.inj (hv223_0.symm.trans hx223_0)
                               rw [hv223_0] at ge223_0
                               have HL223_0 := Aside0.mk (show Kd.R Kd.bool 4 _ _ _ _ (rd_L5 t213 x8_2) from ge223_0)
                               clear hv223_0 ge223_0
                               clear hcc223 hce223
                               have HR223_0 := Aside0.mk hi223_0
                               have HC223_0 := Aside0.mk hl223_0
                               clear hi223_0 hl223_0
                               replace p223 := eq_true p223
                               replace q223 := eq_true q223
                               have p224 : 0 ≤ (x11_6 : Int) := of_decide_eq_true (by first | (with_reducible assumption) | assumption)
                               have q224 : x11_6 < ((rd_L5 t213 x8_2).length : Int) := of_decide_eq_true (by first | (with_reducible assumption) | assumption)
                               obtain ⟨ad224, e224, hx224_0⟩ := Kd.at_bool (by repeat (first | (with_reducible exact HR223_0.out) | (with_reducible refine Kd.C_alloc ?_ _) | (with_reducible refine Kd.C_drewN ?_ _) | (with_reducible refine Kd.C_drew ?_) | exact HR223_0.out)) x11_6 p224 q224
                               (try rw [← Nbq36.out] at hx224_0)
                               (try rw [← Nbq55.out] at hx224_0)
                               cases e224
                               replace p224 := eq_true p224
                               replace q224 := eq_true q224
                               have p236 : 0 ≤ (x11_6 : Int) := of_decide_eq_true (by first | (with_reducible assumption) | assumption)
                               have q236 : x11_6 < (t213.length : Int) := of_decide_eq_true (by first | (with_reducible assumption) | assumption)
                               obtain ⟨ad236, A236_0, c236_0, e236, hx236_0, hl236_0, hi236_0⟩ := at_L5 (Kd.S_reads' HO_5.out).2.2 x11_6 p236 q236
                               obtain rfl : ad220 = ad236 := (by injection e236)
                               obtain ⟨ce236, hce236, hMe236, hcc236⟩ := Kd.S_get HO_5.out [] x11_6 p236 (by first | exact q236 | exact of_decide_eq_true (by first | (with_reducible assumption) | assumption) | (have e_ := (Kd.S_reads' HO_5.out).1; omega))
                               obtain ⟨ve236_0, rfl, ge236_0⟩ := hMe236
                               have hv236_0 := hcc236 0 _ rfl
                               rw [Nat.add_zero, show ((Kd.slice 4 Kd.bool)).sz = 1 from rfl, Nat.mul_one] at hv236_0
                               replace hv236_0 := Option.some.inj (hv236_0.symm.trans hx236_0)
                               rw [hv236_0] at ge236_0
                               have HL236_0 := Aside0.mk (show Kd.R Kd.bool 4 _ _ _ _ (rd_L5 t213 x11_6) from ge236_0)
                               clear hv236_0 ge236_0
                               clear hcc236 hce236
                               have HR236_0 := Aside0.mk hi236_0
                               have HC236_0 := Aside0.mk hl236_0
                               clear hi236_0 hl236_0
                               replace p236 := eq_true p236
                               replace q236 := eq_true q236
                               have p237 : 0 ≤ (x8_2 : Int) := of_decide_eq_true (by first | (with_reducible assumption) | assumption)
                               have q237 : x8_2 < ((rd_L5 t213 x11_6).length : Int) := of_decide_eq_true (by first | (with_reducible assumption) | assumption)
                               obtain ⟨ad237, e237, hx237_0⟩ := Kd.at_bool (by repeat (first | (with_reducible exact HR236_0.out) | (with_reducible refine Kd.C_alloc ?_ _) | (with_reducible refine Kd.C_drewN ?_ _) | (with_reducible refine Kd.C_drew ?_) | exact HR236_0.out)) x8_2 p237 q237
                               (try rw [← Nbq36.out] at hx237_0)
                               (try rw [← Nbq55.out] at hx237_0)
                               cases e237
                               replace p237 := eq_true p237
                               replace q237 := eq_true q237
                               have p238 : 0 ≤ (x8_2 : Int) := of_decide_eq_true (by first | (with_reducible assumption) | assumption)
                               have q238 : x8_2 < (l0.length : Int) := of_decide_eq_true (by first | (with_reducible assumption) | assumption)
                               obtain ⟨ad238, A238_0, c238_0, e238, hx238_0, hx238_1, hx238_2, hx238_3, hx238_4, hl238_0, hi238_0⟩ := at_T43 HR0.out x8_2 p238 q238
                               cases e238
                               replace hx238_0 := (HB.out.cell (World.block_lt_of_cell? w _ hx238_0)).trans hx238_0
                               replace hx238_1 := (HB.out.cell (World.block_lt_of_cell? w _ hx238_1)).trans hx238_1
                               replace hx238_2 := (HB.out.cell (World.block_lt_of_cell? w _ hx238_2)).trans hx238_2
                               replace hx238_3 := (HB.out.cell (World.block_lt_of_cell? w _ hx238_3)).trans hx238_3
                               replace hx238_4 := (HB.out.cell (World.block_lt_of_cell? w _ hx238_4)).trans hx238_4
                               have HR238_0 := Aside0.mk hi238_0
                               have HC238_0 := Aside0.mk hl238_0
                               clear hi238_0 hl238_0
                               replace p238 := eq_true p238
                               replace q238 := eq_true q238
                               have p239 : 0 ≤ (x11_6 : Int) := of_decide_eq_true (by first | (with_reducible assumption) | assumption)
                               have q239 : x11_6 < (l0.length : Int) := of_decide_eq_true (by first | (with_reducible assumption) | assumption)
                               obtain ⟨ad239, A239_0, c239_0, e239, hx239_0, hx239_1, hx239_2, hx239_3, hx239_4, hl239_0, hi239_0⟩ := at_T43 HR0.out x11_6 p239 q239
                               obtain rfl : ad238 = ad239 := (by injection e239)
                               replace hx239_0 := (HB.out.cell (World.block_lt_of_cell? w _ hx239_0)).trans hx239_0
                               replace hx239_1 := (HB.out.cell (World.block_lt_of_cell? w _ hx239_1)).trans hx239_1
                               replace hx239_2 := (HB.out.cell (World.block_lt_of_cell? w _ hx239_2)).trans hx239_2
                               replace hx239_3 := (HB.out.cell (World.block_lt_of_cell? w _ hx239_3)).trans hx239_3
                               replace hx239_4 := (HB.out.cell (World.block_lt_of_cell? w _ hx239_4)).trans hx239_4
                               have HR239_0 := Aside0.mk hi239_0
                               have HC239_0 := Aside0.mk hl239_0
                               clear hi239_0 hl239_0
                               replace p239 := eq_true p239
                               replace q239 := eq_true q239
                               go_wp2
                               repeat (go_quiet (fail); try go_wp2)
                               go_ret
                               exact ⟨by first | rfl | (simp [errW_none, errW_some] <;> rfl) | (simp [*, errW_none, errW_some] <;> rfl), by repeat (first | (with_reducible first | exact HB.out | apply below_alloc | apply pw_below_drewN | apply below_drew1) | exact HB.out)⟩
                             ·rw [if_neg c57] at H
                              exact absurd H (by simp)
                            ·replace c56 := Bool.eq_false_iff.mpr c56
                             subst c56
                             have H1 : (butlerlaw11_RecipeFates.l1 k6 l0 t213 t216 x7_23 x8_2 false (wrap64 (x11_6 + 1))) = some r := by rw [if_neg (show ¬ (false = true) by decide)] at H; exact H
                             clear H
                             have H := H1
                             clear H1
                             have H' := Aside0.mk H
                             clear H
                             have p223 : 0 ≤ (x8_2 : Int) := of_decide_eq_true (by first | (with_reducible assumption) | assumption)
                             have q223 : x8_2 < (t213.length : Int) := of_decide_eq_true (by first | (with_reducible assumption) | assumption)
                             obtain ⟨ad223, A223_0, c223_0, e223, hx223_0, hl223_0, hi223_0⟩ := at_L5 (Kd.S_reads' HO_5.out).2.2 x8_2 p223 q223
                             obtain rfl : ad220 = ad223 := (by injection e223)
                             obtain ⟨ce223, hce223, hMe223, hcc223⟩ := Kd.S_get HO_5.out [] x8_2 p223 (by first | exact q223 | exact of_decide_eq_true (by first | (with_reducible assumption) | assumption) | (have e_ := (Kd.S_reads' HO_5.out).1; omega))
                             obtain ⟨ve223_0, rfl, ge223_0⟩ := hMe223
                             have hv223_0 := hcc223 0 _ rfl
                             rw [Nat.add_zero, show ((Kd.slice 4 Kd.bool)).sz = 1 from rfl, Nat.mul_one] at hv223_0
                             replace hv223_0 := Option.some.inj (hv223_0.symm.trans hx223_0)
                             rw [hv223_0] at ge223_0
                             have HL223_0 := Aside0.mk (show Kd.R Kd.bool 4 _ _ _ _ (rd_L5 t213 x8_2) from ge223_0)
                             clear hv223_0 ge223_0
                             clear hcc223 hce223
                             have HR223_0 := Aside0.mk hi223_0
                             have HC223_0 := Aside0.mk hl223_0
                             clear hi223_0 hl223_0
                             replace p223 := eq_true p223
                             replace q223 := eq_true q223
                             have p224 : 0 ≤ (x11_6 : Int) := of_decide_eq_true (by first | (with_reducible assumption) | assumption)
                             have q224 : x11_6 < ((rd_L5 t213 x8_2).length : Int) := of_decide_eq_true (by first | (with_reducible assumption) | assumption)
                             obtain ⟨ad224, e224, hx224_0⟩ := Kd.at_bool (by repeat (first | (with_reducible exact HR223_0.out) | (with_reducible refine Kd.C_alloc ?_ _) | (with_reducible refine Kd.C_drewN ?_ _) | (with_reducible refine Kd.C_drew ?_) | exact HR223_0.out)) x11_6 p224 q224
                             (try rw [← Nbq36.out] at hx224_0)
                             (try rw [← Nbq55.out] at hx224_0)
                             cases e224
                             replace p224 := eq_true p224
                             replace q224 := eq_true q224
                             have p236 : 0 ≤ (x11_6 : Int) := of_decide_eq_true (by first | (with_reducible assumption) | assumption)
                             have q236 : x11_6 < (t213.length : Int) := of_decide_eq_true (by first | (with_reducible assumption) | assumption)
                             obtain ⟨ad236, A236_0, c236_0, e236, hx236_0, hl236_0, hi236_0⟩ := at_L5 (Kd.S_reads' HO_5.out).2.2 x11_6 p236 q236
                             obtain rfl : ad220 = ad236 := (by injection e236)
                             obtain ⟨ce236, hce236, hMe236, hcc236⟩ := Kd.S_get HO_5.out [] x11_6 p236 (by first | exact q236 | exact of_decide_eq_true (by first | (with_reducible assumption) | assumption) | (have e_ := (Kd.S_reads' HO_5.out).1; omega))
                             obtain ⟨ve236_0, rfl, ge236_0⟩ := hMe236
                             have hv236_0 := hcc236 0 _ rfl
                             rw [Nat.add_zero, show ((Kd.slice 4 Kd.bool)).sz = 1 from rfl, Nat.mul_one] at hv236_0
                             replace hv236_0 := Option.some.inj (hv236_0.symm.trans hx236_0)
                             rw [hv236_0] at ge236_0
                             have HL236_0 := Aside0.mk (show Kd.R Kd.bool 4 _ _ _ _ (rd_L5 t213 x11_6) from ge236_0)
                             clear hv236_0 ge236_0
                             clear hcc236 hce236
                             have HR236_0 := Aside0.mk hi236_0
                             have HC236_0 := Aside0.mk hl236_0
                             clear hi236_0 hl236_0
                             replace p236 := eq_true p236
                             replace q236 := eq_true q236
                             have p237 : 0 ≤ (x8_2 : Int) := of_decide_eq_true (by first | (with_reducible assumption) | assumption)
                             have q237 : x8_2 < ((rd_L5 t213 x11_6).length : Int) := of_decide_eq_true (by first | (with_reducible assumption) | assumption)
                             obtain ⟨ad237, e237, hx237_0⟩ := Kd.at_bool (by repeat (first | (with_reducible exact HR236_0.out) | (with_reducible refine Kd.C_alloc ?_ _) | (with_reducible refine Kd.C_drewN ?_ _) | (with_reducible refine Kd.C_drew ?_) | exact HR236_0.out)) x8_2 p237 q237
                             (try rw [← Nbq36.out] at hx237_0)
                             (try rw [← Nbq55.out] at hx237_0)
                             cases e237
                             replace p237 := eq_true p237
                             replace q237 := eq_true q237
                             go_wp2
                             repeat (go_quiet (fail); try go_wp2)
                             go_roundg k6
                             case measure => have := HJ3.out; have := HK2.out; have := HJ13.out; have := HJ23.out; have := HJ26.out; have := HK6.out; omega
                             case rel => exact ⟨(false), (wrap64 (x11_6 + 1)), (by first | rfl | (simp; done) | (simp [*]; done)), (by first | rfl | (simp; done) | (simp [*]; done)), H', ⟨by have := HJ3.out; have := HK2.out; have := HJ13.out; have := HJ23.out; have := HJ26.out; have := HK6.out; omega⟩, ⟨by (with_reducible repeat (first | apply Kd.S_alloc | apply Kd.S_drewN | apply Kd.S_drew)); exact HO_5.out⟩, ⟨by (with_reducible repeat (first | apply Kd.R_alloc | apply Kd.R_drewN | apply Kd.R_drew)); exact HO_6.out⟩, ⟨by repeat (first | (with_reducible exact HR220_0.out) | (with_reducible refine Kd.C_alloc ?_ _) | (with_reducible refine Kd.C_drewN ?_ _) | (with_reducible refine Kd.C_drew ?_) | exact HR220_0.out)⟩, ⟨by repeat (first | (with_reducible first | exact HB.out | apply below_alloc | apply pw_below_drewN | apply below_drew1) | exact HB.out)⟩⟩
                           ·rw [if_neg c54] at H
                            exact absurd H (by simp)
                          ·rw [if_neg c53] at H
                           exact absurd H (by simp)
                        ·replace c37 := Bool.eq_false_iff.mpr c37
                         subst c37
                         have H1 : (butlerlaw11_RecipeFates.l1 k6 l0 t213 t216 x7_23 x8_2 x10_6 (wrap64 (x11_6 + 1))) = some r := by rw [if_neg (show ¬ (false = true) by decide)] at H; exact H
                         clear H
                         have H := H1
                         clear H1
                         have H' := Aside0.mk H
                         clear H
                         have p223 : 0 ≤ (x8_2 : Int) := of_decide_eq_true (by first | (with_reducible assumption) | assumption)
                         have q223 : x8_2 < (t213.length : Int) := of_decide_eq_true (by first | (with_reducible assumption) | assumption)
                         obtain ⟨ad223, A223_0, c223_0, e223, hx223_0, hl223_0, hi223_0⟩ := at_L5 (Kd.S_reads' HO_5.out).2.2 x8_2 p223 q223
                         obtain rfl : ad220 = ad223 := (by injection e223)
                         obtain ⟨ce223, hce223, hMe223, hcc223⟩ := Kd.S_get HO_5.out [] x8_2 p223 (by first | exact q223 | exact of_decide_eq_true (by first | (with_reducible assumption) | assumption) | (have e_ := (Kd.S_reads' HO_5.out).1; omega))
                         obtain ⟨ve223_0, rfl, ge223_0⟩ := hMe223
                         have hv223_0 := hcc223 0 _ rfl
                         rw [Nat.add_zero, show ((Kd.slice 4 Kd.bool)).sz = 1 from rfl, Nat.mul_one] at hv223_0
                         replace hv223_0 := Option.some.inj (hv223_0.symm.trans hx223_0)
                         rw [hv223_0] at ge223_0
                         have HL223_0 := Aside0.mk (show Kd.R Kd.bool 4 _ _ _ _ (rd_L5 t213 x8_2) from ge223_0)
                         clear hv223_0 ge223_0
                         clear hcc223 hce223
                         have HR223_0 := Aside0.mk hi223_0
                         have HC223_0 := Aside0.mk hl223_0
                         clear hi223_0 hl223_0
                         replace p223 := eq_true p223
                         replace q223 := eq_true q223
                         have p224 : 0 ≤ (x11_6 : Int) := of_decide_eq_true (by first | (with_reducible assumption) | assumption)
                         have q224 : x11_6 < ((rd_L5 t213 x8_2).length : Int) := of_decide_eq_true (by first | (with_reducible assumption) | assumption)
                         obtain ⟨ad224, e224, hx224_0⟩ := Kd.at_bool (by repeat (first | (with_reducible exact HR223_0.out) | (with_reducible refine Kd.C_alloc ?_ _) | (with_reducible refine Kd.C_drewN ?_ _) | (with_reducible refine Kd.C_drew ?_) | exact HR223_0.out)) x11_6 p224 q224
                         (try rw [← Nbq36.out] at hx224_0)
                         cases e224
                         replace p224 := eq_true p224
                         replace q224 := eq_true q224
                         go_wp2
                         repeat (go_quiet (fail); try go_wp2)
                         go_roundg k6
                         case measure => have := HJ3.out; have := HK2.out; have := HJ13.out; have := HJ23.out; have := HJ26.out; have := HK6.out; omega
                         case rel => exact ⟨(x10_6), (wrap64 (x11_6 + 1)), (by first | rfl | (simp; done) | (simp [*]; done)), (by first | rfl | (simp; done) | (simp [*]; done)), H', ⟨by have := HJ3.out; have := HK2.out; have := HJ13.out; have := HJ23.out; have := HJ26.out; have := HK6.out; omega⟩, ⟨by (with_reducible repeat (first | apply Kd.S_alloc | apply Kd.S_drewN | apply Kd.S_drew)); exact HO_5.out⟩, ⟨by (with_reducible repeat (first | apply Kd.R_alloc | apply Kd.R_drewN | apply Kd.R_drew)); exact HO_6.out⟩, ⟨by repeat (first | (with_reducible exact HR220_0.out) | (with_reducible refine Kd.C_alloc ?_ _) | (with_reducible refine Kd.C_drewN ?_ _) | (with_reducible refine Kd.C_drew ?_) | exact HR220_0.out)⟩, ⟨by repeat (first | (with_reducible first | exact HB.out | apply below_alloc | apply pw_below_drewN | apply below_drew1) | exact HB.out)⟩⟩
                       ·rw [if_neg c35] at H
                        exact absurd H (by simp)
                      ·rw [if_neg c34] at H
                       exact absurd H (by simp)
                     ·rw [if_neg c33] at H
                      exact absurd H (by simp)
                    ·rw [if_neg c32] at H
                     exact absurd H (by simp)
                   ·rw [if_neg c31] at H
                    have c31b0 : decide (x11_6 < (l0.length : Int)) = false := decide_eq_false c31
                    clear c31
                    replace H := Option.bind_eq_some_iff.mp H
                    obtain ⟨⟨t240, t241⟩, A590, H⟩ := H
                    replace H : (if 0 ≤ x8_2 then (if x8_2 < (l0.length : Int) then (butlerlaw11_RecipeFates.l2 k6 l0 t213 t216 x7_23 x8_2 x10_6 t240 t241 ((rd_T43 l0 x8_2).f3) 0) else (none)) else (none)) = some r := H
                    have A59 := Aside0.mk A590
                    clear A590
                    by_cases c60 : 0 ≤ x8_2
                    ·rw [if_pos c60] at H
                     have c60b0 : decide (0 ≤ x8_2) = true := decide_eq_true c60
                     clear c60
                     by_cases c61 : x8_2 < (l0.length : Int)
                     ·rw [if_pos c61] at H
                      have c61b0 : decide (x8_2 < (l0.length : Int)) = true := decide_eq_true c61
                      clear c61
                      have H' := Aside0.mk H
                      clear H
                      go_wp2_with (first | (go_at_call 13; (with_reducible refine (recipe_Fate.calls k6 _ _ l0 x8_2 t240 t241 _ ?side1 ?side2 A59.out).mono ?_); (case side1 => repeat (first | exact (Kd.C_below HR0.out HB.out) | (with_reducible refine Kd.C_alloc ?_ _) | (with_reducible refine Kd.C_drewN ?_ _) | (with_reducible refine Kd.C_drew ?_))); (case side2 => exact HC0.out); rintro e w62 ⟨rfl, hb⟩; have n0_ := Aside0.mk (Kd.S_below (by (with_reducible repeat (first | apply Kd.S_alloc | apply Kd.S_drewN | apply Kd.S_drew)); exact HO_5.out) hb); have n1_ := Aside0.mk (Kd.R_below (by (with_reducible repeat (first | apply Kd.R_alloc | apply Kd.R_drewN | apply Kd.R_drew)); exact HO_6.out) hb); have n2_ := Aside0.mk (Kd.C_below (by repeat (first | (with_reducible exact HR220_0.out) | (with_reducible refine Kd.C_alloc ?_ _) | (with_reducible refine Kd.C_drewN ?_ _) | (with_reducible refine Kd.C_drew ?_) | exact HR220_0.out)) hb); have n3_ := Aside0.mk (below_step (by repeat (first | (with_reducible first | exact HB.out | apply below_alloc | apply pw_below_drewN | apply below_drew1) | exact HB.out)) hb); clear HO_5; clear HO_6; clear HR220_0; clear HB; have HO_5 := n0_; have HO_6 := n1_; have HR220_0 := n2_; have HB := n3_; clear n0_ n1_ n2_ n3_; (try clear hb); (try clear hb2); (try clear hk); (try clear hi); have p242 : 0 ≤ (x8_2 : Int) := of_decide_eq_true (by first | (with_reducible assumption) | assumption); have q242 : x8_2 < (l0.length : Int) := of_decide_eq_true (by first | (with_reducible assumption) | assumption); obtain ⟨ad242, A242_0, c242_0, e242, hx242_0, hx242_1, hx242_2, hx242_3, hx242_4, hl242_0, hi242_0⟩ := at_T43 HR0.out x8_2 p242 q242; cases e242; replace hx242_0 := (HB.out.cell (World.block_lt_of_cell? w _ hx242_0)).trans hx242_0; replace hx242_1 := (HB.out.cell (World.block_lt_of_cell? w _ hx242_1)).trans hx242_1; replace hx242_2 := (HB.out.cell (World.block_lt_of_cell? w _ hx242_2)).trans hx242_2; replace hx242_3 := (HB.out.cell (World.block_lt_of_cell? w _ hx242_3)).trans hx242_3; replace hx242_4 := (HB.out.cell (World.block_lt_of_cell? w _ hx242_4)).trans hx242_4; have HR242_0 := Aside0.mk hi242_0; have HC242_0 := Aside0.mk hl242_0; clear hi242_0 hl242_0; replace p242 := eq_true p242; replace q242 := eq_true q242))
                      repeat (go_quiet (first | (go_at_call 13; (with_reducible refine (recipe_Fate.calls k6 _ _ l0 x8_2 t240 t241 _ ?side1 ?side2 A59.out).mono ?_); (case side1 => repeat (first | exact (Kd.C_below HR0.out HB.out) | (with_reducible refine Kd.C_alloc ?_ _) | (with_reducible refine Kd.C_drewN ?_ _) | (with_reducible refine Kd.C_drew ?_))); (case side2 => exact HC0.out); rintro e w62 ⟨rfl, hb⟩; have n0_ := Aside0.mk (Kd.S_below (by (with_reducible repeat (first | apply Kd.S_alloc | apply Kd.S_drewN | apply Kd.S_drew)); exact HO_5.out) hb); have n1_ := Aside0.mk (Kd.R_below (by (with_reducible repeat (first | apply Kd.R_alloc | apply Kd.R_drewN | apply Kd.R_drew)); exact HO_6.out) hb); have n2_ := Aside0.mk (Kd.C_below (by repeat (first | (with_reducible exact HR220_0.out) | (with_reducible refine Kd.C_alloc ?_ _) | (with_reducible refine Kd.C_drewN ?_ _) | (with_reducible refine Kd.C_drew ?_) | exact HR220_0.out)) hb); have n3_ := Aside0.mk (below_step (by repeat (first | (with_reducible first | exact HB.out | apply below_alloc | apply pw_below_drewN | apply below_drew1) | exact HB.out)) hb); clear HO_5; clear HO_6; clear HR220_0; clear HB; have HO_5 := n0_; have HO_6 := n1_; have HR220_0 := n2_; have HB := n3_; clear n0_ n1_ n2_ n3_; (try clear hb); (try clear hb2); (try clear hk); (try clear hi); have p242 : 0 ≤ (x8_2 : Int) := of_decide_eq_true (by first | (with_reducible assumption) | assumption); have q242 : x8_2 < (l0.length : Int) := of_decide_eq_true (by first | (with_reducible assumption) | assumption); obtain ⟨ad242, A242_0, c242_0, e242, hx242_0, hx242_1, hx242_2, hx242_3, hx242_4, hl242_0, hi242_0⟩ := at_T43 HR0.out x8_2 p242 q242; cases e242; replace hx242_0 := (HB.out.cell (World.block_lt_of_cell? w _ hx242_0)).trans hx242_0; replace hx242_1 := (HB.out.cell (World.block_lt_of_cell? w _ hx242_1)).trans hx242_1; replace hx242_2 := (HB.out.cell (World.block_lt_of_cell? w _ hx242_2)).trans hx242_2; replace hx242_3 := (HB.out.cell (World.block_lt_of_cell? w _ hx242_3)).trans hx242_3; replace hx242_4 := (HB.out.cell (World.block_lt_of_cell? w _ hx242_4)).trans hx242_4; have HR242_0 := Aside0.mk hi242_0; have HC242_0 := Aside0.mk hl242_0; clear hi242_0 hl242_0; replace p242 := eq_true p242; replace q242 := eq_true q242)); try go_wp2_with (first | (go_at_call 13; (with_reducible refine (recipe_Fate.calls k6 _ _ l0 x8_2 t240 t241 _ ?side1 ?side2 A59.out).mono ?_); (case side1 => repeat (first | exact (Kd.C_below HR0.out HB.out) | (with_reducible refine Kd.C_alloc ?_ _) | (with_reducible refine Kd.C_drewN ?_ _) | (with_reducible refine Kd.C_drew ?_))); (case side2 => exact HC0.out); rintro e w62 ⟨rfl, hb⟩; have n0_ := Aside0.mk (Kd.S_below (by (with_reducible repeat (first | apply Kd.S_alloc | apply Kd.S_drewN | apply Kd.S_drew)); exact HO_5.out) hb); have n1_ := Aside0.mk (Kd.R_below (by (with_reducible repeat (first | apply Kd.R_alloc | apply Kd.R_drewN | apply Kd.R_drew)); exact HO_6.out) hb); have n2_ := Aside0.mk (Kd.C_below (by repeat (first | (with_reducible exact HR220_0.out) | (with_reducible refine Kd.C_alloc ?_ _) | (with_reducible refine Kd.C_drewN ?_ _) | (with_reducible refine Kd.C_drew ?_) | exact HR220_0.out)) hb); have n3_ := Aside0.mk (below_step (by repeat (first | (with_reducible first | exact HB.out | apply below_alloc | apply pw_below_drewN | apply below_drew1) | exact HB.out)) hb); clear HO_5; clear HO_6; clear HR220_0; clear HB; have HO_5 := n0_; have HO_6 := n1_; have HR220_0 := n2_; have HB := n3_; clear n0_ n1_ n2_ n3_; (try clear hb); (try clear hb2); (try clear hk); (try clear hi); have p242 : 0 ≤ (x8_2 : Int) := of_decide_eq_true (by first | (with_reducible assumption) | assumption); have q242 : x8_2 < (l0.length : Int) := of_decide_eq_true (by first | (with_reducible assumption) | assumption); obtain ⟨ad242, A242_0, c242_0, e242, hx242_0, hx242_1, hx242_2, hx242_3, hx242_4, hl242_0, hi242_0⟩ := at_T43 HR0.out x8_2 p242 q242; cases e242; replace hx242_0 := (HB.out.cell (World.block_lt_of_cell? w _ hx242_0)).trans hx242_0; replace hx242_1 := (HB.out.cell (World.block_lt_of_cell? w _ hx242_1)).trans hx242_1; replace hx242_2 := (HB.out.cell (World.block_lt_of_cell? w _ hx242_2)).trans hx242_2; replace hx242_3 := (HB.out.cell (World.block_lt_of_cell? w _ hx242_3)).trans hx242_3; replace hx242_4 := (HB.out.cell (World.block_lt_of_cell? w _ hx242_4)).trans hx242_4; have HR242_0 := Aside0.mk hi242_0; have HC242_0 := Aside0.mk hl242_0; clear hi242_0 hl242_0; replace p242 := eq_true p242; replace q242 := eq_true q242)))
                      go_loopg [14, 15] k6 (fun kq v14 v15 w' => ∃ (x14_7 : Int) (x15_7 : Int), v14 = .int .i64 x14_7 ∧ v15 = .int .i64 x15_7 ∧ Aside0 (butlerlaw11_RecipeFates.l2 kq l0 t213 t216 x7_23 x8_2 x10_6 t240 t241 x14_7 x15_7 = some r) ∧ Aside0 (kq ≤ k6) ∧ Aside0 (Kd.S (Kd.slice 4 Kd.bool) 41 w' w.heap.size (fun _ => True) (.slice (some ad220) t213.length co25) t213) ∧ Aside0 (Kd.R (Kd.int .i64) 3 w' w.heap.size (fun _ => True) v217 t216) ∧ Aside0 (Kd.C Kd.bool w' (some ad221) (rd_L5 t213 x8_2).length (rd_L5 t213 x8_2)) ∧ Aside0 (Below w.heap.size w w'))
                      case atStart => exact ⟨((rd_T43 l0 x8_2).f3), (0), (by first | rfl | (simp; done) | (simp [*]; done)), (by first | rfl | (simp; done) | (simp [*]; done)), H', ⟨Nat.le_refl _⟩, ⟨by (with_reducible repeat (first | apply Kd.S_alloc | apply Kd.S_drewN | apply Kd.S_drew)); exact HO_5.out⟩, ⟨by (with_reducible repeat (first | apply Kd.R_alloc | apply Kd.R_drewN | apply Kd.R_drew)); exact HO_6.out⟩, ⟨by repeat (first | (with_reducible exact HR220_0.out) | (with_reducible refine Kd.C_alloc ?_ _) | (with_reducible refine Kd.C_drewN ?_ _) | (with_reducible refine Kd.C_drew ?_) | exact HR220_0.out)⟩, ⟨by repeat (first | (with_reducible first | exact HB.out | apply below_alloc | apply pw_below_drewN | apply below_drew1) | exact HB.out)⟩⟩
                      case round => as_aux_lemma =>
                       clear H'
                       try clear c2
                       try clear p2
                       try clear q2
                       try clear hx2
                       try clear c3
                       try clear q3
                       try clear c4
                       try clear q4
                       try clear c5
                       try clear q5
                       try clear c6
                       try clear p6
                       try clear c22
                       try clear p22
                       try clear q22
                       try clear hx22
                       try clear c23
                       try clear p23
                       try clear q23
                       try clear hx23
                       try clear c24
                       try clear p24
                       try clear q24
                       try clear hx24
                       try clear c31
                       try clear c31b0
                       try clear c32
                       try clear c33
                       try clear c34
                       try clear c35
                       try clear q36
                       try clear c37
                       try clear c38
                       try clear c47
                       try clear c48
                       try clear q49
                       try clear c50
                       try clear c51
                       try clear c52
                       try clear c52b0
                       try clear c52b1
                       try clear c53
                       try clear c53b0
                       try clear c54
                       try clear c54b0
                       try clear q55
                       try clear c56
                       try clear c57
                       try clear c57b0
                       try clear c58
                       try clear c58b0
                       try clear c58b1
                       try clear c60
                       try clear c60b0
                       try clear c61
                       try clear c61b0
                       try clear hx223_0
                       try clear hx224_0
                       try clear hx225_0
                       try clear hx225_1
                       try clear hx225_2
                       try clear hx225_3
                       try clear hx225_4
                       try clear hx232_0
                       try clear hx233_0
                       try clear hx234_0
                       try clear hx234_1
                       try clear hx234_2
                       try clear hx234_3
                       try clear hx234_4
                       try clear hx235_0
                       try clear hx235_1
                       try clear hx235_2
                       try clear hx235_3
                       try clear hx235_4
                       try clear hx236_0
                       try clear hx237_0
                       try clear hx238_0
                       try clear hx238_1
                       try clear hx238_2
                       try clear hx238_3
                       try clear hx238_4
                       try clear hx239_0
                       try clear hx239_1
                       try clear hx239_2
                       try clear hx239_3
                       try clear hx239_4
                       try clear hx242_0
                       try clear hx242_1
                       try clear hx242_2
                       try clear hx242_3
                       try clear hx242_4
                       try clear p223
                       try clear p224
                       try clear p225
                       try clear p232
                       try clear p233
                       try clear p234
                       try clear p235
                       try clear p236
                       try clear p237
                       try clear p238
                       try clear p239
                       try clear p242
                       try clear q223
                       try clear q224
                       try clear q225
                       try clear q232
                       try clear q233
                       try clear q234
                       try clear q235
                       try clear q236
                       try clear q237
                       try clear q238
                       try clear q239
                       try clear q242
                       obtain ⟨x14_7, x15_7, rfl, rfl, HA, HK7, HO_5, HO_6, HR220_0, HB⟩ := hrel
                       cases gk with
                       | zero => exact absurd HA.out (by simp [butlerlaw11_RecipeFates.l2])
                       | succ k7 =>
                        have H := HA.out
                        clear HA
                        simp only [butlerlaw11_RecipeFates.l2] at H
                        by_cases c63 : 0 ≤ x8_2
                        ·rw [if_pos c63] at H
                         have c63b0 : decide (0 ≤ x8_2) = true := decide_eq_true c63
                         clear c63
                         by_cases c64 : x8_2 < (l0.length : Int)
                         ·rw [if_pos c64] at H
                          have c64b0 : decide (x8_2 < (l0.length : Int)) = true := decide_eq_true c64
                          clear c64
                          by_cases c65 : x15_7 < (((rd_T43 l0 x8_2).f0).length : Int)
                          ·rw [if_pos c65] at H
                           have c65b0 : decide (x15_7 < (((rd_T43 l0 x8_2).f0).length : Int)) = true := decide_eq_true c65
                           clear c65
                           by_cases c66 : 0 ≤ x15_7
                           ·rw [if_pos c66] at H
                            have c66b0 : decide (0 ≤ x15_7) = true := decide_eq_true c66
                            clear c66
                            replace H := Option.bind_eq_some_iff.mp H
                            obtain ⟨⟨t246, t247⟩, A670, H⟩ := H
                            replace H : (butlerlaw11_RecipeFates.l2 k7 l0 t213 t216 x7_23 x8_2 x10_6 t240 t241 (wrap64 (x14_7 + t247)) (wrap64 (x15_7 + 1))) = some r := H
                            have A67 := Aside0.mk A670
                            clear A670
                            have H' := Aside0.mk H
                            clear H
                            have p243 : 0 ≤ (x8_2 : Int) := of_decide_eq_true (by first | (with_reducible assumption) | assumption)
                            have q243 : x8_2 < (l0.length : Int) := of_decide_eq_true (by first | (with_reducible assumption) | assumption)
                            obtain ⟨ad243, A243_0, c243_0, e243, hx243_0, hx243_1, hx243_2, hx243_3, hx243_4, hl243_0, hi243_0⟩ := at_T43 HR0.out x8_2 p243 q243
                            obtain rfl : ad242 = ad243 := (by injection e243)
                            replace hx243_0 := (HB.out.cell (World.block_lt_of_cell? w _ hx243_0)).trans hx243_0
                            replace hx243_1 := (HB.out.cell (World.block_lt_of_cell? w _ hx243_1)).trans hx243_1
                            replace hx243_2 := (HB.out.cell (World.block_lt_of_cell? w _ hx243_2)).trans hx243_2
                            replace hx243_3 := (HB.out.cell (World.block_lt_of_cell? w _ hx243_3)).trans hx243_3
                            replace hx243_4 := (HB.out.cell (World.block_lt_of_cell? w _ hx243_4)).trans hx243_4
                            have HR243_0 := Aside0.mk hi243_0
                            have HC243_0 := Aside0.mk hl243_0
                            clear hi243_0 hl243_0
                            replace p243 := eq_true p243
                            replace q243 := eq_true q243
                            have p244 : 0 ≤ (x8_2 : Int) := of_decide_eq_true (by first | (with_reducible assumption) | assumption)
                            have q244 : x8_2 < (l0.length : Int) := of_decide_eq_true (by first | (with_reducible assumption) | assumption)
                            obtain ⟨ad244, A244_0, c244_0, e244, hx244_0, hx244_1, hx244_2, hx244_3, hx244_4, hl244_0, hi244_0⟩ := at_T43 HR0.out x8_2 p244 q244
                            obtain rfl : ad242 = ad244 := (by injection e244)
                            replace hx244_0 := (HB.out.cell (World.block_lt_of_cell? w _ hx244_0)).trans hx244_0
                            replace hx244_1 := (HB.out.cell (World.block_lt_of_cell? w _ hx244_1)).trans hx244_1
                            replace hx244_2 := (HB.out.cell (World.block_lt_of_cell? w _ hx244_2)).trans hx244_2
                            replace hx244_3 := (HB.out.cell (World.block_lt_of_cell? w _ hx244_3)).trans hx244_3
                            replace hx244_4 := (HB.out.cell (World.block_lt_of_cell? w _ hx244_4)).trans hx244_4
                            have HR244_0 := Aside0.mk hi244_0
                            have HC244_0 := Aside0.mk hl244_0
                            clear hi244_0 hl244_0
                            replace p244 := eq_true p244
                            replace q244 := eq_true q244
                            have ea_ := Option.some.inj (hx243_0.symm.trans hx244_0)
                            injection ea_ with ea_ en_ ec_
                            subst ea_
                            subst ec_
                            clear en_
                            have p245 : 0 ≤ (x15_7 : Int) := of_decide_eq_true (by first | (with_reducible assumption) | assumption)
                            have q245 : x15_7 < (((rd_T43 l0 x8_2).f0).length : Int) := of_decide_eq_true (by first | (with_reducible assumption) | assumption)
                            obtain ⟨ad245, e245, hx245_0⟩ := Kd.at_int HR244_0.out x15_7 p245 q245
                            cases e245
                            replace hx245_0 := (HB.out.cell (World.block_lt_of_cell? w _ hx245_0)).trans hx245_0
                            replace p245 := eq_true p245
                            replace q245 := eq_true q245
                            go_wp2_with (first | (go_at_call 13; (with_reducible refine (recipe_Fate.calls k7 _ _ l0 (rd ((rd_T43 l0 x8_2).f0) x15_7) t246 t247 _ ?side1 ?side2 A67.out).mono ?_); (case side1 => repeat (first | exact (Kd.C_below HR0.out HB.out) | (with_reducible refine Kd.C_alloc ?_ _) | (with_reducible refine Kd.C_drewN ?_ _) | (with_reducible refine Kd.C_drew ?_))); (case side2 => exact HC0.out); rintro e w68 ⟨rfl, hb⟩; have n0_ := Aside0.mk (Kd.S_below (by (with_reducible repeat (first | apply Kd.S_alloc | apply Kd.S_drewN | apply Kd.S_drew)); exact HO_5.out) hb); have n1_ := Aside0.mk (Kd.R_below (by (with_reducible repeat (first | apply Kd.R_alloc | apply Kd.R_drewN | apply Kd.R_drew)); exact HO_6.out) hb); have n2_ := Aside0.mk (Kd.C_below (by repeat (first | (with_reducible exact HR220_0.out) | (with_reducible refine Kd.C_alloc ?_ _) | (with_reducible refine Kd.C_drewN ?_ _) | (with_reducible refine Kd.C_drew ?_) | exact HR220_0.out)) hb); have n3_ := Aside0.mk (below_step (by repeat (first | (with_reducible first | exact HB.out | apply below_alloc | apply pw_below_drewN | apply below_drew1) | exact HB.out)) hb); clear HO_5; clear HO_6; clear HR220_0; clear HB; have HO_5 := n0_; have HO_6 := n1_; have HR220_0 := n2_; have HB := n3_; clear n0_ n1_ n2_ n3_; (try clear hb); (try clear hb2); (try clear hk); (try clear hi)))
                            repeat (go_quiet (first | (go_at_call 13; (with_reducible refine (recipe_Fate.calls k7 _ _ l0 (rd ((rd_T43 l0 x8_2).f0) x15_7) t246 t247 _ ?side1 ?side2 A67.out).mono ?_); (case side1 => repeat (first | exact (Kd.C_below HR0.out HB.out) | (with_reducible refine Kd.C_alloc ?_ _) | (with_reducible refine Kd.C_drewN ?_ _) | (with_reducible refine Kd.C_drew ?_))); (case side2 => exact HC0.out); rintro e w68 ⟨rfl, hb⟩; have n0_ := Aside0.mk (Kd.S_below (by (with_reducible repeat (first | apply Kd.S_alloc | apply Kd.S_drewN | apply Kd.S_drew)); exact HO_5.out) hb); have n1_ := Aside0.mk (Kd.R_below (by (with_reducible repeat (first | apply Kd.R_alloc | apply Kd.R_drewN | apply Kd.R_drew)); exact HO_6.out) hb); have n2_ := Aside0.mk (Kd.C_below (by repeat (first | (with_reducible exact HR220_0.out) | (with_reducible refine Kd.C_alloc ?_ _) | (with_reducible refine Kd.C_drewN ?_ _) | (with_reducible refine Kd.C_drew ?_) | exact HR220_0.out)) hb); have n3_ := Aside0.mk (below_step (by repeat (first | (with_reducible first | exact HB.out | apply below_alloc | apply pw_below_drewN | apply below_drew1) | exact HB.out)) hb); clear HO_5; clear HO_6; clear HR220_0; clear HB; have HO_5 := n0_; have HO_6 := n1_; have HR220_0 := n2_; have HB := n3_; clear n0_ n1_ n2_ n3_; (try clear hb); (try clear hb2); (try clear hk); (try clear hi))); try go_wp2_with (first | (go_at_call 13; (with_reducible refine (recipe_Fate.calls k7 _ _ l0 (rd ((rd_T43 l0 x8_2).f0) x15_7) t246 t247 _ ?side1 ?side2 A67.out).mono ?_); (case side1 => repeat (first | exact (Kd.C_below HR0.out HB.out) | (with_reducible refine Kd.C_alloc ?_ _) | (with_reducible refine Kd.C_drewN ?_ _) | (with_reducible refine Kd.C_drew ?_))); (case side2 => exact HC0.out); rintro e w68 ⟨rfl, hb⟩; have n0_ := Aside0.mk (Kd.S_below (by (with_reducible repeat (first | apply Kd.S_alloc | apply Kd.S_drewN | apply Kd.S_drew)); exact HO_5.out) hb); have n1_ := Aside0.mk (Kd.R_below (by (with_reducible repeat (first | apply Kd.R_alloc | apply Kd.R_drewN | apply Kd.R_drew)); exact HO_6.out) hb); have n2_ := Aside0.mk (Kd.C_below (by repeat (first | (with_reducible exact HR220_0.out) | (with_reducible refine Kd.C_alloc ?_ _) | (with_reducible refine Kd.C_drewN ?_ _) | (with_reducible refine Kd.C_drew ?_) | exact HR220_0.out)) hb); have n3_ := Aside0.mk (below_step (by repeat (first | (with_reducible first | exact HB.out | apply below_alloc | apply pw_below_drewN | apply below_drew1) | exact HB.out)) hb); clear HO_5; clear HO_6; clear HR220_0; clear HB; have HO_5 := n0_; have HO_6 := n1_; have HR220_0 := n2_; have HB := n3_; clear n0_ n1_ n2_ n3_; (try clear hb); (try clear hb2); (try clear hk); (try clear hi))))
                            go_roundg k7
                            case measure => have := HJ3.out; have := HK2.out; have := HJ13.out; have := HJ23.out; have := HJ26.out; have := HK6.out; have := HK7.out; omega
                            case rel => exact ⟨(wrap64 (x14_7 + t247)), (wrap64 (x15_7 + 1)), (by first | rfl | (simp; done) | (simp [*]; done)), (by first | rfl | (simp; done) | (simp [*]; done)), H', ⟨by have := HJ3.out; have := HK2.out; have := HJ13.out; have := HJ23.out; have := HJ26.out; have := HK6.out; have := HK7.out; omega⟩, ⟨by (with_reducible repeat (first | apply Kd.S_alloc | apply Kd.S_drewN | apply Kd.S_drew)); exact HO_5.out⟩, ⟨by (with_reducible repeat (first | apply Kd.R_alloc | apply Kd.R_drewN | apply Kd.R_drew)); exact HO_6.out⟩, ⟨by repeat (first | (with_reducible exact HR220_0.out) | (with_reducible refine Kd.C_alloc ?_ _) | (with_reducible refine Kd.C_drewN ?_ _) | (with_reducible refine Kd.C_drew ?_) | exact HR220_0.out)⟩, ⟨by repeat (first | (with_reducible first | exact HB.out | apply below_alloc | apply pw_below_drewN | apply below_drew1) | exact HB.out)⟩⟩
                           ·rw [if_neg c66] at H
                            exact absurd H (by simp)
                          ·rw [if_neg c65] at H
                           have c65b0 : decide (x15_7 < (((rd_T43 l0 x8_2).f0).length : Int)) = false := decide_eq_false c65
                           clear c65
                           by_cases c69 : (t240 != x10_6) = true
                           ·rw [if_pos c69] at H
                            have c69b0 : (t240 != x10_6) = true := c69
                            (try (have c69b1 : decide (t240 = x10_6) = false := by simpa using c69))
                            (try (have c69b2 : (t240 == x10_6) = false := by simpa using c69))
                            (try (have c69b3 : ¬ (t240 = x10_6) := by simpa using c69))
                            clear c69
                            obtain rfl := Option.some.inj H
                            have p243 : 0 ≤ (x8_2 : Int) := of_decide_eq_true (by first | (with_reducible assumption) | assumption)
                            have q243 : x8_2 < (l0.length : Int) := of_decide_eq_true (by first | (with_reducible assumption) | assumption)
                            obtain ⟨ad243, A243_0, c243_0, e243, hx243_0, hx243_1, hx243_2, hx243_3, hx243_4, hl243_0, hi243_0⟩ := at_T43 HR0.out x8_2 p243 q243
                            obtain rfl : ad242 = ad243 := (by injection e243)
                            replace hx243_0 := (HB.out.cell (World.block_lt_of_cell? w _ hx243_0)).trans hx243_0
                            replace hx243_1 := (HB.out.cell (World.block_lt_of_cell? w _ hx243_1)).trans hx243_1
                            replace hx243_2 := (HB.out.cell (World.block_lt_of_cell? w _ hx243_2)).trans hx243_2
                            replace hx243_3 := (HB.out.cell (World.block_lt_of_cell? w _ hx243_3)).trans hx243_3
                            replace hx243_4 := (HB.out.cell (World.block_lt_of_cell? w _ hx243_4)).trans hx243_4
                            have HR243_0 := Aside0.mk hi243_0
                            have HC243_0 := Aside0.mk hl243_0
                            clear hi243_0 hl243_0
                            replace p243 := eq_true p243
                            replace q243 := eq_true q243
                            go_wp2
                            repeat (go_quiet (fail); try go_wp2)
                            go_ret
                            exact ⟨by first | rfl | (simp [errW_none, errW_some] <;> rfl) | (simp [*, errW_none, errW_some] <;> rfl), by repeat (first | (with_reducible first | exact HB.out | apply below_alloc | apply pw_below_drewN | apply below_drew1) | exact HB.out)⟩
                           ·rw [if_neg c69] at H
                            have c69b0 : (t240 != x10_6) = false := by simpa using c69
                            (try (have c69b1 : decide (t240 = x10_6) = true := by simpa using c69))
                            (try (have c69b2 : (t240 == x10_6) = true := by simpa using c69))
                            clear c69
                            by_cases c70 : t240 = true
                            ·subst c70
                             have H1 : (if t241 < 0 then (some false) else (if t241 > 1000002 then (some false) else (if (Int.tmod (wrap64 (x14_7 - t241)) 1000003) = 0 then (butlerlaw11_RecipeFates.l0 k7 l0 t213 t216 x7_23 (wrap64 (x8_2 + 1))) else (some false)))) = some r := by rw [if_pos rfl] at H; exact H
                             clear H
                             have H := H1
                             clear H1
                             by_cases c71 : t241 < 0
                             ·rw [if_pos c71] at H
                              have c71b0 : decide (t241 < 0) = true := decide_eq_true c71
                              clear c71
                              obtain rfl := Option.some.inj H
                              have p243 : 0 ≤ (x8_2 : Int) := of_decide_eq_true (by first | (with_reducible assumption) | assumption)
                              have q243 : x8_2 < (l0.length : Int) := of_decide_eq_true (by first | (with_reducible assumption) | assumption)
                              obtain ⟨ad243, A243_0, c243_0, e243, hx243_0, hx243_1, hx243_2, hx243_3, hx243_4, hl243_0, hi243_0⟩ := at_T43 HR0.out x8_2 p243 q243
                              obtain rfl : ad242 = ad243 := (by injection e243)
                              replace hx243_0 := (HB.out.cell (World.block_lt_of_cell? w _ hx243_0)).trans hx243_0
                              replace hx243_1 := (HB.out.cell (World.block_lt_of_cell? w _ hx243_1)).trans hx243_1
                              replace hx243_2 := (HB.out.cell (World.block_lt_of_cell? w _ hx243_2)).trans hx243_2
                              replace hx243_3 := (HB.out.cell (World.block_lt_of_cell? w _ hx243_3)).trans hx243_3
                              replace hx243_4 := (HB.out.cell (World.block_lt_of_cell? w _ hx243_4)).trans hx243_4
                              have HR243_0 := Aside0.mk hi243_0
                              have HC243_0 := Aside0.mk hl243_0
                              clear hi243_0 hl243_0
                              replace p243 := eq_true p243
                              replace q243 := eq_true q243
                              go_wp2
                              repeat (go_quiet (fail); try go_wp2)
                              go_ret
                              exact ⟨by first | rfl | (simp [errW_none, errW_some] <;> rfl) | (simp [*, errW_none, errW_some] <;> rfl), by repeat (first | (with_reducible first | exact HB.out | apply below_alloc | apply pw_below_drewN | apply below_drew1) | exact HB.out)⟩
                             ·rw [if_neg c71] at H
                              have c71b0 : decide (t241 < 0) = false := decide_eq_false c71
                              clear c71
                              by_cases c72 : t241 > 1000002
                              ·rw [if_pos c72] at H
                               have c72b0 : decide (1000002 < t241) = true := decide_eq_true c72
                               clear c72
                               obtain rfl := Option.some.inj H
                               have p243 : 0 ≤ (x8_2 : Int) := of_decide_eq_true (by first | (with_reducible assumption) | assumption)
                               have q243 : x8_2 < (l0.length : Int) := of_decide_eq_true (by first | (with_reducible assumption) | assumption)
                               obtain ⟨ad243, A243_0, c243_0, e243, hx243_0, hx243_1, hx243_2, hx243_3, hx243_4, hl243_0, hi243_0⟩ := at_T43 HR0.out x8_2 p243 q243
                               obtain rfl : ad242 = ad243 := (by injection e243)
                               replace hx243_0 := (HB.out.cell (World.block_lt_of_cell? w _ hx243_0)).trans hx243_0
                               replace hx243_1 := (HB.out.cell (World.block_lt_of_cell? w _ hx243_1)).trans hx243_1
                               replace hx243_2 := (HB.out.cell (World.block_lt_of_cell? w _ hx243_2)).trans hx243_2
                               replace hx243_3 := (HB.out.cell (World.block_lt_of_cell? w _ hx243_3)).trans hx243_3
                               replace hx243_4 := (HB.out.cell (World.block_lt_of_cell? w _ hx243_4)).trans hx243_4
                               have HR243_0 := Aside0.mk hi243_0
                               have HC243_0 := Aside0.mk hl243_0
                               clear hi243_0 hl243_0
                               replace p243 := eq_true p243
                               replace q243 := eq_true q243
                               go_wp2
                               repeat (go_quiet (fail); try go_wp2)
                               go_ret
                               exact ⟨by first | rfl | (simp [errW_none, errW_some] <;> rfl) | (simp [*, errW_none, errW_some] <;> rfl), by repeat (first | (with_reducible first | exact HB.out | apply below_alloc | apply pw_below_drewN | apply below_drew1) | exact HB.out)⟩
                              ·rw [if_neg c72] at H
                               have c72b0 : decide (1000002 < t241) = false := decide_eq_false c72
                               clear c72
                               by_cases c73 : (Int.tmod (wrap64 (x14_7 - t241)) 1000003) = 0
                               ·rw [if_pos c73] at H
                                have c73b0 : ((Int.tmod (wrap64 (x14_7 - t241)) 1000003) == 0) = true := beq_iff_eq.mpr c73
                                have c73b1 : ((Int.tmod (wrap64 (x14_7 - t241)) 1000003) != 0) = false := bne_eq_false_iff_eq.mpr c73
                                clear c73
                                have H' := Aside0.mk H
                                clear H
                                have p243 : 0 ≤ (x8_2 : Int) := of_decide_eq_true (by first | (with_reducible assumption) | assumption)
                                have q243 : x8_2 < (l0.length : Int) := of_decide_eq_true (by first | (with_reducible assumption) | assumption)
                                obtain ⟨ad243, A243_0, c243_0, e243, hx243_0, hx243_1, hx243_2, hx243_3, hx243_4, hl243_0, hi243_0⟩ := at_T43 HR0.out x8_2 p243 q243
                                obtain rfl : ad242 = ad243 := (by injection e243)
                                replace hx243_0 := (HB.out.cell (World.block_lt_of_cell? w _ hx243_0)).trans hx243_0
                                replace hx243_1 := (HB.out.cell (World.block_lt_of_cell? w _ hx243_1)).trans hx243_1
                                replace hx243_2 := (HB.out.cell (World.block_lt_of_cell? w _ hx243_2)).trans hx243_2
                                replace hx243_3 := (HB.out.cell (World.block_lt_of_cell? w _ hx243_3)).trans hx243_3
                                replace hx243_4 := (HB.out.cell (World.block_lt_of_cell? w _ hx243_4)).trans hx243_4
                                have HR243_0 := Aside0.mk hi243_0
                                have HC243_0 := Aside0.mk hl243_0
                                clear hi243_0 hl243_0
                                replace p243 := eq_true p243
                                replace q243 := eq_true q243
                                go_wp2
                                repeat (go_quiet (fail); try go_wp2)
                                go_roundg k7
                                case measure => have := HJ3.out; have := HK2.out; have := HJ13.out; have := HJ23.out; have := HJ26.out; have := HK6.out; have := HK7.out; omega
                                case rel => exact ⟨(x7_23), (wrap64 (x8_2 + 1)), (by first | rfl | (simp; done) | (simp [*]; done)), (by first | rfl | (simp; done) | (simp [*]; done)), H', ⟨by have := HJ3.out; have := HK2.out; have := HJ13.out; have := HJ23.out; have := HJ26.out; have := HK6.out; have := HK7.out; omega⟩, ⟨by (with_reducible repeat (first | apply Kd.S_alloc | apply Kd.S_drewN | apply Kd.S_drew)); exact HO_5.out⟩, ⟨by (with_reducible repeat (first | apply Kd.R_alloc | apply Kd.R_drewN | apply Kd.R_drew)); exact HO_6.out⟩, ⟨by repeat (first | (with_reducible first | exact HB.out | apply below_alloc | apply pw_below_drewN | apply below_drew1) | exact HB.out)⟩⟩
                               ·rw [if_neg c73] at H
                                have c73b0 : ((Int.tmod (wrap64 (x14_7 - t241)) 1000003) == 0) = false := beq_eq_false_iff_ne.mpr c73
                                have c73b1 : ((Int.tmod (wrap64 (x14_7 - t241)) 1000003) != 0) = true := bne_iff_ne.mpr c73
                                obtain rfl := Option.some.inj H
                                have p243 : 0 ≤ (x8_2 : Int) := of_decide_eq_true (by first | (with_reducible assumption) | assumption)
                                have q243 : x8_2 < (l0.length : Int) := of_decide_eq_true (by first | (with_reducible assumption) | assumption)
                                obtain ⟨ad243, A243_0, c243_0, e243, hx243_0, hx243_1, hx243_2, hx243_3, hx243_4, hl243_0, hi243_0⟩ := at_T43 HR0.out x8_2 p243 q243
                                obtain rfl : ad242 = ad243 := (by injection e243)
                                replace hx243_0 := (HB.out.cell (World.block_lt_of_cell? w _ hx243_0)).trans hx243_0
                                replace hx243_1 := (HB.out.cell (World.block_lt_of_cell? w _ hx243_1)).trans hx243_1
                                replace hx243_2 := (HB.out.cell (World.block_lt_of_cell? w _ hx243_2)).trans hx243_2
                                replace hx243_3 := (HB.out.cell (World.block_lt_of_cell? w _ hx243_3)).trans hx243_3
                                replace hx243_4 := (HB.out.cell (World.block_lt_of_cell? w _ hx243_4)).trans hx243_4
                                have HR243_0 := Aside0.mk hi243_0
                                have HC243_0 := Aside0.mk hl243_0
                                clear hi243_0 hl243_0
                                replace p243 := eq_true p243
                                replace q243 := eq_true q243
                                go_wp2
                                repeat (go_quiet (fail); try go_wp2)
                                go_ret
                                exact ⟨by first | rfl | (simp [errW_none, errW_some] <;> rfl) | (simp [*, errW_none, errW_some] <;> rfl), by repeat (first | (with_reducible first | exact HB.out | apply below_alloc | apply pw_below_drewN | apply below_drew1) | exact HB.out)⟩
                            ·replace c70 := Bool.eq_false_iff.mpr c70
                             subst c70
                             have H1 : (if t241 = 0 then (butlerlaw11_RecipeFates.l0 k7 l0 t213 t216 x7_23 (wrap64 (x8_2 + 1))) else (some false)) = some r := by rw [if_neg (show ¬ (false = true) by decide)] at H; exact H
                             clear H
                             have H := H1
                             clear H1
                             by_cases c74 : t241 = 0
                             ·rw [if_pos c74] at H
                              have c74b0 : (t241 == 0) = true := beq_iff_eq.mpr c74
                              have c74b1 : (t241 != 0) = false := bne_eq_false_iff_eq.mpr c74
                              clear c74
                              have H' := Aside0.mk H
                              clear H
                              have p243 : 0 ≤ (x8_2 : Int) := of_decide_eq_true (by first | (with_reducible assumption) | assumption)
                              have q243 : x8_2 < (l0.length : Int) := of_decide_eq_true (by first | (with_reducible assumption) | assumption)
                              obtain ⟨ad243, A243_0, c243_0, e243, hx243_0, hx243_1, hx243_2, hx243_3, hx243_4, hl243_0, hi243_0⟩ := at_T43 HR0.out x8_2 p243 q243
                              obtain rfl : ad242 = ad243 := (by injection e243)
                              replace hx243_0 := (HB.out.cell (World.block_lt_of_cell? w _ hx243_0)).trans hx243_0
                              replace hx243_1 := (HB.out.cell (World.block_lt_of_cell? w _ hx243_1)).trans hx243_1
                              replace hx243_2 := (HB.out.cell (World.block_lt_of_cell? w _ hx243_2)).trans hx243_2
                              replace hx243_3 := (HB.out.cell (World.block_lt_of_cell? w _ hx243_3)).trans hx243_3
                              replace hx243_4 := (HB.out.cell (World.block_lt_of_cell? w _ hx243_4)).trans hx243_4
                              have HR243_0 := Aside0.mk hi243_0
                              have HC243_0 := Aside0.mk hl243_0
                              clear hi243_0 hl243_0
                              replace p243 := eq_true p243
                              replace q243 := eq_true q243
                              go_wp2
                              repeat (go_quiet (fail); try go_wp2)
                              go_roundg k7
                              case measure => have := HJ3.out; have := HK2.out; have := HJ13.out; have := HJ23.out; have := HJ26.out; have := HK6.out; have := HK7.out; omega
                              case rel => exact ⟨(x7_23), (wrap64 (x8_2 + 1)), (by first | rfl | (simp; done) | (simp [*]; done)), (by first | rfl | (simp; done) | (simp [*]; done)), H', ⟨by have := HJ3.out; have := HK2.out; have := HJ13.out; have := HJ23.out; have := HJ26.out; have := HK6.out; have := HK7.out; omega⟩, ⟨by (with_reducible repeat (first | apply Kd.S_alloc | apply Kd.S_drewN | apply Kd.S_drew)); exact HO_5.out⟩, ⟨by (with_reducible repeat (first | apply Kd.R_alloc | apply Kd.R_drewN | apply Kd.R_drew)); exact HO_6.out⟩, ⟨by repeat (first | (with_reducible first | exact HB.out | apply below_alloc | apply pw_below_drewN | apply below_drew1) | exact HB.out)⟩⟩
                             ·rw [if_neg c74] at H
                              have c74b0 : (t241 == 0) = false := beq_eq_false_iff_ne.mpr c74
                              have c74b1 : (t241 != 0) = true := bne_iff_ne.mpr c74
                              obtain rfl := Option.some.inj H
                              have p243 : 0 ≤ (x8_2 : Int) := of_decide_eq_true (by first | (with_reducible assumption) | assumption)
                              have q243 : x8_2 < (l0.length : Int) := of_decide_eq_true (by first | (with_reducible assumption) | assumption)
                              obtain ⟨ad243, A243_0, c243_0, e243, hx243_0, hx243_1, hx243_2, hx243_3, hx243_4, hl243_0, hi243_0⟩ := at_T43 HR0.out x8_2 p243 q243
                              obtain rfl : ad242 = ad243 := (by injection e243)
                              replace hx243_0 := (HB.out.cell (World.block_lt_of_cell? w _ hx243_0)).trans hx243_0
                              replace hx243_1 := (HB.out.cell (World.block_lt_of_cell? w _ hx243_1)).trans hx243_1
                              replace hx243_2 := (HB.out.cell (World.block_lt_of_cell? w _ hx243_2)).trans hx243_2
                              replace hx243_3 := (HB.out.cell (World.block_lt_of_cell? w _ hx243_3)).trans hx243_3
                              replace hx243_4 := (HB.out.cell (World.block_lt_of_cell? w _ hx243_4)).trans hx243_4
                              have HR243_0 := Aside0.mk hi243_0
                              have HC243_0 := Aside0.mk hl243_0
                              clear hi243_0 hl243_0
                              replace p243 := eq_true p243
                              replace q243 := eq_true q243
                              go_wp2
                              repeat (go_quiet (fail); try go_wp2)
                              go_ret
                              exact ⟨by first | rfl | (simp [errW_none, errW_some] <;> rfl) | (simp [*, errW_none, errW_some] <;> rfl), by repeat (first | (with_reducible first | exact HB.out | apply below_alloc | apply pw_below_drewN | apply below_drew1) | exact HB.out)⟩
                         ·rw [if_neg c64] at H
                          exact absurd H (by simp)
                        ·rw [if_neg c63] at H
                         exact absurd H (by simp)
                     ·rw [if_neg c61] at H
                      exact absurd H (by simp)
                    ·rw [if_neg c60] at H
                     exact absurd H (by simp)
           ·rw [if_neg c21] at H
            exact absurd H (by simp)
          ·rw [if_neg c20] at H
           exact absurd H (by simp)
         ·rw [if_neg c19] at H
          exact absurd H (by simp)
      ·rw [if_neg c13] at H
       have c13b0 : decide (x8_2 < (l0.length : Int)) = false := decide_eq_false c13
       clear c13
       obtain rfl := Option.some.inj H
       obtain ⟨Ao75, co75, eo75⟩ := Kd.R_slice HO_6.out
       subst eo75
       go_wp2
       repeat (go_quiet (fail); try go_wp2)
       go_ret
       exact ⟨by first | rfl | (simp [errW_none, errW_some] <;> rfl) | (simp [*, errW_none, errW_some] <;> rfl), by repeat (first | (with_reducible first | exact HB.out | apply below_alloc | apply pw_below_drewN | apply below_drew1) | exact HB.out)⟩

end
end Go.Proofs.Ytgahkloigbhgdaa.PR
