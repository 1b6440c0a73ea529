import Derived.Test.YtgahkloigbhgdaaRq
import Derived.Test.YtgahkloigbhgdaaPRx0
import Derived.Test.YtgahkloigbhgdaaPRx2
import Derived.Test.YtgahkloigbhgdaaPRx3
import Derived.Test.YtgahkloigbhgdaaPRx5
import Derived.Test.YtgahkloigbhgdaaPRx6
import Derived.Test.YtgahkloigbhgdaaPRx8
import Derived.Test.YtgahkloigbhgdaaPRy9
namespace Go.Proofs.Ytgahkloigbhgdaa.PR
open Go.RowKit Go.Proofs.YtgahkloigbhgdaaW.PrintWords Go.Proofs.YtgahkloigbhgdaaW.PrintLast Go.Proofs.YtgahkloigbhgdaaW.PrintMore
noncomputable section
attribute [local go_sem] max2_int min2_int max_two min_two max_three min_three max_four min_four   -- for this text's walks alone
set_option linter.unusedVariables false
set_option linter.unusedSimpArgs false

set_option maxHeartbeats 8000000 in
set_option maxRecDepth 100000 in
theorem butlerlaw11_RecipeOrders.calls (k : Nat) (A0 : Option Addr) (c0 : Nat) (l0 : List (S43)) (A1 : Option Addr) (c1 : Nat) (l1 : List Int) (a2 : Int) (r : Bool) (w : World) (hr0 : Kd.C k43 w A0 l0.length l0) (hc0 : l0.length ≤ c0) (hr1 : Kd.C (Kd.int .i64) w A1 l1.length l1) (hc1 : l1.length ≤ c1) (h : butlerlaw11_RecipeOrders.f k l0 l1 a2 = some r) :
  Calls Try.prog 6 #[.slice A0 l0.length c0, .slice A1 l1.length c1, .int .i64 a2] w fun e w' => e = .returned (.bool r) ∧ Below w.heap.size w w' := by
 have HR0 := Aside0.mk hr0
 have HC0 := Aside0.mk hc0
 clear hr0 hc0
 have HR1 := Aside0.mk hr1
 have HC1 := Aside0.mk hc1
 clear hr1 hc1
 have HB := Aside0.mk (Below.refl w.heap.size w)
 have H : ((butlerlaw11_awake.f k).bind fun t273 => ((butlerref11_Right.f k l0).bind fun t274 => (if t273 = true then (if t274 = 0 then (butlerlaw11_RecipeOrders.j0 k l0 l1 a2 t273 (decide ((l1.length : Int) > 300))) else (butlerlaw11_RecipeOrders.j0 k l0 l1 a2 t273 true)) else (butlerlaw11_RecipeOrders.j0 k l0 l1 a2 t273 true)))) = some r := h
 clear h
 replace H := Option.bind_eq_some_iff.mp H
 obtain ⟨t273, A40, H⟩ := H
 replace H : ((butlerref11_Right.f k l0).bind fun t274 => (if t273 = true then (if t274 = 0 then (butlerlaw11_RecipeOrders.j0 k l0 l1 a2 t273 (decide ((l1.length : Int) > 300))) else (butlerlaw11_RecipeOrders.j0 k l0 l1 a2 t273 true)) else (butlerlaw11_RecipeOrders.j0 k l0 l1 a2 t273 true))) = some r := H
 have A4 := Aside0.mk A40
 clear A40
 replace H := Option.bind_eq_some_iff.mp H
 obtain ⟨t274, A50, H⟩ := H
 replace H : (if t273 = true then (if t274 = 0 then (butlerlaw11_RecipeOrders.j0 k l0 l1 a2 t273 (decide ((l1.length : Int) > 300))) else (butlerlaw11_RecipeOrders.j0 k l0 l1 a2 t273 true)) else (butlerlaw11_RecipeOrders.j0 k l0 l1 a2 t273 true)) = some r := H
 have A5 := Aside0.mk A50
 clear A50
 have HC6 := Aside0.mk H
 clear H
 go_enter Try.func6, Try.ntmps6
 go_upto_region 3 with (first | (go_at_call 8; (with_reducible refine (butlerlaw11_awake.calls k  t273 _ A4.out).mono ?_); rintro e w7 ⟨rfl, hb⟩; have n0_ := Aside0.mk (below_step (by repeat (first | (with_reducible first | exact HB.out | apply below_alloc | apply pw_below_drewN | apply below_drew1) | exact HB.out)) hb); clear HB; have HB := n0_; clear n0_; (try clear hb); (try clear hb2); (try clear hk); (try clear hi)) | (go_at_call 18; (with_reducible refine (butlerref11_Right.calls k _ _ l0 t274 _ ?side1 ?side2 A5.out).mono ?_); (case side1 => repeat (first | exact (Kd.C_below HR0.out HB.out) | (with_reducible refine Kd.C_alloc ?_ _) | (with_reducible refine Kd.C_drewN ?_ _) | (with_reducible refine Kd.C_drew ?_))); (case side2 => exact HC0.out); rintro e w8 ⟨rfl, hb⟩; have n0_ := Aside0.mk (below_step (by repeat (first | (with_reducible first | exact HB.out | apply below_alloc | apply pw_below_drewN | apply below_drew1) | exact HB.out)) hb); clear HB; have HB := n0_; clear n0_; (try clear hb); (try clear hb2); (try clear hk); (try clear hi)))
 repeat (go_quiet (first | (go_at_call 8; (with_reducible refine (butlerlaw11_awake.calls k  t273 _ A4.out).mono ?_); rintro e w7 ⟨rfl, hb⟩; have n0_ := Aside0.mk (below_step (by repeat (first | (with_reducible first | exact HB.out | apply below_alloc | apply pw_below_drewN | apply below_drew1) | exact HB.out)) hb); clear HB; have HB := n0_; clear n0_; (try clear hb); (try clear hb2); (try clear hk); (try clear hi)) | (go_at_call 18; (with_reducible refine (butlerref11_Right.calls k _ _ l0 t274 _ ?side1 ?side2 A5.out).mono ?_); (case side1 => repeat (first | exact (Kd.C_below HR0.out HB.out) | (with_reducible refine Kd.C_alloc ?_ _) | (with_reducible refine Kd.C_drewN ?_ _) | (with_reducible refine Kd.C_drew ?_))); (case side2 => exact HC0.out); rintro e w8 ⟨rfl, hb⟩; have n0_ := Aside0.mk (below_step (by repeat (first | (with_reducible first | exact HB.out | apply below_alloc | apply pw_below_drewN | apply below_drew1) | exact HB.out)) hb); clear HB; have HB := n0_; clear n0_; (try clear hb); (try clear hb2); (try clear hk); (try clear hi))); go_upto_region 3 with (first | (go_at_call 8; (with_reducible refine (butlerlaw11_awake.calls k  t273 _ A4.out).mono ?_); rintro e w7 ⟨rfl, hb⟩; have n0_ := Aside0.mk (below_step (by repeat (first | (with_reducible first | exact HB.out | apply below_alloc | apply pw_below_drewN | apply below_drew1) | exact HB.out)) hb); clear HB; have HB := n0_; clear n0_; (try clear hb); (try clear hb2); (try clear hk); (try clear hi)) | (go_at_call 18; (with_reducible refine (butlerref11_Right.calls k _ _ l0 t274 _ ?side1 ?side2 A5.out).mono ?_); (case side1 => repeat (first | exact (Kd.C_below HR0.out HB.out) | (with_reducible refine Kd.C_alloc ?_ _) | (with_reducible refine Kd.C_drewN ?_ _) | (with_reducible refine Kd.C_drew ?_))); (case side2 => exact HC0.out); rintro e w8 ⟨rfl, hb⟩; have n0_ := Aside0.mk (below_step (by repeat (first | (with_reducible first | exact HB.out | apply below_alloc | apply pw_below_drewN | apply below_drew1) | exact HB.out)) hb); clear HB; have HB := n0_; clear n0_; (try clear hb); (try clear hb2); (try clear hk); (try clear hi))))
 (try simp only [Act.put, List.setIfInBounds_toArray, List.set_cons_zero, List.set_cons_succ])
 go_cut [36] (fun v36 wc => ∃ (kq : Nat) (x36_5 : Bool), v36 = .bool x36_5 ∧ Aside0 (butlerlaw11_RecipeOrders.j0 kq l0 l1 a2 t273 x36_5 = some r) ∧ Aside0 (kq ≤ k) ∧ Aside0 (Below w.heap.size w wc))
 case first =>
  have H := HC6.out
  clear HC6
  by_cases c9 : t273 = true
  ·subst c9
   have H1 : (if t274 = 0 then (butlerlaw11_RecipeOrders.j0 k l0 l1 a2 true (decide ((l1.length : Int) > 300))) else (butlerlaw11_RecipeOrders.j0 k l0 l1 a2 true true)) = some r := by rw [if_pos rfl] at H; exact H
   clear H
   have H := H1
   clear H1
   by_cases c10 : t274 = 0
   ·rw [if_pos c10] at H
    have c10b0 : (t274 == 0) = true := beq_iff_eq.mpr c10
    have c10b1 : (t274 != 0) = false := bne_eq_false_iff_eq.mpr c10
    clear c10
    (first | rw [c10b0] | (simp only [i64_w, i32_w]; rw [c10b0]) | skip)
    have H' := Aside0.mk H
    clear H
    go_wp2
    repeat (go_quiet (fail); try go_wp2)
    go_meet
    case rel => exact ⟨_, (decide ((l1.length : Int) > 300)), (by first | rfl | (simp; done) | (simp [*]; done)), H', ⟨by first | omega | exact Nat.le_refl _⟩, ⟨by repeat (first | (with_reducible first | exact HB.out | apply below_alloc | apply pw_below_drewN | apply below_drew1) | exact HB.out)⟩⟩
   ·rw [if_neg c10] at H
    have c10b0 : (t274 == 0) = false := beq_eq_false_iff_ne.mpr c10
    have c10b1 : (t274 != 0) = true := bne_iff_ne.mpr c10
    (first | rw [c10b0] | (simp only [i64_w, i32_w]; rw [c10b0]) | skip)
    have H' := Aside0.mk H
    clear H
    go_wp2
    repeat (go_quiet (fail); try go_wp2)
    go_meet
    case rel => exact ⟨_, (true), (by first | rfl | (simp; done) | (simp [*]; done)), H', ⟨by first | omega | exact Nat.le_refl _⟩, ⟨by repeat (first | (with_reducible first | exact HB.out | apply below_alloc | apply pw_below_drewN | apply below_drew1) | exact HB.out)⟩⟩
  ·replace c9 := Bool.eq_false_iff.mpr c9
   subst c9
   have H1 : (butlerlaw11_RecipeOrders.j0 k l0 l1 a2 false true) = some r := by rw [if_neg (show ¬ (false = true) by decide)] at H; exact H
   clear H
   have H := H1
   clear H1
   have H' := Aside0.mk H
   clear H
   go_wp2
   repeat (go_quiet (fail); try go_wp2)
   go_meet
   case rel => exact ⟨_, (true), (by first | rfl | (simp; done) | (simp [*]; done)), H', ⟨by first | omega | exact Nat.le_refl _⟩, ⟨by repeat (first | (with_reducible first | exact HB.out | apply below_alloc | apply pw_below_drewN | apply below_drew1) | exact HB.out)⟩⟩
 case rest =>
  clear HC6
  try clear c1
  try clear p2
  try clear c6
  try clear c9
  try clear c10
  try clear c10b0
  try clear c10b1
  obtain ⟨kq, x36_5, rfl, HA, HJ5, HB⟩ := hcut
  cases kq with
  | zero => exact absurd HA.out (by simp [butlerlaw11_RecipeOrders.j0])
  | succ kj5 =>
   have H := HA.out
   clear HA
   simp only [butlerlaw11_RecipeOrders.j0] at H
   by_cases c11 : x36_5 = true
   ·subst c11
    have H1 : (some t273) = some r := by rw [if_pos rfl] at H; exact H
    clear H
    have H := H1
    clear H1
    obtain rfl := Option.some.inj H
    go_wp2
    repeat (go_quiet (fail); try go_wp2)
    go_ret
    exact ⟨by first | rfl | (simp [errW_none, errW_some] <;> rfl) | (simp [*, errW_none, errW_some] <;> rfl), by repeat (first | (with_reducible first | exact HB.out | apply below_alloc | apply pw_below_drewN | apply below_drew1) | exact HB.out)⟩
   ·replace c11 := Bool.eq_false_iff.mpr c11
    subst c11
    have H1 : ((butlerlaw11_table.f kj5 l0).bind fun t275 => ((butlerlaw11_asked.f kj5 l0 l1).bind fun t278 => ((recipe_Order.f l0 l1).bind fun t281 => (if 0 ≤ (l0.length : Int) then (if ((l0.length : Int) : Int).toNat ≤ 281474976710656 then (butlerlaw11_RecipeOrders.l0 kj5 l0 l1 a2 t275 t278 t281 (List.replicate ((l0.length : Int) : Int).toNat false) 0) else (none)) else (none))))) = some r := by rw [if_neg (show ¬ (false = true) by decide)] at H; exact H
    clear H
    have H := H1
    clear H1
    replace H := Option.bind_eq_some_iff.mp H
    obtain ⟨t275, A120, H⟩ := H
    replace H : ((butlerlaw11_asked.f kj5 l0 l1).bind fun t278 => ((recipe_Order.f l0 l1).bind fun t281 => (if 0 ≤ (l0.length : Int) then (if ((l0.length : Int) : Int).toNat ≤ 281474976710656 then (butlerlaw11_RecipeOrders.l0 kj5 l0 l1 a2 t275 t278 t281 (List.replicate ((l0.length : Int) : Int).toNat false) 0) else (none)) else (none)))) = some r := H
    have A12 := Aside0.mk A120
    clear A120
    replace H := Option.bind_eq_some_iff.mp H
    obtain ⟨t278, A130, H⟩ := H
    replace H : ((recipe_Order.f l0 l1).bind fun t281 => (if 0 ≤ (l0.length : Int) then (if ((l0.length : Int) : Int).toNat ≤ 281474976710656 then (butlerlaw11_RecipeOrders.l0 kj5 l0 l1 a2 t275 t278 t281 (List.replicate ((l0.length : Int) : Int).toNat false) 0) else (none)) else (none))) = some r := H
    have A13 := Aside0.mk A130
    clear A130
    replace H := Option.bind_eq_some_iff.mp H
    obtain ⟨t281, A140, H⟩ := H
    replace H : (if 0 ≤ (l0.length : Int) then (if ((l0.length : Int) : Int).toNat ≤ 281474976710656 then (butlerlaw11_RecipeOrders.l0 kj5 l0 l1 a2 t275 t278 t281 (List.replicate ((l0.length : Int) : Int).toNat false) 0) else (none)) else (none)) = some r := H
    have A14 := Aside0.mk A140
    clear A140
    by_cases c15 : 0 ≤ (l0.length : Int)
    ·rw [if_pos c15] at H
     have c15b0 := eq_true c15
     have c15b1 : decide (0 ≤ (l0.length : Int)) = true := decide_eq_true c15
     clear c15
     by_cases c16 : ((l0.length : Int) : Int).toNat ≤ 281474976710656
     ·rw [if_pos c16] at H
      have c16b0 := eq_true c16
      have c16b1 : decide (((l0.length : Int) : Int).toNat ≤ 281474976710656) = true := decide_eq_true c16
      clear c16
      obtain ⟨y284, hy284⟩ : ∃ y_ : List Bool, y_ = (List.replicate ((l0.length : Int) : Int).toNat false) := ⟨_, rfl⟩
      replace H : (butlerlaw11_RecipeOrders.l0 kj5 l0 l1 a2 t275 t278 t281 y284 0) = some r := by first | (rw [hy284]; with_reducible exact H) | (have H2_ := (Option.bind_some _ _).symm.trans H; rw [hy284]; with_reducible exact H2_) | (have H2_ := (Option.bind_some _ _).symm.trans H; with_reducible exact H2_) | with_reducible exact H | (rw [hy284]; exact H) | exact H
      have Ny284 := Aside0.mk hy284
      clear hy284
      have H' := Aside0.mk H
      clear H
      go_wp2_with (first | (go_at_call 23; (with_reducible refine (butlerlaw11_table.calls kj5 _ _ l0 t275 _ ?side1 ?side2 A12.out).mono ?_); (case side1 => repeat (first | exact (Kd.C_below HR0.out HB.out) | (with_reducible refine Kd.C_alloc ?_ _) | (with_reducible refine Kd.C_drewN ?_ _) | (with_reducible refine Kd.C_drew ?_))); (case side2 => exact HC0.out); rintro e w17 ⟨v276, rfl, ho0, hb⟩; have n0_ := Aside0.mk (Kd.S_lower ho0 (below_size (by repeat (first | (with_reducible first | exact HB.out | apply below_alloc | apply pw_below_drewN | apply below_drew1) | exact HB.out)))); have n1_ := Aside0.mk (below_step (by repeat (first | (with_reducible first | exact HB.out | apply below_alloc | apply pw_below_drewN | apply below_drew1) | exact HB.out)) hb); clear HB; have HO277 := n0_; have HB := n1_; clear n0_ n1_; (try clear hb); (try clear hb2); (try clear hk); (try clear hi); (try clear ho0)) | (go_at_call 24; (with_reducible refine (butlerlaw11_asked.calls kj5 _ _ l0 _ _ l1 t278 _ ?side1 ?side2 ?side3 ?side4 A13.out).mono ?_); (case side1 => repeat (first | exact (Kd.C_below HR0.out HB.out) | (with_reducible refine Kd.C_alloc ?_ _) | (with_reducible refine Kd.C_drewN ?_ _) | (with_reducible refine Kd.C_drew ?_))); (case side2 => exact HC0.out); (case side3 => repeat (first | exact (Kd.C_below HR1.out HB.out) | (with_reducible refine Kd.C_alloc ?_ _) | (with_reducible refine Kd.C_drewN ?_ _) | (with_reducible refine Kd.C_drew ?_))); (case side4 => exact HC1.out); rintro e w18 ⟨v279, rfl, ho0, hb⟩; have n0_ := Aside0.mk (Kd.S_elder' (by (with_reducible repeat (first | apply Kd.S_alloc | apply Kd.S_drewN | apply Kd.S_drew)); exact HO277.out) (Kd.R_base ho0) hb); have n1_ := Aside0.mk (Kd.R_lower ho0 (below_size (by repeat (first | (with_reducible first | exact HB.out | apply below_alloc | apply pw_below_drewN | apply below_drew1) | exact HB.out)))); have n2_ := Aside0.mk (below_step (by repeat (first | (with_reducible first | exact HB.out | apply below_alloc | apply pw_below_drewN | apply below_drew1) | exact HB.out)) hb); clear HO277; clear HB; have HO277 := n0_; have HO280 := n1_; have HB := n2_; clear n0_ n1_ n2_; (try clear hb); (try clear hb2); (try clear hk); (try clear hi); (try clear ho0)) | (go_at_call 14; (with_reducible refine (recipe_Order.calls _ _ l0 _ _ l1 t281 _ ?side1 ?side2 ?side3 ?side4 A14.out).mono ?_); (case side1 => repeat (first | exact (Kd.C_below HR0.out HB.out) | (with_reducible refine Kd.C_alloc ?_ _) | (with_reducible refine Kd.C_drewN ?_ _) | (with_reducible refine Kd.C_drew ?_))); (case side2 => exact HC0.out); (case side3 => repeat (first | exact (Kd.C_below HR1.out HB.out) | (with_reducible refine Kd.C_alloc ?_ _) | (with_reducible refine Kd.C_drewN ?_ _) | (with_reducible refine Kd.C_drew ?_))); (case side4 => exact HC1.out); rintro e w19 ⟨v282, rfl, ho0, hb⟩; have n0_ := Aside0.mk (Kd.S_below (by (with_reducible repeat (first | apply Kd.S_alloc | apply Kd.S_drewN | apply Kd.S_drew)); exact HO277.out) hb); have n1_ := Aside0.mk (Kd.R_below (by (with_reducible repeat (first | apply Kd.R_alloc | apply Kd.R_drewN | apply Kd.R_drew)); exact HO280.out) hb); have n2_ := Aside0.mk (Kd.R_lower ho0 (below_size (by repeat (first | (with_reducible first | exact HB.out | apply below_alloc | apply pw_below_drewN | apply below_drew1) | exact HB.out)))); have n3_ := Aside0.mk (below_step (by repeat (first | (with_reducible first | exact HB.out | apply below_alloc | apply pw_below_drewN | apply below_drew1) | exact HB.out)) hb); clear HO277; clear HO280; clear HB; have HO277 := n0_; have HO280 := n1_; have HO283 := n2_; have HB := n3_; clear n0_ n1_ n2_ n3_; (try clear hb); (try clear hb2); (try clear hk); (try clear hi); (try clear ho0)) | ((with_reducible refine gate_dst (N := 48) rfl ?_); (try (refine gate_guard (by rfl) ?_; dsimp only)); refine Kd.R_make Kd.bool _ 4 rfl (N := 48) rfl 41 _ _ rfl (l0.length : Int) rfl rfl Try.underlying41 (.bool false) 1 info4 rfl (by decide) (by omega) false (ok := fun _ => True) (okp := fun _ => True) rfl (fun _ hk => hk) trivial (of_decide_eq_true (by first | (with_reducible assumption) | assumption)) (Nat.le_trans (Nat.mul_le_mul_right _ (of_decide_eq_true (by first | (with_reducible assumption) | assumption) : (l0.length : Int).toNat ≤ 281474976710656)) (by omega)) (Below.refl _ _) (Nat.le_refl _) ?_; intro v285 w20 ho21 hb hg_ hnew_; clear hg_ hnew_; (first | rw [← Ny284.out] at ho21 | (simp only [Int.reduceToNat] at ho21; rw [← Ny284.out] at ho21)); have n0_ := Aside0.mk (Kd.S_elder' (by (with_reducible repeat (first | apply Kd.S_alloc | apply Kd.S_drewN | apply Kd.S_drew)); exact HO277.out) (Kd.R_base ho21) hb); have n1_ := Aside0.mk (Kd.R_elder' (by (with_reducible repeat (first | apply Kd.R_alloc | apply Kd.R_drewN | apply Kd.R_drew)); exact HO280.out) (Kd.R_base ho21) hb); have n2_ := Aside0.mk (Kd.R_below (by (with_reducible repeat (first | apply Kd.R_alloc | apply Kd.R_drewN | apply Kd.R_drew)); exact HO283.out) hb); have n3_ := Aside0.mk (Kd.R_lower (Kd.R_new' ho21 (Kd.R_lt (by (with_reducible repeat (first | apply Kd.R_alloc | apply Kd.R_drewN | apply Kd.R_drew)); exact HO280.out))) (below_size (by repeat (first | (with_reducible first | exact HB.out | apply below_alloc | apply pw_below_drewN | apply below_drew1) | exact HB.out)))); have n4_ := Aside0.mk (below_step (by repeat (first | (with_reducible first | exact HB.out | apply below_alloc | apply pw_below_drewN | apply below_drew1) | exact HB.out)) hb); clear HO277; clear HO280; clear HO283; clear HB; have HO277 := n0_; have HO280 := n1_; have HO283 := n2_; have HO286 := n3_; have HB := n4_; clear n0_ n1_ n2_ n3_ n4_; clear hb ho21))
      repeat (go_quiet (first | (go_at_call 23; (with_reducible refine (butlerlaw11_table.calls kj5 _ _ l0 t275 _ ?side1 ?side2 A12.out).mono ?_); (case side1 => repeat (first | exact (Kd.C_below HR0.out HB.out) | (with_reducible refine Kd.C_alloc ?_ _) | (with_reducible refine Kd.C_drewN ?_ _) | (with_reducible refine Kd.C_drew ?_))); (case side2 => exact HC0.out); rintro e w17 ⟨v276, rfl, ho0, hb⟩; have n0_ := Aside0.mk (Kd.S_lower ho0 (below_size (by repeat (first | (with_reducible first | exact HB.out | apply below_alloc | apply pw_below_drewN | apply below_drew1) | exact HB.out)))); have n1_ := Aside0.mk (below_step (by repeat (first | (with_reducible first | exact HB.out | apply below_alloc | apply pw_below_drewN | apply below_drew1) | exact HB.out)) hb); clear HB; have HO277 := n0_; have HB := n1_; clear n0_ n1_; (try clear hb); (try clear hb2); (try clear hk); (try clear hi); (try clear ho0)) | (go_at_call 24; (with_reducible refine (butlerlaw11_asked.calls kj5 _ _ l0 _ _ l1 t278 _ ?side1 ?side2 ?side3 ?side4 A13.out).mono ?_); (case side1 => repeat (first | exact (Kd.C_below HR0.out HB.out) | (with_reducible refine Kd.C_alloc ?_ _) | (with_reducible refine Kd.C_drewN ?_ _) | (with_reducible refine Kd.C_drew ?_))); (case side2 => exact HC0.out); (case side3 => repeat (first | exact (Kd.C_below HR1.out HB.out) | (with_reducible refine Kd.C_alloc ?_ _) | (with_reducible refine Kd.C_drewN ?_ _) | (with_reducible refine Kd.C_drew ?_))); (case side4 => exact HC1.out); rintro e w18 ⟨v279, rfl, ho0, hb⟩; have n0_ := Aside0.mk (Kd.S_elder' (by (with_reducible repeat (first | apply Kd.S_alloc | apply Kd.S_drewN | apply Kd.S_drew)); exact HO277.out) (Kd.R_base ho0) hb); have n1_ := Aside0.mk (Kd.R_lower ho0 (below_size (by repeat (first | (with_reducible first | exact HB.out | apply below_alloc | apply pw_below_drewN | apply below_drew1) | exact HB.out)))); have n2_ := Aside0.mk (below_step (by repeat (first | (with_reducible first | exact HB.out | apply below_alloc | apply pw_below_drewN | apply below_drew1) | exact HB.out)) hb); clear HO277; clear HB; have HO277 := n0_; have HO280 := n1_; have HB := n2_; clear n0_ n1_ n2_; (try clear hb); (try clear hb2); (try clear hk); (try clear hi); (try clear ho0)) | (go_at_call 14; (with_reducible refine (recipe_Order.calls _ _ l0 _ _ l1 t281 _ ?side1 ?side2 ?side3 ?side4 A14.out).mono ?_); (case side1 => repeat (first | exact (Kd.C_below HR0.out HB.out) | (with_reducible refine Kd.C_alloc ?_ _) | (with_reducible refine Kd.C_drewN ?_ _) | (with_reducible refine Kd.C_drew ?_))); (case side2 => exact HC0.out); (case side3 => repeat (first | exact (Kd.C_below HR1.out HB.out) | (with_reducible refine Kd.C_alloc ?_ _) | (with_reducible refine Kd.C_drewN ?_ _) | (with_reducible refine Kd.C_drew ?_))); (case side4 => exact HC1.out); rintro e w19 ⟨v282, rfl, ho0, hb⟩; have n0_ := Aside0.mk (Kd.S_below (by (with_reducible repeat (first | apply Kd.S_alloc | apply Kd.S_drewN | apply Kd.S_drew)); exact HO277.out) hb); have n1_ := Aside0.mk (Kd.R_below (by (with_reducible repeat (first | apply Kd.R_alloc | apply Kd.R_drewN | apply Kd.R_drew)); exact HO280.out) hb); have n2_ := Aside0.mk (Kd.R_lower ho0 (below_size (by repeat (first | (with_reducible first | exact HB.out | apply below_alloc | apply pw_below_drewN | apply below_drew1) | exact HB.out)))); have n3_ := Aside0.mk (below_step (by repeat (first | (with_reducible first | exact HB.out | apply below_alloc | apply pw_below_drewN | apply below_drew1) | exact HB.out)) hb); clear HO277; clear HO280; clear HB; have HO277 := n0_; have HO280 := n1_; have HO283 := n2_; have HB := n3_; clear n0_ n1_ n2_ n3_; (try clear hb); (try clear hb2); (try clear hk); (try clear hi); (try clear ho0)) | ((with_reducible refine gate_dst (N := 48) rfl ?_); (try (refine gate_guard (by rfl) ?_; dsimp only)); refine Kd.R_make Kd.bool _ 4 rfl (N := 48) rfl 41 _ _ rfl (l0.length : Int) rfl rfl Try.underlying41 (.bool false) 1 info4 rfl (by decide) (by omega) false (ok := fun _ => True) (okp := fun _ => True) rfl (fun _ hk => hk) trivial (of_decide_eq_true (by first | (with_reducible assumption) | assumption)) (Nat.le_trans (Nat.mul_le_mul_right _ (of_decide_eq_true (by first | (with_reducible assumption) | assumption) : (l0.length : Int).toNat ≤ 281474976710656)) (by omega)) (Below.refl _ _) (Nat.le_refl _) ?_; intro v285 w20 ho21 hb hg_ hnew_; clear hg_ hnew_; (first | rw [← Ny284.out] at ho21 | (simp only [Int.reduceToNat] at ho21; rw [← Ny284.out] at ho21)); have n0_ := Aside0.mk (Kd.S_elder' (by (with_reducible repeat (first | apply Kd.S_alloc | apply Kd.S_drewN | apply Kd.S_drew)); exact HO277.out) (Kd.R_base ho21) hb); have n1_ := Aside0.mk (Kd.R_elder' (by (with_reducible repeat (first | apply Kd.R_alloc | apply Kd.R_drewN | apply Kd.R_drew)); exact HO280.out) (Kd.R_base ho21) hb); have n2_ := Aside0.mk (Kd.R_below (by (with_reducible repeat (first | apply Kd.R_alloc | apply Kd.R_drewN | apply Kd.R_drew)); exact HO283.out) hb); have n3_ := Aside0.mk (Kd.R_lower (Kd.R_new' ho21 (Kd.R_lt (by (with_reducible repeat (first | apply Kd.R_alloc | apply Kd.R_drewN | apply Kd.R_drew)); exact HO280.out))) (below_size (by repeat (first | (with_reducible first | exact HB.out | apply below_alloc | apply pw_below_drewN | apply below_drew1) | exact HB.out)))); have n4_ := Aside0.mk (below_step (by repeat (first | (with_reducible first | exact HB.out | apply below_alloc | apply pw_below_drewN | apply below_drew1) | exact HB.out)) hb); clear HO277; clear HO280; clear HO283; clear HB; have HO277 := n0_; have HO280 := n1_; have HO283 := n2_; have HO286 := n3_; have HB := n4_; clear n0_ n1_ n2_ n3_ n4_; clear hb ho21)); try go_wp2_with (first | (go_at_call 23; (with_reducible refine (butlerlaw11_table.calls kj5 _ _ l0 t275 _ ?side1 ?side2 A12.out).mono ?_); (case side1 => repeat (first | exact (Kd.C_below HR0.out HB.out) | (with_reducible refine Kd.C_alloc ?_ _) | (with_reducible refine Kd.C_drewN ?_ _) | (with_reducible refine Kd.C_drew ?_))); (case side2 => exact HC0.out); rintro e w17 ⟨v276, rfl, ho0, hb⟩; have n0_ := Aside0.mk (Kd.S_lower ho0 (below_size (by repeat (first | (with_reducible first | exact HB.out | apply below_alloc | apply pw_below_drewN | apply below_drew1) | exact HB.out)))); have n1_ := Aside0.mk (below_step (by repeat (first | (with_reducible first | exact HB.out | apply below_alloc | apply pw_below_drewN | apply below_drew1) | exact HB.out)) hb); clear HB; have HO277 := n0_; have HB := n1_; clear n0_ n1_; (try clear hb); (try clear hb2); (try clear hk); (try clear hi); (try clear ho0)) | (go_at_call 24; (with_reducible refine (butlerlaw11_asked.calls kj5 _ _ l0 _ _ l1 t278 _ ?side1 ?side2 ?side3 ?side4 A13.out).mono ?_); (case side1 => repeat (first | exact (Kd.C_below HR0.out HB.out) | (with_reducible refine Kd.C_alloc ?_ _) | (with_reducible refine Kd.C_drewN ?_ _) | (with_reducible refine Kd.C_drew ?_))); (case side2 => exact HC0.out); (case side3 => repeat (first | exact (Kd.C_below HR1.out HB.out) | (with_reducible refine Kd.C_alloc ?_ _) | (with_reducible refine Kd.C_drewN ?_ _) | (with_reducible refine Kd.C_drew ?_))); (case side4 => exact HC1.out); rintro e w18 ⟨v279, rfl, ho0, hb⟩; have n0_ := Aside0.mk (Kd.S_elder' (by (with_reducible repeat (first | apply Kd.S_alloc | apply Kd.S_drewN | apply Kd.S_drew)); exact HO277.out) (Kd.R_base ho0) hb); have n1_ := Aside0.mk (Kd.R_lower ho0 (below_size (by repeat (first | (with_reducible first | exact HB.out | apply below_alloc | apply pw_below_drewN | apply below_drew1) | exact HB.out)))); have n2_ := Aside0.mk (below_step (by repeat (first | (with_reducible first | exact HB.out | apply below_alloc | apply pw_below_drewN | apply below_drew1) | exact HB.out)) hb); clear HO277; clear HB; have HO277 := n0_; have HO280 := n1_; have HB := n2_; clear n0_ n1_ n2_; (try clear hb); (try clear hb2); (try clear hk); (try clear hi); (try clear ho0)) | (go_at_call 14; (with_reducible refine (recipe_Order.calls _ _ l0 _ _ l1 t281 _ ?side1 ?side2 ?side3 ?side4 A14.out).mono ?_); (case side1 => repeat (first | exact (Kd.C_below HR0.out HB.out) | (with_reducible refine Kd.C_alloc ?_ _) | (with_reducible refine Kd.C_drewN ?_ _) | (with_reducible refine Kd.C_drew ?_))); (case side2 => exact HC0.out); (case side3 => repeat (first | exact (Kd.C_below HR1.out HB.out) | (with_reducible refine Kd.C_alloc ?_ _) | (with_reducible refine Kd.C_drewN ?_ _) | (with_reducible refine Kd.C_drew ?_))); (case side4 => exact HC1.out); rintro e w19 ⟨v282, rfl, ho0, hb⟩; have n0_ := Aside0.mk (Kd.S_below (by (with_reducible repeat (first | apply Kd.S_alloc | apply Kd.S_drewN | apply Kd.S_drew)); exact HO277.out) hb); have n1_ := Aside0.mk (Kd.R_below (by (with_reducible repeat (first | apply Kd.R_alloc | apply Kd.R_drewN | apply Kd.R_drew)); exact HO280.out) hb); have n2_ := Aside0.mk (Kd.R_lower ho0 (below_size (by repeat (first | (with_reducible first | exact HB.out | apply below_alloc | apply pw_below_drewN | apply below_drew1) | exact HB.out)))); have n3_ := Aside0.mk (below_step (by repeat (first | (with_reducible first | exact HB.out | apply below_alloc | apply pw_below_drewN | apply below_drew1) | exact HB.out)) hb); clear HO277; clear HO280; clear HB; have HO277 := n0_; have HO280 := n1_; have HO283 := n2_; have HB := n3_; clear n0_ n1_ n2_ n3_; (try clear hb); (try clear hb2); (try clear hk); (try clear hi); (try clear ho0)) | ((with_reducible refine gate_dst (N := 48) rfl ?_); (try (refine gate_guard (by rfl) ?_; dsimp only)); refine Kd.R_make Kd.bool _ 4 rfl (N := 48) rfl 41 _ _ rfl (l0.length : Int) rfl rfl Try.underlying41 (.bool false) 1 info4 rfl (by decide) (by omega) false (ok := fun _ => True) (okp := fun _ => True) rfl (fun _ hk => hk) trivial (of_decide_eq_true (by first | (with_reducible assumption) | assumption)) (Nat.le_trans (Nat.mul_le_mul_right _ (of_decide_eq_true (by first | (with_reducible assumption) | assumption) : (l0.length : Int).toNat ≤ 281474976710656)) (by omega)) (Below.refl _ _) (Nat.le_refl _) ?_; intro v285 w20 ho21 hb hg_ hnew_; clear hg_ hnew_; (first | rw [← Ny284.out] at ho21 | (simp only [Int.reduceToNat] at ho21; rw [← Ny284.out] at ho21)); have n0_ := Aside0.mk (Kd.S_elder' (by (with_reducible repeat (first | apply Kd.S_alloc | apply Kd.S_drewN | apply Kd.S_drew)); exact HO277.out) (Kd.R_base ho21) hb); have n1_ := Aside0.mk (Kd.R_elder' (by (with_reducible repeat (first | apply Kd.R_alloc | apply Kd.R_drewN | apply Kd.R_drew)); exact HO280.out) (Kd.R_base ho21) hb); have n2_ := Aside0.mk (Kd.R_below (by (with_reducible repeat (first | apply Kd.R_alloc | apply Kd.R_drewN | apply Kd.R_drew)); exact HO283.out) hb); have n3_ := Aside0.mk (Kd.R_lower (Kd.R_new' ho21 (Kd.R_lt (by (with_reducible repeat (first | apply Kd.R_alloc | apply Kd.R_drewN | apply Kd.R_drew)); exact HO280.out))) (below_size (by repeat (first | (with_reducible first | exact HB.out | apply below_alloc | apply pw_below_drewN | apply below_drew1) | exact HB.out)))); have n4_ := Aside0.mk (below_step (by repeat (first | (with_reducible first | exact HB.out | apply below_alloc | apply pw_below_drewN | apply below_drew1) | exact HB.out)) hb); clear HO277; clear HO280; clear HO283; clear HB; have HO277 := n0_; have HO280 := n1_; have HO283 := n2_; have HO286 := n3_; have HB := n4_; clear n0_ n1_ n2_ n3_ n4_; clear hb ho21)))
      go_loopg [13] kj5 (fun kq v13 w' => ∃ (x12_2 : List Bool) (x13_2 : Int), v13 = .int .i64 x13_2 ∧ Aside0 (butlerlaw11_RecipeOrders.l0 kq l0 l1 a2 t275 t278 t281 x12_2 x13_2 = some r) ∧ Aside0 (kq ≤ kj5) ∧ Aside0 (Kd.S (Kd.slice 4 Kd.bool) 41 w' w.heap.size (fun k_ => some k_ ≠ (v279 : Value).ownBlock ∧ some k_ ≠ (v285 : Value).ownBlock) v276 t275) ∧ Aside0 (Kd.R Kd.bool 4 w' w.heap.size (fun k_ => some k_ ≠ (v285 : Value).ownBlock) v279 t278) ∧ Aside0 (Kd.R (Kd.int .i64) 3 w' w.heap.size (fun _ => True) v282 t281) ∧ Aside0 (Kd.R Kd.bool 4 w' w.heap.size (fun k_ => some k_ ≠ (v279 : Value).ownBlock) v285 x12_2) ∧ Aside0 (Below w.heap.size w w'))
      case atStart => exact ⟨(y284), (0), (by first | rfl | (simp; done) | (simp [*]; done)), H', ⟨Nat.le_refl _⟩, ⟨by (with_reducible repeat (first | apply Kd.S_alloc | apply Kd.S_drewN | apply Kd.S_drew)); exact Kd.S_mono HO277.out (fun _ hk => ⟨hk.1.2, hk.2⟩)⟩, ⟨by (with_reducible repeat (first | apply Kd.R_alloc | apply Kd.R_drewN | apply Kd.R_drew)); exact Kd.R_mono HO280.out (fun _ hk => hk.2)⟩, ⟨by (with_reducible repeat (first | apply Kd.R_alloc | apply Kd.R_drewN | apply Kd.R_drew)); exact HO283.out⟩, ⟨by (with_reducible repeat (first | apply Kd.R_alloc | apply Kd.R_drewN | apply Kd.R_drew)); exact Kd.R_mono HO286.out (fun _ hk => hk.2)⟩, ⟨by repeat (first | (with_reducible first | exact HB.out | apply below_alloc | apply pw_below_drewN | apply below_drew1) | exact HB.out)⟩⟩
      case round =>
       clear H'
       try clear c1
       try clear p2
       try clear c6
       try clear c9
       try clear c10
       try clear c10b0
       try clear c10b1
       try clear c11
       try clear c15
       try clear c15b0
       try clear c15b1
       try clear c16
       try clear c16b0
       try clear c16b1
       try clear p2
       obtain ⟨x12_2, x13_2, rfl, HA, HK2, HO_9, HO_10, HO_11, HO_12, HB⟩ := hrel
       cases gk with
       | zero => exact absurd HA.out (by simp [butlerlaw11_RecipeOrders.l0])
       | succ k2 =>
        have H := HA.out
        clear HA
        simp only [butlerlaw11_RecipeOrders.l0] at H
        by_cases c22 : x13_2 < (t281.length : Int)
        ·rw [if_pos c22] at H
         have c22b0 : decide (x13_2 < (t281.length : Int)) = true := decide_eq_true c22
         clear c22
         by_cases c23 : 0 ≤ x13_2
         ·rw [if_pos c23] at H
          have c23b0 : decide (0 ≤ x13_2) = true := decide_eq_true c23
          clear c23
          have HC24 := Aside0.mk H
          clear H
          obtain ⟨Ao25, co25, eo25⟩ := Kd.R_slice HO_11.out
          subst eo25
          have p287 : 0 ≤ (x13_2 : Int) := of_decide_eq_true (by first | (with_reducible assumption) | assumption)
          have q287 : x13_2 < (t281.length : Int) := of_decide_eq_true (by first | (with_reducible assumption) | assumption)
          obtain ⟨ad287, e287, hx287_0⟩ := Kd.at_int (Kd.R_reads' HO_11.out).2.2 x13_2 p287 q287
          cases e287
          replace p287 := eq_true p287
          replace q287 := eq_true q287
          go_upto_region 13 with (fail)
          repeat (go_quiet (fail); go_upto_region 13 with (fail))
          go_cut [79] (fun v79 wc => ∃ (kq : Nat) (x79_23 : Bool), v79 = .bool x79_23 ∧ Aside0 (butlerlaw11_RecipeOrders.j2 kq l0 l1 a2 t275 t278 t281 x12_2 x13_2 (rd t281 x13_2) x79_23 = some r) ∧ Aside0 (kq ≤ k2) ∧ Aside0 (Kd.S (Kd.slice 4 Kd.bool) 41 wc w.heap.size (fun k_ => some k_ ≠ (v279 : Value).ownBlock ∧ some k_ ≠ (v285 : Value).ownBlock) v276 t275) ∧ Aside0 (Kd.R Kd.bool 4 wc w.heap.size (fun k_ => some k_ ≠ (v285 : Value).ownBlock) v279 t278) ∧ Aside0 (Kd.R (Kd.int .i64) 3 wc w.heap.size (fun _ => True) (.slice (some ad287) t281.length co25) t281) ∧ Aside0 (Kd.R Kd.bool 4 wc w.heap.size (fun k_ => some k_ ≠ (v279 : Value).ownBlock) v285 x12_2) ∧ Aside0 (Below w.heap.size w wc))
          case first =>
           have H := HC24.out
           clear HC24
           by_cases c26 : (rd t281 x13_2) < 0
           ·rw [if_pos c26] at H
            have c26b0 : decide ((rd t281 x13_2) < 0) = true := decide_eq_true c26
            clear c26
            (first | rw [c26b0] | (simp only [i64_w, i32_w]; rw [c26b0]) | skip)
            have H' := Aside0.mk H
            clear H
            go_wp2
            repeat (go_quiet (fail); try go_wp2)
            go_meet
            case rel => exact ⟨_, (true), (by first | rfl | (simp; done) | (simp [*]; done)), H', ⟨by have := HJ5.out; have := HK2.out; first | omega | exact Nat.le_refl _⟩, ⟨by (with_reducible repeat (first | apply Kd.S_alloc | apply Kd.S_drewN | apply Kd.S_drew)); exact HO_9.out⟩, ⟨by (with_reducible repeat (first | apply Kd.R_alloc | apply Kd.R_drewN | apply Kd.R_drew)); exact HO_10.out⟩, ⟨by (with_reducible repeat (first | apply Kd.R_alloc | apply Kd.R_drewN | apply Kd.R_drew)); exact HO_11.out⟩, ⟨by (with_reducible repeat (first | apply Kd.R_alloc | apply Kd.R_drewN | apply Kd.R_drew)); exact HO_12.out⟩, ⟨by repeat (first | (with_reducible first | exact HB.out | apply below_alloc | apply pw_below_drewN | apply below_drew1) | exact HB.out)⟩⟩
           ·rw [if_neg c26] at H
            have c26b0 : decide ((rd t281 x13_2) < 0) = false := decide_eq_false c26
            clear c26
            (first | rw [c26b0] | (simp only [i64_w, i32_w]; rw [c26b0]) | skip)
            by_cases c27 : (rd t281 x13_2) ≥ (l0.length : Int)
            ·rw [if_pos c27] at H
             have c27b0 : decide ((l0.length : Int) ≤ (rd t281 x13_2)) = true := decide_eq_true c27
             clear c27
             have H' := Aside0.mk H
             clear H
             go_wp2
             repeat (go_quiet (fail); try go_wp2)
             go_meet
             case rel => exact ⟨_, (true), (by first | rfl | (simp; done) | (simp [*]; done)), H', ⟨by have := HJ5.out; have := HK2.out; first | omega | exact Nat.le_refl _⟩, ⟨by (with_reducible repeat (first | apply Kd.S_alloc | apply Kd.S_drewN | apply Kd.S_drew)); exact HO_9.out⟩, ⟨by (with_reducible repeat (first | apply Kd.R_alloc | apply Kd.R_drewN | apply Kd.R_drew)); exact HO_10.out⟩, ⟨by (with_reducible repeat (first | apply Kd.R_alloc | apply Kd.R_drewN | apply Kd.R_drew)); exact HO_11.out⟩, ⟨by (with_reducible repeat (first | apply Kd.R_alloc | apply Kd.R_drewN | apply Kd.R_drew)); exact HO_12.out⟩, ⟨by repeat (first | (with_reducible first | exact HB.out | apply below_alloc | apply pw_below_drewN | apply below_drew1) | exact HB.out)⟩⟩
            ·rw [if_neg c27] at H
             have c27b0 : decide ((l0.length : Int) ≤ (rd t281 x13_2)) = false := decide_eq_false c27
             clear c27
             by_cases c28 : 0 ≤ (rd t281 x13_2)
             ·rw [if_pos c28] at H
              have c28b0 : decide (0 ≤ (rd t281 x13_2)) = true := decide_eq_true c28
              clear c28
              by_cases c29 : (rd t281 x13_2) < (x12_2.length : Int)
              ·rw [if_pos c29] at H
               have c29b0 : decide ((rd t281 x13_2) < (x12_2.length : Int)) = true := decide_eq_true c29
               clear c29
               obtain ⟨bq30, hbq30⟩ : ∃ b_ : Bool, b_ = (rdOf false x12_2 (rd t281 x13_2)) := ⟨_, rfl⟩
               replace H : (if bq30 = true then (butlerlaw11_RecipeOrders.j2 k2 l0 l1 a2 t275 t278 t281 x12_2 x13_2 (rd t281 x13_2) true) else (if (rd t281 x13_2) < (t278.length : Int) then (butlerlaw11_RecipeOrders.j2 k2 l0 l1 a2 t275 t278 t281 x12_2 x13_2 (rd t281 x13_2) (!(rdOf false t278 (rd t281 x13_2)))) else (none))) = some r := by rw [← hbq30] at H; exact H
               have Nbq30 := Aside0.mk hbq30
               clear hbq30
               by_cases c31 : bq30 = true
               ·subst c31
                have H1 : (butlerlaw11_RecipeOrders.j2 k2 l0 l1 a2 t275 t278 t281 x12_2 x13_2 (rd t281 x13_2) true) = some r := by rw [if_pos rfl] at H; exact H
                clear H
                have H := H1
                clear H1
                have H' := Aside0.mk H
                clear H
                obtain ⟨Ao32, co32, eo32⟩ := Kd.R_slice HO_12.out
                subst eo32
                have p288 : 0 ≤ ((rd t281 x13_2) : Int) := of_decide_eq_true (by first | (with_reducible assumption) | assumption)
                have q288 : (rd t281 x13_2) < (x12_2.length : Int) := of_decide_eq_true (by first | (with_reducible assumption) | assumption)
                obtain ⟨ad288, e288, hx288_0⟩ := Kd.at_bool (Kd.R_reads' HO_12.out).2.2 (rd t281 x13_2) p288 q288
                (try rw [← Nbq30.out] at hx288_0)
                cases e288
                replace p288 := eq_true p288
                replace q288 := eq_true q288
                go_wp2
                repeat (go_quiet (fail); try go_wp2)
                go_meet
                case rel => exact ⟨_, (true), (by first | rfl | (simp; done) | (simp [*]; done)), H', ⟨by have := HJ5.out; have := HK2.out; first | omega | exact Nat.le_refl _⟩, ⟨by (with_reducible repeat (first | apply Kd.S_alloc | apply Kd.S_drewN | apply Kd.S_drew)); exact HO_9.out⟩, ⟨by (with_reducible repeat (first | apply Kd.R_alloc | apply Kd.R_drewN | apply Kd.R_drew)); exact HO_10.out⟩, ⟨by (with_reducible repeat (first | apply Kd.R_alloc | apply Kd.R_drewN | apply Kd.R_drew)); exact HO_11.out⟩, ⟨by (with_reducible repeat (first | apply Kd.R_alloc | apply Kd.R_drewN | apply Kd.R_drew)); exact HO_12.out⟩, ⟨by repeat (first | (with_reducible first | exact HB.out | apply below_alloc | apply pw_below_drewN | apply below_drew1) | exact HB.out)⟩⟩
               ·replace c31 := Bool.eq_false_iff.mpr c31
                subst c31
                have H1 : (if (rd t281 x13_2) < (t278.length : Int) then (butlerlaw11_RecipeOrders.j2 k2 l0 l1 a2 t275 t278 t281 x12_2 x13_2 (rd t281 x13_2) (!(rdOf false t278 (rd t281 x13_2)))) else (none)) = some r := by rw [if_neg (show ¬ (false = true) by decide)] at H; exact H
                clear H
                have H := H1
                clear H1
                by_cases c33 : (rd t281 x13_2) < (t278.length : Int)
                ·rw [if_pos c33] at H
                 have c33b0 : decide ((rd t281 x13_2) < (t278.length : Int)) = true := decide_eq_true c33
                 clear c33
                 have H' := Aside0.mk H
                 clear H
                 obtain ⟨Ao34, co34, eo34⟩ := Kd.R_slice HO_12.out
                 subst eo34
                 have p288 : 0 ≤ ((rd t281 x13_2) : Int) := of_decide_eq_true (by first | (with_reducible assumption) | assumption)
                 have q288 : (rd t281 x13_2) < (x12_2.length : Int) := of_decide_eq_true (by first | (with_reducible assumption) | assumption)
                 obtain ⟨ad288, e288, hx288_0⟩ := Kd.at_bool (Kd.R_reads' HO_12.out).2.2 (rd t281 x13_2) p288 q288
                 (try rw [← Nbq30.out] at hx288_0)
                 cases e288
                 replace p288 := eq_true p288
                 replace q288 := eq_true q288
                 obtain ⟨Ao35, co35, eo35⟩ := Kd.R_slice HO_10.out
                 subst eo35
                 have p289 : 0 ≤ ((rd t281 x13_2) : Int) := of_decide_eq_true (by first | (with_reducible assumption) | assumption)
                 have q289 : (rd t281 x13_2) < (t278.length : Int) := of_decide_eq_true (by first | (with_reducible assumption) | assumption)
                 obtain ⟨ad289, e289, hx289_0⟩ := Kd.at_bool (Kd.R_reads' HO_10.out).2.2 (rd t281 x13_2) p289 q289
                 (try rw [← Nbq30.out] at hx289_0)
                 cases e289
                 replace p289 := eq_true p289
                 replace q289 := eq_true q289
                 go_wp2
                 repeat (go_quiet (fail); try go_wp2)
                 go_meet
                 case rel => exact ⟨_, (!(rdOf false t278 (rd t281 x13_2))), (by first | rfl | (simp; done) | (simp [*]; done)), H', ⟨by have := HJ5.out; have := HK2.out; first | omega | exact Nat.le_refl _⟩, ⟨by (with_reducible repeat (first | apply Kd.S_alloc | apply Kd.S_drewN | apply Kd.S_drew)); exact HO_9.out⟩, ⟨by (with_reducible repeat (first | apply Kd.R_alloc | apply Kd.R_drewN | apply Kd.R_drew)); exact HO_10.out⟩, ⟨by (with_reducible repeat (first | apply Kd.R_alloc | apply Kd.R_drewN | apply Kd.R_drew)); exact HO_11.out⟩, ⟨by (with_reducible repeat (first | apply Kd.R_alloc | apply Kd.R_drewN | apply Kd.R_drew)); exact HO_12.out⟩, ⟨by repeat (first | (with_reducible first | exact HB.out | apply below_alloc | apply pw_below_drewN | apply below_drew1) | exact HB.out)⟩⟩
                ·rw [if_neg c33] at H
                 exact absurd H (by simp)
              ·rw [if_neg c29] at H
               exact absurd H (by simp)
             ·rw [if_neg c28] at H
              exact absurd H (by simp)
          case rest =>
           clear HC24
           try clear c1
           try clear c2
           try clear p2
           try clear q2
           try clear hx2
           try clear c3
           try clear q3
           try clear c6
           try clear c9
           try clear c10
           try clear c10b0
           try clear c10b1
           try clear c11
           try clear c15
           try clear c15b0
           try clear c15b1
           try clear c16
           try clear c16b0
           try clear c16b1
           try clear c22
           try clear c22b0
           try clear c23
           try clear c23b0
           try clear c26
           try clear c26b0
           try clear c27
           try clear c27b0
           try clear c28
           try clear c28b0
           try clear p28
           try clear q28
           try clear hx28
           try clear c29
           try clear c29b0
           try clear q30
           try clear c31
           try clear c33
           try clear c33b0
           try clear hx287_0
           try clear hx288_0
           try clear hx289_0
           try clear p2
           try clear p287
           try clear p288
           try clear p289
           try clear q287
           try clear q288
           try clear q289
           obtain ⟨kq, x79_23, rfl, HA, HJ23, HO_9, HO_10, HO_11, HO_12, HB⟩ := hcut
           cases kq with
           | zero => exact absurd HA.out (by simp [butlerlaw11_RecipeOrders.j2])
           | succ kj23 =>
            have H := HA.out
            clear HA
            simp only [butlerlaw11_RecipeOrders.j2] at H
            by_cases c36 : x79_23 = true
            ·subst c36
             have H1 : (some false) = some r := by rw [if_pos rfl] at H; exact H
             clear H
             have H := H1
             clear H1
             obtain rfl := Option.some.inj H
             go_wp2
             repeat (go_quiet (fail); try go_wp2)
             go_ret
             exact ⟨by first | rfl | (simp [errW_none, errW_some] <;> rfl) | (simp [*, errW_none, errW_some] <;> rfl), by repeat (first | (with_reducible first | exact HB.out | apply below_alloc | apply pw_below_drewN | apply below_drew1) | exact HB.out)⟩
            ·replace c36 := Bool.eq_false_iff.mpr c36
             subst c36
             have H1 : (butlerlaw11_RecipeOrders.l1 kj23 l0 l1 a2 t275 t278 t281 x12_2 x13_2 (rd t281 x13_2) 0) = some r := by rw [if_neg (show ¬ (false = true) by decide)] at H; exact H
             clear H
             have H := H1
             clear H1
             have H' := Aside0.mk H
             clear H
             go_wp2
             repeat (go_quiet (fail); try go_wp2)
             go_loopg [15] kj23 (fun kq v15 w' => ∃ (x15_4 : Int), v15 = .int .i64 x15_4 ∧ Aside0 (butlerlaw11_RecipeOrders.l1 kq l0 l1 a2 t275 t278 t281 x12_2 x13_2 (rd t281 x13_2) x15_4 = some r) ∧ Aside0 (kq ≤ kj23) ∧ Aside0 (Kd.S (Kd.slice 4 Kd.bool) 41 w' w.heap.size (fun k_ => some k_ ≠ (v279 : Value).ownBlock ∧ some k_ ≠ (v285 : Value).ownBlock) v276 t275) ∧ Aside0 (Kd.R Kd.bool 4 w' w.heap.size (fun k_ => some k_ ≠ (v285 : Value).ownBlock) v279 t278) ∧ Aside0 (Kd.R (Kd.int .i64) 3 w' w.heap.size (fun _ => True) (.slice (some ad287) t281.length co25) t281) ∧ Aside0 (Kd.R Kd.bool 4 w' w.heap.size (fun k_ => some k_ ≠ (v279 : Value).ownBlock) v285 x12_2) ∧ Aside0 (Below w.heap.size w w'))
             case atStart => exact ⟨(0), (by first | rfl | (simp; done) | (simp [*]; done)), H', ⟨Nat.le_refl _⟩, ⟨by (with_reducible repeat (first | apply Kd.S_alloc | apply Kd.S_drewN | apply Kd.S_drew)); exact HO_9.out⟩, ⟨by (with_reducible repeat (first | apply Kd.R_alloc | apply Kd.R_drewN | apply Kd.R_drew)); exact HO_10.out⟩, ⟨by (with_reducible repeat (first | apply Kd.R_alloc | apply Kd.R_drewN | apply Kd.R_drew)); exact HO_11.out⟩, ⟨by (with_reducible repeat (first | apply Kd.R_alloc | apply Kd.R_drewN | apply Kd.R_drew)); exact HO_12.out⟩, ⟨by repeat (first | (with_reducible first | exact HB.out | apply below_alloc | apply pw_below_drewN | apply below_drew1) | exact HB.out)⟩⟩
             case round =>
              clear H'
              try clear c1
              try clear c2
              try clear p2
              try clear q2
              try clear hx2
              try clear c3
              try clear q3
              try clear c6
              try clear c9
              try clear c10
              try clear c10b0
              try clear c10b1
              try clear c11
              try clear c15
              try clear c15b0
              try clear c15b1
              try clear c16
              try clear c16b0
              try clear c16b1
              try clear c22
              try clear c22b0
              try clear c23
              try clear c23b0
              try clear c26
              try clear c26b0
              try clear c27
              try clear c27b0
              try clear c28
              try clear c28b0
              try clear p28
              try clear q28
              try clear hx28
              try clear c29
              try clear c29b0
              try clear q30
              try clear c31
              try clear c33
              try clear c33b0
              try clear c36
              try clear hx287_0
              try clear hx288_0
              try clear hx289_0
              try clear p2
              try clear p28
              try clear p287
              try clear p288
              try clear p289
              try clear q2
              try clear q28
              try clear q287
              try clear q288
              try clear q289
              try clear q3
              try clear q30
              obtain ⟨x15_4, rfl, HA, HK4, HO_9, HO_10, HO_11, HO_12, HB⟩ := hrel
              cases gk with
              | zero => exact absurd HA.out (by simp [butlerlaw11_RecipeOrders.l1])
              | succ k4 =>
               have H := HA.out
               clear HA
               simp only [butlerlaw11_RecipeOrders.l1] at H
               by_cases c37 : x15_4 < (l0.length : Int)
               ·rw [if_pos c37] at H
                have c37b0 : decide (x15_4 < (l0.length : Int)) = true := decide_eq_true c37
                clear c37
                by_cases c38 : 0 ≤ (rd t281 x13_2)
                ·rw [if_pos c38] at H
                 have c38b0 : decide (0 ≤ (rd t281 x13_2)) = true := decide_eq_true c38
                 clear c38
                 by_cases c39 : (rd t281 x13_2) < (t275.length : Int)
                 ·rw [if_pos c39] at H
                  have c39b0 : decide ((rd t281 x13_2) < (t275.length : Int)) = true := decide_eq_true c39
                  clear c39
                  by_cases c40 : 0 ≤ x15_4
                  ·rw [if_pos c40] at H
                   have c40b0 : decide (0 ≤ x15_4) = true := decide_eq_true c40
                   clear c40
                   by_cases c41 : x15_4 < ((rd_L5 t275 (rd t281 x13_2)).length : Int)
                   ·rw [if_pos c41] at H
                    have c41b0 : decide (x15_4 < ((rd_L5 t275 (rd t281 x13_2)).length : Int)) = true := decide_eq_true c41
                    clear c41
                    obtain ⟨bq42, hbq42⟩ : ∃ b_ : Bool, b_ = (rdOf false (rd_L5 t275 (rd t281 x13_2)) x15_4) := ⟨_, rfl⟩
                    replace H : (if bq42 = true then (if x15_4 < (x12_2.length : Int) then (if rdOf false x12_2 x15_4 = true then (butlerlaw11_RecipeOrders.l1 k4 l0 l1 a2 t275 t278 t281 x12_2 x13_2 (rd t281 x13_2) (wrap64 (x15_4 + 1))) else (some false)) else (none)) else (butlerlaw11_RecipeOrders.l1 k4 l0 l1 a2 t275 t278 t281 x12_2 x13_2 (rd t281 x13_2) (wrap64 (x15_4 + 1)))) = some r := by rw [← hbq42] at H; exact H
                    have Nbq42 := Aside0.mk hbq42
                    clear hbq42
                    by_cases c43 : bq42 = true
                    ·subst c43
                     have H1 : (if x15_4 < (x12_2.length : Int) then (if rdOf false x12_2 x15_4 = true then (butlerlaw11_RecipeOrders.l1 k4 l0 l1 a2 t275 t278 t281 x12_2 x13_2 (rd t281 x13_2) (wrap64 (x15_4 + 1))) else (some false)) else (none)) = some r := by rw [if_pos rfl] at H; exact H
                     clear H
                     have H := H1
                     clear H1
                     by_cases c44 : x15_4 < (x12_2.length : Int)
                     ·rw [if_pos c44] at H
                      have c44b0 : decide (x15_4 < (x12_2.length : Int)) = true := decide_eq_true c44
                      clear c44
                      obtain ⟨bq45, hbq45⟩ : ∃ b_ : Bool, b_ = (rdOf false x12_2 x15_4) := ⟨_, rfl⟩
                      replace H : (if bq45 = true then (butlerlaw11_RecipeOrders.l1 k4 l0 l1 a2 t275 t278 t281 x12_2 x13_2 (rd t281 x13_2) (wrap64 (x15_4 + 1))) else (some false)) = some r := by rw [← hbq45] at H; exact H
                      have Nbq45 := Aside0.mk hbq45
                      clear hbq45
                      by_cases c46 : bq45 = true
                      ·subst c46
                       have H1 : (butlerlaw11_RecipeOrders.l1 k4 l0 l1 a2 t275 t278 t281 x12_2 x13_2 (rd t281 x13_2) (wrap64 (x15_4 + 1))) = some r := by rw [if_pos rfl] at H; exact H
                       clear H
                       have H := H1
                       clear H1
                       have H' := Aside0.mk H
                       clear H
                       obtain ⟨Ao47, co47, eo47⟩ := Kd.S_slice HO_9.out
                       subst eo47
                       have p290 : 0 ≤ ((rd t281 x13_2) : Int) := of_decide_eq_true (by first | (with_reducible assumption) | assumption)
                       have q290 : (rd t281 x13_2) < (t275.length : Int) := of_decide_eq_true (by first | (with_reducible assumption) | assumption)
                       obtain ⟨ad290, A290_0, c290_0, e290, hx290_0, hl290_0, hi290_0⟩ := at_L5 (Kd.S_reads' HO_9.out).2.2 (rd t281 x13_2) p290 q290
                       cases e290
                       obtain ⟨ce290, hce290, hMe290, hcc290⟩ := Kd.S_get HO_9.out [] (rd t281 x13_2) p290 (by first | exact q290 | exact of_decide_eq_true (by first | (with_reducible assumption) | assumption) | (have e_ := (Kd.S_reads' HO_9.out).1; omega))
                       obtain ⟨ve290_0, rfl, ge290_0⟩ := hMe290
                       have hv290_0 := hcc290 0 _ rfl
                       rw [Nat.add_zero, show ((Kd.slice 4 Kd.bool)).sz = 1 from rfl, Nat.mul_one] at hv290_0
                       replace hv290_0 := Option.some.inj (hv290_0.symm.trans hx290_0)
                       rw [hv290_0] at ge290_0
                       have HL290_0 := Aside0.mk (show Kd.R Kd.bool 4 _ _ _ _ (rd_L5 t275 (rd t281 x13_2)) from ge290_0)
                       clear hv290_0 ge290_0
                       clear hcc290 hce290
                       have HR290_0 := Aside0.mk hi290_0
                       have HC290_0 := Aside0.mk hl290_0
                       clear hi290_0 hl290_0
                       replace p290 := eq_true p290
                       replace q290 := eq_true q290
                       have p291 : 0 ≤ (x15_4 : Int) := of_decide_eq_true (by first | (with_reducible assumption) | assumption)
                       have q291 : x15_4 < ((rd_L5 t275 (rd t281 x13_2)).length : Int) := of_decide_eq_true (by first | (with_reducible assumption) | assumption)
                       obtain ⟨ad291, e291, hx291_0⟩ := Kd.at_bool (by repeat (first | (with_reducible exact HR290_0.out) | (with_reducible refine Kd.C_alloc ?_ _) | (with_reducible refine Kd.C_drewN ?_ _) | (with_reducible refine Kd.C_drew ?_) | exact HR290_0.out)) x15_4 p291 q291
                       (try rw [← Nbq42.out] at hx291_0)
                       (try rw [← Nbq45.out] at hx291_0)
                       cases e291
                       replace p291 := eq_true p291
                       replace q291 := eq_true q291
                       obtain ⟨Ao48, co48, eo48⟩ := Kd.R_slice HO_12.out
                       subst eo48
                       have p292 : 0 ≤ (x15_4 : Int) := of_decide_eq_true (by first | (with_reducible assumption) | assumption)
                       have q292 : x15_4 < (x12_2.length : Int) := of_decide_eq_true (by first | (with_reducible assumption) | assumption)
                       obtain ⟨ad292, e292, hx292_0⟩ := Kd.at_bool (Kd.R_reads' HO_12.out).2.2 x15_4 p292 q292
                       (try rw [← Nbq42.out] at hx292_0)
                       (try rw [← Nbq45.out] at hx292_0)
                       cases e292
                       replace p292 := eq_true p292
                       replace q292 := eq_true q292
                       go_wp2
                       repeat (go_quiet (fail); try go_wp2)
                       go_roundg k4
                       case measure => have := HJ5.out; have := HK2.out; have := HJ23.out; have := HK4.out; omega
                       case rel => exact ⟨(wrap64 (x15_4 + 1)), (by first | rfl | (simp; done) | (simp [*]; done)), H', ⟨by have := HJ5.out; have := HK2.out; have := HJ23.out; have := HK4.out; omega⟩, ⟨by (with_reducible repeat (first | apply Kd.S_alloc | apply Kd.S_drewN | apply Kd.S_drew)); exact HO_9.out⟩, ⟨by (with_reducible repeat (first | apply Kd.R_alloc | apply Kd.R_drewN | apply Kd.R_drew)); exact HO_10.out⟩, ⟨by (with_reducible repeat (first | apply Kd.R_alloc | apply Kd.R_drewN | apply Kd.R_drew)); exact HO_11.out⟩, ⟨by (with_reducible repeat (first | apply Kd.R_alloc | apply Kd.R_drewN | apply Kd.R_drew)); exact HO_12.out⟩, ⟨by repeat (first | (with_reducible first | exact HB.out | apply below_alloc | apply pw_below_drewN | apply below_drew1) | exact HB.out)⟩⟩
                      ·replace c46 := Bool.eq_false_iff.mpr c46
                       subst c46
                       have H1 : (some false) = some r := by rw [if_neg (show ¬ (false = true) by decide)] at H; exact H
                       clear H
                       have H := H1
                       clear H1
                       obtain rfl := Option.some.inj H
                       obtain ⟨Ao49, co49, eo49⟩ := Kd.S_slice HO_9.out
                       subst eo49
                       have p290 : 0 ≤ ((rd t281 x13_2) : Int) := of_decide_eq_true (by first | (with_reducible assumption) | assumption)
                       have q290 : (rd t281 x13_2) < (t275.length : Int) := of_decide_eq_true (by first | (with_reducible assumption) | assumption)
                       obtain ⟨ad290, A290_0, c290_0, e290, hx290_0, hl290_0, hi290_0⟩ := at_L5 (Kd.S_reads' HO_9.out).2.2 (rd t281 x13_2) p290 q290
                       cases e290
                       obtain ⟨ce290, hce290, hMe290, hcc290⟩ := Kd.S_get HO_9.out [] (rd t281 x13_2) p290 (by first | exact q290 | exact of_decide_eq_true (by first | (with_reducible assumption) | assumption) | (have e_ := (Kd.S_reads' HO_9.out).1; omega))
                       obtain ⟨ve290_0, rfl, ge290_0⟩ := hMe290
                       have hv290_0 := hcc290 0 _ rfl
                       rw [Nat.add_zero, show ((Kd.slice 4 Kd.bool)).sz = 1 from rfl, Nat.mul_one] at hv290_0
                       replace hv290_0 := Option.some.inj (hv290_0.symm.trans hx290_0)
                       rw [hv290_0] at ge290_0
                       have HL290_0 := Aside0.mk (show Kd.R Kd.bool 4 _ _ _ _ (rd_L5 t275 (rd t281 x13_2)) from ge290_0)
                       clear hv290_0 ge290_0
                       clear hcc290 hce290
                       have HR290_0 := Aside0.mk hi290_0
                       have HC290_0 := Aside0.mk hl290_0
                       clear hi290_0 hl290_0
                       replace p290 := eq_true p290
                       replace q290 := eq_true q290
                       have p291 : 0 ≤ (x15_4 : Int) := of_decide_eq_true (by first | (with_reducible assumption) | assumption)
                       have q291 : x15_4 < ((rd_L5 t275 (rd t281 x13_2)).length : Int) := of_decide_eq_true (by first | (with_reducible assumption) | assumption)
                       obtain ⟨ad291, e291, hx291_0⟩ := Kd.at_bool (by repeat (first | (with_reducible exact HR290_0.out) | (with_reducible refine Kd.C_alloc ?_ _) | (with_reducible refine Kd.C_drewN ?_ _) | (with_reducible refine Kd.C_drew ?_) | exact HR290_0.out)) x15_4 p291 q291
                       (try rw [← Nbq42.out] at hx291_0)
                       (try rw [← Nbq45.out] at hx291_0)
                       cases e291
                       replace p291 := eq_true p291
                       replace q291 := eq_true q291
                       obtain ⟨Ao50, co50, eo50⟩ := Kd.R_slice HO_12.out
                       subst eo50
                       have p292 : 0 ≤ (x15_4 : Int) := of_decide_eq_true (by first | (with_reducible assumption) | assumption)
                       have q292 : x15_4 < (x12_2.length : Int) := of_decide_eq_true (by first | (with_reducible assumption) | assumption)
                       obtain ⟨ad292, e292, hx292_0⟩ := Kd.at_bool (Kd.R_reads' HO_12.out).2.2 x15_4 p292 q292
                       (try rw [← Nbq42.out] at hx292_0)
                       (try rw [← Nbq45.out] at hx292_0)
                       cases e292
                       replace p292 := eq_true p292
                       replace q292 := eq_true q292
                       go_wp2
                       repeat (go_quiet (fail); try go_wp2)
                       go_ret
                       exact ⟨by first | rfl | (simp [errW_none, errW_some] <;> rfl) | (simp [*, errW_none, errW_some] <;> rfl), by repeat (first | (with_reducible first | exact HB.out | apply below_alloc | apply pw_below_drewN | apply below_drew1) | exact HB.out)⟩
                     ·rw [if_neg c44] at H
                      exact absurd H (by simp)
                    ·replace c43 := Bool.eq_false_iff.mpr c43
                     subst c43
                     have H1 : (butlerlaw11_RecipeOrders.l1 k4 l0 l1 a2 t275 t278 t281 x12_2 x13_2 (rd t281 x13_2) (wrap64 (x15_4 + 1))) = some r := by rw [if_neg (show ¬ (false = true) by decide)] at H; exact H
                     clear H
                     have H := H1
                     clear H1
                     have H' := Aside0.mk H
                     clear H
                     obtain ⟨Ao51, co51, eo51⟩ := Kd.S_slice HO_9.out
                     subst eo51
                     have p290 : 0 ≤ ((rd t281 x13_2) : Int) := of_decide_eq_true (by first | (with_reducible assumption) | assumption)
                     have q290 : (rd t281 x13_2) < (t275.length : Int) := of_decide_eq_true (by first | (with_reducible assumption) | assumption)
                     obtain ⟨ad290, A290_0, c290_0, e290, hx290_0, hl290_0, hi290_0⟩ := at_L5 (Kd.S_reads' HO_9.out).2.2 (rd t281 x13_2) p290 q290
                     cases e290
                     obtain ⟨ce290, hce290, hMe290, hcc290⟩ := Kd.S_get HO_9.out [] (rd t281 x13_2) p290 (by first | exact q290 | exact of_decide_eq_true (by first | (with_reducible assumption) | assumption) | (have e_ := (Kd.S_reads' HO_9.out).1; omega))
                     obtain ⟨ve290_0, rfl, ge290_0⟩ := hMe290
                     have hv290_0 := hcc290 0 _ rfl
                     rw [Nat.add_zero, show ((Kd.slice 4 Kd.bool)).sz = 1 from rfl, Nat.mul_one] at hv290_0
                     replace hv290_0 := Option.some.inj (hv290_0.symm.trans hx290_0)
                     rw [hv290_0] at ge290_0
                     have HL290_0 := Aside0.mk (show Kd.R Kd.bool 4 _ _ _ _ (rd_L5 t275 (rd t281 x13_2)) from ge290_0)
                     clear hv290_0 ge290_0
                     clear hcc290 hce290
                     have HR290_0 := Aside0.mk hi290_0
                     have HC290_0 := Aside0.mk hl290_0
                     clear hi290_0 hl290_0
                     replace p290 := eq_true p290
                     replace q290 := eq_true q290
                     have p291 : 0 ≤ (x15_4 : Int) := of_decide_eq_true (by first | (with_reducible assumption) | assumption)
                     have q291 : x15_4 < ((rd_L5 t275 (rd t281 x13_2)).length : Int) := of_decide_eq_true (by first | (with_reducible assumption) | assumption)
                     obtain ⟨ad291, e291, hx291_0⟩ := Kd.at_bool (by repeat (first | (with_reducible exact HR290_0.out) | (with_reducible refine Kd.C_alloc ?_ _) | (with_reducible refine Kd.C_drewN ?_ _) | (with_reducible refine Kd.C_drew ?_) | exact HR290_0.out)) x15_4 p291 q291
                     (try rw [← Nbq42.out] at hx291_0)
                     cases e291
                     replace p291 := eq_true p291
                     replace q291 := eq_true q291
                     go_wp2
                     repeat (go_quiet (fail); try go_wp2)
                     go_roundg k4
                     case measure => have := HJ5.out; have := HK2.out; have := HJ23.out; have := HK4.out; omega
                     case rel => exact ⟨(wrap64 (x15_4 + 1)), (by first | rfl | (simp; done) | (simp [*]; done)), H', ⟨by have := HJ5.out; have := HK2.out; have := HJ23.out; have := HK4.out; omega⟩, ⟨by (with_reducible repeat (first | apply Kd.S_alloc | apply Kd.S_drewN | apply Kd.S_drew)); exact HO_9.out⟩, ⟨by (with_reducible repeat (first | apply Kd.R_alloc | apply Kd.R_drewN | apply Kd.R_drew)); exact HO_10.out⟩, ⟨by (with_reducible repeat (first | apply Kd.R_alloc | apply Kd.R_drewN | apply Kd.R_drew)); exact HO_11.out⟩, ⟨by (with_reducible repeat (first | apply Kd.R_alloc | apply Kd.R_drewN | apply Kd.R_drew)); exact HO_12.out⟩, ⟨by repeat (first | (with_reducible first | exact HB.out | apply below_alloc | apply pw_below_drewN | apply below_drew1) | exact HB.out)⟩⟩
                   ·rw [if_neg c41] at H
                    exact absurd H (by simp)
                  ·rw [if_neg c40] at H
                   exact absurd H (by simp)
                 ·rw [if_neg c39] at H
                  exact absurd H (by simp)
                ·rw [if_neg c38] at H
                 exact absurd H (by simp)
               ·rw [if_neg c37] at H
                have c37b0 : decide (x15_4 < (l0.length : Int)) = false := decide_eq_false c37
                clear c37
                by_cases c52 : 0 ≤ (rd t281 x13_2)
                ·rw [if_pos c52] at H
                 have c52b0 : decide (0 ≤ (rd t281 x13_2)) = true := decide_eq_true c52
                 clear c52
                 by_cases c53 : (rd t281 x13_2) < (x12_2.length : Int)
                 ·rw [if_pos c53] at H
                  have c53b0 : decide ((rd t281 x13_2) < (x12_2.length : Int)) = true := decide_eq_true c53
                  clear c53
                  obtain ⟨y293, hy293⟩ : ∃ y_ : List Bool, y_ = (x12_2.set ((rd t281 x13_2) : Int).toNat true) := ⟨_, rfl⟩
                  replace H : (butlerlaw11_RecipeOrders.l0 k4 l0 l1 a2 t275 t278 t281 y293 (wrap64 (x13_2 + 1))) = some r := by first | (rw [hy293]; with_reducible exact H) | (have H2_ := (Option.bind_some _ _).symm.trans H; rw [hy293]; with_reducible exact H2_) | (have H2_ := (Option.bind_some _ _).symm.trans H; with_reducible exact H2_) | with_reducible exact H | (rw [hy293]; exact H) | exact H
                  have Ny293 := Aside0.mk hy293
                  clear hy293
                  have H' := Aside0.mk H
                  clear H
                  have p54 : 0 ≤ ((rd t281 x13_2) : Int) := of_decide_eq_true (by first | (with_reducible assumption) | assumption)
                  have q54 : ((rd t281 x13_2) : Int) < ((x12_2.length : Int) : Int) := of_decide_eq_true (by first | (with_reducible assumption) | assumption)
                  obtain ⟨go54, co54, eo54, gb54, gl54, cl54, HG54⟩ := Kd.R_form HO_12.out (by omega)
                  (first | cases eo54 | (injection eo54 with ea_ en_ ec_; (first | subst ea_ | (injection ea_ with ea_; subst ea_)); subst ec_; clear en_))
                  have GB54 := Aside0.mk gb54
                  have GG54 := Aside0.mk HG54
                  clear gb54 gl54 HG54
                  obtain ⟨hx54_0, hf54_0⟩ := Kd.R_celln false HO_12.out ((rd t281 x13_2) : Int) p54 q54
                  replace p54 := eq_true p54
                  replace q54 := eq_true q54
                  have HP55 := Kd.R_putg HO_12.out ((rd t281 x13_2) : Int) true
                  go_wp2_with (first | ((with_reducible refine gate_store (t := 4) (p := 102) rfl ?_); (try (rw [drewN_self wr]; generalize hq_ : World.drewN wr _ = wr; have n0_ := Aside0.mk (Kd.S_at hq_ HO_9.out); have n1_ := Aside0.mk (Kd.R_at hq_ HO_10.out); have n2_ := Aside0.mk (Kd.R_at hq_ HO_11.out); have n3_ := Aside0.mk (Kd.R_at hq_ HO_12.out); have n4_ := Aside0.mk (below_at hq_ HB.out); clear hq_ HO_9 HO_10 HO_11 HO_12 HB; have HO_9 := n0_; have HO_10 := n1_; have HO_11 := n2_; have HO_12 := n3_; have HB := n4_; clear n0_ n1_ n2_ n3_ n4_; (try (have HP55 := Kd.R_putg HO_12.out ((rd t281 x13_2) : Int) true)))); refine store_event (t := 4) (p := 102) (v := ?vo_w56) (w1 := (wr.setCell ⟨go54, ((rd t281 x13_2) : Int).toNat, none⟩ (.bool true))) ?hg ?ho ?hn ?hr ?_; (case ho => rfl); (case hg => rfl); (case hn => rfl); (case hr => first | (go_simp; done) | (go_simp; rfl)); intro w56 hw; have hg : wr.grownBy w56 (some go54) := (by rw [hw]; exact HP55.2); have hp_ : Kd.R Kd.bool 4 w56 w.heap.size (fun k_ => some k_ ≠ (v279 : Value).ownBlock) (.slice (some ⟨go54, 0, none⟩) x12_2.length co54) y293 := (by rw [hw, Ny293.out]; exact HP55.1); clear HP55; have n0_ := Aside0.mk (Kd.S_after (v := (.slice (some ⟨go54, 0, none⟩) x12_2.length co54)) (v1 := (.slice (some ⟨go54, 0, none⟩) x12_2.length co54)) (ok := (fun k_ => some k_ ≠ (v279 : Value).ownBlock)) (by (with_reducible repeat (first | apply Kd.S_alloc | apply Kd.S_drewN | apply Kd.S_drew)); exact HO_9.out) hg (.inl rfl)); have n1_ := Aside0.mk (Kd.R_after (v := (.slice (some ⟨go54, 0, none⟩) x12_2.length co54)) (v1 := (.slice (some ⟨go54, 0, none⟩) x12_2.length co54)) (ok := (fun _ => True)) (by (with_reducible repeat (first | apply Kd.R_alloc | apply Kd.R_drewN | apply Kd.R_drew)); exact Kd.R_mono HO_10.out (fun _ hk => ⟨trivial, hk⟩)) hg (.inl rfl)); have n2_ := Aside0.mk (Kd.R_over' (v := (.slice (some ⟨go54, 0, none⟩) x12_2.length co54)) (by (with_reducible repeat (first | apply Kd.R_alloc | apply Kd.R_drewN | apply Kd.R_drew)); exact HO_11.out) (Kd.R_typed HO_12.out) (by decide) hg); have n3_ := Aside0.mk (hp_); have n4_ := Aside0.mk ((by rw [hw]; exact below_set (HB.out) GB54.out : Below w.heap.size w w56)); clear HO_9; clear HO_10; clear HO_11; clear HO_12; clear HB; have HO_9 := n0_; have HO_10 := n1_; have HO_11 := n2_; have HO_12 := n3_; have HB := n4_; clear n0_ n1_ n2_ n3_ n4_; clear hg hw hp_))
                  repeat (go_quiet (first | ((with_reducible refine gate_store (t := 4) (p := 102) rfl ?_); (try (rw [drewN_self wr]; generalize hq_ : World.drewN wr _ = wr; have n0_ := Aside0.mk (Kd.S_at hq_ HO_9.out); have n1_ := Aside0.mk (Kd.R_at hq_ HO_10.out); have n2_ := Aside0.mk (Kd.R_at hq_ HO_11.out); have n3_ := Aside0.mk (Kd.R_at hq_ HO_12.out); have n4_ := Aside0.mk (below_at hq_ HB.out); clear hq_ HO_9 HO_10 HO_11 HO_12 HB; have HO_9 := n0_; have HO_10 := n1_; have HO_11 := n2_; have HO_12 := n3_; have HB := n4_; clear n0_ n1_ n2_ n3_ n4_; (try (have HP55 := Kd.R_putg HO_12.out ((rd t281 x13_2) : Int) true)))); refine store_event (t := 4) (p := 102) (v := ?vo_w56) (w1 := (wr.setCell ⟨go54, ((rd t281 x13_2) : Int).toNat, none⟩ (.bool true))) ?hg ?ho ?hn ?hr ?_; (case ho => rfl); (case hg => rfl); (case hn => rfl); (case hr => first | (go_simp; done) | (go_simp; rfl)); intro w56 hw; have hg : wr.grownBy w56 (some go54) := (by rw [hw]; exact HP55.2); have hp_ : Kd.R Kd.bool 4 w56 w.heap.size (fun k_ => some k_ ≠ (v279 : Value).ownBlock) (.slice (some ⟨go54, 0, none⟩) x12_2.length co54) y293 := (by rw [hw, Ny293.out]; exact HP55.1); clear HP55; have n0_ := Aside0.mk (Kd.S_after (v := (.slice (some ⟨go54, 0, none⟩) x12_2.length co54)) (v1 := (.slice (some ⟨go54, 0, none⟩) x12_2.length co54)) (ok := (fun k_ => some k_ ≠ (v279 : Value).ownBlock)) (by (with_reducible repeat (first | apply Kd.S_alloc | apply Kd.S_drewN | apply Kd.S_drew)); exact HO_9.out) hg (.inl rfl)); have n1_ := Aside0.mk (Kd.R_after (v := (.slice (some ⟨go54, 0, none⟩) x12_2.length co54)) (v1 := (.slice (some ⟨go54, 0, none⟩) x12_2.length co54)) (ok := (fun _ => True)) (by (with_reducible repeat (first | apply Kd.R_alloc | apply Kd.R_drewN | apply Kd.R_drew)); exact Kd.R_mono HO_10.out (fun _ hk => ⟨trivial, hk⟩)) hg (.inl rfl)); have n2_ := Aside0.mk (Kd.R_over' (v := (.slice (some ⟨go54, 0, none⟩) x12_2.length co54)) (by (with_reducible repeat (first | apply Kd.R_alloc | apply Kd.R_drewN | apply Kd.R_drew)); exact HO_11.out) (Kd.R_typed HO_12.out) (by decide) hg); have n3_ := Aside0.mk (hp_); have n4_ := Aside0.mk ((by rw [hw]; exact below_set (HB.out) GB54.out : Below w.heap.size w w56)); clear HO_9; clear HO_10; clear HO_11; clear HO_12; clear HB; have HO_9 := n0_; have HO_10 := n1_; have HO_11 := n2_; have HO_12 := n3_; have HB := n4_; clear n0_ n1_ n2_ n3_ n4_; clear hg hw hp_)); try go_wp2_with (first | ((with_reducible refine gate_store (t := 4) (p := 102) rfl ?_); (try (rw [drewN_self wr]; generalize hq_ : World.drewN wr _ = wr; have n0_ := Aside0.mk (Kd.S_at hq_ HO_9.out); have n1_ := Aside0.mk (Kd.R_at hq_ HO_10.out); have n2_ := Aside0.mk (Kd.R_at hq_ HO_11.out); have n3_ := Aside0.mk (Kd.R_at hq_ HO_12.out); have n4_ := Aside0.mk (below_at hq_ HB.out); clear hq_ HO_9 HO_10 HO_11 HO_12 HB; have HO_9 := n0_; have HO_10 := n1_; have HO_11 := n2_; have HO_12 := n3_; have HB := n4_; clear n0_ n1_ n2_ n3_ n4_; (try (have HP55 := Kd.R_putg HO_12.out ((rd t281 x13_2) : Int) true)))); refine store_event (t := 4) (p := 102) (v := ?vo_w56) (w1 := (wr.setCell ⟨go54, ((rd t281 x13_2) : Int).toNat, none⟩ (.bool true))) ?hg ?ho ?hn ?hr ?_; (case ho => rfl); (case hg => rfl); (case hn => rfl); (case hr => first | (go_simp; done) | (go_simp; rfl)); intro w56 hw; have hg : wr.grownBy w56 (some go54) := (by rw [hw]; exact HP55.2); have hp_ : Kd.R Kd.bool 4 w56 w.heap.size (fun k_ => some k_ ≠ (v279 : Value).ownBlock) (.slice (some ⟨go54, 0, none⟩) x12_2.length co54) y293 := (by rw [hw, Ny293.out]; exact HP55.1); clear HP55; have n0_ := Aside0.mk (Kd.S_after (v := (.slice (some ⟨go54, 0, none⟩) x12_2.length co54)) (v1 := (.slice (some ⟨go54, 0, none⟩) x12_2.length co54)) (ok := (fun k_ => some k_ ≠ (v279 : Value).ownBlock)) (by (with_reducible repeat (first | apply Kd.S_alloc | apply Kd.S_drewN | apply Kd.S_drew)); exact HO_9.out) hg (.inl rfl)); have n1_ := Aside0.mk (Kd.R_after (v := (.slice (some ⟨go54, 0, none⟩) x12_2.length co54)) (v1 := (.slice (some ⟨go54, 0, none⟩) x12_2.length co54)) (ok := (fun _ => True)) (by (with_reducible repeat (first | apply Kd.R_alloc | apply Kd.R_drewN | apply Kd.R_drew)); exact Kd.R_mono HO_10.out (fun _ hk => ⟨trivial, hk⟩)) hg (.inl rfl)); have n2_ := Aside0.mk (Kd.R_over' (v := (.slice (some ⟨go54, 0, none⟩) x12_2.length co54)) (by (with_reducible repeat (first | apply Kd.R_alloc | apply Kd.R_drewN | apply Kd.R_drew)); exact HO_11.out) (Kd.R_typed HO_12.out) (by decide) hg); have n3_ := Aside0.mk (hp_); have n4_ := Aside0.mk ((by rw [hw]; exact below_set (HB.out) GB54.out : Below w.heap.size w w56)); clear HO_9; clear HO_10; clear HO_11; clear HO_12; clear HB; have HO_9 := n0_; have HO_10 := n1_; have HO_11 := n2_; have HO_12 := n3_; have HB := n4_; clear n0_ n1_ n2_ n3_ n4_; clear hg hw hp_)))
                  go_roundg k4
                  case measure => have := HJ5.out; have := HK2.out; have := HJ23.out; have := HK4.out; omega
                  case rel => exact ⟨(y293), (wrap64 (x13_2 + 1)), (by first | rfl | (simp; done) | (simp [*]; done)), H', ⟨by have := HJ5.out; have := HK2.out; have := HJ23.out; have := HK4.out; omega⟩, ⟨by (with_reducible repeat (first | apply Kd.S_alloc | apply Kd.S_drewN | apply Kd.S_drew)); exact HO_9.out⟩, ⟨by (with_reducible repeat (first | apply Kd.R_alloc | apply Kd.R_drewN | apply Kd.R_drew)); exact Kd.R_mono HO_10.out (fun _ hk => hk.2)⟩, ⟨by (with_reducible repeat (first | apply Kd.R_alloc | apply Kd.R_drewN | apply Kd.R_drew)); exact HO_11.out⟩, ⟨by (with_reducible repeat (first | apply Kd.R_alloc | apply Kd.R_drewN | apply Kd.R_drew)); exact HO_12.out⟩, ⟨by repeat (first | (with_reducible first | exact HB.out | apply below_alloc | apply pw_below_drewN | apply below_drew1) | exact HB.out)⟩⟩
                 ·rw [if_neg c53] at H
                  exact absurd H (by simp)
                ·rw [if_neg c52] at H
                 exact absurd H (by simp)
         ·rw [if_neg c23] at H
          exact absurd H (by simp)
        ·rw [if_neg c22] at H
         have c22b0 : decide (x13_2 < (t281.length : Int)) = false := decide_eq_false c22
         clear c22
         have H' := Aside0.mk H
         clear H
         obtain ⟨Ao57, co57, eo57⟩ := Kd.R_slice HO_11.out
         subst eo57
         go_wp2
         repeat (go_quiet (fail); try go_wp2)
         go_loopg [16] k2 (fun kq v16 w' => ∃ (x16_3 : Int), v16 = .int .i64 x16_3 ∧ Aside0 (butlerlaw11_RecipeOrders.l2 kq l0 l1 a2 t278 t281 x12_2 x16_3 = some r) ∧ Aside0 (kq ≤ k2) ∧ Aside0 (Kd.R Kd.bool 4 w' w.heap.size (fun k_ => some k_ ≠ (v285 : Value).ownBlock) v279 t278) ∧ Aside0 (Kd.R (Kd.int .i64) 3 w' w.heap.size (fun _ => True) (.slice Ao57 t281.length co57) t281) ∧ Aside0 (Kd.R Kd.bool 4 w' w.heap.size (fun k_ => some k_ ≠ (v279 : Value).ownBlock) v285 x12_2) ∧ Aside0 (Below w.heap.size w w'))
         case atStart => exact ⟨(0), (by first | rfl | (simp; done) | (simp [*]; done)), H', ⟨Nat.le_refl _⟩, ⟨by (with_reducible repeat (first | apply Kd.R_alloc | apply Kd.R_drewN | apply Kd.R_drew)); exact HO_10.out⟩, ⟨by (with_reducible repeat (first | apply Kd.R_alloc | apply Kd.R_drewN | apply Kd.R_drew)); exact HO_11.out⟩, ⟨by (with_reducible repeat (first | apply Kd.R_alloc | apply Kd.R_drewN | apply Kd.R_drew)); exact HO_12.out⟩, ⟨by repeat (first | (with_reducible first | exact HB.out | apply below_alloc | apply pw_below_drewN | apply below_drew1) | exact HB.out)⟩⟩
         case round =>
          clear H'
          try clear c1
          try clear c2
          try clear p2
          try clear q2
          try clear hx2
          try clear c3
          try clear q3
          try clear c4
          try clear q4
          try clear c5
          try clear p5
          try clear q5
          try clear hx5
          try clear hf5
          try clear c6
          try clear p6
          try clear c9
          try clear c10
          try clear c10b0
          try clear c10b1
          try clear c11
          try clear c15
          try clear c15b0
          try clear c15b1
          try clear c16
          try clear c16b0
          try clear c16b1
          try clear c22
          try clear c22b0
          try clear c23
          try clear c23b0
          try clear c26
          try clear c26b0
          try clear c27
          try clear c27b0
          try clear c28
          try clear c28b0
          try clear p28
          try clear q28
          try clear hx28
          try clear c29
          try clear c29b0
          try clear p29
          try clear q29
          try clear hx29
          try clear q30
          try clear c31
          try clear c33
          try clear c33b0
          try clear c36
          try clear c37
          try clear c37b0
          try clear c38
          try clear c38b0
          try clear c39
          try clear c39b0
          try clear c40
          try clear c40b0
          try clear c41
          try clear c41b0
          try clear q42
          try clear c43
          try clear c44
          try clear c44b0
          try clear q45
          try clear c46
          try clear c52
          try clear c52b0
          try clear c53
          try clear c53b0
          try clear p54
          try clear q54
          try clear hx54
          try clear hf54
          try clear hx287_0
          try clear hx288_0
          try clear hx289_0
          try clear hx290_0
          try clear hx291_0
          try clear hx292_0
          try clear hx54_0
          try clear p2
          try clear p28
          try clear p287
          try clear p288
          try clear p289
          try clear p290
          try clear p291
          try clear p292
          try clear p54
          try clear q2
          try clear q28
          try clear q287
          try clear q288
          try clear q289
          try clear q290
          try clear q291
          try clear q292
          try clear q3
          try clear q30
          try clear q54
          obtain ⟨x16_3, rfl, HA, HK3, HO_10, HO_11, HO_12, HB⟩ := hrel
          cases gk with
          | zero => exact absurd HA.out (by simp [butlerlaw11_RecipeOrders.l2])
          | succ k3 =>
           have H := HA.out
           clear HA
           simp only [butlerlaw11_RecipeOrders.l2] at H
           by_cases c58 : x16_3 < (l0.length : Int)
           ·rw [if_pos c58] at H
            have c58b0 : decide (x16_3 < (l0.length : Int)) = true := decide_eq_true c58
            clear c58
            replace H := Option.bind_eq_some_iff.mp H
            obtain ⟨⟨t294, t295⟩, A590, H⟩ := H
            replace H : (if 0 ≤ x16_3 then (if x16_3 < (x12_2.length : Int) then (if x16_3 < (t278.length : Int) then (if rdOf false t278 x16_3 = true then (if ((rdOf false x12_2 x16_3) != t294) = true then (some false) else (butlerlaw11_RecipeOrders.l2 k3 l0 l1 a2 t278 t281 x12_2 (wrap64 (x16_3 + 1)))) else (if ((rdOf false x12_2 x16_3) != false) = true then (some false) else (butlerlaw11_RecipeOrders.l2 k3 l0 l1 a2 t278 t281 x12_2 (wrap64 (x16_3 + 1))))) else (none)) else (none)) else (none)) = some r := H
            have A59 := Aside0.mk A590
            clear A590
            by_cases c60 : 0 ≤ x16_3
            ·rw [if_pos c60] at H
             have c60b0 : decide (0 ≤ x16_3) = true := decide_eq_true c60
             clear c60
             by_cases c61 : x16_3 < (x12_2.length : Int)
             ·rw [if_pos c61] at H
              have c61b0 : decide (x16_3 < (x12_2.length : Int)) = true := decide_eq_true c61
              clear c61
              by_cases c62 : x16_3 < (t278.length : Int)
              ·rw [if_pos c62] at H
               have c62b0 : decide (x16_3 < (t278.length : Int)) = true := decide_eq_true c62
               clear c62
               obtain ⟨bq63, hbq63⟩ : ∃ b_ : Bool, b_ = (rdOf false t278 x16_3) := ⟨_, rfl⟩
               replace H : (if bq63 = true then (if ((rdOf false x12_2 x16_3) != t294) = true then (some false) else (butlerlaw11_RecipeOrders.l2 k3 l0 l1 a2 t278 t281 x12_2 (wrap64 (x16_3 + 1)))) else (if ((rdOf false x12_2 x16_3) != false) = true then (some false) else (butlerlaw11_RecipeOrders.l2 k3 l0 l1 a2 t278 t281 x12_2 (wrap64 (x16_3 + 1))))) = some r := by rw [← hbq63] at H; exact H
               have Nbq63 := Aside0.mk hbq63
               clear hbq63
               by_cases c64 : bq63 = true
               ·subst c64
                have H1 : (if ((rdOf false x12_2 x16_3) != t294) = true then (some false) else (butlerlaw11_RecipeOrders.l2 k3 l0 l1 a2 t278 t281 x12_2 (wrap64 (x16_3 + 1)))) = some r := by rw [if_pos rfl] at H; exact H
                clear H
                have H := H1
                clear H1
                by_cases c65 : ((rdOf false x12_2 x16_3) != t294) = true
                ·rw [if_pos c65] at H
                 have c65b0 : ((rdOf false x12_2 x16_3) != t294) = true := c65
                 (try (have c65b1 : decide ((rdOf false x12_2 x16_3) = t294) = false := by simpa using c65))
                 (try (have c65b2 : ((rdOf false x12_2 x16_3) == t294) = false := by simpa using c65))
                 (try (have c65b3 : ¬ ((rdOf false x12_2 x16_3) = t294) := by simpa using c65))
                 clear c65
                 obtain rfl := Option.some.inj H
                 go_wp2_with (first | (go_at_call 13; (with_reducible refine (recipe_Fate.calls k3 _ _ l0 x16_3 t294 t295 _ ?side1 ?side2 A59.out).mono ?_); (case side1 => repeat (first | exact (Kd.C_below HR0.out HB.out) | (with_reducible refine Kd.C_alloc ?_ _) | (with_reducible refine Kd.C_drewN ?_ _) | (with_reducible refine Kd.C_drew ?_))); (case side2 => exact HC0.out); rintro e w66 ⟨rfl, hb⟩; have n0_ := Aside0.mk (Kd.R_below (by (with_reducible repeat (first | apply Kd.R_alloc | apply Kd.R_drewN | apply Kd.R_drew)); exact HO_10.out) hb); have n1_ := Aside0.mk (Kd.R_below (by (with_reducible repeat (first | apply Kd.R_alloc | apply Kd.R_drewN | apply Kd.R_drew)); exact HO_11.out) hb); have n2_ := Aside0.mk (Kd.R_below (by (with_reducible repeat (first | apply Kd.R_alloc | apply Kd.R_drewN | apply Kd.R_drew)); exact HO_12.out) hb); have n3_ := Aside0.mk (below_step (by repeat (first | (with_reducible first | exact HB.out | apply below_alloc | apply pw_below_drewN | apply below_drew1) | exact HB.out)) hb); clear HO_10; clear HO_11; clear HO_12; clear HB; have HO_10 := n0_; have HO_11 := n1_; have HO_12 := n2_; have HB := n3_; clear n0_ n1_ n2_ n3_; (try clear hb); (try clear hb2); (try clear hk); (try clear hi); obtain ⟨Ao67, co67, eo67⟩ := Kd.R_slice HO_12.out; subst eo67; have p296 : 0 ≤ (x16_3 : Int) := of_decide_eq_true (by first | (with_reducible assumption) | assumption); have q296 : x16_3 < (x12_2.length : Int) := of_decide_eq_true (by first | (with_reducible assumption) | assumption); obtain ⟨ad296, e296, hx296_0⟩ := Kd.at_bool (Kd.R_reads' HO_12.out).2.2 x16_3 p296 q296; (try rw [← Nbq63.out] at hx296_0); cases e296; replace p296 := eq_true p296; replace q296 := eq_true q296; obtain ⟨Ao68, co68, eo68⟩ := Kd.R_slice HO_10.out; subst eo68; have p297 : 0 ≤ (x16_3 : Int) := of_decide_eq_true (by first | (with_reducible assumption) | assumption); have q297 : x16_3 < (t278.length : Int) := of_decide_eq_true (by first | (with_reducible assumption) | assumption); obtain ⟨ad297, e297, hx297_0⟩ := Kd.at_bool (Kd.R_reads' HO_10.out).2.2 x16_3 p297 q297; (try rw [← Nbq63.out] at hx297_0); cases e297; replace p297 := eq_true p297; replace q297 := eq_true q297))
                 repeat (go_quiet (first | (go_at_call 13; (with_reducible refine (recipe_Fate.calls k3 _ _ l0 x16_3 t294 t295 _ ?side1 ?side2 A59.out).mono ?_); (case side1 => repeat (first | exact (Kd.C_below HR0.out HB.out) | (with_reducible refine Kd.C_alloc ?_ _) | (with_reducible refine Kd.C_drewN ?_ _) | (with_reducible refine Kd.C_drew ?_))); (case side2 => exact HC0.out); rintro e w66 ⟨rfl, hb⟩; have n0_ := Aside0.mk (Kd.R_below (by (with_reducible repeat (first | apply Kd.R_alloc | apply Kd.R_drewN | apply Kd.R_drew)); exact HO_10.out) hb); have n1_ := Aside0.mk (Kd.R_below (by (with_reducible repeat (first | apply Kd.R_alloc | apply Kd.R_drewN | apply Kd.R_drew)); exact HO_11.out) hb); have n2_ := Aside0.mk (Kd.R_below (by (with_reducible repeat (first | apply Kd.R_alloc | apply Kd.R_drewN | apply Kd.R_drew)); exact HO_12.out) hb); have n3_ := Aside0.mk (below_step (by repeat (first | (with_reducible first | exact HB.out | apply below_alloc | apply pw_below_drewN | apply below_drew1) | exact HB.out)) hb); clear HO_10; clear HO_11; clear HO_12; clear HB; have HO_10 := n0_; have HO_11 := n1_; have HO_12 := n2_; have HB := n3_; clear n0_ n1_ n2_ n3_; (try clear hb); (try clear hb2); (try clear hk); (try clear hi); obtain ⟨Ao67, co67, eo67⟩ := Kd.R_slice HO_12.out; subst eo67; have p296 : 0 ≤ (x16_3 : Int) := of_decide_eq_true (by first | (with_reducible assumption) | assumption); have q296 : x16_3 < (x12_2.length : Int) := of_decide_eq_true (by first | (with_reducible assumption) | assumption); obtain ⟨ad296, e296, hx296_0⟩ := Kd.at_bool (Kd.R_reads' HO_12.out).2.2 x16_3 p296 q296; (try rw [← Nbq63.out] at hx296_0); cases e296; replace p296 := eq_true p296; replace q296 := eq_true q296; obtain ⟨Ao68, co68, eo68⟩ := Kd.R_slice HO_10.out; subst eo68; have p297 : 0 ≤ (x16_3 : Int) := of_decide_eq_true (by first | (with_reducible assumption) | assumption); have q297 : x16_3 < (t278.length : Int) := of_decide_eq_true (by first | (with_reducible assumption) | assumption); obtain ⟨ad297, e297, hx297_0⟩ := Kd.at_bool (Kd.R_reads' HO_10.out).2.2 x16_3 p297 q297; (try rw [← Nbq63.out] at hx297_0); cases e297; replace p297 := eq_true p297; replace q297 := eq_true q297)); try go_wp2_with (first | (go_at_call 13; (with_reducible refine (recipe_Fate.calls k3 _ _ l0 x16_3 t294 t295 _ ?side1 ?side2 A59.out).mono ?_); (case side1 => repeat (first | exact (Kd.C_below HR0.out HB.out) | (with_reducible refine Kd.C_alloc ?_ _) | (with_reducible refine Kd.C_drewN ?_ _) | (with_reducible refine Kd.C_drew ?_))); (case side2 => exact HC0.out); rintro e w66 ⟨rfl, hb⟩; have n0_ := Aside0.mk (Kd.R_below (by (with_reducible repeat (first | apply Kd.R_alloc | apply Kd.R_drewN | apply Kd.R_drew)); exact HO_10.out) hb); have n1_ := Aside0.mk (Kd.R_below (by (with_reducible repeat (first | apply Kd.R_alloc | apply Kd.R_drewN | apply Kd.R_drew)); exact HO_11.out) hb); have n2_ := Aside0.mk (Kd.R_below (by (with_reducible repeat (first | apply Kd.R_alloc | apply Kd.R_drewN | apply Kd.R_drew)); exact HO_12.out) hb); have n3_ := Aside0.mk (below_step (by repeat (first | (with_reducible first | exact HB.out | apply below_alloc | apply pw_below_drewN | apply below_drew1) | exact HB.out)) hb); clear HO_10; clear HO_11; clear HO_12; clear HB; have HO_10 := n0_; have HO_11 := n1_; have HO_12 := n2_; have HB := n3_; clear n0_ n1_ n2_ n3_; (try clear hb); (try clear hb2); (try clear hk); (try clear hi); obtain ⟨Ao67, co67, eo67⟩ := Kd.R_slice HO_12.out; subst eo67; have p296 : 0 ≤ (x16_3 : Int) := of_decide_eq_true (by first | (with_reducible assumption) | assumption); have q296 : x16_3 < (x12_2.length : Int) := of_decide_eq_true (by first | (with_reducible assumption) | assumption); obtain ⟨ad296, e296, hx296_0⟩ := Kd.at_bool (Kd.R_reads' HO_12.out).2.2 x16_3 p296 q296; (try rw [← Nbq63.out] at hx296_0); cases e296; replace p296 := eq_true p296; replace q296 := eq_true q296; obtain ⟨Ao68, co68, eo68⟩ := Kd.R_slice HO_10.out; subst eo68; have p297 : 0 ≤ (x16_3 : Int) := of_decide_eq_true (by first | (with_reducible assumption) | assumption); have q297 : x16_3 < (t278.length : Int) := of_decide_eq_true (by first | (with_reducible assumption) | assumption); obtain ⟨ad297, e297, hx297_0⟩ := Kd.at_bool (Kd.R_reads' HO_10.out).2.2 x16_3 p297 q297; (try rw [← Nbq63.out] at hx297_0); cases e297; replace p297 := eq_true p297; replace q297 := eq_true q297)))
                 go_ret
                 exact ⟨by first | rfl | (simp [errW_none, errW_some] <;> rfl) | (simp [*, errW_none, errW_some] <;> rfl), by repeat (first | (with_reducible first | exact HB.out | apply below_alloc | apply pw_below_drewN | apply below_drew1) | exact HB.out)⟩
                ·rw [if_neg c65] at H
                 have c65b0 : ((rdOf false x12_2 x16_3) != t294) = false := by simpa using c65
                 (try (have c65b1 : decide ((rdOf false x12_2 x16_3) = t294) = true := by simpa using c65))
                 (try (have c65b2 : ((rdOf false x12_2 x16_3) == t294) = true := by simpa using c65))
                 clear c65
                 have H' := Aside0.mk H
                 clear H
                 go_wp2_with (first | (go_at_call 13; (with_reducible refine (recipe_Fate.calls k3 _ _ l0 x16_3 t294 t295 _ ?side1 ?side2 A59.out).mono ?_); (case side1 => repeat (first | exact (Kd.C_below HR0.out HB.out) | (with_reducible refine Kd.C_alloc ?_ _) | (with_reducible refine Kd.C_drewN ?_ _) | (with_reducible refine Kd.C_drew ?_))); (case side2 => exact HC0.out); rintro e w69 ⟨rfl, hb⟩; have n0_ := Aside0.mk (Kd.R_below (by (with_reducible repeat (first | apply Kd.R_alloc | apply Kd.R_drewN | apply Kd.R_drew)); exact HO_10.out) hb); have n1_ := Aside0.mk (Kd.R_below (by (with_reducible repeat (first | apply Kd.R_alloc | apply Kd.R_drewN | apply Kd.R_drew)); exact HO_11.out) hb); have n2_ := Aside0.mk (Kd.R_below (by (with_reducible repeat (first | apply Kd.R_alloc | apply Kd.R_drewN | apply Kd.R_drew)); exact HO_12.out) hb); have n3_ := Aside0.mk (below_step (by repeat (first | (with_reducible first | exact HB.out | apply below_alloc | apply pw_below_drewN | apply below_drew1) | exact HB.out)) hb); clear HO_10; clear HO_11; clear HO_12; clear HB; have HO_10 := n0_; have HO_11 := n1_; have HO_12 := n2_; have HB := n3_; clear n0_ n1_ n2_ n3_; (try clear hb); (try clear hb2); (try clear hk); (try clear hi); obtain ⟨Ao70, co70, eo70⟩ := Kd.R_slice HO_12.out; subst eo70; have p296 : 0 ≤ (x16_3 : Int) := of_decide_eq_true (by first | (with_reducible assumption) | assumption); have q296 : x16_3 < (x12_2.length : Int) := of_decide_eq_true (by first | (with_reducible assumption) | assumption); obtain ⟨ad296, e296, hx296_0⟩ := Kd.at_bool (Kd.R_reads' HO_12.out).2.2 x16_3 p296 q296; (try rw [← Nbq63.out] at hx296_0); cases e296; replace p296 := eq_true p296; replace q296 := eq_true q296; obtain ⟨Ao71, co71, eo71⟩ := Kd.R_slice HO_10.out; subst eo71; have p297 : 0 ≤ (x16_3 : Int) := of_decide_eq_true (by first | (with_reducible assumption) | assumption); have q297 : x16_3 < (t278.length : Int) := of_decide_eq_true (by first | (with_reducible assumption) | assumption); obtain ⟨ad297, e297, hx297_0⟩ := Kd.at_bool (Kd.R_reads' HO_10.out).2.2 x16_3 p297 q297; (try rw [← Nbq63.out] at hx297_0); cases e297; replace p297 := eq_true p297; replace q297 := eq_true q297))
                 repeat (go_quiet (first | (go_at_call 13; (with_reducible refine (recipe_Fate.calls k3 _ _ l0 x16_3 t294 t295 _ ?side1 ?side2 A59.out).mono ?_); (case side1 => repeat (first | exact (Kd.C_below HR0.out HB.out) | (with_reducible refine Kd.C_alloc ?_ _) | (with_reducible refine Kd.C_drewN ?_ _) | (with_reducible refine Kd.C_drew ?_))); (case side2 => exact HC0.out); rintro e w69 ⟨rfl, hb⟩; have n0_ := Aside0.mk (Kd.R_below (by (with_reducible repeat (first | apply Kd.R_alloc | apply Kd.R_drewN | apply Kd.R_drew)); exact HO_10.out) hb); have n1_ := Aside0.mk (Kd.R_below (by (with_reducible repeat (first | apply Kd.R_alloc | apply Kd.R_drewN | apply Kd.R_drew)); exact HO_11.out) hb); have n2_ := Aside0.mk (Kd.R_below (by (with_reducible repeat (first | apply Kd.R_alloc | apply Kd.R_drewN | apply Kd.R_drew)); exact HO_12.out) hb); have n3_ := Aside0.mk (below_step (by repeat (first | (with_reducible first | exact HB.out | apply below_alloc | apply pw_below_drewN | apply below_drew1) | exact HB.out)) hb); clear HO_10; clear HO_11; clear HO_12; clear HB; have HO_10 := n0_; have HO_11 := n1_; have HO_12 := n2_; have HB := n3_; clear n0_ n1_ n2_ n3_; (try clear hb); (try clear hb2); (try clear hk); (try clear hi); obtain ⟨Ao70, co70, eo70⟩ := Kd.R_slice HO_12.out; subst eo70; have p296 : 0 ≤ (x16_3 : Int) := of_decide_eq_true (by first | (with_reducible assumption) | assumption); have q296 : x16_3 < (x12_2.length : Int) := of_decide_eq_true (by first | (with_reducible assumption) | assumption); obtain ⟨ad296, e296, hx296_0⟩ := Kd.at_bool (Kd.R_reads' HO_12.out).2.2 x16_3 p296 q296; (try rw [← Nbq63.out] at hx296_0); cases e296; replace p296 := eq_true p296; replace q296 := eq_true q296; obtain ⟨Ao71, co71, eo71⟩ := Kd.R_slice HO_10.out; subst eo71; have p297 : 0 ≤ (x16_3 : Int) := of_decide_eq_true (by first | (with_reducible assumption) | assumption); have q297 : x16_3 < (t278.length : Int) := of_decide_eq_true (by first | (with_reducible assumption) | assumption); obtain ⟨ad297, e297, hx297_0⟩ := Kd.at_bool (Kd.R_reads' HO_10.out).2.2 x16_3 p297 q297; (try rw [← Nbq63.out] at hx297_0); cases e297; replace p297 := eq_true p297; replace q297 := eq_true q297)); try go_wp2_with (first | (go_at_call 13; (with_reducible refine (recipe_Fate.calls k3 _ _ l0 x16_3 t294 t295 _ ?side1 ?side2 A59.out).mono ?_); (case side1 => repeat (first | exact (Kd.C_below HR0.out HB.out) | (with_reducible refine Kd.C_alloc ?_ _) | (with_reducible refine Kd.C_drewN ?_ _) | (with_reducible refine Kd.C_drew ?_))); (case side2 => exact HC0.out); rintro e w69 ⟨rfl, hb⟩; have n0_ := Aside0.mk (Kd.R_below (by (with_reducible repeat (first | apply Kd.R_alloc | apply Kd.R_drewN | apply Kd.R_drew)); exact HO_10.out) hb); have n1_ := Aside0.mk (Kd.R_below (by (with_reducible repeat (first | apply Kd.R_alloc | apply Kd.R_drewN | apply Kd.R_drew)); exact HO_11.out) hb); have n2_ := Aside0.mk (Kd.R_below (by (with_reducible repeat (first | apply Kd.R_alloc | apply Kd.R_drewN | apply Kd.R_drew)); exact HO_12.out) hb); have n3_ := Aside0.mk (below_step (by repeat (first | (with_reducible first | exact HB.out | apply below_alloc | apply pw_below_drewN | apply below_drew1) | exact HB.out)) hb); clear HO_10; clear HO_11; clear HO_12; clear HB; have HO_10 := n0_; have HO_11 := n1_; have HO_12 := n2_; have HB := n3_; clear n0_ n1_ n2_ n3_; (try clear hb); (try clear hb2); (try clear hk); (try clear hi); obtain ⟨Ao70, co70, eo70⟩ := Kd.R_slice HO_12.out; subst eo70; have p296 : 0 ≤ (x16_3 : Int) := of_decide_eq_true (by first | (with_reducible assumption) | assumption); have q296 : x16_3 < (x12_2.length : Int) := of_decide_eq_true (by first | (with_reducible assumption) | assumption); obtain ⟨ad296, e296, hx296_0⟩ := Kd.at_bool (Kd.R_reads' HO_12.out).2.2 x16_3 p296 q296; (try rw [← Nbq63.out] at hx296_0); cases e296; replace p296 := eq_true p296; replace q296 := eq_true q296; obtain ⟨Ao71, co71, eo71⟩ := Kd.R_slice HO_10.out; subst eo71; have p297 : 0 ≤ (x16_3 : Int) := of_decide_eq_true (by first | (with_reducible assumption) | assumption); have q297 : x16_3 < (t278.length : Int) := of_decide_eq_true (by first | (with_reducible assumption) | assumption); obtain ⟨ad297, e297, hx297_0⟩ := Kd.at_bool (Kd.R_reads' HO_10.out).2.2 x16_3 p297 q297; (try rw [← Nbq63.out] at hx297_0); cases e297; replace p297 := eq_true p297; replace q297 := eq_true q297)))
                 go_roundg k3
                 case measure => have := HJ5.out; have := HK2.out; have := HK3.out; omega
                 case rel => exact ⟨(wrap64 (x16_3 + 1)), (by first | rfl | (simp; done) | (simp [*]; done)), H', ⟨by have := HJ5.out; have := HK2.out; have := HK3.out; omega⟩, ⟨by (with_reducible repeat (first | apply Kd.R_alloc | apply Kd.R_drewN | apply Kd.R_drew)); exact HO_10.out⟩, ⟨by (with_reducible repeat (first | apply Kd.R_alloc | apply Kd.R_drewN | apply Kd.R_drew)); exact HO_11.out⟩, ⟨by (with_reducible repeat (first | apply Kd.R_alloc | apply Kd.R_drewN | apply Kd.R_drew)); exact HO_12.out⟩, ⟨by repeat (first | (with_reducible first | exact HB.out | apply below_alloc | apply pw_below_drewN | apply below_drew1) | exact HB.out)⟩⟩
               ·replace c64 := Bool.eq_false_iff.mpr c64
                subst c64
                have H1 : (if ((rdOf false x12_2 x16_3) != false) = true then (some false) else (butlerlaw11_RecipeOrders.l2 k3 l0 l1 a2 t278 t281 x12_2 (wrap64 (x16_3 + 1)))) = some r := by rw [if_neg (show ¬ (false = true) by decide)] at H; exact H
                clear H
                have H := H1
                clear H1
                by_cases c72 : ((rdOf false x12_2 x16_3) != false) = true
                ·rw [if_pos c72] at H
                 have c72b0 : ((rdOf false x12_2 x16_3) != false) = true := c72
                 (try (have c72b1 : decide ((rdOf false x12_2 x16_3) = false) = false := by simpa using c72))
                 (try (have c72b2 : ((rdOf false x12_2 x16_3) == false) = false := by simpa using c72))
                 (try (have c72b3 : ¬ ((rdOf false x12_2 x16_3) = false) := by simpa using c72))
                 clear c72
                 obtain rfl := Option.some.inj H
                 go_wp2_with (first | (go_at_call 13; (with_reducible refine (recipe_Fate.calls k3 _ _ l0 x16_3 t294 t295 _ ?side1 ?side2 A59.out).mono ?_); (case side1 => repeat (first | exact (Kd.C_below HR0.out HB.out) | (with_reducible refine Kd.C_alloc ?_ _) | (with_reducible refine Kd.C_drewN ?_ _) | (with_reducible refine Kd.C_drew ?_))); (case side2 => exact HC0.out); rintro e w73 ⟨rfl, hb⟩; have n0_ := Aside0.mk (Kd.R_below (by (with_reducible repeat (first | apply Kd.R_alloc | apply Kd.R_drewN | apply Kd.R_drew)); exact HO_10.out) hb); have n1_ := Aside0.mk (Kd.R_below (by (with_reducible repeat (first | apply Kd.R_alloc | apply Kd.R_drewN | apply Kd.R_drew)); exact HO_11.out) hb); have n2_ := Aside0.mk (Kd.R_below (by (with_reducible repeat (first | apply Kd.R_alloc | apply Kd.R_drewN | apply Kd.R_drew)); exact HO_12.out) hb); have n3_ := Aside0.mk (below_step (by repeat (first | (with_reducible first | exact HB.out | apply below_alloc | apply pw_below_drewN | apply below_drew1) | exact HB.out)) hb); clear HO_10; clear HO_11; clear HO_12; clear HB; have HO_10 := n0_; have HO_11 := n1_; have HO_12 := n2_; have HB := n3_; clear n0_ n1_ n2_ n3_; (try clear hb); (try clear hb2); (try clear hk); (try clear hi); obtain ⟨Ao74, co74, eo74⟩ := Kd.R_slice HO_12.out; subst eo74; have p296 : 0 ≤ (x16_3 : Int) := of_decide_eq_true (by first | (with_reducible assumption) | assumption); have q296 : x16_3 < (x12_2.length : Int) := of_decide_eq_true (by first | (with_reducible assumption) | assumption); obtain ⟨ad296, e296, hx296_0⟩ := Kd.at_bool (Kd.R_reads' HO_12.out).2.2 x16_3 p296 q296; (try rw [← Nbq63.out] at hx296_0); cases e296; replace p296 := eq_true p296; replace q296 := eq_true q296; obtain ⟨Ao75, co75, eo75⟩ := Kd.R_slice HO_10.out; subst eo75; have p297 : 0 ≤ (x16_3 : Int) := of_decide_eq_true (by first | (with_reducible assumption) | assumption); have q297 : x16_3 < (t278.length : Int) := of_decide_eq_true (by first | (with_reducible assumption) | assumption); obtain ⟨ad297, e297, hx297_0⟩ := Kd.at_bool (Kd.R_reads' HO_10.out).2.2 x16_3 p297 q297; (try rw [← Nbq63.out] at hx297_0); cases e297; replace p297 := eq_true p297; replace q297 := eq_true q297))
                 repeat (go_quiet (first | (go_at_call 13; (with_reducible refine (recipe_Fate.calls k3 _ _ l0 x16_3 t294 t295 _ ?side1 ?side2 A59.out).mono ?_); (case side1 => repeat (first | exact (Kd.C_below HR0.out HB.out) | (with_reducible refine Kd.C_alloc ?_ _) | (with_reducible refine Kd.C_drewN ?_ _) | (with_reducible refine Kd.C_drew ?_))); (case side2 => exact HC0.out); rintro e w73 ⟨rfl, hb⟩; have n0_ := Aside0.mk (Kd.R_below (by (with_reducible repeat (first | apply Kd.R_alloc | apply Kd.R_drewN | apply Kd.R_drew)); exact HO_10.out) hb); have n1_ := Aside0.mk (Kd.R_below (by (with_reducible repeat (first | apply Kd.R_alloc | apply Kd.R_drewN | apply Kd.R_drew)); exact HO_11.out) hb); have n2_ := Aside0.mk (Kd.R_below (by (with_reducible repeat (first | apply Kd.R_alloc | apply Kd.R_drewN | apply Kd.R_drew)); exact HO_12.out) hb); have n3_ := Aside0.mk (below_step (by repeat (first | (with_reducible first | exact HB.out | apply below_alloc | apply pw_below_drewN | apply below_drew1) | exact HB.out)) hb); clear HO_10; clear HO_11; clear HO_12; clear HB; have HO_10 := n0_; have HO_11 := n1_; have HO_12 := n2_; have HB := n3_; clear n0_ n1_ n2_ n3_; (try clear hb); (try clear hb2); (try clear hk); (try clear hi); obtain ⟨Ao74, co74, eo74⟩ := Kd.R_slice HO_12.out; subst eo74; have p296 : 0 ≤ (x16_3 : Int) := of_decide_eq_true (by first | (with_reducible assumption) | assumption); have q296 : x16_3 < (x12_2.length : Int) := of_decide_eq_true (by first | (with_reducible assumption) | assumption); obtain ⟨ad296, e296, hx296_0⟩ := Kd.at_bool (Kd.R_reads' HO_12.out).2.2 x16_3 p296 q296; (try rw [← Nbq63.out] at hx296_0); cases e296; replace p296 := eq_true p296; replace q296 := eq_true q296; obtain ⟨Ao75, co75, eo75⟩ := Kd.R_slice HO_10.out; subst eo75; have p297 : 0 ≤ (x16_3 : Int) := of_decide_eq_true (by first | (with_reducible assumption) | assumption); have q297 : x16_3 < (t278.length : Int) := of_decide_eq_true (by first | (with_reducible assumption) | assumption); obtain ⟨ad297, e297, hx297_0⟩ := Kd.at_bool (Kd.R_reads' HO_10.out).2.2 x16_3 p297 q297; (try rw [← Nbq63.out] at hx297_0); cases e297; replace p297 := eq_true p297; replace q297 := eq_true q297)); try go_wp2_with (first | (go_at_call 13; (with_reducible refine (recipe_Fate.calls k3 _ _ l0 x16_3 t294 t295 _ ?side1 ?side2 A59.out).mono ?_); (case side1 => repeat (first | exact (Kd.C_below HR0.out HB.out) | (with_reducible refine Kd.C_alloc ?_ _) | (with_reducible refine Kd.C_drewN ?_ _) | (with_reducible refine Kd.C_drew ?_))); (case side2 => exact HC0.out); rintro e w73 ⟨rfl, hb⟩; have n0_ := Aside0.mk (Kd.R_below (by (with_reducible repeat (first | apply Kd.R_alloc | apply Kd.R_drewN | apply Kd.R_drew)); exact HO_10.out) hb); have n1_ := Aside0.mk (Kd.R_below (by (with_reducible repeat (first | apply Kd.R_alloc | apply Kd.R_drewN | apply Kd.R_drew)); exact HO_11.out) hb); have n2_ := Aside0.mk (Kd.R_below (by (with_reducible repeat (first | apply Kd.R_alloc | apply Kd.R_drewN | apply Kd.R_drew)); exact HO_12.out) hb); have n3_ := Aside0.mk (below_step (by repeat (first | (with_reducible first | exact HB.out | apply below_alloc | apply pw_below_drewN | apply below_drew1) | exact HB.out)) hb); clear HO_10; clear HO_11; clear HO_12; clear HB; have HO_10 := n0_; have HO_11 := n1_; have HO_12 := n2_; have HB := n3_; clear n0_ n1_ n2_ n3_; (try clear hb); (try clear hb2); (try clear hk); (try clear hi); obtain ⟨Ao74, co74, eo74⟩ := Kd.R_slice HO_12.out; subst eo74; have p296 : 0 ≤ (x16_3 : Int) := of_decide_eq_true (by first | (with_reducible assumption) | assumption); have q296 : x16_3 < (x12_2.length : Int) := of_decide_eq_true (by first | (with_reducible assumption) | assumption); obtain ⟨ad296, e296, hx296_0⟩ := Kd.at_bool (Kd.R_reads' HO_12.out).2.2 x16_3 p296 q296; (try rw [← Nbq63.out] at hx296_0); cases e296; replace p296 := eq_true p296; replace q296 := eq_true q296; obtain ⟨Ao75, co75, eo75⟩ := Kd.R_slice HO_10.out; subst eo75; have p297 : 0 ≤ (x16_3 : Int) := of_decide_eq_true (by first | (with_reducible assumption) | assumption); have q297 : x16_3 < (t278.length : Int) := of_decide_eq_true (by first | (with_reducible assumption) | assumption); obtain ⟨ad297, e297, hx297_0⟩ := Kd.at_bool (Kd.R_reads' HO_10.out).2.2 x16_3 p297 q297; (try rw [← Nbq63.out] at hx297_0); cases e297; replace p297 := eq_true p297; replace q297 := eq_true q297)))
                 go_ret
                 exact ⟨by first | rfl | (simp [errW_none, errW_some] <;> rfl) | (simp [*, errW_none, errW_some] <;> rfl), by repeat (first | (with_reducible first | exact HB.out | apply below_alloc | apply pw_below_drewN | apply below_drew1) | exact HB.out)⟩
                ·rw [if_neg c72] at H
                 have c72b0 : ((rdOf false x12_2 x16_3) != false) = false := by simpa using c72
                 (try (have c72b1 : decide ((rdOf false x12_2 x16_3) = false) = true := by simpa using c72))
                 (try (have c72b2 : ((rdOf false x12_2 x16_3) == false) = true := by simpa using c72))
                 clear c72
                 have H' := Aside0.mk H
                 clear H
                 go_wp2_with (first | (go_at_call 13; (with_reducible refine (recipe_Fate.calls k3 _ _ l0 x16_3 t294 t295 _ ?side1 ?side2 A59.out).mono ?_); (case side1 => repeat (first | exact (Kd.C_below HR0.out HB.out) | (with_reducible refine Kd.C_alloc ?_ _) | (with_reducible refine Kd.C_drewN ?_ _) | (with_reducible refine Kd.C_drew ?_))); (case side2 => exact HC0.out); rintro e w76 ⟨rfl, hb⟩; have n0_ := Aside0.mk (Kd.R_below (by (with_reducible repeat (first | apply Kd.R_alloc | apply Kd.R_drewN | apply Kd.R_drew)); exact HO_10.out) hb); have n1_ := Aside0.mk (Kd.R_below (by (with_reducible repeat (first | apply Kd.R_alloc | apply Kd.R_drewN | apply Kd.R_drew)); exact HO_11.out) hb); have n2_ := Aside0.mk (Kd.R_below (by (with_reducible repeat (first | apply Kd.R_alloc | apply Kd.R_drewN | apply Kd.R_drew)); exact HO_12.out) hb); have n3_ := Aside0.mk (below_step (by repeat (first | (with_reducible first | exact HB.out | apply below_alloc | apply pw_below_drewN | apply below_drew1) | exact HB.out)) hb); clear HO_10; clear HO_11; clear HO_12; clear HB; have HO_10 := n0_; have HO_11 := n1_; have HO_12 := n2_; have HB := n3_; clear n0_ n1_ n2_ n3_; (try clear hb); (try clear hb2); (try clear hk); (try clear hi); obtain ⟨Ao77, co77, eo77⟩ := Kd.R_slice HO_12.out; subst eo77; have p296 : 0 ≤ (x16_3 : Int) := of_decide_eq_true (by first | (with_reducible assumption) | assumption); have q296 : x16_3 < (x12_2.length : Int) := of_decide_eq_true (by first | (with_reducible assumption) | assumption); obtain ⟨ad296, e296, hx296_0⟩ := Kd.at_bool (Kd.R_reads' HO_12.out).2.2 x16_3 p296 q296; (try rw [← Nbq63.out] at hx296_0); cases e296; replace p296 := eq_true p296; replace q296 := eq_true q296; obtain ⟨Ao78, co78, eo78⟩ := Kd.R_slice HO_10.out; subst eo78; have p297 : 0 ≤ (x16_3 : Int) := of_decide_eq_true (by first | (with_reducible assumption) | assumption); have q297 : x16_3 < (t278.length : Int) := of_decide_eq_true (by first | (with_reducible assumption) | assumption); obtain ⟨ad297, e297, hx297_0⟩ := Kd.at_bool (Kd.R_reads' HO_10.out).2.2 x16_3 p297 q297; (try rw [← Nbq63.out] at hx297_0); cases e297; replace p297 := eq_true p297; replace q297 := eq_true q297))
                 repeat (go_quiet (first | (go_at_call 13; (with_reducible refine (recipe_Fate.calls k3 _ _ l0 x16_3 t294 t295 _ ?side1 ?side2 A59.out).mono ?_); (case side1 => repeat (first | exact (Kd.C_below HR0.out HB.out) | (with_reducible refine Kd.C_alloc ?_ _) | (with_reducible refine Kd.C_drewN ?_ _) | (with_reducible refine Kd.C_drew ?_))); (case side2 => exact HC0.out); rintro e w76 ⟨rfl, hb⟩; have n0_ := Aside0.mk (Kd.R_below (by (with_reducible repeat (first | apply Kd.R_alloc | apply Kd.R_drewN | apply Kd.R_drew)); exact HO_10.out) hb); have n1_ := Aside0.mk (Kd.R_below (by (with_reducible repeat (first | apply Kd.R_alloc | apply Kd.R_drewN | apply Kd.R_drew)); exact HO_11.out) hb); have n2_ := Aside0.mk (Kd.R_below (by (with_reducible repeat (first | apply Kd.R_alloc | apply Kd.R_drewN | apply Kd.R_drew)); exact HO_12.out) hb); have n3_ := Aside0.mk (below_step (by repeat (first | (with_reducible first | exact HB.out | apply below_alloc | apply pw_below_drewN | apply below_drew1) | exact HB.out)) hb); clear HO_10; clear HO_11; clear HO_12; clear HB; have HO_10 := n0_; have HO_11 := n1_; have HO_12 := n2_; have HB := n3_; clear n0_ n1_ n2_ n3_; (try clear hb); (try clear hb2); (try clear hk); (try clear hi); obtain ⟨Ao77, co77, eo77⟩ := Kd.R_slice HO_12.out; subst eo77; have p296 : 0 ≤ (x16_3 : Int) := of_decide_eq_true (by first | (with_reducible assumption) | assumption); have q296 : x16_3 < (x12_2.length : Int) := of_decide_eq_true (by first | (with_reducible assumption) | assumption); obtain ⟨ad296, e296, hx296_0⟩ := Kd.at_bool (Kd.R_reads' HO_12.out).2.2 x16_3 p296 q296; (try rw [← Nbq63.out] at hx296_0); cases e296; replace p296 := eq_true p296; replace q296 := eq_true q296; obtain ⟨Ao78, co78, eo78⟩ := Kd.R_slice HO_10.out; subst eo78; have p297 : 0 ≤ (x16_3 : Int) := of_decide_eq_true (by first | (with_reducible assumption) | assumption); have q297 : x16_3 < (t278.length : Int) := of_decide_eq_true (by first | (with_reducible assumption) | assumption); obtain ⟨ad297, e297, hx297_0⟩ := Kd.at_bool (Kd.R_reads' HO_10.out).2.2 x16_3 p297 q297; (try rw [← Nbq63.out] at hx297_0); cases e297; replace p297 := eq_true p297; replace q297 := eq_true q297)); try go_wp2_with (first | (go_at_call 13; (with_reducible refine (recipe_Fate.calls k3 _ _ l0 x16_3 t294 t295 _ ?side1 ?side2 A59.out).mono ?_); (case side1 => repeat (first | exact (Kd.C_below HR0.out HB.out) | (with_reducible refine Kd.C_alloc ?_ _) | (with_reducible refine Kd.C_drewN ?_ _) | (with_reducible refine Kd.C_drew ?_))); (case side2 => exact HC0.out); rintro e w76 ⟨rfl, hb⟩; have n0_ := Aside0.mk (Kd.R_below (by (with_reducible repeat (first | apply Kd.R_alloc | apply Kd.R_drewN | apply Kd.R_drew)); exact HO_10.out) hb); have n1_ := Aside0.mk (Kd.R_below (by (with_reducible repeat (first | apply Kd.R_alloc | apply Kd.R_drewN | apply Kd.R_drew)); exact HO_11.out) hb); have n2_ := Aside0.mk (Kd.R_below (by (with_reducible repeat (first | apply Kd.R_alloc | apply Kd.R_drewN | apply Kd.R_drew)); exact HO_12.out) hb); have n3_ := Aside0.mk (below_step (by repeat (first | (with_reducible first | exact HB.out | apply below_alloc | apply pw_below_drewN | apply below_drew1) | exact HB.out)) hb); clear HO_10; clear HO_11; clear HO_12; clear HB; have HO_10 := n0_; have HO_11 := n1_; have HO_12 := n2_; have HB := n3_; clear n0_ n1_ n2_ n3_; (try clear hb); (try clear hb2); (try clear hk); (try clear hi); obtain ⟨Ao77, co77, eo77⟩ := Kd.R_slice HO_12.out; subst eo77; have p296 : 0 ≤ (x16_3 : Int) := of_decide_eq_true (by first | (with_reducible assumption) | assumption); have q296 : x16_3 < (x12_2.length : Int) := of_decide_eq_true (by first | (with_reducible assumption) | assumption); obtain ⟨ad296, e296, hx296_0⟩ := Kd.at_bool (Kd.R_reads' HO_12.out).2.2 x16_3 p296 q296; (try rw [← Nbq63.out] at hx296_0); cases e296; replace p296 := eq_true p296; replace q296 := eq_true q296; obtain ⟨Ao78, co78, eo78⟩ := Kd.R_slice HO_10.out; subst eo78; have p297 : 0 ≤ (x16_3 : Int) := of_decide_eq_true (by first | (with_reducible assumption) | assumption); have q297 : x16_3 < (t278.length : Int) := of_decide_eq_true (by first | (with_reducible assumption) | assumption); obtain ⟨ad297, e297, hx297_0⟩ := Kd.at_bool (Kd.R_reads' HO_10.out).2.2 x16_3 p297 q297; (try rw [← Nbq63.out] at hx297_0); cases e297; replace p297 := eq_true p297; replace q297 := eq_true q297)))
                 go_roundg k3
                 case measure => have := HJ5.out; have := HK2.out; have := HK3.out; omega
                 case rel => exact ⟨(wrap64 (x16_3 + 1)), (by first | rfl | (simp; done) | (simp [*]; done)), H', ⟨by have := HJ5.out; have := HK2.out; have := HK3.out; omega⟩, ⟨by (with_reducible repeat (first | apply Kd.R_alloc | apply Kd.R_drewN | apply Kd.R_drew)); exact HO_10.out⟩, ⟨by (with_reducible repeat (first | apply Kd.R_alloc | apply Kd.R_drewN | apply Kd.R_drew)); exact HO_11.out⟩, ⟨by (with_reducible repeat (first | apply Kd.R_alloc | apply Kd.R_drewN | apply Kd.R_drew)); exact HO_12.out⟩, ⟨by repeat (first | (with_reducible first | exact HB.out | apply below_alloc | apply pw_below_drewN | apply below_drew1) | exact HB.out)⟩⟩
              ·rw [if_neg c62] at H
               exact absurd H (by simp)
             ·rw [if_neg c61] at H
              exact absurd H (by simp)
            ·rw [if_neg c60] at H
             exact absurd H (by simp)
           ·rw [if_neg c58] at H
            have c58b0 : decide (x16_3 < (l0.length : Int)) = false := decide_eq_false c58
            clear c58
            have H' := Aside0.mk H
            clear H
            go_wp2
            repeat (go_quiet (fail); try go_wp2)
            go_loopg [19, 20] k3 (fun kq v19 v20 w' => ∃ (x19_4 : List Int) (x20_4 : Int), v20 = .int .i64 x20_4 ∧ Aside0 (butlerlaw11_RecipeOrders.l3 kq l0 l1 a2 t281 x12_2 x19_4 x20_4 = some r) ∧ Aside0 (kq ≤ k3) ∧ Aside0 (Kd.R (Kd.int .i64) 3 w' w.heap.size (fun k_ => some k_ ≠ (v19 : Value).ownBlock) (.slice Ao57 t281.length co57) t281) ∧ Aside0 (Kd.R Kd.bool 4 w' w.heap.size (fun _ => True) v285 x12_2) ∧ Aside0 (Kd.R (Kd.int .i64) 3 w' w.heap.size (fun k_ => some k_ ≠ ((.slice Ao57 t281.length co57) : Value).ownBlock) v19 x19_4) ∧ Aside0 (Below w.heap.size w w'))
            case atStart => exact ⟨(([] : List Int)), (0), (by first | rfl | (simp; done) | (simp [*]; done)), H', ⟨Nat.le_refl _⟩, ⟨by (with_reducible repeat (first | apply Kd.R_alloc | apply Kd.R_drewN | apply Kd.R_drew)); exact Kd.R_mono HO_11.out (fun _ hk => (by simp [Value.ownBlock]))⟩, ⟨by (with_reducible repeat (first | apply Kd.R_alloc | apply Kd.R_drewN | apply Kd.R_drew)); exact Kd.R_mono HO_12.out (fun _ hk => trivial)⟩, ⟨by first | exact Kd.R_nil _ _ _ _ _ | exact Kd.N_nil _ _ _ _ _ | exact Kd.V_nil _ _ _ _ _ | exact Kd.Q_nil _ _ _ _ _ | exact Kd.S_nil _ _ _ _ _⟩, ⟨by repeat (first | (with_reducible first | exact HB.out | apply below_alloc | apply pw_below_drewN | apply below_drew1) | exact HB.out)⟩⟩
            case round =>
             clear H'
             try clear c1
             try clear c2
             try clear p2
             try clear q2
             try clear hx2
             try clear c3
             try clear q3
             try clear c4
             try clear q4
             try clear c5
             try clear p5
             try clear q5
             try clear hx5
             try clear hf5
             try clear c6
             try clear p6
             try clear q6
             try clear c7
             try clear c9
             try clear c10
             try clear c10b0
             try clear c10b1
             try clear c11
             try clear c15
             try clear c15b0
             try clear c15b1
             try clear c16
             try clear c16b0
             try clear c16b1
             try clear c22
             try clear c22b0
             try clear c23
             try clear c23b0
             try clear c26
             try clear c26b0
             try clear c27
             try clear c27b0
             try clear c28
             try clear c28b0
             try clear p28
             try clear q28
             try clear hx28
             try clear c29
             try clear c29b0
             try clear p29
             try clear q29
             try clear hx29
             try clear q30
             try clear c31
             try clear c33
             try clear c33b0
             try clear c36
             try clear c37
             try clear c37b0
             try clear c38
             try clear c38b0
             try clear c39
             try clear c39b0
             try clear c40
             try clear c40b0
             try clear c41
             try clear c41b0
             try clear q42
             try clear c43
             try clear c44
             try clear c44b0
             try clear q45
             try clear c46
             try clear c52
             try clear c52b0
             try clear c53
             try clear c53b0
             try clear p54
             try clear q54
             try clear hx54
             try clear hf54
             try clear c58
             try clear c58b0
             try clear c60
             try clear c60b0
             try clear c61
             try clear c61b0
             try clear c62
             try clear c62b0
             try clear q63
             try clear c64
             try clear p64
             try clear c65
             try clear c65b0
             try clear c65b1
             try clear c65b2
             try clear c72
             try clear c72b0
             try clear c72b1
             try clear c72b2
             try clear hx287_0
             try clear hx288_0
             try clear hx289_0
             try clear hx290_0
             try clear hx291_0
             try clear hx292_0
             try clear hx296_0
             try clear hx297_0
             try clear hx54_0
             try clear p2
             try clear p28
             try clear p287
             try clear p288
             try clear p289
             try clear p29
             try clear p290
             try clear p291
             try clear p292
             try clear p296
             try clear p297
             try clear p5
             try clear p54
             try clear p6
             try clear q2
             try clear q28
             try clear q287
             try clear q288
             try clear q289
             try clear q29
             try clear q290
             try clear q291
             try clear q292
             try clear q296
             try clear q297
             try clear q3
             try clear q30
             try clear q4
             try clear q42
             try clear q45
             try clear q5
             try clear q54
             obtain ⟨x19_4, x20_4, rfl, HA, HK4, HO_11, HO_12, HO_19, HB⟩ := hrel
             cases gk with
             | zero => exact absurd HA.out (by simp [butlerlaw11_RecipeOrders.l3])
             | succ k4 =>
              have H := HA.out
              clear HA
              simp only [butlerlaw11_RecipeOrders.l3] at H
              by_cases c79 : x20_4 < (l1.length : Int)
              ·rw [if_pos c79] at H
               have c79b0 : decide (x20_4 < (l1.length : Int)) = true := decide_eq_true c79
               clear c79
               by_cases c80 : (l1.length : Int) = 0
               ·rw [if_pos c80] at H
                exact absurd H (by simp)
               ·rw [if_neg c80] at H
                have c80b0 : ((l1.length : Int) == 0) = false := beq_eq_false_iff_ne.mpr c80
                have c80b1 : ((l1.length : Int) != 0) = true := bne_iff_ne.mpr c80
                have c80b2 : ¬ (l1 = []) := fun h_ => c80 (by rw [h_]; rfl)
                obtain ⟨ji81, hji81⟩ : ∃ j_ : Int, (Int.tmod (wrap64 (x20_4 + (Go.bits .and .i64 a2 1023))) (l1.length : Int)) = j_ := ⟨_, rfl⟩
                replace H : (if 0 ≤ (ji81) then (if (ji81) < (l1.length : Int) then (if x19_4.length < 17592186044416 then (butlerlaw11_RecipeOrders.l3 k4 l0 l1 a2 t281 x12_2 (x19_4 ++ [rd l1 (ji81)]) (wrap64 (x20_4 + 1))) else (none)) else (none)) else (none)) = some r := by first | (rw [hji81] at H; exact H) | (simp only [hji81] at H ⊢; exact H)
                by_cases c82 : 0 ≤ (ji81)
                ·rw [if_pos c82] at H
                 have c82b0 : decide (0 ≤ (ji81)) = true := decide_eq_true c82
                 clear c82
                 by_cases c83 : (ji81) < (l1.length : Int)
                 ·rw [if_pos c83] at H
                  have c83b0 : decide ((ji81) < (l1.length : Int)) = true := decide_eq_true c83
                  clear c83
                  by_cases c84 : x19_4.length < 17592186044416
                  ·rw [if_pos c84] at H
                   have LMc84 := Aside0.mk c84
                   clear c84
                   obtain ⟨y299, hy299⟩ : ∃ y_ : List Int, y_ = (x19_4 ++ [rd l1 (ji81)]) := ⟨_, rfl⟩
                   replace H : (butlerlaw11_RecipeOrders.l3 k4 l0 l1 a2 t281 x12_2 y299 (wrap64 (x20_4 + 1))) = some r := by first | (rw [hy299]; with_reducible exact H) | (have H2_ := (Option.bind_some _ _).symm.trans H; rw [hy299]; with_reducible exact H2_) | (have H2_ := (Option.bind_some _ _).symm.trans H; with_reducible exact H2_) | with_reducible exact H | (rw [hy299]; exact H) | exact H
                   have Ny299 := Aside0.mk hy299
                   clear hy299
                   have H' := Aside0.mk H
                   clear H
                   have p298 : 0 ≤ ((ji81) : Int) := of_decide_eq_true (by first | (with_reducible assumption) | assumption)
                   have q298 : (ji81) < (l1.length : Int) := of_decide_eq_true (by first | (with_reducible assumption) | assumption)
                   obtain ⟨ad298, e298, hx298_0⟩ := Kd.at_int HR1.out (ji81) p298 q298
                   cases e298
                   replace hx298_0 := (HB.out.cell (World.block_lt_of_cell? w _ hx298_0)).trans hx298_0
                   replace p298 := eq_true p298
                   replace q298 := eq_true q298
                   go_wp2_with (first | ((with_reducible refine gate_builtin (b := .append) (xs := #[.tmp 133, .tmp 144]) rfl ?_); (try (refine gate_guard (by rfl) ?_; dsimp only)); at_builtin; refine Kd.R_append (Kd.int .i64) (w0 := w) w.heap.size rfl (.tmp 133) (.tmp 144) 26 3 (.int .i64 0) 8 rfl Try.underlying26 info3 rfl (by decide) (by omega) u19 x19_4 (rd l1 (ji81)) [.int .i64 (rd l1 (ji81))] (fun k_ => some k_ ≠ (.slice Ao57 t281.length co57 : Value).ownBlock) (fun _ => False) rfl rfl ?aP (fun _ hk => hk.elim) ?aF ?aO ?aB ?aS ?aL ?_; (case aP => exact rfl); (case aB => exact (by repeat (first | (with_reducible first | exact HB.out | apply below_alloc | apply pw_below_drewN | apply below_drew1) | exact HB.out))); (case aF => exact (fun k_ hk => Kd.fresh' (Kd.R_lt (by (with_reducible repeat (first | apply Kd.R_alloc | apply Kd.R_drewN | apply Kd.R_drew)); exact HO_11.out)) k_ hk)); (case aO => exact (by (with_reducible repeat (first | apply Kd.R_alloc | apply Kd.R_drewN | apply Kd.R_drew)); exact HO_19.out)); (case aS => exact (below_size (by repeat (first | (with_reducible first | exact HB.out | apply below_alloc | apply pw_below_drewN | apply below_drew1) | exact HB.out)))); (case aL => have := LMc84.out; omega); intro v300 w85 ho hb hg hat; rw [← Ny299.out] at ho; have n0_ := Aside0.mk (Kd.R_after (ok := (fun _ => True)) (by (with_reducible repeat (first | apply Kd.R_alloc | apply Kd.R_drewN | apply Kd.R_drew)); exact Kd.R_mono HO_11.out (fun _ hk => ⟨trivial, hk⟩)) hg hat); have n1_ := Aside0.mk (Kd.R_over' (by (with_reducible repeat (first | apply Kd.R_alloc | apply Kd.R_drewN | apply Kd.R_drew)); exact HO_12.out) (Kd.R_typed (by (with_reducible repeat (first | apply Kd.R_alloc | apply Kd.R_drewN | apply Kd.R_drew)); exact HO_19.out)) (by decide) hg); have n2_ := Aside0.mk (hb); have n3_ := Aside0.mk (ho); clear HO_11; clear HO_12; clear HB; clear HO_19; have HO_11 := n0_; have HO_12 := n1_; have HB := n2_; have HO301 := n3_; clear n0_ n1_ n2_ n3_; clear ho hb hg hat))
                   repeat (go_quiet (first | ((with_reducible refine gate_builtin (b := .append) (xs := #[.tmp 133, .tmp 144]) rfl ?_); (try (refine gate_guard (by rfl) ?_; dsimp only)); at_builtin; refine Kd.R_append (Kd.int .i64) (w0 := w) w.heap.size rfl (.tmp 133) (.tmp 144) 26 3 (.int .i64 0) 8 rfl Try.underlying26 info3 rfl (by decide) (by omega) u19 x19_4 (rd l1 (ji81)) [.int .i64 (rd l1 (ji81))] (fun k_ => some k_ ≠ (.slice Ao57 t281.length co57 : Value).ownBlock) (fun _ => False) rfl rfl ?aP (fun _ hk => hk.elim) ?aF ?aO ?aB ?aS ?aL ?_; (case aP => exact rfl); (case aB => exact (by repeat (first | (with_reducible first | exact HB.out | apply below_alloc | apply pw_below_drewN | apply below_drew1) | exact HB.out))); (case aF => exact (fun k_ hk => Kd.fresh' (Kd.R_lt (by (with_reducible repeat (first | apply Kd.R_alloc | apply Kd.R_drewN | apply Kd.R_drew)); exact HO_11.out)) k_ hk)); (case aO => exact (by (with_reducible repeat (first | apply Kd.R_alloc | apply Kd.R_drewN | apply Kd.R_drew)); exact HO_19.out)); (case aS => exact (below_size (by repeat (first | (with_reducible first | exact HB.out | apply below_alloc | apply pw_below_drewN | apply below_drew1) | exact HB.out)))); (case aL => have := LMc84.out; omega); intro v300 w85 ho hb hg hat; rw [← Ny299.out] at ho; have n0_ := Aside0.mk (Kd.R_after (ok := (fun _ => True)) (by (with_reducible repeat (first | apply Kd.R_alloc | apply Kd.R_drewN | apply Kd.R_drew)); exact Kd.R_mono HO_11.out (fun _ hk => ⟨trivial, hk⟩)) hg hat); have n1_ := Aside0.mk (Kd.R_over' (by (with_reducible repeat (first | apply Kd.R_alloc | apply Kd.R_drewN | apply Kd.R_drew)); exact HO_12.out) (Kd.R_typed (by (with_reducible repeat (first | apply Kd.R_alloc | apply Kd.R_drewN | apply Kd.R_drew)); exact HO_19.out)) (by decide) hg); have n2_ := Aside0.mk (hb); have n3_ := Aside0.mk (ho); clear HO_11; clear HO_12; clear HB; clear HO_19; have HO_11 := n0_; have HO_12 := n1_; have HB := n2_; have HO301 := n3_; clear n0_ n1_ n2_ n3_; clear ho hb hg hat)); try go_wp2_with (first | ((with_reducible refine gate_builtin (b := .append) (xs := #[.tmp 133, .tmp 144]) rfl ?_); (try (refine gate_guard (by rfl) ?_; dsimp only)); at_builtin; refine Kd.R_append (Kd.int .i64) (w0 := w) w.heap.size rfl (.tmp 133) (.tmp 144) 26 3 (.int .i64 0) 8 rfl Try.underlying26 info3 rfl (by decide) (by omega) u19 x19_4 (rd l1 (ji81)) [.int .i64 (rd l1 (ji81))] (fun k_ => some k_ ≠ (.slice Ao57 t281.length co57 : Value).ownBlock) (fun _ => False) rfl rfl ?aP (fun _ hk => hk.elim) ?aF ?aO ?aB ?aS ?aL ?_; (case aP => exact rfl); (case aB => exact (by repeat (first | (with_reducible first | exact HB.out | apply below_alloc | apply pw_below_drewN | apply below_drew1) | exact HB.out))); (case aF => exact (fun k_ hk => Kd.fresh' (Kd.R_lt (by (with_reducible repeat (first | apply Kd.R_alloc | apply Kd.R_drewN | apply Kd.R_drew)); exact HO_11.out)) k_ hk)); (case aO => exact (by (with_reducible repeat (first | apply Kd.R_alloc | apply Kd.R_drewN | apply Kd.R_drew)); exact HO_19.out)); (case aS => exact (below_size (by repeat (first | (with_reducible first | exact HB.out | apply below_alloc | apply pw_below_drewN | apply below_drew1) | exact HB.out)))); (case aL => have := LMc84.out; omega); intro v300 w85 ho hb hg hat; rw [← Ny299.out] at ho; have n0_ := Aside0.mk (Kd.R_after (ok := (fun _ => True)) (by (with_reducible repeat (first | apply Kd.R_alloc | apply Kd.R_drewN | apply Kd.R_drew)); exact Kd.R_mono HO_11.out (fun _ hk => ⟨trivial, hk⟩)) hg hat); have n1_ := Aside0.mk (Kd.R_over' (by (with_reducible repeat (first | apply Kd.R_alloc | apply Kd.R_drewN | apply Kd.R_drew)); exact HO_12.out) (Kd.R_typed (by (with_reducible repeat (first | apply Kd.R_alloc | apply Kd.R_drewN | apply Kd.R_drew)); exact HO_19.out)) (by decide) hg); have n2_ := Aside0.mk (hb); have n3_ := Aside0.mk (ho); clear HO_11; clear HO_12; clear HB; clear HO_19; have HO_11 := n0_; have HO_12 := n1_; have HB := n2_; have HO301 := n3_; clear n0_ n1_ n2_ n3_; clear ho hb hg hat)))
                   go_roundg k4
                   case measure => have := HJ5.out; have := HK2.out; have := HK3.out; have := HK4.out; omega
                   case rel => exact ⟨(y299), (wrap64 (x20_4 + 1)), (by first | rfl | (simp; done) | (simp [*]; done)), H', ⟨by have := HJ5.out; have := HK2.out; have := HK3.out; have := HK4.out; omega⟩, ⟨by (with_reducible repeat (first | apply Kd.R_alloc | apply Kd.R_drewN | apply Kd.R_drew)); exact Kd.R_mono HO_11.out (fun _ hk => hk.2)⟩, ⟨by (with_reducible repeat (first | apply Kd.R_alloc | apply Kd.R_drewN | apply Kd.R_drew)); exact HO_12.out⟩, ⟨by (with_reducible repeat (first | apply Kd.R_alloc | apply Kd.R_drewN | apply Kd.R_drew)); exact HO301.out⟩, ⟨by repeat (first | (with_reducible first | exact HB.out | apply below_alloc | apply pw_below_drewN | apply below_drew1) | exact HB.out)⟩⟩
                  ·rw [if_neg c84] at H
                   exact absurd H (by simp)
                 ·rw [if_neg c83] at H
                  exact absurd H (by simp)
                ·rw [if_neg c82] at H
                 exact absurd H (by simp)
              ·rw [if_neg c79] at H
               have c79b0 : decide (x20_4 < (l1.length : Int)) = false := decide_eq_false c79
               clear c79
               replace H := Option.bind_eq_some_iff.mp H
               obtain ⟨t302, A860, H⟩ := H
               replace H : (if (t302.length : Int) = (t281.length : Int) then (butlerlaw11_RecipeOrders.l4 k4 l0 x12_2 t302 0) else (some false)) = some r := H
               have A86 := Aside0.mk A860
               clear A860
               by_cases c87 : (t302.length : Int) = (t281.length : Int)
               ·rw [if_pos c87] at H
                have c87b0 : ((t302.length : Int) == (t281.length : Int)) = true := beq_iff_eq.mpr c87
                have c87b1 : ((t302.length : Int) != (t281.length : Int)) = false := bne_eq_false_iff_eq.mpr c87
                have c87b2 : (t302.length == t281.length) = true := by first | simpa using c87 | (simp at c87 ⊢; omega)
                clear c87
                have H' := Aside0.mk H
                clear H
                obtain ⟨Ao88, co88, eo88⟩ := Kd.R_slice HO_19.out
                subst eo88
                go_wp2_with (first | (go_at_call 14; (with_reducible refine (recipe_Order.calls _ _ l0 _ _ x19_4 t302 _ ?side1 ?side2 ?side3 ?side4 A86.out).mono ?_); (case side1 => repeat (first | exact (Kd.C_below HR0.out HB.out) | (with_reducible refine Kd.C_alloc ?_ _) | (with_reducible refine Kd.C_drewN ?_ _) | (with_reducible refine Kd.C_drew ?_))); (case side2 => exact HC0.out); (case side3 => repeat (first | exact (Kd.R_reads' HO_19.out).2.2 | (with_reducible refine Kd.C_alloc ?_ _) | (with_reducible refine Kd.C_drewN ?_ _) | (with_reducible refine Kd.C_drew ?_))); (case side4 => exact (Kd.R_reads' HO_19.out).2.1); rintro e w89 ⟨v303, rfl, ho0, hb⟩; have n0_ := Aside0.mk (Kd.R_elder' (by (with_reducible repeat (first | apply Kd.R_alloc | apply Kd.R_drewN | apply Kd.R_drew)); exact HO_11.out) (Kd.R_base ho0) hb); have n1_ := Aside0.mk (Kd.R_below (by (with_reducible repeat (first | apply Kd.R_alloc | apply Kd.R_drewN | apply Kd.R_drew)); exact HO_12.out) hb); have n2_ := Aside0.mk (Kd.R_elder' (by (with_reducible repeat (first | apply Kd.R_alloc | apply Kd.R_drewN | apply Kd.R_drew)); exact HO_19.out) (Kd.R_base ho0) hb); have n3_ := Aside0.mk (Kd.R_lower (Kd.R_new' (Kd.R_new' ho0 (Kd.R_lt (by (with_reducible repeat (first | apply Kd.R_alloc | apply Kd.R_drewN | apply Kd.R_drew)); exact HO_11.out))) (Kd.R_lt (by (with_reducible repeat (first | apply Kd.R_alloc | apply Kd.R_drewN | apply Kd.R_drew)); exact HO_19.out))) (below_size (by repeat (first | (with_reducible first | exact HB.out | apply below_alloc | apply pw_below_drewN | apply below_drew1) | exact HB.out)))); have n4_ := Aside0.mk (below_step (by repeat (first | (with_reducible first | exact HB.out | apply below_alloc | apply pw_below_drewN | apply below_drew1) | exact HB.out)) hb); clear HO_11; clear HO_12; clear HO_19; clear HB; have HO_11 := n0_; have HO_12 := n1_; have HO_19 := n2_; have HO304 := n3_; have HB := n4_; clear n0_ n1_ n2_ n3_ n4_; (try clear hb); (try clear hb2); (try clear hk); (try clear hi); (try clear ho0); obtain ⟨Ao90, co90, eo90⟩ := Kd.R_slice HO304.out; subst eo90))
                repeat (go_quiet (first | (go_at_call 14; (with_reducible refine (recipe_Order.calls _ _ l0 _ _ x19_4 t302 _ ?side1 ?side2 ?side3 ?side4 A86.out).mono ?_); (case side1 => repeat (first | exact (Kd.C_below HR0.out HB.out) | (with_reducible refine Kd.C_alloc ?_ _) | (with_reducible refine Kd.C_drewN ?_ _) | (with_reducible refine Kd.C_drew ?_))); (case side2 => exact HC0.out); (case side3 => repeat (first | exact (Kd.R_reads' HO_19.out).2.2 | (with_reducible refine Kd.C_alloc ?_ _) | (with_reducible refine Kd.C_drewN ?_ _) | (with_reducible refine Kd.C_drew ?_))); (case side4 => exact (Kd.R_reads' HO_19.out).2.1); rintro e w89 ⟨v303, rfl, ho0, hb⟩; have n0_ := Aside0.mk (Kd.R_elder' (by (with_reducible repeat (first | apply Kd.R_alloc | apply Kd.R_drewN | apply Kd.R_drew)); exact HO_11.out) (Kd.R_base ho0) hb); have n1_ := Aside0.mk (Kd.R_below (by (with_reducible repeat (first | apply Kd.R_alloc | apply Kd.R_drewN | apply Kd.R_drew)); exact HO_12.out) hb); have n2_ := Aside0.mk (Kd.R_elder' (by (with_reducible repeat (first | apply Kd.R_alloc | apply Kd.R_drewN | apply Kd.R_drew)); exact HO_19.out) (Kd.R_base ho0) hb); have n3_ := Aside0.mk (Kd.R_lower (Kd.R_new' (Kd.R_new' ho0 (Kd.R_lt (by (with_reducible repeat (first | apply Kd.R_alloc | apply Kd.R_drewN | apply Kd.R_drew)); exact HO_11.out))) (Kd.R_lt (by (with_reducible repeat (first | apply Kd.R_alloc | apply Kd.R_drewN | apply Kd.R_drew)); exact HO_19.out))) (below_size (by repeat (first | (with_reducible first | exact HB.out | apply below_alloc | apply pw_below_drewN | apply below_drew1) | exact HB.out)))); have n4_ := Aside0.mk (below_step (by repeat (first | (with_reducible first | exact HB.out | apply below_alloc | apply pw_below_drewN | apply below_drew1) | exact HB.out)) hb); clear HO_11; clear HO_12; clear HO_19; clear HB; have HO_11 := n0_; have HO_12 := n1_; have HO_19 := n2_; have HO304 := n3_; have HB := n4_; clear n0_ n1_ n2_ n3_ n4_; (try clear hb); (try clear hb2); (try clear hk); (try clear hi); (try clear ho0); obtain ⟨Ao90, co90, eo90⟩ := Kd.R_slice HO304.out; subst eo90)); try go_wp2_with (first | (go_at_call 14; (with_reducible refine (recipe_Order.calls _ _ l0 _ _ x19_4 t302 _ ?side1 ?side2 ?side3 ?side4 A86.out).mono ?_); (case side1 => repeat (first | exact (Kd.C_below HR0.out HB.out) | (with_reducible refine Kd.C_alloc ?_ _) | (with_reducible refine Kd.C_drewN ?_ _) | (with_reducible refine Kd.C_drew ?_))); (case side2 => exact HC0.out); (case side3 => repeat (first | exact (Kd.R_reads' HO_19.out).2.2 | (with_reducible refine Kd.C_alloc ?_ _) | (with_reducible refine Kd.C_drewN ?_ _) | (with_reducible refine Kd.C_drew ?_))); (case side4 => exact (Kd.R_reads' HO_19.out).2.1); rintro e w89 ⟨v303, rfl, ho0, hb⟩; have n0_ := Aside0.mk (Kd.R_elder' (by (with_reducible repeat (first | apply Kd.R_alloc | apply Kd.R_drewN | apply Kd.R_drew)); exact HO_11.out) (Kd.R_base ho0) hb); have n1_ := Aside0.mk (Kd.R_below (by (with_reducible repeat (first | apply Kd.R_alloc | apply Kd.R_drewN | apply Kd.R_drew)); exact HO_12.out) hb); have n2_ := Aside0.mk (Kd.R_elder' (by (with_reducible repeat (first | apply Kd.R_alloc | apply Kd.R_drewN | apply Kd.R_drew)); exact HO_19.out) (Kd.R_base ho0) hb); have n3_ := Aside0.mk (Kd.R_lower (Kd.R_new' (Kd.R_new' ho0 (Kd.R_lt (by (with_reducible repeat (first | apply Kd.R_alloc | apply Kd.R_drewN | apply Kd.R_drew)); exact HO_11.out))) (Kd.R_lt (by (with_reducible repeat (first | apply Kd.R_alloc | apply Kd.R_drewN | apply Kd.R_drew)); exact HO_19.out))) (below_size (by repeat (first | (with_reducible first | exact HB.out | apply below_alloc | apply pw_below_drewN | apply below_drew1) | exact HB.out)))); have n4_ := Aside0.mk (below_step (by repeat (first | (with_reducible first | exact HB.out | apply below_alloc | apply pw_below_drewN | apply below_drew1) | exact HB.out)) hb); clear HO_11; clear HO_12; clear HO_19; clear HB; have HO_11 := n0_; have HO_12 := n1_; have HO_19 := n2_; have HO304 := n3_; have HB := n4_; clear n0_ n1_ n2_ n3_ n4_; (try clear hb); (try clear hb2); (try clear hk); (try clear hi); (try clear ho0); obtain ⟨Ao90, co90, eo90⟩ := Kd.R_slice HO304.out; subst eo90)))
                go_loopg [22] k4 (fun kq v22 w' => ∃ (x22_5 : Int), v22 = .int .i64 x22_5 ∧ Aside0 (butlerlaw11_RecipeOrders.l4 kq l0 x12_2 t302 x22_5 = some r) ∧ Aside0 (kq ≤ k4) ∧ Aside0 (Kd.R Kd.bool 4 w' w.heap.size (fun _ => True) v285 x12_2) ∧ Aside0 (Kd.R (Kd.int .i64) 3 w' w.heap.size (fun _ => True) (.slice Ao90 t302.length co90) t302) ∧ Aside0 (Below w.heap.size w w'))
                case atStart => exact ⟨(0), (by first | rfl | (simp; done) | (simp [*]; done)), H', ⟨Nat.le_refl _⟩, ⟨by (with_reducible repeat (first | apply Kd.R_alloc | apply Kd.R_drewN | apply Kd.R_drew)); exact HO_12.out⟩, ⟨by (with_reducible repeat (first | apply Kd.R_alloc | apply Kd.R_drewN | apply Kd.R_drew)); exact Kd.R_mono HO304.out (fun _ hk => trivial)⟩, ⟨by repeat (first | (with_reducible first | exact HB.out | apply below_alloc | apply pw_below_drewN | apply below_drew1) | exact HB.out)⟩⟩
                case round =>
                 clear H'
                 try clear c1
                 try clear c2
                 try clear p2
                 try clear q2
                 try clear hx2
                 try clear c3
                 try clear q3
                 try clear c4
                 try clear q4
                 try clear c5
                 try clear p5
                 try clear q5
                 try clear hx5
                 try clear hf5
                 try clear c6
                 try clear p6
                 try clear q6
                 try clear c7
                 try clear c8
                 try clear c9
                 try clear c10
                 try clear c10b0
                 try clear c10b1
                 try clear c11
                 try clear c15
                 try clear c15b0
                 try clear c15b1
                 try clear c16
                 try clear c16b0
                 try clear c16b1
                 try clear c22
                 try clear c22b0
                 try clear c23
                 try clear c23b0
                 try clear c26
                 try clear c26b0
                 try clear c27
                 try clear c27b0
                 try clear c28
                 try clear c28b0
                 try clear p28
                 try clear q28
                 try clear hx28
                 try clear c29
                 try clear c29b0
                 try clear p29
                 try clear q29
                 try clear hx29
                 try clear q30
                 try clear c31
                 try clear c33
                 try clear c33b0
                 try clear c36
                 try clear c37
                 try clear c37b0
                 try clear c38
                 try clear c38b0
                 try clear c39
                 try clear c39b0
                 try clear c40
                 try clear c40b0
                 try clear c41
                 try clear c41b0
                 try clear q42
                 try clear c43
                 try clear c44
                 try clear c44b0
                 try clear q45
                 try clear c46
                 try clear c52
                 try clear c52b0
                 try clear c53
                 try clear c53b0
                 try clear p54
                 try clear q54
                 try clear hx54
                 try clear hf54
                 try clear c58
                 try clear c58b0
                 try clear c60
                 try clear c60b0
                 try clear c61
                 try clear c61b0
                 try clear c62
                 try clear c62b0
                 try clear q63
                 try clear c64
                 try clear p64
                 try clear c65
                 try clear c65b0
                 try clear c65b1
                 try clear c65b2
                 try clear c72
                 try clear c72b0
                 try clear c72b1
                 try clear c72b2
                 try clear c79
                 try clear c79b0
                 try clear c80
                 try clear c80b0
                 try clear c80b1
                 try clear c80b2
                 try clear c82
                 try clear c82b0
                 try clear c83
                 try clear c83b0
                 try clear c84
                 try clear c87
                 try clear c87b0
                 try clear c87b1
                 try clear c87b2
                 try clear hx287_0
                 try clear hx288_0
                 try clear hx289_0
                 try clear hx290_0
                 try clear hx291_0
                 try clear hx292_0
                 try clear hx296_0
                 try clear hx297_0
                 try clear hx298_0
                 try clear hx54_0
                 try clear p2
                 try clear p28
                 try clear p287
                 try clear p288
                 try clear p289
                 try clear p29
                 try clear p290
                 try clear p291
                 try clear p292
                 try clear p296
                 try clear p297
                 try clear p298
                 try clear p5
                 try clear p54
                 try clear p6
                 try clear p64
                 try clear q2
                 try clear q28
                 try clear q287
                 try clear q288
                 try clear q289
                 try clear q29
                 try clear q290
                 try clear q291
                 try clear q292
                 try clear q296
                 try clear q297
                 try clear q298
                 try clear q3
                 try clear q30
                 try clear q4
                 try clear q42
                 try clear q45
                 try clear q5
                 try clear q54
                 try clear q6
                 try clear q63
                 obtain ⟨x22_5, rfl, HA, HK5, HO_12, HO_21, HB⟩ := hrel
                 cases gk with
                 | zero => exact absurd HA.out (by simp [butlerlaw11_RecipeOrders.l4])
                 | succ k5 =>
                  have H := HA.out
                  clear HA
                  simp only [butlerlaw11_RecipeOrders.l4] at H
                  by_cases c91 : x22_5 < (t302.length : Int)
                  ·rw [if_pos c91] at H
                   have c91b0 : decide (x22_5 < (t302.length : Int)) = true := decide_eq_true c91
                   clear c91
                   by_cases c92 : 0 ≤ x22_5
                   ·rw [if_pos c92] at H
                    have c92b0 : decide (0 ≤ x22_5) = true := decide_eq_true c92
                    clear c92
                    by_cases c93 : (rd t302 x22_5) < 0
                    ·rw [if_pos c93] at H
                     have c93b0 : decide ((rd t302 x22_5) < 0) = true := decide_eq_true c93
                     clear c93
                     obtain rfl := Option.some.inj H
                     have p305 : 0 ≤ (x22_5 : Int) := of_decide_eq_true (by first | (with_reducible assumption) | assumption)
                     have q305 : x22_5 < (t302.length : Int) := of_decide_eq_true (by first | (with_reducible assumption) | assumption)
                     obtain ⟨ad305, e305, hx305_0⟩ := Kd.at_int (Kd.R_reads' HO_21.out).2.2 x22_5 p305 q305
                     cases e305
                     replace p305 := eq_true p305
                     replace q305 := eq_true q305
                     go_wp2
                     repeat (go_quiet (fail); try go_wp2)
                     go_ret
                     exact ⟨by first | rfl | (simp [errW_none, errW_some] <;> rfl) | (simp [*, errW_none, errW_some] <;> rfl), by repeat (first | (with_reducible first | exact HB.out | apply below_alloc | apply pw_below_drewN | apply below_drew1) | exact HB.out)⟩
                    ·rw [if_neg c93] at H
                     have c93b0 : decide ((rd t302 x22_5) < 0) = false := decide_eq_false c93
                     clear c93
                     by_cases c94 : (rd t302 x22_5) ≥ (l0.length : Int)
                     ·rw [if_pos c94] at H
                      have c94b0 : decide ((l0.length : Int) ≤ (rd t302 x22_5)) = true := decide_eq_true c94
                      clear c94
                      obtain rfl := Option.some.inj H
                      have p305 : 0 ≤ (x22_5 : Int) := of_decide_eq_true (by first | (with_reducible assumption) | assumption)
                      have q305 : x22_5 < (t302.length : Int) := of_decide_eq_true (by first | (with_reducible assumption) | assumption)
                      obtain ⟨ad305, e305, hx305_0⟩ := Kd.at_int (Kd.R_reads' HO_21.out).2.2 x22_5 p305 q305
                      cases e305
                      replace p305 := eq_true p305
                      replace q305 := eq_true q305
                      have p306 : 0 ≤ (x22_5 : Int) := of_decide_eq_true (by first | (with_reducible assumption) | assumption)
                      have q306 : x22_5 < (t302.length : Int) := of_decide_eq_true (by first | (with_reducible assumption) | assumption)
                      obtain ⟨ad306, e306, hx306_0⟩ := Kd.at_int (Kd.R_reads' HO_21.out).2.2 x22_5 p306 q306
                      obtain rfl : ad305 = ad306 := (by injection e306)
                      replace p306 := eq_true p306
                      replace q306 := eq_true q306
                      go_wp2
                      repeat (go_quiet (fail); try go_wp2)
                      go_ret
                      exact ⟨by first | rfl | (simp [errW_none, errW_some] <;> rfl) | (simp [*, errW_none, errW_some] <;> rfl), by repeat (first | (with_reducible first | exact HB.out | apply below_alloc | apply pw_below_drewN | apply below_drew1) | exact HB.out)⟩
                     ·rw [if_neg c94] at H
                      have c94b0 : decide ((l0.length : Int) ≤ (rd t302 x22_5)) = false := decide_eq_false c94
                      clear c94
                      by_cases c95 : 0 ≤ (rd t302 x22_5)
                      ·rw [if_pos c95] at H
                       have c95b0 : decide (0 ≤ (rd t302 x22_5)) = true := decide_eq_true c95
                       clear c95
                       by_cases c96 : (rd t302 x22_5) < (x12_2.length : Int)
                       ·rw [if_pos c96] at H
                        have c96b0 : decide ((rd t302 x22_5) < (x12_2.length : Int)) = true := decide_eq_true c96
                        clear c96
                        obtain ⟨bq97, hbq97⟩ : ∃ b_ : Bool, b_ = (rdOf false x12_2 (rd t302 x22_5)) := ⟨_, rfl⟩
                        replace H : (if (bq97 = true) then (butlerlaw11_RecipeOrders.l4 k5 l0 x12_2 t302 (wrap64 (x22_5 + 1))) else (some false)) = some r := by rw [← hbq97] at H; exact H
                        have Nbq97 := Aside0.mk hbq97
                        clear hbq97
                        by_cases c98 : (bq97 = true)
                        ·subst c98
                         have H1 : (butlerlaw11_RecipeOrders.l4 k5 l0 x12_2 t302 (wrap64 (x22_5 + 1))) = some r := by rw [if_pos rfl] at H; exact H
                         clear H
                         have H := H1
                         clear H1
                         have H' := Aside0.mk H
                         clear H
                         have p305 : 0 ≤ (x22_5 : Int) := of_decide_eq_true (by first | (with_reducible assumption) | assumption)
                         have q305 : x22_5 < (t302.length : Int) := of_decide_eq_true (by first | (with_reducible assumption) | assumption)
                         obtain ⟨ad305, e305, hx305_0⟩ := Kd.at_int (Kd.R_reads' HO_21.out).2.2 x22_5 p305 q305
                         cases e305
                         replace p305 := eq_true p305
                         replace q305 := eq_true q305
                         have p306 : 0 ≤ (x22_5 : Int) := of_decide_eq_true (by first | (with_reducible assumption) | assumption)
                         have q306 : x22_5 < (t302.length : Int) := of_decide_eq_true (by first | (with_reducible assumption) | assumption)
                         obtain ⟨ad306, e306, hx306_0⟩ := Kd.at_int (Kd.R_reads' HO_21.out).2.2 x22_5 p306 q306
                         obtain rfl : ad305 = ad306 := (by injection e306)
                         replace p306 := eq_true p306
                         replace q306 := eq_true q306
                         have p307 : 0 ≤ (x22_5 : Int) := of_decide_eq_true (by first | (with_reducible assumption) | assumption)
                         have q307 : x22_5 < (t302.length : Int) := of_decide_eq_true (by first | (with_reducible assumption) | assumption)
                         obtain ⟨ad307, e307, hx307_0⟩ := Kd.at_int (Kd.R_reads' HO_21.out).2.2 x22_5 p307 q307
                         obtain rfl : ad305 = ad307 := (by injection e307)
                         replace p307 := eq_true p307
                         replace q307 := eq_true q307
                         obtain ⟨Ao99, co99, eo99⟩ := Kd.R_slice HO_12.out
                         subst eo99
                         have p308 : 0 ≤ ((rd t302 x22_5) : Int) := of_decide_eq_true (by first | (with_reducible assumption) | assumption)
                         have q308 : (rd t302 x22_5) < (x12_2.length : Int) := of_decide_eq_true (by first | (with_reducible assumption) | assumption)
                         obtain ⟨ad308, e308, hx308_0⟩ := Kd.at_bool (Kd.R_reads' HO_12.out).2.2 (rd t302 x22_5) p308 q308
                         (try rw [← Nbq97.out] at hx308_0)
                         cases e308
                         replace p308 := eq_true p308
                         replace q308 := eq_true q308
                         go_wp2
                         repeat (go_quiet (fail); try go_wp2)
                         go_roundg k5
                         case measure => have := HJ5.out; have := HK2.out; have := HK3.out; have := HK4.out; have := HK5.out; omega
                         case rel => exact ⟨(wrap64 (x22_5 + 1)), (by first | rfl | (simp; done) | (simp [*]; done)), H', ⟨by have := HJ5.out; have := HK2.out; have := HK3.out; have := HK4.out; have := HK5.out; omega⟩, ⟨by (with_reducible repeat (first | apply Kd.R_alloc | apply Kd.R_drewN | apply Kd.R_drew)); exact HO_12.out⟩, ⟨by (with_reducible repeat (first | apply Kd.R_alloc | apply Kd.R_drewN | apply Kd.R_drew)); exact HO_21.out⟩, ⟨by repeat (first | (with_reducible first | exact HB.out | apply below_alloc | apply pw_below_drewN | apply below_drew1) | exact HB.out)⟩⟩
                        ·replace c98 := Bool.eq_false_iff.mpr c98
                         subst c98
                         have H1 : (some false) = some r := by rw [if_neg (show ¬ (false = true) by decide)] at H; exact H
                         clear H
                         have H := H1
                         clear H1
                         obtain rfl := Option.some.inj H
                         have p305 : 0 ≤ (x22_5 : Int) := of_decide_eq_true (by first | (with_reducible assumption) | assumption)
                         have q305 : x22_5 < (t302.length : Int) := of_decide_eq_true (by first | (with_reducible assumption) | assumption)
                         obtain ⟨ad305, e305, hx305_0⟩ := Kd.at_int (Kd.R_reads' HO_21.out).2.2 x22_5 p305 q305
                         cases e305
                         replace p305 := eq_true p305
                         replace q305 := eq_true q305
                         have p306 : 0 ≤ (x22_5 : Int) := of_decide_eq_true (by first | (with_reducible assumption) | assumption)
                         have q306 : x22_5 < (t302.length : Int) := of_decide_eq_true (by first | (with_reducible assumption) | assumption)
                         obtain ⟨ad306, e306, hx306_0⟩ := Kd.at_int (Kd.R_reads' HO_21.out).2.2 x22_5 p306 q306
                         obtain rfl : ad305 = ad306 := (by injection e306)
                         replace p306 := eq_true p306
                         replace q306 := eq_true q306
                         have p307 : 0 ≤ (x22_5 : Int) := of_decide_eq_true (by first | (with_reducible assumption) | assumption)
                         have q307 : x22_5 < (t302.length : Int) := of_decide_eq_true (by first | (with_reducible assumption) | assumption)
                         obtain ⟨ad307, e307, hx307_0⟩ := Kd.at_int (Kd.R_reads' HO_21.out).2.2 x22_5 p307 q307
                         obtain rfl : ad305 = ad307 := (by injection e307)
                         replace p307 := eq_true p307
                         replace q307 := eq_true q307
                         obtain ⟨Ao100, co100, eo100⟩ := Kd.R_slice HO_12.out
                         subst eo100
                         have p308 : 0 ≤ ((rd t302 x22_5) : Int) := of_decide_eq_true (by first | (with_reducible assumption) | assumption)
                         have q308 : (rd t302 x22_5) < (x12_2.length : Int) := of_decide_eq_true (by first | (with_reducible assumption) | assumption)
                         obtain ⟨ad308, e308, hx308_0⟩ := Kd.at_bool (Kd.R_reads' HO_12.out).2.2 (rd t302 x22_5) p308 q308
                         (try rw [← Nbq97.out] at hx308_0)
                         cases e308
                         replace p308 := eq_true p308
                         replace q308 := eq_true q308
                         go_wp2
                         repeat (go_quiet (fail); try go_wp2)
                         go_ret
                         exact ⟨by first | rfl | (simp [errW_none, errW_some] <;> rfl) | (simp [*, errW_none, errW_some] <;> rfl), by repeat (first | (with_reducible first | exact HB.out | apply below_alloc | apply pw_below_drewN | apply below_drew1) | exact HB.out)⟩
                       ·rw [if_neg c96] at H
                        exact absurd H (by simp)
                      ·rw [if_neg c95] at H
                       exact absurd H (by simp)
                   ·rw [if_neg c92] at H
                    exact absurd H (by simp)
                  ·rw [if_neg c91] at H
                   have c91b0 : decide (x22_5 < (t302.length : Int)) = false := decide_eq_false c91
                   clear c91
                   obtain rfl := Option.some.inj H
                   go_wp2
                   repeat (go_quiet (fail); try go_wp2)
                   go_ret
                   exact ⟨by first | rfl | (simp [errW_none, errW_some] <;> rfl) | (simp [*, errW_none, errW_some] <;> rfl), by repeat (first | (with_reducible first | exact HB.out | apply below_alloc | apply pw_below_drewN | apply below_drew1) | exact HB.out)⟩
               ·rw [if_neg c87] at H
                have c87b0 : ((t302.length : Int) == (t281.length : Int)) = false := beq_eq_false_iff_ne.mpr c87
                have c87b1 : ((t302.length : Int) != (t281.length : Int)) = true := bne_iff_ne.mpr c87
                have c87b2 : (t302.length == t281.length) = false := by first | simpa using c87 | (simp at c87 ⊢; omega)
                obtain rfl := Option.some.inj H
                obtain ⟨Ao101, co101, eo101⟩ := Kd.R_slice HO_19.out
                subst eo101
                go_wp2_with (first | (go_at_call 14; (with_reducible refine (recipe_Order.calls _ _ l0 _ _ x19_4 t302 _ ?side1 ?side2 ?side3 ?side4 A86.out).mono ?_); (case side1 => repeat (first | exact (Kd.C_below HR0.out HB.out) | (with_reducible refine Kd.C_alloc ?_ _) | (with_reducible refine Kd.C_drewN ?_ _) | (with_reducible refine Kd.C_drew ?_))); (case side2 => exact HC0.out); (case side3 => repeat (first | exact (Kd.R_reads' HO_19.out).2.2 | (with_reducible refine Kd.C_alloc ?_ _) | (with_reducible refine Kd.C_drewN ?_ _) | (with_reducible refine Kd.C_drew ?_))); (case side4 => exact (Kd.R_reads' HO_19.out).2.1); rintro e w102 ⟨v303, rfl, ho0, hb⟩; have n0_ := Aside0.mk (Kd.R_elder' (by (with_reducible repeat (first | apply Kd.R_alloc | apply Kd.R_drewN | apply Kd.R_drew)); exact HO_11.out) (Kd.R_base ho0) hb); have n1_ := Aside0.mk (Kd.R_below (by (with_reducible repeat (first | apply Kd.R_alloc | apply Kd.R_drewN | apply Kd.R_drew)); exact HO_12.out) hb); have n2_ := Aside0.mk (Kd.R_elder' (by (with_reducible repeat (first | apply Kd.R_alloc | apply Kd.R_drewN | apply Kd.R_drew)); exact HO_19.out) (Kd.R_base ho0) hb); have n3_ := Aside0.mk (Kd.R_lower (Kd.R_new' (Kd.R_new' ho0 (Kd.R_lt (by (with_reducible repeat (first | apply Kd.R_alloc | apply Kd.R_drewN | apply Kd.R_drew)); exact HO_11.out))) (Kd.R_lt (by (with_reducible repeat (first | apply Kd.R_alloc | apply Kd.R_drewN | apply Kd.R_drew)); exact HO_19.out))) (below_size (by repeat (first | (with_reducible first | exact HB.out | apply below_alloc | apply pw_below_drewN | apply below_drew1) | exact HB.out)))); have n4_ := Aside0.mk (below_step (by repeat (first | (with_reducible first | exact HB.out | apply below_alloc | apply pw_below_drewN | apply below_drew1) | exact HB.out)) hb); clear HO_11; clear HO_12; clear HO_19; clear HB; have HO_11 := n0_; have HO_12 := n1_; have HO_19 := n2_; have HO304 := n3_; have HB := n4_; clear n0_ n1_ n2_ n3_ n4_; (try clear hb); (try clear hb2); (try clear hk); (try clear hi); (try clear ho0); obtain ⟨Ao103, co103, eo103⟩ := Kd.R_slice HO304.out; subst eo103))
                repeat (go_quiet (first | (go_at_call 14; (with_reducible refine (recipe_Order.calls _ _ l0 _ _ x19_4 t302 _ ?side1 ?side2 ?side3 ?side4 A86.out).mono ?_); (case side1 => repeat (first | exact (Kd.C_below HR0.out HB.out) | (with_reducible refine Kd.C_alloc ?_ _) | (with_reducible refine Kd.C_drewN ?_ _) | (with_reducible refine Kd.C_drew ?_))); (case side2 => exact HC0.out); (case side3 => repeat (first | exact (Kd.R_reads' HO_19.out).2.2 | (with_reducible refine Kd.C_alloc ?_ _) | (with_reducible refine Kd.C_drewN ?_ _) | (with_reducible refine Kd.C_drew ?_))); (case side4 => exact (Kd.R_reads' HO_19.out).2.1); rintro e w102 ⟨v303, rfl, ho0, hb⟩; have n0_ := Aside0.mk (Kd.R_elder' (by (with_reducible repeat (first | apply Kd.R_alloc | apply Kd.R_drewN | apply Kd.R_drew)); exact HO_11.out) (Kd.R_base ho0) hb); have n1_ := Aside0.mk (Kd.R_below (by (with_reducible repeat (first | apply Kd.R_alloc | apply Kd.R_drewN | apply Kd.R_drew)); exact HO_12.out) hb); have n2_ := Aside0.mk (Kd.R_elder' (by (with_reducible repeat (first | apply Kd.R_alloc | apply Kd.R_drewN | apply Kd.R_drew)); exact HO_19.out) (Kd.R_base ho0) hb); have n3_ := Aside0.mk (Kd.R_lower (Kd.R_new' (Kd.R_new' ho0 (Kd.R_lt (by (with_reducible repeat (first | apply Kd.R_alloc | apply Kd.R_drewN | apply Kd.R_drew)); exact HO_11.out))) (Kd.R_lt (by (with_reducible repeat (first | apply Kd.R_alloc | apply Kd.R_drewN | apply Kd.R_drew)); exact HO_19.out))) (below_size (by repeat (first | (with_reducible first | exact HB.out | apply below_alloc | apply pw_below_drewN | apply below_drew1) | exact HB.out)))); have n4_ := Aside0.mk (below_step (by repeat (first | (with_reducible first | exact HB.out | apply below_alloc | apply pw_below_drewN | apply below_drew1) | exact HB.out)) hb); clear HO_11; clear HO_12; clear HO_19; clear HB; have HO_11 := n0_; have HO_12 := n1_; have HO_19 := n2_; have HO304 := n3_; have HB := n4_; clear n0_ n1_ n2_ n3_ n4_; (try clear hb); (try clear hb2); (try clear hk); (try clear hi); (try clear ho0); obtain ⟨Ao103, co103, eo103⟩ := Kd.R_slice HO304.out; subst eo103)); try go_wp2_with (first | (go_at_call 14; (with_reducible refine (recipe_Order.calls _ _ l0 _ _ x19_4 t302 _ ?side1 ?side2 ?side3 ?side4 A86.out).mono ?_); (case side1 => repeat (first | exact (Kd.C_below HR0.out HB.out) | (with_reducible refine Kd.C_alloc ?_ _) | (with_reducible refine Kd.C_drewN ?_ _) | (with_reducible refine Kd.C_drew ?_))); (case side2 => exact HC0.out); (case side3 => repeat (first | exact (Kd.R_reads' HO_19.out).2.2 | (with_reducible refine Kd.C_alloc ?_ _) | (with_reducible refine Kd.C_drewN ?_ _) | (with_reducible refine Kd.C_drew ?_))); (case side4 => exact (Kd.R_reads' HO_19.out).2.1); rintro e w102 ⟨v303, rfl, ho0, hb⟩; have n0_ := Aside0.mk (Kd.R_elder' (by (with_reducible repeat (first | apply Kd.R_alloc | apply Kd.R_drewN | apply Kd.R_drew)); exact HO_11.out) (Kd.R_base ho0) hb); have n1_ := Aside0.mk (Kd.R_below (by (with_reducible repeat (first | apply Kd.R_alloc | apply Kd.R_drewN | apply Kd.R_drew)); exact HO_12.out) hb); have n2_ := Aside0.mk (Kd.R_elder' (by (with_reducible repeat (first | apply Kd.R_alloc | apply Kd.R_drewN | apply Kd.R_drew)); exact HO_19.out) (Kd.R_base ho0) hb); have n3_ := Aside0.mk (Kd.R_lower (Kd.R_new' (Kd.R_new' ho0 (Kd.R_lt (by (with_reducible repeat (first | apply Kd.R_alloc | apply Kd.R_drewN | apply Kd.R_drew)); exact HO_11.out))) (Kd.R_lt (by (with_reducible repeat (first | apply Kd.R_alloc | apply Kd.R_drewN | apply Kd.R_drew)); exact HO_19.out))) (below_size (by repeat (first | (with_reducible first | exact HB.out | apply below_alloc | apply pw_below_drewN | apply below_drew1) | exact HB.out)))); have n4_ := Aside0.mk (below_step (by repeat (first | (with_reducible first | exact HB.out | apply below_alloc | apply pw_below_drewN | apply below_drew1) | exact HB.out)) hb); clear HO_11; clear HO_12; clear HO_19; clear HB; have HO_11 := n0_; have HO_12 := n1_; have HO_19 := n2_; have HO304 := n3_; have HB := n4_; clear n0_ n1_ n2_ n3_ n4_; (try clear hb); (try clear hb2); (try clear hk); (try clear hi); (try clear ho0); obtain ⟨Ao103, co103, eo103⟩ := Kd.R_slice HO304.out; subst eo103)))
                go_ret
                exact ⟨by first | rfl | (simp [errW_none, errW_some] <;> rfl) | (simp [*, errW_none, errW_some] <;> rfl), by repeat (first | (with_reducible first | exact HB.out | apply below_alloc | apply pw_below_drewN | apply below_drew1) | exact HB.out)⟩
     ·rw [if_neg c16] at H
      exact absurd H (by simp)
    ·rw [if_neg c15] at H
     exact absurd H (by simp)

end
end Go.Proofs.Ytgahkloigbhgdaa.PR
