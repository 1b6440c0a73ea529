import Derived.Test.YtakhipedjccpkaaDoorPHx0
namespace Go.Proofs.YtakhipedjccpkaaDoor.PH
open Go.RowKit Go.Proofs.YtakhipedjccpkaaDoorW.PrintWords Go.Proofs.YtakhipedjccpkaaDoorW.PrintLast Go.Proofs.YtakhipedjccpkaaDoorW.PrintMore
noncomputable section
attribute [local go_sem] max2_int min2_int max_two min_two max_three min_three max_four min_four   -- for this text's walks alone
set_option linter.unusedVariables false
set_option linter.unusedSimpArgs false

/-! ### butlerlaw03_heavy: function 8 -/
mutual
def butlerlaw03_heavy.l0 : Nat → List (S33) → Int → Int → Option (Bool)
 | 0, _, _, _ => none
 | k + 1, x0, x3, x4 => if x4 < (x0.length : Int) then (butlerlaw03_heavy.l1 k x0 x3 x4 1 0) else (some false)
def butlerlaw03_heavy.l1 : Nat → List (S33) → Int → Int → Int → Int → Option (Bool)
 | 0, _, _, _, _, _ => none
 | k + 1, x0, x3, x4, x5, x6 => if x6 < (x0.length : Int) then (if 0 ≤ x6 then (if 0 ≤ x4 then (if x4 < (x0.length : Int) then (if ((rd_T33 x0 x6).f4) < ((rd_T33 x0 x4).f4) then (if ((rd_T33 x0 x6).f5) = (-1) then (butlerlaw03_heavy.l1 k x0 x3 x4 (wrap64 (x5 + 1)) (wrap64 (x6 + 1))) else (if (((rd_T33 x0 x6).f5) < ((rd_T33 x0 x4).f4)) then (butlerlaw03_heavy.l1 k x0 x3 x4 x5 (wrap64 (x6 + 1))) else (butlerlaw03_heavy.l1 k x0 x3 x4 (wrap64 (x5 + 1)) (wrap64 (x6 + 1))))) else (if ((rd_T33 x0 x6).f4) = ((rd_T33 x0 x4).f4) then (if ((rd_T33 x0 x6).f5) = (-1) then (if x6 < x4 then (butlerlaw03_heavy.l1 k x0 x3 x4 (wrap64 (x5 + 1)) (wrap64 (x6 + 1))) else (butlerlaw03_heavy.l1 k x0 x3 x4 x5 (wrap64 (x6 + 1)))) else (if x6 < x4 then (if (((rd_T33 x0 x6).f5) < ((rd_T33 x0 x4).f4)) then (butlerlaw03_heavy.l1 k x0 x3 x4 x5 (wrap64 (x6 + 1))) else (butlerlaw03_heavy.l1 k x0 x3 x4 (wrap64 (x5 + 1)) (wrap64 (x6 + 1)))) else (butlerlaw03_heavy.l1 k x0 x3 x4 x5 (wrap64 (x6 + 1))))) else (if ((rd_T33 x0 x6).f5) = (-1) then (butlerlaw03_heavy.l1 k x0 x3 x4 x5 (wrap64 (x6 + 1))) else (butlerlaw03_heavy.l1 k x0 x3 x4 x5 (wrap64 (x6 + 1)))))) else (none)) else (none)) else (none)) else (if 0 ≤ x4 then (if x4 < (x0.length : Int) then (if ((rd_T33 x0 x4).f5) = (-1) then (if (wrap64 (x3 * (wrap64 (x5 * 3)))) > 1048576 then (some true) else (butlerlaw03_heavy.l0 k x0 (wrap64 (x3 * (wrap64 (x5 * 3)))) (wrap64 (x4 + 1)))) else (if (wrap64 (x3 * x5)) > 1048576 then (some true) else (butlerlaw03_heavy.l0 k x0 (wrap64 (x3 * x5)) (wrap64 (x4 + 1))))) else (none)) else (none))
end
def butlerlaw03_heavy.f (k : Nat) (l0 : List (S33)) : Option (Bool) := if (l0.length : Int) > 12 then (some false) else (butlerlaw03_heavy.l0 k l0 1 0)
theorem butlerlaw03_heavy.mono_l : ∀ k, (∀ y0 y1 y2, LeO (butlerlaw03_heavy.l0 k y0 y1 y2) (butlerlaw03_heavy.l0 (k + 1) y0 y1 y2)) ∧ (∀ y0 y1 y2 y3 y4, LeO (butlerlaw03_heavy.l1 k y0 y1 y2 y3 y4) (butlerlaw03_heavy.l1 (k + 1) y0 y1 y2 y3 y4))
 | 0 => ⟨fun _ _ _ r h => by simp [butlerlaw03_heavy.l0] at h, fun _ _ _ _ _ r h => by simp [butlerlaw03_heavy.l1] at h⟩
 | k + 1 => by
  obtain ⟨ih0, ih1⟩ := butlerlaw03_heavy.mono_l k
  refine ⟨?_, ?_⟩
  ·intro y0 y1 y2
   unfold butlerlaw03_heavy.l0
   repeat' first
   | (with_reducible exact ih0 _ _ _)
   | (with_reducible exact ih1 _ _ _ _ _)
   | (with_reducible exact LeO.refl _)
   | (with_reducible exact LeO.none _)
   | (with_reducible refine LeO.ite ?_ ?_)
   | (with_reducible refine LeO.bind ?_ (fun _ => ?_))
   | exact ih0 _ _ _
   | exact ih1 _ _ _ _ _
   | exact LeO.none _
   | refine LeO.ite ?_ ?_
   | refine LeO.bind ?_ (fun _ => ?_)
  ·intro y0 y1 y2 y3 y4
   unfold butlerlaw03_heavy.l1
   repeat' first
   | (with_reducible exact ih0 _ _ _)
   | (with_reducible exact ih1 _ _ _ _ _)
   | (with_reducible exact LeO.refl _)
   | (with_reducible exact LeO.none _)
   | (with_reducible refine LeO.ite ?_ ?_)
   | (with_reducible refine LeO.bind ?_ (fun _ => ?_))
   | exact ih0 _ _ _
   | exact ih1 _ _ _ _ _
   | exact LeO.none _
   | refine LeO.ite ?_ ?_
   | refine LeO.bind ?_ (fun _ => ?_)
theorem butlerlaw03_heavy.mono : ∀ a0 k, LeO (butlerlaw03_heavy.f k a0) (butlerlaw03_heavy.f (k + 1) a0) := by
 intro a0 k
 obtain ⟨ih0, ih1⟩ := butlerlaw03_heavy.mono_l k
 unfold butlerlaw03_heavy.f
 repeat' first
   | (with_reducible exact ih0 _ _ _)
   | (with_reducible exact ih1 _ _ _ _ _)
   | (with_reducible exact LeO.refl _)
   | (with_reducible exact LeO.none _)
   | (with_reducible refine LeO.ite ?_ ?_)
   | (with_reducible refine LeO.bind ?_ (fun _ => ?_))
   | exact ih0 _ _ _
   | exact ih1 _ _ _ _ _
   | exact LeO.none _
   | refine LeO.ite ?_ ?_
   | refine LeO.bind ?_ (fun _ => ?_)
set_option maxHeartbeats 8000000 in
set_option maxRecDepth 100000 in
theorem butlerlaw03_heavy.calls (k : Nat) (A0 : Option Addr) (c0 : Nat) (l0 : List (S33)) (r : Bool) (w : World) (hr0 : Kd.C k33 w A0 l0.length l0) (hc0 : l0.length ≤ c0) (h : butlerlaw03_heavy.f k l0 = some r) :
  Calls Tryd.prog 8 #[.slice A0 l0.length c0] w fun e w' => e = .returned (.bool r) ∧ Drawn0 w w' := by
 have HR0 := Aside0.mk hr0
 have HC0 := Aside0.mk hc0
 clear hr0 hc0
 have H : (if (l0.length : Int) > 12 then (some false) else (butlerlaw03_heavy.l0 k l0 1 0)) = some r := h
 clear h
 by_cases c2 : (l0.length : Int) > 12
 ·rw [if_pos c2] at H
  have c2b0 : decide (12 < (l0.length : Int)) = true := decide_eq_true c2
  have c2b1 : decide (12 < l0.length) = true := decide_eq_true (by omega)
  clear c2
  obtain rfl := Option.some.inj H
  go_enter Tryd.func8, Tryd.ntmps8
  go_wp2
  repeat (go_quiet (fail); try go_wp2)
  go_ret
  exact ⟨by first | rfl | (simp; done) | (simp [*]; done), by repeat (first | exact Drawn0.refl _ | apply Drawn0.step)⟩
 ·rw [if_neg c2] at H
  have c2b0 : decide (12 < (l0.length : Int)) = false := decide_eq_false c2
  have c2b1 : decide (12 < l0.length) = false := decide_eq_false (by omega)
  clear c2
  have H' := Aside0.mk H
  clear H
  go_enter Tryd.func8, Tryd.ntmps8
  go_wp2
  repeat (go_quiet (fail); try go_wp2)
  go_loopg [3, 4] k (fun kq v3 v4 w' => ∃ (x3_1 : Int) (x4_1 : Int), v3 = .int .i64 x3_1 ∧ v4 = .int .i64 x4_1 ∧ Aside0 (butlerlaw03_heavy.l0 kq l0 x3_1 x4_1 = some r) ∧ Aside0 (kq ≤ k) ∧ Drawn0 w w')
  case atStart => exact ⟨(1), (0), (by first | rfl | (simp; done) | (simp [*]; done)), (by first | rfl | (simp; done) | (simp [*]; done)), H', ⟨Nat.le_refl _⟩, by repeat (first | exact Drawn0.refl _ | apply Drawn0.step)⟩
  case round =>
   clear H'
   try clear c2
   try clear c2b0
   try clear c2b1
   try clear p2
   obtain ⟨x3_1, x4_1, rfl, rfl, HA, HK1, ⟨m1, rfl⟩⟩ := hrel
   cases gk with
   | zero => exact absurd HA.out (by simp [butlerlaw03_heavy.l0])
   | succ k1 =>
    have H := HA.out
    clear HA
    simp only [butlerlaw03_heavy.l0] at H
    by_cases c3 : x4_1 < (l0.length : Int)
    ·rw [if_pos c3] at H
     have c3b0 : decide (x4_1 < (l0.length : Int)) = true := decide_eq_true c3
     clear c3
     have H' := Aside0.mk H
     clear H
     go_wp2
     repeat (go_quiet (fail); try go_wp2)
     go_loopg [5, 6] k1 (fun kq v5 v6 w' => ∃ (x5_2 : Int) (x6_2 : Int), v5 = .int .i64 x5_2 ∧ v6 = .int .i64 x6_2 ∧ Aside0 (butlerlaw03_heavy.l1 kq l0 x3_1 x4_1 x5_2 x6_2 = some r) ∧ Aside0 (kq ≤ k1) ∧ Drawn0 w w')
     case atStart => exact ⟨(1), (0), (by first | rfl | (simp; done) | (simp [*]; done)), (by first | rfl | (simp; done) | (simp [*]; done)), H', ⟨Nat.le_refl _⟩, by repeat (first | exact Drawn0.refl _ | apply Drawn0.step)⟩
     case round =>
      clear H'
      try clear c2
      try clear c2b0
      try clear c2b1
      try clear p2
      try clear c3
      try clear c3b0
      try clear p2
      obtain ⟨x5_2, x6_2, rfl, rfl, HA, HK2, ⟨m2, rfl⟩⟩ := hrel
      cases gk with
      | zero => exact absurd HA.out (by simp [butlerlaw03_heavy.l1])
      | succ k2 =>
       have H := HA.out
       clear HA
       simp only [butlerlaw03_heavy.l1] at H
       by_cases c4 : x6_2 < (l0.length : Int)
       ·rw [if_pos c4] at H
        have c4b0 : decide (x6_2 < (l0.length : Int)) = true := decide_eq_true c4
        clear c4
        by_cases c5 : 0 ≤ x6_2
        ·rw [if_pos c5] at H
         have c5b0 : decide (0 ≤ x6_2) = true := decide_eq_true c5
         clear c5
         by_cases c6 : 0 ≤ x4_1
         ·rw [if_pos c6] at H
          have c6b0 : decide (0 ≤ x4_1) = true := decide_eq_true c6
          clear c6
          by_cases c7 : x4_1 < (l0.length : Int)
          ·rw [if_pos c7] at H
           have c7b0 : decide (x4_1 < (l0.length : Int)) = true := decide_eq_true c7
           clear c7
           by_cases c8 : ((rd_T33 l0 x6_2).f4) < ((rd_T33 l0 x4_1).f4)
           ·rw [if_pos c8] at H
            have c8b0 : decide (((rd_T33 l0 x6_2).f4) < ((rd_T33 l0 x4_1).f4)) = true := decide_eq_true c8
            clear c8
            by_cases c9 : ((rd_T33 l0 x6_2).f5) = (-1)
            ·rw [if_pos c9] at H
             have c9b0 : (((rd_T33 l0 x6_2).f5) == (-1)) = true := beq_iff_eq.mpr c9
             have c9b1 : (((rd_T33 l0 x6_2).f5) != (-1)) = false := bne_eq_false_iff_eq.mpr c9
             clear c9
             have H' := Aside0.mk H
             clear H
             have p305 : 0 ≤ (x6_2 : Int) := of_decide_eq_true (by first | (with_reducible assumption) | assumption)
             have q305 : x6_2 < (l0.length : Int) := of_decide_eq_true (by first | (with_reducible assumption) | assumption)
             obtain ⟨ad305, e305, hx305_0, hx305_1, hx305_2, hx305_3, hx305_4, hx305_5, hx305_6, hx305_7⟩ := at_T33 HR0.out x6_2 p305 q305
             cases e305
             replace p305 := eq_true p305
             replace q305 := eq_true q305
             have p306 : 0 ≤ (x4_1 : Int) := of_decide_eq_true (by first | (with_reducible assumption) | assumption)
             have q306 : x4_1 < (l0.length : Int) := of_decide_eq_true (by first | (with_reducible assumption) | assumption)
             obtain ⟨ad306, e306, hx306_0, hx306_1, hx306_2, hx306_3, hx306_4, hx306_5, hx306_6, hx306_7⟩ := at_T33 HR0.out x4_1 p306 q306
             obtain rfl : ad305 = ad306 := (by injection e306)
             replace p306 := eq_true p306
             replace q306 := eq_true q306
             have p307 : 0 ≤ (x6_2 : Int) := of_decide_eq_true (by first | (with_reducible assumption) | assumption)
             have q307 : x6_2 < (l0.length : Int) := of_decide_eq_true (by first | (with_reducible assumption) | assumption)
             obtain ⟨ad307, e307, hx307_0, hx307_1, hx307_2, hx307_3, hx307_4, hx307_5, hx307_6, hx307_7⟩ := at_T33 HR0.out x6_2 p307 q307
             obtain rfl : ad305 = ad307 := (by injection e307)
             replace p307 := eq_true p307
             replace q307 := eq_true q307
             go_wp2
             repeat (go_quiet (fail); try go_wp2)
             go_roundg k2
             case measure => have := HK1.out; have := HK2.out; omega
             case rel => exact ⟨(wrap64 (x5_2 + 1)), (wrap64 (x6_2 + 1)), (by first | rfl | (simp; done) | (simp [*]; done)), (by first | rfl | (simp; done) | (simp [*]; done)), H', ⟨by have := HK1.out; have := HK2.out; omega⟩, by repeat (first | exact Drawn0.refl _ | apply Drawn0.step)⟩
            ·rw [if_neg c9] at H
             have c9b0 : (((rd_T33 l0 x6_2).f5) == (-1)) = false := beq_eq_false_iff_ne.mpr c9
             have c9b1 : (((rd_T33 l0 x6_2).f5) != (-1)) = true := bne_iff_ne.mpr c9
             by_cases c10 : (((rd_T33 l0 x6_2).f5) < ((rd_T33 l0 x4_1).f4))
             ·rw [if_pos c10] at H
              have c10b0 : decide (((rd_T33 l0 x6_2).f5) < ((rd_T33 l0 x4_1).f4)) = true := decide_eq_true c10
              clear c10
              have H' := Aside0.mk H
              clear H
              have p305 : 0 ≤ (x6_2 : Int) := of_decide_eq_true (by first | (with_reducible assumption) | assumption)
              have q305 : x6_2 < (l0.length : Int) := of_decide_eq_true (by first | (with_reducible assumption) | assumption)
              obtain ⟨ad305, e305, hx305_0, hx305_1, hx305_2, hx305_3, hx305_4, hx305_5, hx305_6, hx305_7⟩ := at_T33 HR0.out x6_2 p305 q305
              cases e305
              replace p305 := eq_true p305
              replace q305 := eq_true q305
              have p306 : 0 ≤ (x4_1 : Int) := of_decide_eq_true (by first | (with_reducible assumption) | assumption)
              have q306 : x4_1 < (l0.length : Int) := of_decide_eq_true (by first | (with_reducible assumption) | assumption)
              obtain ⟨ad306, e306, hx306_0, hx306_1, hx306_2, hx306_3, hx306_4, hx306_5, hx306_6, hx306_7⟩ := at_T33 HR0.out x4_1 p306 q306
              obtain rfl : ad305 = ad306 := (by injection e306)
              replace p306 := eq_true p306
              replace q306 := eq_true q306
              have p307 : 0 ≤ (x6_2 : Int) := of_decide_eq_true (by first | (with_reducible assumption) | assumption)
              have q307 : x6_2 < (l0.length : Int) := of_decide_eq_true (by first | (with_reducible assumption) | assumption)
              obtain ⟨ad307, e307, hx307_0, hx307_1, hx307_2, hx307_3, hx307_4, hx307_5, hx307_6, hx307_7⟩ := at_T33 HR0.out x6_2 p307 q307
              obtain rfl : ad305 = ad307 := (by injection e307)
              replace p307 := eq_true p307
              replace q307 := eq_true q307
              have p308 : 0 ≤ (x6_2 : Int) := of_decide_eq_true (by first | (with_reducible assumption) | assumption)
              have q308 : x6_2 < (l0.length : Int) := of_decide_eq_true (by first | (with_reducible assumption) | assumption)
              obtain ⟨ad308, e308, hx308_0, hx308_1, hx308_2, hx308_3, hx308_4, hx308_5, hx308_6, hx308_7⟩ := at_T33 HR0.out x6_2 p308 q308
              obtain rfl : ad305 = ad308 := (by injection e308)
              replace p308 := eq_true p308
              replace q308 := eq_true q308
              have p309 : 0 ≤ (x4_1 : Int) := of_decide_eq_true (by first | (with_reducible assumption) | assumption)
              have q309 : x4_1 < (l0.length : Int) := of_decide_eq_true (by first | (with_reducible assumption) | assumption)
              obtain ⟨ad309, e309, hx309_0, hx309_1, hx309_2, hx309_3, hx309_4, hx309_5, hx309_6, hx309_7⟩ := at_T33 HR0.out x4_1 p309 q309
              obtain rfl : ad305 = ad309 := (by injection e309)
              replace p309 := eq_true p309
              replace q309 := eq_true q309
              go_wp2
              repeat (go_quiet (fail); try go_wp2)
              go_roundg k2
              case measure => have := HK1.out; have := HK2.out; omega
              case rel => exact ⟨(x5_2), (wrap64 (x6_2 + 1)), (by first | rfl | (simp; done) | (simp [*]; done)), (by first | rfl | (simp; done) | (simp [*]; done)), H', ⟨by have := HK1.out; have := HK2.out; omega⟩, by repeat (first | exact Drawn0.refl _ | apply Drawn0.step)⟩
             ·rw [if_neg c10] at H
              have c10b0 : decide (((rd_T33 l0 x6_2).f5) < ((rd_T33 l0 x4_1).f4)) = false := decide_eq_false c10
              clear c10
              have H' := Aside0.mk H
              clear H
              have p305 : 0 ≤ (x6_2 : Int) := of_decide_eq_true (by first | (with_reducible assumption) | assumption)
              have q305 : x6_2 < (l0.length : Int) := of_decide_eq_true (by first | (with_reducible assumption) | assumption)
              obtain ⟨ad305, e305, hx305_0, hx305_1, hx305_2, hx305_3, hx305_4, hx305_5, hx305_6, hx305_7⟩ := at_T33 HR0.out x6_2 p305 q305
              cases e305
              replace p305 := eq_true p305
              replace q305 := eq_true q305
              have p306 : 0 ≤ (x4_1 : Int) := of_decide_eq_true (by first | (with_reducible assumption) | assumption)
              have q306 : x4_1 < (l0.length : Int) := of_decide_eq_true (by first | (with_reducible assumption) | assumption)
              obtain ⟨ad306, e306, hx306_0, hx306_1, hx306_2, hx306_3, hx306_4, hx306_5, hx306_6, hx306_7⟩ := at_T33 HR0.out x4_1 p306 q306
              obtain rfl : ad305 = ad306 := (by injection e306)
              replace p306 := eq_true p306
              replace q306 := eq_true q306
              have p307 : 0 ≤ (x6_2 : Int) := of_decide_eq_true (by first | (with_reducible assumption) | assumption)
              have q307 : x6_2 < (l0.length : Int) := of_decide_eq_true (by first | (with_reducible assumption) | assumption)
              obtain ⟨ad307, e307, hx307_0, hx307_1, hx307_2, hx307_3, hx307_4, hx307_5, hx307_6, hx307_7⟩ := at_T33 HR0.out x6_2 p307 q307
              obtain rfl : ad305 = ad307 := (by injection e307)
              replace p307 := eq_true p307
              replace q307 := eq_true q307
              have p308 : 0 ≤ (x6_2 : Int) := of_decide_eq_true (by first | (with_reducible assumption) | assumption)
              have q308 : x6_2 < (l0.length : Int) := of_decide_eq_true (by first | (with_reducible assumption) | assumption)
              obtain ⟨ad308, e308, hx308_0, hx308_1, hx308_2, hx308_3, hx308_4, hx308_5, hx308_6, hx308_7⟩ := at_T33 HR0.out x6_2 p308 q308
              obtain rfl : ad305 = ad308 := (by injection e308)
              replace p308 := eq_true p308
              replace q308 := eq_true q308
              have p309 : 0 ≤ (x4_1 : Int) := of_decide_eq_true (by first | (with_reducible assumption) | assumption)
              have q309 : x4_1 < (l0.length : Int) := of_decide_eq_true (by first | (with_reducible assumption) | assumption)
              obtain ⟨ad309, e309, hx309_0, hx309_1, hx309_2, hx309_3, hx309_4, hx309_5, hx309_6, hx309_7⟩ := at_T33 HR0.out x4_1 p309 q309
              obtain rfl : ad305 = ad309 := (by injection e309)
              replace p309 := eq_true p309
              replace q309 := eq_true q309
              go_wp2
              repeat (go_quiet (fail); try go_wp2)
              go_roundg k2
              case measure => have := HK1.out; have := HK2.out; omega
              case rel => exact ⟨(wrap64 (x5_2 + 1)), (wrap64 (x6_2 + 1)), (by first | rfl | (simp; done) | (simp [*]; done)), (by first | rfl | (simp; done) | (simp [*]; done)), H', ⟨by have := HK1.out; have := HK2.out; omega⟩, by repeat (first | exact Drawn0.refl _ | apply Drawn0.step)⟩
           ·rw [if_neg c8] at H
            have c8b0 : decide (((rd_T33 l0 x6_2).f4) < ((rd_T33 l0 x4_1).f4)) = false := decide_eq_false c8
            clear c8
            by_cases c11 : ((rd_T33 l0 x6_2).f4) = ((rd_T33 l0 x4_1).f4)
            ·rw [if_pos c11] at H
             have c11b0 : (((rd_T33 l0 x6_2).f4) == ((rd_T33 l0 x4_1).f4)) = true := beq_iff_eq.mpr c11
             have c11b1 : (((rd_T33 l0 x6_2).f4) != ((rd_T33 l0 x4_1).f4)) = false := bne_eq_false_iff_eq.mpr c11
             clear c11
             by_cases c12 : ((rd_T33 l0 x6_2).f5) = (-1)
             ·rw [if_pos c12] at H
              have c12b0 : (((rd_T33 l0 x6_2).f5) == (-1)) = true := beq_iff_eq.mpr c12
              have c12b1 : (((rd_T33 l0 x6_2).f5) != (-1)) = false := bne_eq_false_iff_eq.mpr c12
              clear c12
              by_cases c13 : x6_2 < x4_1
              ·rw [if_pos c13] at H
               have c13b0 : decide (x6_2 < x4_1) = true := decide_eq_true c13
               clear c13
               have H' := Aside0.mk H
               clear H
               have p305 : 0 ≤ (x6_2 : Int) := of_decide_eq_true (by first | (with_reducible assumption) | assumption)
               have q305 : x6_2 < (l0.length : Int) := of_decide_eq_true (by first | (with_reducible assumption) | assumption)
               obtain ⟨ad305, e305, hx305_0, hx305_1, hx305_2, hx305_3, hx305_4, hx305_5, hx305_6, hx305_7⟩ := at_T33 HR0.out x6_2 p305 q305
               cases e305
               replace p305 := eq_true p305
               replace q305 := eq_true q305
               have p306 : 0 ≤ (x4_1 : Int) := of_decide_eq_true (by first | (with_reducible assumption) | assumption)
               have q306 : x4_1 < (l0.length : Int) := of_decide_eq_true (by first | (with_reducible assumption) | assumption)
               obtain ⟨ad306, e306, hx306_0, hx306_1, hx306_2, hx306_3, hx306_4, hx306_5, hx306_6, hx306_7⟩ := at_T33 HR0.out x4_1 p306 q306
               obtain rfl : ad305 = ad306 := (by injection e306)
               replace p306 := eq_true p306
               replace q306 := eq_true q306
               have p310 : 0 ≤ (x6_2 : Int) := of_decide_eq_true (by first | (with_reducible assumption) | assumption)
               have q310 : x6_2 < (l0.length : Int) := of_decide_eq_true (by first | (with_reducible assumption) | assumption)
               obtain ⟨ad310, e310, hx310_0, hx310_1, hx310_2, hx310_3, hx310_4, hx310_5, hx310_6, hx310_7⟩ := at_T33 HR0.out x6_2 p310 q310
               obtain rfl : ad305 = ad310 := (by injection e310)
               replace p310 := eq_true p310
               replace q310 := eq_true q310
               have p311 : 0 ≤ (x4_1 : Int) := of_decide_eq_true (by first | (with_reducible assumption) | assumption)
               have q311 : x4_1 < (l0.length : Int) := of_decide_eq_true (by first | (with_reducible assumption) | assumption)
               obtain ⟨ad311, e311, hx311_0, hx311_1, hx311_2, hx311_3, hx311_4, hx311_5, hx311_6, hx311_7⟩ := at_T33 HR0.out x4_1 p311 q311
               obtain rfl : ad305 = ad311 := (by injection e311)
               replace p311 := eq_true p311
               replace q311 := eq_true q311
               have p312 : 0 ≤ (x6_2 : Int) := of_decide_eq_true (by first | (with_reducible assumption) | assumption)
               have q312 : x6_2 < (l0.length : Int) := of_decide_eq_true (by first | (with_reducible assumption) | assumption)
               obtain ⟨ad312, e312, hx312_0, hx312_1, hx312_2, hx312_3, hx312_4, hx312_5, hx312_6, hx312_7⟩ := at_T33 HR0.out x6_2 p312 q312
               obtain rfl : ad305 = ad312 := (by injection e312)
               replace p312 := eq_true p312
               replace q312 := eq_true q312
               go_wp2
               repeat (go_quiet (fail); try go_wp2)
               go_roundg k2
               case measure => have := HK1.out; have := HK2.out; omega
               case rel => exact ⟨(wrap64 (x5_2 + 1)), (wrap64 (x6_2 + 1)), (by first | rfl | (simp; done) | (simp [*]; done)), (by first | rfl | (simp; done) | (simp [*]; done)), H', ⟨by have := HK1.out; have := HK2.out; omega⟩, by repeat (first | exact Drawn0.refl _ | apply Drawn0.step)⟩
              ·rw [if_neg c13] at H
               have c13b0 : decide (x6_2 < x4_1) = false := decide_eq_false c13
               clear c13
               have H' := Aside0.mk H
               clear H
               have p305 : 0 ≤ (x6_2 : Int) := of_decide_eq_true (by first | (with_reducible assumption) | assumption)
               have q305 : x6_2 < (l0.length : Int) := of_decide_eq_true (by first | (with_reducible assumption) | assumption)
               obtain ⟨ad305, e305, hx305_0, hx305_1, hx305_2, hx305_3, hx305_4, hx305_5, hx305_6, hx305_7⟩ := at_T33 HR0.out x6_2 p305 q305
               cases e305
               replace p305 := eq_true p305
               replace q305 := eq_true q305
               have p306 : 0 ≤ (x4_1 : Int) := of_decide_eq_true (by first | (with_reducible assumption) | assumption)
               have q306 : x4_1 < (l0.length : Int) := of_decide_eq_true (by first | (with_reducible assumption) | assumption)
               obtain ⟨ad306, e306, hx306_0, hx306_1, hx306_2, hx306_3, hx306_4, hx306_5, hx306_6, hx306_7⟩ := at_T33 HR0.out x4_1 p306 q306
               obtain rfl : ad305 = ad306 := (by injection e306)
               replace p306 := eq_true p306
               replace q306 := eq_true q306
               have p310 : 0 ≤ (x6_2 : Int) := of_decide_eq_true (by first | (with_reducible assumption) | assumption)
               have q310 : x6_2 < (l0.length : Int) := of_decide_eq_true (by first | (with_reducible assumption) | assumption)
               obtain ⟨ad310, e310, hx310_0, hx310_1, hx310_2, hx310_3, hx310_4, hx310_5, hx310_6, hx310_7⟩ := at_T33 HR0.out x6_2 p310 q310
               obtain rfl : ad305 = ad310 := (by injection e310)
               replace p310 := eq_true p310
               replace q310 := eq_true q310
               have p311 : 0 ≤ (x4_1 : Int) := of_decide_eq_true (by first | (with_reducible assumption) | assumption)
               have q311 : x4_1 < (l0.length : Int) := of_decide_eq_true (by first | (with_reducible assumption) | assumption)
               obtain ⟨ad311, e311, hx311_0, hx311_1, hx311_2, hx311_3, hx311_4, hx311_5, hx311_6, hx311_7⟩ := at_T33 HR0.out x4_1 p311 q311
               obtain rfl : ad305 = ad311 := (by injection e311)
               replace p311 := eq_true p311
               replace q311 := eq_true q311
               have p312 : 0 ≤ (x6_2 : Int) := of_decide_eq_true (by first | (with_reducible assumption) | assumption)
               have q312 : x6_2 < (l0.length : Int) := of_decide_eq_true (by first | (with_reducible assumption) | assumption)
               obtain ⟨ad312, e312, hx312_0, hx312_1, hx312_2, hx312_3, hx312_4, hx312_5, hx312_6, hx312_7⟩ := at_T33 HR0.out x6_2 p312 q312
               obtain rfl : ad305 = ad312 := (by injection e312)
               replace p312 := eq_true p312
               replace q312 := eq_true q312
               go_wp2
               repeat (go_quiet (fail); try go_wp2)
               go_roundg k2
               case measure => have := HK1.out; have := HK2.out; omega
               case rel => exact ⟨(x5_2), (wrap64 (x6_2 + 1)), (by first | rfl | (simp; done) | (simp [*]; done)), (by first | rfl | (simp; done) | (simp [*]; done)), H', ⟨by have := HK1.out; have := HK2.out; omega⟩, by repeat (first | exact Drawn0.refl _ | apply Drawn0.step)⟩
             ·rw [if_neg c12] at H
              have c12b0 : (((rd_T33 l0 x6_2).f5) == (-1)) = false := beq_eq_false_iff_ne.mpr c12
              have c12b1 : (((rd_T33 l0 x6_2).f5) != (-1)) = true := bne_iff_ne.mpr c12
              by_cases c14 : x6_2 < x4_1
              ·rw [if_pos c14] at H
               have c14b0 : decide (x6_2 < x4_1) = true := decide_eq_true c14
               clear c14
               by_cases c15 : (((rd_T33 l0 x6_2).f5) < ((rd_T33 l0 x4_1).f4))
               ·rw [if_pos c15] at H
                have c15b0 : decide (((rd_T33 l0 x6_2).f5) < ((rd_T33 l0 x4_1).f4)) = true := decide_eq_true c15
                clear c15
                have H' := Aside0.mk H
                clear H
                have p305 : 0 ≤ (x6_2 : Int) := of_decide_eq_true (by first | (with_reducible assumption) | assumption)
                have q305 : x6_2 < (l0.length : Int) := of_decide_eq_true (by first | (with_reducible assumption) | assumption)
                obtain ⟨ad305, e305, hx305_0, hx305_1, hx305_2, hx305_3, hx305_4, hx305_5, hx305_6, hx305_7⟩ := at_T33 HR0.out x6_2 p305 q305
                cases e305
                replace p305 := eq_true p305
                replace q305 := eq_true q305
                have p306 : 0 ≤ (x4_1 : Int) := of_decide_eq_true (by first | (with_reducible assumption) | assumption)
                have q306 : x4_1 < (l0.length : Int) := of_decide_eq_true (by first | (with_reducible assumption) | assumption)
                obtain ⟨ad306, e306, hx306_0, hx306_1, hx306_2, hx306_3, hx306_4, hx306_5, hx306_6, hx306_7⟩ := at_T33 HR0.out x4_1 p306 q306
                obtain rfl : ad305 = ad306 := (by injection e306)
                replace p306 := eq_true p306
                replace q306 := eq_true q306
                have p310 : 0 ≤ (x6_2 : Int) := of_decide_eq_true (by first | (with_reducible assumption) | assumption)
                have q310 : x6_2 < (l0.length : Int) := of_decide_eq_true (by first | (with_reducible assumption) | assumption)
                obtain ⟨ad310, e310, hx310_0, hx310_1, hx310_2, hx310_3, hx310_4, hx310_5, hx310_6, hx310_7⟩ := at_T33 HR0.out x6_2 p310 q310
                obtain rfl : ad305 = ad310 := (by injection e310)
                replace p310 := eq_true p310
                replace q310 := eq_true q310
                have p311 : 0 ≤ (x4_1 : Int) := of_decide_eq_true (by first | (with_reducible assumption) | assumption)
                have q311 : x4_1 < (l0.length : Int) := of_decide_eq_true (by first | (with_reducible assumption) | assumption)
                obtain ⟨ad311, e311, hx311_0, hx311_1, hx311_2, hx311_3, hx311_4, hx311_5, hx311_6, hx311_7⟩ := at_T33 HR0.out x4_1 p311 q311
                obtain rfl : ad305 = ad311 := (by injection e311)
                replace p311 := eq_true p311
                replace q311 := eq_true q311
                have p312 : 0 ≤ (x6_2 : Int) := of_decide_eq_true (by first | (with_reducible assumption) | assumption)
                have q312 : x6_2 < (l0.length : Int) := of_decide_eq_true (by first | (with_reducible assumption) | assumption)
                obtain ⟨ad312, e312, hx312_0, hx312_1, hx312_2, hx312_3, hx312_4, hx312_5, hx312_6, hx312_7⟩ := at_T33 HR0.out x6_2 p312 q312
                obtain rfl : ad305 = ad312 := (by injection e312)
                replace p312 := eq_true p312
                replace q312 := eq_true q312
                have p313 : 0 ≤ (x6_2 : Int) := of_decide_eq_true (by first | (with_reducible assumption) | assumption)
                have q313 : x6_2 < (l0.length : Int) := of_decide_eq_true (by first | (with_reducible assumption) | assumption)
                obtain ⟨ad313, e313, hx313_0, hx313_1, hx313_2, hx313_3, hx313_4, hx313_5, hx313_6, hx313_7⟩ := at_T33 HR0.out x6_2 p313 q313
                obtain rfl : ad305 = ad313 := (by injection e313)
                replace p313 := eq_true p313
                replace q313 := eq_true q313
                have p314 : 0 ≤ (x4_1 : Int) := of_decide_eq_true (by first | (with_reducible assumption) | assumption)
                have q314 : x4_1 < (l0.length : Int) := of_decide_eq_true (by first | (with_reducible assumption) | assumption)
                obtain ⟨ad314, e314, hx314_0, hx314_1, hx314_2, hx314_3, hx314_4, hx314_5, hx314_6, hx314_7⟩ := at_T33 HR0.out x4_1 p314 q314
                obtain rfl : ad305 = ad314 := (by injection e314)
                replace p314 := eq_true p314
                replace q314 := eq_true q314
                go_wp2
                repeat (go_quiet (fail); try go_wp2)
                go_roundg k2
                case measure => have := HK1.out; have := HK2.out; omega
                case rel => exact ⟨(x5_2), (wrap64 (x6_2 + 1)), (by first | rfl | (simp; done) | (simp [*]; done)), (by first | rfl | (simp; done) | (simp [*]; done)), H', ⟨by have := HK1.out; have := HK2.out; omega⟩, by repeat (first | exact Drawn0.refl _ | apply Drawn0.step)⟩
               ·rw [if_neg c15] at H
                have c15b0 : decide (((rd_T33 l0 x6_2).f5) < ((rd_T33 l0 x4_1).f4)) = false := decide_eq_false c15
                clear c15
                have H' := Aside0.mk H
                clear H
                have p305 : 0 ≤ (x6_2 : Int) := of_decide_eq_true (by first | (with_reducible assumption) | assumption)
                have q305 : x6_2 < (l0.length : Int) := of_decide_eq_true (by first | (with_reducible assumption) | assumption)
                obtain ⟨ad305, e305, hx305_0, hx305_1, hx305_2, hx305_3, hx305_4, hx305_5, hx305_6, hx305_7⟩ := at_T33 HR0.out x6_2 p305 q305
                cases e305
                replace p305 := eq_true p305
                replace q305 := eq_true q305
                have p306 : 0 ≤ (x4_1 : Int) := of_decide_eq_true (by first | (with_reducible assumption) | assumption)
                have q306 : x4_1 < (l0.length : Int) := of_decide_eq_true (by first | (with_reducible assumption) | assumption)
                obtain ⟨ad306, e306, hx306_0, hx306_1, hx306_2, hx306_3, hx306_4, hx306_5, hx306_6, hx306_7⟩ := at_T33 HR0.out x4_1 p306 q306
                obtain rfl : ad305 = ad306 := (by injection e306)
                replace p306 := eq_true p306
                replace q306 := eq_true q306
                have p310 : 0 ≤ (x6_2 : Int) := of_decide_eq_true (by first | (with_reducible assumption) | assumption)
                have q310 : x6_2 < (l0.length : Int) := of_decide_eq_true (by first | (with_reducible assumption) | assumption)
                obtain ⟨ad310, e310, hx310_0, hx310_1, hx310_2, hx310_3, hx310_4, hx310_5, hx310_6, hx310_7⟩ := at_T33 HR0.out x6_2 p310 q310
                obtain rfl : ad305 = ad310 := (by injection e310)
                replace p310 := eq_true p310
                replace q310 := eq_true q310
                have p311 : 0 ≤ (x4_1 : Int) := of_decide_eq_true (by first | (with_reducible assumption) | assumption)
                have q311 : x4_1 < (l0.length : Int) := of_decide_eq_true (by first | (with_reducible assumption) | assumption)
                obtain ⟨ad311, e311, hx311_0, hx311_1, hx311_2, hx311_3, hx311_4, hx311_5, hx311_6, hx311_7⟩ := at_T33 HR0.out x4_1 p311 q311
                obtain rfl : ad305 = ad311 := (by injection e311)
                replace p311 := eq_true p311
                replace q311 := eq_true q311
                have p312 : 0 ≤ (x6_2 : Int) := of_decide_eq_true (by first | (with_reducible assumption) | assumption)
                have q312 : x6_2 < (l0.length : Int) := of_decide_eq_true (by first | (with_reducible assumption) | assumption)
                obtain ⟨ad312, e312, hx312_0, hx312_1, hx312_2, hx312_3, hx312_4, hx312_5, hx312_6, hx312_7⟩ := at_T33 HR0.out x6_2 p312 q312
                obtain rfl : ad305 = ad312 := (by injection e312)
                replace p312 := eq_true p312
                replace q312 := eq_true q312
                have p313 : 0 ≤ (x6_2 : Int) := of_decide_eq_true (by first | (with_reducible assumption) | assumption)
                have q313 : x6_2 < (l0.length : Int) := of_decide_eq_true (by first | (with_reducible assumption) | assumption)
                obtain ⟨ad313, e313, hx313_0, hx313_1, hx313_2, hx313_3, hx313_4, hx313_5, hx313_6, hx313_7⟩ := at_T33 HR0.out x6_2 p313 q313
                obtain rfl : ad305 = ad313 := (by injection e313)
                replace p313 := eq_true p313
                replace q313 := eq_true q313
                have p314 : 0 ≤ (x4_1 : Int) := of_decide_eq_true (by first | (with_reducible assumption) | assumption)
                have q314 : x4_1 < (l0.length : Int) := of_decide_eq_true (by first | (with_reducible assumption) | assumption)
                obtain ⟨ad314, e314, hx314_0, hx314_1, hx314_2, hx314_3, hx314_4, hx314_5, hx314_6, hx314_7⟩ := at_T33 HR0.out x4_1 p314 q314
                obtain rfl : ad305 = ad314 := (by injection e314)
                replace p314 := eq_true p314
                replace q314 := eq_true q314
                go_wp2
                repeat (go_quiet (fail); try go_wp2)
                go_roundg k2
                case measure => have := HK1.out; have := HK2.out; omega
                case rel => exact ⟨(wrap64 (x5_2 + 1)), (wrap64 (x6_2 + 1)), (by first | rfl | (simp; done) | (simp [*]; done)), (by first | rfl | (simp; done) | (simp [*]; done)), H', ⟨by have := HK1.out; have := HK2.out; omega⟩, by repeat (first | exact Drawn0.refl _ | apply Drawn0.step)⟩
              ·rw [if_neg c14] at H
               have c14b0 : decide (x6_2 < x4_1) = false := decide_eq_false c14
               clear c14
               have H' := Aside0.mk H
               clear H
               have p305 : 0 ≤ (x6_2 : Int) := of_decide_eq_true (by first | (with_reducible assumption) | assumption)
               have q305 : x6_2 < (l0.length : Int) := of_decide_eq_true (by first | (with_reducible assumption) | assumption)
               obtain ⟨ad305, e305, hx305_0, hx305_1, hx305_2, hx305_3, hx305_4, hx305_5, hx305_6, hx305_7⟩ := at_T33 HR0.out x6_2 p305 q305
               cases e305
               replace p305 := eq_true p305
               replace q305 := eq_true q305
               have p306 : 0 ≤ (x4_1 : Int) := of_decide_eq_true (by first | (with_reducible assumption) | assumption)
               have q306 : x4_1 < (l0.length : Int) := of_decide_eq_true (by first | (with_reducible assumption) | assumption)
               obtain ⟨ad306, e306, hx306_0, hx306_1, hx306_2, hx306_3, hx306_4, hx306_5, hx306_6, hx306_7⟩ := at_T33 HR0.out x4_1 p306 q306
               obtain rfl : ad305 = ad306 := (by injection e306)
               replace p306 := eq_true p306
               replace q306 := eq_true q306
               have p310 : 0 ≤ (x6_2 : Int) := of_decide_eq_true (by first | (with_reducible assumption) | assumption)
               have q310 : x6_2 < (l0.length : Int) := of_decide_eq_true (by first | (with_reducible assumption) | assumption)
               obtain ⟨ad310, e310, hx310_0, hx310_1, hx310_2, hx310_3, hx310_4, hx310_5, hx310_6, hx310_7⟩ := at_T33 HR0.out x6_2 p310 q310
               obtain rfl : ad305 = ad310 := (by injection e310)
               replace p310 := eq_true p310
               replace q310 := eq_true q310
               have p311 : 0 ≤ (x4_1 : Int) := of_decide_eq_true (by first | (with_reducible assumption) | assumption)
               have q311 : x4_1 < (l0.length : Int) := of_decide_eq_true (by first | (with_reducible assumption) | assumption)
               obtain ⟨ad311, e311, hx311_0, hx311_1, hx311_2, hx311_3, hx311_4, hx311_5, hx311_6, hx311_7⟩ := at_T33 HR0.out x4_1 p311 q311
               obtain rfl : ad305 = ad311 := (by injection e311)
               replace p311 := eq_true p311
               replace q311 := eq_true q311
               have p312 : 0 ≤ (x6_2 : Int) := of_decide_eq_true (by first | (with_reducible assumption) | assumption)
               have q312 : x6_2 < (l0.length : Int) := of_decide_eq_true (by first | (with_reducible assumption) | assumption)
               obtain ⟨ad312, e312, hx312_0, hx312_1, hx312_2, hx312_3, hx312_4, hx312_5, hx312_6, hx312_7⟩ := at_T33 HR0.out x6_2 p312 q312
               obtain rfl : ad305 = ad312 := (by injection e312)
               replace p312 := eq_true p312
               replace q312 := eq_true q312
               have p313 : 0 ≤ (x6_2 : Int) := of_decide_eq_true (by first | (with_reducible assumption) | assumption)
               have q313 : x6_2 < (l0.length : Int) := of_decide_eq_true (by first | (with_reducible assumption) | assumption)
               obtain ⟨ad313, e313, hx313_0, hx313_1, hx313_2, hx313_3, hx313_4, hx313_5, hx313_6, hx313_7⟩ := at_T33 HR0.out x6_2 p313 q313
               obtain rfl : ad305 = ad313 := (by injection e313)
               replace p313 := eq_true p313
               replace q313 := eq_true q313
               have p314 : 0 ≤ (x4_1 : Int) := of_decide_eq_true (by first | (with_reducible assumption) | assumption)
               have q314 : x4_1 < (l0.length : Int) := of_decide_eq_true (by first | (with_reducible assumption) | assumption)
               obtain ⟨ad314, e314, hx314_0, hx314_1, hx314_2, hx314_3, hx314_4, hx314_5, hx314_6, hx314_7⟩ := at_T33 HR0.out x4_1 p314 q314
               obtain rfl : ad305 = ad314 := (by injection e314)
               replace p314 := eq_true p314
               replace q314 := eq_true q314
               go_wp2
               repeat (go_quiet (fail); try go_wp2)
               go_roundg k2
               case measure => have := HK1.out; have := HK2.out; omega
               case rel => exact ⟨(x5_2), (wrap64 (x6_2 + 1)), (by first | rfl | (simp; done) | (simp [*]; done)), (by first | rfl | (simp; done) | (simp [*]; done)), H', ⟨by have := HK1.out; have := HK2.out; omega⟩, by repeat (first | exact Drawn0.refl _ | apply Drawn0.step)⟩
            ·rw [if_neg c11] at H
             have c11b0 : (((rd_T33 l0 x6_2).f4) == ((rd_T33 l0 x4_1).f4)) = false := beq_eq_false_iff_ne.mpr c11
             have c11b1 : (((rd_T33 l0 x6_2).f4) != ((rd_T33 l0 x4_1).f4)) = true := bne_iff_ne.mpr c11
             by_cases c16 : ((rd_T33 l0 x6_2).f5) = (-1)
             ·rw [if_pos c16] at H
              have c16b0 : (((rd_T33 l0 x6_2).f5) == (-1)) = true := beq_iff_eq.mpr c16
              have c16b1 : (((rd_T33 l0 x6_2).f5) != (-1)) = false := bne_eq_false_iff_eq.mpr c16
              clear c16
              have H' := Aside0.mk H
              clear H
              have p305 : 0 ≤ (x6_2 : Int) := of_decide_eq_true (by first | (with_reducible assumption) | assumption)
              have q305 : x6_2 < (l0.length : Int) := of_decide_eq_true (by first | (with_reducible assumption) | assumption)
              obtain ⟨ad305, e305, hx305_0, hx305_1, hx305_2, hx305_3, hx305_4, hx305_5, hx305_6, hx305_7⟩ := at_T33 HR0.out x6_2 p305 q305
              cases e305
              replace p305 := eq_true p305
              replace q305 := eq_true q305
              have p306 : 0 ≤ (x4_1 : Int) := of_decide_eq_true (by first | (with_reducible assumption) | assumption)
              have q306 : x4_1 < (l0.length : Int) := of_decide_eq_true (by first | (with_reducible assumption) | assumption)
              obtain ⟨ad306, e306, hx306_0, hx306_1, hx306_2, hx306_3, hx306_4, hx306_5, hx306_6, hx306_7⟩ := at_T33 HR0.out x4_1 p306 q306
              obtain rfl : ad305 = ad306 := (by injection e306)
              replace p306 := eq_true p306
              replace q306 := eq_true q306
              have p310 : 0 ≤ (x6_2 : Int) := of_decide_eq_true (by first | (with_reducible assumption) | assumption)
              have q310 : x6_2 < (l0.length : Int) := of_decide_eq_true (by first | (with_reducible assumption) | assumption)
              obtain ⟨ad310, e310, hx310_0, hx310_1, hx310_2, hx310_3, hx310_4, hx310_5, hx310_6, hx310_7⟩ := at_T33 HR0.out x6_2 p310 q310
              obtain rfl : ad305 = ad310 := (by injection e310)
              replace p310 := eq_true p310
              replace q310 := eq_true q310
              have p311 : 0 ≤ (x4_1 : Int) := of_decide_eq_true (by first | (with_reducible assumption) | assumption)
              have q311 : x4_1 < (l0.length : Int) := of_decide_eq_true (by first | (with_reducible assumption) | assumption)
              obtain ⟨ad311, e311, hx311_0, hx311_1, hx311_2, hx311_3, hx311_4, hx311_5, hx311_6, hx311_7⟩ := at_T33 HR0.out x4_1 p311 q311
              obtain rfl : ad305 = ad311 := (by injection e311)
              replace p311 := eq_true p311
              replace q311 := eq_true q311
              have p315 : 0 ≤ (x6_2 : Int) := of_decide_eq_true (by first | (with_reducible assumption) | assumption)
              have q315 : x6_2 < (l0.length : Int) := of_decide_eq_true (by first | (with_reducible assumption) | assumption)
              obtain ⟨ad315, e315, hx315_0, hx315_1, hx315_2, hx315_3, hx315_4, hx315_5, hx315_6, hx315_7⟩ := at_T33 HR0.out x6_2 p315 q315
              obtain rfl : ad305 = ad315 := (by injection e315)
              replace p315 := eq_true p315
              replace q315 := eq_true q315
              go_wp2
              repeat (go_quiet (fail); try go_wp2)
              go_roundg k2
              case measure => have := HK1.out; have := HK2.out; omega
              case rel => exact ⟨(x5_2), (wrap64 (x6_2 + 1)), (by first | rfl | (simp; done) | (simp [*]; done)), (by first | rfl | (simp; done) | (simp [*]; done)), H', ⟨by have := HK1.out; have := HK2.out; omega⟩, by repeat (first | exact Drawn0.refl _ | apply Drawn0.step)⟩
             ·rw [if_neg c16] at H
              have c16b0 : (((rd_T33 l0 x6_2).f5) == (-1)) = false := beq_eq_false_iff_ne.mpr c16
              have c16b1 : (((rd_T33 l0 x6_2).f5) != (-1)) = true := bne_iff_ne.mpr c16
              have H' := Aside0.mk H
              clear H
              have p305 : 0 ≤ (x6_2 : Int) := of_decide_eq_true (by first | (with_reducible assumption) | assumption)
              have q305 : x6_2 < (l0.length : Int) := of_decide_eq_true (by first | (with_reducible assumption) | assumption)
              obtain ⟨ad305, e305, hx305_0, hx305_1, hx305_2, hx305_3, hx305_4, hx305_5, hx305_6, hx305_7⟩ := at_T33 HR0.out x6_2 p305 q305
              cases e305
              replace p305 := eq_true p305
              replace q305 := eq_true q305
              have p306 : 0 ≤ (x4_1 : Int) := of_decide_eq_true (by first | (with_reducible assumption) | assumption)
              have q306 : x4_1 < (l0.length : Int) := of_decide_eq_true (by first | (with_reducible assumption) | assumption)
              obtain ⟨ad306, e306, hx306_0, hx306_1, hx306_2, hx306_3, hx306_4, hx306_5, hx306_6, hx306_7⟩ := at_T33 HR0.out x4_1 p306 q306
              obtain rfl : ad305 = ad306 := (by injection e306)
              replace p306 := eq_true p306
              replace q306 := eq_true q306
              have p310 : 0 ≤ (x6_2 : Int) := of_decide_eq_true (by first | (with_reducible assumption) | assumption)
              have q310 : x6_2 < (l0.length : Int) := of_decide_eq_true (by first | (with_reducible assumption) | assumption)
              obtain ⟨ad310, e310, hx310_0, hx310_1, hx310_2, hx310_3, hx310_4, hx310_5, hx310_6, hx310_7⟩ := at_T33 HR0.out x6_2 p310 q310
              obtain rfl : ad305 = ad310 := (by injection e310)
              replace p310 := eq_true p310
              replace q310 := eq_true q310
              have p311 : 0 ≤ (x4_1 : Int) := of_decide_eq_true (by first | (with_reducible assumption) | assumption)
              have q311 : x4_1 < (l0.length : Int) := of_decide_eq_true (by first | (with_reducible assumption) | assumption)
              obtain ⟨ad311, e311, hx311_0, hx311_1, hx311_2, hx311_3, hx311_4, hx311_5, hx311_6, hx311_7⟩ := at_T33 HR0.out x4_1 p311 q311
              obtain rfl : ad305 = ad311 := (by injection e311)
              replace p311 := eq_true p311
              replace q311 := eq_true q311
              have p315 : 0 ≤ (x6_2 : Int) := of_decide_eq_true (by first | (with_reducible assumption) | assumption)
              have q315 : x6_2 < (l0.length : Int) := of_decide_eq_true (by first | (with_reducible assumption) | assumption)
              obtain ⟨ad315, e315, hx315_0, hx315_1, hx315_2, hx315_3, hx315_4, hx315_5, hx315_6, hx315_7⟩ := at_T33 HR0.out x6_2 p315 q315
              obtain rfl : ad305 = ad315 := (by injection e315)
              replace p315 := eq_true p315
              replace q315 := eq_true q315
              have p316 : 0 ≤ (x6_2 : Int) := of_decide_eq_true (by first | (with_reducible assumption) | assumption)
              have q316 : x6_2 < (l0.length : Int) := of_decide_eq_true (by first | (with_reducible assumption) | assumption)
              obtain ⟨ad316, e316, hx316_0, hx316_1, hx316_2, hx316_3, hx316_4, hx316_5, hx316_6, hx316_7⟩ := at_T33 HR0.out x6_2 p316 q316
              obtain rfl : ad305 = ad316 := (by injection e316)
              replace p316 := eq_true p316
              replace q316 := eq_true q316
              have p317 : 0 ≤ (x4_1 : Int) := of_decide_eq_true (by first | (with_reducible assumption) | assumption)
              have q317 : x4_1 < (l0.length : Int) := of_decide_eq_true (by first | (with_reducible assumption) | assumption)
              obtain ⟨ad317, e317, hx317_0, hx317_1, hx317_2, hx317_3, hx317_4, hx317_5, hx317_6, hx317_7⟩ := at_T33 HR0.out x4_1 p317 q317
              obtain rfl : ad305 = ad317 := (by injection e317)
              replace p317 := eq_true p317
              replace q317 := eq_true q317
              go_wp2
              repeat (go_quiet (fail); try go_wp2)
              go_roundg k2
              case measure => have := HK1.out; have := HK2.out; omega
              case rel => exact ⟨(x5_2), (wrap64 (x6_2 + 1)), (by first | rfl | (simp; done) | (simp [*]; done)), (by first | rfl | (simp; done) | (simp [*]; done)), H', ⟨by have := HK1.out; have := HK2.out; omega⟩, by repeat (first | exact Drawn0.refl _ | apply Drawn0.step)⟩
          ·rw [if_neg c7] at H
           exact absurd H (by simp)
         ·rw [if_neg c6] at H
          exact absurd H (by simp)
        ·rw [if_neg c5] at H
         exact absurd H (by simp)
       ·rw [if_neg c4] at H
        have c4b0 : decide (x6_2 < (l0.length : Int)) = false := decide_eq_false c4
        clear c4
        by_cases c17 : 0 ≤ x4_1
        ·rw [if_pos c17] at H
         have c17b0 : decide (0 ≤ x4_1) = true := decide_eq_true c17
         clear c17
         by_cases c18 : x4_1 < (l0.length : Int)
         ·rw [if_pos c18] at H
          have c18b0 : decide (x4_1 < (l0.length : Int)) = true := decide_eq_true c18
          clear c18
          by_cases c19 : ((rd_T33 l0 x4_1).f5) = (-1)
          ·rw [if_pos c19] at H
           have c19b0 : (((rd_T33 l0 x4_1).f5) == (-1)) = true := beq_iff_eq.mpr c19
           have c19b1 : (((rd_T33 l0 x4_1).f5) != (-1)) = false := bne_eq_false_iff_eq.mpr c19
           clear c19
           by_cases c20 : (wrap64 (x3_1 * (wrap64 (x5_2 * 3)))) > 1048576
           ·rw [if_pos c20] at H
            have c20b0 : decide (1048576 < (wrap64 (x3_1 * (wrap64 (x5_2 * 3))))) = true := decide_eq_true c20
            clear c20
            obtain rfl := Option.some.inj H
            have p318 : 0 ≤ (x4_1 : Int) := of_decide_eq_true (by first | (with_reducible assumption) | assumption)
            have q318 : x4_1 < (l0.length : Int) := of_decide_eq_true (by first | (with_reducible assumption) | assumption)
            obtain ⟨ad318, e318, hx318_0, hx318_1, hx318_2, hx318_3, hx318_4, hx318_5, hx318_6, hx318_7⟩ := at_T33 HR0.out x4_1 p318 q318
            cases e318
            replace p318 := eq_true p318
            replace q318 := eq_true q318
            go_wp2
            repeat (go_quiet (fail); try go_wp2)
            go_ret
            exact ⟨by first | rfl | (simp; done) | (simp [*]; done), by repeat (first | exact Drawn0.refl _ | apply Drawn0.step)⟩
           ·rw [if_neg c20] at H
            have c20b0 : decide (1048576 < (wrap64 (x3_1 * (wrap64 (x5_2 * 3))))) = false := decide_eq_false c20
            clear c20
            have H' := Aside0.mk H
            clear H
            have p318 : 0 ≤ (x4_1 : Int) := of_decide_eq_true (by first | (with_reducible assumption) | assumption)
            have q318 : x4_1 < (l0.length : Int) := of_decide_eq_true (by first | (with_reducible assumption) | assumption)
            obtain ⟨ad318, e318, hx318_0, hx318_1, hx318_2, hx318_3, hx318_4, hx318_5, hx318_6, hx318_7⟩ := at_T33 HR0.out x4_1 p318 q318
            cases e318
            replace p318 := eq_true p318
            replace q318 := eq_true q318
            go_wp2
            repeat (go_quiet (fail); try go_wp2)
            go_roundg k2
            case measure => have := HK1.out; have := HK2.out; omega
            case rel => exact ⟨(wrap64 (x3_1 * (wrap64 (x5_2 * 3)))), (wrap64 (x4_1 + 1)), (by first | rfl | (simp; done) | (simp [*]; done)), (by first | rfl | (simp; done) | (simp [*]; done)), H', ⟨by have := HK1.out; have := HK2.out; omega⟩, by repeat (first | exact Drawn0.refl _ | apply Drawn0.step)⟩
          ·rw [if_neg c19] at H
           have c19b0 : (((rd_T33 l0 x4_1).f5) == (-1)) = false := beq_eq_false_iff_ne.mpr c19
           have c19b1 : (((rd_T33 l0 x4_1).f5) != (-1)) = true := bne_iff_ne.mpr c19
           by_cases c21 : (wrap64 (x3_1 * x5_2)) > 1048576
           ·rw [if_pos c21] at H
            have c21b0 : decide (1048576 < (wrap64 (x3_1 * x5_2))) = true := decide_eq_true c21
            clear c21
            obtain rfl := Option.some.inj H
            have p318 : 0 ≤ (x4_1 : Int) := of_decide_eq_true (by first | (with_reducible assumption) | assumption)
            have q318 : x4_1 < (l0.length : Int) := of_decide_eq_true (by first | (with_reducible assumption) | assumption)
            obtain ⟨ad318, e318, hx318_0, hx318_1, hx318_2, hx318_3, hx318_4, hx318_5, hx318_6, hx318_7⟩ := at_T33 HR0.out x4_1 p318 q318
            cases e318
            replace p318 := eq_true p318
            replace q318 := eq_true q318
            go_wp2
            repeat (go_quiet (fail); try go_wp2)
            go_ret
            exact ⟨by first | rfl | (simp; done) | (simp [*]; done), by repeat (first | exact Drawn0.refl _ | apply Drawn0.step)⟩
           ·rw [if_neg c21] at H
            have c21b0 : decide (1048576 < (wrap64 (x3_1 * x5_2))) = false := decide_eq_false c21
            clear c21
            have H' := Aside0.mk H
            clear H
            have p318 : 0 ≤ (x4_1 : Int) := of_decide_eq_true (by first | (with_reducible assumption) | assumption)
            have q318 : x4_1 < (l0.length : Int) := of_decide_eq_true (by first | (with_reducible assumption) | assumption)
            obtain ⟨ad318, e318, hx318_0, hx318_1, hx318_2, hx318_3, hx318_4, hx318_5, hx318_6, hx318_7⟩ := at_T33 HR0.out x4_1 p318 q318
            cases e318
            replace p318 := eq_true p318
            replace q318 := eq_true q318
            go_wp2
            repeat (go_quiet (fail); try go_wp2)
            go_roundg k2
            case measure => have := HK1.out; have := HK2.out; omega
            case rel => exact ⟨(wrap64 (x3_1 * x5_2)), (wrap64 (x4_1 + 1)), (by first | rfl | (simp; done) | (simp [*]; done)), (by first | rfl | (simp; done) | (simp [*]; done)), H', ⟨by have := HK1.out; have := HK2.out; omega⟩, by repeat (first | exact Drawn0.refl _ | apply Drawn0.step)⟩
         ·rw [if_neg c18] at H
          exact absurd H (by simp)
        ·rw [if_neg c17] at H
         exact absurd H (by simp)
    ·rw [if_neg c3] at H
     have c3b0 : decide (x4_1 < (l0.length : Int)) = false := decide_eq_false c3
     clear c3
     obtain rfl := Option.some.inj H
     go_wp2
     repeat (go_quiet (fail); try go_wp2)
     go_ret
     exact ⟨by first | rfl | (simp; done) | (simp [*]; done), by repeat (first | exact Drawn0.refl _ | apply Drawn0.step)⟩

/-! ### butlerref03_Modulo: function 22 -/
def butlerref03_Modulo.f (a0 : Int) (a1 : Int) : Option (Int) := if a1 = 0 then (none) else (if (Int.tmod a0 a1) < 0 then (some (wrap64 ((Int.tmod a0 a1) + a1))) else (some (Int.tmod a0 a1)))
set_option maxHeartbeats 8000000 in
set_option maxRecDepth 100000 in
theorem butlerref03_Modulo.calls (a0 : Int) (a1 : Int) (r : Int) (w : World) (h : butlerref03_Modulo.f a0 a1 = some r) :
  Calls Tryd.prog 22 #[.int .i64 a0, .int .i64 a1] w fun e w' => e = .returned (.int .i64 r) ∧ Drawn0 w w' := by
 have H : (if a1 = 0 then (none) else (if (Int.tmod a0 a1) < 0 then (some (wrap64 ((Int.tmod a0 a1) + a1))) else (some (Int.tmod a0 a1)))) = some r := h
 clear h
 by_cases c3 : a1 = 0
 ·rw [if_pos c3] at H
  exact absurd H (by simp)
 ·rw [if_neg c3] at H
  have c3b0 : (a1 == 0) = false := beq_eq_false_iff_ne.mpr c3
  have c3b1 : (a1 != 0) = true := bne_iff_ne.mpr c3
  by_cases c4 : (Int.tmod a0 a1) < 0
  ·rw [if_pos c4] at H
   have c4b0 : decide ((Int.tmod a0 a1) < 0) = true := decide_eq_true c4
   clear c4
   obtain rfl := Option.some.inj H
   go_enter Tryd.func22, Tryd.ntmps22
   go_wp2
   go_ret
   exact ⟨by first | rfl | (simp; done) | (simp [*]; done), by repeat (first | exact Drawn0.refl _ | apply Drawn0.step)⟩
  ·rw [if_neg c4] at H
   have c4b0 : decide ((Int.tmod a0 a1) < 0) = false := decide_eq_false c4
   clear c4
   obtain rfl := Option.some.inj H
   go_enter Tryd.func22, Tryd.ntmps22
   go_wp2
   go_ret
   exact ⟨by first | rfl | (simp; done) | (simp [*]; done), by repeat (first | exact Drawn0.refl _ | apply Drawn0.step)⟩

end
end Go.Proofs.YtakhipedjccpkaaDoor.PH
