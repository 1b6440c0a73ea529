import Derived.Test.YtgahkloigbhgdaaPRx0
namespace Go.Proofs.Ytgahkloigbhgdaa.PR
open Go.RowKit Go.Proofs.YtgahkloigbhgdaaW.PrintWords Go.Proofs.YtgahkloigbhgdaaW.PrintLast Go.Proofs.YtgahkloigbhgdaaW.PrintMore
noncomputable section
attribute [local go_sem] max2_int min2_int max_two min_two max_three min_three max_four min_four   -- for this text's walks alone
set_option linter.unusedVariables false
set_option linter.unusedSimpArgs false

/-! ### butlerref11_Right: function 18 -/
mutual
def butlerref11_Right.l0 : Nat → List (S43) → Int → Option (Int)
 | 0, _, _ => none
 | k + 1, x0, x3 => if x3 < (x0.length : Int) then (if 0 ≤ x3 then (if (((rd_T43 x0 x3).f0).length : Int) > 20 then (some 2) else (butlerref11_Right.l0 k x0 (wrap64 (x3 + 1)))) else (none)) else (butlerref11_Right.l1 k x0 0)
def butlerref11_Right.l1 : Nat → List (S43) → Int → Option (Int)
 | 0, _, _ => none
 | k + 1, x0, x4 => if x4 < (x0.length : Int) then (if 0 ≤ x4 then (if ((rd_T43 x0 x4).f1) < 0 then (butlerref11_Right.j2 k x0 x4 true ((rd_T43 x0 x4).f0) ((rd_T43 x0 x4).f1) ((rd_T43 x0 x4).f2) ((rd_T43 x0 x4).f3) ((rd_T43 x0 x4).f4)) else (if ((rd_T43 x0 x4).f1) ≥ 8 then (butlerref11_Right.j2 k x0 x4 true ((rd_T43 x0 x4).f0) ((rd_T43 x0 x4).f1) ((rd_T43 x0 x4).f2) ((rd_T43 x0 x4).f3) ((rd_T43 x0 x4).f4)) else (if ((rd_T43 x0 x4).f2) < 0 then (butlerref11_Right.j2 k x0 x4 true ((rd_T43 x0 x4).f0) ((rd_T43 x0 x4).f1) ((rd_T43 x0 x4).f2) ((rd_T43 x0 x4).f3) ((rd_T43 x0 x4).f4)) else (if ((rd_T43 x0 x4).f2) > 2 then (butlerref11_Right.j2 k x0 x4 true ((rd_T43 x0 x4).f0) ((rd_T43 x0 x4).f1) ((rd_T43 x0 x4).f2) ((rd_T43 x0 x4).f3) ((rd_T43 x0 x4).f4)) else (if ((rd_T43 x0 x4).f4) < 0 then (butlerref11_Right.j2 k x0 x4 true ((rd_T43 x0 x4).f0) ((rd_T43 x0 x4).f1) ((rd_T43 x0 x4).f2) ((rd_T43 x0 x4).f3) ((rd_T43 x0 x4).f4)) else (if ((rd_T43 x0 x4).f4) > 2 then (butlerref11_Right.j2 k x0 x4 true ((rd_T43 x0 x4).f0) ((rd_T43 x0 x4).f1) ((rd_T43 x0 x4).f2) ((rd_T43 x0 x4).f3) ((rd_T43 x0 x4).f4)) else (if ((rd_T43 x0 x4).f3) < (-1000) then (butlerref11_Right.j2 k x0 x4 true ((rd_T43 x0 x4).f0) ((rd_T43 x0 x4).f1) ((rd_T43 x0 x4).f2) ((rd_T43 x0 x4).f3) ((rd_T43 x0 x4).f4)) else (butlerref11_Right.j2 k x0 x4 (decide (((rd_T43 x0 x4).f3) > 1000)) ((rd_T43 x0 x4).f0) ((rd_T43 x0 x4).f1) ((rd_T43 x0 x4).f2) ((rd_T43 x0 x4).f3) ((rd_T43 x0 x4).f4))))))))) else (none)) else (if (x0.length : Int) = 0 then (some 110) else (some 0))
def butlerref11_Right.j2 : Nat → List (S43) → Int → Bool → List Int → Int → Int → Int → Int → Option (Int)
 | 0, _, _, _, _, _, _, _, _ => none
 | k + 1, x0, x4, x71, x186000, x186001, x186002, x186003, x186004 => if x71 = true then (some 110) else (butlerref11_Right.l2 k x0 x4 0 x186000 x186001 x186002 x186003 x186004)
def butlerref11_Right.l2 : Nat → List (S43) → Int → Int → List Int → Int → Int → Int → Int → Option (Int)
 | 0, _, _, _, _, _, _, _, _ => none
 | k + 1, x0, x4, x6, x186000, x186001, x186002, x186003, x186004 => if x6 < (x186000.length : Int) then (if 0 ≤ x6 then (if (rd x186000 x6) < 0 then (some 110) else (if (rd x186000 x6) ≥ (x0.length : Int) then (some 110) else (if 0 ≤ (rd x186000 x6) then (if (rd x186000 x6) < (x0.length : Int) then (if ((rd_T43 x0 (rd x186000 x6)).f1) > x186001 then (some 110) else (butlerref11_Right.l2 k x0 x4 (wrap64 (x6 + 1)) x186000 x186001 x186002 x186003 x186004)) else (none)) else (none)))) else (none)) else (butlerref11_Right.l1 k x0 (wrap64 (x4 + 1)))
end
def butlerref11_Right.f (k : Nat) (l0 : List (S43)) : Option (Int) := if (l0.length : Int) > 100 then (some 2) else (butlerref11_Right.l0 k l0 0)
theorem butlerref11_Right.mono_l : ∀ k, (∀ y0 y1, LeO (butlerref11_Right.l0 k y0 y1) (butlerref11_Right.l0 (k + 1) y0 y1)) ∧ (∀ y0 y1, LeO (butlerref11_Right.l1 k y0 y1) (butlerref11_Right.l1 (k + 1) y0 y1)) ∧ (∀ y0 y1 y2 y3 y4 y5 y6 y7, LeO (butlerref11_Right.j2 k y0 y1 y2 y3 y4 y5 y6 y7) (butlerref11_Right.j2 (k + 1) y0 y1 y2 y3 y4 y5 y6 y7)) ∧ (∀ y0 y1 y2 y3 y4 y5 y6 y7, LeO (butlerref11_Right.l2 k y0 y1 y2 y3 y4 y5 y6 y7) (butlerref11_Right.l2 (k + 1) y0 y1 y2 y3 y4 y5 y6 y7))
 | 0 => ⟨fun _ _ r h => by simp [butlerref11_Right.l0] at h, fun _ _ r h => by simp [butlerref11_Right.l1] at h, fun _ _ _ _ _ _ _ _ r h => by simp [butlerref11_Right.j2] at h, fun _ _ _ _ _ _ _ _ r h => by simp [butlerref11_Right.l2] at h⟩
 | k + 1 => by
  obtain ⟨ih0, ih1, ih2, ih3⟩ := butlerref11_Right.mono_l k
  refine ⟨?_, ?_, ?_, ?_⟩
  ·intro y0 y1
   unfold butlerref11_Right.l0
   repeat' first
   | (with_reducible exact ih0 _ _)
   | (with_reducible exact ih1 _ _)
   | (with_reducible exact ih2 _ _ _ _ _ _ _ _)
   | (with_reducible exact ih3 _ _ _ _ _ _ _ _)
   | (with_reducible exact LeO.refl _)
   | (with_reducible exact LeO.none _)
   | (with_reducible refine LeO.ite ?_ ?_)
   | (with_reducible refine LeO.bind ?_ (fun _ => ?_))
   | exact ih0 _ _
   | exact ih1 _ _
   | exact ih2 _ _ _ _ _ _ _ _
   | exact ih3 _ _ _ _ _ _ _ _
   | exact LeO.none _
   | refine LeO.ite ?_ ?_
   | refine LeO.bind ?_ (fun _ => ?_)
  ·intro y0 y1
   unfold butlerref11_Right.l1
   repeat' first
   | (with_reducible exact ih0 _ _)
   | (with_reducible exact ih1 _ _)
   | (with_reducible exact ih2 _ _ _ _ _ _ _ _)
   | (with_reducible exact ih3 _ _ _ _ _ _ _ _)
   | (with_reducible exact LeO.refl _)
   | (with_reducible exact LeO.none _)
   | (with_reducible refine LeO.ite ?_ ?_)
   | (with_reducible refine LeO.bind ?_ (fun _ => ?_))
   | exact ih0 _ _
   | exact ih1 _ _
   | exact ih2 _ _ _ _ _ _ _ _
   | exact ih3 _ _ _ _ _ _ _ _
   | exact LeO.none _
   | refine LeO.ite ?_ ?_
   | refine LeO.bind ?_ (fun _ => ?_)
  ·intro y0 y1 y2 y3 y4 y5 y6 y7
   unfold butlerref11_Right.j2
   repeat' first
   | (with_reducible exact ih0 _ _)
   | (with_reducible exact ih1 _ _)
   | (with_reducible exact ih2 _ _ _ _ _ _ _ _)
   | (with_reducible exact ih3 _ _ _ _ _ _ _ _)
   | (with_reducible exact LeO.refl _)
   | (with_reducible exact LeO.none _)
   | (with_reducible refine LeO.ite ?_ ?_)
   | (with_reducible refine LeO.bind ?_ (fun _ => ?_))
   | exact ih0 _ _
   | exact ih1 _ _
   | exact ih2 _ _ _ _ _ _ _ _
   | exact ih3 _ _ _ _ _ _ _ _
   | exact LeO.none _
   | refine LeO.ite ?_ ?_
   | refine LeO.bind ?_ (fun _ => ?_)
  ·intro y0 y1 y2 y3 y4 y5 y6 y7
   unfold butlerref11_Right.l2
   repeat' first
   | (with_reducible exact ih0 _ _)
   | (with_reducible exact ih1 _ _)
   | (with_reducible exact ih2 _ _ _ _ _ _ _ _)
   | (with_reducible exact ih3 _ _ _ _ _ _ _ _)
   | (with_reducible exact LeO.refl _)
   | (with_reducible exact LeO.none _)
   | (with_reducible refine LeO.ite ?_ ?_)
   | (with_reducible refine LeO.bind ?_ (fun _ => ?_))
   | exact ih0 _ _
   | exact ih1 _ _
   | exact ih2 _ _ _ _ _ _ _ _
   | exact ih3 _ _ _ _ _ _ _ _
   | exact LeO.none _
   | refine LeO.ite ?_ ?_
   | refine LeO.bind ?_ (fun _ => ?_)
theorem butlerref11_Right.mono : ∀ a0 k, LeO (butlerref11_Right.f k a0) (butlerref11_Right.f (k + 1) a0) := by
 intro a0 k
 obtain ⟨ih0, ih1, ih2, ih3⟩ := butlerref11_Right.mono_l k
 unfold butlerref11_Right.f
 repeat' first
   | (with_reducible exact ih0 _ _)
   | (with_reducible exact ih1 _ _)
   | (with_reducible exact ih2 _ _ _ _ _ _ _ _)
   | (with_reducible exact ih3 _ _ _ _ _ _ _ _)
   | (with_reducible exact LeO.refl _)
   | (with_reducible exact LeO.none _)
   | (with_reducible refine LeO.ite ?_ ?_)
   | (with_reducible refine LeO.bind ?_ (fun _ => ?_))
   | exact ih0 _ _
   | exact ih1 _ _
   | exact ih2 _ _ _ _ _ _ _ _
   | exact ih3 _ _ _ _ _ _ _ _
   | exact LeO.none _
   | refine LeO.ite ?_ ?_
   | refine LeO.bind ?_ (fun _ => ?_)
set_option maxHeartbeats 8000000 in
set_option maxRecDepth 100000 in
theorem butlerref11_Right.calls (k : Nat) (A0 : Option Addr) (c0 : Nat) (l0 : List (S43)) (r : Int) (w : World) (hr0 : Kd.C k43 w A0 l0.length l0) (hc0 : l0.length ≤ c0) (h : butlerref11_Right.f k l0 = some r) :
  Calls Try.prog 18 #[.slice A0 l0.length c0] w fun e w' => e = .returned (.int .i64 r) ∧ Below w.heap.size w w' := by
 have hu43 := Try.underlying43
 have HR0 := Aside0.mk hr0
 have HC0 := Aside0.mk hc0
 clear hr0 hc0
 have HB := Aside0.mk (Below.refl w.heap.size w)
 have H : (if (l0.length : Int) > 100 then (some 2) else (butlerref11_Right.l0 k l0 0)) = some r := h
 clear h
 by_cases c2 : (l0.length : Int) > 100
 ·rw [if_pos c2] at H
  have c2b0 : decide (100 < (l0.length : Int)) = true := decide_eq_true c2
  have c2b1 : decide (100 < l0.length) = true := decide_eq_true (by omega)
  clear c2
  obtain rfl := Option.some.inj H
  go_enter Try.func18, Try.ntmps18
  go_wp2
  repeat (go_quiet (fail); try go_wp2)
  go_ret
  exact ⟨by first | rfl | (simp [errW_none, errW_some] <;> rfl) | (simp [*, errW_none, errW_some] <;> rfl), by repeat (first | (with_reducible first | exact HB.out | apply below_alloc | apply pw_below_drewN | apply below_drew1) | exact HB.out)⟩
 ·rw [if_neg c2] at H
  have c2b0 : decide (100 < (l0.length : Int)) = false := decide_eq_false c2
  have c2b1 : decide (100 < l0.length) = false := decide_eq_false (by omega)
  clear c2
  have H' := Aside0.mk H
  clear H
  go_enter Try.func18, Try.ntmps18
  go_wp2
  repeat (go_quiet (fail); try go_wp2)
  go_loopg [3] k (fun kq v3 w' => ∃ (x3_1 : Int), v3 = .int .i64 x3_1 ∧ Aside0 (butlerref11_Right.l0 kq l0 x3_1 = some r) ∧ Aside0 (kq ≤ k) ∧ Aside0 (Below w.heap.size w w'))
  case atStart => exact ⟨(0), (by first | rfl | (simp; done) | (simp [*]; done)), H', ⟨Nat.le_refl _⟩, ⟨by repeat (first | (with_reducible first | exact HB.out | apply below_alloc | apply pw_below_drewN | apply below_drew1) | exact HB.out)⟩⟩
  case round =>
   clear H'
   try clear c1
   try clear c2
   try clear c2b0
   try clear c2b1
   try clear p2
   obtain ⟨x3_1, rfl, HA, HK1, HB⟩ := hrel
   cases gk with
   | zero => exact absurd HA.out (by simp [butlerref11_Right.l0])
   | succ k1 =>
    have H := HA.out
    clear HA
    simp only [butlerref11_Right.l0] at H
    by_cases c3 : x3_1 < (l0.length : Int)
    ·rw [if_pos c3] at H
     have c3b0 : decide (x3_1 < (l0.length : Int)) = true := decide_eq_true c3
     clear c3
     by_cases c4 : 0 ≤ x3_1
     ·rw [if_pos c4] at H
      have c4b0 : decide (0 ≤ x3_1) = true := decide_eq_true c4
      clear c4
      by_cases c5 : (((rd_T43 l0 x3_1).f0).length : Int) > 20
      ·rw [if_pos c5] at H
       have c5b0 : decide (20 < (((rd_T43 l0 x3_1).f0).length : Int)) = true := decide_eq_true c5
       have c5b1 : decide (20 < ((rd_T43 l0 x3_1).f0).length) = true := decide_eq_true (by omega)
       clear c5
       obtain rfl := Option.some.inj H
       have p183 : 0 ≤ (x3_1 : Int) := of_decide_eq_true (by first | (with_reducible assumption) | assumption)
       have q183 : x3_1 < (l0.length : Int) := of_decide_eq_true (by first | (with_reducible assumption) | assumption)
       obtain ⟨ad183, A183_0, c183_0, e183, hx183_0, hx183_1, hx183_2, hx183_3, hx183_4, hl183_0, hi183_0⟩ := at_T43 HR0.out x3_1 p183 q183
       cases e183
       replace hx183_0 := (HB.out.cell (World.block_lt_of_cell? w _ hx183_0)).trans hx183_0
       replace hx183_1 := (HB.out.cell (World.block_lt_of_cell? w _ hx183_1)).trans hx183_1
       replace hx183_2 := (HB.out.cell (World.block_lt_of_cell? w _ hx183_2)).trans hx183_2
       replace hx183_3 := (HB.out.cell (World.block_lt_of_cell? w _ hx183_3)).trans hx183_3
       replace hx183_4 := (HB.out.cell (World.block_lt_of_cell? w _ hx183_4)).trans hx183_4
       have HR183_0 := Aside0.mk hi183_0
       have HC183_0 := Aside0.mk hl183_0
       clear hi183_0 hl183_0
       replace p183 := eq_true p183
       replace q183 := eq_true q183
       go_wp2
       repeat (go_quiet (fail); try go_wp2)
       go_ret
       exact ⟨by first | rfl | (simp [errW_none, errW_some] <;> rfl) | (simp [*, errW_none, errW_some] <;> rfl), by repeat (first | (with_reducible first | exact HB.out | apply below_alloc | apply pw_below_drewN | apply below_drew1) | exact HB.out)⟩
      ·rw [if_neg c5] at H
       have c5b0 : decide (20 < (((rd_T43 l0 x3_1).f0).length : Int)) = false := decide_eq_false c5
       have c5b1 : decide (20 < ((rd_T43 l0 x3_1).f0).length) = false := decide_eq_false (by omega)
       clear c5
       have H' := Aside0.mk H
       clear H
       have p183 : 0 ≤ (x3_1 : Int) := of_decide_eq_true (by first | (with_reducible assumption) | assumption)
       have q183 : x3_1 < (l0.length : Int) := of_decide_eq_true (by first | (with_reducible assumption) | assumption)
       obtain ⟨ad183, A183_0, c183_0, e183, hx183_0, hx183_1, hx183_2, hx183_3, hx183_4, hl183_0, hi183_0⟩ := at_T43 HR0.out x3_1 p183 q183
       cases e183
       replace hx183_0 := (HB.out.cell (World.block_lt_of_cell? w _ hx183_0)).trans hx183_0
       replace hx183_1 := (HB.out.cell (World.block_lt_of_cell? w _ hx183_1)).trans hx183_1
       replace hx183_2 := (HB.out.cell (World.block_lt_of_cell? w _ hx183_2)).trans hx183_2
       replace hx183_3 := (HB.out.cell (World.block_lt_of_cell? w _ hx183_3)).trans hx183_3
       replace hx183_4 := (HB.out.cell (World.block_lt_of_cell? w _ hx183_4)).trans hx183_4
       have HR183_0 := Aside0.mk hi183_0
       have HC183_0 := Aside0.mk hl183_0
       clear hi183_0 hl183_0
       replace p183 := eq_true p183
       replace q183 := eq_true q183
       go_wp2
       repeat (go_quiet (fail); try go_wp2)
       go_roundg k1
       case measure => have := HK1.out; omega
       case rel => exact ⟨(wrap64 (x3_1 + 1)), (by first | rfl | (simp; done) | (simp [*]; done)), H', ⟨by have := HK1.out; omega⟩, ⟨by repeat (first | (with_reducible first | exact HB.out | apply below_alloc | apply pw_below_drewN | apply below_drew1) | exact HB.out)⟩⟩
     ·rw [if_neg c4] at H
      exact absurd H (by simp)
    ·rw [if_neg c3] at H
     have c3b0 : decide (x3_1 < (l0.length : Int)) = false := decide_eq_false c3
     clear c3
     have H' := Aside0.mk H
     clear H
     go_wp2
     repeat (go_quiet (fail); try go_wp2)
     go_loopg [4] k1 (fun kq v4 w' => ∃ (x4_2 : Int), v4 = .int .i64 x4_2 ∧ Aside0 (butlerref11_Right.l1 kq l0 x4_2 = some r) ∧ Aside0 (kq ≤ k1) ∧ Aside0 (Below w.heap.size w w'))
     case atStart => exact ⟨(0), (by first | rfl | (simp; done) | (simp [*]; done)), H', ⟨Nat.le_refl _⟩, ⟨by repeat (first | (with_reducible first | exact HB.out | apply below_alloc | apply pw_below_drewN | apply below_drew1) | exact HB.out)⟩⟩
     case round =>
      clear H'
      try clear c1
      try clear p1
      try clear q1
      try clear hx1
      try clear c2
      try clear c2b0
      try clear c2b1
      try clear p2
      try clear c3
      try clear c3b0
      try clear c4
      try clear c4b0
      try clear c5
      try clear c5b0
      try clear c5b1
      try clear hx183_0
      try clear hx183_1
      try clear hx183_2
      try clear hx183_3
      try clear hx183_4
      try clear p183
      try clear p2
      try clear q183
      obtain ⟨x4_2, rfl, HA, HK2, HB⟩ := hrel
      cases gk with
      | zero => exact absurd HA.out (by simp [butlerref11_Right.l1])
      | succ k2 =>
       have H := HA.out
       clear HA
       simp only [butlerref11_Right.l1] at H
       by_cases c6 : x4_2 < (l0.length : Int)
       ·rw [if_pos c6] at H
        have c6b0 : decide (x4_2 < (l0.length : Int)) = true := decide_eq_true c6
        clear c6
        by_cases c7 : 0 ≤ x4_2
        ·rw [if_pos c7] at H
         have c7b0 : decide (0 ≤ x4_2) = true := decide_eq_true c7
         clear c7
         have HC8 := Aside0.mk H
         clear H
         have p184 : 0 ≤ (x4_2 : Int) := of_decide_eq_true (by first | (with_reducible assumption) | assumption)
         have q184 : x4_2 < (l0.length : Int) := of_decide_eq_true (by first | (with_reducible assumption) | assumption)
         obtain ⟨ad184, A184_0, c184_0, e184, hx184_0, hx184_1, hx184_2, hx184_3, hx184_4, hl184_0, hi184_0⟩ := at_T43 HR0.out x4_2 p184 q184
         cases e184
         replace hx184_0 := (HB.out.cell (World.block_lt_of_cell? w _ hx184_0)).trans hx184_0
         replace hx184_1 := (HB.out.cell (World.block_lt_of_cell? w _ hx184_1)).trans hx184_1
         replace hx184_2 := (HB.out.cell (World.block_lt_of_cell? w _ hx184_2)).trans hx184_2
         replace hx184_3 := (HB.out.cell (World.block_lt_of_cell? w _ hx184_3)).trans hx184_3
         replace hx184_4 := (HB.out.cell (World.block_lt_of_cell? w _ hx184_4)).trans hx184_4
         have HR184_0 := Aside0.mk hi184_0
         have HC184_0 := Aside0.mk hl184_0
         clear hi184_0 hl184_0
         replace p184 := eq_true p184
         replace q184 := eq_true q184
         go_upto_region 12 with (first | ((with_reducible refine gate_dst (N := 5) rfl ?_); (try (refine gate_guard (by rfl) ?_; dsimp only)); refine box_event ?hg (N := 5) ?hd (cs := #[.slice none 0 0, .int .i64 0, .int .i64 0, .int .i64 0, .int .i64 0]) (t := 43) ?hr ?_; (case hd => rfl); (case hg => rfl); (case hr => first | (go_simp; done) | (go_simp; rfl)); intro gb185 hg w9 hbox hb; have n0_ := Aside0.mk (below_step (by repeat (first | (with_reducible first | exact HB.out | apply below_alloc | apply pw_below_drewN | apply below_drew1) | exact HB.out)) hb); have n1_ := Aside0.mk (hbox); have n2_ := Aside0.mk ((by rw [hg]; exact (below_size (by repeat (first | (with_reducible first | exact HB.out | apply below_alloc | apply pw_below_drewN | apply below_drew1) | exact HB.out))) : w.heap.size ≤ gb185)); have n3_ := Aside0.mk ((by rw [hg]; exact (below_size (by repeat (first | (with_reducible first | exact HB.out | apply below_alloc | apply pw_below_drewN | apply below_drew1) | exact HB.out))) : w.heap.size ≤ gb185)); clear HB; have HB := n0_; have BK185 := n1_; have GW185 := n2_; have GE185 := n3_; clear n0_ n1_ n2_ n3_; clear hb hbox hg; have hcz10_0 : w9.cell? ⟨gb185, 0, none⟩ = some (.slice none 0 0) := (blk_cell BK185.out 0).trans rfl; have hcz10_1 : w9.cell? ⟨gb185, 1, none⟩ = some (.int .i64 0) := (blk_cell BK185.out 1).trans rfl; have hcz10_2 : w9.cell? ⟨gb185, 2, none⟩ = some (.int .i64 0) := (blk_cell BK185.out 2).trans rfl; have hcz10_3 : w9.cell? ⟨gb185, 3, none⟩ = some (.int .i64 0) := (blk_cell BK185.out 3).trans rfl; have hcz10_4 : w9.cell? ⟨gb185, 4, none⟩ = some (.int .i64 0) := (blk_cell BK185.out 4).trans rfl; have hfz10_0 := blk_frozen BK185.out 0; have hfz10_1 := blk_frozen BK185.out 1; have hfz10_2 := blk_frozen BK185.out 2; have hfz10_3 := blk_frozen BK185.out 3; have hfz10_4 := blk_frozen BK185.out 4))
         repeat (go_quiet (first | ((with_reducible refine gate_dst (N := 5) rfl ?_); (try (refine gate_guard (by rfl) ?_; dsimp only)); refine box_event ?hg (N := 5) ?hd (cs := #[.slice none 0 0, .int .i64 0, .int .i64 0, .int .i64 0, .int .i64 0]) (t := 43) ?hr ?_; (case hd => rfl); (case hg => rfl); (case hr => first | (go_simp; done) | (go_simp; rfl)); intro gb185 hg w9 hbox hb; have n0_ := Aside0.mk (below_step (by repeat (first | (with_reducible first | exact HB.out | apply below_alloc | apply pw_below_drewN | apply below_drew1) | exact HB.out)) hb); have n1_ := Aside0.mk (hbox); have n2_ := Aside0.mk ((by rw [hg]; exact (below_size (by repeat (first | (with_reducible first | exact HB.out | apply below_alloc | apply pw_below_drewN | apply below_drew1) | exact HB.out))) : w.heap.size ≤ gb185)); have n3_ := Aside0.mk ((by rw [hg]; exact (below_size (by repeat (first | (with_reducible first | exact HB.out | apply below_alloc | apply pw_below_drewN | apply below_drew1) | exact HB.out))) : w.heap.size ≤ gb185)); clear HB; have HB := n0_; have BK185 := n1_; have GW185 := n2_; have GE185 := n3_; clear n0_ n1_ n2_ n3_; clear hb hbox hg; have hcz10_0 : w9.cell? ⟨gb185, 0, none⟩ = some (.slice none 0 0) := (blk_cell BK185.out 0).trans rfl; have hcz10_1 : w9.cell? ⟨gb185, 1, none⟩ = some (.int .i64 0) := (blk_cell BK185.out 1).trans rfl; have hcz10_2 : w9.cell? ⟨gb185, 2, none⟩ = some (.int .i64 0) := (blk_cell BK185.out 2).trans rfl; have hcz10_3 : w9.cell? ⟨gb185, 3, none⟩ = some (.int .i64 0) := (blk_cell BK185.out 3).trans rfl; have hcz10_4 : w9.cell? ⟨gb185, 4, none⟩ = some (.int .i64 0) := (blk_cell BK185.out 4).trans rfl; have hfz10_0 := blk_frozen BK185.out 0; have hfz10_1 := blk_frozen BK185.out 1; have hfz10_2 := blk_frozen BK185.out 2; have hfz10_3 := blk_frozen BK185.out 3; have hfz10_4 := blk_frozen BK185.out 4)); go_upto_region 12 with (first | ((with_reducible refine gate_dst (N := 5) rfl ?_); (try (refine gate_guard (by rfl) ?_; dsimp only)); refine box_event ?hg (N := 5) ?hd (cs := #[.slice none 0 0, .int .i64 0, .int .i64 0, .int .i64 0, .int .i64 0]) (t := 43) ?hr ?_; (case hd => rfl); (case hg => rfl); (case hr => first | (go_simp; done) | (go_simp; rfl)); intro gb185 hg w9 hbox hb; have n0_ := Aside0.mk (below_step (by repeat (first | (with_reducible first | exact HB.out | apply below_alloc | apply pw_below_drewN | apply below_drew1) | exact HB.out)) hb); have n1_ := Aside0.mk (hbox); have n2_ := Aside0.mk ((by rw [hg]; exact (below_size (by repeat (first | (with_reducible first | exact HB.out | apply below_alloc | apply pw_below_drewN | apply below_drew1) | exact HB.out))) : w.heap.size ≤ gb185)); have n3_ := Aside0.mk ((by rw [hg]; exact (below_size (by repeat (first | (with_reducible first | exact HB.out | apply below_alloc | apply pw_below_drewN | apply below_drew1) | exact HB.out))) : w.heap.size ≤ gb185)); clear HB; have HB := n0_; have BK185 := n1_; have GW185 := n2_; have GE185 := n3_; clear n0_ n1_ n2_ n3_; clear hb hbox hg; have hcz10_0 : w9.cell? ⟨gb185, 0, none⟩ = some (.slice none 0 0) := (blk_cell BK185.out 0).trans rfl; have hcz10_1 : w9.cell? ⟨gb185, 1, none⟩ = some (.int .i64 0) := (blk_cell BK185.out 1).trans rfl; have hcz10_2 : w9.cell? ⟨gb185, 2, none⟩ = some (.int .i64 0) := (blk_cell BK185.out 2).trans rfl; have hcz10_3 : w9.cell? ⟨gb185, 3, none⟩ = some (.int .i64 0) := (blk_cell BK185.out 3).trans rfl; have hcz10_4 : w9.cell? ⟨gb185, 4, none⟩ = some (.int .i64 0) := (blk_cell BK185.out 4).trans rfl; have hfz10_0 := blk_frozen BK185.out 0; have hfz10_1 := blk_frozen BK185.out 1; have hfz10_2 := blk_frozen BK185.out 2; have hfz10_3 := blk_frozen BK185.out 3; have hfz10_4 := blk_frozen BK185.out 4)))
         (try simp only [Act.put, List.setIfInBounds_toArray, List.set_cons_zero, List.set_cons_succ])
         go_cut [71] (fun v71 wc => ∃ (kq : Nat) (x71_7 : Bool), v71 = .bool x71_7 ∧ Aside0 (butlerref11_Right.j2 kq l0 x4_2 x71_7 ((rd_T43 l0 x4_2).f0) ((rd_T43 l0 x4_2).f1) ((rd_T43 l0 x4_2).f2) ((rd_T43 l0 x4_2).f3) ((rd_T43 l0 x4_2).f4) = some r) ∧ Aside0 (kq ≤ k2) ∧ Aside0 (wc.heap[gb185]? = some (.cells #[(.slice A184_0 ((rd_T43 l0 x4_2).f0).length c184_0), .int .i64 ((rd_T43 l0 x4_2).f1), .int .i64 ((rd_T43 l0 x4_2).f2), .int .i64 ((rd_T43 l0 x4_2).f3), .int .i64 ((rd_T43 l0 x4_2).f4)] 43 (0, 0))) ∧ Aside0 (Below w.heap.size w wc))
         case first =>
          have H := HC8.out
          clear HC8
          by_cases c11 : ((rd_T43 l0 x4_2).f1) < 0
          ·rw [if_pos c11] at H
           have c11b0 : decide (((rd_T43 l0 x4_2).f1) < 0) = true := decide_eq_true c11
           clear c11
           (first | rw [c11b0] | (simp only [i64_w, i32_w]; rw [c11b0]) | skip)
           have H' := Aside0.mk H
           clear H
           have hcz12_0 : w9.cell? ⟨gb185, 0, none⟩ = some (.slice none 0 0) := (blk_cell BK185.out 0).trans rfl
           have hcz12_1 : w9.cell? ⟨gb185, 1, none⟩ = some (.int .i64 0) := (blk_cell BK185.out 1).trans rfl
           have hcz12_2 : w9.cell? ⟨gb185, 2, none⟩ = some (.int .i64 0) := (blk_cell BK185.out 2).trans rfl
           have hcz12_3 : w9.cell? ⟨gb185, 3, none⟩ = some (.int .i64 0) := (blk_cell BK185.out 3).trans rfl
           have hcz12_4 : w9.cell? ⟨gb185, 4, none⟩ = some (.int .i64 0) := (blk_cell BK185.out 4).trans rfl
           have hfz12_0 := blk_frozen BK185.out 0
           have hfz12_1 := blk_frozen BK185.out 1
           have hfz12_2 := blk_frozen BK185.out 2
           have hfz12_3 := blk_frozen BK185.out 3
           have hfz12_4 := blk_frozen BK185.out 4
           go_wp2
           repeat (go_quiet (fail); try go_wp2)
           go_meet
           case rel => exact ⟨_, (true), (by first | rfl | (simp; done) | (simp [*]; done)), H', ⟨by have := HK1.out; have := HK2.out; first | omega | exact Nat.le_refl _⟩, ⟨by (with_reducible repeat (first | refine blk_drewN ?_ _ | refine blk_drew ?_ | refine blk_alloc ?_ _)); refine blk_put (cs := #[.slice A184_0 ((rd_T43 l0 x4_2).f0).length c184_0, .int .i64 ((rd_T43 l0 x4_2).f1), .int .i64 ((rd_T43 l0 x4_2).f2), .int .i64 ((rd_T43 l0 x4_2).f3), .int .i64 0]) ?_ 4 _ rfl; (with_reducible repeat (first | refine blk_drewN ?_ _ | refine blk_drew ?_ | refine blk_alloc ?_ _)); refine blk_put (cs := #[.slice A184_0 ((rd_T43 l0 x4_2).f0).length c184_0, .int .i64 ((rd_T43 l0 x4_2).f1), .int .i64 ((rd_T43 l0 x4_2).f2), .int .i64 0, .int .i64 0]) ?_ 3 _ rfl; (with_reducible repeat (first | refine blk_drewN ?_ _ | refine blk_drew ?_ | refine blk_alloc ?_ _)); refine blk_put (cs := #[.slice A184_0 ((rd_T43 l0 x4_2).f0).length c184_0, .int .i64 ((rd_T43 l0 x4_2).f1), .int .i64 0, .int .i64 0, .int .i64 0]) ?_ 2 _ rfl; (with_reducible repeat (first | refine blk_drewN ?_ _ | refine blk_drew ?_ | refine blk_alloc ?_ _)); refine blk_put (cs := #[.slice A184_0 ((rd_T43 l0 x4_2).f0).length c184_0, .int .i64 0, .int .i64 0, .int .i64 0, .int .i64 0]) ?_ 1 _ rfl; (with_reducible repeat (first | refine blk_drewN ?_ _ | refine blk_drew ?_ | refine blk_alloc ?_ _)); refine blk_put (cs := #[.slice none 0 0, .int .i64 0, .int .i64 0, .int .i64 0, .int .i64 0]) ?_ 0 _ rfl; (with_reducible repeat (first | refine blk_drewN ?_ _ | refine blk_drew ?_ | refine blk_alloc ?_ _)); exact BK185.out⟩, ⟨by repeat (first | (with_reducible first | exact HB.out | apply below_alloc | apply pw_below_drewN | apply below_drew1 | refine below_set ?_ GE185.out) | exact HB.out)⟩⟩
          ·rw [if_neg c11] at H
           have c11b0 : decide (((rd_T43 l0 x4_2).f1) < 0) = false := decide_eq_false c11
           clear c11
           (first | rw [c11b0] | (simp only [i64_w, i32_w]; rw [c11b0]) | skip)
           by_cases c13 : ((rd_T43 l0 x4_2).f1) ≥ 8
           ·rw [if_pos c13] at H
            have c13b0 : decide (8 ≤ ((rd_T43 l0 x4_2).f1)) = true := decide_eq_true c13
            clear c13
            have H' := Aside0.mk H
            clear H
            have hcz14_0 : w9.cell? ⟨gb185, 0, none⟩ = some (.slice none 0 0) := (blk_cell BK185.out 0).trans rfl
            have hcz14_1 : w9.cell? ⟨gb185, 1, none⟩ = some (.int .i64 0) := (blk_cell BK185.out 1).trans rfl
            have hcz14_2 : w9.cell? ⟨gb185, 2, none⟩ = some (.int .i64 0) := (blk_cell BK185.out 2).trans rfl
            have hcz14_3 : w9.cell? ⟨gb185, 3, none⟩ = some (.int .i64 0) := (blk_cell BK185.out 3).trans rfl
            have hcz14_4 : w9.cell? ⟨gb185, 4, none⟩ = some (.int .i64 0) := (blk_cell BK185.out 4).trans rfl
            have hfz14_0 := blk_frozen BK185.out 0
            have hfz14_1 := blk_frozen BK185.out 1
            have hfz14_2 := blk_frozen BK185.out 2
            have hfz14_3 := blk_frozen BK185.out 3
            have hfz14_4 := blk_frozen BK185.out 4
            go_wp2
            repeat (go_quiet (fail); try go_wp2)
            go_meet
            case rel => exact ⟨_, (true), (by first | rfl | (simp; done) | (simp [*]; done)), H', ⟨by have := HK1.out; have := HK2.out; first | omega | exact Nat.le_refl _⟩, ⟨by (with_reducible repeat (first | refine blk_drewN ?_ _ | refine blk_drew ?_ | refine blk_alloc ?_ _)); refine blk_put (cs := #[.slice A184_0 ((rd_T43 l0 x4_2).f0).length c184_0, .int .i64 ((rd_T43 l0 x4_2).f1), .int .i64 ((rd_T43 l0 x4_2).f2), .int .i64 ((rd_T43 l0 x4_2).f3), .int .i64 0]) ?_ 4 _ rfl; (with_reducible repeat (first | refine blk_drewN ?_ _ | refine blk_drew ?_ | refine blk_alloc ?_ _)); refine blk_put (cs := #[.slice A184_0 ((rd_T43 l0 x4_2).f0).length c184_0, .int .i64 ((rd_T43 l0 x4_2).f1), .int .i64 ((rd_T43 l0 x4_2).f2), .int .i64 0, .int .i64 0]) ?_ 3 _ rfl; (with_reducible repeat (first | refine blk_drewN ?_ _ | refine blk_drew ?_ | refine blk_alloc ?_ _)); refine blk_put (cs := #[.slice A184_0 ((rd_T43 l0 x4_2).f0).length c184_0, .int .i64 ((rd_T43 l0 x4_2).f1), .int .i64 0, .int .i64 0, .int .i64 0]) ?_ 2 _ rfl; (with_reducible repeat (first | refine blk_drewN ?_ _ | refine blk_drew ?_ | refine blk_alloc ?_ _)); refine blk_put (cs := #[.slice A184_0 ((rd_T43 l0 x4_2).f0).length c184_0, .int .i64 0, .int .i64 0, .int .i64 0, .int .i64 0]) ?_ 1 _ rfl; (with_reducible repeat (first | refine blk_drewN ?_ _ | refine blk_drew ?_ | refine blk_alloc ?_ _)); refine blk_put (cs := #[.slice none 0 0, .int .i64 0, .int .i64 0, .int .i64 0, .int .i64 0]) ?_ 0 _ rfl; (with_reducible repeat (first | refine blk_drewN ?_ _ | refine blk_drew ?_ | refine blk_alloc ?_ _)); exact BK185.out⟩, ⟨by repeat (first | (with_reducible first | exact HB.out | apply below_alloc | apply pw_below_drewN | apply below_drew1 | refine below_set ?_ GE185.out) | exact HB.out)⟩⟩
           ·rw [if_neg c13] at H
            have c13b0 : decide (8 ≤ ((rd_T43 l0 x4_2).f1)) = false := decide_eq_false c13
            clear c13
            by_cases c15 : ((rd_T43 l0 x4_2).f2) < 0
            ·rw [if_pos c15] at H
             have c15b0 : decide (((rd_T43 l0 x4_2).f2) < 0) = true := decide_eq_true c15
             clear c15
             have H' := Aside0.mk H
             clear H
             have hcz16_0 : w9.cell? ⟨gb185, 0, none⟩ = some (.slice none 0 0) := (blk_cell BK185.out 0).trans rfl
             have hcz16_1 : w9.cell? ⟨gb185, 1, none⟩ = some (.int .i64 0) := (blk_cell BK185.out 1).trans rfl
             have hcz16_2 : w9.cell? ⟨gb185, 2, none⟩ = some (.int .i64 0) := (blk_cell BK185.out 2).trans rfl
             have hcz16_3 : w9.cell? ⟨gb185, 3, none⟩ = some (.int .i64 0) := (blk_cell BK185.out 3).trans rfl
             have hcz16_4 : w9.cell? ⟨gb185, 4, none⟩ = some (.int .i64 0) := (blk_cell BK185.out 4).trans rfl
             have hfz16_0 := blk_frozen BK185.out 0
             have hfz16_1 := blk_frozen BK185.out 1
             have hfz16_2 := blk_frozen BK185.out 2
             have hfz16_3 := blk_frozen BK185.out 3
             have hfz16_4 := blk_frozen BK185.out 4
             go_wp2
             repeat (go_quiet (fail); try go_wp2)
             go_meet
             case rel => exact ⟨_, (true), (by first | rfl | (simp; done) | (simp [*]; done)), H', ⟨by have := HK1.out; have := HK2.out; first | omega | exact Nat.le_refl _⟩, ⟨by (with_reducible repeat (first | refine blk_drewN ?_ _ | refine blk_drew ?_ | refine blk_alloc ?_ _)); refine blk_put (cs := #[.slice A184_0 ((rd_T43 l0 x4_2).f0).length c184_0, .int .i64 ((rd_T43 l0 x4_2).f1), .int .i64 ((rd_T43 l0 x4_2).f2), .int .i64 ((rd_T43 l0 x4_2).f3), .int .i64 0]) ?_ 4 _ rfl; (with_reducible repeat (first | refine blk_drewN ?_ _ | refine blk_drew ?_ | refine blk_alloc ?_ _)); refine blk_put (cs := #[.slice A184_0 ((rd_T43 l0 x4_2).f0).length c184_0, .int .i64 ((rd_T43 l0 x4_2).f1), .int .i64 ((rd_T43 l0 x4_2).f2), .int .i64 0, .int .i64 0]) ?_ 3 _ rfl; (with_reducible repeat (first | refine blk_drewN ?_ _ | refine blk_drew ?_ | refine blk_alloc ?_ _)); refine blk_put (cs := #[.slice A184_0 ((rd_T43 l0 x4_2).f0).length c184_0, .int .i64 ((rd_T43 l0 x4_2).f1), .int .i64 0, .int .i64 0, .int .i64 0]) ?_ 2 _ rfl; (with_reducible repeat (first | refine blk_drewN ?_ _ | refine blk_drew ?_ | refine blk_alloc ?_ _)); refine blk_put (cs := #[.slice A184_0 ((rd_T43 l0 x4_2).f0).length c184_0, .int .i64 0, .int .i64 0, .int .i64 0, .int .i64 0]) ?_ 1 _ rfl; (with_reducible repeat (first | refine blk_drewN ?_ _ | refine blk_drew ?_ | refine blk_alloc ?_ _)); refine blk_put (cs := #[.slice none 0 0, .int .i64 0, .int .i64 0, .int .i64 0, .int .i64 0]) ?_ 0 _ rfl; (with_reducible repeat (first | refine blk_drewN ?_ _ | refine blk_drew ?_ | refine blk_alloc ?_ _)); exact BK185.out⟩, ⟨by repeat (first | (with_reducible first | exact HB.out | apply below_alloc | apply pw_below_drewN | apply below_drew1 | refine below_set ?_ GE185.out) | exact HB.out)⟩⟩
            ·rw [if_neg c15] at H
             have c15b0 : decide (((rd_T43 l0 x4_2).f2) < 0) = false := decide_eq_false c15
             clear c15
             by_cases c17 : ((rd_T43 l0 x4_2).f2) > 2
             ·rw [if_pos c17] at H
              have c17b0 : decide (2 < ((rd_T43 l0 x4_2).f2)) = true := decide_eq_true c17
              clear c17
              have H' := Aside0.mk H
              clear H
              have hcz18_0 : w9.cell? ⟨gb185, 0, none⟩ = some (.slice none 0 0) := (blk_cell BK185.out 0).trans rfl
              have hcz18_1 : w9.cell? ⟨gb185, 1, none⟩ = some (.int .i64 0) := (blk_cell BK185.out 1).trans rfl
              have hcz18_2 : w9.cell? ⟨gb185, 2, none⟩ = some (.int .i64 0) := (blk_cell BK185.out 2).trans rfl
              have hcz18_3 : w9.cell? ⟨gb185, 3, none⟩ = some (.int .i64 0) := (blk_cell BK185.out 3).trans rfl
              have hcz18_4 : w9.cell? ⟨gb185, 4, none⟩ = some (.int .i64 0) := (blk_cell BK185.out 4).trans rfl
              have hfz18_0 := blk_frozen BK185.out 0
              have hfz18_1 := blk_frozen BK185.out 1
              have hfz18_2 := blk_frozen BK185.out 2
              have hfz18_3 := blk_frozen BK185.out 3
              have hfz18_4 := blk_frozen BK185.out 4
              go_wp2
              repeat (go_quiet (fail); try go_wp2)
              go_meet
              case rel => exact ⟨_, (true), (by first | rfl | (simp; done) | (simp [*]; done)), H', ⟨by have := HK1.out; have := HK2.out; first | omega | exact Nat.le_refl _⟩, ⟨by (with_reducible repeat (first | refine blk_drewN ?_ _ | refine blk_drew ?_ | refine blk_alloc ?_ _)); refine blk_put (cs := #[.slice A184_0 ((rd_T43 l0 x4_2).f0).length c184_0, .int .i64 ((rd_T43 l0 x4_2).f1), .int .i64 ((rd_T43 l0 x4_2).f2), .int .i64 ((rd_T43 l0 x4_2).f3), .int .i64 0]) ?_ 4 _ rfl; (with_reducible repeat (first | refine blk_drewN ?_ _ | refine blk_drew ?_ | refine blk_alloc ?_ _)); refine blk_put (cs := #[.slice A184_0 ((rd_T43 l0 x4_2).f0).length c184_0, .int .i64 ((rd_T43 l0 x4_2).f1), .int .i64 ((rd_T43 l0 x4_2).f2), .int .i64 0, .int .i64 0]) ?_ 3 _ rfl; (with_reducible repeat (first | refine blk_drewN ?_ _ | refine blk_drew ?_ | refine blk_alloc ?_ _)); refine blk_put (cs := #[.slice A184_0 ((rd_T43 l0 x4_2).f0).length c184_0, .int .i64 ((rd_T43 l0 x4_2).f1), .int .i64 0, .int .i64 0, .int .i64 0]) ?_ 2 _ rfl; (with_reducible repeat (first | refine blk_drewN ?_ _ | refine blk_drew ?_ | refine blk_alloc ?_ _)); refine blk_put (cs := #[.slice A184_0 ((rd_T43 l0 x4_2).f0).length c184_0, .int .i64 0, .int .i64 0, .int .i64 0, .int .i64 0]) ?_ 1 _ rfl; (with_reducible repeat (first | refine blk_drewN ?_ _ | refine blk_drew ?_ | refine blk_alloc ?_ _)); refine blk_put (cs := #[.slice none 0 0, .int .i64 0, .int .i64 0, .int .i64 0, .int .i64 0]) ?_ 0 _ rfl; (with_reducible repeat (first | refine blk_drewN ?_ _ | refine blk_drew ?_ | refine blk_alloc ?_ _)); exact BK185.out⟩, ⟨by repeat (first | (with_reducible first | exact HB.out | apply below_alloc | apply pw_below_drewN | apply below_drew1 | refine below_set ?_ GE185.out) | exact HB.out)⟩⟩
             ·rw [if_neg c17] at H
              have c17b0 : decide (2 < ((rd_T43 l0 x4_2).f2)) = false := decide_eq_false c17
              clear c17
              by_cases c19 : ((rd_T43 l0 x4_2).f4) < 0
              ·rw [if_pos c19] at H
               have c19b0 : decide (((rd_T43 l0 x4_2).f4) < 0) = true := decide_eq_true c19
               clear c19
               have H' := Aside0.mk H
               clear H
               have hcz20_0 : w9.cell? ⟨gb185, 0, none⟩ = some (.slice none 0 0) := (blk_cell BK185.out 0).trans rfl
               have hcz20_1 : w9.cell? ⟨gb185, 1, none⟩ = some (.int .i64 0) := (blk_cell BK185.out 1).trans rfl
               have hcz20_2 : w9.cell? ⟨gb185, 2, none⟩ = some (.int .i64 0) := (blk_cell BK185.out 2).trans rfl
               have hcz20_3 : w9.cell? ⟨gb185, 3, none⟩ = some (.int .i64 0) := (blk_cell BK185.out 3).trans rfl
               have hcz20_4 : w9.cell? ⟨gb185, 4, none⟩ = some (.int .i64 0) := (blk_cell BK185.out 4).trans rfl
               have hfz20_0 := blk_frozen BK185.out 0
               have hfz20_1 := blk_frozen BK185.out 1
               have hfz20_2 := blk_frozen BK185.out 2
               have hfz20_3 := blk_frozen BK185.out 3
               have hfz20_4 := blk_frozen BK185.out 4
               go_wp2
               repeat (go_quiet (fail); try go_wp2)
               go_meet
               case rel => exact ⟨_, (true), (by first | rfl | (simp; done) | (simp [*]; done)), H', ⟨by have := HK1.out; have := HK2.out; first | omega | exact Nat.le_refl _⟩, ⟨by (with_reducible repeat (first | refine blk_drewN ?_ _ | refine blk_drew ?_ | refine blk_alloc ?_ _)); refine blk_put (cs := #[.slice A184_0 ((rd_T43 l0 x4_2).f0).length c184_0, .int .i64 ((rd_T43 l0 x4_2).f1), .int .i64 ((rd_T43 l0 x4_2).f2), .int .i64 ((rd_T43 l0 x4_2).f3), .int .i64 0]) ?_ 4 _ rfl; (with_reducible repeat (first | refine blk_drewN ?_ _ | refine blk_drew ?_ | refine blk_alloc ?_ _)); refine blk_put (cs := #[.slice A184_0 ((rd_T43 l0 x4_2).f0).length c184_0, .int .i64 ((rd_T43 l0 x4_2).f1), .int .i64 ((rd_T43 l0 x4_2).f2), .int .i64 0, .int .i64 0]) ?_ 3 _ rfl; (with_reducible repeat (first | refine blk_drewN ?_ _ | refine blk_drew ?_ | refine blk_alloc ?_ _)); refine blk_put (cs := #[.slice A184_0 ((rd_T43 l0 x4_2).f0).length c184_0, .int .i64 ((rd_T43 l0 x4_2).f1), .int .i64 0, .int .i64 0, .int .i64 0]) ?_ 2 _ rfl; (with_reducible repeat (first | refine blk_drewN ?_ _ | refine blk_drew ?_ | refine blk_alloc ?_ _)); refine blk_put (cs := #[.slice A184_0 ((rd_T43 l0 x4_2).f0).length c184_0, .int .i64 0, .int .i64 0, .int .i64 0, .int .i64 0]) ?_ 1 _ rfl; (with_reducible repeat (first | refine blk_drewN ?_ _ | refine blk_drew ?_ | refine blk_alloc ?_ _)); refine blk_put (cs := #[.slice none 0 0, .int .i64 0, .int .i64 0, .int .i64 0, .int .i64 0]) ?_ 0 _ rfl; (with_reducible repeat (first | refine blk_drewN ?_ _ | refine blk_drew ?_ | refine blk_alloc ?_ _)); exact BK185.out⟩, ⟨by repeat (first | (with_reducible first | exact HB.out | apply below_alloc | apply pw_below_drewN | apply below_drew1 | refine below_set ?_ GE185.out) | exact HB.out)⟩⟩
              ·rw [if_neg c19] at H
               have c19b0 : decide (((rd_T43 l0 x4_2).f4) < 0) = false := decide_eq_false c19
               clear c19
               by_cases c21 : ((rd_T43 l0 x4_2).f4) > 2
               ·rw [if_pos c21] at H
                have c21b0 : decide (2 < ((rd_T43 l0 x4_2).f4)) = true := decide_eq_true c21
                clear c21
                have H' := Aside0.mk H
                clear H
                have hcz22_0 : w9.cell? ⟨gb185, 0, none⟩ = some (.slice none 0 0) := (blk_cell BK185.out 0).trans rfl
                have hcz22_1 : w9.cell? ⟨gb185, 1, none⟩ = some (.int .i64 0) := (blk_cell BK185.out 1).trans rfl
                have hcz22_2 : w9.cell? ⟨gb185, 2, none⟩ = some (.int .i64 0) := (blk_cell BK185.out 2).trans rfl
                have hcz22_3 : w9.cell? ⟨gb185, 3, none⟩ = some (.int .i64 0) := (blk_cell BK185.out 3).trans rfl
                have hcz22_4 : w9.cell? ⟨gb185, 4, none⟩ = some (.int .i64 0) := (blk_cell BK185.out 4).trans rfl
                have hfz22_0 := blk_frozen BK185.out 0
                have hfz22_1 := blk_frozen BK185.out 1
                have hfz22_2 := blk_frozen BK185.out 2
                have hfz22_3 := blk_frozen BK185.out 3
                have hfz22_4 := blk_frozen BK185.out 4
                go_wp2
                repeat (go_quiet (fail); try go_wp2)
                go_meet
                case rel => exact ⟨_, (true), (by first | rfl | (simp; done) | (simp [*]; done)), H', ⟨by have := HK1.out; have := HK2.out; first | omega | exact Nat.le_refl _⟩, ⟨by (with_reducible repeat (first | refine blk_drewN ?_ _ | refine blk_drew ?_ | refine blk_alloc ?_ _)); refine blk_put (cs := #[.slice A184_0 ((rd_T43 l0 x4_2).f0).length c184_0, .int .i64 ((rd_T43 l0 x4_2).f1), .int .i64 ((rd_T43 l0 x4_2).f2), .int .i64 ((rd_T43 l0 x4_2).f3), .int .i64 0]) ?_ 4 _ rfl; (with_reducible repeat (first | refine blk_drewN ?_ _ | refine blk_drew ?_ | refine blk_alloc ?_ _)); refine blk_put (cs := #[.slice A184_0 ((rd_T43 l0 x4_2).f0).length c184_0, .int .i64 ((rd_T43 l0 x4_2).f1), .int .i64 ((rd_T43 l0 x4_2).f2), .int .i64 0, .int .i64 0]) ?_ 3 _ rfl; (with_reducible repeat (first | refine blk_drewN ?_ _ | refine blk_drew ?_ | refine blk_alloc ?_ _)); refine blk_put (cs := #[.slice A184_0 ((rd_T43 l0 x4_2).f0).length c184_0, .int .i64 ((rd_T43 l0 x4_2).f1), .int .i64 0, .int .i64 0, .int .i64 0]) ?_ 2 _ rfl; (with_reducible repeat (first | refine blk_drewN ?_ _ | refine blk_drew ?_ | refine blk_alloc ?_ _)); refine blk_put (cs := #[.slice A184_0 ((rd_T43 l0 x4_2).f0).length c184_0, .int .i64 0, .int .i64 0, .int .i64 0, .int .i64 0]) ?_ 1 _ rfl; (with_reducible repeat (first | refine blk_drewN ?_ _ | refine blk_drew ?_ | refine blk_alloc ?_ _)); refine blk_put (cs := #[.slice none 0 0, .int .i64 0, .int .i64 0, .int .i64 0, .int .i64 0]) ?_ 0 _ rfl; (with_reducible repeat (first | refine blk_drewN ?_ _ | refine blk_drew ?_ | refine blk_alloc ?_ _)); exact BK185.out⟩, ⟨by repeat (first | (with_reducible first | exact HB.out | apply below_alloc | apply pw_below_drewN | apply below_drew1 | refine below_set ?_ GE185.out) | exact HB.out)⟩⟩
               ·rw [if_neg c21] at H
                have c21b0 : decide (2 < ((rd_T43 l0 x4_2).f4)) = false := decide_eq_false c21
                clear c21
                by_cases c23 : ((rd_T43 l0 x4_2).f3) < (-1000)
                ·rw [if_pos c23] at H
                 have c23b0 : decide (((rd_T43 l0 x4_2).f3) < (-1000)) = true := decide_eq_true c23
                 clear c23
                 have H' := Aside0.mk H
                 clear H
                 have hcz24_0 : w9.cell? ⟨gb185, 0, none⟩ = some (.slice none 0 0) := (blk_cell BK185.out 0).trans rfl
                 have hcz24_1 : w9.cell? ⟨gb185, 1, none⟩ = some (.int .i64 0) := (blk_cell BK185.out 1).trans rfl
                 have hcz24_2 : w9.cell? ⟨gb185, 2, none⟩ = some (.int .i64 0) := (blk_cell BK185.out 2).trans rfl
                 have hcz24_3 : w9.cell? ⟨gb185, 3, none⟩ = some (.int .i64 0) := (blk_cell BK185.out 3).trans rfl
                 have hcz24_4 : w9.cell? ⟨gb185, 4, none⟩ = some (.int .i64 0) := (blk_cell BK185.out 4).trans rfl
                 have hfz24_0 := blk_frozen BK185.out 0
                 have hfz24_1 := blk_frozen BK185.out 1
                 have hfz24_2 := blk_frozen BK185.out 2
                 have hfz24_3 := blk_frozen BK185.out 3
                 have hfz24_4 := blk_frozen BK185.out 4
                 go_wp2
                 repeat (go_quiet (fail); try go_wp2)
                 go_meet
                 case rel => exact ⟨_, (true), (by first | rfl | (simp; done) | (simp [*]; done)), H', ⟨by have := HK1.out; have := HK2.out; first | omega | exact Nat.le_refl _⟩, ⟨by (with_reducible repeat (first | refine blk_drewN ?_ _ | refine blk_drew ?_ | refine blk_alloc ?_ _)); refine blk_put (cs := #[.slice A184_0 ((rd_T43 l0 x4_2).f0).length c184_0, .int .i64 ((rd_T43 l0 x4_2).f1), .int .i64 ((rd_T43 l0 x4_2).f2), .int .i64 ((rd_T43 l0 x4_2).f3), .int .i64 0]) ?_ 4 _ rfl; (with_reducible repeat (first | refine blk_drewN ?_ _ | refine blk_drew ?_ | refine blk_alloc ?_ _)); refine blk_put (cs := #[.slice A184_0 ((rd_T43 l0 x4_2).f0).length c184_0, .int .i64 ((rd_T43 l0 x4_2).f1), .int .i64 ((rd_T43 l0 x4_2).f2), .int .i64 0, .int .i64 0]) ?_ 3 _ rfl; (with_reducible repeat (first | refine blk_drewN ?_ _ | refine blk_drew ?_ | refine blk_alloc ?_ _)); refine blk_put (cs := #[.slice A184_0 ((rd_T43 l0 x4_2).f0).length c184_0, .int .i64 ((rd_T43 l0 x4_2).f1), .int .i64 0, .int .i64 0, .int .i64 0]) ?_ 2 _ rfl; (with_reducible repeat (first | refine blk_drewN ?_ _ | refine blk_drew ?_ | refine blk_alloc ?_ _)); refine blk_put (cs := #[.slice A184_0 ((rd_T43 l0 x4_2).f0).length c184_0, .int .i64 0, .int .i64 0, .int .i64 0, .int .i64 0]) ?_ 1 _ rfl; (with_reducible repeat (first | refine blk_drewN ?_ _ | refine blk_drew ?_ | refine blk_alloc ?_ _)); refine blk_put (cs := #[.slice none 0 0, .int .i64 0, .int .i64 0, .int .i64 0, .int .i64 0]) ?_ 0 _ rfl; (with_reducible repeat (first | refine blk_drewN ?_ _ | refine blk_drew ?_ | refine blk_alloc ?_ _)); exact BK185.out⟩, ⟨by repeat (first | (with_reducible first | exact HB.out | apply below_alloc | apply pw_below_drewN | apply below_drew1 | refine below_set ?_ GE185.out) | exact HB.out)⟩⟩
                ·rw [if_neg c23] at H
                 have c23b0 : decide (((rd_T43 l0 x4_2).f3) < (-1000)) = false := decide_eq_false c23
                 clear c23
                 have H' := Aside0.mk H
                 clear H
                 have hcz25_0 : w9.cell? ⟨gb185, 0, none⟩ = some (.slice none 0 0) := (blk_cell BK185.out 0).trans rfl
                 have hcz25_1 : w9.cell? ⟨gb185, 1, none⟩ = some (.int .i64 0) := (blk_cell BK185.out 1).trans rfl
                 have hcz25_2 : w9.cell? ⟨gb185, 2, none⟩ = some (.int .i64 0) := (blk_cell BK185.out 2).trans rfl
                 have hcz25_3 : w9.cell? ⟨gb185, 3, none⟩ = some (.int .i64 0) := (blk_cell BK185.out 3).trans rfl
                 have hcz25_4 : w9.cell? ⟨gb185, 4, none⟩ = some (.int .i64 0) := (blk_cell BK185.out 4).trans rfl
                 have hfz25_0 := blk_frozen BK185.out 0
                 have hfz25_1 := blk_frozen BK185.out 1
                 have hfz25_2 := blk_frozen BK185.out 2
                 have hfz25_3 := blk_frozen BK185.out 3
                 have hfz25_4 := blk_frozen BK185.out 4
                 go_wp2
                 repeat (go_quiet (fail); try go_wp2)
                 go_meet
                 case rel => exact ⟨_, (decide (((rd_T43 l0 x4_2).f3) > 1000)), (by first | rfl | (simp; done) | (simp [*]; done)), H', ⟨by have := HK1.out; have := HK2.out; first | omega | exact Nat.le_refl _⟩, ⟨by (with_reducible repeat (first | refine blk_drewN ?_ _ | refine blk_drew ?_ | refine blk_alloc ?_ _)); refine blk_put (cs := #[.slice A184_0 ((rd_T43 l0 x4_2).f0).length c184_0, .int .i64 ((rd_T43 l0 x4_2).f1), .int .i64 ((rd_T43 l0 x4_2).f2), .int .i64 ((rd_T43 l0 x4_2).f3), .int .i64 0]) ?_ 4 _ rfl; (with_reducible repeat (first | refine blk_drewN ?_ _ | refine blk_drew ?_ | refine blk_alloc ?_ _)); refine blk_put (cs := #[.slice A184_0 ((rd_T43 l0 x4_2).f0).length c184_0, .int .i64 ((rd_T43 l0 x4_2).f1), .int .i64 ((rd_T43 l0 x4_2).f2), .int .i64 0, .int .i64 0]) ?_ 3 _ rfl; (with_reducible repeat (first | refine blk_drewN ?_ _ | refine blk_drew ?_ | refine blk_alloc ?_ _)); refine blk_put (cs := #[.slice A184_0 ((rd_T43 l0 x4_2).f0).length c184_0, .int .i64 ((rd_T43 l0 x4_2).f1), .int .i64 0, .int .i64 0, .int .i64 0]) ?_ 2 _ rfl; (with_reducible repeat (first | refine blk_drewN ?_ _ | refine blk_drew ?_ | refine blk_alloc ?_ _)); refine blk_put (cs := #[.slice A184_0 ((rd_T43 l0 x4_2).f0).length c184_0, .int .i64 0, .int .i64 0, .int .i64 0, .int .i64 0]) ?_ 1 _ rfl; (with_reducible repeat (first | refine blk_drewN ?_ _ | refine blk_drew ?_ | refine blk_alloc ?_ _)); refine blk_put (cs := #[.slice none 0 0, .int .i64 0, .int .i64 0, .int .i64 0, .int .i64 0]) ?_ 0 _ rfl; (with_reducible repeat (first | refine blk_drewN ?_ _ | refine blk_drew ?_ | refine blk_alloc ?_ _)); exact BK185.out⟩, ⟨by repeat (first | (with_reducible first | exact HB.out | apply below_alloc | apply pw_below_drewN | apply below_drew1 | refine below_set ?_ GE185.out) | exact HB.out)⟩⟩
         case rest =>
          clear HC8
          try clear c1
          try clear p1
          try clear q1
          try clear hx1
          try clear c2
          try clear c2b0
          try clear c2b1
          try clear p2
          try clear c3
          try clear c3b0
          try clear c4
          try clear c4b0
          try clear c5
          try clear c5b0
          try clear c5b1
          try clear c6
          try clear c6b0
          try clear p6
          try clear c7
          try clear c7b0
          try clear c11
          try clear c11b0
          try clear c13
          try clear c13b0
          try clear c15
          try clear c15b0
          try clear c17
          try clear c17b0
          try clear c18
          try clear p18
          try clear q18
          try clear hx18
          try clear c19
          try clear c19b0
          try clear c21
          try clear c21b0
          try clear c23
          try clear c23b0
          try clear hcz10_0
          try clear hcz10_1
          try clear hcz10_2
          try clear hcz10_3
          try clear hcz10_4
          try clear hcz12_0
          try clear hcz12_1
          try clear hcz12_2
          try clear hcz12_3
          try clear hcz12_4
          try clear hcz14_0
          try clear hcz14_1
          try clear hcz14_2
          try clear hcz14_3
          try clear hcz14_4
          try clear hcz16_0
          try clear hcz16_1
          try clear hcz16_2
          try clear hcz16_3
          try clear hcz16_4
          try clear hcz18_0
          try clear hcz18_1
          try clear hcz18_2
          try clear hcz18_3
          try clear hcz18_4
          try clear hcz20_0
          try clear hcz20_1
          try clear hcz20_2
          try clear hcz20_3
          try clear hcz20_4
          try clear hcz22_0
          try clear hcz22_1
          try clear hcz22_2
          try clear hcz22_3
          try clear hcz22_4
          try clear hcz24_0
          try clear hcz24_1
          try clear hcz24_2
          try clear hcz24_3
          try clear hcz24_4
          try clear hcz25_0
          try clear hcz25_1
          try clear hcz25_2
          try clear hcz25_3
          try clear hcz25_4
          try clear hfz10_0
          try clear hfz10_1
          try clear hfz10_2
          try clear hfz10_3
          try clear hfz10_4
          try clear hfz12_0
          try clear hfz12_1
          try clear hfz12_2
          try clear hfz12_3
          try clear hfz12_4
          try clear hfz14_0
          try clear hfz14_1
          try clear hfz14_2
          try clear hfz14_3
          try clear hfz14_4
          try clear hfz16_0
          try clear hfz16_1
          try clear hfz16_2
          try clear hfz16_3
          try clear hfz16_4
          try clear hfz18_0
          try clear hfz18_1
          try clear hfz18_2
          try clear hfz18_3
          try clear hfz18_4
          try clear hfz20_0
          try clear hfz20_1
          try clear hfz20_2
          try clear hfz20_3
          try clear hfz20_4
          try clear hfz22_0
          try clear hfz22_1
          try clear hfz22_2
          try clear hfz22_3
          try clear hfz22_4
          try clear hfz24_0
          try clear hfz24_1
          try clear hfz24_2
          try clear hfz24_3
          try clear hfz24_4
          try clear hfz25_0
          try clear hfz25_1
          try clear hfz25_2
          try clear hfz25_3
          try clear hfz25_4
          try clear hx183_0
          try clear hx183_1
          try clear hx183_2
          try clear hx183_3
          try clear hx183_4
          try clear hx184_0
          try clear hx184_1
          try clear hx184_2
          try clear hx184_3
          try clear hx184_4
          try clear p1
          try clear p183
          try clear p184
          try clear p2
          try clear q1
          try clear q183
          try clear q184
          obtain ⟨kq, x71_7, rfl, HA, HJ7, BK185, HB⟩ := hcut
          cases kq with
          | zero => exact absurd HA.out (by simp [butlerref11_Right.j2])
          | succ kj7 =>
           have H := HA.out
           clear HA
           simp only [butlerref11_Right.j2] at H
           by_cases c26 : x71_7 = true
           ·subst c26
            have H1 : (some 110) = some r := by rw [if_pos rfl] at H; exact H
            clear H
            have H := H1
            clear H1
            obtain rfl := Option.some.inj H
            go_wp2
            repeat (go_quiet (fail); try go_wp2)
            go_ret
            exact ⟨by first | rfl | (simp [errW_none, errW_some] <;> rfl) | (simp [*, errW_none, errW_some] <;> rfl), by repeat (first | (with_reducible first | exact HB.out | apply below_alloc | apply pw_below_drewN | apply below_drew1 | refine below_set ?_ GE185.out) | exact HB.out)⟩
           ·replace c26 := Bool.eq_false_iff.mpr c26
            subst c26
            have H1 : (butlerref11_Right.l2 kj7 l0 x4_2 0 ((rd_T43 l0 x4_2).f0) ((rd_T43 l0 x4_2).f1) ((rd_T43 l0 x4_2).f2) ((rd_T43 l0 x4_2).f3) ((rd_T43 l0 x4_2).f4)) = some r := by rw [if_neg (show ¬ (false = true) by decide)] at H; exact H
            clear H
            have H := H1
            clear H1
            have H' := Aside0.mk H
            clear H
            go_wp2
            repeat (go_quiet (fail); try go_wp2)
            go_loopg [6] kj7 (fun kq v6 w' => ∃ (x6_4 : Int), v6 = .int .i64 x6_4 ∧ Aside0 (butlerref11_Right.l2 kq l0 x4_2 x6_4 ((rd_T43 l0 x4_2).f0) ((rd_T43 l0 x4_2).f1) ((rd_T43 l0 x4_2).f2) ((rd_T43 l0 x4_2).f3) ((rd_T43 l0 x4_2).f4) = some r) ∧ Aside0 (kq ≤ kj7) ∧ Aside0 (w'.heap[gb185]? = some (.cells #[(.slice A184_0 ((rd_T43 l0 x4_2).f0).length c184_0), .int .i64 ((rd_T43 l0 x4_2).f1), .int .i64 ((rd_T43 l0 x4_2).f2), .int .i64 ((rd_T43 l0 x4_2).f3), .int .i64 ((rd_T43 l0 x4_2).f4)] 43 (0, 0))) ∧ Aside0 (Below w.heap.size w w'))
            case atStart => exact ⟨(0), (by first | rfl | (simp; done) | (simp [*]; done)), H', ⟨Nat.le_refl _⟩, ⟨by (with_reducible repeat (first | refine blk_drewN ?_ _ | refine blk_drew ?_ | refine blk_alloc ?_ _)); exact BK185.out⟩, ⟨by repeat (first | (with_reducible first | exact HB.out | apply below_alloc | apply pw_below_drewN | apply below_drew1 | refine below_set ?_ GE185.out) | exact HB.out)⟩⟩
            case round =>
             clear H'
             try clear c1
             try clear p1
             try clear q1
             try clear hx1
             try clear c2
             try clear c2b0
             try clear c2b1
             try clear p2
             try clear c3
             try clear c3b0
             try clear c4
             try clear c4b0
             try clear c5
             try clear c5b0
             try clear c5b1
             try clear c6
             try clear c6b0
             try clear p6
             try clear c7
             try clear c7b0
             try clear c11
             try clear c11b0
             try clear c13
             try clear c13b0
             try clear c15
             try clear c15b0
             try clear c17
             try clear c17b0
             try clear c18
             try clear p18
             try clear q18
             try clear hx18
             try clear c19
             try clear c19b0
             try clear c21
             try clear c21b0
             try clear c23
             try clear c23b0
             try clear c26
             try clear hcz10_0
             try clear hcz10_1
             try clear hcz10_2
             try clear hcz10_3
             try clear hcz10_4
             try clear hcz12_0
             try clear hcz12_1
             try clear hcz12_2
             try clear hcz12_3
             try clear hcz12_4
             try clear hcz14_0
             try clear hcz14_1
             try clear hcz14_2
             try clear hcz14_3
             try clear hcz14_4
             try clear hcz16_0
             try clear hcz16_1
             try clear hcz16_2
             try clear hcz16_3
             try clear hcz16_4
             try clear hcz18_0
             try clear hcz18_1
             try clear hcz18_2
             try clear hcz18_3
             try clear hcz18_4
             try clear hcz20_0
             try clear hcz20_1
             try clear hcz20_2
             try clear hcz20_3
             try clear hcz20_4
             try clear hcz22_0
             try clear hcz22_1
             try clear hcz22_2
             try clear hcz22_3
             try clear hcz22_4
             try clear hcz24_0
             try clear hcz24_1
             try clear hcz24_2
             try clear hcz24_3
             try clear hcz24_4
             try clear hcz25_0
             try clear hcz25_1
             try clear hcz25_2
             try clear hcz25_3
             try clear hcz25_4
             try clear hfz10_0
             try clear hfz10_1
             try clear hfz10_2
             try clear hfz10_3
             try clear hfz10_4
             try clear hfz12_0
             try clear hfz12_1
             try clear hfz12_2
             try clear hfz12_3
             try clear hfz12_4
             try clear hfz14_0
             try clear hfz14_1
             try clear hfz14_2
             try clear hfz14_3
             try clear hfz14_4
             try clear hfz16_0
             try clear hfz16_1
             try clear hfz16_2
             try clear hfz16_3
             try clear hfz16_4
             try clear hfz18_0
             try clear hfz18_1
             try clear hfz18_2
             try clear hfz18_3
             try clear hfz18_4
             try clear hfz20_0
             try clear hfz20_1
             try clear hfz20_2
             try clear hfz20_3
             try clear hfz20_4
             try clear hfz22_0
             try clear hfz22_1
             try clear hfz22_2
             try clear hfz22_3
             try clear hfz22_4
             try clear hfz24_0
             try clear hfz24_1
             try clear hfz24_2
             try clear hfz24_3
             try clear hfz24_4
             try clear hfz25_0
             try clear hfz25_1
             try clear hfz25_2
             try clear hfz25_3
             try clear hfz25_4
             try clear hx183_0
             try clear hx183_1
             try clear hx183_2
             try clear hx183_3
             try clear hx183_4
             try clear hx184_0
             try clear hx184_1
             try clear hx184_2
             try clear hx184_3
             try clear hx184_4
             try clear p1
             try clear p18
             try clear p183
             try clear p184
             try clear p2
             try clear p6
             try clear q1
             try clear q18
             try clear q183
             try clear q184
             obtain ⟨x6_4, rfl, HA, HK4, BK185, HB⟩ := hrel
             cases gk with
             | zero => exact absurd HA.out (by simp [butlerref11_Right.l2])
             | succ k4 =>
              have H := HA.out
              clear HA
              simp only [butlerref11_Right.l2] at H
              by_cases c27 : x6_4 < (((rd_T43 l0 x4_2).f0).length : Int)
              ·rw [if_pos c27] at H
               have c27b0 : decide (x6_4 < (((rd_T43 l0 x4_2).f0).length : Int)) = true := decide_eq_true c27
               clear c27
               by_cases c28 : 0 ≤ x6_4
               ·rw [if_pos c28] at H
                have c28b0 : decide (0 ≤ x6_4) = true := decide_eq_true c28
                clear c28
                by_cases c29 : (rd ((rd_T43 l0 x4_2).f0) x6_4) < 0
                ·rw [if_pos c29] at H
                 have c29b0 : decide ((rd ((rd_T43 l0 x4_2).f0) x6_4) < 0) = true := decide_eq_true c29
                 clear c29
                 obtain rfl := Option.some.inj H
                 have hcz30_0 : wr.cell? ⟨gb185, 0, none⟩ = some (.slice A184_0 ((rd_T43 l0 x4_2).f0).length c184_0) := (blk_cell BK185.out 0).trans rfl
                 have hcz30_1 : wr.cell? ⟨gb185, 1, none⟩ = some (.int .i64 ((rd_T43 l0 x4_2).f1)) := (blk_cell BK185.out 1).trans rfl
                 have hcz30_2 : wr.cell? ⟨gb185, 2, none⟩ = some (.int .i64 ((rd_T43 l0 x4_2).f2)) := (blk_cell BK185.out 2).trans rfl
                 have hcz30_3 : wr.cell? ⟨gb185, 3, none⟩ = some (.int .i64 ((rd_T43 l0 x4_2).f3)) := (blk_cell BK185.out 3).trans rfl
                 have hcz30_4 : wr.cell? ⟨gb185, 4, none⟩ = some (.int .i64 ((rd_T43 l0 x4_2).f4)) := (blk_cell BK185.out 4).trans rfl
                 have hfz30_0 := blk_frozen BK185.out 0
                 have hfz30_1 := blk_frozen BK185.out 1
                 have hfz30_2 := blk_frozen BK185.out 2
                 have hfz30_3 := blk_frozen BK185.out 3
                 have hfz30_4 := blk_frozen BK185.out 4
                 have p186 : 0 ≤ (x6_4 : Int) := of_decide_eq_true (by first | (with_reducible assumption) | assumption)
                 have q186 : x6_4 < (((rd_T43 l0 x4_2).f0).length : Int) := of_decide_eq_true (by first | (with_reducible assumption) | assumption)
                 obtain ⟨ad186, e186, hx186_0⟩ := Kd.at_int HR184_0.out x6_4 p186 q186
                 cases e186
                 replace hx186_0 := (HB.out.cell (World.block_lt_of_cell? w _ hx186_0)).trans hx186_0
                 replace p186 := eq_true p186
                 replace q186 := eq_true q186
                 go_wp2
                 repeat (go_quiet (fail); try go_wp2)
                 go_ret
                 exact ⟨by first | rfl | (simp [errW_none, errW_some] <;> rfl) | (simp [*, errW_none, errW_some] <;> rfl), by repeat (first | (with_reducible first | exact HB.out | apply below_alloc | apply pw_below_drewN | apply below_drew1 | refine below_set ?_ GE185.out) | exact HB.out)⟩
                ·rw [if_neg c29] at H
                 have c29b0 : decide ((rd ((rd_T43 l0 x4_2).f0) x6_4) < 0) = false := decide_eq_false c29
                 clear c29
                 by_cases c31 : (rd ((rd_T43 l0 x4_2).f0) x6_4) ≥ (l0.length : Int)
                 ·rw [if_pos c31] at H
                  have c31b0 : decide ((l0.length : Int) ≤ (rd ((rd_T43 l0 x4_2).f0) x6_4)) = true := decide_eq_true c31
                  clear c31
                  obtain rfl := Option.some.inj H
                  have hcz32_0 : wr.cell? ⟨gb185, 0, none⟩ = some (.slice A184_0 ((rd_T43 l0 x4_2).f0).length c184_0) := (blk_cell BK185.out 0).trans rfl
                  have hcz32_1 : wr.cell? ⟨gb185, 1, none⟩ = some (.int .i64 ((rd_T43 l0 x4_2).f1)) := (blk_cell BK185.out 1).trans rfl
                  have hcz32_2 : wr.cell? ⟨gb185, 2, none⟩ = some (.int .i64 ((rd_T43 l0 x4_2).f2)) := (blk_cell BK185.out 2).trans rfl
                  have hcz32_3 : wr.cell? ⟨gb185, 3, none⟩ = some (.int .i64 ((rd_T43 l0 x4_2).f3)) := (blk_cell BK185.out 3).trans rfl
                  have hcz32_4 : wr.cell? ⟨gb185, 4, none⟩ = some (.int .i64 ((rd_T43 l0 x4_2).f4)) := (blk_cell BK185.out 4).trans rfl
                  have hfz32_0 := blk_frozen BK185.out 0
                  have hfz32_1 := blk_frozen BK185.out 1
                  have hfz32_2 := blk_frozen BK185.out 2
                  have hfz32_3 := blk_frozen BK185.out 3
                  have hfz32_4 := blk_frozen BK185.out 4
                  have p186 : 0 ≤ (x6_4 : Int) := of_decide_eq_true (by first | (with_reducible assumption) | assumption)
                  have q186 : x6_4 < (((rd_T43 l0 x4_2).f0).length : Int) := of_decide_eq_true (by first | (with_reducible assumption) | assumption)
                  obtain ⟨ad186, e186, hx186_0⟩ := Kd.at_int HR184_0.out x6_4 p186 q186
                  cases e186
                  replace hx186_0 := (HB.out.cell (World.block_lt_of_cell? w _ hx186_0)).trans hx186_0
                  replace p186 := eq_true p186
                  replace q186 := eq_true q186
                  go_wp2
                  repeat (go_quiet (fail); try go_wp2)
                  go_ret
                  exact ⟨by first | rfl | (simp [errW_none, errW_some] <;> rfl) | (simp [*, errW_none, errW_some] <;> rfl), by repeat (first | (with_reducible first | exact HB.out | apply below_alloc | apply pw_below_drewN | apply below_drew1 | refine below_set ?_ GE185.out) | exact HB.out)⟩
                 ·rw [if_neg c31] at H
                  have c31b0 : decide ((l0.length : Int) ≤ (rd ((rd_T43 l0 x4_2).f0) x6_4)) = false := decide_eq_false c31
                  clear c31
                  by_cases c33 : 0 ≤ (rd ((rd_T43 l0 x4_2).f0) x6_4)
                  ·rw [if_pos c33] at H
                   have c33b0 : decide (0 ≤ (rd ((rd_T43 l0 x4_2).f0) x6_4)) = true := decide_eq_true c33
                   clear c33
                   by_cases c34 : (rd ((rd_T43 l0 x4_2).f0) x6_4) < (l0.length : Int)
                   ·rw [if_pos c34] at H
                    have c34b0 : decide ((rd ((rd_T43 l0 x4_2).f0) x6_4) < (l0.length : Int)) = true := decide_eq_true c34
                    clear c34
                    by_cases c35 : ((rd_T43 l0 (rd ((rd_T43 l0 x4_2).f0) x6_4)).f1) > ((rd_T43 l0 x4_2).f1)
                    ·rw [if_pos c35] at H
                     have c35b0 : decide (((rd_T43 l0 x4_2).f1) < ((rd_T43 l0 (rd ((rd_T43 l0 x4_2).f0) x6_4)).f1)) = true := decide_eq_true c35
                     clear c35
                     obtain rfl := Option.some.inj H
                     have hcz36_0 : wr.cell? ⟨gb185, 0, none⟩ = some (.slice A184_0 ((rd_T43 l0 x4_2).f0).length c184_0) := (blk_cell BK185.out 0).trans rfl
                     have hcz36_1 : wr.cell? ⟨gb185, 1, none⟩ = some (.int .i64 ((rd_T43 l0 x4_2).f1)) := (blk_cell BK185.out 1).trans rfl
                     have hcz36_2 : wr.cell? ⟨gb185, 2, none⟩ = some (.int .i64 ((rd_T43 l0 x4_2).f2)) := (blk_cell BK185.out 2).trans rfl
                     have hcz36_3 : wr.cell? ⟨gb185, 3, none⟩ = some (.int .i64 ((rd_T43 l0 x4_2).f3)) := (blk_cell BK185.out 3).trans rfl
                     have hcz36_4 : wr.cell? ⟨gb185, 4, none⟩ = some (.int .i64 ((rd_T43 l0 x4_2).f4)) := (blk_cell BK185.out 4).trans rfl
                     have hfz36_0 := blk_frozen BK185.out 0
                     have hfz36_1 := blk_frozen BK185.out 1
                     have hfz36_2 := blk_frozen BK185.out 2
                     have hfz36_3 := blk_frozen BK185.out 3
                     have hfz36_4 := blk_frozen BK185.out 4
                     have p186 : 0 ≤ (x6_4 : Int) := of_decide_eq_true (by first | (with_reducible assumption) | assumption)
                     have q186 : x6_4 < (((rd_T43 l0 x4_2).f0).length : Int) := of_decide_eq_true (by first | (with_reducible assumption) | assumption)
                     obtain ⟨ad186, e186, hx186_0⟩ := Kd.at_int HR184_0.out x6_4 p186 q186
                     cases e186
                     replace hx186_0 := (HB.out.cell (World.block_lt_of_cell? w _ hx186_0)).trans hx186_0
                     replace p186 := eq_true p186
                     replace q186 := eq_true q186
                     have p187 : 0 ≤ ((rd ((rd_T43 l0 x4_2).f0) x6_4) : Int) := of_decide_eq_true (by first | (with_reducible assumption) | assumption)
                     have q187 : (rd ((rd_T43 l0 x4_2).f0) x6_4) < (l0.length : Int) := of_decide_eq_true (by first | (with_reducible assumption) | assumption)
                     obtain ⟨ad187, A187_0, c187_0, e187, hx187_0, hx187_1, hx187_2, hx187_3, hx187_4, hl187_0, hi187_0⟩ := at_T43 HR0.out (rd ((rd_T43 l0 x4_2).f0) x6_4) p187 q187
                     obtain rfl : ad184 = ad187 := (by injection e187)
                     replace hx187_0 := (HB.out.cell (World.block_lt_of_cell? w _ hx187_0)).trans hx187_0
                     replace hx187_1 := (HB.out.cell (World.block_lt_of_cell? w _ hx187_1)).trans hx187_1
                     replace hx187_2 := (HB.out.cell (World.block_lt_of_cell? w _ hx187_2)).trans hx187_2
                     replace hx187_3 := (HB.out.cell (World.block_lt_of_cell? w _ hx187_3)).trans hx187_3
                     replace hx187_4 := (HB.out.cell (World.block_lt_of_cell? w _ hx187_4)).trans hx187_4
                     have HR187_0 := Aside0.mk hi187_0
                     have HC187_0 := Aside0.mk hl187_0
                     clear hi187_0 hl187_0
                     replace p187 := eq_true p187
                     replace q187 := eq_true q187
                     go_wp2
                     repeat (go_quiet (fail); try go_wp2)
                     go_ret
                     exact ⟨by first | rfl | (simp [errW_none, errW_some] <;> rfl) | (simp [*, errW_none, errW_some] <;> rfl), by repeat (first | (with_reducible first | exact HB.out | apply below_alloc | apply pw_below_drewN | apply below_drew1 | refine below_set ?_ GE185.out) | exact HB.out)⟩
                    ·rw [if_neg c35] at H
                     have c35b0 : decide (((rd_T43 l0 x4_2).f1) < ((rd_T43 l0 (rd ((rd_T43 l0 x4_2).f0) x6_4)).f1)) = false := decide_eq_false c35
                     clear c35
                     have H' := Aside0.mk H
                     clear H
                     have hcz37_0 : wr.cell? ⟨gb185, 0, none⟩ = some (.slice A184_0 ((rd_T43 l0 x4_2).f0).length c184_0) := (blk_cell BK185.out 0).trans rfl
                     have hcz37_1 : wr.cell? ⟨gb185, 1, none⟩ = some (.int .i64 ((rd_T43 l0 x4_2).f1)) := (blk_cell BK185.out 1).trans rfl
                     have hcz37_2 : wr.cell? ⟨gb185, 2, none⟩ = some (.int .i64 ((rd_T43 l0 x4_2).f2)) := (blk_cell BK185.out 2).trans rfl
                     have hcz37_3 : wr.cell? ⟨gb185, 3, none⟩ = some (.int .i64 ((rd_T43 l0 x4_2).f3)) := (blk_cell BK185.out 3).trans rfl
                     have hcz37_4 : wr.cell? ⟨gb185, 4, none⟩ = some (.int .i64 ((rd_T43 l0 x4_2).f4)) := (blk_cell BK185.out 4).trans rfl
                     have hfz37_0 := blk_frozen BK185.out 0
                     have hfz37_1 := blk_frozen BK185.out 1
                     have hfz37_2 := blk_frozen BK185.out 2
                     have hfz37_3 := blk_frozen BK185.out 3
                     have hfz37_4 := blk_frozen BK185.out 4
                     have p186 : 0 ≤ (x6_4 : Int) := of_decide_eq_true (by first | (with_reducible assumption) | assumption)
                     have q186 : x6_4 < (((rd_T43 l0 x4_2).f0).length : Int) := of_decide_eq_true (by first | (with_reducible assumption) | assumption)
                     obtain ⟨ad186, e186, hx186_0⟩ := Kd.at_int HR184_0.out x6_4 p186 q186
                     cases e186
                     replace hx186_0 := (HB.out.cell (World.block_lt_of_cell? w _ hx186_0)).trans hx186_0
                     replace p186 := eq_true p186
                     replace q186 := eq_true q186
                     have p187 : 0 ≤ ((rd ((rd_T43 l0 x4_2).f0) x6_4) : Int) := of_decide_eq_true (by first | (with_reducible assumption) | assumption)
                     have q187 : (rd ((rd_T43 l0 x4_2).f0) x6_4) < (l0.length : Int) := of_decide_eq_true (by first | (with_reducible assumption) | assumption)
                     obtain ⟨ad187, A187_0, c187_0, e187, hx187_0, hx187_1, hx187_2, hx187_3, hx187_4, hl187_0, hi187_0⟩ := at_T43 HR0.out (rd ((rd_T43 l0 x4_2).f0) x6_4) p187 q187
                     obtain rfl : ad184 = ad187 := (by injection e187)
                     replace hx187_0 := (HB.out.cell (World.block_lt_of_cell? w _ hx187_0)).trans hx187_0
                     replace hx187_1 := (HB.out.cell (World.block_lt_of_cell? w _ hx187_1)).trans hx187_1
                     replace hx187_2 := (HB.out.cell (World.block_lt_of_cell? w _ hx187_2)).trans hx187_2
                     replace hx187_3 := (HB.out.cell (World.block_lt_of_cell? w _ hx187_3)).trans hx187_3
                     replace hx187_4 := (HB.out.cell (World.block_lt_of_cell? w _ hx187_4)).trans hx187_4
                     have HR187_0 := Aside0.mk hi187_0
                     have HC187_0 := Aside0.mk hl187_0
                     clear hi187_0 hl187_0
                     replace p187 := eq_true p187
                     replace q187 := eq_true q187
                     go_wp2
                     repeat (go_quiet (fail); try go_wp2)
                     go_roundg k4
                     case measure => have := HK1.out; have := HK2.out; have := HJ7.out; have := HK4.out; omega
                     case rel => exact ⟨(wrap64 (x6_4 + 1)), (by first | rfl | (simp; done) | (simp [*]; done)), H', ⟨by have := HK1.out; have := HK2.out; have := HJ7.out; have := HK4.out; omega⟩, ⟨by (with_reducible repeat (first | refine blk_drewN ?_ _ | refine blk_drew ?_ | refine blk_alloc ?_ _)); exact BK185.out⟩, ⟨by repeat (first | (with_reducible first | exact HB.out | apply below_alloc | apply pw_below_drewN | apply below_drew1 | refine below_set ?_ GE185.out) | exact HB.out)⟩⟩
                   ·rw [if_neg c34] at H
                    exact absurd H (by simp)
                  ·rw [if_neg c33] at H
                   exact absurd H (by simp)
               ·rw [if_neg c28] at H
                exact absurd H (by simp)
              ·rw [if_neg c27] at H
               have c27b0 : decide (x6_4 < (((rd_T43 l0 x4_2).f0).length : Int)) = false := decide_eq_false c27
               clear c27
               have H' := Aside0.mk H
               clear H
               have hcz38_0 : wr.cell? ⟨gb185, 0, none⟩ = some (.slice A184_0 ((rd_T43 l0 x4_2).f0).length c184_0) := (blk_cell BK185.out 0).trans rfl
               have hcz38_1 : wr.cell? ⟨gb185, 1, none⟩ = some (.int .i64 ((rd_T43 l0 x4_2).f1)) := (blk_cell BK185.out 1).trans rfl
               have hcz38_2 : wr.cell? ⟨gb185, 2, none⟩ = some (.int .i64 ((rd_T43 l0 x4_2).f2)) := (blk_cell BK185.out 2).trans rfl
               have hcz38_3 : wr.cell? ⟨gb185, 3, none⟩ = some (.int .i64 ((rd_T43 l0 x4_2).f3)) := (blk_cell BK185.out 3).trans rfl
               have hcz38_4 : wr.cell? ⟨gb185, 4, none⟩ = some (.int .i64 ((rd_T43 l0 x4_2).f4)) := (blk_cell BK185.out 4).trans rfl
               have hfz38_0 := blk_frozen BK185.out 0
               have hfz38_1 := blk_frozen BK185.out 1
               have hfz38_2 := blk_frozen BK185.out 2
               have hfz38_3 := blk_frozen BK185.out 3
               have hfz38_4 := blk_frozen BK185.out 4
               go_wp2
               repeat (go_quiet (fail); try go_wp2)
               go_roundg k4
               case measure => have := HK1.out; have := HK2.out; have := HJ7.out; have := HK4.out; omega
               case rel => exact ⟨(wrap64 (x4_2 + 1)), (by first | rfl | (simp; done) | (simp [*]; done)), H', ⟨by have := HK1.out; have := HK2.out; have := HJ7.out; have := HK4.out; omega⟩, ⟨by repeat (first | (with_reducible first | exact HB.out | apply below_alloc | apply pw_below_drewN | apply below_drew1 | refine below_set ?_ GE185.out) | exact HB.out)⟩⟩
        ·rw [if_neg c7] at H
         exact absurd H (by simp)
       ·rw [if_neg c6] at H
        have c6b0 : decide (x4_2 < (l0.length : Int)) = false := decide_eq_false c6
        clear c6
        by_cases c39 : (l0.length : Int) = 0
        ·rw [if_pos c39] at H
         have c39b0 : ((l0.length : Int) == 0) = true := beq_iff_eq.mpr c39
         have c39b1 : ((l0.length : Int) != 0) = false := bne_eq_false_iff_eq.mpr c39
         clear c39
         obtain rfl := Option.some.inj H
         go_wp2
         repeat (go_quiet (fail); try go_wp2)
         go_ret
         exact ⟨by first | rfl | (simp [errW_none, errW_some] <;> rfl) | (simp [*, errW_none, errW_some] <;> rfl), by repeat (first | (with_reducible first | exact HB.out | apply below_alloc | apply pw_below_drewN | apply below_drew1) | exact HB.out)⟩
        ·rw [if_neg c39] at H
         have c39b0 : ((l0.length : Int) == 0) = false := beq_eq_false_iff_ne.mpr c39
         have c39b1 : ((l0.length : Int) != 0) = true := bne_iff_ne.mpr c39
         have c39b2 : ¬ (l0 = []) := fun h_ => c39 (by rw [h_]; rfl)
         obtain rfl := Option.some.inj H
         go_wp2
         repeat (go_quiet (fail); try go_wp2)
         go_ret
         exact ⟨by first | rfl | (simp [errW_none, errW_some] <;> rfl) | (simp [*, errW_none, errW_some] <;> rfl), by repeat (first | (with_reducible first | exact HB.out | apply below_alloc | apply pw_below_drewN | apply below_drew1) | exact HB.out)⟩

end
end Go.Proofs.Ytgahkloigbhgdaa.PR
