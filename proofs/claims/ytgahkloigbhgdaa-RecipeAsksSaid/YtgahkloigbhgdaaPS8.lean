import Derived.Test.YtgahkloigbhgdaaPRx0
import Derived.Test.YtgahkloigbhgdaaPRx5
namespace Go.Proofs.Ytgahkloigbhgdaa.PR
open Go.RowKit Go.Proofs.YtgahkloigbhgdaaW.PrintWords Go.Proofs.YtgahkloigbhgdaaW.PrintLast Go.Proofs.YtgahkloigbhgdaaW.PrintMore
noncomputable section
attribute [local go_sem] max2_int min2_int max_two min_two max_three min_three max_four min_four   -- for this text's walks alone
set_option linter.unusedVariables false
set_option linter.unusedSimpArgs false

/-! ### butlerref11_reached: function 31 -/
mutual
def butlerref11_reached.l0 : Nat → List (S43) → List Bool → List Int → Option (List Bool)
 | 0, _, _, _ => none
 | k + 1, x0, x5, x6 => if (x6.length : Int) > 0 then (if 0 < (x6.length : Int) then (if 1 ≤ (x6.length : Int) then (butlerref11_reached.l1 k x0 x5 (x6.drop (1 : Int).toNat) (rd x6 0) 0) else (none)) else (none)) else (some x5)
def butlerref11_reached.l1 : Nat → List (S43) → List Bool → List Int → Int → Int → Option (List Bool)
 | 0, _, _, _, _, _ => none
 | k + 1, x0, x5, x6, x7, x8 => if 0 ≤ x7 then (if x7 < (x0.length : Int) then (if x8 < (((rd_T43 x0 x7).f0).length : Int) then (if 0 ≤ x8 then (if 0 ≤ (rd ((rd_T43 x0 x7).f0) x8) then (if (rd ((rd_T43 x0 x7).f0) x8) < (x5.length : Int) then (if (rdOf false x5 (rd ((rd_T43 x0 x7).f0) x8) = true) then (butlerref11_reached.l1 k x0 x5 x6 x7 (wrap64 (x8 + 1))) else (if x6.length < 17592186044416 then (butlerref11_reached.l1 k x0 (x5.set ((rd ((rd_T43 x0 x7).f0) x8) : Int).toNat true) (x6 ++ [rd ((rd_T43 x0 x7).f0) x8]) x7 (wrap64 (x8 + 1))) else (none))) else (none)) else (none)) else (none)) else (butlerref11_reached.l0 k x0 x5 x6)) else (none)) else (none)
end
def butlerref11_reached.f (k : Nat) (l0 : List (S43)) (a1 : Int) : Option (List Bool) := if 0 ≤ (l0.length : Int) then (if ((l0.length : Int) : Int).toNat ≤ 281474976710656 then (butlerref11_reached.l0 k l0 (List.replicate ((l0.length : Int) : Int).toNat false) (([a1] : List Int))) else (none)) else (none)
theorem butlerref11_reached.mono_l : ∀ k, (∀ y0 y1 y2, LeO (butlerref11_reached.l0 k y0 y1 y2) (butlerref11_reached.l0 (k + 1) y0 y1 y2)) ∧ (∀ y0 y1 y2 y3 y4, LeO (butlerref11_reached.l1 k y0 y1 y2 y3 y4) (butlerref11_reached.l1 (k + 1) y0 y1 y2 y3 y4))
 | 0 => ⟨fun _ _ _ r h => by simp [butlerref11_reached.l0] at h, fun _ _ _ _ _ r h => by simp [butlerref11_reached.l1] at h⟩
 | k + 1 => by
  obtain ⟨ih0, ih1⟩ := butlerref11_reached.mono_l k
  refine ⟨?_, ?_⟩
  ·intro y0 y1 y2
   unfold butlerref11_reached.l0
   repeat' first
   | (with_reducible exact ih0 _ _ _)
   | (with_reducible exact ih1 _ _ _ _ _)
   | (with_reducible exact LeO.refl _)
   | (with_reducible exact LeO.none _)
   | (with_reducible refine LeO.ite ?_ ?_)
   | (with_reducible refine LeO.bind ?_ (fun _ => ?_))
   | exact ih0 _ _ _
   | exact ih1 _ _ _ _ _
   | exact LeO.none _
   | refine LeO.ite ?_ ?_
   | refine LeO.bind ?_ (fun _ => ?_)
  ·intro y0 y1 y2 y3 y4
   unfold butlerref11_reached.l1
   repeat' first
   | (with_reducible exact ih0 _ _ _)
   | (with_reducible exact ih1 _ _ _ _ _)
   | (with_reducible exact LeO.refl _)
   | (with_reducible exact LeO.none _)
   | (with_reducible refine LeO.ite ?_ ?_)
   | (with_reducible refine LeO.bind ?_ (fun _ => ?_))
   | exact ih0 _ _ _
   | exact ih1 _ _ _ _ _
   | exact LeO.none _
   | refine LeO.ite ?_ ?_
   | refine LeO.bind ?_ (fun _ => ?_)
theorem butlerref11_reached.mono : ∀ a0 a1 k, LeO (butlerref11_reached.f k a0 a1) (butlerref11_reached.f (k + 1) a0 a1) := by
 intro a0 a1 k
 obtain ⟨ih0, ih1⟩ := butlerref11_reached.mono_l k
 unfold butlerref11_reached.f
 repeat' first
   | (with_reducible exact ih0 _ _ _)
   | (with_reducible exact ih1 _ _ _ _ _)
   | (with_reducible exact LeO.refl _)
   | (with_reducible exact LeO.none _)
   | (with_reducible refine LeO.ite ?_ ?_)
   | (with_reducible refine LeO.bind ?_ (fun _ => ?_))
   | exact ih0 _ _ _
   | exact ih1 _ _ _ _ _
   | exact LeO.none _
   | refine LeO.ite ?_ ?_
   | refine LeO.bind ?_ (fun _ => ?_)
set_option maxHeartbeats 8000000 in
set_option maxRecDepth 100000 in
theorem butlerref11_reached.calls (k : Nat) (A0 : Option Addr) (c0 : Nat) (l0 : List (S43)) (a1 : Int) (r : List Bool) (w : World) (hr0 : Kd.C k43 w A0 l0.length l0) (hc0 : l0.length ≤ c0) (h : butlerref11_reached.f k l0 a1 = some r) :
  Calls Try.prog 31 #[.slice A0 l0.length c0, .int .i64 a1] w fun e w' => ∃ v0_ : Value, e = .returned (v0_) ∧ Kd.R Kd.bool 4 w' w.heap.size (fun _ => True) v0_ r ∧ Below w.heap.size w w' := by
 have HR0 := Aside0.mk hr0
 have HC0 := Aside0.mk hc0
 clear hr0 hc0
 have HB := Aside0.mk (Below.refl w.heap.size w)
 have H : (if 0 ≤ (l0.length : Int) then (if ((l0.length : Int) : Int).toNat ≤ 281474976710656 then (butlerref11_reached.l0 k l0 (List.replicate ((l0.length : Int) : Int).toNat false) (([a1] : List Int))) else (none)) else (none)) = some r := h
 clear h
 by_cases c3 : 0 ≤ (l0.length : Int)
 ·rw [if_pos c3] at H
  have c3b0 := eq_true c3
  have c3b1 : decide (0 ≤ (l0.length : Int)) = true := decide_eq_true c3
  clear c3
  by_cases c4 : ((l0.length : Int) : Int).toNat ≤ 281474976710656
  ·rw [if_pos c4] at H
   have c4b0 := eq_true c4
   have c4b1 : decide (((l0.length : Int) : Int).toNat ≤ 281474976710656) = true := decide_eq_true c4
   clear c4
   obtain ⟨y215, hy215⟩ : ∃ y_ : List Bool, y_ = (List.replicate ((l0.length : Int) : Int).toNat false) := ⟨_, rfl⟩
   replace H : (butlerref11_reached.l0 k l0 y215 (([a1] : List Int))) = some r := by first | (rw [hy215]; with_reducible exact H) | (have H2_ := (Option.bind_some _ _).symm.trans H; rw [hy215]; with_reducible exact H2_) | (have H2_ := (Option.bind_some _ _).symm.trans H; with_reducible exact H2_) | with_reducible exact H | (rw [hy215]; exact H) | exact H
   have Ny215 := Aside0.mk hy215
   clear hy215
   obtain ⟨y218, hy218⟩ : ∃ y_ : List Int, y_ = (([a1] : List Int)) := ⟨_, rfl⟩
   replace H : (butlerref11_reached.l0 k l0 y215 y218) = some r := by first | (rw [hy218]; with_reducible exact H) | (have H2_ := (Option.bind_some _ _).symm.trans H; rw [hy218]; with_reducible exact H2_) | (have H2_ := (Option.bind_some _ _).symm.trans H; with_reducible exact H2_) | with_reducible exact H | (rw [hy218]; exact H) | exact H
   have Ny218 := Aside0.mk hy218
   clear hy218
   have H' := Aside0.mk H
   clear H
   go_enter Try.func31, Try.ntmps31
   go_wp2_with (first | ((with_reducible refine gate_dst (N := 12) rfl ?_); refine Kd.R_make Kd.bool _ 4 rfl (N := 12) rfl 41 _ _ rfl (l0.length : Int) rfl rfl Try.underlying41 (.bool false) 1 info4 rfl (by decide) (by omega) false (ok := fun _ => True) (okp := fun _ => True) rfl (fun _ hk => hk) trivial (of_decide_eq_true (by first | (with_reducible assumption) | assumption)) (Nat.le_trans (Nat.mul_le_mul_right _ (of_decide_eq_true (by first | (with_reducible assumption) | assumption) : (l0.length : Int).toNat ≤ 281474976710656)) (by omega)) (Below.refl _ _) (Nat.le_refl _) ?_; intro v216 w5 ho6 hb hg_ hnew_; clear hg_ hnew_; (first | rw [← Ny215.out] at ho6 | (simp only [Int.reduceToNat] at ho6; rw [← Ny215.out] at ho6)); have n0_ := Aside0.mk (Kd.R_lower ho6 (below_size (by repeat (first | (with_reducible first | exact HB.out | apply below_alloc | apply pw_below_drewN | apply below_drew1) | exact HB.out)))); have n1_ := Aside0.mk (below_step (by repeat (first | (with_reducible first | exact HB.out | apply below_alloc | apply pw_below_drewN | apply below_drew1) | exact HB.out)) hb); clear HB; have HO217 := n0_; have HB := n1_; clear n0_ n1_; clear hb ho6) | ((with_reducible refine gate_dst (N := 14) rfl ?_); refine Kd.R_lit (Kd.int .i64) _ 3 ?hg (N := 14) ?hd (xs := ([a1] : List Int)) (inner := [.int .i64 a1]) (ok := fun _ => True) (okp := fun _ => True) ?hr ?hp (fun _ hk => hk) trivial (Below.refl _ _) (Nat.le_refl _) (by simp) ?_; (case hd => rfl); (case hg => rfl); (case hr => first | (go_simp; done) | (go_simp; rfl)); (case hp => exact (Reps.one (show Kd.M (Kd.int .i64) _ _ _ a1 [.int .i64 a1] from rfl) (Reps.none _ _))); intro v219 w7 ho8 hb hg_ hnew_; clear hg_ hnew_; (first | rw [← Ny218.out] at ho8 | (simp only [Int.reduceToNat] at ho8; rw [← Ny218.out] at ho8)); have n0_ := Aside0.mk (Kd.R_below (by (with_reducible repeat (first | apply Kd.R_alloc | apply Kd.R_drewN | apply Kd.R_drew)); exact HO217.out) hb); have n1_ := Aside0.mk (Kd.R_lower ho8 (below_size (by repeat (first | (with_reducible first | exact HB.out | apply below_alloc | apply pw_below_drewN | apply below_drew1) | exact HB.out)))); have n2_ := Aside0.mk (below_step (by repeat (first | (with_reducible first | exact HB.out | apply below_alloc | apply pw_below_drewN | apply below_drew1) | exact HB.out)) hb); clear HO217; clear HB; have HO217 := n0_; have HO220 := n1_; have HB := n2_; clear n0_ n1_ n2_; clear hb ho8))
   go_loopg [6] k (fun kq v6 w' => ∃ (x5_1 : List Bool) (x6_1 : List Int), Aside0 (butlerref11_reached.l0 kq l0 x5_1 x6_1 = some r) ∧ Aside0 (kq ≤ k) ∧ Aside0 (Kd.R Kd.bool 4 w' w.heap.size (fun _ => True) v216 x5_1) ∧ Aside0 (Kd.Q (Kd.int .i64) 3 w' w.heap.size (fun _ => True) v6 x6_1) ∧ Aside0 (Below w.heap.size w w'))
   case atStart => exact ⟨(y215), (y218), H', ⟨Nat.le_refl _⟩, ⟨by (with_reducible repeat (first | apply Kd.R_alloc | apply Kd.R_drewN | apply Kd.R_drew)); exact HO217.out⟩, ⟨Kd.Q_of_R (by (with_reducible repeat (first | apply Kd.R_alloc | apply Kd.R_drewN | apply Kd.R_drew)); exact HO220.out)⟩, ⟨by repeat (first | (with_reducible first | exact HB.out | apply below_alloc | apply pw_below_drewN | apply below_drew1) | exact HB.out)⟩⟩
   case round =>
    clear H'
    try clear p2
    try clear c3
    try clear c3b0
    try clear c3b1
    try clear c4
    try clear c4b0
    try clear c4b1
    obtain ⟨x5_1, x6_1, HA, HK1, HO_5, HO_6, HB⟩ := hrel
    cases gk with
    | zero => exact absurd HA.out (by simp [butlerref11_reached.l0])
    | succ k1 =>
     have H := HA.out
     clear HA
     simp only [butlerref11_reached.l0] at H
     by_cases c9 : (x6_1.length : Int) > 0
     ·rw [if_pos c9] at H
      have c9b0 : decide (0 < (x6_1.length : Int)) = true := decide_eq_true c9
      have c9b1 : decide (0 < x6_1.length) = true := decide_eq_true (by omega)
      clear c9
      by_cases c10 : 0 < (x6_1.length : Int)
      ·rw [if_pos c10] at H
       have c10b0 : decide (0 < (x6_1.length : Int)) = true := decide_eq_true c10
       have c10b1 : decide (0 < x6_1.length) = true := decide_eq_true (by omega)
       clear c10
       by_cases c11 : 1 ≤ (x6_1.length : Int)
       ·rw [if_pos c11] at H
        have c11b0 := eq_true c11
        have c11b1 : decide (1 ≤ (x6_1.length : Int)) = true := decide_eq_true c11
        clear c11
        obtain ⟨y222, hy222⟩ : ∃ y_ : List Int, y_ = (x6_1.drop (1 : Int).toNat) := ⟨_, rfl⟩
        replace H : (butlerref11_reached.l1 k1 l0 x5_1 y222 (rd x6_1 0) 0) = some r := by first | (rw [hy222]; with_reducible exact H) | (have H2_ := (Option.bind_some _ _).symm.trans H; rw [hy222]; with_reducible exact H2_) | (have H2_ := (Option.bind_some _ _).symm.trans H; with_reducible exact H2_) | with_reducible exact H | (rw [hy222]; exact H) | exact H
        have Ny222 := Aside0.mk hy222
        clear hy222
        have H' := Aside0.mk H
        clear H
        obtain ⟨Ao12, co12, eo12, _⟩ := Kd.Q_slice HO_6.out
        subst eo12
        have p221 : 0 ≤ (0 : Int) := (by omega)
        have q221 : 0 < (x6_1.length : Int) := of_decide_eq_true (by first | (with_reducible assumption) | assumption)
        obtain ⟨ad221, e221, hx221_0⟩ := Kd.at_int (Kd.Q_reads' HO_6.out).2.2 0 p221 q221
        cases e221
        have qi221 : (0 < x6_1.length) = True := eq_true (by omega)
        (try rw [show ((0 : Int)).toNat = 0 from rfl] at hx221_0)
        (try rw [Addr.add_zero'] at hx221_0)
        replace p221 := eq_true p221
        replace q221 := eq_true q221
        have q13 : (1 : Int) ≤ ((x6_1.length : Int) : Int) := of_decide_eq_true (by first | (with_reducible assumption) | assumption)
        obtain ⟨i013, hi013, _, hsz13, _⟩ := info_parts info3
        have hcut13 := cut_from (P := Try.prog) 26 3 .i64 Try.underlying26 hi013 1 hsz13 (some ad221) x6_1.length co12 1 (by omega) q13
        have hr13 := Kd.Q_drop (k := (1 : Int).toNat) HO_6.out (by omega)
        obtain ⟨A13, hA13⟩ : ∃ A1, A1 = (if co12 = (1 : Int).toNat then (some ad221) else ((some ad221) : Option Addr).map (·.add ((1 : Int).toNat * 1))) := ⟨_, rfl⟩
        obtain ⟨c13, hc13⟩ : ∃ c1, c1 = co12 - (1 : Int).toNat := ⟨_, rfl⟩
        have hy13 : y222.length = x6_1.length - (1 : Int).toNat := (by rw [Ny222.out, List.length_drop])
        rw [← Ny222.out] at hr13
        rw [← hy13, ← hA13, ← hc13] at hcut13
        replace hr13 : Kd.Q (Kd.int .i64) 3 wr w.heap.size (fun _ => True) (.slice A13 y222.length c13) y222 := (by rw [hA13, hc13, hy13]; exact hr13)
        have HE13 : Aside0 ((Value.slice A13 y222.length c13).ownBlock = (.slice (some ad221) x6_1.length co12 : Value).ownBlock) := ⟨by rw [hA13]; split <;> (cases ((some ad221) : Option Addr) <;> rfl)⟩
        clear hy13 hi013 hsz13 HO_6 hA13 hc13
        have HO224 := Aside0.mk hr13
        clear hr13
        replace q13 := eq_true q13
        go_wp2
        go_loopg [6, 8] k1 (fun kq v6 v8 w' => ∃ (x5_2 : List Bool) (x6_2 : List Int) (x8_2 : Int), v8 = .int .i64 x8_2 ∧ Aside0 (butlerref11_reached.l1 kq l0 x5_2 x6_2 (rd x6_1 0) x8_2 = some r) ∧ Aside0 (kq ≤ k1) ∧ Aside0 (Kd.R Kd.bool 4 w' w.heap.size (fun _ => True) v216 x5_2) ∧ Aside0 (Kd.Q (Kd.int .i64) 3 w' w.heap.size (fun _ => True) v6 x6_2) ∧ Aside0 (Below w.heap.size w w'))
        case atStart => exact ⟨(x5_1), (y222), (0), (by first | rfl | (simp; done) | (simp [*]; done)), H', ⟨Nat.le_refl _⟩, ⟨by (with_reducible repeat (first | apply Kd.R_alloc | apply Kd.R_drewN | apply Kd.R_drew)); exact HO_5.out⟩, ⟨by (with_reducible repeat (first | apply Kd.Q_alloc | apply Kd.Q_drewN | apply Kd.Q_drew)); exact HO224.out⟩, ⟨by repeat (first | (with_reducible first | exact HB.out | apply below_alloc | apply pw_below_drewN | apply below_drew1) | exact HB.out)⟩⟩
        case round =>
         clear H'
         try clear c1
         try clear q1
         try clear p2
         try clear q2
         try clear hx2
         try clear qi2
         try clear c3
         try clear c3b0
         try clear c3b1
         try clear c4
         try clear c4b0
         try clear c4b1
         try clear c9
         try clear c9b0
         try clear c9b1
         try clear c10
         try clear c10b0
         try clear c10b1
         try clear c11
         try clear c11b0
         try clear c11b1
         try clear c13
         try clear q13
         try clear hx221_0
         try clear p2
         try clear p221
         try clear q13
         try clear q221
         obtain ⟨x5_2, x6_2, x8_2, rfl, HA, HK2, HO_5, HO_6, HB⟩ := hrel
         cases gk with
         | zero => exact absurd HA.out (by simp [butlerref11_reached.l1])
         | succ k2 =>
          have H := HA.out
          clear HA
          simp only [butlerref11_reached.l1] at H
          by_cases c14 : 0 ≤ (rd x6_1 0)
          ·rw [if_pos c14] at H
           have c14b0 : decide (0 ≤ (rd x6_1 0)) = true := decide_eq_true c14
           clear c14
           by_cases c15 : (rd x6_1 0) < (l0.length : Int)
           ·rw [if_pos c15] at H
            have c15b0 : decide ((rd x6_1 0) < (l0.length : Int)) = true := decide_eq_true c15
            clear c15
            by_cases c16 : x8_2 < (((rd_T43 l0 (rd x6_1 0)).f0).length : Int)
            ·rw [if_pos c16] at H
             have c16b0 : decide (x8_2 < (((rd_T43 l0 (rd x6_1 0)).f0).length : Int)) = true := decide_eq_true c16
             clear c16
             by_cases c17 : 0 ≤ x8_2
             ·rw [if_pos c17] at H
              have c17b0 : decide (0 ≤ x8_2) = true := decide_eq_true c17
              clear c17
              by_cases c18 : 0 ≤ (rd ((rd_T43 l0 (rd x6_1 0)).f0) x8_2)
              ·rw [if_pos c18] at H
               have c18b0 : decide (0 ≤ (rd ((rd_T43 l0 (rd x6_1 0)).f0) x8_2)) = true := decide_eq_true c18
               clear c18
               by_cases c19 : (rd ((rd_T43 l0 (rd x6_1 0)).f0) x8_2) < (x5_2.length : Int)
               ·rw [if_pos c19] at H
                have c19b0 : decide ((rd ((rd_T43 l0 (rd x6_1 0)).f0) x8_2) < (x5_2.length : Int)) = true := decide_eq_true c19
                clear c19
                obtain ⟨bq20, hbq20⟩ : ∃ b_ : Bool, b_ = (rdOf false x5_2 (rd ((rd_T43 l0 (rd x6_1 0)).f0) x8_2)) := ⟨_, rfl⟩
                replace H : (if (bq20 = true) then (butlerref11_reached.l1 k2 l0 x5_2 x6_2 (rd x6_1 0) (wrap64 (x8_2 + 1))) else (if x6_2.length < 17592186044416 then (butlerref11_reached.l1 k2 l0 (x5_2.set ((rd ((rd_T43 l0 (rd x6_1 0)).f0) x8_2) : Int).toNat true) (x6_2 ++ [rd ((rd_T43 l0 (rd x6_1 0)).f0) x8_2]) (rd x6_1 0) (wrap64 (x8_2 + 1))) else (none))) = some r := by rw [← hbq20] at H; exact H
                have Nbq20 := Aside0.mk hbq20
                clear hbq20
                by_cases c21 : (bq20 = true)
                ·subst c21
                 have H1 : (butlerref11_reached.l1 k2 l0 x5_2 x6_2 (rd x6_1 0) (wrap64 (x8_2 + 1))) = some r := by rw [if_pos rfl] at H; exact H
                 clear H
                 have H := H1
                 clear H1
                 have H' := Aside0.mk H
                 clear H
                 have p225 : 0 ≤ ((rd x6_1 0) : Int) := of_decide_eq_true (by first | (with_reducible assumption) | assumption)
                 have q225 : (rd x6_1 0) < (l0.length : Int) := of_decide_eq_true (by first | (with_reducible assumption) | assumption)
                 obtain ⟨ad225, A225_0, c225_0, e225, hx225_0, hx225_1, hx225_2, hx225_3, hx225_4, hl225_0, hi225_0⟩ := at_T43 HR0.out (rd x6_1 0) p225 q225
                 cases e225
                 replace hx225_0 := (HB.out.cell (World.block_lt_of_cell? w _ hx225_0)).trans hx225_0
                 replace hx225_1 := (HB.out.cell (World.block_lt_of_cell? w _ hx225_1)).trans hx225_1
                 replace hx225_2 := (HB.out.cell (World.block_lt_of_cell? w _ hx225_2)).trans hx225_2
                 replace hx225_3 := (HB.out.cell (World.block_lt_of_cell? w _ hx225_3)).trans hx225_3
                 replace hx225_4 := (HB.out.cell (World.block_lt_of_cell? w _ hx225_4)).trans hx225_4
                 have HR225_0 := Aside0.mk hi225_0
                 have HC225_0 := Aside0.mk hl225_0
                 clear hi225_0 hl225_0
                 replace p225 := eq_true p225
                 replace q225 := eq_true q225
                 have p226 : 0 ≤ ((rd x6_1 0) : Int) := of_decide_eq_true (by first | (with_reducible assumption) | assumption)
                 have q226 : (rd x6_1 0) < (l0.length : Int) := of_decide_eq_true (by first | (with_reducible assumption) | assumption)
                 obtain ⟨ad226, A226_0, c226_0, e226, hx226_0, hx226_1, hx226_2, hx226_3, hx226_4, hl226_0, hi226_0⟩ := at_T43 HR0.out (rd x6_1 0) p226 q226
                 obtain rfl : ad225 = ad226 := (by injection e226)
                 replace hx226_0 := (HB.out.cell (World.block_lt_of_cell? w _ hx226_0)).trans hx226_0
                 replace hx226_1 := (HB.out.cell (World.block_lt_of_cell? w _ hx226_1)).trans hx226_1
                 replace hx226_2 := (HB.out.cell (World.block_lt_of_cell? w _ hx226_2)).trans hx226_2
                 replace hx226_3 := (HB.out.cell (World.block_lt_of_cell? w _ hx226_3)).trans hx226_3
                 replace hx226_4 := (HB.out.cell (World.block_lt_of_cell? w _ hx226_4)).trans hx226_4
                 have HR226_0 := Aside0.mk hi226_0
                 have HC226_0 := Aside0.mk hl226_0
                 clear hi226_0 hl226_0
                 replace p226 := eq_true p226
                 replace q226 := eq_true q226
                 have ea_ := Option.some.inj (hx225_0.symm.trans hx226_0)
                 injection ea_ with ea_ en_ ec_
                 subst ea_
                 subst ec_
                 clear en_
                 have p227 : 0 ≤ (x8_2 : Int) := of_decide_eq_true (by first | (with_reducible assumption) | assumption)
                 have q227 : x8_2 < (((rd_T43 l0 (rd x6_1 0)).f0).length : Int) := of_decide_eq_true (by first | (with_reducible assumption) | assumption)
                 obtain ⟨ad227, e227, hx227_0⟩ := Kd.at_int HR226_0.out x8_2 p227 q227
                 cases e227
                 replace hx227_0 := (HB.out.cell (World.block_lt_of_cell? w _ hx227_0)).trans hx227_0
                 replace p227 := eq_true p227
                 replace q227 := eq_true q227
                 obtain ⟨Ao22, co22, eo22⟩ := Kd.R_slice HO_5.out
                 subst eo22
                 have p228 : 0 ≤ ((rd ((rd_T43 l0 (rd x6_1 0)).f0) x8_2) : Int) := of_decide_eq_true (by first | (with_reducible assumption) | assumption)
                 have q228 : (rd ((rd_T43 l0 (rd x6_1 0)).f0) x8_2) < (x5_2.length : Int) := of_decide_eq_true (by first | (with_reducible assumption) | assumption)
                 obtain ⟨ad228, e228, hx228_0⟩ := Kd.at_bool (Kd.R_reads' HO_5.out).2.2 (rd ((rd_T43 l0 (rd x6_1 0)).f0) x8_2) p228 q228
                 (try rw [← Nbq20.out] at hx228_0)
                 cases e228
                 replace p228 := eq_true p228
                 replace q228 := eq_true q228
                 go_wp2
                 go_roundg k2
                 case measure => have := HK1.out; have := HK2.out; omega
                 case rel => exact ⟨(x5_2), (x6_2), (wrap64 (x8_2 + 1)), (by first | rfl | (simp; done) | (simp [*]; done)), H', ⟨by have := HK1.out; have := HK2.out; omega⟩, ⟨by (with_reducible repeat (first | apply Kd.R_alloc | apply Kd.R_drewN | apply Kd.R_drew)); exact HO_5.out⟩, ⟨by (with_reducible repeat (first | apply Kd.Q_alloc | apply Kd.Q_drewN | apply Kd.Q_drew)); exact HO_6.out⟩, ⟨by repeat (first | (with_reducible first | exact HB.out | apply below_alloc | apply pw_below_drewN | apply below_drew1) | exact HB.out)⟩⟩
                ·replace c21 := Bool.eq_false_iff.mpr c21
                 subst c21
                 have H1 : (if x6_2.length < 17592186044416 then (butlerref11_reached.l1 k2 l0 (x5_2.set ((rd ((rd_T43 l0 (rd x6_1 0)).f0) x8_2) : Int).toNat true) (x6_2 ++ [rd ((rd_T43 l0 (rd x6_1 0)).f0) x8_2]) (rd x6_1 0) (wrap64 (x8_2 + 1))) else (none)) = some r := by rw [if_neg (show ¬ (false = true) by decide)] at H; exact H
                 clear H
                 have H := H1
                 clear H1
                 obtain ⟨y229, hy229⟩ : ∃ y_ : List Bool, y_ = (x5_2.set ((rd ((rd_T43 l0 (rd x6_1 0)).f0) x8_2) : Int).toNat true) := ⟨_, rfl⟩
                 replace H : (if x6_2.length < 17592186044416 then (butlerref11_reached.l1 k2 l0 y229 (x6_2 ++ [rd ((rd_T43 l0 (rd x6_1 0)).f0) x8_2]) (rd x6_1 0) (wrap64 (x8_2 + 1))) else (none)) = some r := by first | (rw [hy229]; with_reducible exact H) | (have H2_ := (Option.bind_some _ _).symm.trans H; rw [hy229]; with_reducible exact H2_) | (have H2_ := (Option.bind_some _ _).symm.trans H; with_reducible exact H2_) | with_reducible exact H | (rw [hy229]; exact H) | exact H
                 have Ny229 := Aside0.mk hy229
                 clear hy229
                 by_cases c24 : x6_2.length < 17592186044416
                 ·rw [if_pos c24] at H
                  have LMc24 := Aside0.mk c24
                  clear c24
                  obtain ⟨y230, hy230⟩ : ∃ y_ : List Int, y_ = (x6_2 ++ [rd ((rd_T43 l0 (rd x6_1 0)).f0) x8_2]) := ⟨_, rfl⟩
                  replace H : (butlerref11_reached.l1 k2 l0 y229 y230 (rd x6_1 0) (wrap64 (x8_2 + 1))) = some r := by first | (rw [hy230]; with_reducible exact H) | (have H2_ := (Option.bind_some _ _).symm.trans H; rw [hy230]; with_reducible exact H2_) | (have H2_ := (Option.bind_some _ _).symm.trans H; with_reducible exact H2_) | with_reducible exact H | (rw [hy230]; exact H) | exact H
                  have Ny230 := Aside0.mk hy230
                  clear hy230
                  have H' := Aside0.mk H
                  clear H
                  have p225 : 0 ≤ ((rd x6_1 0) : Int) := of_decide_eq_true (by first | (with_reducible assumption) | assumption)
                  have q225 : (rd x6_1 0) < (l0.length : Int) := of_decide_eq_true (by first | (with_reducible assumption) | assumption)
                  obtain ⟨ad225, A225_0, c225_0, e225, hx225_0, hx225_1, hx225_2, hx225_3, hx225_4, hl225_0, hi225_0⟩ := at_T43 HR0.out (rd x6_1 0) p225 q225
                  cases e225
                  replace hx225_0 := (HB.out.cell (World.block_lt_of_cell? w _ hx225_0)).trans hx225_0
                  replace hx225_1 := (HB.out.cell (World.block_lt_of_cell? w _ hx225_1)).trans hx225_1
                  replace hx225_2 := (HB.out.cell (World.block_lt_of_cell? w _ hx225_2)).trans hx225_2
                  replace hx225_3 := (HB.out.cell (World.block_lt_of_cell? w _ hx225_3)).trans hx225_3
                  replace hx225_4 := (HB.out.cell (World.block_lt_of_cell? w _ hx225_4)).trans hx225_4
                  have HR225_0 := Aside0.mk hi225_0
                  have HC225_0 := Aside0.mk hl225_0
                  clear hi225_0 hl225_0
                  replace p225 := eq_true p225
                  replace q225 := eq_true q225
                  have p226 : 0 ≤ ((rd x6_1 0) : Int) := of_decide_eq_true (by first | (with_reducible assumption) | assumption)
                  have q226 : (rd x6_1 0) < (l0.length : Int) := of_decide_eq_true (by first | (with_reducible assumption) | assumption)
                  obtain ⟨ad226, A226_0, c226_0, e226, hx226_0, hx226_1, hx226_2, hx226_3, hx226_4, hl226_0, hi226_0⟩ := at_T43 HR0.out (rd x6_1 0) p226 q226
                  obtain rfl : ad225 = ad226 := (by injection e226)
                  replace hx226_0 := (HB.out.cell (World.block_lt_of_cell? w _ hx226_0)).trans hx226_0
                  replace hx226_1 := (HB.out.cell (World.block_lt_of_cell? w _ hx226_1)).trans hx226_1
                  replace hx226_2 := (HB.out.cell (World.block_lt_of_cell? w _ hx226_2)).trans hx226_2
                  replace hx226_3 := (HB.out.cell (World.block_lt_of_cell? w _ hx226_3)).trans hx226_3
                  replace hx226_4 := (HB.out.cell (World.block_lt_of_cell? w _ hx226_4)).trans hx226_4
                  have HR226_0 := Aside0.mk hi226_0
                  have HC226_0 := Aside0.mk hl226_0
                  clear hi226_0 hl226_0
                  replace p226 := eq_true p226
                  replace q226 := eq_true q226
                  have ea_ := Option.some.inj (hx225_0.symm.trans hx226_0)
                  injection ea_ with ea_ en_ ec_
                  subst ea_
                  subst ec_
                  clear en_
                  have p227 : 0 ≤ (x8_2 : Int) := of_decide_eq_true (by first | (with_reducible assumption) | assumption)
                  have q227 : x8_2 < (((rd_T43 l0 (rd x6_1 0)).f0).length : Int) := of_decide_eq_true (by first | (with_reducible assumption) | assumption)
                  obtain ⟨ad227, e227, hx227_0⟩ := Kd.at_int HR226_0.out x8_2 p227 q227
                  cases e227
                  replace hx227_0 := (HB.out.cell (World.block_lt_of_cell? w _ hx227_0)).trans hx227_0
                  replace p227 := eq_true p227
                  replace q227 := eq_true q227
                  obtain ⟨Ao25, co25, eo25⟩ := Kd.R_slice HO_5.out
                  subst eo25
                  have p228 : 0 ≤ ((rd ((rd_T43 l0 (rd x6_1 0)).f0) x8_2) : Int) := of_decide_eq_true (by first | (with_reducible assumption) | assumption)
                  have q228 : (rd ((rd_T43 l0 (rd x6_1 0)).f0) x8_2) < (x5_2.length : Int) := of_decide_eq_true (by first | (with_reducible assumption) | assumption)
                  obtain ⟨ad228, e228, hx228_0⟩ := Kd.at_bool (Kd.R_reads' HO_5.out).2.2 (rd ((rd_T43 l0 (rd x6_1 0)).f0) x8_2) p228 q228
                  (try rw [← Nbq20.out] at hx228_0)
                  cases e228
                  replace p228 := eq_true p228
                  replace q228 := eq_true q228
                  have p23 : 0 ≤ ((rd ((rd_T43 l0 (rd x6_1 0)).f0) x8_2) : Int) := of_decide_eq_true (by first | (with_reducible assumption) | assumption)
                  have q23 : ((rd ((rd_T43 l0 (rd x6_1 0)).f0) x8_2) : Int) < ((x5_2.length : Int) : Int) := of_decide_eq_true (by first | (with_reducible assumption) | assumption)
                  obtain ⟨go23, co23, eo23, gb23, gl23, cl23, HG23⟩ := Kd.R_form HO_5.out (by omega)
                  (first | cases eo23 | (injection eo23 with ea_ en_ ec_; (first | subst ea_ | (injection ea_ with ea_; subst ea_)); subst ec_; clear en_))
                  have GB23 := Aside0.mk gb23
                  have GG23 := Aside0.mk HG23
                  clear gb23 gl23 HG23
                  (first | simp only [add_plain] at hx228_0 | skip)
                  obtain ⟨hx23_0, hf23_0⟩ := Kd.R_celln false HO_5.out ((rd ((rd_T43 l0 (rd x6_1 0)).f0) x8_2) : Int) p23 q23
                  replace p23 := eq_true p23
                  replace q23 := eq_true q23
                  have HP26 := Kd.R_putg HO_5.out ((rd ((rd_T43 l0 (rd x6_1 0)).f0) x8_2) : Int) true
                  go_wp2_with (first | ((with_reducible refine gate_store (t := 4) (p := 48) rfl ?_); refine store_event (t := 4) (p := 48) (v := ?vo_w27) (w1 := (wr.setCell ⟨go23, ((rd ((rd_T43 l0 (rd x6_1 0)).f0) x8_2) : Int).toNat, none⟩ (.bool true))) ?hg ?ho ?hn ?hr ?_; (case ho => rfl); (case hg => rfl); (case hn => rfl); (case hr => first | (go_simp; done) | (go_simp; rfl)); intro w27 hw; have hg : wr.grownBy w27 (some go23) := (by rw [hw]; exact HP26.2); have hp_ : Kd.R Kd.bool 4 w27 w.heap.size (fun _ => True) (.slice (some ⟨go23, 0, none⟩) x5_2.length co25) y229 := (by rw [hw, Ny229.out]; exact HP26.1); clear HP26; have n0_ := Aside0.mk (hp_); have n1_ := Aside0.mk (Kd.Q_over' (v := (.slice (some ⟨go23, 0, none⟩) x5_2.length co25)) (by (with_reducible repeat (first | apply Kd.Q_alloc | apply Kd.Q_drewN | apply Kd.Q_drew)); exact HO_6.out) (Kd.R_typed HO_5.out) (by decide) hg); have n2_ := Aside0.mk ((by rw [hw]; exact below_set (HB.out) GB23.out : Below w.heap.size w w27)); clear HO_5; clear HO_6; clear HB; have HO_5 := n0_; have HO_6 := n1_; have HB := n2_; clear n0_ n1_ n2_; clear hg hw hp_) | ((with_reducible refine gate_builtin (b := .append) (xs := #[.tmp 49, .tmp 51]) rfl ?_); at_builtin; refine Kd.Q_append (Kd.int .i64) (w0 := w) w.heap.size rfl (.tmp 49) (.tmp 51) 26 3 (.int .i64 0) 8 rfl Try.underlying26 info3 rfl (by decide) (by omega) u6 x6_2 (rd ((rd_T43 l0 (rd x6_1 0)).f0) x8_2) [.int .i64 (rd ((rd_T43 l0 (rd x6_1 0)).f0) x8_2)] (fun _ => True) (fun _ => False) rfl rfl ?aP (fun _ hk => hk.elim) ?aF ?aO ?aB ?aS ?aL ?_; (case aP => exact rfl); (case aB => exact (by repeat (first | (with_reducible first | exact HB.out | apply below_alloc | apply pw_below_drewN | apply below_drew1) | exact HB.out))); (case aF => exact (fun _ _ => trivial)); (case aO => exact (by (with_reducible repeat (first | apply Kd.Q_alloc | apply Kd.Q_drewN | apply Kd.Q_drew)); exact HO_6.out)); (case aS => exact (below_size (by repeat (first | (with_reducible first | exact HB.out | apply below_alloc | apply pw_below_drewN | apply below_drew1) | exact HB.out)))); (case aL => have := LMc24.out; omega); intro v231 w28 ho hb hg hat; rw [← Ny230.out] at ho; have n0_ := Aside0.mk (Kd.R_over' (by (with_reducible repeat (first | apply Kd.R_alloc | apply Kd.R_drewN | apply Kd.R_drew)); exact HO_5.out) (Kd.Q_typed (by (with_reducible repeat (first | apply Kd.Q_alloc | apply Kd.Q_drewN | apply Kd.Q_drew)); exact HO_6.out)) (by decide) hg); have n1_ := Aside0.mk (hb); have n2_ := Aside0.mk (ho); clear HO_5; clear HB; clear HO_6; have HO_5 := n0_; have HB := n1_; have HO232 := n2_; clear n0_ n1_ n2_; clear ho hb hg hat))
                  go_roundg k2
                  case measure => have := HK1.out; have := HK2.out; omega
                  case rel => exact ⟨(y229), (y230), (wrap64 (x8_2 + 1)), (by first | rfl | (simp; done) | (simp [*]; done)), H', ⟨by have := HK1.out; have := HK2.out; omega⟩, ⟨by (with_reducible repeat (first | apply Kd.R_alloc | apply Kd.R_drewN | apply Kd.R_drew)); exact HO_5.out⟩, ⟨by (with_reducible repeat (first | apply Kd.Q_alloc | apply Kd.Q_drewN | apply Kd.Q_drew)); exact HO232.out⟩, ⟨by repeat (first | (with_reducible first | exact HB.out | apply below_alloc | apply pw_below_drewN | apply below_drew1) | exact HB.out)⟩⟩
                 ·rw [if_neg c24] at H
                  exact absurd H (by simp)
               ·rw [if_neg c19] at H
                exact absurd H (by simp)
              ·rw [if_neg c18] at H
               exact absurd H (by simp)
             ·rw [if_neg c17] at H
              exact absurd H (by simp)
            ·rw [if_neg c16] at H
             have c16b0 : decide (x8_2 < (((rd_T43 l0 (rd x6_1 0)).f0).length : Int)) = false := decide_eq_false c16
             clear c16
             have H' := Aside0.mk H
             clear H
             have p225 : 0 ≤ ((rd x6_1 0) : Int) := of_decide_eq_true (by first | (with_reducible assumption) | assumption)
             have q225 : (rd x6_1 0) < (l0.length : Int) := of_decide_eq_true (by first | (with_reducible assumption) | assumption)
             obtain ⟨ad225, A225_0, c225_0, e225, hx225_0, hx225_1, hx225_2, hx225_3, hx225_4, hl225_0, hi225_0⟩ := at_T43 HR0.out (rd x6_1 0) p225 q225
             cases e225
             replace hx225_0 := (HB.out.cell (World.block_lt_of_cell? w _ hx225_0)).trans hx225_0
             replace hx225_1 := (HB.out.cell (World.block_lt_of_cell? w _ hx225_1)).trans hx225_1
             replace hx225_2 := (HB.out.cell (World.block_lt_of_cell? w _ hx225_2)).trans hx225_2
             replace hx225_3 := (HB.out.cell (World.block_lt_of_cell? w _ hx225_3)).trans hx225_3
             replace hx225_4 := (HB.out.cell (World.block_lt_of_cell? w _ hx225_4)).trans hx225_4
             have HR225_0 := Aside0.mk hi225_0
             have HC225_0 := Aside0.mk hl225_0
             clear hi225_0 hl225_0
             replace p225 := eq_true p225
             replace q225 := eq_true q225
             go_wp2
             go_roundg k2
             case measure => have := HK1.out; have := HK2.out; omega
             case rel => exact ⟨(x5_2), (x6_2), H', ⟨by have := HK1.out; have := HK2.out; omega⟩, ⟨by (with_reducible repeat (first | apply Kd.R_alloc | apply Kd.R_drewN | apply Kd.R_drew)); exact HO_5.out⟩, ⟨by (with_reducible repeat (first | apply Kd.Q_alloc | apply Kd.Q_drewN | apply Kd.Q_drew)); exact HO_6.out⟩, ⟨by repeat (first | (with_reducible first | exact HB.out | apply below_alloc | apply pw_below_drewN | apply below_drew1) | exact HB.out)⟩⟩
           ·rw [if_neg c15] at H
            exact absurd H (by simp)
          ·rw [if_neg c14] at H
           exact absurd H (by simp)
       ·rw [if_neg c11] at H
        exact absurd H (by simp)
      ·rw [if_neg c10] at H
       exact absurd H (by simp)
     ·rw [if_neg c9] at H
      have c9b0 : decide (0 < (x6_1.length : Int)) = false := decide_eq_false c9
      have c9b1 : decide (0 < x6_1.length) = false := decide_eq_false (by omega)
      clear c9
      obtain rfl := Option.some.inj H
      obtain ⟨Ao29, co29, eo29, _⟩ := Kd.Q_slice HO_6.out
      subst eo29
      go_wp2
      go_ret
      exact ⟨_, by first | rfl | (simp [errW_none, errW_some] <;> rfl) | (simp [*, errW_none, errW_some] <;> rfl), by (with_reducible repeat (first | apply Kd.R_alloc | apply Kd.R_drewN | apply Kd.R_drew)); exact HO_5.out, by repeat (first | (with_reducible first | exact HB.out | apply below_alloc | apply pw_below_drewN | apply below_drew1) | exact HB.out)⟩
  ·rw [if_neg c4] at H
   exact absurd H (by simp)
 ·rw [if_neg c3] at H
  exact absurd H (by simp)

/-! ### butlerref11_Rings: function 19 -/
def butlerref11_Rings.l0 : Nat → List (S43) → List Int → Int → Option (List Int)
 | 0, _, _, _ => none
 | k + 1, x0, x4, x5 => if x5 < (x0.length : Int) then ((butlerref11_reached.f k x0 x5).bind fun t234 => (if 0 ≤ x5 then (if x5 < (t234.length : Int) then (if rdOf false t234 x5 = true then (if x4.length < 17592186044416 then (butlerref11_Rings.l0 k x0 (x4 ++ [x5]) (wrap64 (x5 + 1))) else (none)) else (butlerref11_Rings.l0 k x0 x4 (wrap64 (x5 + 1)))) else (none)) else (none))) else (some x4)
def butlerref11_Rings.f (k : Nat) (l0 : List (S43)) : Option (List Int) := (butlerref11_Right.f k l0).bind fun t233 => (if t233 = 0 then (butlerref11_Rings.l0 k l0 ([] : List Int) 0) else (some ([] : List Int)))
theorem butlerref11_Rings.mono_l : ∀ k, (∀ y0 y1 y2, LeO (butlerref11_Rings.l0 k y0 y1 y2) (butlerref11_Rings.l0 (k + 1) y0 y1 y2))
 | 0 => fun _ _ _ r h => by simp [butlerref11_Rings.l0] at h
 | k + 1 => by
  have ih0 := butlerref11_Rings.mono_l k
  ·intro y0 y1 y2
   unfold butlerref11_Rings.l0
   repeat' first
   | (with_reducible exact ih0 _ _ _)
   | (with_reducible exact butlerref11_Right.mono _ _)
   | (with_reducible exact butlerref11_reached.mono _ _ _)
   | (with_reducible exact LeO.refl _)
   | (with_reducible exact LeO.none _)
   | (with_reducible refine LeO.ite ?_ ?_)
   | (with_reducible refine LeO.bind ?_ (fun _ => ?_))
   | exact ih0 _ _ _
   | exact butlerref11_Right.mono _ _
   | exact butlerref11_reached.mono _ _ _
   | exact LeO.none _
   | refine LeO.ite ?_ ?_
   | refine LeO.bind ?_ (fun _ => ?_)
theorem butlerref11_Rings.mono : ∀ a0 k, LeO (butlerref11_Rings.f k a0) (butlerref11_Rings.f (k + 1) a0) := by
 intro a0 k
 have ih0 := butlerref11_Rings.mono_l k
 unfold butlerref11_Rings.f
 repeat' first
   | (with_reducible exact ih0 _ _ _)
   | (with_reducible exact butlerref11_Right.mono _ _)
   | (with_reducible exact butlerref11_reached.mono _ _ _)
   | (with_reducible exact LeO.refl _)
   | (with_reducible exact LeO.none _)
   | (with_reducible refine LeO.ite ?_ ?_)
   | (with_reducible refine LeO.bind ?_ (fun _ => ?_))
   | exact ih0 _ _ _
   | exact butlerref11_Right.mono _ _
   | exact butlerref11_reached.mono _ _ _
   | exact LeO.none _
   | refine LeO.ite ?_ ?_
   | refine LeO.bind ?_ (fun _ => ?_)
set_option maxHeartbeats 8000000 in
set_option maxRecDepth 100000 in
theorem butlerref11_Rings.calls (k : Nat) (A0 : Option Addr) (c0 : Nat) (l0 : List (S43)) (r : List Int) (w : World) (hr0 : Kd.C k43 w A0 l0.length l0) (hc0 : l0.length ≤ c0) (h : butlerref11_Rings.f k l0 = some r) :
  Calls Try.prog 19 #[.slice A0 l0.length c0] w fun e w' => ∃ v0_ : Value, e = .returned (v0_) ∧ Kd.R (Kd.int .i64) 3 w' w.heap.size (fun _ => True) v0_ r ∧ Below w.heap.size w w' := by
 have HR0 := Aside0.mk hr0
 have HC0 := Aside0.mk hc0
 clear hr0 hc0
 have HB := Aside0.mk (Below.refl w.heap.size w)
 have H : ((butlerref11_Right.f k l0).bind fun t233 => (if t233 = 0 then (butlerref11_Rings.l0 k l0 ([] : List Int) 0) else (some ([] : List Int)))) = some r := h
 clear h
 replace H := Option.bind_eq_some_iff.mp H
 obtain ⟨t233, A20, H⟩ := H
 replace H : (if t233 = 0 then (butlerref11_Rings.l0 k l0 ([] : List Int) 0) else (some ([] : List Int))) = some r := H
 have A2 := Aside0.mk A20
 clear A20
 by_cases c3 : t233 = 0
 ·rw [if_pos c3] at H
  have c3b0 : (t233 == 0) = true := beq_iff_eq.mpr c3
  have c3b1 : (t233 != 0) = false := bne_eq_false_iff_eq.mpr c3
  clear c3
  have H' := Aside0.mk H
  clear H
  go_enter Try.func19, Try.ntmps19
  go_wp2_with (first | ((with_reducible refine gate_callee (f := 18) rfl ?_); refine goesL_ (some 8) rfl rfl Try.func18 (by kernel_rfl) rfl #[.slice A0 l0.length c0] rfl (by (try simp only [List.map_toArray, List.map_cons, List.map_nil]); first | done | rfl | (simp only [List.length_drop, List.length_take]; rfl)) ?_; (with_reducible refine (butlerref11_Right.calls k _ _ l0 t233 _ ?side1 ?side2 A2.out).mono ?_); (case side1 => repeat (first | exact HR0.out | (with_reducible refine Kd.C_alloc ?_ _) | (with_reducible refine Kd.C_drewN ?_ _) | (with_reducible refine Kd.C_drew ?_))); (case side2 => exact HC0.out); rintro e w4 ⟨rfl, hb⟩; refine ⟨_, rfl, ?_⟩; have n0_ := Aside0.mk (below_step (by repeat (first | (with_reducible first | exact HB.out | apply below_alloc | apply pw_below_drewN | apply below_drew1) | exact HB.out)) hb); clear HB; have HB := n0_; clear n0_; (try clear hb); (try clear hb2); (try clear hk); (try clear hi)))
  go_loopg [4, 5] k (fun kq v4 v5 w' => ∃ (x4_1 : List Int) (x5_1 : Int), v5 = .int .i64 x5_1 ∧ Aside0 (butlerref11_Rings.l0 kq l0 x4_1 x5_1 = some r) ∧ Aside0 (kq ≤ k) ∧ Aside0 (Kd.R (Kd.int .i64) 3 w' w.heap.size (fun _ => True) v4 x4_1) ∧ Aside0 (Below w.heap.size w w'))
  case atStart => exact ⟨(([] : List Int)), (0), (by first | rfl | (simp; done) | (simp [*]; done)), H', ⟨Nat.le_refl _⟩, ⟨by first | exact Kd.R_nil _ _ _ _ _ | exact Kd.N_nil _ _ _ _ _ | exact Kd.V_nil _ _ _ _ _ | exact Kd.Q_nil _ _ _ _ _ | exact Kd.S_nil _ _ _ _ _⟩, ⟨by repeat (first | (with_reducible first | exact HB.out | apply below_alloc | apply pw_below_drewN | apply below_drew1) | exact HB.out)⟩⟩
  case round =>
   clear H'
   try clear c1
   try clear p2
   try clear c3
   try clear c3b0
   try clear c3b1
   obtain ⟨x4_1, x5_1, rfl, HA, HK1, HO_4, HB⟩ := hrel
   cases gk with
   | zero => exact absurd HA.out (by simp [butlerref11_Rings.l0])
   | succ k1 =>
    have H := HA.out
    clear HA
    simp only [butlerref11_Rings.l0] at H
    by_cases c5 : x5_1 < (l0.length : Int)
    ·rw [if_pos c5] at H
     have c5b0 : decide (x5_1 < (l0.length : Int)) = true := decide_eq_true c5
     clear c5
     replace H := Option.bind_eq_some_iff.mp H
     obtain ⟨t234, A60, H⟩ := H
     replace H : (if 0 ≤ x5_1 then (if x5_1 < (t234.length : Int) then (if rdOf false t234 x5_1 = true then (if x4_1.length < 17592186044416 then (butlerref11_Rings.l0 k1 l0 (x4_1 ++ [x5_1]) (wrap64 (x5_1 + 1))) else (none)) else (butlerref11_Rings.l0 k1 l0 x4_1 (wrap64 (x5_1 + 1)))) else (none)) else (none)) = some r := H
     have A6 := Aside0.mk A60
     clear A60
     by_cases c7 : 0 ≤ x5_1
     ·rw [if_pos c7] at H
      have c7b0 : decide (0 ≤ x5_1) = true := decide_eq_true c7
      clear c7
      by_cases c8 : x5_1 < (t234.length : Int)
      ·rw [if_pos c8] at H
       have c8b0 : decide (x5_1 < (t234.length : Int)) = true := decide_eq_true c8
       clear c8
       obtain ⟨bq9, hbq9⟩ : ∃ b_ : Bool, b_ = (rdOf false t234 x5_1) := ⟨_, rfl⟩
       replace H : (if bq9 = true then (if x4_1.length < 17592186044416 then (butlerref11_Rings.l0 k1 l0 (x4_1 ++ [x5_1]) (wrap64 (x5_1 + 1))) else (none)) else (butlerref11_Rings.l0 k1 l0 x4_1 (wrap64 (x5_1 + 1)))) = some r := by rw [← hbq9] at H; exact H
       have Nbq9 := Aside0.mk hbq9
       clear hbq9
       by_cases c10 : bq9 = true
       ·subst c10
        have H1 : (if x4_1.length < 17592186044416 then (butlerref11_Rings.l0 k1 l0 (x4_1 ++ [x5_1]) (wrap64 (x5_1 + 1))) else (none)) = some r := by rw [if_pos rfl] at H; exact H
        clear H
        have H := H1
        clear H1
        by_cases c11 : x4_1.length < 17592186044416
        ·rw [if_pos c11] at H
         have LMc11 := Aside0.mk c11
         clear c11
         obtain ⟨y238, hy238⟩ : ∃ y_ : List Int, y_ = (x4_1 ++ [x5_1]) := ⟨_, rfl⟩
         replace H : (butlerref11_Rings.l0 k1 l0 y238 (wrap64 (x5_1 + 1))) = some r := by first | (rw [hy238]; with_reducible exact H) | (have H2_ := (Option.bind_some _ _).symm.trans H; rw [hy238]; with_reducible exact H2_) | (have H2_ := (Option.bind_some _ _).symm.trans H; with_reducible exact H2_) | with_reducible exact H | (rw [hy238]; exact H) | exact H
         have Ny238 := Aside0.mk hy238
         clear hy238
         have H' := Aside0.mk H
         clear H
         go_wp2_with (first | ((with_reducible refine gate_callee (f := 31) rfl ?_); refine goesL_ (some 19) rfl rfl Try.func31 (by kernel_rfl) rfl #[.slice A0 l0.length c0, .int .i64 x5_1] rfl (by (try simp only [List.map_toArray, List.map_cons, List.map_nil]); first | done | rfl | (simp only [List.length_drop, List.length_take]; rfl)) ?_; (with_reducible refine (butlerref11_reached.calls k1 _ _ l0 x5_1 t234 _ ?side1 ?side2 A6.out).mono ?_); (case side1 => repeat (first | exact (Kd.C_below HR0.out HB.out) | (with_reducible refine Kd.C_alloc ?_ _) | (with_reducible refine Kd.C_drewN ?_ _) | (with_reducible refine Kd.C_drew ?_))); (case side2 => exact HC0.out); rintro e w12 ⟨v235, rfl, ho0, hb⟩; refine ⟨_, rfl, ?_⟩; have n0_ := Aside0.mk (Kd.R_below (by (with_reducible repeat (first | apply Kd.R_alloc | apply Kd.R_drewN | apply Kd.R_drew)); exact HO_4.out) hb); have n1_ := Aside0.mk (Kd.R_lower ho0 (below_size (by repeat (first | (with_reducible first | exact HB.out | apply below_alloc | apply pw_below_drewN | apply below_drew1) | exact HB.out)))); have n2_ := Aside0.mk (below_step (by repeat (first | (with_reducible first | exact HB.out | apply below_alloc | apply pw_below_drewN | apply below_drew1) | exact HB.out)) hb); clear HO_4; clear HB; have HO_4 := n0_; have HO236 := n1_; have HB := n2_; clear n0_ n1_ n2_; (try clear hb); (try clear hb2); (try clear hk); (try clear hi); (try clear ho0); obtain ⟨Ao13, co13, eo13⟩ := Kd.R_slice HO236.out; subst eo13; have p237 : 0 ≤ (x5_1 : Int) := of_decide_eq_true (by first | (with_reducible assumption) | assumption); have q237 : x5_1 < (t234.length : Int) := of_decide_eq_true (by first | (with_reducible assumption) | assumption); obtain ⟨ad237, e237, hx237_0⟩ := Kd.at_bool (Kd.R_reads' HO236.out).2.2 x5_1 p237 q237; (try rw [← Nbq9.out] at hx237_0); cases e237; replace p237 := eq_true p237; replace q237 := eq_true q237) | ((with_reducible refine gate_builtin (b := .append) (xs := #[.tmp 24, .tmp 26]) rfl ?_); at_builtin; refine Kd.R_append (Kd.int .i64) (w0 := w) w.heap.size rfl (.tmp 24) (.tmp 26) 26 3 (.int .i64 0) 8 rfl Try.underlying26 info3 rfl (by decide) (by omega) u4 x4_1 x5_1 [.int .i64 x5_1] (fun _ => True) (fun _ => False) rfl rfl ?aP (fun _ hk => hk.elim) ?aF ?aO ?aB ?aS ?aL ?_; (case aP => exact rfl); (case aB => exact (by repeat (first | (with_reducible first | exact HB.out | apply below_alloc | apply pw_below_drewN | apply below_drew1) | exact HB.out))); (case aF => exact (fun _ _ => trivial)); (case aO => exact (by (with_reducible repeat (first | apply Kd.R_alloc | apply Kd.R_drewN | apply Kd.R_drew)); exact HO_4.out)); (case aS => exact (below_size (by repeat (first | (with_reducible first | exact HB.out | apply below_alloc | apply pw_below_drewN | apply below_drew1) | exact HB.out)))); (case aL => have := LMc11.out; omega); intro v239 w14 ho hb hg hat; rw [← Ny238.out] at ho; have n0_ := Aside0.mk (Kd.R_over' (by (with_reducible repeat (first | apply Kd.R_alloc | apply Kd.R_drewN | apply Kd.R_drew)); exact HO236.out) (Kd.R_typed (by (with_reducible repeat (first | apply Kd.R_alloc | apply Kd.R_drewN | apply Kd.R_drew)); exact HO_4.out)) (by decide) hg); have n1_ := Aside0.mk (hb); have n2_ := Aside0.mk (ho); clear HO236; clear HB; clear HO_4; have HO236 := n0_; have HB := n1_; have HO240 := n2_; clear n0_ n1_ n2_; clear ho hb hg hat))
         go_roundg k1
         case measure => have := HK1.out; omega
         case rel => exact ⟨(y238), (wrap64 (x5_1 + 1)), (by first | rfl | (simp; done) | (simp [*]; done)), H', ⟨by have := HK1.out; omega⟩, ⟨by (with_reducible repeat (first | apply Kd.R_alloc | apply Kd.R_drewN | apply Kd.R_drew)); exact HO240.out⟩, ⟨by repeat (first | (with_reducible first | exact HB.out | apply below_alloc | apply pw_below_drewN | apply below_drew1) | exact HB.out)⟩⟩
        ·rw [if_neg c11] at H
         exact absurd H (by simp)
       ·replace c10 := Bool.eq_false_iff.mpr c10
        subst c10
        have H1 : (butlerref11_Rings.l0 k1 l0 x4_1 (wrap64 (x5_1 + 1))) = some r := by rw [if_neg (show ¬ (false = true) by decide)] at H; exact H
        clear H
        have H := H1
        clear H1
        have H' := Aside0.mk H
        clear H
        go_wp2_with (first | ((with_reducible refine gate_callee (f := 31) rfl ?_); refine goesL_ (some 19) rfl rfl Try.func31 (by kernel_rfl) rfl #[.slice A0 l0.length c0, .int .i64 x5_1] rfl (by (try simp only [List.map_toArray, List.map_cons, List.map_nil]); first | done | rfl | (simp only [List.length_drop, List.length_take]; rfl)) ?_; (with_reducible refine (butlerref11_reached.calls k1 _ _ l0 x5_1 t234 _ ?side1 ?side2 A6.out).mono ?_); (case side1 => repeat (first | exact (Kd.C_below HR0.out HB.out) | (with_reducible refine Kd.C_alloc ?_ _) | (with_reducible refine Kd.C_drewN ?_ _) | (with_reducible refine Kd.C_drew ?_))); (case side2 => exact HC0.out); rintro e w15 ⟨v235, rfl, ho0, hb⟩; refine ⟨_, rfl, ?_⟩; have n0_ := Aside0.mk (Kd.R_below (by (with_reducible repeat (first | apply Kd.R_alloc | apply Kd.R_drewN | apply Kd.R_drew)); exact HO_4.out) hb); have n1_ := Aside0.mk (Kd.R_lower ho0 (below_size (by repeat (first | (with_reducible first | exact HB.out | apply below_alloc | apply pw_below_drewN | apply below_drew1) | exact HB.out)))); have n2_ := Aside0.mk (below_step (by repeat (first | (with_reducible first | exact HB.out | apply below_alloc | apply pw_below_drewN | apply below_drew1) | exact HB.out)) hb); clear HO_4; clear HB; have HO_4 := n0_; have HO236 := n1_; have HB := n2_; clear n0_ n1_ n2_; (try clear hb); (try clear hb2); (try clear hk); (try clear hi); (try clear ho0); obtain ⟨Ao16, co16, eo16⟩ := Kd.R_slice HO236.out; subst eo16; have p237 : 0 ≤ (x5_1 : Int) := of_decide_eq_true (by first | (with_reducible assumption) | assumption); have q237 : x5_1 < (t234.length : Int) := of_decide_eq_true (by first | (with_reducible assumption) | assumption); obtain ⟨ad237, e237, hx237_0⟩ := Kd.at_bool (Kd.R_reads' HO236.out).2.2 x5_1 p237 q237; (try rw [← Nbq9.out] at hx237_0); cases e237; replace p237 := eq_true p237; replace q237 := eq_true q237))
        go_roundg k1
        case measure => have := HK1.out; omega
        case rel => exact ⟨(x4_1), (wrap64 (x5_1 + 1)), (by first | rfl | (simp; done) | (simp [*]; done)), H', ⟨by have := HK1.out; omega⟩, ⟨by (with_reducible repeat (first | apply Kd.R_alloc | apply Kd.R_drewN | apply Kd.R_drew)); exact HO_4.out⟩, ⟨by repeat (first | (with_reducible first | exact HB.out | apply below_alloc | apply pw_below_drewN | apply below_drew1) | exact HB.out)⟩⟩
      ·rw [if_neg c8] at H
       exact absurd H (by simp)
     ·rw [if_neg c7] at H
      exact absurd H (by simp)
    ·rw [if_neg c5] at H
     have c5b0 : decide (x5_1 < (l0.length : Int)) = false := decide_eq_false c5
     clear c5
     obtain rfl := Option.some.inj H
     go_wp2
     go_ret
     exact ⟨_, by first | rfl | (simp [errW_none, errW_some] <;> rfl) | (simp [*, errW_none, errW_some] <;> rfl), by (with_reducible repeat (first | apply Kd.R_alloc | apply Kd.R_drewN | apply Kd.R_drew)); exact HO_4.out, by repeat (first | (with_reducible first | exact HB.out | apply below_alloc | apply pw_below_drewN | apply below_drew1) | exact HB.out)⟩
 ·rw [if_neg c3] at H
  have c3b0 : (t233 == 0) = false := beq_eq_false_iff_ne.mpr c3
  have c3b1 : (t233 != 0) = true := bne_iff_ne.mpr c3
  obtain rfl := Option.some.inj H
  go_enter Try.func19, Try.ntmps19
  go_wp2_with (first | ((with_reducible refine gate_callee (f := 18) rfl ?_); refine goesL_ (some 8) rfl rfl Try.func18 (by kernel_rfl) rfl #[.slice A0 l0.length c0] rfl (by (try simp only [List.map_toArray, List.map_cons, List.map_nil]); first | done | rfl | (simp only [List.length_drop, List.length_take]; rfl)) ?_; (with_reducible refine (butlerref11_Right.calls k _ _ l0 t233 _ ?side1 ?side2 A2.out).mono ?_); (case side1 => repeat (first | exact HR0.out | (with_reducible refine Kd.C_alloc ?_ _) | (with_reducible refine Kd.C_drewN ?_ _) | (with_reducible refine Kd.C_drew ?_))); (case side2 => exact HC0.out); rintro e w17 ⟨rfl, hb⟩; refine ⟨_, rfl, ?_⟩; have n0_ := Aside0.mk (below_step (by repeat (first | (with_reducible first | exact HB.out | apply below_alloc | apply pw_below_drewN | apply below_drew1) | exact HB.out)) hb); clear HB; have HB := n0_; clear n0_; (try clear hb); (try clear hb2); (try clear hk); (try clear hi)))
  go_ret
  exact ⟨_, by first | rfl | (simp [errW_none, errW_some] <;> rfl) | (simp [*, errW_none, errW_some] <;> rfl), by first | exact Kd.R_nil _ _ _ _ _ | exact Kd.N_nil _ _ _ _ _ | exact Kd.V_nil _ _ _ _ _ | exact Kd.Q_nil _ _ _ _ _ | exact Kd.S_nil _ _ _ _ _, by repeat (first | (with_reducible first | exact HB.out | apply below_alloc | apply pw_below_drewN | apply below_drew1) | exact HB.out)⟩

end
end Go.Proofs.Ytgahkloigbhgdaa.PR
