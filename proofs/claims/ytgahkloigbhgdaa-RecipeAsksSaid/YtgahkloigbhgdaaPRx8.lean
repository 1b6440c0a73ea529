import Derived.Test.YtgahkloigbhgdaaPRx0
import Derived.Test.YtgahkloigbhgdaaPRx2
namespace Go.Proofs.Ytgahkloigbhgdaa.PR
open Go.RowKit Go.Proofs.YtgahkloigbhgdaaW.PrintWords Go.Proofs.YtgahkloigbhgdaaW.PrintLast Go.Proofs.YtgahkloigbhgdaaW.PrintMore
noncomputable section
attribute [local go_sem] max2_int min2_int max_two min_two max_three min_three max_four min_four   -- for this text's walks alone
set_option linter.unusedVariables false
set_option linter.unusedSimpArgs false

/-! ### butlerlaw11_asked: function 24 -/
mutual
def butlerlaw11_asked.l0 : Nat → List (S43) → List Int → List Bool → List Int → Int → Option (List Bool)
 | 0, _, _, _, _, _ => none
 | k + 1, x0, x1, x5, x6, x7 => if x7 < (x1.length : Int) then (if 0 ≤ x7 then (if (rd x1 x7) ≥ 0 then (if (rd x1 x7) < (x0.length : Int) then (if x6.length < 17592186044416 then (butlerlaw11_asked.l0 k x0 x1 x5 (x6 ++ [rd x1 x7]) (wrap64 (x7 + 1))) else (none)) else (butlerlaw11_asked.l0 k x0 x1 x5 x6 (wrap64 (x7 + 1)))) else (butlerlaw11_asked.l0 k x0 x1 x5 x6 (wrap64 (x7 + 1)))) else (none)) else (butlerlaw11_asked.l1 k x0 x5 x6)
def butlerlaw11_asked.l1 : Nat → List (S43) → List Bool → List Int → Option (List Bool)
 | 0, _, _, _ => none
 | k + 1, x0, x5, x6 => if (x6.length : Int) > 0 then (if 0 < (x6.length : Int) then (if 1 ≤ (x6.length : Int) then ((some (x6.drop (1 : Int).toNat : List Int)).bind fun y258 => (if 0 ≤ (rd x6 0) then (if (rd x6 0) < (x5.length : Int) then (if rdOf false x5 (rd x6 0) = true then (butlerlaw11_asked.l1 k x0 x5 y258) else (butlerlaw11_asked.l2 k x0 (x5.set ((rd x6 0) : Int).toNat true) y258 (rd x6 0) 0)) else (none)) else (none))) else (none)) else (none)) else (some x5)
def butlerlaw11_asked.l2 : Nat → List (S43) → List Bool → List Int → Int → Int → Option (List Bool)
 | 0, _, _, _, _, _ => none
 | k + 1, x0, x5, x6, x8, x9 => if 0 ≤ x8 then (if x8 < (x0.length : Int) then (if x9 < (((rd_T43 x0 x8).f0).length : Int) then (if 0 ≤ x9 then (if x6.length < 17592186044416 then ((some (x6 ++ [rd ((rd_T43 x0 x8).f0) x9] : List Int)).bind fun y266 => ((recipe_Fate.f k x0 (rd ((rd_T43 x0 x8).f0) x9)).bind fun bt271 => (if bt271.1 = true then (butlerlaw11_asked.l2 k x0 x5 y266 x8 (wrap64 (x9 + 1))) else (butlerlaw11_asked.l1 k x0 x5 y266)))) else (none)) else (none)) else (butlerlaw11_asked.l1 k x0 x5 x6)) else (none)) else (none)
end
def butlerlaw11_asked.f (k : Nat) (l0 : List (S43)) (l1 : List Int) : Option (List Bool) := if 0 ≤ (l0.length : Int) then (if ((l0.length : Int) : Int).toNat ≤ 281474976710656 then (butlerlaw11_asked.l0 k l0 l1 (List.replicate ((l0.length : Int) : Int).toNat false) ([] : List Int) 0) else (none)) else (none)
theorem butlerlaw11_asked.mono_l : ∀ k, (∀ y0 y1 y2 y3 y4, LeO (butlerlaw11_asked.l0 k y0 y1 y2 y3 y4) (butlerlaw11_asked.l0 (k + 1) y0 y1 y2 y3 y4)) ∧ (∀ y0 y1 y2, LeO (butlerlaw11_asked.l1 k y0 y1 y2) (butlerlaw11_asked.l1 (k + 1) y0 y1 y2)) ∧ (∀ y0 y1 y2 y3 y4, LeO (butlerlaw11_asked.l2 k y0 y1 y2 y3 y4) (butlerlaw11_asked.l2 (k + 1) y0 y1 y2 y3 y4))
 | 0 => ⟨fun _ _ _ _ _ r h => by simp [butlerlaw11_asked.l0] at h, fun _ _ _ r h => by simp [butlerlaw11_asked.l1] at h, fun _ _ _ _ _ r h => by simp [butlerlaw11_asked.l2] at h⟩
 | k + 1 => by
  obtain ⟨ih0, ih1, ih2⟩ := butlerlaw11_asked.mono_l k
  refine ⟨?_, ?_, ?_⟩
  ·intro y0 y1 y2 y3 y4
   unfold butlerlaw11_asked.l0
   repeat' first
   | (with_reducible exact ih0 _ _ _ _ _)
   | (with_reducible exact ih1 _ _ _)
   | (with_reducible exact ih2 _ _ _ _ _)
   | (with_reducible exact recipe_Fate.mono _ _ _)
   | (with_reducible exact LeO.refl _)
   | (with_reducible exact LeO.none _)
   | (with_reducible refine LeO.ite ?_ ?_)
   | (with_reducible refine LeO.bind ?_ (fun _ => ?_))
   | exact ih0 _ _ _ _ _
   | exact ih1 _ _ _
   | exact ih2 _ _ _ _ _
   | exact recipe_Fate.mono _ _ _
   | exact LeO.none _
   | refine LeO.ite ?_ ?_
   | refine LeO.bind ?_ (fun _ => ?_)
  ·intro y0 y1 y2
   unfold butlerlaw11_asked.l1
   repeat' first
   | (with_reducible exact ih0 _ _ _ _ _)
   | (with_reducible exact ih1 _ _ _)
   | (with_reducible exact ih2 _ _ _ _ _)
   | (with_reducible exact recipe_Fate.mono _ _ _)
   | (with_reducible exact LeO.refl _)
   | (with_reducible exact LeO.none _)
   | (with_reducible refine LeO.ite ?_ ?_)
   | (with_reducible refine LeO.bind ?_ (fun _ => ?_))
   | exact ih0 _ _ _ _ _
   | exact ih1 _ _ _
   | exact ih2 _ _ _ _ _
   | exact recipe_Fate.mono _ _ _
   | exact LeO.none _
   | refine LeO.ite ?_ ?_
   | refine LeO.bind ?_ (fun _ => ?_)
  ·intro y0 y1 y2 y3 y4
   unfold butlerlaw11_asked.l2
   repeat' first
   | (with_reducible exact ih0 _ _ _ _ _)
   | (with_reducible exact ih1 _ _ _)
   | (with_reducible exact ih2 _ _ _ _ _)
   | (with_reducible exact recipe_Fate.mono _ _ _)
   | (with_reducible exact LeO.refl _)
   | (with_reducible exact LeO.none _)
   | (with_reducible refine LeO.ite ?_ ?_)
   | (with_reducible refine LeO.bind ?_ (fun _ => ?_))
   | exact ih0 _ _ _ _ _
   | exact ih1 _ _ _
   | exact ih2 _ _ _ _ _
   | exact recipe_Fate.mono _ _ _
   | exact LeO.none _
   | refine LeO.ite ?_ ?_
   | refine LeO.bind ?_ (fun _ => ?_)
theorem butlerlaw11_asked.mono : ∀ a0 a1 k, LeO (butlerlaw11_asked.f k a0 a1) (butlerlaw11_asked.f (k + 1) a0 a1) := by
 intro a0 a1 k
 obtain ⟨ih0, ih1, ih2⟩ := butlerlaw11_asked.mono_l k
 unfold butlerlaw11_asked.f
 repeat' first
   | (with_reducible exact ih0 _ _ _ _ _)
   | (with_reducible exact ih1 _ _ _)
   | (with_reducible exact ih2 _ _ _ _ _)
   | (with_reducible exact recipe_Fate.mono _ _ _)
   | (with_reducible exact LeO.refl _)
   | (with_reducible exact LeO.none _)
   | (with_reducible refine LeO.ite ?_ ?_)
   | (with_reducible refine LeO.bind ?_ (fun _ => ?_))
   | exact ih0 _ _ _ _ _
   | exact ih1 _ _ _
   | exact ih2 _ _ _ _ _
   | exact recipe_Fate.mono _ _ _
   | exact LeO.none _
   | refine LeO.ite ?_ ?_
   | refine LeO.bind ?_ (fun _ => ?_)
set_option maxHeartbeats 8000000 in
set_option maxRecDepth 100000 in
theorem butlerlaw11_asked.calls (k : Nat) (A0 : Option Addr) (c0 : Nat) (l0 : List (S43)) (A1 : Option Addr) (c1 : Nat) (l1 : List Int) (r : List Bool) (w : World) (hr0 : Kd.C k43 w A0 l0.length l0) (hc0 : l0.length ≤ c0) (hr1 : Kd.C (Kd.int .i64) w A1 l1.length l1) (hc1 : l1.length ≤ c1) (h : butlerlaw11_asked.f k l0 l1 = some r) :
  Calls Try.prog 24 #[.slice A0 l0.length c0, .slice A1 l1.length c1] w fun e w' => ∃ v0_ : Value, e = .returned (v0_) ∧ Kd.R Kd.bool 4 w' w.heap.size (fun _ => True) v0_ r ∧ Below w.heap.size w w' := by
 have HR0 := Aside0.mk hr0
 have HC0 := Aside0.mk hc0
 clear hr0 hc0
 have HR1 := Aside0.mk hr1
 have HC1 := Aside0.mk hc1
 clear hr1 hc1
 have HB := Aside0.mk (Below.refl w.heap.size w)
 have H : (if 0 ≤ (l0.length : Int) then (if ((l0.length : Int) : Int).toNat ≤ 281474976710656 then (butlerlaw11_asked.l0 k l0 l1 (List.replicate ((l0.length : Int) : Int).toNat false) ([] : List Int) 0) else (none)) else (none)) = some r := h
 clear h
 by_cases c3 : 0 ≤ (l0.length : Int)
 ·rw [if_pos c3] at H
  have c3b0 := eq_true c3
  have c3b1 : decide (0 ≤ (l0.length : Int)) = true := decide_eq_true c3
  clear c3
  by_cases c4 : ((l0.length : Int) : Int).toNat ≤ 281474976710656
  ·rw [if_pos c4] at H
   have c4b0 := eq_true c4
   have c4b1 : decide (((l0.length : Int) : Int).toNat ≤ 281474976710656) = true := decide_eq_true c4
   clear c4
   obtain ⟨y248, hy248⟩ : ∃ y_ : List Bool, y_ = (List.replicate ((l0.length : Int) : Int).toNat false) := ⟨_, rfl⟩
   replace H : (butlerlaw11_asked.l0 k l0 l1 y248 ([] : List Int) 0) = some r := by first | (rw [hy248]; with_reducible exact H) | (have H2_ := (Option.bind_some _ _).symm.trans H; rw [hy248]; with_reducible exact H2_) | (have H2_ := (Option.bind_some _ _).symm.trans H; with_reducible exact H2_) | with_reducible exact H | (rw [hy248]; exact H) | exact H
   have Ny248 := Aside0.mk hy248
   clear hy248
   have H' := Aside0.mk H
   clear H
   go_enter Try.func24, Try.ntmps24
   go_wp2_with (first | ((with_reducible refine gate_dst (N := 14) rfl ?_); (try (refine gate_guard (by rfl) ?_; dsimp only)); refine Kd.R_make Kd.bool _ 4 rfl (N := 14) rfl 41 _ _ rfl (l0.length : Int) rfl rfl Try.underlying41 (.bool false) 1 info4 rfl (by decide) (by omega) false (ok := fun _ => True) (okp := fun _ => True) rfl (fun _ hk => hk) trivial (of_decide_eq_true (by first | (with_reducible assumption) | assumption)) (Nat.le_trans (Nat.mul_le_mul_right _ (of_decide_eq_true (by first | (with_reducible assumption) | assumption) : (l0.length : Int).toNat ≤ 281474976710656)) (by omega)) (Below.refl _ _) (Nat.le_refl _) ?_; intro v249 w5 ho6 hb hg_ hnew_; clear hg_ hnew_; (first | rw [← Ny248.out] at ho6 | (simp only [Int.reduceToNat] at ho6; rw [← Ny248.out] at ho6)); have n0_ := Aside0.mk (Kd.R_lower ho6 (below_size (by repeat (first | (with_reducible first | exact HB.out | apply below_alloc | apply pw_below_drewN | apply below_drew1) | exact HB.out)))); have n1_ := Aside0.mk (below_step (by repeat (first | (with_reducible first | exact HB.out | apply below_alloc | apply pw_below_drewN | apply below_drew1) | exact HB.out)) hb); clear HB; have HO250 := n0_; have HB := n1_; clear n0_ n1_; clear hb ho6))
   go_loopg [6, 7] k (fun kq v6 v7 w' => ∃ (x6_1 : List Int) (x7_1 : Int), v7 = .int .i64 x7_1 ∧ Aside0 (butlerlaw11_asked.l0 kq l0 l1 y248 x6_1 x7_1 = some r) ∧ Aside0 (kq ≤ k) ∧ Aside0 (Kd.R Kd.bool 4 w' w.heap.size (fun _ => True) v249 y248) ∧ Aside0 (Kd.Q (Kd.int .i64) 3 w' w.heap.size (fun _ => True) v6 x6_1) ∧ Aside0 (Below w.heap.size w w'))
   case atStart => exact ⟨(([] : List Int)), (0), (by first | rfl | (simp; done) | (simp [*]; done)), H', ⟨Nat.le_refl _⟩, ⟨by (with_reducible repeat (first | apply Kd.R_alloc | apply Kd.R_drewN | apply Kd.R_drew)); exact HO250.out⟩, ⟨Kd.Q_of_R (by first | exact Kd.R_nil _ _ _ _ _ | exact Kd.N_nil _ _ _ _ _ | exact Kd.V_nil _ _ _ _ _ | exact Kd.Q_nil _ _ _ _ _ | exact Kd.S_nil _ _ _ _ _)⟩, ⟨by repeat (first | (with_reducible first | exact HB.out | apply below_alloc | apply pw_below_drewN | apply below_drew1) | exact HB.out)⟩⟩
   case round =>
    clear H'
    try clear c1
    try clear c2
    try clear p2
    try clear c3
    try clear c3b0
    try clear c3b1
    try clear c4
    try clear c4b0
    try clear c4b1
    obtain ⟨x6_1, x7_1, rfl, HA, HK1, HO_5, HO_6, HB⟩ := hrel
    cases gk with
    | zero => exact absurd HA.out (by simp [butlerlaw11_asked.l0])
    | succ k1 =>
     have H := HA.out
     clear HA
     simp only [butlerlaw11_asked.l0] at H
     by_cases c7 : x7_1 < (l1.length : Int)
     ·rw [if_pos c7] at H
      have c7b0 : decide (x7_1 < (l1.length : Int)) = true := decide_eq_true c7
      clear c7
      by_cases c8 : 0 ≤ x7_1
      ·rw [if_pos c8] at H
       have c8b0 : decide (0 ≤ x7_1) = true := decide_eq_true c8
       clear c8
       by_cases c9 : (rd l1 x7_1) ≥ 0
       ·rw [if_pos c9] at H
        have c9b0 : decide (0 ≤ (rd l1 x7_1)) = true := decide_eq_true c9
        clear c9
        by_cases c10 : (rd l1 x7_1) < (l0.length : Int)
        ·rw [if_pos c10] at H
         have c10b0 : decide ((rd l1 x7_1) < (l0.length : Int)) = true := decide_eq_true c10
         clear c10
         by_cases c11 : x6_1.length < 17592186044416
         ·rw [if_pos c11] at H
          have LMc11 := Aside0.mk c11
          clear c11
          obtain ⟨y254, hy254⟩ : ∃ y_ : List Int, y_ = (x6_1 ++ [rd l1 x7_1]) := ⟨_, rfl⟩
          replace H : (butlerlaw11_asked.l0 k1 l0 l1 y248 y254 (wrap64 (x7_1 + 1))) = some r := by first | (rw [hy254]; with_reducible exact H) | (have H2_ := (Option.bind_some _ _).symm.trans H; rw [hy254]; with_reducible exact H2_) | (have H2_ := (Option.bind_some _ _).symm.trans H; with_reducible exact H2_) | with_reducible exact H | (rw [hy254]; exact H) | exact H
          have Ny254 := Aside0.mk hy254
          clear hy254
          have H' := Aside0.mk H
          clear H
          have p251 : 0 ≤ (x7_1 : Int) := of_decide_eq_true (by first | (with_reducible assumption) | assumption)
          have q251 : x7_1 < (l1.length : Int) := of_decide_eq_true (by first | (with_reducible assumption) | assumption)
          obtain ⟨ad251, e251, hx251_0⟩ := Kd.at_int HR1.out x7_1 p251 q251
          cases e251
          replace hx251_0 := (HB.out.cell (World.block_lt_of_cell? w _ hx251_0)).trans hx251_0
          replace p251 := eq_true p251
          replace q251 := eq_true q251
          have p252 : 0 ≤ (x7_1 : Int) := of_decide_eq_true (by first | (with_reducible assumption) | assumption)
          have q252 : x7_1 < (l1.length : Int) := of_decide_eq_true (by first | (with_reducible assumption) | assumption)
          obtain ⟨ad252, e252, hx252_0⟩ := Kd.at_int HR1.out x7_1 p252 q252
          obtain rfl : ad251 = ad252 := (by injection e252)
          replace hx252_0 := (HB.out.cell (World.block_lt_of_cell? w _ hx252_0)).trans hx252_0
          replace p252 := eq_true p252
          replace q252 := eq_true q252
          have p253 : 0 ≤ (x7_1 : Int) := of_decide_eq_true (by first | (with_reducible assumption) | assumption)
          have q253 : x7_1 < (l1.length : Int) := of_decide_eq_true (by first | (with_reducible assumption) | assumption)
          obtain ⟨ad253, e253, hx253_0⟩ := Kd.at_int HR1.out x7_1 p253 q253
          obtain rfl : ad251 = ad253 := (by injection e253)
          replace hx253_0 := (HB.out.cell (World.block_lt_of_cell? w _ hx253_0)).trans hx253_0
          replace p253 := eq_true p253
          replace q253 := eq_true q253
          go_wp2_with (first | ((with_reducible refine gate_builtin (b := .append) (xs := #[.tmp 35, .tmp 40]) rfl ?_); (try (refine gate_guard (by rfl) ?_; dsimp only)); at_builtin; refine Kd.Q_append (Kd.int .i64) (w0 := w) w.heap.size rfl (.tmp 35) (.tmp 40) 26 3 (.int .i64 0) 8 rfl Try.underlying26 info3 rfl (by decide) (by omega) u6 x6_1 (rd l1 x7_1) [.int .i64 (rd l1 x7_1)] (fun _ => True) (fun _ => False) rfl rfl ?aP (fun _ hk => hk.elim) ?aF ?aO ?aB ?aS ?aL ?_; (case aP => exact rfl); (case aB => exact (by repeat (first | (with_reducible first | exact HB.out | apply below_alloc | apply pw_below_drewN | apply below_drew1) | exact HB.out))); (case aF => exact (fun _ _ => trivial)); (case aO => exact (by (with_reducible repeat (first | apply Kd.Q_alloc | apply Kd.Q_drewN | apply Kd.Q_drew)); exact HO_6.out)); (case aS => exact (below_size (by repeat (first | (with_reducible first | exact HB.out | apply below_alloc | apply pw_below_drewN | apply below_drew1) | exact HB.out)))); (case aL => have := LMc11.out; omega); intro v255 w12 ho hb hg hat; rw [← Ny254.out] at ho; have n0_ := Aside0.mk (Kd.R_over' (by (with_reducible repeat (first | apply Kd.R_alloc | apply Kd.R_drewN | apply Kd.R_drew)); exact HO_5.out) (Kd.Q_typed (by (with_reducible repeat (first | apply Kd.Q_alloc | apply Kd.Q_drewN | apply Kd.Q_drew)); exact HO_6.out)) (by decide) hg); have n1_ := Aside0.mk (hb); have n2_ := Aside0.mk (ho); clear HO_5; clear HB; clear HO_6; have HO_5 := n0_; have HB := n1_; have HO256 := n2_; clear n0_ n1_ n2_; clear ho hb hg hat))
          go_roundg k1
          case measure => have := HK1.out; omega
          case rel => exact ⟨(y254), (wrap64 (x7_1 + 1)), (by first | rfl | (simp; done) | (simp [*]; done)), H', ⟨by have := HK1.out; omega⟩, ⟨by (with_reducible repeat (first | apply Kd.R_alloc | apply Kd.R_drewN | apply Kd.R_drew)); exact HO_5.out⟩, ⟨by (with_reducible repeat (first | apply Kd.Q_alloc | apply Kd.Q_drewN | apply Kd.Q_drew)); exact HO256.out⟩, ⟨by repeat (first | (with_reducible first | exact HB.out | apply below_alloc | apply pw_below_drewN | apply below_drew1) | exact HB.out)⟩⟩
         ·rw [if_neg c11] at H
          exact absurd H (by simp)
        ·rw [if_neg c10] at H
         have c10b0 : decide ((rd l1 x7_1) < (l0.length : Int)) = false := decide_eq_false c10
         clear c10
         have H' := Aside0.mk H
         clear H
         have p251 : 0 ≤ (x7_1 : Int) := of_decide_eq_true (by first | (with_reducible assumption) | assumption)
         have q251 : x7_1 < (l1.length : Int) := of_decide_eq_true (by first | (with_reducible assumption) | assumption)
         obtain ⟨ad251, e251, hx251_0⟩ := Kd.at_int HR1.out x7_1 p251 q251
         cases e251
         replace hx251_0 := (HB.out.cell (World.block_lt_of_cell? w _ hx251_0)).trans hx251_0
         replace p251 := eq_true p251
         replace q251 := eq_true q251
         have p252 : 0 ≤ (x7_1 : Int) := of_decide_eq_true (by first | (with_reducible assumption) | assumption)
         have q252 : x7_1 < (l1.length : Int) := of_decide_eq_true (by first | (with_reducible assumption) | assumption)
         obtain ⟨ad252, e252, hx252_0⟩ := Kd.at_int HR1.out x7_1 p252 q252
         obtain rfl : ad251 = ad252 := (by injection e252)
         replace hx252_0 := (HB.out.cell (World.block_lt_of_cell? w _ hx252_0)).trans hx252_0
         replace p252 := eq_true p252
         replace q252 := eq_true q252
         go_wp2
         go_roundg k1
         case measure => have := HK1.out; omega
         case rel => exact ⟨(x6_1), (wrap64 (x7_1 + 1)), (by first | rfl | (simp; done) | (simp [*]; done)), H', ⟨by have := HK1.out; omega⟩, ⟨by (with_reducible repeat (first | apply Kd.R_alloc | apply Kd.R_drewN | apply Kd.R_drew)); exact HO_5.out⟩, ⟨by (with_reducible repeat (first | apply Kd.Q_alloc | apply Kd.Q_drewN | apply Kd.Q_drew)); exact HO_6.out⟩, ⟨by repeat (first | (with_reducible first | exact HB.out | apply below_alloc | apply pw_below_drewN | apply below_drew1) | exact HB.out)⟩⟩
       ·rw [if_neg c9] at H
        have c9b0 : decide (0 ≤ (rd l1 x7_1)) = false := decide_eq_false c9
        clear c9
        have H' := Aside0.mk H
        clear H
        have p251 : 0 ≤ (x7_1 : Int) := of_decide_eq_true (by first | (with_reducible assumption) | assumption)
        have q251 : x7_1 < (l1.length : Int) := of_decide_eq_true (by first | (with_reducible assumption) | assumption)
        obtain ⟨ad251, e251, hx251_0⟩ := Kd.at_int HR1.out x7_1 p251 q251
        cases e251
        replace hx251_0 := (HB.out.cell (World.block_lt_of_cell? w _ hx251_0)).trans hx251_0
        replace p251 := eq_true p251
        replace q251 := eq_true q251
        go_wp2
        go_roundg k1
        case measure => have := HK1.out; omega
        case rel => exact ⟨(x6_1), (wrap64 (x7_1 + 1)), (by first | rfl | (simp; done) | (simp [*]; done)), H', ⟨by have := HK1.out; omega⟩, ⟨by (with_reducible repeat (first | apply Kd.R_alloc | apply Kd.R_drewN | apply Kd.R_drew)); exact HO_5.out⟩, ⟨by (with_reducible repeat (first | apply Kd.Q_alloc | apply Kd.Q_drewN | apply Kd.Q_drew)); exact HO_6.out⟩, ⟨by repeat (first | (with_reducible first | exact HB.out | apply below_alloc | apply pw_below_drewN | apply below_drew1) | exact HB.out)⟩⟩
      ·rw [if_neg c8] at H
       exact absurd H (by simp)
     ·rw [if_neg c7] at H
      have c7b0 : decide (x7_1 < (l1.length : Int)) = false := decide_eq_false c7
      clear c7
      have H' := Aside0.mk H
      clear H
      go_wp2
      go_loopg [6] k1 (fun kq v6 w' => ∃ (x5_2 : List Bool) (x6_2 : List Int), Aside0 (butlerlaw11_asked.l1 kq l0 x5_2 x6_2 = some r) ∧ Aside0 (kq ≤ k1) ∧ Aside0 (Kd.R Kd.bool 4 w' w.heap.size (fun _ => True) v249 x5_2) ∧ Aside0 (Kd.Q (Kd.int .i64) 3 w' w.heap.size (fun _ => True) v6 x6_2) ∧ Aside0 (Below w.heap.size w w'))
      case atStart => exact ⟨(y248), (x6_1), H', ⟨Nat.le_refl _⟩, ⟨by (with_reducible repeat (first | apply Kd.R_alloc | apply Kd.R_drewN | apply Kd.R_drew)); exact HO_5.out⟩, ⟨by (with_reducible repeat (first | apply Kd.Q_alloc | apply Kd.Q_drewN | apply Kd.Q_drew)); exact HO_6.out⟩, ⟨by repeat (first | (with_reducible first | exact HB.out | apply below_alloc | apply pw_below_drewN | apply below_drew1) | exact HB.out)⟩⟩
      case round =>
       clear H'
       try clear c1
       try clear c2
       try clear p2
       try clear q2
       try clear hx2
       try clear c3
       try clear c3b0
       try clear c3b1
       try clear c4
       try clear c4b0
       try clear c4b1
       try clear p6
       try clear c7
       try clear c7b0
       try clear c8
       try clear c8b0
       try clear c9
       try clear c9b0
       try clear c10
       try clear c10b0
       try clear c11
       try clear hx251_0
       try clear hx252_0
       try clear hx253_0
       try clear p2
       try clear p251
       try clear p252
       try clear p253
       try clear q251
       try clear q252
       try clear q253
       obtain ⟨x5_2, x6_2, HA, HK2, HO_5, HO_6, HB⟩ := hrel
       cases gk with
       | zero => exact absurd HA.out (by simp [butlerlaw11_asked.l1])
       | succ k2 =>
        have H := HA.out
        clear HA
        simp only [butlerlaw11_asked.l1] at H
        by_cases c13 : (x6_2.length : Int) > 0
        ·rw [if_pos c13] at H
         have c13b0 : decide (0 < (x6_2.length : Int)) = true := decide_eq_true c13
         have c13b1 : decide (0 < x6_2.length) = true := decide_eq_true (by omega)
         clear c13
         by_cases c14 : 0 < (x6_2.length : Int)
         ·rw [if_pos c14] at H
          have c14b0 : decide (0 < (x6_2.length : Int)) = true := decide_eq_true c14
          have c14b1 : decide (0 < x6_2.length) = true := decide_eq_true (by omega)
          clear c14
          by_cases c15 : 1 ≤ (x6_2.length : Int)
          ·rw [if_pos c15] at H
           have c15b0 := eq_true c15
           have c15b1 : decide (1 ≤ (x6_2.length : Int)) = true := decide_eq_true c15
           clear c15
           obtain ⟨y258, hy258⟩ : ∃ y_ : List Int, y_ = (x6_2.drop (1 : Int).toNat) := ⟨_, rfl⟩
           replace H : (if 0 ≤ (rd x6_2 0) then (if (rd x6_2 0) < (x5_2.length : Int) then (if rdOf false x5_2 (rd x6_2 0) = true then (butlerlaw11_asked.l1 k2 l0 x5_2 y258) else (butlerlaw11_asked.l2 k2 l0 (x5_2.set ((rd x6_2 0) : Int).toNat true) y258 (rd x6_2 0) 0)) else (none)) else (none)) = some r := by first | (rw [hy258]; with_reducible exact H) | (have H2_ := (Option.bind_some _ _).symm.trans H; rw [hy258]; with_reducible exact H2_) | (have H2_ := (Option.bind_some _ _).symm.trans H; with_reducible exact H2_) | with_reducible exact H | (rw [hy258]; exact H) | exact H
           have Ny258 := Aside0.mk hy258
           clear hy258
           by_cases c16 : 0 ≤ (rd x6_2 0)
           ·rw [if_pos c16] at H
            have c16b0 : decide (0 ≤ (rd x6_2 0)) = true := decide_eq_true c16
            clear c16
            by_cases c17 : (rd x6_2 0) < (x5_2.length : Int)
            ·rw [if_pos c17] at H
             have c17b0 : decide ((rd x6_2 0) < (x5_2.length : Int)) = true := decide_eq_true c17
             clear c17
             obtain ⟨bq18, hbq18⟩ : ∃ b_ : Bool, b_ = (rdOf false x5_2 (rd x6_2 0)) := ⟨_, rfl⟩
             replace H : (if bq18 = true then (butlerlaw11_asked.l1 k2 l0 x5_2 y258) else (butlerlaw11_asked.l2 k2 l0 (x5_2.set ((rd x6_2 0) : Int).toNat true) y258 (rd x6_2 0) 0)) = some r := by rw [← hbq18] at H; exact H
             have Nbq18 := Aside0.mk hbq18
             clear hbq18
             by_cases c19 : bq18 = true
             ·subst c19
              have H1 : (butlerlaw11_asked.l1 k2 l0 x5_2 y258) = some r := by rw [if_pos rfl] at H; exact H
              clear H
              have H := H1
              clear H1
              have H' := Aside0.mk H
              clear H
              obtain ⟨Ao20, co20, eo20, _⟩ := Kd.Q_slice HO_6.out
              subst eo20
              have p257 : 0 ≤ (0 : Int) := (by omega)
              have q257 : 0 < (x6_2.length : Int) := of_decide_eq_true (by first | (with_reducible assumption) | assumption)
              obtain ⟨ad257, e257, hx257_0⟩ := Kd.at_int (Kd.Q_reads' HO_6.out).2.2 0 p257 q257
              cases e257
              have qi257 : (0 < x6_2.length) = True := eq_true (by omega)
              (try rw [show ((0 : Int)).toNat = 0 from rfl] at hx257_0)
              (try rw [Addr.add_zero'] at hx257_0)
              replace p257 := eq_true p257
              replace q257 := eq_true q257
              have q21 : (1 : Int) ≤ ((x6_2.length : Int) : Int) := of_decide_eq_true (by first | (with_reducible assumption) | assumption)
              obtain ⟨i021, hi021, _, hsz21, _⟩ := info_parts info3
              have hcut21 := cut_from (P := Try.prog) 26 3 .i64 Try.underlying26 hi021 1 hsz21 (some ad257) x6_2.length co20 1 (by omega) q21
              have hr21 := Kd.Q_drop (k := (1 : Int).toNat) HO_6.out (by omega)
              obtain ⟨A21, hA21⟩ : ∃ A1, A1 = (if co20 = (1 : Int).toNat then (some ad257) else ((some ad257) : Option Addr).map (·.add ((1 : Int).toNat * 1))) := ⟨_, rfl⟩
              obtain ⟨c21, hc21⟩ : ∃ c1, c1 = co20 - (1 : Int).toNat := ⟨_, rfl⟩
              have hy21 : y258.length = x6_2.length - (1 : Int).toNat := (by rw [Ny258.out, List.length_drop])
              rw [← Ny258.out] at hr21
              rw [← hy21, ← hA21, ← hc21] at hcut21
              replace hr21 : Kd.Q (Kd.int .i64) 3 wr w.heap.size (fun _ => True) (.slice A21 y258.length c21) y258 := (by rw [hA21, hc21, hy21]; exact hr21)
              have HE21 : Aside0 ((Value.slice A21 y258.length c21).ownBlock = (.slice (some ad257) x6_2.length co20 : Value).ownBlock) := ⟨by rw [hA21]; split <;> (cases ((some ad257) : Option Addr) <;> rfl)⟩
              clear hy21 hi021 hsz21 HO_6 hA21 hc21
              have HO260 := Aside0.mk hr21
              clear hr21
              replace q21 := eq_true q21
              obtain ⟨Ao22, co22, eo22⟩ := Kd.R_slice HO_5.out
              subst eo22
              have p261 : 0 ≤ ((rd x6_2 0) : Int) := of_decide_eq_true (by first | (with_reducible assumption) | assumption)
              have q261 : (rd x6_2 0) < (x5_2.length : Int) := of_decide_eq_true (by first | (with_reducible assumption) | assumption)
              obtain ⟨ad261, e261, hx261_0⟩ := Kd.at_bool (Kd.R_reads' HO_5.out).2.2 (rd x6_2 0) p261 q261
              (try rw [← Nbq18.out] at hx261_0)
              cases e261
              replace p261 := eq_true p261
              replace q261 := eq_true q261
              go_wp2
              go_roundg k2
              case measure => have := HK1.out; have := HK2.out; omega
              case rel => exact ⟨(x5_2), (y258), H', ⟨by have := HK1.out; have := HK2.out; omega⟩, ⟨by (with_reducible repeat (first | apply Kd.R_alloc | apply Kd.R_drewN | apply Kd.R_drew)); exact HO_5.out⟩, ⟨by (with_reducible repeat (first | apply Kd.Q_alloc | apply Kd.Q_drewN | apply Kd.Q_drew)); exact HO260.out⟩, ⟨by repeat (first | (with_reducible first | exact HB.out | apply below_alloc | apply pw_below_drewN | apply below_drew1) | exact HB.out)⟩⟩
             ·replace c19 := Bool.eq_false_iff.mpr c19
              subst c19
              have H1 : (butlerlaw11_asked.l2 k2 l0 (x5_2.set ((rd x6_2 0) : Int).toNat true) y258 (rd x6_2 0) 0) = some r := by rw [if_neg (show ¬ (false = true) by decide)] at H; exact H
              clear H
              have H := H1
              clear H1
              obtain ⟨y262, hy262⟩ : ∃ y_ : List Bool, y_ = (x5_2.set ((rd x6_2 0) : Int).toNat true) := ⟨_, rfl⟩
              replace H : (butlerlaw11_asked.l2 k2 l0 y262 y258 (rd x6_2 0) 0) = some r := by first | (rw [hy262]; with_reducible exact H) | (have H2_ := (Option.bind_some _ _).symm.trans H; rw [hy262]; with_reducible exact H2_) | (have H2_ := (Option.bind_some _ _).symm.trans H; with_reducible exact H2_) | with_reducible exact H | (rw [hy262]; exact H) | exact H
              have Ny262 := Aside0.mk hy262
              clear hy262
              have H' := Aside0.mk H
              clear H
              obtain ⟨Ao24, co24, eo24, _⟩ := Kd.Q_slice HO_6.out
              subst eo24
              have p257 : 0 ≤ (0 : Int) := (by omega)
              have q257 : 0 < (x6_2.length : Int) := of_decide_eq_true (by first | (with_reducible assumption) | assumption)
              obtain ⟨ad257, e257, hx257_0⟩ := Kd.at_int (Kd.Q_reads' HO_6.out).2.2 0 p257 q257
              cases e257
              have qi257 : (0 < x6_2.length) = True := eq_true (by omega)
              (try rw [show ((0 : Int)).toNat = 0 from rfl] at hx257_0)
              (try rw [Addr.add_zero'] at hx257_0)
              replace p257 := eq_true p257
              replace q257 := eq_true q257
              have q25 : (1 : Int) ≤ ((x6_2.length : Int) : Int) := of_decide_eq_true (by first | (with_reducible assumption) | assumption)
              obtain ⟨i025, hi025, _, hsz25, _⟩ := info_parts info3
              have hcut25 := cut_from (P := Try.prog) 26 3 .i64 Try.underlying26 hi025 1 hsz25 (some ad257) x6_2.length co24 1 (by omega) q25
              have hr25 := Kd.Q_drop (k := (1 : Int).toNat) HO_6.out (by omega)
              obtain ⟨A25, hA25⟩ : ∃ A1, A1 = (if co24 = (1 : Int).toNat then (some ad257) else ((some ad257) : Option Addr).map (·.add ((1 : Int).toNat * 1))) := ⟨_, rfl⟩
              obtain ⟨c25, hc25⟩ : ∃ c1, c1 = co24 - (1 : Int).toNat := ⟨_, rfl⟩
              have hy25 : y258.length = x6_2.length - (1 : Int).toNat := (by rw [Ny258.out, List.length_drop])
              rw [← Ny258.out] at hr25
              rw [← hy25, ← hA25, ← hc25] at hcut25
              replace hr25 : Kd.Q (Kd.int .i64) 3 wr w.heap.size (fun _ => True) (.slice A25 y258.length c25) y258 := (by rw [hA25, hc25, hy25]; exact hr25)
              have HE25 : Aside0 ((Value.slice A25 y258.length c25).ownBlock = (.slice (some ad257) x6_2.length co24 : Value).ownBlock) := ⟨by rw [hA25]; split <;> (cases ((some ad257) : Option Addr) <;> rfl)⟩
              clear hy25 hi025 hsz25 HO_6 hA25 hc25
              have HO260 := Aside0.mk hr25
              clear hr25
              replace q25 := eq_true q25
              obtain ⟨Ao26, co26, eo26⟩ := Kd.R_slice HO_5.out
              subst eo26
              have p261 : 0 ≤ ((rd x6_2 0) : Int) := of_decide_eq_true (by first | (with_reducible assumption) | assumption)
              have q261 : (rd x6_2 0) < (x5_2.length : Int) := of_decide_eq_true (by first | (with_reducible assumption) | assumption)
              obtain ⟨ad261, e261, hx261_0⟩ := Kd.at_bool (Kd.R_reads' HO_5.out).2.2 (rd x6_2 0) p261 q261
              (try rw [← Nbq18.out] at hx261_0)
              cases e261
              replace p261 := eq_true p261
              replace q261 := eq_true q261
              have p23 : 0 ≤ ((rd x6_2 0) : Int) := of_decide_eq_true (by first | (with_reducible assumption) | assumption)
              have q23 : ((rd x6_2 0) : Int) < ((x5_2.length : Int) : Int) := of_decide_eq_true (by first | (with_reducible assumption) | assumption)
              obtain ⟨go23, co23, eo23, gb23, gl23, cl23, HG23⟩ := Kd.R_form HO_5.out (by omega)
              (first | cases eo23 | (injection eo23 with ea_ en_ ec_; (first | subst ea_ | (injection ea_ with ea_; subst ea_)); subst ec_; clear en_))
              have GB23 := Aside0.mk gb23
              have GG23 := Aside0.mk HG23
              clear gb23 gl23 HG23
              (first | simp only [add_plain] at hx261_0 | skip)
              obtain ⟨hx23_0, hf23_0⟩ := Kd.R_celln false HO_5.out ((rd x6_2 0) : Int) p23 q23
              replace p23 := eq_true p23
              replace q23 := eq_true q23
              have HP27 := Kd.R_putg HO_5.out ((rd x6_2 0) : Int) true
              go_wp2_with (first | ((with_reducible refine gate_store (t := 4) (p := 56) rfl ?_); refine store_event (t := 4) (p := 56) (v := ?vo_w28) (w1 := (wr.setCell ⟨go23, ((rd x6_2 0) : Int).toNat, none⟩ (.bool true))) ?hg ?ho ?hn ?hr ?_; (case ho => rfl); (case hg => rfl); (case hn => rfl); (case hr => first | (go_simp; done) | (go_simp; rfl)); intro w28 hw; have hg : wr.grownBy w28 (some go23) := (by rw [hw]; exact HP27.2); have hp_ : Kd.R Kd.bool 4 w28 w.heap.size (fun _ => True) (.slice (some ⟨go23, 0, none⟩) x5_2.length co26) y262 := (by rw [hw, Ny262.out]; exact HP27.1); clear HP27; have n0_ := Aside0.mk (hp_); have n1_ := Aside0.mk (Kd.Q_over' (v := (.slice (some ⟨go23, 0, none⟩) x5_2.length co26)) (by (with_reducible repeat (first | apply Kd.Q_alloc | apply Kd.Q_drewN | apply Kd.Q_drew)); exact HO260.out) (Kd.R_typed HO_5.out) (by decide) hg); have n2_ := Aside0.mk ((by rw [hw]; exact below_set (HB.out) GB23.out : Below w.heap.size w w28)); clear HO_5; clear HO260; clear HB; have HO_5 := n0_; have HO260 := n1_; have HB := n2_; clear n0_ n1_ n2_; clear hg hw hp_))
              go_loopg [6, 9] k2 (fun kq v6 v9 w' => ∃ (x6_3 : List Int) (x9_3 : Int), v9 = .int .i64 x9_3 ∧ Aside0 (butlerlaw11_asked.l2 kq l0 y262 x6_3 (rd x6_2 0) x9_3 = some r) ∧ Aside0 (kq ≤ k2) ∧ Aside0 (Kd.R Kd.bool 4 w' w.heap.size (fun _ => True) (.slice (some ⟨go23, 0, none⟩) x5_2.length co26) y262) ∧ Aside0 (Kd.Q (Kd.int .i64) 3 w' w.heap.size (fun _ => True) v6 x6_3) ∧ Aside0 (Below w.heap.size w w'))
              case atStart => exact ⟨(y258), (0), (by first | rfl | (simp; done) | (simp [*]; done)), H', ⟨Nat.le_refl _⟩, ⟨by (with_reducible repeat (first | apply Kd.R_alloc | apply Kd.R_drewN | apply Kd.R_drew)); exact HO_5.out⟩, ⟨by (with_reducible repeat (first | apply Kd.Q_alloc | apply Kd.Q_drewN | apply Kd.Q_drew)); exact HO260.out⟩, ⟨by repeat (first | (with_reducible first | exact HB.out | apply below_alloc | apply pw_below_drewN | apply below_drew1) | exact HB.out)⟩⟩
              case round =>
               clear H'
               try clear c1
               try clear q1
               try clear c2
               try clear p2
               try clear q2
               try clear hx2
               try clear qi2
               try clear hf2
               try clear c3
               try clear c3b0
               try clear c3b1
               try clear c4
               try clear c4b0
               try clear c4b1
               try clear p6
               try clear c7
               try clear c7b0
               try clear c8
               try clear c8b0
               try clear c9
               try clear c9b0
               try clear c10
               try clear c10b0
               try clear c11
               try clear c13
               try clear c13b0
               try clear c13b1
               try clear c14
               try clear c14b0
               try clear c14b1
               try clear c15
               try clear c15b0
               try clear c15b1
               try clear c16
               try clear c16b0
               try clear c17
               try clear c17b0
               try clear q18
               try clear c19
               try clear c21
               try clear q21
               try clear p23
               try clear q23
               try clear hx23
               try clear hf23
               try clear c24
               try clear c25
               try clear p25
               try clear q25
               try clear hx25
               try clear qi25
               try clear p26
               try clear q26
               try clear hx26
               try clear hx23_0
               try clear hx251_0
               try clear hx252_0
               try clear hx253_0
               try clear hx257_0
               try clear hx261_0
               try clear p2
               try clear p23
               try clear p251
               try clear p252
               try clear p253
               try clear p257
               try clear p261
               try clear p6
               try clear q2
               try clear q21
               try clear q23
               try clear q25
               try clear q251
               try clear q252
               try clear q253
               try clear q257
               try clear q261
               obtain ⟨x6_3, x9_3, rfl, HA, HK3, HO_5, HO_6, HB⟩ := hrel
               have hl5_3 := (Kd.R_reads' HO_5.out).1
               rw [hl5_3] at HO_5
               (try simp only [hl5_3])
               (try simp only [hl5_3] at HO_6)
               cases gk with
               | zero => exact absurd HA.out (by simp [butlerlaw11_asked.l2])
               | succ k3 =>
                have H := HA.out
                clear HA
                simp only [butlerlaw11_asked.l2] at H
                by_cases c29 : 0 ≤ (rd x6_2 0)
                ·rw [if_pos c29] at H
                 have c29b0 : decide (0 ≤ (rd x6_2 0)) = true := decide_eq_true c29
                 clear c29
                 by_cases c30 : (rd x6_2 0) < (l0.length : Int)
                 ·rw [if_pos c30] at H
                  have c30b0 : decide ((rd x6_2 0) < (l0.length : Int)) = true := decide_eq_true c30
                  clear c30
                  by_cases c31 : x9_3 < (((rd_T43 l0 (rd x6_2 0)).f0).length : Int)
                  ·rw [if_pos c31] at H
                   have c31b0 : decide (x9_3 < (((rd_T43 l0 (rd x6_2 0)).f0).length : Int)) = true := decide_eq_true c31
                   clear c31
                   by_cases c32 : 0 ≤ x9_3
                   ·rw [if_pos c32] at H
                    have c32b0 : decide (0 ≤ x9_3) = true := decide_eq_true c32
                    clear c32
                    by_cases c33 : x6_3.length < 17592186044416
                    ·rw [if_pos c33] at H
                     have LMc33 := Aside0.mk c33
                     clear c33
                     obtain ⟨y266, hy266⟩ : ∃ y_ : List Int, y_ = (x6_3 ++ [rd ((rd_T43 l0 (rd x6_2 0)).f0) x9_3]) := ⟨_, rfl⟩
                     replace H : ((recipe_Fate.f k3 l0 (rd ((rd_T43 l0 (rd x6_2 0)).f0) x9_3)).bind fun bt271 => (if bt271.1 = true then (butlerlaw11_asked.l2 k3 l0 y262 y266 (rd x6_2 0) (wrap64 (x9_3 + 1))) else (butlerlaw11_asked.l1 k3 l0 y262 y266))) = some r := by first | (rw [hy266]; with_reducible exact H) | (have H2_ := (Option.bind_some _ _).symm.trans H; rw [hy266]; with_reducible exact H2_) | (have H2_ := (Option.bind_some _ _).symm.trans H; with_reducible exact H2_) | with_reducible exact H | (rw [hy266]; exact H) | exact H
                     have Ny266 := Aside0.mk hy266
                     clear hy266
                     replace H := Option.bind_eq_some_iff.mp H
                     obtain ⟨⟨t271, t272⟩, A340, H⟩ := H
                     replace H : (if t271 = true then (butlerlaw11_asked.l2 k3 l0 y262 y266 (rd x6_2 0) (wrap64 (x9_3 + 1))) else (butlerlaw11_asked.l1 k3 l0 y262 y266)) = some r := H
                     have A34 := Aside0.mk A340
                     clear A340
                     by_cases c35 : t271 = true
                     ·subst c35
                      have H1 : (butlerlaw11_asked.l2 k3 l0 y262 y266 (rd x6_2 0) (wrap64 (x9_3 + 1))) = some r := by rw [if_pos rfl] at H; exact H
                      clear H
                      have H := H1
                      clear H1
                      have H' := Aside0.mk H
                      clear H
                      have p263 : 0 ≤ ((rd x6_2 0) : Int) := of_decide_eq_true (by first | (with_reducible assumption) | assumption)
                      have q263 : (rd x6_2 0) < (l0.length : Int) := of_decide_eq_true (by first | (with_reducible assumption) | assumption)
                      obtain ⟨ad263, A263_0, c263_0, e263, hx263_0, hx263_1, hx263_2, hx263_3, hx263_4, hl263_0, hi263_0⟩ := at_T43 HR0.out (rd x6_2 0) p263 q263
                      cases e263
                      replace hx263_0 := (HB.out.cell (World.block_lt_of_cell? w _ hx263_0)).trans hx263_0
                      replace hx263_1 := (HB.out.cell (World.block_lt_of_cell? w _ hx263_1)).trans hx263_1
                      replace hx263_2 := (HB.out.cell (World.block_lt_of_cell? w _ hx263_2)).trans hx263_2
                      replace hx263_3 := (HB.out.cell (World.block_lt_of_cell? w _ hx263_3)).trans hx263_3
                      replace hx263_4 := (HB.out.cell (World.block_lt_of_cell? w _ hx263_4)).trans hx263_4
                      have HR263_0 := Aside0.mk hi263_0
                      have HC263_0 := Aside0.mk hl263_0
                      clear hi263_0 hl263_0
                      replace p263 := eq_true p263
                      replace q263 := eq_true q263
                      have p264 : 0 ≤ ((rd x6_2 0) : Int) := of_decide_eq_true (by first | (with_reducible assumption) | assumption)
                      have q264 : (rd x6_2 0) < (l0.length : Int) := of_decide_eq_true (by first | (with_reducible assumption) | assumption)
                      obtain ⟨ad264, A264_0, c264_0, e264, hx264_0, hx264_1, hx264_2, hx264_3, hx264_4, hl264_0, hi264_0⟩ := at_T43 HR0.out (rd x6_2 0) p264 q264
                      obtain rfl : ad263 = ad264 := (by injection e264)
                      replace hx264_0 := (HB.out.cell (World.block_lt_of_cell? w _ hx264_0)).trans hx264_0
                      replace hx264_1 := (HB.out.cell (World.block_lt_of_cell? w _ hx264_1)).trans hx264_1
                      replace hx264_2 := (HB.out.cell (World.block_lt_of_cell? w _ hx264_2)).trans hx264_2
                      replace hx264_3 := (HB.out.cell (World.block_lt_of_cell? w _ hx264_3)).trans hx264_3
                      replace hx264_4 := (HB.out.cell (World.block_lt_of_cell? w _ hx264_4)).trans hx264_4
                      have HR264_0 := Aside0.mk hi264_0
                      have HC264_0 := Aside0.mk hl264_0
                      clear hi264_0 hl264_0
                      replace p264 := eq_true p264
                      replace q264 := eq_true q264
                      have ea_ := Option.some.inj (hx263_0.symm.trans hx264_0)
                      injection ea_ with ea_ en_ ec_
                      subst ea_
                      subst ec_
                      clear en_
                      have p265 : 0 ≤ (x9_3 : Int) := of_decide_eq_true (by first | (with_reducible assumption) | assumption)
                      have q265 : x9_3 < (((rd_T43 l0 (rd x6_2 0)).f0).length : Int) := of_decide_eq_true (by first | (with_reducible assumption) | assumption)
                      obtain ⟨ad265, e265, hx265_0⟩ := Kd.at_int HR264_0.out x9_3 p265 q265
                      cases e265
                      replace hx265_0 := (HB.out.cell (World.block_lt_of_cell? w _ hx265_0)).trans hx265_0
                      replace p265 := eq_true p265
                      replace q265 := eq_true q265
                      go_wp2_with (first | ((with_reducible refine gate_builtin (b := .append) (xs := #[.tmp 67, .tmp 76]) rfl ?_); (try (refine gate_guard (by rfl) ?_; dsimp only)); at_builtin; refine Kd.Q_append (Kd.int .i64) (w0 := w) w.heap.size rfl (.tmp 67) (.tmp 76) 26 3 (.int .i64 0) 8 rfl Try.underlying26 info3 rfl (by decide) (by omega) u6 x6_3 (rd ((rd_T43 l0 (rd x6_2 0)).f0) x9_3) [.int .i64 (rd ((rd_T43 l0 (rd x6_2 0)).f0) x9_3)] (fun _ => True) (fun _ => False) rfl rfl ?aP (fun _ hk => hk.elim) ?aF ?aO ?aB ?aS ?aL ?_; (case aP => exact rfl); (case aB => exact (by repeat (first | (with_reducible first | exact HB.out | apply below_alloc | apply pw_below_drewN | apply below_drew1) | exact HB.out))); (case aF => exact (fun _ _ => trivial)); (case aO => exact (by (with_reducible repeat (first | apply Kd.Q_alloc | apply Kd.Q_drewN | apply Kd.Q_drew)); exact HO_6.out)); (case aS => exact (below_size (by repeat (first | (with_reducible first | exact HB.out | apply below_alloc | apply pw_below_drewN | apply below_drew1) | exact HB.out)))); (case aL => have := LMc33.out; omega); intro v267 w36 ho hb hg hat; rw [← Ny266.out] at ho; have n0_ := Aside0.mk (Kd.R_over' (by (with_reducible repeat (first | apply Kd.R_alloc | apply Kd.R_drewN | apply Kd.R_drew)); exact HO_5.out) (Kd.Q_typed (by (with_reducible repeat (first | apply Kd.Q_alloc | apply Kd.Q_drewN | apply Kd.Q_drew)); exact HO_6.out)) (by decide) hg); have n1_ := Aside0.mk (hb); have n2_ := Aside0.mk (ho); clear HO_5; clear HB; clear HO_6; have HO_5 := n0_; have HB := n1_; have HO268 := n2_; clear n0_ n1_ n2_; clear ho hb hg hat; have p269 : 0 ≤ ((rd x6_2 0) : Int) := of_decide_eq_true (by first | (with_reducible assumption) | assumption); have q269 : (rd x6_2 0) < (l0.length : Int) := of_decide_eq_true (by first | (with_reducible assumption) | assumption); obtain ⟨ad269, A269_0, c269_0, e269, hx269_0, hx269_1, hx269_2, hx269_3, hx269_4, hl269_0, hi269_0⟩ := at_T43 HR0.out (rd x6_2 0) p269 q269; obtain rfl : ad263 = ad269 := (by injection e269); replace hx269_0 := (HB.out.cell (World.block_lt_of_cell? w _ hx269_0)).trans hx269_0; replace hx269_1 := (HB.out.cell (World.block_lt_of_cell? w _ hx269_1)).trans hx269_1; replace hx269_2 := (HB.out.cell (World.block_lt_of_cell? w _ hx269_2)).trans hx269_2; replace hx269_3 := (HB.out.cell (World.block_lt_of_cell? w _ hx269_3)).trans hx269_3; replace hx269_4 := (HB.out.cell (World.block_lt_of_cell? w _ hx269_4)).trans hx269_4; have HR269_0 := Aside0.mk hi269_0; have HC269_0 := Aside0.mk hl269_0; clear hi269_0 hl269_0; replace p269 := eq_true p269; replace q269 := eq_true q269; have p270 : 0 ≤ (x9_3 : Int) := of_decide_eq_true (by first | (with_reducible assumption) | assumption); have q270 : x9_3 < (((rd_T43 l0 (rd x6_2 0)).f0).length : Int) := of_decide_eq_true (by first | (with_reducible assumption) | assumption); obtain ⟨ad270, e270, hx270_0⟩ := Kd.at_int HR269_0.out x9_3 p270 q270; cases e270; replace hx270_0 := (HB.out.cell (World.block_lt_of_cell? w _ hx270_0)).trans hx270_0; replace p270 := eq_true p270; replace q270 := eq_true q270) | ((with_reducible refine gate_callee (f := 13) rfl ?_); refine goesL_ (some 88) rfl rfl Try.func13 (by kernel_rfl) rfl #[.slice (some ad263) l0.length c0, .int .i64 (rd ((rd_T43 l0 (rd x6_2 0)).f0) x9_3)] rfl (by (try simp only [List.map_toArray, List.map_cons, List.map_nil]); first | done | rfl | (simp only [List.length_drop, List.length_take]; rfl)) ?_; (with_reducible refine (recipe_Fate.calls k3 _ _ l0 (rd ((rd_T43 l0 (rd x6_2 0)).f0) x9_3) true t272 _ ?side1 ?side2 A34.out).mono ?_); (case side1 => repeat (first | exact (Kd.C_below HR0.out HB.out) | (with_reducible refine Kd.C_alloc ?_ _) | (with_reducible refine Kd.C_drewN ?_ _) | (with_reducible refine Kd.C_drew ?_))); (case side2 => exact HC0.out); rintro e w37 ⟨rfl, hb⟩; refine ⟨_, rfl, ?_⟩; have n0_ := Aside0.mk (Kd.R_below (by (with_reducible repeat (first | apply Kd.R_alloc | apply Kd.R_drewN | apply Kd.R_drew)); exact HO_5.out) hb); have n1_ := Aside0.mk (Kd.Q_below (by (with_reducible repeat (first | apply Kd.Q_alloc | apply Kd.Q_drewN | apply Kd.Q_drew)); exact HO268.out) hb); have n2_ := Aside0.mk (below_step (by repeat (first | (with_reducible first | exact HB.out | apply below_alloc | apply pw_below_drewN | apply below_drew1) | exact HB.out)) hb); clear HO_5; clear HO268; clear HB; have HO_5 := n0_; have HO268 := n1_; have HB := n2_; clear n0_ n1_ n2_; (try clear hb); (try clear hb2); (try clear hk); (try clear hi)))
                      (try simp only [← hl5_3])
                      go_roundg k3
                      case measure => have := HK1.out; have := HK2.out; have := HK3.out; omega
                      case rel => exact ⟨(y266), (wrap64 (x9_3 + 1)), (by first | rfl | (simp; done) | (simp [*]; done)), H', ⟨by have := HK1.out; have := HK2.out; have := HK3.out; omega⟩, ⟨by (try simp only [hl5_3]); (with_reducible repeat (first | apply Kd.R_alloc | apply Kd.R_drewN | apply Kd.R_drew)); exact HO_5.out⟩, ⟨by (try simp only [hl5_3]); (with_reducible repeat (first | apply Kd.Q_alloc | apply Kd.Q_drewN | apply Kd.Q_drew)); exact HO268.out⟩, ⟨by repeat (first | (with_reducible first | exact HB.out | apply below_alloc | apply pw_below_drewN | apply below_drew1) | exact HB.out)⟩⟩
                     ·replace c35 := Bool.eq_false_iff.mpr c35
                      subst c35
                      have H1 : (butlerlaw11_asked.l1 k3 l0 y262 y266) = some r := by rw [if_neg (show ¬ (false = true) by decide)] at H; exact H
                      clear H
                      have H := H1
                      clear H1
                      have H' := Aside0.mk H
                      clear H
                      have p263 : 0 ≤ ((rd x6_2 0) : Int) := of_decide_eq_true (by first | (with_reducible assumption) | assumption)
                      have q263 : (rd x6_2 0) < (l0.length : Int) := of_decide_eq_true (by first | (with_reducible assumption) | assumption)
                      obtain ⟨ad263, A263_0, c263_0, e263, hx263_0, hx263_1, hx263_2, hx263_3, hx263_4, hl263_0, hi263_0⟩ := at_T43 HR0.out (rd x6_2 0) p263 q263
                      cases e263
                      replace hx263_0 := (HB.out.cell (World.block_lt_of_cell? w _ hx263_0)).trans hx263_0
                      replace hx263_1 := (HB.out.cell (World.block_lt_of_cell? w _ hx263_1)).trans hx263_1
                      replace hx263_2 := (HB.out.cell (World.block_lt_of_cell? w _ hx263_2)).trans hx263_2
                      replace hx263_3 := (HB.out.cell (World.block_lt_of_cell? w _ hx263_3)).trans hx263_3
                      replace hx263_4 := (HB.out.cell (World.block_lt_of_cell? w _ hx263_4)).trans hx263_4
                      have HR263_0 := Aside0.mk hi263_0
                      have HC263_0 := Aside0.mk hl263_0
                      clear hi263_0 hl263_0
                      replace p263 := eq_true p263
                      replace q263 := eq_true q263
                      have p264 : 0 ≤ ((rd x6_2 0) : Int) := of_decide_eq_true (by first | (with_reducible assumption) | assumption)
                      have q264 : (rd x6_2 0) < (l0.length : Int) := of_decide_eq_true (by first | (with_reducible assumption) | assumption)
                      obtain ⟨ad264, A264_0, c264_0, e264, hx264_0, hx264_1, hx264_2, hx264_3, hx264_4, hl264_0, hi264_0⟩ := at_T43 HR0.out (rd x6_2 0) p264 q264
                      obtain rfl : ad263 = ad264 := (by injection e264)
                      replace hx264_0 := (HB.out.cell (World.block_lt_of_cell? w _ hx264_0)).trans hx264_0
                      replace hx264_1 := (HB.out.cell (World.block_lt_of_cell? w _ hx264_1)).trans hx264_1
                      replace hx264_2 := (HB.out.cell (World.block_lt_of_cell? w _ hx264_2)).trans hx264_2
                      replace hx264_3 := (HB.out.cell (World.block_lt_of_cell? w _ hx264_3)).trans hx264_3
                      replace hx264_4 := (HB.out.cell (World.block_lt_of_cell? w _ hx264_4)).trans hx264_4
                      have HR264_0 := Aside0.mk hi264_0
                      have HC264_0 := Aside0.mk hl264_0
                      clear hi264_0 hl264_0
                      replace p264 := eq_true p264
                      replace q264 := eq_true q264
                      have ea_ := Option.some.inj (hx263_0.symm.trans hx264_0)
                      injection ea_ with ea_ en_ ec_
                      subst ea_
                      subst ec_
                      clear en_
                      have p265 : 0 ≤ (x9_3 : Int) := of_decide_eq_true (by first | (with_reducible assumption) | assumption)
                      have q265 : x9_3 < (((rd_T43 l0 (rd x6_2 0)).f0).length : Int) := of_decide_eq_true (by first | (with_reducible assumption) | assumption)
                      obtain ⟨ad265, e265, hx265_0⟩ := Kd.at_int HR264_0.out x9_3 p265 q265
                      cases e265
                      replace hx265_0 := (HB.out.cell (World.block_lt_of_cell? w _ hx265_0)).trans hx265_0
                      replace p265 := eq_true p265
                      replace q265 := eq_true q265
                      go_wp2_with (first | ((with_reducible refine gate_builtin (b := .append) (xs := #[.tmp 67, .tmp 76]) rfl ?_); (try (refine gate_guard (by rfl) ?_; dsimp only)); at_builtin; refine Kd.Q_append (Kd.int .i64) (w0 := w) w.heap.size rfl (.tmp 67) (.tmp 76) 26 3 (.int .i64 0) 8 rfl Try.underlying26 info3 rfl (by decide) (by omega) u6 x6_3 (rd ((rd_T43 l0 (rd x6_2 0)).f0) x9_3) [.int .i64 (rd ((rd_T43 l0 (rd x6_2 0)).f0) x9_3)] (fun _ => True) (fun _ => False) rfl rfl ?aP (fun _ hk => hk.elim) ?aF ?aO ?aB ?aS ?aL ?_; (case aP => exact rfl); (case aB => exact (by repeat (first | (with_reducible first | exact HB.out | apply below_alloc | apply pw_below_drewN | apply below_drew1) | exact HB.out))); (case aF => exact (fun _ _ => trivial)); (case aO => exact (by (with_reducible repeat (first | apply Kd.Q_alloc | apply Kd.Q_drewN | apply Kd.Q_drew)); exact HO_6.out)); (case aS => exact (below_size (by repeat (first | (with_reducible first | exact HB.out | apply below_alloc | apply pw_below_drewN | apply below_drew1) | exact HB.out)))); (case aL => have := LMc33.out; omega); intro v267 w38 ho hb hg hat; rw [← Ny266.out] at ho; have n0_ := Aside0.mk (Kd.R_over' (by (with_reducible repeat (first | apply Kd.R_alloc | apply Kd.R_drewN | apply Kd.R_drew)); exact HO_5.out) (Kd.Q_typed (by (with_reducible repeat (first | apply Kd.Q_alloc | apply Kd.Q_drewN | apply Kd.Q_drew)); exact HO_6.out)) (by decide) hg); have n1_ := Aside0.mk (hb); have n2_ := Aside0.mk (ho); clear HO_5; clear HB; clear HO_6; have HO_5 := n0_; have HB := n1_; have HO268 := n2_; clear n0_ n1_ n2_; clear ho hb hg hat; have p269 : 0 ≤ ((rd x6_2 0) : Int) := of_decide_eq_true (by first | (with_reducible assumption) | assumption); have q269 : (rd x6_2 0) < (l0.length : Int) := of_decide_eq_true (by first | (with_reducible assumption) | assumption); obtain ⟨ad269, A269_0, c269_0, e269, hx269_0, hx269_1, hx269_2, hx269_3, hx269_4, hl269_0, hi269_0⟩ := at_T43 HR0.out (rd x6_2 0) p269 q269; obtain rfl : ad263 = ad269 := (by injection e269); replace hx269_0 := (HB.out.cell (World.block_lt_of_cell? w _ hx269_0)).trans hx269_0; replace hx269_1 := (HB.out.cell (World.block_lt_of_cell? w _ hx269_1)).trans hx269_1; replace hx269_2 := (HB.out.cell (World.block_lt_of_cell? w _ hx269_2)).trans hx269_2; replace hx269_3 := (HB.out.cell (World.block_lt_of_cell? w _ hx269_3)).trans hx269_3; replace hx269_4 := (HB.out.cell (World.block_lt_of_cell? w _ hx269_4)).trans hx269_4; have HR269_0 := Aside0.mk hi269_0; have HC269_0 := Aside0.mk hl269_0; clear hi269_0 hl269_0; replace p269 := eq_true p269; replace q269 := eq_true q269; have p270 : 0 ≤ (x9_3 : Int) := of_decide_eq_true (by first | (with_reducible assumption) | assumption); have q270 : x9_3 < (((rd_T43 l0 (rd x6_2 0)).f0).length : Int) := of_decide_eq_true (by first | (with_reducible assumption) | assumption); obtain ⟨ad270, e270, hx270_0⟩ := Kd.at_int HR269_0.out x9_3 p270 q270; cases e270; replace hx270_0 := (HB.out.cell (World.block_lt_of_cell? w _ hx270_0)).trans hx270_0; replace p270 := eq_true p270; replace q270 := eq_true q270) | ((with_reducible refine gate_callee (f := 13) rfl ?_); refine goesL_ (some 88) rfl rfl Try.func13 (by kernel_rfl) rfl #[.slice (some ad263) l0.length c0, .int .i64 (rd ((rd_T43 l0 (rd x6_2 0)).f0) x9_3)] rfl (by (try simp only [List.map_toArray, List.map_cons, List.map_nil]); first | done | rfl | (simp only [List.length_drop, List.length_take]; rfl)) ?_; (with_reducible refine (recipe_Fate.calls k3 _ _ l0 (rd ((rd_T43 l0 (rd x6_2 0)).f0) x9_3) false t272 _ ?side1 ?side2 A34.out).mono ?_); (case side1 => repeat (first | exact (Kd.C_below HR0.out HB.out) | (with_reducible refine Kd.C_alloc ?_ _) | (with_reducible refine Kd.C_drewN ?_ _) | (with_reducible refine Kd.C_drew ?_))); (case side2 => exact HC0.out); rintro e w39 ⟨rfl, hb⟩; refine ⟨_, rfl, ?_⟩; have n0_ := Aside0.mk (Kd.R_below (by (with_reducible repeat (first | apply Kd.R_alloc | apply Kd.R_drewN | apply Kd.R_drew)); exact HO_5.out) hb); have n1_ := Aside0.mk (Kd.Q_below (by (with_reducible repeat (first | apply Kd.Q_alloc | apply Kd.Q_drewN | apply Kd.Q_drew)); exact HO268.out) hb); have n2_ := Aside0.mk (below_step (by repeat (first | (with_reducible first | exact HB.out | apply below_alloc | apply pw_below_drewN | apply below_drew1) | exact HB.out)) hb); clear HO_5; clear HO268; clear HB; have HO_5 := n0_; have HO268 := n1_; have HB := n2_; clear n0_ n1_ n2_; (try clear hb); (try clear hb2); (try clear hk); (try clear hi)))
                      (try simp only [← hl5_3])
                      go_roundg k3
                      case measure => have := HK1.out; have := HK2.out; have := HK3.out; omega
                      case rel => exact ⟨(y262), (y266), H', ⟨by have := HK1.out; have := HK2.out; have := HK3.out; omega⟩, ⟨by (try simp only [hl5_3]); (with_reducible repeat (first | apply Kd.R_alloc | apply Kd.R_drewN | apply Kd.R_drew)); exact HO_5.out⟩, ⟨by (try simp only [hl5_3]); (with_reducible repeat (first | apply Kd.Q_alloc | apply Kd.Q_drewN | apply Kd.Q_drew)); exact HO268.out⟩, ⟨by repeat (first | (with_reducible first | exact HB.out | apply below_alloc | apply pw_below_drewN | apply below_drew1) | exact HB.out)⟩⟩
                    ·rw [if_neg c33] at H
                     exact absurd H (by simp)
                   ·rw [if_neg c32] at H
                    exact absurd H (by simp)
                  ·rw [if_neg c31] at H
                   have c31b0 : decide (x9_3 < (((rd_T43 l0 (rd x6_2 0)).f0).length : Int)) = false := decide_eq_false c31
                   clear c31
                   have H' := Aside0.mk H
                   clear H
                   have p263 : 0 ≤ ((rd x6_2 0) : Int) := of_decide_eq_true (by first | (with_reducible assumption) | assumption)
                   have q263 : (rd x6_2 0) < (l0.length : Int) := of_decide_eq_true (by first | (with_reducible assumption) | assumption)
                   obtain ⟨ad263, A263_0, c263_0, e263, hx263_0, hx263_1, hx263_2, hx263_3, hx263_4, hl263_0, hi263_0⟩ := at_T43 HR0.out (rd x6_2 0) p263 q263
                   cases e263
                   replace hx263_0 := (HB.out.cell (World.block_lt_of_cell? w _ hx263_0)).trans hx263_0
                   replace hx263_1 := (HB.out.cell (World.block_lt_of_cell? w _ hx263_1)).trans hx263_1
                   replace hx263_2 := (HB.out.cell (World.block_lt_of_cell? w _ hx263_2)).trans hx263_2
                   replace hx263_3 := (HB.out.cell (World.block_lt_of_cell? w _ hx263_3)).trans hx263_3
                   replace hx263_4 := (HB.out.cell (World.block_lt_of_cell? w _ hx263_4)).trans hx263_4
                   have HR263_0 := Aside0.mk hi263_0
                   have HC263_0 := Aside0.mk hl263_0
                   clear hi263_0 hl263_0
                   replace p263 := eq_true p263
                   replace q263 := eq_true q263
                   go_wp2
                   (try simp only [← hl5_3])
                   go_roundg k3
                   case measure => have := HK1.out; have := HK2.out; have := HK3.out; omega
                   case rel => exact ⟨(y262), (x6_3), H', ⟨by have := HK1.out; have := HK2.out; have := HK3.out; omega⟩, ⟨by (try simp only [hl5_3]); (with_reducible repeat (first | apply Kd.R_alloc | apply Kd.R_drewN | apply Kd.R_drew)); exact HO_5.out⟩, ⟨by (try simp only [hl5_3]); (with_reducible repeat (first | apply Kd.Q_alloc | apply Kd.Q_drewN | apply Kd.Q_drew)); exact HO_6.out⟩, ⟨by repeat (first | (with_reducible first | exact HB.out | apply below_alloc | apply pw_below_drewN | apply below_drew1) | exact HB.out)⟩⟩
                 ·rw [if_neg c30] at H
                  exact absurd H (by simp)
                ·rw [if_neg c29] at H
                 exact absurd H (by simp)
            ·rw [if_neg c17] at H
             exact absurd H (by simp)
           ·rw [if_neg c16] at H
            exact absurd H (by simp)
          ·rw [if_neg c15] at H
           exact absurd H (by simp)
         ·rw [if_neg c14] at H
          exact absurd H (by simp)
        ·rw [if_neg c13] at H
         have c13b0 : decide (0 < (x6_2.length : Int)) = false := decide_eq_false c13
         have c13b1 : decide (0 < x6_2.length) = false := decide_eq_false (by omega)
         clear c13
         obtain rfl := Option.some.inj H
         obtain ⟨Ao40, co40, eo40, _⟩ := Kd.Q_slice HO_6.out
         subst eo40
         go_wp2
         go_ret
         exact ⟨_, by first | rfl | (simp [errW_none, errW_some] <;> rfl) | (simp [*, errW_none, errW_some] <;> rfl), by (with_reducible repeat (first | apply Kd.R_alloc | apply Kd.R_drewN | apply Kd.R_drew)); exact HO_5.out, by repeat (first | (with_reducible first | exact HB.out | apply below_alloc | apply pw_below_drewN | apply below_drew1) | exact HB.out)⟩
  ·rw [if_neg c4] at H
   exact absurd H (by simp)
 ·rw [if_neg c3] at H
  exact absurd H (by simp)

end
end Go.Proofs.Ytgahkloigbhgdaa.PR
