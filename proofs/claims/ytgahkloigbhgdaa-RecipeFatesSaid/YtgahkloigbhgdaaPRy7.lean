import Derived.Test.YtgahkloigbhgdaaPRx0
import Derived.Test.YtgahkloigbhgdaaPRx2
import Derived.Test.YtgahkloigbhgdaaPRx3
import Derived.Test.YtgahkloigbhgdaaPRx5
import Derived.Test.YtgahkloigbhgdaaPRx6
namespace Go.Proofs.Ytgahkloigbhgdaa.PR
open Go.RowKit Go.Proofs.YtgahkloigbhgdaaW.PrintWords Go.Proofs.YtgahkloigbhgdaaW.PrintLast Go.Proofs.YtgahkloigbhgdaaW.PrintMore
noncomputable section
attribute [local go_sem] max2_int min2_int max_two min_two max_three min_three max_four min_four   -- for this text's walks alone
set_option linter.unusedVariables false
set_option linter.unusedSimpArgs false

/-! ### butlerlaw11_RecipeFates: function 5 -/
mutual
def butlerlaw11_RecipeFates.j0 : Nat → List (S43) → Bool → Bool → Option (Bool)
 | 0, _, _, _ => none
 | k + 1, x0, x3, x26 => if x26 = true then (some x3) else ((butlerlaw11_table.f k x0).bind fun t213 => ((recipe_Rings.f k x0).bind fun t216 => (butlerlaw11_RecipeFates.l0 k x0 t213 t216 0 0)))
def butlerlaw11_RecipeFates.l0 : Nat → List (S43) → List (List Bool) → List Int → Int → Int → Option (Bool)
 | 0, _, _, _, _, _ => none
 | k + 1, x0, x5, x6, x7, x8 => if x8 < (x0.length : Int) then (if x7 < (x6.length : Int) then (if 0 ≤ x7 then (butlerlaw11_RecipeFates.j2 k x0 x5 x6 x7 x8 ((rd x6 x7) == x8)) else (none)) else (butlerlaw11_RecipeFates.j2 k x0 x5 x6 x7 x8 false)) else (some (x7 == (x6.length : Int)))
def butlerlaw11_RecipeFates.j2 : Nat → List (S43) → List (List Bool) → List Int → Int → Int → Bool → Option (Bool)
 | 0, _, _, _, _, _, _ => none
 | k + 1, x0, x5, x6, x7, x8, x9 => if 0 ≤ x8 then (if x8 < (x5.length : Int) then (if x8 < ((rd_L5 x5 x8).length : Int) then (if (x9 != (rdOf false (rd_L5 x5 x8) x8)) = true then (some false) else (if x9 = true then (butlerlaw11_RecipeFates.j3 k x0 x5 x6 (wrap64 (x7 + 1)) x8 x9) else (butlerlaw11_RecipeFates.j3 k x0 x5 x6 x7 x8 x9))) else (none)) else (none)) else (none)
def butlerlaw11_RecipeFates.j3 : Nat → List (S43) → List (List Bool) → List Int → Int → Int → Bool → Option (Bool)
 | 0, _, _, _, _, _, _ => none
 | k + 1, x0, x5, x6, x7, x8, x9 => if 0 ≤ x8 then (if x8 < (x0.length : Int) then (if ((rd_T43 x0 x8).f2) = 0 then (butlerlaw11_RecipeFates.j4 k x0 x5 x6 x7 x8 (!x9)) else (butlerlaw11_RecipeFates.j4 k x0 x5 x6 x7 x8 false)) else (none)) else (none)
def butlerlaw11_RecipeFates.j4 : Nat → List (S43) → List (List Bool) → List Int → Int → Int → Bool → Option (Bool)
 | 0, _, _, _, _, _, _ => none
 | k + 1, x0, x5, x6, x7, x8, x10 => butlerlaw11_RecipeFates.l1 k x0 x5 x6 x7 x8 x10 0
def butlerlaw11_RecipeFates.l1 : Nat → List (S43) → List (List Bool) → List Int → Int → Int → Bool → Int → Option (Bool)
 | 0, _, _, _, _, _, _, _ => none
 | k + 1, x0, x5, x6, x7, x8, x10, x11 => if x11 < (x0.length : Int) then (if 0 ≤ x8 then (if x8 < (x5.length : Int) then (if 0 ≤ x11 then (if x11 < ((rd_L5 x5 x8).length : Int) then (if rdOf false (rd_L5 x5 x8) x11 = true then (if x10 = true then (if ((rd_T43 x0 x11).f2) = 0 then (if x11 < (x5.length : Int) then (if x11 < ((rd_L5 x5 x11).length : Int) then (if x8 < ((rd_L5 x5 x11).length : Int) then (if rdOf false (rd_L5 x5 x11) x8 = true then (if x8 < (x0.length : Int) then (if ((rd_T43 x0 x8).f1) = ((rd_T43 x0 x11).f1) then (butlerlaw11_RecipeFates.l1 k x0 x5 x6 x7 x8 (!(rdOf false (rd_L5 x5 x11) x11)) (wrap64 (x11 + 1))) else (some false)) else (none)) else (butlerlaw11_RecipeFates.l1 k x0 x5 x6 x7 x8 (!(rdOf false (rd_L5 x5 x11) x11)) (wrap64 (x11 + 1)))) else (none)) else (none)) else (none)) else (if x11 < (x5.length : Int) then (if x8 < ((rd_L5 x5 x11).length : Int) then (if rdOf false (rd_L5 x5 x11) x8 = true then (if x8 < (x0.length : Int) then (if ((rd_T43 x0 x8).f1) = ((rd_T43 x0 x11).f1) then (butlerlaw11_RecipeFates.l1 k x0 x5 x6 x7 x8 false (wrap64 (x11 + 1))) else (some false)) else (none)) else (butlerlaw11_RecipeFates.l1 k x0 x5 x6 x7 x8 false (wrap64 (x11 + 1)))) else (none)) else (none))) else (if x11 < (x5.length : Int) then (if x8 < ((rd_L5 x5 x11).length : Int) then (if rdOf false (rd_L5 x5 x11) x8 = true then (if x8 < (x0.length : Int) then (if ((rd_T43 x0 x8).f1) = ((rd_T43 x0 x11).f1) then (butlerlaw11_RecipeFates.l1 k x0 x5 x6 x7 x8 false (wrap64 (x11 + 1))) else (some false)) else (none)) else (butlerlaw11_RecipeFates.l1 k x0 x5 x6 x7 x8 false (wrap64 (x11 + 1)))) else (none)) else (none))) else (butlerlaw11_RecipeFates.l1 k x0 x5 x6 x7 x8 x10 (wrap64 (x11 + 1)))) else (none)) else (none)) else (none)) else (none)) else ((recipe_Fate.f k x0 x8).bind fun bt240 => (if 0 ≤ x8 then (if x8 < (x0.length : Int) then (butlerlaw11_RecipeFates.l2 k x0 x5 x6 x7 x8 x10 bt240.1 bt240.2 ((rd_T43 x0 x8).f3) 0) else (none)) else (none)))
def butlerlaw11_RecipeFates.l2 : Nat → List (S43) → List (List Bool) → List Int → Int → Int → Bool → Bool → Int → Int → Int → Option (Bool)
 | 0, _, _, _, _, _, _, _, _, _, _ => none
 | k + 1, x0, x5, x6, x7, x8, x10, x12, x13, x14, x15 => if 0 ≤ x8 then (if x8 < (x0.length : Int) then (if x15 < (((rd_T43 x0 x8).f0).length : Int) then (if 0 ≤ x15 then ((recipe_Fate.f k x0 (rd ((rd_T43 x0 x8).f0) x15)).bind fun bt246 => (butlerlaw11_RecipeFates.l2 k x0 x5 x6 x7 x8 x10 x12 x13 (wrap64 (x14 + bt246.2)) (wrap64 (x15 + 1)))) else (none)) else (if (x12 != x10) = true then (some false) else (if x12 = true then (if x13 < 0 then (some false) else (if x13 > 1000002 then (some false) else (if (Int.tmod (wrap64 (x14 - x13)) 1000003) = 0 then (butlerlaw11_RecipeFates.l0 k x0 x5 x6 x7 (wrap64 (x8 + 1))) else (some false)))) else (if x13 = 0 then (butlerlaw11_RecipeFates.l0 k x0 x5 x6 x7 (wrap64 (x8 + 1))) else (some false))))) else (none)) else (none)
end
def butlerlaw11_RecipeFates.f (k : Nat) (l0 : List (S43)) : Option (Bool) := (butlerlaw11_awake.f k).bind fun t211 => ((butlerref11_Right.f k l0).bind fun t212 => (if t211 = true then (butlerlaw11_RecipeFates.j0 k l0 t211 (t212 != 0)) else (butlerlaw11_RecipeFates.j0 k l0 t211 true)))
theorem butlerlaw11_RecipeFates.mono_l : ∀ k, (∀ y0 y1 y2, LeO (butlerlaw11_RecipeFates.j0 k y0 y1 y2) (butlerlaw11_RecipeFates.j0 (k + 1) y0 y1 y2)) ∧ (∀ y0 y1 y2 y3 y4, LeO (butlerlaw11_RecipeFates.l0 k y0 y1 y2 y3 y4) (butlerlaw11_RecipeFates.l0 (k + 1) y0 y1 y2 y3 y4)) ∧ (∀ y0 y1 y2 y3 y4 y5, LeO (butlerlaw11_RecipeFates.j2 k y0 y1 y2 y3 y4 y5) (butlerlaw11_RecipeFates.j2 (k + 1) y0 y1 y2 y3 y4 y5)) ∧ (∀ y0 y1 y2 y3 y4 y5, LeO (butlerlaw11_RecipeFates.j3 k y0 y1 y2 y3 y4 y5) (butlerlaw11_RecipeFates.j3 (k + 1) y0 y1 y2 y3 y4 y5)) ∧ (∀ y0 y1 y2 y3 y4 y5, LeO (butlerlaw11_RecipeFates.j4 k y0 y1 y2 y3 y4 y5) (butlerlaw11_RecipeFates.j4 (k + 1) y0 y1 y2 y3 y4 y5)) ∧ (∀ y0 y1 y2 y3 y4 y5 y6, LeO (butlerlaw11_RecipeFates.l1 k y0 y1 y2 y3 y4 y5 y6) (butlerlaw11_RecipeFates.l1 (k + 1) y0 y1 y2 y3 y4 y5 y6)) ∧ (∀ y0 y1 y2 y3 y4 y5 y6 y7 y8 y9, LeO (butlerlaw11_RecipeFates.l2 k y0 y1 y2 y3 y4 y5 y6 y7 y8 y9) (butlerlaw11_RecipeFates.l2 (k + 1) y0 y1 y2 y3 y4 y5 y6 y7 y8 y9))
 | 0 => ⟨fun _ _ _ r h => by simp [butlerlaw11_RecipeFates.j0] at h, fun _ _ _ _ _ r h => by simp [butlerlaw11_RecipeFates.l0] at h, fun _ _ _ _ _ _ r h => by simp [butlerlaw11_RecipeFates.j2] at h, fun _ _ _ _ _ _ r h => by simp [butlerlaw11_RecipeFates.j3] at h, fun _ _ _ _ _ _ r h => by simp [butlerlaw11_RecipeFates.j4] at h, fun _ _ _ _ _ _ _ r h => by simp [butlerlaw11_RecipeFates.l1] at h, fun _ _ _ _ _ _ _ _ _ _ r h => by simp [butlerlaw11_RecipeFates.l2] at h⟩
 | k + 1 => by
  obtain ⟨ih0, ih1, ih2, ih3, ih4, ih5, ih6⟩ := butlerlaw11_RecipeFates.mono_l k
  refine ⟨?_, ?_, ?_, ?_, ?_, ?_, ?_⟩
  ·intro y0 y1 y2
   unfold butlerlaw11_RecipeFates.j0
   repeat' first
   | (with_reducible exact ih0 _ _ _)
   | (with_reducible exact ih1 _ _ _ _ _)
   | (with_reducible exact ih2 _ _ _ _ _ _)
   | (with_reducible exact ih3 _ _ _ _ _ _)
   | (with_reducible exact ih4 _ _ _ _ _ _)
   | (with_reducible exact ih5 _ _ _ _ _ _ _)
   | (with_reducible exact ih6 _ _ _ _ _ _ _ _ _ _)
   | (with_reducible exact butlerlaw11_awake.mono _)
   | (with_reducible exact butlerlaw11_table.mono _ _)
   | (with_reducible exact butlerref11_Right.mono _ _)
   | (with_reducible exact recipe_Fate.mono _ _ _)
   | (with_reducible exact recipe_Rings.mono _ _)
   | (with_reducible exact LeO.refl _)
   | (with_reducible exact LeO.none _)
   | (with_reducible refine LeO.ite ?_ ?_)
   | (with_reducible refine LeO.bind ?_ (fun _ => ?_))
   | exact ih0 _ _ _
   | exact ih1 _ _ _ _ _
   | exact ih2 _ _ _ _ _ _
   | exact ih3 _ _ _ _ _ _
   | exact ih4 _ _ _ _ _ _
   | exact ih5 _ _ _ _ _ _ _
   | exact ih6 _ _ _ _ _ _ _ _ _ _
   | exact butlerlaw11_awake.mono _
   | exact butlerlaw11_table.mono _ _
   | exact butlerref11_Right.mono _ _
   | exact recipe_Fate.mono _ _ _
   | exact recipe_Rings.mono _ _
   | exact LeO.none _
   | refine LeO.ite ?_ ?_
   | refine LeO.bind ?_ (fun _ => ?_)
  ·intro y0 y1 y2 y3 y4
   unfold butlerlaw11_RecipeFates.l0
   repeat' first
   | (with_reducible exact ih0 _ _ _)
   | (with_reducible exact ih1 _ _ _ _ _)
   | (with_reducible exact ih2 _ _ _ _ _ _)
   | (with_reducible exact ih3 _ _ _ _ _ _)
   | (with_reducible exact ih4 _ _ _ _ _ _)
   | (with_reducible exact ih5 _ _ _ _ _ _ _)
   | (with_reducible exact ih6 _ _ _ _ _ _ _ _ _ _)
   | (with_reducible exact butlerlaw11_awake.mono _)
   | (with_reducible exact butlerlaw11_table.mono _ _)
   | (with_reducible exact butlerref11_Right.mono _ _)
   | (with_reducible exact recipe_Fate.mono _ _ _)
   | (with_reducible exact recipe_Rings.mono _ _)
   | (with_reducible exact LeO.refl _)
   | (with_reducible exact LeO.none _)
   | (with_reducible refine LeO.ite ?_ ?_)
   | (with_reducible refine LeO.bind ?_ (fun _ => ?_))
   | exact ih0 _ _ _
   | exact ih1 _ _ _ _ _
   | exact ih2 _ _ _ _ _ _
   | exact ih3 _ _ _ _ _ _
   | exact ih4 _ _ _ _ _ _
   | exact ih5 _ _ _ _ _ _ _
   | exact ih6 _ _ _ _ _ _ _ _ _ _
   | exact butlerlaw11_awake.mono _
   | exact butlerlaw11_table.mono _ _
   | exact butlerref11_Right.mono _ _
   | exact recipe_Fate.mono _ _ _
   | exact recipe_Rings.mono _ _
   | exact LeO.none _
   | refine LeO.ite ?_ ?_
   | refine LeO.bind ?_ (fun _ => ?_)
  ·intro y0 y1 y2 y3 y4 y5
   unfold butlerlaw11_RecipeFates.j2
   repeat' first
   | (with_reducible exact ih0 _ _ _)
   | (with_reducible exact ih1 _ _ _ _ _)
   | (with_reducible exact ih2 _ _ _ _ _ _)
   | (with_reducible exact ih3 _ _ _ _ _ _)
   | (with_reducible exact ih4 _ _ _ _ _ _)
   | (with_reducible exact ih5 _ _ _ _ _ _ _)
   | (with_reducible exact ih6 _ _ _ _ _ _ _ _ _ _)
   | (with_reducible exact butlerlaw11_awake.mono _)
   | (with_reducible exact butlerlaw11_table.mono _ _)
   | (with_reducible exact butlerref11_Right.mono _ _)
   | (with_reducible exact recipe_Fate.mono _ _ _)
   | (with_reducible exact recipe_Rings.mono _ _)
   | (with_reducible exact LeO.refl _)
   | (with_reducible exact LeO.none _)
   | (with_reducible refine LeO.ite ?_ ?_)
   | (with_reducible refine LeO.bind ?_ (fun _ => ?_))
   | exact ih0 _ _ _
   | exact ih1 _ _ _ _ _
   | exact ih2 _ _ _ _ _ _
   | exact ih3 _ _ _ _ _ _
   | exact ih4 _ _ _ _ _ _
   | exact ih5 _ _ _ _ _ _ _
   | exact ih6 _ _ _ _ _ _ _ _ _ _
   | exact butlerlaw11_awake.mono _
   | exact butlerlaw11_table.mono _ _
   | exact butlerref11_Right.mono _ _
   | exact recipe_Fate.mono _ _ _
   | exact recipe_Rings.mono _ _
   | exact LeO.none _
   | refine LeO.ite ?_ ?_
   | refine LeO.bind ?_ (fun _ => ?_)
  ·intro y0 y1 y2 y3 y4 y5
   unfold butlerlaw11_RecipeFates.j3
   repeat' first
   | (with_reducible exact ih0 _ _ _)
   | (with_reducible exact ih1 _ _ _ _ _)
   | (with_reducible exact ih2 _ _ _ _ _ _)
   | (with_reducible exact ih3 _ _ _ _ _ _)
   | (with_reducible exact ih4 _ _ _ _ _ _)
   | (with_reducible exact ih5 _ _ _ _ _ _ _)
   | (with_reducible exact ih6 _ _ _ _ _ _ _ _ _ _)
   | (with_reducible exact butlerlaw11_awake.mono _)
   | (with_reducible exact butlerlaw11_table.mono _ _)
   | (with_reducible exact butlerref11_Right.mono _ _)
   | (with_reducible exact recipe_Fate.mono _ _ _)
   | (with_reducible exact recipe_Rings.mono _ _)
   | (with_reducible exact LeO.refl _)
   | (with_reducible exact LeO.none _)
   | (with_reducible refine LeO.ite ?_ ?_)
   | (with_reducible refine LeO.bind ?_ (fun _ => ?_))
   | exact ih0 _ _ _
   | exact ih1 _ _ _ _ _
   | exact ih2 _ _ _ _ _ _
   | exact ih3 _ _ _ _ _ _
   | exact ih4 _ _ _ _ _ _
   | exact ih5 _ _ _ _ _ _ _
   | exact ih6 _ _ _ _ _ _ _ _ _ _
   | exact butlerlaw11_awake.mono _
   | exact butlerlaw11_table.mono _ _
   | exact butlerref11_Right.mono _ _
   | exact recipe_Fate.mono _ _ _
   | exact recipe_Rings.mono _ _
   | exact LeO.none _
   | refine LeO.ite ?_ ?_
   | refine LeO.bind ?_ (fun _ => ?_)
  ·intro y0 y1 y2 y3 y4 y5
   unfold butlerlaw11_RecipeFates.j4
   repeat' first
   | (with_reducible exact ih0 _ _ _)
   | (with_reducible exact ih1 _ _ _ _ _)
   | (with_reducible exact ih2 _ _ _ _ _ _)
   | (with_reducible exact ih3 _ _ _ _ _ _)
   | (with_reducible exact ih4 _ _ _ _ _ _)
   | (with_reducible exact ih5 _ _ _ _ _ _ _)
   | (with_reducible exact ih6 _ _ _ _ _ _ _ _ _ _)
   | (with_reducible exact butlerlaw11_awake.mono _)
   | (with_reducible exact butlerlaw11_table.mono _ _)
   | (with_reducible exact butlerref11_Right.mono _ _)
   | (with_reducible exact recipe_Fate.mono _ _ _)
   | (with_reducible exact recipe_Rings.mono _ _)
   | (with_reducible exact LeO.refl _)
   | (with_reducible exact LeO.none _)
   | (with_reducible refine LeO.ite ?_ ?_)
   | (with_reducible refine LeO.bind ?_ (fun _ => ?_))
   | exact ih0 _ _ _
   | exact ih1 _ _ _ _ _
   | exact ih2 _ _ _ _ _ _
   | exact ih3 _ _ _ _ _ _
   | exact ih4 _ _ _ _ _ _
   | exact ih5 _ _ _ _ _ _ _
   | exact ih6 _ _ _ _ _ _ _ _ _ _
   | exact butlerlaw11_awake.mono _
   | exact butlerlaw11_table.mono _ _
   | exact butlerref11_Right.mono _ _
   | exact recipe_Fate.mono _ _ _
   | exact recipe_Rings.mono _ _
   | exact LeO.none _
   | refine LeO.ite ?_ ?_
   | refine LeO.bind ?_ (fun _ => ?_)
  ·intro y0 y1 y2 y3 y4 y5 y6
   unfold butlerlaw11_RecipeFates.l1
   repeat' first
   | (with_reducible exact ih0 _ _ _)
   | (with_reducible exact ih1 _ _ _ _ _)
   | (with_reducible exact ih2 _ _ _ _ _ _)
   | (with_reducible exact ih3 _ _ _ _ _ _)
   | (with_reducible exact ih4 _ _ _ _ _ _)
   | (with_reducible exact ih5 _ _ _ _ _ _ _)
   | (with_reducible exact ih6 _ _ _ _ _ _ _ _ _ _)
   | (with_reducible exact butlerlaw11_awake.mono _)
   | (with_reducible exact butlerlaw11_table.mono _ _)
   | (with_reducible exact butlerref11_Right.mono _ _)
   | (with_reducible exact recipe_Fate.mono _ _ _)
   | (with_reducible exact recipe_Rings.mono _ _)
   | (with_reducible exact LeO.refl _)
   | (with_reducible exact LeO.none _)
   | (with_reducible refine LeO.ite ?_ ?_)
   | (with_reducible refine LeO.bind ?_ (fun _ => ?_))
   | exact ih0 _ _ _
   | exact ih1 _ _ _ _ _
   | exact ih2 _ _ _ _ _ _
   | exact ih3 _ _ _ _ _ _
   | exact ih4 _ _ _ _ _ _
   | exact ih5 _ _ _ _ _ _ _
   | exact ih6 _ _ _ _ _ _ _ _ _ _
   | exact butlerlaw11_awake.mono _
   | exact butlerlaw11_table.mono _ _
   | exact butlerref11_Right.mono _ _
   | exact recipe_Fate.mono _ _ _
   | exact recipe_Rings.mono _ _
   | exact LeO.none _
   | refine LeO.ite ?_ ?_
   | refine LeO.bind ?_ (fun _ => ?_)
  ·intro y0 y1 y2 y3 y4 y5 y6 y7 y8 y9
   unfold butlerlaw11_RecipeFates.l2
   repeat' first
   | (with_reducible exact ih0 _ _ _)
   | (with_reducible exact ih1 _ _ _ _ _)
   | (with_reducible exact ih2 _ _ _ _ _ _)
   | (with_reducible exact ih3 _ _ _ _ _ _)
   | (with_reducible exact ih4 _ _ _ _ _ _)
   | (with_reducible exact ih5 _ _ _ _ _ _ _)
   | (with_reducible exact ih6 _ _ _ _ _ _ _ _ _ _)
   | (with_reducible exact butlerlaw11_awake.mono _)
   | (with_reducible exact butlerlaw11_table.mono _ _)
   | (with_reducible exact butlerref11_Right.mono _ _)
   | (with_reducible exact recipe_Fate.mono _ _ _)
   | (with_reducible exact recipe_Rings.mono _ _)
   | (with_reducible exact LeO.refl _)
   | (with_reducible exact LeO.none _)
   | (with_reducible refine LeO.ite ?_ ?_)
   | (with_reducible refine LeO.bind ?_ (fun _ => ?_))
   | exact ih0 _ _ _
   | exact ih1 _ _ _ _ _
   | exact ih2 _ _ _ _ _ _
   | exact ih3 _ _ _ _ _ _
   | exact ih4 _ _ _ _ _ _
   | exact ih5 _ _ _ _ _ _ _
   | exact ih6 _ _ _ _ _ _ _ _ _ _
   | exact butlerlaw11_awake.mono _
   | exact butlerlaw11_table.mono _ _
   | exact butlerref11_Right.mono _ _
   | exact recipe_Fate.mono _ _ _
   | exact recipe_Rings.mono _ _
   | exact LeO.none _
   | refine LeO.ite ?_ ?_
   | refine LeO.bind ?_ (fun _ => ?_)
theorem butlerlaw11_RecipeFates.mono : ∀ a0 k, LeO (butlerlaw11_RecipeFates.f k a0) (butlerlaw11_RecipeFates.f (k + 1) a0) := by
 intro a0 k
 obtain ⟨ih0, ih1, ih2, ih3, ih4, ih5, ih6⟩ := butlerlaw11_RecipeFates.mono_l k
 unfold butlerlaw11_RecipeFates.f
 repeat' first
   | (with_reducible exact ih0 _ _ _)
   | (with_reducible exact ih1 _ _ _ _ _)
   | (with_reducible exact ih2 _ _ _ _ _ _)
   | (with_reducible exact ih3 _ _ _ _ _ _)
   | (with_reducible exact ih4 _ _ _ _ _ _)
   | (with_reducible exact ih5 _ _ _ _ _ _ _)
   | (with_reducible exact ih6 _ _ _ _ _ _ _ _ _ _)
   | (with_reducible exact butlerlaw11_awake.mono _)
   | (with_reducible exact butlerlaw11_table.mono _ _)
   | (with_reducible exact butlerref11_Right.mono _ _)
   | (with_reducible exact recipe_Fate.mono _ _ _)
   | (with_reducible exact recipe_Rings.mono _ _)
   | (with_reducible exact LeO.refl _)
   | (with_reducible exact LeO.none _)
   | (with_reducible refine LeO.ite ?_ ?_)
   | (with_reducible refine LeO.bind ?_ (fun _ => ?_))
   | exact ih0 _ _ _
   | exact ih1 _ _ _ _ _
   | exact ih2 _ _ _ _ _ _
   | exact ih3 _ _ _ _ _ _
   | exact ih4 _ _ _ _ _ _
   | exact ih5 _ _ _ _ _ _ _
   | exact ih6 _ _ _ _ _ _ _ _ _ _
   | exact butlerlaw11_awake.mono _
   | exact butlerlaw11_table.mono _ _
   | exact butlerref11_Right.mono _ _
   | exact recipe_Fate.mono _ _ _
   | exact recipe_Rings.mono _ _
   | exact LeO.none _
   | refine LeO.ite ?_ ?_
   | refine LeO.bind ?_ (fun _ => ?_)

end
end Go.Proofs.Ytgahkloigbhgdaa.PR
