import Derived.Test.YtgahkloigbhgdaaRq
import Derived.Test.YtgahkloigbhgdaaPRx0
import Derived.Test.YtgahkloigbhgdaaPRx2
import Derived.Test.YtgahkloigbhgdaaPRx3
import Derived.Test.YtgahkloigbhgdaaPRx5
import Derived.Test.YtgahkloigbhgdaaPRx6
import Derived.Test.YtgahkloigbhgdaaPRx8
namespace Go.Proofs.Ytgahkloigbhgdaa.PR
open Go.RowKit Go.Proofs.YtgahkloigbhgdaaW.PrintWords Go.Proofs.YtgahkloigbhgdaaW.PrintLast Go.Proofs.YtgahkloigbhgdaaW.PrintMore
noncomputable section
attribute [local go_sem] max2_int min2_int max_two min_two max_three min_three max_four min_four   -- for this text's walks alone
set_option linter.unusedVariables false
set_option linter.unusedSimpArgs false

/-! ### butlerlaw11_RecipeOrders: function 6 -/
mutual
def butlerlaw11_RecipeOrders.j0 : Nat → List (S43) → List Int → Int → Bool → Bool → Option (Bool)
 | 0, _, _, _, _, _ => none
 | k + 1, x0, x1, x2, x7, x36 => if x36 = true then (some x7) else ((butlerlaw11_table.f k x0).bind fun t275 => ((butlerlaw11_asked.f k x0 x1).bind fun t278 => ((recipe_Order.f x0 x1).bind fun t281 => (if 0 ≤ (x0.length : Int) then (if ((x0.length : Int) : Int).toNat ≤ 281474976710656 then (butlerlaw11_RecipeOrders.l0 k x0 x1 x2 t275 t278 t281 (List.replicate ((x0.length : Int) : Int).toNat false) 0) else (none)) else (none)))))
def butlerlaw11_RecipeOrders.l0 : Nat → List (S43) → List Int → Int → List (List Bool) → List Bool → List Int → List Bool → Int → Option (Bool)
 | 0, _, _, _, _, _, _, _, _ => none
 | k + 1, x0, x1, x2, x9, x10, x11, x12, x13 => if x13 < (x11.length : Int) then (if 0 ≤ x13 then (if (rd x11 x13) < 0 then (butlerlaw11_RecipeOrders.j2 k x0 x1 x2 x9 x10 x11 x12 x13 (rd x11 x13) true) else (if (rd x11 x13) ≥ (x0.length : Int) then (butlerlaw11_RecipeOrders.j2 k x0 x1 x2 x9 x10 x11 x12 x13 (rd x11 x13) true) else (if 0 ≤ (rd x11 x13) then (if (rd x11 x13) < (x12.length : Int) then (if rdOf false x12 (rd x11 x13) = true then (butlerlaw11_RecipeOrders.j2 k x0 x1 x2 x9 x10 x11 x12 x13 (rd x11 x13) true) else (if (rd x11 x13) < (x10.length : Int) then (butlerlaw11_RecipeOrders.j2 k x0 x1 x2 x9 x10 x11 x12 x13 (rd x11 x13) (!(rdOf false x10 (rd x11 x13)))) else (none))) else (none)) else (none)))) else (none)) else (butlerlaw11_RecipeOrders.l2 k x0 x1 x2 x10 x11 x12 0)
def butlerlaw11_RecipeOrders.j2 : Nat → List (S43) → List Int → Int → List (List Bool) → List Bool → List Int → List Bool → Int → Int → Bool → Option (Bool)
 | 0, _, _, _, _, _, _, _, _, _, _ => none
 | k + 1, x0, x1, x2, x9, x10, x11, x12, x13, x14, x79 => if x79 = true then (some false) else (butlerlaw11_RecipeOrders.l1 k x0 x1 x2 x9 x10 x11 x12 x13 x14 0)
def butlerlaw11_RecipeOrders.l1 : Nat → List (S43) → List Int → Int → List (List Bool) → List Bool → List Int → List Bool → Int → Int → Int → Option (Bool)
 | 0, _, _, _, _, _, _, _, _, _, _ => none
 | k + 1, x0, x1, x2, x9, x10, x11, x12, x13, x14, x15 => if x15 < (x0.length : Int) then (if 0 ≤ x14 then (if x14 < (x9.length : Int) then (if 0 ≤ x15 then (if x15 < ((rd_L5 x9 x14).length : Int) then (if rdOf false (rd_L5 x9 x14) x15 = true then (if x15 < (x12.length : Int) then (if rdOf false x12 x15 = true then (butlerlaw11_RecipeOrders.l1 k x0 x1 x2 x9 x10 x11 x12 x13 x14 (wrap64 (x15 + 1))) else (some false)) else (none)) else (butlerlaw11_RecipeOrders.l1 k x0 x1 x2 x9 x10 x11 x12 x13 x14 (wrap64 (x15 + 1)))) else (none)) else (none)) else (none)) else (none)) else (if 0 ≤ x14 then (if x14 < (x12.length : Int) then (butlerlaw11_RecipeOrders.l0 k x0 x1 x2 x9 x10 x11 (x12.set (x14 : Int).toNat true) (wrap64 (x13 + 1))) else (none)) else (none))
def butlerlaw11_RecipeOrders.l2 : Nat → List (S43) → List Int → Int → List Bool → List Int → List Bool → Int → Option (Bool)
 | 0, _, _, _, _, _, _, _ => none
 | k + 1, x0, x1, x2, x10, x11, x12, x16 => if x16 < (x0.length : Int) then ((recipe_Fate.f k x0 x16).bind fun bt294 => (if 0 ≤ x16 then (if x16 < (x12.length : Int) then (if x16 < (x10.length : Int) then (if rdOf false x10 x16 = true then (if ((rdOf false x12 x16) != bt294.1) = true then (some false) else (butlerlaw11_RecipeOrders.l2 k x0 x1 x2 x10 x11 x12 (wrap64 (x16 + 1)))) else (if ((rdOf false x12 x16) != false) = true then (some false) else (butlerlaw11_RecipeOrders.l2 k x0 x1 x2 x10 x11 x12 (wrap64 (x16 + 1))))) else (none)) else (none)) else (none))) else (butlerlaw11_RecipeOrders.l3 k x0 x1 x2 x11 x12 ([] : List Int) 0)
def butlerlaw11_RecipeOrders.l3 : Nat → List (S43) → List Int → Int → List Int → List Bool → List Int → Int → Option (Bool)
 | 0, _, _, _, _, _, _, _ => none
 | k + 1, x0, x1, x2, x11, x12, x19, x20 => if x20 < (x1.length : Int) then (if (x1.length : Int) = 0 then (none) else (if 0 ≤ (Int.tmod (wrap64 (x20 + (Go.bits .and .i64 x2 1023))) (x1.length : Int)) then (if (Int.tmod (wrap64 (x20 + (Go.bits .and .i64 x2 1023))) (x1.length : Int)) < (x1.length : Int) then (if x19.length < 17592186044416 then (butlerlaw11_RecipeOrders.l3 k x0 x1 x2 x11 x12 (x19 ++ [rd x1 (Int.tmod (wrap64 (x20 + (Go.bits .and .i64 x2 1023))) (x1.length : Int))]) (wrap64 (x20 + 1))) else (none)) else (none)) else (none))) else ((recipe_Order.f x0 x19).bind fun t302 => (if (t302.length : Int) = (x11.length : Int) then (butlerlaw11_RecipeOrders.l4 k x0 x12 t302 0) else (some false)))
def butlerlaw11_RecipeOrders.l4 : Nat → List (S43) → List Bool → List Int → Int → Option (Bool)
 | 0, _, _, _, _ => none
 | k + 1, x0, x12, x21, x22 => if x22 < (x21.length : Int) then (if 0 ≤ x22 then (if (rd x21 x22) < 0 then (some false) else (if (rd x21 x22) ≥ (x0.length : Int) then (some false) else (if 0 ≤ (rd x21 x22) then (if (rd x21 x22) < (x12.length : Int) then (if (rdOf false x12 (rd x21 x22) = true) then (butlerlaw11_RecipeOrders.l4 k x0 x12 x21 (wrap64 (x22 + 1))) else (some false)) else (none)) else (none)))) else (none)) else (some true)
end
def butlerlaw11_RecipeOrders.f (k : Nat) (l0 : List (S43)) (l1 : List Int) (a2 : Int) : Option (Bool) := (butlerlaw11_awake.f k).bind fun t273 => ((butlerref11_Right.f k l0).bind fun t274 => (if t273 = true then (if t274 = 0 then (butlerlaw11_RecipeOrders.j0 k l0 l1 a2 t273 (decide ((l1.length : Int) > 300))) else (butlerlaw11_RecipeOrders.j0 k l0 l1 a2 t273 true)) else (butlerlaw11_RecipeOrders.j0 k l0 l1 a2 t273 true)))
theorem butlerlaw11_RecipeOrders.mono_l : ∀ k, (∀ y0 y1 y2 y3 y4, LeO (butlerlaw11_RecipeOrders.j0 k y0 y1 y2 y3 y4) (butlerlaw11_RecipeOrders.j0 (k + 1) y0 y1 y2 y3 y4)) ∧ (∀ y0 y1 y2 y3 y4 y5 y6 y7, LeO (butlerlaw11_RecipeOrders.l0 k y0 y1 y2 y3 y4 y5 y6 y7) (butlerlaw11_RecipeOrders.l0 (k + 1) y0 y1 y2 y3 y4 y5 y6 y7)) ∧ (∀ y0 y1 y2 y3 y4 y5 y6 y7 y8 y9, LeO (butlerlaw11_RecipeOrders.j2 k y0 y1 y2 y3 y4 y5 y6 y7 y8 y9) (butlerlaw11_RecipeOrders.j2 (k + 1) y0 y1 y2 y3 y4 y5 y6 y7 y8 y9)) ∧ (∀ y0 y1 y2 y3 y4 y5 y6 y7 y8 y9, LeO (butlerlaw11_RecipeOrders.l1 k y0 y1 y2 y3 y4 y5 y6 y7 y8 y9) (butlerlaw11_RecipeOrders.l1 (k + 1) y0 y1 y2 y3 y4 y5 y6 y7 y8 y9)) ∧ (∀ y0 y1 y2 y3 y4 y5 y6, LeO (butlerlaw11_RecipeOrders.l2 k y0 y1 y2 y3 y4 y5 y6) (butlerlaw11_RecipeOrders.l2 (k + 1) y0 y1 y2 y3 y4 y5 y6)) ∧ (∀ y0 y1 y2 y3 y4 y5 y6, LeO (butlerlaw11_RecipeOrders.l3 k y0 y1 y2 y3 y4 y5 y6) (butlerlaw11_RecipeOrders.l3 (k + 1) y0 y1 y2 y3 y4 y5 y6)) ∧ (∀ y0 y1 y2 y3, LeO (butlerlaw11_RecipeOrders.l4 k y0 y1 y2 y3) (butlerlaw11_RecipeOrders.l4 (k + 1) y0 y1 y2 y3))
 | 0 => ⟨fun _ _ _ _ _ r h => by simp [butlerlaw11_RecipeOrders.j0] at h, fun _ _ _ _ _ _ _ _ r h => by simp [butlerlaw11_RecipeOrders.l0] at h, fun _ _ _ _ _ _ _ _ _ _ r h => by simp [butlerlaw11_RecipeOrders.j2] at h, fun _ _ _ _ _ _ _ _ _ _ r h => by simp [butlerlaw11_RecipeOrders.l1] at h, fun _ _ _ _ _ _ _ r h => by simp [butlerlaw11_RecipeOrders.l2] at h, fun _ _ _ _ _ _ _ r h => by simp [butlerlaw11_RecipeOrders.l3] at h, fun _ _ _ _ r h => by simp [butlerlaw11_RecipeOrders.l4] at h⟩
 | k + 1 => by
  obtain ⟨ih0, ih1, ih2, ih3, ih4, ih5, ih6⟩ := butlerlaw11_RecipeOrders.mono_l k
  refine ⟨?_, ?_, ?_, ?_, ?_, ?_, ?_⟩
  ·intro y0 y1 y2 y3 y4
   unfold butlerlaw11_RecipeOrders.j0
   repeat' first
   | (with_reducible exact ih0 _ _ _ _ _)
   | (with_reducible exact ih1 _ _ _ _ _ _ _ _)
   | (with_reducible exact ih2 _ _ _ _ _ _ _ _ _ _)
   | (with_reducible exact ih3 _ _ _ _ _ _ _ _ _ _)
   | (with_reducible exact ih4 _ _ _ _ _ _ _)
   | (with_reducible exact ih5 _ _ _ _ _ _ _)
   | (with_reducible exact ih6 _ _ _ _)
   | (with_reducible exact butlerlaw11_asked.mono _ _ _)
   | (with_reducible exact butlerlaw11_awake.mono _)
   | (with_reducible exact butlerlaw11_table.mono _ _)
   | (with_reducible exact butlerref11_Right.mono _ _)
   | (with_reducible exact recipe_Fate.mono _ _ _)
   | (with_reducible exact LeO.refl _)
   | (with_reducible exact LeO.none _)
   | (with_reducible refine LeO.ite ?_ ?_)
   | (with_reducible refine LeO.bind ?_ (fun _ => ?_))
   | exact ih0 _ _ _ _ _
   | exact ih1 _ _ _ _ _ _ _ _
   | exact ih2 _ _ _ _ _ _ _ _ _ _
   | exact ih3 _ _ _ _ _ _ _ _ _ _
   | exact ih4 _ _ _ _ _ _ _
   | exact ih5 _ _ _ _ _ _ _
   | exact ih6 _ _ _ _
   | exact butlerlaw11_asked.mono _ _ _
   | exact butlerlaw11_awake.mono _
   | exact butlerlaw11_table.mono _ _
   | exact butlerref11_Right.mono _ _
   | exact recipe_Fate.mono _ _ _
   | exact LeO.none _
   | refine LeO.ite ?_ ?_
   | refine LeO.bind ?_ (fun _ => ?_)
  ·intro y0 y1 y2 y3 y4 y5 y6 y7
   unfold butlerlaw11_RecipeOrders.l0
   repeat' first
   | (with_reducible exact ih0 _ _ _ _ _)
   | (with_reducible exact ih1 _ _ _ _ _ _ _ _)
   | (with_reducible exact ih2 _ _ _ _ _ _ _ _ _ _)
   | (with_reducible exact ih3 _ _ _ _ _ _ _ _ _ _)
   | (with_reducible exact ih4 _ _ _ _ _ _ _)
   | (with_reducible exact ih5 _ _ _ _ _ _ _)
   | (with_reducible exact ih6 _ _ _ _)
   | (with_reducible exact butlerlaw11_asked.mono _ _ _)
   | (with_reducible exact butlerlaw11_awake.mono _)
   | (with_reducible exact butlerlaw11_table.mono _ _)
   | (with_reducible exact butlerref11_Right.mono _ _)
   | (with_reducible exact recipe_Fate.mono _ _ _)
   | (with_reducible exact LeO.refl _)
   | (with_reducible exact LeO.none _)
   | (with_reducible refine LeO.ite ?_ ?_)
   | (with_reducible refine LeO.bind ?_ (fun _ => ?_))
   | exact ih0 _ _ _ _ _
   | exact ih1 _ _ _ _ _ _ _ _
   | exact ih2 _ _ _ _ _ _ _ _ _ _
   | exact ih3 _ _ _ _ _ _ _ _ _ _
   | exact ih4 _ _ _ _ _ _ _
   | exact ih5 _ _ _ _ _ _ _
   | exact ih6 _ _ _ _
   | exact butlerlaw11_asked.mono _ _ _
   | exact butlerlaw11_awake.mono _
   | exact butlerlaw11_table.mono _ _
   | exact butlerref11_Right.mono _ _
   | exact recipe_Fate.mono _ _ _
   | exact LeO.none _
   | refine LeO.ite ?_ ?_
   | refine LeO.bind ?_ (fun _ => ?_)
  ·intro y0 y1 y2 y3 y4 y5 y6 y7 y8 y9
   unfold butlerlaw11_RecipeOrders.j2
   repeat' first
   | (with_reducible exact ih0 _ _ _ _ _)
   | (with_reducible exact ih1 _ _ _ _ _ _ _ _)
   | (with_reducible exact ih2 _ _ _ _ _ _ _ _ _ _)
   | (with_reducible exact ih3 _ _ _ _ _ _ _ _ _ _)
   | (with_reducible exact ih4 _ _ _ _ _ _ _)
   | (with_reducible exact ih5 _ _ _ _ _ _ _)
   | (with_reducible exact ih6 _ _ _ _)
   | (with_reducible exact butlerlaw11_asked.mono _ _ _)
   | (with_reducible exact butlerlaw11_awake.mono _)
   | (with_reducible exact butlerlaw11_table.mono _ _)
   | (with_reducible exact butlerref11_Right.mono _ _)
   | (with_reducible exact recipe_Fate.mono _ _ _)
   | (with_reducible exact LeO.refl _)
   | (with_reducible exact LeO.none _)
   | (with_reducible refine LeO.ite ?_ ?_)
   | (with_reducible refine LeO.bind ?_ (fun _ => ?_))
   | exact ih0 _ _ _ _ _
   | exact ih1 _ _ _ _ _ _ _ _
   | exact ih2 _ _ _ _ _ _ _ _ _ _
   | exact ih3 _ _ _ _ _ _ _ _ _ _
   | exact ih4 _ _ _ _ _ _ _
   | exact ih5 _ _ _ _ _ _ _
   | exact ih6 _ _ _ _
   | exact butlerlaw11_asked.mono _ _ _
   | exact butlerlaw11_awake.mono _
   | exact butlerlaw11_table.mono _ _
   | exact butlerref11_Right.mono _ _
   | exact recipe_Fate.mono _ _ _
   | exact LeO.none _
   | refine LeO.ite ?_ ?_
   | refine LeO.bind ?_ (fun _ => ?_)
  ·intro y0 y1 y2 y3 y4 y5 y6 y7 y8 y9
   unfold butlerlaw11_RecipeOrders.l1
   repeat' first
   | (with_reducible exact ih0 _ _ _ _ _)
   | (with_reducible exact ih1 _ _ _ _ _ _ _ _)
   | (with_reducible exact ih2 _ _ _ _ _ _ _ _ _ _)
   | (with_reducible exact ih3 _ _ _ _ _ _ _ _ _ _)
   | (with_reducible exact ih4 _ _ _ _ _ _ _)
   | (with_reducible exact ih5 _ _ _ _ _ _ _)
   | (with_reducible exact ih6 _ _ _ _)
   | (with_reducible exact butlerlaw11_asked.mono _ _ _)
   | (with_reducible exact butlerlaw11_awake.mono _)
   | (with_reducible exact butlerlaw11_table.mono _ _)
   | (with_reducible exact butlerref11_Right.mono _ _)
   | (with_reducible exact recipe_Fate.mono _ _ _)
   | (with_reducible exact LeO.refl _)
   | (with_reducible exact LeO.none _)
   | (with_reducible refine LeO.ite ?_ ?_)
   | (with_reducible refine LeO.bind ?_ (fun _ => ?_))
   | exact ih0 _ _ _ _ _
   | exact ih1 _ _ _ _ _ _ _ _
   | exact ih2 _ _ _ _ _ _ _ _ _ _
   | exact ih3 _ _ _ _ _ _ _ _ _ _
   | exact ih4 _ _ _ _ _ _ _
   | exact ih5 _ _ _ _ _ _ _
   | exact ih6 _ _ _ _
   | exact butlerlaw11_asked.mono _ _ _
   | exact butlerlaw11_awake.mono _
   | exact butlerlaw11_table.mono _ _
   | exact butlerref11_Right.mono _ _
   | exact recipe_Fate.mono _ _ _
   | exact LeO.none _
   | refine LeO.ite ?_ ?_
   | refine LeO.bind ?_ (fun _ => ?_)
  ·intro y0 y1 y2 y3 y4 y5 y6
   unfold butlerlaw11_RecipeOrders.l2
   repeat' first
   | (with_reducible exact ih0 _ _ _ _ _)
   | (with_reducible exact ih1 _ _ _ _ _ _ _ _)
   | (with_reducible exact ih2 _ _ _ _ _ _ _ _ _ _)
   | (with_reducible exact ih3 _ _ _ _ _ _ _ _ _ _)
   | (with_reducible exact ih4 _ _ _ _ _ _ _)
   | (with_reducible exact ih5 _ _ _ _ _ _ _)
   | (with_reducible exact ih6 _ _ _ _)
   | (with_reducible exact butlerlaw11_asked.mono _ _ _)
   | (with_reducible exact butlerlaw11_awake.mono _)
   | (with_reducible exact butlerlaw11_table.mono _ _)
   | (with_reducible exact butlerref11_Right.mono _ _)
   | (with_reducible exact recipe_Fate.mono _ _ _)
   | (with_reducible exact LeO.refl _)
   | (with_reducible exact LeO.none _)
   | (with_reducible refine LeO.ite ?_ ?_)
   | (with_reducible refine LeO.bind ?_ (fun _ => ?_))
   | exact ih0 _ _ _ _ _
   | exact ih1 _ _ _ _ _ _ _ _
   | exact ih2 _ _ _ _ _ _ _ _ _ _
   | exact ih3 _ _ _ _ _ _ _ _ _ _
   | exact ih4 _ _ _ _ _ _ _
   | exact ih5 _ _ _ _ _ _ _
   | exact ih6 _ _ _ _
   | exact butlerlaw11_asked.mono _ _ _
   | exact butlerlaw11_awake.mono _
   | exact butlerlaw11_table.mono _ _
   | exact butlerref11_Right.mono _ _
   | exact recipe_Fate.mono _ _ _
   | exact LeO.none _
   | refine LeO.ite ?_ ?_
   | refine LeO.bind ?_ (fun _ => ?_)
  ·intro y0 y1 y2 y3 y4 y5 y6
   unfold butlerlaw11_RecipeOrders.l3
   repeat' first
   | (with_reducible exact ih0 _ _ _ _ _)
   | (with_reducible exact ih1 _ _ _ _ _ _ _ _)
   | (with_reducible exact ih2 _ _ _ _ _ _ _ _ _ _)
   | (with_reducible exact ih3 _ _ _ _ _ _ _ _ _ _)
   | (with_reducible exact ih4 _ _ _ _ _ _ _)
   | (with_reducible exact ih5 _ _ _ _ _ _ _)
   | (with_reducible exact ih6 _ _ _ _)
   | (with_reducible exact butlerlaw11_asked.mono _ _ _)
   | (with_reducible exact butlerlaw11_awake.mono _)
   | (with_reducible exact butlerlaw11_table.mono _ _)
   | (with_reducible exact butlerref11_Right.mono _ _)
   | (with_reducible exact recipe_Fate.mono _ _ _)
   | (with_reducible exact LeO.refl _)
   | (with_reducible exact LeO.none _)
   | (with_reducible refine LeO.ite ?_ ?_)
   | (with_reducible refine LeO.bind ?_ (fun _ => ?_))
   | exact ih0 _ _ _ _ _
   | exact ih1 _ _ _ _ _ _ _ _
   | exact ih2 _ _ _ _ _ _ _ _ _ _
   | exact ih3 _ _ _ _ _ _ _ _ _ _
   | exact ih4 _ _ _ _ _ _ _
   | exact ih5 _ _ _ _ _ _ _
   | exact ih6 _ _ _ _
   | exact butlerlaw11_asked.mono _ _ _
   | exact butlerlaw11_awake.mono _
   | exact butlerlaw11_table.mono _ _
   | exact butlerref11_Right.mono _ _
   | exact recipe_Fate.mono _ _ _
   | exact LeO.none _
   | refine LeO.ite ?_ ?_
   | refine LeO.bind ?_ (fun _ => ?_)
  ·intro y0 y1 y2 y3
   unfold butlerlaw11_RecipeOrders.l4
   repeat' first
   | (with_reducible exact ih0 _ _ _ _ _)
   | (with_reducible exact ih1 _ _ _ _ _ _ _ _)
   | (with_reducible exact ih2 _ _ _ _ _ _ _ _ _ _)
   | (with_reducible exact ih3 _ _ _ _ _ _ _ _ _ _)
   | (with_reducible exact ih4 _ _ _ _ _ _ _)
   | (with_reducible exact ih5 _ _ _ _ _ _ _)
   | (with_reducible exact ih6 _ _ _ _)
   | (with_reducible exact butlerlaw11_asked.mono _ _ _)
   | (with_reducible exact butlerlaw11_awake.mono _)
   | (with_reducible exact butlerlaw11_table.mono _ _)
   | (with_reducible exact butlerref11_Right.mono _ _)
   | (with_reducible exact recipe_Fate.mono _ _ _)
   | (with_reducible exact LeO.refl _)
   | (with_reducible exact LeO.none _)
   | (with_reducible refine LeO.ite ?_ ?_)
   | (with_reducible refine LeO.bind ?_ (fun _ => ?_))
   | exact ih0 _ _ _ _ _
   | exact ih1 _ _ _ _ _ _ _ _
   | exact ih2 _ _ _ _ _ _ _ _ _ _
   | exact ih3 _ _ _ _ _ _ _ _ _ _
   | exact ih4 _ _ _ _ _ _ _
   | exact ih5 _ _ _ _ _ _ _
   | exact ih6 _ _ _ _
   | exact butlerlaw11_asked.mono _ _ _
   | exact butlerlaw11_awake.mono _
   | exact butlerlaw11_table.mono _ _
   | exact butlerref11_Right.mono _ _
   | exact recipe_Fate.mono _ _ _
   | exact LeO.none _
   | refine LeO.ite ?_ ?_
   | refine LeO.bind ?_ (fun _ => ?_)
theorem butlerlaw11_RecipeOrders.mono : ∀ a0 a1 a2 k, LeO (butlerlaw11_RecipeOrders.f k a0 a1 a2) (butlerlaw11_RecipeOrders.f (k + 1) a0 a1 a2) := by
 intro a0 a1 a2 k
 obtain ⟨ih0, ih1, ih2, ih3, ih4, ih5, ih6⟩ := butlerlaw11_RecipeOrders.mono_l k
 unfold butlerlaw11_RecipeOrders.f
 repeat' first
   | (with_reducible exact ih0 _ _ _ _ _)
   | (with_reducible exact ih1 _ _ _ _ _ _ _ _)
   | (with_reducible exact ih2 _ _ _ _ _ _ _ _ _ _)
   | (with_reducible exact ih3 _ _ _ _ _ _ _ _ _ _)
   | (with_reducible exact ih4 _ _ _ _ _ _ _)
   | (with_reducible exact ih5 _ _ _ _ _ _ _)
   | (with_reducible exact ih6 _ _ _ _)
   | (with_reducible exact butlerlaw11_asked.mono _ _ _)
   | (with_reducible exact butlerlaw11_awake.mono _)
   | (with_reducible exact butlerlaw11_table.mono _ _)
   | (with_reducible exact butlerref11_Right.mono _ _)
   | (with_reducible exact recipe_Fate.mono _ _ _)
   | (with_reducible exact LeO.refl _)
   | (with_reducible exact LeO.none _)
   | (with_reducible refine LeO.ite ?_ ?_)
   | (with_reducible refine LeO.bind ?_ (fun _ => ?_))
   | exact ih0 _ _ _ _ _
   | exact ih1 _ _ _ _ _ _ _ _
   | exact ih2 _ _ _ _ _ _ _ _ _ _
   | exact ih3 _ _ _ _ _ _ _ _ _ _
   | exact ih4 _ _ _ _ _ _ _
   | exact ih5 _ _ _ _ _ _ _
   | exact ih6 _ _ _ _
   | exact butlerlaw11_asked.mono _ _ _
   | exact butlerlaw11_awake.mono _
   | exact butlerlaw11_table.mono _ _
   | exact butlerref11_Right.mono _ _
   | exact recipe_Fate.mono _ _ _
   | exact LeO.none _
   | refine LeO.ite ?_ ?_
   | refine LeO.bind ?_ (fun _ => ?_)

end
end Go.Proofs.Ytgahkloigbhgdaa.PR
