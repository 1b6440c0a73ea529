import Derived.Test.YtgahkloigbhgdaaRq
import Derived.Test.YtgahkloigbhgdaaPRx0
import Derived.Test.YtgahkloigbhgdaaPRx1
import Derived.Test.YtgahkloigbhgdaaPRx2
namespace Go.Proofs.Ytgahkloigbhgdaa.PR
open Go.RowKit Go.Proofs.YtgahkloigbhgdaaW.PrintWords Go.Proofs.YtgahkloigbhgdaaW.PrintLast Go.Proofs.YtgahkloigbhgdaaW.PrintMore
noncomputable section
attribute [local go_sem] max2_int min2_int max_two min_two max_three min_three max_four min_four   -- for this text's walks alone
set_option linter.unusedVariables false
set_option linter.unusedSimpArgs false

/-! ### butlerlaw11_awake: function 8 -/
def butlerlaw11_awake.f (k : Nat)  : Option (Bool) := (butlerlaw11_some.f).bind fun t145 => ((recipe_Right.f k t145).bind fun t148 => ((recipe_Right.f k ([] : List (S43))).bind fun t149 => ((butlerlaw11_some.f).bind fun t150 => ((recipe_Rings.f k t150).bind fun t153 => ((butlerlaw11_some.f).bind fun t156 => ((recipe_Fate.f k t156 1).bind fun bt159 => ((butlerlaw11_some.f).bind fun t161 => ((recipe_Fate.f k t161 4).bind fun bt164 => ((butlerlaw11_some.f).bind fun t166 => ((recipe_Order.f t166 (([4, 5, 1] : List Int))).bind fun t172 => (if (t153.length : Int) = 2 then (if (t172.length : Int) = 3 then (if t148 = 0 then (if t149 = 110 then (if 0 < (t153.length : Int) then (if (rd t153 0) = 2 then (if bt159.1 = true then (if bt159.2 = 17 then (if bt164.1 = true then (some false) else (if 0 < (t172.length : Int) then (if (rd t172 0) = 0 then (if 1 < (t172.length : Int) then (if (rd t172 1) = 1 then (if 2 < (t172.length : Int) then (some ((rd t172 2) == 5)) else (none)) else (some false)) else (none)) else (some false)) else (none))) else (some false)) else (some false)) else (some false)) else (none)) else (some false)) else (some false)) else (some false)) else (some false))))))))))))
theorem butlerlaw11_awake.mono : ∀ k, LeO (butlerlaw11_awake.f k ) (butlerlaw11_awake.f (k + 1) ) := by
 intro  k
 unfold butlerlaw11_awake.f
 repeat' first
   | (with_reducible exact recipe_Fate.mono _ _ _)
   | (with_reducible exact recipe_Right.mono _ _)
   | (with_reducible exact recipe_Rings.mono _ _)
   | (with_reducible exact LeO.refl _)
   | (with_reducible exact LeO.none _)
   | (with_reducible refine LeO.ite ?_ ?_)
   | (with_reducible refine LeO.bind ?_ (fun _ => ?_))
   | exact recipe_Fate.mono _ _ _
   | exact recipe_Right.mono _ _
   | exact recipe_Rings.mono _ _
   | exact LeO.none _
   | refine LeO.ite ?_ ?_
   | refine LeO.bind ?_ (fun _ => ?_)

end
end Go.Proofs.Ytgahkloigbhgdaa.PR
