/- RecipeNames: the document's examples hold and the numbers that the chapter names are what it says. Conditions: none. -/
import Derived.Test.YtgahkloigbhgdaaPRx4
import Derived.Test.YtgahkloigbhgdaaRu
namespace Go.Proofs.Ytgahkloigbhgdaa.Pure
open Go.RowKit Go.Proofs.Ytgahkloigbhgdaa.PR Go.Proofs.YtgahkloigbhgdaaW.PrintWords Go.Proofs.YtgahkloigbhgdaaW.PrintLast

theorem RecipeNames : butlerlaw11_RecipeNames.Pure := by
  obtain ⟨K, h⟩ := awake_ev
  refine ⟨K, ?_⟩
  have := h K (Nat.le_refl _)
  simp only at this
  unfold butlerlaw11_RecipeNames.f
  rw [this]
  rfl

end Go.Proofs.Ytgahkloigbhgdaa.Pure
