/- The document's examples hold: awake. Conditions: none. -/
import Derived.Test.YtgahkloigbhgdaaRt
import Derived.Test.YtgahkloigbhgdaaPRx3
namespace Go.Proofs.Ytgahkloigbhgdaa.PR
open Go.RowKit Go.Proofs.YtgahkloigbhgdaaW.PrintWords Go.Proofs.YtgahkloigbhgdaaW.PrintLast Go.Proofs.YtgahkloigbhgdaaW.PrintMore
theorem some6 : butlerlaw11_some.f = some L6 := rfl
theorem awake_ev : Ev (fun k => butlerlaw11_awake.f k) true := by
  unfold butlerlaw11_awake.f
  simp only [some6, Option.bind_some]
  obtain ⟨K1, h1⟩ := Right_ev L6
  obtain ⟨K2, h2⟩ := Right_ev []
  obtain ⟨K3, h3⟩ := Rings_ev L6
  obtain ⟨K4, h4⟩ := Fate_ev L6 1
  obtain ⟨K5, h5⟩ := Fate_ev L6 4
  refine ⟨K1 + K2 + K3 + K4 + K5, fun k hk => ?_⟩
  replace h1 := h1 k (by omega)
  replace h2 := h2 k (by omega)
  replace h3 := h3 k (by omega)
  replace h4 := h4 k (by omega)
  replace h5 := h5 k (by omega)
  simp only at h1 h2 h3 h4 h5 ⊢
  rw [h1, h2, h3, h4, h5]
  simp only [Option.bind_some, recipe_Order.f]
  rw [right6, right_nil, rings6, fate6_1, fate6_4, order6]
  rfl
end Go.Proofs.Ytgahkloigbhgdaa.PR
