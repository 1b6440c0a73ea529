/- The document's examples hold: awake. Conditions: none. -/
import Derived.Test.YtgahkloigbhgdaaRt
import Derived.Test.YtgahkloigbhgdaaPRy3
namespace Go.Proofs.Ytgahkloigbhgdaa.PR
open Go.RowKit Go.Proofs.YtgahkloigbhgdaaW.PrintWords Go.Proofs.YtgahkloigbhgdaaW.PrintLast Go.Proofs.YtgahkloigbhgdaaW.PrintMore
theorem some6 : butlerlaw11_some.f = some L6 := rfl
theorem awake_ev : Ev (fun k => butlerlaw11_awake.f k) true := by
  unfold butlerlaw11_awake.f
  simp only [some6, Option.bind_some]
  obtain ⟨K1, h1⟩ := Right_ev L6
  obtain ⟨K2, h2⟩ := Right_ev []
  obtain ⟨K3, h3⟩ := Rings_ev L6
  obtain ⟨K4, h4⟩ := Fate_ev L6 1
  obtain ⟨K5, h5⟩ := Fate_ev L6 4
  refine ⟨K1 + K2 + K3 + K4 + K5, fun k hk => ?_⟩
  replace h1 := h1 k (by omega)
  replace h2 := h2 k (by omega)
  replace h3 := h3 k (by omega)
  replace h4 := h4 k (by omega)
  replace h5 := h5 k (by omega)
  simp only at h1 h2 h3 h4 h5 ⊢
  rw [h1, h2, h3, h4, h5]
  simp only [Option.bind_some, recipe_Order.f]
  rw [right6, right_nil, rings6, fate6_1, fate6_4, order6]
  rfl
/-- What is told at some number of rounds is what is told from some number on. -/
theorem Ev.one {α : Type} {g : Nat → Option α} {r t : α} {k : Nat} (hm : ∀ k, LeO (g k) (g (k + 1))) (he : Ev g r) (h : g k = some t) : t = r := by
  obtain ⟨K, hK⟩ := he
  obtain ⟨K', hK'⟩ := Ev.of hm h
  have a := hK (K + K') (by omega)
  have b := hK' (K + K') (by omega)
  rw [a] at b
  exact (Option.some.inj b).symm
/-- What the calls in awake answer. -/
theorem awake_vals {k : Nat} {t145 t150 t156 t161 t166 : List S43} {t148 t149 t160 t165 : Int} {t153 t172 y169 : List Int} {t159 t164 : Bool} (A1 : butlerlaw11_some.f = some t145) (A2 : recipe_Right.f k t145 = some t148)
    (A3 : recipe_Right.f k [] = some t149) (A4 : butlerlaw11_some.f = some t150) (A5 : recipe_Rings.f k t150 = some t153) (A6 : butlerlaw11_some.f = some t156) (A7 : recipe_Fate.f k t156 1 = some (t159, t160))
    (A8 : butlerlaw11_some.f = some t161) (A9 : recipe_Fate.f k t161 4 = some (t164, t165)) (A10 : butlerlaw11_some.f = some t166) (N : y169 = [4, 5, 1]) (A11 : recipe_Order.f t166 y169 = some t172) :
    (t153.length : Int) = 2 ∧ (t172.length : Int) = 3 ∧ t148 = 0 ∧ t149 = 110 ∧ rd t153 0 = 2 ∧ t159 = true ∧ t160 = 17 ∧ t164 = false ∧ rd t172 0 = 0 ∧ rd t172 1 = 1 := by
  rw [some6] at A1 A4 A6 A8 A10
  obtain rfl := Option.some.inj A1
  obtain rfl := Option.some.inj A4
  obtain rfl := Option.some.inj A6
  obtain rfl := Option.some.inj A8
  obtain rfl := Option.some.inj A10
  subst N
  have e2 := Ev.one (g := fun k => recipe_Right.f k L6) (recipe_Right.mono L6) (Right_ev L6) A2
  have e3 := Ev.one (g := fun k => recipe_Right.f k []) (recipe_Right.mono []) (Right_ev []) A3
  have e5 := Ev.one (g := fun k => recipe_Rings.f k L6) (recipe_Rings.mono L6) (Rings_ev L6) A5
  have e7 := Ev.one (g := fun k => recipe_Fate.f k L6 1) (recipe_Fate.mono L6 1) (Fate_ev L6 1) A7
  have e9 := Ev.one (g := fun k => recipe_Fate.f k L6 4) (recipe_Fate.mono L6 4) (Fate_ev L6 4) A9
  have e11 : t172 = orderOf L6 [4, 5, 1] := (Option.some.inj A11).symm
  rw [right6] at e2
  rw [right_nil] at e3
  rw [rings6] at e5
  rw [fate6_1] at e7
  rw [fate6_4] at e9
  rw [order6] at e11
  obtain ⟨rfl, rfl⟩ := Prod.mk.inj e7
  obtain ⟨rfl, rfl⟩ := Prod.mk.inj e9
  subst e2 e3 e5 e11
  exact ⟨rfl, rfl, rfl, rfl, rfl, rfl, rfl, rfl, rfl, rfl⟩
end Go.Proofs.Ytgahkloigbhgdaa.PR
