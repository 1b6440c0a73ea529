/- heavy answers with some fuel. -/
import Derived.Test.YtakhipedjccpkaaDoorHm
import Derived.Test.YtakhipedjccpkaaDoorPHx9
namespace Go.Proofs.YtakhipedjccpkaaDoor.PH
open Go.RowKit Go.Proofs.YtakhipedjccpkaaDoorW.PrintWords Go.Proofs.YtakhipedjccpkaaDoorW.PrintLast Go.Proofs.YtakhipedjccpkaaDoorW.PrintMore
set_option linter.unusedVariables false
set_option linter.unusedSimpArgs false
theorem heavy_l1 {l : List S33} (hl : l.length ≤ 12) {i K : Nat} (hi : i < l.length) (h0 : ∀ n : Int, ∃ r, butlerlaw03_heavy.l0 K l n ((i + 1 : Nat) : Int) = some r) :
    ∀ (d j : Nat) (n p : Int), j + d = l.length → ∃ r, butlerlaw03_heavy.l1 (K + d + 1) l n (i : Int) p (j : Int) = some r
  | 0, j, n, p, h => by
    unfold butlerlaw03_heavy.l1
    rw [if_neg (by omega), if_pos (by omega), if_pos (by omega), wrap_suc hi hl, Nat.add_zero]
    split
    · split
      · exact ⟨_, rfl⟩
      · exact h0 _
    · split
      · exact ⟨_, rfl⟩
      · exact h0 _
  | d + 1, j, n, p, h => by
    have next : ∀ p : Int, ∃ r, butlerlaw03_heavy.l1 (K + (d + 1)) l n (i : Int) p (wrap64 ((j : Int) + 1)) = some r := by
      intro p
      rw [wrap_suc (show j < l.length by omega) hl]
      exact heavy_l1 hl hi h0 d (j + 1) n p (by omega)
    unfold butlerlaw03_heavy.l1
    rw [if_pos (by omega), if_pos (by omega), if_pos (by omega), if_pos (by omega)]
    repeat' split
    all_goals exact next _
theorem heavy_l0 {l : List S33} (hl : l.length ≤ 12) : ∀ (d i : Nat), i + d = l.length → ∃ K, ∀ n : Int, ∃ r, butlerlaw03_heavy.l0 K l n (i : Int) = some r
  | 0, i, h => ⟨1, fun n => ⟨false, by unfold butlerlaw03_heavy.l0; rw [if_neg (by omega)]⟩⟩
  | d + 1, i, h => by
    obtain ⟨K, hK⟩ := heavy_l0 hl d (i + 1) (by omega)
    refine ⟨K + l.length + 1 + 1, fun n => ?_⟩
    obtain ⟨r, hr⟩ := heavy_l1 hl (show i < l.length by omega) hK l.length 0 n 1 (by omega)
    refine ⟨r, ?_⟩
    unfold butlerlaw03_heavy.l0
    rw [if_pos (by omega)]
    exact hr
theorem heavy_some (l : List S33) : ∃ K r, butlerlaw03_heavy.f K l = some r := by
  by_cases hl : l.length ≤ 12
  · obtain ⟨K, hK⟩ := heavy_l0 hl l.length 0 (by omega)
    obtain ⟨r, hr⟩ := hK 1
    refine ⟨K, r, ?_⟩
    unfold butlerlaw03_heavy.f
    rw [if_neg (by omega)]
    exact hr
  · exact ⟨0, false, by unfold butlerlaw03_heavy.f; rw [if_pos (by omega)]⟩
end Go.Proofs.YtakhipedjccpkaaDoor.PH
