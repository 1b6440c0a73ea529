/- history.right, plainly. -/
import Derived.Test.YtakhipedjccpkaaDoorHh
import Derived.Test.YtakhipedjccpkaaDoorPHx7
namespace Go.Proofs.YtakhipedjccpkaaDoor.PH
open Go.RowKit Go.Proofs.YtakhipedjccpkaaDoorW.PrintWords Go.Proofs.YtakhipedjccpkaaDoorW.PrintLast Go.Proofs.YtakhipedjccpkaaDoorW.PrintMore
set_option linter.unusedVariables false
set_option linter.unusedSimpArgs false

def fitsAt (l : List S33) (i j : Nat) : Prop := (rd_T33 l (i : Int)).f0 = (rd_T33 l (j : Int)).f0 → aheadB (rd_T33 l (i : Int)) (rd_T33 l (j : Int)) = true ∨ aheadB (rd_T33 l (j : Int)) (rd_T33 l (i : Int)) = true
instance (l : List S33) (i j : Nat) : Decidable (fitsAt l i j) := by unfold fitsAt; infer_instance
def timesAt (l : List S33) (i : Nat) : Prop := 0 ≤ (rd_T33 l (i : Int)).f4 ∧ ((rd_T33 l (i : Int)).f5 = -1 ∨ (rd_T33 l (i : Int)).f4 < (rd_T33 l (i : Int)).f5)
def rightAt (l : List S33) (i : Nat) : Prop := timesAt l i ∧ ∀ j < i, fitsAt l i j
/-- Events are a history. -/
def rightP (l : List S33) : Prop := ∀ i < l.length, rightAt l i
theorem wrap_suc {i N : Nat} (h : i < N) (hN : N ≤ 12) : wrap64 ((i : Int) + 1) = ((i + 1 : Nat) : Int) := by rw [wrap_i64 (by unfold I64; omega)]; omega
theorem rd_take {l : List S33} {i j : Nat} (h : j < i) (hi : i ≤ l.length) : rd_T33 (l.take i) (j : Int) = rd_T33 l (j : Int) := by
  unfold rd_T33
  simp only [Int.toNat_natCast, List.getD_eq_getElem?_getD]
  rw [List.getElem?_take_of_lt h]
theorem right_l1 {l : List S33} (hl : l.length ≤ 12) {i : Nat} (hi : i < l.length) : ∀ (d K j : Nat), j + d = i → (∀ j' < j, fitsAt l i j') →
    history_right.l1 (K + d + 1) l l (l.length : Int) (i : Int) (l.take i) (i : Int) (j : Int) (rd_T33 l i).f0 (rd_T33 l i).f1 (rd_T33 l i).f2 (rd_T33 l i).f3 (rd_T33 l i).f4 (rd_T33 l i).f5 (rd_T33 l i).f6.f0 (rd_T33 l i).f6.f1
      = if (∀ j' < i, fitsAt l i j') then history_right.l0 K l l (l.length : Int) ((i + 1 : Nat) : Int) else some false
  | 0, K, j, h, hf => by
    obtain rfl : j = i := by omega
    rw [if_pos hf]
    simp only [history_right.l1, Nat.add_zero]
    rw [if_neg (by omega), wrap_suc hi hl]
  | d + 1, K, j, h, hf => by
    have hj : j < i := by omega
    have ht : (l.take i).length = i := by simp; omega
    have next : fitsAt l i j → history_right.l1 (K + d + 1) l l (l.length : Int) (i : Int) (l.take i) (i : Int) (wrap64 ((j : Int) + 1)) (rd_T33 l i).f0 (rd_T33 l i).f1 (rd_T33 l i).f2 (rd_T33 l i).f3 (rd_T33 l i).f4 (rd_T33 l i).f5 (rd_T33 l i).f6.f0 (rd_T33 l i).f6.f1
      = if (∀ j' < i, fitsAt l i j') then history_right.l0 K l l (l.length : Int) ((i + 1 : Nat) : Int) else some false := by
      intro hfit
      rw [wrap_suc hj (by omega)]
      refine right_l1 hl hi d K (j + 1) (by omega) (fun j' hj' => ?_)
      rcases Nat.lt_or_ge j' j with h' | h'
      · exact hf j' h'
      · obtain rfl : j' = j := by omega
        exact hfit
    rw [show K + (d + 1) + 1 = (K + d + 1) + 1 by omega]
    unfold history_right.l1
    rw [if_pos (by omega), if_pos (by omega), if_pos (by rw [ht]; omega), rd_take hj (by omega)]
    by_cases e0 : (rd_T33 l (i : Int)).f0 = (rd_T33 l (j : Int)).f0
    · rw [if_pos e0, ahead_some]
      simp only [Option.bind_some]
      by_cases e1 : aheadB (rd_T33 l (i : Int)) (rd_T33 l (j : Int)) = true
      · rw [if_pos e1]; exact next (fun _ => .inl e1)
      · rw [if_neg e1, ahead_some]
        simp only [Option.bind_some]
        by_cases e2 : aheadB (rd_T33 l (j : Int)) (rd_T33 l (i : Int)) = true
        · rw [if_pos e2]; exact next (fun _ => .inr e2)
        · rw [if_neg e2, if_neg]
          intro hall
          rcases hall j hj e0 with h' | h'
          · exact e1 h'
          · exact e2 h'
    · rw [if_neg e0]; exact next (fun h' => absurd h' e0)
open Classical in
theorem right_l0 {l : List S33} (hl : l.length ≤ 12) : ∀ (d i : Nat), i + d = l.length → ∃ K, history_right.l0 K l l (l.length : Int) (i : Int) = some (decide (∀ i', i ≤ i' → i' < l.length → rightAt l i'))
  | 0, i, h => by
    refine ⟨1, ?_⟩
    unfold history_right.l0
    rw [if_neg (by omega), decide_eq_true (fun i' h1 h2 => by omega)]
  | d + 1, i, h => by
    obtain ⟨K, hK⟩ := right_l0 hl d (i + 1) (by omega)
    have hi : i < l.length := by omega
    refine ⟨K + i + 1 + 1 + 1, ?_⟩
    have hj1 : ∀ bb : Bool, (bb = true ↔ ¬ timesAt l i) → history_right.j1 (K + i + 1 + 1) l (i : Int) l (l.length : Int) (i : Int) bb (rd_T33 l i).f0 (rd_T33 l i).f1 (rd_T33 l i).f2 (rd_T33 l i).f3 (rd_T33 l i).f4 (rd_T33 l i).f5 (rd_T33 l i).f6.f0 (rd_T33 l i).f6.f1 = some (decide (∀ i', i ≤ i' → i' < l.length → rightAt l i')) := by
      intro bb hb
      unfold history_right.j1
      by_cases hbt : bb = true
      · rw [if_pos hbt, decide_eq_false]
        intro hall
        exact hb.1 hbt (hall i (Nat.le_refl _) hi).1
      · have ht : timesAt l i := Classical.byContradiction fun h' => hbt (hb.2 h')
        rw [if_neg hbt, if_pos (by omega), if_pos (by omega)]
        simp only [Option.bind_some, Int.toNat_natCast]
        rw [show ((l.take i).length : Int) = (i : Int) by simp; omega]
        have := right_l1 hl hi i K 0 (by omega) (by intro j' hj'; omega)
        rw [show ((0 : Nat) : Int) = 0 from rfl] at this
        rw [this]
        by_cases hf : ∀ j' < i, fitsAt l i j'
        · rw [if_pos hf, hK]
          congr 1
          rw [decide_eq_decide]
          constructor
          · intro hall i' h1 h2
            rcases Nat.eq_or_lt_of_le h1 with rfl | h1
            · exact ⟨ht, hf⟩
            · exact hall i' h1 h2
          · intro hall i' h1 h2; exact hall i' (by omega) h2
        · rw [if_neg hf, decide_eq_false]
          intro hall
          exact hf (hall i (Nat.le_refl _) hi).2
    unfold history_right.l0
    rw [if_pos (by omega), if_pos (by omega), if_pos (by omega)]
    split
    · rename_i h0
      exact hj1 true (by simp [timesAt]; omega)
    · rename_i h0
      split
      · rename_i h1
        exact hj1 false (by simp [timesAt, h1]; omega)
      · rename_i h1
        exact hj1 _ (by simp [timesAt, h1]; omega)
open Classical in
theorem right_some {l : List S33} (hl : l.length ≤ 12) : ∃ K, history_right.f K l = some (decide (rightP l)) := by
  obtain ⟨K, hK⟩ := right_l0 hl l.length 0 (by omega)
  refine ⟨K, ?_⟩
  unfold history_right.f
  rw [show ((0 : Nat) : Int) = 0 from rfl] at hK
  rw [hK]
  congr 1
  rw [decide_eq_decide]
  exact ⟨fun h i hi => h i (Nat.zero_le _) hi, fun h i _ hi => h i hi⟩
end Go.Proofs.YtakhipedjccpkaaDoor.PH
