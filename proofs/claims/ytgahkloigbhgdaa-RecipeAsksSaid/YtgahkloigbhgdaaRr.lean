/- recipe.Right in plain words. Conditions: none. -/
import Derived.Test.YtgahkloigbhgdaaPRx1
import Derived.Test.YtgahkloigbhgdaaRf
namespace Go.Proofs.Ytgahkloigbhgdaa.PR
open Go.RowKit Go.Proofs.YtgahkloigbhgdaaW.PrintWords Go.Proofs.YtgahkloigbhgdaaW.PrintLast Go.Proofs.YtgahkloigbhgdaaW.PrintMore
set_option linter.unusedVariables false
set_option linter.unusedSimpArgs false

def lev (l : List S43) (k : Int) : Int := (rd_T43 l k).f1
def fin' (l : List S43) (k : Int) : Int := (rd_T43 l k).f4
def NeedOk (l : List S43) (k m : Int) : Prop := 0 ≤ m ∧ m < (l.length : Int) ∧ lev l m ≤ lev l k
def SelfOk (l : List S43) (k : Int) : Prop := 0 ≤ lev l k ∧ lev l k < 8 ∧ 0 ≤ act l k ∧ act l k ≤ 2 ∧ 0 ≤ fin' l k ∧ fin' l k ≤ 2 ∧ -1000 ≤ valu l k ∧ valu l k ≤ 1000
def OneOk (l : List S43) (k : Int) : Prop := (∀ j, 0 ≤ j → j < ((nds l k).length : Int) → NeedOk l k (rd (nds l k) j)) ∧ SelfOk l k
def Long (l : List S43) : Prop := l.length > 100 ∨ ∃ k, 0 ≤ k ∧ k < (l.length : Int) ∧ (nds l k).length > 20
def AllOk (l : List S43) : Prop := 0 < l.length ∧ ∀ k, 0 ≤ k → k < (l.length : Int) → OneOk l k
open Classical in
/-- What Right answers. -/
noncomputable def rightN (l : List S43) : Int := if Long l then 2 else if AllOk l then 0 else 110
theorem rightN_zero {l : List S43} : rightN l = 0 ↔ ¬ Long l ∧ AllOk l := by
  unfold rightN
  split
  · rename_i h; simp [h]
  · rename_i h; split
    · rename_i h'; simp [h, h']
    · rename_i h'; simp [h, h']
theorem rgt_of {l : List S43} (h : rightN l = 0) : Rgt l ∧ 0 < l.length := by
  obtain ⟨h1, h2, h3⟩ := rightN_zero.1 h
  unfold Long at h1
  have few : l.length ≤ 100 := by omega
  have each : ∀ k, 0 ≤ k → k < (l.length : Int) → (nds l k).length ≤ 20 := fun k a b => by
    by_cases hc : (nds l k).length ≤ 20
    · exact hc
    · exact (h1 (.inr ⟨k, a, b, by omega⟩)).elim
  exact ⟨⟨⟨few, each, fun k a b i c d => ⟨((h3 k a b).1 i c d).1, ((h3 k a b).1 i c d).2.1⟩⟩, fun k a b => ⟨(h3 k a b).2.2.2.2.2.2.2.1, (h3 k a b).2.2.2.2.2.2.2.2⟩⟩, h2⟩

theorem wrap_up {i : Int} (h0 : 0 ≤ i) (h : i < 9223372036854775807) : wrap64 (i + 1) = i + 1 := by unfold wrap64; omega

theorem right_tells (l : List S43) (k : Int) (hn : (nds l k).length ≤ 1000) : ∀ (d : Nat) (K : Nat) (i : Int), 0 ≤ i → ((nds l k).length : Int) - i = d → d < K →
    ∃ b, recipe_right.l0 K l (nds l k) ((nds l k).length : Int) i (nds l k) (lev l k) (act l k) (valu l k) (fin' l k) = some b ∧ (b = true ↔ (∀ j, i ≤ j → j < ((nds l k).length : Int) → NeedOk l k (rd (nds l k) j)) ∧ SelfOk l k) := by
  intro d
  induction d with
  | zero =>
    intro K i h0 hd hK
    obtain ⟨K, rfl⟩ : ∃ m, K = m + 1 := ⟨K - 1, by omega⟩
    simp only [recipe_right.l0]
    rw [if_neg (by omega)]
    have hv : (∀ j, i ≤ j → j < ((nds l k).length : Int) → NeedOk l k (rd (nds l k) j)) := fun j a b => by omega
    unfold SelfOk
    generalize lev l k = a, act l k = b, valu l k = c, fin' l k = e
    (repeat' split) <;> refine ⟨_, rfl, ?_⟩ <;> simp only [decide_eq_true_eq, Bool.false_eq_true] <;> exact ⟨fun h => ⟨hv, by first | omega | exact h.elim⟩, fun h => by have := h.2; omega⟩
  | succ d ih =>
    intro K i h0 hd hK
    obtain ⟨K, rfl⟩ : ∃ m, K = m + 1 := ⟨K - 1, by omega⟩
    obtain ⟨b, hb, hbb⟩ := ih K (i + 1) (by omega) (by omega) (by omega)
    simp only [recipe_right.l0]
    rw [if_pos (show i < ((nds l k).length : Int) by omega), if_pos h0, if_pos (show i < ((nds l k).length : Int) by omega), wrap_up h0 (by omega), hb]
    have no : ¬ NeedOk l k (rd (nds l k) i) → ∃ b', some false = some b' ∧ (b' = true ↔ (∀ j, i ≤ j → j < ((nds l k).length : Int) → NeedOk l k (rd (nds l k) j)) ∧ SelfOk l k) := fun hn => ⟨false, rfl, by
      constructor
      · intro h; cases h
      · intro h; exact (hn (h.1 i (by omega) (by omega))).elim⟩
    by_cases h1 : rd (nds l k) i < 0
    · rw [if_pos h1]; exact no (fun h => by have := h.1; omega)
    rw [if_neg h1]
    by_cases h2 : rd (nds l k) i ≥ (l.length : Int)
    · rw [if_pos h2]; exact no (fun h => by have := h.2.1; omega)
    rw [if_neg h2, if_pos (by omega), if_pos (by omega)]
    by_cases h3 : lev l k < (rd_T43 l (rd (nds l k) i)).f1
    · rw [if_pos h3]; exact no (fun h => by have := h.2.2; unfold lev at this h3; omega)
    rw [if_neg h3]
    refine ⟨b, rfl, hbb.trans ?_⟩
    constructor
    · rintro ⟨ha, hs⟩
      refine ⟨fun j a c => ?_, hs⟩
      by_cases e : j = i
      · subst e; exact ⟨by omega, by omega, by unfold lev at h3 ⊢; omega⟩
      · exact ha j (by omega) c
    · rintro ⟨ha, hs⟩; exact ⟨fun j a c => ha j (by omega) c, hs⟩

theorem Right_l1 (l : List S43) (hL : ¬ Long l) : ∀ (d : Nat) (i : Int), 0 ≤ i → (l.length : Int) - i = d → ∃ K r, recipe_Right.l1 K l l (l.length : Int) i = some r ∧ (r = 0 ∨ r = 110) ∧ (r = 0 ↔ ∀ k, i ≤ k → k < (l.length : Int) → OneOk l k) := by
  have few : l.length ≤ 100 := by unfold Long at hL; omega
  intro d
  induction d with
  | zero =>
    intro i h0 hd
    refine ⟨1, 0, ?_, .inl rfl, fun _ k a b => by omega, fun _ => rfl⟩
    simp only [recipe_Right.l1]; rw [if_neg (by omega)]
  | succ d ih =>
    intro i h0 hd
    have hi : i < (l.length : Int) := by omega
    obtain ⟨K, r, hK, hr, hrr⟩ := ih (i + 1) (by omega) (by omega)
    have h20 : (nds l i).length ≤ 20 := by
      by_cases hc : (nds l i).length ≤ 20
      · exact hc
      · exact (hL (.inr ⟨i, h0, hi, by omega⟩)).elim
    obtain ⟨b, hb, hbb⟩ := right_tells l i (by omega) (nds l i).length ((nds l i).length + 1) 0 (by omega) (by omega) (by omega)
    have hb' : recipe_right.f ((nds l i).length + 1) l (nds l i) (lev l i) (act l i) (valu l i) (fin' l i) = some b := hb
    have hone : b = true ↔ OneOk l i := hbb
    obtain ⟨K2, hk1, hk2⟩ := together (recipe_Right.mono_l · |>.2 l l (l.length : Int) (i + 1)) (fun k => recipe_right.mono l (nds l i) (lev l i) (act l i) (valu l i) (fin' l i) k) ⟨K, hK⟩ ⟨_, hb'⟩
    have step : recipe_Right.l1 (K2 + 1) l l (l.length : Int) i = if b = true then some r else some 110 := by
      simp only [recipe_Right.l1]
      rw [if_pos hi, if_pos h0, if_pos hi, show recipe_right.f K2 l (rd_T43 l i).f0 (rd_T43 l i).f1 (rd_T43 l i).f2 (rd_T43 l i).f3 (rd_T43 l i).f4 = some b from hk2]
      simp only [Option.bind_some]
      rw [wrap_up h0 (by omega), hk1]
    cases b with
    | true =>
      refine ⟨K2 + 1, r, by rw [step, if_pos rfl], hr, hrr.trans ?_⟩
      have h1 := hone.1 rfl
      constructor
      · intro h k a c
        by_cases e : k = i
        · subst e; exact h1
        · exact h k (by omega) c
      · intro h k a c; exact h k (by omega) c
    | false =>
      refine ⟨K2 + 1, 110, by rw [step, if_neg (by decide)], .inr rfl, ?_⟩
      constructor
      · intro h; cases h
      · intro h; have := hone.2 (h i (by omega) hi); cases this
theorem Right_l0 (l : List S43) (few : l.length ≤ 100) : ∀ (d : Nat) (i : Int), 0 ≤ i → (l.length : Int) - i = d → (∀ k, 0 ≤ k → k < i → (nds l k).length ≤ 20) → ∃ K, recipe_Right.l0 K l l (l.length : Int) i = some (rightN l) := by
  intro d
  induction d with
  | zero =>
    intro i h0 hd hs
    have hL : ¬ Long l := by
      rintro (h | ⟨k, a, b, c⟩)
      · omega
      · have := hs k a (by omega); omega
    by_cases hz : (l.length : Int) = 0
    · refine ⟨1, ?_⟩
      simp only [recipe_Right.l0]; rw [if_neg (by omega), if_pos hz]
      unfold rightN; rw [if_neg hL, if_neg (fun h => by have := h.1; omega)]
    · obtain ⟨K, r, hK, hr, hrr⟩ := Right_l1 l hL l.length 0 (by omega) (by omega)
      refine ⟨K + 1, ?_⟩
      simp only [recipe_Right.l0]; rw [if_neg (by omega), if_neg hz, hK]
      unfold rightN; rw [if_neg hL]
      by_cases ha : AllOk l
      · rw [if_pos ha, hrr.2 ha.2]
      · rw [if_neg ha]
        rcases hr with h | h
        · exact (ha ⟨by omega, hrr.1 h⟩).elim
        · rw [h]
  | succ d ih =>
    intro i h0 hd hs
    have hi : i < (l.length : Int) := by omega
    by_cases h20 : (((rd_T43 l i).f0).length : Int) > 20
    · refine ⟨1, ?_⟩
      simp only [recipe_Right.l0]; rw [if_pos hi, if_pos h0, if_pos hi, if_pos h20]
      unfold rightN; rw [if_pos (.inr ⟨i, h0, hi, by unfold nds; omega⟩)]
    · obtain ⟨K, hK⟩ := ih (i + 1) (by omega) (by omega) (fun k a b => by
        by_cases e : k = i
        · subst e; unfold nds; omega
        · exact hs k a (by omega))
      refine ⟨K + 1, ?_⟩
      simp only [recipe_Right.l0]; rw [if_pos hi, if_pos h0, if_pos hi, if_neg h20, wrap_up h0 (by omega), hK]
theorem Right_tells (l : List S43) : ∃ K, recipe_Right.f K l = some (rightN l) := by
  unfold recipe_Right.f
  by_cases h : (l.length : Int) > 100
  · refine ⟨0, ?_⟩
    rw [if_pos h]; unfold rightN; rw [if_pos (.inl (by omega))]
  · obtain ⟨K, hK⟩ := Right_l0 l (by omega) l.length 0 (by omega) (by omega) (fun k a b => by omega)
    exact ⟨K, by rw [if_neg h]; exact hK⟩
end Go.Proofs.Ytgahkloigbhgdaa.PR
