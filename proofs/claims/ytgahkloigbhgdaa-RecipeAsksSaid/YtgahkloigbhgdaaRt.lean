/- What Rings, Fate and Order tell, in plain words; and the document's examples. Conditions: none. -/
import Derived.Test.YtgahkloigbhgdaaPRx2
import Derived.Test.YtgahkloigbhgdaaRq
namespace Go.Proofs.Ytgahkloigbhgdaa.PR
open Go.RowKit Go.Proofs.YtgahkloigbhgdaaW.PrintWords Go.Proofs.YtgahkloigbhgdaaW.PrintLast Go.Proofs.YtgahkloigbhgdaaW.PrintMore
set_option linter.unusedVariables false
set_option linter.unusedSimpArgs false

theorem Right_ev (l : List S43) : Ev (fun k => recipe_Right.f k l) (rightN l) := by
  obtain ⟨K, h⟩ := Right_tells l
  exact Ev.of (g := fun k => recipe_Right.f k l) (recipe_Right.mono l) h
open Classical in
/-- The rings' keys below i. -/
noncomputable def ringsTo (l : List S43) : Nat → List Int
  | 0 => []
  | i + 1 => if Rch l i i then ringsTo l i ++ [(i : Int)] else ringsTo l i
theorem ringsTo_len (l : List S43) : ∀ i, (ringsTo l i).length ≤ i
  | 0 => Nat.le_refl _
  | i + 1 => by
    have := ringsTo_len l i
    unfold ringsTo
    split <;> simp <;> omega
noncomputable def ringsOf (l : List S43) : List Int := if rightN l = 0 then ringsTo l l.length else []
theorem Rings_l0 (l : List S43) (h : rightN l = 0) : ∀ (d i : Nat), i + d = l.length → Ev (fun k => recipe_Rings.l0 k l (ringsTo l i) (l.length : Int) i) (ringsTo l l.length) := by
  obtain ⟨hr, h0⟩ := rgt_of h
  have few := hr.vld.few
  intro d
  induction d with
  | zero =>
    intro i hi
    refine Ev.step (f := fun _ => some (ringsTo l i)) (fun k => ?_) (by rw [show i = l.length by omega]; exact Ev.now _)
    simp only [recipe_Rings.l0]; rw [if_neg (by omega)]
  | succ d ih =>
    intro i hi
    have := ringsTo_len l i
    refine Ev.step (f := fun k => recipe_Rings.l0 k l (ringsTo l (i + 1)) (l.length : Int) ((i + 1 : Nat) : Int)) (fun k => ?_) (ih (i + 1) (by omega))
    simp only [recipe_Rings.l0]
    rw [if_pos (by omega), wrap_up (by omega) (by omega)]
    unfold recipe_reaches.f
    rw [if_pos ⟨hr.vld, by omega, by omega⟩]
    simp only [Option.bind_some, decide_eq_true_eq]
    by_cases hc : Rch l i i
    · rw [if_pos (by simpa using hc), if_pos (by omega)]; simp only [ringsTo]; rw [if_pos hc]; rfl
    · rw [if_neg (by simpa using hc)]; simp only [ringsTo]; rw [if_neg hc]; rfl
theorem Rings_ev (l : List S43) : Ev (fun k => recipe_Rings.f k l) (ringsOf l) := by
  unfold recipe_Rings.f
  refine Ev.bind (f := fun k t => if t = 0 then recipe_Rings.l0 k l [] (l.length : Int) 0 else some []) (Right_ev l) ?_
  unfold ringsOf
  by_cases h : rightN l = 0
  · simp only [if_pos h]; exact Rings_l0 l h l.length 0 (by omega)
  · simp only [if_neg h]; exact Ev.now _
/-- What Fate answers. -/
noncomputable def fateP (l : List S43) (k : Int) : Bool × Int := if rightN l = 0 ∧ 0 ≤ k ∧ k < (l.length : Int) then ((fateOf l k).f0, (fateOf l k).f1) else (false, 0)
theorem Fate_ev (l : List S43) (a : Int) : Ev (fun k => recipe_Fate.f k l a) (fateP l a) := by
  unfold recipe_Fate.f
  refine Ev.bind (f := fun k t121 => (if t121 = 0 then (if a < 0 then (some (false, 0)) else (if a ≥ (l.length : Int) then (some (false, 0)) else ((recipe_fates.f l).bind fun t122 => (if 0 ≤ a then (if a < (t122.length : Int) then (some ((rd_T51 t122 a).f0, (rd_T51 t122 a).f1)) else (none)) else (none))))) else (some (false, 0)))) (Right_ev l) ?_
  unfold fateP
  by_cases h : rightN l = 0
  · simp only [if_pos h]
    by_cases h1 : a < 0
    · simp only [if_pos h1]; rw [if_neg (by omega)]; exact Ev.now _
    · simp only [if_neg h1]
      by_cases h2 : a ≥ (l.length : Int)
      · simp only [if_pos h2]; rw [if_neg (by omega)]; exact Ev.now _
      · simp only [if_neg h2, fates_some h, Option.bind_some]
        rw [if_pos (show rightN l = 0 ∧ 0 ≤ a ∧ a < (l.length : Int) from ⟨h, by omega, by omega⟩)]
        have hl : (fatesOf l).length = l.length := by simp [fatesOf]
        simp only [hl, if_pos (show 0 ≤ a by omega), if_pos (show a < (l.length : Int) by omega), rd_fates (show 0 ≤ a by omega) (show a < (l.length : Int) by omega)]
        exact Ev.now _
  · simp only [if_neg h]; rw [if_neg (fun x => h x.1)]; exact Ev.now _

/-! ### the document's recipes -/
def L6 : List S43 := [(⟨([] : List Int), 0, 0, 5, 0⟩ : S43), (⟨(([0, 0] : List Int)), 0, 0, 7, 0⟩ : S43), (⟨(([3] : List Int)), 0, 0, 1, 0⟩ : S43), (⟨(([2, 0] : List Int)), 0, 0, 1, 0⟩ : S43), (⟨(([1, 2] : List Int)), 0, 0, 1, 0⟩ : S43), (⟨([] : List Int), 0, 0, (-6), 0⟩ : S43)]
theorem six {P : Int → Prop} (h : P 0 ∧ P 1 ∧ P 2 ∧ P 3 ∧ P 4 ∧ P 5) (k : Int) (h0 : 0 ≤ k) (h1 : k < 6) : P k := by
  obtain ⟨a, b, c, d, e, f⟩ := h
  rcases (by omega : k = 0 ∨ k = 1 ∨ k = 2 ∨ k = 3 ∨ k = 4 ∨ k = 5) with rfl | rfl | rfl | rfl | rfl | rfl <;> assumption
theorem right6 : rightN L6 = 0 := by
  refine rightN_zero.2 ⟨?_, by decide, six (P := fun k => OneOk L6 k) ?_⟩
  · rintro (h | ⟨k, h0, h1, h⟩)
    · exact absurd h (by decide)
    · exact absurd h (by have := six (P := fun k => ¬ (nds L6 k).length > 20) (by decide) k h0 h1; exact this)
  · have none_ : ∀ k, nds L6 k = [] → SelfOk L6 k → OneOk L6 k := fun k h hs => ⟨fun j a b => by rw [h] at b; simp at b; omega, hs⟩
    have one_ : ∀ k a, nds L6 k = [a] → NeedOk L6 k a → SelfOk L6 k → OneOk L6 k := fun k a h h1 hs => ⟨fun j x y => by
      rw [h] at y ⊢; simp at y
      obtain rfl : j = 0 := by omega
      exact h1, hs⟩
    have two_ : ∀ k a b, nds L6 k = [a, b] → NeedOk L6 k a → NeedOk L6 k b → SelfOk L6 k → OneOk L6 k := fun k a b h h1 h2 hs => ⟨fun j x y => by
      rw [h] at y ⊢; simp at y
      rcases (by omega : j = 0 ∨ j = 1) with rfl | rfl
      · exact h1
      · exact h2, hs⟩
    have self_ : ∀ k, lev L6 k = 0 → act L6 k = 0 → fin' L6 k = 0 → -1000 ≤ valu L6 k ∧ valu L6 k ≤ 1000 → SelfOk L6 k := fun k a b c d => by unfold SelfOk; omega
    have need_ : ∀ k m, 0 ≤ m ∧ m < (L6.length : Int) ∧ lev L6 m ≤ lev L6 k → NeedOk L6 k m := fun k m h => h
    exact ⟨none_ 0 rfl (self_ _ rfl rfl rfl (by decide)), two_ 1 0 0 rfl (need_ _ _ (by decide)) (need_ _ _ (by decide)) (self_ _ rfl rfl rfl (by decide)), one_ 2 3 rfl (need_ _ _ (by decide)) (self_ _ rfl rfl rfl (by decide)),
      two_ 3 2 0 rfl (need_ _ _ (by decide)) (need_ _ _ (by decide)) (self_ _ rfl rfl rfl (by decide)), two_ 4 1 2 rfl (need_ _ _ (by decide)) (need_ _ _ (by decide)) (self_ _ rfl rfl rfl (by decide)), none_ 5 rfl (self_ _ rfl rfl rfl (by decide))⟩
theorem right_nil : rightN [] = 110 := by
  unfold rightN
  rw [if_neg, if_neg]
  · rintro ⟨h, _⟩; simp at h
  · rintro (h | ⟨k, h0, h1, h⟩)
    · simp at h
    · simp at h1; omega
theorem r22 : Rch L6 2 2 := .more (m := 3) (by decide) (.one (by decide))
theorem r33 : Rch L6 3 3 := .more (m := 2) (by decide) (.one (by decide))
theorem rch6 {a b : Int} (h : Rch L6 a b) : (a = 0 → False) ∧ (a = 1 → b = 0) ∧ (a = 2 ∨ a = 3 → b = 0 ∨ b = 2 ∨ b = 3) ∧ (a = 4 → b = 0 ∨ b = 1 ∨ b = 2 ∨ b = 3) ∧ (a = 5 → False) := by
  have n0 : nds L6 0 = [] := rfl
  have n1 : nds L6 1 = [0, 0] := rfl
  have n2 : nds L6 2 = [3] := rfl
  have n3 : nds L6 3 = [2, 0] := rfl
  have n4 : nds L6 4 = [1, 2] := rfl
  have n5 : nds L6 5 = [] := rfl
  induction h with
  | one h =>
    refine ⟨?_, ?_, ?_, ?_, ?_⟩
    · rintro rfl; rw [n0] at h; simp at h
    · rintro rfl; rw [n1] at h; simpa using h
    · rintro (rfl | rfl)
      · rw [n2] at h; simp at h; omega
      · rw [n3] at h; simp at h; omega
    · rintro rfl; rw [n4] at h; simp at h; omega
    · rintro rfl; rw [n5] at h; simp at h
  | more h _ ih =>
    obtain ⟨i0, i1, i2, i3, i5⟩ := ih
    refine ⟨?_, ?_, ?_, ?_, ?_⟩
    · rintro rfl; rw [n0] at h; simp at h
    · rintro rfl; rw [n1] at h; simp at h; exact (i0 h).elim
    · rintro (rfl | rfl)
      · rw [n2] at h; simp at h; exact i2 (.inr h)
      · rw [n3] at h; simp at h; rcases h with h | h
        · exact i2 (.inl h)
        · exact (i0 h).elim
    · rintro rfl; rw [n4] at h; simp at h; rcases h with h | h
      · exact .inl (i1 h)
      · have := i2 (.inl h); omega
    · rintro rfl; rw [n5] at h; simp at h
theorem rings6 : ringsOf L6 = [2, 3] := by
  have a0 : ¬ Rch L6 (0 : Nat) (0 : Nat) := fun h => (rch6 h).1 rfl
  have a1 : ¬ Rch L6 (1 : Nat) (1 : Nat) := fun h => by have := (rch6 h).2.1 rfl; omega
  have a4 : ¬ Rch L6 (4 : Nat) (4 : Nat) := fun h => by have := (rch6 h).2.2.2.1 rfl; omega
  have a5 : ¬ Rch L6 (5 : Nat) (5 : Nat) := fun h => (rch6 h).2.2.2.2 rfl
  unfold ringsOf
  rw [if_pos right6]
  show ringsTo L6 6 = _
  simp only [ringsTo]
  rw [if_neg a5, if_neg a4, if_pos (show Rch L6 (3 : Nat) (3 : Nat) from r33), if_pos (show Rch L6 (2 : Nat) (2 : Nat) from r22), if_neg a1, if_neg a0]
  rfl
theorem nocan : ¬ Can L6 2 ∧ ¬ Can L6 3 ∧ ¬ Can L6 4 := ⟨ring_not r22, ring_not r33, fun h => ring_not r22 (can_reach h (.one (by decide)))⟩
def c6 (m : Int) : Bool := !(m == 2 || m == 3 || m == 4)
theorem cn6 : cn L6 = c6 := by
  funext m
  obtain ⟨a2, a3, a4⟩ := nocan
  by_cases h : m = 2 ∨ m = 3 ∨ m = 4
  · have : cn L6 m = false := by
      unfold cn
      rcases h with rfl | rfl | rfl
      · rw [fate_not a2]; rfl
      · rw [fate_not a3]; rfl
      · rw [fate_not a4]; rfl
    rw [this]
    rcases h with rfl | rfl | rfl <;> rfl
  · have hc : Can L6 m := by
      by_cases h1 : m = 1
      · subst h1; exact ⟨2, 17, rfl⟩
      · refine can_iff.2 ⟨?_, ?_⟩
        · unfold act rd_T43
          rcases (by omega : m.toNat = 0 ∨ m.toNat = 5 ∨ 6 ≤ m.toNat) with e | e | e
          · rw [e]; rfl
          · rw [e]; rfl
          · rw [List.getD_eq_getElem?_getD, List.getElem?_eq_none (by simpa [L6] using e)]; rfl
        · have : nds L6 m = [] := by
            unfold nds rd_T43
            rcases (by omega : m.toNat = 0 ∨ m.toNat = 5 ∨ 6 ≤ m.toNat) with e | e | e
            · rw [e]; rfl
            · rw [e]; rfl
            · rw [List.getD_eq_getElem?_getD, List.getElem?_eq_none (by simpa [L6] using e)]; rfl
          rw [this]; simp
    have : cn L6 m = true := fate_can.2 hc
    rw [this]
    simp only [not_or] at h
    simp [c6, h]
theorem fate6_1 : fateP L6 1 = (true, 17) := by
  unfold fateP; rw [if_pos ⟨right6, by decide, by decide⟩, fate_of (n := 2) (v := 17) rfl]
theorem fate6_4 : fateP L6 4 = (false, 0) := by
  unfold fateP; rw [if_pos ⟨right6, by decide, by decide⟩, fate_not nocan.2.2]; rfl
theorem order6 : orderOf L6 [4, 5, 1] = [0, 1, 5] := by
  unfold orderOf askAll
  rw [if_pos right6, cn6]
  decide
end Go.Proofs.Ytgahkloigbhgdaa.PR
