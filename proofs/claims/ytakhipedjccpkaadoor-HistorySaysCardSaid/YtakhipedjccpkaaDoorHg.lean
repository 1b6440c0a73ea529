/- The objects of history, plainly: the ways of each, and what history.adder, stack, counter, latch, onces compute. -/
import Derived.Test.YtakhipedjccpkaaDoorHs
import Derived.Test.YtakhipedjccpkaaDoorPHx4
import Derived.Test.YtakhipedjccpkaaDoorPHx5
import Derived.Test.YtakhipedjccpkaaDoorPHx6
namespace Go.Proofs.YtakhipedjccpkaaDoor.PH
open Go.RowKit Go.Proofs.YtakhipedjccpkaaDoorW.PrintWords Go.Proofs.YtakhipedjccpkaaDoorW.PrintLast Go.Proofs.YtakhipedjccpkaaDoorW.PrintMore
set_option linter.unusedVariables false
set_option linter.unusedSimpArgs false

def W (c v : Int) (s : List Int) : S79 := ⟨⟨c, v⟩, s⟩
def wAdder (s : List Int) (e : S33) : List S79 := if e.f1 = 1 then [W 0 (rd s 0) [wrap64 (rd s 0 + e.f2)]] else if e.f1 = 2 then [W 0 (rd s 0) [wrap64 (rd s 0 + e.f2)], W 0 (-1) s] else []
def wStack (s : List Int) (e : S33) : List S79 := if e.f1 = 1 then [W 0 0 (s ++ [e.f2]), W 80 0 s] else if e.f1 = 2 then (if s.length = 0 then [W 90 0 []] else [W 0 (rd s ((s.length - 1 : Nat) : Int)) (s.take (s.length - 1))]) else []
def wCounter (s : List Int) (e : S33) : List S79 := if e.f1 = 1 then [W 0 0 [wrap64 (rd s 0 + Int.tmod e.f2 1000)]] else if e.f1 = 2 then [W 0 (rd s 0) [rd s 0]] else []
def wLatch (s : List Int) (e : S33) : List S79 := if e.f1 = 1 then (if 0 < rd s 0 then [W 0 0 [wrap64 (rd s 0 - 1)]] else [W 50 0 [0]]) else if e.f1 = 2 ∧ rd s 0 = 0 then [W 0 0 [0]] else []
def onceAt (s : List Int) (e : S33) : Nat := 3 * (Int.tmod (Int.tmod e.f2 ((s.length / 3 : Nat) : Int) + ((s.length / 3 : Nat) : Int)) ((s.length / 3 : Nat) : Int)).toNat
def onceTold (e : S33) : Option (Int × Int) := if e.f1 = 1 then some (0, e.f3) else if e.f1 = 2 then some (70, e.f3) else if e.f1 = 3 then some (71, e.f3) else if e.f1 = 4 then some (70, 72) else none
def onceNext (s : List Int) (k : Nat) (c v : Int) : List Int := if rd s (k : Int) = 0 then ((s.set k 1).set (k + 1) c).set (k + 2) v else s
def wOnces (s : List Int) (e : S33) : List S79 :=
  match onceTold e with
  | none => []
  | some (c, v) => [W (rd (onceNext s (onceAt s e) c v) ((onceAt s e + 1 : Nat) : Int)) (rd (onceNext s (onceAt s e) c v) ((onceAt s e + 2 : Nat) : Int)) (onceNext s (onceAt s e) c v)]
/-- The ways of an object. -/
def waysOf (n : Int) (s : List Int) (e : S33) : List S79 := if n = 1 then wAdder s e else if n = 2 then wStack s e else if n = 3 then wCounter s e else if n = 4 then wLatch s e else if n = 5 then wOnces s e else []

/-- A state of the object, where so many events may yet come. -/
structure Sok (n : Int) (m : Nat) (s : List Int) : Prop where
  num : ∀ x ∈ s, I64 x
  is : n = 1 ∨ n = 2 ∨ n = 3 ∨ n = 4 ∨ n = 5
  one : n = 1 ∨ n = 3 ∨ n = 4 → s.length = 1
  two : n = 2 → s.length + m ≤ 12
  four : n = 4 → 0 ≤ rd s 0
  five : n = 5 → ∃ q, s.length = 3 * q ∧ 1 ≤ q ∧ q ≤ 1000

theorem i64_wrap (n : Int) : I64 (wrap64 n) := by unfold I64 wrap64; omega
theorem wrap_i64 {n : Int} (h : I64 n) : wrap64 n = n := by unfold I64 at h; unfold wrap64; omega
theorem i64_of {n : Int} (h0 : -9223372036854775808 ≤ n) (h1 : n ≤ 9223372036854775807) : I64 n := ⟨h0, h1⟩
theorem i64_rd {s : List Int} (h : ∀ x ∈ s, I64 x) (i : Int) : I64 (rd s i) := by
  unfold rd
  rcases Nat.lt_or_ge i.toNat s.length with hi | hi
  · rw [List.getD_eq_getElem?_getD, List.getElem?_eq_getElem hi]; exact h _ (List.getElem_mem hi)
  · rw [List.getD_eq_getElem?_getD, List.getElem?_eq_none hi]; exact ⟨by simp, by simp⟩
theorem Sok.short {n : Int} {m : Nat} {s : List Int} (h : Sok n m s) : s.length ≤ 3000 := by
  rcases h.is with e | e | e | e | e
  · have := h.one (by omega); omega
  · have := h.two e; omega
  · have := h.one (by omega); omega
  · have := h.one (by omega); omega
  · obtain ⟨q, h1, h2, h3⟩ := h.five e; omega
theorem len1 {s : List Int} (h : s.length = 1) : s = [rd s 0] := by
  match s, h with
  | [a], _ => rfl

theorem adder_some {s : List Int} (h : 0 < s.length) (hs : s.length < 1000000) (e : S33) : history_adder.f s e.f0 e.f1 e.f2 e.f3 e.f4 e.f5 e.f6.f0 e.f6.f1 = some (wAdder s e) := by
  have h0 : 0 < (s.length : Int) := by omega
  unfold history_adder.f wAdder
  rw [if_pos h0]
  simp only [history_told.f, Option.bind_some]
  by_cases h1 : e.f1 = 1
  · rw [if_pos h1, if_pos h1]; rfl
  · rw [if_neg h1, if_neg h1]
    by_cases h2 : e.f1 = 2
    · rw [if_pos h2, if_pos h2]; simp [W]
    · rw [if_neg h2, if_neg h2]
theorem stack_some {s : List Int} (hs : s.length < 1000000) (e : S33) : history_stack.f 1 s e.f0 e.f1 e.f2 e.f3 e.f4 e.f5 e.f6.f0 e.f6.f1 = some (wStack s e) := by
  unfold history_stack.f wStack
  by_cases h1 : e.f1 = 1
  · rw [if_pos h1, if_pos h1]
    simp only [history_told.f, slices_Clone_int_int.f, Option.bind_some]
    rw [if_pos (by simp; omega)]
    simp only [Option.bind_some]
    rw [if_pos (by simp; omega)]
    simp [W]
  · rw [if_neg h1, if_neg h1]
    by_cases h2 : e.f1 = 2
    · rw [if_pos h2, if_pos h2]
      simp only [history_stack.j0, history_told.f, Option.bind_some]
      by_cases h3 : s.length = 0
      · simp [h3, W]
      · have hp : 1 ≤ s.length := Nat.pos_of_ne_zero h3
        have hi : I64 ((s.length : Int) - 1) := by unfold I64; omega
        have hw : wrap64 ((s.length : Int) - 1) = ((s.length - 1 : Nat) : Int) := (wrap_i64 hi).trans (by omega)
        have hb : ((s.length : Int) == 0) = false := by rw [beq_eq_false_iff_ne]; omega
        rw [hb, hw]
        simp only [Bool.false_eq_true, if_false, if_pos h2, if_neg h3]
        rw [if_pos (show (0 : Int) ≤ ((s.length - 1 : Nat) : Int) by omega), if_pos (show ((s.length - 1 : Nat) : Int) < (s.length : Int) by omega), if_pos (show ((s.length - 1 : Nat) : Int) ≤ (s.length : Int) by omega)]
        rfl
    · rw [if_neg h2, if_neg h2]
      simp only [history_stack.j0, Bool.false_eq_true, if_false, if_neg h2]
theorem counter_some {s : List Int} (h : 0 < s.length) (e : S33) : history_counter.f s e.f0 e.f1 e.f2 e.f3 e.f4 e.f5 e.f6.f0 e.f6.f1 = some (wCounter s e) := by
  have h0 : 0 < (s.length : Int) := by omega
  unfold history_counter.f wCounter
  simp only [history_told.f, Option.bind_some, if_pos h0]
  by_cases h1 : e.f1 = 1
  · rw [if_pos h1, if_pos h1]; rfl
  · rw [if_neg h1, if_neg h1]
    by_cases h2 : e.f1 = 2
    · rw [if_pos h2, if_pos h2]; rfl
    · rw [if_neg h2, if_neg h2]
theorem latch_some {s : List Int} (h : 0 < s.length) (hp : 0 ≤ rd s 0) (e : S33) : history_latch.f 1 s e.f0 e.f1 e.f2 e.f3 e.f4 e.f5 e.f6.f0 e.f6.f1 = some (wLatch s e) := by
  have h0 : 0 < (s.length : Int) := by omega
  unfold history_latch.f wLatch
  simp only [history_latch.j0, history_told.f, Option.bind_some, if_pos h0]
  by_cases h1 : e.f1 = 1
  · rw [if_pos h1, if_pos h1]
    by_cases h3 : 0 < rd s 0
    · simp [h3, h1, W]
    · simp [h3, h1, W]
  · rw [if_neg h1, if_neg h1]
    by_cases h2 : e.f1 = 2
    · by_cases h3 : rd s 0 = 0
      · simp [h1, h2, h3, W]
      · simp [h1, h2, h3]
    · simp [h1, h2]
theorem once_at {s : List Int} {q : Nat} (hl : s.length = 3 * q) (h1 : 1 ≤ q) (e : S33) : onceAt s e + 2 < s.length ∧ onceAt s e % 3 = 0 := by
  have hq : s.length / 3 = q := by omega
  unfold onceAt
  rw [hq]
  have a := Int.tmod_lt_of_pos (e.f2.tmod (q : Int) + (q : Int)) (show (0 : Int) < (q : Int) by omega)
  omega
theorem onces_some {s : List Int} {q : Nat} (hl : s.length = 3 * q) (h1 : 1 ≤ q) (h2 : q ≤ 1000) (e : S33) : history_onces.f 1 s e.f0 e.f1 e.f2 e.f3 e.f4 e.f5 e.f6.f0 e.f6.f1 = some (wOnces s e) := by
  obtain ⟨ka, kb⟩ := once_at hl h1 e
  have hq : s.length / 3 = q := by omega
  have hq' : ((s.length : Int) / 3) = (q : Int) := by omega
  have hm : history_modulo.f e.f2 (wrap64 ((s.length : Int) / 3)) = some (((onceAt s e / 3 : Nat) : Int)) := by
    rw [hq', wrap_i64 (by unfold I64; omega)]
    unfold history_modulo.f
    rw [if_neg (by omega)]
    have b1 := Int.tmod_lt_of_pos e.f2 (show (0 : Int) < (q : Int) by omega)
    have b2 := Int.lt_tmod_of_pos e.f2 (show (0 : Int) < (q : Int) by omega)
    rw [wrap_i64 (by unfold I64; omega)]
    have b3 := Int.tmod_nonneg (q : Int) (show 0 ≤ e.f2.tmod (q : Int) + (q : Int) by omega)
    unfold onceAt
    rw [hq]
    congr 1; omega
  have h3 : 3 * (onceAt s e / 3) = onceAt s e := by omega
  have hw0 : wrap64 (3 * ((onceAt s e / 3 : Nat) : Int)) = (onceAt s e : Int) := by rw [wrap_i64 (by unfold I64; omega)]; omega
  have hw1 : wrap64 ((onceAt s e : Int) + 1) = ((onceAt s e + 1 : Nat) : Int) := by rw [wrap_i64 (by unfold I64; omega)]; omega
  have hw2 : wrap64 ((onceAt s e : Int) + 2) = ((onceAt s e + 2 : Nat) : Int) := by rw [wrap_i64 (by unfold I64; omega)]; omega
  have hj : ∀ c v, history_onces.j0 1 s (onceAt s e : Int) c v = some [W (rd (onceNext s (onceAt s e) c v) ((onceAt s e + 1 : Nat) : Int)) (rd (onceNext s (onceAt s e) c v) ((onceAt s e + 2 : Nat) : Int)) (onceNext s (onceAt s e) c v)] := by
    intro c v
    simp only [history_onces.j0, history_told.f, slices_Clone_int_int.f, Option.bind_some, hw1, hw2]
    rw [if_pos (by omega), if_pos (by omega)]
    by_cases hz : rd s (onceAt s e : Int) = 0
    · rw [if_pos hz, if_pos (by simp; omega)]
      simp only [Option.bind_some, List.nil_append]
      rw [if_pos (by omega), if_pos (by omega), if_pos (by omega), if_pos (by omega), if_pos (by omega)]
      simp only [Option.bind_some, onceNext, if_pos hz, Int.toNat_natCast]
      rfl
    · rw [if_neg hz, if_pos (by omega), if_pos (by omega), if_pos (by omega), if_pos (by omega)]
      simp only [onceNext, if_neg hz]
      rfl
  unfold history_onces.f wOnces onceTold
  rw [hm]
  simp only [Option.bind_some, hw0, hj]
  by_cases g1 : e.f1 = 1
  · simp only [g1, if_true]
  · by_cases g2 : e.f1 = 2
    · simp [g2]
    · by_cases g3 : e.f1 = 3
      · simp [g3]
      · by_cases g4 : e.f1 = 4
        · simp [g4]
        · simp [g1, g2, g3, g4]

/-! ### what comes behind a state -/
theorem i64_two {a b : Int} (ha : I64 a) (hb : I64 b) : ∀ x ∈ [a, b], I64 x := by intro x hx; simp at hx; rcases hx with rfl | rfl <;> assumption
theorem Sok.next {n : Int} {m : Nat} {s : List Int} (h : Sok n (m + 1) s) {e : S33} (hA : I64 e.f2) (hB : I64 e.f3) {x : S79} (hx : x ∈ waysOf n s e) : Sok n m x.f1 := by
  have h0 := i64_rd h.num
  unfold waysOf at hx
  rcases h.is with en | en | en | en | en <;> subst en
  · simp only [if_true] at hx
    have hl := h.one (by omega)
    have : x.f1.length = 1 ∧ ∀ y ∈ x.f1, I64 y := by
      unfold wAdder at hx
      split at hx
      · simp at hx; subst hx; exact ⟨rfl, by intro y hy; simp [W] at hy; subst hy; exact i64_wrap _⟩
      · split at hx
        · simp at hx
          rcases hx with rfl | rfl
          · exact ⟨rfl, by intro y hy; simp [W] at hy; subst hy; exact i64_wrap _⟩
          · exact ⟨hl, h.num⟩
        · cases hx
    exact ⟨this.2, by omega, fun _ => this.1, by omega, by omega, by omega⟩
  · simp only [show ¬ ((2 : Int) = 1) by decide, if_true, if_false] at hx
    have hl := h.two rfl
    have : x.f1.length + m ≤ 12 ∧ ∀ y ∈ x.f1, I64 y := by
      unfold wStack at hx
      split at hx
      · simp at hx
        rcases hx with rfl | rfl
        · exact ⟨by simp [W]; omega, by intro y hy; simp [W] at hy; rcases hy with hy | rfl; exact h.num _ hy; exact hA⟩
        · exact ⟨by simp [W]; omega, h.num⟩
      · split at hx
        · split at hx
          · simp at hx; subst hx; exact ⟨by simp [W]; omega, by intro y hy; simp [W] at hy⟩
          · simp at hx; subst hx; exact ⟨by simp [W]; omega, fun y hy => h.num y (List.mem_of_mem_take hy)⟩
        · cases hx
    exact ⟨this.2, by omega, by omega, fun _ => this.1, by omega, by omega⟩
  · simp only [show ¬ ((3 : Int) = 1) by decide, show ¬ ((3 : Int) = 2) by decide, if_true, if_false] at hx
    have : x.f1.length = 1 ∧ ∀ y ∈ x.f1, I64 y := by
      unfold wCounter at hx
      split at hx
      · simp at hx; subst hx; exact ⟨rfl, by intro y hy; simp [W] at hy; subst hy; exact i64_wrap _⟩
      · split at hx
        · simp at hx; subst hx; exact ⟨rfl, by intro y hy; simp [W] at hy; subst hy; exact h0 _⟩
        · cases hx
    exact ⟨this.2, by omega, fun _ => this.1, by omega, by omega, by omega⟩
  · simp only [show ¬ ((4 : Int) = 1) by decide, show ¬ ((4 : Int) = 2) by decide, show ¬ ((4 : Int) = 3) by decide, if_true, if_false] at hx
    have hp := h.four rfl
    have : x.f1.length = 1 ∧ (∀ y ∈ x.f1, I64 y) ∧ 0 ≤ rd x.f1 0 := by
      unfold wLatch at hx
      have z : I64 0 := ⟨by decide, by decide⟩
      split at hx
      · split at hx
        · simp at hx; subst hx
          refine ⟨rfl, by intro y hy; simp [W] at hy; subst hy; exact i64_wrap _, ?_⟩
          have h9 := h0 0
          show 0 ≤ wrap64 (rd s 0 - 1)
          rw [wrap_i64 (by unfold I64 at *; omega)]; omega
        · simp at hx; subst hx; exact ⟨rfl, by intro y hy; simp [W] at hy; subst hy; exact z, by simp [W, rd]⟩
      · split at hx
        · simp at hx; subst hx; exact ⟨rfl, by intro y hy; simp [W] at hy; subst hy; exact z, by simp [W, rd]⟩
        · cases hx
    exact ⟨this.2.1, by omega, fun _ => this.1, by omega, fun _ => this.2.2, by omega⟩
  · simp only [show ¬ ((5 : Int) = 1) by decide, show ¬ ((5 : Int) = 2) by decide, show ¬ ((5 : Int) = 3) by decide, show ¬ ((5 : Int) = 4) by decide, if_true, if_false] at hx
    obtain ⟨q, q0, q1, q2⟩ := h.five rfl
    have : x.f1.length = s.length ∧ ∀ y ∈ x.f1, I64 y := by
      unfold wOnces at hx
      split at hx
      · cases hx
      · rename_i c v hcv
        have hc : I64 c ∧ I64 v := by
          unfold onceTold at hcv
          split at hcv
          · injection hcv with hcv; injection hcv with h1 h2; subst h1 h2; exact ⟨⟨by decide, by decide⟩, hB⟩
          · split at hcv
            · injection hcv with hcv; injection hcv with h1 h2; subst h1 h2; exact ⟨⟨by decide, by decide⟩, hB⟩
            · split at hcv
              · injection hcv with hcv; injection hcv with h1 h2; subst h1 h2; exact ⟨⟨by decide, by decide⟩, hB⟩
              · split at hcv
                · injection hcv with hcv; injection hcv with h1 h2; subst h1 h2; exact ⟨⟨by decide, by decide⟩, ⟨by decide, by decide⟩⟩
                · cases hcv
        simp at hx; subst hx
        simp only [W, onceNext]
        split
        · refine ⟨by simp, ?_⟩
          intro y hy
          rcases List.mem_or_eq_of_mem_set hy with hy | rfl
          · rcases List.mem_or_eq_of_mem_set hy with hy | rfl
            · rcases List.mem_or_eq_of_mem_set hy with hy | rfl
              · exact h.num y hy
              · exact ⟨by decide, by decide⟩
            · exact hc.1
          · exact hc.2
        · exact ⟨rfl, h.num⟩
    exact ⟨this.2, by omega, by omega, by omega, by omega, fun _ => ⟨q, by omega, q1, q2⟩⟩
theorem ways_few (n : Int) (s : List Int) (e : S33) : (waysOf n s e).length ≤ 2 := by
  unfold waysOf wAdder wStack wCounter wLatch wOnces
  repeat' split
  all_goals simp
end Go.Proofs.YtakhipedjccpkaaDoor.PH
