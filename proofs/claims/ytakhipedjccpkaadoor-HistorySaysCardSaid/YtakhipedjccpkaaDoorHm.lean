/- The plain law of orders: times that are stretched; a last event taken away. -/
import Derived.Test.YtakhipedjccpkaaDoorHr
namespace Go.Proofs.YtakhipedjccpkaaDoor.PH
open Go.RowKit Go.Proofs.YtakhipedjccpkaaDoorW.PrintWords Go.Proofs.YtakhipedjccpkaaDoorW.PrintLast Go.Proofs.YtakhipedjccpkaaDoorW.PrintMore
set_option linter.unusedVariables false
set_option linter.unusedSimpArgs false

/-- What an object answers by: an event without its times. -/
def likeE (a b : S33) : Prop := a.f1 = b.f1 ∧ a.f2 = b.f2 ∧ a.f3 = b.f3
theorem ways_like {n : Int} {s : List Int} {a b : S33} (h : likeE a b) : waysOf n s a = waysOf n s b := by
  obtain ⟨h1, h2, h3⟩ := h
  unfold waysOf wAdder wStack wCounter wLatch wOnces onceTold onceAt
  rw [h1, h2, h3]
/-- One list's times are wider than the other's. -/
structure Wider (l u : List S33) : Prop where
  len : u.length = l.length
  like : ∀ i < l.length, likeE (rd_T33 u (i : Int)) (rd_T33 l (i : Int))
  ans : ∀ i < l.length, (rd_T33 u (i : Int)).f6 = (rd_T33 l (i : Int)).f6
  open_ : ∀ i < l.length, (rd_T33 l (i : Int)).f5 = -1 → (rd_T33 u (i : Int)).f5 = -1
  ahead : ∀ i < l.length, ∀ j < l.length, aheadB (rd_T33 u (i : Int)) (rd_T33 u (j : Int)) = true → aheadB (rd_T33 l (i : Int)) (rd_T33 l (j : Int)) = true
theorem Gs.wider {n : Int} {l u : List S33} (hw : Wider l u) {k : Nat} {s : List Int} (h : Gs n l k s) : Gs n u k s := by
  induction h with
  | done hd =>
    refine .done (fun e he => ?_)
    obtain ⟨j, hj, hb, rfl⟩ := mem_miss.1 he
    rw [hw.len] at hj
    exact hw.open_ j hj (hd _ (mem_miss.2 ⟨j, hj, hb, rfl⟩))
  | step i x a b c d e f ih =>
    refine .step i x (by rw [hw.len]; exact a) b ?_ (by rw [ways_like (hw.like i a)]; exact d) ?_ ih
    · intro y hy
      obtain ⟨j, hj, hb, rfl⟩ := mem_miss.1 hy
      rw [hw.len] at hj
      have h1 := c _ (mem_miss.2 ⟨j, hj, hb, rfl⟩)
      cases h2 : aheadB (rd_T33 u (j : Int)) (rd_T33 u (i : Int)) with
      | false => rfl
      | true => rw [hw.ahead j hj i a h2] at h1; cases h1
    · rcases e with e | e
      · exact .inl (hw.open_ i a e)
      · exact .inr (by rw [hw.ans i a]; exact e)

/-! ### the missing events as a list -/
inductive Gm (n : Int) : List S33 → List Int → Prop
  | done {m s} : (∀ e ∈ m, e.f5 = -1) → Gm n m s
  | step {s} (a : List S33) (e : S33) (b : List S33) (x : S79) : (∀ y ∈ a ++ e :: b, aheadB y e = false) → x ∈ waysOf n s e → (e.f5 = -1 ∨ x.f0 = e.f6) → Gm n (a ++ b) x.f1 → Gm n (a ++ e :: b) s
theorem Gs.list {n : Int} {l : List S33} {k : Nat} {s : List Int} (h : Gs n l k s) : Gm n (miss l k) s := by
  induction h with
  | done hd => exact .done hd
  | step i x a b c d e f ih =>
    obtain ⟨p, q, h1, h2⟩ := miss_put (l := l) b a
    rw [h2] at ih
    rw [h1] at c ⊢
    exact .step p _ q x c d e ih
theorem missTo_pick {l : List S33} {k : Nat} {e : S33} : ∀ {N : Nat} {a b : List S33}, missTo l k N = a ++ e :: b → ∃ i < N, k.testBit i = false ∧ e = rd_T33 l (i : Int) ∧ missTo l (k ||| 1 <<< i) N = a ++ b
  | 0, a, b, h => by simp [missTo] at h
  | N + 1, a, b, h => by
    simp only [missTo] at h
    by_cases hN : k.testBit N = true
    · rw [if_pos hN] at h
      obtain ⟨i, h1, h2, h3, h4⟩ := missTo_pick h
      refine ⟨i, by omega, h2, h3, ?_⟩
      simp only [missTo]
      rw [if_pos (by rw [testBit_or1, hN]; rfl)]
      exact h4
    · rw [if_neg hN] at h
      simp only [Bool.not_eq_true] at hN
      rcases List.append_eq_append_iff.1 h with ⟨c, h1, h2⟩ | ⟨c, h1, h2⟩
      · -- a = missTo .. ++ c
        rcases c with _ | ⟨c0, c⟩
        · simp at h1 h2
          obtain ⟨rfl, rfl⟩ := h2
          subst h1
          refine ⟨N, by omega, hN, rfl, ?_⟩
          simp only [missTo]
          rw [if_pos (by rw [testBit_or1]; simp), List.append_nil]
          exact (missTo_same (fun j hj => by rw [testBit_or1]; simp; omega)).symm
        · simp at h2
      · rcases c with _ | ⟨c0, c⟩
        · simp at h1 h2
          obtain ⟨rfl, rfl⟩ := h2
          refine ⟨N, by omega, hN, rfl, ?_⟩
          simp only [missTo]
          rw [if_pos (by rw [testBit_or1]; simp), List.append_nil, ← h1]
          exact (missTo_same (fun j hj => by rw [testBit_or1]; simp; omega)).symm
        · simp only [List.cons_append, List.cons.injEq] at h2
          obtain ⟨rfl, rfl⟩ := h2
          obtain ⟨i, g1, g2, g3, g4⟩ := missTo_pick h1
          refine ⟨i, by omega, g2, g3, ?_⟩
          simp only [missTo]
          rw [if_neg (by rw [testBit_or1, hN]; simp; omega), g4, List.append_assoc]
theorem Gm.bits {n : Int} {l : List S33} : ∀ {m : List S33} {s : List Int}, Gm n m s → ∀ k, miss l k = m → Gs n l k s := by
  intro m s h
  induction h with
  | done hd => intro k hk; exact .done (by rw [hk]; exact hd)
  | step a e b x c d f g ih =>
    intro k hk
    obtain ⟨i, h1, h2, h3, h4⟩ := missTo_pick hk
    subst h3
    exact .step i x h1 h2 (by rw [hk]; exact c) d f (ih _ h4)
theorem miss_0 (l : List S33) : miss l 0 = l := by
  have gen : ∀ i, i ≤ l.length → missTo l 0 i = l.take i := by
    intro i
    induction i with
    | zero => intro _; simp [missTo]
    | succ i ih => intro h; simp only [missTo]; rw [if_neg (by simp), ih (by omega), take33 l (by omega)]
  unfold miss; rw [gen _ (Nat.le_refl _), List.take_length]
theorem gs_list {n : Int} {l : List S33} {s : List Int} : Gs n l 0 s ↔ Gm n l s := by
  constructor
  · intro h; have := h.list; rwa [miss_0] at this
  · intro h; exact h.bits 0 (miss_0 l)

/-! ### a last event taken away -/
/-- What isn't over before a time has no end. -/
def cl (t : Int) (x : S33) : S33 := if t ≤ x.f5 then { x with f5 := -1 } else x
theorem cl_like (t : Int) (x : S33) : likeE (cl t x) x := by unfold cl; split <;> exact ⟨rfl, rfl, rfl⟩
theorem cl_ans (t : Int) (x : S33) : (cl t x).f6 = x.f6 := by unfold cl; split <;> rfl
theorem cl_begin (t : Int) (x : S33) : (cl t x).f4 = x.f4 := by unfold cl; split <;> rfl
theorem cl_open (t : Int) (x : S33) (h : x.f5 = -1) : (cl t x).f5 = -1 := by unfold cl; split <;> first | rfl | exact h
theorem cl_ahead (t : Int) (x y : S33) (h : aheadB (cl t x) (cl t y) = true) : aheadB x y = true := by
  unfold aheadB at h ⊢
  rw [cl_begin] at h
  unfold cl at h
  split at h
  · simp at h
  · exact h
theorem Gm.less {n : Int} {e0 : S33} : ∀ {m : List S33} {s : List Int}, Gm n m s → ∀ a b, m = a ++ e0 :: b → Gm n ((a ++ b).map (cl e0.f4)) s := by
  intro m s h
  induction h with
  | done hd =>
    rintro a b rfl
    refine .done (fun e he => ?_)
    obtain ⟨x, hx, rfl⟩ := List.mem_map.1 he
    exact cl_open _ _ (hd x (by rcases List.mem_append.1 hx with h | h <;> simp [h]))
  | @step s a' e b' x c d f g ih =>
    intro a b hab
    -- one event: the one that is taken away, or another
    have here : (∃ p, a' = a ++ e0 :: p ∧ b = p ++ e :: b') ∨ (e = e0 ∧ a' = a ∧ b' = b) ∨ (∃ p, a = a' ++ e :: p ∧ b' = p ++ e0 :: b) := by
      rcases List.append_eq_append_iff.1 hab with ⟨p, h1, h2⟩ | ⟨p, h1, h2⟩
      · rcases p with _ | ⟨p0, p⟩
        · simp at h1 h2; exact .inr (.inl ⟨h2.1, h1.symm, h2.2⟩)
        · simp only [List.cons_append, List.cons.injEq] at h2
          obtain ⟨rfl, h2⟩ := h2
          exact .inr (.inr ⟨p, h1, h2⟩)
      · rcases p with _ | ⟨p0, p⟩
        · simp at h1 h2; exact .inr (.inl ⟨h2.1.symm, h1, h2.2.symm⟩)
        · simp only [List.cons_append, List.cons.injEq] at h2
          obtain ⟨rfl, h2⟩ := h2
          exact .inl ⟨p, h1, h2⟩
    rcases here with ⟨p, rfl, rfl⟩ | ⟨rfl, rfl, rfl⟩ | ⟨p, rfl, rfl⟩
    · have := ih a (p ++ b') (by simp)
      have e1 : (a ++ (p ++ e :: b')).map (cl e0.f4) = (a ++ p).map (cl e0.f4) ++ cl e0.f4 e :: b'.map (cl e0.f4) := by simp
      rw [e1]
      refine .step _ _ _ x ?_ (by rw [ways_like (cl_like _ _)]; exact d) ?_ (by simpa using this)
      · intro y hy
        have : y ∈ (a ++ (p ++ e :: b')).map (cl e0.f4) := by rw [e1]; exact hy
        obtain ⟨z, hz, rfl⟩ := List.mem_map.1 this
        cases h2 : aheadB (cl e0.f4 z) (cl e0.f4 e) with
        | false => rfl
        | true =>
          have h3 := cl_ahead _ _ _ h2
          rw [c z (by simp at hz ⊢; rcases hz with h | h | h | h <;> simp [h])] at h3
          cases h3
      · rcases f with f | f
        · exact .inl (cl_open _ _ f)
        · exact .inr (by rw [cl_ans]; exact f)
    · refine .done (fun y hy => ?_)
      obtain ⟨z, hz, rfl⟩ := List.mem_map.1 hy
      have h1 := c z (by rcases List.mem_append.1 hz with h | h <;> simp [h])
      unfold aheadB at h1
      unfold cl
      split
      · rfl
      · rename_i h2
        split at h1
        · assumption
        · simp at h1; omega
    · have := ih (a' ++ p) b (by simp)
      have e1 : (a' ++ e :: p ++ b).map (cl e0.f4) = a'.map (cl e0.f4) ++ cl e0.f4 e :: (p ++ b).map (cl e0.f4) := by simp
      rw [e1]
      refine .step _ _ _ x ?_ (by rw [ways_like (cl_like _ _)]; exact d) ?_ (by simpa using this)
      · intro y hy
        have : y ∈ (a' ++ e :: p ++ b).map (cl e0.f4) := by rw [e1]; exact hy
        obtain ⟨z, hz, rfl⟩ := List.mem_map.1 this
        cases h2 : aheadB (cl e0.f4 z) (cl e0.f4 e) with
        | false => rfl
        | true =>
          have h3 := cl_ahead _ _ _ h2
          rw [c z (by simp at hz ⊢; rcases hz with h | h | h | h <;> simp [h])] at h3
          cases h3
      · rcases f with f | f
        · exact .inl (cl_open _ _ f)
        · exact .inr (by rw [cl_ans]; exact f)
end Go.Proofs.YtakhipedjccpkaaDoor.PH
