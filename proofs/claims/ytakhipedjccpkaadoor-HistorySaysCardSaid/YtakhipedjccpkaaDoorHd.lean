/- Orders of events, plainly: what history.Linear's closure looks for; what it keeps of what was in vain. -/
import Derived.Test.YtakhipedjccpkaaDoorHc
import Derived.Lib.ItoaMem
namespace Go.Proofs.YtakhipedjccpkaaDoor.PH
open Go.RowKit Go.Proofs.YtakhipedjccpkaaDoorW.PrintWords Go.Proofs.YtakhipedjccpkaaDoorW.PrintLast Go.Proofs.YtakhipedjccpkaaDoorW.PrintMore
open Go.Maps
set_option linter.unusedVariables false
set_option linter.unusedSimpArgs false

/-! ### texts are apart -/
def dval (l : List UInt8) : Nat := l.foldl (fun a d => 10 * a + (d.toNat - 48)) 0
theorem dval_snoc (l : List UInt8) (d : UInt8) : dval (l ++ [d]) = 10 * dval l + (d.toNat - 48) := by simp [dval]
theorem of48 (k : Nat) (h : k < 10) : (UInt8.ofNat (48 + k)).toNat = 48 + k := by
  rw [UInt8.toNat_ofNat']; omega
theorem dval_digits (u : Nat) : dval (Lib.decDigits u) = u := by
  induction u using Nat.strongRecOn with
  | _ u ih =>
    rw [Lib.decDigits]
    split
    · rename_i h; show 10 * 0 + ((UInt8.ofNat (48 + u)).toNat - 48) = u; rw [of48 u h]; omega
    · rw [dval_snoc, ih (u / 10) (by omega), of48 _ (by omega)]; omega
theorem mem_digits (u : Nat) : ∀ d ∈ Lib.decDigits u, 48 ≤ d.toNat ∧ d.toNat ≤ 57 := by
  induction u using Nat.strongRecOn with
  | _ u ih =>
    rw [Lib.decDigits]
    split
    · rename_i h; intro d hd; rw [List.mem_singleton.1 hd, of48 u h]; omega
    · intro d hd
      rcases List.mem_append.1 hd with hd | hd
      · exact ih (u / 10) (by omega) d hd
      · rw [List.mem_singleton.1 hd, of48 _ (by omega)]; omega
theorem mem_itoa (n : Int) : ∀ d ∈ Lib.itoa n, d ≠ 32 := by
  intro d hd e
  subst e
  unfold Lib.itoa at hd
  split at hd
  · rcases List.mem_cons.1 hd with hd | hd
    · cases hd
    · have := (mem_digits _ _ hd).1; revert this; decide
  · have := (mem_digits _ _ hd).1; revert this; decide
theorem itoa_inj {a b : Int} (h : Lib.itoa a = Lib.itoa b) : a = b := by
  have h45 : ∀ u v : Nat, Lib.decDigits u ≠ 45 :: Lib.decDigits v := by
    intro u v e
    have := (mem_digits u 45 (by rw [e]; simp)).1
    revert this; decide
  unfold Lib.itoa at h
  split at h <;> split at h
  · injection h with _ h
    have := congrArg dval h
    rw [dval_digits, dval_digits] at this; omega
  · exact absurd h.symm (h45 _ _)
  · exact absurd h (h45 _ _)
  · have := congrArg dval h
    rw [dval_digits, dval_digits] at this; omega
theorem cut32 : ∀ {a b r q : List UInt8}, (∀ d ∈ a, d ≠ 32) → (∀ d ∈ b, d ≠ 32) → a ++ 32 :: r = b ++ 32 :: q → a = b ∧ r = q
  | [], [], r, q, _, _, h => by simpa using h
  | [], y :: b, r, q, _, hb, h => by simp at h; exact absurd h.1.symm (hb y (by simp))
  | x :: a, [], r, q, ha, _, h => by simp at h; exact absurd h.1 (ha x (by simp))
  | x :: a, y :: b, r, q, ha, hb, h => by
    simp only [List.cons_append, List.cons.injEq] at h
    obtain ⟨e1, e2⟩ := cut32 (fun d hd => ha d (by simp [hd])) (fun d hd => hb d (by simp [hd])) h.2
    exact ⟨by rw [h.1, e1], e2⟩
theorem txt_inj : ∀ {s t : List Int}, txt s = txt t → s = t
  | [], [], _ => rfl
  | [], y :: t, h => by simp [txt] at h
  | x :: s, [], h => by simp [txt] at h
  | x :: s, y :: t, h => by
    simp only [txt, List.flatMap_cons, List.append_assoc, List.singleton_append] at h
    obtain ⟨e1, e2⟩ := cut32 (mem_itoa x) (mem_itoa y) h
    rw [itoa_inj e1, txt_inj e2]

/-! ### which events are missing -/
theorem mem_missTo {l : List S33} {k : Nat} {e : S33} : ∀ {i : Nat}, e ∈ missTo l k i ↔ ∃ j < i, k.testBit j = false ∧ e = rd_T33 l (j : Int)
  | 0 => by simp [missTo]
  | i + 1 => by
    have ih := mem_missTo (l := l) (k := k) (e := e) (i := i)
    simp only [missTo]
    split
    · rename_i h
      rw [ih]
      constructor
      · rintro ⟨j, a, b⟩; exact ⟨j, by omega, b⟩
      · rintro ⟨j, a, b, c⟩
        rcases Nat.lt_or_ge j i with hj | hj
        · exact ⟨j, hj, b, c⟩
        · have : j = i := by omega
          subst this; rw [h] at b; cases b
    · rename_i h
      simp only [Bool.not_eq_true] at h
      rw [List.mem_append, ih, List.mem_singleton]
      constructor
      · rintro (⟨j, a, b⟩ | rfl)
        · exact ⟨j, by omega, b⟩
        · exact ⟨i, by omega, h, rfl⟩
      · rintro ⟨j, a, b, c⟩
        rcases Nat.lt_or_ge j i with hj | hj
        · exact .inl ⟨j, hj, b, c⟩
        · have : j = i := by omega
          subst this; exact .inr c
theorem mem_miss {l : List S33} {k : Nat} {e : S33} : e ∈ miss l k ↔ ∃ j < l.length, k.testBit j = false ∧ e = rd_T33 l (j : Int) := mem_missTo
theorem testBit_or1 (k i j : Nat) : (k ||| 1 <<< i).testBit j = (k.testBit j || decide (i = j)) := by
  rw [Nat.testBit_or, Nat.one_shiftLeft, Nat.testBit_two_pow]
theorem missTo_same {l : List S33} {k k' : Nat} : ∀ {i : Nat}, (∀ j < i, k.testBit j = k'.testBit j) → missTo l k i = missTo l k' i
  | 0, _ => rfl
  | i + 1, h => by
    simp only [missTo]
    rw [missTo_same (fun j hj => h j (by omega)), h i (by omega)]
/-- One more event stands in the order: it is taken out of the missing ones. -/
theorem missTo_put {l : List S33} {k i : Nat} (hb : k.testBit i = false) : ∀ {N : Nat}, i < N → ∃ a b, missTo l k N = a ++ rd_T33 l (i : Int) :: b ∧ missTo l (k ||| 1 <<< i) N = a ++ b
  | N + 1, h => by
    rcases Nat.lt_or_ge i N with hi | hi
    · obtain ⟨a, b, h1, h2⟩ := missTo_put (l := l) hb hi
      simp only [missTo]
      rw [show (k ||| 1 <<< i).testBit N = k.testBit N by rw [testBit_or1]; simp; omega]
      split
      · exact ⟨a, b, h1, h2⟩
      · exact ⟨a, b ++ [rd_T33 l (N : Int)], by rw [h1]; simp, by rw [h2]; simp⟩
    · have : i = N := by omega
      subst this
      refine ⟨missTo l k i, [], ?_, ?_⟩
      · simp only [missTo]; rw [if_neg (by rw [hb]; decide)]
      · simp only [missTo]; rw [if_pos (by rw [testBit_or1]; simp), List.append_nil]
        exact (missTo_same (fun j hj => by rw [testBit_or1]; simp; omega)).symm
theorem miss_put {l : List S33} {k i : Nat} (hb : k.testBit i = false) (hi : i < l.length) : ∃ a b, miss l k = a ++ rd_T33 l (i : Int) :: b ∧ miss l (k ||| 1 <<< i) = a ++ b := missTo_put hb hi
theorem miss_less {l : List S33} {k i : Nat} (hb : k.testBit i = false) (hi : i < l.length) : (miss l k).length = (miss l (k ||| 1 <<< i)).length + 1 := by
  obtain ⟨a, b, h1, h2⟩ := miss_put (l := l) hb hi
  rw [h1, h2]; simp; omega
theorem put_small {k i : Nat} (hk : k < 4096) (hi : i < 12) : k ||| 1 <<< i < 4096 := by
  refine Nat.or_lt_two_pow (n := 12) hk ?_
  rw [Nat.one_shiftLeft]; exact Nat.pow_lt_pow_right (by decide) hi

/-! ### those that have to stand in the order -/
def overTo (l : List S33) : Nat → Nat
  | 0 => 0
  | i + 1 => if (rd_T33 l (i : Int)).f5 = -1 then overTo l i else overTo l i ||| 1 <<< i
theorem overTo_bit (l : List S33) (j : Nat) : ∀ i, (overTo l i).testBit j = decide (j < i ∧ (rd_T33 l (j : Int)).f5 ≠ -1)
  | 0 => by simp [overTo]
  | i + 1 => by
    simp only [overTo]
    split
    · rename_i h
      rw [overTo_bit l j i]
      congr 1
      simp only [eq_iff_iff]
      constructor
      · rintro ⟨a, b⟩; exact ⟨by omega, b⟩
      · rintro ⟨a, b⟩
        refine ⟨?_, b⟩
        rcases Nat.lt_or_ge j i with hj | hj
        · exact hj
        · have : j = i := by omega
          subst this; exact absurd h b
    · rename_i h
      rw [testBit_or1, overTo_bit l j i, ← Bool.decide_or]
      congr 1
      simp only [eq_iff_iff]
      constructor
      · rintro (⟨a, b⟩ | rfl)
        · exact ⟨by omega, b⟩
        · exact ⟨by omega, h⟩
      · rintro ⟨a, b⟩
        rcases Nat.lt_or_ge j i with hj | hj
        · exact .inl ⟨hj, b⟩
        · exact .inr (by omega)
theorem overTo_small (l : List S33) : ∀ i, i ≤ 12 → overTo l i < 4096
  | 0, _ => by simp [overTo]
  | i + 1, h => by
    simp only [overTo]
    split
    · exact overTo_small l i (by omega)
    · exact put_small (overTo_small l i (by omega)) (by omega)
theorem over_done (l : List S33) (k : Nat) : k &&& overTo l l.length = overTo l l.length ↔ ∀ e ∈ miss l k, e.f5 = -1 := by
  constructor
  · intro h e he
    obtain ⟨j, hj, hb, rfl⟩ := mem_miss.1 he
    by_cases hh : (rd_T33 l (j : Int)).f5 = -1
    · exact hh
    · have h1 : (overTo l l.length).testBit j = true := by rw [overTo_bit]; simp [hj, hh]
      have h2 := congrArg (fun n => Nat.testBit n j) h
      simp only [Nat.testBit_and, h1, hb] at h2
      cases h2
  · intro h
    apply Nat.eq_of_testBit_eq
    intro j
    rw [Nat.testBit_and]
    cases hb : (overTo l l.length).testBit j with
    | false => simp
    | true =>
      rw [overTo_bit] at hb
      simp only [decide_eq_true_eq] at hb
      cases hk : k.testBit j with
      | true => rfl
      | false => exact absurd (h _ (mem_miss.2 ⟨j, hb.1, hk, rfl⟩)) hb.2

/-! ### the orders -/
/-- The rest can come one behind the other, from this state on. -/
inductive Gs (n : Int) (l : List S33) : Nat → List Int → Prop
  | done {k s} : (∀ e ∈ miss l k, e.f5 = -1) → Gs n l k s
  | step {k s} (i : Nat) (x : S79) : i < l.length → k.testBit i = false → (∀ y ∈ miss l k, aheadB y (rd_T33 l (i : Int)) = false) → x ∈ waysOf n s (rd_T33 l (i : Int)) →
      ((rd_T33 l (i : Int)).f5 = -1 ∨ x.f0 = (rd_T33 l (i : Int)).f6) → Gs n l (k ||| 1 <<< i) x.f1 → Gs n l k s
/-- One event was tried, by these ways: in vain. -/
def Vain1 (n : Int) (l : List S33) (k : Nat) (j : Nat) (ws : List S79) : Prop := ∀ x ∈ ws, ((rd_T33 l (j : Int)).f5 = -1 ∨ x.f0 = (rd_T33 l (j : Int)).f6) → ¬ Gs n l (k ||| 1 <<< j) x.f1
def Vain (n : Int) (l : List S33) (k : Nat) (s : List Int) (i : Nat) : Prop := ∀ j < i, k.testBit j = false → (∀ y ∈ miss l k, aheadB y (rd_T33 l (j : Int)) = false) → Vain1 n l k j (waysOf n s (rd_T33 l (j : Int)))
theorem Vain.all {n : Int} {l : List S33} {k : Nat} {s : List Int} (h : Vain n l k s l.length) (hd : ¬ ∀ e ∈ miss l k, e.f5 = -1) : ¬ Gs n l k s := by
  intro hg
  cases hg with
  | done h' => exact hd h'
  | step i x a b c d e f => exact h i a b c x d e f
theorem Vain.skip {n : Int} {l : List S33} {k : Nat} {s : List Int} {i : Nat} (h : Vain n l k s i) (hs : k.testBit i = true ∨ ∃ y ∈ miss l k, aheadB y (rd_T33 l (i : Int)) = true) : Vain n l k s (i + 1) := by
  intro j hj hb hy
  rcases Nat.lt_or_ge j i with h' | h'
  · exact h j h' hb hy
  · have : j = i := by omega
    subst this
    rcases hs with hs | ⟨y, y1, y2⟩
    · rw [hs] at hb; cases hb
    · rw [hy y y1] at y2; cases y2
theorem Vain.more {n : Int} {l : List S33} {k : Nat} {s : List Int} {i : Nat} (h : Vain n l k s i) (hs : Vain1 n l k i (waysOf n s (rd_T33 l (i : Int)))) : Vain n l k s (i + 1) := by
  intro j hj hb hy
  rcases Nat.lt_or_ge j i with h' | h'
  · exact h j h' hb hy
  · have : j = i := by omega
    subst this; exact hs

/-! ### what was kept -/
def metV (k : Nat) (s : List Int) : Value := .agg #[.int .i64 k, .string ⟨(txt s).toArray⟩]
def hasM (D : DataW Unit) (k : Nat) (s : List Int) : Prop := ∃ kl, keyOf Tryd.prog 70 (metV k s) = some kl ∧ Maps.has D kl = true
theorem metV_inj {k k' : Nat} {s s' : List Int} (h : metV k s = metV k' s') : k = k' ∧ s = s' := by
  unfold metV at h
  injection h with h
  have h1 : (#[Value.int IntKind.i64 (k : Int), Value.string ⟨(txt s).toArray⟩] : Array Value)[0]? = (#[Value.int IntKind.i64 (k' : Int), Value.string ⟨(txt s').toArray⟩] : Array Value)[0]? := by rw [h]
  have h2 : (#[Value.int IntKind.i64 (k : Int), Value.string ⟨(txt s).toArray⟩] : Array Value)[1]? = (#[Value.int IntKind.i64 (k' : Int), Value.string ⟨(txt s').toArray⟩] : Array Value)[1]? := by rw [h]
  simp at h1 h2
  exact ⟨by omega, txt_inj h2⟩
theorem hasM_put {D : DataW Unit} (hD : IsMap D) {k : Nat} {s : List Int} {kl : Lit} (hk : keyOf Tryd.prog 70 (metV k s) = some kl) {k' : Nat} {s' : List Int} (h : hasM (D.put kl (.agg [])) k' s') : (k' = k ∧ s' = s) ∨ hasM D k' s' := by
  obtain ⟨kl', h1, h2⟩ := h
  by_cases e : kl' = kl
  · subst e; exact .inl (metV_inj (law70.inj h1 hk))
  · rw [has_put_other e] at h2; exact .inr ⟨kl', h1, h2⟩
def Grew (n : Int) (l : List S33) (D D' : DataW Unit) : Prop := ∀ k s, hasM D' k s → hasM D k s ∨ ¬ Gs n l k s
theorem Grew.refl (n : Int) (l : List S33) (D : DataW Unit) : Grew n l D D := fun _ _ h => .inl h
/-- What was kept of those that have no more events missing was in vain. -/
def MemV (n : Int) (l : List S33) (D : DataW Unit) (m : Nat) : Prop := ∀ k s, (miss l k).length ≤ m → hasM D k s → ¬ Gs n l k s
/-- What was kept, but for this one. -/
def Grew1 (n : Int) (l : List S33) (k : Nat) (s : List Int) (D D' : DataW Unit) : Prop := ∀ k' s', hasM D' k' s' → (k' = k ∧ s' = s) ∨ hasM D k' s' ∨ ¬ Gs n l k' s'
theorem Grew1.kept {n : Int} {l : List S33} {k : Nat} {s : List Int} {D D' : DataW Unit} {m : Nat} (h : Grew1 n l k s D D') (hK : MemV n l D (m + 1)) (hm : (miss l k).length = m + 1) : MemV n l D' m := by
  intro k' s' h1 h2
  rcases h k' s' h2 with ⟨rfl, rfl⟩ | h3 | h3
  · omega
  · exact hK k' s' (by omega) h3
  · exact h3
theorem Grew1.then {n : Int} {l : List S33} {k : Nat} {s : List Int} {D D' D2 : DataW Unit} (h : Grew1 n l k s D D') (h2 : Grew n l D' D2) : Grew1 n l k s D D2 := by
  intro k' s' h3
  rcases h2 k' s' h3 with h4 | h4
  · exact h k' s' h4
  · exact .inr (.inr h4)
theorem Grew1.end_ {n : Int} {l : List S33} {k : Nat} {s : List Int} {D D' : DataW Unit} (h : Grew1 n l k s D D') (hn : ¬ Gs n l k s) : Grew n l D D' := by
  intro k' s' h3
  rcases h k' s' h3 with ⟨rfl, rfl⟩ | h4 | h4
  · exact .inr hn
  · exact .inl h4
  · exact .inr h4
/-- How many are tried at most. -/
def tries : Nat → Nat
  | 0 => 1
  | m + 1 => 1 + 2 * (m + 1) * tries m
theorem tries_pos : ∀ m, 1 ≤ tries m
  | 0 => Nat.le_refl _
  | m + 1 => by simp only [tries]; omega
theorem tries_mono (m : Nat) : tries m ≤ tries (m + 1) := by
  simp only [tries]
  have : tries m ≤ 2 * (m + 1) * tries m := Nat.le_mul_of_pos_left _ (by omega)
  omega
theorem tries_12 : ∀ m, m ≤ 12 → tries m ≤ 10000000000000 := by
  have : ∀ d m, m + d = 12 → tries m ≤ tries 12 := by
    intro d
    induction d with
    | zero => intro m h; have : m = 12 := by omega
              subst this; exact Nat.le_refl _
    | succ d ih => intro m h; exact Nat.le_trans (tries_mono m) (ih (m + 1) (by omega))
  intro m h
  exact Nat.le_trans (this (12 - m) m (by omega)) (by decide)
end Go.Proofs.YtakhipedjccpkaaDoor.PH
