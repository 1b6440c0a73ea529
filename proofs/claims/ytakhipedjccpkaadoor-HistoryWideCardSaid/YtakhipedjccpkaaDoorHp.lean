/- HistoryWide, plainly: the stretched list, the rest; a row of events whose field is written. -/
import Derived.Test.YtakhipedjccpkaaDoorHn
import Derived.Test.YtakhipedjccpkaaDoorHl
import Derived.Test.YtakhipedjccpkaaDoorHb
namespace Go.Proofs.YtakhipedjccpkaaDoor.PH
open Go.RowKit Go.Proofs.YtakhipedjccpkaaDoorW.PrintWords Go.Proofs.YtakhipedjccpkaaDoorW.PrintLast Go.Proofs.YtakhipedjccpkaaDoorW.PrintMore
set_option linter.unusedVariables false
set_option linter.unusedSimpArgs false

/-! ### a row whose field is written -/
structure Row33 (w : World) (g N : Nat) (l : List S33) : Prop where
  pre : Pre33 w g N l
  le : l.length ≤ N
  max : N ≤ maxLen
theorem flat_of_reps {w : World} {base : Nat} {ok : Nat → Prop} : ∀ {l : List S33} {inner : List Value}, Reps (k33.M w base ok) 8 l inner → inner = flat33 l
  | [], inner, h => by have := h.1; simp at this; rw [this]; rfl
  | e :: l, inner, h => by
    have hl := h.1
    simp only [List.length_cons] at hl
    have h0 := k33_openM (h.2 0 e rfl)
    have ht : Reps (k33.M w base ok) 8 l (inner.drop 8) := by
      refine ⟨by simp; omega, fun j p hp => ?_⟩
      have := h.2 (j + 1) p (by simpa using hp)
      rw [List.drop_drop]
      rwa [show (j + 1) * 8 = 8 + j * 8 by omega] at this
    have := flat_of_reps ht
    have e1 : inner = inner.take 8 ++ inner.drop 8 := (List.take_append_drop 8 inner).symm
    rw [e1, this]
    have e2 : inner.take 8 = cs33 e := by rw [Nat.zero_mul, List.drop_zero] at h0; exact h0
    rw [e2]
    rfl
theorem Row33.of {w : World} {base g c n : Nat} {ok : Nat → Prop} {l : List S33} (h : Kd.R k33 33 w base ok (.slice (some ⟨g, 0, none⟩) n c) l) : Row33 w g c l := by
  obtain ⟨_, inner, ⟨h1, h2⟩, h3⟩ := h
  rcases h2 with ⟨h2, _⟩ | ⟨g', cap, cur, e, _, hb, hc, hm, hs, ht⟩
  · cases h2
  · injection e with e1 e2 e3
    injection e1 with e1
    injection e1 with e1
    subst e1 e3
    exact ⟨⟨⟨cur, hb, hs, by rw [← flat_of_reps h3]; exact ht⟩⟩, hc, hm⟩
theorem flat33_set : ∀ (l : List S33) (i j : Nat) (e e' : S33) (v : Value), l[i]? = some e → j < 8 → cs33 e' = (cs33 e).set j v → flat33 (l.set i e') = (flat33 l).set (i * 8 + j) v
  | [], i, j, e, e', v, h, _, _ => by simp at h
  | x :: l, 0, j, e, e', v, h, hj, hc => by
    simp at h; subst h
    show cs33 e' ++ flat33 l = (cs33 x ++ flat33 l).set (0 * 8 + j) v
    rw [hc, Nat.zero_mul, Nat.zero_add, List.set_append_left _ _ (by simpa [cs33] using hj)]
  | x :: l, i + 1, j, e, e', v, h, hj, hc => by
    have ih := flat33_set l i j e e' v (by simpa using h) hj hc
    show cs33 x ++ flat33 (l.set i e') = (cs33 x ++ flat33 l).set ((i + 1) * 8 + j) v
    rw [ih, List.set_append_right _ _ (by simp [cs33]; omega)]
    congr 2
    simp [cs33]; omega
theorem Row33.put {w : World} {g N : Nat} {l : List S33} (h : Row33 w g N l) (i j : Nat) (e e' : S33) (v : Value) (hi : l[i]? = some e) (hj : j < 8) (hc : cs33 e' = (cs33 e).set j v) : Row33 (w.setCell ⟨g, i * 8 + j, none⟩ v) g N (l.set i e') := by
  obtain ⟨cur, h1, h2, h3⟩ := h.pre.out
  refine ⟨⟨⟨cur.setIfInBounds (i * 8 + j) v, ?_, by simpa using h2, ?_⟩⟩, by simpa using h.le, h.max⟩
  · rw [setCell_eq_setRow w g _ cur 33 (0, 0) v h1]
    exact setRow_heap w g cur _ 33 _ h1
  · rw [Array.toList_setIfInBounds, List.length_set, List.take_set, h3, flat33_set l i j e e' v hi hj hc]
theorem Row33.row {w : World} {g N base : Nat} {l : List S33} (h : Row33 w g N l) (hg : base ≤ g) : Kd.R k33 33 w base (fun _ => True) (.slice (some ⟨g, 0, none⟩) l.length N) l := h.pre.row h.le h.max hg
theorem Row33.below {w w' : World} {g N : Nat} {l : List S33} (h : Row33 w g N l) (hb : Below w.heap.size w w') : Row33 w' g N l := by
  obtain ⟨cur, h1, h2, h3⟩ := h.pre.out
  exact ⟨⟨⟨cur, blk_below h1 hb, h2, h3⟩⟩, h.le, h.max⟩

/-! ### the stretched list -/
theorem rd_set (l : List S33) (k i : Nat) (e : S33) (hk : k < l.length) : rd_T33 (l.set k e) (i : Int) = if i = k then e else rd_T33 l (i : Int) := by
  unfold rd_T33
  simp only [Int.toNat_natCast, List.getD_eq_getElem?_getD, List.getElem?_set]
  by_cases h : k = i
  · subst h; simp [hk]
  · rw [if_neg h, if_neg (fun h' => h h'.symm)]
theorem ahead_iff (x y : S33) : aheadB x y = true ↔ x.f5 ≠ -1 ∧ x.f5 < y.f4 := by
  unfold aheadB; split <;> simp [*]
theorem wider_set {l : List S33} {k : Nat} {e' : S33} (hk : k < l.length) (hl : likeE e' (rd_T33 l (k : Int))) (ha : e'.f6 = (rd_T33 l (k : Int)).f6) (hb : e'.f4 ≤ (rd_T33 l (k : Int)).f4)
    (ho : e'.f5 = -1 ∨ (rd_T33 l (k : Int)).f5 ≠ -1 ∧ (rd_T33 l (k : Int)).f5 ≤ e'.f5) : Wider l (l.set k e') := by
  refine ⟨by simp, fun i hi => ?_, fun i hi => ?_, fun i hi h => ?_, fun i hi j hj h => ?_⟩
  · rw [rd_set l k i e' hk]; split
    · rename_i h; subst h; exact hl
    · exact ⟨rfl, rfl, rfl⟩
  · rw [rd_set l k i e' hk]; split
    · rename_i h; subst h; exact ha
    · rfl
  · rw [rd_set l k i e' hk]; split
    · rename_i h'; subst h'
      rcases ho with ho | ho
      · exact ho
      · exact absurd h ho.1
    · exact h
  · rw [rd_set l k i e' hk, rd_set l k j e' hk] at h
    rw [ahead_iff] at h ⊢
    by_cases h1 : i = k <;> by_cases h2 : j = k <;> simp only [h1, h2, if_true, if_false] at h ⊢ <;> rcases ho with ho | ho <;> omega
/-- What Linear tells of a list that is begun, short, and of an order that can be. -/
theorem lin_wide {n start : Int} {u : List S33} (hb : Begun n start) (hl : u.length ≤ 12) (hg : rightP u → Gs n u 0 (state0 n start)) : linOf n start u = (true, 0) ∨ linOf n start u = (false, 30) := by
  unfold linOf
  rw [if_neg (not_not_intro hb), if_neg (by omega)]
  by_cases hr : rightP u
  · rw [if_neg (not_not_intro hr)]
    exact .inl (by rw [@decide_eq_true _ (Classical.propDecidable _) (hg hr)])
  · rw [if_pos hr]; exact .inr rfl
theorem lin_true {n start : Int} {l : List S33} (h : linOf n start l = (true, 0)) : Begun n start ∧ l.length ≤ 12 ∧ rightP l ∧ Gs n l 0 (state0 n start) := by
  unfold linOf at h
  split at h
  · simp at h
  · rename_i h1
    split at h
    · simp at h
    · rename_i h2
      split at h
      · simp at h
      · rename_i h3
        refine ⟨Classical.not_not.1 h1, by omega, Classical.not_not.1 h3, ?_⟩
        have := congrArg Prod.fst h
        exact @of_decide_eq_true _ (Classical.propDecidable _) this

/-! ### the rest -/
def restTo (l : List S33) (q : Nat) : Nat → List S33
  | 0 => []
  | i + 1 => if i = q then restTo l q i else restTo l q i ++ [cl (rd_T33 l (q : Int)).f4 (rd_T33 l (i : Int))]
theorem restTo_len (l : List S33) (q : Nat) : ∀ i, (restTo l q i).length ≤ i
  | 0 => Nat.le_refl _
  | i + 1 => by have := restTo_len l q i; simp only [restTo]; split <;> simp <;> omega
theorem restTo_low (l : List S33) (q : Nat) : ∀ i, i ≤ q → i ≤ l.length → restTo l q i = (l.take i).map (cl (rd_T33 l (q : Int)).f4)
  | 0, _, _ => by simp [restTo]
  | i + 1, h, h' => by
    simp only [restTo]
    rw [if_neg (by omega), restTo_low l q i (by omega) (by omega), take33 l (by omega)]; simp
theorem restTo_all (l : List S33) (q : Nat) (hq : q < l.length) : ∀ d, q + 1 + d ≤ l.length → restTo l q (q + 1 + d) = (l.take q).map (cl (rd_T33 l (q : Int)).f4) ++ ((l.take (q + 1 + d)).drop (q + 1)).map (cl (rd_T33 l (q : Int)).f4)
  | 0, h => by
    simp only [Nat.add_zero, restTo]
    rw [if_pos trivial, restTo_low l q q (Nat.le_refl _) (by omega)]
    rw [List.drop_eq_nil_of_le (by simp; omega)]; simp
  | d + 1, h => by
    have ih := restTo_all l q hq d (by omega)
    rw [show q + 1 + (d + 1) = (q + 1 + d) + 1 by omega]
    simp only [restTo]
    rw [if_neg (by omega), ih, take33 l (by omega), List.drop_append_of_le_length (by simp; omega)]
    simp
theorem split_at (l : List S33) (q : Nat) (hq : q < l.length) : l = l.take q ++ rd_T33 l (q : Int) :: l.drop (q + 1) := by
  rw [rd33_eq l hq]
  conv => lhs; rw [← List.take_append_drop q l, List.drop_eq_getElem_cons hq]
theorem gs_rest {n : Int} {l : List S33} {s : List Int} {q : Nat} (hq : q < l.length) (h : Gs n l 0 s) : Gs n (restTo l q l.length) 0 s := by
  rw [gs_list] at h ⊢
  have := h.less (l.take q) (l.drop (q + 1)) (split_at l q hq)
  have e : restTo l q l.length = (l.take q ++ l.drop (q + 1)).map (cl (rd_T33 l (q : Int)).f4) := by
    have := restTo_all l q hq (l.length - (q + 1)) (by omega)
    rw [show q + 1 + (l.length - (q + 1)) = l.length by omega] at this
    rw [this, List.take_length, List.map_append]
  rw [e]; exact this
theorem nums_rest {l : List S33} (h : Nums l) (q : Nat) : ∀ i, i ≤ l.length → Nums (restTo l q i)
  | 0, _ => by intro e he; cases he
  | i + 1, hi => by
    simp only [restTo]
    split
    · exact nums_rest h q i (by omega)
    · intro e he
      rcases List.mem_append.1 he with he | he
      · exact nums_rest h q i (by omega) e he
      · rw [List.mem_singleton.1 he]
        have hk := cl_like (rd_T33 l (q : Int)).f4 (rd_T33 l (i : Int))
        rw [hk.2.1, hk.2.2]
        exact h _ (rd33_at l (by omega))
theorem nums_set {l : List S33} (h : Nums l) {k : Nat} (hk : k < l.length) {e' : S33} (hl : likeE e' (rd_T33 l (k : Int))) : Nums (l.set k e') := by
  intro e he
  rcases List.mem_or_eq_of_mem_set he with he | rfl
  · exact h e he
  · rw [hl.2.1, hl.2.2]; exact h _ (rd33_at l hk)
end Go.Proofs.YtakhipedjccpkaaDoor.PH
