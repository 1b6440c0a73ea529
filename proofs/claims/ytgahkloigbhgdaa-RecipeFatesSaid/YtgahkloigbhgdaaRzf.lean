/- RecipeFates tells true. Conditions: none. -/
import Derived.Test.YtgahkloigbhgdaaPRy7
import Derived.Test.YtgahkloigbhgdaaRz
import Derived.Test.YtgahkloigbhgdaaRu
namespace Go.Proofs.Ytgahkloigbhgdaa.PR
open Go.RowKit Go.Proofs.YtgahkloigbhgdaaW.PrintWords Go.Proofs.YtgahkloigbhgdaaW.PrintLast Go.Proofs.YtgahkloigbhgdaaW.PrintMore
set_option linter.unusedVariables false
set_option linter.unusedSimpArgs false

theorem ringsTo_at (l : List S43) (i : Nat) : ∀ n, i ≤ n → (((ringsTo l i).length < (ringsTo l n).length ∧ rd (ringsTo l n) (ringsTo l i).length = i) ↔ i < n ∧ Rch l i i) := by
  intro n
  induction n with
  | zero => intro h; constructor
            · rintro ⟨a, _⟩; have : i = 0 := by omega
              subst this; omega
            · rintro ⟨a, _⟩; omega
  | succ n ih =>
    intro h
    have len_up : ∀ a b, a ≤ b → (ringsTo l a).length ≤ (ringsTo l b).length := by
      intro a b hab
      induction hab with
      | refl => exact Nat.le_refl _
      | step _ ih => refine Nat.le_trans ih ?_; simp only [ringsTo]; split <;> simp
    by_cases e : i = n + 1
    · subst e
      constructor
      · rintro ⟨a, _⟩; omega
      · rintro ⟨a, _⟩; omega
    · have hi : i ≤ n := by omega
      have ih := ih hi
      have lu := len_up i n hi
      by_cases hc : Rch l n n
      · have e1 : ringsTo l (n + 1) = ringsTo l n ++ [(n : Int)] := by simp only [ringsTo]; rw [if_pos hc]
        rw [e1]
        simp only [List.length_append, List.length_singleton]
        by_cases lt : (ringsTo l i).length < (ringsTo l n).length
        · have : rd (ringsTo l n ++ [(n : Int)]) (ringsTo l i).length = rd (ringsTo l n) (ringsTo l i).length := by
            simp only [rd, Int.toNat_natCast, List.getD_eq_getElem?_getD]; rw [List.getElem?_append_left lt]
          rw [this]
          constructor
          · rintro ⟨_, b⟩; have := ih.1 ⟨lt, b⟩; exact ⟨by omega, this.2⟩
          · rintro ⟨_, b⟩
            refine ⟨by omega, ?_⟩
            by_cases e2 : i < n
            · exact (ih.2 ⟨e2, b⟩).2
            · obtain rfl : i = n := by omega
              omega
        · have eq : (ringsTo l i).length = (ringsTo l n).length := by omega
          have : rd (ringsTo l n ++ [(n : Int)]) (ringsTo l i).length = n := by
            rw [eq]; simp [rd]
          rw [this]
          constructor
          · rintro ⟨_, b⟩
            have : i = n := by omega
            subst this; exact ⟨by omega, hc⟩
          · rintro ⟨_, b⟩
            refine ⟨by omega, ?_⟩
            by_cases e2 : i < n
            · exact (lt (ih.2 ⟨e2, b⟩).1).elim
            · omega
      · have e1 : ringsTo l (n + 1) = ringsTo l n := by simp only [ringsTo]; rw [if_neg hc]
        rw [e1, ih]
        constructor
        · rintro ⟨a, b⟩; exact ⟨by omega, b⟩
        · rintro ⟨a, b⟩
          refine ⟨?_, b⟩
          by_cases e2 : i = n
          · subst e2; exact (hc b).elim
          · omega
open Classical in
theorem rings_up (l : List S43) (i : Nat) : (ringsTo l (i + 1)).length = (ringsTo l i).length + (if Rch l i i then 1 else 0) := by
  simp only [ringsTo]; split <;> simp_all
section
variable {l : List S43} (hr : rightN l = 0) {t : List (List Bool)} (ht : TB l.length t (Rch l))
include hr ht
theorem fates_l2 (rings : List Int) (at' : Int) (i : Nat) (hi : i < l.length) (x10 : Bool) (h10 : x10 = true ↔ Can l i) (R : Bool)
    (hR : Ev (fun k => butlerlaw11_RecipeFates.l0 k l t rings at' ((i + 1 : Nat) : Int)) R) :
    ∀ (d : Nat) (j : Int), 0 ≤ j → ((nds l i).length : Int) - j = d →
      Ev (fun k => butlerlaw11_RecipeFates.l2 k l t rings at' i x10 (fateP l i).1 (fateP l i).2 (valu l i + part l ((nds l i).take j.toNat)) j) R := by
  have _u := ht.len
  obtain ⟨rg, h0⟩ := rgt_of hr
  have few := rg.vld.few
  have n20 := rg.vld.each i (by omega) (by omega)
  have val := rg.val i (by omega) (by omega)
  have rg20 : ∀ ms : List Int, 0 ≤ part l ms ∧ part l ms ≤ 1000002 * (ms.length : Int) := by
    intro ms
    induction ms with
    | nil => simp [part]
    | cons m ms ih =>
      have := fate_range l m
      simp only [part, List.map_cons, List.sum_cons, List.length_cons] at ih ⊢
      omega
  have eP : ∀ m, 0 ≤ m → m < (l.length : Int) → fateP l m = ((fateOf l m).f0, (fateOf l m).f1) := fun m a b => by unfold fateP; rw [if_pos ⟨hr, a, b⟩]
  intro d
  induction d with
  | zero =>
    intro j j0 hd
    refine Ev.step (f := fun k => butlerlaw11_RecipeFates.l0 k l t rings at' ((i + 1 : Nat) : Int)) (fun k => ?_) hR
    simp only [butlerlaw11_RecipeFates.l2]
    rw [if_pos (by omega), if_pos (by omega), if_neg (show ¬ j < (((rd_T43 l i).f0).length : Int) by unfold nds at hd; omega), eP i (by omega) (by omega)]
    have htk : (nds l i).take j.toNat = nds l i := List.take_of_length_le (by omega)
    rw [htk]
    by_cases hc : Can l i
    · have h1 : x10 = true := h10.2 hc
      have fy := fate_yes (can_iff.1 hc).1 (can_iff.1 hc).2
      have f1 : (fateOf l i).f0 = true := by rw [fy]
      have f2 : (fateOf l i).f1 = (valu l i + part l (nds l i)) % 1000003 := by rw [fy]
      simp only [f1, f2, h1]
      have a := rg20 (nds l i)
      generalize part l (nds l i) = p at *
      have b : (valu l i + p) - (valu l i + p) % 1000003 = 1000003 * ((valu l i + p) / 1000003) := by omega
      have w1 : wrap64 (valu l i + p - (valu l i + p) % 1000003) = 1000003 * ((valu l i + p) / 1000003) := by
        rw [← b]; unfold wrap64; omega
      rw [if_neg (by decide), if_pos trivial, if_neg (by omega), if_neg (by omega), w1, if_pos (Int.mul_tmod_right _ _), wrap_up (by omega) (by omega)]
      simp
    · have h1 : x10 = false := by cases x10 with
        | false => rfl
        | true => exact (hc (h10.1 rfl)).elim
      simp only [fate_not hc, h1, z51]
      rw [if_neg (by decide), if_neg (by decide), if_pos trivial, wrap_up (by omega) (by omega)]
      simp
  | succ d ih =>
    intro j j0 hd
    have hm : rd (nds l i) j ∈ nds l i := by
      simp only [rd, List.getD_eq_getElem?_getD, List.getElem?_eq_getElem (show j.toNat < (nds l i).length by omega), Option.getD_some]; exact List.getElem_mem _
    obtain ⟨m0, m1⟩ := rg.vld.mem (show 0 ≤ (i : Int) by omega) (by omega) hm
    have tk : (nds l i).take (j + 1).toNat = (nds l i).take j.toNat ++ [rd (nds l i) j] := by
      rw [show (j + 1).toNat = j.toNat + 1 by omega, List.take_add_one, List.getElem?_eq_getElem (show j.toNat < (nds l i).length by omega)]
      simp only [rd, List.getD_eq_getElem?_getD, List.getElem?_eq_getElem (show j.toNat < (nds l i).length by omega), Option.getD_some, Option.toList]
    have a := rg20 ((nds l i).take j.toNat)
    have lt : ((nds l i).take j.toNat).length ≤ 20 := by simp; omega
    have fr := fate_range l (rd (nds l i) j)
    refine Ev.step (f := fun k => (recipe_Fate.f k l (rd (nds l i) j)).bind fun bt => butlerlaw11_RecipeFates.l2 k l t rings at' i x10 (fateP l i).1 (fateP l i).2 (wrap64 (valu l i + part l ((nds l i).take j.toNat) + bt.2)) (wrap64 (j + 1))) (fun k => ?_) ?_
    · simp only [butlerlaw11_RecipeFates.l2]
      rw [if_pos (by omega), if_pos (by omega), if_pos (show j < (((rd_T43 l i).f0).length : Int) by unfold nds at hd; omega), if_pos j0]
      rfl
    · refine Ev.bind (f := fun k bt => butlerlaw11_RecipeFates.l2 k l t rings at' i x10 (fateP l i).1 (fateP l i).2 (wrap64 (valu l i + part l ((nds l i).take j.toNat) + bt.2)) (wrap64 (j + 1))) (Fate_ev l (rd (nds l i) j)) ?_
      have w : wrap64 (valu l i + part l ((nds l i).take j.toNat) + (fateP l (rd (nds l i) j)).2) = valu l i + part l ((nds l i).take (j + 1).toNat) := by
        rw [eP _ m0 m1, tk, part_snoc]
        unfold wrap64; simp only; omega
      rw [w, wrap_up j0 (by omega)]
      exact ih (j + 1) (by omega) (by omega)
theorem fates_l1 (rings : List Int) (at' : Int) (i : Nat) (hi : i < l.length) (R : Bool)
    (hR : Ev (fun k => butlerlaw11_RecipeFates.l0 k l t rings at' ((i + 1 : Nat) : Int)) R) :
    ∀ (d : Nat) (m : Nat) (can : Bool), m + d = l.length → (can = true ↔ act l i = 0 ∧ ¬ Rch l i i ∧ ∀ k, 0 ≤ k → k < (m : Int) → Rch l i k → act l k = 0 ∧ ¬ Rch l k k) →
      Ev (fun k => butlerlaw11_RecipeFates.l1 k l t rings at' i can m) R := by
  obtain ⟨rg, h0⟩ := rgt_of hr
  have few := rg.vld.few
  intro d
  induction d with
  | zero =>
    intro m can hd hcan
    obtain rfl : m = l.length := by omega
    refine Ev.step (f := fun k => (recipe_Fate.f k l i).bind fun bt => butlerlaw11_RecipeFates.l2 k l t rings at' i can bt.1 bt.2 (valu l i) 0) (fun k => ?_) ?_
    · simp only [butlerlaw11_RecipeFates.l1]
      rw [if_neg (by omega)]
      congr 1; funext bt
      rw [if_pos (by omega), if_pos (by omega)]; rfl
    · refine Ev.bind (f := fun k bt => butlerlaw11_RecipeFates.l2 k l t rings at' i can bt.1 bt.2 (valu l i) 0) (Fate_ev l i) ?_
      have := fates_l2 hr ht rings at' i hi can (hcan.trans (can_said rg.vld (by omega) (by omega)).symm) R hR (nds l i).length 0 (by omega) (by omega)
      simpa [part] using this
  | succ d ih =>
    intro m can hd hcan
    have hm : m < l.length := by omega
    have ti := ht.row i (by omega) (by omega)
    have tm := ht.row m (by omega) (by omega)
    have tl := ht.len
    have s1 := ht.say i m (by omega) (by omega) (by omega) (by omega)
    have s2 := ht.say m m (by omega) (by omega) (by omega) (by omega)
    have s3 := ht.say m i (by omega) (by omega) (by omega) (by omega)
    have up : wrap64 ((m : Int) + 1) = ((m + 1 : Nat) : Int) := by rw [wrap_up (by omega) (by omega)]; simp
    by_cases hc : Rch l i m
    · have lv : rdOf false (rd_L5 t m) i = true → (rd_T43 l i).f1 = (rd_T43 l m).f1 := fun h => by
        have a := lev_down hr hc (by omega) (by omega)
        have b := lev_down hr (s3.1 h) (by omega) (by omega)
        unfold lev at a b; omega
      have next := ih (m + 1) (can && (decide (act l m = 0) && !(rdOf false (rd_L5 t m) m))) (by omega) (by
        simp only [Bool.and_eq_true, decide_eq_true_eq, Bool.not_eq_true']
        rw [hcan]
        have hb : rdOf false (rd_L5 t m) m = false ↔ ¬ Rch l m m := by rw [← s2]; cases rdOf false (rd_L5 t m) m <;> simp
        rw [hb]
        constructor
        · rintro ⟨⟨a, b, c⟩, d, e⟩
          refine ⟨a, b, fun k k0 k1 kr => ?_⟩
          by_cases ek : k = m
          · subst ek; exact ⟨d, e⟩
          · exact c k k0 (by omega) kr
        · rintro ⟨a, b, c⟩
          exact ⟨⟨a, b, fun k k0 k1 kr => c k k0 (by omega) kr⟩, c m (by omega) (by omega) hc⟩)
      refine Ev.step (fun k => ?_) next
      simp only [butlerlaw11_RecipeFates.l1]
      rw [if_pos (show (m : Int) < (l.length : Int) by omega), if_pos (show (0 : Int) ≤ i by omega), if_pos (show (i : Int) < (t.length : Int) by omega), if_pos (show (0 : Int) ≤ m by omega), if_pos (show (m : Int) < ((rd_L5 t i).length : Int) by omega), if_pos (s1.2 hc), up]
      have l1 : (m : Int) < (t.length : Int) := by omega
      have l2 : (m : Int) < ((rd_L5 t m).length : Int) := by omega
      have l3 : (i : Int) < ((rd_L5 t m).length : Int) := by omega
      have l4 : (i : Int) < (l.length : Int) := by omega
      simp only [if_pos l1, if_pos l2, if_pos l3, if_pos l4]
      have both : ∀ X : Option Bool, (if rdOf false (rd_L5 t m) i = true then (if (rd_T43 l i).f1 = (rd_T43 l m).f1 then X else some false) else X) = X := fun X => by
        split
        · rename_i h; rw [if_pos (lv h)]
        · rfl
      simp only [both]
      cases can with
      | false => simp
      | true =>
        rw [if_pos rfl]
        by_cases ha : (rd_T43 l m).f2 = 0
        · rw [if_pos ha, decide_eq_true (show act l m = 0 from ha)]; rfl
        · rw [if_neg ha, decide_eq_false (show ¬ act l m = 0 from ha)]; rfl
    · have next := ih (m + 1) can (by omega) (by
        rw [hcan]
        constructor
        · rintro ⟨a, b, c⟩
          refine ⟨a, b, fun k k0 k1 kr => ?_⟩
          by_cases ek : k = m
          · subst ek; exact (hc kr).elim
          · exact c k k0 (by omega) kr
        · rintro ⟨a, b, c⟩
          exact ⟨a, b, fun k k0 k1 kr => c k k0 (by omega) kr⟩)
      refine Ev.step (fun k => ?_) next
      simp only [butlerlaw11_RecipeFates.l1]
      rw [if_pos (show (m : Int) < (l.length : Int) by omega), if_pos (show (0 : Int) ≤ i by omega), if_pos (show (i : Int) < (t.length : Int) by omega), if_pos (show (0 : Int) ≤ m by omega), if_pos (show (m : Int) < ((rd_L5 t i).length : Int) by omega), if_neg (fun h => hc (s1.1 h)), up]
open Classical in
theorem fates_l0 : ∀ (d : Nat) (i : Nat), i + d = l.length → Ev (fun k => butlerlaw11_RecipeFates.l0 k l t (ringsOf l) ((ringsTo l i).length : Nat) i) true := by
  obtain ⟨rg, h0⟩ := rgt_of hr
  have few := rg.vld.few
  have er : ringsOf l = ringsTo l l.length := by unfold ringsOf; rw [if_pos hr]
  intro d
  induction d with
  | zero =>
    intro i hd
    obtain rfl : i = l.length := by omega
    refine Ev.step (f := fun _ => some true) (fun k => ?_) (Ev.now _)
    simp only [butlerlaw11_RecipeFates.l0]
    rw [if_neg (by omega), er]; simp
  | succ d ih =>
    intro i hd
    have hi : i < l.length := by omega
    have ln := ringsTo_len l i
    have ti := ht.row i (by omega) (by omega)
    have tl := ht.len
    have s1 := ht.say i i (by omega) (by omega) (by omega) (by omega)
    have nx := ih (i + 1) (by omega)
    rw [rings_up] at nx
    have main : ∀ b : Bool, (b = true ↔ Rch l i i) → Ev (fun k => butlerlaw11_RecipeFates.j2 k l t (ringsOf l) ((ringsTo l i).length : Nat) i b) true := by
      intro b hb
      have eb : rdOf false (rd_L5 t i) i = b := by
        cases hx : rdOf false (rd_L5 t i) i <;> cases b <;> simp_all
      have j3 : Ev (fun k => butlerlaw11_RecipeFates.j3 k l t (ringsOf l) (((ringsTo l i).length + (if Rch l i i then 1 else 0) : Nat) : Int) i b) true := by
        have l1 := fates_l1 hr ht (ringsOf l) (((ringsTo l i).length + (if Rch l i i then 1 else 0) : Nat) : Int) i hi true nx l.length 0 (decide (act l i = 0) && !b) (by omega) (by
          simp only [Bool.and_eq_true, decide_eq_true_eq, Bool.not_eq_true']
          constructor
          · rintro ⟨a, c⟩; exact ⟨a, (fun h => by rw [hb.2 h] at c; cases c), fun k k0 k1 => by omega⟩
          · rintro ⟨a, c, _⟩
            refine ⟨a, ?_⟩
            cases b with
            | false => rfl
            | true => exact (c (hb.1 rfl)).elim)
        refine Ev.step (f := fun k => butlerlaw11_RecipeFates.j4 k l t (ringsOf l) (((ringsTo l i).length + (if Rch l i i then 1 else 0) : Nat) : Int) i (decide (act l i = 0) && !b)) (fun k => ?_) (Ev.step (fun k => ?_) l1)
        · simp only [butlerlaw11_RecipeFates.j3]
          rw [if_pos (by omega), if_pos (by omega)]
          by_cases ha : (rd_T43 l i).f2 = 0
          · rw [if_pos ha, decide_eq_true (show act l i = 0 from ha)]; rfl
          · rw [if_neg ha, decide_eq_false (show ¬ act l i = 0 from ha)]; rfl
        · simp only [butlerlaw11_RecipeFates.j4]; rfl
      refine Ev.step (fun k => ?_) j3
      simp only [butlerlaw11_RecipeFates.j2]
      rw [if_pos (by omega), if_pos (by omega), if_pos (by omega), eb, if_neg (by simp)]
      by_cases hc : Rch l i i
      · rw [if_pos (hb.2 hc), if_pos hc, wrap_up (by omega) (by omega)]; simp
      · rw [if_neg (fun h => hc (hb.1 h)), if_neg hc]; simp
    have at_ := ringsTo_at l i l.length (by omega)
    rw [← er] at at_
    by_cases hlt : (ringsTo l i).length < (ringsOf l).length
    · refine Ev.step (fun k => ?_) (main (rd (ringsOf l) ((ringsTo l i).length : Nat) == i) ?_)
      · simp only [butlerlaw11_RecipeFates.l0]
        rw [if_pos (by omega), if_pos (by omega), if_pos (by omega)]
      · simp only [beq_iff_eq]
        constructor
        · intro h; exact (at_.1 ⟨hlt, h⟩).2
        · intro h; exact (at_.2 ⟨hi, h⟩).2
    · refine Ev.step (fun k => ?_) (main false ?_)
      · simp only [butlerlaw11_RecipeFates.l0]
        rw [if_pos (by omega), if_neg (by omega)]
      · constructor
        · (intro h; cases h)
        · intro h; exact (hlt (at_.2 ⟨hi, h⟩).1).elim
end
theorem RecipeFates_ev (l : List S43) : Ev (fun k => butlerlaw11_RecipeFates.f k l) true := by
  unfold butlerlaw11_RecipeFates.f
  refine Ev.bind (f := fun k t211 => (butlerref11_Right.f k l).bind fun t212 => (if t211 = true then (butlerlaw11_RecipeFates.j0 k l t211 (t212 != 0)) else (butlerlaw11_RecipeFates.j0 k l t211 true))) awake_ev ?_
  simp only [if_true]
  refine Ev.bind (f := fun k t212 => butlerlaw11_RecipeFates.j0 k l true (t212 != 0)) (refRight_ev l) ?_
  by_cases hr : rightN l = 0
  · obtain ⟨rg, h0⟩ := rgt_of hr
    obtain ⟨t, ht, et⟩ := table_ev rg.vld
    refine Ev.step (f := fun k => (butlerlaw11_table.f k l).bind fun t213 => ((recipe_Rings.f k l).bind fun t216 => (butlerlaw11_RecipeFates.l0 k l t213 t216 0 0))) (fun k => ?_) ?_
    · simp only [butlerlaw11_RecipeFates.j0]; rw [hr]; rfl
    · refine Ev.bind (f := fun k t213 => ((recipe_Rings.f k l).bind fun t216 => (butlerlaw11_RecipeFates.l0 k l t213 t216 0 0))) et ?_
      refine Ev.bind (f := fun k t216 => (butlerlaw11_RecipeFates.l0 k l t t216 0 0)) (Rings_ev l) ?_
      exact fates_l0 hr ht l.length 0 (by omega)
  · refine Ev.step (f := fun _ => some true) (fun k => ?_) (Ev.now _)
    simp only [butlerlaw11_RecipeFates.j0]
    rw [if_pos]; simpa using hr
end Go.Proofs.Ytgahkloigbhgdaa.PR
