/- The document's answer for Right (butlerref11.Right), in plain words; and: what can be built is what reaches no ring and nothing that does not give. Conditions: none beyond what each statement names. -/
import Derived.Test.YtgahkloigbhgdaaPRx5
import Derived.Test.YtgahkloigbhgdaaRr
import Derived.Test.YtgahkloigbhgdaaRv
import Derived.Test.YtgahkloigbhgdaaRt
namespace Go.Proofs.Ytgahkloigbhgdaa.PR
open Go.RowKit Go.Proofs.YtgahkloigbhgdaaW.PrintWords Go.Proofs.YtgahkloigbhgdaaW.PrintLast Go.Proofs.YtgahkloigbhgdaaW.PrintMore
set_option linter.unusedVariables false
set_option linter.unusedSimpArgs false

/-! ### the document's Right -/
theorem ref_l2 (l : List S43) (hL : ¬ Long l) (i : Int) (h0 : 0 ≤ i) (hi : i < (l.length : Int)) (r : Int) (hr : Ev (fun k => butlerref11_Right.l1 k l (i + 1)) r) (hs : SelfOk l i)
    (hv : (r = 0 ∨ r = 110) ∧ (r = 0 ↔ ∀ k, i + 1 ≤ k → k < (l.length : Int) → OneOk l k)) (hn : (nds l i).length ≤ 20) :
    ∀ (d : Nat) (j : Int), 0 ≤ j → ((nds l i).length : Int) - j = d → (∀ j', 0 ≤ j' → j' < j → NeedOk l i (rd (nds l i) j')) →
      ∃ r', Ev (fun k => butlerref11_Right.l2 k l i j (nds l i) (lev l i) (act l i) (valu l i) (fin' l i)) r' ∧ (r' = 0 ∨ r' = 110) ∧ (r' = 0 ↔ ∀ k, i ≤ k → k < (l.length : Int) → OneOk l k) := by
  have few : l.length ≤ 100 := by unfold Long at hL; omega
  intro d
  induction d with
  | zero =>
    intro j j0 hd hj
    refine ⟨r, Ev.step (f := fun k => butlerref11_Right.l1 k l (i + 1)) (fun k => ?_) hr, hv.1, hv.2.trans ?_⟩
    · simp only [butlerref11_Right.l2]; rw [if_neg (by omega), wrap_up h0 (by omega)]
    · constructor
      · intro h k a c
        by_cases e : k = i
        · subst e; exact ⟨fun j' a c => hj j' a (by omega), hs⟩
        · exact h k (by omega) c
      · intro h k a c; exact h k (by omega) c
  | succ d ih =>
    intro j j0 hd hj
    have no : ¬ NeedOk l i (rd (nds l i) j) → ∃ r', Ev (fun k => (some 110 : Option Int)) r' ∧ (r' = 0 ∨ r' = 110) ∧ (r' = 0 ↔ ∀ k, i ≤ k → k < (l.length : Int) → OneOk l k) := fun hn => ⟨110, Ev.now _, .inr rfl, by
      constructor
      · intro h; cases h
      · intro h; exact (hn ((h i (by omega) hi).1 j j0 (by omega))).elim⟩
    by_cases hN : NeedOk l i (rd (nds l i) j)
    · obtain ⟨r', e, p⟩ := ih (j + 1) (by omega) (by omega) (fun j' a c => by
        by_cases e : j' = j
        · subst e; exact hN
        · exact hj j' a (by omega))
      obtain ⟨n0, n1, n2⟩ := hN
      refine ⟨r', Ev.step (f := fun k => butlerref11_Right.l2 k l i (j + 1) (nds l i) (lev l i) (act l i) (valu l i) (fin' l i)) (fun k => ?_) e, p⟩
      simp only [butlerref11_Right.l2]
      unfold lev at n2
      rw [if_pos (by omega), if_pos j0, if_neg (by omega), if_neg (by omega), if_pos n0, if_pos n1, if_neg (by unfold lev; omega), wrap_up j0 (by omega)]
    · obtain ⟨r', e, p⟩ := no hN
      refine ⟨r', Ev.step (f := fun k => (some 110 : Option Int)) (fun k => ?_) e, p⟩
      simp only [butlerref11_Right.l2]
      rw [if_pos (by omega), if_pos j0]
      by_cases h1 : rd (nds l i) j < 0
      · rw [if_pos h1]
      rw [if_neg h1]
      by_cases h2 : rd (nds l i) j ≥ (l.length : Int)
      · rw [if_pos h2]
      rw [if_neg h2, if_pos (by omega), if_pos (by omega), if_pos]
      unfold NeedOk lev at hN
      unfold lev
      omega
theorem ref_l1 (l : List S43) (hL : ¬ Long l) (hp : 0 < l.length) : ∀ (d : Nat) (i : Int), 0 ≤ i → (l.length : Int) - i = d →
    ∃ r, Ev (fun k => butlerref11_Right.l1 k l i) r ∧ (r = 0 ∨ r = 110) ∧ (r = 0 ↔ ∀ k, i ≤ k → k < (l.length : Int) → OneOk l k) := by
  have few : l.length ≤ 100 := by unfold Long at hL; omega
  intro d
  induction d with
  | zero =>
    intro i h0 hd
    refine ⟨0, Ev.step (f := fun _ => some 0) (fun k => ?_) (Ev.now _), .inl rfl, fun _ k a b => by omega, fun _ => rfl⟩
    simp only [butlerref11_Right.l1]; rw [if_neg (by omega), if_neg (by omega)]
  | succ d ih =>
    intro i h0 hd
    have hi : i < (l.length : Int) := by omega
    have hn : (nds l i).length ≤ 20 := by
      by_cases hc : (nds l i).length ≤ 20
      · exact hc
      · exact (hL (.inr ⟨i, h0, hi, by omega⟩)).elim
    obtain ⟨r, he, hv⟩ := ih (i + 1) (by omega) (by omega)
    have step : ∀ b : Bool, (b = false ↔ SelfOk l i) → ∃ r, Ev (fun k => butlerref11_Right.j2 k l i b (nds l i) (lev l i) (act l i) (valu l i) (fin' l i)) r ∧ (r = 0 ∨ r = 110) ∧ (r = 0 ↔ ∀ k, i ≤ k → k < (l.length : Int) → OneOk l k) := by
      intro b hb
      cases b with
      | true =>
        refine ⟨110, Ev.step (f := fun _ => some 110) (fun k => ?_) (Ev.now _), .inr rfl, ?_⟩
        · simp only [butlerref11_Right.j2]; rfl
        · constructor
          · intro h; cases h
          · intro h; have := hb.2 (h i (by omega) hi).2; cases this
      | false =>
        obtain ⟨r', e, p⟩ := ref_l2 l hL i h0 hi r he (hb.1 rfl) hv hn (nds l i).length 0 (by omega) (by omega) (fun j' a c => by omega)
        refine ⟨r', Ev.step (f := fun k => butlerref11_Right.l2 k l i 0 (nds l i) (lev l i) (act l i) (valu l i) (fin' l i)) (fun k => ?_) e, p⟩
        simp only [butlerref11_Right.j2]; rw [if_neg (by decide)]
    have pick : ∃ b : Bool, (b = false ↔ SelfOk l i) ∧ ∀ k, butlerref11_Right.l1 (k + 1) l i = butlerref11_Right.j2 k l i b (nds l i) (lev l i) (act l i) (valu l i) (fin' l i) := by
      by_cases hs : SelfOk l i
      · refine ⟨false, ⟨fun _ => hs, fun _ => rfl⟩, fun k => ?_⟩
        unfold SelfOk lev act valu fin' at hs
        simp only [butlerref11_Right.l1]
        rw [if_pos hi, if_pos h0, if_neg (by omega), if_neg (by omega), if_neg (by omega), if_neg (by omega), if_neg (by omega), if_neg (by omega), if_neg (by omega)]
        rw [decide_eq_false (by omega)]; rfl
      · refine ⟨true, ⟨fun h => absurd h (by decide), fun h => (hs h).elim⟩, fun k => ?_⟩
        unfold SelfOk at hs
        simp only [butlerref11_Right.l1]
        rw [if_pos hi, if_pos h0]
        show (if lev l i < 0 then _ else if lev l i ≥ 8 then _ else if act l i < 0 then _ else if act l i > 2 then _ else if fin' l i < 0 then _ else if fin' l i > 2 then _ else if valu l i < -1000 then _ else _) = _
        by_cases h1 : lev l i < 0
        · rw [if_pos h1]; rfl
        rw [if_neg h1]
        by_cases h2 : lev l i ≥ 8
        · rw [if_pos h2]; rfl
        rw [if_neg h2]
        by_cases h3 : act l i < 0
        · rw [if_pos h3]; rfl
        rw [if_neg h3]
        by_cases h4 : act l i > 2
        · rw [if_pos h4]; rfl
        rw [if_neg h4]
        by_cases h5 : fin' l i < 0
        · rw [if_pos h5]; rfl
        rw [if_neg h5]
        by_cases h6 : fin' l i > 2
        · rw [if_pos h6]; rfl
        rw [if_neg h6]
        by_cases h7 : valu l i < -1000
        · rw [if_pos h7]; rfl
        rw [if_neg h7, decide_eq_true (show (rd_T43 l i).f3 > 1000 by unfold valu at h7 hs; omega)]; rfl
    obtain ⟨b, hb, hk⟩ := pick
    obtain ⟨r', e, p⟩ := step b hb
    exact ⟨r', Ev.step (fun k => hk k) e, p⟩
theorem ref_l0 (l : List S43) (few : l.length ≤ 100) : ∀ (d : Nat) (i : Int), 0 ≤ i → (l.length : Int) - i = d → (∀ k, 0 ≤ k → k < i → (nds l k).length ≤ 20) → Ev (fun k => butlerref11_Right.l0 k l i) (rightN l) := by
  intro d
  induction d with
  | zero =>
    intro i h0 hd hs
    have hL : ¬ Long l := by
      rintro (h | ⟨k, a, b, c⟩)
      · omega
      · have := hs k a (by omega); omega
    by_cases hz : l.length = 0
    · refine Ev.step (f := fun k => butlerref11_Right.l1 k l 0) (fun k => ?_) (Ev.step (f := fun _ => some (rightN l)) (fun k => ?_) (Ev.now _))
      · simp only [butlerref11_Right.l0]; rw [if_neg (by omega)]
      · simp only [butlerref11_Right.l1]; rw [if_neg (by omega), if_pos (by omega)]
        unfold rightN; rw [if_neg hL, if_neg (fun h => by have := h.1; omega)]
    · obtain ⟨r, he, hr, hrr⟩ := ref_l1 l hL (by omega) l.length 0 (by omega) (by omega)
      have : rightN l = r := by
        unfold rightN; rw [if_neg hL]
        by_cases ha : AllOk l
        · rw [if_pos ha, hrr.2 ha.2]
        · rw [if_neg ha]
          rcases hr with h | h
          · exact (ha ⟨by omega, hrr.1 h⟩).elim
          · rw [h]
      rw [this]
      refine Ev.step (f := fun k => butlerref11_Right.l1 k l 0) (fun k => ?_) he
      simp only [butlerref11_Right.l0]; rw [if_neg (by omega)]
  | succ d ih =>
    intro i h0 hd hs
    have hi : i < (l.length : Int) := by omega
    by_cases h20 : (((rd_T43 l i).f0).length : Int) > 20
    · refine Ev.step (f := fun _ => some (rightN l)) (fun k => ?_) (Ev.now _)
      simp only [butlerref11_Right.l0]; rw [if_pos hi, if_pos h0, if_pos h20]
      unfold rightN; rw [if_pos (.inr ⟨i, h0, hi, by unfold nds; omega⟩)]
    · refine Ev.step (f := fun k => butlerref11_Right.l0 k l (i + 1)) (fun k => ?_) (ih (i + 1) (by omega) (by omega) (fun k a b => by
        by_cases e : k = i
        · subst e; unfold nds; omega
        · exact hs k a (by omega)))
      simp only [butlerref11_Right.l0]; rw [if_pos hi, if_pos h0, if_neg h20, wrap_up h0 (by omega)]
theorem refRight_ev (l : List S43) : Ev (fun k => butlerref11_Right.f k l) (rightN l) := by
  unfold butlerref11_Right.f
  by_cases h : (l.length : Int) > 100
  · simp only [if_pos h]
    unfold rightN; rw [if_pos (.inl (by omega))]; exact Ev.now _
  · simp only [if_neg h]
    exact ref_l0 l (by omega) l.length 0 (by omega) (by omega) (fun k a b => by omega)

/-! ### what can be built -/
theorem rch_range {l : List S43} (hv : Vld l) {i j : Int} (h : Rch l i j) : 0 ≤ i → i < (l.length : Int) → 0 ≤ j ∧ j < (l.length : Int) := by
  induction h with
  | one h => intro a b; exact hv.mem a b h
  | more h _ ih => intro a b; obtain ⟨c, d⟩ := hv.mem a b h; exact ih c d
theorem need_at {l : List S43} {i m : Int} (h : m ∈ nds l i) : ∃ j, 0 ≤ j ∧ j < ((nds l i).length : Int) ∧ rd (nds l i) j = m := by
  obtain ⟨j, hj, rfl⟩ := List.mem_iff_getElem.1 h
  exact ⟨j, by omega, by omega, by simp [rd, hj]⟩
theorem lev_down {l : List S43} (hr : rightN l = 0) {i j : Int} (h : Rch l i j) : 0 ≤ i → i < (l.length : Int) → lev l j ≤ lev l i := by
  obtain ⟨_, ha⟩ := rightN_zero.1 hr
  have hv := (rgt_of hr).1.vld
  have one : ∀ {i m : Int}, 0 ≤ i → i < (l.length : Int) → m ∈ nds l i → lev l m ≤ lev l i := by
    intro i m a b hm
    obtain ⟨j, j0, j1, rfl⟩ := need_at hm
    exact ((ha.2 i a b).1 j j0 j1).2.2
  induction h with
  | one h => intro a b; exact one a b h
  | more h _ ih => intro a b; obtain ⟨c, d⟩ := hv.mem a b h; exact Int.le_trans (ih c d) (one a b h)
open Classical in
noncomputable def reachCount (l : List S43) (i : Int) : Nat → Nat
  | 0 => 0
  | n + 1 => reachCount l i n + if Rch l i n then 1 else 0
theorem count_le {l : List S43} {i j : Int} (h : ∀ k, Rch l j k → Rch l i k) : ∀ n, reachCount l j n ≤ reachCount l i n := by
  intro n
  induction n with
  | zero => exact Nat.le_refl _
  | succ n ih =>
    unfold reachCount
    by_cases a : Rch l j n
    · rw [if_pos a, if_pos (h _ a)]; omega
    · rw [if_neg a]; omega
theorem count_lt {l : List S43} {i j : Int} (h : ∀ k, Rch l j k → Rch l i k) (m : Nat) (hi : Rch l i m) (hj : ¬ Rch l j m) : ∀ n, m < n → reachCount l j n < reachCount l i n := by
  intro n
  induction n with
  | zero => intro h; omega
  | succ n ih =>
    intro hm
    unfold reachCount
    by_cases e : m = n
    · subst e; rw [if_neg hj, if_pos hi]; have := count_le h m; omega
    · have := ih (by omega)
      by_cases a : Rch l j n
      · rw [if_pos a, if_pos (h _ a)]; omega
      · rw [if_neg a]; omega
theorem can_of {l : List S43} (hv : Vld l) : ∀ (c : Nat) (i : Int), reachCount l i l.length ≤ c → 0 ≤ i → i < (l.length : Int) → act l i = 0 → (∀ k, Rch l i k → act l k = 0 ∧ ¬ Rch l k k) → Can l i := by
  intro c
  induction c using Nat.strongRecOn with
  | _ c ih =>
    intro i hc h0 h1 ha h
    refine can_iff.2 ⟨ha, fun m hm => ?_⟩
    obtain ⟨m0, m1⟩ := hv.mem h0 h1 hm
    have r : Rch l i m := .one hm
    have hn : ((m.toNat : Nat) : Int) = m := by omega
    have lt := count_lt (l := l) (i := i) (j := m) (fun k hk => .more hm hk) m.toNat (by rw [hn]; exact r) (by rw [hn]; exact (h m r).2) l.length (by omega)
    exact ih _ (by omega) m (Nat.le_refl _) m0 m1 (h m r).1 (fun k hk => h k (.more hm hk))
theorem can_said {l : List S43} (hv : Vld l) {i : Int} (h0 : 0 ≤ i) (h1 : i < (l.length : Int)) : Can l i ↔ act l i = 0 ∧ ¬ Rch l i i ∧ ∀ k, 0 ≤ k → k < (l.length : Int) → Rch l i k → act l k = 0 ∧ ¬ Rch l k k := by
  constructor
  · intro h
    exact ⟨(can_iff.1 h).1, fun r => ring_not r h, fun k _ _ r => ⟨(can_iff.1 (can_reach h r)).1, fun r' => ring_not r' (can_reach h r)⟩⟩
  · rintro ⟨a, _, c⟩
    exact can_of hv _ i (Nat.le_refl _) h0 h1 a (fun k r => by obtain ⟨x, y⟩ := rch_range hv r h0 h1; exact c k x y r)
end Go.Proofs.Ytgahkloigbhgdaa.PR
