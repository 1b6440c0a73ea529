/- Which keys are asked for (butlerlaw11.asked), in plain words. Conditions: the recipes are right; at most 300 keys. -/
import Derived.Test.YtgahkloigbhgdaaPRx8
import Derived.Test.YtgahkloigbhgdaaRza
namespace Go.Proofs.Ytgahkloigbhgdaa.PR
open Go.RowKit Go.Proofs.YtgahkloigbhgdaaW.PrintWords Go.Proofs.YtgahkloigbhgdaaW.PrintLast Go.Proofs.YtgahkloigbhgdaaW.PrintMore
set_option linter.unusedVariables false
set_option linter.unusedSimpArgs false

structure AS (l : List S43) (ks : List Int) (out : List Bool) (todo : List Int) : Prop where
  len : out.length = l.length
  subm : ∀ k, 0 ≤ k → k < (l.length : Int) → rdOf false out k = true → Ask l ks k
  subt : ∀ k ∈ todo, Ask l ks k
  done : ∀ k, 0 ≤ k → k < (l.length : Int) → rdOf false out k = true → ∀ pre m post, nds l k = pre ++ m :: post → (∀ x ∈ pre, Can l x) → rdOf false out m = true ∨ m ∈ todo
  keys : ∀ k ∈ ks, 0 ≤ k → k < (l.length : Int) → rdOf false out k = true ∨ k ∈ todo
/-- A list says which. -/
structure BL (n : Nat) (r : List Bool) (f : Int → Prop) : Prop where
  len : r.length = n
  say : ∀ k, 0 ≤ k → k < (n : Int) → (rdOf false r k = true ↔ f k)
section
variable {l : List S43} (hr : rightN l = 0) (ks : List Int)
include hr
theorem asked_l1 : ∀ (c : Nat) (out : List Bool) (todo : List Int), AS l ks out todo → todo.length + 21 * unm out = c → c ≤ 2400 → ∃ r, BL l.length r (Ask l ks) ∧ Ev (fun K => butlerlaw11_asked.l1 K l out todo) r := by
  obtain ⟨rg, h0⟩ := rgt_of hr
  have hv := rg.vld
  have few := hv.few
  intro c
  induction c using Nat.strongRecOn with
  | _ c ih =>
    intro out todo h hc hlim
    cases todo with
    | nil =>
      refine ⟨out, ⟨h.len, fun k k0 k1 => ⟨h.subm k k0 k1, fun ha => ?_⟩⟩, Ev.step (f := fun _ => some out) (fun K => ?_) (Ev.now _)⟩
      · clear k0 k1
        induction ha with
        | key a b c => exact (h.keys _ a b c).elim id (fun x => by cases x)
        | @need k m pre post a e c ih =>
          obtain ⟨k0, k1⟩ := a.range hv
          exact (h.done k k0 k1 ih pre m post e c).elim id (fun x => by cases x)
      · simp only [butlerlaw11_asked.l1]; rfl
    | cons k rest =>
      have ak := h.subt k (by simp)
      obtain ⟨k0, k1⟩ := ak.range hv
      have rd0 : rd (k :: rest) 0 = k := rfl
      by_cases hm : rdOf false out k = true
      · obtain ⟨r, hb, he⟩ := ih (rest.length + 21 * unm out) (by simp at hc; omega) out rest ⟨h.len, h.subm, fun x hx => h.subt x (by simp [hx]), fun x x0 x1 hx pre m post e hp => by
          rcases h.done x x0 x1 hx pre m post e hp with y | y
          · exact .inl y
          · rcases List.mem_cons.1 y with rfl | y
            · exact .inl hm
            · exact .inr y, fun x hx x0 x1 => by
          rcases h.keys x hx x0 x1 with y | y
          · exact .inl y
          · rcases List.mem_cons.1 y with rfl | y
            · exact .inl hm
            · exact .inr y⟩ rfl (by simp at hc; omega)
        refine ⟨r, hb, Ev.step (f := fun K => butlerlaw11_asked.l1 K l out rest) (fun K => ?_) he⟩
        simp only [butlerlaw11_asked.l1]
        rw [if_pos (by simp only [List.length_cons]; omega), if_pos (by simp only [List.length_cons]; omega), if_pos (by simp only [List.length_cons]; omega)]
        simp only [Option.bind_some, rd0]
        rw [if_pos k0, if_pos (by rw [h.len]; exact k1), if_pos hm]; rfl
      · have hm' : rdOf false out k = false := by simpa using hm
        have hu : unm (out.set k.toNat true) + 1 = unm out := unm_set (by rw [h.len]; omega) (by have := hm'; unfold rdOf at this; exact this)
        have hrd : ∀ j, 0 ≤ j → rdOf false (out.set k.toNat true) j = if j = k then true else rdOf false out j := fun j hj => rdOf_set k0 (by rw [h.len]; exact k1) hj
        have n20 := hv.each k k0 k1
        -- what holds where the needs so far are laid behind
        have leave : ∀ j : Nat, j ≤ (nds l k).length → (∀ x ∈ (nds l k).take j, Can l x ∨ (nds l k).take j = (nds l k).take (j - 1) ++ [x]) → (j = (nds l k).length ∨ ∃ x, (nds l k).take j = (nds l k).take (j - 1) ++ [x] ∧ ¬ Can l x) → (∀ x ∈ (nds l k).take (j - 1), Can l x) →
            ∃ r, BL l.length r (Ask l ks) ∧ Ev (fun K => butlerlaw11_asked.l1 K l (out.set k.toNat true) (rest ++ (nds l k).take j)) r := by
          intro j hj _ hend hcan
          refine ih ((rest ++ (nds l k).take j).length + 21 * unm (out.set k.toNat true)) (by simp at hc ⊢; omega) _ _ ⟨by simp [h.len], fun x x0 x1 hx => ?_, fun x hx => ?_, fun x x0 x1 hx pre m post e hp => ?_, fun x hx x0 x1 => ?_⟩ rfl (by simp at hc ⊢; omega)
          · rw [hrd x x0] at hx
            split at hx
            · rename_i e; rw [e]; exact ak
            · exact h.subm x x0 x1 hx
          · simp only [List.mem_append] at hx
            rcases hx with hx | hx
            · exact h.subt x (by simp [hx])
            · obtain ⟨i, hi, rfl⟩ := List.mem_iff_getElem.1 hx
              simp only [List.length_take] at hi
              have : nds l k = (nds l k).take i ++ (nds l k)[i] :: (nds l k).drop (i + 1) := by simp
              rw [List.getElem_take]
              exact .need ak this (fun y hy => hcan y (by
                have : (nds l k).take i = ((nds l k).take (j - 1)).take i := by rw [List.take_take]; congr 1; omega
                rw [this] at hy; exact List.mem_of_mem_take hy))
          · obtain ⟨m0, m1⟩ := hv.mem x0 x1 (show m ∈ nds l x by rw [e]; simp)
            rw [hrd x x0] at hx
            rw [hrd m m0]
            by_cases ex : x = k
            · subst ex
              refine .inr ?_
              simp only [List.mem_append]
              by_cases hl : pre.length < j
              · right
                rw [List.mem_take_iff_getElem]
                refine ⟨pre.length, by rw [e]; simp; omega, ?_⟩
                simp [e]
              · rcases hend with hend | ⟨y, hy, hny⟩
                · rw [hend, e] at hl; simp at hl
                · have : y ∈ pre := by
                    have h1 : (nds l x).take j = pre.take j := by rw [e, List.take_append_of_le_length (by omega)]
                    have h2 : y ∈ (nds l x).take j := by rw [hy]; simp
                    rw [h1] at h2; exact List.mem_of_mem_take h2
                  exact (hny (hp y this)).elim
            · rw [if_neg ex] at hx
              rcases h.done x x0 x1 hx pre m post e hp with y | y
              · left; rw [y]; split <;> rfl
              · rcases List.mem_cons.1 y with rfl | y
                · left; rw [if_pos rfl]
                · right; simp [y]
          · rw [hrd x x0]
            rcases h.keys x hx x0 x1 with y | y
            · left; rw [y]; split <;> rfl
            · rcases List.mem_cons.1 y with rfl | y
              · left; rw [if_pos rfl]
              · right; simp [y]
        have l2 : ∀ (d j : Nat), j + d = (nds l k).length → (∀ x ∈ (nds l k).take j, Can l x) → ∃ r, BL l.length r (Ask l ks) ∧ Ev (fun K => butlerlaw11_asked.l2 K l (out.set k.toNat true) (rest ++ (nds l k).take j) k j) r := by
          intro d
          induction d with
          | zero =>
            intro j hd hj
            obtain ⟨r, hb, he⟩ := leave j (by omega) (fun x hx => .inl (hj x hx)) (.inl (by omega)) (fun x hx => hj x (by
              have : (nds l k).take (j - 1) = ((nds l k).take j).take (j - 1) := by rw [List.take_take]; congr 1; omega
              rw [this] at hx; exact List.mem_of_mem_take hx))
            refine ⟨r, hb, Ev.step (f := fun K => butlerlaw11_asked.l1 K l (out.set k.toNat true) (rest ++ (nds l k).take j)) (fun K => ?_) he⟩
            simp only [butlerlaw11_asked.l2]
            rw [if_pos k0, if_pos k1, if_neg (show ¬ (j : Int) < (((rd_T43 l k).f0).length : Int) by unfold nds at hd; omega)]
          | succ d ihd =>
            intro j hd hj
            have hjl : j < (nds l k).length := by omega
            have tk : (nds l k).take (j + 1) = (nds l k).take j ++ [rd (nds l k) j] := by
              rw [List.take_add_one, List.getElem?_eq_getElem hjl]
              simp [rd, hjl]
            have hmem : rd (nds l k) j ∈ nds l k := by simp [rd, hjl]
            obtain ⟨m0, m1⟩ := hv.mem k0 k1 hmem
            have step : ∀ K, butlerlaw11_asked.l2 (K + 1) l (out.set k.toNat true) (rest ++ (nds l k).take j) k j = (recipe_Fate.f K l (rd (nds l k) j)).bind fun bt => (if bt.1 = true then (butlerlaw11_asked.l2 K l (out.set k.toNat true) (rest ++ (nds l k).take (j + 1)) k ((j + 1 : Nat) : Int)) else (butlerlaw11_asked.l1 K l (out.set k.toNat true) (rest ++ (nds l k).take (j + 1)))) := fun K => by
              simp only [butlerlaw11_asked.l2]
              rw [if_pos k0, if_pos k1, if_pos (show (j : Int) < (((rd_T43 l k).f0).length : Int) by unfold nds at hjl; omega), if_pos (by omega), if_pos (by simp at hc ⊢; omega), wrap_up (by omega) (by omega), tk]
              simp only [Option.bind_some, List.append_assoc]; rfl
            have fp : fateP l (rd (nds l k) j) = ((fateOf l (rd (nds l k) j)).f0, (fateOf l (rd (nds l k) j)).f1) := by unfold fateP; rw [if_pos ⟨hr, m0, m1⟩]
            by_cases cm : Can l (rd (nds l k) j)
            · obtain ⟨r, hb, he⟩ := ihd (j + 1) (by omega) (fun x hx => by
                rw [tk] at hx
                simp only [List.mem_append, List.mem_singleton] at hx
                rcases hx with hx | rfl
                · exact hj x hx
                · exact cm)
              refine ⟨r, hb, Ev.step step (Ev.bind (f := fun K bt => (if bt.1 = true then (butlerlaw11_asked.l2 K l (out.set k.toNat true) (rest ++ (nds l k).take (j + 1)) k ((j + 1 : Nat) : Int)) else (butlerlaw11_asked.l1 K l (out.set k.toNat true) (rest ++ (nds l k).take (j + 1))))) (Fate_ev l _) ?_)⟩
              rw [fp]; simp only [fate_can.2 cm, if_true]; exact he
            · obtain ⟨r, hb, he⟩ := leave (j + 1) (by omega) (fun x hx => by
                rw [tk] at hx
                simp only [List.mem_append, List.mem_singleton] at hx
                rcases hx with hx | rfl
                · exact .inl (hj x hx)
                · exact .inr tk) (.inr ⟨_, tk, cm⟩) (by simpa using hj)
              refine ⟨r, hb, Ev.step step (Ev.bind (f := fun K bt => (if bt.1 = true then (butlerlaw11_asked.l2 K l (out.set k.toNat true) (rest ++ (nds l k).take (j + 1)) k ((j + 1 : Nat) : Int)) else (butlerlaw11_asked.l1 K l (out.set k.toNat true) (rest ++ (nds l k).take (j + 1))))) (Fate_ev l _) ?_)⟩
              rw [fp]; simp only [fate_not cm, z51, Bool.false_eq_true, if_false]; exact he
        obtain ⟨r, hb, he⟩ := l2 (nds l k).length 0 (by omega) (fun x hx => by simp at hx)
        refine ⟨r, hb, Ev.step (f := fun K => butlerlaw11_asked.l2 K l (out.set k.toNat true) rest k 0) (fun K => ?_) (by simpa using he)⟩
        simp only [butlerlaw11_asked.l1]
        rw [if_pos (by simp only [List.length_cons]; omega), if_pos (by simp only [List.length_cons]; omega), if_pos (by simp only [List.length_cons]; omega)]
        simp only [Option.bind_some, rd0]
        rw [if_pos k0, if_pos (by rw [h.len]; exact k1), if_neg hm]; rfl
theorem asked_l0 (h3 : ks.length ≤ 300) : ∀ (d i : Nat), i + d = ks.length → ∃ r, BL l.length r (Ask l ks) ∧ Ev (fun K => butlerlaw11_asked.l0 K l ks (List.replicate l.length false) ((ks.take i).filter fun k => decide (0 ≤ k ∧ k < (l.length : Int))) i) r := by
  obtain ⟨rg, h0⟩ := rgt_of hr
  have few := rg.vld.few
  have no : ∀ k : Int, rdOf false (List.replicate l.length false) k = true → False := fun k h => by
    simp [rdOf, List.getD_eq_getElem?_getD, List.getElem?_replicate] at h; split at h <;> simp at h
  intro d
  induction d with
  | zero =>
    intro i hd
    have fl := List.length_filter_le (fun k => decide (0 ≤ k ∧ k < (l.length : Int))) ks
    have ht : ks.take i = ks := List.take_of_length_le (by omega)
    have hu := unm_le (List.replicate l.length false)
    rw [List.length_replicate] at hu
    obtain ⟨r, hb, he⟩ := asked_l1 hr ks _ (List.replicate l.length false) (ks.filter fun k => decide (0 ≤ k ∧ k < (l.length : Int))) ⟨by simp, fun k _ _ h => (no k h).elim, fun k hk => by
      simp only [List.mem_filter, decide_eq_true_eq] at hk
      exact .key hk.1 hk.2.1 hk.2.2, fun k _ _ h => (no k h).elim, fun k hk k0 k1 => .inr (by
      simp only [List.mem_filter, decide_eq_true_eq]
      exact ⟨hk, k0, k1⟩)⟩ rfl (by omega)
    refine ⟨r, hb, Ev.step (f := fun K => butlerlaw11_asked.l1 K l (List.replicate l.length false) (ks.filter fun k => decide (0 ≤ k ∧ k < (l.length : Int)))) (fun K => ?_) he⟩
    simp only [butlerlaw11_asked.l0]
    rw [if_neg (by omega), ht]
  | succ d ih =>
    intro i hd
    have hi : i < ks.length := by omega
    have fl := List.length_filter_le (fun k => decide (0 ≤ k ∧ k < (l.length : Int))) (ks.take i)
    simp only [List.length_take] at fl
    have tk : ks.take (i + 1) = ks.take i ++ [rd ks i] := by
      rw [List.take_add_one, List.getElem?_eq_getElem hi]
      simp [rd, hi]
    obtain ⟨r, hb, he⟩ := ih (i + 1) (by omega)
    rw [tk, List.filter_append] at he
    refine ⟨r, hb, Ev.step (fun K => ?_) he⟩
    simp only [butlerlaw11_asked.l0]
    rw [if_pos (by omega), if_pos (by omega), wrap_up (by omega) (by omega)]
    by_cases h1 : rd ks i ≥ 0
    · rw [if_pos h1]
      by_cases h2 : rd ks i < (l.length : Int)
      · rw [if_pos h2, if_pos (by omega), List.filter_cons_of_pos (by simp [h2]; omega)]; simp
      · rw [if_neg h2, List.filter_cons_of_neg (by simp; omega)]; simp
    · rw [if_neg h1, List.filter_cons_of_neg (by simp; omega)]; simp
theorem asked_ev (h3 : ks.length ≤ 300) : ∃ r, BL l.length r (Ask l ks) ∧ Ev (fun K => butlerlaw11_asked.f K l ks) r := by
  obtain ⟨rg, h0⟩ := rgt_of hr
  have few := rg.vld.few
  obtain ⟨r, hb, he⟩ := asked_l0 hr ks h3 ks.length 0 (by omega)
  refine ⟨r, hb, Ev.congr (fun K => ?_) he⟩
  unfold butlerlaw11_asked.f
  rw [if_pos (by omega), if_pos (by omega)]
  simp
end
end Go.Proofs.Ytgahkloigbhgdaa.PR
