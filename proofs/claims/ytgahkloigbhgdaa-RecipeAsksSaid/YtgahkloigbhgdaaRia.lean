/- The document's Rings, fates and Fate (butlerref11), in plain words. Conditions: none beyond what each statement names. -/
import Derived.Test.YtgahkloigbhgdaaPS8
import Derived.Test.YtgahkloigbhgdaaPS9
import Derived.Test.YtgahkloigbhgdaaRz
import Derived.Test.YtgahkloigbhgdaaRg
import Derived.Test.YtgahkloigbhgdaaRzb
namespace Go.Proofs.Ytgahkloigbhgdaa.PR
open Go.RowKit Go.Proofs.YtgahkloigbhgdaaW.PrintWords Go.Proofs.YtgahkloigbhgdaaW.PrintLast Go.Proofs.YtgahkloigbhgdaaW.PrintMore
set_option linter.unusedVariables false
set_option linter.unusedSimpArgs false

theorem no_rep {n : Nat} (k : Int) (h : rdOf false (List.replicate n false) k = true) : False := by
  simp [rdOf, List.getD_eq_getElem?_getD, List.getElem?_replicate] at h; split at h <;> simp at h
/-! ### what is reached -/
structure RV (l : List S43) (i : Int) (out : List Bool) (todo : List Int) (E : Int → Prop) : Prop where
  len : out.length = l.length
  sub : ∀ m, 0 ≤ m → m < (l.length : Int) → rdOf false out m = true → Rch l i m
  tod : ∀ x ∈ todo, x = i ∨ (0 ≤ x ∧ x < (l.length : Int) ∧ rdOf false out x = true)
  done : ∀ x, 0 ≤ x → x < (l.length : Int) → (x = i ∨ rdOf false out x = true) → ¬ E x → x ∈ todo ∨ ∀ m ∈ nds l x, rdOf false out m = true
theorem reached_l0 {l : List S43} (hv : Vld l) {i : Int} (i0 : 0 ≤ i) (i1 : i < (l.length : Int)) : ∀ (c : Nat) (out : List Bool) (todo : List Int), RV l i out todo (fun _ => False) → todo.length + unm out = c → c ≤ 1000 →
    ∃ r, BL l.length r (Rch l i) ∧ Ev (fun K => butlerref11_reached.l0 K l out todo) r := by
  have few := hv.few
  intro c
  induction c with
  | zero =>
    intro out todo h hc hlim
    obtain rfl : todo = [] := List.eq_nil_of_length_eq_zero (by omega)
    refine ⟨out, ⟨h.len, fun k k0 k1 => ⟨h.sub k k0 k1, fun hr => ?_⟩⟩, Ev.step (f := fun _ => some out) (fun K => ?_) (Ev.now _)⟩
    · have all : ∀ {x m : Int}, Rch l x m → 0 ≤ x → x < (l.length : Int) → (x = i ∨ rdOf false out x = true) → rdOf false out m = true := by
        intro x m hx
        induction hx with
        | one hm => intro a b e; exact (h.done _ a b e id).elim (fun x => by cases x) (fun x => x _ hm)
        | more hm _ ih => intro a b e; obtain ⟨p, q⟩ := hv.mem a b hm; exact ih p q (.inr ((h.done _ a b e id).elim (fun x => by cases x) (fun x => x _ hm)))
      exact all hr i0 i1 (.inl rfl)
    · simp only [butlerref11_reached.l0]; rfl
  | succ c ih =>
    intro out todo h hc hlim
    cases todo with
    | nil =>
      refine ⟨out, ⟨h.len, fun k k0 k1 => ⟨h.sub k k0 k1, fun hr => ?_⟩⟩, Ev.step (f := fun _ => some out) (fun K => ?_) (Ev.now _)⟩
      · have all : ∀ {x m : Int}, Rch l x m → 0 ≤ x → x < (l.length : Int) → (x = i ∨ rdOf false out x = true) → rdOf false out m = true := by
          intro x m hx
          induction hx with
          | one hm => intro a b e; exact (h.done _ a b e id).elim (fun x => by cases x) (fun x => x _ hm)
          | more hm _ ih => intro a b e; obtain ⟨p, q⟩ := hv.mem a b hm; exact ih p q (.inr ((h.done _ a b e id).elim (fun x => by cases x) (fun x => x _ hm)))
        exact all hr i0 i1 (.inl rfl)
      · simp only [butlerref11_reached.l0]; rfl
    | cons k rest =>
      have kr : 0 ≤ k ∧ k < (l.length : Int) ∧ (k = i ∨ rdOf false out k = true) := by
        rcases h.tod k (by simp) with e | ⟨a, b, e⟩
        · rw [e]; exact ⟨i0, i1, .inl rfl⟩
        · exact ⟨a, b, .inr e⟩
      obtain ⟨k0, k1, kk⟩ := kr
      have n20 := hv.each k k0 k1
      have rk : ∀ m ∈ nds l k, Rch l i m := fun m hm => by
        rcases kk with e | e
        · rw [← e]; exact .one hm
        · exact (h.sub k k0 k1 e).trans (.one hm)
      have l1 : ∀ (d j : Nat) (out' : List Bool) (todo' : List Int), j + d = (nds l k).length → RV l i out' todo' (· = k) → (k = i ∨ rdOf false out' k = true) → (∀ m ∈ (nds l k).take j, rdOf false out' m = true) → todo'.length + unm out' = c →
          ∃ r, BL l.length r (Rch l i) ∧ Ev (fun K => butlerref11_reached.l1 K l out' todo' k j) r := by
        intro d
        induction d with
        | zero =>
          intro j out' todo' hd h' hk' hm' hc'
          rw [List.take_of_length_le (by omega)] at hm'
          obtain ⟨r, hb, he⟩ := ih out' todo' ⟨h'.len, h'.sub, h'.tod, fun x x0 x1 e _ => by
            by_cases ex : x = k
            · subst ex; exact .inr hm'
            · exact h'.done x x0 x1 e ex⟩ hc' (by omega)
          refine ⟨r, hb, Ev.step (fun K => ?_) he⟩
          simp only [butlerref11_reached.l1]
          rw [if_pos k0, if_pos k1, if_neg (show ¬ (j : Int) < (((rd_T43 l k).f0).length : Int) by unfold nds at hd; omega)]
        | succ d ihd =>
          intro j out' todo' hd h' hk' hm' hc'
          have hj : j < (nds l k).length := by omega
          have mem : rd (nds l k) j ∈ nds l k := by simp [rd, hj]
          obtain ⟨m0, m1⟩ := hv.mem k0 k1 mem
          have tk : (nds l k).take (j + 1) = (nds l k).take j ++ [rd (nds l k) j] := by
            rw [List.take_add_one, List.getElem?_eq_getElem hj]; simp [rd, hj]
          have pre : ∀ K, butlerref11_reached.l1 (K + 1) l out' todo' k j = if rdOf false out' (rd (nds l k) j) = true then butlerref11_reached.l1 K l out' todo' k ((j + 1 : Nat) : Int) else butlerref11_reached.l1 K l (out'.set (rd (nds l k) j).toNat true) (todo' ++ [rd (nds l k) j]) k ((j + 1 : Nat) : Int) := fun K => by
            have e : ((rd_T43 l k).f0) = nds l k := rfl
            simp only [butlerref11_reached.l1, e]
            rw [if_pos k0, if_pos k1, if_pos (by omega), if_pos (by omega), if_pos m0, if_pos (by rw [h'.len]; exact m1), if_pos (show todo'.length < 17592186044416 by omega), wrap_up (by omega) (by omega)]
            simp
          by_cases hx : rdOf false out' (rd (nds l k) j) = true
          · obtain ⟨r, hb, he⟩ := ihd (j + 1) out' todo' (by omega) h' hk' (fun m hm => by
              rw [tk] at hm
              simp only [List.mem_append, List.mem_singleton] at hm
              rcases hm with hm | rfl
              · exact hm' m hm
              · exact hx) hc'
            exact ⟨r, hb, Ev.step (fun K => (pre K).trans (if_pos hx)) he⟩
          · have hx' : rdOf false out' (rd (nds l k) j) = false := by simpa using hx
            have hu : unm (out'.set (rd (nds l k) j).toNat true) + 1 = unm out' := unm_set (by rw [h'.len]; omega) (by have := hx'; unfold rdOf at this; exact this)
            have hrd : ∀ a, 0 ≤ a → rdOf false (out'.set (rd (nds l k) j).toNat true) a = if a = rd (nds l k) j then true else rdOf false out' a := fun a ha => rdOf_set m0 (by rw [h'.len]; exact m1) ha
            have up : ∀ a, 0 ≤ a → rdOf false out' a = true → rdOf false (out'.set (rd (nds l k) j).toNat true) a = true := fun a ha h => by rw [hrd a ha, h]; split <;> rfl
            obtain ⟨r, hb, he⟩ := ihd (j + 1) (out'.set (rd (nds l k) j).toNat true) (todo' ++ [rd (nds l k) j]) (by omega) ⟨by simp [h'.len], fun m a b hm => by
                rw [hrd m a] at hm
                split at hm
                · rename_i e; rw [e]; exact rk _ mem
                · exact h'.sub m a b hm, fun x hx => by
                simp only [List.mem_append, List.mem_singleton] at hx
                rcases hx with hx | rfl
                · rcases h'.tod x hx with e | ⟨a, b, e⟩
                  · exact .inl e
                  · exact .inr ⟨a, b, up x a e⟩
                · exact .inr ⟨m0, m1, by rw [hrd _ m0, if_pos rfl]⟩, fun x x0 x1 e nx => by
                rw [hrd x x0] at e
                by_cases ex : x = rd (nds l k) j
                · exact .inl (by rw [ex]; simp)
                · rw [if_neg ex] at e
                  rcases h'.done x x0 x1 e nx with y | y
                  · exact .inl (by simp [y])
                  · exact .inr fun m hm => up m (hv.mem x0 x1 hm).1 (y m hm)⟩ (hk'.imp id (up k k0)) (fun m hm => by
                have mr := hv.mem k0 k1 (List.mem_of_mem_take hm)
                rw [tk] at hm
                simp only [List.mem_append, List.mem_singleton] at hm
                rcases hm with hm | rfl
                · exact up m mr.1 (hm' m hm)
                · rw [hrd _ m0, if_pos rfl]) (by simp; omega)
            exact ⟨r, hb, Ev.step (fun K => (pre K).trans (if_neg hx)) he⟩
      obtain ⟨r, hb, he⟩ := l1 (nds l k).length 0 out rest (by omega) ⟨h.len, h.sub, fun x hx => h.tod x (by simp [hx]), fun x x0 x1 e nx => by
        rcases h.done x x0 x1 e id with y | y
        · rcases List.mem_cons.1 y with y | y
          · exact (nx y).elim
          · exact .inl y
        · exact .inr y⟩ kk (fun m hm => by simp at hm) (by simp at hc; omega)
      refine ⟨r, hb, Ev.step (fun K => ?_) he⟩
      simp only [butlerref11_reached.l0]
      rw [if_pos (by simp only [List.length_cons]; omega), if_pos (by simp only [List.length_cons]; omega), if_pos (by simp only [List.length_cons]; omega)]
      rfl
theorem reached_ev {l : List S43} (hv : Vld l) {i : Int} (i0 : 0 ≤ i) (i1 : i < (l.length : Int)) : ∃ r, BL l.length r (Rch l i) ∧ Ev (fun K => butlerref11_reached.f K l i) r := by
  have few := hv.few
  have hu := unm_le (List.replicate l.length false)
  rw [List.length_replicate] at hu
  obtain ⟨r, hb, he⟩ := reached_l0 hv i0 i1 _ (List.replicate l.length false) [i] ⟨by simp, fun m _ _ h => (no_rep m h).elim, fun x hx => .inl (by simpa using hx), fun x x0 x1 e _ => by
    rcases e with e | e
    · exact .inl (by rw [e]; simp)
    · exact (no_rep x e).elim⟩ rfl (by simp; omega)
  refine ⟨r, hb, Ev.congr (fun K => ?_) he⟩
  unfold butlerref11_reached.f
  rw [if_pos (by omega), if_pos (by omega)]
  simp
theorem refRings_l0 (l : List S43) (h : rightN l = 0) : ∀ (d i : Nat), i + d = l.length → Ev (fun k => butlerref11_Rings.l0 k l (ringsTo l i) i) (ringsTo l l.length) := by
  obtain ⟨hr, h0⟩ := rgt_of h
  have few := hr.vld.few
  intro d
  induction d with
  | zero =>
    intro i hi
    refine Ev.step (f := fun _ => some (ringsTo l i)) (fun k => ?_) (by rw [show i = l.length by omega]; exact Ev.now _)
    simp only [butlerref11_Rings.l0]; rw [if_neg (by omega)]
  | succ d ih =>
    intro i hi
    have := ringsTo_len l i
    obtain ⟨r, hb, he⟩ := reached_ev hr.vld (show 0 ≤ (i : Int) by omega) (by omega)
    refine Ev.step (f := fun k => (butlerref11_reached.f k l i).bind fun t234 => (if 0 ≤ (i : Int) then (if (i : Int) < (t234.length : Int) then (if rdOf false t234 i = true then (if (ringsTo l i).length < 17592186044416 then (butlerref11_Rings.l0 k l (ringsTo l i ++ [(i : Int)]) ((i + 1 : Nat) : Int)) else (none)) else (butlerref11_Rings.l0 k l (ringsTo l i) ((i + 1 : Nat) : Int))) else (none)) else (none))) (fun k => ?_) ?_
    · simp only [butlerref11_Rings.l0]
      rw [if_pos (by omega), wrap_up (by omega) (by omega)]; rfl
    · refine Ev.bind (f := fun k t234 => (if 0 ≤ (i : Int) then (if (i : Int) < (t234.length : Int) then (if rdOf false t234 i = true then (if (ringsTo l i).length < 17592186044416 then (butlerref11_Rings.l0 k l (ringsTo l i ++ [(i : Int)]) ((i + 1 : Nat) : Int)) else (none)) else (butlerref11_Rings.l0 k l (ringsTo l i) ((i + 1 : Nat) : Int))) else (none)) else (none))) he ?_
      refine Ev.congr (fun k => ?_) (ih (i + 1) (by omega))
      have := hb.len
      rw [if_pos (by omega), if_pos (by omega)]
      by_cases hc : Rch l i i
      · rw [if_pos ((hb.say i (by omega) (by omega)).2 hc), if_pos (by omega)]; simp only [ringsTo]; rw [if_pos hc]
      · rw [if_neg (fun x => hc ((hb.say i (by omega) (by omega)).1 x))]; simp only [ringsTo]; rw [if_neg hc]
theorem refRings_ev (l : List S43) : Ev (fun k => butlerref11_Rings.f k l) (ringsOf l) := by
  unfold butlerref11_Rings.f
  refine Ev.bind (f := fun k t => if t = 0 then butlerref11_Rings.l0 k l [] 0 else some []) (refRight_ev l) ?_
  unfold ringsOf
  by_cases h : rightN l = 0
  · simp only [if_pos h]; exact refRings_l0 l h l.length 0 (by omega)
  · simp only [if_neg h]; exact Ev.now _


noncomputable def givesOf (l : List S43) : List Int := (List.range l.length).map fun (i : Nat) => (fateOf l (i : Int)).f1
theorem givesOf_len (l : List S43) : (givesOf l).length = l.length := by simp [givesOf]
theorem rd_gives {l : List S43} {k : Int} (h0 : 0 ≤ k) (h1 : k < (l.length : Int)) : rd (givesOf l) k = (fateOf l k).f1 := by
  have : k.toNat < l.length := by omega
  simp [rd, givesOf, List.getD_eq_getElem?_getD, List.getElem?_map, List.getElem?_range this]
  rw [show max k 0 = k by omega]
theorem rd_set {M : List Int} {m j v : Int} (hm : 0 ≤ m) (hml : m < (M.length : Int)) (hj : 0 ≤ j) : rd (M.set m.toNat v) j = if j = m then v else rd M j := by
  unfold rd
  rw [List.getD_eq_getElem?_getD, List.getD_eq_getElem?_getD, List.getElem?_set]
  by_cases e : j = m
  · subst e; rw [if_pos rfl, if_pos (by omega), if_pos rfl]; rfl
  · rw [if_neg (by omega), if_neg e]
/-- What was found so far. -/
structure FS (l : List S43) (C : List Bool) (G : List Int) : Prop where
  lenC : C.length = l.length
  lenG : G.length = l.length
  yes : ∀ k, 0 ≤ k → k < (l.length : Int) → rdOf false C k = true → Can l k ∧ rd G k = (fateOf l k).f1
  no : ∀ k, 0 ≤ k → k < (l.length : Int) → rdOf false C k = false → rd G k = 0
/-- A key that can be found next. -/
def Ready (l : List S43) (C : List Bool) (k : Int) : Prop := rdOf false C k = false ∧ act l k = 0 ∧ ∀ m ∈ nds l k, rdOf false C m = true
theorem FS.all {l : List S43} {C : List Bool} {G : List Int} (hv : Vld l) (h : FS l C G) (hn : ∀ k, 0 ≤ k → k < (l.length : Int) → ¬ Ready l C k) : C = cans l ∧ G = givesOf l := by
  have can : ∀ (n : Nat) (k v : Int), 0 ≤ k → k < (l.length : Int) → gv l n k = some v → rdOf false C k = true := by
    intro n
    induction n with
    | zero => intro k v _ _ h; cases h
    | succ n ih =>
      intro k v k0 k1 hg
      rw [gv] at hg
      split at hg
      · rename_i ha
        obtain ⟨s, hs, _⟩ := Option.map_eq_some_iff.1 hg
        by_cases hc : rdOf false C k = true
        · exact hc
        · exact (hn k k0 k1 ⟨by simpa using hc, ha, fun m hm => by
            obtain ⟨a, e⟩ := gsum_all _ _ hs m hm
            obtain ⟨m0, m1⟩ := hv.mem k0 k1 hm
            exact ih m a m0 m1 e⟩).elim
      · cases hg
  have each : ∀ k, 0 ≤ k → k < (l.length : Int) → rdOf false C k = cn l k ∧ rd G k = (fateOf l k).f1 := by
    intro k k0 k1
    by_cases hc : Can l k
    · obtain ⟨n, v, e⟩ := hc
      have := can n k v k0 k1 e
      exact ⟨by rw [this]; exact (fate_can.2 ⟨n, v, e⟩).symm, (h.yes k k0 k1 this).2⟩
    · have : rdOf false C k = false := by
        cases e : rdOf false C k with
        | false => rfl
        | true => exact (hc (h.yes k k0 k1 e).1).elim
      exact ⟨by rw [this]; unfold cn; rw [fate_not hc]; rfl, by rw [h.no k k0 k1 this, fate_not hc]; rfl⟩
  constructor
  · apply List.ext_getElem
    · rw [h.lenC, cans_len]
    · intro i a b
      have hi : (i : Int) < (l.length : Int) := by have := h.lenC; omega
      have := (each i (by omega) hi).1
      rw [← rd_cans (by omega) hi] at this
      simpa [rdOf, List.getD_eq_getElem?_getD, List.getElem?_eq_getElem a, List.getElem?_eq_getElem b] using this
  · apply List.ext_getElem
    · rw [h.lenG, givesOf_len]
    · intro i a b
      have hi : (i : Int) < (l.length : Int) := by have := h.lenG; omega
      have := (each i (by omega) hi).2
      rw [← rd_gives (by omega) hi] at this
      simpa [rd, List.getD_eq_getElem?_getD, List.getElem?_eq_getElem a, List.getElem?_eq_getElem b] using this
theorem part_range (l : List S43) (ms : List Int) : 0 ≤ part l ms ∧ part l ms ≤ 1000002 * (ms.length : Int) := by
  induction ms with
  | nil => exact ⟨Int.le_refl _, Int.le_refl _⟩
  | cons m ms ih =>
    have := fate_range l m
    have e : part l (m :: ms) = (fateOf l m).f1 + part l ms := rfl
    rw [e, List.length_cons]
    obtain ⟨a, b⟩ := ih
    generalize part l ms = x at *
    generalize (fateOf l m).f1 = y at *
    omega
theorem reffates_l0 {l : List S43} (hr : Rgt l) : ∀ (u : Nat) (C : List Bool) (G : List Int), FS l C G → unm C = u → Ev (fun K => butlerref11_fates.l0 K l C G true) (cans l, givesOf l) := by
  have hv := hr.vld
  have few := hv.few
  intro u
  induction u using Nat.strongRecOn with
  | _ u ih =>
    intro C G h hu
    have pass : ∀ (d i : Nat) (C' : List Bool) (G' : List Int) (more : Bool), i + d = l.length → FS l C' G' → unm C' ≤ u → (more = true → unm C' < u) → (more = false → ∀ j : Int, 0 ≤ j → j < (i : Int) → ¬ Ready l C' j) →
        Ev (fun K => butlerref11_fates.l1 K l C' G' more i) (cans l, givesOf l) := by
      intro d
      induction d with
      | zero =>
        intro i C' G' more hd h' hle hm hn
        have stepto : ∀ K, butlerref11_fates.l1 (K + 1) l C' G' more i = butlerref11_fates.l0 K l C' G' more := fun K => by
          simp only [butlerref11_fates.l1]; rw [if_neg (by omega)]
        cases more with
        | true => exact Ev.step stepto (ih _ (hm rfl) C' G' h' rfl)
        | false =>
          obtain ⟨e1, e2⟩ := h'.all hv (fun k k0 k1 => hn rfl k k0 (by omega))
          refine Ev.step stepto (Ev.step (f := fun _ => some (C', G')) (fun K => ?_) ?_)
          · rw [butlerref11_fates.l0]; exact if_neg (by decide)
          · rw [e1, e2]; exact Ev.now _
      | succ d ihd =>
        intro i C' G' more hd h' hle hm hn
        have hi : (i : Int) < (l.length : Int) := by omega
        have i0 : (0 : Int) ≤ i := by omega
        have lenC := h'.lenC
        have lenG := h'.lenG
        have n20 := hv.each i i0 hi
        have vr := hr.val i i0 hi
        have up := Aside0.mk (show wrap64 ((i : Int) + 1) = ((i + 1 : Nat) : Int) by rw [wrap_up (by omega) (by omega)]; simp)
        -- not ready: on
        have skip : ¬ Ready l C' i → Ev (fun K => butlerref11_fates.l1 K l C' G' more ((i + 1 : Nat) : Int)) (cans l, givesOf l) := fun hnr => ihd (i + 1) C' G' more (by omega) h' hle hm (fun hf j j0 j1 => by
          by_cases e : j = i
          · rw [e]; exact hnr
          · exact hn hf j j0 (by omega))
        have lost : ∀ (s j : Int), ¬ Ready l C' i → Ev (fun K => butlerref11_fates.l2 K l C' G' more i false s j) (cans l, givesOf l) := fun s j hnr => by
          refine Ev.step (fun K => ?_) (skip hnr)
          simp only [butlerref11_fates.l2]
          rw [if_pos i0, if_pos hi, up.out]
          simp
        have l2 : ∀ (d j : Nat), j + d = (nds l i).length → rdOf false C' i = false → act l i = 0 → (∀ m ∈ (nds l i).take j, rdOf false C' m = true) →
            Ev (fun K => butlerref11_fates.l2 K l C' G' more i true (valu l i + part l ((nds l i).take j)) j) (cans l, givesOf l) := by
          intro d
          induction d with
          | zero =>
            intro j hd2 hc ha hm2
            rw [List.take_of_length_le (by omega)] at hm2 ⊢
            have cm : ∀ m ∈ nds l i, Can l m := fun m hm => by
              obtain ⟨m0, m1⟩ := hv.mem i0 hi hm
              exact (h'.yes m m0 m1 (hm2 m hm)).1
            have fy := fate_yes ha cm
            have hu1 : unm (C'.set i true) + 1 = unm C' := unm_set (by omega) (by have := hc; unfold rdOf at this; simpa using this)
            have rp := part_range l (nds l i)
            have hmod := mod_go (g := valu l i + part l (nds l i)) (by omega) (by omega)
            have hrdC : ∀ a, 0 ≤ a → rdOf false (C'.set ((i : Int)).toNat true) a = if a = i then true else rdOf false C' a := fun a ha => rdOf_set i0 (by omega) ha
            have next := ihd (i + 1) (C'.set i true) (G'.set i ((valu l i + part l (nds l i)) % 1000003)) true (by omega) ⟨by simp [lenC], by simp [lenG], fun k k0 k1 hk => by
              have e1 := hrdC k k0
              have e2 := rd_set (M := G') (v := (valu l i + part l (nds l i)) % 1000003) i0 (by omega) k0
              rw [Int.toNat_natCast] at e1 e2
              rw [e1] at hk
              rw [e2]
              by_cases ek : k = i
              · rw [if_pos ek, ek, fy]
                exact ⟨fate_can.1 (by rw [fy]), rfl⟩
              · rw [if_neg ek] at hk ⊢; exact h'.yes k k0 k1 hk, fun k k0 k1 hk => by
              have e1 := hrdC k k0
              have e2 := rd_set (M := G') (v := (valu l i + part l (nds l i)) % 1000003) i0 (by omega) k0
              rw [Int.toNat_natCast] at e1 e2
              rw [e1] at hk
              rw [e2]
              by_cases ek : k = i
              · rw [if_pos ek] at hk; cases hk
              · rw [if_neg ek] at hk ⊢; exact h'.no k k0 k1 hk⟩ (by omega) (fun _ => by omega) (fun hf => by cases hf)
            refine Ev.step (fun K => ?_) next
            simp only [butlerref11_fates.l2]
            rw [if_pos i0, if_pos hi, if_neg (show ¬ (j : Int) < (((rd_T43 l i).f0).length : Int) by unfold nds at hd2; omega), if_pos trivial, if_pos (by omega), if_pos (by omega), hmod, up.out, Int.toNat_natCast]
          | succ d ihd2 =>
            intro j hd2 hc ha hm2
            have hj : j < (nds l i).length := by omega
            have mem : rd (nds l i) j ∈ nds l i := by simp [rd, hj]
            obtain ⟨m0, m1⟩ := hv.mem i0 hi mem
            have tk : (nds l i).take (j + 1) = (nds l i).take j ++ [rd (nds l i) j] := by
              rw [List.take_add_one, List.getElem?_eq_getElem hj]; simp [rd, hj]
            have rp := part_range l ((nds l i).take j)
            have lt : ((nds l i).take j).length ≤ 20 := by simp; omega
            have pre : ∀ K, butlerref11_fates.l2 (K + 1) l C' G' more i true (valu l i + part l ((nds l i).take j)) j = butlerref11_fates.l2 K l C' G' more i (rdOf false C' (rd (nds l i) j)) (wrap64 (valu l i + part l ((nds l i).take j) + rd G' (rd (nds l i) j))) ((j + 1 : Nat) : Int) := fun K => by
              have e : ((rd_T43 l i).f0) = nds l i := rfl
              simp only [butlerref11_fates.l2, e]
              rw [if_pos i0, if_pos hi, if_pos (by omega), if_pos trivial, if_pos (by omega), if_pos m0, if_pos (by omega), if_pos (by omega), wrap_up (show (0 : Int) ≤ j by omega) (by omega)]
              simp
            cases hx : rdOf false C' (rd (nds l i) j) with
            | false =>
              refine Ev.step (fun K => ?_) (lost (wrap64 (valu l i + part l ((nds l i).take j) + rd G' (rd (nds l i) j))) ((j + 1 : Nat) : Int) (fun hR => by have := hR.2.2 _ mem; rw [hx] at this; cases this))
              rw [pre K, hx]
            | true =>
              have hg := (h'.yes _ m0 m1 hx).2
              have fr := fate_range l (rd (nds l i) j)
              have w : wrap64 (valu l i + part l ((nds l i).take j) + rd G' (rd (nds l i) j)) = valu l i + part l ((nds l i).take (j + 1)) := by
                rw [hg, tk, part_snoc]; unfold wrap64; omega
              refine Ev.step (fun K => ?_) (ihd2 (j + 1) (by omega) hc ha (fun m hm => by
                rw [tk] at hm
                simp only [List.mem_append, List.mem_singleton] at hm
                rcases hm with hm | rfl
                · exact hm2 m hm
                · exact hx))
              rw [pre K, hx, w]
        have j2 : ∀ b : Bool, (b = true → rdOf false C' i = false ∧ act l i = 0) → (b = false → ¬ Ready l C' i) → Ev (fun K => butlerref11_fates.j2 K l C' G' more i b) (cans l, givesOf l) := by
          intro b h1 h2
          cases b with
          | false =>
            refine Ev.step (fun K => ?_) (lost (valu l i) 0 (h2 rfl))
            simp only [butlerref11_fates.j2]; rw [if_pos i0, if_pos hi]; rfl
          | true =>
            have := l2 (nds l i).length 0 (by omega) (h1 rfl).1 (h1 rfl).2 (fun m hm => by simp at hm)
            refine Ev.step (fun K => ?_) this
            simp only [butlerref11_fates.j2]; rw [if_pos i0, if_pos hi]; simp [part]; rfl
        cases hc : rdOf false C' i with
        | true =>
          refine Ev.step (fun K => ?_) (j2 false (fun e => by cases e) (fun _ hR => by have := hR.1; rw [hc] at this; cases this))
          simp only [butlerref11_fates.l1]
          rw [if_pos hi, if_pos i0, if_pos (by omega), if_pos hc]
        | false =>
          refine Ev.step (fun K => ?_) (j2 (act l i == 0) (fun e => ⟨hc, by simpa using e⟩) (fun e hR => by have := hR.2.1; rw [this] at e; cases e))
          simp only [butlerref11_fates.l1]
          rw [if_pos hi, if_pos i0, if_pos (by omega), hc, if_neg (by decide)]; rfl
    have start := pass l.length 0 C G false (by omega) h (by omega) (fun e => by cases e) (fun _ j j0 j1 => by omega)
    have start' : Ev (fun K => butlerref11_fates.l1 K l C G false 0) (cans l, givesOf l) := by simpa only [Int.ofNat_eq_natCast, Int.natCast_zero] using start
    refine Ev.step (f := fun K => butlerref11_fates.l1 K l C G false 0) (fun K => ?_) start'
    rw [butlerref11_fates.l0, if_pos (show true = true from Eq.refl true)]
theorem reffates_ev {l : List S43} (hr : Rgt l) : Ev (fun K => butlerref11_fates.f K l) (cans l, givesOf l) := by
  have few := hr.vld.few
  refine Ev.congr (fun K => ?_) (reffates_l0 hr _ (List.replicate l.length false) (List.replicate l.length 0) ⟨by simp, by simp, fun k _ _ h => (no_rep k h).elim, fun k k0 k1 _ => by simp [rd, List.getD_eq_getElem?_getD, List.getElem?_replicate]; split <;> rfl⟩ rfl)
  unfold butlerref11_fates.f
  rw [if_pos (by omega), if_pos (by omega), if_pos (by omega)]
  simp
theorem refFate_ev (l : List S43) (a : Int) : Ev (fun k => butlerref11_Fate.f k l a) (fateP l a) := by
  unfold butlerref11_Fate.f
  refine Ev.bind (f := fun k t257 => (if t257 = 0 then (if a < 0 then (some (false, 0)) else (if a ≥ (l.length : Int) then (some (false, 0)) else ((butlerref11_fates.f k l).bind fun bt258 => (if 0 ≤ a then (if a < (bt258.1.length : Int) then (if a < (bt258.2.length : Int) then (some (rdOf false bt258.1 a, rd bt258.2 a)) else (none)) else (none)) else (none))))) else (some (false, 0)))) (refRight_ev l) ?_
  unfold fateP
  by_cases h : rightN l = 0
  · simp only [if_pos h]
    by_cases h1 : a < 0
    · simp only [if_pos h1]; rw [if_neg (by omega)]; exact Ev.now _
    · simp only [if_neg h1]
      by_cases h2 : a ≥ (l.length : Int)
      · simp only [if_pos h2]; rw [if_neg (by omega)]; exact Ev.now _
      · simp only [if_neg h2]
        refine Ev.bind (f := fun k (bt258 : List Bool × List Int) => (if 0 ≤ a then (if a < (bt258.1.length : Int) then (if a < (bt258.2.length : Int) then (some (rdOf false bt258.1 a, rd bt258.2 a)) else (none)) else (none)) else (none))) (reffates_ev (rgt_of h).1) ?_
        rw [if_pos (show rightN l = 0 ∧ 0 ≤ a ∧ a < (l.length : Int) from ⟨h, by omega, by omega⟩)]
        refine Ev.congr (fun k => ?_) (Ev.now _)
        simp only [cans_len, givesOf_len]
        rw [if_pos (by omega), if_pos (by omega), if_pos (by omega), rd_cans (by omega) (by omega), rd_gives (by omega) (by omega)]; rfl
  · simp only [if_neg h]; rw [if_neg (fun x => h x.1)]; exact Ev.now _
end Go.Proofs.Ytgahkloigbhgdaa.PR
