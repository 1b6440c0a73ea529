/- What the recipes' functions come to, in plain words: which keys reach which. Conditions: none beyond what each statement names. -/
import Derived.Test.YtgahkloigbhgdaaPRx0
namespace Go.Proofs.Ytgahkloigbhgdaa.PR
open Go.RowKit Go.Proofs.YtgahkloigbhgdaaW.PrintWords Go.Proofs.YtgahkloigbhgdaaW.PrintLast Go.Proofs.YtgahkloigbhgdaaW.PrintMore

/-- A key's needs. -/
def nds (l : List S43) (k : Int) : List Int := (rd_T43 l k).f0
/-- Recipes whose needs are keys. -/
structure Vld (l : List S43) : Prop where
  few : l.length ≤ 100
  each : ∀ k, 0 ≤ k → k < (l.length : Int) → (nds l k).length ≤ 20
  keys : ∀ k, 0 ≤ k → k < (l.length : Int) → ∀ i, 0 ≤ i → i < ((nds l k).length : Int) → 0 ≤ rd (nds l k) i ∧ rd (nds l k) i < (l.length : Int)
inductive Rch (l : List S43) : Int → Int → Prop
  | one {k m : Int} : m ∈ nds l k → Rch l k m
  | more {k m j : Int} : m ∈ nds l k → Rch l m j → Rch l k j

theorem mem_rd {xs : List Int} {m : Int} (h : m ∈ xs) : ∃ i : Int, 0 ≤ i ∧ i < (xs.length : Int) ∧ rd xs i = m := by
  obtain ⟨i, hi, rfl⟩ := List.getElem_of_mem h
  exact ⟨i, by omega, by omega, by simp [rd, List.getD_eq_getElem?_getD, List.getElem?_eq_getElem hi]⟩
theorem rd_mem {xs : List Int} {i : Int} (h0 : 0 ≤ i) (h1 : i < (xs.length : Int)) : rd xs i ∈ xs := by
  have hi : i.toNat < xs.length := by omega
  simp [rd, List.getD_eq_getElem?_getD, List.getElem?_eq_getElem hi]
theorem Vld.mem {l : List S43} (h : Vld l) {k m : Int} (h0 : 0 ≤ k) (h1 : k < (l.length : Int)) (hm : m ∈ nds l k) : 0 ≤ m ∧ m < (l.length : Int) := by
  obtain ⟨i, i0, i1, rfl⟩ := mem_rd hm
  exact h.keys k h0 h1 i i0 i1
theorem Rch.snoc {l : List S43} {k m j : Int} (h : Rch l k m) (hj : j ∈ nds l m) : Rch l k j := by
  induction h with
  | one h1 => exact .more h1 (.one hj)
  | more h1 _ ih => exact .more h1 (ih hj)
theorem Rch.trans {l : List S43} {k m j : Int} (h : Rch l k m) (h' : Rch l m j) : Rch l k j := by
  induction h with
  | one h1 => exact .more h1 h'
  | more h1 _ ih => exact .more h1 (ih h')
theorem Rch.range {l : List S43} (hv : Vld l) {k m : Int} (h : Rch l k m) (h0 : 0 ≤ k) (h1 : k < (l.length : Int)) : 0 ≤ m ∧ m < (l.length : Int) := by
  induction h with
  | one h => exact hv.mem h0 h1 h
  | more h _ ih => obtain ⟨a, b⟩ := hv.mem h0 h1 h; exact ih a b

theorem rdOf_set {M : List Bool} {m j : Int} (hm : 0 ≤ m) (hml : m < (M.length : Int)) (hj : 0 ≤ j) : rdOf false (M.set m.toNat true) j = if j = m then true else rdOf false M j := by
  unfold rdOf
  rw [List.getD_eq_getElem?_getD, List.getD_eq_getElem?_getD, List.getElem?_set]
  by_cases e : j = m
  · subst e; rw [if_pos rfl, if_pos (by omega), if_pos rfl]; rfl
  · rw [if_neg (by omega), if_neg e]

/-- The look for what a key reaches, under way. -/
structure RI (l : List S43) (key k : Int) (M : List Bool) (T : Int → Prop) (i : Int) : Prop where
  len : M.length = l.length
  k0 : 0 ≤ k
  k1 : k < (l.length : Int)
  kin : k = key ∨ Rch l key k
  tin : ∀ m, T m → 0 ≤ m ∧ m < (l.length : Int) ∧ rdOf false M m = true
  sound : ∀ m, 0 ≤ m → m < (l.length : Int) → rdOf false M m = true → Rch l key m
  closed : ∀ m, 0 ≤ m → m < (l.length : Int) → (m = key ∨ rdOf false M m = true) → m = k ∨ T m ∨ ∀ j, j ∈ nds l m → rdOf false M j = true
  part : ∀ i', 0 ≤ i' → i' < i → rdOf false M (rd (nds l k) i') = true

theorem RI.start {l : List S43} {key : Int} (h0 : 0 ≤ key) (h1 : key < (l.length : Int)) {T : Int → Prop} (hT : ∀ m, ¬ T m) : RI l key key (List.replicate l.length false) T 0 where
  len := by simp
  k0 := h0
  k1 := h1
  kin := .inl rfl
  tin := fun m h => (hT m h).elim
  sound := fun m h0 h1 h => by simp [rdOf, List.getD_eq_getElem?_getD, List.getElem?_replicate] at h; split at h <;> simp at h
  closed := fun m h0 h1 h => h.elim .inl fun h => by simp [rdOf, List.getD_eq_getElem?_getD, List.getElem?_replicate] at h; split at h <;> simp at h
  part := fun i h0 h1 => by omega

theorem RI.skip {l : List S43} {key k : Int} {M : List Bool} {T : Int → Prop} {i : Int} (h : RI l key k M T i) (hm : rdOf false M (rd (nds l k) i) = true) : RI l key k M T (i + 1) :=
  ⟨h.len, h.k0, h.k1, h.kin, h.tin, h.sound, h.closed, fun i' h0 h1 => by
    by_cases e : i' = i
    · subst e; exact hm
    · exact h.part i' h0 (by omega)⟩

theorem RI.mark {l : List S43} (hv : Vld l) {key k : Int} {M : List Bool} {T T' : Int → Prop} {i : Int} (h : RI l key k M T i) (hi : 0 ≤ i) (hi' : i < ((nds l k).length : Int)) (hT : ∀ m, T' m ↔ m = rd (nds l k) i ∨ T m) :
    RI l key k (M.set (rd (nds l k) i).toNat true) T' (i + 1) := by
  obtain ⟨m0, m1⟩ := hv.keys k h.k0 h.k1 i hi hi'
  have hmem := rd_mem hi hi'
  have hrd : ∀ j, 0 ≤ j → rdOf false (M.set (rd (nds l k) i).toNat true) j = if j = rd (nds l k) i then true else rdOf false M j := fun j hj => rdOf_set m0 (by rw [h.len]; exact m1) hj
  have up : ∀ j, 0 ≤ j → rdOf false M j = true → rdOf false (M.set (rd (nds l k) i).toNat true) j = true := fun j hj hm => by rw [hrd j hj]; split <;> simp [hm]
  refine ⟨by simp [h.len], h.k0, h.k1, h.kin, fun m hm => ?_, fun m h0 h1 hm => ?_, fun m h0 h1 hm => ?_, fun i' h0 h1 => ?_⟩
  · rcases (hT m).1 hm with rfl | hm
    · exact ⟨m0, m1, by rw [hrd _ m0, if_pos rfl]⟩
    · obtain ⟨a, b, c⟩ := h.tin m hm
      exact ⟨a, b, up m a c⟩
  · rw [hrd m h0] at hm
    split at hm
    · rename_i e; subst e
      rcases h.kin with e | e
      · rw [← e]; exact .one hmem
      · exact e.snoc hmem
    · exact h.sound m h0 h1 hm
  · have hm' : m = rd (nds l k) i ∨ (m = key ∨ rdOf false M m = true) := by
      rcases hm with hm | hm
      · exact .inr (.inl hm)
      · rw [hrd m h0] at hm
        split at hm
        · rename_i e; exact .inl e
        · exact .inr (.inr hm)
    rcases hm' with e | hm'
    · exact .inr (.inl ((hT m).2 (.inl e)))
    · rcases h.closed m h0 h1 hm' with e | e | e
      · exact .inl e
      · exact .inr (.inl ((hT m).2 (.inr e)))
      · exact .inr (.inr fun j hj => up j (hv.mem h0 h1 hj).1 (e j hj))
  · by_cases e : i' = i
    · subst e; rw [hrd _ m0, if_pos rfl]
    · have := h.part i' h0 (by omega)
      exact up _ (hv.keys k h.k0 h.k1 i' h0 (by omega)).1 this

theorem RI.next {l : List S43} {key k x : Int} {M : List Bool} {T T' : Int → Prop} {i : Int} (h : RI l key k M T i) (hi : ((nds l k).length : Int) ≤ i) (hx : T x) (hT : ∀ m, T' m ↔ m ≠ x ∧ T m) : RI l key x M T' 0 := by
  obtain ⟨x0, x1, xm⟩ := h.tin x hx
  refine ⟨h.len, x0, x1, .inr (h.sound x x0 x1 xm), fun m hm => h.tin m ((hT m).1 hm).2, h.sound, fun m h0 h1 hm => ?_, fun i' a b => by omega⟩
  rcases h.closed m h0 h1 hm with rfl | e | e
  · by_cases ex : m = x
    · exact .inl ex
    · refine .inr (.inr fun j hj => ?_)
      obtain ⟨i', a, b, rfl⟩ := mem_rd hj
      exact h.part i' a (by omega)
  · by_cases ex : m = x
    · exact .inl ex
    · exact .inr (.inl ((hT m).2 ⟨ex, e⟩))
  · exact .inr (.inr e)

theorem RI.done {l : List S43} (hv : Vld l) {key k : Int} {M : List Bool} {T : Int → Prop} {i : Int} (h : RI l key k M T i) (hi : ((nds l k).length : Int) ≤ i) (hT : ∀ m, ¬ T m) (h0 : 0 ≤ key) (h1 : key < (l.length : Int)) :
    rdOf false M key = true ↔ Rch l key key := by
  have cl : ∀ m, 0 ≤ m → m < (l.length : Int) → (m = key ∨ rdOf false M m = true) → ∀ j, j ∈ nds l m → rdOf false M j = true := by
    intro m a b hm j hj
    rcases h.closed m a b hm with rfl | e | e
    · obtain ⟨i', c, d, rfl⟩ := mem_rd hj
      exact h.part i' c (by omega)
    · exact (hT m e).elim
    · exact e j hj
  have go : ∀ a b, Rch l a b → 0 ≤ a → a < (l.length : Int) → (a = key ∨ rdOf false M a = true) → rdOf false M b = true := by
    intro a b hab
    induction hab with
    | one hm => intro a0 a1 ha; exact cl _ a0 a1 ha _ hm
    | more hm _ ih => intro a0 a1 ha; obtain ⟨m0, m1⟩ := hv.mem a0 a1 hm; exact ih m0 m1 (.inr (cl _ a0 a1 ha _ hm))
  exact ⟨h.sound key h0 h1, fun hr => go key key hr h0 h1 (.inl rfl)⟩

/-- How many are not yet marked. -/
def unm (M : List Bool) : Nat := M.countP (· == false)
theorem unm_set {M : List Bool} {j : Nat} (h : j < M.length) (hf : M.getD j false = false) : unm (M.set j true) + 1 = unm M := by
  induction M generalizing j with
  | nil => simp at h
  | cons b M ih =>
    cases j with
    | zero =>
      simp at hf; subst hf
      simp [unm]
    | succ j =>
      have := ih (j := j) (by simpa using h) (by simpa using hf)
      simp only [unm, List.set_cons_succ, List.countP_cons] at this ⊢
      omega
theorem unm_le (M : List Bool) : unm M ≤ M.length := List.countP_le_length
end Go.Proofs.Ytgahkloigbhgdaa.PR
