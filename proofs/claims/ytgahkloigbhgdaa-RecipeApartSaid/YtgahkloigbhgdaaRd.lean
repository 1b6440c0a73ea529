/- RecipeApart, in plain words: recipes that a key does not reach may be any. Conditions: the recipes are right. -/
import Derived.Test.YtgahkloigbhgdaaRz
namespace Go.Proofs.Ytgahkloigbhgdaa.PR
open Go.RowKit Go.Proofs.YtgahkloigbhgdaaW.PrintWords Go.Proofs.YtgahkloigbhgdaaW.PrintLast Go.Proofs.YtgahkloigbhgdaaW.PrintMore
set_option linter.unusedVariables false
set_option linter.unusedSimpArgs false

theorem and3 (n : Int) : Go.bits .and .i64 n 3 = n % 4 := by
  have hk : (BitVec.ofInt 64 3).toNat = 2 ^ 2 - 1 := by decide
  have key : (BitVec.ofInt 64 n &&& BitVec.ofInt 64 3).toNat = (n % ((2 ^ 64 : Nat) : Int)).toNat % 2 ^ 2 := by
    rw [BitVec.toNat_and, BitVec.toNat_ofInt, hk, Nat.and_two_pow_sub_one_eq_mod]
  show IntKind.i64.wrap ((BitVec.ofInt 64 n &&& BitVec.ofInt 64 3).toNat : Nat) = n % 4
  rw [key, IntKind.wrap_i64]
  omega
theorem and511 (n : Int) : Go.bits .and .i64 n 511 = n % 512 := by
  have hk : (BitVec.ofInt 64 511).toNat = 2 ^ 9 - 1 := by decide
  have key : (BitVec.ofInt 64 n &&& BitVec.ofInt 64 511).toNat = (n % ((2 ^ 64 : Nat) : Int)).toNat % 2 ^ 9 := by
    rw [BitVec.toNat_and, BitVec.toNat_ofInt, hk, Nat.and_two_pow_sub_one_eq_mod]
  show IntKind.i64.wrap ((BitVec.ofInt 64 n &&& BitVec.ofInt 64 511).toNat : Nat) = n % 512
  rw [key, IntKind.wrap_i64]
  omega

/-- The number that is drawn for key i. -/
def rawAt (raw : List Int) (i : Int) : Int := if i < (raw.length : Int) then rd raw i else 0
/-- Key i's recipe, changed. -/
def chg (x : S43) (n i : Int) : S43 := ⟨if Go.bits .and .i64 n 4 = 4 then [i] else x.f0, x.f1, Int.tmod (Go.bits .and .i64 n 3) 3, Go.bits .and .i64 n 511, x.f4⟩
open Classical in
noncomputable def apx (l : List S43) (key : Int) (raw : List Int) (i : Int) : S43 := if i ≠ key ∧ ¬ Rch l key i then chg (rd_T43 l i) (rawAt raw i) i else rd_T43 l i
noncomputable def apm (l : List S43) (key : Int) (raw : List Int) : Nat → List S43
  | 0 => []
  | i + 1 => apm l key raw i ++ [apx l key raw i]
theorem apm_len (l : List S43) (key : Int) (raw : List Int) : ∀ i, (apm l key raw i).length = i
  | 0 => rfl
  | i + 1 => by simp [apm, apm_len l key raw i]
theorem apm_at (l : List S43) (key : Int) (raw : List Int) : ∀ (n : Nat) (k : Int), 0 ≤ k → k < (n : Int) → rd_T43 (apm l key raw n) k = apx l key raw k := by
  intro n
  induction n with
  | zero => intro k a b; omega
  | succ n ih =>
    intro k k0 k1
    have ln := apm_len l key raw n
    by_cases e : k < (n : Int)
    · rw [← ih k k0 e]
      unfold rd_T43
      simp only [apm, List.getD_eq_getElem?_getD]
      rw [List.getElem?_append_left (by omega)]
    · obtain rfl : k = n := by omega
      simp [rd_T43, apm, List.getD_eq_getElem?_getD, ln]
section
variable {l : List S43} (hr : rightN l = 0) (key : Int) (raw : List Int)
theorem ap_same {k : Int} (k0 : 0 ≤ k) (k1 : k < (l.length : Int)) (h : k = key ∨ Rch l key k) : rd_T43 (apm l key raw l.length) k = rd_T43 l k := by
  rw [apm_at l key raw l.length k k0 k1]
  unfold apx
  rw [if_neg]
  rintro ⟨a, b⟩
  exact h.elim a b
theorem ap_lev {k : Int} (k0 : 0 ≤ k) (k1 : k < (l.length : Int)) : lev (apm l key raw l.length) k = lev l k := by
  unfold lev
  rw [apm_at l key raw l.length k k0 k1]
  unfold apx
  split <;> rfl
include hr
theorem ap_right : rightN (apm l key raw l.length) = 0 := by
  obtain ⟨hL, hp, ha⟩ := rightN_zero.1 hr
  have hlen := apm_len l key raw l.length
  have needs : ∀ k, 0 ≤ k → k < (l.length : Int) → nds (apm l key raw l.length) k = nds l k ∨ nds (apm l key raw l.length) k = [k] := by
    intro k k0 k1
    unfold nds
    rw [apm_at l key raw l.length k k0 k1]
    unfold apx
    split
    · unfold chg
      split
      · exact .inr rfl
      · exact .inl rfl
    · exact .inl rfl
  refine rightN_zero.2 ⟨?_, by omega, fun k k0 k1 => ?_⟩
  · rintro (h | ⟨k, k0, k1, h⟩)
    · exact hL (.inl (by omega))
    · rw [hlen] at k1
      rcases needs k k0 k1 with e | e
      · exact hL (.inr ⟨k, k0, k1, by rw [e] at h; exact h⟩)
      · rw [e] at h; simp at h
  · rw [hlen] at k1
    obtain ⟨hn, hs⟩ := ha k k0 k1
    refine ⟨fun j j0 j1 => ?_, ?_⟩
    · unfold NeedOk
      rw [hlen]
      rcases needs k k0 k1 with e | e
      · rw [e] at j1 ⊢
        obtain ⟨a, b, c⟩ := hn j j0 j1
        rw [ap_lev key raw a b, ap_lev key raw k0 k1]
        exact ⟨a, b, c⟩
      · rw [e] at j1 ⊢
        simp at j1
        obtain rfl : j = 0 := by omega
        exact ⟨k0, k1, Int.le_refl _⟩
    · unfold SelfOk at hs ⊢
      rw [ap_lev key raw k0 k1]
      have e : rd_T43 (apm l key raw l.length) k = apx l key raw k := apm_at l key raw l.length k k0 k1
      unfold act fin' valu at hs ⊢
      rw [e]
      unfold apx
      split
      · unfold chg
        simp only [and3, and511]
        generalize rawAt raw k = n
        have : Int.tmod (n % 4) 3 = (n % 4) % 3 := Int.tmod_eq_emod_of_nonneg (by omega)
        rw [this]
        omega
      · exact hs
theorem ap_gv (k0 : 0 ≤ key) (k1 : key < (l.length : Int)) : ∀ (n : Nat) (k : Int), (k = key ∨ Rch l key k) → gv (apm l key raw l.length) n k = gv l n k := by
  have hv := (rgt_of hr).1.vld
  have rng : ∀ k, (k = key ∨ Rch l key k) → 0 ≤ k ∧ k < (l.length : Int) := by
    rintro k (rfl | h)
    · exact ⟨k0, k1⟩
    · exact rch_range hv h k0 k1
  intro n
  induction n with
  | zero => intro k _; rfl
  | succ n ih =>
    intro k hk
    obtain ⟨a, b⟩ := rng k hk
    have e := ap_same key raw a b hk
    have g : ∀ ms : List Int, (∀ m ∈ ms, m = key ∨ Rch l key m) → gsum (gv (apm l key raw l.length) n) ms = gsum (gv l n) ms := by
      intro ms
      induction ms with
      | nil => intro _; rfl
      | cons m ms ihm =>
        intro hm
        simp only [gsum]
        rw [ih m (hm m (by simp)), ihm fun x hx => hm x (by simp [hx])]
    simp only [gv, act, valu, nds, e]
    rw [g _ (fun m hm => by
      have hm' : m ∈ nds l k := hm
      rcases hk with rfl | h
      · exact .inr (.one hm')
      · exact .inr (h.trans (.one hm')))]
    rfl
theorem ap_fate (k0 : 0 ≤ key) (k1 : key < (l.length : Int)) : fateP (apm l key raw l.length) key = fateP l key := by
  have hlen := apm_len l key raw l.length
  have hr' := ap_right hr key raw
  have hg := ap_gv hr key raw k0 k1
  unfold fateP
  rw [if_pos ⟨hr', k0, by omega⟩, if_pos ⟨hr, k0, k1⟩]
  by_cases hc : Can l key
  · obtain ⟨n, v, h⟩ := hc
    rw [fate_of h, fate_of (l := apm l key raw l.length) (n := n) (v := v) (by rw [hg n key (.inl rfl)]; exact h)]
  · rw [fate_not hc, fate_not (l := apm l key raw l.length) (fun ⟨n, v, h⟩ => hc ⟨n, v, by rw [← hg n key (.inl rfl)]; exact h⟩)]
end
end Go.Proofs.Ytgahkloigbhgdaa.PR
