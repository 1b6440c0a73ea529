/- The table of what reaches what (butlerlaw11.table), in plain words. Conditions: the recipes' needs are keys. -/
import Derived.Test.YtgahkloigbhgdaaPRx6
import Derived.Test.YtgahkloigbhgdaaRr
namespace Go.Proofs.Ytgahkloigbhgdaa.PR
open Go.RowKit Go.Proofs.YtgahkloigbhgdaaW.PrintWords Go.Proofs.YtgahkloigbhgdaaW.PrintLast Go.Proofs.YtgahkloigbhgdaaW.PrintMore
set_option linter.unusedVariables false
set_option linter.unusedSimpArgs false

/-- By keys below m alone. -/
def Wr (l : List S43) : Nat → Int → Int → Prop
  | 0, i, j => j ∈ nds l i
  | m + 1, i, j => Wr l m i j ∨ (Wr l m i m ∧ Wr l m m j)
theorem Wr.rch {l : List S43} : ∀ {m : Nat} {i j : Int}, Wr l m i j → Rch l i j
  | 0, i, j, h => .one h
  | m + 1, i, j, h => h.elim (Wr.rch (m := m)) fun h => (Wr.rch h.1).trans (Wr.rch h.2)
theorem Wr.up {l : List S43} {m m' : Nat} (hm : m ≤ m') {i j : Int} (h : Wr l m i j) : Wr l m' i j := by
  induction hm with
  | refl => exact h
  | step _ ih => exact .inl ih
theorem Wr.glue {l : List S43} : ∀ (m : Nat) (k : Nat), k < m → ∀ {i j : Int}, Wr l m i k → Wr l m k j → Wr l m i j := by
  intro m
  induction m with
  | zero => intro k hk; omega
  | succ m ih =>
    intro k hk i j h1 h2
    by_cases e : k = m
    · subst e
      have h1' : Wr l k i k := h1.elim id (·.1)
      have h2' : Wr l k k j := h2.elim id (·.2)
      exact .inr ⟨h1', h2'⟩
    · have hk' : k < m := by omega
      rcases h1 with h1 | ⟨h1, h1'⟩ <;> rcases h2 with h2 | ⟨h2, h2'⟩
      · exact .inl (ih k hk' h1 h2)
      · exact .inr ⟨ih k hk' h1 h2, h2'⟩
      · exact .inr ⟨h1, ih k hk' h1' h2⟩
      · exact .inr ⟨h1, h2'⟩
theorem Wr.all {l : List S43} (hv : Vld l) {i j : Int} (h : Rch l i j) : 0 ≤ i → i < (l.length : Int) → Wr l l.length i j := by
  induction h with
  | one h => intro _ _; exact Wr.up (Nat.zero_le _) (show Wr l 0 _ _ from h)
  | @more k m j h _ ih =>
    intro h0 h1
    obtain ⟨m0, m1⟩ := hv.mem h0 h1 h
    have hm : ((m.toNat : Nat) : Int) = m := by omega
    have a : Wr l l.length k m := Wr.up (Nat.zero_le _) (show Wr l 0 _ _ from h)
    have b := ih m0 m1
    rw [← hm] at a b
    exact Wr.glue l.length m.toNat (by omega) a b
theorem Wr.same {l : List S43} {m : Nat} {i : Int} : Wr l (m + 1) i m ↔ Wr l m i m := ⟨fun h => h.elim id (·.1), .inl⟩
theorem Wr.row {l : List S43} {m : Nat} {j : Int} : Wr l (m + 1) m j ↔ Wr l m m j := ⟨fun h => h.elim id (·.2), .inl⟩

/-- A table says this. -/
structure TB (n : Nat) (t : List (List Bool)) (f : Int → Int → Prop) : Prop where
  len : t.length = n
  row : ∀ i, 0 ≤ i → i < (n : Int) → (rd_L5 t i).length = n
  say : ∀ i j, 0 ≤ i → i < (n : Int) → 0 ≤ j → j < (n : Int) → (rdOf false (rd_L5 t i) j = true ↔ f i j)
theorem TB.congr {n : Nat} {t : List (List Bool)} {f g : Int → Int → Prop} (h : TB n t f) (e : ∀ i j, 0 ≤ i → i < (n : Int) → 0 ≤ j → j < (n : Int) → (f i j ↔ g i j)) : TB n t g :=
  ⟨h.len, h.row, fun i j a b c d => (h.say i j a b c d).trans (e i j a b c d)⟩
theorem rdL_set {t : List (List Bool)} {i a : Int} {r : List Bool} (hi : 0 ≤ i) (hl : i < (t.length : Int)) (ha : 0 ≤ a) : rd_L5 (t.set i.toNat r) a = if a = i then r else rd_L5 t a := by
  unfold rd_L5
  rw [List.getD_eq_getElem?_getD, List.getD_eq_getElem?_getD, List.getElem?_set]
  by_cases e : a = i
  · subst e; rw [if_pos rfl, if_pos (by omega), if_pos rfl]; rfl
  · rw [if_neg (by omega), if_neg e]
theorem rdB_set {M : List Bool} {m j : Int} {b : Bool} (hm : 0 ≤ m) (hml : m < (M.length : Int)) (hj : 0 ≤ j) : rdOf false (M.set m.toNat b) j = if j = m then b else rdOf false M j := by
  unfold rdOf
  rw [List.getD_eq_getElem?_getD, List.getD_eq_getElem?_getD, List.getElem?_set]
  by_cases e : j = m
  · subst e; rw [if_pos rfl, if_pos (by omega), if_pos rfl]; rfl
  · rw [if_neg (by omega), if_neg e]
theorem TB.put {n : Nat} {t : List (List Bool)} {f : Int → Int → Prop} (h : TB n t f) {i k : Int} (i0 : 0 ≤ i) (i1 : i < (n : Int)) (k0 : 0 ≤ k) (k1 : k < (n : Int)) (b : Bool) :
    TB n (t.set i.toNat ((rd_L5 t i).set k.toNat b)) (fun x y => if x = i ∧ y = k then b = true else f x y) := by
  have hr := h.row i i0 i1
  have hl := h.len
  refine ⟨by simp [hl], fun x a c => ?_, fun x y a c d e => ?_⟩
  · rw [rdL_set i0 (by omega) a]
    split
    · simp [hr]
    · exact h.row x a c
  · rw [rdL_set i0 (by omega) a]
    by_cases ex : x = i
    · subst ex
      rw [if_pos rfl, rdB_set k0 (by omega) d]
      by_cases ey : y = k
      · rw [if_pos ey, if_pos ⟨rfl, ey⟩]
      · rw [if_neg ey, if_neg (fun z => ey z.2)]; exact h.say x y a c d e
    · rw [if_neg ex, if_neg (fun z => ex z.1)]; exact h.say x y a c d e

/-- The table under way: round m, row i, column k. -/
def Mid (l : List S43) (m : Nat) (i k : Int) (a b : Int) : Prop := if a < i then Wr l (m + 1) a b else if a = i then (if b < k then Wr l (m + 1) a b else Wr l m a b) else Wr l m a b
theorem Mid.head {l : List S43} {m : Nat} {a b : Int} : Mid l m 0 0 a b ↔ (if a < 0 ∨ (a = 0 ∧ b < 0) then Wr l (m + 1) a b else Wr l m a b) := by
  unfold Mid
  by_cases h : a < 0
  · rw [if_pos h, if_pos (.inl h)]
  · rw [if_neg h]
    by_cases h2 : a = 0
    · rw [if_pos h2]
      by_cases h3 : b < 0
      · rw [if_pos h3, if_pos (.inr ⟨h2, h3⟩)]
      · rw [if_neg h3, if_neg (by omega)]
    · rw [if_neg h2, if_neg (by omega)]

section
variable {l : List S43} (hv : Vld l)
include hv
theorem table_l4 (m : Nat) (hm : m < l.length) {F : List (List Bool) → Prop}
    (i : Int) (i0 : 0 ≤ i) (i1 : i < (l.length : Int)) (hnext : ∀ t, TB l.length t (Mid l m (i + 1) 0) → ∃ r, F r ∧ Ev (fun k => butlerlaw11_table.l3 k l t m (i + 1)) r) :
    ∀ (d : Nat) (k : Int) (t : List (List Bool)), 0 ≤ k → (l.length : Int) - k = d → TB l.length t (Mid l m i k) → ∃ r, F r ∧ Ev (fun K => butlerlaw11_table.l4 K l t m i k) r := by
  have few := hv.few
  intro d
  induction d with
  | zero =>
    intro k t k0 hd ht
    obtain ⟨r, hF, hr⟩ := hnext t (ht.congr (fun a b a0 a1 b0 b1 => by
      unfold Mid
      by_cases e : a < i
      · rw [if_pos e, if_pos (by omega)]
      · rw [if_neg e]
        by_cases e2 : a = i
        · rw [if_pos e2, if_pos (by omega), if_pos (by omega)]
        · rw [if_neg e2, if_neg (by omega)]
          by_cases e3 : a = i + 1
          · rw [if_pos e3, if_neg (by omega)]
          · rw [if_neg e3]))
    refine ⟨r, hF, Ev.step (f := fun K => butlerlaw11_table.l3 K l t m (i + 1)) (fun K => ?_) hr⟩
    simp only [butlerlaw11_table.l4]
    rw [if_neg (by omega), wrap_up i0 (by omega)]
  | succ d ih =>
    intro k t k0 hd ht
    have hl := ht.len
    have hri := ht.row i i0 i1
    have hrm := ht.row m (by omega) (by omega)
    have sm : rdOf false (rd_L5 t i) m = true ↔ Wr l m i m := (ht.say i m i0 i1 (by omega) (by omega)).trans (by
      unfold Mid
      rw [if_neg (by omega), if_pos rfl]
      split
      · exact Wr.same
      · exact Iff.rfl)
    have sk : rdOf false (rd_L5 t i) k = true ↔ Wr l m i k := (ht.say i k i0 i1 k0 (by omega)).trans (by unfold Mid; rw [if_neg (by omega), if_pos rfl, if_neg (by omega)])
    have smk : rdOf false (rd_L5 t m) k = true ↔ Wr l m m k := (ht.say m k (by omega) (by omega) k0 (by omega)).trans (by
      unfold Mid
      split
      · exact Wr.row
      · split
        · split
          · exact Wr.row
          · exact Iff.rfl
        · exact Iff.rfl)
    have go : ∀ b : Bool, Wr l m i m → (b = true ↔ Wr l (m + 1) i k) → TB l.length (t.set i.toNat ((rd_L5 t i).set k.toNat b)) (Mid l m i (k + 1)) := fun b hw hb => (ht.put i0 i1 k0 (by omega) b).congr (fun x y x0 x1 y0 y1 => by
      by_cases e : x = i ∧ y = k
      · obtain ⟨rfl, rfl⟩ := e
        rw [if_pos ⟨rfl, rfl⟩]
        unfold Mid
        rw [if_neg (by omega), if_pos rfl, if_pos (by omega)]
        exact hb
      · rw [if_neg e]
        unfold Mid
        by_cases e1 : x < i
        · rw [if_pos e1, if_pos e1]
        · rw [if_neg e1, if_neg e1]
          by_cases e2 : x = i
          · rw [if_pos e2, if_pos e2]
            by_cases e3 : y < k
            · rw [if_pos e3, if_pos (by omega)]
            · rw [if_neg e3, if_neg (fun h => e ⟨e2, by omega⟩)]
          · rw [if_neg e2, if_neg e2])
    by_cases c1 : rdOf false (rd_L5 t i) m = true
    · have w1 := sm.1 c1
      by_cases c2 : rdOf false (rd_L5 t i) k = true
      · obtain ⟨r, hF, hr⟩ := ih (k + 1) _ (by omega) (by omega) (go true w1 ⟨fun _ => .inl (sk.1 c2), fun _ => rfl⟩)
        refine ⟨r, hF, Ev.step (fun K => ?_) hr⟩
        simp only [butlerlaw11_table.l4]
        rw [if_pos (show k < (l.length : Int) by omega), if_pos i0, if_pos (show i < (t.length : Int) by omega), if_pos (show (0 : Int) ≤ m by omega), if_pos (show (m : Int) < ((rd_L5 t i).length : Int) by omega), if_pos c1, if_pos k0, if_pos (show k < ((rd_L5 t i).length : Int) by omega), if_pos c2, wrap_up k0 (by omega)]
      · obtain ⟨r, hF, hr⟩ := ih (k + 1) _ (by omega) (by omega) (go (rdOf false (rd_L5 t m) k) w1 (by
          rw [smk]
          exact ⟨fun h => .inr ⟨w1, h⟩, fun h => h.elim (fun h => absurd (sk.2 h) c2) (·.2)⟩))
        refine ⟨r, hF, Ev.step (fun K => ?_) hr⟩
        simp only [butlerlaw11_table.l4]
        rw [if_pos (show k < (l.length : Int) by omega), if_pos i0, if_pos (show i < (t.length : Int) by omega), if_pos (show (0 : Int) ≤ m by omega), if_pos (show (m : Int) < ((rd_L5 t i).length : Int) by omega), if_pos c1, if_pos k0, if_pos (show k < ((rd_L5 t i).length : Int) by omega), if_neg c2,
          if_pos (show (m : Int) < (t.length : Int) by omega), if_pos (show k < ((rd_L5 t m).length : Int) by omega), wrap_up k0 (by omega)]
    · have w1 : ¬ Wr l m i m := fun h => c1 (sm.2 h)
      obtain ⟨r, hF, hr⟩ := hnext t (ht.congr (fun a b a0 a1 b0 b1 => by
        unfold Mid
        by_cases e : a < i
        · rw [if_pos e, if_pos (by omega)]
        · rw [if_neg e]
          by_cases e2 : a = i
          · subst e2
            have : Wr l (m + 1) a b ↔ Wr l m a b := ⟨fun h => h.elim id (fun h => absurd h.1 w1), .inl⟩
            rw [if_pos rfl, if_pos (show a < a + 1 by omega), this]
            split <;> exact Iff.rfl
          · rw [if_neg e2, if_neg (by omega)]
            by_cases e3 : a = i + 1
            · rw [if_pos e3, if_neg (by omega)]
            · rw [if_neg e3]))
      refine ⟨r, hF, Ev.step (f := fun K => butlerlaw11_table.l3 K l t m (i + 1)) (fun K => ?_) hr⟩
      simp only [butlerlaw11_table.l4]
      rw [if_pos (show k < (l.length : Int) by omega), if_pos i0, if_pos (show i < (t.length : Int) by omega), if_pos (show (0 : Int) ≤ m by omega), if_pos (show (m : Int) < ((rd_L5 t i).length : Int) by omega), if_neg c1, wrap_up i0 (by omega)]
theorem table_l3 (m : Nat) (hm : m < l.length) {F : List (List Bool) → Prop}
    (hnext : ∀ t, TB l.length t (Wr l (m + 1)) → ∃ r, F r ∧ Ev (fun k => butlerlaw11_table.l2 k l t ((m + 1 : Nat) : Int)) r) :
    ∀ (d : Nat) (i : Int) (t : List (List Bool)), 0 ≤ i → (l.length : Int) - i = d → TB l.length t (Mid l m i 0) → ∃ r, F r ∧ Ev (fun K => butlerlaw11_table.l3 K l t m i) r := by
  have few := hv.few
  intro d
  induction d with
  | zero =>
    intro i t i0 hd ht
    obtain ⟨r, hF, hr⟩ := hnext t (ht.congr (fun a b a0 a1 b0 b1 => by unfold Mid; rw [if_pos (by omega)]))
    refine ⟨r, hF, Ev.step (f := fun K => butlerlaw11_table.l2 K l t ((m + 1 : Nat) : Int)) (fun K => ?_) hr⟩
    simp only [butlerlaw11_table.l3]
    rw [if_neg (by omega), wrap_up (by omega) (by omega)]; rfl
  | succ d ih =>
    intro i t i0 hd ht
    obtain ⟨r, hF, hr⟩ := table_l4 hv m hm i i0 (by omega) (fun t' ht' => ih (i + 1) t' (by omega) (by omega) ht') l.length 0 t (by omega) (by omega) ht
    refine ⟨r, hF, Ev.step (f := fun K => butlerlaw11_table.l4 K l t m i 0) (fun K => ?_) hr⟩
    simp only [butlerlaw11_table.l3]
    rw [if_pos (by omega)]
theorem table_l2 : ∀ (d m : Nat) (t : List (List Bool)), m + d = l.length → TB l.length t (Wr l m) → ∃ r, TB l.length r (Wr l l.length) ∧ Ev (fun K => butlerlaw11_table.l2 K l t m) r := by
  have few := hv.few
  intro d
  induction d with
  | zero =>
    intro m t hd ht
    obtain rfl : m = l.length := by omega
    refine ⟨t, ht, Ev.step (f := fun _ => some t) (fun K => ?_) (Ev.now _)⟩
    simp only [butlerlaw11_table.l2]
    rw [if_neg (by omega)]
  | succ d ih =>
    intro m t hd ht
    obtain ⟨r, hF, hr⟩ := table_l3 hv m (by omega) (F := fun r => TB l.length r (Wr l l.length)) (fun t' ht' => ih (m + 1) t' (by omega) ht') l.length 0 t (by omega) (by omega)
      (ht.congr (fun a b a0 a1 b0 b1 => by rw [Mid.head, if_neg (by omega)]))
    refine ⟨r, hF, Ev.step (f := fun K => butlerlaw11_table.l3 K l t m 0) (fun K => ?_) hr⟩
    simp only [butlerlaw11_table.l2]
    rw [if_pos (by omega)]
/-- Rows below i stand; row i has its needs below j. -/
structure RB (l : List S43) (i : Nat) (t : List (List Bool)) : Prop where
  len : t.length = i
  row : ∀ a, 0 ≤ a → a < (i : Int) → (rd_L5 t a).length = l.length
  say : ∀ a b, 0 ≤ a → a < (i : Int) → 0 ≤ b → b < (l.length : Int) → (rdOf false (rd_L5 t a) b = true ↔ b ∈ nds l a)
theorem table_l1 (i : Nat) (hi : i < l.length) (t : List (List Bool)) (ht : RB l i t) {F : List (List Bool) → Prop}
    (hnext : ∀ t, RB l (i + 1) t → ∃ r, F r ∧ Ev (fun k => butlerlaw11_table.l0 k l t ((i + 1 : Nat) : Int)) r) :
    ∀ (d : Nat) (j : Int) (x : List Bool), 0 ≤ j → ((nds l i).length : Int) - j = d → x.length = l.length → (∀ b, 0 ≤ b → b < (l.length : Int) → (rdOf false x b = true ↔ ∃ j', 0 ≤ j' ∧ j' < j ∧ rd (nds l i) j' = b)) →
    ∃ r, F r ∧ Ev (fun K => butlerlaw11_table.l1 K l t i x j) r := by
  have few := hv.few
  have h20 := hv.each i (by omega) (by omega)
  intro d
  induction d with
  | zero =>
    intro j x j0 hd hx hs
    have rdl : ∀ a, 0 ≤ a → rd_L5 (t ++ [x]) a = if a < (i : Int) then rd_L5 t a else if a = i then x else [] := fun a a0 => by
      unfold rd_L5
      have := ht.len
      by_cases e : a < (i : Int)
      · rw [if_pos e, List.getD_eq_getElem?_getD, List.getD_eq_getElem?_getD, List.getElem?_append_left (by omega)]
      · rw [if_neg e, List.getD_eq_getElem?_getD, List.getElem?_append_right (by omega)]
        by_cases e2 : a = i
        · rw [if_pos e2, show a.toNat - t.length = 0 by omega]; rfl
        · rw [if_neg e2, List.getElem?_eq_none (by simp; omega)]; rfl
    obtain ⟨r, hF, hr⟩ := hnext (t ++ [x]) ⟨by simp [ht.len], fun a a0 a1 => by
        rw [rdl a a0]
        split
        · exact ht.row a a0 (by omega)
        · rw [if_pos (by omega)]; exact hx, fun a b a0 a1 b0 b1 => by
        rw [rdl a a0]
        split
        · exact ht.say a b a0 (by omega) b0 b1
        · obtain rfl : a = i := by omega
          rw [if_pos rfl, hs b b0 b1]
          constructor
          · rintro ⟨j', c, e, rfl⟩; exact rd_mem c (by omega)
          · intro h; obtain ⟨j', c, e, f⟩ := mem_rd h; exact ⟨j', c, by omega, f⟩⟩
    refine ⟨r, hF, Ev.step (f := fun K => butlerlaw11_table.l0 K l (t ++ [x]) ((i + 1 : Nat) : Int)) (fun K => ?_) hr⟩
    simp only [butlerlaw11_table.l1]
    have := ht.len
    rw [if_pos (by omega), if_pos (by omega), if_neg (show ¬ j < (((rd_T43 l i).f0).length : Int) by unfold nds at hd; omega), if_pos (by omega), wrap_up (by omega) (by omega)]; rfl
  | succ d ih =>
    intro j x j0 hd hx hs
    obtain ⟨m0, m1⟩ := hv.keys i (by omega) (by omega) j j0 (by omega)
    obtain ⟨r, hF, hr⟩ := ih (j + 1) (x.set (rd (nds l i) j).toNat true) (by omega) (by omega) (by simp [hx]) (fun b b0 b1 => by
      rw [rdB_set m0 (by omega) b0]
      by_cases e : b = rd (nds l i) j
      · rw [if_pos e]; exact ⟨fun _ => ⟨j, j0, by omega, e.symm⟩, fun _ => rfl⟩
      · rw [if_neg e, hs b b0 b1]
        constructor
        · rintro ⟨j', a, c, f⟩; exact ⟨j', a, by omega, f⟩
        · rintro ⟨j', a, c, f⟩
          by_cases ej : j' = j
          · subst ej; exact absurd f.symm e
          · exact ⟨j', a, by omega, f⟩)
    refine ⟨r, hF, Ev.step (f := fun K => butlerlaw11_table.l1 K l t i (x.set (rd (nds l i) j).toNat true) (j + 1)) (fun K => ?_) hr⟩
    simp only [butlerlaw11_table.l1]
    rw [if_pos (by omega), if_pos (by omega), if_pos (show j < (((rd_T43 l i).f0).length : Int) by unfold nds at hd; omega), if_pos j0, if_pos (show 0 ≤ rd (rd_T43 l i).f0 j from m0), if_pos (show rd (rd_T43 l i).f0 j < (x.length : Int) by unfold nds at m1; omega), wrap_up j0 (by omega)]; rfl
theorem table_l0 : ∀ (d i : Nat) (t : List (List Bool)), i + d = l.length → RB l i t → ∃ r, TB l.length r (Wr l l.length) ∧ Ev (fun K => butlerlaw11_table.l0 K l t i) r := by
  have few := hv.few
  intro d
  induction d with
  | zero =>
    intro i t hd ht
    obtain rfl : i = l.length := by omega
    obtain ⟨r, hF, hr⟩ := table_l2 hv l.length 0 t (by omega) ⟨ht.len, ht.row, ht.say⟩
    refine ⟨r, hF, Ev.step (f := fun K => butlerlaw11_table.l2 K l t 0) (fun K => ?_) hr⟩
    simp only [butlerlaw11_table.l0]
    rw [if_neg (by omega)]
  | succ d ih =>
    intro i t hd ht
    obtain ⟨r, hF, hr⟩ := table_l1 hv i (by omega) t ht (fun t' ht' => ih (i + 1) t' (by omega) ht') (nds l i).length 0 (List.replicate l.length false) (by omega) (by omega) (by simp) (fun b b0 b1 => by
      constructor
      · intro h; simp [rdOf, List.getD_eq_getElem?_getD, List.getElem?_replicate] at h; split at h <;> simp at h
      · rintro ⟨j', a, c, _⟩; omega)
    refine ⟨r, hF, Ev.step (f := fun K => butlerlaw11_table.l1 K l t i (List.replicate l.length false) 0) (fun K => ?_) hr⟩
    simp only [butlerlaw11_table.l0]
    rw [if_pos (by omega), if_pos (by omega), if_pos (by omega), Int.toNat_natCast]
/-- What the table says. -/
theorem table_ev : ∃ r, TB l.length r (Rch l) ∧ Ev (fun K => butlerlaw11_table.f K l) r := by
  obtain ⟨r, hF, hr⟩ := table_l0 hv l.length 0 [] (by omega) ⟨rfl, fun a a0 a1 => by omega, fun a b a0 a1 => by omega⟩
  exact ⟨r, hF.congr (fun a b a0 a1 _ _ => ⟨Wr.rch, fun h => Wr.all hv h a0 a1⟩), hr⟩
end
end Go.Proofs.Ytgahkloigbhgdaa.PR
